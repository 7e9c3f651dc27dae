/-
  What the walk is told of this program's struct and array types: a whole one loaded, stored, made.
-/
import Derived.Test.YtnpeeephkkmomaaProg
import Derived.Test.YtnpeeephkkmomaaDkm
namespace Go.Proofs.Ytnpeeephkkmomaa
open Go.RowKit

theorem info84 : (Try.prog.info? 84).map (·.size) = some 4 := by kernel_rfl
theorem info87 : (Try.prog.info? 87).map (·.size) = some 64 := by kernel_rfl
theorem info89 : (Try.prog.info? 89).map (·.size) = some 65 := by kernel_rfl
def zc87' : Array Value := (List.replicate 64 (Value.int .u8 0)).toArray
theorem zc87_size : zc87'.size = 64 := by kernel_rfl
theorem zero87 : (Try.prog.info? 87).bind (·.zero) = some (.agg zc87') := by kernel_rfl
theorem zc89_size : Try.zeroCells89.size = 65 := by kernel_rfl
theorem zc89 : Try.zeroCells89 = (Value.int .i64 0 :: List.replicate 64 (Value.int .u8 0)).toArray := by kernel_rfl
theorem zc87_one : oneCells zc87' := by
  intro v hv; rw [List.eq_of_mem_replicate hv]; rfl
theorem zc89_one : oneCells Try.zeroCells89 := by
  rw [zc89]; intro v hv
  simp only [List.mem_cons] at hv
  rcases hv with rfl | hv
  · rfl
  · rw [List.eq_of_mem_replicate hv]; rfl
theorem zero89 : (Try.prog.info? 89).bind (·.zero) = some (.agg Try.zeroCells89) := by kernel_rfl
def W89 (i : Int) : Array Value := (Value.int .i64 i :: List.replicate 64 (Value.int .u8 0)).toArray
theorem W89_size (i : Int) : (W89 i).size = 65 := by simp [W89]
theorem W89_one (i : Int) : oneCells (W89 i) := by
  intro v hv
  simp only [W89, List.mem_cons] at hv
  rcases hv with rfl | hv
  · rfl
  · rw [List.eq_of_mem_replicate hv]; rfl
theorem zc89_set (i : Int) : Try.zeroCells89.setIfInBounds 0 (.int .i64 i) = W89 i := by rw [zc89]; rfl
theorem u82 : Try.prog.underlying 82 = some (.slice 89) := Try.underlying82
theorem u81 : Try.prog.underlying 81 = some (.slice 87) := Try.underlying81

section
variable (w : World) (g o : Nat) (vs : Array Value) (ρ : Operand → Value) (d : Option Tmp) (x y : Operand) (ty : TypeId) (p : String) (af : Array Edge) (gd : Option (Nat × Bool))
theorem xld84 : (execOp ρ ⟨d, .load 84 x, ty, p, af, gd⟩).run Try.prog w = ldRec Try.prog 84 (ρ x) w := rfl
theorem xst84 : (execOp ρ ⟨d, .store 84 x y, ty, p, af, gd⟩).run Try.prog w = stRec Try.prog 84 (ρ x) (ρ y) w := rfl
theorem ld84 (h1 : isRow w.heap[g]? = true) (h2 : o + 4 ≤ (cellsOf w.heap[g]?).size) : ldRec Try.prog 84 (.pointer (some ⟨g, o, none⟩)) w = .ok (.value (.agg (sub (cellsOf w.heap[g]?) o 4))) w :=
  ldRec_go 84 _ 4 Try.underlying84 rfl info84 w g o h1 h2
theorem st84 (h1 : isFree w.heap[g]? = true) (h2 : o + 4 ≤ (cellsOf w.heap[g]?).size) (h3 : vs.size = 4) (h4 : oneCells vs) :
    stRec Try.prog 84 (.pointer (some ⟨g, o, none⟩)) (.agg vs) w = .ok .skip (w.setRow g (splice (cellsOf w.heap[g]?) o vs.toList)) := stRec_go 84 4 info84 w g o vs h1 h2 h3 h4
theorem xld87 : (execOp ρ ⟨d, .load 87 x, ty, p, af, gd⟩).run Try.prog w = ldRec Try.prog 87 (ρ x) w := rfl
theorem xst87 : (execOp ρ ⟨d, .store 87 x y, ty, p, af, gd⟩).run Try.prog w = stRec Try.prog 87 (ρ x) (ρ y) w := rfl
theorem ld87 (h1 : isRow w.heap[g]? = true) (h2 : o + 64 ≤ (cellsOf w.heap[g]?).size) : ldRec Try.prog 87 (.pointer (some ⟨g, o, none⟩)) w = .ok (.value (.agg (sub (cellsOf w.heap[g]?) o 64))) w :=
  ldRec_go 87 _ 64 Try.underlying87 rfl info87 w g o h1 h2
theorem st87 (h1 : isFree w.heap[g]? = true) (h2 : o + 64 ≤ (cellsOf w.heap[g]?).size) (h3 : vs.size = 64) (h4 : oneCells vs) :
    stRec Try.prog 87 (.pointer (some ⟨g, o, none⟩)) (.agg vs) w = .ok .skip (w.setRow g (splice (cellsOf w.heap[g]?) o vs.toList)) := stRec_go 87 64 info87 w g o vs h1 h2 h3 h4
theorem xld89 : (execOp ρ ⟨d, .load 89 x, ty, p, af, gd⟩).run Try.prog w = ldRec Try.prog 89 (ρ x) w := rfl
theorem xst89 : (execOp ρ ⟨d, .store 89 x y, ty, p, af, gd⟩).run Try.prog w = stRec Try.prog 89 (ρ x) (ρ y) w := rfl
theorem ld89 (h1 : isRow w.heap[g]? = true) (h2 : o + 65 ≤ (cellsOf w.heap[g]?).size) : ldRec Try.prog 89 (.pointer (some ⟨g, o, none⟩)) w = .ok (.value (.agg (sub (cellsOf w.heap[g]?) o 65))) w :=
  ldRec_go 89 _ 65 Try.underlying89 rfl info89 w g o h1 h2
theorem st89 (h1 : isFree w.heap[g]? = true) (h2 : o + 65 ≤ (cellsOf w.heap[g]?).size) (h3 : vs.size = 65) (h4 : oneCells vs) :
    stRec Try.prog 89 (.pointer (some ⟨g, o, none⟩)) (.agg vs) w = .ok .skip (w.setRow g (splice (cellsOf w.heap[g]?) o vs.toList)) := stRec_go 89 65 info89 w g o vs h1 h2 h3 h4
theorem xal87 : (execOp ρ ⟨d, .alloc 87, ty, p, af, gd⟩).run Try.prog w = alRec Try.prog 87 w := rfl
theorem al87 : alRec Try.prog 87 w = .ok (.value (.pointer (some ⟨w.heap.size, 0, none⟩))) (w.alloc (.cells zc87' 87 (0, 0))) := alRec_go 87 zc87' zero87 w
theorem xal89 : (execOp ρ ⟨d, .alloc 89, ty, p, af, gd⟩).run Try.prog w = alRec Try.prog 89 w := rfl
theorem al89 : alRec Try.prog 89 w = .ok (.value (.pointer (some ⟨w.heap.size, 0, none⟩))) (w.alloc (.cells Try.zeroCells89 89 (0, 0))) := alRec_go 89 Try.zeroCells89 zero89 w
theorem xmk81 : (execOp ρ ⟨d, .makeSlice 81 x y, ty, p, af, gd⟩).run Try.prog w = mkRec Try.prog 81 (ρ x) (ρ y) w := rfl
theorem info87'' : (Try.prog.info? 87).map (fun i => (i.zero, i.size, i.bytes)) = some (some (.agg zc87'), 64, 64) := by kernel_rfl
theorem mk81 (c : Int) (h0 : 0 ≤ c) (h1 : c ≤ 65536) : mkRec Try.prog 81 (.int .i64 c) (.int .i64 c) w =
    .ok (.value (.slice (some ⟨w.heap.size, 0, none⟩) c.toNat c.toNat)) (w.alloc (.cells (secCells (zSecs c)) 87 (0, 0))) := by
  obtain ⟨i, hi, hz, hs, hb⟩ := info_parts info87''
  have := mkRec_go (P := Try.prog) 81 87 i _ Try.underlying81 hi hz w .i64 .i64 c c h0 (Int.le_refl _) (by rw [hb]; omega) (by omega)
  rw [this, hs, zSecs, secCells_zero, show (Value.agg zc87').cells = zc87' from rfl, madeCells_const zc87' (.int .u8 0) _ rfl (by rw [zc87_size]; decide)]
theorem sl87 (g o k : Nat) (kk : IntKind) (hk : k ≤ 64) : (Instr.sliceAt 87 (.pointer (some ⟨g, o, none⟩)) none (some (.int kk (k : Int))) none).run Try.prog w = .ok (.slice (some ⟨g, o, none⟩) k 64) w :=
  run_sliceAt_hi 87 5 64 Try.underlying87 (by kernel_rfl) w g o k kk hk
theorem xcv309 : (execOp ρ ⟨d, .convert 30 9 x, ty, p, af, gd⟩).run Try.prog w = cvStr Try.prog 30 9 (ρ x) w := rfl
theorem cv309 (v : Value) (l : List UInt8) (h : IsBytes w v l) : cvStr Try.prog 30 9 v w = .ok (.value (str l)) w := cvStr_go 30 5 9 Try.underlying30 Try.underlying5 Try.underlying9 w v l h
theorem xmk30 : (execOp ρ ⟨d, .makeSlice 30 x y, ty, p, af, gd⟩).run Try.prog w = mkRec Try.prog 30 (ρ x) (ρ y) w := rfl
theorem info5'' : (Try.prog.info? 5).map (fun i => (i.zero, i.size, i.bytes)) = some (some (.int .u8 0), 1, 1) := by kernel_rfl
theorem mk30 (l c : Int) (h0 : 0 ≤ l) (h1 : l ≤ c) (h2 : c ≤ 281474976710656) : mkRec Try.prog 30 (.int .i64 l) (.int .i64 c) w =
    .ok (.value (.slice (some ⟨w.heap.size, 0, none⟩) l.toNat c.toNat)) (w.alloc (.cells (Bs (zB c)).toArray 5 (0, 0))) := by
  obtain ⟨i, hi, hz, hs, hb⟩ := info_parts info5''
  have := mkRec_go (P := Try.prog) 30 5 i _ Try.underlying30 hi hz w .i64 .i64 l c h0 h1 (by rw [hb]; omega) (by omega)
  rw [this, hs, Nat.mul_one, show (Value.int IntKind.u8 0).cells = #[.int .u8 0] from rfl, madeCells_const #[.int .u8 0] (.int .u8 0) _ rfl (by decide), Bs_zB]
theorem xeq9 : (execOp ρ ⟨d, .binOp .eql 9 x y 9, ty, p, af, gd⟩).run Try.prog w = eqO Try.prog .eql 9 x y (ρ x) (ρ y) w := rfl
theorem xne9 : (execOp ρ ⟨d, .binOp .neq 9 x y 9, ty, p, af, gd⟩).run Try.prog w = eqO Try.prog .neq 9 x y (ρ x) (ρ y) w := rfl
theorem xbs82 : (execOp ρ ⟨d, .buildSlice 82 1 #[(0, x)], ty, p, af, gd⟩).run Try.prog w = bsOne Try.prog 82 (ρ x) w := by
  unfold execOp bsOne; simp only [List.map_toArray, List.map_cons, List.map_nil]
theorem bs82 (h : vs.size = 65) : bsOne Try.prog 82 (.agg vs) w = .ok (.value (.slice (some ⟨w.heap.size, 0, none⟩) 1 1)) (w.alloc (.cells vs 89 (0, 0))) :=
  bsOne_go 82 89 65 Try.underlying82 info89 (by kernel_rfl) (by decide) (by decide) vs h w
end
attribute [go_sem ↓] xmk30 xeq9 xne9 xcv309 xmk81 xld84 xst84 xld87 xst87 xld89 xst89 xal87 xal89 xbs82
attribute [go_sem] mk30 cv309 sl87 mk81 ld84 st84 ld87 st87 ld89 st89 al87 al89 bs82
attribute [go_sem] zc87_size zc89_size zc87_one zc89_one W89_size W89_one zc89_set
theorem info89' : (Try.prog.info? 89).map (fun i => (i.zero, i.size, i.bytes)) = some (some (.agg Try.zeroCells89), 65, 72) := by kernel_rfl
end Go.Proofs.Ytnpeeephkkmomaa
