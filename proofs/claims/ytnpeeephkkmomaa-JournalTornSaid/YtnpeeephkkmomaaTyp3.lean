/-
  What the walk is told of the document's disk: its types, its map.
-/
import Derived.Test.YtnpeeephkkmomaaByt
import Derived.Maps.Own
import Derived.Maps.Views
import Derived.Maps.StringElems
import Derived.Laws.IdiomStrings
import Derived.Laws.Tables
namespace Go.Proofs.Ytnpeeephkkmomaa
open Go.RowKit Go.Maps
set_option linter.unusedVariables false
set_option linter.unusedSimpArgs false

theorem info95 : (Try.prog.info? 95).map (·.size) = some 5 := by kernel_rfl
theorem info97 : (Try.prog.info? 97).map (·.size) = some 2 := by kernel_rfl
theorem info97' : (Try.prog.info? 97).map (fun i => (i.zero, i.size, i.bytes)) = some (some (.agg #[.int .i64 0, .slice none 0 0]), 2, 32) := by kernel_rfl
theorem zero97 : (Try.prog.info? 97).bind (·.zero) = some (.agg #[.int .i64 0, .slice none 0 0]) := by kernel_rfl

/-! The map. -/
theorem key3 : Keyed Try.prog 3 := int_keyed Try.underlying3
theorem zero9 (w : World) : (zeroValue 9).run Try.prog w = .ok (.string ByteArray.empty) w := by kernel_rfl
/-- Block mb is a map of at most n entries that tells L. -/
def IM (w : World) (mb n : Nat) (L : Int → List UInt8) : Prop :=
  ∃ D : DataW Unit, w.ownsMap Try.prog 3 (plainElem Try.prog 9) mb n D ∧ IsMap D ∧ ∀ k, D.atKey (.int .i64 k) (.lit (.string [])) = .lit (.string (L k))
theorem IM.made (w : World) : IM (w.alloc (.map #[] 0)) w.heap.size 0 (fun _ => []) := ⟨.map [], World.ownsMap_made _ _ _ _, isMap_empty, fun _ => rfl⟩
theorem IM.lt {w : World} {mb n : Nat} {L : Int → List UInt8} (h : IM w mb n L) : mb < w.heap.size := by obtain ⟨_, h, _⟩ := h; exact h.lt
theorem IM.mono {w : World} {mb n : Nat} {L : Int → List UInt8} (h : IM w mb n L) {m : Nat} (hm : n ≤ m) : IM w mb m L := by obtain ⟨D, h, r⟩ := h; exact ⟨D, h.mono hm, r⟩
theorem IM.fr {w w' : World} {F : Nat → Prop} {mb n : Nat} {L : Int → List UInt8} (h : IM w mb n L) (hf : Fr F w w') (hF : ¬ F mb) : IM w' mb n L := by
  obtain ⟨D, ⟨es, clock, hb, r⟩, r2⟩ := h
  exact ⟨D, ⟨es, clock, hf.at hb hF, r⟩, r2⟩
theorem IM.look {w : World} {mb n : Nat} {L : Int → List UInt8} (h : IM w mb n L) (k : Int) (hk : (Lit.int .i64 k).wf = true) :
    (Instr.lookup 92 (.map (some mb)) (.int .i64 k) false).run Try.prog w = .ok (str (L k)) w := by
  obtain ⟨D, h, _, hL⟩ := h
  obtain ⟨v, ps, hrun, hv⟩ := h.lookup key3 Try.underlying92 (zero9 w) (zd := .lit (.string [])) (zp := []) (plainElem_string Try.underlying9 (by decide)) (keyOf_int_mk Try.underlying3 hk)
  obtain ⟨s, rfl, hs, _⟩ := plainElem_string_inv Try.underlying9 hv
  rw [hL k] at hs
  simp only [Prod.mk.injEq, DataW.lit.injEq, Lit.string.injEq] at hs
  rw [hrun, str, hs.1]
theorem IM.upd {w : World} {mb n : Nat} {L : Int → List UInt8} (h : IM w mb n L) (hn : n < maxLen) (k : Int) (hk : (Lit.int .i64 k).wf = true) (s : List UInt8) (hs : s.length ≤ maxLen) :
    ∃ w', (Instr.mapUpdate 92 (.map (some mb)) (.int .i64 k) (str s)).run Try.prog w = .ok () w' ∧ IM w' mb (n + 1) (fun j => if j = k then s else L j) ∧ Fr (fun b => b = mb) w w' := by
  obtain ⟨D, h, hm, hL⟩ := h
  obtain ⟨w', hrun, h', hg⟩ := h.update key3 Try.underlying92 hn (val := str s) (d := .lit (.string s)) (ps := []) (keyOf_int_mk Try.underlying3 hk) (by
    have := plainElem_string (H := Unit) (P := Try.prog) (e := 9) Try.underlying9 (s := ⟨s.toArray⟩) (by show s.toArray.size ≤ maxLen; simpa using hs)
    simpa [str] using this)
  refine ⟨w', hrun, ⟨_, h', hm.put _ _, fun j => ?_⟩, (Fr.refl _ w).grown hg (fun j hj => .inl (by cases hj; rfl))⟩
  by_cases hj : j = k
  · subst hj
    rw [atKey_put_same hm (by trivial)]; simp only [if_true]
  · rw [atKey_put_other (by simpa using hj)]; simp only [if_neg hj]; exact hL j

/-- '[]byte(s)'. -/
def bWorld (l : List UInt8) (w : World) : World := w.drew.alloc (.cells (bytesRow ⟨l.toArray⟩ (grownCap w l.length 0 5)) 5 ((bytesRow ⟨l.toArray⟩ (grownCap w l.length 0 5)).size, (bytesRow ⟨l.toArray⟩ (grownCap w l.length 0 5)).size + 1))
theorem cvB_go (l : List UInt8) (w : World) : cvStr Try.prog 9 30 (str l) w = .ok (.value (.slice (some ⟨w.heap.size, 0, none⟩) l.length (grownCap w l.length 0 5))) (bWorld l w) := by
  have := run_bytes_of_string (P := Try.prog) w 9 30 5 ⟨l.toArray⟩ Try.underlying9 Try.underlying30 Try.underlying5
  have hs : (⟨l.toArray⟩ : ByteArray).size = l.length := by show l.toArray.size = _; simp
  rw [hs] at this
  unfold cvStr str
  simp only [Sem.run_bind, this, Result.andThen_ok, Sem.run_pure]
  rfl
theorem bWorld_fr (l : List UInt8) (w : World) : Fr (fun _ => False) w (bWorld l w) := ((Fr.refl _ w).drew).alloc _
theorem bWorld_bytes (l : List UInt8) (w : World) (hl : l.length ≤ maxLen) : IsBytes (bWorld l w) (.slice (some ⟨w.heap.size, 0, none⟩) l.length (grownCap w l.length 0 5)) l := by
  have hcm : grownCap w l.length 0 5 ≤ maxLen := grownCap_le_maxLen w l.length 0 5 hl
  refine ⟨_, _, rfl, grownCap_ge w l.length 0 5, by simpa [maxLen] using hcm, by simp, ?_⟩
  rintro a ha j v hv
  cases ha
  rw [Addr.add_mk, Nat.zero_add]
  refine (cells_at (heap_alloc_at w.drew _) j).trans ?_
  have hj : j < (Bs l).length := by
    rcases Nat.lt_or_ge j (Bs l).length with h | h
    · exact h
    · rw [List.getElem?_eq_none h] at hv; cases hv
  rw [Bs_length] at hj
  rw [bytesRow, Array.getElem?_append_left (by simpa using hj), Array.getElem?_map]
  simpa [Bs] using hv

section
variable (w : World) (g o : Nat) (vs : Array Value) (ρ : Operand → Value) (d : Option Tmp) (x y : Operand) (ty : TypeId) (p : String) (af : Array Edge) (gd : Option (Nat × Bool))
theorem xcv930 : (execOp ρ ⟨d, .convert 9 30 x, ty, p, af, gd⟩).run Try.prog w = cvStr Try.prog 9 30 (ρ x) w := rfl
theorem xld97 : (execOp ρ ⟨d, .load 97 x, ty, p, af, gd⟩).run Try.prog w = ldRec Try.prog 97 (ρ x) w := rfl
theorem xst97 : (execOp ρ ⟨d, .store 97 x y, ty, p, af, gd⟩).run Try.prog w = stRec Try.prog 97 (ρ x) (ρ y) w := rfl
theorem ld97 (h1 : isRow w.heap[g]? = true) (h2 : o + 2 ≤ (cellsOf w.heap[g]?).size) : ldRec Try.prog 97 (.pointer (some ⟨g, o, none⟩)) w = .ok (.value (.agg (sub (cellsOf w.heap[g]?) o 2))) w :=
  ldRec_go 97 _ 2 Try.underlying97 rfl info97 w g o h1 h2
theorem st97 (h1 : isFree w.heap[g]? = true) (h2 : o + 2 ≤ (cellsOf w.heap[g]?).size) (h3 : vs.size = 2) (h4 : oneCells vs) :
    stRec Try.prog 97 (.pointer (some ⟨g, o, none⟩)) (.agg vs) w = .ok .skip (w.setRow g (splice (cellsOf w.heap[g]?) o vs.toList)) := stRec_go 97 2 info97 w g o vs h1 h2 h3 h4
theorem xal97 : (execOp ρ ⟨d, .alloc 97, ty, p, af, gd⟩).run Try.prog w = alRec Try.prog 97 w := rfl
theorem al97 : alRec Try.prog 97 w = .ok (.value (.pointer (some ⟨w.heap.size, 0, none⟩))) (w.alloc (.cells #[.int .i64 0, .slice none 0 0] 97 (0, 0))) := alRec_go 97 _ zero97 w
theorem xbs93 : (execOp ρ ⟨d, .buildSlice 93 1 #[(0, x)], ty, p, af, gd⟩).run Try.prog w = bsOne Try.prog 93 (ρ x) w := by
  unfold execOp bsOne; simp only [List.map_toArray, List.map_cons, List.map_nil]
theorem bs93 (h : vs.size = 2) : bsOne Try.prog 93 (.agg vs) w = .ok (.value (.slice (some ⟨w.heap.size, 0, none⟩) 1 1)) (w.alloc (.cells vs 97 (0, 0))) :=
  bsOne_go 93 97 2 Try.underlying93 info97 (by kernel_rfl) (by decide) (by decide) vs h w
theorem bd97 (i : Int) (a : Option Addr) (n c : Nat) : (Instr.build 97 #[(0, .int .i64 i), (1, .slice a n c)]).run Try.prog w = .ok (.agg #[.int .i64 i, .slice a n c]) w :=
  run_build w 97 _ _ (by kernel_rfl)
theorem bd95 (n : Int) (m : Option Nat) : (Instr.build 95 #[(0, .int .i64 n), (1, .map m), (3, .int .i64 (-1))]).run Try.prog w = .ok (.agg #[.int .i64 n, .map m, .slice none 0 0, .int .i64 (-1), .bool false]) w :=
  run_build w 95 _ _ (by kernel_rfl)
end
attribute [go_sem ↓] xcv930 xld97 xst97 xal97 xbs93
attribute [go_sem] cvB_go ld97 st97 al97 bs93 bd97 bd95
end Go.Proofs.Ytnpeeephkkmomaa
