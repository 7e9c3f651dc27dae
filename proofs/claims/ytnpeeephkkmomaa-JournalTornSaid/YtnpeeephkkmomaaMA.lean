/-
  Words on memory by whole blocks: 'Fr F w w'': outside the blocks of F nothing has turned; a whole struct or array loaded from, or stored into, the middle of a block. No program.
-/
import Derived.WalkKit
import Derived.ProofKit
import Derived.Lib.Hide
import Derived.BigQuiet
import Derived.StillTailTactics
import Derived.Laws.IdiomCopy
import Derived.Deep.QuietTactic
import Derived.Test.YtnpeeephkkmomaaProg
import Derived.Deep.Cut
import Derived.Test.YtnpeeephkkmomaaWLast
import Derived.WalkSpells
import Derived.Lib.LazyBuf
import Derived.Deep.Slices
import Derived.Deep.Fields
import Derived.ChangeSame
import Derived.ChangeSlices
import Derived.SizedLaws
namespace Go.Proofs.Ytnpeeephkkmomaa
open Go.RowKit
set_option linter.unusedVariables false
set_option linter.unusedSimpArgs false

/-- Bytes as cells. -/
def Bs (l : List UInt8) : List Value := l.map fun c => Value.int .u8 (c.toNat : Int)
theorem Bs_length (l : List UInt8) : (Bs l).length = l.length := by simp [Bs]
theorem Bs_append (l m : List UInt8) : Bs (l ++ m) = Bs l ++ Bs m := by simp [Bs]
theorem Bs_take (l : List UInt8) (n : Nat) : Bs (l.take n) = (Bs l).take n := by simp [Bs, List.map_take]
theorem Bs_drop (l : List UInt8) (n : Nat) : Bs (l.drop n) = (Bs l).drop n := by simp [Bs, List.map_drop]
theorem Bs_nil : Bs [] = [] := rfl
theorem Bs_one (l : List UInt8) : ∀ v ∈ Bs l, v.oneCell' = true := by
  intro v h; simp only [Bs, List.mem_map] at h; obtain ⟨c, _, rfl⟩ := h; rfl
theorem Bs_inj {l m : List UInt8} (h : Bs l = Bs m) : l = m := by
  induction l generalizing m with
  | nil => cases m with
    | nil => rfl
    | cons x m => simp [Bs] at h
  | cons c l ih => cases m with
    | nil => simp [Bs] at h
    | cons x m =>
      simp only [Bs, List.map_cons, List.cons.injEq, Value.int.injEq, true_and] at h
      have h1 : c = x := UInt8.toNat_inj.1 (by omega)
      rw [h1, ih (by simpa [Bs] using h.2)]

/-- Outside the blocks of F nothing has turned. -/
structure Fr (F : Nat → Prop) (w w' : World) : Prop where
  os : w'.os = w.os
  tape : w'.tape = w.tape
  output : w'.output = w.output
  size : w.heap.size ≤ w'.heap.size
  block : ∀ k, k < w.heap.size → ¬ F k → w'.heap[k]? = w.heap[k]?

theorem Fr.refl (F : Nat → Prop) (w : World) : Fr F w w := ⟨rfl, rfl, rfl, Nat.le_refl _, fun _ _ _ => rfl⟩
theorem Fr.trans {F G : Nat → Prop} {a b c : World} (h : Fr F a b) (k : Fr G b c) (hG : ∀ i, G i → F i ∨ a.heap.size ≤ i) : Fr F a c :=
  ⟨k.os.trans h.os, k.tape.trans h.tape, k.output.trans h.output, Nat.le_trans h.size k.size,
    fun i hi hF => (k.block i (by have := h.size; omega) (fun hg => (hG i hg).elim hF (fun h1 => by omega))).trans (h.block i hi hF)⟩
theorem Fr.mono {F G : Nat → Prop} {a b : World} (h : Fr F a b) (hG : ∀ i, i < a.heap.size → F i → G i) : Fr G a b :=
  ⟨h.os, h.tape, h.output, h.size, fun i hi hg => h.block i hi (fun hf => hg (hG i hi hf))⟩
theorem Fr.alloc {F : Nat → Prop} {a w : World} (h : Fr F a w) (o : Obj) : Fr F a (w.alloc o) :=
  h.trans (G := fun _ => False) ⟨rfl, rfl, rfl, by simp, fun k hk _ => Below.heap_alloc _ _ _ hk⟩ (fun _ h => h.elim)
theorem Fr.drew {F : Nat → Prop} {a w : World} (h : Fr F a w) : Fr F a w.drew := ⟨h.os, h.tape, h.output, h.size, h.block⟩
theorem Fr.drewN {F : Nat → Prop} {a w : World} (h : Fr F a w) (n : Nat) : Fr F a (w.drewN n) := ⟨h.os, h.tape, h.output, h.size, h.block⟩
theorem Fr.setCell {F : Nat → Prop} {a w : World} (h : Fr F a w) {p : Addr} (u : Value) (hp : F p.block ∨ a.heap.size ≤ p.block) : Fr F a (w.setCell p u) :=
  h.trans (G := fun k => k = p.block) ⟨rfl, rfl, rfl, by simp [World.setCell], fun k _ hk => Below.heap_setCell _ _ _ _ hk⟩ (fun i hi => by subst hi; exact hp)
theorem heap_setRow_other (w : World) (g k : Nat) (cs : Array Value) (h : k ≠ g) : (w.setRow g cs).heap[k]? = w.heap[k]? := setRow_other w g k cs h
theorem Fr.setRow {F : Nat → Prop} {a w : World} (h : Fr F a w) {g : Nat} (cs : Array Value) (hp : F g ∨ a.heap.size ≤ g) : Fr F a (w.setRow g cs) :=
  h.trans (G := fun k => k = g) ⟨rfl, rfl, rfl, by simp, fun k _ hk => heap_setRow_other _ _ _ _ hk⟩ (fun i hi => by subst hi; exact hp)
theorem Fr.grown {F : Nat → Prop} {a w w' : World} {row : Option Nat} (h : Fr F a w) (hg : w.grownBy w' row) (hr : ∀ k, row = some k → F k ∨ a.heap.size ≤ k) : Fr F a w' :=
  h.trans (G := fun k => some k = row) ⟨hg.os, hg.tape, hg.output, hg.size, fun k hk hn => hg.block k hk hn⟩ (fun i hi => hr i hi.symm)
theorem Fr.below {B : Nat} {a w : World} (h : Below B a w) : Fr (fun k => B ≤ k) a w := ⟨h.os, h.tape, h.output, h.size, fun k _ hF => h.block k (by omega)⟩
theorem Fr.toBelow {B : Nat} {F : Nat → Prop} {a w : World} (h : Fr F a w) (hB : B ≤ a.heap.size) (hF : ∀ k, k < B → ¬ F k) : Below B a w :=
  ⟨h.os, h.tape, h.output, h.size, fun k hk => h.block k (by omega) (hF k hk)⟩
/-- A block outside F. -/
theorem Fr.at {F : Nat → Prop} {a w : World} (h : Fr F a w) {k : Nat} {o : Obj} (hk : a.heap[k]? = some o) (hF : ¬ F k) : w.heap[k]? = some o := by
  rw [h.block k (Array.getElem?_eq_some_iff.1 hk).1 hF]; exact hk

theorem Fr.cell {F : Nat → Prop} {w w' : World} (h : Fr F w w') {a : Addr} {u : Value} (hc : w.cell? a = some u) (hF : ¬ F a.block := by intro h; exact h) : w'.cell? a = some u := by
  rw [World.cell?_of_block (h.block _ (World.block_lt_of_cell? w _ hc) hF)]; exact hc
theorem lt_of_block {w : World} {k : Nat} {o : Obj} (h : w.heap[k]? = some o) : k < w.heap.size := (Array.getElem?_eq_some_iff.1 h).1

theorem cells_at {w : World} {b : Nat} {cs : Array Value} {T : TypeId} {fr : Nat × Nat} (h : w.heap[b]? = some (.cells cs T fr)) (o : Nat) :
    w.cell? ⟨b, o, none⟩ = cs[o]? := by simp [World.cell?, h]
theorem free_at {w : World} {b : Nat} {cs : Array Value} {T : TypeId} (h : w.heap[b]? = some (.cells cs T (0, 0))) (o : Nat) :
    w.frozen? ⟨b, o, none⟩ = false := by simp [World.frozen?, h]

def cellIn : Option Obj → Nat → Option Value
  | some (.cells c _ _), o => c[o]?
  | _, _ => none
def freeIn : Option Obj → Nat → Bool
  | some (.cells _ _ (lo, hi)), o => lo ≤ o && o < hi
  | _, _ => false
theorem cell?_mk (w : World) (b o : Nat) : w.cell? ⟨b, o, none⟩ = cellIn w.heap[b]? o := by
  unfold World.cell? cellIn
  cases w.heap[b]? with
  | none => rfl
  | some ob => cases ob <;> rfl
theorem frozen?_mk (w : World) (b o : Nat) (s) : w.frozen? ⟨b, o, s⟩ = freeIn w.heap[b]? o := by
  unfold World.frozen? freeIn
  cases w.heap[b]? with
  | none => rfl
  | some ob => cases ob <;> rfl
theorem cellIn_some (c : Array Value) (T : TypeId) (fr : Nat × Nat) (o : Nat) : cellIn (some (.cells c T fr)) o = c[o]? := rfl
theorem freeIn_some (c : Array Value) (T : TypeId) (o : Nat) : freeIn (some (.cells c T (0, 0))) o = false := by simp [freeIn]
def putIn : Option Obj → Nat → Value → Option Obj
  | some (.cells c T fr), o, v => some (.cells (c.setIfInBounds o v) T fr)
  | x, _, _ => x
theorem putIn_some (c : Array Value) (T : TypeId) (fr : Nat × Nat) (o : Nat) (v : Value) : putIn (some (.cells c T fr)) o v = some (.cells (c.setIfInBounds o v) T fr) := rfl
theorem heap_setCell (w : World) (b o k : Nat) (v : Value) : (w.setCell ⟨b, o, none⟩ v).heap[k]? = if b = k then putIn w.heap[k]? o v else w.heap[k]? := by
  simp only [World.setCell, Array.getElem?_modify]
  by_cases h : b = k
  · simp only [h, if_true]; cases hk : w.heap[k]? with
    | none => rfl
    | some ob => cases ob <;> rfl
  · simp only [h, if_false]
theorem heap_setCell_self (w : World) (b o : Nat) (v : Value) : (w.setCell ⟨b, o, none⟩ v).heap[b]? = putIn w.heap[b]? o v := by
  rw [heap_setCell, if_pos rfl]
attribute [go_sem ↓] cell?_mk frozen?_mk
attribute [go_sem] cellIn_some freeIn_some putIn_some
attribute [go_sem ↓ high] heap_setCell_self heap_setCell
theorem heap_alloc (w : World) (o : Obj) (k : Nat) (h : k < w.heap.size) : (w.alloc o).heap[k]? = w.heap[k]? := Below.heap_alloc w o k h
theorem heap_drewN (w : World) (n : Nat) : (w.drewN n).heap = w.heap := rfl
def rowIn : Option Obj → Array Value → Option Obj
  | some (.cells _ T fr), cs => some (.cells cs T fr)
  | x, _ => x
theorem rowIn_some (c c' : Array Value) (T : TypeId) (fr : Nat × Nat) : rowIn (some (.cells c T fr)) c' = some (.cells c' T fr) := rfl
theorem heap_drew' (w : World) : w.drew.heap = w.heap := rfl
attribute [go_sem] heap_drew' heap_drewN
theorem Fr.of_eq {F : Nat → Prop} {w w' : World} (h : w' = w) : Fr F w w' := h ▸ Fr.refl F w

section
variable {P : Program}

theorem Addr.add_mk (b o n : Nat) : (⟨b, o, none⟩ : Addr).add n = ⟨b, o + n, none⟩ := by unfold Addr.add; split <;> simp_all

theorem run_loadCells_row (w : World) (g o n : Nat) (cs : Array Value) (T : TypeId) (fr : Nat × Nat) (hg : w.heap[g]? = some (.cells cs T fr)) (h : o + n ≤ cs.size) :
    (loadCells ⟨g, o, none⟩ n).run P w = .ok (cs.extract o (o + n)) w := by
  have hl := run_loadCells_list (P := P) w ⟨g, o, none⟩ (cs.extract o (o + n)).toList (fun j v hv => by
    rw [Addr.add_mk, cells_at hg]
    simp only [Array.getElem?_toList, Array.getElem?_extract] at hv
    split at hv
    · exact hv
    · cases hv)
  have hlen : (cs.extract o (o + n)).toList.length = n := by simp; omega
  rw [hlen, Array.toArray_toList] at hl
  exact hl

/-- The cells of a row with some of them turned. -/
def splice (cs : Array Value) (o : Nat) (vs : List Value) : Array Value := (cs.toList.take o ++ vs ++ cs.toList.drop (o + vs.length)).toArray
theorem splice_size (cs : Array Value) (o : Nat) (vs : List Value) (h : o + vs.length ≤ cs.size) : (splice cs o vs).size = cs.size := by
  simp [splice]; omega
theorem splice_all (cs : Array Value) (vs : List Value) (h : vs.length = cs.size) : splice cs 0 vs = vs.toArray := by
  simp [splice, h]
theorem splice_toList (cs : Array Value) (o : Nat) (vs : List Value) : (splice cs o vs).toList = cs.toList.take o ++ vs ++ cs.toList.drop (o + vs.length) := rfl

theorem run_storeCells_row (w : World) (g o : Nat) (vs : List Value) (cs : Array Value) (T : TypeId) (hg : w.heap[g]? = some (.cells cs T (0, 0))) (h : o + vs.length ≤ cs.size)
    (h1 : ∀ v ∈ vs, v.oneCell' = true) : (storeCells ⟨g, o, none⟩ vs).run P w = .ok () (w.setRow g (splice cs o vs)) := by
  have := run_storeCells_at P g o T vs 0 cs w hg (by omega) h1
  simpa [splice] using this

def isRec (d : TypeDesc) : Bool := match d with | .struct _ | .array _ _ => true | _ => false

theorem run_isAgg {ty : TypeId} {d : TypeDesc} (hu : P.underlying ty = some d) (hd : isRec d = true) (w : World) : (isAgg ty).run P w = .ok true w := by
  unfold isAgg
  rw [Sem.run_bind, run_underlying hu w]
  cases d <;> simp_all [isRec]

theorem run_sizeOf {ty : TypeId} {n : Nat} (hi : (P.info? ty).map (·.size) = some n) (w : World) : (sizeOf ty).run P w = .ok n w := by
  cases hq : P.info? ty with
  | none => simp [hq] at hi
  | some i => simp [hq] at hi; simp [sizeOf, typeInfo, hq, hi]

theorem run_loadAt_rec (w : World) (ty : TypeId) (d : TypeDesc) (n : Nat) (hu : P.underlying ty = some d) (hd : isRec d = true) (hi : (P.info? ty).map (·.size) = some n)
    (g o : Nat) (cs : Array Value) (T : TypeId) (fr : Nat × Nat) (hg : w.heap[g]? = some (.cells cs T fr)) (h : o + n ≤ cs.size) :
    (Instr.loadAt ty (.pointer (some ⟨g, o, none⟩))).run P w = .ok (.agg (cs.extract o (o + n))) w := by
  simp [Instr.loadAt, Instr.sureAddr, loadVar, run_isAgg hu hd, run_sizeOf hi, run_loadCells_row w g o n cs T fr hg h]

theorem run_storeAt_rec (w : World) (ty : TypeId) (n : Nat) (hi : (P.info? ty).map (·.size) = some n)
    (g o : Nat) (cs : Array Value) (T : TypeId) (hg : w.heap[g]? = some (.cells cs T (0, 0))) (vs : Array Value) (hv : vs.size = n) (h : o + n ≤ cs.size) (h1 : ∀ v ∈ vs.toList, v.oneCell' = true) :
    (Instr.storeAt ty (.pointer (some ⟨g, o, none⟩)) (.agg vs)).run P w = .ok () (w.setRow g (splice cs o vs.toList)) := by
  have := run_storeCells_row (P := P) w g o vs.toList cs T hg (by simpa [hv] using h) h1
  simp [Instr.storeAt, Instr.sureAddr, storeVar, Value.cells, hv, run_sizeOf hi, this]

variable {ops : Array Oper} {Q : Exit → Act → World → Prop} {a : Act} {w : World} {rest : List Oper} {o : Oper}

/-- A whole struct or array is loaded. -/
theorem wpList_load_rec (hgd : o.guard = none) (ty : TypeId) (x : Operand) (ho : o.op = .load ty x) (d : TypeDesc) (n : Nat) (hu : P.underlying ty = some d) (hd : isRec d = true)
    (hi : (P.info? ty).map (·.size) = some n) (g off : Nat) (hx : a.eval x = .pointer (some ⟨g, off, none⟩)) (cs : Array Value) (T : TypeId) (fr : Nat × Nat)
    (hg : w.heap[g]? = some (.cells cs T fr)) (h : off + n ≤ cs.size) (hk : wpList P ops Q rest (a.put o.dst (.agg (cs.extract off (off + n)))) w) : wpList P ops Q (o :: rest) a w :=
  wpList_plain hgd fun K hK => by
    unfold Oper.wp execOp
    simp only [ho, hx, Sem.run_bind, run_loadAt_rec w ty d n hu hd hi g off cs T fr hg h, Result.andThen_ok, Sem.run_pure]
    exact hK _ _ hk

/-- A whole struct or array is stored. -/
theorem wpList_store_rec (hgd : o.guard = none) (ty : TypeId) (x y : Operand) (ho : o.op = .store ty x y) (n : Nat)
    (hi : (P.info? ty).map (·.size) = some n) (g off : Nat) (hx : a.eval x = .pointer (some ⟨g, off, none⟩)) (vs : Array Value) (hy : a.eval y = .agg vs) (cs : Array Value) (T : TypeId)
    (hg : w.heap[g]? = some (.cells cs T (0, 0))) (hv : vs.size = n) (h : off + n ≤ cs.size) (h1 : ∀ v ∈ vs.toList, v.oneCell' = true)
    (hk : wpList P ops Q rest (a.put o.dst undef) (w.setRow g (splice cs off vs.toList))) : wpList P ops Q (o :: rest) a w :=
  wpList_plain hgd fun K hK => by
    unfold Oper.wp execOp
    simp only [ho, hx, hy, Sem.run_bind, run_storeAt_rec w ty n hi g off cs T hg vs hv h h1, Result.andThen_ok, Sem.run_pure]
    exact hK _ _ hk

/-- A variable for a whole struct or array: its zero cells behind a name. -/
theorem wpList_alloc_rec (hgd : o.guard = none) (ty : TypeId) (ho : o.op = .alloc ty) (Z : Array Value) (hz : (P.info? ty).bind (·.zero) = some (.agg Z))
    (hk : wpList P ops Q rest (a.put o.dst (.pointer (some ⟨w.heap.size, 0, none⟩))) (w.alloc (.cells Z ty (0, 0)))) : wpList P ops Q (o :: rest) a w :=
  wpList_plain hgd fun K hK => by
    cases hq : P.info? ty with
    | none => simp [hq] at hz
    | some i =>
      have hz' : i.zero = some (.agg Z) := by simpa [hq] using hz
      unfold Oper.wp execOp
      simp only [ho, Instr.alloc, zeroValue, typeInfo, Sem.run_bind, run_program, Result.andThen_ok, hq, Sem.run_pure, hz', newVar, newRow, Value.cells, run_newObj]
      exact hK _ _ hk

/-- The same at a region whose order is drawn. -/
theorem wpStill_load_rec {Qs : Act → Prop} (hgd : o.guard = none) (ty : TypeId) (x : Operand) (ho : o.op = .load ty x) (d : TypeDesc) (n : Nat) (hu : P.underlying ty = some d) (hd : isRec d = true)
    (hi : (P.info? ty).map (·.size) = some n) (g off : Nat) (hx : a.eval x = .pointer (some ⟨g, off, none⟩)) (cs : Array Value) (T : TypeId) (fr : Nat × Nat)
    (hg : w.heap[g]? = some (.cells cs T fr)) (h : off + n ≤ cs.size) (hk : wpStill P ops w Qs rest (a.put o.dst (.agg (cs.extract off (off + n))))) : wpStill P ops w Qs (o :: rest) a :=
  wpStill_step fun K hK => by
    unfold Oper.still execOp
    rw [if_pos (by simp [Region.wanted, hgd])]
    simp only [ho, hx, Sem.run_bind, run_loadAt_rec w ty d n hu hd hi g off cs T fr hg h, Result.andThen_ok, Sem.run_pure, Oper.stillUpon_value]
    exact hK _ hk
end

theorem heap_setRow (w : World) (g k : Nat) (cs : Array Value) : (w.setRow g cs).heap[k]? = if g = k then rowIn w.heap[k]? cs else w.heap[k]? := by
  by_cases h : g = k
  · subst h
    simp only [World.setRow, Array.getElem?_modify, if_true]
    cases hk : w.heap[g]? with
    | none => rfl
    | some ob => cases ob <;> rfl
  · rw [if_neg h, setRow_other w g k cs (fun e => h e.symm)]
theorem heap_setRow_self (w : World) (g : Nat) (cs : Array Value) : (w.setRow g cs).heap[g]? = rowIn w.heap[g]? cs := by rw [heap_setRow, if_pos rfl]
attribute [go_sem] rowIn_some
attribute [go_sem ↓ high] heap_setRow heap_setRow_self

section
variable {P : Program}
theorem run_alloc_rec (ty : TypeId) (Z : Array Value) (hz : (P.info? ty).bind (·.zero) = some (.agg Z)) (v : Value) (w : World) :
    (Instr.alloc ty true v).run P w = .ok (.pointer (some ⟨w.heap.size, 0, none⟩)) (w.alloc (.cells Z ty (0, 0))) := by
  cases hq : P.info? ty with
  | none => simp [hq] at hz
  | some i =>
    have hz' : i.zero = some (.agg Z) := by simpa [hq] using hz
    simp [Instr.alloc, zeroValue, typeInfo, hq, hz', newVar, newRow, Value.cells]

theorem fold_all : ∀ (l : List Value) (k : Nat) (pre : List Value) (suf : List Value), pre.length = k → suf.length = l.length →
    (l.zipIdx k).foldl (fun (cs : Array Value) (x : Value × Nat) => cs.setIfInBounds (0 + x.2) x.1) (pre ++ suf).toArray = (pre ++ l).toArray
  | [], k, pre, suf, hp, hs => by simp at hs; simp [hs]
  | v :: l, k, pre, s :: suf, hp, hs => by
    simp only [List.zipIdx_cons, List.foldl_cons, Nat.zero_add, List.setIfInBounds_toArray]
    have e : (pre ++ s :: suf).set k v = (pre ++ [v]) ++ suf := by
      rw [List.set_append_right _ _ (by omega)]; simp [hp]
    rw [e]
    have := fold_all l (k + 1) (pre ++ [v]) suf (by simp [hp]) (by simpa using hs)
    simp only [Nat.zero_add] at this
    rw [this]; simp
  | v :: l, k, pre, [], hp, hs => by simp at hs

theorem run_buildSlice_one (t e : TypeId) (n : Nat) (ht : P.underlying t = some (.slice e)) (hi : (P.info? e).map (·.size) = some n) (hz : ((P.info? e).bind (·.zero)).isSome = true) (hn : n ≤ 16777216) (h0 : 0 < n)
    (vs : Array Value) (hv : vs.size = n) (w : World) :
    (Instr.buildSlice t 1 #[(0, .agg vs)]).run P w = .ok (.slice (some ⟨w.heap.size, 0, none⟩) 1 1) (w.alloc (.cells vs e (0, 0))) := by
  cases hq : P.info? e with
  | none => simp [hq] at hi
  | some i =>
    have hi' : i.size = n := by simpa [hq] using hi
    cases hz' : i.zero with
    | none => simp [hq, hz'] at hz
    | some z =>
      have hf : ∀ (c : Array Value), c.size = n → vs.zipIdx.foldl (fun (cs : Array Value) (x : Value × Nat) => cs.setIfInBounds (0 + x.2) x.1) c = vs := by
        intro c hc
        have := fold_all vs.toList 0 [] c.toList rfl (by simp [hc, hv])
        simp only [List.nil_append, Array.toArray_toList] at this
        rw [← Array.foldl_toList, Array.toList_zipIdx]
        exact this
      have hne : ¬ (1 * n = 0) := by omega
      have hle : ¬ (1 * n > 2 ^ 24) := by omega
      have hgt : ¬ (vs.size ≠ n ∨ 0 * n + vs.size > (Array.map (fun x => (Value.cells z)[x % (Value.cells z).size]!) (Array.range (1 * n))).size) := by simp [hv]
      have hff := hf (Array.map (fun x => (Value.cells z)[x % (Value.cells z).size]!) (Array.range (1 * n))) (by simp)
      have hfill : Instr.fill (fun i => some (i * n, n)) (Array.map (fun x => (Value.cells z)[x % (Value.cells z).size]!) (Array.range (1 * n))) [(0, .agg vs)] = some vs := by
        simp only [Instr.fill]
        rw [show (Value.agg vs).cells = vs from rfl, if_neg (by simpa using hgt)]
        simp only [Nat.zero_mul] at hff ⊢
        rw [hff]
      simp only [Instr.buildSlice, Sem.run_bind, run_underlying ht, Result.andThen_ok, sizeOf, typeInfo, run_program, hq, Sem.run_pure, hi', Sem.run_ite, if_neg hne, if_neg hle, zeroValue, hz', hfill,
        newRow, run_newObj]
      rfl
end

def cellsOf : Option Obj → Array Value
  | some (.cells c _ _) => c
  | _ => #[]
def isRow : Option Obj → Bool
  | some (.cells _ _ _) => true
  | _ => false
def isFree : Option Obj → Bool
  | some (.cells _ _ (lo, hi)) => lo == 0 && hi == 0
  | _ => false
theorem cellsOf_some (c : Array Value) (T : TypeId) (fr : Nat × Nat) : cellsOf (some (.cells c T fr)) = c := rfl
theorem isRow_some (c : Array Value) (T : TypeId) (fr : Nat × Nat) : isRow (some (.cells c T fr)) = true := rfl
theorem isFree_some (c : Array Value) (T : TypeId) : isFree (some (.cells c T (0, 0))) = true := rfl
theorem heap_alloc_lt (w : World) (o : Obj) (k : Nat) (h : isRow w.heap[k]? = true) : (w.alloc o).heap[k]? = w.heap[k]? := by
  cases hk : w.heap[k]? with
  | none => rw [hk] at h; cases h
  | some x => rw [Below.heap_alloc w o k (lt_of_block hk), hk]
theorem heap_alloc_at (w : World) (o : Obj) : (w.alloc o).heap[w.heap.size]? = some o := by show (w.heap.push o)[w.heap.size]? = _; simp
attribute [go_sem] cellsOf_some isRow_some isFree_some
attribute [go_sem ↓ high] heap_alloc_lt heap_alloc_at

section
variable {P : Program}
theorem run_loadAt_go (ty : TypeId) (d : TypeDesc) (n : Nat) (hu : P.underlying ty = some d) (hd : isRec d = true) (hi : (P.info? ty).map (·.size) = some n)
    (w : World) (g o : Nat) (h1 : isRow w.heap[g]? = true) (h2 : o + n ≤ (cellsOf w.heap[g]?).size) :
    (Instr.loadAt ty (.pointer (some ⟨g, o, none⟩))).run P w = .ok (.agg ((cellsOf w.heap[g]?).extract o (o + n))) w := by
  cases hq : w.heap[g]? with
  | none => rw [hq] at h1; cases h1
  | some ob =>
    rw [hq] at h1 h2
    cases ob with
    | cells c T fr => exact run_loadAt_rec w ty d n hu hd hi g o c T fr hq h2
    | _ => cases h1

def oneCells (vs : Array Value) : Prop := ∀ v ∈ vs.toList, v.oneCell' = true
theorem oneCells_set (cs : Array Value) (i : Nat) (v : Value) (h : oneCells cs) (hv : v.oneCell' = true) : oneCells (cs.setIfInBounds i v) := by
  intro u hu
  rw [Array.toList_setIfInBounds] at hu
  rcases List.mem_or_eq_of_mem_set hu with h1 | h1
  · exact h u h1
  · rw [h1]; exact hv
theorem oneCells_extract (cs : Array Value) (i j : Nat) (h : oneCells cs) : oneCells (cs.extract i j) := by
  intro u hu
  rw [Array.toList_extract, List.extract_eq_take_drop] at hu
  exact h u (List.mem_of_mem_drop (List.mem_of_mem_take hu))
theorem oneCells_cons (v : Value) (l : List Value) : oneCells (v :: l).toArray ↔ (v.oneCell' = true ∧ oneCells l.toArray) := by
  constructor
  · intro h; exact ⟨h v (by simp), fun u hu => h u (by simp at hu; simp [hu])⟩
  · rintro ⟨hv, h⟩ u hu
    rcases List.mem_cons.1 hu with rfl | hu
    · exact hv
    · exact h u hu
theorem oneCells_nil : oneCells #[] := fun _ h => by simp at h
theorem oneCells_Bs (l : List UInt8) : oneCells (Bs l).toArray := fun v hv => Bs_one l v hv
theorem run_storeAt_go (ty : TypeId) (n : Nat) (hi : (P.info? ty).map (·.size) = some n)
    (w : World) (g o : Nat) (vs : Array Value) (h1 : isFree w.heap[g]? = true) (h2 : o + n ≤ (cellsOf w.heap[g]?).size) (h3 : vs.size = n) (h4 : oneCells vs) :
    (Instr.storeAt ty (.pointer (some ⟨g, o, none⟩)) (.agg vs)).run P w = .ok () (w.setRow g (splice (cellsOf w.heap[g]?) o vs.toList)) := by
  cases hq : w.heap[g]? with
  | none => rw [hq] at h1; cases h1
  | some ob =>
    rw [hq] at h1 h2
    cases ob with
    | cells c T fr =>
      obtain ⟨lo, hi'⟩ := fr
      simp only [isFree, Bool.and_eq_true, beq_iff_eq] at h1
      obtain ⟨rfl, rfl⟩ := h1
      exact run_storeAt_rec w ty n hi g o c T hq vs h3 h2 h4
    | _ => cases h1
end

theorem setRow_alloc_new (w : World) (cs cs' : Array Value) (T : TypeId) (fr : Nat × Nat) : (w.alloc (.cells cs T fr)).setRow w.heap.size cs' = w.alloc (.cells cs' T fr) := by
  simp only [World.setRow, World.alloc, World.mk.injEq, and_true]
  ext i
  · simp
  · simp only [Array.getElem_modify, Array.getElem_push]
    split <;> rename_i h
    · subst h; simp
    · have hlt : i < w.heap.size := by rename_i h1 h2; simp at h1; omega
      simp [hlt]
/-- Some cells of a row. (Array.extract itself bears a congruence rule at which simp stops.) -/
def sub (cs : Array Value) (o n : Nat) : Array Value := cs.extract o (o + n)
theorem sub_whole (cs : Array Value) (n : Nat) (h : cs.size = n) : sub cs 0 n = cs := by subst h; simp [sub]
theorem sub_size (cs : Array Value) (o n : Nat) (h : o + n ≤ cs.size) : (sub cs o n).size = n := by simp [sub]; omega
theorem sub_one (cs : Array Value) (o n : Nat) (h : oneCells cs) : oneCells (sub cs o n) := oneCells_extract cs o (o + n) h
attribute [go_sem] sub_whole sub_size sub_one
/-- WHOLE OPERATIONS BEHIND A NAME: the walk's simp opens nothing of them; a rule says what each comes to. -/
def ldRec (P : Program) (ty : TypeId) (v : Value) (w : World) : Result Next := (do pure (.value (← Instr.loadAt ty v)) : Sem Next).run P w
def stRec (P : Program) (ty : TypeId) (v x : Value) (w : World) : Result Next := (do Instr.storeAt ty v x; pure .skip : Sem Next).run P w
def alRec (P : Program) (ty : TypeId) (w : World) : Result Next := (do pure (.value (← Instr.alloc ty true (.tuple #[]))) : Sem Next).run P w
def bsOne (P : Program) (t : TypeId) (v : Value) (w : World) : Result Next := (do pure (.value (← Instr.buildSlice t 1 #[(0, v)])) : Sem Next).run P w
/-- max and min of two integers: a number, no fork of the walk. -/
def mx (x y : Int) : Int := if y > x then y else x
def mn (x y : Int) : Int := if y < x then y else x
theorem mx_eq (x y : Int) : mx x y = max x y := by unfold mx; omega
theorem mn_eq (x y : Int) : mn x y = min x y := by unfold mn; omega
def mxP (P : Program) (x y : Value) (w : World) : Result Next := (do pure (.value (← Builtin.max2 x y)) : Sem Next).run P w
def mnP (P : Program) (x y : Value) (w : World) : Result Next := (do pure (.value (← Builtin.min2 x y)) : Sem Next).run P w
theorem mxP_int (P : Program) (k k' : IntKind) (a b : Int) (w : World) : mxP P (.int k a) (.int k' b) w = .ok (.value (.int k (mx a b))) w := rfl
theorem mnP_int (P : Program) (k k' : IntKind) (a b : Int) (w : World) : mnP P (.int k a) (.int k' b) w = .ok (.value (.int k (mn a b))) w := rfl
theorem xmx (P : Program) (ρ : Operand → Value) (d : Option Tmp) (x y : Operand) (ts : Array TypeId) (ty : TypeId) (p : String) (af : Array Edge) (gd : Option (Nat × Bool)) (w : World) :
    (execOp ρ ⟨d, .call { callee := .builtin .max, args := #[x, y], argTypes := ts }, ty, p, af, gd⟩).run P w = mxP P (ρ x) (ρ y) w := by
  simp only [execOp, resolve, invoke, builtin, Builtin.max_, List.map_toArray, List.map_cons, List.map_nil, pure_bind, List.foldlM_cons, List.foldlM_nil, bind_pure]; rfl
theorem xmn (P : Program) (ρ : Operand → Value) (d : Option Tmp) (x y : Operand) (ts : Array TypeId) (ty : TypeId) (p : String) (af : Array Edge) (gd : Option (Nat × Bool)) (w : World) :
    (execOp ρ ⟨d, .call { callee := .builtin .min, args := #[x, y], argTypes := ts }, ty, p, af, gd⟩).run P w = mnP P (ρ x) (ρ y) w := by
  simp only [execOp, resolve, invoke, builtin, Builtin.min_, List.map_toArray, List.map_cons, List.map_nil, pure_bind, List.foldlM_cons, List.foldlM_nil, bind_pure]; rfl
def eqO (P : Program) (op : BinOp) (t : TypeId) (xo yo : Operand) (x y : Value) (w : World) : Result Next := (do pure (.value (← (do eqGuard op t xo yo x y; binOp op t x y))) : Sem Next).run P w
def mkRec (P : Program) (t : TypeId) (l c : Value) (w : World) : Result Next := (do pure (.value (← Instr.makeSlice t l c)) : Sem Next).run P w
section
variable {P : Program}
theorem mkRec_go (t e : TypeId) (i : TypeInfo) (z : Value) (ht : P.underlying t = some (.slice e)) (hi : P.info? e = some i) (hz : i.zero = some z) (w : World)
    (kl kc : IntKind) (l c : Int) (h0 : 0 ≤ l) (hlc : l ≤ c) (hbytes : (i.bytes : Int) * c ≤ 281474976710656) (h63 : c ≤ 9223372036854775807) :
    mkRec P t (.int kl l) (.int kc c) w = .ok (.value (.slice (some ⟨w.heap.size, 0, none⟩) l.toNat c.toNat)) (w.alloc (.cells (madeCells z.cells (c.toNat * i.size)) e (0, 0))) := by
  unfold mkRec; simp only [Sem.run_bind, run_make w t e i z ht hi hz kl kc l c h0 hlc hbytes h63, Result.andThen_ok, Sem.run_pure]
theorem madeCells_const (z : Array Value) (v : Value) (n : Nat) (hz : z = (List.replicate z.size v).toArray) (h0 : 0 < z.size) : madeCells z n = (List.replicate n v).toArray := by
  apply Array.ext
  · simp [madeCells]
  · intro i h1 h2
    have hv : ∀ j, j < z.size → z[j]? = some v := by
      intro j hj
      rw [hz]; simp [hj]
    have hm : i % z.size < z.size := Nat.mod_lt _ h0
    have := hv _ hm
    simp only [madeCells, Array.getElem_map, Array.getElem_range, List.getElem_toArray, List.getElem_replicate]
    rw [getElem!_def, this]
theorem run_sliceAt_hi (t e : TypeId) (n : Nat) (hu : P.underlying t = some (.array n e)) (he : ((P.info? e).map (·.size)).isSome = true) (w : World) (g o k : Nat) (kk : IntKind) (hk : k ≤ n) :
    (Instr.sliceAt t (.pointer (some ⟨g, o, none⟩)) none (some (.int kk (k : Int))) none).run P w = .ok (.slice (some ⟨g, o, none⟩) k n) w := by
  cases hq : P.info? e with
  | none => simp [hq] at he
  | some i =>
    have h1 : (0 : Int) ≤ (k : Int) ∧ (k : Int) ≤ (n : Int) := by omega
    by_cases hn : n = 0
    · simp [Instr.sliceAt, run_underlying hu, Instr.sureAddr, Instr.sliceBounds, Instr.sliceBound, asIntOf, h1, hn, sizeOf, typeInfo, hq]
      omega
    · simp [Instr.sliceAt, run_underlying hu, Instr.sureAddr, Instr.sliceBounds, Instr.sliceBound, asIntOf, h1, hn, sizeOf, typeInfo, hq, Addr.add]
      omega
theorem ldRec_go (ty : TypeId) (d : TypeDesc) (n : Nat) (hu : P.underlying ty = some d) (hd : isRec d = true) (hi : (P.info? ty).map (·.size) = some n)
    (w : World) (g o : Nat) (h1 : isRow w.heap[g]? = true) (h2 : o + n ≤ (cellsOf w.heap[g]?).size) :
    ldRec P ty (.pointer (some ⟨g, o, none⟩)) w = .ok (.value (.agg (sub (cellsOf w.heap[g]?) o n))) w := by
  unfold ldRec; simp only [Sem.run_bind, run_loadAt_go ty d n hu hd hi w g o h1 h2, Result.andThen_ok, Sem.run_pure]; rfl
theorem stRec_go (ty : TypeId) (n : Nat) (hi : (P.info? ty).map (·.size) = some n)
    (w : World) (g o : Nat) (vs : Array Value) (h1 : isFree w.heap[g]? = true) (h2 : o + n ≤ (cellsOf w.heap[g]?).size) (h3 : vs.size = n) (h4 : oneCells vs) :
    stRec P ty (.pointer (some ⟨g, o, none⟩)) (.agg vs) w = .ok .skip (w.setRow g (splice (cellsOf w.heap[g]?) o vs.toList)) := by
  unfold stRec; simp only [Sem.run_bind, run_storeAt_go ty n hi w g o vs h1 h2 h3 h4, Result.andThen_ok, Sem.run_pure]
theorem alRec_go (ty : TypeId) (Z : Array Value) (hz : (P.info? ty).bind (·.zero) = some (.agg Z)) (w : World) :
    alRec P ty w = .ok (.value (.pointer (some ⟨w.heap.size, 0, none⟩))) (w.alloc (.cells Z ty (0, 0))) := by
  unfold alRec; simp only [Sem.run_bind, run_alloc_rec ty Z hz, Result.andThen_ok, Sem.run_pure]
theorem bsOne_go (t e : TypeId) (n : Nat) (ht : P.underlying t = some (.slice e)) (hi : (P.info? e).map (·.size) = some n) (hz : ((P.info? e).bind (·.zero)).isSome = true) (hn : n ≤ 16777216) (h0 : 0 < n)
    (vs : Array Value) (hv : vs.size = n) (w : World) :
    bsOne P t (.agg vs) w = .ok (.value (.slice (some ⟨w.heap.size, 0, none⟩) 1 1)) (w.alloc (.cells vs e (0, 0))) := by
  unfold bsOne; simp only [Sem.run_bind, run_buildSlice_one t e n ht hi hz hn h0 vs hv w, Result.andThen_ok, Sem.run_pure]
end
theorem splice_whole (cs : Array Value) (vs : List Value) (h : vs.length = cs.size) : splice cs 0 vs = vs.toArray := splice_all cs vs h
theorem one_int (k : IntKind) (n : Int) : (Value.int k n).oneCell' = true := rfl
theorem one_bool (b : Bool) : (Value.bool b).oneCell' = true := rfl
theorem one_string (s : ByteArray) : (Value.string s).oneCell' = true := rfl
theorem one_ptr (a : Option Addr) : (Value.pointer a).oneCell' = true := rfl
theorem one_slice (a : Option Addr) (n c : Nat) : (Value.slice a n c).oneCell' = true := rfl
attribute [go_sem] setRow_alloc_new splice_whole oneCells_set oneCells_nil oneCells_extract oneCells_cons oneCells_Bs one_int one_bool one_string one_ptr one_slice

/-- Room for a slice that grows: 'Room bytes n m'. -/
def Room (bytes n m : Nat) : Prop := n + m ≤ maxLen ∧ ∀ cap, n ≤ cap → cap < n + m → Builtin.nextslicecap (n + m) cap * bytes ≤ 281474976710656
theorem Room.of_le {bytes n m : Nat} (h63 : n + m ≤ maxLen) (h : (n + m) * bytes ≤ 140737488355328) : Room bytes n m := ⟨h63, fun cap _ hc => growslice_fits hc h⟩
/-- One element more: the capacity grows by a quarter. -/
theorem Room.one {bytes n : Nat} (h63 : n + 1 ≤ maxLen) (hb : 0 < bytes) (h : (n + n / 4 + 256) * bytes ≤ 281474976710656) : Room bytes n 1 := by
  refine ⟨h63, fun cap h1 h2 => ?_⟩
  obtain rfl : cap = n := by omega
  have hle : Builtin.nextslicecap (cap + 1) cap ≤ cap + cap / 4 + 256 := by
    unfold Builtin.nextslicecap
    split
    · omega
    · split
      · omega
      · have : Builtin.growBy (cap + 1) 4 cap = cap + (cap + 768) / 4 := by
          have e1 : ¬ cap ≥ cap + 1 := by omega
          have e2 : cap + (cap + 768) / 4 ≥ cap + 1 := by omega
          simp only [Builtin.growBy, if_neg e1, if_pos e2]
        omega
  exact Nat.le_trans (Nat.mul_le_mul_right _ hle) h

/-- .. of one slice. -/
def RoomAt (bytes n m : Nat) (v : Value) : Prop := n + m ≤ maxLen ∧ ∀ cap, (∃ ao, v = .slice ao n cap) → n ≤ cap → cap < n + m → Builtin.nextslicecap (n + m) cap * bytes ≤ 281474976710656
theorem RoomAt.empty {bytes m : Nat} {ao : Option Addr} (h63 : m ≤ maxLen) (h : m * bytes ≤ 281474976710656) : RoomAt bytes 0 m (.slice ao 0 0) := by
  refine ⟨by omega, fun cap hv _ hc => ?_⟩
  obtain ⟨a, ha⟩ := hv
  obtain rfl : 0 = cap := by cases ha; rfl
  rw [Nat.zero_add, nextslicecap_zero (by omega)]; exact h
theorem run_append_mv0 {P : Program} (w : World) (t ty e : TypeId) (i : TypeInfo) (z : Value) (size bytes : Nat) (ht : P.underlying t = some (.slice e)) (hi : P.info? e = some i) (hz : i.zero = some z)
    (hsize : i.size = size) (hby : i.bytes = bytes) (hzs : z.cells.size = size) (hsz : 0 < size)
    (v : Value) (n : Nat) (xs : List Value) (hown : w.ownsRow 0 e size v n xs)
    (a : Addr) (m c : Nat) (news : List Value) (hl : news.length = m * size) (hnews : ∀ j u, news[j]? = some u → w.cell? (a.add j) = some u) (h1 : ∀ u ∈ news, u.oneCell' = true)
    (hroom : RoomAt bytes n m v) :
    ∃ v' w', (Builtin.append_ #[t, t] ty #[v, .slice (some a) m c]).run P w = .ok v' w' ∧ w'.ownsRow 0 e size v' (n + m) (xs ++ news) ∧ Fr (fun k => v.ownBlock = some k) w w' ∧
      (v'.ownBlock = v.ownBlock ∨ v'.ownBlock = some w.heap.size) := by
  subst hsize
  subst hby
  obtain ⟨h63, hfit⟩ := hroom
  have h63' := h63
  simp only [maxLen] at h63
  have hlen : (xs ++ news).length = (n + m) * i.size := by rw [List.length_append, hown.1, hl, Nat.add_mul]
  have hgr : ∀ old, (w.drew.alloc (.cells (xs.toArray ++ news.toArray ++ Builtin.zeroCells z.cells (grownCap w (n + m) old e - (n + m))) e)).ownsRow 0 e i.size
      (.slice (some ⟨w.heap.size, 0, none⟩) (n + m) (grownCap w (n + m) old e)) (n + m) (xs ++ news) := by
    intro old
    have hge := grownCap_ge w (n + m) old e
    have hcm : grownCap w (n + m) old e ≤ maxLen := grownCap_le_maxLen w (n + m) old e h63'
    refine ⟨hlen, .inr ⟨w.heap.size, _, _, rfl, Nat.zero_le _, heap_alloc_at w.drew _, hge, hcm, ?_, ?_⟩⟩
    · simp only [Array.size_append, List.size_toArray, size_zeroCells, hzs, hown.1, hl, ← Nat.add_mul]
      congr 1
      omega
    · simp only [Array.toList_append, List.append_assoc]
      rw [← List.append_assoc, ← hlen]
      exact List.take_left
  have hfr : ∀ old, Fr (fun k => v.ownBlock = some k) w (w.drew.alloc (.cells (xs.toArray ++ news.toArray ++ Builtin.zeroCells z.cells (grownCap w (n + m) old e - (n + m))) e)) := fun old => ((Fr.refl _ w).drew).alloc _
  rcases hown.2 with ⟨rfl, rfl⟩ | ⟨g, cap, cur, rfl, _, hg, hnc, hcm, hcs, htake⟩
  · have hx : xs = [] := List.eq_nil_of_length_eq_zero (by simpa using hown.1)
    subst hx
    by_cases hm : m = 0
    · subst hm
      have hn : news = [] := List.eq_nil_of_length_eq_zero (by simpa using hl)
      subst hn
      exact ⟨.slice none 0 0, w, by simp [Builtin.append_, run_underlying ht, sizeOf, typeInfo, hi, Builtin.lenOf, Builtin.firstCells, loadCells, loadCellsFrom], World.ownsRow_nil w 0 e i.size, Fr.refl _ w, .inl rfl⟩
    · have hb : m * i.bytes ≤ 281474976710656 := by
        have := hfit 0 ⟨none, rfl⟩ (Nat.le_refl _) (by omega)
        rwa [Nat.zero_add, nextslicecap_zero (by omega)] at this
      have hr := run_append_nil (P := P) w t ty e i z ht hi hz a m c news hl hnews (by omega) (by omega) hb
      have h2 := hgr 0
      have h3 := hfr 0
      simp only [Nat.zero_add, List.nil_append, Array.empty_append] at h2 h3 ⊢
      exact ⟨_, _, hr, h2, h3, .inr rfl⟩
  · by_cases hroom : n + m ≤ cap
    · have hfit2 : n * i.size + news.length ≤ cur.size := by rw [hl, hcs, ← Nat.add_mul]; exact Nat.mul_le_mul_right _ hroom
      have hr := run_append_room (P := P) w t ty e i ht hi g n cap cur hg a m c news hl hnews h1 hroom hfit2
      refine ⟨_, _, hr, ⟨hlen, .inr ⟨g, cap, _, rfl, Nat.zero_le _, setRow_heap w g cur _ e _ hg, hroom, hcm, ?_, ?_⟩⟩, (Fr.refl _ w).setRow _ (.inl rfl), .inl rfl⟩
      · simp only [List.size_toArray, List.length_append, List.length_take, List.length_drop, Array.length_toList]
        omega
      · rw [htake, ← hlen]
        exact List.take_left
    · have hr := run_append_grow (P := P) w t ty e i z ht hi hz ⟨g, 0, none⟩ n cap xs hown.1 (hown.cells (g := g) rfl) a m c news hl hnews (by omega) (by omega) (hfit cap ⟨_, rfl⟩ hnc (by omega))
      exact ⟨_, _, hr, hgr cap, hfr cap, .inr rfl⟩

theorem run_append_mv {P : Program} (w : World) (t ty e : TypeId) (i : TypeInfo) (z : Value) (size bytes : Nat) (ht : P.underlying t = some (.slice e)) (hi : P.info? e = some i) (hz : i.zero = some z)
    (hsize : i.size = size) (hby : i.bytes = bytes) (hzs : z.cells.size = size) (hsz : 0 < size)
    (v : Value) (n : Nat) (xs : List Value) (hown : w.ownsRow 0 e size v n xs)
    (a : Addr) (m c : Nat) (news : List Value) (hl : news.length = m * size) (hnews : ∀ j u, news[j]? = some u → w.cell? (a.add j) = some u) (h1 : ∀ u ∈ news, u.oneCell' = true)
    (hroom : Room bytes n m) :
    ∃ v' w', (Builtin.append_ #[t, t] ty #[v, .slice (some a) m c]).run P w = .ok v' w' ∧ w'.ownsRow 0 e size v' (n + m) (xs ++ news) ∧ Fr (fun k => v.ownBlock = some k) w w' ∧
      (v'.ownBlock = v.ownBlock ∨ v'.ownBlock = some w.heap.size) :=
  run_append_mv0 w t ty e i z size bytes ht hi hz hsize hby hzs hsz v n xs hown a m c news hl hnews h1 ⟨hroom.1, fun cap _ => hroom.2 cap⟩

theorem step_append {P : Program} {ops : Array Oper} {o : Oper} {a : Act} {w : World} {K : Act → World → Prop} {Q : Exit → Act → World → Prop} (hw : Region.wanted o (yielded ops a.tmps) = true) (s x : Operand) (t : TypeId)
    (ho : o.op = .call { callee := .builtin .append, args := #[s, x], argTypes := #[t, t] })
    (e : TypeId) (i : TypeInfo) (z : Value) (size bytes : Nat) (ht : P.underlying t = some (.slice e)) (hi : P.info? e = some i) (hz : i.zero = some z)
    (hsize : i.size = size) (hby : i.bytes = bytes) (hzs : z.cells.size = size) (hsz : 0 < size)
    (v : Value) (n : Nat) (xs : List Value) (hs : a.eval s = v) (hown : w.ownsRow 0 e size v n xs)
    (ad : Addr) (m c : Nat) (news : List Value) (hx : a.eval x = .slice (some ad) m c) (hl : news.length = m * size) (hnews : ∀ j u, news[j]? = some u → w.cell? (ad.add j) = some u) (h1 : ∀ u ∈ news, u.oneCell' = true)
    (hroom : Room bytes n m)
    (h : ∀ v' w', w'.ownsRow 0 e size v' (n + m) (xs ++ news) → Fr (fun k => v.ownBlock = some k) w w' → (v'.ownBlock = v.ownBlock ∨ v'.ownBlock = some w.heap.size) → K (a.put o.dst v') w') :
    if Region.wanted o (yielded ops a.tmps) = true then Oper.wp P o a w K Q else K (a.put o.dst undef) w := by
  rw [if_pos hw]
  obtain ⟨v', w', hr, h2, h3, h4⟩ := run_append_mv (P := P) w t o.type e i z size bytes ht hi hz hsize hby hzs hsz v n xs hown ad m c news hl hnews h1 hroom
  unfold Oper.wp execOp
  simp only [ho, resolve, invoke, builtin, Sem.run_bind, Sem.run_pure, Result.andThen_ok, List.map_toArray, List.map_cons, List.map_nil, hs, hx, hr]
  exact h v' w' h2 h3 h4
/-- .. where the slice's own capacity is known. -/
theorem wpList_append0 {P : Program} {ops : Array Oper} {rest : List Oper} {o : Oper} {a : Act} {w : World} {Q : Exit → Act → World → Prop} (hgd : o.guard = none) (s x : Operand) (t : TypeId)
    (ho : o.op = .call { callee := .builtin .append, args := #[s, x], argTypes := #[t, t] })
    (e : TypeId) (i : TypeInfo) (z : Value) (size bytes : Nat) (ht : P.underlying t = some (.slice e)) (hi : P.info? e = some i) (hz : i.zero = some z)
    (hsize : i.size = size) (hby : i.bytes = bytes) (hzs : z.cells.size = size) (hsz : 0 < size)
    (v : Value) (n : Nat) (xs : List Value) (hs : a.eval s = v) (hown : w.ownsRow 0 e size v n xs)
    (ad : Addr) (m c : Nat) (news : List Value) (hx : a.eval x = .slice (some ad) m c) (hl : news.length = m * size) (hnews : ∀ j u, news[j]? = some u → w.cell? (ad.add j) = some u) (h1 : ∀ u ∈ news, u.oneCell' = true)
    (hroom : RoomAt bytes n m v)
    (h : ∀ v' w', w'.ownsRow 0 e size v' (n + m) (xs ++ news) → Fr (fun k => v.ownBlock = some k) w w' → (v'.ownBlock = v.ownBlock ∨ v'.ownBlock = some w.heap.size) → wpList P ops Q rest (a.put o.dst v') w') :
    wpList P ops Q (o :: rest) a w :=
  wpList_plain hgd fun K hK => by
    obtain ⟨v', w', hr, h2, h3, h4⟩ := run_append_mv0 (P := P) w t o.type e i z size bytes ht hi hz hsize hby hzs hsz v n xs hown ad m c news hl hnews h1 hroom
    unfold Oper.wp execOp
    simp only [ho, resolve, invoke, builtin, Sem.run_bind, Sem.run_pure, Result.andThen_ok, List.map_toArray, List.map_cons, List.map_nil, hs, hx, hr]
    exact hK _ _ (h v' w' h2 h3 h4)
/-- .. and outside such a region. -/
theorem wpList_append {P : Program} {ops : Array Oper} {rest : List Oper} {o : Oper} {a : Act} {w : World} {Q : Exit → Act → World → Prop} (hgd : o.guard = none) (s x : Operand) (t : TypeId)
    (ho : o.op = .call { callee := .builtin .append, args := #[s, x], argTypes := #[t, t] })
    (e : TypeId) (i : TypeInfo) (z : Value) (size bytes : Nat) (ht : P.underlying t = some (.slice e)) (hi : P.info? e = some i) (hz : i.zero = some z)
    (hsize : i.size = size) (hby : i.bytes = bytes) (hzs : z.cells.size = size) (hsz : 0 < size)
    (v : Value) (n : Nat) (xs : List Value) (hs : a.eval s = v) (hown : w.ownsRow 0 e size v n xs)
    (ad : Addr) (m c : Nat) (news : List Value) (hx : a.eval x = .slice (some ad) m c) (hl : news.length = m * size) (hnews : ∀ j u, news[j]? = some u → w.cell? (ad.add j) = some u) (h1 : ∀ u ∈ news, u.oneCell' = true)
    (hroom : Room bytes n m)
    (h : ∀ v' w', w'.ownsRow 0 e size v' (n + m) (xs ++ news) → Fr (fun k => v.ownBlock = some k) w w' → (v'.ownBlock = v.ownBlock ∨ v'.ownBlock = some w.heap.size) → wpList P ops Q rest (a.put o.dst v') w') :
    wpList P ops Q (o :: rest) a w :=
  wpList_plain hgd fun K hK => by
    obtain ⟨v', w', hr, h2, h3, h4⟩ := run_append_mv (P := P) w t o.type e i z size bytes ht hi hz hsize hby hzs hsz v n xs hown ad m c news hl hnews h1 hroom
    unfold Oper.wp execOp
    simp only [ho, resolve, invoke, builtin, Sem.run_bind, Sem.run_pure, Result.andThen_ok, List.map_toArray, List.map_cons, List.map_nil, hs, hx, hr]
    exact hK _ _ (h v' w' h2 h3 h4)
end Go.Proofs.Ytnpeeephkkmomaa
namespace Go.Proofs.Ytnpeeephkkmomaa
open Go.RowKit
set_option linter.unusedVariables false
set_option linter.unusedSimpArgs false

/-- Pieces of one length, one behind the other. -/
theorem drop_flatMap {α β : Type} (f : α → List β) (n : Nat) : ∀ (l : List α) (i : Nat), (∀ x ∈ l, (f x).length = n) → i ≤ l.length →
    (l.flatMap f).drop (n * i) = (l.drop i).flatMap f
  | l, 0, _, _ => by simp
  | [], i + 1, _, h => by simp at h
  | x :: l, i + 1, h, hi => by
    have h0 := h x (by simp)
    simp only [List.flatMap_cons, List.drop_succ_cons]
    rw [← drop_flatMap f n l i (fun y hy => h y (by simp [hy])) (by simpa using hi)]
    rw [show n * (i + 1) = (f x).length + n * i by rw [h0, Nat.mul_succ]; omega, List.drop_append]
    simp
theorem take_flatMap {α β : Type} (f : α → List β) (n : Nat) : ∀ (l : List α) (i : Nat), (∀ x ∈ l, (f x).length = n) → i ≤ l.length →
    (l.flatMap f).take (n * i) = (l.take i).flatMap f
  | l, 0, _, _ => by simp
  | [], i + 1, _, h => by simp at h
  | x :: l, i + 1, h, hi => by
    have h0 := h x (by simp)
    simp only [List.flatMap_cons, List.take_succ_cons]
    rw [← take_flatMap f n l i (fun y hy => h y (by simp [hy])) (by simpa using hi)]
    rw [show n * (i + 1) = (f x).length + n * i by rw [h0, Nat.mul_succ]; omega, List.take_length_add_append]
theorem length_flatMap_same {α β : Type} (f : α → List β) (n : Nat) : ∀ (l : List α), (∀ x ∈ l, (f x).length = n) → (l.flatMap f).length = n * l.length
  | [], _ => by simp
  | x :: l, h => by
    have h0 := h x (by simp)
    simp only [List.flatMap_cons, List.length_append, List.length_cons]
    rw [length_flatMap_same f n l (fun y hy => h y (by simp [hy])), h0, Nat.mul_succ]; omega
theorem piece_flatMap {α β : Type} (f : α → List β) (n : Nat) (l : List α) (i : Nat) (h : ∀ x ∈ l, (f x).length = n) (hi : i < l.length) :
    ((l.flatMap f).drop (n * i)).take n = f l[i] := by
  rw [drop_flatMap f n l i h (by omega), List.drop_eq_getElem_cons hi, List.flatMap_cons, ← h l[i] (List.getElem_mem hi), List.take_left]
theorem set_flatMap {α β : Type} (f : α → List β) (n : Nat) (l : List α) (i : Nat) (y : α) (h : ∀ x ∈ l, (f x).length = n) (hy : (f y).length = n) (hi : i < l.length) :
    (l.flatMap f).take (n * i) ++ f y ++ (l.flatMap f).drop (n * i + n) = (l.set i y).flatMap f := by
  rw [take_flatMap f n l i h (by omega), show n * i + n = n * (i + 1) by rw [Nat.mul_succ], drop_flatMap f n l (i + 1) h (by omega), List.set_eq_take_append_cons_drop, if_pos hi]
  simp

structure Dk where
  secs : List (List UInt8)
  buf : List (Nat × List UInt8)
  armed : Int
  down : Bool

/-- The sectors, one behind the other. -/
def secCells (s : List (List UInt8)) : Array Value := (s.flatMap Bs).toArray
/-- A write that waits. -/
def recOf (x : Nat × List UInt8) : List Value := Value.int .i64 (x.1 : Int) :: Bs x.2
def settled (s : List (List UInt8)) (l : List (Nat × List UInt8)) : List (List UInt8) := l.foldl (fun s x => s.set x.1 x.2) s

structure Dk.Ok (D : Dk) : Prop where
  one : 1 ≤ D.secs.length
  most : D.secs.length ≤ 65536
  len : ∀ s ∈ D.secs, s.length = 64
  buf : ∀ x ∈ D.buf, x.1 < D.secs.length ∧ x.2.length = 64
  armed : -1 ≤ D.armed ∧ D.armed ≤ 9223372036854775807

/-- The sectors, and what lies behind them in their block. -/
def secRow (s : List (List UInt8)) (sp : Array Value) : Array Value := secCells s ++ sp
/-- The disk at block 'b', its sectors at block 'lb', its writes under 'wv'. -/
structure IsDk (w : World) (b lb cl : Nat) (sp : Array Value) (wv : Value) (D : Dk) : Prop where
  ok : D.Ok
  head : w.heap[b]? = some (.cells #[.slice (some ⟨lb, 0, none⟩) D.secs.length cl, wv, .int .i64 D.armed, .bool D.down] 84 (0, 0))
  row : w.heap[lb]? = some (.cells (secRow D.secs sp) 87 (0, 0))
  own : w.ownsRow 0 89 65 wv D.buf.length (D.buf.flatMap recOf)
  ne : b ≠ lb ∧ wv.ownBlock ≠ some b ∧ wv.ownBlock ≠ some lb

theorem settled_length (l : List (Nat × List UInt8)) : ∀ s, (settled s l).length = s.length := by
  induction l with
  | nil => intro s; rfl
  | cons x l ih => intro s; show (settled (s.set x.1 x.2) l).length = _; rw [ih]; simp
theorem settled_len (l : List (Nat × List UInt8)) (hl : ∀ x ∈ l, x.2.length = 64) : ∀ s, (∀ x ∈ s, x.length = 64) → ∀ x ∈ settled s l, x.length = 64 := by
  induction l with
  | nil => intro s h; exact h
  | cons x l ih =>
    intro s h
    refine ih (fun y hy => hl y (by simp [hy])) (s.set x.1 x.2) (fun y hy => ?_)
    rcases List.mem_or_eq_of_mem_set hy with h1 | h1
    · exact h y h1
    · rw [h1]; exact hl x (by simp)
theorem settled_snoc (s : List (List UInt8)) (l : List (Nat × List UInt8)) (x : Nat × List UInt8) : settled s (l ++ [x]) = (settled s l).set x.1 x.2 := by
  simp [settled]

theorem secCells_size (s : List (List UInt8)) (h : ∀ x ∈ s, x.length = 64) : (secCells s).size = 64 * s.length := by
  simp only [secCells, List.size_toArray]
  exact length_flatMap_same Bs 64 s (fun x hx => by rw [Bs_length, h x hx])
theorem secCells_extract (s : List (List UInt8)) (h : ∀ x ∈ s, x.length = 64) (i : Nat) (hi : i < s.length) :
    (secCells s).extract (i * 64) (i * 64 + 64) = (Bs s[i]).toArray := by
  apply Array.toList_inj.1
  simp only [secCells, Array.toList_extract, List.extract_eq_take_drop]
  rw [show i * 64 + 64 - i * 64 = 64 by omega, Nat.mul_comm i 64]
  exact piece_flatMap Bs 64 s i (fun x hx => by rw [Bs_length, h x hx]) hi
theorem secCells_set (s : List (List UInt8)) (h : ∀ x ∈ s, x.length = 64) (i : Nat) (hi : i < s.length) (d : List UInt8) (hd : d.length = 64) :
    splice (secCells s) (i * 64) (Bs d) = secCells (s.set i d) := by
  apply Array.toList_inj.1
  rw [splice_toList]
  simp only [secCells, Bs_length, hd]
  rw [Nat.mul_comm i 64]
  exact set_flatMap Bs 64 s i d (fun x hx => by rw [Bs_length, h x hx]) (by rw [Bs_length, hd]) hi

theorem secRow_size (s : List (List UInt8)) (sp : Array Value) (h : ∀ x ∈ s, x.length = 64) : 64 * s.length ≤ (secRow s sp).size := by
  simp only [secRow, Array.size_append, secCells_size s h]; omega
theorem secRow_extract (s : List (List UInt8)) (sp : Array Value) (h : ∀ x ∈ s, x.length = 64) (i : Nat) (hi : i < s.length) :
    sub (secRow s sp) (i * 64) 64 = (Bs s[i]).toArray := by
  rw [← secCells_extract s h i hi]
  apply Array.toList_inj.1
  simp only [sub, secRow, Array.toList_extract, Array.toList_append, List.extract_eq_take_drop]
  have hs : (secCells s).toList.length = 64 * s.length := by simpa using secCells_size s h
  rw [show i * 64 + 64 - i * 64 = 64 by omega, List.drop_append_of_le_length (by omega), List.take_append_of_le_length (by simp only [List.length_drop]; omega)]
theorem splice_append (cs sp : Array Value) (o : Nat) (vs : List Value) (h : o + vs.length ≤ cs.size) : splice (cs ++ sp) o vs = splice cs o vs ++ sp := by
  apply Array.toList_inj.1
  rw [Array.toList_append, splice_toList, splice_toList, Array.toList_append]
  have hs : cs.toList.length = cs.size := by simp
  rw [List.take_append_of_le_length (by omega), List.drop_append_of_le_length (by omega)]
  simp
theorem secRow_set (s : List (List UInt8)) (sp : Array Value) (h : ∀ x ∈ s, x.length = 64) (i : Nat) (hi : i < s.length) (d : List UInt8) (hd : d.length = 64) :
    splice (secRow s sp) (i * 64) (Bs d) = secRow (s.set i d) sp := by
  have hs := secCells_size s h
  rw [secRow, splice_append _ _ _ _ (by rw [Bs_length, hd, hs]; omega), secCells_set s h i hi d hd]; rfl
theorem recOf_length (x : Nat × List UInt8) (h : x.2.length = 64) : (recOf x).length = 65 := by simp [recOf, Bs_length, h]
/-- A record of the writes that wait, as it is loaded. -/
theorem own_extract {w : World} {g cap : Nat} {l : List (Nat × List UInt8)} {cur : Array Value} (hl : ∀ x ∈ l, x.2.length = 64)
    (ht : cur.toList.take (l.length * 65) = l.flatMap recOf) (i : Nat) (hi : i < l.length) : cur.extract (i * 65) (i * 65 + 65) = (recOf l[i]).toArray := by
  apply Array.toList_inj.1
  simp only [Array.toList_extract, List.extract_eq_take_drop]
  have h1 := piece_flatMap recOf 65 l i (fun x hx => recOf_length x (hl x hx)) hi
  rw [← h1, ← ht, show i * 65 + 65 - i * 65 = 65 by omega, List.drop_take, List.take_take, Nat.mul_comm i 65, Nat.min_eq_left (by omega)]

/-- P3.2: why a sector can't be used. -/
def Dk.may (D : Dk) (i : Int) : Int := if D.down then 32 else if i < 0 ∨ (D.secs.length : Int) ≤ i then 31 else 0
/-- P3.3: a change. -/
def Dk.changed (D : Dk) : Dk := { D with armed := if 0 < D.armed then D.armed - 1 else D.armed, down := if 0 < D.armed then D.armed - 1 == 0 else D.down }
def Dk.flushed (D : Dk) : Dk := Dk.changed { D with secs := settled D.secs D.buf, buf := [] }
def pad64 (l : List UInt8) : List UInt8 := l ++ List.replicate (64 - l.length) 0
def Dk.written (D : Dk) (i : Nat) (l : List UInt8) : Dk := Dk.changed { D with buf := D.buf ++ [(i, pad64 l)] }
def Dk.armedAt (D : Dk) (n : Int) : Dk := if D.down then D else { D with armed := max n (-1), down := n == 0 }
/-- The last of the writes there, or else the sector. -/
def lastAt (l : List (Nat × List UInt8)) (i : Nat) (s : List UInt8) : List UInt8 := l.foldl (fun s x => if x.1 = i then x.2 else s) s
def Dk.told (D : Dk) (i : Nat) : List UInt8 := lastAt D.buf i (D.secs.getD i [])
def torn8 (torn : Int) : Nat := (min (max torn 0) 64).toNat / 8 * 8
def Dk.crashed (D : Dk) (keep torn : Int) : Dk :=
  let n := (min (max keep 0) D.buf.length).toNat
  let s := settled D.secs (D.buf.take n)
  { secs := match D.buf[n]? with
      | some x => s.set x.1 (x.2.take (torn8 torn) ++ (s.getD x.1 []).drop (torn8 torn))
      | none => s
    buf := [], armed := -1, down := false }

theorem Dk.Ok.changed {D : Dk} (h : D.Ok) : D.changed.Ok := by
  refine ⟨h.one, h.most, h.len, h.buf, ?_⟩
  have := h.armed
  simp only [Dk.changed]
  split <;> omega
theorem Dk.Ok.atSettled {D : Dk} (h : D.Ok) (n : Nat) (l : List (Nat × List UInt8)) (hl : ∀ x ∈ l, x.1 < D.secs.length ∧ x.2.length = 64) :
    Dk.Ok { D with secs := settled D.secs (D.buf.take n), buf := l } := by
  refine ⟨?_, ?_, ?_, ?_, h.armed⟩
  · show 1 ≤ (settled _ _).length; rw [settled_length]; exact h.one
  · show (settled _ _).length ≤ _; rw [settled_length]; exact h.most
  · exact settled_len _ (fun x hx => (h.buf x (List.mem_of_mem_take hx)).2) _ h.len
  · intro x hx; show _ < (settled _ _).length ∧ _; rw [settled_length]; exact hl x hx
theorem pad64_length (l : List UInt8) (h : l.length ≤ 64) : (pad64 l).length = 64 := by simp [pad64]; omega

def zSecs (c : Int) : List (List UInt8) := List.replicate c.toNat (List.replicate 64 0)
theorem zSecs_length (c : Int) : (zSecs c).length = c.toNat := by simp [zSecs]
theorem zSecs_len (c : Int) : ∀ s ∈ zSecs c, s.length = 64 := by
  intro s hs; rw [List.eq_of_mem_replicate hs, List.length_replicate]
theorem secCells_zero (k : Nat) : secCells (List.replicate k (List.replicate 64 0)) = (List.replicate (k * 64) (Value.int .u8 0)).toArray := by
  unfold secCells
  congr 1
  induction k with
  | zero => rfl
  | succ k ih =>
    rw [List.replicate_succ, List.flatMap_cons, ih, Nat.succ_mul, Nat.add_comm, ← List.replicate_append_replicate]
    congr 1

/-- The blocks of a disk. -/
def dkFoot (b lb : Nat) (wv : Value) (k : Nat) : Prop := k = b ∨ k = lb ∨ wv.ownBlock = some k
/-- From one footprint to the next. -/
structure Mv (F G : Nat → Prop) (w w' : World) : Prop where
  fr : Fr F w w'
  piv : ∀ k, G k → F k ∨ w.heap.size ≤ k
theorem Mv.trans {F G H : Nat → Prop} {a b c : World} (h : Mv F G a b) (k : Mv G H b c) : Mv F H a c :=
  ⟨h.fr.trans k.fr h.piv, fun i hi => by
    rcases k.piv i hi with h1 | h1
    · exact h.piv i h1
    · exact .inr (Nat.le_trans h.fr.size h1)⟩
theorem Mv.refl (F : Nat → Prop) (w : World) : Mv F F w w := ⟨Fr.refl F w, fun _ h => .inl h⟩
theorem Mv.of_fr {F : Nat → Prop} {w w' : World} (h : Fr F w w') : Mv F F w w' := ⟨h, fun _ h => .inl h⟩

theorem ownsRow_fr {w w' : World} {F : Nat → Prop} {base : Nat} {e : TypeId} {size : Nat} {v : Value} {n : Nat} {xs : List Value}
    (h : w.ownsRow base e size v n xs) (hf : Fr F w w') (hF : ∀ k, v.ownBlock = some k → ¬ F k) : w'.ownsRow base e size v n xs := by
  refine ⟨h.1, ?_⟩
  rcases h.2 with hn | ⟨g, cap, cur, rfl, hb, hg, rest⟩
  · exact .inl hn
  · exact .inr ⟨g, cap, cur, rfl, hb, hf.at hg (hF g rfl), rest⟩

theorem ownsRow_slice {w : World} {base : Nat} {e : TypeId} {size : Nat} {v : Value} {n : Nat} {xs : List Value} (h : w.ownsRow base e size v n xs) : ∃ ao cap, v = .slice ao n cap := by
  rcases h.2 with ⟨rfl, rfl⟩ | ⟨g, cap, cur, rfl, _⟩
  · exact ⟨none, 0, rfl⟩
  · exact ⟨_, cap, rfl⟩

/-- A disk outside of what turned. -/
theorem IsDk.fr {w w' : World} {F : Nat → Prop} {b lb cl : Nat} {sp : Array Value} {wv : Value} {D : Dk} (h : IsDk w b lb cl sp wv D) (hf : Fr F w w') (hF : ∀ k, dkFoot b lb wv k → ¬ F k) : IsDk w' b lb cl sp wv D :=
  ⟨h.ok, hf.at h.head (hF b (.inl rfl)), hf.at h.row (hF lb (.inr (.inl rfl))), ownsRow_fr h.own hf (fun k hk => hF k (.inr (.inr hk))), h.ne⟩
theorem IsDk.alloc {w : World} {b lb cl : Nat} {sp : Array Value} {wv : Value} {D : Dk} (h : IsDk w b lb cl sp wv D) (o : Obj) : IsDk (w.alloc o) b lb cl sp wv D :=
  h.fr (F := fun _ => False) ((Fr.refl _ w).alloc o) (fun _ _ h => h)
theorem IsDk.lt {w : World} {b lb cl : Nat} {sp : Array Value} {wv : Value} {D : Dk} (h : IsDk w b lb cl sp wv D) : ∀ k, dkFoot b lb wv k → k < w.heap.size := by
  rintro k (rfl | rfl | hk)
  · exact lt_of_block h.head
  · exact lt_of_block h.row
  · exact (h.own.lt k hk).2

/-- A slice of bytes that reads as a list. -/
structure IsBytes (w : World) (v : Value) (l : List UInt8) : Prop where
  is : ∃ ao cap, v = .slice ao l.length cap ∧ l.length ≤ cap ∧ cap ≤ 9223372036854775807 ∧ (ao = none → l = []) ∧
    ∀ a, ao = some a → ∀ j v, (Bs l)[j]? = some v → w.cell? (a.add j) = some v
theorem block_add (a : Addr) (n : Nat) : (a.add n).block = a.block := by unfold Addr.add; split <;> rfl
theorem IsBytes.fr {w w' : World} {F : Nat → Prop} {v : Value} {l : List UInt8} (h : IsBytes w v l) (hf : Fr F w w') (hF : ∀ k, v.ownBlock = some k → ¬ F k) : IsBytes w' v l := by
  obtain ⟨ao, cap, rfl, h1, h2, h3, h4⟩ := h.is
  refine ⟨ao, cap, rfl, h1, h2, h3, fun a ha j u hu => ?_⟩
  have hc := h4 a ha j u hu
  subst ha
  have hlt := World.block_lt_of_cell? w _ hc
  have hk := hf.block _ hlt (by rw [block_add]; exact hF _ rfl)
  rw [World.cell?_of_block hk]; exact hc
/-- Read in an older world. -/
theorem IsBytes.old {w w' : World} {F : Nat → Prop} {v : Value} {l : List UInt8} (h : IsBytes w v l) (hf : Fr F w w') (hF : ∀ k, k < w.heap.size → ¬ F k) : IsBytes w' v l := by
  obtain ⟨ao, cap, rfl, h1, h2, h3, h4⟩ := h.is
  refine ⟨ao, cap, rfl, h1, h2, h3, fun a ha j u hu => ?_⟩
  have hc := h4 a ha j u hu
  have hlt := World.block_lt_of_cell? w _ hc
  have hk := hf.block _ hlt (hF _ hlt)
  rw [World.cell?_of_block hk]; exact hc
theorem IsBytes.alloc {w : World} {v : Value} {l : List UInt8} (h : IsBytes w v l) (o : Obj) : IsBytes (w.alloc o) v l :=
  h.fr (F := fun _ => False) ((Fr.refl _ w).alloc o) (fun _ _ h => h)

theorem splice_nil (cs : Array Value) (o : Nat) : splice cs o [] = cs := by simp [splice]
theorem run_copy_bytes {P : Program} (w : World) (dT sT ty elem : TypeId) (g o dLen dCap : Nat) (v : Value) (l : List UInt8) (hb : IsBytes w v l)
    (hu : P.underlying dT = some (.slice elem)) (hs : (P.info? elem).map (·.size) = some 1) (cs : Array Value) (T : TypeId)
    (hg : w.heap[g]? = some (.cells cs T (0, 0))) (hfit : o + min l.length dLen ≤ cs.size) :
    (Builtin.copy_ #[dT, sT] ty #[.slice (some ⟨g, o, none⟩) dLen dCap, v]).run P w = .ok (goInt (min l.length dLen : Nat)) (w.setRow g (splice cs o (Bs (l.take dLen)))) := by
  obtain ⟨ao, cap, rfl, h1, h2, h3, h4⟩ := hb.is
  cases ao with
  | none =>
    obtain rfl := h3 rfl
    have := run_copy_none (P := P) w dT sT ty elem (some ⟨g, o, none⟩) none dLen dCap 0 cap hu hs (by simp)
    simp only [List.length_nil, List.take_nil, Bs_nil, splice_nil, Nat.zero_min]
    rw [setRow_self w g cs T (0, 0) hg]
    exact this
  | some a =>
    have hlen : (Bs (l.take dLen)).length = min l.length dLen := by rw [Bs_length, List.length_take, Nat.min_comm]
    have := run_copy_row (P := P) w dT sT ty elem g o dLen dCap a l.length cap cs T (Bs (l.take dLen)) hu hs hg (by rw [hlen]) (fun j u hu => by
      refine h4 a rfl j u ?_
      rw [Bs_take, List.getElem?_take] at hu
      split at hu
      · exact hu
      · cases hu) (by rw [hlen]; exact hfit) (Bs_one _)
    rw [hlen] at this
    unfold splice
    rw [hlen]
    exact this
theorem step_copy_bytes {P : Program} {ops : Array Oper} {Q : Exit → Act → World → Prop} {a : Act} {w : World} {K : Act → World → Prop} {oo : Oper} (hw : Region.wanted oo (yielded ops a.tmps) = true) (x y : Operand) (dT sT elem : TypeId)
    (ho : oo.op = .call { callee := .builtin .copy, args := #[x, y], argTypes := #[dT, sT] })
    (hu : P.underlying dT = some (.slice elem)) (hs : (P.info? elem).map (·.size) = some 1)
    (g o dLen dCap : Nat) (hx : a.eval x = .slice (some ⟨g, o, none⟩) dLen dCap) (v : Value) (l : List UInt8) (hy : a.eval y = v) (hb : IsBytes w v l) (cs : Array Value) (T : TypeId)
    (hg : w.heap[g]? = some (.cells cs T (0, 0))) (hfit : o + min l.length dLen ≤ cs.size)
    (hk : K (a.put oo.dst (goInt (min l.length dLen : Nat))) (w.setRow g (splice cs o (Bs (l.take dLen))))) :
    if Region.wanted oo (yielded ops a.tmps) = true then Oper.wp P oo a w K Q else K (a.put oo.dst undef) w := by
  rw [if_pos hw]
  have hr := run_copy_bytes (P := P) w dT sT oo.type elem g o dLen dCap v l hb hu hs cs T hg hfit
  unfold Oper.wp execOp
  simp only [ho, resolve, invoke, builtin, Sem.run_bind, Sem.run_pure, Result.andThen_ok, List.map_toArray, List.map_cons, List.map_nil, hx, hy, hr]
  exact hk
theorem wpList_copy_bytes {P : Program} {ops : Array Oper} {Q : Exit → Act → World → Prop} {a : Act} {w : World} {rest : List Oper} {oo : Oper} (hgd : oo.guard = none) (x y : Operand) (dT sT elem : TypeId)
    (ho : oo.op = .call { callee := .builtin .copy, args := #[x, y], argTypes := #[dT, sT] })
    (hu : P.underlying dT = some (.slice elem)) (hs : (P.info? elem).map (·.size) = some 1)
    (g o dLen dCap : Nat) (hx : a.eval x = .slice (some ⟨g, o, none⟩) dLen dCap) (v : Value) (l : List UInt8) (hy : a.eval y = v) (hb : IsBytes w v l) (cs : Array Value) (T : TypeId)
    (hg : w.heap[g]? = some (.cells cs T (0, 0))) (hfit : o + min l.length dLen ≤ cs.size)
    (hk : wpList P ops Q rest (a.put oo.dst (goInt (min l.length dLen : Nat))) (w.setRow g (splice cs o (Bs (l.take dLen))))) : wpList P ops Q (oo :: rest) a w :=
  wpList_plain hgd fun K hK => by
    have hr := run_copy_bytes (P := P) w dT sT oo.type elem g o dLen dCap v l hb hu hs cs T hg hfit
    unfold Oper.wp execOp
    simp only [ho, resolve, invoke, builtin, Sem.run_bind, Sem.run_pure, Result.andThen_ok, List.map_toArray, List.map_cons, List.map_nil, hx, hy, hr]
    exact hK _ _ hk

/-- A string of bytes. -/
def str (l : List UInt8) : Value := .string ⟨l.toArray⟩
section
variable (P : Program) (t : TypeId) (xo yo : Operand) (w : World)
theorem eqO_string (a b : ByteArray) : eqO P .eql t xo yo (.string a) (.string b) w = .ok (.value (.bool (a.data.toList == b.data.toList))) w := by
  simp [eqO, eqGuard, binOp, Op.stringOp, ByteArray.toList_eq]
theorem neO_string (a b : ByteArray) : eqO P .neq t xo yo (.string a) (.string b) w = .ok (.value (.bool (a.data.toList != b.data.toList))) w := by
  simp [eqO, eqGuard, binOp, Op.stringOp, ByteArray.toList_eq, bne]
theorem eqO_str (a b : List UInt8) : eqO P .eql t xo yo (str a) (str b) w = .ok (.value (.bool (a == b))) w := by
  unfold str; rw [eqO_string]
theorem neO_str (a b : List UInt8) : eqO P .neq t xo yo (str a) (str b) w = .ok (.value (.bool (a != b))) w := by
  unfold str; rw [neO_string]
end
attribute [go_sem] eqO_string neO_string eqO_str neO_str
/-- Noughts. -/
def zB (c : Int) : List UInt8 := List.replicate c.toNat 0
theorem zB_length (c : Int) : (zB c).length = c.toNat := by simp [zB]
theorem Bs_zB (c : Int) : (List.replicate c.toNat (Value.int .u8 0)).toArray = (Bs (zB c)).toArray := by simp [Bs, zB, List.map_replicate]
theorem splice_pad64 (l : List UInt8) (h : l.length ≤ 64) : splice (Bs (zB 64)).toArray 0 (Bs l) = (Bs (pad64 l)).toArray := by
  apply Array.toList_inj.1
  rw [splice_toList]
  simp only [Bs_length, List.take_zero, List.nil_append, Nat.zero_add, zB, ← Bs_drop, ← Bs_append, pad64]
  rw [show (64 : Int).toNat = 64 from rfl, List.drop_replicate]
def cvStr (P : Program) (s t : TypeId) (v : Value) (w : World) : Result Next := (do pure (.value (← convert s t v)) : Sem Next).run P w
theorem cvStr_go {P : Program} (s e t : TypeId) (hs : P.underlying s = some (.slice e)) (he : P.underlying e = some (.int .u8)) (ht : P.underlying t = some .string) (w : World) (v : Value) (l : List UInt8) (h : IsBytes w v l) :
    cvStr P s t v w = .ok (.value (str l)) w := by
  obtain ⟨ao, cap, rfl, h1, h2, h3, h4⟩ := h.is
  unfold cvStr
  cases ao with
  | none =>
    obtain rfl := h3 rfl
    simp only [Sem.run_bind, run_convert_bytes_nil w s e hs he _ _ t ht, Result.andThen_ok, Sem.run_pure]; rfl
  | some a =>
    have hd := run_convert_bytes_string w s t e (some a) l.length cap hs he ht
    have hb := run_bytesToString (P := P) w a l.length cap (l.map fun c => (c.toNat : Int)) (by
      have := run_loadCells_list (P := P) w a (Bs l) (h4 a rfl)
      rw [Bs_length] at this
      rw [this, List.map_map]; rfl)
    simp only [Sem.run_bind, hd, hb, Result.andThen_ok, Sem.run_pure]
    congr 2
    unfold str
    congr 1
    have : ∀ (l : List UInt8) (r : ByteArray), (l.map fun c => (c.toNat : Int)).foldl (fun r n => r.push (UInt8.ofNat n.toNat)) r = ⟨r.data ++ l.toArray⟩ := by
      intro l
      induction l with
      | nil => intro r; simp
      | cons c l ih => intro r; simp only [List.map_cons, List.foldl_cons, ih]; simp [ByteArray.push]
    rw [this]; simp [ByteArray.empty, ByteArray.emptyWithCapacity]; rfl
theorem IsBytes.of_row {w : World} {g : Nat} {l : List UInt8} {T : TypeId} {fr : Nat × Nat} (h : w.heap[g]? = some (.cells (Bs l).toArray T fr)) (n cap : Nat) (hn : n ≤ l.length) (hc : n ≤ cap) (hc' : cap ≤ 9223372036854775807) :
    IsBytes w (.slice (some ⟨g, 0, none⟩) n cap) (l.take n) := by
  have hl : (l.take n).length = n := by rw [List.length_take]; omega
  refine ⟨some ⟨g, 0, none⟩, cap, by rw [hl], by rw [hl]; exact hc, hc', by simp, ?_⟩
  rintro a ha j v hv
  cases ha
  rw [Addr.add_mk, Nat.zero_add, cells_at h]
  rw [Bs_take, List.getElem?_take] at hv
  split at hv
  · simpa using hv
  · cases hv
theorem IsBytes.nil (w : World) : IsBytes w (.slice none 0 0) [] := ⟨none, 0, rfl, Nat.le_refl _, by decide, fun _ => rfl, fun a h => by cases h⟩
theorem IsBytes.of_cells {w : World} {g : Nat} {l : List UInt8} {T : TypeId} {fr : Nat × Nat} (h : w.heap[g]? = some (.cells (Bs l).toArray T fr)) (hl : l.length ≤ 9223372036854775807) :
    IsBytes w (.slice (some ⟨g, 0, none⟩) l.length l.length) l := by
  have := IsBytes.of_row h l.length l.length (Nat.le_refl _) (Nat.le_refl _) hl
  rwa [List.take_length] at this

/-- Whatever was there before stands; what is owned is new. -/
structure Own (W w : World) (F : Nat → Prop) : Prop where
  fr : Fr (fun _ => False) W w
  new : ∀ k, F k → W.heap.size ≤ k
theorem Own.step {W w w' : World} {F G : Nat → Prop} (h : Own W w F) (m : Mv F G w w') : Own W w' G :=
  ⟨h.fr.trans m.fr (fun k hk => .inr (h.new k hk)), fun k hk => (m.piv k hk).elim (h.new k) (fun hs => Nat.le_trans h.fr.size hs)⟩
theorem Own.still {W w w' : World} {F : Nat → Prop} (h : Own W w F) (m : Fr (fun _ => False) w w') : Own W w' F :=
  ⟨h.fr.trans m (fun _ hk => hk.elim), h.new⟩
theorem Own.cell {W w : World} {F : Nat → Prop} (h : Own W w F) {a : Addr} {v : Value} (hc : W.cell? a = some v) : w.cell? a = some v := by
  have hlt := World.block_lt_of_cell? W _ hc
  rw [World.cell?_of_block (h.fr.block _ hlt (fun h => h))]; exact hc
theorem Own.bytes {W w : World} {F : Nat → Prop} (h : Own W w F) {v : Value} {l : List UInt8} (hb : IsBytes W v l) : IsBytes w v l := hb.old h.fr (fun _ _ h => h)
theorem Own.begin (W : World) (F : Nat → Prop) (h : ∀ k, ¬ F k) : Own W W F := ⟨Fr.refl _ W, fun k hk => (h k hk).elim⟩
theorem Own.grow {W w w' : World} {F G : Nat → Prop} (h : Own W w F) (m : Fr (fun _ => False) w w') (hG : ∀ k, G k → F k ∨ w.heap.size ≤ k) : Own W w' G :=
  ⟨h.fr.trans m (fun _ hk => hk.elim), fun k hk => (hG k hk).elim (h.new k) (fun hs => Nat.le_trans h.fr.size hs)⟩
end Go.Proofs.Ytnpeeephkkmomaa
namespace Go.Proofs.Ytnpeeephkkmomaa
open Go.RowKit

theorem info84 : (Try.prog.info? 84).map (·.size) = some 4 := by kernel_rfl
theorem info87 : (Try.prog.info? 87).map (·.size) = some 64 := by kernel_rfl
theorem info89 : (Try.prog.info? 89).map (·.size) = some 65 := by kernel_rfl
def zc87' : Array Value := (List.replicate 64 (Value.int .u8 0)).toArray
theorem zc87_size : zc87'.size = 64 := by kernel_rfl
theorem zero87 : (Try.prog.info? 87).bind (·.zero) = some (.agg zc87') := by kernel_rfl
theorem zc89_size : Try.zeroCells89.size = 65 := by kernel_rfl
theorem zc89 : Try.zeroCells89 = (Value.int .i64 0 :: List.replicate 64 (Value.int .u8 0)).toArray := by kernel_rfl
theorem zc87_one : oneCells zc87' := by
  intro v hv; rw [List.eq_of_mem_replicate hv]; rfl
theorem zc89_one : oneCells Try.zeroCells89 := by
  rw [zc89]; intro v hv
  simp only [List.mem_cons] at hv
  rcases hv with rfl | hv
  · rfl
  · rw [List.eq_of_mem_replicate hv]; rfl
theorem zero89 : (Try.prog.info? 89).bind (·.zero) = some (.agg Try.zeroCells89) := by kernel_rfl
def W89 (i : Int) : Array Value := (Value.int .i64 i :: List.replicate 64 (Value.int .u8 0)).toArray
theorem W89_size (i : Int) : (W89 i).size = 65 := by simp [W89]
theorem W89_one (i : Int) : oneCells (W89 i) := by
  intro v hv
  simp only [W89, List.mem_cons] at hv
  rcases hv with rfl | hv
  · rfl
  · rw [List.eq_of_mem_replicate hv]; rfl
theorem zc89_set (i : Int) : Try.zeroCells89.setIfInBounds 0 (.int .i64 i) = W89 i := by rw [zc89]; rfl
theorem u82 : Try.prog.underlying 82 = some (.slice 89) := Try.underlying82
theorem u81 : Try.prog.underlying 81 = some (.slice 87) := Try.underlying81

section
variable (w : World) (g o : Nat) (vs : Array Value) (ρ : Operand → Value) (d : Option Tmp) (x y : Operand) (ty : TypeId) (p : String) (af : Array Edge) (gd : Option (Nat × Bool))
theorem xld84 : (execOp ρ ⟨d, .load 84 x, ty, p, af, gd⟩).run Try.prog w = ldRec Try.prog 84 (ρ x) w := rfl
theorem xst84 : (execOp ρ ⟨d, .store 84 x y, ty, p, af, gd⟩).run Try.prog w = stRec Try.prog 84 (ρ x) (ρ y) w := rfl
theorem ld84 (h1 : isRow w.heap[g]? = true) (h2 : o + 4 ≤ (cellsOf w.heap[g]?).size) : ldRec Try.prog 84 (.pointer (some ⟨g, o, none⟩)) w = .ok (.value (.agg (sub (cellsOf w.heap[g]?) o 4))) w :=
  ldRec_go 84 _ 4 Try.underlying84 rfl info84 w g o h1 h2
theorem st84 (h1 : isFree w.heap[g]? = true) (h2 : o + 4 ≤ (cellsOf w.heap[g]?).size) (h3 : vs.size = 4) (h4 : oneCells vs) :
    stRec Try.prog 84 (.pointer (some ⟨g, o, none⟩)) (.agg vs) w = .ok .skip (w.setRow g (splice (cellsOf w.heap[g]?) o vs.toList)) := stRec_go 84 4 info84 w g o vs h1 h2 h3 h4
theorem xld87 : (execOp ρ ⟨d, .load 87 x, ty, p, af, gd⟩).run Try.prog w = ldRec Try.prog 87 (ρ x) w := rfl
theorem xst87 : (execOp ρ ⟨d, .store 87 x y, ty, p, af, gd⟩).run Try.prog w = stRec Try.prog 87 (ρ x) (ρ y) w := rfl
theorem ld87 (h1 : isRow w.heap[g]? = true) (h2 : o + 64 ≤ (cellsOf w.heap[g]?).size) : ldRec Try.prog 87 (.pointer (some ⟨g, o, none⟩)) w = .ok (.value (.agg (sub (cellsOf w.heap[g]?) o 64))) w :=
  ldRec_go 87 _ 64 Try.underlying87 rfl info87 w g o h1 h2
theorem st87 (h1 : isFree w.heap[g]? = true) (h2 : o + 64 ≤ (cellsOf w.heap[g]?).size) (h3 : vs.size = 64) (h4 : oneCells vs) :
    stRec Try.prog 87 (.pointer (some ⟨g, o, none⟩)) (.agg vs) w = .ok .skip (w.setRow g (splice (cellsOf w.heap[g]?) o vs.toList)) := stRec_go 87 64 info87 w g o vs h1 h2 h3 h4
theorem xld89 : (execOp ρ ⟨d, .load 89 x, ty, p, af, gd⟩).run Try.prog w = ldRec Try.prog 89 (ρ x) w := rfl
theorem xst89 : (execOp ρ ⟨d, .store 89 x y, ty, p, af, gd⟩).run Try.prog w = stRec Try.prog 89 (ρ x) (ρ y) w := rfl
theorem ld89 (h1 : isRow w.heap[g]? = true) (h2 : o + 65 ≤ (cellsOf w.heap[g]?).size) : ldRec Try.prog 89 (.pointer (some ⟨g, o, none⟩)) w = .ok (.value (.agg (sub (cellsOf w.heap[g]?) o 65))) w :=
  ldRec_go 89 _ 65 Try.underlying89 rfl info89 w g o h1 h2
theorem st89 (h1 : isFree w.heap[g]? = true) (h2 : o + 65 ≤ (cellsOf w.heap[g]?).size) (h3 : vs.size = 65) (h4 : oneCells vs) :
    stRec Try.prog 89 (.pointer (some ⟨g, o, none⟩)) (.agg vs) w = .ok .skip (w.setRow g (splice (cellsOf w.heap[g]?) o vs.toList)) := stRec_go 89 65 info89 w g o vs h1 h2 h3 h4
theorem xal87 : (execOp ρ ⟨d, .alloc 87, ty, p, af, gd⟩).run Try.prog w = alRec Try.prog 87 w := rfl
theorem al87 : alRec Try.prog 87 w = .ok (.value (.pointer (some ⟨w.heap.size, 0, none⟩))) (w.alloc (.cells zc87' 87 (0, 0))) := alRec_go 87 zc87' zero87 w
theorem xal89 : (execOp ρ ⟨d, .alloc 89, ty, p, af, gd⟩).run Try.prog w = alRec Try.prog 89 w := rfl
theorem al89 : alRec Try.prog 89 w = .ok (.value (.pointer (some ⟨w.heap.size, 0, none⟩))) (w.alloc (.cells Try.zeroCells89 89 (0, 0))) := alRec_go 89 Try.zeroCells89 zero89 w
theorem xmk81 : (execOp ρ ⟨d, .makeSlice 81 x y, ty, p, af, gd⟩).run Try.prog w = mkRec Try.prog 81 (ρ x) (ρ y) w := rfl
theorem info87'' : (Try.prog.info? 87).map (fun i => (i.zero, i.size, i.bytes)) = some (some (.agg zc87'), 64, 64) := by kernel_rfl
theorem mk81 (c : Int) (h0 : 0 ≤ c) (h1 : c ≤ 65536) : mkRec Try.prog 81 (.int .i64 c) (.int .i64 c) w =
    .ok (.value (.slice (some ⟨w.heap.size, 0, none⟩) c.toNat c.toNat)) (w.alloc (.cells (secCells (zSecs c)) 87 (0, 0))) := by
  obtain ⟨i, hi, hz, hs, hb⟩ := info_parts info87''
  have := mkRec_go (P := Try.prog) 81 87 i _ Try.underlying81 hi hz w .i64 .i64 c c h0 (Int.le_refl _) (by rw [hb]; omega) (by omega)
  rw [this, hs, zSecs, secCells_zero, show (Value.agg zc87').cells = zc87' from rfl, madeCells_const zc87' (.int .u8 0) _ rfl (by rw [zc87_size]; decide)]
theorem sl87 (g o k : Nat) (kk : IntKind) (hk : k ≤ 64) : (Instr.sliceAt 87 (.pointer (some ⟨g, o, none⟩)) none (some (.int kk (k : Int))) none).run Try.prog w = .ok (.slice (some ⟨g, o, none⟩) k 64) w :=
  run_sliceAt_hi 87 5 64 Try.underlying87 (by kernel_rfl) w g o k kk hk
theorem xcv309 : (execOp ρ ⟨d, .convert 30 9 x, ty, p, af, gd⟩).run Try.prog w = cvStr Try.prog 30 9 (ρ x) w := rfl
theorem cv309 (v : Value) (l : List UInt8) (h : IsBytes w v l) : cvStr Try.prog 30 9 v w = .ok (.value (str l)) w := cvStr_go 30 5 9 Try.underlying30 Try.underlying5 Try.underlying9 w v l h
theorem xmk30 : (execOp ρ ⟨d, .makeSlice 30 x y, ty, p, af, gd⟩).run Try.prog w = mkRec Try.prog 30 (ρ x) (ρ y) w := rfl
theorem info5'' : (Try.prog.info? 5).map (fun i => (i.zero, i.size, i.bytes)) = some (some (.int .u8 0), 1, 1) := by kernel_rfl
theorem mk30 (l c : Int) (h0 : 0 ≤ l) (h1 : l ≤ c) (h2 : c ≤ 281474976710656) : mkRec Try.prog 30 (.int .i64 l) (.int .i64 c) w =
    .ok (.value (.slice (some ⟨w.heap.size, 0, none⟩) l.toNat c.toNat)) (w.alloc (.cells (Bs (zB c)).toArray 5 (0, 0))) := by
  obtain ⟨i, hi, hz, hs, hb⟩ := info_parts info5''
  have := mkRec_go (P := Try.prog) 30 5 i _ Try.underlying30 hi hz w .i64 .i64 l c h0 h1 (by rw [hb]; omega) (by omega)
  rw [this, hs, Nat.mul_one, show (Value.int IntKind.u8 0).cells = #[.int .u8 0] from rfl, madeCells_const #[.int .u8 0] (.int .u8 0) _ rfl (by decide), Bs_zB]
theorem xeq9 : (execOp ρ ⟨d, .binOp .eql 9 x y 9, ty, p, af, gd⟩).run Try.prog w = eqO Try.prog .eql 9 x y (ρ x) (ρ y) w := rfl
theorem xne9 : (execOp ρ ⟨d, .binOp .neq 9 x y 9, ty, p, af, gd⟩).run Try.prog w = eqO Try.prog .neq 9 x y (ρ x) (ρ y) w := rfl
theorem xbs82 : (execOp ρ ⟨d, .buildSlice 82 1 #[(0, x)], ty, p, af, gd⟩).run Try.prog w = bsOne Try.prog 82 (ρ x) w := by
  unfold execOp bsOne; simp only [List.map_toArray, List.map_cons, List.map_nil]
theorem bs82 (h : vs.size = 65) : bsOne Try.prog 82 (.agg vs) w = .ok (.value (.slice (some ⟨w.heap.size, 0, none⟩) 1 1)) (w.alloc (.cells vs 89 (0, 0))) :=
  bsOne_go 82 89 65 Try.underlying82 info89 (by kernel_rfl) (by decide) (by decide) vs h w
end
attribute [go_sem ↓] xmk30 xeq9 xne9 xcv309 xmk81 xld84 xst84 xld87 xst87 xld89 xst89 xal87 xal89 xbs82
attribute [go_sem] mk30 cv309 sl87 mk81 ld84 st84 ld87 st87 ld89 st89 al87 al89 bs82
attribute [go_sem] zc87_size zc89_size zc87_one zc89_one W89_size W89_one zc89_set
theorem info89' : (Try.prog.info? 89).map (fun i => (i.zero, i.size, i.bytes)) = some (some (.agg Try.zeroCells89), 65, 72) := by kernel_rfl
end Go.Proofs.Ytnpeeephkkmomaa
namespace Go.Proofs.Ytnpeeephkkmomaa
open Go.RowKit
set_option linter.unusedVariables false
set_option linter.unusedSimpArgs false

def SettleAt (lb : Nat) (sp : Array Value) (D : Dk) (w : World) (k : Nat) (wr : World) : Prop :=
  wr.heap[lb]? = some (.cells (secRow (settled D.secs (D.buf.take k)) sp) 87 (0, 0)) ∧ Fr (fun i => i = lb) w wr

set_option maxRecDepth 100000 in
set_option maxHeartbeats 400000 in
theorem settle_some (b lb cl : Nat) (sp : Array Value) (g cap : Nat) (D : Dk) (w : World) (n : Nat) (h : IsDk w b lb cl sp (.slice (some ⟨g, 0, none⟩) D.buf.length cap) D) (hn : n ≤ D.buf.length) :
    Calls Try.prog 49 #[.pointer (some ⟨b, 0, none⟩), .int .i64 n] w fun e w' => e = .returned (.tuple #[]) ∧ SettleAt lb sp D w n w' := by
  obtain ⟨ok, head, row, own, ne1, ne2, ne3⟩ := h
  rcases own.2 with ⟨h, _⟩ | ⟨g', cap', cur, hv, _, hg, hnc, hcm, hcs, htake⟩
  · cases h
  obtain ⟨rfl, rfl⟩ : g = g' ∧ cap = cap' := by simpa using hv
  replace hcm : cap ≤ 9223372036854775807 := by simpa [maxLen] using hcm
  go_enter Try.func49, Try.ntmps49
  go_wp2
  go_loopw [13] (fun i wr => ∃ k : Nat, k ≤ n ∧ i = .int .i64 k ∧ SettleAt lb sp D w k wr) (fun i _ => n - (intOf i).toNat)
  case atStart => exact ⟨0, Nat.zero_le _, rfl, by simpa [settled] using row, Fr.refl _ _⟩
  case round =>
    obtain ⟨k, hk, rfl, hrow, hfr⟩ := hrel
    rename_i wr
    have ghead := hfr.at head (fun e => ne1 e)
    have gg := hfr.at hg (fun e => ne3 (by rw [e]; rfl))
    by_cases hlt : k < n
    · have hkk : k < D.buf.length := by omega
      have hx := own_extract (w := w) (g := g) (cap := cap) (fun x hx => (ok.buf x hx).2) htake k hkk
      have hbk := ok.buf D.buf[k] (List.getElem_mem hkk)
      have hst : settled D.secs (D.buf.take (k + 1)) = (settled D.secs (D.buf.take k)).set D.buf[k].1 D.buf[k].2 := by
        rw [List.take_succ_eq_append_getElem hkk, settled_snoc]
      have hnn : (settled D.secs (D.buf.take k)).length = D.secs.length := settled_length _ _
      have hl64 : ∀ x ∈ settled D.secs (D.buf.take k), x.length = 64 := settled_len _ (fun x hx => (ok.buf x (List.mem_of_mem_take hx)).2) _ ok.len
      have hsz : k * 65 + 65 ≤ cur.size := by rw [hcs]; omega
      generalize D.buf[k] = xx at hx hbk hst
      obtain ⟨at_, d⟩ := xx
      obtain ⟨hat, hd⟩ := hbk
      simp only [recOf] at hx hat hd hst
      have hm := ok.most
      have hset := secRow_set _ sp hl64 at_ (by rw [hnn]; exact hat) d hd
      have hss := secRow_size _ sp hl64
      rw [hnn] at hss
      rw [← hst] at hset
      have HE : Hid ((Value.int .i64 (at_ : Int) :: Bs d).toArray.extract 1 (1 + 64) = (Bs d).toArray) := by
        show _ = _
        apply Array.toList_inj.1; simp only [Array.toList_extract, List.extract_eq_take_drop]; rw [show 1 + 64 - 1 = 64 from rfl, List.drop_succ_cons, List.drop_zero, List.take_of_length_le (by rw [Bs_length, hd]; omega)]
      have H1 : ∀ v ∈ (Value.int .i64 (at_ : Int) :: Bs d).toArray.toList, v.oneCell' = true := by
        intro v hv; simp only [List.mem_cons] at hv; rcases hv with rfl | hv; · rfl
        · exact Bs_one _ v hv
      have hv65 : (Value.int .i64 (at_ : Int) :: Bs d).toArray.size = 65 := by simp [Bs_length, hd]
      have hv64 : (Bs d).toArray.size = 64 := by simp [Bs_length, hd]
      have hN := hfr.alloc (.cells (Value.int .i64 (at_ : Int) :: Bs d).toArray 89 (0, 0))
      have ghead2 := (heap_alloc_old wr (.cells (Value.int .i64 (at_ : Int) :: Bs d).toArray 89 (0, 0)) (lt_of_block ghead)).trans ghead
      have G := heap_alloc_new wr (.cells (Value.int .i64 (at_ : Int) :: Bs d).toArray 89 (0, 0))
      have L := (heap_alloc_old wr (.cells (Value.int .i64 (at_ : Int) :: Bs d).toArray 89 (0, 0)) (lt_of_block hrow)).trans hrow
      have e1 : wr.heap.size ≠ b := fun e => by have := lt_of_block ghead; omega
      have HX := Lib.hid hx; clear hx
      have HST := Lib.hid hst; clear hst
      have HSET := Lib.hid hset; clear hset
      have HSS := Lib.hid hss; clear hss
      have H65 := Lib.hid hv65; clear hv65
      have H64 := Lib.hid hv64; clear hv64
      have HHD := Lib.hid hd; clear hd
      have HNN := Lib.hid hnn; clear hnn
      have HL := Lib.hid hl64; clear hl64
      have HH1 := Lib.hid H1; clear H1
      have HF := Lib.hid hfr; clear hfr
      have HNF := Lib.hid hN; clear hN
      have HOK := Lib.hid ok; clear ok
      have HOWN := Lib.hid own; clear own
      have HTK := Lib.hid htake; clear htake
      have HCS := Lib.hid hcs; clear hcs
      go_wp2_with (first
        | (refine wpList_load_rec rfl 89 (.tmp 15) rfl _ 65 Try.underlying89 rfl info89 g (k * 65) rfl cur 89 (0, 0) gg hsz ?_; rw [HX.out])
        | (refine wpList_alloc_rec rfl 89 rfl Try.zeroCells89 zero89 ?_)
        | (refine wpList_store_rec rfl 89 (.tmp 5) (.tmp 16) rfl 65 info89 wr.heap.size 0 rfl _ rfl Try.zeroCells89 89 (heap_alloc_new _ _) H65.out (by simp [zc89_size]) HH1.out ?_; rw [setRow_alloc_new, splice_all _ _ (by rw [Array.length_toList, H65.out, zc89_size]), Array.toArray_toList]))
      generalize wr.alloc (.cells (Value.int .i64 (at_ : Int) :: Bs d).toArray 89 (0, 0)) = w2 at *
      generalize wr.heap.size = nb at *
      refine wp_region_still_tail 9 rfl (by kernel_rfl) ?_
      simp only [List.take_succ_cons, List.take_zero, List.drop_succ_cons, List.drop_zero]
      still_step
      still_step
      still_step
      still_step
      still_step
      still_step
      still_step
      refine wpStill_load_rec rfl 87 (.tmp 23) rfl _ 64 Try.underlying87 rfl info87 nb 1 rfl _ 89 (0, 0) G (by rw [H65.out]; decide) ?_
      rw [HE.out]
      still_step
      refine wpStill_nil ?_
      have hwr : IntKind.i64.wrap ((k : Int) + 1) = (k : Int) + 1 := IntWalk.i64_in _ (by omega)
      go_wp2_with (first
        | (refine wpList_store_rec rfl 87 (.tmp 25) (.tmp 24) rfl 64 info87 lb (at_ * 64) rfl _ rfl _ 87 L H64.out (by have := HSS.out; have := HNN.out; omega) (Bs_one d) ?_; rw [HSET.out]))
      go_roundw
      case rel =>
        refine ⟨k + 1, by omega, by go_num, ?_, ?_⟩
        · have := setRow_heap { w2 with drawn := w2.drawn + 1 } lb _ (secRow (settled D.secs (D.buf.take (k + 1))) sp) 87 _ L
          exact this
        · exact HNF.out.drew.setRow _ (Or.inl rfl)
      case measure => simp [intOf]; omega
    · obtain rfl : k = n := by omega
      go_wp2
      go_end0
      exact ⟨rfl, hrow, hfr⟩

set_option maxRecDepth 100000 in
set_option maxHeartbeats 400000 in
theorem settle_nil (b lb cl : Nat) (sp : Array Value) (D : Dk) (w : World) (h : IsDk w b lb cl sp (.slice none 0 0) D) :
    Calls Try.prog 49 #[.pointer (some ⟨b, 0, none⟩), .int .i64 0] w fun e w' => e = .returned (.tuple #[]) ∧ SettleAt lb sp D w 0 w' := by
  obtain ⟨ok, head, row, own, ne1, ne2, ne3⟩ := h
  clear ok own
  go_enter Try.func49, Try.ntmps49
  go_wp2
  refine wp_loop_once ?_
  go_wp2
  go_end0
  exact ⟨rfl, by simpa [settled] using row, Fr.refl _ _⟩

theorem settle_any (b lb cl : Nat) (sp : Array Value) (wv : Value) (D : Dk) (w : World) (n : Nat) (h : IsDk w b lb cl sp wv D) (hn : n ≤ D.buf.length) :
    Calls Try.prog 49 #[.pointer (some ⟨b, 0, none⟩), .int .i64 n] w fun e w' => e = .returned (.tuple #[]) ∧ SettleAt lb sp D w n w' := by
  rcases h.own.2 with ⟨rfl, h0⟩ | ⟨g', cap', cur, rfl, _⟩
  · obtain rfl : n = 0 := by omega
    exact settle_nil b lb cl sp D w h
  · exact settle_some b lb cl sp g' cap' D w n h hn
set_option maxRecDepth 100000 in
set_option maxHeartbeats 400000 in
theorem changed_pos (b : Nat) (w : World) (x y : Value) (n : Int) (d : Bool) (hn : 0 < n) (hn2 : n ≤ 9223372036854775807)
    (h : w.heap[b]? = some (.cells #[x, y, .int .i64 n, .bool d] 84 (0, 0))) :
    Calls Try.prog 50 #[.pointer (some ⟨b, 0, none⟩)] w fun e w' => e = .returned (.tuple #[]) ∧ w'.heap[b]? = some (.cells #[x, y, .int .i64 (n - 1), .bool (n - 1 == 0)] 84 (0, 0)) ∧ Fr (fun k => k = b) w w' := by
  go_enter Try.func50, Try.ntmps50
  go_wp2
  go_end0
  refine ⟨rfl, ?_, ?_⟩
  · simp [heap_setCell_self, h, putIn_some]
  · refine Fr.setCell (Fr.setCell (Fr.refl _ _) _ (by simp)) _ (by simp)

set_option maxRecDepth 100000 in
set_option maxHeartbeats 400000 in
theorem changed_not (b : Nat) (w : World) (x y : Value) (n : Int) (d : Bool) (hn : n ≤ 0) 
    (h : w.heap[b]? = some (.cells #[x, y, .int .i64 n, .bool d] 84 (0, 0))) :
    Calls Try.prog 50 #[.pointer (some ⟨b, 0, none⟩)] w fun e w' => e = .returned (.tuple #[]) ∧ w' = w := by
  go_enter Try.func50, Try.ntmps50
  go_wp2
  go_end0
  exact ⟨rfl, rfl⟩


set_option maxRecDepth 100000 in
set_option maxHeartbeats 400000 in
theorem may_at (b lb n cl : Nat) (y : Value) (m : Int) (d : Bool) (w : World) (i : Int)
    (h : w.heap[b]? = some (.cells #[.slice (some ⟨lb, 0, none⟩) n cl, y, .int .i64 m, .bool d] 84 (0, 0))) :
    Calls Try.prog 51 #[.pointer (some ⟨b, 0, none⟩), .int .i64 i] w fun e w' => e = .returned (.int .i64 (if d then 32 else if i < 0 ∨ (n : Int) ≤ i then 31 else 0)) ∧ w = w' := by
  cases d with
  | true =>
    go_enter Try.func51, Try.ntmps51
    go_wp2
    go_ret
    exact ⟨rfl, rfl⟩
  | false =>
    by_cases h1 : i < 0
    · go_enter Try.func51, Try.ntmps51
      go_wp2
      go_ret
      exact ⟨by simp [h1], rfl⟩
    · have h0 : decide (i < 0) = false := by simpa using h1
      by_cases h2 : (n : Int) ≤ i
      · go_enter Try.func51, Try.ntmps51
        go_wp2
        go_ret
        exact ⟨by simp [h2], rfl⟩
      · have h3 : decide ((n : Int) ≤ i) = false := by simpa using h2
        go_enter Try.func51, Try.ntmps51
        go_wp2
        go_ret
        exact ⟨by simp [h1, h2], rfl⟩

theorem changed_any (b : Nat) (w : World) (x y : Value) (n : Int) (d : Bool) (hn2 : n ≤ 9223372036854775807)
    (h : w.heap[b]? = some (.cells #[x, y, .int .i64 n, .bool d] 84 (0, 0))) :
    Calls Try.prog 50 #[.pointer (some ⟨b, 0, none⟩)] w fun e w' => e = .returned (.tuple #[]) ∧
      w'.heap[b]? = some (.cells #[x, y, .int .i64 (if 0 < n then n - 1 else n), .bool (if 0 < n then n - 1 == 0 else d)] 84 (0, 0)) ∧ Fr (fun k => k = b) w w' := by
  by_cases hn : 0 < n
  · simp only [hn, if_true]; exact changed_pos b w x y n d hn hn2 h
  · simp only [hn, if_false]
    refine (changed_not b w x y n d (by omega) h).mono ?_
    rintro e w' ⟨rfl, rfl⟩
    exact ⟨rfl, h, Fr.refl _ _⟩
end Go.Proofs.Ytnpeeephkkmomaa
namespace Go.Proofs.Ytnpeeephkkmomaa
open Go.RowKit Go.Proofs.YtnpeeephkkmomaaW.PrintLast
set_option linter.unusedVariables false
set_option linter.unusedSimpArgs false

theorem W89_splice (i : Nat) (l : List UInt8) (hl : l.length ≤ 64) : splice (W89 i) 1 (Bs l) = (recOf (i, pad64 l)).toArray := by
  apply Array.toList_inj.1
  rw [splice_toList]
  simp only [W89, recOf, pad64, Bs_append, Bs_length]
  rw [Nat.add_comm 1 l.length, List.take_succ_cons, List.take_zero, List.drop_succ_cons, List.drop_replicate]
  simp [Bs, List.map_replicate]

set_option maxRecDepth 100000 in
set_option maxHeartbeats 1000000 in
theorem write_ok (b lb cl : Nat) (sp : Array Value) (wv : Value) (D : Dk) (w : World) (i : Nat) (v : Value) (l : List UInt8) (h : IsDk w b lb cl sp wv D) (hd : D.down = false) (hi : i < D.secs.length) (hl : l.length ≤ 64)
    (hv : IsBytes w v l) (hroom : D.buf.length ≤ 2932031007402) :
    Calls Try.prog 16 #[.pointer (some ⟨b, 0, none⟩), .int .i64 i, v] w fun e w' => e = .returned (.int .i64 0) ∧ ∃ wv', IsDk w' b lb cl sp wv' (D.written i l) ∧ Mv (dkFoot b lb wv) (dkFoot b lb wv') w w' := by
  obtain ⟨i89, hinfo, hz0, hz1, hz2⟩ := info_parts info89'
  have hlt := h.lt
  obtain ⟨ok, head, row, own, ne1, ne2, ne3⟩ := h
  have hv0 := hv.alloc (.cells (W89 i) 89 (0, 0))
  obtain ⟨ao, cap, hvv, hc1, hc2, hc3, hc4⟩ := hv.is
  have hbl := lt_of_block head
  have hmost := ok.most
  have H4 := Lib.hid hc4; clear hc4
  have HV := Lib.hid hv; clear hv
  have HV0 := Lib.hid hv0; clear hv0
  have HOWN := Lib.hid own; clear own
  have HLT := Lib.hid hlt; clear hlt
  have hle : decide ((64 : Int) < (l.length : Int)) = false := by simp; omega
  have hneg : ¬ ((i : Int) < 0 ∨ (D.secs.length : Int) ≤ (i : Int)) := by omega
  have HOK := Lib.hid ok; clear ok
  rw [hd] at head
  go_enter Try.func16, Try.ntmps16
  subst hvv
  go_wp2_with (first
    | (go_at_call 51; refine (may_at b lb D.secs.length cl wv D.armed false w i head).mono ?_; rintro e w' ⟨rfl, rfl⟩; simp only [hneg, if_false, Bool.false_eq_true])
    | (refine wpList_copy_bytes rfl (.tmp 21) (.tmp 22) 30 30 5 rfl Try.underlying30 (by kernel_rfl) w.heap.size 1 64 64 rfl _ l rfl HV0.out (W89 i) 89 (heap_alloc_at _ _) (by rw [W89_size]; omega) ?_; rw [setRow_alloc_new, List.take_of_length_le hl, W89_splice i l hl]))
  have hw2 := (Fr.refl (dkFoot b lb wv) w).alloc (.cells (recOf (i, pad64 l)).toArray 89 (0, 0))
  have hnb : ∀ k, dkFoot b lb wv k → k ≠ w.heap.size := fun k hk => by have := HLT.out k hk; omega
  have own2 := ownsRow_fr (F := fun _ => False) HOWN.out ((Fr.refl _ w).alloc (.cells (recOf (i, pad64 l)).toArray 89 (0, 0))) (fun _ _ h => h)
  have head2 := (heap_alloc w (.cells (recOf (i, pad64 l)).toArray 89 (0, 0)) b hbl).trans head
  have row2 := (heap_alloc w (.cells (recOf (i, pad64 l)).toArray 89 (0, 0)) lb (lt_of_block row)).trans row
  have new2 := heap_alloc_at w (.cells (recOf (i, pad64 l)).toArray 89 (0, 0))
  have sz2 : (w.alloc (.cells (recOf (i, pad64 l)).toArray 89 (0, 0))).heap.size = w.heap.size + 1 := by simp
  generalize hww : w.alloc (.cells (recOf (i, pad64 l)).toArray 89 (0, 0)) = w2 at *
  clear hww
  generalize hnw : w.heap.size = nb at *
  have HNW := Lib.hid hnw; clear hnw
  have hbn : b ≠ nb := hnb b (.inl rfl)
  have hwn : wv.ownBlock ≠ some nb := fun e => hnb nb (.inr (.inr e)) rfl
  have hrl : (recOf (i, pad64 l)).length = 65 := recOf_length _ (pad64_length l hl)
  have hro : ∀ u ∈ recOf (i, pad64 l), u.oneCell' = true := by
    intro u hu; simp only [recOf, List.mem_cons] at hu; rcases hu with rfl | hu
    · rfl
    · exact Bs_one _ u hu
  have hrx : sub (recOf (i, pad64 l)).toArray 0 65 = (recOf (i, pad64 l)).toArray := sub_whole _ _ (by simpa using hrl)
  have hrs : (recOf (i, pad64 l)).toArray.size = 65 := by simpa using hrl
  clear head row
  have HW2 := Lib.hid hw2; clear hw2
  have HNB := Lib.hid hnb; clear hnb
  have OWN2 := Lib.hid own2; clear own2
  have HRL := Lib.hid hrl; clear hrl
  have HRO := Lib.hid hro; clear hro
  have SZ2 := Lib.hid sz2; clear sz2
  have ROW2 := Lib.hid row2; clear row2
  refine start_ (n := 11) (S := fun w' => w'.heap[b]? = some (.cells #[.slice (some ⟨lb, 0, none⟩) D.secs.length cl, wv, .int .i64 D.armed, .bool false] 84 (0, 0)) ∧ w'.heap[nb]? = some (.cells (recOf (i, pad64 l)).toArray 89 (0, 0))) (ds := [10]) #[false, false, false, false, false, false, false, false, false, false, false] (by kernel_rfl) rfl rfl ⟨head2, new2⟩ (fun hHeld => ?_)
  refine pure_ (i := 0) (N := some 24) (v := ?_) (a' := ?_) #[true, false, false, false, false, false, false, false, false, false, false] rfl rfl (by kernel_rfl) (fun _ _ _ h => h) (Or.inl ⟨by rfl, ?_⟩) ?_ ?_
  rotate_left
  · intro w'
    try simp only [List.getElem_toArray, List.getElem_cons_succ, List.getElem_cons_zero]
    go_simp
    with_reducible rfl
  rotate_left
  · simp only [Act.put, List.setIfInBounds_toArray, List.set_cons_zero, List.set_cons_succ, i64_w, i32_w]
    rfl
  refine pure_ (i := 1) (N := some 25) (v := ?_) (a' := ?_) #[true, true, false, false, false, false, false, false, false, false, false] rfl rfl (by kernel_rfl) (fun _ _ _ h => h) (Or.inl ⟨by rfl, ?_⟩) ?_ ?_
  rotate_left
  · intro w'
    try simp only [List.getElem_toArray, List.getElem_cons_succ, List.getElem_cons_zero]
    go_simp
    with_reducible rfl
  rotate_left
  · simp only [Act.put, List.setIfInBounds_toArray, List.set_cons_zero, List.set_cons_succ, i64_w, i32_w]
    rfl
  refine pure_ (i := 2) (N := some 26) (v := ?_) (a' := ?_) #[true, true, true, false, false, false, false, false, false, false, false] rfl rfl (by kernel_rfl) (fun _ _ _ h => h) (Or.inl ⟨by rfl, ?_⟩) ?_ ?_
  rotate_left
  · intro w'
    try simp only [List.getElem_toArray, List.getElem_cons_succ, List.getElem_cons_zero]
    go_simp
    with_reducible rfl
  rotate_left
  · simp only [Act.put, List.setIfInBounds_toArray, List.set_cons_zero, List.set_cons_succ, i64_w, i32_w]
    rfl
  refine pure_ (i := 3) (N := some 27) (v := ?_) (a' := ?_) #[true, true, true, true, false, false, false, false, false, false, false] rfl rfl (by kernel_rfl) (fun _ _ _ h => h) (Or.inl ⟨by rfl, ?_⟩) ?_ ?_
  rotate_left
  · intro w'
    try simp only [List.getElem_toArray, List.getElem_cons_succ, List.getElem_cons_zero]
    go_simp
    with_reducible rfl
  rotate_left
  · simp only [Act.put, List.setIfInBounds_toArray, List.set_cons_zero, List.set_cons_succ, i64_w, i32_w]
    rfl
  refine take_ (i := 4) (N := some 28) (v := ?_) (a' := ?_) #[true, true, true, true, true, false, false, false, false, false, false] rfl rfl (by kernel_rfl) (fun _ _ _ h => h) (Or.inl ⟨by rfl, ?_⟩) hHeld ?_ ?_
  rotate_left
  · rintro w' ⟨s0, s1⟩
    try simp only [List.getElem_toArray, List.getElem_cons_succ, List.getElem_cons_zero]
    go_simp
    with_reducible rfl
  rotate_left
  · simp only [Act.put, List.setIfInBounds_toArray, List.set_cons_zero, List.set_cons_succ, i64_w, i32_w]
    rfl
  refine take_ (i := 5) (N := some 29) (v := ?_) (a' := ?_) #[true, true, true, true, true, true, false, false, false, false, false] rfl rfl (by kernel_rfl) (fun _ _ _ h => h) (Or.inl ⟨by rfl, ?_⟩) hHeld ?_ ?_
  rotate_left
  · rintro w' ⟨s0, s1⟩
    try simp only [List.getElem_toArray, List.getElem_cons_succ, List.getElem_cons_zero]
    go_simp
    with_reducible rfl
  rotate_left
  · simp only [Act.put, List.setIfInBounds_toArray, List.set_cons_zero, List.set_cons_succ, i64_w, i32_w]
    rfl
  refine one_ (i := 6) (N := some 30) #[true, true, true, true, true, true, true, false, false, false, false] rfl rfl (by kernel_rfl) (by decide) (fun K hK => ?_)
  refine value_ (w1 := ?_) (v := ?_) (by rfl) rfl ?_ ?_
  rotate_left 2
  · try simp only [List.getElem_toArray, List.getElem_cons_succ, List.getElem_cons_zero]
    go_simp
    constructor
    · rfl
    · rfl
  refine hK.out _ _ ⟨(heap_alloc _ _ b (lt_of_block head2)).trans head2, (heap_alloc _ _ nb (lt_of_block new2)).trans new2⟩ (fun hHeld => ?_)
  clear hK K
  refine norm_ (a' := ?_) ?_ ?_
  rotate_left
  · show Act.put _ (some 30) _ = _
    simp only [Act.put, List.setIfInBounds_toArray, List.set_cons_zero, List.set_cons_succ, i64_w, i32_w]
    rfl
  refine one_ (i := 7) (N := some 31) #[true, true, true, true, true, true, true, true, false, false, false] rfl rfl (by kernel_rfl) (by decide) (fun K hK => ?_)
  refine step_append (by rfl) (.tmp 28) (.tmp 30) 82 rfl 89 i89 _ 65 72 Try.underlying82 hinfo hz0 hz1 hz2 (by simp [Value.cells, zc89_size]) (by decide) wv D.buf.length (D.buf.flatMap recOf) rfl (ownsRow_fr OWN2.out ((Fr.refl (fun _ => False) _).drew.alloc _) (fun _ _ h => h)) ⟨w2.heap.size, 0, none⟩ 1 1 (recOf (i, pad64 l)) rfl (by rw [HRL.out]) (fun j u hu => by rw [Addr.add_mk, Nat.zero_add]; exact (cells_at (heap_alloc_at w2 _) j).trans (by simpa using hu)) HRO.out (Room.one (by unfold maxLen; omega) (by decide) (by omega)) ?_
  intro v3 w3 own3 gr3 fresh3
  obtain ⟨ao3, cap3, rfl⟩ := ownsRow_slice own3
  have fr3 := (((Fr.refl (fun k => wv.ownBlock = some k) w2).alloc (.cells (recOf (i, pad64 l)).toArray 89 (0, 0))).drew).trans gr3 (fun k hk => .inl hk)
  have head3 := fr3.at head2 ne2
  have new3 := fr3.at new2 hwn
  refine hK.out _ _ ⟨head3, new3⟩ (fun hHeld => ?_)
  clear hK K
  refine norm_ (a' := ?_) ?_ ?_
  rotate_left
  · show Act.put _ (some 31) _ = _
    simp only [Act.put, List.setIfInBounds_toArray, List.set_cons_zero, List.set_cons_succ, i64_w, i32_w]
    rfl
  refine pure_ (i := 8) (N := some 32) (v := ?_) (a' := ?_) #[true, true, true, true, true, true, true, true, true, false, false] rfl rfl (by kernel_rfl) (fun _ _ _ h => h) (Or.inl ⟨by rfl, ?_⟩) ?_ ?_
  rotate_left
  · intro w'
    try simp only [List.getElem_toArray, List.getElem_cons_succ, List.getElem_cons_zero]
    go_simp
    with_reducible rfl
  rotate_left
  · simp only [Act.put, List.setIfInBounds_toArray, List.set_cons_zero, List.set_cons_succ, i64_w, i32_w]
    rfl
  refine pure_ (i := 9) (N := some 33) (v := ?_) (a' := ?_) #[true, true, true, true, true, true, true, true, true, true, false] rfl rfl (by kernel_rfl) (fun _ _ _ h => h) (Or.inl ⟨by rfl, ?_⟩) ?_ ?_
  rotate_left
  · intro w'
    try simp only [List.getElem_toArray, List.getElem_cons_succ, List.getElem_cons_zero]
    go_simp
    with_reducible rfl
  rotate_left
  · simp only [Act.put, List.setIfInBounds_toArray, List.set_cons_zero, List.set_cons_succ, i64_w, i32_w]
    rfl
  refine last_ (i := 10) (N := none) #[true, true, true, true, true, true, true, true, true, true, true] rfl rfl (by kernel_rfl) (by decide) (fun K hK => ?_)
  refine skip_ (w1 := ?_) (by rfl) rfl ?_ ?_
  rotate_left
  · try simp only [List.getElem_toArray, List.getElem_cons_succ, List.getElem_cons_zero]
    go_simp
    rfl
  refine hK.out _ _ ?_
  clear hK K
  refine done_ (by kernel_rfl) ?_

  have ow3 : ∀ k, (Value.slice ao3 (D.buf.length + 1) cap3).ownBlock = some k → dkFoot b lb wv k ∨ nb < k := by
    intro k hk
    rcases fresh3 with h | h
    · rw [h] at hk; exact .inl (.inr (.inr hk))
    · rw [hk] at h; have := SZ2.out; simp at h; right; omega
  have row3 := fr3.at ROW2.out ne3
  have hlb : lb < nb + 1 := by have := lt_of_block ROW2.out; rw [SZ2.out] at this; exact this
  have hbl' : b < nb + 1 := by omega
  have nb3 : (Value.slice ao3 (D.buf.length + 1) cap3).ownBlock ≠ some b := by
    intro e
    rcases own3.2 with ⟨h, _⟩ | ⟨g, _, cur, h, _, hg, _⟩
    · rw [h] at e; cases e
    · rw [h] at e; simp only [Value.ownBlock, Option.some.injEq] at e; subst e; rw [head3] at hg; simp at hg
  have nlb3 : (Value.slice ao3 (D.buf.length + 1) cap3).ownBlock ≠ some lb := by
    intro e
    rcases own3.2 with ⟨h, _⟩ | ⟨g, _, cur, h, _, hg, _⟩
    · rw [h] at e; cases e
    · rw [h] at e; simp only [Value.ownBlock, Option.some.injEq] at e; subst e; rw [row3] at hg; simp at hg
  have nn3 : (Value.slice ao3 (D.buf.length + 1) cap3).ownBlock ≠ some nb := by
    intro e
    rcases ow3 nb e with h | h
    · exact HNB.out nb h rfl
    · omega
  have head4 : (w3.setCell ⟨b, 1, none⟩ (.slice ao3 (D.buf.length + 1) cap3)).heap[b]? = some (.cells #[.slice (some ⟨lb, 0, none⟩) D.secs.length cl, .slice ao3 (D.buf.length + 1) cap3, .int .i64 D.armed, .bool false] 84 (0, 0)) := by
    rw [heap_setCell_self, head3]; rfl
  have fr34 : Fr (fun k => k = b) w3 (w3.setCell ⟨b, 1, none⟩ (.slice ao3 (D.buf.length + 1) cap3)) := (Fr.refl _ _).setCell _ (.inl rfl)
  have row4 := fr34.at row3 (Ne.symm ne1)
  have own4 := ownsRow_fr own3 fr34 (fun k hk e => nb3 (by rw [hk, e]))
  have fr4 : Fr (dkFoot b lb wv) w (w3.setCell ⟨b, 1, none⟩ (.slice ao3 (D.buf.length + 1) cap3)) :=
    (HW2.out.trans fr3 (fun k hk => .inl (.inr (.inr hk)))).trans fr34 (fun k hk => .inl (.inl hk))
  generalize w3.setCell ⟨b, 1, none⟩ (.slice ao3 (D.buf.length + 1) cap3) = w4 at *
  clear head3 head2 new2 new3 row3
  have hpiv : Mv (dkFoot b lb wv) (dkFoot b lb (.slice ao3 (D.buf.length + 1) cap3)) w w4 := ⟨fr4, fun k hk => by
    rcases hk with h | h | h
    · exact .inl (.inl h)
    · exact .inl (.inr (.inl h))
    · rcases ow3 k h with h1 | h1
      · exact .inl h1
      · exact .inr (by have := HNW.out; omega)⟩
  have HO4 := Lib.hid own4; clear own4 own3
  have HPIV := Lib.hid hpiv; clear hpiv fr4 fr34 fr3 gr3 fresh3 ow3
  go_wp2_with (go_at_call 50; refine (changed_any b w4 _ _ D.armed false HOK.out.armed.2 head4).mono ?_; rintro e w5 ⟨rfl, head5, fr5⟩)
  go_ret
  refine ⟨rfl, _, ⟨Dk.Ok.changed (D := { D with buf := D.buf ++ [(i, pad64 l)] }) ⟨HOK.out.one, HOK.out.most, HOK.out.len, ?_, HOK.out.armed⟩, ?_, fr5.at row4 (Ne.symm ne1), ?_, ⟨ne1, nb3, nlb3⟩⟩, HPIV.out.trans ⟨fr5.mono (fun k _ h => .inl h), fun k h => .inl h⟩⟩
  · intro x hx
    rcases List.mem_append.1 hx with h | h
    · exact HOK.out.buf x h
    · rw [List.mem_singleton.1 h]; exact ⟨hi, pad64_length l hl⟩
  · rw [head5]; simp [Dk.written, Dk.changed, hd]
  · have := ownsRow_fr HO4.out fr5 (fun k hk e => nb3 (by rw [hk, e]))
    simpa [Dk.written, Dk.changed] using this
end Go.Proofs.Ytnpeeephkkmomaa
namespace Go.Proofs.Ytnpeeephkkmomaa
open Go.RowKit Go.Proofs.YtnpeeephkkmomaaW.PrintLast
set_option linter.unusedVariables false
set_option linter.unusedSimpArgs false

set_option maxRecDepth 100000 in
set_option maxHeartbeats 1000000 in
theorem write_may (b lb cl : Nat) (sp : Array Value) (wv : Value) (D : Dk) (w : World) (i : Int) (v : Value) (h : IsDk w b lb cl sp wv D) (hm : D.may i ≠ 0) :
    Calls Try.prog 16 #[.pointer (some ⟨b, 0, none⟩), .int .i64 i, v] w fun e w' => e = .returned (.int .i64 (D.may i)) ∧ w = w' := by
  have head := h.head
  have hb : (D.may i != 0) = true := by simpa using hm
  have hmm : (if D.down then 32 else if i < 0 ∨ (D.secs.length : Int) ≤ i then 31 else 0 : Int) = D.may i := rfl
  have HM := Lib.hid hmm; clear hmm
  clear h hm
  go_enter Try.func16, Try.ntmps16
  go_wp2_with (go_at_call 51; refine (may_at b lb D.secs.length cl wv D.armed D.down w i head).mono ?_; rintro e w' ⟨rfl, rfl⟩; rw [HM.out])
  go_ret
  exact ⟨rfl, rfl⟩

set_option maxRecDepth 100000 in
set_option maxHeartbeats 1000000 in
theorem write_long (b lb cl : Nat) (sp : Array Value) (wv : Value) (D : Dk) (w : World) (i : Int) (v : Value) (l : List UInt8) (h : IsDk w b lb cl sp wv D) (hm : D.may i = 0) (hv : IsBytes w v l) (hl : 64 < l.length) :
    Calls Try.prog 16 #[.pointer (some ⟨b, 0, none⟩), .int .i64 i, v] w fun e w' => e = .returned (.int .i64 3) ∧ w = w' := by
  have head := h.head
  obtain ⟨ao, cap, rfl, hc1, hc2, _, _⟩ := hv.is
  have hmm : (if D.down then 32 else if i < 0 ∨ (D.secs.length : Int) ≤ i then 31 else 0 : Int) = 0 := hm
  have HM := Lib.hid hmm; clear hmm
  have hle : decide ((64 : Int) < (l.length : Int)) = true := by simp; omega
  clear h hm hv
  go_enter Try.func16, Try.ntmps16
  go_wp2_with (go_at_call 51; refine (may_at b lb D.secs.length cl wv D.armed D.down w i head).mono ?_; rintro e w' ⟨rfl, rfl⟩; rw [HM.out])
  go_ret
  exact ⟨rfl, rfl⟩

set_option maxRecDepth 100000 in
set_option maxHeartbeats 1000000 in
theorem flush_down (b lb cl : Nat) (sp : Array Value) (wv : Value) (D : Dk) (w : World) (h : IsDk w b lb cl sp wv D) (hd : D.down = true) :
    Calls Try.prog 15 #[.pointer (some ⟨b, 0, none⟩)] w fun e w' => e = .returned (.int .i64 32) ∧ w = w' := by
  have head := h.head
  rw [hd] at head
  clear h
  go_enter Try.func15, Try.ntmps15
  go_wp2
  go_ret
  exact ⟨rfl, rfl⟩

set_option maxRecDepth 100000 in
set_option maxHeartbeats 1000000 in
theorem flush_up (b lb cl : Nat) (sp : Array Value) (wv : Value) (D : Dk) (w : World) (h : IsDk w b lb cl sp wv D) (hd : D.down = false) :
    Calls Try.prog 15 #[.pointer (some ⟨b, 0, none⟩)] w fun e w' => e = .returned (.int .i64 0) ∧ IsDk w' b lb cl sp (.slice none 0 0) D.flushed ∧ Fr (fun k => k = b ∨ k = lb) w w' := by
  have head := h.head
  rw [hd] at head
  have HH := Lib.hid h
  obtain ⟨ao, cap, rfl⟩ := ownsRow_slice h.own
  have ne1 := h.ne.1
  have ha := h.ok.armed.2
  clear h
  go_enter Try.func15, Try.ntmps15
  go_wp2_with (first
    | (go_at_call 49; refine (settle_any b lb cl sp _ D w D.buf.length HH.out (Nat.le_refl _)).mono ?_; rintro e w2 ⟨rfl, row2, fr2⟩
       have head2 := fr2.at head ne1
       have head3 : (w2.setCell ⟨b, 1, none⟩ (.slice none 0 0)).heap[b]? = some (.cells #[.slice (some ⟨lb, 0, none⟩) D.secs.length cl, .slice none 0 0, .int .i64 D.armed, .bool false] 84 (0, 0)) := by
         rw [heap_setCell_self, head2]; rfl
       have ROW2 := Lib.hid row2; clear row2; have FR2 := Lib.hid fr2; clear fr2; have HEAD3 := Lib.hid head3; clear head3)
    | (go_at_call 50; refine (changed_any b _ _ _ D.armed false ha HEAD3.out).mono ?_; rintro e w5 ⟨rfl, head5, fr5⟩))
  go_ret
  have ok := HH.out.ok
  have fr3 : Fr (fun k => k = b) w2 (w2.setCell ⟨b, 1, none⟩ (.slice none 0 0)) := (Fr.refl _ _).setCell _ (.inl rfl)
  have row5 := fr5.at (fr3.at ROW2.out (Ne.symm ne1)) (Ne.symm ne1)
  rw [List.take_length] at row5
  have ok5 : Dk.Ok { D with secs := settled D.secs D.buf, buf := [] } := by
    have := ok.atSettled D.buf.length [] (by simp)
    rwa [List.take_length] at this
  refine ⟨rfl, ⟨ok5.changed, ?_, row5, World.ownsRow_nil _ _ _ _, ⟨ne1, by simp [Value.ownBlock], by simp [Value.ownBlock]⟩⟩, ?_⟩
  · rw [head5]; simp [Dk.flushed, Dk.changed, hd, settled_length]
  · exact ((FR2.out.mono (G := fun k => k = b ∨ k = lb) (fun k _ h => .inr h)).trans fr3 (fun k h => .inl (.inl h))).trans fr5 (fun k h => .inl (.inl h))

set_option maxRecDepth 100000 in
set_option maxHeartbeats 1000000 in
theorem arm_any (b lb cl : Nat) (sp : Array Value) (wv : Value) (D : Dk) (w : World) (n : Int) (h : IsDk w b lb cl sp wv D) (hn : -9223372036854775808 ≤ n ∧ n ≤ 9223372036854775807) :
    Calls Try.prog 14 #[.pointer (some ⟨b, 0, none⟩), .int .i64 n] w fun e w' => e = .returned (.tuple #[]) ∧ IsDk w' b lb cl sp wv (D.armedAt n) ∧ Fr (fun k => k = b) w w' := by
  have head := h.head
  have HH := Lib.hid h
  clear h
  cases hd : D.down with
  | true =>
    rw [hd] at head
    go_enter Try.func14, Try.ntmps14
    go_wp2
    exact bodyPost_ret (v := .tuple #[]) (results_none rfl _ _ _) rfl ⟨rfl, by simpa [Dk.armedAt, hd] using HH.out, Fr.refl _ _⟩
  | false =>
    rw [hd] at head
    have fin : Hid (∀ m : Int, m = max n (-1) → IsDk ((w.setCell ⟨b, 2, none⟩ (.int .i64 m)).setCell ⟨b, 3, none⟩ (.bool (n == 0))) b lb cl sp wv (D.armedAt n) ∧
        Fr (fun k => k = b) w ((w.setCell ⟨b, 2, none⟩ (.int .i64 m)).setCell ⟨b, 3, none⟩ (.bool (n == 0)))) := by
      intro m hm
      have h := HH.out
      have fr : Fr (fun k => k = b) w ((w.setCell ⟨b, 2, none⟩ (.int .i64 m)).setCell ⟨b, 3, none⟩ (.bool (n == 0))) := by
        refine Fr.setCell (Fr.setCell (Fr.refl _ _) _ (by simp)) _ (by simp)
      refine ⟨⟨⟨?_, ?_, ?_, ?_, ?_⟩, ?_, ?_, ?_, h.ne⟩, fr⟩
      · simpa [Dk.armedAt, hd] using h.ok.one
      · simpa [Dk.armedAt, hd] using h.ok.most
      · simpa [Dk.armedAt, hd] using h.ok.len
      · simpa [Dk.armedAt, hd] using h.ok.buf
      · simp only [Dk.armedAt, hd]; simp; omega
      · rw [heap_setCell_self, heap_setCell_self, head]; simp [putIn_some, Dk.armedAt, hd, hm]
      · simpa [Dk.armedAt, hd] using fr.at h.row (Ne.symm h.ne.1)
      · simpa [Dk.armedAt, hd] using ownsRow_fr h.own fr (fun k hk e => h.ne.2.1 (by rw [hk, e]))
    go_enter Try.func14, Try.ntmps14
    go_wp2
    all_goals go_end0
    · exact ⟨rfl, fin.out _ (by omega)⟩
    · exact ⟨rfl, fin.out _ (by omega)⟩

set_option maxRecDepth 100000 in
theorem down_any (b lb cl : Nat) (sp : Array Value) (wv : Value) (D : Dk) (w : World) (h : IsDk w b lb cl sp wv D) :
    Calls Try.prog 17 #[.pointer (some ⟨b, 0, none⟩)] w fun e w' => e = .returned (.bool D.down) ∧ w = w' := by
  have head := h.head
  clear h
  go_enter Try.func17, Try.ntmps17
  go_wp2
  go_ret
  exact ⟨rfl, rfl⟩

set_option maxRecDepth 100000 in
theorem size_any (b lb cl : Nat) (sp : Array Value) (wv : Value) (D : Dk) (w : World) (h : IsDk w b lb cl sp wv D) :
    Calls Try.prog 57 #[.pointer (some ⟨b, 0, none⟩)] w fun e w' => e = .returned (.int .i64 D.secs.length) ∧ w = w' := by
  have head := h.head
  clear h
  go_enter Try.func57, Try.ntmps57
  go_wp2
  go_ret
  exact ⟨rfl, rfl⟩

set_option maxRecDepth 100000 in
theorem waits_any (b lb cl : Nat) (sp : Array Value) (wv : Value) (D : Dk) (w : World) (h : IsDk w b lb cl sp wv D) :
    Calls Try.prog 22 #[.pointer (some ⟨b, 0, none⟩)] w fun e w' => e = .returned (.int .i64 D.buf.length) ∧ w = w' := by
  obtain ⟨ao, cap, rfl⟩ := ownsRow_slice h.own
  have head := h.head
  clear h
  go_enter Try.func22, Try.ntmps22
  go_wp2
  go_ret
  exact ⟨rfl, rfl⟩

/-- P3.1: a new disk. -/
def newDk (n : Int) : Dk := { secs := zSecs (min (max n 1) 65536), buf := [], armed := -1, down := false }

def newWorld (w : World) (m : Int) : World :=
  (w.alloc (.cells (secCells (zSecs m)) 87 (0, 0))).alloc (.cells #[.slice (some ⟨w.heap.size, 0, none⟩) m.toNat m.toNat, .slice none 0 0, .int .i64 (-1), .bool false] 84 (0, 0))
theorem newDk_is (n m : Int) (w : World) (h1 : 1 ≤ m) (h2 : m ≤ 65536) (hm : m = min (max n 1) 65536) :
    IsDk (newWorld w m) (w.heap.size + 1) w.heap.size m.toNat #[] (.slice none 0 0) (newDk n) ∧ Fr (fun _ => False) w (newWorld w m) := by
  have hd : newDk n = { secs := zSecs m, buf := [], armed := -1, down := false } := by rw [newDk, hm]
  rw [hd]
  refine ⟨⟨⟨?_, ?_, zSecs_len m, by simp, by simp⟩, ?_, ?_, World.ownsRow_nil _ _ _ _, by omega, by simp [Value.ownBlock], by simp [Value.ownBlock]⟩, ((Fr.refl _ w).alloc _).alloc _⟩
  · show 1 ≤ (zSecs m).length; rw [zSecs_length]; omega
  · show (zSecs m).length ≤ _; rw [zSecs_length]; omega
  · have h := heap_alloc_at (w.alloc (.cells (secCells (zSecs m)) 87 (0, 0))) (.cells #[.slice (some ⟨w.heap.size, 0, none⟩) m.toNat m.toNat, .slice none 0 0, .int .i64 (-1), .bool false] 84 (0, 0))
    have e : (w.alloc (.cells (secCells (zSecs m)) 87 (0, 0))).heap.size = w.heap.size + 1 := by simp
    rw [e] at h
    simp only [newWorld, zSecs_length]
    exact h
  · rw [show secRow (zSecs m) #[] = secCells (zSecs m) by simp [secRow]]; exact (heap_alloc _ _ _ (by simp)).trans (heap_alloc_at _ _)

def NewPost (n : Int) (w : World) (e : Ending) (w' : World) : Prop :=
  ∃ b lb cl sp, e = .returned (.pointer (some ⟨b, 0, none⟩)) ∧ IsDk w' b lb cl sp (.slice none 0 0) (newDk n) ∧ Fr (fun _ => False) w w' ∧ w.heap.size ≤ b ∧ w.heap.size ≤ lb

set_option maxRecDepth 100000 in
set_option maxHeartbeats 1000000 in
theorem new_any (n : Int) (w : World) (hn : -9223372036854775808 ≤ n ∧ n ≤ 9223372036854775807) :
    Calls Try.prog 12 #[.int .i64 n] w (NewPost n w) := by
  have fin : ∀ (m : Int), 1 ≤ m → m ≤ 65536 → m = min (max n 1) 65536 → NewPost n w (.returned (.pointer (some ⟨w.heap.size + 1, 0, none⟩))) (newWorld w m) := by
    intro m h1 h2 h3
    exact ⟨_, _, _, _, rfl, (newDk_is n m w h1 h2 h3).1, (newDk_is n m w h1 h2 h3).2, by omega, Nat.le_refl _⟩
  have FIN := Lib.hid fin; clear fin
  by_cases h1 : n < 1
  · go_enter Try.func12, Try.ntmps12
    go_wp2
    go_ret
    exact FIN.out 1 (by omega) (by omega) (by omega)
  · by_cases h2 : 65536 < n
    · go_enter Try.func12, Try.ntmps12
      go_wp2
      go_ret
      exact FIN.out 65536 (by omega) (by omega) (by omega)
    · have h3 : 0 ≤ n := by omega
      have h4 : n ≤ 65536 := by omega
      go_enter Try.func12, Try.ntmps12
      go_wp2
      go_ret
      exact FIN.out n (by omega) (by omega) (by omega)
end Go.Proofs.Ytnpeeephkkmomaa
namespace Go.Proofs.Ytnpeeephkkmomaa
open Go.RowKit Go.Proofs.YtnpeeephkkmomaaW.PrintLast
set_option linter.unusedVariables false
set_option linter.unusedSimpArgs false

def ReadPost (w : World) (l : List UInt8) (e : Ending) (w' : World) : Prop :=
  ∃ sb, e = .returned (.tuple #[.slice (some ⟨sb, 0, none⟩) 64 64, .int .i64 0]) ∧ w.heap.size ≤ sb ∧ w'.heap[sb]? = some (.cells (Bs l).toArray 87 (0, 0)) ∧ Fr (fun _ => False) w w'

set_option maxRecDepth 100000 in
set_option maxHeartbeats 1000000 in
theorem read_may (b lb cl : Nat) (sp : Array Value) (wv : Value) (D : Dk) (w : World) (i : Int) (h : IsDk w b lb cl sp wv D) (hm : D.may i ≠ 0) :
    Calls Try.prog 19 #[.pointer (some ⟨b, 0, none⟩), .int .i64 i] w fun e w' => e = .returned (.tuple #[.slice none 0 0, .int .i64 (D.may i)]) ∧ w = w' := by
  have head := h.head
  have hb : (D.may i != 0) = true := by simpa using hm
  have hmm : (if D.down then 32 else if i < 0 ∨ (D.secs.length : Int) ≤ i then 31 else 0 : Int) = D.may i := rfl
  have HM := Lib.hid hmm; clear hmm
  clear h hm
  go_enter Try.func19, Try.ntmps19
  go_wp2_with (go_at_call 51; refine (may_at b lb D.secs.length cl wv D.armed D.down w i head).mono ?_; rintro e w' ⟨rfl, rfl⟩; rw [HM.out])
  go_ret2
  exact ⟨rfl, rfl⟩

theorem lastAt_snoc (l : List (Nat × List UInt8)) (x : Nat × List UInt8) (i : Nat) (s : List UInt8) : lastAt (l ++ [x]) i s = if x.1 = i then x.2 else lastAt l i s := by
  simp [lastAt]
theorem lastAt_len (l : List (Nat × List UInt8)) (i : Nat) (h : ∀ x ∈ l, x.2.length = 64) : ∀ s, s.length = 64 → (lastAt l i s).length = 64 := by
  induction l with
  | nil => intro s hs; exact hs
  | cons x l ih =>
    intro s hs
    refine ih (fun y hy => h y (by simp [hy])) _ ?_
    show (if x.1 = i then x.2 else s).length = 64
    split
    · exact h x (by simp)
    · exact hs

def ReadAt (w : World) (sb : Nat) (l : List UInt8) (wr : World) : Prop := wr.heap[sb]? = some (.cells (Bs l).toArray 87 (0, 0)) ∧ Fr (fun _ => False) w wr

set_option maxRecDepth 100000 in
set_option maxHeartbeats 1000000 in
theorem read_some (b lb cl : Nat) (sp : Array Value) (g cap : Nat) (D : Dk) (w : World) (i : Nat) (h : IsDk w b lb cl sp (.slice (some ⟨g, 0, none⟩) D.buf.length cap) D) (hd : D.down = false) (hi : i < D.secs.length) :
    Calls Try.prog 19 #[.pointer (some ⟨b, 0, none⟩), .int .i64 i] w (ReadPost w (D.told i)) := by
  obtain ⟨ok, head, row, own, ne1, ne2, ne3⟩ := h
  rcases own.2 with ⟨h, _⟩ | ⟨g', cap', cur, hv, _, hg, hnc, hcm, hcs, htake⟩
  · cases h
  obtain ⟨rfl, rfl⟩ : g = g' ∧ cap = cap' := by simpa using hv
  replace hcm : cap ≤ 9223372036854775807 := by simpa [maxLen] using hcm
  rw [hd] at head
  have hneg : ¬ ((i : Int) < 0 ∨ (D.secs.length : Int) ≤ (i : Int)) := by omega
  have hss := secRow_size _ sp ok.len
  have hsx' : sub (secRow D.secs sp) (i * 64) 64 = (Bs D.secs[i]).toArray := secRow_extract _ sp ok.len i hi
  have hl0 : D.secs[i].length = 64 := ok.len _ (List.getElem_mem hi)
  have hbs0 : (Bs D.secs[i]).length = 64 := by rw [Bs_length, hl0]
  have hbnd : i * 64 + 64 ≤ (secRow D.secs sp).size := by omega
  have hmost := ok.most
  have hblen : ∀ x ∈ D.buf, x.2.length = 64 := fun x hx => (ok.buf x hx).2
  have HT : Hid (D.told i = lastAt (D.buf.take D.buf.length) i D.secs[i]) := by
    show _ = _
    rw [List.take_length, Dk.told, List.getD_eq_getElem?_getD, List.getElem?_eq_getElem hi]; rfl
  have HOK := Lib.hid ok; clear ok
  have HSS := Lib.hid hss; clear hss
  have HB := Lib.hid hblen; clear hblen
  have HTK := Lib.hid htake; clear htake
  clear own hv
  go_enter Try.func19, Try.ntmps19
  go_wp2_with (go_at_call 51; refine (may_at b lb D.secs.length cl _ D.armed false w i head).mono ?_; rintro e w' ⟨rfl, rfl⟩; simp only [hneg, if_false, Bool.false_eq_true])
  have hbase : ReadAt w w.heap.size D.secs[i] (w.alloc (.cells (Bs D.secs[i]).toArray 87 (0, 0))) := ⟨heap_alloc_at _ _, (Fr.refl _ w).alloc _⟩
  have HBASE := Lib.hid hbase; clear hbase
  go_loopw [28] (fun c wr => ∃ k : Nat, k ≤ D.buf.length ∧ c = .int .i64 k ∧ ReadAt w w.heap.size (lastAt (D.buf.take k) i D.secs[i]) wr) (fun c _ => D.buf.length - (intOf c).toNat)
  case atStart => exact ⟨0, Nat.zero_le _, rfl, HBASE.out⟩
  case round =>
    obtain ⟨k, hk, rfl, hrow, hfr⟩ := hrel
    rename_i wr
    have gg := hfr.at hg (fun e => e)
    by_cases hlt : k < D.buf.length
    · have hx := own_extract (w := w) (g := g) (cap := cap) HB.out HTK.out k hlt
      have hbk := HOK.out.buf D.buf[k] (List.getElem_mem hlt)
      have hst : lastAt (D.buf.take (k + 1)) i D.secs[i] = if D.buf[k].1 = i then D.buf[k].2 else lastAt (D.buf.take k) i D.secs[i] := by
        rw [List.take_succ_eq_append_getElem hlt, lastAt_snoc]
      have hol : (Bs (lastAt (D.buf.take k) i D.secs[i])).length = 64 := by rw [Bs_length]; exact lastAt_len _ i (fun x hx => HB.out x (List.mem_of_mem_take hx)) _ hl0
      have hsz : k * 65 + 65 ≤ cur.size := by rw [hcs]; omega
      generalize D.buf[k] = xx at hx hbk hst
      obtain ⟨at_, d⟩ := xx
      obtain ⟨hat, hd⟩ := hbk
      simp only [recOf] at hx hat hd hst
      have hx' : sub cur (k * 65) 65 = (Value.int .i64 (at_ : Int) :: Bs d).toArray := hx
      have hbl : (Bs d).length = 64 := by rw [Bs_length, hd]
      have hE : sub (Value.int .i64 (at_ : Int) :: Bs d).toArray 1 64 = (Bs d).toArray := by
        apply Array.toList_inj.1; simp only [sub, Array.toList_extract, List.extract_eq_take_drop]; rw [show 1 + 64 - 1 = 64 from rfl, List.drop_succ_cons, List.drop_zero, List.take_of_length_le (by omega)]
      have hw1 : IntKind.i64.wrap ((k : Int) + 1) = (k : Int) + 1 := IntWalk.i64_in _ (by omega)
      have HST := Lib.hid hst; clear hst
      have HF := Lib.hid hfr; clear hfr
      clear hx hd head row hg hsx' hl0 hbs0 hbnd hcs
      generalize lastAt (D.buf.take k) i D.secs[i] = old at *
      generalize hsb : w.heap.size = sb at *
      have HSB := Lib.hid hsb; clear hsb
      by_cases hq : at_ = i
      · have hq' : ((at_ : Int) == (i : Int)) = true := by simp [hq]
        have HQ := Lib.hid hq; clear hq
        go_wp2
        go_roundw
        case rel =>
          refine ⟨k + 1, by omega, by go_num, ?_, ?_⟩
          · rw [HST.out, if_pos HQ.out, heap_setRow_self]
            rw [heap_alloc_lt _ _ _ (by rw [hrow]; rfl), hrow]; rfl
          · exact (HF.out.alloc _).setRow _ (.inr (Nat.le_of_eq HSB.out))
        case measure => simp [intOf]; omega
      · have hq' : ((at_ : Int) == (i : Int)) = false := by simp; omega
        have HQ := Lib.hid hq; clear hq
        go_wp2
        go_roundw
        case rel =>
          refine ⟨k + 1, by omega, by go_num, ?_, ?_⟩
          · rw [HST.out, if_neg HQ.out]
            rw [heap_alloc_lt _ _ _ (by rw [hrow]; rfl), hrow]
          · exact HF.out.alloc _
        case measure => simp [intOf]; omega
    · obtain rfl : k = D.buf.length := by omega
      rw [← HT.out] at hrow
      go_wp2
      go_ret2
      exact ⟨_, rfl, Nat.le_refl _, hrow, hfr⟩

set_option maxRecDepth 100000 in
set_option maxHeartbeats 1000000 in
theorem read_nil (b lb cl : Nat) (sp : Array Value) (D : Dk) (w : World) (i : Nat) (h : IsDk w b lb cl sp (.slice none 0 0) D) (hb : D.buf.length = 0) (hd : D.down = false) (hi : i < D.secs.length) :
    Calls Try.prog 19 #[.pointer (some ⟨b, 0, none⟩), .int .i64 i] w (ReadPost w (D.told i)) := by
  obtain ⟨ok, head, row, own, ne1, ne2, ne3⟩ := h
  rw [hd] at head
  have hneg : ¬ ((i : Int) < 0 ∨ (D.secs.length : Int) ≤ (i : Int)) := by omega
  have hss := secRow_size _ sp ok.len
  have hsx' : sub (secRow D.secs sp) (i * 64) 64 = (Bs D.secs[i]).toArray := secRow_extract _ sp ok.len i hi
  have hl0 : D.secs[i].length = 64 := ok.len _ (List.getElem_mem hi)
  have hbs0 : (Bs D.secs[i]).length = 64 := by rw [Bs_length, hl0]
  have hbnd : i * 64 + 64 ≤ (secRow D.secs sp).size := by omega
  have hmost := ok.most
  have HT : Hid (D.told i = D.secs[i]) := by
    show _ = _
    rw [Dk.told, List.eq_nil_of_length_eq_zero hb, List.getD_eq_getElem?_getD, List.getElem?_eq_getElem hi]; rfl
  have hbase : ReadAt w w.heap.size D.secs[i] (w.alloc (.cells (Bs D.secs[i]).toArray 87 (0, 0))) := ⟨heap_alloc_at _ _, (Fr.refl _ w).alloc _⟩
  have HBASE := Lib.hid hbase; clear hbase
  clear ok hss own hb
  go_enter Try.func19, Try.ntmps19
  go_wp2_with (go_at_call 51; refine (may_at b lb D.secs.length cl _ D.armed false w i head).mono ?_; rintro e w' ⟨rfl, rfl⟩; simp only [hneg, if_false, Bool.false_eq_true])
  refine wp_loop_once ?_
  go_wp2
  go_ret2
  exact ⟨_, rfl, Nat.le_refl _, by rw [HT.out]; exact HBASE.out.1, HBASE.out.2⟩

theorem read_ok (b lb cl : Nat) (sp : Array Value) (wv : Value) (D : Dk) (w : World) (i : Nat) (h : IsDk w b lb cl sp wv D) (hd : D.down = false) (hi : i < D.secs.length) :
    Calls Try.prog 19 #[.pointer (some ⟨b, 0, none⟩), .int .i64 i] w (ReadPost w (D.told i)) := by
  rcases h.own.2 with ⟨rfl, h0⟩ | ⟨g', cap', cur, rfl, _⟩
  · exact read_nil b lb cl sp D w i h h0 hd hi
  · exact read_some b lb cl sp g' cap' D w i h hd hi
end Go.Proofs.Ytnpeeephkkmomaa
namespace Go.Proofs.Ytnpeeephkkmomaa
open Go.RowKit Go.Proofs.YtnpeeephkkmomaaW.PrintLast
set_option linter.unusedVariables false
set_option linter.unusedSimpArgs false
attribute [local go_sem ↓] xmx xmn
attribute [local go_sem] mxP_int mnP_int

theorem flatMap_split (s : List (List UInt8)) (i : Nat) (hi : i < s.length) : s.flatMap Bs = (s.take i).flatMap Bs ++ Bs s[i] ++ (s.drop (i + 1)).flatMap Bs := by
  have h1 : s.flatMap Bs = (s.take i ++ s.drop i).flatMap Bs := by rw [List.take_append_drop]
  rw [h1, List.drop_eq_getElem_cons hi, List.flatMap_append, List.flatMap_cons, List.append_assoc]
/-- A part of a sector is written. -/
theorem secCells_part (s : List (List UInt8)) (h : ∀ x ∈ s, x.length = 64) (i : Nat) (hi : i < s.length) (x : List UInt8) (hx : x.length ≤ 64) :
    splice (secCells s) (i * 64) (Bs x) = secCells (s.set i (x ++ (s.getD i []).drop x.length)) := by
  rw [List.getD_eq_getElem?_getD, List.getElem?_eq_getElem hi, Option.getD_some]
  have hl : ((s.take i).flatMap Bs).length = i * 64 := by
    rw [length_flatMap_same Bs 64 _ (fun y hy => by rw [Bs_length, h y (List.mem_of_mem_take hy)]), List.length_take, Nat.min_eq_left (by omega), Nat.mul_comm]
  have h64 : s[i].length = 64 := h _ (List.getElem_mem hi)
  have hset : (s.set i (x ++ s[i].drop x.length)).flatMap Bs = (s.take i).flatMap Bs ++ Bs (x ++ s[i].drop x.length) ++ (s.drop (i + 1)).flatMap Bs := by
    rw [List.set_eq_take_append_cons_drop, if_pos hi]; simp
  apply Array.toList_inj.1
  rw [splice_toList]
  show (s.flatMap Bs).take (i * 64) ++ Bs x ++ (s.flatMap Bs).drop (i * 64 + (Bs x).length) = (s.set i (x ++ s[i].drop x.length)).flatMap Bs
  rw [hset, flatMap_split s i hi, Bs_length, ← hl, List.append_assoc, List.append_assoc, List.take_left, List.drop_length_add_append, List.drop_append_of_le_length (by rw [Bs_length, h64]; exact hx), Bs_append, ← Bs_drop]
  simp

theorem secRow_part (s : List (List UInt8)) (sp : Array Value) (h : ∀ x ∈ s, x.length = 64) (i : Nat) (hi : i < s.length) (x : List UInt8) (hx : x.length ≤ 64) :
    splice (secRow s sp) (i * 64) (Bs x) = secRow (s.set i (x ++ (s.getD i []).drop x.length)) sp := by
  have hs := secCells_size s h
  rw [secRow, splice_append _ _ _ _ (by rw [Bs_length, hs]; omega), secCells_part s h i hi x hx]; rfl

theorem torn_mul (torn : Int) : IntKind.i64.wrap ((IntKind.i64.wrap ((mn (mx torn 0) 64).tdiv 8)) * 8) = (torn8 torn : Nat) := by
  have e : mn (mx torn 0) 64 = min (max torn 0) 64 := by rw [mn_eq, mx_eq]
  rw [e]
  have h0 : 0 ≤ min (max torn 0) 64 := by omega
  have h1 : min (max torn 0) 64 ≤ 64 := by omega
  unfold torn8
  generalize min (max torn 0) 64 = m at *
  have hq : IntKind.i64.wrap (m / 8) = m / 8 := IntWalk.i64_in _ (by omega)
  rw [Int.tdiv_eq_ediv_of_nonneg h0, hq, IntWalk.i64_in _ (by omega)]
  omega
theorem torn8_le (torn : Int) : torn8 torn ≤ 64 := by unfold torn8; omega

set_option maxRecDepth 100000 in
set_option maxHeartbeats 1000000 in
theorem crash_some (b lb cl : Nat) (sp : Array Value) (g cap : Nat) (D : Dk) (w : World) (keep torn : Int) (h : IsDk w b lb cl sp (.slice (some ⟨g, 0, none⟩) D.buf.length cap) D)  :
    Calls Try.prog 18 #[.pointer (some ⟨b, 0, none⟩), .int .i64 keep, .int .i64 torn] w fun e w' => e = .returned (.tuple #[]) ∧ IsDk w' b lb cl sp (.slice none 0 0) (D.crashed keep torn) ∧ Fr (fun k => k = b ∨ k = lb) w w' := by
  have HH := Lib.hid h
  obtain ⟨ok, head, row, own, ne1, ne2, ne3⟩ := h
  rcases own.2 with ⟨h, _⟩ | ⟨g', cap', cur, hv, _, hg, hnc, hcm, hcs, htake⟩
  · cases h
  obtain ⟨rfl, rfl⟩ : g = g' ∧ cap = cap' := by simpa using hv
  replace hcm : cap ≤ 9223372036854775807 := by simpa [maxLen] using hcm
  have hn : ∃ n : Nat, mn (mx keep 0) D.buf.length = (n : Int) ∧ n ≤ D.buf.length ∧ n = (min (max keep 0) D.buf.length).toNat := by
    refine ⟨(min (max keep 0) D.buf.length).toNat, ?_, ?_, rfl⟩
    · rw [mn_eq, mx_eq]; omega
    · omega
  obtain ⟨n, hn1, hn2, hn3⟩ := hn
  have HN3 := Lib.hid hn3; clear hn3
  have HOWN := Lib.hid own; clear own
  have HOK := Lib.hid ok; clear ok
  have HTK := Lib.hid htake; clear htake
  clear hv
  by_cases hlt : n < D.buf.length
  · have hx := own_extract (w := w) (g := g) (cap := cap) (fun x hx => (HOK.out.buf x hx).2) HTK.out n hlt
    have hbk := HOK.out.buf D.buf[n] (List.getElem_mem hlt)
    have hget : D.buf[n]? = some D.buf[n] := List.getElem?_eq_getElem hlt
    have hnl : (settled D.secs (D.buf.take n)).length = D.secs.length := settled_length _ _
    have hl64 : ∀ x ∈ settled D.secs (D.buf.take n), x.length = 64 := settled_len _ (fun x hx => (HOK.out.buf x (List.mem_of_mem_take hx)).2) _ HOK.out.len
    have hsz : n * 65 + 65 ≤ cur.size := by rw [hcs]; omega
    have hmost := HOK.out.most
    have hok2 := HOK.out.atSettled n [] (by simp)
    have hres : D.crashed keep torn = { secs := (settled D.secs (D.buf.take n)).set D.buf[n].1 (D.buf[n].2.take (torn8 torn) ++ ((settled D.secs (D.buf.take n)).getD D.buf[n].1 []).drop (torn8 torn)), buf := [], armed := -1, down := false } := by
      simp only [Dk.crashed, ← HN3.out, hget]
    generalize D.buf[n] = xx at hx hbk hget hres
    obtain ⟨at_, d⟩ := xx
    obtain ⟨hat, hd⟩ := hbk
    simp only [recOf] at hx hat hd hres
    have hx' : sub cur (n * 65) 65 = (Value.int .i64 (at_ : Int) :: Bs d).toArray := hx
    have hbl : (Bs d).length = 64 := by rw [Bs_length, hd]
    have hss := secRow_size _ sp hl64
    have htm : wrap64 (wrap64 ((mn (mx torn 0) 64).tdiv 8) * 8) = (torn8 torn : Nat) := by rw [← i64_w, ← i64_w]; exact torn_mul torn
    have ht8 := torn8_le torn
    have hpart := secRow_part _ sp hl64 at_ (by rw [hnl]; exact hat) (d.take (torn8 torn)) (by rw [List.length_take]; omega)
    rw [List.length_take, hd, Nat.min_eq_left ht8] at hpart
    have hnew : ∀ x ∈ (settled D.secs (D.buf.take n)).set at_ (d.take (torn8 torn) ++ ((settled D.secs (D.buf.take n)).getD at_ []).drop (torn8 torn)), x.length = 64 := by
      intro x hx
      rcases List.mem_or_eq_of_mem_set hx with h1 | h1
      · exact hl64 x h1
      · have : ((settled D.secs (D.buf.take n)).getD at_ []).length = 64 := by
          rw [List.getD_eq_getElem?_getD, List.getElem?_eq_getElem (by rw [hnl]; exact hat), Option.getD_some]; exact hl64 _ (List.getElem_mem _)
        rw [h1, List.length_append, List.length_take, List.length_drop, this, hd]; omega
    have HNEW := Lib.hid hnew; clear hnew
    generalize hS : settled D.secs (D.buf.take n) = S at *
    have HS := Lib.hid hS; clear hS
    have HOK2 := Lib.hid hok2; clear hok2
    have HPART := Lib.hid hpart; clear hpart
    have HRES := Lib.hid hres; clear hres
    have HSS := Lib.hid hss; clear hss
    have HL := Lib.hid hl64; clear hl64
    have HD := Lib.hid hd; clear hd
    have HNL := Lib.hid hnl; clear hnl
    clear hx hget hcs
    go_enter Try.func18, Try.ntmps18
    go_wp2_with (go_at_call 49; refine (settle_any b lb cl sp _ D w n HH.out hn2).mono ?_; rintro e w2 ⟨rfl, row2, fr2⟩; rw [HS.out] at row2; have hg2 := fr2.at hg (fun e => ne3 (by rw [e]; rfl)); have head2 := fr2.at head ne1; clear head hg row; have FR2 := Lib.hid fr2; clear fr2)
    have ha : (w2.alloc (.cells (Value.int .i64 (at_ : Int) :: Bs d).toArray 89 (0, 0))).heap[b]? = _ := (heap_alloc_lt _ _ _ (by rw [head2]; rfl)).trans head2
    have hr : (w2.alloc (.cells (Value.int .i64 (at_ : Int) :: Bs d).toArray 89 (0, 0))).heap[lb]? = _ := (heap_alloc_lt _ _ _ (by rw [row2]; rfl)).trans row2
    have hn : (w2.alloc (.cells (Value.int .i64 (at_ : Int) :: Bs d).toArray 89 (0, 0))).heap[w2.heap.size]? = _ := heap_alloc_at _ _
    have hfa : Fr (fun k => k = lb) w (w2.alloc (.cells (Value.int .i64 (at_ : Int) :: Bs d).toArray 89 (0, 0))) := FR2.out.alloc _
    clear head2 row2 hg2
    generalize hw3 : w2.alloc (.cells (Value.int .i64 (at_ : Int) :: Bs d).toArray 89 (0, 0)) = w3 at *
    clear hw3
    generalize w2.heap.size = nb at *
    have hby : IsBytes w3 (.slice (some ⟨nb, 1, none⟩) 64 64) d := by
      refine ⟨some ⟨nb, 1, none⟩, 64, by rw [HD.out], by rw [HD.out]; exact Nat.le_refl _, by omega, by simp, ?_⟩
      rintro a rfl' j v hv
      cases rfl'
      rw [Addr.add_mk, cells_at hn]
      simp only [List.getElem?_toArray]
      rw [Nat.add_comm, List.getElem?_cons_succ]; exact hv
    have HFA := Lib.hid hfa; clear hfa
    have HBY := Lib.hid hby; clear hby
    refine start_ (n := 16) (S := fun w' => w'.heap[b]? = some (.cells #[.slice (some ⟨lb, 0, none⟩) D.secs.length cl, .slice (some ⟨g, 0, none⟩) D.buf.length cap, .int .i64 D.armed, .bool D.down] 84 (0, 0)) ∧ w'.heap[nb]? = some (.cells (Value.int .i64 (at_ : Int) :: Bs d).toArray 89 (0, 0))) (ds := [15]) #[false, false, false, false, false, false, false, false, false, false, false, false, false, false, false, false] (by kernel_rfl) rfl rfl ⟨ha, hn⟩ (fun hHeld => ?_)
    refine pure_ (i := 0) (N := some 33) (v := ?_) (a' := ?_) #[true, false, false, false, false, false, false, false, false, false, false, false, false, false, false, false] rfl rfl (by kernel_rfl) (fun _ _ _ h => h) (Or.inl ⟨by rfl, ?_⟩) ?_ ?_
    rotate_left
    · intro w'
      try simp only [List.getElem_toArray, List.getElem_cons_succ, List.getElem_cons_zero]
      go_simp
      with_reducible rfl
    rotate_left
    · simp only [Act.put, List.setIfInBounds_toArray, List.set_cons_zero, List.set_cons_succ, i64_w, i32_w]
      rfl
    refine pure_ (i := 1) (N := some 34) (v := ?_) (a' := ?_) #[true, true, false, false, false, false, false, false, false, false, false, false, false, false, false, false] rfl rfl (by kernel_rfl) (fun _ _ _ h => h) (Or.inl ⟨by rfl, ?_⟩) ?_ ?_
    rotate_left
    · intro w'
      try simp only [List.getElem_toArray, List.getElem_cons_succ, List.getElem_cons_zero]
      go_simp
      with_reducible rfl
    rotate_left
    · simp only [Act.put, List.setIfInBounds_toArray, List.set_cons_zero, List.set_cons_succ, i64_w, i32_w]
      rfl
    refine pure_ (i := 2) (N := some 35) (v := ?_) (a' := ?_) #[true, true, true, false, false, false, false, false, false, false, false, false, false, false, false, false] rfl rfl (by kernel_rfl) (fun _ _ _ h => h) (Or.inl ⟨by rfl, ?_⟩) ?_ ?_
    rotate_left
    · intro w'
      try simp only [List.getElem_toArray, List.getElem_cons_succ, List.getElem_cons_zero]
      go_simp
      with_reducible rfl
    rotate_left
    · simp only [Act.put, List.setIfInBounds_toArray, List.set_cons_zero, List.set_cons_succ, i64_w, i32_w]
      rfl
    refine pure_ (i := 4) (N := some 37) (v := ?_) (a' := ?_) #[true, true, true, false, true, false, false, false, false, false, false, false, false, false, false, false] rfl rfl (by kernel_rfl) (fun _ _ _ h => h) (Or.inl ⟨by rfl, ?_⟩) ?_ ?_
    rotate_left
    · intro w'
      try simp only [List.getElem_toArray, List.getElem_cons_succ, List.getElem_cons_zero]
      go_simp
      with_reducible rfl
    rotate_left
    · simp only [Act.put, List.setIfInBounds_toArray, List.set_cons_zero, List.set_cons_succ, i64_w, i32_w]
      rfl
    refine pure_ (i := 7) (N := some 40) (v := ?_) (a' := ?_) #[true, true, true, false, true, false, false, true, false, false, false, false, false, false, false, false] rfl rfl (by kernel_rfl) (fun _ _ _ h => h) (Or.inl ⟨by rfl, ?_⟩) ?_ ?_
    rotate_left
    · intro w'
      try simp only [List.getElem_toArray, List.getElem_cons_succ, List.getElem_cons_zero]
      go_simp
      with_reducible rfl
    rotate_left
    · simp only [Act.put, List.setIfInBounds_toArray, List.set_cons_zero, List.set_cons_succ, i64_w, i32_w]
      rfl
    refine pure_ (i := 8) (N := some 41) (v := ?_) (a' := ?_) #[true, true, true, false, true, false, false, true, true, false, false, false, false, false, false, false] rfl rfl (by kernel_rfl) (fun _ _ _ h => h) (Or.inl ⟨by rfl, ?_⟩) ?_ ?_
    rotate_left
    · intro w'
      try simp only [List.getElem_toArray, List.getElem_cons_succ, List.getElem_cons_zero]
      go_simp
      with_reducible rfl
    rotate_left
    · simp only [Act.put, List.setIfInBounds_toArray, List.set_cons_zero, List.set_cons_succ, i64_w, i32_w]
      rfl
    refine pure_ (i := 9) (N := some 42) (v := ?_) (a' := ?_) #[true, true, true, false, true, false, false, true, true, true, false, false, false, false, false, false] rfl rfl (by kernel_rfl) (fun _ _ _ h => h) (Or.inl ⟨by rfl, ?_⟩) ?_ ?_
    rotate_left
    · intro w'
      try simp only [List.getElem_toArray, List.getElem_cons_succ, List.getElem_cons_zero]
      go_simp
      with_reducible rfl
    rotate_left
    · simp only [Act.put, List.setIfInBounds_toArray, List.set_cons_zero, List.set_cons_succ, i64_w, i32_w]
      rfl
    refine pure_ (i := 10) (N := some 43) (v := ?_) (a' := ?_) #[true, true, true, false, true, false, false, true, true, true, true, false, false, false, false, false] rfl rfl (by kernel_rfl) (fun _ _ _ h => h) (Or.inl ⟨by rfl, ?_⟩) ?_ ?_
    rotate_left
    · intro w'
      try simp only [List.getElem_toArray, List.getElem_cons_succ, List.getElem_cons_zero]
      go_simp
      with_reducible rfl
    rotate_left
    · simp only [Act.put, List.setIfInBounds_toArray, List.set_cons_zero, List.set_cons_succ, i64_w, i32_w]
      rfl
    refine pure_ (i := 11) (N := some 44) (v := ?_) (a' := ?_) #[true, true, true, false, true, false, false, true, true, true, true, true, false, false, false, false] rfl rfl (by kernel_rfl) (fun _ _ _ h => h) (Or.inl ⟨by rfl, ?_⟩) ?_ ?_
    rotate_left
    · intro w'
      try simp only [List.getElem_toArray, List.getElem_cons_succ, List.getElem_cons_zero]
      go_simp
      with_reducible rfl
    rotate_left
    · simp only [Act.put, List.setIfInBounds_toArray, List.set_cons_zero, List.set_cons_succ, i64_w, i32_w]
      rfl
    refine pure_ (i := 13) (N := some 46) (v := ?_) (a' := ?_) #[true, true, true, false, true, false, false, true, true, true, true, true, false, true, false, false] rfl rfl (by kernel_rfl) (fun _ _ _ h => h) (Or.inl ⟨by rfl, ?_⟩) ?_ ?_
    rotate_left
    · intro w'
      try simp only [List.getElem_toArray, List.getElem_cons_succ, List.getElem_cons_zero]
      go_simp
      with_reducible rfl
    rotate_left
    · simp only [Act.put, List.setIfInBounds_toArray, List.set_cons_zero, List.set_cons_succ, i64_w, i32_w]
      rfl
    refine pure_ (i := 14) (N := some 47) (v := ?_) (a' := ?_) #[true, true, true, false, true, false, false, true, true, true, true, true, false, true, true, false] rfl rfl (by kernel_rfl) (fun _ _ _ h => h) (Or.inl ⟨by rfl, ?_⟩) ?_ ?_
    rotate_left
    · intro w'
      try simp only [List.getElem_toArray, List.getElem_cons_succ, List.getElem_cons_zero]
      go_simp
      with_reducible rfl
    rotate_left
    · simp only [Act.put, List.setIfInBounds_toArray, List.set_cons_zero, List.set_cons_succ, i64_w, i32_w]
      rfl
    refine take_ (i := 3) (N := some 36) (v := ?_) (a' := ?_) #[true, true, true, true, true, false, false, true, true, true, true, true, false, true, true, false] rfl rfl (by kernel_rfl) (fun _ _ _ h => h) (Or.inl ⟨by rfl, ?_⟩) hHeld ?_ ?_
    rotate_left
    · rintro w' ⟨s0, s1⟩
      try simp only [List.getElem_toArray, List.getElem_cons_succ, List.getElem_cons_zero]
      go_simp
      with_reducible rfl
    rotate_left
    · simp only [Act.put, List.setIfInBounds_toArray, List.set_cons_zero, List.set_cons_succ, i64_w, i32_w]
      rfl
    refine take_ (i := 5) (N := some 38) (v := ?_) (a' := ?_) #[true, true, true, true, true, true, false, true, true, true, true, true, false, true, true, false] rfl rfl (by kernel_rfl) (fun _ _ _ h => h) (Or.inl ⟨by rfl, ?_⟩) hHeld ?_ ?_
    rotate_left
    · rintro w' ⟨s0, s1⟩
      try simp only [List.getElem_toArray, List.getElem_cons_succ, List.getElem_cons_zero]
      go_simp
      with_reducible rfl
    rotate_left
    · simp only [Act.put, List.setIfInBounds_toArray, List.set_cons_zero, List.set_cons_succ, i64_w, i32_w]
      rfl
    refine pure_ (i := 6) (N := some 39) (v := ?_) (a' := ?_) #[true, true, true, true, true, true, true, true, true, true, true, true, false, true, true, false] rfl rfl (by kernel_rfl) (fun _ _ _ h => h) (Or.inl ⟨by rfl, ?_⟩) ?_ ?_
    rotate_left
    · intro w'
      try simp only [List.getElem_toArray, List.getElem_cons_succ, List.getElem_cons_zero]
      go_simp
      with_reducible rfl
    rotate_left
    · simp only [Act.put, List.setIfInBounds_toArray, List.set_cons_zero, List.set_cons_succ, i64_w, i32_w]
      rfl
    refine pure_ (i := 12) (N := some 45) (v := ?_) (a' := ?_) #[true, true, true, true, true, true, true, true, true, true, true, true, true, true, true, false] rfl rfl (by kernel_rfl) (fun _ _ _ h => h) (Or.inl ⟨by rfl, ?_⟩) ?_ ?_
    rotate_left
    · intro w'
      try simp only [List.getElem_toArray, List.getElem_cons_succ, List.getElem_cons_zero]
      go_simp
      with_reducible rfl
    rotate_left
    · simp only [Act.put, List.setIfInBounds_toArray, List.set_cons_zero, List.set_cons_succ, i64_w, i32_w]
      rfl
    refine last_ (i := 15) (N := some 48) #[true, true, true, true, true, true, true, true, true, true, true, true, true, true, true, true] rfl rfl (by kernel_rfl) (by decide) (fun K hK => ?_)
    refine step_copy_bytes (by rfl) (.tmp 45) (.tmp 47) 30 30 5 rfl Try.underlying30 (by kernel_rfl) lb (at_ * 64) (torn8 torn) 64 rfl _ d rfl (HBY.out.fr (F := fun _ => False) (Fr.refl _ w3).drew (fun _ _ h => h)) (secRow S sp) 87 hr (by rw [HD.out]; have := HNL.out; have := HSS.out; omega) ?_
    rw [HPART.out]
    refine hK.out _ _ ?_
    clear hK K
    refine norm_ (a' := ?_) ?_ ?_
    rotate_left
    · show Act.put _ (some 48) _ = _
      simp only [Act.put, List.setIfInBounds_toArray, List.set_cons_zero, List.set_cons_succ, i64_w, i32_w]
      rfl
    refine done_ (by kernel_rfl) ?_

    have row4 : (w3.drew.setRow lb (secRow (S.set at_ (d.take (torn8 torn) ++ (S.getD at_ []).drop (torn8 torn))) sp)).heap[lb]? = some (.cells (secRow (S.set at_ (d.take (torn8 torn) ++ (S.getD at_ []).drop (torn8 torn))) sp) 87 (0, 0)) := by
      rw [heap_setRow_self, heap_drew', hr]; rfl
    have fr4 : Fr (fun k => k = lb) w (w3.drew.setRow lb (secRow (S.set at_ (d.take (torn8 torn) ++ (S.getD at_ []).drop (torn8 torn))) sp)) := HFA.out.drew.setRow _ (.inl rfl)
    have head4 : (w3.drew.setRow lb (secRow (S.set at_ (d.take (torn8 torn) ++ (S.getD at_ []).drop (torn8 torn))) sp)).heap[b]? = some (.cells #[.slice (some ⟨lb, 0, none⟩) D.secs.length cl, .slice (some ⟨g, 0, none⟩) D.buf.length cap, .int .i64 D.armed, .bool D.down] 84 (0, 0)) := by
      rw [heap_setRow, if_neg (Ne.symm ne1), heap_drew']; exact ha
    generalize w3.drew.setRow lb (secRow (S.set at_ (d.take (torn8 torn) ++ (S.getD at_ []).drop (torn8 torn))) sp) = w4 at *
    have FIN : Hid (∀ w5, w5 = ((w4.setCell ⟨b, 1, none⟩ (.slice none 0 0)).setCell ⟨b, 3, none⟩ (.bool false)).setCell ⟨b, 2, none⟩ (.int .i64 (-1)) → IsDk w5 b lb cl sp (.slice none 0 0) (D.crashed keep torn) ∧ Fr (fun k => k = b ∨ k = lb) w w5) := by
      rintro w5 rfl
      have fr5 : Fr (fun k => k = b) w4 (((w4.setCell ⟨b, 1, none⟩ (.slice none 0 0)).setCell ⟨b, 3, none⟩ (.bool false)).setCell ⟨b, 2, none⟩ (.int .i64 (-1))) := by
        refine Fr.setCell (Fr.setCell (Fr.setCell (Fr.refl _ _) _ (by simp)) _ (by simp)) _ (by simp)
      rw [HRES.out]
      refine ⟨⟨⟨?_, ?_, HNEW.out, by simp, by simp⟩, ?_, fr5.at row4 (Ne.symm ne1), World.ownsRow_nil _ _ _ _, ne1, by simp [Value.ownBlock], by simp [Value.ownBlock]⟩, ?_⟩
      · show 1 ≤ (S.set _ _).length; rw [List.length_set, HNL.out]; exact HOK.out.one
      · show (S.set _ _).length ≤ _; rw [List.length_set, HNL.out]; exact HOK.out.most
      · rw [heap_setCell_self, heap_setCell_self, heap_setCell_self, head4]; simp [putIn_some, HNL.out]
      · exact (fr4.mono (fun k _ h => .inr h)).trans (fr5.mono (G := fun k => k = b ∨ k = lb) (fun k _ h => .inl h)) (fun k h => .inl h)
    clear ha hn hr row4 fr4
    go_wp2
    go_end0
    exact ⟨rfl, FIN.out _ rfl⟩
  · obtain rfl : n = D.buf.length := by omega
    have hres : D.crashed keep torn = { secs := settled D.secs (D.buf.take D.buf.length), buf := [], armed := -1, down := false } := by
      simp only [Dk.crashed, ← HN3.out]
      rw [List.getElem?_eq_none (Nat.le_refl _)]
    have hok2 := HOK.out.atSettled D.buf.length [] (by simp)
    have HRES := Lib.hid hres; clear hres
    have HOK2 := Lib.hid hok2; clear hok2
    have hlt' : decide ((D.buf.length : Int) < (D.buf.length : Int)) = false := by simp
    go_enter Try.func18, Try.ntmps18
    go_wp2_with (go_at_call 49; refine (settle_any b lb cl sp _ D w D.buf.length HH.out (Nat.le_refl _)).mono ?_; rintro e w4 ⟨rfl, row4, fr4⟩; have head4 := fr4.at head ne1; clear head hg row
                 have ROW4 := Lib.hid row4; clear row4; have FR4 := Lib.hid fr4; clear fr4; have HEAD4 := Lib.hid head4)
    go_end0
    have fr5 : Fr (fun k => k = b) w4 (((w4.setCell ⟨b, 1, none⟩ (.slice none 0 0)).setCell ⟨b, 3, none⟩ (.bool false)).setCell ⟨b, 2, none⟩ (.int .i64 (-1))) := by
        refine Fr.setCell (Fr.setCell (Fr.setCell (Fr.refl _ _) _ (by simp)) _ (by simp)) _ (by simp)
    rw [HRES.out]
    refine ⟨rfl, ⟨⟨HOK2.out.one, HOK2.out.most, HOK2.out.len, by simp, by simp⟩, ?_, fr5.at ROW4.out (Ne.symm ne1), World.ownsRow_nil _ _ _ _, ne1, by simp [Value.ownBlock], by simp [Value.ownBlock]⟩, ?_⟩
    · rw [heap_setCell_self, heap_setCell_self, heap_setCell_self, HEAD4.out]; simp [putIn_some, settled_length]
    · exact (FR4.out.mono (fun k _ h => .inr h)).trans (fr5.mono (G := fun k => k = b ∨ k = lb) (fun k _ h => .inl h)) (fun k h => .inl h)

set_option maxRecDepth 100000 in
set_option maxHeartbeats 1000000 in
theorem crash_nil (b lb cl : Nat) (sp : Array Value) (D : Dk) (w : World) (keep torn : Int) (h : IsDk w b lb cl sp (.slice none 0 0) D) (h0 : D.buf.length = 0) :
    Calls Try.prog 18 #[.pointer (some ⟨b, 0, none⟩), .int .i64 keep, .int .i64 torn] w fun e w' => e = .returned (.tuple #[]) ∧ IsDk w' b lb cl sp (.slice none 0 0) (D.crashed keep torn) ∧ Fr (fun k => k = b ∨ k = lb) w w' := by
  have HH := Lib.hid h
  obtain ⟨ok, head, row, own, ne1, ne2, ne3⟩ := h
  have hn1 : mn (mx keep 0) 0 = ((0 : Nat) : Int) := by rw [mn_eq, mx_eq]; omega
  have hb : D.buf = [] := List.eq_nil_of_length_eq_zero h0
  have hres : D.crashed keep torn = { secs := settled D.secs (D.buf.take 0), buf := [], armed := -1, down := false } := by
    simp [Dk.crashed, hb]
  have HRES := Lib.hid hres; clear hres
  have HOK := Lib.hid ok; clear ok
  clear own h0 hb
  go_enter Try.func18, Try.ntmps18
  go_wp2_with (go_at_call 49; refine (settle_any b lb cl sp _ D w 0 HH.out (Nat.zero_le _)).mono ?_; rintro e w4 ⟨rfl, row4, fr4⟩; have head4 := fr4.at head ne1; clear head row
               have ROW4 := Lib.hid row4; clear row4; have FR4 := Lib.hid fr4; clear fr4; have HEAD4 := Lib.hid head4)
  go_end0
  have fr5 : Fr (fun k => k = b) w4 (((w4.setCell ⟨b, 1, none⟩ (.slice none 0 0)).setCell ⟨b, 3, none⟩ (.bool false)).setCell ⟨b, 2, none⟩ (.int .i64 (-1))) := by
    refine Fr.setCell (Fr.setCell (Fr.setCell (Fr.refl _ _) _ (by simp)) _ (by simp)) _ (by simp)
  rw [HRES.out]
  have ok := HOK.out
  refine ⟨rfl, ⟨⟨?_, ?_, ?_, by simp, by simp⟩, ?_, fr5.at ROW4.out (Ne.symm ne1), World.ownsRow_nil _ _ _ _, ne1, by simp [Value.ownBlock], by simp [Value.ownBlock]⟩, ?_⟩
  · simpa [settled] using ok.one
  · simpa [settled] using ok.most
  · simpa [settled] using ok.len
  · rw [heap_setCell_self, heap_setCell_self, heap_setCell_self, HEAD4.out]; simp [putIn_some, settled]
  · exact (FR4.out.mono (fun k _ h => .inr h)).trans (fr5.mono (G := fun k => k = b ∨ k = lb) (fun k _ h => .inl h)) (fun k h => .inl h)

theorem crash_any (b lb cl : Nat) (sp : Array Value) (wv : Value) (D : Dk) (w : World) (keep torn : Int) (h : IsDk w b lb cl sp wv D) :
    Calls Try.prog 18 #[.pointer (some ⟨b, 0, none⟩), .int .i64 keep, .int .i64 torn] w fun e w' => e = .returned (.tuple #[]) ∧ IsDk w' b lb cl sp (.slice none 0 0) (D.crashed keep torn) ∧ Fr (fun k => k = b ∨ k = lb) w w' := by
  rcases h.own.2 with ⟨rfl, h0⟩ | ⟨g', cap', cur, rfl, _⟩
  · exact crash_nil b lb cl sp D w keep torn h h0
  · exact crash_some b lb cl sp g' cap' D w keep torn h
end Go.Proofs.Ytnpeeephkkmomaa
namespace Go.Proofs.Ytnpeeephkkmomaa
open Go.RowKit Go.Proofs.YtnpeeephkkmomaaW.PrintLast
set_option linter.unusedVariables false
set_option linter.unusedSimpArgs false

theorem own_empty (w : World) (e : TypeId) (size : Nat) : (w.alloc (.cells #[] e (0, 0))).ownsRow 0 e size (.slice (some ⟨w.heap.size, 0, none⟩) 0 0) 0 [] :=
  ⟨by simp, .inr ⟨w.heap.size, 0, #[], rfl, Nat.zero_le _, heap_alloc_at _ _, Nat.le_refl _, by simp [maxLen], by simp, by simp⟩⟩

/-- A copy of a row: a row of its own in new memory. -/
def ClonePost (w : World) (e : TypeId) (size : Nat) (m : Nat) (news : List Value) (en : Ending) (w' : World) : Prop :=
  ∃ v', en = .returned v' ∧ w'.ownsRow 0 e size v' m news ∧ (∀ k, v'.ownBlock = some k → w.heap.size ≤ k) ∧ Fr (fun _ => False) w w'

theorem info87c : (Try.prog.info? 87).map (fun i => (i.zero, i.size, i.bytes)) = some (some (.agg zc87'), 64, 64) := by kernel_rfl

set_option maxRecDepth 100000 in
set_option maxHeartbeats 1000000 in
theorem clone52_some (ad : Addr) (m c : Nat) (news : List Value) (w : World) (hl : news.length = m * 64) (hnews : ∀ j u, news[j]? = some u → w.cell? (ad.add j) = some u) (h1 : ∀ u ∈ news, u.oneCell' = true)
    (hroom : Room 64 0 m) : Calls Try.prog 52 #[.slice (some ad) m c] w (ClonePost w 87 64 m news) := by
  obtain ⟨i, hinfo, hz0, hz1, hz2⟩ := info_parts info87c
  have HN := Lib.hid hnews; clear hnews
  have H1 := Lib.hid h1; clear h1
  have hq := _root_.Go.run_eql_slice_nil (P := Try.prog) w 81 87 (some ad) m c Try.underlying81
  go_enter Try.func52, Try.ntmps52
  go_wp2_with (refine wpList_append rfl (.tmp 5) (.tmp 6) 81 rfl 87 i _ 64 64 Try.underlying81 hinfo hz0 hz1 hz2 (by simp [Value.cells, zc87_size]) (by decide) (.slice (some ⟨w.heap.size, 0, none⟩) 0 0) 0 [] rfl (own_empty w 87 64) ad m c news rfl hl (fun j u hu => ((Fr.refl (fun _ => False) w).alloc (.cells #[] 87 (0, 0))).cell (HN.out j u hu)) H1.out hroom ?_; intro v3 w3 own3 fr3 fresh3)
  go_ret
  rw [Nat.zero_add, List.nil_append] at own3
  refine ⟨v3, rfl, own3, fun k hk => ?_, ?_⟩
  · rcases fresh3 with h | h
    · rw [h] at hk; simp only [Value.ownBlock, Option.some.injEq] at hk; omega
    · rw [hk] at h; simp at h; omega
  · refine (((Fr.refl (fun _ => False) w).alloc (.cells #[] 87 (0, 0))).trans fr3 (fun k hk => ?_))
    simp only [Value.ownBlock, Option.some.injEq] at hk; exact .inr (Nat.le_of_eq hk)

set_option maxRecDepth 100000 in
theorem clone52_nil (w : World) : Calls Try.prog 52 #[.slice none 0 0] w (ClonePost w 87 64 0 []) := by
  have hq := _root_.Go.run_eql_slice_nil (P := Try.prog) w 81 87 none 0 0 Try.underlying81
  go_enter Try.func52, Try.ntmps52
  go_wp2
  go_ret
  exact ⟨_, rfl, World.ownsRow_nil _ _ _ _, by simp [Value.ownBlock], Fr.refl _ w⟩

set_option maxRecDepth 100000 in
set_option maxHeartbeats 1000000 in
theorem clone53_some (ad : Addr) (m c : Nat) (news : List Value) (w : World) (hl : news.length = m * 65) (hnews : ∀ j u, news[j]? = some u → w.cell? (ad.add j) = some u) (h1 : ∀ u ∈ news, u.oneCell' = true)
    (hroom : m * 72 ≤ 281474976710656) : Calls Try.prog 53 #[.slice (some ad) m c] w (ClonePost w 89 65 m news) := by
  obtain ⟨i, hinfo, hz0, hz1, hz2⟩ := info_parts info89'
  have HN := Lib.hid hnews; clear hnews
  have H1 := Lib.hid h1; clear h1
  have hq := _root_.Go.run_eql_slice_nil (P := Try.prog) w 82 89 (some ad) m c Try.underlying82
  go_enter Try.func53, Try.ntmps53
  go_wp2_with (refine wpList_append0 rfl (.tmp 5) (.tmp 6) 82 rfl 89 i _ 65 72 Try.underlying82 hinfo hz0 hz1 hz2 (by simp [Value.cells, zc89_size]) (by decide) (.slice (some ⟨w.heap.size, 0, none⟩) 0 0) 0 [] rfl (own_empty w 89 65) ad m c news rfl hl (fun j u hu => ((Fr.refl (fun _ => False) w).alloc (.cells #[] 89 (0, 0))).cell (HN.out j u hu)) H1.out (RoomAt.empty (by simp [maxLen]; omega) hroom) ?_; intro v3 w3 own3 fr3 fresh3)
  go_ret
  rw [Nat.zero_add, List.nil_append] at own3
  refine ⟨v3, rfl, own3, fun k hk => ?_, ?_⟩
  · rcases fresh3 with h | h
    · rw [h] at hk; simp only [Value.ownBlock, Option.some.injEq] at hk; omega
    · rw [hk] at h; simp at h; omega
  · refine (((Fr.refl (fun _ => False) w).alloc (.cells #[] 89 (0, 0))).trans fr3 (fun k hk => ?_))
    simp only [Value.ownBlock, Option.some.injEq] at hk; exact .inr (Nat.le_of_eq hk)

set_option maxRecDepth 100000 in
theorem clone53_nil (w : World) : Calls Try.prog 53 #[.slice none 0 0] w (ClonePost w 89 65 0 []) := by
  have hq := _root_.Go.run_eql_slice_nil (P := Try.prog) w 82 89 none 0 0 Try.underlying82
  go_enter Try.func53, Try.ntmps53
  go_wp2
  go_ret
  exact ⟨_, rfl, World.ownsRow_nil _ _ _ _, by simp [Value.ownBlock], Fr.refl _ w⟩



theorem Room.of_small {bytes m : Nat} (h : m * bytes ≤ 140737488355328) (hm : m ≤ maxLen) : Room bytes 0 m := Room.of_le (by omega) (by rw [Nat.zero_add]; exact h)

/-- slices.Clone of a row of one's own. -/
theorem clone53_own (v : Value) (l : List (Nat × List UInt8)) (w : World) (h : w.ownsRow 0 89 65 v l.length (l.flatMap recOf)) (hl : l.length ≤ 2932031007402) : Calls Try.prog 53 #[v] w (ClonePost w 89 65 l.length (l.flatMap recOf)) := by
  rcases h.2 with ⟨rfl, h0⟩ | ⟨g, cap, cur, rfl, _, hg, hnc, hcm, hcs, ht⟩
  · obtain rfl := List.eq_nil_of_length_eq_zero h0
    exact clone53_nil w
  · refine clone53_some ⟨g, 0, none⟩ l.length cap _ w h.1 (h.cells (g := g) rfl) ?_ (by omega)
    intro u hu
    obtain ⟨x, _, hx⟩ := List.mem_flatMap.1 hu
    simp only [recOf, List.mem_cons] at hx
    rcases hx with rfl | hx
    · rfl
    · exact Bs_one _ u hx

theorem sec_one (s : List (List UInt8)) : ∀ u ∈ s.flatMap Bs, u.oneCell' = true := by
  intro u hu
  obtain ⟨x, _, hx⟩ := List.mem_flatMap.1 hu
  exact Bs_one _ u hx
theorem clone52_own (w : World) (b lb cl : Nat) (sp : Array Value) (wv : Value) (D : Dk) (h : IsDk w b lb cl sp wv D) :
    Calls Try.prog 52 #[.slice (some ⟨lb, 0, none⟩) D.secs.length cl] w (ClonePost w 87 64 D.secs.length (D.secs.flatMap Bs)) := by
  have hm := h.ok.most
  have hsz : (D.secs.flatMap Bs).length = D.secs.length * 64 := by rw [length_flatMap_same Bs 64 _ (fun y hy => by rw [Bs_length, h.ok.len y hy]), Nat.mul_comm]
  refine clone52_some ⟨lb, 0, none⟩ D.secs.length cl _ w hsz ?_ (sec_one _) (Room.of_small (by omega) (by simp [maxLen]; omega))
  intro j u hu
  rw [Addr.add_mk, Nat.zero_add]
  refine (cells_at h.row j).trans ?_
  have hj : j < (D.secs.flatMap Bs).length := by
    rcases Nat.lt_or_ge j (D.secs.flatMap Bs).length with h | h
    · exact h
    · rw [List.getElem?_eq_none h] at hu; cases hu
  rw [secRow, Array.getElem?_append_left (by rw [secCells, List.size_toArray]; exact hj), secCells, List.getElem?_toArray]; exact hu

def DkClonePost (w : World) (D : Dk) (e : Ending) (w' : World) : Prop :=
  ∃ b lb cl sp wv, e = .returned (.pointer (some ⟨b, 0, none⟩)) ∧ IsDk w' b lb cl sp wv D ∧ (∀ k, dkFoot b lb wv k → w.heap.size ≤ k) ∧ Fr (fun _ => False) w w'

set_option maxRecDepth 100000 in
set_option maxHeartbeats 2000000 in
theorem clone_any (b lb cl : Nat) (sp : Array Value) (wv : Value) (D : Dk) (w : World) (h : IsDk w b lb cl sp wv D) (hl : D.buf.length ≤ 2932031007402) :
    Calls Try.prog 21 #[.pointer (some ⟨b, 0, none⟩)] w (DkClonePost w D) := by
  have HH := Lib.hid h
  obtain ⟨ok, head, row, own, ne1, ne2, ne3⟩ := h
  obtain ⟨ao, cap, rfl⟩ := ownsRow_slice own
  clear row own ok
  go_enter Try.func21, Try.ntmps21
  go_wp2
  have hf1 := (Fr.refl (fun _ => False) w).alloc (.cells #[.slice (some ⟨lb, 0, none⟩) D.secs.length cl, .slice ao D.buf.length cap, .int .i64 D.armed, .bool D.down] 84 (0, 0))
  have H1 := Lib.hid (HH.out.fr hf1 (fun _ _ h => h))
  have hn1 := heap_alloc_at w (.cells #[.slice (some ⟨lb, 0, none⟩) D.secs.length cl, .slice ao D.buf.length cap, .int .i64 D.armed, .bool D.down] 84 (0, 0))
  generalize w.alloc (.cells #[.slice (some ⟨lb, 0, none⟩) D.secs.length cl, .slice ao D.buf.length cap, .int .i64 D.armed, .bool D.down] 84 (0, 0)) = w1 at *
  generalize hnb : w.heap.size = nb at *
  have HNB := Lib.hid hnb; clear hnb
  have HF1 := Lib.hid hf1; clear hf1 head
  have head1 := H1.out.head
  refine start_ (n := 14) (S := fun w' => w'.heap[b]? = some (.cells #[.slice (some ⟨lb, 0, none⟩) D.secs.length cl, .slice ao D.buf.length cap, .int .i64 D.armed, .bool D.down] 84 (0, 0))) (ds := [11, 13]) #[false, false, false, false, false, false, false, false, false, false, false, false, false, false] (by kernel_rfl) rfl rfl (head1) (fun hHeld => ?_)
  refine pure_ (i := 0) (N := some 7) (v := ?_) (a' := ?_) #[true, false, false, false, false, false, false, false, false, false, false, false, false, false] rfl rfl (by kernel_rfl) (fun _ _ _ h => h) (Or.inl ⟨by rfl, ?_⟩) ?_ ?_
  rotate_left
  · intro w'
    try simp only [List.getElem_toArray, List.getElem_cons_succ, List.getElem_cons_zero]
    go_simp
    with_reducible rfl
  rotate_left
  · simp only [Act.put, List.setIfInBounds_toArray, List.set_cons_zero, List.set_cons_succ, i64_w, i32_w]
    rfl
  refine pure_ (i := 1) (N := some 8) (v := ?_) (a' := ?_) #[true, true, false, false, false, false, false, false, false, false, false, false, false, false] rfl rfl (by kernel_rfl) (fun _ _ _ h => h) (Or.inl ⟨by rfl, ?_⟩) ?_ ?_
  rotate_left
  · intro w'
    try simp only [List.getElem_toArray, List.getElem_cons_succ, List.getElem_cons_zero]
    go_simp
    with_reducible rfl
  rotate_left
  · simp only [Act.put, List.setIfInBounds_toArray, List.set_cons_zero, List.set_cons_succ, i64_w, i32_w]
    rfl
  refine pure_ (i := 2) (N := some 9) (v := ?_) (a' := ?_) #[true, true, true, false, false, false, false, false, false, false, false, false, false, false] rfl rfl (by kernel_rfl) (fun _ _ _ h => h) (Or.inl ⟨by rfl, ?_⟩) ?_ ?_
  rotate_left
  · intro w'
    try simp only [List.getElem_toArray, List.getElem_cons_succ, List.getElem_cons_zero]
    go_simp
    with_reducible rfl
  rotate_left
  · simp only [Act.put, List.setIfInBounds_toArray, List.set_cons_zero, List.set_cons_succ, i64_w, i32_w]
    rfl
  refine pure_ (i := 5) (N := some 12) (v := ?_) (a' := ?_) #[true, true, true, false, false, true, false, false, false, false, false, false, false, false] rfl rfl (by kernel_rfl) (fun _ _ _ h => h) (Or.inl ⟨by rfl, ?_⟩) ?_ ?_
  rotate_left
  · intro w'
    try simp only [List.getElem_toArray, List.getElem_cons_succ, List.getElem_cons_zero]
    go_simp
    with_reducible rfl
  rotate_left
  · simp only [Act.put, List.setIfInBounds_toArray, List.set_cons_zero, List.set_cons_succ, i64_w, i32_w]
    rfl
  refine pure_ (i := 6) (N := some 13) (v := ?_) (a' := ?_) #[true, true, true, false, false, true, true, false, false, false, false, false, false, false] rfl rfl (by kernel_rfl) (fun _ _ _ h => h) (Or.inl ⟨by rfl, ?_⟩) ?_ ?_
  rotate_left
  · intro w'
    try simp only [List.getElem_toArray, List.getElem_cons_succ, List.getElem_cons_zero]
    go_simp
    with_reducible rfl
  rotate_left
  · simp only [Act.put, List.setIfInBounds_toArray, List.set_cons_zero, List.set_cons_succ, i64_w, i32_w]
    rfl
  refine pure_ (i := 7) (N := some 14) (v := ?_) (a' := ?_) #[true, true, true, false, false, true, true, true, false, false, false, false, false, false] rfl rfl (by kernel_rfl) (fun _ _ _ h => h) (Or.inl ⟨by rfl, ?_⟩) ?_ ?_
  rotate_left
  · intro w'
    try simp only [List.getElem_toArray, List.getElem_cons_succ, List.getElem_cons_zero]
    go_simp
    with_reducible rfl
  rotate_left
  · simp only [Act.put, List.setIfInBounds_toArray, List.set_cons_zero, List.set_cons_succ, i64_w, i32_w]
    rfl
  refine take_ (i := 3) (N := some 10) (v := ?_) (a' := ?_) #[true, true, true, true, false, true, true, true, false, false, false, false, false, false] rfl rfl (by kernel_rfl) (fun _ _ _ h => h) (Or.inl ⟨by rfl, ?_⟩) hHeld ?_ ?_
  rotate_left
  · intro w' s0
    try simp only [List.getElem_toArray, List.getElem_cons_succ, List.getElem_cons_zero]
    go_simp
    with_reducible rfl
  rotate_left
  · simp only [Act.put, List.setIfInBounds_toArray, List.set_cons_zero, List.set_cons_succ, i64_w, i32_w]
    rfl
  refine take_ (i := 8) (N := some 15) (v := ?_) (a' := ?_) #[true, true, true, true, false, true, true, true, true, false, false, false, false, false] rfl rfl (by kernel_rfl) (fun _ _ _ h => h) (Or.inl ⟨by rfl, ?_⟩) hHeld ?_ ?_
  rotate_left
  · intro w' s0
    try simp only [List.getElem_toArray, List.getElem_cons_succ, List.getElem_cons_zero]
    go_simp
    with_reducible rfl
  rotate_left
  · simp only [Act.put, List.setIfInBounds_toArray, List.set_cons_zero, List.set_cons_succ, i64_w, i32_w]
    rfl
  refine one_ (i := 4) (N := some 11) #[true, true, true, true, true, true, true, true, true, false, false, false, false, false] rfl rfl (by kernel_rfl) (by decide) (fun K hK => ?_)
  refine goes_ Try.func52 (by kernel_rfl) rfl #[.slice (some ⟨lb, 0, none⟩) D.secs.length cl] (by rfl) rfl rfl (by simp only [List.map_toArray, List.map_cons, List.map_nil]; rfl) ?_
  with_reducible refine (clone52_own w1.drew b lb cl sp _ D (H1.out.fr (F := fun _ => False) (Fr.refl _ w1).drew (fun _ _ h => h))).mono ?_
  rintro e w2 ⟨v2, rfl, own2, new2, fr2⟩
  refine ⟨_, rfl, ?_⟩
  obtain ⟨ao2, cap2, rfl⟩ := ownsRow_slice own2
  have H2 := Lib.hid (H1.out.fr ((Fr.refl (fun _ => False) w1).drew.trans fr2 (fun _ h => h.elim)) (fun _ _ h => h))
  have hn2 := ((Fr.refl (fun _ => False) w1).drew.trans fr2 (fun _ h => h.elim)).at hn1 (fun h => h)
  have head2 := H2.out.head
  refine hK.out _ _ (head2) (fun hHeld => ?_)
  clear hK K
  refine norm_ (a' := ?_) ?_ ?_
  rotate_left
  · show Act.put _ (some 11) _ = _
    simp only [Act.put, List.setIfInBounds_toArray, List.set_cons_zero, List.set_cons_succ, i64_w, i32_w]
    rfl
  refine one_ (i := 9) (N := some 16) #[true, true, true, true, true, true, true, true, true, true, false, false, false, false] rfl rfl (by kernel_rfl) (by decide) (fun K hK => ?_)
  refine goes_ Try.func53 (by kernel_rfl) rfl #[.slice ao D.buf.length cap] (by rfl) rfl rfl (by simp only [List.map_toArray, List.map_cons, List.map_nil]; rfl) ?_
  with_reducible refine (clone53_own _ D.buf w2 H2.out.own hl).mono ?_
  rintro e w3 ⟨v3, rfl, own3, new3, fr3⟩
  refine ⟨_, rfl, ?_⟩
  obtain ⟨ao3, cap3, rfl⟩ := ownsRow_slice own3
  have H3 := Lib.hid (H2.out.fr fr3 (fun _ _ h => h))
  have hn3 := fr3.at hn2 (fun h => h)
  have head3 := H3.out.head
  refine hK.out _ _ (head3) (fun hHeld => ?_)
  clear hK K
  refine norm_ (a' := ?_) ?_ ?_
  rotate_left
  · show Act.put _ (some 16) _ = _
    simp only [Act.put, List.setIfInBounds_toArray, List.set_cons_zero, List.set_cons_succ, i64_w, i32_w]
    rfl
  refine pure_ (i := 10) (N := some 17) (v := ?_) (a' := ?_) #[true, true, true, true, true, true, true, true, true, true, true, false, false, false] rfl rfl (by kernel_rfl) (fun _ _ _ h => h) (Or.inl ⟨by rfl, ?_⟩) ?_ ?_
  rotate_left
  · intro w'
    try simp only [List.getElem_toArray, List.getElem_cons_succ, List.getElem_cons_zero]
    go_simp
    with_reducible rfl
  rotate_left
  · simp only [Act.put, List.setIfInBounds_toArray, List.set_cons_zero, List.set_cons_succ, i64_w, i32_w]
    rfl
  refine last_ (i := 11) (N := none) #[true, true, true, true, true, true, true, true, true, true, true, true, false, false] rfl rfl (by kernel_rfl) (by decide) (fun K hK => ?_)
  refine skip_ (w1 := ?_) (by rfl) rfl ?_ ?_
  rotate_left
  · try simp only [List.getElem_toArray, List.getElem_cons_succ, List.getElem_cons_zero]
    go_simp
    rfl
  refine hK.out _ _ ?_
  clear hK K
  refine pure_ (i := 12) (N := some 18) (v := ?_) (a' := ?_) #[true, true, true, true, true, true, true, true, true, true, true, true, true, false] rfl rfl (by kernel_rfl) (fun _ _ _ h => h) (Or.inl ⟨by rfl, ?_⟩) ?_ ?_
  rotate_left
  · intro w'
    try simp only [List.getElem_toArray, List.getElem_cons_succ, List.getElem_cons_zero]
    go_simp
    with_reducible rfl
  rotate_left
  · simp only [Act.put, List.setIfInBounds_toArray, List.set_cons_zero, List.set_cons_succ, i64_w, i32_w]
    rfl
  refine last_ (i := 13) (N := none) #[true, true, true, true, true, true, true, true, true, true, true, true, true, true] rfl rfl (by kernel_rfl) (by decide) (fun K hK => ?_)
  refine skip_ (w1 := ?_) (by rfl) rfl ?_ ?_
  rotate_left
  · try simp only [List.getElem_toArray, List.getElem_cons_succ, List.getElem_cons_zero]
    go_simp
    rfl
  refine hK.out _ _ ?_
  clear hK K
  refine done_ (by kernel_rfl) ?_

  go_wp2
  go_ret
  have hnb1 : nb < w1.heap.size := lt_of_block hn1
  rcases own2.2 with ⟨hn, h0⟩ | ⟨g2, c2, cur2, hv2, _, hg2, hnc2, hcm2, hcs2, ht2⟩
  · have := HH.out.ok.one; omega
  obtain ⟨rfl, rfl⟩ : ao2 = some ⟨g2, 0, none⟩ ∧ cap2 = c2 := by simpa using hv2
  have hg2n : w1.heap.size ≤ g2 := new2 g2 rfl
  have hg2l : g2 < w2.heap.size := lt_of_block hg2
  have hs12 : w1.heap.size ≤ w2.heap.size := fr2.size
  have hnews3 : ∀ k, (Value.slice ao3 D.buf.length cap3).ownBlock = some k → w2.heap.size ≤ k := new3
  refine ⟨nb, g2, cap2, (cur2.toList.drop (D.secs.length * 64)).toArray, .slice ao3 D.buf.length cap3, rfl, ⟨HH.out.ok, ?_, ?_, ?_, ?_, ?_, ?_⟩, ?_, ?_⟩
  · rw [heap_setCell_self, heap_setCell_self, hn3]; rfl
  · rw [heap_setCell, if_neg (by omega), heap_setCell, if_neg (by omega), fr3.at hg2 (fun h => h)]
    suffices hh : cur2 = secRow D.secs (cur2.toList.drop (D.secs.length * 64)).toArray by rw [← hh]
    apply Array.toList_inj.1
    rw [secRow, Array.toList_append, secCells]
    simp only [← ht2, List.take_append_drop]
  · refine ownsRow_fr own3 (((Fr.refl (fun k => k = nb) w3).setCell _ (.inl rfl)).setCell _ (.inl rfl)) ?_
    intro k hk; have := hnews3 k hk; omega
  · omega
  · intro hk; have := hnews3 nb hk; omega
  · intro hk; have := hnews3 g2 hk; omega
  · have := HNB.out
    rintro k (h | h | h)
    · omega
    · omega
    · have := hnews3 k h; omega
  · have hb := HNB.out
    exact (((((HF1.out.drew.trans fr2 (fun _ h => h.elim)).trans fr3 (fun _ h => h.elim)).setCell _ (.inr (Nat.le_of_eq hb))).setCell _ (.inr (Nat.le_of_eq hb))))
end Go.Proofs.Ytnpeeephkkmomaa
namespace Go.Proofs.Ytnpeeephkkmomaa
open Go.RowKit Go.Proofs.YtnpeeephkkmomaaW.PrintLast
set_option linter.unusedVariables false
set_option linter.unusedSimpArgs false

def Dk.writeA (D : Dk) (i : Int) (l : List UInt8) : Int × Dk := if D.may i ≠ 0 then (D.may i, D) else if 64 < l.length then (3, D) else (0, D.written i.toNat l)
def Dk.flushA (D : Dk) : Int × Dk := if D.down then (32, D) else (0, D.flushed)
def Dk.readA (D : Dk) (i : Int) : List UInt8 := if D.may i ≠ 0 then [] else D.told i.toNat
theorem Dk.may_zero {D : Dk} {i : Int} (h : D.may i = 0) : D.down = false ∧ ∃ ii : Nat, i = (ii : Int) ∧ ii < D.secs.length := by
  unfold Dk.may at h
  split at h
  · cases h
  · rename_i hdn
    split at h
    · cases h
    · rename_i hh
      exact ⟨by simpa using hdn, i.toNat, by omega, by omega⟩
theorem Dk.writeA_buf (D : Dk) (i : Int) (l : List UInt8) : (D.writeA i l).2.buf.length ≤ D.buf.length + 1 := by
  unfold Dk.writeA
  split
  · simp
  · split
    · simp
    · simp [Dk.written, Dk.changed]
theorem Dk.flushA_buf (D : Dk) : D.flushA.2.buf.length ≤ D.buf.length := by
  unfold Dk.flushA
  split
  · simp
  · simp [Dk.flushed, Dk.changed]
theorem Dk.armedAt_buf (D : Dk) (n : Int) : (D.armedAt n).buf = D.buf := by unfold Dk.armedAt; split <;> rfl

theorem dk_write (b lb cl : Nat) (sp : Array Value) (wv : Value) (D : Dk) (w : World) (i : Int) (v : Value) (l : List UInt8) (h : IsDk w b lb cl sp wv D) (hv : IsBytes w v l) (hroom : D.buf.length ≤ 2932031007402) :
    Calls Try.prog 16 #[.pointer (some ⟨b, 0, none⟩), .int .i64 i, v] w fun e w' => e = .returned (.int .i64 (D.writeA i l).1) ∧ ∃ wv', IsDk w' b lb cl sp wv' (D.writeA i l).2 ∧ Mv (dkFoot b lb wv) (dkFoot b lb wv') w w' := by
  unfold Dk.writeA
  by_cases hm : D.may i = 0
  · obtain ⟨hd, ii, rfl, hi⟩ := Dk.may_zero hm
    rw [if_neg (by simpa using hm)]
    by_cases hl : 64 < l.length
    · rw [if_pos hl]
      refine (write_long b lb cl sp wv D w ii v l h hm hv hl).mono ?_
      rintro e w' ⟨rfl, rfl⟩
      exact ⟨rfl, wv, h, Mv.refl _ _⟩
    · rw [if_neg hl]
      exact write_ok b lb cl sp wv D w ii v l h hd hi (by omega) hv hroom
  · rw [if_pos hm]
    refine (write_may b lb cl sp wv D w i v h hm).mono ?_
    rintro e w' ⟨rfl, rfl⟩
    exact ⟨rfl, wv, h, Mv.refl _ _⟩
def ReadA (D : Dk) (i : Int) (w : World) (e : Ending) (w' : World) : Prop :=
  ∃ v, e = .returned (.tuple #[v, .int .i64 (D.may i)]) ∧ IsBytes w' v (D.readA i) ∧ Fr (fun _ => False) w w'
theorem dk_read (b lb cl : Nat) (sp : Array Value) (wv : Value) (D : Dk) (w : World) (i : Int) (h : IsDk w b lb cl sp wv D) : Calls Try.prog 19 #[.pointer (some ⟨b, 0, none⟩), .int .i64 i] w (ReadA D i w) := by
  by_cases hm : D.may i = 0
  · obtain ⟨hd, ii, rfl, hi⟩ := Dk.may_zero hm
    refine (read_ok b lb cl sp wv D w ii h hd hi).mono ?_
    rintro e w' ⟨sb, rfl, _, row, fr⟩
    have ht : (D.told ii).length = 64 := lastAt_len _ ii (fun x hx => (h.ok.buf x hx).2) _ (by rw [List.getD_eq_getElem?_getD, List.getElem?_eq_getElem hi]; exact h.ok.len _ (List.getElem_mem hi))
    refine ⟨_, by rw [hm], ?_, fr⟩
    rw [Dk.readA, if_neg (by simpa using hm)]
    have := IsBytes.of_cells row (by rw [show (D.told ii).length = 64 from ht]; decide)
    rwa [show (D.told ii).length = 64 from ht] at this
  · refine (read_may b lb cl sp wv D w i h hm).mono ?_
    rintro e w' ⟨rfl, rfl⟩
    exact ⟨_, rfl, by rw [Dk.readA, if_pos hm]; exact IsBytes.nil w, Fr.refl _ w⟩
end Go.Proofs.Ytnpeeephkkmomaa
namespace Go.Proofs.Ytnpeeephkkmomaa
open Go.RowKit Go.Proofs.YtnpeeephkkmomaaW.PrintLast
set_option linter.unusedVariables false
set_option linter.unusedSimpArgs false

/-- A row of bytes of one's own. -/
def Buf (w : World) (v : Value) (l : List UInt8) : Prop := w.ownsRow 0 5 1 v l.length (Bs l)
theorem Buf.nil (w : World) : Buf w (.slice none 0 0) [] := World.ownsRow_nil _ _ _ _
theorem Buf.fr {w w' : World} {F : Nat → Prop} {v : Value} {l : List UInt8} (h : Buf w v l) (hf : Fr F w w') (hF : ∀ k, v.ownBlock = some k → ¬ F k) : Buf w' v l := ownsRow_fr h hf hF
theorem Buf.slice {w : World} {v : Value} {l : List UInt8} (h : Buf w v l) : ∃ ao cap, v = .slice ao l.length cap := ownsRow_slice h
theorem Buf.bytes {w : World} {v : Value} {l : List UInt8} (h : Buf w v l) : IsBytes w v l := by
  rcases h.2 with ⟨rfl, h0⟩ | ⟨g, cap, cur, rfl, _, hg, hnc, hcm, hcs, ht⟩
  · obtain rfl := List.eq_nil_of_length_eq_zero h0
    exact IsBytes.nil w
  · refine ⟨some ⟨g, 0, none⟩, cap, rfl, hnc, by simpa [maxLen] using hcm, by simp, ?_⟩
    rintro a ha j v hv
    cases ha
    exact World.ownsRow.cells h rfl j v hv

theorem info5' : (Try.prog.info? 5).map (fun i => (i.zero, i.size, i.bytes)) = some (some (.int .u8 0), 1, 1) := by kernel_rfl

theorem run_append_bytes (w : World) (ty : TypeId) (v : Value) (l : List UInt8) (hb : Buf w v l) (x : Value) (m : List UInt8) (hx : IsBytes w x m) (hroom : Room 1 l.length m.length) :
    ∃ v' w', (Builtin.append_ #[30, 30] ty #[v, x]).run Try.prog w = .ok v' w' ∧ Buf w' v' (l ++ m) ∧ Fr (fun k => v.ownBlock = some k) w w' ∧ (v'.ownBlock = v.ownBlock ∨ v'.ownBlock = some w.heap.size) := by
  obtain ⟨i, hinfo, hz0, hz1, hz2⟩ := info_parts info5'
  obtain ⟨ao, cap, rfl, h1, h2, h3, h4⟩ := hx.is
  cases ao with
  | none =>
    obtain rfl := h3 rfl
    refine ⟨v, w, ?_, by rw [List.append_nil]; exact hb, Fr.refl _ w, .inl rfl⟩
    rcases hb.2 with ⟨rfl, h0⟩ | ⟨g, cap', cur, rfl, _, _, hnc, _⟩
    · simp [Builtin.append_, run_underlying Try.underlying30, sizeOf, typeInfo, hinfo, Builtin.lenOf, Builtin.firstCells]
    · simp [Builtin.append_, run_underlying Try.underlying30, sizeOf, typeInfo, hinfo, Builtin.lenOf, Builtin.firstCells, hnc, storeCells]
  | some a =>
    obtain ⟨v', w', hr, k2, k3, k4⟩ := run_append_mv (P := Try.prog) w 30 ty 5 i (.int .u8 0) 1 1 Try.underlying30 hinfo hz0 hz1 hz2 rfl (by decide) v l.length (Bs l) hb a m.length cap (Bs m) (by rw [Bs_length, Nat.mul_one]) (h4 a rfl) (Bs_one _) hroom
    refine ⟨v', w', hr, ?_, k3, k4⟩
    rw [← Bs_append] at k2
    rw [Buf, List.length_append]; exact k2

theorem step_append_bytes {ops : Array Oper} {o : Oper} {a : Act} {w : World} {K : Act → World → Prop} {Q : Exit → Act → World → Prop} (hw : Region.wanted o (yielded ops a.tmps) = true) (s x : Operand)
    (ho : o.op = .call { callee := .builtin .append, args := #[s, x], argTypes := #[30, 30] })
    (v : Value) (l : List UInt8) (hs : a.eval s = v) (hown : Buf w v l) (u : Value) (m : List UInt8) (hx : a.eval x = u) (hm : IsBytes w u m) (hroom : Room 1 l.length m.length)
    (h : ∀ v' w', Buf w' v' (l ++ m) → Fr (fun k => v.ownBlock = some k) w w' → (v'.ownBlock = v.ownBlock ∨ v'.ownBlock = some w.heap.size) → K (a.put o.dst v') w') :
    if Region.wanted o (yielded ops a.tmps) = true then Oper.wp Try.prog o a w K Q else K (a.put o.dst undef) w := by
  rw [if_pos hw]
  obtain ⟨v', w', hr, h2, h3, h4⟩ := run_append_bytes w o.type v l hown u m hm hroom
  unfold Oper.wp execOp
  simp only [ho, resolve, invoke, builtin, Sem.run_bind, Sem.run_pure, Result.andThen_ok, List.map_toArray, List.map_cons, List.map_nil, hs, hx, hr]
  exact h v' w' h2 h3 h4
theorem wpList_append_bytes {ops : Array Oper} {rest : List Oper} {o : Oper} {a : Act} {w : World} {Q : Exit → Act → World → Prop} (hgd : o.guard = none) (s x : Operand)
    (ho : o.op = .call { callee := .builtin .append, args := #[s, x], argTypes := #[30, 30] })
    (v : Value) (l : List UInt8) (hs : a.eval s = v) (hown : Buf w v l) (u : Value) (m : List UInt8) (hx : a.eval x = u) (hm : IsBytes w u m) (hroom : Room 1 l.length m.length)
    (h : ∀ v' w', Buf w' v' (l ++ m) → Fr (fun k => v.ownBlock = some k) w w' → (v'.ownBlock = v.ownBlock ∨ v'.ownBlock = some w.heap.size) → wpList Try.prog ops Q rest (a.put o.dst v') w') :
    wpList Try.prog ops Q (o :: rest) a w :=
  wpList_plain hgd fun K hK => by
    obtain ⟨v', w', hr, h2, h3, h4⟩ := run_append_bytes w o.type v l hown u m hm hroom
    unfold Oper.wp execOp
    simp only [ho, resolve, invoke, builtin, Sem.run_bind, Sem.run_pure, Result.andThen_ok, List.map_toArray, List.map_cons, List.map_nil, hs, hx, hr]
    exact hK _ _ (h v' w' h2 h3 h4)

theorem Bs_at (l : List UInt8) (j : Nat) (h : j < l.length) : (Bs l)[j]? = some (.int .u8 (l[j].toNat : Int)) := by
  simp [Bs, List.getElem?_map, List.getElem?_eq_getElem h]
/-- A slice into which bytes are written, whatever they are. -/
def Scr (w : World) (v : Value) (n : Nat) : Prop :=
  n = 0 ∨ ∃ g cap cur T, v = .slice (some ⟨g, 0, none⟩) n cap ∧ w.heap[g]? = some (.cells cur T (0, 0)) ∧ ∀ j, j < n → ∃ x, cur[j]? = some (.int .u8 x)
theorem Scr.of_row {w : World} {g n cap : Nat} {l : List UInt8} {T : TypeId} (h : w.heap[g]? = some (.cells (Bs l).toArray T (0, 0))) (hn : n ≤ l.length) : Scr w (.slice (some ⟨g, 0, none⟩) n cap) n := by
  refine .inr ⟨g, cap, _, T, rfl, h, fun j hj => ?_⟩
  rw [List.getElem?_toArray]
  exact ⟨_, Bs_at l j (by omega)⟩
theorem Buf.scr {w : World} {v : Value} {l : List UInt8} (h : Buf w v l) : Scr w v l.length := by
  rcases h.2 with ⟨rfl, h0⟩ | ⟨g, cap, cur, rfl, _, hg, hnc, hcm, hcs, ht⟩
  · exact .inl h0
  · refine .inr ⟨g, cap, cur, 5, rfl, hg, fun j hj => ?_⟩
    have hq : (cur.toList.take (l.length * 1))[j]? = (Bs l)[j]? := by rw [ht]
    rw [List.getElem?_take, if_pos (by omega), Array.getElem?_toList] at hq
    rw [hq]
    exact ⟨_, Bs_at l j hj⟩
theorem Scr.set {w : World} {g n cap k : Nat} {cur : Array Value} {T : TypeId} (hg : w.heap[g]? = some (.cells cur T (0, 0))) (hc : ∀ j, j < n → ∃ x, cur[j]? = some (.int .u8 x)) (y : Int) :
    Scr (w.setCell ⟨g, k, none⟩ (.int .u8 y)) (.slice (some ⟨g, 0, none⟩) n cap) n := by
  refine .inr ⟨g, cap, cur.setIfInBounds k (.int .u8 y), T, rfl, by rw [heap_setCell_self, hg]; rfl, fun j hj => ?_⟩
  obtain ⟨x, hx⟩ := hc j hj
  have hl : j < cur.size := (Array.getElem?_eq_some_iff.1 hx).1
  by_cases hjk : k = j
  · subst hjk
    exact ⟨y, by rw [Array.getElem?_setIfInBounds_self_of_lt hl]⟩
  · exact ⟨x, by rw [Array.getElem?_setIfInBounds_ne hjk]; exact hx⟩
end Go.Proofs.Ytnpeeephkkmomaa
namespace Go.Proofs.Ytnpeeephkkmomaa
open Go.ChangeShapes Go.WideShapes Go.Deep Go.RowKit
set_option linter.unusedVariables false
set_option linter.unusedSimpArgs false

section
variable {H : Type} {enc : TypeId × Value → H} {P : Program} {w : World} {base : Nat} {held : Bool}

theorem bytes_of_trod {t e : TypeId} {fuel : Nat} {v : Value} {x : DataW H × List MemPlace} (ht : P.underlying t = some (.slice e)) (he : P.underlying e = some (.int .u8)) (hc : P.cellsOf e = 1)
    (h : DataW.trod enc P w base (fun _ => true) held fuel t [v] = some x) : ∃ l, IsBytes w v l := by
  rcases open_ints ht he hc h with ⟨hcs, _⟩ | ⟨a, len, cap, zs, hcs, _, hl, hm, hz, _, hcell, hwf⟩
  · obtain rfl : v = .slice none 0 0 := by simpa using hcs
    exact ⟨[], IsBytes.nil w⟩
  · obtain rfl : v = .slice (some a) len cap := by simpa using hcs
    have hz' : zs.length = cap := by simpa using hz
    have hm' : cap ≤ 9223372036854775807 := by simpa [maxLen] using hm
    refine ⟨(zs.take len).map fun z => UInt8.ofNat z.toNat, ⟨some a, cap, ?_, ?_, hm', by simp, ?_⟩⟩
    · simp; omega
    · simp; omega
    · rintro b hb j u hu
      cases hb
      simp only [Bs, List.map_map, List.getElem?_map, List.getElem?_take] at hu
      split at hu
      · rename_i hj
        have hjl : j < zs.length := by omega
        rw [List.getElem?_eq_getElem hjl] at hu
        simp only [Option.map_some, Option.some.injEq, Function.comp] at hu
        have hr := hwf zs[j] (List.getElem_mem hjl)
        have hr' : 0 ≤ zs[j] ∧ zs[j] ≤ 255 := by simpa [Lit.wf, IntKind.min, IntKind.max, IntKind.signed, IntKind.bits] using hr
        have hv : (((UInt8.ofNat zs[j].toNat).toNat : Nat) : Int) = zs[j] := by simp; omega
        rw [hv] at hu
        rw [← hu, hcell j hjl, List.getD_eq_getElem?_getD, List.getElem?_eq_getElem hjl]; rfl
      · cases hu

/-- A slice of structs whose fields are one cell each: every field of every element. -/
theorem fields_of_trod {t e : TypeId} {fs : Array Field} {fuel : Nat} {v : Value} {x : DataW H × List MemPlace} (ht : P.underlying t = some (.slice e)) (he : P.underlying e = some (.struct fs))
    (hone : oneCellFields P fs = true) (hC : P.cellsOf e = fs.size) (h : DataW.trod enc P w base (fun _ => true) held fuel t [v] = some x) :
    ∃ ao len cap, v = .slice ao len cap ∧ len ≤ cap ∧ cap ≤ maxLen ∧ (ao = none → len = 0) ∧ ∀ a, ao = some a → ∃ n : Nat → Nat, ∀ i, i < len → ∀ (j : Nat) (f : Field), fs[j]? = some f →
      ∃ (u : Value) (y : DataW H × List MemPlace), w.cell? (a.add (i * fs.size + j)) = some u ∧ DataW.trod enc P w base (fun _ => true) held (n i) f.type [u] = some y := by
  rcases open_slice ht h with ⟨hcs, _⟩ | ⟨a, len, cap, m, n, D, Pl, hcs, _, hl, hm, hmm, _, hi⟩
  · obtain rfl : v = .slice none 0 0 := by simpa using hcs
    exact ⟨none, 0, 0, rfl, Nat.le_refl _, Nat.zero_le _, fun _ => rfl, fun a h => by cases h⟩
  · obtain rfl : v = .slice (some a) len cap := by simpa using hcs
    simp only [if_true] at hmm
    subst hmm
    refine ⟨some a, len, m, rfl, hl, hm, by simp, ?_⟩
    rintro b hb
    cases hb
    have key : ∀ i, ∃ n', i < len → ∀ (j : Nat) (f : Field), fs[j]? = some f → ∃ (u : Value) (y : DataW H × List MemPlace), w.cell? (a.add (i * fs.size + j)) = some u ∧ DataW.trod enc P w base (fun _ => true) held n' f.type [u] = some y := by
      intro i
      by_cases hil : i < len
      · obtain ⟨cs', hc, ht'⟩ := hi i (by omega)
        rw [hC] at hc
        obtain ⟨ys, n', _, _, hlen, hyl, hf⟩ := DataW.trod_struct he ht'
        obtain ⟨_, hcl, hat⟩ := World.cells?_some hc
        refine ⟨n', fun _ j f hj => ?_⟩
        obtain ⟨ho, hk⟩ := hone_of hone j f hj
        have hjl : j < fs.size := (Array.getElem?_eq_some_iff.1 hj).1
        have hcell := hat j hjl
        have h1 := hf j f hj
        rw [ho, hk, List.drop_eq_getElem_cons (by omega)] at h1
        simp only [List.take_succ_cons, List.take_zero] at h1
        have hys : ys[j]? = some (ys[j]'(by omega)) := List.getElem?_eq_getElem (by omega)
        refine ⟨_, _, ?_, h1.trans hys⟩
        rw [← Go.Deep.add_add, hcell, List.getElem?_eq_getElem (by omega)]
      · exact ⟨0, fun h => absurd h hil⟩
    exact ⟨fun i => Classical.choose (key i), fun i => Classical.choose_spec (key i)⟩

theorem slice_sized {spare : Nat → Bool} {t e : TypeId} {a : Option Addr} {len cap : Nat} {d : DataW H} {ps : List MemPlace} {ts : List TypeId} {ds : List (DataW H)} {j : Nat}
    (hsz : (DataW.weightsEach P ts ds).all (· ≤ reachBytes) = true) (ht : ts[j]? = some t) (hd : ds[j]? = some d) (hu : P.underlying t = some (.slice e))
    (h : DataW.Trod enc P w base spare held t (.slice a len cap) d ps) : len * P.bytesOf e ≤ 140737488351232 := by
  obtain ⟨fuel, hf⟩ := h
  rcases open_slice hu hf with ⟨hcs, _⟩ | ⟨x, l, c, m, n, D, Pl, hcs, _, hl, _, _, hx, _⟩
  · simp [Value.cells] at hcs
    obtain ⟨rfl, rfl, rfl⟩ := hcs
    simp
  · simp [Value.cells] at hcs
    obtain ⟨rfl, rfl, rfl⟩ := hcs
    obtain ⟨hx, _⟩ := Prod.mk.inj hx
    subst hx
    have z := sized_slice hsz ht hd hu
    rw [List.length_map, List.length_range] at z
    exact Nat.le_trans (Nat.mul_le_mul_right _ (by omega)) z

theorem cell_spot {a : Addr} {n : Nat} {u : Value} (h : w.cell? (a.add n) = some u) (h0 : n = 0) : a.spot = none := by
  subst h0
  cases hs : a.spot with
  | none => rfl
  | some s =>
    simp only [Addr.add, if_true, World.cell?, hs] at h
    split at h <;> simp at h
theorem int_of_trod {t : TypeId} {k : IntKind} {fuel : Nat} {v : Value} {x : DataW H × List MemPlace} (ht : P.underlying t = some (.int k)) (h : DataW.trod enc P w base (fun _ => true) held fuel t [v] = some x) :
    ∃ z : Int, v = .int k z ∧ (Lit.int k z).wf = true := by
  obtain ⟨z, h1, _, h2⟩ := DataW.trod_int ht h
  exact ⟨z, by simpa using h1, h2⟩
theorem i64_of_wf {z : Int} (h : (Lit.int .i64 z).wf = true) : -9223372036854775808 ≤ z ∧ z ≤ 9223372036854775807 := by
  simpa [Lit.wf, IntKind.min, IntKind.max, IntKind.signed, IntKind.bits] using h
theorem choose_fn {α : Type} {n : Nat} {p : Nat → α → Prop} [Inhabited α] (h : ∀ i, i < n → ∃ x, p i x) : ∃ f : Nat → α, ∀ i, i < n → p i (f i) := by
  have : ∀ i, ∃ x, i < n → p i x := fun i => by
    by_cases hi : i < n
    · obtain ⟨x, hx⟩ := h i hi; exact ⟨x, fun _ => hx⟩
    · exact ⟨default, fun h => absurd h hi⟩
  exact ⟨fun i => Classical.choose (this i), fun i => Classical.choose_spec (this i)⟩
end
end Go.Proofs.Ytnpeeephkkmomaa
