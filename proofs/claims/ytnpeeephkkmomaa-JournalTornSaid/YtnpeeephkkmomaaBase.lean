/-
  Words on memory by whole blocks: 'Fr F w w'': outside the blocks of F nothing has turned; a whole struct or array loaded from, or stored into, the middle of a block. No program.
-/
import Derived.WalkKit
import Derived.ProofKit
import Derived.Lib.Hide
import Derived.BigQuiet
import Derived.StillTailTactics
import Derived.Laws.IdiomCopy
import Derived.Deep.QuietTactic
namespace Go.Proofs.Ytnpeeephkkmomaa
open Go.RowKit
set_option linter.unusedVariables false
set_option linter.unusedSimpArgs false

/-- Bytes as cells. -/
def Bs (l : List UInt8) : List Value := l.map fun c => Value.int .u8 (c.toNat : Int)
theorem Bs_length (l : List UInt8) : (Bs l).length = l.length := by simp [Bs]
theorem Bs_append (l m : List UInt8) : Bs (l ++ m) = Bs l ++ Bs m := by simp [Bs]
theorem Bs_take (l : List UInt8) (n : Nat) : Bs (l.take n) = (Bs l).take n := by simp [Bs, List.map_take]
theorem Bs_drop (l : List UInt8) (n : Nat) : Bs (l.drop n) = (Bs l).drop n := by simp [Bs, List.map_drop]
theorem Bs_nil : Bs [] = [] := rfl
theorem Bs_one (l : List UInt8) : ∀ v ∈ Bs l, v.oneCell' = true := by
  intro v h; simp only [Bs, List.mem_map] at h; obtain ⟨c, _, rfl⟩ := h; rfl
theorem Bs_inj {l m : List UInt8} (h : Bs l = Bs m) : l = m := by
  induction l generalizing m with
  | nil => cases m with
    | nil => rfl
    | cons x m => simp [Bs] at h
  | cons c l ih => cases m with
    | nil => simp [Bs] at h
    | cons x m =>
      simp only [Bs, List.map_cons, List.cons.injEq, Value.int.injEq, true_and] at h
      have h1 : c = x := UInt8.toNat_inj.1 (by omega)
      rw [h1, ih (by simpa [Bs] using h.2)]

/-- Outside the blocks of F nothing has turned. -/
structure Fr (F : Nat → Prop) (w w' : World) : Prop where
  os : w'.os = w.os
  tape : w'.tape = w.tape
  output : w'.output = w.output
  size : w.heap.size ≤ w'.heap.size
  block : ∀ k, k < w.heap.size → ¬ F k → w'.heap[k]? = w.heap[k]?

theorem Fr.refl (F : Nat → Prop) (w : World) : Fr F w w := ⟨rfl, rfl, rfl, Nat.le_refl _, fun _ _ _ => rfl⟩
theorem Fr.trans {F G : Nat → Prop} {a b c : World} (h : Fr F a b) (k : Fr G b c) (hG : ∀ i, G i → F i ∨ a.heap.size ≤ i) : Fr F a c :=
  ⟨k.os.trans h.os, k.tape.trans h.tape, k.output.trans h.output, Nat.le_trans h.size k.size,
    fun i hi hF => (k.block i (by have := h.size; omega) (fun hg => (hG i hg).elim hF (fun h1 => by omega))).trans (h.block i hi hF)⟩
theorem Fr.mono {F G : Nat → Prop} {a b : World} (h : Fr F a b) (hG : ∀ i, i < a.heap.size → F i → G i) : Fr G a b :=
  ⟨h.os, h.tape, h.output, h.size, fun i hi hg => h.block i hi (fun hf => hg (hG i hi hf))⟩
theorem Fr.alloc {F : Nat → Prop} {a w : World} (h : Fr F a w) (o : Obj) : Fr F a (w.alloc o) :=
  h.trans (G := fun _ => False) ⟨rfl, rfl, rfl, by simp, fun k hk _ => Below.heap_alloc _ _ _ hk⟩ (fun _ h => h.elim)
theorem Fr.drew {F : Nat → Prop} {a w : World} (h : Fr F a w) : Fr F a w.drew := ⟨h.os, h.tape, h.output, h.size, h.block⟩
theorem Fr.drewN {F : Nat → Prop} {a w : World} (h : Fr F a w) (n : Nat) : Fr F a (w.drewN n) := ⟨h.os, h.tape, h.output, h.size, h.block⟩
theorem Fr.setCell {F : Nat → Prop} {a w : World} (h : Fr F a w) {p : Addr} (u : Value) (hp : F p.block ∨ a.heap.size ≤ p.block) : Fr F a (w.setCell p u) :=
  h.trans (G := fun k => k = p.block) ⟨rfl, rfl, rfl, by simp [World.setCell], fun k _ hk => Below.heap_setCell _ _ _ _ hk⟩ (fun i hi => by subst hi; exact hp)
theorem heap_setRow_other (w : World) (g k : Nat) (cs : Array Value) (h : k ≠ g) : (w.setRow g cs).heap[k]? = w.heap[k]? := setRow_other w g k cs h
theorem Fr.setRow {F : Nat → Prop} {a w : World} (h : Fr F a w) {g : Nat} (cs : Array Value) (hp : F g ∨ a.heap.size ≤ g) : Fr F a (w.setRow g cs) :=
  h.trans (G := fun k => k = g) ⟨rfl, rfl, rfl, by simp, fun k _ hk => heap_setRow_other _ _ _ _ hk⟩ (fun i hi => by subst hi; exact hp)
theorem Fr.grown {F : Nat → Prop} {a w w' : World} {row : Option Nat} (h : Fr F a w) (hg : w.grownBy w' row) (hr : ∀ k, row = some k → F k ∨ a.heap.size ≤ k) : Fr F a w' :=
  h.trans (G := fun k => some k = row) ⟨hg.os, hg.tape, hg.output, hg.size, fun k hk hn => hg.block k hk hn⟩ (fun i hi => hr i hi.symm)
theorem Fr.below {B : Nat} {a w : World} (h : Below B a w) : Fr (fun k => B ≤ k) a w := ⟨h.os, h.tape, h.output, h.size, fun k _ hF => h.block k (by omega)⟩
theorem Fr.toBelow {B : Nat} {F : Nat → Prop} {a w : World} (h : Fr F a w) (hB : B ≤ a.heap.size) (hF : ∀ k, k < B → ¬ F k) : Below B a w :=
  ⟨h.os, h.tape, h.output, h.size, fun k hk => h.block k (by omega) (hF k hk)⟩
/-- A block outside F. -/
theorem Fr.at {F : Nat → Prop} {a w : World} (h : Fr F a w) {k : Nat} {o : Obj} (hk : a.heap[k]? = some o) (hF : ¬ F k) : w.heap[k]? = some o := by
  rw [h.block k (Array.getElem?_eq_some_iff.1 hk).1 hF]; exact hk

theorem Fr.cell {F : Nat → Prop} {w w' : World} (h : Fr F w w') {a : Addr} {u : Value} (hc : w.cell? a = some u) (hF : ¬ F a.block := by intro h; exact h) : w'.cell? a = some u := by
  rw [World.cell?_of_block (h.block _ (World.block_lt_of_cell? w _ hc) hF)]; exact hc
theorem lt_of_block {w : World} {k : Nat} {o : Obj} (h : w.heap[k]? = some o) : k < w.heap.size := (Array.getElem?_eq_some_iff.1 h).1

theorem cells_at {w : World} {b : Nat} {cs : Array Value} {T : TypeId} {fr : Nat × Nat} (h : w.heap[b]? = some (.cells cs T fr)) (o : Nat) :
    w.cell? ⟨b, o, none⟩ = cs[o]? := by simp [World.cell?, h]
theorem free_at {w : World} {b : Nat} {cs : Array Value} {T : TypeId} (h : w.heap[b]? = some (.cells cs T (0, 0))) (o : Nat) :
    w.frozen? ⟨b, o, none⟩ = false := by simp [World.frozen?, h]

def cellIn : Option Obj → Nat → Option Value
  | some (.cells c _ _), o => c[o]?
  | _, _ => none
def freeIn : Option Obj → Nat → Bool
  | some (.cells _ _ (lo, hi)), o => lo ≤ o && o < hi
  | _, _ => false
theorem cell?_mk (w : World) (b o : Nat) : w.cell? ⟨b, o, none⟩ = cellIn w.heap[b]? o := by
  unfold World.cell? cellIn
  cases w.heap[b]? with
  | none => rfl
  | some ob => cases ob <;> rfl
theorem frozen?_mk (w : World) (b o : Nat) (s) : w.frozen? ⟨b, o, s⟩ = freeIn w.heap[b]? o := by
  unfold World.frozen? freeIn
  cases w.heap[b]? with
  | none => rfl
  | some ob => cases ob <;> rfl
theorem cellIn_some (c : Array Value) (T : TypeId) (fr : Nat × Nat) (o : Nat) : cellIn (some (.cells c T fr)) o = c[o]? := rfl
theorem freeIn_some (c : Array Value) (T : TypeId) (o : Nat) : freeIn (some (.cells c T (0, 0))) o = false := by simp [freeIn]
def putIn : Option Obj → Nat → Value → Option Obj
  | some (.cells c T fr), o, v => some (.cells (c.setIfInBounds o v) T fr)
  | x, _, _ => x
theorem putIn_some (c : Array Value) (T : TypeId) (fr : Nat × Nat) (o : Nat) (v : Value) : putIn (some (.cells c T fr)) o v = some (.cells (c.setIfInBounds o v) T fr) := rfl
theorem heap_setCell (w : World) (b o k : Nat) (v : Value) : (w.setCell ⟨b, o, none⟩ v).heap[k]? = if b = k then putIn w.heap[k]? o v else w.heap[k]? := by
  simp only [World.setCell, Array.getElem?_modify]
  by_cases h : b = k
  · simp only [h, if_true]; cases hk : w.heap[k]? with
    | none => rfl
    | some ob => cases ob <;> rfl
  · simp only [h, if_false]
theorem heap_setCell_self (w : World) (b o : Nat) (v : Value) : (w.setCell ⟨b, o, none⟩ v).heap[b]? = putIn w.heap[b]? o v := by
  rw [heap_setCell, if_pos rfl]
attribute [go_sem ↓] cell?_mk frozen?_mk
attribute [go_sem] cellIn_some freeIn_some putIn_some
attribute [go_sem ↓ high] heap_setCell_self heap_setCell
theorem heap_alloc (w : World) (o : Obj) (k : Nat) (h : k < w.heap.size) : (w.alloc o).heap[k]? = w.heap[k]? := Below.heap_alloc w o k h
theorem heap_drewN (w : World) (n : Nat) : (w.drewN n).heap = w.heap := rfl
def rowIn : Option Obj → Array Value → Option Obj
  | some (.cells _ T fr), cs => some (.cells cs T fr)
  | x, _ => x
theorem rowIn_some (c c' : Array Value) (T : TypeId) (fr : Nat × Nat) : rowIn (some (.cells c T fr)) c' = some (.cells c' T fr) := rfl
theorem heap_drew' (w : World) : w.drew.heap = w.heap := rfl
attribute [go_sem] heap_drew' heap_drewN
theorem Fr.of_eq {F : Nat → Prop} {w w' : World} (h : w' = w) : Fr F w w' := h ▸ Fr.refl F w

section
variable {P : Program}

theorem Addr.add_mk (b o n : Nat) : (⟨b, o, none⟩ : Addr).add n = ⟨b, o + n, none⟩ := by unfold Addr.add; split <;> simp_all

theorem run_loadCells_row (w : World) (g o n : Nat) (cs : Array Value) (T : TypeId) (fr : Nat × Nat) (hg : w.heap[g]? = some (.cells cs T fr)) (h : o + n ≤ cs.size) :
    (loadCells ⟨g, o, none⟩ n).run P w = .ok (cs.extract o (o + n)) w := by
  have hl := run_loadCells_list (P := P) w ⟨g, o, none⟩ (cs.extract o (o + n)).toList (fun j v hv => by
    rw [Addr.add_mk, cells_at hg]
    simp only [Array.getElem?_toList, Array.getElem?_extract] at hv
    split at hv
    · exact hv
    · cases hv)
  have hlen : (cs.extract o (o + n)).toList.length = n := by simp; omega
  rw [hlen, Array.toArray_toList] at hl
  exact hl

/-- The cells of a row with some of them turned. -/
def splice (cs : Array Value) (o : Nat) (vs : List Value) : Array Value := (cs.toList.take o ++ vs ++ cs.toList.drop (o + vs.length)).toArray
theorem splice_size (cs : Array Value) (o : Nat) (vs : List Value) (h : o + vs.length ≤ cs.size) : (splice cs o vs).size = cs.size := by
  simp [splice]; omega
theorem splice_all (cs : Array Value) (vs : List Value) (h : vs.length = cs.size) : splice cs 0 vs = vs.toArray := by
  simp [splice, h]
theorem splice_toList (cs : Array Value) (o : Nat) (vs : List Value) : (splice cs o vs).toList = cs.toList.take o ++ vs ++ cs.toList.drop (o + vs.length) := rfl

theorem run_storeCells_row (w : World) (g o : Nat) (vs : List Value) (cs : Array Value) (T : TypeId) (hg : w.heap[g]? = some (.cells cs T (0, 0))) (h : o + vs.length ≤ cs.size)
    (h1 : ∀ v ∈ vs, v.oneCell' = true) : (storeCells ⟨g, o, none⟩ vs).run P w = .ok () (w.setRow g (splice cs o vs)) := by
  have := run_storeCells_at P g o T vs 0 cs w hg (by omega) h1
  simpa [splice] using this

def isRec (d : TypeDesc) : Bool := match d with | .struct _ | .array _ _ => true | _ => false

theorem run_isAgg {ty : TypeId} {d : TypeDesc} (hu : P.underlying ty = some d) (hd : isRec d = true) (w : World) : (isAgg ty).run P w = .ok true w := by
  unfold isAgg
  rw [Sem.run_bind, run_underlying hu w]
  cases d <;> simp_all [isRec]

theorem run_sizeOf {ty : TypeId} {n : Nat} (hi : (P.info? ty).map (·.size) = some n) (w : World) : (sizeOf ty).run P w = .ok n w := by
  cases hq : P.info? ty with
  | none => simp [hq] at hi
  | some i => simp [hq] at hi; simp [sizeOf, typeInfo, hq, hi]

theorem run_loadAt_rec (w : World) (ty : TypeId) (d : TypeDesc) (n : Nat) (hu : P.underlying ty = some d) (hd : isRec d = true) (hi : (P.info? ty).map (·.size) = some n)
    (g o : Nat) (cs : Array Value) (T : TypeId) (fr : Nat × Nat) (hg : w.heap[g]? = some (.cells cs T fr)) (h : o + n ≤ cs.size) :
    (Instr.loadAt ty (.pointer (some ⟨g, o, none⟩))).run P w = .ok (.agg (cs.extract o (o + n))) w := by
  simp [Instr.loadAt, Instr.sureAddr, loadVar, run_isAgg hu hd, run_sizeOf hi, run_loadCells_row w g o n cs T fr hg h]

theorem run_storeAt_rec (w : World) (ty : TypeId) (n : Nat) (hi : (P.info? ty).map (·.size) = some n)
    (g o : Nat) (cs : Array Value) (T : TypeId) (hg : w.heap[g]? = some (.cells cs T (0, 0))) (vs : Array Value) (hv : vs.size = n) (h : o + n ≤ cs.size) (h1 : ∀ v ∈ vs.toList, v.oneCell' = true) :
    (Instr.storeAt ty (.pointer (some ⟨g, o, none⟩)) (.agg vs)).run P w = .ok () (w.setRow g (splice cs o vs.toList)) := by
  have := run_storeCells_row (P := P) w g o vs.toList cs T hg (by simpa [hv] using h) h1
  simp [Instr.storeAt, Instr.sureAddr, storeVar, Value.cells, hv, run_sizeOf hi, this]

variable {ops : Array Oper} {Q : Exit → Act → World → Prop} {a : Act} {w : World} {rest : List Oper} {o : Oper}

/-- A whole struct or array is loaded. -/
theorem wpList_load_rec (hgd : o.guard = none) (ty : TypeId) (x : Operand) (ho : o.op = .load ty x) (d : TypeDesc) (n : Nat) (hu : P.underlying ty = some d) (hd : isRec d = true)
    (hi : (P.info? ty).map (·.size) = some n) (g off : Nat) (hx : a.eval x = .pointer (some ⟨g, off, none⟩)) (cs : Array Value) (T : TypeId) (fr : Nat × Nat)
    (hg : w.heap[g]? = some (.cells cs T fr)) (h : off + n ≤ cs.size) (hk : wpList P ops Q rest (a.put o.dst (.agg (cs.extract off (off + n)))) w) : wpList P ops Q (o :: rest) a w :=
  wpList_plain hgd fun K hK => by
    unfold Oper.wp execOp
    simp only [ho, hx, Sem.run_bind, run_loadAt_rec w ty d n hu hd hi g off cs T fr hg h, Result.andThen_ok, Sem.run_pure]
    exact hK _ _ hk

/-- A whole struct or array is stored. -/
theorem wpList_store_rec (hgd : o.guard = none) (ty : TypeId) (x y : Operand) (ho : o.op = .store ty x y) (n : Nat)
    (hi : (P.info? ty).map (·.size) = some n) (g off : Nat) (hx : a.eval x = .pointer (some ⟨g, off, none⟩)) (vs : Array Value) (hy : a.eval y = .agg vs) (cs : Array Value) (T : TypeId)
    (hg : w.heap[g]? = some (.cells cs T (0, 0))) (hv : vs.size = n) (h : off + n ≤ cs.size) (h1 : ∀ v ∈ vs.toList, v.oneCell' = true)
    (hk : wpList P ops Q rest (a.put o.dst undef) (w.setRow g (splice cs off vs.toList))) : wpList P ops Q (o :: rest) a w :=
  wpList_plain hgd fun K hK => by
    unfold Oper.wp execOp
    simp only [ho, hx, hy, Sem.run_bind, run_storeAt_rec w ty n hi g off cs T hg vs hv h h1, Result.andThen_ok, Sem.run_pure]
    exact hK _ _ hk

/-- A variable for a whole struct or array: its zero cells behind a name. -/
theorem wpList_alloc_rec (hgd : o.guard = none) (ty : TypeId) (ho : o.op = .alloc ty) (Z : Array Value) (hz : (P.info? ty).bind (·.zero) = some (.agg Z))
    (hk : wpList P ops Q rest (a.put o.dst (.pointer (some ⟨w.heap.size, 0, none⟩))) (w.alloc (.cells Z ty (0, 0)))) : wpList P ops Q (o :: rest) a w :=
  wpList_plain hgd fun K hK => by
    cases hq : P.info? ty with
    | none => simp [hq] at hz
    | some i =>
      have hz' : i.zero = some (.agg Z) := by simpa [hq] using hz
      unfold Oper.wp execOp
      simp only [ho, Instr.alloc, zeroValue, typeInfo, Sem.run_bind, run_program, Result.andThen_ok, hq, Sem.run_pure, hz', newVar, newRow, Value.cells, run_newObj]
      exact hK _ _ hk

/-- The same at a region whose order is drawn. -/
theorem wpStill_load_rec {Qs : Act → Prop} (hgd : o.guard = none) (ty : TypeId) (x : Operand) (ho : o.op = .load ty x) (d : TypeDesc) (n : Nat) (hu : P.underlying ty = some d) (hd : isRec d = true)
    (hi : (P.info? ty).map (·.size) = some n) (g off : Nat) (hx : a.eval x = .pointer (some ⟨g, off, none⟩)) (cs : Array Value) (T : TypeId) (fr : Nat × Nat)
    (hg : w.heap[g]? = some (.cells cs T fr)) (h : off + n ≤ cs.size) (hk : wpStill P ops w Qs rest (a.put o.dst (.agg (cs.extract off (off + n))))) : wpStill P ops w Qs (o :: rest) a :=
  wpStill_step fun K hK => by
    unfold Oper.still execOp
    rw [if_pos (by simp [Region.wanted, hgd])]
    simp only [ho, hx, Sem.run_bind, run_loadAt_rec w ty d n hu hd hi g off cs T fr hg h, Result.andThen_ok, Sem.run_pure, Oper.stillUpon_value]
    exact hK _ hk
end

theorem heap_setRow (w : World) (g k : Nat) (cs : Array Value) : (w.setRow g cs).heap[k]? = if g = k then rowIn w.heap[k]? cs else w.heap[k]? := by
  by_cases h : g = k
  · subst h
    simp only [World.setRow, Array.getElem?_modify, if_true]
    cases hk : w.heap[g]? with
    | none => rfl
    | some ob => cases ob <;> rfl
  · rw [if_neg h, setRow_other w g k cs (fun e => h e.symm)]
theorem heap_setRow_self (w : World) (g : Nat) (cs : Array Value) : (w.setRow g cs).heap[g]? = rowIn w.heap[g]? cs := by rw [heap_setRow, if_pos rfl]
attribute [go_sem] rowIn_some
attribute [go_sem ↓ high] heap_setRow heap_setRow_self

section
variable {P : Program}
theorem run_alloc_rec (ty : TypeId) (Z : Array Value) (hz : (P.info? ty).bind (·.zero) = some (.agg Z)) (v : Value) (w : World) :
    (Instr.alloc ty true v).run P w = .ok (.pointer (some ⟨w.heap.size, 0, none⟩)) (w.alloc (.cells Z ty (0, 0))) := by
  cases hq : P.info? ty with
  | none => simp [hq] at hz
  | some i =>
    have hz' : i.zero = some (.agg Z) := by simpa [hq] using hz
    simp [Instr.alloc, zeroValue, typeInfo, hq, hz', newVar, newRow, Value.cells]

theorem fold_all : ∀ (l : List Value) (k : Nat) (pre : List Value) (suf : List Value), pre.length = k → suf.length = l.length →
    (l.zipIdx k).foldl (fun (cs : Array Value) (x : Value × Nat) => cs.setIfInBounds (0 + x.2) x.1) (pre ++ suf).toArray = (pre ++ l).toArray
  | [], k, pre, suf, hp, hs => by simp at hs; simp [hs]
  | v :: l, k, pre, s :: suf, hp, hs => by
    simp only [List.zipIdx_cons, List.foldl_cons, Nat.zero_add, List.setIfInBounds_toArray]
    have e : (pre ++ s :: suf).set k v = (pre ++ [v]) ++ suf := by
      rw [List.set_append_right _ _ (by omega)]; simp [hp]
    rw [e]
    have := fold_all l (k + 1) (pre ++ [v]) suf (by simp [hp]) (by simpa using hs)
    simp only [Nat.zero_add] at this
    rw [this]; simp
  | v :: l, k, pre, [], hp, hs => by simp at hs

theorem run_buildSlice_one (t e : TypeId) (n : Nat) (ht : P.underlying t = some (.slice e)) (hi : (P.info? e).map (·.size) = some n) (hz : ((P.info? e).bind (·.zero)).isSome = true) (hn : n ≤ 16777216) (h0 : 0 < n)
    (vs : Array Value) (hv : vs.size = n) (w : World) :
    (Instr.buildSlice t 1 #[(0, .agg vs)]).run P w = .ok (.slice (some ⟨w.heap.size, 0, none⟩) 1 1) (w.alloc (.cells vs e (0, 0))) := by
  cases hq : P.info? e with
  | none => simp [hq] at hi
  | some i =>
    have hi' : i.size = n := by simpa [hq] using hi
    cases hz' : i.zero with
    | none => simp [hq, hz'] at hz
    | some z =>
      have hf : ∀ (c : Array Value), c.size = n → vs.zipIdx.foldl (fun (cs : Array Value) (x : Value × Nat) => cs.setIfInBounds (0 + x.2) x.1) c = vs := by
        intro c hc
        have := fold_all vs.toList 0 [] c.toList rfl (by simp [hc, hv])
        simp only [List.nil_append, Array.toArray_toList] at this
        rw [← Array.foldl_toList, Array.toList_zipIdx]
        exact this
      have hne : ¬ (1 * n = 0) := by omega
      have hle : ¬ (1 * n > 2 ^ 24) := by omega
      have hgt : ¬ (vs.size ≠ n ∨ 0 * n + vs.size > (Array.map (fun x => (Value.cells z)[x % (Value.cells z).size]!) (Array.range (1 * n))).size) := by simp [hv]
      have hff := hf (Array.map (fun x => (Value.cells z)[x % (Value.cells z).size]!) (Array.range (1 * n))) (by simp)
      have hfill : Instr.fill (fun i => some (i * n, n)) (Array.map (fun x => (Value.cells z)[x % (Value.cells z).size]!) (Array.range (1 * n))) [(0, .agg vs)] = some vs := by
        simp only [Instr.fill]
        rw [show (Value.agg vs).cells = vs from rfl, if_neg (by simpa using hgt)]
        simp only [Nat.zero_mul] at hff ⊢
        rw [hff]
      simp only [Instr.buildSlice, Sem.run_bind, run_underlying ht, Result.andThen_ok, sizeOf, typeInfo, run_program, hq, Sem.run_pure, hi', Sem.run_ite, if_neg hne, if_neg hle, zeroValue, hz', hfill,
        newRow, run_newObj]
      rfl
end

def cellsOf : Option Obj → Array Value
  | some (.cells c _ _) => c
  | _ => #[]
def isRow : Option Obj → Bool
  | some (.cells _ _ _) => true
  | _ => false
def isFree : Option Obj → Bool
  | some (.cells _ _ (lo, hi)) => lo == 0 && hi == 0
  | _ => false
theorem cellsOf_some (c : Array Value) (T : TypeId) (fr : Nat × Nat) : cellsOf (some (.cells c T fr)) = c := rfl
theorem isRow_some (c : Array Value) (T : TypeId) (fr : Nat × Nat) : isRow (some (.cells c T fr)) = true := rfl
theorem isFree_some (c : Array Value) (T : TypeId) : isFree (some (.cells c T (0, 0))) = true := rfl
theorem heap_alloc_lt (w : World) (o : Obj) (k : Nat) (h : isRow w.heap[k]? = true) : (w.alloc o).heap[k]? = w.heap[k]? := by
  cases hk : w.heap[k]? with
  | none => rw [hk] at h; cases h
  | some x => rw [Below.heap_alloc w o k (lt_of_block hk), hk]
theorem heap_alloc_at (w : World) (o : Obj) : (w.alloc o).heap[w.heap.size]? = some o := by show (w.heap.push o)[w.heap.size]? = _; simp
attribute [go_sem] cellsOf_some isRow_some isFree_some
attribute [go_sem ↓ high] heap_alloc_lt heap_alloc_at

section
variable {P : Program}
theorem run_loadAt_go (ty : TypeId) (d : TypeDesc) (n : Nat) (hu : P.underlying ty = some d) (hd : isRec d = true) (hi : (P.info? ty).map (·.size) = some n)
    (w : World) (g o : Nat) (h1 : isRow w.heap[g]? = true) (h2 : o + n ≤ (cellsOf w.heap[g]?).size) :
    (Instr.loadAt ty (.pointer (some ⟨g, o, none⟩))).run P w = .ok (.agg ((cellsOf w.heap[g]?).extract o (o + n))) w := by
  cases hq : w.heap[g]? with
  | none => rw [hq] at h1; cases h1
  | some ob =>
    rw [hq] at h1 h2
    cases ob with
    | cells c T fr => exact run_loadAt_rec w ty d n hu hd hi g o c T fr hq h2
    | _ => cases h1

def oneCells (vs : Array Value) : Prop := ∀ v ∈ vs.toList, v.oneCell' = true
theorem oneCells_set (cs : Array Value) (i : Nat) (v : Value) (h : oneCells cs) (hv : v.oneCell' = true) : oneCells (cs.setIfInBounds i v) := by
  intro u hu
  rw [Array.toList_setIfInBounds] at hu
  rcases List.mem_or_eq_of_mem_set hu with h1 | h1
  · exact h u h1
  · rw [h1]; exact hv
theorem oneCells_extract (cs : Array Value) (i j : Nat) (h : oneCells cs) : oneCells (cs.extract i j) := by
  intro u hu
  rw [Array.toList_extract, List.extract_eq_take_drop] at hu
  exact h u (List.mem_of_mem_drop (List.mem_of_mem_take hu))
theorem oneCells_cons (v : Value) (l : List Value) : oneCells (v :: l).toArray ↔ (v.oneCell' = true ∧ oneCells l.toArray) := by
  constructor
  · intro h; exact ⟨h v (by simp), fun u hu => h u (by simp at hu; simp [hu])⟩
  · rintro ⟨hv, h⟩ u hu
    rcases List.mem_cons.1 hu with rfl | hu
    · exact hv
    · exact h u hu
theorem oneCells_nil : oneCells #[] := fun _ h => by simp at h
theorem oneCells_Bs (l : List UInt8) : oneCells (Bs l).toArray := fun v hv => Bs_one l v hv
theorem run_storeAt_go (ty : TypeId) (n : Nat) (hi : (P.info? ty).map (·.size) = some n)
    (w : World) (g o : Nat) (vs : Array Value) (h1 : isFree w.heap[g]? = true) (h2 : o + n ≤ (cellsOf w.heap[g]?).size) (h3 : vs.size = n) (h4 : oneCells vs) :
    (Instr.storeAt ty (.pointer (some ⟨g, o, none⟩)) (.agg vs)).run P w = .ok () (w.setRow g (splice (cellsOf w.heap[g]?) o vs.toList)) := by
  cases hq : w.heap[g]? with
  | none => rw [hq] at h1; cases h1
  | some ob =>
    rw [hq] at h1 h2
    cases ob with
    | cells c T fr =>
      obtain ⟨lo, hi'⟩ := fr
      simp only [isFree, Bool.and_eq_true, beq_iff_eq] at h1
      obtain ⟨rfl, rfl⟩ := h1
      exact run_storeAt_rec w ty n hi g o c T hq vs h3 h2 h4
    | _ => cases h1
end

theorem setRow_alloc_new (w : World) (cs cs' : Array Value) (T : TypeId) (fr : Nat × Nat) : (w.alloc (.cells cs T fr)).setRow w.heap.size cs' = w.alloc (.cells cs' T fr) := by
  simp only [World.setRow, World.alloc, World.mk.injEq, and_true]
  ext i
  · simp
  · simp only [Array.getElem_modify, Array.getElem_push]
    split <;> rename_i h
    · subst h; simp
    · have hlt : i < w.heap.size := by rename_i h1 h2; simp at h1; omega
      simp [hlt]
/-- Some cells of a row. (Array.extract itself bears a congruence rule at which simp stops.) -/
def sub (cs : Array Value) (o n : Nat) : Array Value := cs.extract o (o + n)
theorem sub_whole (cs : Array Value) (n : Nat) (h : cs.size = n) : sub cs 0 n = cs := by subst h; simp [sub]
theorem sub_size (cs : Array Value) (o n : Nat) (h : o + n ≤ cs.size) : (sub cs o n).size = n := by simp [sub]; omega
theorem sub_one (cs : Array Value) (o n : Nat) (h : oneCells cs) : oneCells (sub cs o n) := oneCells_extract cs o (o + n) h
attribute [go_sem] sub_whole sub_size sub_one
/-- WHOLE OPERATIONS BEHIND A NAME: the walk's simp opens nothing of them; a rule says what each comes to. -/
def ldRec (P : Program) (ty : TypeId) (v : Value) (w : World) : Result Next := (do pure (.value (← Instr.loadAt ty v)) : Sem Next).run P w
def stRec (P : Program) (ty : TypeId) (v x : Value) (w : World) : Result Next := (do Instr.storeAt ty v x; pure .skip : Sem Next).run P w
def alRec (P : Program) (ty : TypeId) (w : World) : Result Next := (do pure (.value (← Instr.alloc ty true (.tuple #[]))) : Sem Next).run P w
def bsOne (P : Program) (t : TypeId) (v : Value) (w : World) : Result Next := (do pure (.value (← Instr.buildSlice t 1 #[(0, v)])) : Sem Next).run P w
/-- max and min of two integers: a number, no fork of the walk. -/
def mx (x y : Int) : Int := if y > x then y else x
def mn (x y : Int) : Int := if y < x then y else x
theorem mx_eq (x y : Int) : mx x y = max x y := by unfold mx; omega
theorem mn_eq (x y : Int) : mn x y = min x y := by unfold mn; omega
def mxP (P : Program) (x y : Value) (w : World) : Result Next := (do pure (.value (← Builtin.max2 x y)) : Sem Next).run P w
def mnP (P : Program) (x y : Value) (w : World) : Result Next := (do pure (.value (← Builtin.min2 x y)) : Sem Next).run P w
theorem mxP_int (P : Program) (k k' : IntKind) (a b : Int) (w : World) : mxP P (.int k a) (.int k' b) w = .ok (.value (.int k (mx a b))) w := rfl
theorem mnP_int (P : Program) (k k' : IntKind) (a b : Int) (w : World) : mnP P (.int k a) (.int k' b) w = .ok (.value (.int k (mn a b))) w := rfl
theorem xmx (P : Program) (ρ : Operand → Value) (d : Option Tmp) (x y : Operand) (ts : Array TypeId) (ty : TypeId) (p : String) (af : Array Edge) (gd : Option (Nat × Bool)) (w : World) :
    (execOp ρ ⟨d, .call { callee := .builtin .max, args := #[x, y], argTypes := ts }, ty, p, af, gd⟩).run P w = mxP P (ρ x) (ρ y) w := by
  simp only [execOp, resolve, invoke, builtin, Builtin.max_, List.map_toArray, List.map_cons, List.map_nil, pure_bind, List.foldlM_cons, List.foldlM_nil, bind_pure]; rfl
theorem xmn (P : Program) (ρ : Operand → Value) (d : Option Tmp) (x y : Operand) (ts : Array TypeId) (ty : TypeId) (p : String) (af : Array Edge) (gd : Option (Nat × Bool)) (w : World) :
    (execOp ρ ⟨d, .call { callee := .builtin .min, args := #[x, y], argTypes := ts }, ty, p, af, gd⟩).run P w = mnP P (ρ x) (ρ y) w := by
  simp only [execOp, resolve, invoke, builtin, Builtin.min_, List.map_toArray, List.map_cons, List.map_nil, pure_bind, List.foldlM_cons, List.foldlM_nil, bind_pure]; rfl
def eqO (P : Program) (op : BinOp) (t : TypeId) (xo yo : Operand) (x y : Value) (w : World) : Result Next := (do pure (.value (← (do eqGuard op t xo yo x y; binOp op t x y))) : Sem Next).run P w
def mkRec (P : Program) (t : TypeId) (l c : Value) (w : World) : Result Next := (do pure (.value (← Instr.makeSlice t l c)) : Sem Next).run P w
section
variable {P : Program}
theorem mkRec_go (t e : TypeId) (i : TypeInfo) (z : Value) (ht : P.underlying t = some (.slice e)) (hi : P.info? e = some i) (hz : i.zero = some z) (w : World)
    (kl kc : IntKind) (l c : Int) (h0 : 0 ≤ l) (hlc : l ≤ c) (hbytes : (i.bytes : Int) * c ≤ 281474976710656) (h63 : c ≤ 9223372036854775807) :
    mkRec P t (.int kl l) (.int kc c) w = .ok (.value (.slice (some ⟨w.heap.size, 0, none⟩) l.toNat c.toNat)) (w.alloc (.cells (madeCells z.cells (c.toNat * i.size)) e (0, 0))) := by
  unfold mkRec; simp only [Sem.run_bind, run_make w t e i z ht hi hz kl kc l c h0 hlc hbytes h63, Result.andThen_ok, Sem.run_pure]
theorem madeCells_const (z : Array Value) (v : Value) (n : Nat) (hz : z = (List.replicate z.size v).toArray) (h0 : 0 < z.size) : madeCells z n = (List.replicate n v).toArray := by
  apply Array.ext
  · simp [madeCells]
  · intro i h1 h2
    have hv : ∀ j, j < z.size → z[j]? = some v := by
      intro j hj
      rw [hz]; simp [hj]
    have hm : i % z.size < z.size := Nat.mod_lt _ h0
    have := hv _ hm
    simp only [madeCells, Array.getElem_map, Array.getElem_range, List.getElem_toArray, List.getElem_replicate]
    rw [getElem!_def, this]
theorem run_sliceAt_hi (t e : TypeId) (n : Nat) (hu : P.underlying t = some (.array n e)) (he : ((P.info? e).map (·.size)).isSome = true) (w : World) (g o k : Nat) (kk : IntKind) (hk : k ≤ n) :
    (Instr.sliceAt t (.pointer (some ⟨g, o, none⟩)) none (some (.int kk (k : Int))) none).run P w = .ok (.slice (some ⟨g, o, none⟩) k n) w := by
  cases hq : P.info? e with
  | none => simp [hq] at he
  | some i =>
    have h1 : (0 : Int) ≤ (k : Int) ∧ (k : Int) ≤ (n : Int) := by omega
    by_cases hn : n = 0
    · simp [Instr.sliceAt, run_underlying hu, Instr.sureAddr, Instr.sliceBounds, Instr.sliceBound, asIntOf, h1, hn, sizeOf, typeInfo, hq]
      omega
    · simp [Instr.sliceAt, run_underlying hu, Instr.sureAddr, Instr.sliceBounds, Instr.sliceBound, asIntOf, h1, hn, sizeOf, typeInfo, hq, Addr.add]
      omega
theorem ldRec_go (ty : TypeId) (d : TypeDesc) (n : Nat) (hu : P.underlying ty = some d) (hd : isRec d = true) (hi : (P.info? ty).map (·.size) = some n)
    (w : World) (g o : Nat) (h1 : isRow w.heap[g]? = true) (h2 : o + n ≤ (cellsOf w.heap[g]?).size) :
    ldRec P ty (.pointer (some ⟨g, o, none⟩)) w = .ok (.value (.agg (sub (cellsOf w.heap[g]?) o n))) w := by
  unfold ldRec; simp only [Sem.run_bind, run_loadAt_go ty d n hu hd hi w g o h1 h2, Result.andThen_ok, Sem.run_pure]; rfl
theorem stRec_go (ty : TypeId) (n : Nat) (hi : (P.info? ty).map (·.size) = some n)
    (w : World) (g o : Nat) (vs : Array Value) (h1 : isFree w.heap[g]? = true) (h2 : o + n ≤ (cellsOf w.heap[g]?).size) (h3 : vs.size = n) (h4 : oneCells vs) :
    stRec P ty (.pointer (some ⟨g, o, none⟩)) (.agg vs) w = .ok .skip (w.setRow g (splice (cellsOf w.heap[g]?) o vs.toList)) := by
  unfold stRec; simp only [Sem.run_bind, run_storeAt_go ty n hi w g o vs h1 h2 h3 h4, Result.andThen_ok, Sem.run_pure]
theorem alRec_go (ty : TypeId) (Z : Array Value) (hz : (P.info? ty).bind (·.zero) = some (.agg Z)) (w : World) :
    alRec P ty w = .ok (.value (.pointer (some ⟨w.heap.size, 0, none⟩))) (w.alloc (.cells Z ty (0, 0))) := by
  unfold alRec; simp only [Sem.run_bind, run_alloc_rec ty Z hz, Result.andThen_ok, Sem.run_pure]
theorem bsOne_go (t e : TypeId) (n : Nat) (ht : P.underlying t = some (.slice e)) (hi : (P.info? e).map (·.size) = some n) (hz : ((P.info? e).bind (·.zero)).isSome = true) (hn : n ≤ 16777216) (h0 : 0 < n)
    (vs : Array Value) (hv : vs.size = n) (w : World) :
    bsOne P t (.agg vs) w = .ok (.value (.slice (some ⟨w.heap.size, 0, none⟩) 1 1)) (w.alloc (.cells vs e (0, 0))) := by
  unfold bsOne; simp only [Sem.run_bind, run_buildSlice_one t e n ht hi hz hn h0 vs hv w, Result.andThen_ok, Sem.run_pure]
end
theorem splice_whole (cs : Array Value) (vs : List Value) (h : vs.length = cs.size) : splice cs 0 vs = vs.toArray := splice_all cs vs h
theorem one_int (k : IntKind) (n : Int) : (Value.int k n).oneCell' = true := rfl
theorem one_bool (b : Bool) : (Value.bool b).oneCell' = true := rfl
theorem one_string (s : ByteArray) : (Value.string s).oneCell' = true := rfl
theorem one_ptr (a : Option Addr) : (Value.pointer a).oneCell' = true := rfl
theorem one_slice (a : Option Addr) (n c : Nat) : (Value.slice a n c).oneCell' = true := rfl
attribute [go_sem] setRow_alloc_new splice_whole oneCells_set oneCells_nil oneCells_extract oneCells_cons oneCells_Bs one_int one_bool one_string one_ptr one_slice

/-- Room for a slice that grows: 'Room bytes n m'. -/
def Room (bytes n m : Nat) : Prop := n + m ≤ maxLen ∧ ∀ cap, n ≤ cap → cap < n + m → Builtin.nextslicecap (n + m) cap * bytes ≤ 281474976710656
theorem Room.of_le {bytes n m : Nat} (h63 : n + m ≤ maxLen) (h : (n + m) * bytes ≤ 140737488355328) : Room bytes n m := ⟨h63, fun cap _ hc => growslice_fits hc h⟩
/-- One element more: the capacity grows by a quarter. -/
theorem Room.one {bytes n : Nat} (h63 : n + 1 ≤ maxLen) (hb : 0 < bytes) (h : (n + n / 4 + 256) * bytes ≤ 281474976710656) : Room bytes n 1 := by
  refine ⟨h63, fun cap h1 h2 => ?_⟩
  obtain rfl : cap = n := by omega
  have hle : Builtin.nextslicecap (cap + 1) cap ≤ cap + cap / 4 + 256 := by
    unfold Builtin.nextslicecap
    split
    · omega
    · split
      · omega
      · have : Builtin.growBy (cap + 1) 4 cap = cap + (cap + 768) / 4 := by
          have e1 : ¬ cap ≥ cap + 1 := by omega
          have e2 : cap + (cap + 768) / 4 ≥ cap + 1 := by omega
          simp only [Builtin.growBy, if_neg e1, if_pos e2]
        omega
  exact Nat.le_trans (Nat.mul_le_mul_right _ hle) h

/-- .. of one slice. -/
def RoomAt (bytes n m : Nat) (v : Value) : Prop := n + m ≤ maxLen ∧ ∀ cap, (∃ ao, v = .slice ao n cap) → n ≤ cap → cap < n + m → Builtin.nextslicecap (n + m) cap * bytes ≤ 281474976710656
theorem RoomAt.empty {bytes m : Nat} {ao : Option Addr} (h63 : m ≤ maxLen) (h : m * bytes ≤ 281474976710656) : RoomAt bytes 0 m (.slice ao 0 0) := by
  refine ⟨by omega, fun cap hv _ hc => ?_⟩
  obtain ⟨a, ha⟩ := hv
  obtain rfl : 0 = cap := by cases ha; rfl
  rw [Nat.zero_add, nextslicecap_zero (by omega)]; exact h
theorem run_append_mv0 {P : Program} (w : World) (t ty e : TypeId) (i : TypeInfo) (z : Value) (size bytes : Nat) (ht : P.underlying t = some (.slice e)) (hi : P.info? e = some i) (hz : i.zero = some z)
    (hsize : i.size = size) (hby : i.bytes = bytes) (hzs : z.cells.size = size) (hsz : 0 < size)
    (v : Value) (n : Nat) (xs : List Value) (hown : w.ownsRow 0 e size v n xs)
    (a : Addr) (m c : Nat) (news : List Value) (hl : news.length = m * size) (hnews : ∀ j u, news[j]? = some u → w.cell? (a.add j) = some u) (h1 : ∀ u ∈ news, u.oneCell' = true)
    (hroom : RoomAt bytes n m v) :
    ∃ v' w', (Builtin.append_ #[t, t] ty #[v, .slice (some a) m c]).run P w = .ok v' w' ∧ w'.ownsRow 0 e size v' (n + m) (xs ++ news) ∧ Fr (fun k => v.ownBlock = some k) w w' ∧
      (v'.ownBlock = v.ownBlock ∨ v'.ownBlock = some w.heap.size) := by
  subst hsize
  subst hby
  obtain ⟨h63, hfit⟩ := hroom
  have h63' := h63
  simp only [maxLen] at h63
  have hlen : (xs ++ news).length = (n + m) * i.size := by rw [List.length_append, hown.1, hl, Nat.add_mul]
  have hgr : ∀ old, (w.drew.alloc (.cells (xs.toArray ++ news.toArray ++ Builtin.zeroCells z.cells (grownCap w (n + m) old e - (n + m))) e)).ownsRow 0 e i.size
      (.slice (some ⟨w.heap.size, 0, none⟩) (n + m) (grownCap w (n + m) old e)) (n + m) (xs ++ news) := by
    intro old
    have hge := grownCap_ge w (n + m) old e
    have hcm : grownCap w (n + m) old e ≤ maxLen := grownCap_le_maxLen w (n + m) old e h63'
    refine ⟨hlen, .inr ⟨w.heap.size, _, _, rfl, Nat.zero_le _, heap_alloc_at w.drew _, hge, hcm, ?_, ?_⟩⟩
    · simp only [Array.size_append, List.size_toArray, size_zeroCells, hzs, hown.1, hl, ← Nat.add_mul]
      congr 1
      omega
    · simp only [Array.toList_append, List.append_assoc]
      rw [← List.append_assoc, ← hlen]
      exact List.take_left
  have hfr : ∀ old, Fr (fun k => v.ownBlock = some k) w (w.drew.alloc (.cells (xs.toArray ++ news.toArray ++ Builtin.zeroCells z.cells (grownCap w (n + m) old e - (n + m))) e)) := fun old => ((Fr.refl _ w).drew).alloc _
  rcases hown.2 with ⟨rfl, rfl⟩ | ⟨g, cap, cur, rfl, _, hg, hnc, hcm, hcs, htake⟩
  · have hx : xs = [] := List.eq_nil_of_length_eq_zero (by simpa using hown.1)
    subst hx
    by_cases hm : m = 0
    · subst hm
      have hn : news = [] := List.eq_nil_of_length_eq_zero (by simpa using hl)
      subst hn
      exact ⟨.slice none 0 0, w, by simp [Builtin.append_, run_underlying ht, sizeOf, typeInfo, hi, Builtin.lenOf, Builtin.firstCells, loadCells, loadCellsFrom], World.ownsRow_nil w 0 e i.size, Fr.refl _ w, .inl rfl⟩
    · have hb : m * i.bytes ≤ 281474976710656 := by
        have := hfit 0 ⟨none, rfl⟩ (Nat.le_refl _) (by omega)
        rwa [Nat.zero_add, nextslicecap_zero (by omega)] at this
      have hr := run_append_nil (P := P) w t ty e i z ht hi hz a m c news hl hnews (by omega) (by omega) hb
      have h2 := hgr 0
      have h3 := hfr 0
      simp only [Nat.zero_add, List.nil_append, Array.empty_append] at h2 h3 ⊢
      exact ⟨_, _, hr, h2, h3, .inr rfl⟩
  · by_cases hroom : n + m ≤ cap
    · have hfit2 : n * i.size + news.length ≤ cur.size := by rw [hl, hcs, ← Nat.add_mul]; exact Nat.mul_le_mul_right _ hroom
      have hr := run_append_room (P := P) w t ty e i ht hi g n cap cur hg a m c news hl hnews h1 hroom hfit2
      refine ⟨_, _, hr, ⟨hlen, .inr ⟨g, cap, _, rfl, Nat.zero_le _, setRow_heap w g cur _ e _ hg, hroom, hcm, ?_, ?_⟩⟩, (Fr.refl _ w).setRow _ (.inl rfl), .inl rfl⟩
      · simp only [List.size_toArray, List.length_append, List.length_take, List.length_drop, Array.length_toList]
        omega
      · rw [htake, ← hlen]
        exact List.take_left
    · have hr := run_append_grow (P := P) w t ty e i z ht hi hz ⟨g, 0, none⟩ n cap xs hown.1 (hown.cells (g := g) rfl) a m c news hl hnews (by omega) (by omega) (hfit cap ⟨_, rfl⟩ hnc (by omega))
      exact ⟨_, _, hr, hgr cap, hfr cap, .inr rfl⟩

theorem run_append_mv {P : Program} (w : World) (t ty e : TypeId) (i : TypeInfo) (z : Value) (size bytes : Nat) (ht : P.underlying t = some (.slice e)) (hi : P.info? e = some i) (hz : i.zero = some z)
    (hsize : i.size = size) (hby : i.bytes = bytes) (hzs : z.cells.size = size) (hsz : 0 < size)
    (v : Value) (n : Nat) (xs : List Value) (hown : w.ownsRow 0 e size v n xs)
    (a : Addr) (m c : Nat) (news : List Value) (hl : news.length = m * size) (hnews : ∀ j u, news[j]? = some u → w.cell? (a.add j) = some u) (h1 : ∀ u ∈ news, u.oneCell' = true)
    (hroom : Room bytes n m) :
    ∃ v' w', (Builtin.append_ #[t, t] ty #[v, .slice (some a) m c]).run P w = .ok v' w' ∧ w'.ownsRow 0 e size v' (n + m) (xs ++ news) ∧ Fr (fun k => v.ownBlock = some k) w w' ∧
      (v'.ownBlock = v.ownBlock ∨ v'.ownBlock = some w.heap.size) :=
  run_append_mv0 w t ty e i z size bytes ht hi hz hsize hby hzs hsz v n xs hown a m c news hl hnews h1 ⟨hroom.1, fun cap _ => hroom.2 cap⟩

theorem step_append {P : Program} {ops : Array Oper} {o : Oper} {a : Act} {w : World} {K : Act → World → Prop} {Q : Exit → Act → World → Prop} (hw : Region.wanted o (yielded ops a.tmps) = true) (s x : Operand) (t : TypeId)
    (ho : o.op = .call { callee := .builtin .append, args := #[s, x], argTypes := #[t, t] })
    (e : TypeId) (i : TypeInfo) (z : Value) (size bytes : Nat) (ht : P.underlying t = some (.slice e)) (hi : P.info? e = some i) (hz : i.zero = some z)
    (hsize : i.size = size) (hby : i.bytes = bytes) (hzs : z.cells.size = size) (hsz : 0 < size)
    (v : Value) (n : Nat) (xs : List Value) (hs : a.eval s = v) (hown : w.ownsRow 0 e size v n xs)
    (ad : Addr) (m c : Nat) (news : List Value) (hx : a.eval x = .slice (some ad) m c) (hl : news.length = m * size) (hnews : ∀ j u, news[j]? = some u → w.cell? (ad.add j) = some u) (h1 : ∀ u ∈ news, u.oneCell' = true)
    (hroom : Room bytes n m)
    (h : ∀ v' w', w'.ownsRow 0 e size v' (n + m) (xs ++ news) → Fr (fun k => v.ownBlock = some k) w w' → (v'.ownBlock = v.ownBlock ∨ v'.ownBlock = some w.heap.size) → K (a.put o.dst v') w') :
    if Region.wanted o (yielded ops a.tmps) = true then Oper.wp P o a w K Q else K (a.put o.dst undef) w := by
  rw [if_pos hw]
  obtain ⟨v', w', hr, h2, h3, h4⟩ := run_append_mv (P := P) w t o.type e i z size bytes ht hi hz hsize hby hzs hsz v n xs hown ad m c news hl hnews h1 hroom
  unfold Oper.wp execOp
  simp only [ho, resolve, invoke, builtin, Sem.run_bind, Sem.run_pure, Result.andThen_ok, List.map_toArray, List.map_cons, List.map_nil, hs, hx, hr]
  exact h v' w' h2 h3 h4
/-- .. where the slice's own capacity is known. -/
theorem wpList_append0 {P : Program} {ops : Array Oper} {rest : List Oper} {o : Oper} {a : Act} {w : World} {Q : Exit → Act → World → Prop} (hgd : o.guard = none) (s x : Operand) (t : TypeId)
    (ho : o.op = .call { callee := .builtin .append, args := #[s, x], argTypes := #[t, t] })
    (e : TypeId) (i : TypeInfo) (z : Value) (size bytes : Nat) (ht : P.underlying t = some (.slice e)) (hi : P.info? e = some i) (hz : i.zero = some z)
    (hsize : i.size = size) (hby : i.bytes = bytes) (hzs : z.cells.size = size) (hsz : 0 < size)
    (v : Value) (n : Nat) (xs : List Value) (hs : a.eval s = v) (hown : w.ownsRow 0 e size v n xs)
    (ad : Addr) (m c : Nat) (news : List Value) (hx : a.eval x = .slice (some ad) m c) (hl : news.length = m * size) (hnews : ∀ j u, news[j]? = some u → w.cell? (ad.add j) = some u) (h1 : ∀ u ∈ news, u.oneCell' = true)
    (hroom : RoomAt bytes n m v)
    (h : ∀ v' w', w'.ownsRow 0 e size v' (n + m) (xs ++ news) → Fr (fun k => v.ownBlock = some k) w w' → (v'.ownBlock = v.ownBlock ∨ v'.ownBlock = some w.heap.size) → wpList P ops Q rest (a.put o.dst v') w') :
    wpList P ops Q (o :: rest) a w :=
  wpList_plain hgd fun K hK => by
    obtain ⟨v', w', hr, h2, h3, h4⟩ := run_append_mv0 (P := P) w t o.type e i z size bytes ht hi hz hsize hby hzs hsz v n xs hown ad m c news hl hnews h1 hroom
    unfold Oper.wp execOp
    simp only [ho, resolve, invoke, builtin, Sem.run_bind, Sem.run_pure, Result.andThen_ok, List.map_toArray, List.map_cons, List.map_nil, hs, hx, hr]
    exact hK _ _ (h v' w' h2 h3 h4)
/-- .. and outside such a region. -/
theorem wpList_append {P : Program} {ops : Array Oper} {rest : List Oper} {o : Oper} {a : Act} {w : World} {Q : Exit → Act → World → Prop} (hgd : o.guard = none) (s x : Operand) (t : TypeId)
    (ho : o.op = .call { callee := .builtin .append, args := #[s, x], argTypes := #[t, t] })
    (e : TypeId) (i : TypeInfo) (z : Value) (size bytes : Nat) (ht : P.underlying t = some (.slice e)) (hi : P.info? e = some i) (hz : i.zero = some z)
    (hsize : i.size = size) (hby : i.bytes = bytes) (hzs : z.cells.size = size) (hsz : 0 < size)
    (v : Value) (n : Nat) (xs : List Value) (hs : a.eval s = v) (hown : w.ownsRow 0 e size v n xs)
    (ad : Addr) (m c : Nat) (news : List Value) (hx : a.eval x = .slice (some ad) m c) (hl : news.length = m * size) (hnews : ∀ j u, news[j]? = some u → w.cell? (ad.add j) = some u) (h1 : ∀ u ∈ news, u.oneCell' = true)
    (hroom : Room bytes n m)
    (h : ∀ v' w', w'.ownsRow 0 e size v' (n + m) (xs ++ news) → Fr (fun k => v.ownBlock = some k) w w' → (v'.ownBlock = v.ownBlock ∨ v'.ownBlock = some w.heap.size) → wpList P ops Q rest (a.put o.dst v') w') :
    wpList P ops Q (o :: rest) a w :=
  wpList_plain hgd fun K hK => by
    obtain ⟨v', w', hr, h2, h3, h4⟩ := run_append_mv (P := P) w t o.type e i z size bytes ht hi hz hsize hby hzs hsz v n xs hown ad m c news hl hnews h1 hroom
    unfold Oper.wp execOp
    simp only [ho, resolve, invoke, builtin, Sem.run_bind, Sem.run_pure, Result.andThen_ok, List.map_toArray, List.map_cons, List.map_nil, hs, hx, hr]
    exact hK _ _ (h v' w' h2 h3 h4)
end Go.Proofs.Ytnpeeephkkmomaa
