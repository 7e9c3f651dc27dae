/-
  octet's Reader.
-/
import Derived.Test.YtnpeeephkkmomaaRd
import Derived.Laws.Tables
namespace Go.Proofs.Ytnpeeephkkmomaa
open Go.RowKit Go.Proofs.YtnpeeephkkmomaaW.PrintLast
set_option linter.unusedVariables false
set_option linter.unusedSimpArgs false

/-- A Reader at block rp. -/
structure IsRd (w : World) (rp : Nat) (v : Value) (l : List UInt8) (at_ : Nat) (bad : Bool) : Prop where
  head : w.heap[rp]? = some (.cells #[v, .int .i64 at_, .bool bad] 133 (0, 0))
  bytes : IsBytes w v l
  le : at_ ≤ l.length
  ne : v.ownBlock ≠ some rp
theorem IsRd.fr {w w' : World} {F : Nat → Prop} {rp : Nat} {v : Value} {l : List UInt8} {at_ : Nat} {bad : Bool} (h : IsRd w rp v l at_ bad) (hf : Fr F w w') (h1 : ¬ F rp) (h2 : ∀ k, v.ownBlock = some k → ¬ F k) : IsRd w' rp v l at_ bad :=
  ⟨hf.at h.head h1, h.bytes.fr hf h2, h.le, h.ne⟩
theorem bd133 (w : World) (a : Option Addr) (n c : Nat) : (Instr.build 133 #[(0, .slice a n c)]).run Try.prog w = .ok (.agg #[.slice a n c, .int .i64 0, .bool false]) w :=
  run_build w 133 _ _ (by kernel_rfl)
attribute [local go_sem] bd133

def RdNewPost (w : World) (l : List UInt8) (e : Ending) (w' : World) : Prop :=
  ∃ rp v, e = .returned (.pointer (some ⟨rp, 0, none⟩)) ∧ IsRd w' rp v l 0 false ∧ w.heap.size ≤ rp ∧ (∀ k, v.ownBlock = some k → w.heap.size ≤ k) ∧ Fr (fun _ => False) w w'

set_option maxRecDepth 100000 in
set_option maxHeartbeats 1000000 in
theorem rd_new (v : Value) (l : List UInt8) (hl : l.length ≤ 140737488355328) (w : World) (hv : IsBytes w v l) : Calls Try.prog 60 #[v] w (RdNewPost w l) := by
  have HV := Lib.hid hv; clear hv
  go_enter Try.func60, Try.ntmps60
  go_wp2_with (go_at_call 65; refine (clone65_any v l hl w HV.out).mono ?_; rintro e w2 ⟨v2, rfl, b2, n2, f2⟩; obtain ⟨ao2, cap2, rfl⟩ := b2.slice)
  go_ret
  have hfa := (Fr.refl (fun _ => False) w2).alloc (.cells #[.slice ao2 l.length cap2, .int .i64 0, .bool false] 133 (0, 0))
  refine ⟨w2.heap.size, .slice ao2 l.length cap2, rfl, ⟨heap_alloc_at _ _, b2.bytes.alloc _, Nat.zero_le _, fun e => ?_⟩, f2.size, n2, f2.trans hfa (fun _ h => h.elim)⟩
  have := (World.ownsRow.lt b2 _ e).2
  omega

set_option maxRecDepth 100000 in
theorem rd_bad (rp : Nat) (v : Value) (l : List UInt8) (at_ : Nat) (bad : Bool) (w : World) (h : IsRd w rp v l at_ bad) : Calls Try.prog 62 #[.pointer (some ⟨rp, 0, none⟩)] w fun e w' => e = .returned (.bool bad) ∧ w = w' := by
  have head := h.head
  clear h
  go_enter Try.func62, Try.ntmps62
  go_wp2
  go_ret
  exact ⟨rfl, rfl⟩

set_option maxRecDepth 100000 in
theorem rd_left (rp : Nat) (v : Value) (l : List UInt8) (at_ : Nat) (bad : Bool) (w : World) (h : IsRd w rp v l at_ bad) :
    Calls Try.prog 63 #[.pointer (some ⟨rp, 0, none⟩)] w fun e w' => e = .returned (.int .i64 (if bad then 0 else (l.length - at_ : Nat))) ∧ Fr (fun _ => False) w w' := by
  obtain ⟨ao, cap, rfl, k1, k2, _⟩ := h.bytes.is
  have head := h.head
  have hle := h.le
  clear h
  cases bad with
  | true =>
    go_enter Try.func63, Try.ntmps63
    go_wp2
    go_ret
    exact ⟨rfl, Fr.refl _ _⟩
  | false =>
    have hw : IntKind.i64.wrap ((l.length : Int) - (at_ : Int)) = ((l.length - at_ : Nat) : Int) := by rw [IntWalk.i64_in _ (by omega)]; omega
    have hw' : wrap64 ((l.length : Int) - (at_ : Int)) = ((l.length - at_ : Nat) : Int) := by rw [← i64_w]; exact hw
    have HLE := Lib.hid hle; clear hle
    go_enter Try.func63, Try.ntmps63
    go_wp2
    refine start_ (n := 11) (S := fun w' => w'.heap[rp]? = some (.cells #[.slice ao l.length cap, .int .i64 at_, .bool false] 133 (0, 0))) (ds := []) #[false, false, false, false, false, false, false, false, false, false, false] (by kernel_rfl) rfl rfl (head) (fun hHeld => ?_)
    refine pure_ (i := 0) (N := some 7) (v := ?_) (a' := ?_) #[true, false, false, false, false, false, false, false, false, false, false] rfl rfl (by kernel_rfl) (fun _ _ _ h => h) (Or.inl ⟨by rfl, ?_⟩) ?_ ?_
    rotate_left
    · intro w'
      try simp only [List.getElem_toArray, List.getElem_cons_succ, List.getElem_cons_zero]
      go_simp
      with_reducible rfl
    rotate_left
    · simp only [Act.put, List.setIfInBounds_toArray, List.set_cons_zero, List.set_cons_succ, i64_w, i32_w]
      rfl
    refine pure_ (i := 1) (N := some 8) (v := ?_) (a' := ?_) #[true, true, false, false, false, false, false, false, false, false, false] rfl rfl (by kernel_rfl) (fun _ _ _ h => h) (Or.inl ⟨by rfl, ?_⟩) ?_ ?_
    rotate_left
    · intro w'
      try simp only [List.getElem_toArray, List.getElem_cons_succ, List.getElem_cons_zero]
      go_simp
      with_reducible rfl
    rotate_left
    · simp only [Act.put, List.setIfInBounds_toArray, List.set_cons_zero, List.set_cons_succ, i64_w, i32_w]
      rfl
    refine pure_ (i := 2) (N := some 9) (v := ?_) (a' := ?_) #[true, true, true, false, false, false, false, false, false, false, false] rfl rfl (by kernel_rfl) (fun _ _ _ h => h) (Or.inl ⟨by rfl, ?_⟩) ?_ ?_
    rotate_left
    · intro w'
      try simp only [List.getElem_toArray, List.getElem_cons_succ, List.getElem_cons_zero]
      go_simp
      with_reducible rfl
    rotate_left
    · simp only [Act.put, List.setIfInBounds_toArray, List.set_cons_zero, List.set_cons_succ, i64_w, i32_w]
      rfl
    refine pure_ (i := 5) (N := some 12) (v := ?_) (a' := ?_) #[true, true, true, false, false, true, false, false, false, false, false] rfl rfl (by kernel_rfl) (fun _ _ _ h => h) (Or.inl ⟨by rfl, ?_⟩) ?_ ?_
    rotate_left
    · intro w'
      try simp only [List.getElem_toArray, List.getElem_cons_succ, List.getElem_cons_zero]
      go_simp
      with_reducible rfl
    rotate_left
    · simp only [Act.put, List.setIfInBounds_toArray, List.set_cons_zero, List.set_cons_succ, i64_w, i32_w]
      rfl
    refine pure_ (i := 6) (N := some 13) (v := ?_) (a' := ?_) #[true, true, true, false, false, true, true, false, false, false, false] rfl rfl (by kernel_rfl) (fun _ _ _ h => h) (Or.inl ⟨by rfl, ?_⟩) ?_ ?_
    rotate_left
    · intro w'
      try simp only [List.getElem_toArray, List.getElem_cons_succ, List.getElem_cons_zero]
      go_simp
      with_reducible rfl
    rotate_left
    · simp only [Act.put, List.setIfInBounds_toArray, List.set_cons_zero, List.set_cons_succ, i64_w, i32_w]
      rfl
    refine pure_ (i := 7) (N := some 14) (v := ?_) (a' := ?_) #[true, true, true, false, false, true, true, true, false, false, false] rfl rfl (by kernel_rfl) (fun _ _ _ h => h) (Or.inl ⟨by rfl, ?_⟩) ?_ ?_
    rotate_left
    · intro w'
      try simp only [List.getElem_toArray, List.getElem_cons_succ, List.getElem_cons_zero]
      go_simp
      with_reducible rfl
    rotate_left
    · simp only [Act.put, List.setIfInBounds_toArray, List.set_cons_zero, List.set_cons_succ, i64_w, i32_w]
      rfl
    refine take_ (i := 3) (N := some 10) (v := ?_) (a' := ?_) #[true, true, true, true, false, true, true, true, false, false, false] rfl rfl (by kernel_rfl) (fun _ _ _ h => h) (Or.inl ⟨by rfl, ?_⟩) hHeld ?_ ?_
    rotate_left
    · intro w' s0
      try simp only [List.getElem_toArray, List.getElem_cons_succ, List.getElem_cons_zero]
      go_simp
      with_reducible rfl
    rotate_left
    · simp only [Act.put, List.setIfInBounds_toArray, List.set_cons_zero, List.set_cons_succ, i64_w, i32_w]
      rfl
    refine pure_ (i := 4) (N := some 11) (v := ?_) (a' := ?_) #[true, true, true, true, true, true, true, true, false, false, false] rfl rfl (by kernel_rfl) (fun _ _ _ h => h) (Or.inl ⟨by rfl, ?_⟩) ?_ ?_
    rotate_left
    · intro w'
      try simp only [List.getElem_toArray, List.getElem_cons_succ, List.getElem_cons_zero]
      go_simp
      with_reducible rfl
    rotate_left
    · simp only [Act.put, List.setIfInBounds_toArray, List.set_cons_zero, List.set_cons_succ, i64_w, i32_w]
      rfl
    refine take_ (i := 8) (N := some 15) (v := ?_) (a' := ?_) #[true, true, true, true, true, true, true, true, true, false, false] rfl rfl (by kernel_rfl) (fun _ _ _ h => h) (Or.inl ⟨by rfl, ?_⟩) hHeld ?_ ?_
    rotate_left
    · intro w' s0
      try simp only [List.getElem_toArray, List.getElem_cons_succ, List.getElem_cons_zero]
      go_simp
      with_reducible rfl
    rotate_left
    · simp only [Act.put, List.setIfInBounds_toArray, List.set_cons_zero, List.set_cons_succ, i64_w, i32_w]
      rfl
    refine pure_ (i := 9) (N := some 16) (v := ?_) (a' := ?_) #[true, true, true, true, true, true, true, true, true, true, false] rfl rfl (by kernel_rfl) (fun _ _ _ h => h) (Or.inl ⟨by rfl, ?_⟩) ?_ ?_
    rotate_left
    · intro w'
      try simp only [List.getElem_toArray, List.getElem_cons_succ, List.getElem_cons_zero]
      go_simp
      with_reducible rfl
    rotate_left
    · simp only [Act.put, List.setIfInBounds_toArray, List.set_cons_zero, List.set_cons_succ, i64_w, i32_w]
      rfl
    refine pure_ (i := 10) (N := some 2) (v := ?_) (a' := ?_) #[true, true, true, true, true, true, true, true, true, true, true] rfl rfl (by kernel_rfl) (fun _ _ _ h => h) (Or.inl ⟨by rfl, ?_⟩) ?_ ?_
    rotate_left
    · intro w'
      try simp only [List.getElem_toArray, List.getElem_cons_succ, List.getElem_cons_zero]
      go_simp
      with_reducible rfl
    rotate_left
    · simp only [Act.put, List.setIfInBounds_toArray, List.set_cons_zero, List.set_cons_succ, i64_w, i32_w]
      rfl
    refine done_ (by kernel_rfl) ?_

    go_wp2
    go_ret
    exact ⟨by simp, (Fr.refl _ w).drew⟩
end Go.Proofs.Ytnpeeephkkmomaa
