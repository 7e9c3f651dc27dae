/-
  The journal: what it holds; End, Count, room, frame.
-/
import Derived.Test.YtnpeeephkkmomaaRd5
import Derived.Test.YtnpeeephkkmomaaDsk5
namespace Go.Proofs.Ytnpeeephkkmomaa
open Go.RowKit Go.Proofs.YtnpeeephkkmomaaW.PrintLast
set_option linter.unusedVariables false
set_option linter.unusedSimpArgs false

/-- A journal at block jp over the disk at block b. -/
def IsJ (w : World) (jp b : Nat) (from_ to_ end_ count : Int) : Prop :=
  w.heap[jp]? = some (.cells #[.pointer (some ⟨b, 0, none⟩), .int .i64 from_, .int .i64 to_, .int .i64 end_, .int .i64 count] 100 (0, 0))
theorem IsJ.fr {w w' : World} {F : Nat → Prop} {jp b : Nat} {from_ to_ end_ count : Int} (h : IsJ w jp b from_ to_ end_ count) (hf : Fr F w w') (hF : ¬ F jp) : IsJ w' jp b from_ to_ end_ count := hf.at h hF

set_option maxRecDepth 100000 in
theorem j_end (jp b : Nat) (from_ to_ end_ count : Int) (w : World) (h : IsJ w jp b from_ to_ end_ count) : Calls Try.prog 33 #[.pointer (some ⟨jp, 0, none⟩)] w fun e w' => e = .returned (.int .i64 end_) ∧ w = w' := by
  unfold IsJ at h
  go_enter Try.func33, Try.ntmps33
  go_wp2
  go_ret
  exact ⟨rfl, rfl⟩
set_option maxRecDepth 100000 in
theorem j_count (jp b : Nat) (from_ to_ end_ count : Int) (w : World) (h : IsJ w jp b from_ to_ end_ count) : Calls Try.prog 34 #[.pointer (some ⟨jp, 0, none⟩)] w fun e w' => e = .returned (.int .i64 count) ∧ w = w' := by
  unfold IsJ at h
  go_enter Try.func34, Try.ntmps34
  go_wp2
  go_ret
  exact ⟨rfl, rfl⟩
set_option maxRecDepth 100000 in
set_option maxHeartbeats 1000000 in
theorem j_room (jp b : Nat) (from_ to_ : Nat) (end_ count : Int) (w : World) (h : IsJ w jp b from_ to_ end_ count) (hft : from_ ≤ to_) (ht : to_ ≤ 65536) :
    Calls Try.prog 58 #[.pointer (some ⟨jp, 0, none⟩)] w fun e w' => e = .returned (.int .i64 ((to_ - from_ : Nat) * 64 : Nat)) ∧ Fr (fun _ => False) w w' := by
  unfold IsJ at h
  have hw1 : wrap64 ((to_ : Int) - (from_ : Int)) = (to_ : Int) - from_ := by rw [← i64_w]; exact IntWalk.i64_in _ (by omega)
  have hw2 : wrap64 (((to_ : Int) - (from_ : Int)) * 64) = ((to_ : Int) - from_) * 64 := by rw [← i64_w]; exact IntWalk.i64_in _ (by omega)
  have HE : Hid ((((to_ - from_ : Nat) * 64 : Nat) : Int) = ((to_ : Int) - from_) * 64) := Lib.hid (by omega)
  clear hft ht
  go_enter Try.func58, Try.ntmps58
  go_wp2
  refine start_ (n := 11) (S := fun w' => w'.heap[jp]? = some (.cells #[.pointer (some ⟨b, 0, none⟩), .int .i64 from_, .int .i64 to_, .int .i64 end_, .int .i64 count] 100 (0, 0))) (ds := []) #[false, false, false, false, false, false, false, false, false, false, false] (by kernel_rfl) rfl rfl (h) (fun hHeld => ?_)
  refine pure_ (i := 0) (N := some 3) (v := ?_) (a' := ?_) #[true, false, false, false, false, false, false, false, false, false, false] rfl rfl (by kernel_rfl) (fun _ _ _ h => h) (Or.inl ⟨by rfl, ?_⟩) ?_ ?_
  rotate_left
  · intro w'
    try simp only [List.getElem_toArray, List.getElem_cons_succ, List.getElem_cons_zero]
    go_simp
    with_reducible rfl
  rotate_left
  · simp only [Act.put, List.setIfInBounds_toArray, List.set_cons_zero, List.set_cons_succ, i64_w, i32_w]
    rfl
  refine pure_ (i := 1) (N := some 4) (v := ?_) (a' := ?_) #[true, true, false, false, false, false, false, false, false, false, false] rfl rfl (by kernel_rfl) (fun _ _ _ h => h) (Or.inl ⟨by rfl, ?_⟩) ?_ ?_
  rotate_left
  · intro w'
    try simp only [List.getElem_toArray, List.getElem_cons_succ, List.getElem_cons_zero]
    go_simp
    with_reducible rfl
  rotate_left
  · simp only [Act.put, List.setIfInBounds_toArray, List.set_cons_zero, List.set_cons_succ, i64_w, i32_w]
    rfl
  refine pure_ (i := 2) (N := some 5) (v := ?_) (a' := ?_) #[true, true, true, false, false, false, false, false, false, false, false] rfl rfl (by kernel_rfl) (fun _ _ _ h => h) (Or.inl ⟨by rfl, ?_⟩) ?_ ?_
  rotate_left
  · intro w'
    try simp only [List.getElem_toArray, List.getElem_cons_succ, List.getElem_cons_zero]
    go_simp
    with_reducible rfl
  rotate_left
  · simp only [Act.put, List.setIfInBounds_toArray, List.set_cons_zero, List.set_cons_succ, i64_w, i32_w]
    rfl
  refine pure_ (i := 4) (N := some 7) (v := ?_) (a' := ?_) #[true, true, true, false, true, false, false, false, false, false, false] rfl rfl (by kernel_rfl) (fun _ _ _ h => h) (Or.inl ⟨by rfl, ?_⟩) ?_ ?_
  rotate_left
  · intro w'
    try simp only [List.getElem_toArray, List.getElem_cons_succ, List.getElem_cons_zero]
    go_simp
    with_reducible rfl
  rotate_left
  · simp only [Act.put, List.setIfInBounds_toArray, List.set_cons_zero, List.set_cons_succ, i64_w, i32_w]
    rfl
  refine pure_ (i := 5) (N := some 8) (v := ?_) (a' := ?_) #[true, true, true, false, true, true, false, false, false, false, false] rfl rfl (by kernel_rfl) (fun _ _ _ h => h) (Or.inl ⟨by rfl, ?_⟩) ?_ ?_
  rotate_left
  · intro w'
    try simp only [List.getElem_toArray, List.getElem_cons_succ, List.getElem_cons_zero]
    go_simp
    with_reducible rfl
  rotate_left
  · simp only [Act.put, List.setIfInBounds_toArray, List.set_cons_zero, List.set_cons_succ, i64_w, i32_w]
    rfl
  refine pure_ (i := 6) (N := some 9) (v := ?_) (a' := ?_) #[true, true, true, false, true, true, true, false, false, false, false] rfl rfl (by kernel_rfl) (fun _ _ _ h => h) (Or.inl ⟨by rfl, ?_⟩) ?_ ?_
  rotate_left
  · intro w'
    try simp only [List.getElem_toArray, List.getElem_cons_succ, List.getElem_cons_zero]
    go_simp
    with_reducible rfl
  rotate_left
  · simp only [Act.put, List.setIfInBounds_toArray, List.set_cons_zero, List.set_cons_succ, i64_w, i32_w]
    rfl
  refine take_ (i := 3) (N := some 6) (v := ?_) (a' := ?_) #[true, true, true, true, true, true, true, false, false, false, false] rfl rfl (by kernel_rfl) (fun _ _ _ h => h) (Or.inl ⟨by rfl, ?_⟩) hHeld ?_ ?_
  rotate_left
  · intro w' s0
    try simp only [List.getElem_toArray, List.getElem_cons_succ, List.getElem_cons_zero]
    go_simp
    with_reducible rfl
  rotate_left
  · simp only [Act.put, List.setIfInBounds_toArray, List.set_cons_zero, List.set_cons_succ, i64_w, i32_w]
    rfl
  refine take_ (i := 7) (N := some 10) (v := ?_) (a' := ?_) #[true, true, true, true, true, true, true, true, false, false, false] rfl rfl (by kernel_rfl) (fun _ _ _ h => h) (Or.inl ⟨by rfl, ?_⟩) hHeld ?_ ?_
  rotate_left
  · intro w' s0
    try simp only [List.getElem_toArray, List.getElem_cons_succ, List.getElem_cons_zero]
    go_simp
    with_reducible rfl
  rotate_left
  · simp only [Act.put, List.setIfInBounds_toArray, List.set_cons_zero, List.set_cons_succ, i64_w, i32_w]
    rfl
  refine pure_ (i := 8) (N := some 11) (v := ?_) (a' := ?_) #[true, true, true, true, true, true, true, true, true, false, false] rfl rfl (by kernel_rfl) (fun _ _ _ h => h) (Or.inl ⟨by rfl, ?_⟩) ?_ ?_
  rotate_left
  · intro w'
    try simp only [List.getElem_toArray, List.getElem_cons_succ, List.getElem_cons_zero]
    go_simp
    with_reducible rfl
  rotate_left
  · simp only [Act.put, List.setIfInBounds_toArray, List.set_cons_zero, List.set_cons_succ, i64_w, i32_w]
    rfl
  refine pure_ (i := 9) (N := some 12) (v := ?_) (a' := ?_) #[true, true, true, true, true, true, true, true, true, true, false] rfl rfl (by kernel_rfl) (fun _ _ _ h => h) (Or.inl ⟨by rfl, ?_⟩) ?_ ?_
  rotate_left
  · intro w'
    try simp only [List.getElem_toArray, List.getElem_cons_succ, List.getElem_cons_zero]
    go_simp
    with_reducible rfl
  rotate_left
  · simp only [Act.put, List.setIfInBounds_toArray, List.set_cons_zero, List.set_cons_succ, i64_w, i32_w]
    rfl
  refine pure_ (i := 10) (N := some 2) (v := ?_) (a' := ?_) #[true, true, true, true, true, true, true, true, true, true, true] rfl rfl (by kernel_rfl) (fun _ _ _ h => h) (Or.inl ⟨by rfl, ?_⟩) ?_ ?_
  rotate_left
  · intro w'
    try simp only [List.getElem_toArray, List.getElem_cons_succ, List.getElem_cons_zero]
    go_simp
    with_reducible rfl
  rotate_left
  · simp only [Act.put, List.setIfInBounds_toArray, List.set_cons_zero, List.set_cons_succ, i64_w, i32_w]
    rfl
  refine done_ (by kernel_rfl) ?_

  go_wp2
  go_ret
  rw [HE.out]
  exact ⟨rfl, (Fr.refl _ w).drew⟩

theorem Room.of_small' {n m : Nat} (h : n + m ≤ 140737488355328) : Room 1 n m := Room.of_le (by unfold maxLen; omega) (by omega)
/-- A frame. -/
def frameOf (l : List UInt8) : List UInt8 := be8 l.length ++ be8 (crcSum l) ++ l
theorem frameOf_length (l : List UInt8) : (frameOf l).length = l.length + 16 := by simp [frameOf, be8_length]; omega

set_option maxRecDepth 100000 in
set_option maxHeartbeats 2000000 in
theorem j_frame (v : Value) (l : List UInt8) (w : World) (hv : IsBytes w v l) (hl : l.length ≤ 70368744177664) : Calls Try.prog 66 #[v] w (BufPost w (frameOf l)) := by
  obtain ⟨vo, vc, rfl, _⟩ := hv.is
  have HV := Lib.hid hv; clear hv
  have hc : IntKind.i64.wrap (crcSum l) = crcSum l := IntWalk.i64_in _ (by have := crcSum_in l; omega)
  have M1 : Hid True := Lib.hid trivial
  go_enter Try.func66, Try.ntmps66
  go_wp2_with (first
    | (go_at_call 85; clear M1; refine (putInt_any (.slice none 0 0) [] l.length w (IsBytes.nil w) (by decide)).mono ?_; rintro e w2 ⟨v2, rfl, b2, n2, f2⟩; have HB2 := Lib.hid b2; have HN2 := Lib.hid n2; have HF2 := Lib.hid f2; clear b2 n2 f2)
    | (go_at_call 64; refine (sum_any w2.heap.size 1 _ l 30 _ (heap_alloc_at w2 _) ((HV.out.fr HF2.out (fun _ _ h => h)).alloc _)).mono ?_; rintro e w3 ⟨rfl, rfl⟩; have hfa := (Fr.refl (fun _ => False) w2).alloc (.cells #[.slice vo l.length vc] 30 (0, 0)); have HB3 := Lib.hid (HB2.out.fr hfa (fun _ _ h => h)); have HF3 := Lib.hid (HF2.out.trans hfa (fun _ h => h.elim)); clear hfa HB2 HF2)
    | (go_at_call 85; refine (putInt_any v2 _ (crcSum l) _ HB3.out.bytes (by simp [be8_length])).mono ?_; rintro e w4 ⟨v4, rfl, b4, n4, f4⟩; have HB4 := Lib.hid b4; have HN4 := Lib.hid n4; have HF4 := Lib.hid (HF3.out.trans f4 (fun _ h => h.elim)); clear b4 n4 f4)
    | (refine wpList_append_bytes rfl (.tmp 10) (.tmp 11) rfl _ _ rfl HB4.out _ l rfl (HV.out.fr HF4.out (fun _ _ h => h)) (Room.of_small' (by simp [be8_length]; omega)) ?_; intro v5 w5 own5 fr5 fresh5))
  go_ret
  refine ⟨v5, rfl, by simpa [frameOf] using own5, fun k hk => ?_, HF4.out.trans fr5 (fun k hk => .inr (Nat.le_trans HF3.out.size (HN4.out k hk)))⟩
  rcases fresh5 with h | h
  · rw [h] at hk; exact Nat.le_trans HF3.out.size (HN4.out k hk)
  · rw [hk] at h; cases h; exact HF4.out.size
end Go.Proofs.Ytnpeeephkkmomaa
