/-
  The journal's awake: true in every world.
-/
import Derived.Test.YtnpeeephkkmomaaJrn9
import Derived.Test.YtnpeeephkkmomaaLaw03a
namespace Go.Proofs.Ytnpeeephkkmomaa
open Go.RowKit Go.Proofs.YtnpeeephkkmomaaW.PrintLast
set_option linter.unusedVariables false
set_option linter.unusedSimpArgs false

attribute [local go_sem] beq_self_eq_true
theorem frame_abc : framesOf [[97, 98, 99]] = [0, 0, 0, 0, 0, 0, 0, 3, 0, 0, 0, 0, 53, 36, 65, 194, 97, 98, 99] := by
  simp only [framesOf, frameOf, List.map_cons, List.map_nil, List.flatten_cons, List.flatten_nil, List.append_nil]
  rw [crcSum_abc]
  decide +kernel
theorem take_agr {pre x : List UInt8} (h : Agr pre 0 x) (hp : pre.length ≤ 64) : x.take pre.length = pre := by
  refine List.ext_getElem? fun j => ?_
  by_cases hj : j < pre.length
  · rw [List.getElem?_take, if_pos hj]
    have := h j (by omega) (by omega)
    rwa [Nat.mul_zero, Nat.zero_add] at this
  · rw [List.getElem?_eq_none (by rw [List.length_take]; omega), List.getElem?_eq_none (by omega)]

set_option maxRecDepth 100000 in
set_option maxHeartbeats 2000000 in
theorem awake5 (w : World) : Calls Try.prog 31 #[] w fun e w' => e = .returned (.bool true) ∧ Fr (fun _ => False) w w' := by
  go_enter Try.func31, Try.ntmps31
  go_wp2_with fail
  refine (jd_new 2 (by decide) _).mono ?_
  rintro e w1 ⟨b, rfl, hd⟩
  have HD := Lib.hid hd; clear hd
  go_wp2_with fail
  refine (jd_open HD.out).mono ?_
  rintro e w2 ⟨jp, ao, c, rfl, hj⟩
  have HJ := Lib.hid hj; clear hj
  have kc1 := Lib.run_convert_bytes_const (P := Try.prog) w2 30 5 #[.int .u8 97, .int .u8 98, .int .u8 99] 3 3 Try.underlying30 Try.underlying5
  go_wp2_with fail
  have B1 : IsBytes (w2.alloc (.cells #[.int .u8 97, .int .u8 98, .int .u8 99] 5 (3, 4))) (.slice (some ⟨w2.heap.size, 0, none⟩) 3 3) [97, 98, 99] := IsBytes.of_cells (l := [97, 98, 99]) (heap_alloc_at _ _) (by decide)
  refine ((HJ.out.fr ((Fr.refl _ w2).alloc _)).append rfl (by decide) (by decide) (by decide) _ [97, 98, 99] B1).mono ?_
  rintro e w3 ⟨er, rfl, f3, hres⟩
  obtain ⟨rfl, hj3⟩ : er = 0 ∧ JH w w3 (fun _ => False) 2 b jp (framesOf [[97, 98, 99]]) 19 1 0 True := by
    rcases hres with ⟨_, _, hno, _⟩ | ⟨h0, hj, _, _⟩
    · exact (hno ⟨trivial, by decide, by decide⟩).elim
    · exact ⟨h0, by simpa [framesOf] using hj⟩
  have HJ3 := Lib.hid hj3
  clear hj3 hres f3 B1 kc1 HJ HD
  go_wp2_with (first
    | (go_at_call 33; refine HJ3.out.ends.mono ?_; rintro e w4 ⟨rfl, rfl⟩)
    | (go_at_call 34; refine HJ3.out.counts.mono ?_; rintro e w4 ⟨rfl, rfl⟩)
    | (go_at_call 19; refine (HJ3.out.read0 trivial (by decide)).mono ?_; rintro e w5 ⟨sb, x, rfl, hxl, hxa, row5, f5⟩; have HXA := Lib.hid hxa; have HJ5 := Lib.hid (HJ3.out.fr f5); have HX5 : Hid (IsBytes w5 (.slice (some ⟨sb, 0, none⟩) 64 64) x) := Lib.hid (by have := IsBytes.of_cells row5 (by rw [hxl]; decide); rwa [hxl] at this); have HROW5 := Lib.hid row5; have HXL := Lib.hid hxl; clear hxa row5 f5 hxl))
  obtain ⟨l19, hl19⟩ : ∃ l19 : List UInt8, l19 = [0, 0, 0, 0, 0, 0, 0, 3, 0, 0, 0, 0, 53, 36, 65, 194, 97, 98, 99] := ⟨_, rfl⟩
  have hx19 : x.take 19 = l19 := by
    have h := take_agr HXA.out (by rw [frame_abc]; decide)
    rw [frame_abc] at h
    rw [hl19]; exact h
  have hll : l19.length = 19 := by rw [hl19]; rfl
  have HB0 : Hid (IsBytes w5 (.slice (some ⟨sb, 0, none⟩) 19 64) l19) := Lib.hid (by
    have := IsBytes.of_row HROW5.out 19 64 (by rw [HXL.out]; decide) (by decide) (by decide)
    rwa [hx19] at this)
  have HB1 : Hid (IsBytes w5.drew (.slice (some ⟨sb, 0, none⟩) 19 64) l19) := Lib.hid (HB0.out.fr (F := fun _ => False) (Fr.refl _ w5).drew (fun _ _ h => h))
  have s1 := cv309 w5.drew _ _ HB1.out
  have hcs : (Bs l19).toArray = #[.int .u8 0, .int .u8 0, .int .u8 0, .int .u8 0, .int .u8 0, .int .u8 0, .int .u8 0, .int .u8 3, .int .u8 0, .int .u8 0, .int .u8 0, .int .u8 0, .int .u8 53, .int .u8 36, .int .u8 65, .int .u8 194, .int .u8 97, .int .u8 98, .int .u8 99] := by rw [hl19]; rfl
  have hs4 : cvStr Try.prog 30 9 (.slice (some ⟨w5.heap.size, 0, none⟩) 19 19) (w5.alloc (.cells #[.int .u8 0, .int .u8 0, .int .u8 0, .int .u8 0, .int .u8 0, .int .u8 0, .int .u8 0, .int .u8 3, .int .u8 0, .int .u8 0, .int .u8 0, .int .u8 0, .int .u8 53, .int .u8 36, .int .u8 65, .int .u8 194, .int .u8 97, .int .u8 98, .int .u8 99] 5 (0, 0))).drew = .ok (.value (str l19)) (w5.alloc (.cells #[.int .u8 0, .int .u8 0, .int .u8 0, .int .u8 0, .int .u8 0, .int .u8 0, .int .u8 0, .int .u8 3, .int .u8 0, .int .u8 0, .int .u8 0, .int .u8 0, .int .u8 53, .int .u8 36, .int .u8 65, .int .u8 194, .int .u8 97, .int .u8 98, .int .u8 99] 5 (0, 0))).drew := by
    refine cv309 _ _ _ ?_
    rw [← hcs]
    have h : IsBytes (w5.alloc (.cells (Bs l19).toArray 5 (0, 0))) _ l19 := IsBytes.of_cells (heap_alloc_at w5 (.cells (Bs l19).toArray 5 (0, 0))) (by rw [hll]; decide)
    rw [hll] at h
    exact h.fr (F := fun _ => False) (Fr.refl _ _).drew (fun _ _ h => h)
  have HN : Hid (∀ o : Obj, cvStr Try.prog 30 9 (.slice (some ⟨sb, 0, none⟩) 19 64) (w5.alloc o).drew = .ok (.value (str l19)) (w5.alloc o).drew) := Lib.hid (fun o => cv309 _ _ _ ((HB0.out.alloc o).fr (F := fun _ => False) (Fr.refl _ _).drew (fun _ _ h => h)))
  clear hx19 hl19 hll hcs
  refine start_ (n := 7) (S := fun w' => cvStr Try.prog 30 9 (.slice (some ⟨sb, 0, none⟩) 19 64) w' = .ok (.value (str l19)) w') (ds := []) #[false, false, false, false, false, false, false] (by kernel_rfl) rfl rfl (s1) (fun hHeld => ?_)
  refine pure_ (i := 0) (N := some 48) (v := ?_) (a' := ?_) #[true, false, false, false, false, false, false] rfl rfl (by kernel_rfl) (fun _ _ _ h => h) (Or.inl ⟨by rfl, ?_⟩) ?_ ?_
  rotate_left
  · intro w'
    try simp only [List.getElem_toArray, List.getElem_cons_succ, List.getElem_cons_zero]
    go_simp
    with_reducible rfl
  rotate_left
  · simp only [Act.put, List.setIfInBounds_toArray, List.set_cons_zero, List.set_cons_succ, i64_w, i32_w]
    rfl
  refine pure_ (i := 1) (N := some 49) (v := ?_) (a' := ?_) #[true, true, false, false, false, false, false] rfl rfl (by kernel_rfl) (fun _ _ _ h => h) (Or.inl ⟨by rfl, ?_⟩) ?_ ?_
  rotate_left
  · intro w'
    try simp only [List.getElem_toArray, List.getElem_cons_succ, List.getElem_cons_zero]
    go_simp
    with_reducible rfl
  rotate_left
  · simp only [Act.put, List.setIfInBounds_toArray, List.set_cons_zero, List.set_cons_succ, i64_w, i32_w]
    rfl
  refine take_ (i := 2) (N := some 50) (v := ?_) (a' := ?_) #[true, true, true, false, false, false, false] rfl rfl (by kernel_rfl) (fun _ _ _ h => h) (Or.inl ⟨by rfl, ?_⟩) hHeld ?_ ?_
  rotate_left
  · intro w' s0
    try simp only [List.getElem_toArray, List.getElem_cons_succ, List.getElem_cons_zero]
    go_simp
    with_reducible rfl
  rotate_left
  · simp only [Act.put, List.setIfInBounds_toArray, List.set_cons_zero, List.set_cons_succ, i64_w, i32_w]
    rfl
  refine one_ (i := 3) (N := some 51) #[true, true, true, true, false, false, false] rfl rfl (by kernel_rfl) (by decide) (fun K hK => ?_)
  refine value_ (w1 := ?_) (v := ?_) (by rfl) rfl ?_ ?_
  rotate_left 2
  · try simp only [List.getElem_toArray, List.getElem_cons_succ, List.getElem_cons_zero]
    go_simp
    constructor
    · rfl
    · rfl
  refine hK.out _ _ (HN.out _) (fun hHeld => ?_)
  clear hK K
  refine norm_ (a' := ?_) ?_ ?_
  rotate_left
  · show Act.put _ (some 51) _ = _
    simp only [Act.put, List.setIfInBounds_toArray, List.set_cons_zero, List.set_cons_succ, i64_w, i32_w]
    rfl
  refine one_ (i := 4) (N := some 52) #[true, true, true, true, true, false, false] rfl rfl (by kernel_rfl) (by decide) (fun K hK => ?_)
  refine value_ (w1 := ?_) (v := ?_) (by rfl) rfl ?_ ?_
  rotate_left 2
  · try simp only [List.getElem_toArray, List.getElem_cons_succ, List.getElem_cons_zero]
    go_simp
    constructor
    · rfl
    · rfl
  refine hK.out _ _ (HN.out _) (fun hHeld => ?_)
  clear hK K
  refine norm_ (a' := ?_) ?_ ?_
  rotate_left
  · show Act.put _ (some 52) _ = _
    simp only [Act.put, List.setIfInBounds_toArray, List.set_cons_zero, List.set_cons_succ, i64_w, i32_w]
    rfl
  refine pure_ (i := 5) (N := some 53) (v := ?_) (a' := ?_) #[true, true, true, true, true, true, false] rfl rfl (by kernel_rfl) (fun _ _ _ h => h) (Or.inl ⟨by rfl, ?_⟩) ?_ ?_
  rotate_left
  · intro w'
    try simp only [List.getElem_toArray, List.getElem_cons_succ, List.getElem_cons_zero]
    go_simp
    with_reducible rfl
  rotate_left
  · simp only [Act.put, List.setIfInBounds_toArray, List.set_cons_zero, List.set_cons_succ, i64_w, i32_w]
    rfl
  refine pure_ (i := 6) (N := some 7) (v := ?_) (a' := ?_) #[true, true, true, true, true, true, true] rfl rfl (by kernel_rfl) (fun _ _ _ h => h) (Or.inl ⟨by rfl, ?_⟩) ?_ ?_
  rotate_left
  · intro w'
    try simp only [List.getElem_toArray, List.getElem_cons_succ, List.getElem_cons_zero]
    go_simp
    with_reducible rfl
  rotate_left
  · simp only [Act.put, List.setIfInBounds_toArray, List.set_cons_zero, List.set_cons_succ, i64_w, i32_w]
    rfl
  refine done_ (by kernel_rfl) ?_

  have HJ6 : Hid (JH w (w5.alloc (.cells #[.int .u8 0, .int .u8 0, .int .u8 0, .int .u8 0, .int .u8 0, .int .u8 0, .int .u8 0, .int .u8 3, .int .u8 0, .int .u8 0, .int .u8 0, .int .u8 0, .int .u8 53, .int .u8 36, .int .u8 65, .int .u8 194, .int .u8 97, .int .u8 98, .int .u8 99] 5 (0, 0))).drew (fun _ => False) 2 b jp (framesOf [[97, 98, 99]]) 19 1 0 True) := Lib.hid (HJ5.out.fr ((Fr.refl _ w5).alloc _).drew)
  generalize (w5.alloc (.cells #[.int .u8 0, .int .u8 0, .int .u8 0, .int .u8 0, .int .u8 0, .int .u8 0, .int .u8 0, .int .u8 3, .int .u8 0, .int .u8 0, .int .u8 0, .int .u8 0, .int .u8 53, .int .u8 36, .int .u8 65, .int .u8 194, .int .u8 97, .int .u8 98, .int .u8 99] 5 (0, 0))).drew = W6 at *
  have M1 : Hid True := Lib.hid trivial
  clear s1 hs4 HN
  have hzb : ∀ (W : World) (n : Nat), n ≤ 1000 → IsBytes (W.alloc (.cells (Bs (zB n)).toArray 5 (0, 0))) (.slice (some ⟨W.heap.size, 0, none⟩) n n) (zB n) := fun W n hn => by
    have h : IsBytes (W.alloc (.cells (Bs (zB n)).toArray 5 (0, 0))) _ (zB n) := IsBytes.of_cells (heap_alloc_at W _) (by simp [zB]; omega)
    simpa [zB] using h
  have HZB := Lib.hid hzb
  clear hzb
  go_wp2_with (first
    | (go_at_call 32; clear M1; refine ((HJ6.out.fr ((Fr.refl _ W6).alloc _)).append (by rw [frame_abc]; rfl) (by decide) (by decide) (by decide) _ (zB 94) (HZB.out W6 94 (by decide))).mono ?_; rintro e w7 ⟨er, rfl, _, hres⟩; obtain ⟨rfl, hj7⟩ : er = 51 ∧ JH w w7 (fun _ => False) 2 b jp (framesOf [[97, 98, 99]]) 19 1 0 True := (by
        rcases hres with ⟨_, _, _, hf⟩ | ⟨_, _, _, hb⟩
        · exact hf (by decide) (by decide)
        · exact absurd hb (by decide)); have HJ7 := Lib.hid hj7; clear hj7 hres)
    | (go_at_call 32; refine ((HJ7.out.fr ((Fr.refl _ w7).alloc _)).append (by rw [frame_abc]; rfl) (by decide) (by decide) (by decide) _ (zB 93) (HZB.out w7 93 (by decide))).mono ?_; rintro e w8 ⟨er, rfl, _, hres⟩; obtain ⟨rfl, hj8⟩ : er = 0 ∧ JH w w8 (fun _ => False) 2 b jp (framesOf [[97, 98, 99]] ++ frameOf (zB 93)) 128 2 0 True := (by
        rcases hres with ⟨_, _, hno, _⟩ | ⟨h0, hj, _, _⟩
        · exact (hno ⟨trivial, by decide, by decide⟩).elim
        · exact ⟨h0, hj⟩); have HJ8 := Lib.hid hj8; clear hj8 hres)
    | (go_at_call 33; refine HJ8.out.ends.mono ?_; rintro e w9 ⟨rfl, rfl⟩))
  go_ret
  obtain ⟨_, _, _, _, _, h⟩ := HJ8.out
  exact ⟨rfl, h.own⟩
end Go.Proofs.Ytnpeeephkkmomaa
