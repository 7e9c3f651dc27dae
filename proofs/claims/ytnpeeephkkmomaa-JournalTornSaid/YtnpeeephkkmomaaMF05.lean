/-
  The disk's awake: true in every world.
-/
import Derived.Test.YtnpeeephkkmomaaMA
import Derived.Lib.SmallJoins
import Derived.Test.YtnpeeephkkmomaaMC
import Derived.Laws.IdiomArrays
namespace Go.Proofs.Ytnpeeephkkmomaa
open Go.RowKit Go.Proofs.YtnpeeephkkmomaaW.PrintLast
set_option linter.unusedVariables false
set_option linter.unusedSimpArgs false

/-- '[]byte("..")' of a constant: in memory marked as a text's. -/
theorem byte_lit (w : World) (l : List UInt8) (hl : l.length ≤ 100) :
    IsBytes (w.alloc (.cells (Bs l).toArray 5 ((Bs l).toArray.size, (Bs l).toArray.size + 1))) (.slice (some ⟨w.heap.size, 0, none⟩) l.length l.length) l :=
  IsBytes.of_cells (heap_alloc_at _ _) (by omega)

theorem foot_new {w : World} {b lb : Nat} {wv : Value} {F : Nat → Prop} (hb : w.heap.size ≤ b) (hlb : w.heap.size ≤ lb) (hw : ∀ k, wv.ownBlock = some k → w.heap.size ≤ k) : ∀ k, dkFoot b lb wv k → F k ∨ w.heap.size ≤ k := by
  rintro k (rfl | rfl | h)
  · exact .inr hb
  · exact .inr hlb
  · exact .inr (hw k h)

set_option maxRecDepth 100000 in
set_option maxHeartbeats 2000000 in
theorem awake3 (w : World) : Calls Try.prog 13 #[] w fun e w' => e = .returned (.bool true) ∧ Fr (fun _ => False) w w' := by
  go_enter Try.func13, Try.ntmps13
  go_wp2_with fail
  refine (new_any 2 _ (by omega)).mono ?_
  rintro e w1 ⟨b, lb, cl, sp, rfl, D1, fr1, hb, hlb⟩
  have FR1 := Lib.hid fr1; clear fr1
  have HB := Lib.hid hb; clear hb
  have HLB := Lib.hid hlb; clear hlb
  have kc1 := Lib.run_convert_bytes_const (P := Try.prog) w1 30 5 #[.int .u8 97, .int .u8 98] 2 2 Try.underlying30 Try.underlying5
  go_wp2_with fail
  have B1 : IsBytes (w1.alloc (.cells #[.int .u8 97, .int .u8 98] 5 (2, 3))) (.slice (some ⟨w1.heap.size, 0, none⟩) 2 2) [97, 98] := IsBytes.of_cells (l := [97, 98]) (heap_alloc_at _ _) (by decide)
  refine (write_ok b lb cl sp _ _ _ 0 _ _ (D1.alloc _) rfl (by decide) (by decide) B1 (by decide)).mono ?_
  rintro e w2 ⟨rfl, wv2, D2, M2⟩
  have MA : Mv (dkFoot b lb (.slice none 0 0)) (dkFoot b lb wv2) w1 w2 := Mv.trans (Mv.of_fr ((Fr.refl _ w1).alloc _)) M2
  have M02 := Lib.hid MA; clear MA M2 B1 kc1
  have kc1 := Lib.run_convert_bytes_const (P := Try.prog) w2 30 5 #[.int .u8 99, .int .u8 100] 2 2 Try.underlying30 Try.underlying5
  go_wp2_with fail
  have B1 : IsBytes (w2.alloc (.cells #[.int .u8 99, .int .u8 100] 5 (2, 3))) (.slice (some ⟨w2.heap.size, 0, none⟩) 2 2) [99, 100] := IsBytes.of_cells (l := [99, 100]) (heap_alloc_at _ _) (by decide)
  refine (write_ok b lb cl sp _ _ _ 0 _ _ (D2.alloc _) rfl (by decide) (by decide) B1 (by decide)).mono ?_
  rintro e w3 ⟨rfl, wv3, D3, M3⟩
  have MA : Mv (dkFoot b lb (.slice none 0 0)) (dkFoot b lb wv3) w1 w3 := M02.out.trans (Mv.trans (Mv.of_fr ((Fr.refl _ w2).alloc _)) M3)
  have M03 := Lib.hid MA; clear MA M3 B1 kc1 M02 D1 D2
  go_wp2_with fail
  refine (read_ok b lb cl sp _ _ _ 0 D3 rfl (by decide)).mono ?_
  rintro e w4 ⟨sb, rfl, hsb, row4, fr4⟩
  have D4 := D3.fr fr4 (fun _ _ h => h)
  have hsb4 : ∀ k, dkFoot b lb wv3 k → k ≠ sb := fun k hk e => by have := D3.lt k hk; omega
  have T4 : Dk.told (((newDk 2).written 0 [97, 98]).written 0 [99, 100]) 0 = pad64 [99, 100] := by decide +kernel
  rw [T4] at row4
  clear T4 hsb D3
  have M04 : Mv (dkFoot b lb (.slice none 0 0)) (dkFoot b lb wv3) w1 w4 := ⟨M03.out.fr.trans fr4 (fun _ h => h.elim), M03.out.piv⟩
  have HM04 := Lib.hid M04; clear M04 M03 fr4
  have HSB4 := Lib.hid hsb4; clear hsb4
  go_wp2_with fail
  refine (crash_any b lb cl sp _ _ _ 1 7 D4).mono ?_
  rintro e w5 ⟨rfl, D5, fr5⟩
  have row5 := fr5.at row4 (fun h => HSB4.out sb (h.elim .inl (fun h => .inr (.inl h))) rfl)
  have M05 : Mv (dkFoot b lb (.slice none 0 0)) (dkFoot b lb (.slice none 0 0)) w1 w5 := HM04.out.trans ⟨fr5.mono (fun k _ h => h.elim .inl (fun h => .inr (.inl h))), fun k h => by
    rcases h with h | h | h
    · exact .inl (.inl h)
    · exact .inl (.inr (.inl h))
    · cases h⟩
  have HM05 := Lib.hid M05; clear M05 HM04 fr5 row4 D4
  go_wp2_with fail
  refine (read_ok b lb cl sp _ _ _ 0 D5 rfl (by decide +kernel)).mono ?_
  rintro e w6 ⟨sb2, rfl, hsb, row6, fr6⟩
  have T6 : Dk.told (Dk.crashed (((newDk 2).written 0 [97, 98]).written 0 [99, 100]) 1 7) 0 = pad64 [97, 98] := by decide +kernel
  rw [T6] at row6
  have rowa6 := fr6.at row5 (fun h => h)
  have D6 := D5.fr fr6 (fun _ _ h => h)
  have HSB6 : Hid (∀ k, dkFoot b lb (.slice none 0 0) k → k ≠ sb2) := fun k hk e => by have := D5.lt k hk; omega
  have M06 : Mv (dkFoot b lb (.slice none 0 0)) (dkFoot b lb (.slice none 0 0)) w1 w6 := ⟨HM05.out.fr.trans fr6 (fun _ h => h.elim), HM05.out.piv⟩
  have HM06 := Lib.hid M06; clear M06 HM05 fr6 row5 D5 T6 hsb
  go_wp2_with fail
  refine (arm_any b lb cl sp _ _ _ 1 D6 (by omega)).mono ?_
  rintro e w7 ⟨rfl, D7, fr7⟩
  have rowa7 := fr7.at rowa6 (fun h => HSB4.out sb (.inl h) rfl)
  have row7 := fr7.at row6 (fun h => HSB6.out sb2 (.inl h) rfl)
  have M07 : Mv (dkFoot b lb (.slice none 0 0)) (dkFoot b lb (.slice none 0 0)) w1 w7 := ⟨HM06.out.fr.trans fr7 (fun _ h => .inl (.inl h)), HM06.out.piv⟩
  have HM07 := Lib.hid M07; clear M07 HM06 fr7 row6 rowa6 D6
  go_wp2_with fail
  refine (write_ok b lb cl sp _ _ _ 1 _ _ D7 rfl (by decide +kernel) (by decide) (IsBytes.nil _) (by decide +kernel)).mono ?_
  rintro e w8 ⟨rfl, wv8, D8, M8⟩
  have rowa8 := M8.fr.at rowa7 (fun h => by
    rcases h with h | h | h
    · exact HSB4.out sb (.inl h) rfl
    · exact HSB4.out sb (.inr (.inl h)) rfl
    · cases h)
  have row8 := M8.fr.at row7 (fun h => HSB6.out sb2 h rfl)
  have HM08 := Lib.hid (HM07.out.trans M8); clear M8 HM07 row7 rowa7 D7
  have hdown : Dk.down (((Dk.crashed (((newDk 2).written 0 [97, 98]).written 0 [99, 100]) 1 7).armedAt 1).written 1 []) = true := by decide +kernel
  have hmay : Dk.may (((Dk.crashed (((newDk 2).written 0 [97, 98]).written 0 [99, 100]) 1 7).armedAt 1).written 1 []) 0 = 32 := by decide +kernel
  have HDOWN := Lib.hid hdown; clear hdown
  go_wp2_with fail
  refine (read_may b lb cl sp _ _ _ 0 D8 (by rw [hmay]; decide)).mono ?_
  rintro e w9 ⟨rfl, rfl⟩
  have C1' : IsBytes w8 (.slice (some ⟨sb, 0, none⟩) 2 64) [99, 100] := IsBytes.of_row rowa8 2 64 (by decide) (by decide) (by decide)
  have C2' : IsBytes w8 (.slice (some ⟨sb2, 0, none⟩) 2 64) [97, 98] := IsBytes.of_row row8 2 64 (by decide) (by decide) (by decide)
  have HD8 := Lib.hid D8; clear D8 row8 rowa8
  have C1 := cv309 _ _ _ C1'
  have C2 := cv309 _ _ _ C2'
  clear C1' C2'
  have s1 : str [99, 100] = .string { data := #[99, 100] } := rfl
  have s2 : str [97, 98] = .string { data := #[97, 98] } := rfl
  go_wp2_with fail
  refine (down_any b lb cl sp _ _ _ HD8.out).mono ?_
  rintro e w9 ⟨rfl, rfl⟩
  rw [HDOWN.out]
  go_wp2
  go_ret
  exact ⟨rfl, FR1.out.trans HM08.out.fr (fun k h => by
    rcases h with h | h | h
    · exact .inr (by rw [h]; exact HB.out)
    · exact .inr (by rw [h]; exact HLB.out)
    · cases h)⟩
end Go.Proofs.Ytnpeeephkkmomaa
namespace Go.Proofs.Ytnpeeephkkmomaa
open Go.RowKit Go.Proofs.YtnpeeephkkmomaaW.PrintLast
set_option linter.unusedVariables false
set_option linter.unusedSimpArgs false

attribute [local go_sem] beq_self_eq_true
theorem frame_abc : framesOf [[97, 98, 99]] = [0, 0, 0, 0, 0, 0, 0, 3, 0, 0, 0, 0, 53, 36, 65, 194, 97, 98, 99] := by
  simp only [framesOf, frameOf, List.map_cons, List.map_nil, List.flatten_cons, List.flatten_nil, List.append_nil]
  rw [crcSum_abc]
  decide +kernel
theorem take_agr {pre x : List UInt8} (h : Agr pre 0 x) (hp : pre.length ≤ 64) : x.take pre.length = pre := by
  refine List.ext_getElem? fun j => ?_
  by_cases hj : j < pre.length
  · rw [List.getElem?_take, if_pos hj]
    have := h j (by omega) (by omega)
    rwa [Nat.mul_zero, Nat.zero_add] at this
  · rw [List.getElem?_eq_none (by rw [List.length_take]; omega), List.getElem?_eq_none (by omega)]

set_option maxRecDepth 100000 in
set_option maxHeartbeats 2000000 in
theorem awake5 (w : World) : Calls Try.prog 31 #[] w fun e w' => e = .returned (.bool true) ∧ Fr (fun _ => False) w w' := by
  go_enter Try.func31, Try.ntmps31
  go_wp2_with fail
  refine (jd_new 2 (by decide) _).mono ?_
  rintro e w1 ⟨b, rfl, hd⟩
  have HD := Lib.hid hd; clear hd
  go_wp2_with fail
  refine (jd_open HD.out).mono ?_
  rintro e w2 ⟨jp, ao, c, rfl, hj⟩
  have HJ := Lib.hid hj; clear hj
  have kc1 := Lib.run_convert_bytes_const (P := Try.prog) w2 30 5 #[.int .u8 97, .int .u8 98, .int .u8 99] 3 3 Try.underlying30 Try.underlying5
  go_wp2_with fail
  have B1 : IsBytes (w2.alloc (.cells #[.int .u8 97, .int .u8 98, .int .u8 99] 5 (3, 4))) (.slice (some ⟨w2.heap.size, 0, none⟩) 3 3) [97, 98, 99] := IsBytes.of_cells (l := [97, 98, 99]) (heap_alloc_at _ _) (by decide)
  refine ((HJ.out.fr ((Fr.refl _ w2).alloc _)).append rfl (by decide) (by decide) (by decide) _ [97, 98, 99] B1).mono ?_
  rintro e w3 ⟨er, rfl, f3, hres⟩
  obtain ⟨rfl, hj3⟩ : er = 0 ∧ JH w w3 (fun _ => False) 2 b jp (framesOf [[97, 98, 99]]) 19 1 0 True := by
    rcases hres with ⟨_, _, hno, _⟩ | ⟨h0, hj, _, _⟩
    · exact (hno ⟨trivial, by decide, by decide⟩).elim
    · exact ⟨h0, by simpa [framesOf] using hj⟩
  have HJ3 := Lib.hid hj3
  clear hj3 hres f3 B1 kc1 HJ HD
  go_wp2_with (first
    | (go_at_call 33; refine HJ3.out.ends.mono ?_; rintro e w4 ⟨rfl, rfl⟩)
    | (go_at_call 34; refine HJ3.out.counts.mono ?_; rintro e w4 ⟨rfl, rfl⟩)
    | (go_at_call 19; refine (HJ3.out.read0 trivial (by decide)).mono ?_; rintro e w5 ⟨sb, x, rfl, hxl, hxa, row5, f5⟩; have HXA := Lib.hid hxa; have HJ5 := Lib.hid (HJ3.out.fr f5); have HX5 : Hid (IsBytes w5 (.slice (some ⟨sb, 0, none⟩) 64 64) x) := Lib.hid (by have := IsBytes.of_cells row5 (by rw [hxl]; decide); rwa [hxl] at this); have HROW5 := Lib.hid row5; have HXL := Lib.hid hxl; clear hxa row5 f5 hxl))
  obtain ⟨l19, hl19⟩ : ∃ l19 : List UInt8, l19 = [0, 0, 0, 0, 0, 0, 0, 3, 0, 0, 0, 0, 53, 36, 65, 194, 97, 98, 99] := ⟨_, rfl⟩
  have hx19 : x.take 19 = l19 := by
    have h := take_agr HXA.out (by rw [frame_abc]; decide)
    rw [frame_abc] at h
    rw [hl19]; exact h
  have hll : l19.length = 19 := by rw [hl19]; rfl
  have HB0 : Hid (IsBytes w5 (.slice (some ⟨sb, 0, none⟩) 19 64) l19) := Lib.hid (by
    have := IsBytes.of_row HROW5.out 19 64 (by rw [HXL.out]; decide) (by decide) (by decide)
    rwa [hx19] at this)
  have HB1 : Hid (IsBytes w5.drew (.slice (some ⟨sb, 0, none⟩) 19 64) l19) := Lib.hid (HB0.out.fr (F := fun _ => False) (Fr.refl _ w5).drew (fun _ _ h => h))
  have s1 := cv309 w5.drew _ _ HB1.out
  have hcs : (Bs l19).toArray = #[.int .u8 0, .int .u8 0, .int .u8 0, .int .u8 0, .int .u8 0, .int .u8 0, .int .u8 0, .int .u8 3, .int .u8 0, .int .u8 0, .int .u8 0, .int .u8 0, .int .u8 53, .int .u8 36, .int .u8 65, .int .u8 194, .int .u8 97, .int .u8 98, .int .u8 99] := by rw [hl19]; rfl
  have hs4 : cvStr Try.prog 30 9 (.slice (some ⟨w5.heap.size, 0, none⟩) 19 19) (w5.alloc (.cells #[.int .u8 0, .int .u8 0, .int .u8 0, .int .u8 0, .int .u8 0, .int .u8 0, .int .u8 0, .int .u8 3, .int .u8 0, .int .u8 0, .int .u8 0, .int .u8 0, .int .u8 53, .int .u8 36, .int .u8 65, .int .u8 194, .int .u8 97, .int .u8 98, .int .u8 99] 5 (0, 0))).drew = .ok (.value (str l19)) (w5.alloc (.cells #[.int .u8 0, .int .u8 0, .int .u8 0, .int .u8 0, .int .u8 0, .int .u8 0, .int .u8 0, .int .u8 3, .int .u8 0, .int .u8 0, .int .u8 0, .int .u8 0, .int .u8 53, .int .u8 36, .int .u8 65, .int .u8 194, .int .u8 97, .int .u8 98, .int .u8 99] 5 (0, 0))).drew := by
    refine cv309 _ _ _ ?_
    rw [← hcs]
    have h : IsBytes (w5.alloc (.cells (Bs l19).toArray 5 (0, 0))) _ l19 := IsBytes.of_cells (heap_alloc_at w5 (.cells (Bs l19).toArray 5 (0, 0))) (by rw [hll]; decide)
    rw [hll] at h
    exact h.fr (F := fun _ => False) (Fr.refl _ _).drew (fun _ _ h => h)
  have HN : Hid (∀ o : Obj, cvStr Try.prog 30 9 (.slice (some ⟨sb, 0, none⟩) 19 64) (w5.alloc o).drew = .ok (.value (str l19)) (w5.alloc o).drew) := Lib.hid (fun o => cv309 _ _ _ ((HB0.out.alloc o).fr (F := fun _ => False) (Fr.refl _ _).drew (fun _ _ h => h)))
  clear hx19 hl19 hll hcs
  refine start_ (n := 7) (S := fun w' => cvStr Try.prog 30 9 (.slice (some ⟨sb, 0, none⟩) 19 64) w' = .ok (.value (str l19)) w') (ds := []) #[false, false, false, false, false, false, false] (by kernel_rfl) rfl rfl (s1) (fun hHeld => ?_)
  refine pure_ (i := 0) (N := some 48) (v := ?_) (a' := ?_) #[true, false, false, false, false, false, false] rfl rfl (by kernel_rfl) (fun _ _ _ h => h) (Or.inl ⟨by rfl, ?_⟩) ?_ ?_
  rotate_left
  · intro w'
    try simp only [List.getElem_toArray, List.getElem_cons_succ, List.getElem_cons_zero]
    go_simp
    with_reducible rfl
  rotate_left
  · simp only [Act.put, List.setIfInBounds_toArray, List.set_cons_zero, List.set_cons_succ, i64_w, i32_w]
    rfl
  refine pure_ (i := 1) (N := some 49) (v := ?_) (a' := ?_) #[true, true, false, false, false, false, false] rfl rfl (by kernel_rfl) (fun _ _ _ h => h) (Or.inl ⟨by rfl, ?_⟩) ?_ ?_
  rotate_left
  · intro w'
    try simp only [List.getElem_toArray, List.getElem_cons_succ, List.getElem_cons_zero]
    go_simp
    with_reducible rfl
  rotate_left
  · simp only [Act.put, List.setIfInBounds_toArray, List.set_cons_zero, List.set_cons_succ, i64_w, i32_w]
    rfl
  refine take_ (i := 2) (N := some 50) (v := ?_) (a' := ?_) #[true, true, true, false, false, false, false] rfl rfl (by kernel_rfl) (fun _ _ _ h => h) (Or.inl ⟨by rfl, ?_⟩) hHeld ?_ ?_
  rotate_left
  · intro w' s0
    try simp only [List.getElem_toArray, List.getElem_cons_succ, List.getElem_cons_zero]
    go_simp
    with_reducible rfl
  rotate_left
  · simp only [Act.put, List.setIfInBounds_toArray, List.set_cons_zero, List.set_cons_succ, i64_w, i32_w]
    rfl
  refine one_ (i := 3) (N := some 51) #[true, true, true, true, false, false, false] rfl rfl (by kernel_rfl) (by decide) (fun K hK => ?_)
  refine value_ (w1 := ?_) (v := ?_) (by rfl) rfl ?_ ?_
  rotate_left 2
  · try simp only [List.getElem_toArray, List.getElem_cons_succ, List.getElem_cons_zero]
    go_simp
    constructor
    · rfl
    · rfl
  refine hK.out _ _ (HN.out _) (fun hHeld => ?_)
  clear hK K
  refine norm_ (a' := ?_) ?_ ?_
  rotate_left
  · show Act.put _ (some 51) _ = _
    simp only [Act.put, List.setIfInBounds_toArray, List.set_cons_zero, List.set_cons_succ, i64_w, i32_w]
    rfl
  refine one_ (i := 4) (N := some 52) #[true, true, true, true, true, false, false] rfl rfl (by kernel_rfl) (by decide) (fun K hK => ?_)
  refine value_ (w1 := ?_) (v := ?_) (by rfl) rfl ?_ ?_
  rotate_left 2
  · try simp only [List.getElem_toArray, List.getElem_cons_succ, List.getElem_cons_zero]
    go_simp
    constructor
    · rfl
    · rfl
  refine hK.out _ _ (HN.out _) (fun hHeld => ?_)
  clear hK K
  refine norm_ (a' := ?_) ?_ ?_
  rotate_left
  · show Act.put _ (some 52) _ = _
    simp only [Act.put, List.setIfInBounds_toArray, List.set_cons_zero, List.set_cons_succ, i64_w, i32_w]
    rfl
  refine pure_ (i := 5) (N := some 53) (v := ?_) (a' := ?_) #[true, true, true, true, true, true, false] rfl rfl (by kernel_rfl) (fun _ _ _ h => h) (Or.inl ⟨by rfl, ?_⟩) ?_ ?_
  rotate_left
  · intro w'
    try simp only [List.getElem_toArray, List.getElem_cons_succ, List.getElem_cons_zero]
    go_simp
    with_reducible rfl
  rotate_left
  · simp only [Act.put, List.setIfInBounds_toArray, List.set_cons_zero, List.set_cons_succ, i64_w, i32_w]
    rfl
  refine pure_ (i := 6) (N := some 7) (v := ?_) (a' := ?_) #[true, true, true, true, true, true, true] rfl rfl (by kernel_rfl) (fun _ _ _ h => h) (Or.inl ⟨by rfl, ?_⟩) ?_ ?_
  rotate_left
  · intro w'
    try simp only [List.getElem_toArray, List.getElem_cons_succ, List.getElem_cons_zero]
    go_simp
    with_reducible rfl
  rotate_left
  · simp only [Act.put, List.setIfInBounds_toArray, List.set_cons_zero, List.set_cons_succ, i64_w, i32_w]
    rfl
  refine done_ (by kernel_rfl) ?_

  have HJ6 : Hid (JH w (w5.alloc (.cells #[.int .u8 0, .int .u8 0, .int .u8 0, .int .u8 0, .int .u8 0, .int .u8 0, .int .u8 0, .int .u8 3, .int .u8 0, .int .u8 0, .int .u8 0, .int .u8 0, .int .u8 53, .int .u8 36, .int .u8 65, .int .u8 194, .int .u8 97, .int .u8 98, .int .u8 99] 5 (0, 0))).drew (fun _ => False) 2 b jp (framesOf [[97, 98, 99]]) 19 1 0 True) := Lib.hid (HJ5.out.fr ((Fr.refl _ w5).alloc _).drew)
  generalize (w5.alloc (.cells #[.int .u8 0, .int .u8 0, .int .u8 0, .int .u8 0, .int .u8 0, .int .u8 0, .int .u8 0, .int .u8 3, .int .u8 0, .int .u8 0, .int .u8 0, .int .u8 0, .int .u8 53, .int .u8 36, .int .u8 65, .int .u8 194, .int .u8 97, .int .u8 98, .int .u8 99] 5 (0, 0))).drew = W6 at *
  have M1 : Hid True := Lib.hid trivial
  clear s1 hs4 HN
  have hzb : ∀ (W : World) (n : Nat), n ≤ 1000 → IsBytes (W.alloc (.cells (Bs (zB n)).toArray 5 (0, 0))) (.slice (some ⟨W.heap.size, 0, none⟩) n n) (zB n) := fun W n hn => by
    have h : IsBytes (W.alloc (.cells (Bs (zB n)).toArray 5 (0, 0))) _ (zB n) := IsBytes.of_cells (heap_alloc_at W _) (by simp [zB]; omega)
    simpa [zB] using h
  have HZB := Lib.hid hzb
  clear hzb
  go_wp2_with (first
    | (go_at_call 32; clear M1; refine ((HJ6.out.fr ((Fr.refl _ W6).alloc _)).append (by rw [frame_abc]; rfl) (by decide) (by decide) (by decide) _ (zB 94) (HZB.out W6 94 (by decide))).mono ?_; rintro e w7 ⟨er, rfl, _, hres⟩; obtain ⟨rfl, hj7⟩ : er = 51 ∧ JH w w7 (fun _ => False) 2 b jp (framesOf [[97, 98, 99]]) 19 1 0 True := (by
        rcases hres with ⟨_, _, _, hf⟩ | ⟨_, _, _, hb⟩
        · exact hf (by decide) (by decide)
        · exact absurd hb (by decide)); have HJ7 := Lib.hid hj7; clear hj7 hres)
    | (go_at_call 32; refine ((HJ7.out.fr ((Fr.refl _ w7).alloc _)).append (by rw [frame_abc]; rfl) (by decide) (by decide) (by decide) _ (zB 93) (HZB.out w7 93 (by decide))).mono ?_; rintro e w8 ⟨er, rfl, _, hres⟩; obtain ⟨rfl, hj8⟩ : er = 0 ∧ JH w w8 (fun _ => False) 2 b jp (framesOf [[97, 98, 99]] ++ frameOf (zB 93)) 128 2 0 True := (by
        rcases hres with ⟨_, _, hno, _⟩ | ⟨h0, hj, _, _⟩
        · exact (hno ⟨trivial, by decide, by decide⟩).elim
        · exact ⟨h0, hj⟩); have HJ8 := Lib.hid hj8; clear hj8 hres)
    | (go_at_call 33; refine HJ8.out.ends.mono ?_; rintro e w9 ⟨rfl, rfl⟩))
  go_ret
  obtain ⟨_, _, _, _, _, h⟩ := HJ8.out
  exact ⟨rfl, h.own⟩
end Go.Proofs.Ytnpeeephkkmomaa
namespace Go.Proofs.Ytnpeeephkkmomaa
open Go.ChangeShapes Go.WideShapes Go.Deep Go.RowKit Go.Proofs.YtnpeeephkkmomaaW.PrintLast
set_option linter.unusedVariables false
set_option linter.unusedSimpArgs false

section
variable {H : Type} {enc : TypeId × Value → H} {w : World} {base : Nat} {held : Bool}
theorem lists_of_trod {fuel : Nat} {v : Value} {x : DataW H × List MemPlace} (h : DataW.trod enc Try.prog w base (fun _ => true) held fuel 50 [v] = some x) : ∃ ls, IsLists w v ls := by
  rcases open_slice Try.underlying50 h with ⟨hcs, _⟩ | ⟨a, len, cap, m, n, D, Pl, hcs, _, hl, hm, hmm, _, hi⟩
  · obtain rfl : v = .slice none 0 0 := by simpa using hcs
    exact ⟨[], none, 0, rfl, by simp, by simp, fun _ => rfl, fun a ha => by cases ha⟩
  · obtain rfl : v = .slice (some a) len cap := by simpa using hcs
    simp only [if_true] at hmm
    subst hmm
    have key : ∀ i, i < len → ∃ q : Value × List UInt8, w.cell? (a.add i) = some q.1 ∧ IsBytes w q.1 q.2 := by
      intro i hil
      obtain ⟨cs', hc, ht'⟩ := hi i (by omega)
      have hC : Try.prog.cellsOf 30 = 1 := by kernel_rfl
      rw [hC, Nat.mul_one] at hc
      obtain ⟨_, hcl, hat⟩ := World.cells?_some hc
      obtain ⟨u, rfl⟩ : ∃ u, cs' = [u] := by
        rcases cs' with _ | ⟨u, _ | ⟨u2, t⟩⟩
        · simp at hcl
        · exact ⟨u, rfl⟩
        · simp at hcl
      obtain ⟨l, hb⟩ := bytes_of_trod Try.underlying30 Try.underlying5 (by kernel_rfl) ht'
      have h0 := hat 0 (by decide)
      rw [Go.Deep.add_add, Nat.add_zero] at h0
      exact ⟨(u, l), h0, hb⟩
    obtain ⟨f, hf⟩ := choose_fn (α := Value × List UInt8) key
    refine ⟨(List.range len).map (fun i => (f i).2), some a, m, ?_, ?_, by simpa [maxLen] using hm, by simp, ?_⟩
    · simp
    · simpa using hl
    · rintro b hb j hj
      cases hb
      have hj' : j < len := by simpa using hj
      refine ⟨(f j).1, (hf j hj').1, ?_⟩
      simp only [List.getElem_map, List.getElem_range]
      exact (hf j hj').2
set_option maxRecDepth 100000 in
theorem array3_of_okWide {r : Reach} {v : Value} (h : Value.okWide Try.prog w r base 51 v) : ∃ c0 c1 c2, v = .agg #[c0, c1, c2] := by
  simp only [Value.okWide, Try.underlying51] at h
  obtain ⟨cs, rfl, hs, _⟩ := h
  have h3 : Try.prog.cellsOf 51 = 3 := by kernel_rfl
  rw [h3] at hs
  obtain ⟨l⟩ := cs
  simp only [List.size_toArray] at hs
  rcases l with _ | ⟨a, _ | ⟨b, _ | ⟨c, _ | ⟨d, t⟩⟩⟩⟩
  · cases hs
  · cases hs
  · cases hs
  · exact ⟨a, b, c, rfl⟩
  · simp only [List.length_cons] at hs; omega
end
end Go.Proofs.Ytnpeeephkkmomaa
namespace Go.Proofs.Ytnpeeephkkmomaa
open Go.RowKit Go.Proofs.YtnpeeephkkmomaaW.PrintLast
set_option linter.unusedVariables false
set_option linter.unusedSimpArgs false
attribute [local go_sem] beq_self_eq_true bne_self_eq_false

/-- A row of one's own of slices of others' bytes, which stand as they stood in W0. -/
def LaidAt (W0 w : World) (v : Value) (ls : List (List UInt8)) : Prop :=
  ∃ us : List Value, w.ownsRow 0 30 1 v ls.length us ∧ (∀ k, v.ownBlock = some k → W0.heap.size ≤ k) ∧ ∀ j (h : j < ls.length), ∃ u, us[j]? = some u ∧ u.oneCell' = true ∧ IsBytes W0 u ls[j]
theorem LaidAt.nil (W0 w : World) : LaidAt W0 w (.slice none 0 0) [] := ⟨[], World.ownsRow_nil _ _ _ _, by simp [Value.ownBlock], fun j h => by simp at h⟩
theorem LaidAt.slice {W0 w : World} {v : Value} {ls : List (List UInt8)} (h : LaidAt W0 w v ls) : ∃ ao cap, v = .slice ao ls.length cap := by
  obtain ⟨us, h1, _⟩ := h; exact ownsRow_slice h1
theorem LaidAt.fr {W0 w w' : World} {v : Value} {ls : List (List UInt8)} (h : LaidAt W0 w v ls) {F : Nat → Prop} (hf : Fr F w w') (hF : ∀ k, v.ownBlock = some k → ¬ F k) : LaidAt W0 w' v ls := by
  obtain ⟨us, h1, h2, h3⟩ := h
  exact ⟨us, ownsRow_fr h1 hf hF, h2, h3⟩
theorem LaidAt.aside {W0 w w' : World} {v : Value} {ls : List (List UInt8)} (h : LaidAt W0 w v ls) (hf : Fr (Aside W0 (fun j => v.ownBlock = some j)) w w') : LaidAt W0 w' v ls := h.fr hf (fun k hk ha => ha.2 hk)
theorem LaidAt.lists {W0 w : World} {v : Value} {ls : List (List UInt8)} (h : LaidAt W0 w v ls) (hf : Fr (fun _ => False) W0 w) : IsLists w v ls := by
  obtain ⟨us, h1, hq0, h2⟩ := h
  have h1' := h1
  rcases h1.2 with ⟨rfl, h0⟩ | ⟨g, cap, cur, rfl, _, hg, hnc, hcm, hcs, ht⟩
  · obtain rfl := List.eq_nil_of_length_eq_zero h0
    exact ⟨none, 0, rfl, by simp, by simp, fun _ => rfl, fun a ha => by cases ha⟩
  · refine ⟨some ⟨g, 0, none⟩, cap, rfl, hnc, by simpa [maxLen] using hcm, by simp, ?_⟩
    rintro a ha j hj
    cases ha
    obtain ⟨u, e1, e2, e3⟩ := h2 j hj
    exact ⟨u, World.ownsRow.cells h1' rfl j u e1, e3.fr hf (fun _ _ h => h)⟩
theorem LaidAt.lt {W0 w : World} {v : Value} {ls : List (List UInt8)} (h : LaidAt W0 w v ls) (k : Nat) (hk : v.ownBlock = some k) : W0.heap.size ≤ k ∧ k < w.heap.size := by
  obtain ⟨us, h1, h2, _⟩ := h
  exact ⟨h2 k hk, (World.ownsRow.lt h1 k hk).2⟩
theorem wpList_append_laid {W0 : World} {ops : Array Oper} {rest : List Oper} {o : Oper} {a : Act} {w : World} {Q : Exit → Act → World → Prop} (hgd : o.guard = none) (s x : Operand)
    (ho : o.op = .call { callee := .builtin .append, args := #[s, x], argTypes := #[50, 50] })
    (v : Value) (ls : List (List UInt8)) (hs : a.eval s = v) (hown : LaidAt W0 w v ls) (hw : W0.heap.size ≤ w.heap.size) (g c : Nat) (u : Value) (l : List UInt8) (hx : a.eval x = .slice (some ⟨g, 0, none⟩) 1 c) (hu : w.cell? ⟨g, 0, none⟩ = some u)
    (h1 : u.oneCell' = true) (hl : IsBytes W0 u l) (hroom : ls.length ≤ 1099511627776)
    (h : ∀ v' w', LaidAt W0 w' v' (ls ++ [l]) → Fr (fun k => v.ownBlock = some k) w w' → (v'.ownBlock = v.ownBlock ∨ v'.ownBlock = some w.heap.size) → wpList Try.prog ops Q rest (a.put o.dst v') w') :
    wpList Try.prog ops Q (o :: rest) a w := by
  obtain ⟨i, hinfo, hz0, hz1, hz2⟩ := info_parts info30'
  obtain ⟨us, k1, k0, k2⟩ := hown
  refine wpList_append hgd s x 50 ho 30 i _ 1 24 Try.underlying50 hinfo hz0 hz1 hz2 rfl (by decide) v ls.length us hs k1 ⟨g, 0, none⟩ 1 c [u] hx rfl ?_ (by simpa using h1) (Room.one (by unfold maxLen; omega) (by decide) (by omega)) ?_
  · intro j u' hj
    rcases j with _ | j
    · simp only [List.getElem?_cons_zero, Option.some.injEq] at hj
      subst hj
      rw [Addr.add_mk]; exact hu
    · simp at hj
  · intro v' w' own fr fresh
    have hlen : us.length = ls.length := by have := k1.1; omega
    refine h v' w' ⟨us ++ [u], by rw [List.length_append]; exact own, fun k hk => ?_, fun j hj => ?_⟩ fr fresh
    · rcases fresh with e | e
      · exact k0 k (by rw [← e]; exact hk)
      · rw [e] at hk; cases hk; exact hw
    · rw [List.length_append, List.length_singleton] at hj
      by_cases hjl : j < ls.length
      · obtain ⟨y, e1, e2, e3⟩ := k2 j hjl
        refine ⟨y, by rw [List.getElem?_append_left (by omega)]; exact e1, e2, ?_⟩
        rw [List.getElem_append_left hjl]; exact e3
      · obtain rfl : j = ls.length := by omega
        refine ⟨u, by rw [List.getElem?_append_right (by omega), hlen]; simp, h1, ?_⟩
        rw [List.getElem_append_right (by omega)]
        simp only [Nat.sub_self, List.getElem_cons_zero]
        exact hl

/-- Between two rounds. -/
def TornAt (W0 wr : World) (b jp : Nat) (lv : Value) (laid : List (List UInt8)) : Prop :=
  LaidAt W0 wr lv laid ∧ JH W0 wr (fun j => lv.ownBlock = some j) 300 b jp (framesOf laid) (framesOf laid).length laid.length 0 True
theorem JH.own0 {W w : World} {X : Nat → Prop} {n b jp : Nat} {pre : List UInt8} {en : Nat} {ct : Int} {m : Nat} {up : Prop} (h : JH W w X n b jp pre en ct m up) : Fr (fun _ => False) W w := by
  obtain ⟨_, _, _, _, _, h⟩ := h; exact h.own
theorem JH.opens' {W w : World} {X : Nat → Prop} {n b jp : Nat} {pre : List UInt8} {en : Nat} {ct : Int} {m : Nat} {up : Prop} (h : JH W w X n b jp pre en ct m up) (hup : up) (ls : List (List UInt8)) (r : List UInt8) (hpre : pre = framesOf ls ++ r) (hle : (framesOf ls).length ≤ n * 64) (E C : Nat) (hE : E = (framesOf ls).length) (hC : C = ls.length) :
    Calls Try.prog 30 #[.pointer (some ⟨b, 0, none⟩), .int .i64 0, .int .i64 n, .int .i64 E, .int .i64 C] w fun e w' => ∃ jp' v, e = .returned (.tuple #[.pointer (some ⟨jp', 0, none⟩), v, .int .i64 0]) ∧ IsLists w' v ls ∧ Fr (fun _ => False) w w' := by
  subst hE hC
  exact h.opens hup ls r hpre hle
theorem JH.laid {W0 w w' : World} {n b jp : Nat} {pre : List UInt8} {en : Nat} {ct : Int} {m : Nat} {up : Prop} {v v' : Value} {ls ls' : List (List UInt8)} (h : JH W0 w (fun j => v.ownBlock = some j) n b jp pre en ct m up) (h1 : LaidAt W0 w v ls) (h2 : LaidAt W0 w' v' ls')
    (fr : Fr (fun k => v.ownBlock = some k) w w') (fresh : v'.ownBlock = v.ownBlock ∨ v'.ownBlock = some w.heap.size) : JH W0 w' (fun j => v'.ownBlock = some j) n b jp pre en ct m up := by
  refine h.frX fr (fun j hj => .inl hj) (fun j hj => (h1.lt j hj).1) _ (fun j hj => ⟨?_, (h2.lt j hj).2⟩)
  rcases fresh with e | e
  · exact .inl (e.symm.trans hj)
  · rw [e] at hj; cases hj; exact .inr (Nat.le_refl _)
theorem framesOf_snoc (ls : List (List UInt8)) (l : List UInt8) : framesOf (ls ++ [l]) = framesOf ls ++ frameOf l := by simp [framesOf]

set_option maxRecDepth 100000 in
set_option maxHeartbeats 4000000 in
theorem torn_walk (ao : Option Addr) (len cap : Nat) (ls : List (List UInt8)) (v : Value) (l : List UInt8) (x y z : Int) (w : World) (hls : IsLists w (.slice ao len cap) ls) (hv : IsBytes w v l)
    (hx : -9223372036854775808 ≤ x ∧ x ≤ 9223372036854775807) (hlen : len = ls.length) (hcap : len ≤ 140737488351232) :
    Calls Try.prog 7 #[.slice ao len cap, v, .agg #[.int .i64 x, .int .i64 y, .int .i64 z]] w fun e w' => e = .returned (.bool true) ∧ Fr (fun _ => False) w w' := by
  obtain ⟨vo, vc, rfl, _⟩ := hv.is
  have HLS := Lib.hid hls; have HV := Lib.hid hv; have HX := Lib.hid hx; have HLEN := Lib.hid hlen; have HCAP := Lib.hid hcap
  clear hls hv hx hlen hcap
  go_enter Try.func7, Try.ntmps7
  go_wp2_with fail
  obtain ⟨W0, hW0⟩ : ∃ W0, W0 = w.alloc (.cells #[.int .i64 x, .int .i64 y, .int .i64 z] 51 (0, 0)) := ⟨_, rfl⟩
  rw [← hW0]
  have hbox : W0.heap[w.heap.size]? = some (.cells #[.int .i64 x, .int .i64 y, .int .i64 z] 51 (0, 0)) := by rw [hW0]; exact heap_alloc_at _ _
  have hf0 : Fr (fun _ => False) w W0 := by rw [hW0]; exact (Fr.refl _ w).alloc _
  have HBOX := Lib.hid hbox; have HF0 := Lib.hid hf0
  have HLS0 := Lib.hid (HLS.out.fr hf0); have HV0 := Lib.hid (HV.out.fr hf0 (fun _ _ h => h))
  clear hW0 hbox hf0 HLS HV
  refine (jd_new 300 (by decide) W0).mono ?_
  rintro e w1 ⟨b, rfl, hd⟩
  have HD := Lib.hid hd; clear hd
  go_wp2_with fail
  refine (jd_open HD.out).mono ?_
  rintro e w2 ⟨jp, ao2, c2, rfl, hj⟩
  have HJ2 := Lib.hid hj; clear hj
  go_wp2_with fail
  refine (awake5 w2).mono ?_
  rintro e w3 ⟨rfl, f3⟩
  have HT3 : Hid (TornAt W0 w3 b jp (.slice none 0 0) []) := Lib.hid ⟨LaidAt.nil _ _, (HJ2.out.fr f3).frX (Fr.refl (fun _ => False) w3) (fun _ h => h.elim) (fun _ h => h.elim) _ (fun j hj => by simp [Value.ownBlock] at hj)⟩
  clear f3 HJ2 HD
  go_wp2
  go_loopw [11, 12] (fun lv i wr => ∃ (k : Nat) (laid : List (List UInt8)), k ≤ len ∧ k ≤ 20 ∧ i = .int .i64 k ∧ laid.length ≤ k ∧ (framesOf laid).length ≤ 216 * laid.length ∧ TornAt W0 wr b jp lv laid) (fun _ i _ => len - (intOf i).toNat)
  case atStart => exact ⟨0, [], Nat.zero_le _, Nat.zero_le _, rfl, Nat.le_refl _, Nat.le_refl _, HT3.out⟩
  case round =>
    clear HT3
    obtain ⟨k, laid, hk, hk2, rfl, hll, hfl, hlaid, hj⟩ := hrel
    obtain ⟨lo, lc, rfl⟩ := hlaid.slice
    have HLAID := Lib.hid hlaid; have HJ := Lib.hid hj
    have HB := Lib.hid (And.intro hll hfl)
    clear hlaid hj hll hfl
    by_cases hlt : k < len ∧ k < 20
    · obtain ⟨hlt1, hlt2⟩ := hlt
      obtain ⟨ab, off, uo, uc, rfl, hc0, hb0⟩ := HLS0.out.at k (by rw [← HLEN.out]; exact hlt1)
      have hkl : k < ls.length := by rw [← HLEN.out]; exact hlt1
      have hcr : cellIn wr.heap[ab]? (off + k) = some (.slice uo ls[k].length uc) := by rw [← cell?_mk]; exact HJ.out.own0.cell (by rw [cell?_mk]; exact hc0)
      generalize ls[k] = q at *
      have HC0 := Lib.hid hc0; have HB0 := Lib.hid hb0
      have hw1 : IntKind.i64.wrap ((k : Int) + 1) = (k : Int) + 1 := IntWalk.i64_in _ (by omega)
      have t1 : decide ((k : Int) < (len : Int)) = true := by simp; omega
      have t1n : decide (k < len) = true := by simp; omega
      have t2 : decide ((k : Int) < 20) = true := by simp; omega
      have t2n : decide (k < 20) = true := by simp; omega
      clear hc0 hb0 hkl
      by_cases hq : q.length ≤ 200
      · have t3 : decide ((q.length : Int) ≤ 200) = true := by simp; omega
        have t3n : decide (q.length ≤ 200) = true := by simp; omega
        have HQ := Lib.hid hq
        clear hq
        go_wp2_with (first
          | (go_at_call 32; refine (HJ.out.append rfl (by have := HB.out; omega) (by have := HB.out; omega) (by decide) _ q (HB0.out.fr HJ.out.own0 (fun _ _ h => h))).mono ?_; rintro e w5 ⟨er, rfl, f5, hres⟩; obtain ⟨rfl, hj5⟩ : er = 0 ∧ JH W0 w5 (fun j => (Value.slice lo laid.length lc).ownBlock = some j) 300 b jp (framesOf (laid ++ [q])) (framesOf (laid ++ [q])).length ((laid ++ [q]).length : Nat) 0 True := (by
              rcases hres with ⟨_, _, hno, _⟩ | ⟨h0, hj, _, _⟩
              · exact (hno ⟨trivial, by have := HQ.out; omega, by have := HB.out; have := HQ.out; omega⟩).elim
              · refine ⟨h0, ?_⟩
                rw [framesOf_snoc, List.length_append, frameOf_length, List.length_append, List.length_singleton]
                exact hj); have HJ5 := Lib.hid hj5; have HL5 := Lib.hid (HLAID.out.aside f5); have hc5 : cellIn w5.heap[ab]? (off + k) = some (.slice uo q.length uc) := (by rw [← cell?_mk]; exact hj5.own0.cell (by rw [cell?_mk]; exact HC0.out)); clear hj5 hres f5)
          | (refine wpList_append_laid (W0 := W0) rfl (.tmp 58) (.tmp 63) rfl _ laid rfl (HL5.out.fr ((Fr.refl (fun _ => False) w5).alloc _) (fun _ _ h => h)) (Nat.le_trans HJ5.out.own0.size (by simp)) w5.heap.size 1 _ q rfl ((cells_at (heap_alloc_at w5 _) 0).trans rfl) rfl HB0.out (by have := HB.out; omega) ?_; intro v6 w6 own6 fr6 fresh6; have HOW6 := Lib.hid own6; have HFR6 := Lib.hid fr6; obtain ⟨lo6, lc6, rfl⟩ := own6.slice; have HFS6 := Lib.hid fresh6; clear own6 fr6 fresh6))
        have e1 : (laid ++ [q]).length = laid.length + 1 := by simp
        have e2 : (framesOf (laid ++ [q])).length = (framesOf laid).length + (q.length + 16) := by rw [framesOf_snoc, List.length_append, frameOf_length]
        rw [e1] at HOW6 HFS6
        refine ⟨⟨k + 1, laid ++ [q], by omega, by omega, by go_num, by have := HB.out; omega, by have := HB.out; have := HQ.out; omega, HOW6.out, (HJ5.out.fr ((Fr.refl _ w5).alloc _)).frX HFR6.out (fun j hj => .inl hj) (fun j hj => (HLAID.out.lt j hj).1) _ (fun j hj => ⟨?_, (HOW6.out.lt j hj).2⟩)⟩, by simp [intOf]; omega⟩
        rcases HFS6.out with h | h
        · exact .inl (h.symm.trans hj)
        · rw [h] at hj; cases hj; exact .inr (Nat.le_refl _)
      · have t3 : decide ((q.length : Int) ≤ 200) = false := by simp; omega
        have t3n : decide (q.length ≤ 200) = false := by simp; omega
        clear hq
        go_wp2
        exact ⟨⟨k + 1, laid, by omega, by omega, by go_num, by have := HB.out; omega, HB.out.2, HLAID.out, HJ.out⟩, by simp [intOf]; omega⟩
    · obtain ⟨E0, hE0⟩ : ∃ E, E = (framesOf laid).length := ⟨_, rfl⟩
      obtain ⟨C0, hC0⟩ : ∃ C, C = laid.length := ⟨_, rfl⟩
      rw [← hE0, ← hC0] at HJ
      rw [← hC0] at HLAID ⊢
      have HE0 := Lib.hid hE0; have HC0 := Lib.hid hC0
      have hb0 : E0 ≤ 4320 ∧ C0 ≤ 20 := by have := HB.out; omega
      have HB0 := Lib.hid hb0
      clear hE0 hC0 hb0
      have hbr := HJ.out.own0.at HBOX.out (fun h => h)
      have hcond : decide (k < len) = false ∨ (decide (k < len) = true ∧ decide (k < 20) = false) := by simp; omega
      have hcondI : (decide ((k : Int) < (len : Int)) = false ∧ decide (k < len) = false) ∨ (decide ((k : Int) < (len : Int)) = true ∧ decide (k < len) = true ∧ decide ((k : Int) < 20) = false ∧ decide (k < 20) = false) := by simp; omega
      clear hcond hlt hk hk2
      have M1 : Hid True := Lib.hid trivial; have M2 : Hid True := Lib.hid trivial
      rcases hcondI with ⟨t1, t1n⟩ | ⟨t1, t1n, t2, t2n⟩
      · go_wp2_with (first
          | (go_at_call 33; refine HJ.out.ends.mono ?_; rintro e wq ⟨rfl, rfl⟩)
          | (go_at_call 34; refine HJ.out.counts.mono ?_; rintro e wq ⟨rfl, rfl⟩)
          | (go_at_call 14; refine (HJ.out.arm x HX.out).mono ?_; rintro e wa ⟨rfl, hja, fa⟩; have HLAID := Lib.hid (HLAID.out.aside fa); have HJ := Lib.hid hja; have hba := hja.own0.at HBOX.out (fun h => h); clear hja fa))
        refine (HJ.out.append HE0.out.symm (by have := HB0.out; omega) (by have := HB0.out; omega) (by decide) _ l (HV0.out.fr HJ.out.own0 (fun _ _ h => h))).mono ?_
        rintro e wb ⟨er, rfl, fb, hres⟩
        have HLAID := Lib.hid (HLAID.out.aside fb)
        obtain ⟨L', E2, C2, hjb, hE2, hC2, hEb, hcase⟩ : ∃ (L' : List (List UInt8)) (E2 C2 : Nat), JH W0 wb (fun j => (Value.slice lo C0 lc).ownBlock = some j) 300 b jp (framesOf L') E2 C2 200000 False ∧ E2 = (framesOf L').length ∧ C2 = L'.length ∧ E2 ≤ 19200 ∧ ((er ≠ 0 ∧ L' = laid ∧ E2 = E0 ∧ C2 = C0) ∨ (er = 0 ∧ L' = laid ++ [l])) := by
          rcases hres with ⟨hne, hjx, _, _⟩ | ⟨h0, hjx, hl1, hl2⟩
          · exact ⟨laid, E0, C0, hjx.weak id (by decide), HE0.out, HC0.out, by have := HB0.out; omega, .inl ⟨hne, rfl, rfl, rfl⟩⟩
          · refine ⟨laid ++ [l], E0 + l.length + 16, C0 + 1, ?_, ?_, ?_, by omega, .inr ⟨h0, rfl⟩⟩
            · rw [framesOf_snoc]; exact hjx.weak id (by decide)
            · rw [framesOf_snoc, List.length_append, frameOf_length, ← HE0.out]; omega
            · rw [List.length_append, List.length_singleton, ← HC0.out]
        have HPR : Hid (∃ r, framesOf L' = framesOf laid ++ r) := Lib.hid (by
          rcases hcase with ⟨_, h, _⟩ | ⟨_, h⟩
          · exact ⟨[], by rw [h, List.append_nil]⟩
          · exact ⟨frameOf l, by rw [h, framesOf_snoc]⟩)
        have HJ := Lib.hid hjb; have HE2 := Lib.hid hE2; have HC2 := Lib.hid hC2; have HEB := Lib.hid hEb
        have hbb := hjb.own0.at HBOX.out (fun h => h)
        clear hjb hE2 hC2 hEb hres fb
        rcases hcase with ⟨hne, hL, hE, hC⟩ | ⟨h0, hL⟩
        any_goals (rw [hE, hC] at HJ; replace hL := hL.symm; subst hL; have te : (er != 0) = true := (by simpa using hne); clear hne hE hC)
        any_goals (subst h0; subst hL)
        all_goals go_wp2_with (first
          | (go_at_call 33; refine HJ.out.ends.mono ?_; rintro e wq ⟨rfl, rfl⟩)
          | (go_at_call 34; refine HJ.out.counts.mono ?_; rintro e wq ⟨rfl, rfl⟩)
          | (go_at_call 18; refine (HJ.out.crash y z).mono ?_; rintro e wc ⟨rfl, hjc, fc⟩; have HLAID := Lib.hid (HLAID.out.aside fc); have HJ := Lib.hid hjc; clear hjc fc)
          | (go_at_call 30; clear M1; obtain ⟨r, hr⟩ := HPR.out; refine (HJ.out.opens' trivial laid r hr (by have h1 := HE0.out; have h2 := HB0.out; omega) E0 C0 HE0.out HC0.out).mono ?_; rintro e wd ⟨jq, got, rfl, hgot, fd⟩; have HGOT := Lib.hid hgot; have HJ := Lib.hid (HJ.out.fr fd); have HLAID := Lib.hid (HLAID.out.fr fd (fun _ _ h => h)); clear hgot fd hr)
          | (go_at_call 35; clear M2; refine (same_lists _ _ laid _ HGOT.out (HLAID.out.lists HJ.out.own0)).mono ?_; rintro e we ⟨rfl, fe⟩; have HJ := Lib.hid (HJ.out.fr fe); have HLAID := Lib.hid (HLAID.out.fr fe (fun _ _ h => h)); clear fe)
          | (refine wpList_append_laid (W0 := W0) rfl (.tmp 110) (.tmp 112) rfl _ laid rfl (HLAID.out.fr ((Fr.refl (fun _ => False) we).alloc _) (fun _ _ h => h)) (Nat.le_trans HJ.out.own0.size (by simp)) we.heap.size 1 _ l rfl ((cells_at (heap_alloc_at we _) 0).trans rfl) rfl HV0.out (by have h1 := HC0.out; have h2 := HB0.out; omega) ?_; intro v7 w7 own7 fr7 fresh7; obtain ⟨lo7, lc7, rfl⟩ := own7.slice; rw [← HC2.out] at own7 fresh7 ⊢; have HLAID7 := Lib.hid own7
             have HJ := Lib.hid ((HJ.out.fr ((Fr.refl (fun _ => False) we).alloc _)).laid (HLAID.out.fr ((Fr.refl (fun _ => False) we).alloc _) (fun _ _ h => h)) own7 fr7 fresh7)
             clear own7 fr7 fresh7)
          | (go_at_call 30; refine (HJ.out.opens' trivial (laid ++ [l]) [] (by rw [List.append_nil]) (by have h1 := HE2.out; have h2 := HEB.out; omega) E2 C2 HE2.out HC2.out).mono ?_; rintro e wf ⟨jq2, got2, rfl, hgot, fd⟩; have HGOT2 := Lib.hid hgot; have HJ := Lib.hid (HJ.out.fr fd); have HLAID7 := Lib.hid (HLAID7.out.fr fd (fun _ _ h => h)); clear hgot fd)
          | (go_at_call 35; refine (same_lists _ _ (laid ++ [l]) _ HGOT2.out (HLAID7.out.lists HJ.out.own0)).mono ?_; rintro e wg ⟨rfl, fe⟩; have HJ := Lib.hid (HJ.out.fr fe); clear fe))
        all_goals (go_ret; exact ⟨rfl, HF0.out.trans HJ.out.own0 (fun _ h => h.elim)⟩)
      · go_wp2_with (first
          | (go_at_call 33; refine HJ.out.ends.mono ?_; rintro e wq ⟨rfl, rfl⟩)
          | (go_at_call 34; refine HJ.out.counts.mono ?_; rintro e wq ⟨rfl, rfl⟩)
          | (go_at_call 14; refine (HJ.out.arm x HX.out).mono ?_; rintro e wa ⟨rfl, hja, fa⟩; have HLAID := Lib.hid (HLAID.out.aside fa); have HJ := Lib.hid hja; have hba := hja.own0.at HBOX.out (fun h => h); clear hja fa))
        refine (HJ.out.append HE0.out.symm (by have := HB0.out; omega) (by have := HB0.out; omega) (by decide) _ l (HV0.out.fr HJ.out.own0 (fun _ _ h => h))).mono ?_
        rintro e wb ⟨er, rfl, fb, hres⟩
        have HLAID := Lib.hid (HLAID.out.aside fb)
        obtain ⟨L', E2, C2, hjb, hE2, hC2, hEb, hcase⟩ : ∃ (L' : List (List UInt8)) (E2 C2 : Nat), JH W0 wb (fun j => (Value.slice lo C0 lc).ownBlock = some j) 300 b jp (framesOf L') E2 C2 200000 False ∧ E2 = (framesOf L').length ∧ C2 = L'.length ∧ E2 ≤ 19200 ∧ ((er ≠ 0 ∧ L' = laid ∧ E2 = E0 ∧ C2 = C0) ∨ (er = 0 ∧ L' = laid ++ [l])) := by
          rcases hres with ⟨hne, hjx, _, _⟩ | ⟨h0, hjx, hl1, hl2⟩
          · exact ⟨laid, E0, C0, hjx.weak id (by decide), HE0.out, HC0.out, by have := HB0.out; omega, .inl ⟨hne, rfl, rfl, rfl⟩⟩
          · refine ⟨laid ++ [l], E0 + l.length + 16, C0 + 1, ?_, ?_, ?_, by omega, .inr ⟨h0, rfl⟩⟩
            · rw [framesOf_snoc]; exact hjx.weak id (by decide)
            · rw [framesOf_snoc, List.length_append, frameOf_length, ← HE0.out]; omega
            · rw [List.length_append, List.length_singleton, ← HC0.out]
        have HPR : Hid (∃ r, framesOf L' = framesOf laid ++ r) := Lib.hid (by
          rcases hcase with ⟨_, h, _⟩ | ⟨_, h⟩
          · exact ⟨[], by rw [h, List.append_nil]⟩
          · exact ⟨frameOf l, by rw [h, framesOf_snoc]⟩)
        have HJ := Lib.hid hjb; have HE2 := Lib.hid hE2; have HC2 := Lib.hid hC2; have HEB := Lib.hid hEb
        have hbb := hjb.own0.at HBOX.out (fun h => h)
        clear hjb hE2 hC2 hEb hres fb
        rcases hcase with ⟨hne, hL, hE, hC⟩ | ⟨h0, hL⟩
        any_goals (rw [hE, hC] at HJ; replace hL := hL.symm; subst hL; have te : (er != 0) = true := (by simpa using hne); clear hne hE hC)
        any_goals (subst h0; subst hL)
        all_goals go_wp2_with (first
          | (go_at_call 33; refine HJ.out.ends.mono ?_; rintro e wq ⟨rfl, rfl⟩)
          | (go_at_call 34; refine HJ.out.counts.mono ?_; rintro e wq ⟨rfl, rfl⟩)
          | (go_at_call 18; refine (HJ.out.crash y z).mono ?_; rintro e wc ⟨rfl, hjc, fc⟩; have HLAID := Lib.hid (HLAID.out.aside fc); have HJ := Lib.hid hjc; clear hjc fc)
          | (go_at_call 30; clear M1; obtain ⟨r, hr⟩ := HPR.out; refine (HJ.out.opens' trivial laid r hr (by have h1 := HE0.out; have h2 := HB0.out; omega) E0 C0 HE0.out HC0.out).mono ?_; rintro e wd ⟨jq, got, rfl, hgot, fd⟩; have HGOT := Lib.hid hgot; have HJ := Lib.hid (HJ.out.fr fd); have HLAID := Lib.hid (HLAID.out.fr fd (fun _ _ h => h)); clear hgot fd hr)
          | (go_at_call 35; clear M2; refine (same_lists _ _ laid _ HGOT.out (HLAID.out.lists HJ.out.own0)).mono ?_; rintro e we ⟨rfl, fe⟩; have HJ := Lib.hid (HJ.out.fr fe); have HLAID := Lib.hid (HLAID.out.fr fe (fun _ _ h => h)); clear fe)
          | (refine wpList_append_laid (W0 := W0) rfl (.tmp 110) (.tmp 112) rfl _ laid rfl (HLAID.out.fr ((Fr.refl (fun _ => False) we).alloc _) (fun _ _ h => h)) (Nat.le_trans HJ.out.own0.size (by simp)) we.heap.size 1 _ l rfl ((cells_at (heap_alloc_at we _) 0).trans rfl) rfl HV0.out (by have h1 := HC0.out; have h2 := HB0.out; omega) ?_; intro v7 w7 own7 fr7 fresh7; obtain ⟨lo7, lc7, rfl⟩ := own7.slice; rw [← HC2.out] at own7 fresh7 ⊢; have HLAID7 := Lib.hid own7
             have HJ := Lib.hid ((HJ.out.fr ((Fr.refl (fun _ => False) we).alloc _)).laid (HLAID.out.fr ((Fr.refl (fun _ => False) we).alloc _) (fun _ _ h => h)) own7 fr7 fresh7)
             clear own7 fr7 fresh7)
          | (go_at_call 30; refine (HJ.out.opens' trivial (laid ++ [l]) [] (by rw [List.append_nil]) (by have h1 := HE2.out; have h2 := HEB.out; omega) E2 C2 HE2.out HC2.out).mono ?_; rintro e wf ⟨jq2, got2, rfl, hgot, fd⟩; have HGOT2 := Lib.hid hgot; have HJ := Lib.hid (HJ.out.fr fd); have HLAID7 := Lib.hid (HLAID7.out.fr fd (fun _ _ h => h)); clear hgot fd)
          | (go_at_call 35; refine (same_lists _ _ (laid ++ [l]) _ HGOT2.out (HLAID7.out.lists HJ.out.own0)).mono ?_; rintro e wg ⟨rfl, fe⟩; have HJ := Lib.hid (HJ.out.fr fe); clear fe))
        all_goals (go_ret; exact ⟨rfl, HF0.out.trans HJ.out.own0 (fun _ h => h.elim)⟩)
end Go.Proofs.Ytnpeeephkkmomaa
