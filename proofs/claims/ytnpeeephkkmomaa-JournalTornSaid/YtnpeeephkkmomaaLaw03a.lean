/-
  The disk's awake: true in every world.
-/
import Derived.Test.YtnpeeephkkmomaaDsk5
import Derived.Lib.SmallJoins
namespace Go.Proofs.Ytnpeeephkkmomaa
open Go.RowKit Go.Proofs.YtnpeeephkkmomaaW.PrintLast
set_option linter.unusedVariables false
set_option linter.unusedSimpArgs false

/-- '[]byte("..")' of a constant: in memory marked as a text's. -/
theorem byte_lit (w : World) (l : List UInt8) (hl : l.length ≤ 100) :
    IsBytes (w.alloc (.cells (Bs l).toArray 5 ((Bs l).toArray.size, (Bs l).toArray.size + 1))) (.slice (some ⟨w.heap.size, 0, none⟩) l.length l.length) l :=
  IsBytes.of_cells (heap_alloc_at _ _) (by omega)

theorem foot_new {w : World} {b lb : Nat} {wv : Value} {F : Nat → Prop} (hb : w.heap.size ≤ b) (hlb : w.heap.size ≤ lb) (hw : ∀ k, wv.ownBlock = some k → w.heap.size ≤ k) : ∀ k, dkFoot b lb wv k → F k ∨ w.heap.size ≤ k := by
  rintro k (rfl | rfl | h)
  · exact .inr hb
  · exact .inr hlb
  · exact .inr (hw k h)

set_option maxRecDepth 100000 in
set_option maxHeartbeats 2000000 in
theorem awake3 (w : World) : Calls Try.prog 13 #[] w fun e w' => e = .returned (.bool true) ∧ Fr (fun _ => False) w w' := by
  go_enter Try.func13, Try.ntmps13
  go_wp2_with fail
  refine (new_any 2 _ (by omega)).mono ?_
  rintro e w1 ⟨b, lb, cl, sp, rfl, D1, fr1, hb, hlb⟩
  have FR1 := Lib.hid fr1; clear fr1
  have HB := Lib.hid hb; clear hb
  have HLB := Lib.hid hlb; clear hlb
  have kc1 := Lib.run_convert_bytes_const (P := Try.prog) w1 30 5 #[.int .u8 97, .int .u8 98] 2 2 Try.underlying30 Try.underlying5
  go_wp2_with fail
  have B1 : IsBytes (w1.alloc (.cells #[.int .u8 97, .int .u8 98] 5 (2, 3))) (.slice (some ⟨w1.heap.size, 0, none⟩) 2 2) [97, 98] := IsBytes.of_cells (l := [97, 98]) (heap_alloc_at _ _) (by decide)
  refine (write_ok b lb cl sp _ _ _ 0 _ _ (D1.alloc _) rfl (by decide) (by decide) B1 (by decide)).mono ?_
  rintro e w2 ⟨rfl, wv2, D2, M2⟩
  have MA : Mv (dkFoot b lb (.slice none 0 0)) (dkFoot b lb wv2) w1 w2 := Mv.trans (Mv.of_fr ((Fr.refl _ w1).alloc _)) M2
  have M02 := Lib.hid MA; clear MA M2 B1 kc1
  have kc1 := Lib.run_convert_bytes_const (P := Try.prog) w2 30 5 #[.int .u8 99, .int .u8 100] 2 2 Try.underlying30 Try.underlying5
  go_wp2_with fail
  have B1 : IsBytes (w2.alloc (.cells #[.int .u8 99, .int .u8 100] 5 (2, 3))) (.slice (some ⟨w2.heap.size, 0, none⟩) 2 2) [99, 100] := IsBytes.of_cells (l := [99, 100]) (heap_alloc_at _ _) (by decide)
  refine (write_ok b lb cl sp _ _ _ 0 _ _ (D2.alloc _) rfl (by decide) (by decide) B1 (by decide)).mono ?_
  rintro e w3 ⟨rfl, wv3, D3, M3⟩
  have MA : Mv (dkFoot b lb (.slice none 0 0)) (dkFoot b lb wv3) w1 w3 := M02.out.trans (Mv.trans (Mv.of_fr ((Fr.refl _ w2).alloc _)) M3)
  have M03 := Lib.hid MA; clear MA M3 B1 kc1 M02 D1 D2
  go_wp2_with fail
  refine (read_ok b lb cl sp _ _ _ 0 D3 rfl (by decide)).mono ?_
  rintro e w4 ⟨sb, rfl, hsb, row4, fr4⟩
  have D4 := D3.fr fr4 (fun _ _ h => h)
  have hsb4 : ∀ k, dkFoot b lb wv3 k → k ≠ sb := fun k hk e => by have := D3.lt k hk; omega
  have T4 : Dk.told (((newDk 2).written 0 [97, 98]).written 0 [99, 100]) 0 = pad64 [99, 100] := by decide +kernel
  rw [T4] at row4
  clear T4 hsb D3
  have M04 : Mv (dkFoot b lb (.slice none 0 0)) (dkFoot b lb wv3) w1 w4 := ⟨M03.out.fr.trans fr4 (fun _ h => h.elim), M03.out.piv⟩
  have HM04 := Lib.hid M04; clear M04 M03 fr4
  have HSB4 := Lib.hid hsb4; clear hsb4
  go_wp2_with fail
  refine (crash_any b lb cl sp _ _ _ 1 7 D4).mono ?_
  rintro e w5 ⟨rfl, D5, fr5⟩
  have row5 := fr5.at row4 (fun h => HSB4.out sb (h.elim .inl (fun h => .inr (.inl h))) rfl)
  have M05 : Mv (dkFoot b lb (.slice none 0 0)) (dkFoot b lb (.slice none 0 0)) w1 w5 := HM04.out.trans ⟨fr5.mono (fun k _ h => h.elim .inl (fun h => .inr (.inl h))), fun k h => by
    rcases h with h | h | h
    · exact .inl (.inl h)
    · exact .inl (.inr (.inl h))
    · cases h⟩
  have HM05 := Lib.hid M05; clear M05 HM04 fr5 row4 D4
  go_wp2_with fail
  refine (read_ok b lb cl sp _ _ _ 0 D5 rfl (by decide +kernel)).mono ?_
  rintro e w6 ⟨sb2, rfl, hsb, row6, fr6⟩
  have T6 : Dk.told (Dk.crashed (((newDk 2).written 0 [97, 98]).written 0 [99, 100]) 1 7) 0 = pad64 [97, 98] := by decide +kernel
  rw [T6] at row6
  have rowa6 := fr6.at row5 (fun h => h)
  have D6 := D5.fr fr6 (fun _ _ h => h)
  have HSB6 : Hid (∀ k, dkFoot b lb (.slice none 0 0) k → k ≠ sb2) := fun k hk e => by have := D5.lt k hk; omega
  have M06 : Mv (dkFoot b lb (.slice none 0 0)) (dkFoot b lb (.slice none 0 0)) w1 w6 := ⟨HM05.out.fr.trans fr6 (fun _ h => h.elim), HM05.out.piv⟩
  have HM06 := Lib.hid M06; clear M06 HM05 fr6 row5 D5 T6 hsb
  go_wp2_with fail
  refine (arm_any b lb cl sp _ _ _ 1 D6 (by omega)).mono ?_
  rintro e w7 ⟨rfl, D7, fr7⟩
  have rowa7 := fr7.at rowa6 (fun h => HSB4.out sb (.inl h) rfl)
  have row7 := fr7.at row6 (fun h => HSB6.out sb2 (.inl h) rfl)
  have M07 : Mv (dkFoot b lb (.slice none 0 0)) (dkFoot b lb (.slice none 0 0)) w1 w7 := ⟨HM06.out.fr.trans fr7 (fun _ h => .inl (.inl h)), HM06.out.piv⟩
  have HM07 := Lib.hid M07; clear M07 HM06 fr7 row6 rowa6 D6
  go_wp2_with fail
  refine (write_ok b lb cl sp _ _ _ 1 _ _ D7 rfl (by decide +kernel) (by decide) (IsBytes.nil _) (by decide +kernel)).mono ?_
  rintro e w8 ⟨rfl, wv8, D8, M8⟩
  have rowa8 := M8.fr.at rowa7 (fun h => by
    rcases h with h | h | h
    · exact HSB4.out sb (.inl h) rfl
    · exact HSB4.out sb (.inr (.inl h)) rfl
    · cases h)
  have row8 := M8.fr.at row7 (fun h => HSB6.out sb2 h rfl)
  have HM08 := Lib.hid (HM07.out.trans M8); clear M8 HM07 row7 rowa7 D7
  have hdown : Dk.down (((Dk.crashed (((newDk 2).written 0 [97, 98]).written 0 [99, 100]) 1 7).armedAt 1).written 1 []) = true := by decide +kernel
  have hmay : Dk.may (((Dk.crashed (((newDk 2).written 0 [97, 98]).written 0 [99, 100]) 1 7).armedAt 1).written 1 []) 0 = 32 := by decide +kernel
  have HDOWN := Lib.hid hdown; clear hdown
  go_wp2_with fail
  refine (read_may b lb cl sp _ _ _ 0 D8 (by rw [hmay]; decide)).mono ?_
  rintro e w9 ⟨rfl, rfl⟩
  have C1' : IsBytes w8 (.slice (some ⟨sb, 0, none⟩) 2 64) [99, 100] := IsBytes.of_row rowa8 2 64 (by decide) (by decide) (by decide)
  have C2' : IsBytes w8 (.slice (some ⟨sb2, 0, none⟩) 2 64) [97, 98] := IsBytes.of_row row8 2 64 (by decide) (by decide) (by decide)
  have HD8 := Lib.hid D8; clear D8 row8 rowa8
  have C1 := cv309 _ _ _ C1'
  have C2 := cv309 _ _ _ C2'
  clear C1' C2'
  have s1 : str [99, 100] = .string { data := #[99, 100] } := rfl
  have s2 : str [97, 98] = .string { data := #[97, 98] } := rfl
  go_wp2_with fail
  refine (down_any b lb cl sp _ _ _ HD8.out).mono ?_
  rintro e w9 ⟨rfl, rfl⟩
  rw [HDOWN.out]
  go_wp2
  go_ret
  exact ⟨rfl, FR1.out.trans HM08.out.fr (fun k h => by
    rcases h with h | h | h
    · exact .inr (by rw [h]; exact HB.out)
    · exact .inr (by rw [h]; exact HLB.out)
    · cases h)⟩
end Go.Proofs.Ytnpeeephkkmomaa
