/-
  The law DiskKeeps.
-/
import Derived.Test.YtnpeeephkkmomaaLaw03c
import Derived.Test.YtnpeeephkkmomaaByt
namespace Go.Proofs.Ytnpeeephkkmomaa
open Go.RowKit Go.Proofs.YtnpeeephkkmomaaW.PrintLast
set_option linter.unusedVariables false
set_option linter.unusedSimpArgs false

theorem info82x : (Try.prog.info? 82).isSome = true := by kernel_rfl

set_option maxRecDepth 100000 in
set_option maxHeartbeats 2000000 in
theorem keeps_walk (v : Value) (data : List UInt8) (w : World) (hv : IsBytes w v data) :
    Calls Try.prog 5 #[v] w fun e w' => e = .returned (.bool true) ∧ Fr (fun _ => False) w w' := by
  have HV := Lib.hid hv; clear hv
  obtain ⟨vo, vc, hvv, _⟩ := HV.out.is
  go_enter Try.func5, Try.ntmps5
  subst hvv
  go_wp2_with fail
  refine (new_any 2 _ (by omega)).mono ?_
  rintro e w1 ⟨b, lb, cl, sp, rfl, D1, fr1, hb, hlb⟩
  have O1 : Own w w1 (dkFoot b lb (.slice none 0 0)) := ⟨fr1, fun k h => by
    rcases h with h | h | h
    · omega
    · omega
    · cases h⟩
  have HO1 := Lib.hid O1; clear O1 fr1 hb hlb
  have HD1 := Lib.hid D1; clear D1
  go_wp2_with fail
  refine (awake3 _).mono ?_
  rintro e w2 ⟨rfl, fr2⟩
  have HO2 := Lib.hid (HO1.out.still fr2)
  have HD2 := Lib.hid (HD1.out.fr fr2 (fun _ _ h => h))
  clear fr2 HO1 HD1
  by_cases h64 : data.length ≤ 64
  · have hle : decide ((64 : Int) < (data.length : Int)) = false := by simp; omega
    go_wp2_with (refine wpList_append_bytes rfl (.tmp 25) (.tmp 26) rfl (.slice none 0 0) [] rfl (Buf.nil _) _ data rfl (HO2.out.bytes HV.out) (Room.of_small (by simp; omega) (by simp [maxLen]; omega)) ?_; intro v3 w3 own3 fr3 fresh3; rw [List.nil_append] at own3; obtain ⟨ao3, cap3, rfl⟩ := own3.slice)
    have hblk3 : ∀ k, (Value.slice ao3 data.length cap3).ownBlock = some k → w2.heap.size ≤ k := by
      intro k hk
      rcases fresh3 with h | h
      · rw [hk] at h; cases h
      · rw [hk] at h; cases h; exact Nat.le_refl _
    have FR3 : Fr (fun _ => False) w2 w3 := fr3.mono (fun k _ h => by cases h)
    have HO3 := Lib.hid (HO2.out.still FR3)
    have HD3 := Lib.hid (HD2.out.fr FR3 (fun _ _ h => h))
    have HB3 := Lib.hid own3
    have HK3 : Hid (∀ k, dkFoot b lb (.slice none 0 0) k → k < w2.heap.size) := Lib.hid HD2.out.lt
    have HBL := Lib.hid hblk3
    have HS3 := Lib.hid FR3.size
    have HS2 := Lib.hid HO2.out.fr.size
    clear own3 fr3 fresh3 hblk3 FR3 HO2 HD2
    refine (write_ok b lb cl sp _ _ w3 1 _ data HD3.out rfl (by decide) h64 HB3.out.bytes (by decide)).mono ?_
    rintro e w4 ⟨rfl, wv4, d4, m4⟩
    have HO4 := Lib.hid (HO3.out.step m4)
    have HD4 := Lib.hid d4
    have hap : ∀ k, (Value.slice ao3 data.length cap3).ownBlock = some k → ¬ dkFoot b lb wv4 k ∧ w.heap.size ≤ k := by
      intro k hk
      have h2 := HBL.out k hk
      refine ⟨fun hf => ?_, ?_⟩
      · rcases m4.piv k hf with h | h
        · have := HK3.out k h; omega
        · have := HB3.out.lt k hk; omega
      · have := HS2.out
        omega
    have HAP := Lib.hid hap
    have HB4 := Lib.hid (HB3.out.fr m4.fr (fun k hk hf => by have := HK3.out k hf; have := HBL.out k hk; omega))
    clear m4 d4 hap HO3 HD3 HB3
    go_wp2
    go_loopw [5] (fun i wr => ∃ k : Nat, k ≤ data.length ∧ i = .int .i64 k ∧ Scr wr (.slice ao3 data.length cap3) data.length ∧ Fr (fun k => (Value.slice ao3 data.length cap3).ownBlock = some k) w4 wr) (fun i _ => data.length - (intOf i).toNat)
    case atStart => exact ⟨0, Nat.zero_le _, rfl, HB4.out.scr, Fr.refl _ _⟩
    case round =>
      obtain ⟨k, hk, rfl, hs, hf⟩ := hrel
      rename_i wr
      have HF := Lib.hid hf; clear hf
      by_cases hlt : k < data.length
      · rcases hs with h | ⟨g, cap, cur, T, hv3, hg, hc⟩
        · omega
        · simp only [Value.slice.injEq] at hv3
          obtain ⟨rfl, _, rfl⟩ := hv3
          obtain ⟨x, hx⟩ := hc k hlt
          have HC := Lib.hid hc; clear hc
          have hw1 : IntKind.i64.wrap ((k : Int) + 1) = (k : Int) + 1 := IntWalk.i64_in _ (by omega)
          go_wp2
          refine ⟨⟨k + 1, by omega, by go_num, Scr.set hg HC.out _, HF.out.setCell _ (.inl rfl)⟩, ?_⟩
          simp [intOf]; omega
      · obtain rfl : k = data.length := by omega
        have HO5 : Hid (Own w wr (dkFoot b lb wv4)) := ⟨HO4.out.fr.trans HF.out (fun k hk => .inr (HAP.out k hk).2), HO4.out.new⟩
        have HD5 := Lib.hid (HD4.out.fr HF.out (fun k hk h => (HAP.out k h).1 hk))
        clear HO4 HD4 HF HAP HBL HB4 HK3 HS3 HS2 hs
        go_wp2_with fail
        refine (read_ok b lb cl sp _ _ wr 1 HD5.out rfl (show 1 < 2 by decide)).mono ?_
        rintro e w6 ⟨sb, rfl, hsb, row6, f6⟩
        have ht : ((newDk 2).written 1 data).told 1 = pad64 data := rfl
        rw [ht] at row6
        have HO6 := Lib.hid (HO5.out.still f6)
        have HD6 := Lib.hid (HD5.out.fr f6 (fun _ _ h => h))
        have HSB : Hid (¬ dkFoot b lb wv4 sb ∧ w.heap.size ≤ sb) := ⟨fun h => by have := HD5.out.lt sb h; omega, by have := HO5.out.fr.size; omega⟩
        have HR6 := Lib.hid row6
        have hp64 := pad64_length data h64
        clear f6 row6 hsb ht HO5 HD5
        go_wp2
        go_loopw [8] (fun i wq => ∃ k : Nat, k ≤ 64 ∧ i = .int .i64 k ∧ Scr wq (.slice (some ⟨sb, 0, none⟩) 64 64) 64 ∧ Fr (fun k => k = sb) w6 wq) (fun i _ => 64 - (intOf i).toNat)
        case atStart => exact ⟨0, Nat.zero_le _, rfl, Scr.of_row HR6.out (by omega), Fr.refl _ _⟩
        case round =>
          obtain ⟨k, hk, rfl, hs, hf⟩ := hrel
          have HF := Lib.hid hf; clear hf
          by_cases hlt : k < 64
          · rcases hs with h | ⟨g, cap, cur, T, hv3, hg, hc⟩
            · omega
            · simp only [Value.slice.injEq, Option.some.injEq, Addr.mk.injEq, and_true, true_and] at hv3
              obtain ⟨rfl, rfl⟩ := hv3
              obtain ⟨x, hx⟩ := hc k hlt
              have HC := Lib.hid hc; clear hc
              have hw1 : IntKind.i64.wrap ((k : Int) + 1) = (k : Int) + 1 := IntWalk.i64_in _ (by omega)
              go_wp2
              refine ⟨⟨k + 1, by omega, by go_num, Scr.set hg HC.out _, HF.out.setCell _ (.inl rfl)⟩, ?_⟩
              simp [intOf]; omega
          · obtain rfl : k = 64 := by omega
            have HO7 : Hid (Own w wr (dkFoot b lb wv4)) := ⟨HO6.out.fr.trans HF.out (fun k hk => .inr (hk ▸ HSB.out.2)), HO6.out.new⟩
            have HD7 := Lib.hid (HD6.out.fr HF.out (fun k hk h => HSB.out.1 (h ▸ hk)))
            clear HO6 HD6 HF HSB HR6 hs
            go_wp2_with fail
            refine (clone_any b lb cl sp _ _ wr HD7.out (show 1 ≤ 2932031007402 by decide)).mono ?_
            rintro e w8 ⟨b', lb', cl', sp', wv', rfl, DC, newC, f8⟩
            have HO8 := Lib.hid (HO7.out.still f8)
            have HD8 := Lib.hid (HD7.out.fr f8 (fun _ _ h => h))
            have HC8 := Lib.hid DC
            have HAP : Hid (∀ k, dkFoot b' lb' wv' k → ¬ dkFoot b lb wv4 k ∧ w.heap.size ≤ k) := fun k hk => ⟨fun h => by have := newC k hk; have := HD7.out.lt k h; omega, by have := newC k hk; have := HO7.out.fr.size; omega⟩
            clear f8 DC newC HO7 HD7
            go_wp2_with fail
            have B8 : IsBytes (w8.alloc (.cells #[.int .u8 119] 5)) (.slice (some ⟨w8.heap.size, 0, none⟩) 1 1) [0x77] := IsBytes.of_cells (l := [0x77]) (heap_alloc_at w8 _) (by decide)
            have al := (Fr.refl (fun _ => False) w8).alloc (.cells #[.int .u8 119] 5)
            have HO9 := Lib.hid (HO8.out.still al)
            have HD9 := Lib.hid (HD8.out.fr al (fun _ _ h => h))
            have HC9 := Lib.hid (HC8.out.fr al (fun _ _ h => h))
            have HB8 := Lib.hid B8
            clear B8 al HO8 HD8 HC8
            refine (write_ok b lb cl sp _ _ _ 1 _ [0x77] HD9.out rfl (show 1 < 2 by decide) (by decide) HB8.out (show 1 ≤ 2932031007402 by decide)).mono ?_
            rintro e w10 ⟨rfl, wv10, d10, m10⟩
            have HO10 := Lib.hid (HO9.out.step m10)
            have HD10 := Lib.hid d10
            have HC10 := Lib.hid (HC9.out.fr m10.fr (fun k hk h => (HAP.out k hk).1 h))
            have HNB : Hid (¬ dkFoot b' lb' wv' b ∧ ¬ dkFoot b' lb' wv' lb) := ⟨fun h => (HAP.out b h).1 (.inl rfl), fun h => (HAP.out lb h).1 (.inr (.inl rfl))⟩
            clear m10 d10 HO9 HD9 HC9 HB8 HAP
            go_wp2_with fail
            refine (flush_up b lb cl sp _ _ w10 HD10.out rfl).mono ?_
            rintro e w11 ⟨rfl, d11, f11⟩
            have HO11 := Lib.hid (HO10.out.step (own_nil f11))
            have HC11 := Lib.hid (HC10.out.fr f11 (fun k hk h => h.elim (fun h => HNB.out.1 (h ▸ hk)) (fun h => HNB.out.2 (h ▸ hk))))
            clear f11 d11 HO10 HD10 HC10 HNB
            go_wp2_with fail
            refine (read_ok b' lb' cl' sp' _ _ w11 1 HC11.out rfl (show 1 < 2 by decide)).mono ?_
            rintro e w12 ⟨tb, rfl, htb, row12, f12⟩
            have ht : ((newDk 2).written 1 data).told 1 = pad64 data := rfl
            rw [ht] at row12
            have HO12 := Lib.hid (HO11.out.still f12)
            have HC12 := Lib.hid (HC11.out.fr f12 (fun _ _ h => h))
            have C1 : IsBytes w12 (.slice (some ⟨tb, 0, none⟩) 64 64) (pad64 data) := by
              have := IsBytes.of_row row12 64 64 (by omega) (Nat.le_refl _) (by decide)
              rwa [List.take_of_length_le (by omega)] at this
            have HC1 := Lib.hid C1
            have HV12 := Lib.hid (HO12.out.bytes HV.out)
            have k1 := cv309 w12.drew _ _ (C1.fr (F := fun _ => False) (Fr.refl _ w12).drew (fun _ _ h => h))
            clear htb ht C1 hp64 HO11 HC11 f12 row12
            go_wp2
            refine start_ (n := 20) (S := fun w' => cvStr Try.prog 30 9 (.slice (some ⟨tb, 0, none⟩) 64 64) w' = .ok (.value (str (pad64 data))) w') (ds := []) #[false, false, false, false, false, false, false, false, false, false, false, false, false, false, false, false, false, false, false, false] (by kernel_rfl) rfl rfl (k1) (fun hHeld => ?_)
            refine pure_ (i := 0) (N := some 69) (v := ?_) (a' := ?_) #[true, false, false, false, false, false, false, false, false, false, false, false, false, false, false, false, false, false, false, false] rfl rfl (by kernel_rfl) (fun _ _ _ h => h) (Or.inl ⟨by rfl, ?_⟩) ?_ ?_
            rotate_left
            · intro w'
              try simp only [List.getElem_toArray, List.getElem_cons_succ, List.getElem_cons_zero]
              go_simp
              with_reducible rfl
            rotate_left
            · simp only [Act.put, List.setIfInBounds_toArray, List.set_cons_zero, List.set_cons_succ, i64_w, i32_w]
              rfl
            refine pure_ (i := 1) (N := some 70) (v := ?_) (a' := ?_) #[true, true, false, false, false, false, false, false, false, false, false, false, false, false, false, false, false, false, false, false] rfl rfl (by kernel_rfl) (fun _ _ _ h => h) (Or.inl ⟨by rfl, ?_⟩) ?_ ?_
            rotate_left
            · intro w'
              try simp only [List.getElem_toArray, List.getElem_cons_succ, List.getElem_cons_zero]
              go_simp
              with_reducible rfl
            rotate_left
            · simp only [Act.put, List.setIfInBounds_toArray, List.set_cons_zero, List.set_cons_succ, i64_w, i32_w]
              rfl
            refine pure_ (i := 2) (N := some 71) (v := ?_) (a' := ?_) #[true, true, true, false, false, false, false, false, false, false, false, false, false, false, false, false, false, false, false, false] rfl rfl (by kernel_rfl) (fun _ _ _ h => h) (Or.inl ⟨by rfl, ?_⟩) ?_ ?_
            rotate_left
            · intro w'
              try simp only [List.getElem_toArray, List.getElem_cons_succ, List.getElem_cons_zero]
              go_simp
              with_reducible rfl
            rotate_left
            · simp only [Act.put, List.setIfInBounds_toArray, List.set_cons_zero, List.set_cons_succ, i64_w, i32_w]
              rfl
            refine pure_ (i := 3) (N := some 72) (v := ?_) (a' := ?_) #[true, true, true, true, false, false, false, false, false, false, false, false, false, false, false, false, false, false, false, false] rfl rfl (by kernel_rfl) (fun _ _ _ h => h) (Or.inl ⟨by rfl, ?_⟩) ?_ ?_
            rotate_left
            · intro w'
              try simp only [List.getElem_toArray, List.getElem_cons_succ, List.getElem_cons_zero]
              go_simp
              with_reducible rfl
            rotate_left
            · simp only [Act.put, List.setIfInBounds_toArray, List.set_cons_zero, List.set_cons_succ, i64_w, i32_w]
              rfl
            refine pure_ (i := 4) (N := some 73) (v := ?_) (a' := ?_) #[true, true, true, true, true, false, false, false, false, false, false, false, false, false, false, false, false, false, false, false] rfl rfl (by kernel_rfl) (fun _ _ _ h => h) (Or.inl ⟨by rfl, ?_⟩) ?_ ?_
            rotate_left
            · intro w'
              try simp only [List.getElem_toArray, List.getElem_cons_succ, List.getElem_cons_zero]
              go_simp
              with_reducible rfl
            rotate_left
            · simp only [Act.put, List.setIfInBounds_toArray, List.set_cons_zero, List.set_cons_succ, i64_w, i32_w]
              rfl
            refine pure_ (i := 5) (N := some 74) (v := ?_) (a' := ?_) #[true, true, true, true, true, true, false, false, false, false, false, false, false, false, false, false, false, false, false, false] rfl rfl (by kernel_rfl) (fun _ _ _ h => h) (Or.inl ⟨by rfl, ?_⟩) ?_ ?_
            rotate_left
            · intro w'
              try simp only [List.getElem_toArray, List.getElem_cons_succ, List.getElem_cons_zero]
              go_simp
              with_reducible rfl
            rotate_left
            · simp only [Act.put, List.setIfInBounds_toArray, List.set_cons_zero, List.set_cons_succ, i64_w, i32_w]
              rfl
            refine pure_ (i := 6) (N := some 75) (v := ?_) (a' := ?_) #[true, true, true, true, true, true, true, false, false, false, false, false, false, false, false, false, false, false, false, false] rfl rfl (by kernel_rfl) (fun _ _ _ h => h) (Or.inl ⟨by rfl, ?_⟩) ?_ ?_
            rotate_left
            · intro w'
              try simp only [List.getElem_toArray, List.getElem_cons_succ, List.getElem_cons_zero]
              go_simp
              with_reducible rfl
            rotate_left
            · simp only [Act.put, List.setIfInBounds_toArray, List.set_cons_zero, List.set_cons_succ, i64_w, i32_w]
              rfl
            refine pure_ (i := 7) (N := some 76) (v := ?_) (a' := ?_) #[true, true, true, true, true, true, true, true, false, false, false, false, false, false, false, false, false, false, false, false] rfl rfl (by kernel_rfl) (fun _ _ _ h => h) (Or.inl ⟨by rfl, ?_⟩) ?_ ?_
            rotate_left
            · intro w'
              try simp only [List.getElem_toArray, List.getElem_cons_succ, List.getElem_cons_zero]
              go_simp
              with_reducible rfl
            rotate_left
            · simp only [Act.put, List.setIfInBounds_toArray, List.set_cons_zero, List.set_cons_succ, i64_w, i32_w]
              rfl
            refine pure_ (i := 9) (N := some 78) (v := ?_) (a' := ?_) #[true, true, true, true, true, true, true, true, false, true, false, false, false, false, false, false, false, false, false, false] rfl rfl (by kernel_rfl) (fun _ _ _ h => h) (Or.inl ⟨by rfl, ?_⟩) ?_ ?_
            rotate_left
            · intro w'
              try simp only [List.getElem_toArray, List.getElem_cons_succ, List.getElem_cons_zero]
              go_simp
              with_reducible rfl
            rotate_left
            · simp only [Act.put, List.setIfInBounds_toArray, List.set_cons_zero, List.set_cons_succ, i64_w, i32_w]
              rfl
            refine take_ (i := 8) (N := some 77) (v := ?_) (a' := ?_) #[true, true, true, true, true, true, true, true, true, true, false, false, false, false, false, false, false, false, false, false] rfl rfl (by kernel_rfl) (fun _ _ _ h => h) (Or.inl ⟨by rfl, ?_⟩) hHeld ?_ ?_
            rotate_left
            · intro w' s0
              try simp only [List.getElem_toArray, List.getElem_cons_succ, List.getElem_cons_zero]
              go_simp
              with_reducible rfl
            rotate_left
            · simp only [Act.put, List.setIfInBounds_toArray, List.set_cons_zero, List.set_cons_succ, i64_w, i32_w]
              rfl
            refine one_ (i := 10) (N := some 79) #[true, true, true, true, true, true, true, true, true, true, true, false, false, false, false, false, false, false, false, false] rfl rfl (by kernel_rfl) (by decide) (fun K hK => ?_)
            refine goes_ Try.func20 (by kernel_rfl) rfl #[.slice vo data.length vc] (by rfl) rfl rfl (by simp only [List.map_toArray, List.map_cons, List.map_nil]; rfl) ?_
            with_reducible refine (whole_any _ data _ (HV12.out.fr (F := fun _ => False) (Fr.refl _ w12).drew (fun _ _ h => h)) h64).mono ?_
            rintro e w13 ⟨nb, rfl, hnb, row13, f13⟩
            refine ⟨_, rfl, ?_⟩
            have HC13 := Lib.hid ((HC12.out.fr (F := fun _ => False) (Fr.refl _ w12).drew (fun _ _ h => h)).fr f13 (fun _ _ h => h))
            have k8 := cv309 w13 _ _ ((HC1.out.fr (F := fun _ => False) (Fr.refl _ w12).drew (fun _ _ h => h)).fr f13 (fun _ _ h => h))
            have k9 := cv309 w13 _ _ (IsBytes.of_cells row13 (by rw [pad64_length data h64]; decide))
            refine hK.out _ _ (k8) (fun hHeld => ?_)
            clear hK K
            refine norm_ (a' := ?_) ?_ ?_
            rotate_left
            · show Act.put _ (some 79) _ = _
              simp only [Act.put, List.setIfInBounds_toArray, List.set_cons_zero, List.set_cons_succ, i64_w, i32_w]
              rfl
            refine one_ (i := 11) (N := some 80) #[true, true, true, true, true, true, true, true, true, true, true, true, false, false, false, false, false, false, false, false] rfl rfl (by kernel_rfl) (by decide) (fun K hK => ?_)
            refine value_ (w1 := ?_) (v := ?_) (by rfl) rfl ?_ ?_
            rotate_left 2
            · try simp only [List.getElem_toArray, List.getElem_cons_succ, List.getElem_cons_zero]
              go_simp
              constructor
              · rfl
              · rfl
            refine hK.out _ _ (k8) (fun hHeld => ?_)
            clear hK K
            refine norm_ (a' := ?_) ?_ ?_
            rotate_left
            · show Act.put _ (some 80) _ = _
              simp only [Act.put, List.setIfInBounds_toArray, List.set_cons_zero, List.set_cons_succ, i64_w, i32_w]
              rfl
            refine pure_ (i := 12) (N := some 81) (v := ?_) (a' := ?_) #[true, true, true, true, true, true, true, true, true, true, true, true, true, false, false, false, false, false, false, false] rfl rfl (by kernel_rfl) (fun _ _ _ h => h) (Or.inl ⟨by rfl, ?_⟩) ?_ ?_
            rotate_left
            · intro w'
              try simp only [List.getElem_toArray, List.getElem_cons_succ, List.getElem_cons_zero]
              go_simp
              with_reducible rfl
            rotate_left
            · simp only [Act.put, List.setIfInBounds_toArray, List.set_cons_zero, List.set_cons_succ, i64_w, i32_w]
              rfl
            refine pure_ (i := 13) (N := some 82) (v := ?_) (a' := ?_) #[true, true, true, true, true, true, true, true, true, true, true, true, true, true, false, false, false, false, false, false] rfl rfl (by kernel_rfl) (fun _ _ _ h => h) (Or.inl ⟨by rfl, ?_⟩) ?_ ?_
            rotate_left
            · intro w'
              try simp only [List.getElem_toArray, List.getElem_cons_succ, List.getElem_cons_zero]
              go_simp
              with_reducible rfl
            rotate_left
            · simp only [Act.put, List.setIfInBounds_toArray, List.set_cons_zero, List.set_cons_succ, i64_w, i32_w]
              rfl
            refine pure_ (i := 14) (N := some 83) (v := ?_) (a' := ?_) #[true, true, true, true, true, true, true, true, true, true, true, true, true, true, true, false, false, false, false, false] rfl rfl (by kernel_rfl) (fun _ _ _ h => h) (Or.inl ⟨by rfl, ?_⟩) ?_ ?_
            rotate_left
            · intro w'
              try simp only [List.getElem_toArray, List.getElem_cons_succ, List.getElem_cons_zero]
              go_simp
              with_reducible rfl
            rotate_left
            · simp only [Act.put, List.setIfInBounds_toArray, List.set_cons_zero, List.set_cons_succ, i64_w, i32_w]
              rfl
            refine pure_ (i := 15) (N := some 84) (v := ?_) (a' := ?_) #[true, true, true, true, true, true, true, true, true, true, true, true, true, true, true, true, false, false, false, false] rfl rfl (by kernel_rfl) (fun _ _ _ h => h) (Or.inl ⟨by rfl, ?_⟩) ?_ ?_
            rotate_left
            · intro w'
              try simp only [List.getElem_toArray, List.getElem_cons_succ, List.getElem_cons_zero]
              go_simp
              with_reducible rfl
            rotate_left
            · simp only [Act.put, List.setIfInBounds_toArray, List.set_cons_zero, List.set_cons_succ, i64_w, i32_w]
              rfl
            refine one_ (i := 16) (N := some 85) #[true, true, true, true, true, true, true, true, true, true, true, true, true, true, true, true, true, false, false, false] rfl rfl (by kernel_rfl) (by decide) (fun K hK => ?_)
            refine goes_ Try.func22 (by kernel_rfl) rfl #[.pointer (some ⟨b', 0, none⟩)] (by rfl) rfl rfl (by simp only [List.map_toArray, List.map_cons, List.map_nil]; rfl) ?_
            with_reducible refine (waits_any b' lb' cl' sp' _ _ w13 HC13.out).mono ?_
            rintro e w14 ⟨rfl, rfl⟩
            refine ⟨_, rfl, ?_⟩
            refine hK.out _ _ (k8) (fun hHeld => ?_)
            clear hK K
            refine norm_ (a' := ?_) ?_ ?_
            rotate_left
            · show Act.put _ (some 85) _ = _
              simp only [Act.put, List.setIfInBounds_toArray, List.set_cons_zero, List.set_cons_succ, i64_w, i32_w]
              rfl
            refine pure_ (i := 17) (N := some 86) (v := ?_) (a' := ?_) #[true, true, true, true, true, true, true, true, true, true, true, true, true, true, true, true, true, true, false, false] rfl rfl (by kernel_rfl) (fun _ _ _ h => h) (Or.inl ⟨by rfl, ?_⟩) ?_ ?_
            rotate_left
            · intro w'
              try simp only [List.getElem_toArray, List.getElem_cons_succ, List.getElem_cons_zero]
              go_simp
              with_reducible rfl
            rotate_left
            · simp only [Act.put, List.setIfInBounds_toArray, List.set_cons_zero, List.set_cons_succ, i64_w, i32_w]
              rfl
            refine pure_ (i := 18) (N := some 87) (v := ?_) (a' := ?_) #[true, true, true, true, true, true, true, true, true, true, true, true, true, true, true, true, true, true, true, false] rfl rfl (by kernel_rfl) (fun _ _ _ h => h) (Or.inl ⟨by rfl, ?_⟩) ?_ ?_
            rotate_left
            · intro w'
              try simp only [List.getElem_toArray, List.getElem_cons_succ, List.getElem_cons_zero]
              go_simp
              with_reducible rfl
            rotate_left
            · simp only [Act.put, List.setIfInBounds_toArray, List.set_cons_zero, List.set_cons_succ, i64_w, i32_w]
              rfl
            refine pure_ (i := 19) (N := some 2) (v := ?_) (a' := ?_) #[true, true, true, true, true, true, true, true, true, true, true, true, true, true, true, true, true, true, true, true] rfl rfl (by kernel_rfl) (fun _ _ _ h => h) (Or.inl ⟨by rfl, ?_⟩) ?_ ?_
            rotate_left
            · intro w'
              try simp only [List.getElem_toArray, List.getElem_cons_succ, List.getElem_cons_zero]
              go_simp
              with_reducible rfl
            rotate_left
            · simp only [Act.put, List.setIfInBounds_toArray, List.set_cons_zero, List.set_cons_succ, i64_w, i32_w]
              rfl
            refine done_ (by kernel_rfl) ?_

            go_wp2
            go_ret
            exact ⟨rfl, (HO12.out.fr.drew).trans f13 (fun _ h => h.elim)⟩
  · have hle : decide ((64 : Int) < (data.length : Int)) = true := by simp; omega
    go_wp2_with fail
    refine (awake3 _).mono ?_
    rintro e w3 ⟨rfl, fr3⟩
    go_wp2
    go_ret
    exact ⟨rfl, (HO2.out.still fr3).fr⟩
end Go.Proofs.Ytnpeeephkkmomaa
