/-
  The law DiskPlays.
-/
import Derived.Test.YtnpeeephkkmomaaPair2
namespace Go.Proofs.Ytnpeeephkkmomaa
open Go.RowKit Go.Maps Go.Proofs.YtnpeeephkkmomaaW.PrintLast
set_option linter.unusedVariables false
set_option linter.unusedSimpArgs false
attribute [local go_sem] bne_self_eq_false

set_option maxRecDepth 100000 in
set_option maxHeartbeats 4000000 in
theorem plays_walk (n : Int) (hn : -9223372036854775808 ≤ n ∧ n ≤ 9223372036854775807) (ao : Option Addr) (len cap : Nat) (K I N : Nat → Int) (V : Nat → Value) (L : Nat → List UInt8) (w : World)
    (ho : IsOps w ao len K I N V L) (hlen : len ≤ 2932031007401) :
    Calls Try.prog 6 #[.int .i64 n, .slice ao len cap] w fun e w' => e = .returned (.bool true) ∧ Fr (fun _ => False) w w' := by
  have HO := Lib.hid ho; clear ho
  go_enter Try.func6, Try.ntmps6
  go_wp2_with fail
  refine (new_any n _ hn).mono ?_
  rintro e w1 ⟨b, lb, cl, sp, rfl, D1, fr1, hb, hlb⟩
  have HD1 := Lib.hid D1; have HF1 := Lib.hid fr1; have HB := Lib.hid hb; have HLB := Lib.hid hlb
  clear D1 fr1 hb hlb
  go_wp2_with fail
  refine (rnew_any n _).mono ?_
  rintro e w2 ⟨rb, mb, rfl, R2, fr2, hrb, hmb⟩
  have p2 : PS w w2 b rb 0 (newDk n) (newDk n) 0 none := by
    have l1 := HD1.out.lt
    have hs := HF1.out.size
    have h1 := HB.out; have h2 := HLB.out
    refine ⟨lb, cl, sp, _, mb, _, _, 0, _, HD1.out.fr fr2 (fun _ _ h => h), R2, ?_, ⟨HF1.out.trans fr2 (fun _ h => h.elim), ?_⟩, Nat.le_refl _, by simp [newDk], fun x h => by cases h⟩
    · intro j hj hr
      have := l1 j hj
      rcases hr with h | h | h | ⟨x, hx, _⟩
      · omega
      · omega
      · cases h
      · cases hx
    · intro j hj
      rcases hj with (h | h | h) | (h | h | h | ⟨x, hx, _⟩)
      · omega
      · omega
      · cases h
      · omega
      · omega
      · cases h
      · cases hx
  have HP2 := Lib.hid p2
  clear p2 R2 fr2 hrb hmb HD1 HF1 HB HLB
  go_wp2_with fail
  refine (awake3 _).mono ?_
  rintro e w3 ⟨rfl, fr3⟩
  have HP3 := Lib.hid (HP2.out.still fr3)
  clear fr3 HP2
  go_wp2
  go_loopw [5, 7] (fun d i wr => ∃ (k b : Nat) (D : Dk), k ≤ len ∧ i = .int .i64 k ∧ d = .pointer (some ⟨b, 0, none⟩) ∧ PS w wr b rb k D D 0 none) (fun _ i _ => len - (intOf i).toNat)
  case atStart => exact ⟨0, b, _, Nat.zero_le _, rfl, rfl, HP3.out⟩
  case round =>
    clear HP3
    obtain ⟨k, b, D, hk, rfl, rfl, hp⟩ := hrel
    rename_i wr
    have HQ := Lib.hid hp; clear hp
    by_cases hlt : k < len
    · obtain ⟨ab, off, rfl, hc⟩ := HO.out.at_ (by omega)
      obtain ⟨hK, hI, hN⟩ := HO.out.ints k hlt
      have hB := HO.out.bytes k hlt
      obtain ⟨vo', vc', hvv', _⟩ := hB.is
      obtain ⟨q0, q1, q2, q3⟩ := hc k hlt
      have hown : ∀ {a : Addr} {u : Value}, w.cell? a = some u → wr.cell? a = some u := fun h => HQ.out.own.cell h
      have c0 : cellIn wr.heap[ab]? (off + k * 4) = some (.int .i64 (K k)) := by rw [← cell?_mk]; exact hown q0
      have c1 : cellIn wr.heap[ab]? (off + k * 4 + 1) = some (.int .i64 (I k)) := by rw [← cell?_mk]; exact hown q1
      have c2 : cellIn wr.heap[ab]? (off + k * 4 + 2) = some (.int .i64 (N k)) := by rw [← cell?_mk]; exact hown q2
      have c3 : cellIn wr.heap[ab]? (off + k * 4 + 3) = some (V k) := by rw [← cell?_mk]; exact hown q3
      have HBW := Lib.hid hB
      rw [hvv'] at c3
      have hw1 : IntKind.i64.wrap ((k : Int) + 1) = (k : Int) + 1 := IntWalk.i64_in _ (by omega)
      clear hc q0 q1 q2 q3 hown hK
      have HI := Lib.hid hI; have HN := Lib.hid hN; clear hI hN hB
      have HBV : Hid (IsBytes w (.slice vo' (L k).length vc') (L k)) := Lib.hid (hvv' ▸ HBW.out)
      clear hvv'
      generalize I k = ik at *
      generalize N k = nk at *
      have HP := Lib.hid (HQ.out.newRec (.cells #[.int .i64 (K k), .int .i64 ik, .int .i64 nk, .slice vo' (L k).length vc'] 35 (0, 0)))
      have hrec := HP.out.rec
      by_cases h1 : K k = 1
      · have t1 : (K k == 1) = true := by simp [h1]
        have H1 := Lib.hid h1; clear h1
        go_wp2
        generalize wr.alloc (.cells #[.int .i64 (K k), .int .i64 ik, .int .i64 nk, .slice vo' (L k).length vc'] 35 (0, 0)) = wa at *
        generalize wr.heap.size = nb at *
        have HP1 := Lib.hid (HP.out.still (Fr.refl (fun _ => False) wa).drew)
        refine start_ (n := 13) (S := fun w' => w'.heap[nb]? = some (.cells #[.int .i64 (K k), .int .i64 ik, .int .i64 nk, .slice vo' (L k).length vc'] 35 (0, 0))) (ds := []) #[false, false, false, false, false, false, false, false, false, false, false, false, false] (by kernel_rfl) rfl rfl (hrec) (fun hHeld => ?_)
        refine pure_ (i := 0) (N := some 38) (v := ?_) (a' := ?_) #[true, false, false, false, false, false, false, false, false, false, false, false, false] rfl rfl (by kernel_rfl) (fun _ _ _ h => h) (Or.inl ⟨by rfl, ?_⟩) ?_ ?_
        rotate_left
        · intro w'
          try simp only [List.getElem_toArray, List.getElem_cons_succ, List.getElem_cons_zero]
          go_simp
          with_reducible rfl
        rotate_left
        · simp only [Act.put, List.setIfInBounds_toArray, List.set_cons_zero, List.set_cons_succ, i64_w, i32_w]
          rfl
        refine pure_ (i := 1) (N := some 39) (v := ?_) (a' := ?_) #[true, true, false, false, false, false, false, false, false, false, false, false, false] rfl rfl (by kernel_rfl) (fun _ _ _ h => h) (Or.inl ⟨by rfl, ?_⟩) ?_ ?_
        rotate_left
        · intro w'
          try simp only [List.getElem_toArray, List.getElem_cons_succ, List.getElem_cons_zero]
          go_simp
          with_reducible rfl
        rotate_left
        · simp only [Act.put, List.setIfInBounds_toArray, List.set_cons_zero, List.set_cons_succ, i64_w, i32_w]
          rfl
        refine pure_ (i := 3) (N := some 41) (v := ?_) (a' := ?_) #[true, true, false, true, false, false, false, false, false, false, false, false, false] rfl rfl (by kernel_rfl) (fun _ _ _ h => h) (Or.inl ⟨by rfl, ?_⟩) ?_ ?_
        rotate_left
        · intro w'
          try simp only [List.getElem_toArray, List.getElem_cons_succ, List.getElem_cons_zero]
          go_simp
          with_reducible rfl
        rotate_left
        · simp only [Act.put, List.setIfInBounds_toArray, List.set_cons_zero, List.set_cons_succ, i64_w, i32_w]
          rfl
        refine pure_ (i := 6) (N := some 44) (v := ?_) (a' := ?_) #[true, true, false, true, false, false, true, false, false, false, false, false, false] rfl rfl (by kernel_rfl) (fun _ _ _ h => h) (Or.inl ⟨by rfl, ?_⟩) ?_ ?_
        rotate_left
        · intro w'
          try simp only [List.getElem_toArray, List.getElem_cons_succ, List.getElem_cons_zero]
          go_simp
          with_reducible rfl
        rotate_left
        · simp only [Act.put, List.setIfInBounds_toArray, List.set_cons_zero, List.set_cons_succ, i64_w, i32_w]
          rfl
        refine pure_ (i := 7) (N := some 45) (v := ?_) (a' := ?_) #[true, true, false, true, false, false, true, true, false, false, false, false, false] rfl rfl (by kernel_rfl) (fun _ _ _ h => h) (Or.inl ⟨by rfl, ?_⟩) ?_ ?_
        rotate_left
        · intro w'
          try simp only [List.getElem_toArray, List.getElem_cons_succ, List.getElem_cons_zero]
          go_simp
          with_reducible rfl
        rotate_left
        · simp only [Act.put, List.setIfInBounds_toArray, List.set_cons_zero, List.set_cons_succ, i64_w, i32_w]
          rfl
        refine pure_ (i := 9) (N := some 47) (v := ?_) (a' := ?_) #[true, true, false, true, false, false, true, true, false, true, false, false, false] rfl rfl (by kernel_rfl) (fun _ _ _ h => h) (Or.inl ⟨by rfl, ?_⟩) ?_ ?_
        rotate_left
        · intro w'
          try simp only [List.getElem_toArray, List.getElem_cons_succ, List.getElem_cons_zero]
          go_simp
          with_reducible rfl
        rotate_left
        · simp only [Act.put, List.setIfInBounds_toArray, List.set_cons_zero, List.set_cons_succ, i64_w, i32_w]
          rfl
        refine take_ (i := 2) (N := some 40) (v := ?_) (a' := ?_) #[true, true, true, true, false, false, true, true, false, true, false, false, false] rfl rfl (by kernel_rfl) (fun _ _ _ h => h) (Or.inl ⟨by rfl, ?_⟩) hHeld ?_ ?_
        rotate_left
        · intro w' s0
          try simp only [List.getElem_toArray, List.getElem_cons_succ, List.getElem_cons_zero]
          go_simp
          with_reducible rfl
        rotate_left
        · simp only [Act.put, List.setIfInBounds_toArray, List.set_cons_zero, List.set_cons_succ, i64_w, i32_w]
          rfl
        refine take_ (i := 4) (N := some 42) (v := ?_) (a' := ?_) #[true, true, true, true, true, false, true, true, false, true, false, false, false] rfl rfl (by kernel_rfl) (fun _ _ _ h => h) (Or.inl ⟨by rfl, ?_⟩) hHeld ?_ ?_
        rotate_left
        · intro w' s0
          try simp only [List.getElem_toArray, List.getElem_cons_succ, List.getElem_cons_zero]
          go_simp
          with_reducible rfl
        rotate_left
        · simp only [Act.put, List.setIfInBounds_toArray, List.set_cons_zero, List.set_cons_succ, i64_w, i32_w]
          rfl
        refine take_ (i := 8) (N := some 46) (v := ?_) (a' := ?_) #[true, true, true, true, true, false, true, true, true, true, false, false, false] rfl rfl (by kernel_rfl) (fun _ _ _ h => h) (Or.inl ⟨by rfl, ?_⟩) hHeld ?_ ?_
        rotate_left
        · intro w' s0
          try simp only [List.getElem_toArray, List.getElem_cons_succ, List.getElem_cons_zero]
          go_simp
          with_reducible rfl
        rotate_left
        · simp only [Act.put, List.setIfInBounds_toArray, List.set_cons_zero, List.set_cons_succ, i64_w, i32_w]
          rfl
        refine take_ (i := 10) (N := some 48) (v := ?_) (a' := ?_) #[true, true, true, true, true, false, true, true, true, true, true, false, false] rfl rfl (by kernel_rfl) (fun _ _ _ h => h) (Or.inl ⟨by rfl, ?_⟩) hHeld ?_ ?_
        rotate_left
        · intro w' s0
          try simp only [List.getElem_toArray, List.getElem_cons_succ, List.getElem_cons_zero]
          go_simp
          with_reducible rfl
        rotate_left
        · simp only [Act.put, List.setIfInBounds_toArray, List.set_cons_zero, List.set_cons_succ, i64_w, i32_w]
          rfl
        refine one_ (i := 5) (N := some 43) #[true, true, true, true, true, true, true, true, true, true, true, false, false] rfl rfl (by kernel_rfl) (by decide) (fun K hK => ?_)
        refine goes_ Try.func16 (by kernel_rfl) rfl #[.pointer (some ⟨b, 0, none⟩), .int .i64 ik, .slice vo' (L k).length vc'] (by rfl) rfl rfl (by simp only [List.map_toArray, List.map_cons, List.map_nil]; rfl) ?_
        with_reducible refine (PS.dwrite HP1.out (by omega) ik _ (L k) (HBV.out.old HP1.out.own (fun _ _ h => h))).mono ?_
        rintro e w5 ⟨rfl, p5⟩
        refine ⟨_, rfl, ?_⟩
        have HP5 := Lib.hid p5
        have rec5 := p5.rec
        clear p5
        refine hK.out _ _ (rec5) (fun hHeld => ?_)
        clear hK K
        refine norm_ (a' := ?_) ?_ ?_
        rotate_left
        · show Act.put _ (some 43) _ = _
          simp only [Act.put, List.setIfInBounds_toArray, List.set_cons_zero, List.set_cons_succ, i64_w, i32_w]
          rfl
        refine one_ (i := 11) (N := some 49) #[true, true, true, true, true, true, true, true, true, true, true, true, false] rfl rfl (by kernel_rfl) (by decide) (fun K hK => ?_)
        refine goes_ Try.func24 (by kernel_rfl) rfl #[.pointer (some ⟨rb, 0, none⟩), .int .i64 ik, .slice vo' (L k).length vc'] (by rfl) rfl rfl (by simp only [List.map_toArray, List.map_cons, List.map_nil]; rfl) ?_
        with_reducible refine (PS.rwrite HP5.out (by omega) ik _ (L k) (HBV.out.old HP5.out.own (fun _ _ h => h))).mono ?_
        rintro e w6 ⟨rfl, p6⟩
        refine ⟨_, rfl, ?_⟩
        have HP6 := Lib.hid p6
        have rec6 := p6.rec
        clear p6
        refine hK.out _ _ (rec6) (fun hHeld => ?_)
        clear hK K
        refine norm_ (a' := ?_) ?_ ?_
        rotate_left
        · show Act.put _ (some 49) _ = _
          simp only [Act.put, List.setIfInBounds_toArray, List.set_cons_zero, List.set_cons_succ, i64_w, i32_w]
          rfl
        refine pure_ (i := 12) (N := some 50) (v := ?_) (a' := ?_) #[true, true, true, true, true, true, true, true, true, true, true, true, true] rfl rfl (by kernel_rfl) (fun _ _ _ h => h) (Or.inl ⟨by rfl, ?_⟩) ?_ ?_
        rotate_left
        · intro w'
          try simp only [List.getElem_toArray, List.getElem_cons_succ, List.getElem_cons_zero]
          go_simp
          with_reducible rfl
        rotate_left
        · simp only [Act.put, List.setIfInBounds_toArray, List.set_cons_zero, List.set_cons_succ, i64_w, i32_w]
          rfl
        refine done_ (by kernel_rfl) ?_

        clear HP hrec HP1 rec5 HP5
        have hrec := rec6; have HP := HP6
        clear rec6 HP6
        go_wp2_with (first
          | (go_at_call 19; refine (HP.out.dread ik).mono ?_; rintro e w7 ⟨v7, rfl, b7, f7⟩; have hrec7 := f7.at hrec (fun h => h); have HP7 := Lib.hid (HP.out.still f7); clear hrec HP; have hrec := hrec7; have HP := HP7; have HB7 := Lib.hid b7; clear b7 hrec7 HP7)
          | (go_at_call 28; refine (HP.out.rread (by omega) ik).mono ?_; rintro e w8 ⟨v8, rfl, b8, f8⟩; have HP8 := Lib.hid (HP.out.still f8); clear HP; have HP := HP8; have k1 := cv309 w8 v7 _ (HB7.out.fr f8 (fun _ _ h => h)); have k2 := cv309 w8 v8 _ b8; clear HP8)
          | (go_at_call 29; refine (HP.out.same (by omega)).mono ?_; rintro e w9 ⟨rfl, f9⟩; have HP9 := Lib.hid (HP.out.still f9); clear HP; have HP := HP9; clear HP9))
        refine ⟨⟨k + 1, b, _, by omega, by go_num, rfl, HP.out.forget⟩, ?_⟩
        simp [intOf]; omega
      · have t1 : (K k == 1) = false := by simp [h1]
        have H1 := Lib.hid h1; clear h1
        by_cases h6 : K k = 6
        · have t6 : (K k == 6) = true := by simp [h6]
          have t2 : (K k == 2) = false := by simp [h6]
          have t3 : (K k == 3) = false := by simp [h6]
          have t4 : (K k == 4) = false := by simp [h6]
          have H6 := Lib.hid h6; clear h6
          go_wp2_with (first
          | (go_at_call 21; refine (PS.clone HP.out (by omega)).mono ?_; rintro e w5 ⟨b', rfl, j5⟩; have rec5 := j5.ps.rec; have HJ := Lib.hid j5; clear HP hrec j5; have hrec := rec5; clear rec5; have kc1 := Lib.run_convert_bytes_const (P := Try.prog) w5 30 5 #[.int .u8 103, .int .u8 111, .int .u8 110, .int .u8 101] 4 4 Try.underlying30 Try.underlying5)
          | (go_at_call 16; refine (PSJ.write (HJ.out.still ((Fr.refl (fun _ => False) _).alloc _)) (by omega) 0 _ [103, 111, 110, 101] (IsBytes.of_cells (l := [103, 111, 110, 101]) (heap_alloc_at _ _) (by decide))).mono ?_; rintro e w6 ⟨rfl, j6⟩; clear HJ hrec kc1; have HJ := Lib.hid j6; have hrec := j6.ps.rec; clear j6)
          | (go_at_call 15; refine (PSJ.flush HJ.out).mono ?_; rintro e w6 ⟨rfl, j6⟩; have HP := Lib.hid j6.ps; clear HJ hrec; have hrec := HP.out.rec; clear j6)
          | (go_at_call 19; refine (HP.out.dread ik).mono ?_; rintro e w7 ⟨v7, rfl, b7, f7⟩; have hrec7 := f7.at hrec (fun h => h); have HP7 := Lib.hid (HP.out.still f7); clear hrec HP; have hrec := hrec7; have HP := HP7; have HB7 := Lib.hid b7; clear b7 hrec7 HP7)
          | (go_at_call 28; refine (HP.out.rread (by omega) ik).mono ?_; rintro e w8 ⟨v8, rfl, b8, f8⟩; have HP8 := Lib.hid (HP.out.still f8); clear HP; have HP := HP8; have k1 := cv309 w8 v7 _ (HB7.out.fr f8 (fun _ _ h => h)); have k2 := cv309 w8 v8 _ b8; clear HP8)
          | (go_at_call 29; refine (HP.out.same (by omega)).mono ?_; rintro e w9 ⟨rfl, f9⟩; have HP9 := Lib.hid (HP.out.still f9); clear HP; have HP := HP9; clear HP9))
          refine ⟨⟨k + 1, b', _, by omega, by go_num, rfl, (HP.out.le (Nat.le_succ k)).forget⟩, ?_⟩
          simp [intOf]; omega
        · have t6 : (K k == 6) = false := by simp [h6]
          have H6 := Lib.hid h6; clear h6
          go_wp2_with (first
          | (go_at_call 19; refine (HP.out.dread ik).mono ?_; rintro e w7 ⟨v7, rfl, b7, f7⟩; have hrec7 := f7.at hrec (fun h => h); have HP7 := Lib.hid (HP.out.still f7); clear hrec HP; have hrec := hrec7; have HP := HP7; have HB7 := Lib.hid b7; clear b7 hrec7 HP7)
          | (go_at_call 28; refine (HP.out.rread (by omega) ik).mono ?_; rintro e w8 ⟨v8, rfl, b8, f8⟩; have HP8 := Lib.hid (HP.out.still f8); clear HP; have HP := HP8; have k1 := cv309 w8 v7 _ (HB7.out.fr f8 (fun _ _ h => h)); have k2 := cv309 w8 v8 _ b8; clear HP8)
          | (go_at_call 29; refine (HP.out.same (by omega)).mono ?_; rintro e w9 ⟨rfl, f9⟩; have HP9 := Lib.hid (HP.out.still f9); clear HP; have HP := HP9; clear HP9)
          | (go_at_call 15; refine (PS.dflush HP.out).mono ?_; rintro e w5 ⟨rfl, p5⟩; have rec5 := p5.rec; have HP5 := Lib.hid p5; clear HP hrec p5; have HP := HP5; have hrec := rec5; clear HP5 rec5)
          | (go_at_call 25; refine (PS.rflush HP.out (by omega)).mono ?_; rintro e w5 ⟨rfl, p5⟩; have rec5 := p5.rec; have HP5 := Lib.hid p5; clear HP hrec p5; have HP := HP5; have hrec := rec5; clear HP5 rec5)
          | (go_at_call 14; refine (PS.darm HP.out nk HN.out).mono ?_; rintro e w5 ⟨rfl, p5⟩; have rec5 := p5.rec; have HP5 := Lib.hid p5; clear HP hrec p5; have HP := HP5; have hrec := rec5; clear HP5 rec5)
          | (go_at_call 26; refine (PS.rarm HP.out nk HN.out).mono ?_; rintro e w5 ⟨rfl, p5⟩; have rec5 := p5.rec; have HP5 := Lib.hid p5; clear HP hrec p5; have HP := HP5; have hrec := rec5; clear HP5 rec5)
          | (go_at_call 18; refine (PS.dcrash HP.out ik nk).mono ?_; rintro e w5 ⟨rfl, p5⟩; have rec5 := p5.rec; have HP5 := Lib.hid p5; clear HP hrec p5; have HP := HP5; have hrec := rec5; clear HP5 rec5)
          | (go_at_call 27; refine (PS.rcrash HP.out (by omega) ik nk HN.out).mono ?_; rintro e w5 ⟨rfl, p5⟩; have rec5 := p5.rec; have HP5 := Lib.hid p5; clear HP hrec p5; have HP := HP5; have hrec := rec5; clear HP5 rec5))
          all_goals
            refine ⟨⟨k + 1, b, _, by omega, by go_num, rfl, (HP.out.le (Nat.le_succ k)).forget⟩, ?_⟩
            simp [intOf]; omega
    · obtain rfl : k = len := by omega
      go_wp2
      go_ret
      exact ⟨rfl, HQ.out.own⟩
end Go.Proofs.Ytnpeeephkkmomaa
