/-
  The document's disk: Crash.
-/
import Derived.Test.YtnpeeephkkmomaaRef3e
namespace Go.Proofs.Ytnpeeephkkmomaa
open Go.RowKit Go.Maps Go.Proofs.YtnpeeephkkmomaaW.PrintLast
set_option linter.unusedVariables false
set_option linter.unusedSimpArgs false

/-- What the inner loop of Crash holds: the old bytes, of which k are new ones. -/
def OldAt (w : World) (sb : Nat) (l : List UInt8) (wr : World) : Prop := wr.heap[sb]? = some (.cells (Bs l).toArray 5 (0, 0)) ∧ Fr (fun k => k = sb) w wr

/-- The document's disk while its writes are settled. -/
theorem IsRef.settledTo {w wr : World} {rb mb : Nat} {bv : Value} {gs : List (Nat × Nat)} {n m : Nat} {L : Int → List UInt8} {D : Dk} (h : IsRef w rb mb bv gs n L D) (hf : Fr (fun k => k = mb) w wr) (k : Nat) (him : IM wr mb m (lay L (D.buf.take k))) :
    IsRef wr rb mb bv gs m (lay L (D.buf.take k)) { D with secs := settled D.secs (D.buf.take k) } := by
  have hb : ∀ x ∈ D.buf.take k, x.1 < D.secs.length ∧ x.2.length = 64 := fun x hx => h.ok.buf x (List.mem_of_mem_take hx)
  have ht := h.tells.lay hb
  refine ⟨?_, him, ownsRow_fr h.own hf (fun j hj => (h.bv_ne j hj).2), h.len, fun j hj hj' => ⟨(h.recs j hj hj').1, (h.recs j hj hj').2.fr hf (fun i hi => by cases hi; exact (h.gs_ne _ (List.getElem_mem hj)).2.1)⟩, ht.1, ht.2, ?_⟩
  · simp only [settled_length]; exact hf.at h.head (fun e => h.mb_ne e.symm)
  · exact ⟨by simp only [settled_length]; exact h.ok.one, by simp only [settled_length]; exact h.ok.most, settled_len _ (fun x hx => (hb x hx).2) _ h.ok.len, by simp only [settled_length]; exact h.ok.buf, h.ok.armed⟩

set_option maxRecDepth 100000 in
set_option maxHeartbeats 4000000 in
theorem rcrash_any (rb mb : Nat) (bv : Value) (gs : List (Nat × Nat)) (m : Nat) (L : Int → List UInt8) (D : Dk) (w : World) (keep torn : Int) (h : IsRef w rb mb bv gs m L D) (htorn : -9223372036854775808 ≤ torn ∧ torn ≤ 9223372036854775807) (hroom : m + D.buf.length ≤ 9223372036854775806) :
    Calls Try.prog 27 #[.pointer (some ⟨rb, 0, none⟩), .int .i64 keep, .int .i64 torn] w fun e w' => e = .returned (.tuple #[]) ∧ ∃ L', IsRef w' rb mb (.slice none 0 0) [] (m + D.buf.length) L' (D.crashed keep torn) ∧ Fr (fun k => k = rb ∨ k = mb) w w' := by
  obtain ⟨ao, cap, rfl⟩ := ownsRow_slice h.own
  have HH := Lib.hid h
  have head := h.head
  obtain ⟨tq1, tq2, tq3⟩ := tdiv_torn torn htorn
  have TQ := Lib.hid tq3; clear tq3
  -- the end
  have fin : ∀ (w4 : World) (L' : Int → List UInt8), w4.heap[rb]? = some (.cells #[.int .i64 D.secs.length, .map (some mb), .slice ao D.buf.length cap, .int .i64 D.armed, .bool D.down] 95 (0, 0)) → IM w4 mb (m + D.buf.length) L' → TellsOf L' (D.crashed keep torn).secs →
      Fr (fun k => k = mb) w w4 → (D.crashed keep torn).secs.length = D.secs.length → (∀ x ∈ (D.crashed keep torn).secs, x.length = 64) →
      IsRef (((w4.setCell ⟨rb, 2, none⟩ (.slice none 0 0)).setCell ⟨rb, 4, none⟩ (.bool false)).setCell ⟨rb, 3, none⟩ (.int .i64 (-1))) rb mb (.slice none 0 0) [] (m + D.buf.length) L' (D.crashed keep torn) ∧
        Fr (fun k => k = rb ∨ k = mb) w (((w4.setCell ⟨rb, 2, none⟩ (.slice none 0 0)).setCell ⟨rb, 4, none⟩ (.bool false)).setCell ⟨rb, 3, none⟩ (.int .i64 (-1))) := by
    intro w4 L' h4 him ht hf hl h64
    have fr4 : Fr (fun k => k = rb) w4 (((w4.setCell ⟨rb, 2, none⟩ (.slice none 0 0)).setCell ⟨rb, 4, none⟩ (.bool false)).setCell ⟨rb, 3, none⟩ (.int .i64 (-1))) := (((Fr.refl (fun k => k = rb) w4).setCell _ (.inl rfl)).setCell _ (.inl rfl)).setCell _ (.inl rfl)
    refine ⟨?_, (hf.mono (fun k _ h => Or.inr h) : Fr (fun k => k = rb ∨ k = mb) w w4).trans fr4 (fun k hk => .inl (.inl hk))⟩
    have := HH.out.emptied (a := -1) (d := false) (by rw [heap_setCell_self, heap_setCell_self, heap_setCell_self, h4]; rfl) (him.fr fr4 HH.out.mb_ne) ht hl h64 (by omega)
    exact this
  have FIN := Lib.hid fin; clear fin
  have hn : ∃ n : Nat, n ≤ D.buf.length ∧ n = (min (max keep 0) D.buf.length).toNat ∧ ∀ k : Nat, k < D.buf.length → k ≤ n → (k < n ↔ (k : Int) < keep) := by
    refine ⟨(min (max keep 0) D.buf.length).toNat, by omega, rfl, fun k h1 h2 => by omega⟩
  obtain ⟨n, hn1, hn2, hn3⟩ := hn
  have HN2 := Lib.hid hn2; have HN3 := Lib.hid hn3; clear hn2 hn3
  clear h
  go_enter Try.func27, Try.ntmps27
  go_wp2
  go_loopw [6] (fun c wr => ∃ k : Nat, k ≤ n ∧ c = .int .i64 k ∧ FlushAt w mb (m + k) (lay L (D.buf.take k)) wr) (fun c _ => n + 1 - (intOf c).toNat)
  case atStart => exact ⟨0, Nat.zero_le _, rfl, HH.out.map, Fr.refl _ _⟩
  case round =>
    obtain ⟨k, hk, rfl, him, hfr⟩ := hrel
    rename_i wr
    have HF := Lib.hid hfr; clear hfr
    have HIM := Lib.hid him; clear him
    have head2 := HF.out.at head (fun e => HH.out.mb_ne e.symm)
    clear head
    by_cases hlt : k < D.buf.length
    · have hkn := HN3.out k hlt hk
      obtain ⟨g2, cur, gk, rfl, hg2, hsz, hc0, hc1, hby, hgk⟩ := HH.out.rec_at k hlt
      have hb64 := HH.out.ok.buf _ (List.getElem_mem hlt)
      have hmost := HH.out.ok.most
      have hg3 := HF.out.at hg2 (HH.out.bv_ne g2 rfl).2
      have hby3 : IsBytes wr (.slice (some ⟨gk, 0, none⟩) 64 64) D.buf[k].2 := hby.fr HF.out (fun j hj e => by
        cases hj; obtain ⟨x, hx, hx2⟩ := hgk; exact (HH.out.gs_ne x hx).2.1 (by rw [hx2]; exact e))
      have HST : Hid (lay L (D.buf.take (k + 1)) = fun j => if j = (D.buf[k].1 : Int) then D.buf[k].2 else lay L (D.buf.take k) j) := Lib.hid (by
        rw [List.take_succ_eq_append_getElem hlt, lay_snoc])
      have HGET : Hid (D.buf[k]? = some D.buf[k]) := Lib.hid (List.getElem?_eq_getElem hlt)
      have hw1 : IntKind.i64.wrap ((k : Int) + 1) = (k : Int) + 1 := IntWalk.i64_in _ (by omega)
      generalize D.buf[k] = xx at hc0 hby3 HST hb64 HGET
      obtain ⟨at_, d⟩ := xx
      simp only at hc0 hby3 HST hb64 HGET
      have hsub : sub cur (k * 2) 2 = #[.int .i64 (at_ : Int), .slice (some ⟨gk, 0, none⟩) 64 64] := by
        apply Array.ext_getElem?
        intro j
        simp only [sub, Array.getElem?_extract]
        rcases j with _ | _ | j
        · rw [if_pos (by omega)]; exact hc0
        · rw [if_pos (by omega)]; exact hc1
        · have : ¬ (j + 2 < min (k * 2 + 2) cur.size - k * 2) := by omega
          simp [this]
      have HBY := Lib.hid hby3
      have HB64 := Lib.hid hb64
      clear hby hg2 hgk hc0 hc1 hby3 hb64
      by_cases hkk : k < n
      · have hkp : decide ((k : Int) < keep) = true := by simpa using hkn.1 hkk
        go_wp2
        have hfa := (Fr.refl (fun _ => False) wr).alloc (.cells #[.int .i64 (at_ : Int), .slice (some ⟨gk, 0, none⟩) 64 64] 97 (0, 0))
        have hn3' := heap_alloc_at wr (.cells #[.int .i64 (at_ : Int), .slice (some ⟨gk, 0, none⟩) 64 64] 97 (0, 0))
        generalize wr.alloc (.cells #[.int .i64 (at_ : Int), .slice (some ⟨gk, 0, none⟩) 64 64] 97 (0, 0)) = w1 at *
        generalize wr.heap.size = nb at *
        have head3 := hfa.at head2 (fun h => h)
        have k1 := cv309 w1.drew _ _ ((HBY.out.fr hfa (fun _ _ h => h)).fr (F := fun _ => False) (Fr.refl _ w1).drew (fun _ _ h => h))
        obtain ⟨w9, hrun, him9, fr9⟩ := ((HIM.out.fr hfa (fun h => h)).fr (F := fun _ => False) (Fr.refl _ w1).drew (fun h => h)).upd (by unfold maxLen; omega) (at_ : Int) (wf64 at_ (by have := HB64.out.1; omega)) d (by have := HB64.out.2; unfold maxLen; omega)
        have HIM9 := Lib.hid him9; have HF9 := Lib.hid fr9; have HFA := Lib.hid hfa
        clear him9 fr9 hfa head2 hg3
        refine start_ (n := 10) (S := fun w' => w'.heap[rb]? = some (.cells #[.int .i64 D.secs.length, .map (some mb), .slice (some ⟨g2, 0, none⟩) D.buf.length cap, .int .i64 D.armed, .bool D.down] 95 (0, 0)) ∧ w'.heap[nb]? = some (.cells #[.int .i64 (at_ : Int), .slice (some ⟨gk, 0, none⟩) 64 64] 97 (0, 0)) ∧ cvStr Try.prog 30 9 (.slice (some ⟨gk, 0, none⟩) 64 64) w' = .ok (.value (str d)) w') (ds := [9]) #[false, false, false, false, false, false, false, false, false, false] (by kernel_rfl) rfl rfl ⟨head3, hn3', k1⟩ (fun hHeld => ?_)
        refine pure_ (i := 0) (N := some 29) (v := ?_) (a' := ?_) #[true, false, false, false, false, false, false, false, false, false] rfl rfl (by kernel_rfl) (fun _ _ _ h => h) (Or.inl ⟨by rfl, ?_⟩) ?_ ?_
        rotate_left
        · intro w'
          try simp only [List.getElem_toArray, List.getElem_cons_succ, List.getElem_cons_zero]
          go_simp
          with_reducible rfl
        rotate_left
        · simp only [Act.put, List.setIfInBounds_toArray, List.set_cons_zero, List.set_cons_succ, i64_w, i32_w]
          rfl
        refine pure_ (i := 1) (N := some 30) (v := ?_) (a' := ?_) #[true, true, false, false, false, false, false, false, false, false] rfl rfl (by kernel_rfl) (fun _ _ _ h => h) (Or.inl ⟨by rfl, ?_⟩) ?_ ?_
        rotate_left
        · intro w'
          try simp only [List.getElem_toArray, List.getElem_cons_succ, List.getElem_cons_zero]
          go_simp
          with_reducible rfl
        rotate_left
        · simp only [Act.put, List.setIfInBounds_toArray, List.set_cons_zero, List.set_cons_succ, i64_w, i32_w]
          rfl
        refine pure_ (i := 2) (N := some 31) (v := ?_) (a' := ?_) #[true, true, true, false, false, false, false, false, false, false] rfl rfl (by kernel_rfl) (fun _ _ _ h => h) (Or.inl ⟨by rfl, ?_⟩) ?_ ?_
        rotate_left
        · intro w'
          try simp only [List.getElem_toArray, List.getElem_cons_succ, List.getElem_cons_zero]
          go_simp
          with_reducible rfl
        rotate_left
        · simp only [Act.put, List.setIfInBounds_toArray, List.set_cons_zero, List.set_cons_succ, i64_w, i32_w]
          rfl
        refine pure_ (i := 4) (N := some 33) (v := ?_) (a' := ?_) #[true, true, true, false, true, false, false, false, false, false] rfl rfl (by kernel_rfl) (fun _ _ _ h => h) (Or.inl ⟨by rfl, ?_⟩) ?_ ?_
        rotate_left
        · intro w'
          try simp only [List.getElem_toArray, List.getElem_cons_succ, List.getElem_cons_zero]
          go_simp
          with_reducible rfl
        rotate_left
        · simp only [Act.put, List.setIfInBounds_toArray, List.set_cons_zero, List.set_cons_succ, i64_w, i32_w]
          rfl
        refine pure_ (i := 6) (N := some 35) (v := ?_) (a' := ?_) #[true, true, true, false, true, false, true, false, false, false] rfl rfl (by kernel_rfl) (fun _ _ _ h => h) (Or.inl ⟨by rfl, ?_⟩) ?_ ?_
        rotate_left
        · intro w'
          try simp only [List.getElem_toArray, List.getElem_cons_succ, List.getElem_cons_zero]
          go_simp
          with_reducible rfl
        rotate_left
        · simp only [Act.put, List.setIfInBounds_toArray, List.set_cons_zero, List.set_cons_succ, i64_w, i32_w]
          rfl
        refine take_ (i := 3) (N := some 32) (v := ?_) (a' := ?_) #[true, true, true, true, true, false, true, false, false, false] rfl rfl (by kernel_rfl) (fun _ _ _ h => h) (Or.inl ⟨by rfl, ?_⟩) hHeld ?_ ?_
        rotate_left
        · rintro w' ⟨s0, s1, s2⟩
          try simp only [List.getElem_toArray, List.getElem_cons_succ, List.getElem_cons_zero]
          go_simp
          with_reducible rfl
        rotate_left
        · simp only [Act.put, List.setIfInBounds_toArray, List.set_cons_zero, List.set_cons_succ, i64_w, i32_w]
          rfl
        refine take_ (i := 5) (N := some 34) (v := ?_) (a' := ?_) #[true, true, true, true, true, true, true, false, false, false] rfl rfl (by kernel_rfl) (fun _ _ _ h => h) (Or.inl ⟨by rfl, ?_⟩) hHeld ?_ ?_
        rotate_left
        · rintro w' ⟨s0, s1, s2⟩
          try simp only [List.getElem_toArray, List.getElem_cons_succ, List.getElem_cons_zero]
          go_simp
          with_reducible rfl
        rotate_left
        · simp only [Act.put, List.setIfInBounds_toArray, List.set_cons_zero, List.set_cons_succ, i64_w, i32_w]
          rfl
        refine take_ (i := 7) (N := some 36) (v := ?_) (a' := ?_) #[true, true, true, true, true, true, true, true, false, false] rfl rfl (by kernel_rfl) (fun _ _ _ h => h) (Or.inl ⟨by rfl, ?_⟩) hHeld ?_ ?_
        rotate_left
        · rintro w' ⟨s0, s1, s2⟩
          try simp only [List.getElem_toArray, List.getElem_cons_succ, List.getElem_cons_zero]
          go_simp
          with_reducible rfl
        rotate_left
        · simp only [Act.put, List.setIfInBounds_toArray, List.set_cons_zero, List.set_cons_succ, i64_w, i32_w]
          rfl
        refine take_ (i := 8) (N := some 37) (v := ?_) (a' := ?_) #[true, true, true, true, true, true, true, true, true, false] rfl rfl (by kernel_rfl) (fun _ _ _ h => h) (Or.inl ⟨by rfl, ?_⟩) hHeld ?_ ?_
        rotate_left
        · rintro w' ⟨s0, s1, s2⟩
          try simp only [List.getElem_toArray, List.getElem_cons_succ, List.getElem_cons_zero]
          go_simp
          with_reducible rfl
        rotate_left
        · simp only [Act.put, List.setIfInBounds_toArray, List.set_cons_zero, List.set_cons_succ, i64_w, i32_w]
          rfl
        refine last_ (i := 9) (N := none) #[true, true, true, true, true, true, true, true, true, true] rfl rfl (by kernel_rfl) (by decide) (fun K hK => ?_)
        refine skip_ (w1 := ?_) (by rfl) rfl ?_ ?_
        rotate_left
        · try simp only [List.getElem_toArray, List.getElem_cons_succ, List.getElem_cons_zero]
          go_simp
          rfl
        refine hK.out _ _ ?_
        clear hK K
        refine done_ (by kernel_rfl) ?_

        go_wp2
        go_roundw
        case rel => exact ⟨k + 1, by omega, by go_num, by rw [HST.out]; exact HIM9.out, HF.out.trans (((HFA.out.drew).mono (fun _ _ h => h.elim) : Fr (fun k => k = mb) wr w1.drew).trans HF9.out (fun k hk => .inl hk)) (fun k hk => .inl hk)⟩
        case measure => simp [intOf]; omega
      · have hkp : decide ((k : Int) < keep) = false := by simpa using fun h => hkk (hkn.2 h)
        have e : k = n := by omega
        have HREF := Lib.hid (HH.out.settledTo HF.out k HIM.out)
        have hk64 : at_ ≤ 9223372036854775807 := by have := HB64.out.1; omega
        have hs64 : ((settled D.secs (D.buf.take k)).getD at_ []).length = 64 := by
          have hl : at_ < (settled D.secs (D.buf.take k)).length := by rw [settled_length]; exact HB64.out.1
          rw [List.getD_eq_getElem?_getD, List.getElem?_eq_getElem hl]
          exact HREF.out.ok.len _ (List.getElem_mem hl)
        have hp : pad64 (lay L (D.buf.take k) at_) = (settled D.secs (D.buf.take k)).getD at_ [] := HREF.out.told at_ (by simp only [settled_length]; exact HB64.out.1)
        have HP := Lib.hid hp; clear hp
        have hcr : (D.crashed keep torn).secs = (settled D.secs (D.buf.take k)).set at_ (d.take (torn8 torn) ++ ((settled D.secs (D.buf.take k)).getD at_ []).drop (torn8 torn)) := by
          simp only [Dk.crashed, ← HN2.out, ← e, HGET.out]
        have HCR := Lib.hid hcr; clear hcr
        have HE := Lib.hid e; clear e
        generalize (settled D.secs (D.buf.take k)).getD at_ [] = s at HP hs64 HCR
        have HS64 := Lib.hid hs64; clear hs64
        go_wp2_with (go_at_call 55; refine (rlasting_any rb mb _ gs (m + k) (lay L (D.buf.take k)) _ _ at_ (HREF.out.fr ((Fr.refl (fun _ => False) wr).alloc _) (fun _ _ h => h)) hk64).mono ?_; rintro e w2 ⟨sb, rfl, hsb, row2, fr2⟩; rw [HP.out] at row2 ⊢; rw [HS64.out])
        have hfa := (Fr.refl (fun _ => False) wr).alloc (.cells #[.int .i64 (at_ : Int), .slice (some ⟨gk, 0, none⟩) 64 64] 97 (0, 0))
        have fr02 : Fr (fun _ => False) wr w2 := hfa.trans fr2 (fun _ h => h.elim)
        have hrec2 := fr2.at (heap_alloc_at wr (.cells #[.int .i64 (at_ : Int), .slice (some ⟨gk, 0, none⟩) 64 64] 97 (0, 0))) (fun h => h)
        have hsbn : wr.heap.size < sb := by
          have : (wr.alloc (.cells #[.int .i64 (at_ : Int), .slice (some ⟨gk, 0, none⟩) 64 64] 97 (0, 0))).heap.size = wr.heap.size + 1 := by simp
          omega
        have FR2 := Lib.hid fr02
        have HBY2 := Lib.hid (HBY.out.fr FR2.out (fun _ _ h => h))
        have HGK : Hid (gk ≠ sb ∧ rb ≠ sb ∧ mb ≠ sb ∧ wr.heap.size ≠ sb ∧ w.heap.size ≤ sb) := Lib.hid (by
          have h1 := bytes_lt HBY.out
          have h2 := HREF.out.lt rb (.inl rfl)
          have h3 := HREF.out.lt mb (.inr (.inl rfl))
          have h4 := HF.out.size
          omega)
        have head3 := FR2.out.at head2 (fun h => h)
        clear hfa fr02 hsb fr2 head2 hsbn
        generalize wr.heap.size = nb at *
        have ROW2 := Lib.hid row2; clear row2
        go_loopw [9] (fun c wq => ∃ j : Nat, j ≤ torn8 torn ∧ c = .int .i64 j ∧ OldAt w2 sb (d.take j ++ s.drop j) wq) (fun c _ => torn8 torn - (intOf c).toNat)
        case atStart => exact ⟨0, Nat.zero_le _, rfl, by simpa using ROW2.out, Fr.refl _ _⟩
        case round =>
          obtain ⟨j, hj, rfl, hrow, hfr⟩ := hrel
          have HFQ := Lib.hid hfr; clear hfr
          have ht := TQ.out j hj
          have head4 := HFQ.out.at head3 HGK.out.2.1
          have hrec4 := HFQ.out.at hrec2 HGK.out.2.2.2.1
          have hby4 := HBY2.out.fr HFQ.out (fun i hi e => HGK.out.1 (by cases hi; exact e))
          clear head3 hrec2 hg3
          by_cases hjt : j < torn8 torn
          · obtain ⟨h64, hq⟩ := ht.1 hjt
            have t1 : decide ((j : Int) < 64) = true := by simp; omega
            have t2 : decide ((j : Int) < torn.tdiv 8 * 8) = true := by simpa using hq
            have hd64 := HB64.out.2
            have hc : cellIn wr.heap[gk]? j = some (.int .u8 (d[j].toNat : Int)) := by
              obtain ⟨ao', cap', hv', _, _, _, h4⟩ := hby4.is
              simp only [Value.slice.injEq] at hv'
              obtain ⟨rfl, _, rfl⟩ := hv'
              have := h4 _ rfl j _ (Bs_at d j (by omega))
              rwa [Addr.add_mk, Nat.zero_add, cell?_mk] at this
            have hdj : d[j]? = some d[j] := List.getElem?_eq_getElem (by omega)
            generalize d[j] = y at hc hdj
            have HDJ := Lib.hid hdj; clear hdj
            have hw2 : IntKind.i64.wrap ((j : Int) + 1) = (j : Int) + 1 := IntWalk.i64_in _ (by omega)
            have hcz : ((Bs (d.take j ++ s.drop j)).toArray).size = 64 := by rw [List.size_toArray, Bs_length, List.length_append, List.length_take, List.length_drop, HS64.out]; omega
            clear hby4 ht hd64
            go_wp2
            go_roundw
            case rel =>
              refine ⟨j + 1, by omega, by go_num, ?_, HFQ.out.setCell _ (.inl rfl)⟩
              rw [heap_setCell_self, hrow]
              simp only [putIn_some]
              rw [Bs_setIn s d j y (by have := HS64.out; omega) (by have := HS64.out; have := HB64.out.2; omega) HDJ.out]
            case measure => simp [intOf]; omega
          · obtain rfl : j = torn8 torn := by omega
            have hnd : (d.take (torn8 torn) ++ s.drop (torn8 torn)).length = 64 := by
              have := torn8_le torn
              rw [List.length_append, List.length_take, List.length_drop, HS64.out, HB64.out.2]; omega
            have hby5 : IsBytes wr (.slice (some ⟨sb, 0, none⟩) 64 64) (d.take (torn8 torn) ++ s.drop (torn8 torn)) := by
              have := IsBytes.of_cells hrow (by omega)
              rwa [hnd] at this
            have k1 := cv309 wr.drew _ _ (hby5.fr (F := fun _ => False) (Fr.refl _ wr).drew (fun _ _ h => h))
            obtain ⟨w9, hrun, him9, fr9⟩ := (((HIM.out.fr FR2.out (fun h => h)).fr HFQ.out HGK.out.2.2.1).fr (F := fun _ => False) (Fr.refl _ wr).drew (fun h => h)).upd (by unfold maxLen; omega) (at_ : Int) (wf64 at_ hk64) (d.take (torn8 torn) ++ s.drop (torn8 torn)) (by unfold maxLen; omega)
            have hlast := HREF.out.tells.one at_ (d.take (torn8 torn) ++ s.drop (torn8 torn)) (by simp only [settled_length]; exact HB64.out.1) hnd
            have HTL : Hid (TellsOf (fun j => if j = (at_ : Int) then d.take (torn8 torn) ++ s.drop (torn8 torn) else lay L (D.buf.take k) j) (D.crashed keep torn).secs) := Lib.hid (by rw [HCR.out]; exact hlast)
            have HF2 : Hid (Fr (fun k => k = mb) w wr) := Lib.hid (HF.out.trans ((FR2.out.mono (fun _ _ h => h.elim) : Fr (fun i => i = sb) _ w2).trans HFQ.out (fun i hi => .inl hi)) (fun i hi => .inr (by rw [hi]; exact HGK.out.2.2.2.2)))
            have H9 := Lib.hid (FIN.out w9 _ (fr9.at head4 (fun e => HH.out.mb_ne e.symm)) (him9.mono (by omega)) HTL.out (HF2.out.drew.trans fr9 (fun i hi => .inl hi)) (by rw [HCR.out, List.length_set, settled_length]) (by
              rw [HCR.out]; intro x hx
              rcases List.mem_or_eq_of_mem_set hx with h1 | h1
              · exact HREF.out.ok.len x h1
              · rw [h1]; exact hnd))
            have head9 := fr9.at (a := wr.drew) head4 (fun e => HH.out.mb_ne e.symm)
            have hnd' := Lib.hid hnd
            generalize d.take (torn8 torn) ++ s.drop (torn8 torn) = nd at *
            clear hby5 hby4 hlast him9 hrow hnd fr9
            by_cases h64 : torn8 torn < 64
            · have t1 : decide (((torn8 torn : Nat) : Int) < 64) = true := by simp; omega
              have t2 : decide (((torn8 torn : Nat) : Int) < torn.tdiv 8 * 8) = false := by
                simp only [decide_eq_false_iff_not]; intro h
                exact absurd (ht.2 ⟨h64, h⟩) (Nat.lt_irrefl _)
              clear ht hj
              go_wp2
              refine start_ (n := 9) (S := fun w' => w'.heap[rb]? = some (.cells #[.int .i64 D.secs.length, .map (some mb), .slice (some ⟨g2, 0, none⟩) D.buf.length cap, .int .i64 D.armed, .bool D.down] 95 (0, 0)) ∧ w'.heap[nb]? = some (.cells #[.int .i64 (at_ : Int), .slice (some ⟨gk, 0, none⟩) 64 64] 97 (0, 0)) ∧ cvStr Try.prog 30 9 (.slice (some ⟨sb, 0, none⟩) 64 64) w' = .ok (.value (str nd)) w') (ds := [8]) #[false, false, false, false, false, false, false, false, false] (by kernel_rfl) rfl rfl ⟨head4, hrec4, k1⟩ (fun hHeld => ?_)
              refine pure_ (i := 0) (N := some 61) (v := ?_) (a' := ?_) #[true, false, false, false, false, false, false, false, false] rfl rfl (by kernel_rfl) (fun _ _ _ h => h) (Or.inl ⟨by rfl, ?_⟩) ?_ ?_
              rotate_left
              · intro w'
                try simp only [List.getElem_toArray, List.getElem_cons_succ, List.getElem_cons_zero]
                go_simp
                with_reducible rfl
              rotate_left
              · simp only [Act.put, List.setIfInBounds_toArray, List.set_cons_zero, List.set_cons_succ, i64_w, i32_w]
                rfl
              refine pure_ (i := 1) (N := some 62) (v := ?_) (a' := ?_) #[true, true, false, false, false, false, false, false, false] rfl rfl (by kernel_rfl) (fun _ _ _ h => h) (Or.inl ⟨by rfl, ?_⟩) ?_ ?_
              rotate_left
              · intro w'
                try simp only [List.getElem_toArray, List.getElem_cons_succ, List.getElem_cons_zero]
                go_simp
                with_reducible rfl
              rotate_left
              · simp only [Act.put, List.setIfInBounds_toArray, List.set_cons_zero, List.set_cons_succ, i64_w, i32_w]
                rfl
              refine pure_ (i := 2) (N := some 63) (v := ?_) (a' := ?_) #[true, true, true, false, false, false, false, false, false] rfl rfl (by kernel_rfl) (fun _ _ _ h => h) (Or.inl ⟨by rfl, ?_⟩) ?_ ?_
              rotate_left
              · intro w'
                try simp only [List.getElem_toArray, List.getElem_cons_succ, List.getElem_cons_zero]
                go_simp
                with_reducible rfl
              rotate_left
              · simp only [Act.put, List.setIfInBounds_toArray, List.set_cons_zero, List.set_cons_succ, i64_w, i32_w]
                rfl
              refine pure_ (i := 4) (N := some 65) (v := ?_) (a' := ?_) #[true, true, true, false, true, false, false, false, false] rfl rfl (by kernel_rfl) (fun _ _ _ h => h) (Or.inl ⟨by rfl, ?_⟩) ?_ ?_
              rotate_left
              · intro w'
                try simp only [List.getElem_toArray, List.getElem_cons_succ, List.getElem_cons_zero]
                go_simp
                with_reducible rfl
              rotate_left
              · simp only [Act.put, List.setIfInBounds_toArray, List.set_cons_zero, List.set_cons_succ, i64_w, i32_w]
                rfl
              refine pure_ (i := 6) (N := some 67) (v := ?_) (a' := ?_) #[true, true, true, false, true, false, true, false, false] rfl rfl (by kernel_rfl) (fun _ _ _ h => h) (Or.inl ⟨by rfl, ?_⟩) ?_ ?_
              rotate_left
              · intro w'
                try simp only [List.getElem_toArray, List.getElem_cons_succ, List.getElem_cons_zero]
                go_simp
                with_reducible rfl
              rotate_left
              · simp only [Act.put, List.setIfInBounds_toArray, List.set_cons_zero, List.set_cons_succ, i64_w, i32_w]
                rfl
              refine take_ (i := 3) (N := some 64) (v := ?_) (a' := ?_) #[true, true, true, true, true, false, true, false, false] rfl rfl (by kernel_rfl) (fun _ _ _ h => h) (Or.inl ⟨by rfl, ?_⟩) hHeld ?_ ?_
              rotate_left
              · rintro w' ⟨s0, s1, s2⟩
                try simp only [List.getElem_toArray, List.getElem_cons_succ, List.getElem_cons_zero]
                go_simp
                with_reducible rfl
              rotate_left
              · simp only [Act.put, List.setIfInBounds_toArray, List.set_cons_zero, List.set_cons_succ, i64_w, i32_w]
                rfl
              refine take_ (i := 5) (N := some 66) (v := ?_) (a' := ?_) #[true, true, true, true, true, true, true, false, false] rfl rfl (by kernel_rfl) (fun _ _ _ h => h) (Or.inl ⟨by rfl, ?_⟩) hHeld ?_ ?_
              rotate_left
              · rintro w' ⟨s0, s1, s2⟩
                try simp only [List.getElem_toArray, List.getElem_cons_succ, List.getElem_cons_zero]
                go_simp
                with_reducible rfl
              rotate_left
              · simp only [Act.put, List.setIfInBounds_toArray, List.set_cons_zero, List.set_cons_succ, i64_w, i32_w]
                rfl
              refine take_ (i := 7) (N := some 68) (v := ?_) (a' := ?_) #[true, true, true, true, true, true, true, true, false] rfl rfl (by kernel_rfl) (fun _ _ _ h => h) (Or.inl ⟨by rfl, ?_⟩) hHeld ?_ ?_
              rotate_left
              · rintro w' ⟨s0, s1, s2⟩
                try simp only [List.getElem_toArray, List.getElem_cons_succ, List.getElem_cons_zero]
                go_simp
                with_reducible rfl
              rotate_left
              · simp only [Act.put, List.setIfInBounds_toArray, List.set_cons_zero, List.set_cons_succ, i64_w, i32_w]
                rfl
              refine last_ (i := 8) (N := none) #[true, true, true, true, true, true, true, true, true] rfl rfl (by kernel_rfl) (by decide) (fun K hK => ?_)
              refine skip_ (w1 := ?_) (by rfl) rfl ?_ ?_
              rotate_left
              · try simp only [List.getElem_toArray, List.getElem_cons_succ, List.getElem_cons_zero]
                go_simp
                rfl
              refine hK.out _ _ ?_
              clear hK K
              refine done_ (by kernel_rfl) ?_

              go_wp2
              go_end0
              exact ⟨rfl, _, H9.out.1, H9.out.2⟩
            · have t1 : decide (((torn8 torn : Nat) : Int) < 64) = false := by simp; omega
              clear ht hj
              go_wp2
              refine start_ (n := 9) (S := fun w' => w'.heap[rb]? = some (.cells #[.int .i64 D.secs.length, .map (some mb), .slice (some ⟨g2, 0, none⟩) D.buf.length cap, .int .i64 D.armed, .bool D.down] 95 (0, 0)) ∧ w'.heap[nb]? = some (.cells #[.int .i64 (at_ : Int), .slice (some ⟨gk, 0, none⟩) 64 64] 97 (0, 0)) ∧ cvStr Try.prog 30 9 (.slice (some ⟨sb, 0, none⟩) 64 64) w' = .ok (.value (str nd)) w') (ds := [8]) #[false, false, false, false, false, false, false, false, false] (by kernel_rfl) rfl rfl ⟨head4, hrec4, k1⟩ (fun hHeld => ?_)
              refine pure_ (i := 0) (N := some 61) (v := ?_) (a' := ?_) #[true, false, false, false, false, false, false, false, false] rfl rfl (by kernel_rfl) (fun _ _ _ h => h) (Or.inl ⟨by rfl, ?_⟩) ?_ ?_
              rotate_left
              · intro w'
                try simp only [List.getElem_toArray, List.getElem_cons_succ, List.getElem_cons_zero]
                go_simp
                with_reducible rfl
              rotate_left
              · simp only [Act.put, List.setIfInBounds_toArray, List.set_cons_zero, List.set_cons_succ, i64_w, i32_w]
                rfl
              refine pure_ (i := 1) (N := some 62) (v := ?_) (a' := ?_) #[true, true, false, false, false, false, false, false, false] rfl rfl (by kernel_rfl) (fun _ _ _ h => h) (Or.inl ⟨by rfl, ?_⟩) ?_ ?_
              rotate_left
              · intro w'
                try simp only [List.getElem_toArray, List.getElem_cons_succ, List.getElem_cons_zero]
                go_simp
                with_reducible rfl
              rotate_left
              · simp only [Act.put, List.setIfInBounds_toArray, List.set_cons_zero, List.set_cons_succ, i64_w, i32_w]
                rfl
              refine pure_ (i := 2) (N := some 63) (v := ?_) (a' := ?_) #[true, true, true, false, false, false, false, false, false] rfl rfl (by kernel_rfl) (fun _ _ _ h => h) (Or.inl ⟨by rfl, ?_⟩) ?_ ?_
              rotate_left
              · intro w'
                try simp only [List.getElem_toArray, List.getElem_cons_succ, List.getElem_cons_zero]
                go_simp
                with_reducible rfl
              rotate_left
              · simp only [Act.put, List.setIfInBounds_toArray, List.set_cons_zero, List.set_cons_succ, i64_w, i32_w]
                rfl
              refine pure_ (i := 4) (N := some 65) (v := ?_) (a' := ?_) #[true, true, true, false, true, false, false, false, false] rfl rfl (by kernel_rfl) (fun _ _ _ h => h) (Or.inl ⟨by rfl, ?_⟩) ?_ ?_
              rotate_left
              · intro w'
                try simp only [List.getElem_toArray, List.getElem_cons_succ, List.getElem_cons_zero]
                go_simp
                with_reducible rfl
              rotate_left
              · simp only [Act.put, List.setIfInBounds_toArray, List.set_cons_zero, List.set_cons_succ, i64_w, i32_w]
                rfl
              refine pure_ (i := 6) (N := some 67) (v := ?_) (a' := ?_) #[true, true, true, false, true, false, true, false, false] rfl rfl (by kernel_rfl) (fun _ _ _ h => h) (Or.inl ⟨by rfl, ?_⟩) ?_ ?_
              rotate_left
              · intro w'
                try simp only [List.getElem_toArray, List.getElem_cons_succ, List.getElem_cons_zero]
                go_simp
                with_reducible rfl
              rotate_left
              · simp only [Act.put, List.setIfInBounds_toArray, List.set_cons_zero, List.set_cons_succ, i64_w, i32_w]
                rfl
              refine take_ (i := 3) (N := some 64) (v := ?_) (a' := ?_) #[true, true, true, true, true, false, true, false, false] rfl rfl (by kernel_rfl) (fun _ _ _ h => h) (Or.inl ⟨by rfl, ?_⟩) hHeld ?_ ?_
              rotate_left
              · rintro w' ⟨s0, s1, s2⟩
                try simp only [List.getElem_toArray, List.getElem_cons_succ, List.getElem_cons_zero]
                go_simp
                with_reducible rfl
              rotate_left
              · simp only [Act.put, List.setIfInBounds_toArray, List.set_cons_zero, List.set_cons_succ, i64_w, i32_w]
                rfl
              refine take_ (i := 5) (N := some 66) (v := ?_) (a' := ?_) #[true, true, true, true, true, true, true, false, false] rfl rfl (by kernel_rfl) (fun _ _ _ h => h) (Or.inl ⟨by rfl, ?_⟩) hHeld ?_ ?_
              rotate_left
              · rintro w' ⟨s0, s1, s2⟩
                try simp only [List.getElem_toArray, List.getElem_cons_succ, List.getElem_cons_zero]
                go_simp
                with_reducible rfl
              rotate_left
              · simp only [Act.put, List.setIfInBounds_toArray, List.set_cons_zero, List.set_cons_succ, i64_w, i32_w]
                rfl
              refine take_ (i := 7) (N := some 68) (v := ?_) (a' := ?_) #[true, true, true, true, true, true, true, true, false] rfl rfl (by kernel_rfl) (fun _ _ _ h => h) (Or.inl ⟨by rfl, ?_⟩) hHeld ?_ ?_
              rotate_left
              · rintro w' ⟨s0, s1, s2⟩
                try simp only [List.getElem_toArray, List.getElem_cons_succ, List.getElem_cons_zero]
                go_simp
                with_reducible rfl
              rotate_left
              · simp only [Act.put, List.setIfInBounds_toArray, List.set_cons_zero, List.set_cons_succ, i64_w, i32_w]
                rfl
              refine last_ (i := 8) (N := none) #[true, true, true, true, true, true, true, true, true] rfl rfl (by kernel_rfl) (by decide) (fun K hK => ?_)
              refine skip_ (w1 := ?_) (by rfl) rfl ?_ ?_
              rotate_left
              · try simp only [List.getElem_toArray, List.getElem_cons_succ, List.getElem_cons_zero]
                go_simp
                rfl
              refine hK.out _ _ ?_
              clear hK K
              refine done_ (by kernel_rfl) ?_

              go_wp2
              go_end0
              exact ⟨rfl, _, H9.out.1, H9.out.2⟩
    · obtain rfl : k = D.buf.length := by omega
      have e : n = D.buf.length := by omega
      have hcr : (D.crashed keep torn).secs = settled D.secs D.buf := by
        have hg : D.buf[D.buf.length]? = none := List.getElem?_eq_none (Nat.le_refl _)
        simp only [Dk.crashed, ← HN2.out, e, hg, List.take_length]
      have HCR := Lib.hid hcr; clear hcr
      have HE := Lib.hid e; clear e
      rw [List.take_length] at HIM
      have H9 := Lib.hid (FIN.out wr _ head2 HIM.out (by rw [HCR.out]; exact HH.out.tells.lay HH.out.ok.buf) HF.out (by rw [HCR.out, settled_length]) (by rw [HCR.out]; exact settled_len _ (fun x hx => (HH.out.ok.buf x hx).2) _ HH.out.ok.len))
      go_wp2
      go_end0
      exact ⟨rfl, _, H9.out.1, H9.out.2⟩
end Go.Proofs.Ytnpeeephkkmomaa
