/-
  The journal: the iterator over an area's sectors.
-/
import Derived.Test.YtnpeeephkkmomaaRng
namespace Go.Proofs.Ytnpeeephkkmomaa
open Go.RowKit Go.Proofs.YtnpeeephkkmomaaW.PrintLast
set_option linter.unusedVariables false
set_option linter.unusedSimpArgs false
attribute [local go_sem] Oper.semAt_some

/-- The k-th sector's worth of some bytes. -/
def chunk (f : List UInt8) (k : Nat) : List UInt8 := (f.drop (64 * k)).take 64
theorem chunk_length (f : List UInt8) (k : Nat) : (chunk f k).length = min 64 (f.length - 64 * k) := by simp [chunk]
/-- What the iterator leans on. -/
structure SecPre (p1 p2 p3 jp b : Nat) (from_ to_ : Nat) (end_ count : Int) (at_ : Nat) (W : World) : Prop where
  h1 : W.heap[p1]? = some (.cells #[.pointer (some ⟨jp, 0, none⟩)] 52 (0, 0))
  h2 : W.heap[p2]? = some (.cells #[.int .i64 at_] 2 (0, 0))
  hj : IsJ W jp b from_ to_ end_ count
theorem SecPre.fr {p1 p2 p3 jp b : Nat} {from_ to_ : Nat} {end_ count : Int} {at_ : Nat} {A B : World} {F : Nat → Prop} (h : SecPre p1 p2 p3 jp b from_ to_ end_ count at_ A) (hf : Fr F A B) (g1 : ¬ F p1) (g2 : ¬ F p2) (gj : ¬ F jp) :
    SecPre p1 p2 p3 jp b from_ to_ end_ count at_ B := ⟨hf.at h.h1 g1, hf.at h.h2 g2, hf.at h.hj gj⟩
/-- What stands in the iterator's own box. -/
def SecAt (p3 : Nat) (G : Nat → Prop) (f : List UInt8) (k : Nat) (W : World) : Prop :=
  ∃ ao cap, W.heap[p3]? = some (.cells #[.slice ao (f.drop (64 * k)).length cap] 30 (0, 0)) ∧ IsBytes W (.slice ao (f.drop (64 * k)).length cap) (f.drop (64 * k)) ∧ ∀ j, (Value.slice ao (f.drop (64 * k)).length cap).ownBlock = some j → ¬ G j ∧ j ≠ p3
theorem SecAt.fr0 {p3 : Nat} {G : Nat → Prop} {f : List UInt8} {k : Nat} {A B : World} (h : SecAt p3 G f k A) (hf : Fr (fun _ => False) A B) : SecAt p3 G f k B := by
  obtain ⟨ao, cap, e1, e2, e3⟩ := h
  exact ⟨ao, cap, hf.at e1 (fun h => h), e2.fr hf (fun _ _ h => h), e3⟩
/-- The iterator's own steps. -/
def SecSt (p3 : Nat) (A B : World) : Prop := Fr (fun j => j = p3) A B ∧ ∃ c T g, A.heap[p3]? = some (.cells c T g)
/-- What is handed to a round. -/
def SecX (G : Nat → Prop) (f : List UInt8) (s : Nat) (k : Nat) (args : Array Value) (W : World) : Prop :=
  ∃ ao cap, args = #[.int .i64 ((s + k : Nat) : Int), .slice ao (chunk f k).length cap] ∧ IsBytes W (.slice ao (chunk f k).length cap) (chunk f k) ∧ ∀ j, (Value.slice ao (chunk f k).length cap).ownBlock = some j → ¬ G j

set_option maxRecDepth 100000 in
set_option maxHeartbeats 4000000 in
theorem sectors_seq (p1 p2 p3 jp b : Nat) (from_ to_ : Nat) (end_ count : Int) (at_ : Nat) (f : List UInt8) (G : Nat → Prop) (g1 : ¬ G p1) (g2 : ¬ G p2) (g3 : ¬ G p3) (gj : ¬ G jp) (n1 : p1 ≠ p3) (n2 : p2 ≠ p3) (nj : jp ≠ p3)
    (hat : at_ ≤ 4194304) (hfrom : from_ ≤ 65536) (hf : f.length ≤ 4194304) :
    SeqW Try.prog 87 #[.pointer (some ⟨p1, 0, none⟩), .pointer (some ⟨p2, 0, none⟩), .pointer (some ⟨p3, 0, none⟩)] ((f.length + 63) / 64) (SecX G f (from_ + at_ / 64)) (SecSt p3) (fun A B => Fr G A B)
      (fun W => SecPre p1 p2 p3 jp b from_ to_ end_ count at_ W ∧ SecAt p3 G f 0 W) := by
  intro l J Jx W hSt hY h0 hpre
  obtain ⟨hp, hs⟩ := hpre
  have hp1 := hp.h1; have hp2 := hp.h2; have hj := hp.hj
  unfold IsJ at hj
  have HS := Lib.hid hs; have HP := Lib.hid hp; have HST := Lib.hid hSt; have HY := Lib.hid hY
  have hq : IntKind.i64.wrap ((at_ : Int).tdiv 64) = ((at_ / 64 : Nat) : Int) := by rw [Int.tdiv_eq_ediv_of_nonneg (by omega), IntWalk.i64_in _ (by omega)]; omega
  have hq' : wrap64 ((at_ : Int) / 64) = ((at_ / 64 : Nat) : Int) := by rw [← i64_w, IntWalk.i64_in _ (by omega)]; omega
  have HG := Lib.hid (And.intro g1 (And.intro g2 (And.intro g3 gj))); have HN := Lib.hid (And.intro n1 (And.intro n2 nj)); have HB := Lib.hid (And.intro hat (And.intro hfrom hf))
  clear hp hs hSt hY g1 g2 g3 gj n1 n2 nj
  generalize hsq : at_ / 64 = q at *
  have hw1 : IntKind.i64.wrap ((from_ : Int) + (q : Int)) = (from_ : Int) + q := IntWalk.i64_in _ (by omega)
  have hw1' : wrap64 ((from_ : Int) + (q : Int)) = (from_ : Int) + q := by rw [← i64_w]; exact hw1
  clear hat hfrom hf
  refine callsIn_of_wp Try.func87 rfl trivial ?_ rfl
  simp only [Try.ntmps87, List.size_toArray, List.length_cons, List.length_nil, Nat.reduceAdd, Nat.reduceSub, Array.replicate_succ, Array.replicate_zero, List.push_toArray, List.append_toArray, List.nil_append, List.cons_append]
  gi_wp2
  refine wpIn_wide.2 ?_
  refine start_ (n := 8) (S := fun w' => w'.heap[p1]? = some (.cells #[.pointer (some ⟨jp, 0, none⟩)] 52 (0, 0)) ∧ w'.heap[p2]? = some (.cells #[.int .i64 at_] 2 (0, 0)) ∧ w'.heap[jp]? = some (.cells #[.pointer (some ⟨b, 0, none⟩), .int .i64 from_, .int .i64 to_, .int .i64 end_, .int .i64 count] 100 (0, 0))) (ds := []) #[false, false, false, false, false, false, false, false] (by kernel_rfl) rfl rfl ⟨hp1, hp2, hj⟩ (fun hHeld => ?_)
  refine take_ (i := 0) (N := some 7) (v := ?_) (a' := ?_) #[true, false, false, false, false, false, false, false] rfl rfl (by kernel_rfl) (fun _ _ _ h => h) (Or.inl ⟨by rfl, ?_⟩) hHeld ?_ ?_
  rotate_left
  · rintro w' ⟨s0, s1, s2⟩
    try simp only [List.getElem_toArray, List.getElem_cons_succ, List.getElem_cons_zero]
    go_simp
    with_reducible rfl
  rotate_left
  · simp only [Act.put, List.setIfInBounds_toArray, List.set_cons_zero, List.set_cons_succ, i64_w, i32_w]
    rfl
  refine pure_ (i := 1) (N := some 8) (v := ?_) (a' := ?_) #[true, true, false, false, false, false, false, false] rfl rfl (by kernel_rfl) (fun _ _ _ h => h) (Or.inl ⟨by rfl, ?_⟩) ?_ ?_
  rotate_left
  · intro w'
    try simp only [List.getElem_toArray, List.getElem_cons_succ, List.getElem_cons_zero]
    go_simp
    with_reducible rfl
  rotate_left
  · simp only [Act.put, List.setIfInBounds_toArray, List.set_cons_zero, List.set_cons_succ, i64_w, i32_w]
    rfl
  refine pure_ (i := 2) (N := some 9) (v := ?_) (a' := ?_) #[true, true, true, false, false, false, false, false] rfl rfl (by kernel_rfl) (fun _ _ _ h => h) (Or.inl ⟨by rfl, ?_⟩) ?_ ?_
  rotate_left
  · intro w'
    try simp only [List.getElem_toArray, List.getElem_cons_succ, List.getElem_cons_zero]
    go_simp
    with_reducible rfl
  rotate_left
  · simp only [Act.put, List.setIfInBounds_toArray, List.set_cons_zero, List.set_cons_succ, i64_w, i32_w]
    rfl
  refine take_ (i := 3) (N := some 10) (v := ?_) (a' := ?_) #[true, true, true, true, false, false, false, false] rfl rfl (by kernel_rfl) (fun _ _ _ h => h) (Or.inl ⟨by rfl, ?_⟩) hHeld ?_ ?_
  rotate_left
  · rintro w' ⟨s0, s1, s2⟩
    try simp only [List.getElem_toArray, List.getElem_cons_succ, List.getElem_cons_zero]
    go_simp
    with_reducible rfl
  rotate_left
  · simp only [Act.put, List.setIfInBounds_toArray, List.set_cons_zero, List.set_cons_succ, i64_w, i32_w]
    rfl
  refine take_ (i := 4) (N := some 11) (v := ?_) (a' := ?_) #[true, true, true, true, true, false, false, false] rfl rfl (by kernel_rfl) (fun _ _ _ h => h) (Or.inl ⟨by rfl, ?_⟩) hHeld ?_ ?_
  rotate_left
  · rintro w' ⟨s0, s1, s2⟩
    try simp only [List.getElem_toArray, List.getElem_cons_succ, List.getElem_cons_zero]
    go_simp
    with_reducible rfl
  rotate_left
  · simp only [Act.put, List.setIfInBounds_toArray, List.set_cons_zero, List.set_cons_succ, i64_w, i32_w]
    rfl
  refine pure_ (i := 5) (N := some 12) (v := ?_) (a' := ?_) #[true, true, true, true, true, true, false, false] rfl rfl (by kernel_rfl) (fun _ _ _ h => h) (Or.inl ⟨by rfl, ?_⟩) ?_ ?_
  rotate_left
  · intro w'
    try simp only [List.getElem_toArray, List.getElem_cons_succ, List.getElem_cons_zero]
    go_simp
    with_reducible rfl
  rotate_left
  · simp only [Act.put, List.setIfInBounds_toArray, List.set_cons_zero, List.set_cons_succ, i64_w, i32_w]
    rfl
  refine pure_ (i := 6) (N := some 13) (v := ?_) (a' := ?_) #[true, true, true, true, true, true, true, false] rfl rfl (by kernel_rfl) (fun _ _ _ h => h) (Or.inl ⟨by rfl, ?_⟩) ?_ ?_
  rotate_left
  · intro w'
    try simp only [List.getElem_toArray, List.getElem_cons_succ, List.getElem_cons_zero]
    go_simp
    with_reducible rfl
  rotate_left
  · simp only [Act.put, List.setIfInBounds_toArray, List.set_cons_zero, List.set_cons_succ, i64_w, i32_w]
    rfl
  refine pure_ (i := 7) (N := some 5) (v := ?_) (a' := ?_) #[true, true, true, true, true, true, true, true] rfl rfl (by kernel_rfl) (fun _ _ _ h => h) (Or.inl ⟨by rfl, ?_⟩) ?_ ?_
  rotate_left
  · intro w'
    try simp only [List.getElem_toArray, List.getElem_cons_succ, List.getElem_cons_zero]
    go_simp
    with_reducible rfl
  rotate_left
  · simp only [Act.put, List.setIfInBounds_toArray, List.set_cons_zero, List.set_cons_succ, i64_w, i32_w]
    rfl
  refine done_ (by kernel_rfl) ?_

  gi_wp2
  have hq2 := HB.out
  simp only [hq', hw1']
  gi_loopw [5] (fun i wr => ∃ k : Nat, k ≤ (f.length + 63) / 64 ∧ i = .int .i64 ((from_ + q + k : Nat) : Int) ∧ J k wr ∧ SecPre p1 p2 p3 jp b from_ to_ end_ count at_ wr ∧ SecAt p3 G f k wr) (fun i _ => (f.length + 63) / 64 + (from_ + q) - (intOf i).toNat)
  case atStart =>
    have hd : Fr (fun j => j = p3) W W.drew := (Fr.refl _ W).drew
    exact ⟨0, Nat.zero_le _, by go_num, HST.out 0 W W.drew h0 ⟨hd, by obtain ⟨_, _, e, _⟩ := HS.out; exact ⟨_, _, _, e⟩⟩, HP.out.fr (F := fun _ => False) (Fr.refl _ W).drew (fun h => h) (fun h => h) (fun h => h), SecAt.fr0 HS.out (Fr.refl _ W).drew⟩
  case round =>
    obtain ⟨k, hk, rfl, hjk, hp, ao, cap, h3, hby, hbk⟩ := hrel
    clear hp1 hp2 hj hHeld
    obtain ⟨M, hM⟩ : ∃ M, M = (f.drop (64 * k)).length := ⟨_, rfl⟩
    have hMl : M = f.length - 64 * k := by rw [hM, List.length_drop]
    rw [← hM] at h3 hby hbk
    have hp1 := hp.h1; have hp2 := hp.h2
    have HP2 := Lib.hid hp; have HBY := Lib.hid hby; have HBK := Lib.hid hbk; have HJK := Lib.hid hjk
    have n13 : p1 ≠ p3 := HN.out.1

    clear hp hby hbk
    by_cases hlt : 64 * k < f.length
    · obtain ⟨C, hC⟩ : ∃ C, C = (chunk f k).length := ⟨_, rfl⟩
      have hCl : C = min 64 M := by rw [hC, chunk_length, hMl]
      have hck : (f.drop (64 * k)).take C = chunk f k := by
        unfold chunk
        rcases Nat.lt_or_ge M 64 with h | h
        · rw [List.take_of_length_le (by omega), List.take_of_length_le (by omega)]
        · rw [show C = 64 by omega]
      have hcd : (f.drop (64 * k)).drop C = f.drop (64 * (k + 1)) := by
        rcases Nat.lt_or_ge M 64 with h | h
        · rw [List.drop_of_length_le (by omega), List.drop_of_length_le (by omega)]
        · rw [show C = 64 by omega, List.drop_drop]; congr 1
      obtain ⟨v1, hcut1, hb1, ho1⟩ := cut_h HBY.out C (by omega)
      obtain ⟨v2, hcut2, hb2, ho2⟩ := cut_l HBY.out C (by omega)
      rw [hck] at hb1; rw [hcd] at hb2
      obtain ⟨o1, c1, rfl, _⟩ := (hb1 wr HBY.out).is
      obtain ⟨o2, c2, rfl, _⟩ := (hb2 wr HBY.out).is
      have hX : SecX G f (from_ + q) k #[.int .i64 ((from_ + q + k : Nat) : Int), .slice o1 (chunk f k).length c1] wr :=
        ⟨o1, c1, rfl, hb1 wr HBY.out, fun j hj => (HBK.out j (by rw [← ho1]; exact hj)).1⟩
      obtain ⟨fn, tmps, assign, body, hy, hR⟩ := HY.out k _ wr hjk (by omega) hX
      have HR := Lib.hid hR
      obtain ⟨i, hi⟩ : ∃ i, i = from_ + q + k := ⟨_, rfl⟩
      rw [← hi] at hy ⊢
      have t1 : decide (0 < (M : Int)) = true := by simp; omega
      have t1n : decide (0 < M) = true := by simp; omega
      have hw2 : IntKind.i64.wrap ((i : Int) + 1) = (i : Int) + 1 := IntWalk.i64_in _ (by omega)
      have HI := Lib.hid hi
      rw [← hC] at hy hcut1 hb1 ho1
      have HB1 := Lib.hid hb1; have HB2 := Lib.hid hb2; have HO1 := Lib.hid ho1; have HO2 := Lib.hid ho2; have HX := Lib.hid hX
      obtain ⟨M2, hM2⟩ : ∃ M2, M2 = (f.drop (64 * (k + 1))).length := ⟨_, rfl⟩
      rw [← hM2] at hcut2 HO2 HB2
      have HM2 := Lib.hid hM2
      clear hR hb1 hb2 ho1 ho2 hX hck hcd hC hM hMl hq2 hjk hM2 hi
      by_cases h64 : 64 < M
      · obtain rfl : C = 64 := by omega
        have hcut1' : ∀ w', (Instr.slice 30 (.slice ao M cap) none (some (.int .i64 64)) none).run Try.prog w' = .ok (.slice o1 64 c1) w' := hcut1
        have hcut2' : ∀ w', (Instr.slice 30 (.slice ao M cap) (some (.int .i64 64)) none none).run Try.prog w' = .ok (.slice o2 M2 c2) w' := hcut2
        clear hcut1 hcut2 hCl
        gi_wp2
        refine HR.out.mono ?_
        rintro e W3 (⟨rfl, hJ3, hk3⟩ | ⟨rfl, hJx3⟩)
        · have h33 := hk3.at h3 HG.out.2.2.1
          have HK3 := Lib.hid hk3; have HJ3 := Lib.hid hJ3
          clear hk3 hJ3 h3
          gi_wp2
          have fs : Fr (fun j => j = p3) W3 (W3.setCell ⟨p3, 0, none⟩ (.slice o2 M2 c2)) := (Fr.refl _ W3).setCell _ (.inl rfl)
          have hbk2 : ∀ j, (Value.slice o2 M2 c2).ownBlock = some j → ¬ G j ∧ j ≠ p3 := fun j hj => HBK.out j (by rw [← HO2.out]; exact hj)
          go_roundw
          case rel =>
            refine ⟨k + 1, by omega, by have := HI.out; congr 1; omega, HST.out (k + 1) W3 _ HJ3.out ⟨fs, _, _, _, h33⟩, (HP2.out.fr HK3.out HG.out.1 HG.out.2.1 HG.out.2.2.2).fr fs HN.out.1 HN.out.2.1 HN.out.2.2, ?_⟩
            unfold SecAt
            rw [← HM2.out]
            exact ⟨o2, c2, by rw [heap_setCell_self, h33]; rfl, ((HB2.out wr HBY.out).fr HK3.out (fun j hj => (hbk2 j hj).1)).fr fs (fun j hj => (hbk2 j hj).2), hbk2⟩
          case measure => have := HI.out; simp [intOf]; omega
        · gi_wp2
          refine bodyPost_ret (results_none rfl _ _ _) rfl ?_
          exact ⟨⟨_, rfl⟩, .inr hJx3⟩
      · obtain rfl : C = M := by omega
        clear hCl
        gi_wp2
        refine HR.out.mono ?_
        rintro e W3 (⟨rfl, hJ3, hk3⟩ | ⟨rfl, hJx3⟩)
        · have h33 := hk3.at h3 HG.out.2.2.1
          have HK3 := Lib.hid hk3; have HJ3 := Lib.hid hJ3
          clear hk3 hJ3 h3
          gi_wp2
          have fs : Fr (fun j => j = p3) W3 (W3.setCell ⟨p3, 0, none⟩ (.slice o2 M2 c2)) := (Fr.refl _ W3).setCell _ (.inl rfl)
          have hbk2 : ∀ j, (Value.slice o2 M2 c2).ownBlock = some j → ¬ G j ∧ j ≠ p3 := fun j hj => HBK.out j (by rw [← HO2.out]; exact hj)
          go_roundw
          case rel =>
            refine ⟨k + 1, by omega, by have := HI.out; congr 1; omega, HST.out (k + 1) W3 _ HJ3.out ⟨fs, _, _, _, h33⟩, (HP2.out.fr HK3.out HG.out.1 HG.out.2.1 HG.out.2.2.2).fr fs HN.out.1 HN.out.2.1 HN.out.2.2, ?_⟩
            unfold SecAt
            rw [← HM2.out]
            exact ⟨o2, c2, by rw [heap_setCell_self, h33]; rfl, ((HB2.out wr HBY.out).fr HK3.out (fun j hj => (hbk2 j hj).1)).fr fs (fun j hj => (hbk2 j hj).2), hbk2⟩
          case measure => have := HI.out; simp [intOf]; omega
        · gi_wp2
          refine bodyPost_ret (results_none rfl _ _ _) rfl ?_
          exact ⟨⟨_, rfl⟩, .inr hJx3⟩
    · obtain rfl : k = (f.length + 63) / 64 := by omega
      have t1 : decide (0 < (M : Int)) = false := by simp; omega
      have t1n : decide (0 < M) = false := by simp; omega
      clear hM hMl
      gi_wp2
      go_end0
      exact ⟨⟨_, rfl⟩, .inl HJK.out⟩
end Go.Proofs.Ytnpeeephkkmomaa
