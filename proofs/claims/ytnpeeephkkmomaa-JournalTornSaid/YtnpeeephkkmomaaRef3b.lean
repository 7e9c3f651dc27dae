/-
  The document's disk: Lasting, Told, Read.
-/
import Derived.Test.YtnpeeephkkmomaaRef3
namespace Go.Proofs.Ytnpeeephkkmomaa
open Go.RowKit Go.Maps Go.Proofs.YtnpeeephkkmomaaW.PrintLast
set_option linter.unusedVariables false
set_option linter.unusedSimpArgs false

theorem pad64_same (l : List UInt8) (h : l.length = 64) : pad64 l = l := by simp [pad64, h]
theorem wf64 (i : Nat) (h : i ≤ 9223372036854775807) : (Lit.int .i64 (i : Int)).wf = true := WalkArith.wf_i64 (by omega)

/-- What a round needs of the document's buffer. -/
theorem IsRef.rec_at {w : World} {rb mb : Nat} {ao : Option Addr} {cap : Nat} {gs : List (Nat × Nat)} {n : Nat} {L : Int → List UInt8} {D : Dk} (h : IsRef w rb mb (.slice ao D.buf.length cap) gs n L D) (k : Nat) (hk : k < D.buf.length) :
    ∃ g cur gk, ao = some ⟨g, 0, none⟩ ∧ w.heap[g]? = some (.cells cur 97 (0, 0)) ∧ k * 2 + 2 ≤ cur.size ∧ cur[k * 2]? = some (.int .i64 (D.buf[k].1 : Int)) ∧ cur[k * 2 + 1]? = some (.slice (some ⟨gk, 0, none⟩) 64 64) ∧
      IsBytes w (.slice (some ⟨gk, 0, none⟩) 64 64) D.buf[k].2 ∧ (∃ x ∈ gs, x.2 = gk) := by
  rcases h.own.2 with ⟨_, h0⟩ | ⟨g, cap', cur, hv, _, hg, hnc, hcm, hcs, ht⟩
  · omega
  · simp only [Value.slice.injEq] at hv
    obtain ⟨rfl, _, rfl⟩ := hv
    have hkg : k < gs.length := by rw [h.len]; exact hk
    have hc := rCells_at gs k hkg
    obtain ⟨e1, e2⟩ := h.recs k hkg hk
    have hq : ∀ j, j < D.buf.length * 2 → cur[j]? = (rCells gs)[j]? := fun j hj => by
      have hq : (cur.toList.take (D.buf.length * 2))[j]? = (rCells gs)[j]? := by rw [ht]
      rwa [List.getElem?_take, if_pos hj, Array.getElem?_toList] at hq
    refine ⟨g, cur, gs[k].2, rfl, hg, by rw [hcs]; omega, ?_, ?_, e2, gs[k], List.getElem_mem hkg, rfl⟩
    · rw [hq _ (by omega), hc.1, e1]
    · rw [hq _ (by omega), hc.2]

set_option maxRecDepth 100000 in
theorem rlasting_any (rb mb : Nat) (bv : Value) (gs : List (Nat × Nat)) (m : Nat) (L : Int → List UInt8) (D : Dk) (w : World) (i : Nat) (h : IsRef w rb mb bv gs m L D) (hi : i ≤ 9223372036854775807) :
    Calls Try.prog 55 #[.pointer (some ⟨rb, 0, none⟩), .int .i64 i] w (BytesPost w (pad64 (L i))) := by
  have HH := Lib.hid h
  have head := h.head
  have hlook := h.map.look i (wf64 i hi)
  clear h
  go_enter Try.func55, Try.ntmps55
  go_wp2_with (go_at_call 20; refine (whole_any _ (L i) _ (bWorld_bytes (L i) w (by have := HH.out.short i; simp [maxLen]; omega)) (HH.out.short i)).mono ?_; rintro e w2 ⟨sb, rfl, hsb, row2, fr2⟩)
  go_ret
  exact ⟨sb, rfl, Nat.le_trans (bWorld_fr _ _).size hsb, row2, (bWorld_fr (L i) w).trans fr2 (fun _ h => h.elim)⟩

/-- What the loop of Told holds. -/
def ToldAt (w : World) (s : List UInt8) (v : Value) (wr : World) : Prop :=
  ∃ g, v = .slice (some ⟨g, 0, none⟩) 64 64 ∧ w.heap.size ≤ g ∧ wr.heap[g]? = some (.cells (Bs s).toArray 5 (0, 0)) ∧ Fr (fun _ => False) w wr

set_option maxRecDepth 100000 in
set_option maxHeartbeats 1000000 in
theorem rtold_any (rb mb : Nat) (bv : Value) (gs : List (Nat × Nat)) (m : Nat) (L : Int → List UInt8) (D : Dk) (w : World) (i : Nat) (h : IsRef w rb mb bv gs m L D) (hi : i < D.secs.length) (hb : D.buf.length ≤ 9223372036854775806) :
    Calls Try.prog 56 #[.pointer (some ⟨rb, 0, none⟩), .int .i64 i] w (BytesPost w (D.told i)) := by
  obtain ⟨ao, cap, rfl⟩ := ownsRow_slice h.own
  have HH := Lib.hid h
  have hi2 : i ≤ 9223372036854775807 := by have := h.ok.most; omega
  have hs64 : (pad64 (L i)).length = 64 := pad64_length _ (h.short i)
  have HT : Hid (D.told i = lastAt (D.buf.take D.buf.length) i (pad64 (L i))) := by
    show _ = _
    rw [List.take_length, Dk.told, h.told i hi]
  clear h hi
  go_enter Try.func56, Try.ntmps56
  go_wp2_with (go_at_call 55; refine (rlasting_any rb mb _ gs m L D w i HH.out hi2).mono ?_; rintro e w2 ⟨sb, rfl, hsb, row2, fr2⟩; rw [hs64])
  have HBASE : Hid (ToldAt w (pad64 (L i)) (.slice (some ⟨sb, 0, none⟩) 64 64) w2) := ⟨sb, rfl, hsb, row2, fr2⟩
  clear hsb row2 fr2 hs64
  go_loopw [5, 6] (fun v c wr => ∃ k : Nat, k ≤ D.buf.length ∧ c = .int .i64 k ∧ ToldAt w (lastAt (D.buf.take k) i (pad64 (L i))) v wr) (fun _ c _ => D.buf.length - (intOf c).toNat)
  case atStart => exact ⟨0, Nat.zero_le _, rfl, HBASE.out⟩
  case round =>
    obtain ⟨k, hk, rfl, g, rfl, hgs, hrow, hfr⟩ := hrel
    rename_i wr
    have HR := Lib.hid hrow; have HF := Lib.hid hfr; have HG := Lib.hid hgs
    clear hrow hfr hgs
    have H2 := HH.out.fr HF.out (fun _ _ h => h)
    have head2 := H2.head
    by_cases hlt : k < D.buf.length
    · obtain ⟨g2, cur, gk, rfl, hg2, hsz, hc0, hc1, hby, _⟩ := H2.rec_at k hlt
      have hb64 := (HH.out.ok.buf _ (List.getElem_mem hlt)).2
      have HBY := Lib.hid hby; clear hby H2
      have hst : lastAt (D.buf.take (k + 1)) i (pad64 (L i)) = if D.buf[k].1 = i then D.buf[k].2 else lastAt (D.buf.take k) i (pad64 (L i)) := by
        rw [List.take_succ_eq_append_getElem hlt, lastAt_snoc]
      have HST := Lib.hid hst; clear hst
      have hw1 : IntKind.i64.wrap ((k : Int) + 1) = (k : Int) + 1 := IntWalk.i64_in _ (by omega)
      generalize D.buf[k] = xx at hc0 HBY HST hb64
      obtain ⟨at_, d⟩ := xx
      simp only at hc0 HBY HST hb64
      have HB64 := Lib.hid hb64; clear hb64
      by_cases hq : at_ = i
      · have hq' : ((at_ : Int) == (i : Int)) = true := by simp [hq]
        have HQ := Lib.hid hq; clear hq
        go_wp2_with (go_at_call 20; refine (whole_any _ d wr HBY.out (by have := HB64.out; omega)).mono ?_; rintro e w5 ⟨nb, rfl, hnb, row5, fr5⟩; rw [pad64_same d HB64.out] at row5 ⊢; rw [HB64.out])
        go_roundw
        case rel => exact ⟨k + 1, by omega, by go_num, nb, rfl, Nat.le_trans HF.out.size hnb, by rw [HST.out, if_pos HQ.out]; exact row5, HF.out.trans fr5 (fun _ h => h.elim)⟩
        case measure => simp [intOf]; omega
      · have hq' : ((at_ : Int) == (i : Int)) = false := by simp; omega
        have HQ := Lib.hid hq; clear hq
        go_wp2
        go_roundw
        case rel => exact ⟨k + 1, by omega, by go_num, g, rfl, HG.out, by rw [HST.out, if_neg HQ.out]; exact HR.out, HF.out⟩
        case measure => simp [intOf]; omega
    · obtain rfl : k = D.buf.length := by omega
      clear H2
      go_wp2
      go_ret
      rw [← HT.out] at HR
      have hl : (D.told i).length = 64 := by
        rw [HT.out]
        exact lastAt_len _ i (fun x hx => (HH.out.ok.buf x (List.mem_of_mem_take hx)).2) _ (pad64_length _ (HH.out.short i))
      exact ⟨g, by rw [hl]; rfl, HG.out, HR.out, HF.out⟩

theorem told_length (D : Dk) (h : D.Ok) (i : Nat) (hi : i < D.secs.length) : (D.told i).length = 64 := by
  refine lastAt_len _ i (fun x hx => (h.buf x hx).2) _ ?_
  rw [List.getD_eq_getElem?_getD, List.getElem?_eq_getElem hi]
  exact h.len _ (List.getElem_mem hi)

set_option maxRecDepth 100000 in
theorem rread_may (rb mb : Nat) (bv : Value) (gs : List (Nat × Nat)) (m : Nat) (L : Int → List UInt8) (D : Dk) (w : World) (i : Int) (h : IsRef w rb mb bv gs m L D) (hm : D.may i ≠ 0) :
    Calls Try.prog 28 #[.pointer (some ⟨rb, 0, none⟩), .int .i64 i] w fun e w' => e = .returned (.tuple #[.slice none 0 0, .int .i64 (D.may i)]) ∧ w = w' := by
  have head := h.head
  have hmm : (if D.down then 32 else if i < 0 ∨ (D.secs.length : Int) ≤ i then 31 else 0 : Int) = D.may i := rfl
  clear h
  cases hd : D.down with
  | true =>
    rw [hd] at head hmm
    have HM := Lib.hid hmm; clear hmm hm
    go_enter Try.func28, Try.ntmps28
    go_wp2
    go_ret2
    rw [← HM.out]; exact ⟨rfl, rfl⟩
  | false =>
    rw [hd] at head hmm
    by_cases h0 : i < 0
    · have h1 : decide (i < 0) = true := by simp; omega
      rw [if_neg (by decide), if_pos (.inl h0)] at hmm
      have HM := Lib.hid hmm; clear hmm hm
      go_enter Try.func28, Try.ntmps28
      go_wp2
      go_ret2
      rw [← HM.out]; exact ⟨rfl, rfl⟩
    · have h1 : decide (i < 0) = false := by simp; omega
      by_cases h2 : (D.secs.length : Int) ≤ i
      · have h3 : decide ((D.secs.length : Int) ≤ i) = true := by simp; omega
        rw [if_neg (by decide), if_pos (.inr h2)] at hmm
        have HM := Lib.hid hmm; clear hmm hm
        go_enter Try.func28, Try.ntmps28
        go_wp2
        go_ret2
        rw [← HM.out]; exact ⟨rfl, rfl⟩
      · rw [if_neg (by decide), if_neg (by omega)] at hmm
        exact absurd hmm.symm hm

/-- What the document's Read hands back. -/
def RReadPost (w : World) (l : List UInt8) (e : Ending) (w' : World) : Prop :=
  ∃ sb, e = .returned (.tuple #[.slice (some ⟨sb, 0, none⟩) 64 64, .int .i64 0]) ∧ w.heap.size ≤ sb ∧ w'.heap[sb]? = some (.cells (Bs l).toArray 5 (0, 0)) ∧ Fr (fun _ => False) w w'

set_option maxRecDepth 100000 in
theorem rread_ok (rb mb : Nat) (bv : Value) (gs : List (Nat × Nat)) (m : Nat) (L : Int → List UInt8) (D : Dk) (w : World) (i : Nat) (h : IsRef w rb mb bv gs m L D) (hd : D.down = false) (hi : i < D.secs.length) (hb : D.buf.length ≤ 9223372036854775806) :
    Calls Try.prog 28 #[.pointer (some ⟨rb, 0, none⟩), .int .i64 i] w (RReadPost w (D.told i)) := by
  have HH := Lib.hid h
  have head := h.head
  rw [hd] at head
  have ht := told_length D h.ok i hi
  have h1 : decide ((i : Int) < 0) = false := by simp
  have h3 : decide (D.secs.length ≤ i) = false := by simp; omega
  have HI := Lib.hid hi; clear hi h
  go_enter Try.func28, Try.ntmps28
  go_wp2_with (go_at_call 56; refine (rtold_any rb mb bv gs m L D w i HH.out HI.out hb).mono ?_; rintro e w2 ⟨sb, rfl, hsb, row2, fr2⟩; rw [ht])
  go_ret2
  exact ⟨sb, rfl, hsb, row2, fr2⟩
end Go.Proofs.Ytnpeeephkkmomaa
