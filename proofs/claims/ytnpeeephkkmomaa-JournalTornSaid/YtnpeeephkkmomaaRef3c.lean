/-
  The document's disk: Write.
-/
import Derived.Test.YtnpeeephkkmomaaRef3b
namespace Go.Proofs.Ytnpeeephkkmomaa
open Go.RowKit Go.Maps Go.Proofs.YtnpeeephkkmomaaW.PrintLast
set_option linter.unusedVariables false
set_option linter.unusedSimpArgs false

theorem bytes_first {w : World} {g : Nat} {l : List UInt8} (h : IsBytes w (.slice (some ⟨g, 0, none⟩) 64 64) l) : ∃ x, w.cell? ⟨g, 0, none⟩ = some (.int .u8 x) := by
  obtain ⟨ao, cap, hv, h1, h2, h3, h4⟩ := h.is
  simp only [Value.slice.injEq] at hv
  obtain ⟨rfl, hl, rfl⟩ := hv
  have := h4 _ rfl 0 _ (Bs_at l 0 (by omega))
  exact ⟨_, this⟩
theorem IsRef.mb_ne {w : World} {rb mb : Nat} {bv : Value} {gs : List (Nat × Nat)} {n : Nat} {L : Int → List UInt8} {D : Dk} (h : IsRef w rb mb bv gs n L D) : mb ≠ rb := by
  intro e; subst e
  obtain ⟨D', ⟨es, ck, hb, _⟩, _⟩ := h.map
  rw [h.head] at hb; cases hb
theorem IsRef.bv_ne {w : World} {rb mb : Nat} {bv : Value} {gs : List (Nat × Nat)} {n : Nat} {L : Int → List UInt8} {D : Dk} (h : IsRef w rb mb bv gs n L D) : ∀ k, bv.ownBlock = some k → k ≠ rb ∧ k ≠ mb := by
  intro k hk
  rcases h.own.2 with ⟨rfl, _⟩ | ⟨g, cap, cur, rfl, _, hg, _⟩
  · cases hk
  · cases hk
    refine ⟨fun e => ?_, fun e => ?_⟩
    · subst e; rw [h.head] at hg; cases hg
    · subst e
      obtain ⟨D', ⟨es, ck, hb, _⟩, _⟩ := h.map
      rw [hg] at hb; cases hb
theorem IsRef.gs_ne {w : World} {rb mb : Nat} {bv : Value} {gs : List (Nat × Nat)} {n : Nat} {L : Int → List UInt8} {D : Dk} (h : IsRef w rb mb bv gs n L D) : ∀ x ∈ gs, x.2 ≠ rb ∧ x.2 ≠ mb ∧ bv.ownBlock ≠ some x.2 := by
  intro x hx
  obtain ⟨j, hj, rfl⟩ := List.getElem_of_mem hx
  obtain ⟨y, hy⟩ := bytes_first (h.recs j hj (by rw [← h.len]; exact hj)).2
  refine ⟨fun e => ?_, fun e => ?_, fun e => ?_⟩
  · rw [e, cells_at h.head] at hy; cases hy
  · rw [e, cell?_mk] at hy
    obtain ⟨D', ⟨es, ck, hb, _⟩, _⟩ := h.map
    rw [hb] at hy; cases hy
  · rcases h.own.2 with ⟨hn, _⟩ | ⟨g, cap, cur, hv, _, hg, hnc, hcm, hcs, ht⟩
    · rw [hn] at e; cases e
    · rw [hv] at e; simp only [Value.ownBlock, Option.some.injEq] at e
      have hc := (rCells_at gs 0 (by omega)).1
      rw [← e, cells_at hg] at hy
      have hq : (cur.toList.take (D.buf.length * 2))[0]? = (rCells gs)[0]? := by rw [ht]
      rw [List.getElem?_take, if_pos (by rw [← h.len]; omega), Array.getElem?_toList, hy] at hq
      rw [show (0 : Nat) * 2 = 0 from rfl, ← hq] at hc
      cases hc
/-- Its numbers alone have turned. -/
theorem IsRef.turn {w w' : World} {rb mb : Nat} {bv : Value} {gs : List (Nat × Nat)} {n : Nat} {L : Int → List UInt8} {D : Dk} (h : IsRef w rb mb bv gs n L D) {a : Int} {d : Bool} (hf : Fr (fun k => k = rb) w w')
    (hh : w'.heap[rb]? = some (.cells #[.int .i64 D.secs.length, .map (some mb), bv, .int .i64 a, .bool d] 95 (0, 0))) (ha : -1 ≤ a ∧ a ≤ 9223372036854775807) : IsRef w' rb mb bv gs n L { D with armed := a, down := d } :=
  ⟨hh, h.map.fr hf h.mb_ne, ownsRow_fr h.own hf (fun k hk => (h.bv_ne k hk).1), h.len,
    fun j hj hj' => ⟨(h.recs j hj hj').1, (h.recs j hj hj').2.fr hf (fun k hk => by cases hk; exact (h.gs_ne _ (List.getElem_mem hj)).1)⟩, h.told, h.short, ⟨h.ok.one, h.ok.most, h.ok.len, h.ok.buf, ha⟩⟩

set_option maxRecDepth 100000 in
theorem rwrite_may (rb mb : Nat) (bv : Value) (gs : List (Nat × Nat)) (m : Nat) (L : Int → List UInt8) (D : Dk) (w : World) (i : Int) (v : Value) (h : IsRef w rb mb bv gs m L D) (hm : D.may i ≠ 0) :
    Calls Try.prog 24 #[.pointer (some ⟨rb, 0, none⟩), .int .i64 i, v] w fun e w' => e = .returned (.int .i64 (D.may i)) ∧ w = w' := by
  have head := h.head
  have hmm : (if D.down then 32 else if i < 0 ∨ (D.secs.length : Int) ≤ i then 31 else 0 : Int) = D.may i := rfl
  clear h
  cases hd : D.down with
  | true =>
    rw [hd] at head hmm
    have HM := Lib.hid hmm; clear hmm hm
    go_enter Try.func24, Try.ntmps24
    go_wp2
    go_ret
    rw [← HM.out]; exact ⟨rfl, rfl⟩
  | false =>
    rw [hd] at head hmm
    by_cases h0 : i < 0
    · have h1 : decide (i < 0) = true := by simp; omega
      rw [if_neg (by decide), if_pos (.inl h0)] at hmm
      have HM := Lib.hid hmm; clear hmm hm
      go_enter Try.func24, Try.ntmps24
      go_wp2
      go_ret
      rw [← HM.out]; exact ⟨rfl, rfl⟩
    · have h1 : decide (i < 0) = false := by simp; omega
      by_cases h2 : (D.secs.length : Int) ≤ i
      · have h3 : decide ((D.secs.length : Int) ≤ i) = true := by simp; omega
        rw [if_neg (by decide), if_pos (.inr h2)] at hmm
        have HM := Lib.hid hmm; clear hmm hm
        go_enter Try.func24, Try.ntmps24
        go_wp2
        go_ret
        rw [← HM.out]; exact ⟨rfl, rfl⟩
      · rw [if_neg (by decide), if_neg (by omega)] at hmm
        exact absurd hmm.symm hm

set_option maxRecDepth 100000 in
theorem rwrite_long (rb mb : Nat) (bv : Value) (gs : List (Nat × Nat)) (m : Nat) (L : Int → List UInt8) (D : Dk) (w : World) (i : Nat) (v : Value) (l : List UInt8) (h : IsRef w rb mb bv gs m L D) (hd : D.down = false) (hi : i < D.secs.length) (hv : IsBytes w v l) (hl : 64 < l.length) :
    Calls Try.prog 24 #[.pointer (some ⟨rb, 0, none⟩), .int .i64 i, v] w fun e w' => e = .returned (.int .i64 3) ∧ w = w' := by
  have head := h.head
  rw [hd] at head
  have h1 : decide ((i : Int) < 0) = false := by simp
  have h3 : decide (D.secs.length ≤ i) = false := by simp; omega
  have h4 : decide ((64 : Int) < (l.length : Int)) = true := by simp; omega
  obtain ⟨vo, vc, rfl, _⟩ := hv.is
  clear h hi
  go_enter Try.func24, Try.ntmps24
  go_wp2
  go_ret
  exact ⟨rfl, rfl⟩

set_option maxRecDepth 100000 in
set_option maxHeartbeats 2000000 in
theorem rwrite_ok (rb mb : Nat) (bv : Value) (gs : List (Nat × Nat)) (m : Nat) (L : Int → List UInt8) (D : Dk) (w : World) (i : Nat) (v : Value) (l : List UInt8) (h : IsRef w rb mb bv gs m L D) (hd : D.down = false) (hi : i < D.secs.length) (hv : IsBytes w v l) (hl : l.length ≤ 64)
    (hroom : D.buf.length ≤ 2932031007402) :
    Calls Try.prog 24 #[.pointer (some ⟨rb, 0, none⟩), .int .i64 i, v] w fun e w' => e = .returned (.int .i64 0) ∧ ∃ bv' gs', IsRef w' rb mb bv' gs' m L (D.written i l) ∧ Mv (rFoot rb mb bv gs) (rFoot rb mb bv' gs') w w' := by
  obtain ⟨i97, hinfo, hz0, hz1, hz2⟩ := info_parts info97'
  have HH := Lib.hid h
  have head := h.head
  rw [hd] at head
  have h1 : decide ((i : Int) < 0) = false := by simp
  have h3 : decide (D.secs.length ≤ i) = false := by simp; omega
  have h4 : decide ((64 : Int) < (l.length : Int)) = false := by simp; omega
  have HV := Lib.hid hv; clear hv
  obtain ⟨vo, vc, hvv, _⟩ := HV.out.is
  obtain ⟨ao, cap, rfl⟩ := ownsRow_slice h.own
  have hp64 := pad64_length l hl
  have HI := Lib.hid hi
  clear h hi
  go_enter Try.func24, Try.ntmps24
  subst hvv
  go_wp2
  refine start_ (n := 14) (S := fun w' => w'.heap[rb]? = some (.cells #[.int .i64 D.secs.length, .map (some mb), .slice ao D.buf.length cap, .int .i64 D.armed, .bool false] 95 (0, 0))) (ds := [13]) #[false, false, false, false, false, false, false, false, false, false, false, false, false, false] (by kernel_rfl) rfl rfl (head) (fun hHeld => ?_)
  refine pure_ (i := 0) (N := some 24) (v := ?_) (a' := ?_) #[true, false, false, false, false, false, false, false, false, false, false, false, false, false] rfl rfl (by kernel_rfl) (fun _ _ _ h => h) (Or.inl ⟨by rfl, ?_⟩) ?_ ?_
  rotate_left
  · intro w'
    try simp only [List.getElem_toArray, List.getElem_cons_succ, List.getElem_cons_zero]
    go_simp
    with_reducible rfl
  rotate_left
  · simp only [Act.put, List.setIfInBounds_toArray, List.set_cons_zero, List.set_cons_succ, i64_w, i32_w]
    rfl
  refine pure_ (i := 1) (N := some 25) (v := ?_) (a' := ?_) #[true, true, false, false, false, false, false, false, false, false, false, false, false, false] rfl rfl (by kernel_rfl) (fun _ _ _ h => h) (Or.inl ⟨by rfl, ?_⟩) ?_ ?_
  rotate_left
  · intro w'
    try simp only [List.getElem_toArray, List.getElem_cons_succ, List.getElem_cons_zero]
    go_simp
    with_reducible rfl
  rotate_left
  · simp only [Act.put, List.setIfInBounds_toArray, List.set_cons_zero, List.set_cons_succ, i64_w, i32_w]
    rfl
  refine pure_ (i := 2) (N := some 26) (v := ?_) (a' := ?_) #[true, true, true, false, false, false, false, false, false, false, false, false, false, false] rfl rfl (by kernel_rfl) (fun _ _ _ h => h) (Or.inl ⟨by rfl, ?_⟩) ?_ ?_
  rotate_left
  · intro w'
    try simp only [List.getElem_toArray, List.getElem_cons_succ, List.getElem_cons_zero]
    go_simp
    with_reducible rfl
  rotate_left
  · simp only [Act.put, List.setIfInBounds_toArray, List.set_cons_zero, List.set_cons_succ, i64_w, i32_w]
    rfl
  refine pure_ (i := 3) (N := some 27) (v := ?_) (a' := ?_) #[true, true, true, true, false, false, false, false, false, false, false, false, false, false] rfl rfl (by kernel_rfl) (fun _ _ _ h => h) (Or.inl ⟨by rfl, ?_⟩) ?_ ?_
  rotate_left
  · intro w'
    try simp only [List.getElem_toArray, List.getElem_cons_succ, List.getElem_cons_zero]
    go_simp
    with_reducible rfl
  rotate_left
  · simp only [Act.put, List.setIfInBounds_toArray, List.set_cons_zero, List.set_cons_succ, i64_w, i32_w]
    rfl
  refine pure_ (i := 5) (N := some 29) (v := ?_) (a' := ?_) #[true, true, true, true, false, true, false, false, false, false, false, false, false, false] rfl rfl (by kernel_rfl) (fun _ _ _ h => h) (Or.inl ⟨by rfl, ?_⟩) ?_ ?_
  rotate_left
  · intro w'
    try simp only [List.getElem_toArray, List.getElem_cons_succ, List.getElem_cons_zero]
    go_simp
    with_reducible rfl
  rotate_left
  · simp only [Act.put, List.setIfInBounds_toArray, List.set_cons_zero, List.set_cons_succ, i64_w, i32_w]
    rfl
  refine pure_ (i := 6) (N := some 30) (v := ?_) (a' := ?_) #[true, true, true, true, false, true, true, false, false, false, false, false, false, false] rfl rfl (by kernel_rfl) (fun _ _ _ h => h) (Or.inl ⟨by rfl, ?_⟩) ?_ ?_
  rotate_left
  · intro w'
    try simp only [List.getElem_toArray, List.getElem_cons_succ, List.getElem_cons_zero]
    go_simp
    with_reducible rfl
  rotate_left
  · simp only [Act.put, List.setIfInBounds_toArray, List.set_cons_zero, List.set_cons_succ, i64_w, i32_w]
    rfl
  refine take_ (i := 4) (N := some 28) (v := ?_) (a' := ?_) #[true, true, true, true, true, true, true, false, false, false, false, false, false, false] rfl rfl (by kernel_rfl) (fun _ _ _ h => h) (Or.inl ⟨by rfl, ?_⟩) hHeld ?_ ?_
  rotate_left
  · intro w' s0
    try simp only [List.getElem_toArray, List.getElem_cons_succ, List.getElem_cons_zero]
    go_simp
    with_reducible rfl
  rotate_left
  · simp only [Act.put, List.setIfInBounds_toArray, List.set_cons_zero, List.set_cons_succ, i64_w, i32_w]
    rfl
  refine one_ (i := 7) (N := some 31) #[true, true, true, true, true, true, true, true, false, false, false, false, false, false] rfl rfl (by kernel_rfl) (by decide) (fun K hK => ?_)
  refine goes_ Try.func20 (by kernel_rfl) rfl #[.slice vo l.length vc] (by rfl) rfl rfl (by simp only [List.map_toArray, List.map_cons, List.map_nil]; rfl) ?_
  with_reducible refine (whole_any _ l w.drew (HV.out.fr (F := fun _ => False) (Fr.refl _ w).drew (fun _ _ h => h)) hl).mono ?_
  rintro e w2 ⟨nb, rfl, hnb, row2, fr2⟩
  refine ⟨_, rfl, ?_⟩
  rw [hp64]
  have H2 := Lib.hid (HH.out.fr ((Fr.refl (fun _ => False) w).drew.trans fr2 (fun _ h => h.elim)) (fun _ _ h => h))
  have head2 := H2.out.head
  rw [hd] at head2
  refine hK.out _ _ (head2) (fun hHeld => ?_)
  clear hK K
  refine norm_ (a' := ?_) ?_ ?_
  rotate_left
  · show Act.put _ (some 31) _ = _
    simp only [Act.put, List.setIfInBounds_toArray, List.set_cons_zero, List.set_cons_succ, i64_w, i32_w]
    rfl
  refine pure_ (i := 8) (N := some 32) (v := ?_) (a' := ?_) #[true, true, true, true, true, true, true, true, true, false, false, false, false, false] rfl rfl (by kernel_rfl) (fun _ _ _ h => h) (Or.inl ⟨by rfl, ?_⟩) ?_ ?_
  rotate_left
  · intro w'
    try simp only [List.getElem_toArray, List.getElem_cons_succ, List.getElem_cons_zero]
    go_simp
    with_reducible rfl
  rotate_left
  · simp only [Act.put, List.setIfInBounds_toArray, List.set_cons_zero, List.set_cons_succ, i64_w, i32_w]
    rfl
  refine one_ (i := 9) (N := some 33) #[true, true, true, true, true, true, true, true, true, true, false, false, false, false] rfl rfl (by kernel_rfl) (by decide) (fun K hK => ?_)
  refine value_ (w1 := ?_) (v := ?_) (by rfl) rfl ?_ ?_
  rotate_left 2
  · try simp only [List.getElem_toArray, List.getElem_cons_succ, List.getElem_cons_zero]
    go_simp
    constructor
    · rfl
    · rfl
  refine hK.out _ _ ((heap_alloc _ _ rb (lt_of_block head2)).trans head2) (fun hHeld => ?_)
  clear hK K
  refine norm_ (a' := ?_) ?_ ?_
  rotate_left
  · show Act.put _ (some 33) _ = _
    simp only [Act.put, List.setIfInBounds_toArray, List.set_cons_zero, List.set_cons_succ, i64_w, i32_w]
    rfl
  refine one_ (i := 10) (N := some 34) #[true, true, true, true, true, true, true, true, true, true, true, false, false, false] rfl rfl (by kernel_rfl) (by decide) (fun K hK => ?_)
  refine step_append (by rfl) (.tmp 28) (.tmp 33) 93 rfl 97 i97 _ 2 32 Try.underlying93 hinfo hz0 hz1 hz2 rfl (by decide) (.slice ao D.buf.length cap) D.buf.length (rCells gs) rfl (ownsRow_fr H2.out.own ((Fr.refl (fun _ => False) _).alloc _) (fun _ _ h => h)) ⟨w2.heap.size, 0, none⟩ 1 1 (rRec (i, nb)) rfl rfl (fun j u hu => by rw [Addr.add_mk, Nat.zero_add]; exact (cells_at (heap_alloc_at w2 _) j).trans (by simpa [rRec] using hu)) (by intro u hu; simp only [rRec, List.mem_cons, List.not_mem_nil, or_false] at hu; rcases hu with rfl | rfl <;> rfl) (Room.one (by unfold maxLen; omega) (by decide) (by omega)) ?_
  intro v3 w3 own3 gr3 fresh3
  obtain ⟨ao3, cap3, rfl⟩ := ownsRow_slice own3
  have fr3 := ((Fr.refl (fun k => (Value.slice ao D.buf.length cap).ownBlock = some k) w2).alloc (.cells #[.int .i64 i, .slice (some ⟨nb, 0, none⟩) 64 64] 97 (0, 0))).trans gr3 (fun k hk => .inl hk)
  have head4 := fr3.at head2 (fun e => (H2.out.bv_ne _ e).1 rfl)
  refine hK.out _ _ (head4) (fun hHeld => ?_)
  clear hK K
  refine norm_ (a' := ?_) ?_ ?_
  rotate_left
  · show Act.put _ (some 34) _ = _
    simp only [Act.put, List.setIfInBounds_toArray, List.set_cons_zero, List.set_cons_succ, i64_w, i32_w]
    rfl
  refine pure_ (i := 11) (N := some 35) (v := ?_) (a' := ?_) #[true, true, true, true, true, true, true, true, true, true, true, true, false, false] rfl rfl (by kernel_rfl) (fun _ _ _ h => h) (Or.inl ⟨by rfl, ?_⟩) ?_ ?_
  rotate_left
  · intro w'
    try simp only [List.getElem_toArray, List.getElem_cons_succ, List.getElem_cons_zero]
    go_simp
    with_reducible rfl
  rotate_left
  · simp only [Act.put, List.setIfInBounds_toArray, List.set_cons_zero, List.set_cons_succ, i64_w, i32_w]
    rfl
  refine pure_ (i := 12) (N := some 36) (v := ?_) (a' := ?_) #[true, true, true, true, true, true, true, true, true, true, true, true, true, false] rfl rfl (by kernel_rfl) (fun _ _ _ h => h) (Or.inl ⟨by rfl, ?_⟩) ?_ ?_
  rotate_left
  · intro w'
    try simp only [List.getElem_toArray, List.getElem_cons_succ, List.getElem_cons_zero]
    go_simp
    with_reducible rfl
  rotate_left
  · simp only [Act.put, List.setIfInBounds_toArray, List.set_cons_zero, List.set_cons_succ, i64_w, i32_w]
    rfl
  refine last_ (i := 13) (N := none) #[true, true, true, true, true, true, true, true, true, true, true, true, true, true] rfl rfl (by kernel_rfl) (by decide) (fun K hK => ?_)
  refine skip_ (w1 := ?_) (by rfl) rfl ?_ ?_
  rotate_left
  · try simp only [List.getElem_toArray, List.getElem_cons_succ, List.getElem_cons_zero]
    go_simp
    rfl
  refine hK.out _ _ ?_
  clear hK K
  refine done_ (by kernel_rfl) ?_

  have hsz2 : w.heap.size ≤ w2.heap.size := fr2.size
  replace hnb : w.heap.size ≤ nb := hnb
  have hnb2 : nb < w2.heap.size := lt_of_block row2
  have ow3 : ∀ k, (Value.slice ao3 (D.buf.length + 1) cap3).ownBlock = some k → (Value.slice ao D.buf.length cap).ownBlock = some k ∨ w2.heap.size < k := by
    intro k hk
    rcases fresh3 with h | h
    · rw [h] at hk; exact .inl hk
    · rw [hk] at h; simp at h; right; omega
  have hlt2 := H2.out.lt
  have nrb3 : (Value.slice ao3 (D.buf.length + 1) cap3).ownBlock ≠ some rb := by
    intro e
    rcases ow3 rb e with h | h
    · exact (H2.out.bv_ne _ h).1 rfl
    · have := hlt2 rb (.inl rfl); omega
  have hw4 : (w3.setCell ⟨rb, 2, none⟩ (.slice ao3 (D.buf.length + 1) cap3)).heap[rb]? = some (.cells #[.int .i64 D.secs.length, .map (some mb), .slice ao3 (D.buf.length + 1) cap3, .int .i64 D.armed, .bool false] 95 (0, 0)) := by
    rw [heap_setCell_self, head4]; rfl
  have fr34 : Fr (fun k => k = rb) w3 (w3.setCell ⟨rb, 2, none⟩ (.slice ao3 (D.buf.length + 1) cap3)) := (Fr.refl _ _).setCell _ (.inl rfl)
  have own4 := ownsRow_fr own3 fr34 (fun k hk e => nrb3 (by rw [hk, e]))
  have map4 := (H2.out.map.fr fr3 (fun e => (H2.out.bv_ne _ e).2 rfl)).fr fr34 H2.out.mb_ne
  have nbne : ∀ k, rFoot rb mb (.slice ao D.buf.length cap) gs k → k ≠ nb := fun k hk e => by have := HH.out.lt k hk; omega
  have recs4 : ∀ x d, x ≠ rb → (Value.slice ao D.buf.length cap).ownBlock ≠ some x → IsBytes w2 (.slice (some ⟨x, 0, none⟩) 64 64) d → IsBytes (w3.setCell ⟨rb, 2, none⟩ (.slice ao3 (D.buf.length + 1) cap3)) (.slice (some ⟨x, 0, none⟩) 64 64) d :=
    fun x d hx1 hx2 hb => (hb.fr fr3 (fun k hk e => by cases hk; exact hx2 e)).fr fr34 (fun k hk e => by cases hk; exact hx1 e)
  have nb4 : IsBytes (w3.setCell ⟨rb, 2, none⟩ (.slice ao3 (D.buf.length + 1) cap3)) (.slice (some ⟨nb, 0, none⟩) 64 64) (pad64 l) := by
    refine recs4 nb _ (fun e => nbne rb (.inl rfl) e.symm) (fun e => nbne nb (.inr (.inr (.inl e))) rfl) ?_
    have := IsBytes.of_cells row2 (by rw [hp64]; decide)
    rwa [hp64] at this
  have ref4 : IsRef (w3.setCell ⟨rb, 2, none⟩ (.slice ao3 (D.buf.length + 1) cap3)) rb mb (.slice ao3 (D.buf.length + 1) cap3) (gs ++ [(i, nb)]) m L { D with buf := D.buf ++ [(i, pad64 l)] } := by
    refine ⟨by rw [hw4]; simp [hd], map4, ?_, ?_, ?_, HH.out.told, HH.out.short, ⟨HH.out.ok.one, HH.out.ok.most, HH.out.ok.len, ?_, HH.out.ok.armed⟩⟩
    · have e : rCells (gs ++ [(i, nb)]) = rCells gs ++ rRec (i, nb) := by rw [rCells_append]; simp [rCells]
      rw [e, List.length_append]; exact own4
    · simp [HH.out.len]
    · intro j hj hj'
      by_cases hjl : j < gs.length
      · have hjb : j < D.buf.length := by rw [← HH.out.len]; exact hjl
        simp only [List.getElem_append_left hjl, List.getElem_append_left hjb]
        have hr := H2.out.recs j hjl hjb
        have hne := H2.out.gs_ne _ (List.getElem_mem hjl)
        exact ⟨hr.1, recs4 _ _ hne.1 hne.2.2 hr.2⟩
      · have e1 : j = gs.length := by simp at hj; omega
        subst e1
        have e2 : gs.length = D.buf.length := HH.out.len
        simp only [List.getElem_concat_length, e2]
        exact ⟨trivial, nb4⟩
    · intro x hx
      rcases List.mem_append.1 hx with h | h
      · exact HH.out.ok.buf x h
      · rw [List.mem_singleton.1 h]; exact ⟨HI.out, hp64⟩
  have REF4 := Lib.hid ref4
  have mv4 : Mv (rFoot rb mb (.slice ao D.buf.length cap) gs) (rFoot rb mb (.slice ao3 (D.buf.length + 1) cap3) (gs ++ [(i, nb)])) w (w3.setCell ⟨rb, 2, none⟩ (.slice ao3 (D.buf.length + 1) cap3)) := by
    refine ⟨(((Fr.refl _ w).drew.trans fr2 (fun _ h => h.elim)).trans fr3 (fun k hk => .inl (.inr (.inr (.inl hk))))).trans fr34 (fun k hk => .inl (.inl hk)), ?_⟩
    rintro k (hk | hk | hk | ⟨x, hx, rfl⟩)
    · exact .inl (.inl hk)
    · exact .inl (.inr (.inl hk))
    · rcases ow3 k hk with h | h
      · exact .inl (.inr (.inr (.inl h)))
      · exact .inr (by omega)
    · rcases List.mem_append.1 hx with h | h
      · exact .inl (.inr (.inr (.inr ⟨x, h, rfl⟩)))
      · rw [List.mem_singleton.1 h]; exact .inr hnb
  have MV4 := Lib.hid mv4
  clear ref4 mv4 nb4 recs4 nbne map4 own4 fr34 nrb3 hlt2 ow3 hnb2 hsz2 head4 own3 gr3 fresh3 fr3 row2 fr2 hnb head2 head
  generalize w3.setCell ⟨rb, 2, none⟩ (.slice ao3 (D.buf.length + 1) cap3) = w4 at *
  go_wp2_with (go_at_call 54; refine (rchange_any rb w4 _ _ _ D.armed HH.out.ok.armed.2 hw4).mono ?_; rintro e w5 ⟨rfl, head5, fr5⟩)
  go_ret
  refine ⟨rfl, _, _, ?_, MV4.out.trans ⟨fr5.mono (fun k _ h => .inl h), fun k h => .inl h⟩⟩
  have := REF4.out.turn fr5 (by simpa using head5) (by have := HH.out.ok.armed; split <;> omega)
  simpa [Dk.written, Dk.changed, hd] using this
end Go.Proofs.Ytnpeeephkkmomaa
