/-
  The walks of the disk's functions: Write, Flush.
-/
import Derived.Test.YtnpeeephkkmomaaTyp
import Derived.Test.YtnpeeephkkmomaaDsk
import Derived.Test.YtnpeeephkkmomaaWLast
namespace Go.Proofs.Ytnpeeephkkmomaa
open Go.RowKit Go.Proofs.YtnpeeephkkmomaaW.PrintLast
set_option linter.unusedVariables false
set_option linter.unusedSimpArgs false

theorem W89_splice (i : Nat) (l : List UInt8) (hl : l.length ≤ 64) : splice (W89 i) 1 (Bs l) = (recOf (i, pad64 l)).toArray := by
  apply Array.toList_inj.1
  rw [splice_toList]
  simp only [W89, recOf, pad64, Bs_append, Bs_length]
  rw [Nat.add_comm 1 l.length, List.take_succ_cons, List.take_zero, List.drop_succ_cons, List.drop_replicate]
  simp [Bs, List.map_replicate]

set_option maxRecDepth 100000 in
set_option maxHeartbeats 1000000 in
theorem write_ok (b lb cl : Nat) (sp : Array Value) (wv : Value) (D : Dk) (w : World) (i : Nat) (v : Value) (l : List UInt8) (h : IsDk w b lb cl sp wv D) (hd : D.down = false) (hi : i < D.secs.length) (hl : l.length ≤ 64)
    (hv : IsBytes w v l) (hroom : D.buf.length ≤ 2932031007402) :
    Calls Try.prog 16 #[.pointer (some ⟨b, 0, none⟩), .int .i64 i, v] w fun e w' => e = .returned (.int .i64 0) ∧ ∃ wv', IsDk w' b lb cl sp wv' (D.written i l) ∧ Mv (dkFoot b lb wv) (dkFoot b lb wv') w w' := by
  obtain ⟨i89, hinfo, hz0, hz1, hz2⟩ := info_parts info89'
  have hlt := h.lt
  obtain ⟨ok, head, row, own, ne1, ne2, ne3⟩ := h
  have hv0 := hv.alloc (.cells (W89 i) 89 (0, 0))
  obtain ⟨ao, cap, hvv, hc1, hc2, hc3, hc4⟩ := hv.is
  have hbl := lt_of_block head
  have hmost := ok.most
  have H4 := Lib.hid hc4; clear hc4
  have HV := Lib.hid hv; clear hv
  have HV0 := Lib.hid hv0; clear hv0
  have HOWN := Lib.hid own; clear own
  have HLT := Lib.hid hlt; clear hlt
  have hle : decide ((64 : Int) < (l.length : Int)) = false := by simp; omega
  have hneg : ¬ ((i : Int) < 0 ∨ (D.secs.length : Int) ≤ (i : Int)) := by omega
  have HOK := Lib.hid ok; clear ok
  rw [hd] at head
  go_enter Try.func16, Try.ntmps16
  subst hvv
  go_wp2_with (first
    | (go_at_call 51; refine (may_at b lb D.secs.length cl wv D.armed false w i head).mono ?_; rintro e w' ⟨rfl, rfl⟩; simp only [hneg, if_false, Bool.false_eq_true])
    | (refine wpList_copy_bytes rfl (.tmp 21) (.tmp 22) 30 30 5 rfl Try.underlying30 (by kernel_rfl) w.heap.size 1 64 64 rfl _ l rfl HV0.out (W89 i) 89 (heap_alloc_at _ _) (by rw [W89_size]; omega) ?_; rw [setRow_alloc_new, List.take_of_length_le hl, W89_splice i l hl]))
  have hw2 := (Fr.refl (dkFoot b lb wv) w).alloc (.cells (recOf (i, pad64 l)).toArray 89 (0, 0))
  have hnb : ∀ k, dkFoot b lb wv k → k ≠ w.heap.size := fun k hk => by have := HLT.out k hk; omega
  have own2 := ownsRow_fr (F := fun _ => False) HOWN.out ((Fr.refl _ w).alloc (.cells (recOf (i, pad64 l)).toArray 89 (0, 0))) (fun _ _ h => h)
  have head2 := (heap_alloc w (.cells (recOf (i, pad64 l)).toArray 89 (0, 0)) b hbl).trans head
  have row2 := (heap_alloc w (.cells (recOf (i, pad64 l)).toArray 89 (0, 0)) lb (lt_of_block row)).trans row
  have new2 := heap_alloc_at w (.cells (recOf (i, pad64 l)).toArray 89 (0, 0))
  have sz2 : (w.alloc (.cells (recOf (i, pad64 l)).toArray 89 (0, 0))).heap.size = w.heap.size + 1 := by simp
  generalize hww : w.alloc (.cells (recOf (i, pad64 l)).toArray 89 (0, 0)) = w2 at *
  clear hww
  generalize hnw : w.heap.size = nb at *
  have HNW := Lib.hid hnw; clear hnw
  have hbn : b ≠ nb := hnb b (.inl rfl)
  have hwn : wv.ownBlock ≠ some nb := fun e => hnb nb (.inr (.inr e)) rfl
  have hrl : (recOf (i, pad64 l)).length = 65 := recOf_length _ (pad64_length l hl)
  have hro : ∀ u ∈ recOf (i, pad64 l), u.oneCell' = true := by
    intro u hu; simp only [recOf, List.mem_cons] at hu; rcases hu with rfl | hu
    · rfl
    · exact Bs_one _ u hu
  have hrx : sub (recOf (i, pad64 l)).toArray 0 65 = (recOf (i, pad64 l)).toArray := sub_whole _ _ (by simpa using hrl)
  have hrs : (recOf (i, pad64 l)).toArray.size = 65 := by simpa using hrl
  clear head row
  have HW2 := Lib.hid hw2; clear hw2
  have HNB := Lib.hid hnb; clear hnb
  have OWN2 := Lib.hid own2; clear own2
  have HRL := Lib.hid hrl; clear hrl
  have HRO := Lib.hid hro; clear hro
  have SZ2 := Lib.hid sz2; clear sz2
  have ROW2 := Lib.hid row2; clear row2
  refine start_ (n := 11) (S := fun w' => w'.heap[b]? = some (.cells #[.slice (some ⟨lb, 0, none⟩) D.secs.length cl, wv, .int .i64 D.armed, .bool false] 84 (0, 0)) ∧ w'.heap[nb]? = some (.cells (recOf (i, pad64 l)).toArray 89 (0, 0))) (ds := [10]) #[false, false, false, false, false, false, false, false, false, false, false] (by kernel_rfl) rfl rfl ⟨head2, new2⟩ (fun hHeld => ?_)
  refine pure_ (i := 0) (N := some 24) (v := ?_) (a' := ?_) #[true, false, false, false, false, false, false, false, false, false, false] rfl rfl (by kernel_rfl) (fun _ _ _ h => h) (Or.inl ⟨by rfl, ?_⟩) ?_ ?_
  rotate_left
  · intro w'
    try simp only [List.getElem_toArray, List.getElem_cons_succ, List.getElem_cons_zero]
    go_simp
    with_reducible rfl
  rotate_left
  · simp only [Act.put, List.setIfInBounds_toArray, List.set_cons_zero, List.set_cons_succ, i64_w, i32_w]
    rfl
  refine pure_ (i := 1) (N := some 25) (v := ?_) (a' := ?_) #[true, true, false, false, false, false, false, false, false, false, false] rfl rfl (by kernel_rfl) (fun _ _ _ h => h) (Or.inl ⟨by rfl, ?_⟩) ?_ ?_
  rotate_left
  · intro w'
    try simp only [List.getElem_toArray, List.getElem_cons_succ, List.getElem_cons_zero]
    go_simp
    with_reducible rfl
  rotate_left
  · simp only [Act.put, List.setIfInBounds_toArray, List.set_cons_zero, List.set_cons_succ, i64_w, i32_w]
    rfl
  refine pure_ (i := 2) (N := some 26) (v := ?_) (a' := ?_) #[true, true, true, false, false, false, false, false, false, false, false] rfl rfl (by kernel_rfl) (fun _ _ _ h => h) (Or.inl ⟨by rfl, ?_⟩) ?_ ?_
  rotate_left
  · intro w'
    try simp only [List.getElem_toArray, List.getElem_cons_succ, List.getElem_cons_zero]
    go_simp
    with_reducible rfl
  rotate_left
  · simp only [Act.put, List.setIfInBounds_toArray, List.set_cons_zero, List.set_cons_succ, i64_w, i32_w]
    rfl
  refine pure_ (i := 3) (N := some 27) (v := ?_) (a' := ?_) #[true, true, true, true, false, false, false, false, false, false, false] rfl rfl (by kernel_rfl) (fun _ _ _ h => h) (Or.inl ⟨by rfl, ?_⟩) ?_ ?_
  rotate_left
  · intro w'
    try simp only [List.getElem_toArray, List.getElem_cons_succ, List.getElem_cons_zero]
    go_simp
    with_reducible rfl
  rotate_left
  · simp only [Act.put, List.setIfInBounds_toArray, List.set_cons_zero, List.set_cons_succ, i64_w, i32_w]
    rfl
  refine take_ (i := 4) (N := some 28) (v := ?_) (a' := ?_) #[true, true, true, true, true, false, false, false, false, false, false] rfl rfl (by kernel_rfl) (fun _ _ _ h => h) (Or.inl ⟨by rfl, ?_⟩) hHeld ?_ ?_
  rotate_left
  · rintro w' ⟨s0, s1⟩
    try simp only [List.getElem_toArray, List.getElem_cons_succ, List.getElem_cons_zero]
    go_simp
    with_reducible rfl
  rotate_left
  · simp only [Act.put, List.setIfInBounds_toArray, List.set_cons_zero, List.set_cons_succ, i64_w, i32_w]
    rfl
  refine take_ (i := 5) (N := some 29) (v := ?_) (a' := ?_) #[true, true, true, true, true, true, false, false, false, false, false] rfl rfl (by kernel_rfl) (fun _ _ _ h => h) (Or.inl ⟨by rfl, ?_⟩) hHeld ?_ ?_
  rotate_left
  · rintro w' ⟨s0, s1⟩
    try simp only [List.getElem_toArray, List.getElem_cons_succ, List.getElem_cons_zero]
    go_simp
    with_reducible rfl
  rotate_left
  · simp only [Act.put, List.setIfInBounds_toArray, List.set_cons_zero, List.set_cons_succ, i64_w, i32_w]
    rfl
  refine one_ (i := 6) (N := some 30) #[true, true, true, true, true, true, true, false, false, false, false] rfl rfl (by kernel_rfl) (by decide) (fun K hK => ?_)
  refine value_ (w1 := ?_) (v := ?_) (by rfl) rfl ?_ ?_
  rotate_left 2
  · try simp only [List.getElem_toArray, List.getElem_cons_succ, List.getElem_cons_zero]
    go_simp
    constructor
    · rfl
    · rfl
  refine hK.out _ _ ⟨(heap_alloc _ _ b (lt_of_block head2)).trans head2, (heap_alloc _ _ nb (lt_of_block new2)).trans new2⟩ (fun hHeld => ?_)
  clear hK K
  refine norm_ (a' := ?_) ?_ ?_
  rotate_left
  · show Act.put _ (some 30) _ = _
    simp only [Act.put, List.setIfInBounds_toArray, List.set_cons_zero, List.set_cons_succ, i64_w, i32_w]
    rfl
  refine one_ (i := 7) (N := some 31) #[true, true, true, true, true, true, true, true, false, false, false] rfl rfl (by kernel_rfl) (by decide) (fun K hK => ?_)
  refine step_append (by rfl) (.tmp 28) (.tmp 30) 82 rfl 89 i89 _ 65 72 Try.underlying82 hinfo hz0 hz1 hz2 (by simp [Value.cells, zc89_size]) (by decide) wv D.buf.length (D.buf.flatMap recOf) rfl (ownsRow_fr OWN2.out ((Fr.refl (fun _ => False) _).drew.alloc _) (fun _ _ h => h)) ⟨w2.heap.size, 0, none⟩ 1 1 (recOf (i, pad64 l)) rfl (by rw [HRL.out]) (fun j u hu => by rw [Addr.add_mk, Nat.zero_add]; exact (cells_at (heap_alloc_at w2 _) j).trans (by simpa using hu)) HRO.out (Room.one (by unfold maxLen; omega) (by decide) (by omega)) ?_
  intro v3 w3 own3 gr3 fresh3
  obtain ⟨ao3, cap3, rfl⟩ := ownsRow_slice own3
  have fr3 := (((Fr.refl (fun k => wv.ownBlock = some k) w2).alloc (.cells (recOf (i, pad64 l)).toArray 89 (0, 0))).drew).trans gr3 (fun k hk => .inl hk)
  have head3 := fr3.at head2 ne2
  have new3 := fr3.at new2 hwn
  refine hK.out _ _ ⟨head3, new3⟩ (fun hHeld => ?_)
  clear hK K
  refine norm_ (a' := ?_) ?_ ?_
  rotate_left
  · show Act.put _ (some 31) _ = _
    simp only [Act.put, List.setIfInBounds_toArray, List.set_cons_zero, List.set_cons_succ, i64_w, i32_w]
    rfl
  refine pure_ (i := 8) (N := some 32) (v := ?_) (a' := ?_) #[true, true, true, true, true, true, true, true, true, false, false] rfl rfl (by kernel_rfl) (fun _ _ _ h => h) (Or.inl ⟨by rfl, ?_⟩) ?_ ?_
  rotate_left
  · intro w'
    try simp only [List.getElem_toArray, List.getElem_cons_succ, List.getElem_cons_zero]
    go_simp
    with_reducible rfl
  rotate_left
  · simp only [Act.put, List.setIfInBounds_toArray, List.set_cons_zero, List.set_cons_succ, i64_w, i32_w]
    rfl
  refine pure_ (i := 9) (N := some 33) (v := ?_) (a' := ?_) #[true, true, true, true, true, true, true, true, true, true, false] rfl rfl (by kernel_rfl) (fun _ _ _ h => h) (Or.inl ⟨by rfl, ?_⟩) ?_ ?_
  rotate_left
  · intro w'
    try simp only [List.getElem_toArray, List.getElem_cons_succ, List.getElem_cons_zero]
    go_simp
    with_reducible rfl
  rotate_left
  · simp only [Act.put, List.setIfInBounds_toArray, List.set_cons_zero, List.set_cons_succ, i64_w, i32_w]
    rfl
  refine last_ (i := 10) (N := none) #[true, true, true, true, true, true, true, true, true, true, true] rfl rfl (by kernel_rfl) (by decide) (fun K hK => ?_)
  refine skip_ (w1 := ?_) (by rfl) rfl ?_ ?_
  rotate_left
  · try simp only [List.getElem_toArray, List.getElem_cons_succ, List.getElem_cons_zero]
    go_simp
    rfl
  refine hK.out _ _ ?_
  clear hK K
  refine done_ (by kernel_rfl) ?_

  have ow3 : ∀ k, (Value.slice ao3 (D.buf.length + 1) cap3).ownBlock = some k → dkFoot b lb wv k ∨ nb < k := by
    intro k hk
    rcases fresh3 with h | h
    · rw [h] at hk; exact .inl (.inr (.inr hk))
    · rw [hk] at h; have := SZ2.out; simp at h; right; omega
  have row3 := fr3.at ROW2.out ne3
  have hlb : lb < nb + 1 := by have := lt_of_block ROW2.out; rw [SZ2.out] at this; exact this
  have hbl' : b < nb + 1 := by omega
  have nb3 : (Value.slice ao3 (D.buf.length + 1) cap3).ownBlock ≠ some b := by
    intro e
    rcases own3.2 with ⟨h, _⟩ | ⟨g, _, cur, h, _, hg, _⟩
    · rw [h] at e; cases e
    · rw [h] at e; simp only [Value.ownBlock, Option.some.injEq] at e; subst e; rw [head3] at hg; simp at hg
  have nlb3 : (Value.slice ao3 (D.buf.length + 1) cap3).ownBlock ≠ some lb := by
    intro e
    rcases own3.2 with ⟨h, _⟩ | ⟨g, _, cur, h, _, hg, _⟩
    · rw [h] at e; cases e
    · rw [h] at e; simp only [Value.ownBlock, Option.some.injEq] at e; subst e; rw [row3] at hg; simp at hg
  have nn3 : (Value.slice ao3 (D.buf.length + 1) cap3).ownBlock ≠ some nb := by
    intro e
    rcases ow3 nb e with h | h
    · exact HNB.out nb h rfl
    · omega
  have head4 : (w3.setCell ⟨b, 1, none⟩ (.slice ao3 (D.buf.length + 1) cap3)).heap[b]? = some (.cells #[.slice (some ⟨lb, 0, none⟩) D.secs.length cl, .slice ao3 (D.buf.length + 1) cap3, .int .i64 D.armed, .bool false] 84 (0, 0)) := by
    rw [heap_setCell_self, head3]; rfl
  have fr34 : Fr (fun k => k = b) w3 (w3.setCell ⟨b, 1, none⟩ (.slice ao3 (D.buf.length + 1) cap3)) := (Fr.refl _ _).setCell _ (.inl rfl)
  have row4 := fr34.at row3 (Ne.symm ne1)
  have own4 := ownsRow_fr own3 fr34 (fun k hk e => nb3 (by rw [hk, e]))
  have fr4 : Fr (dkFoot b lb wv) w (w3.setCell ⟨b, 1, none⟩ (.slice ao3 (D.buf.length + 1) cap3)) :=
    (HW2.out.trans fr3 (fun k hk => .inl (.inr (.inr hk)))).trans fr34 (fun k hk => .inl (.inl hk))
  generalize w3.setCell ⟨b, 1, none⟩ (.slice ao3 (D.buf.length + 1) cap3) = w4 at *
  clear head3 head2 new2 new3 row3
  have hpiv : Mv (dkFoot b lb wv) (dkFoot b lb (.slice ao3 (D.buf.length + 1) cap3)) w w4 := ⟨fr4, fun k hk => by
    rcases hk with h | h | h
    · exact .inl (.inl h)
    · exact .inl (.inr (.inl h))
    · rcases ow3 k h with h1 | h1
      · exact .inl h1
      · exact .inr (by have := HNW.out; omega)⟩
  have HO4 := Lib.hid own4; clear own4 own3
  have HPIV := Lib.hid hpiv; clear hpiv fr4 fr34 fr3 gr3 fresh3 ow3
  go_wp2_with (go_at_call 50; refine (changed_any b w4 _ _ D.armed false HOK.out.armed.2 head4).mono ?_; rintro e w5 ⟨rfl, head5, fr5⟩)
  go_ret
  refine ⟨rfl, _, ⟨Dk.Ok.changed (D := { D with buf := D.buf ++ [(i, pad64 l)] }) ⟨HOK.out.one, HOK.out.most, HOK.out.len, ?_, HOK.out.armed⟩, ?_, fr5.at row4 (Ne.symm ne1), ?_, ⟨ne1, nb3, nlb3⟩⟩, HPIV.out.trans ⟨fr5.mono (fun k _ h => .inl h), fun k h => .inl h⟩⟩
  · intro x hx
    rcases List.mem_append.1 hx with h | h
    · exact HOK.out.buf x h
    · rw [List.mem_singleton.1 h]; exact ⟨hi, pad64_length l hl⟩
  · rw [head5]; simp [Dk.written, Dk.changed, hd]
  · have := ownsRow_fr HO4.out fr5 (fun k hk e => nb3 (by rw [hk, e]))
    simpa [Dk.written, Dk.changed] using this
end Go.Proofs.Ytnpeeephkkmomaa
