/-
  The walk of the disk's Clone.
-/
import Derived.Test.YtnpeeephkkmomaaDsk5
import Derived.WalkSpells
import Derived.Lib.LazyBuf
namespace Go.Proofs.Ytnpeeephkkmomaa
open Go.RowKit Go.Proofs.YtnpeeephkkmomaaW.PrintLast
set_option linter.unusedVariables false
set_option linter.unusedSimpArgs false

theorem own_empty (w : World) (e : TypeId) (size : Nat) : (w.alloc (.cells #[] e (0, 0))).ownsRow 0 e size (.slice (some ⟨w.heap.size, 0, none⟩) 0 0) 0 [] :=
  ⟨by simp, .inr ⟨w.heap.size, 0, #[], rfl, Nat.zero_le _, heap_alloc_at _ _, Nat.le_refl _, by simp [maxLen], by simp, by simp⟩⟩

/-- A copy of a row: a row of its own in new memory. -/
def ClonePost (w : World) (e : TypeId) (size : Nat) (m : Nat) (news : List Value) (en : Ending) (w' : World) : Prop :=
  ∃ v', en = .returned v' ∧ w'.ownsRow 0 e size v' m news ∧ (∀ k, v'.ownBlock = some k → w.heap.size ≤ k) ∧ Fr (fun _ => False) w w'

theorem info87c : (Try.prog.info? 87).map (fun i => (i.zero, i.size, i.bytes)) = some (some (.agg zc87'), 64, 64) := by kernel_rfl

set_option maxRecDepth 100000 in
set_option maxHeartbeats 1000000 in
theorem clone52_some (ad : Addr) (m c : Nat) (news : List Value) (w : World) (hl : news.length = m * 64) (hnews : ∀ j u, news[j]? = some u → w.cell? (ad.add j) = some u) (h1 : ∀ u ∈ news, u.oneCell' = true)
    (hroom : Room 64 0 m) : Calls Try.prog 52 #[.slice (some ad) m c] w (ClonePost w 87 64 m news) := by
  obtain ⟨i, hinfo, hz0, hz1, hz2⟩ := info_parts info87c
  have HN := Lib.hid hnews; clear hnews
  have H1 := Lib.hid h1; clear h1
  have hq := _root_.Go.run_eql_slice_nil (P := Try.prog) w 81 87 (some ad) m c Try.underlying81
  go_enter Try.func52, Try.ntmps52
  go_wp2_with (refine wpList_append rfl (.tmp 5) (.tmp 6) 81 rfl 87 i _ 64 64 Try.underlying81 hinfo hz0 hz1 hz2 (by simp [Value.cells, zc87_size]) (by decide) (.slice (some ⟨w.heap.size, 0, none⟩) 0 0) 0 [] rfl (own_empty w 87 64) ad m c news rfl hl (fun j u hu => ((Fr.refl (fun _ => False) w).alloc (.cells #[] 87 (0, 0))).cell (HN.out j u hu)) H1.out hroom ?_; intro v3 w3 own3 fr3 fresh3)
  go_ret
  rw [Nat.zero_add, List.nil_append] at own3
  refine ⟨v3, rfl, own3, fun k hk => ?_, ?_⟩
  · rcases fresh3 with h | h
    · rw [h] at hk; simp only [Value.ownBlock, Option.some.injEq] at hk; omega
    · rw [hk] at h; simp at h; omega
  · refine (((Fr.refl (fun _ => False) w).alloc (.cells #[] 87 (0, 0))).trans fr3 (fun k hk => ?_))
    simp only [Value.ownBlock, Option.some.injEq] at hk; exact .inr (Nat.le_of_eq hk)

set_option maxRecDepth 100000 in
theorem clone52_nil (w : World) : Calls Try.prog 52 #[.slice none 0 0] w (ClonePost w 87 64 0 []) := by
  have hq := _root_.Go.run_eql_slice_nil (P := Try.prog) w 81 87 none 0 0 Try.underlying81
  go_enter Try.func52, Try.ntmps52
  go_wp2
  go_ret
  exact ⟨_, rfl, World.ownsRow_nil _ _ _ _, by simp [Value.ownBlock], Fr.refl _ w⟩

set_option maxRecDepth 100000 in
set_option maxHeartbeats 1000000 in
theorem clone53_some (ad : Addr) (m c : Nat) (news : List Value) (w : World) (hl : news.length = m * 65) (hnews : ∀ j u, news[j]? = some u → w.cell? (ad.add j) = some u) (h1 : ∀ u ∈ news, u.oneCell' = true)
    (hroom : m * 72 ≤ 281474976710656) : Calls Try.prog 53 #[.slice (some ad) m c] w (ClonePost w 89 65 m news) := by
  obtain ⟨i, hinfo, hz0, hz1, hz2⟩ := info_parts info89'
  have HN := Lib.hid hnews; clear hnews
  have H1 := Lib.hid h1; clear h1
  have hq := _root_.Go.run_eql_slice_nil (P := Try.prog) w 82 89 (some ad) m c Try.underlying82
  go_enter Try.func53, Try.ntmps53
  go_wp2_with (refine wpList_append0 rfl (.tmp 5) (.tmp 6) 82 rfl 89 i _ 65 72 Try.underlying82 hinfo hz0 hz1 hz2 (by simp [Value.cells, zc89_size]) (by decide) (.slice (some ⟨w.heap.size, 0, none⟩) 0 0) 0 [] rfl (own_empty w 89 65) ad m c news rfl hl (fun j u hu => ((Fr.refl (fun _ => False) w).alloc (.cells #[] 89 (0, 0))).cell (HN.out j u hu)) H1.out (RoomAt.empty (by simp [maxLen]; omega) hroom) ?_; intro v3 w3 own3 fr3 fresh3)
  go_ret
  rw [Nat.zero_add, List.nil_append] at own3
  refine ⟨v3, rfl, own3, fun k hk => ?_, ?_⟩
  · rcases fresh3 with h | h
    · rw [h] at hk; simp only [Value.ownBlock, Option.some.injEq] at hk; omega
    · rw [hk] at h; simp at h; omega
  · refine (((Fr.refl (fun _ => False) w).alloc (.cells #[] 89 (0, 0))).trans fr3 (fun k hk => ?_))
    simp only [Value.ownBlock, Option.some.injEq] at hk; exact .inr (Nat.le_of_eq hk)

set_option maxRecDepth 100000 in
theorem clone53_nil (w : World) : Calls Try.prog 53 #[.slice none 0 0] w (ClonePost w 89 65 0 []) := by
  have hq := _root_.Go.run_eql_slice_nil (P := Try.prog) w 82 89 none 0 0 Try.underlying82
  go_enter Try.func53, Try.ntmps53
  go_wp2
  go_ret
  exact ⟨_, rfl, World.ownsRow_nil _ _ _ _, by simp [Value.ownBlock], Fr.refl _ w⟩



theorem Room.of_small {bytes m : Nat} (h : m * bytes ≤ 140737488355328) (hm : m ≤ maxLen) : Room bytes 0 m := Room.of_le (by omega) (by rw [Nat.zero_add]; exact h)

/-- slices.Clone of a row of one's own. -/
theorem clone53_own (v : Value) (l : List (Nat × List UInt8)) (w : World) (h : w.ownsRow 0 89 65 v l.length (l.flatMap recOf)) (hl : l.length ≤ 2932031007402) : Calls Try.prog 53 #[v] w (ClonePost w 89 65 l.length (l.flatMap recOf)) := by
  rcases h.2 with ⟨rfl, h0⟩ | ⟨g, cap, cur, rfl, _, hg, hnc, hcm, hcs, ht⟩
  · obtain rfl := List.eq_nil_of_length_eq_zero h0
    exact clone53_nil w
  · refine clone53_some ⟨g, 0, none⟩ l.length cap _ w h.1 (h.cells (g := g) rfl) ?_ (by omega)
    intro u hu
    obtain ⟨x, _, hx⟩ := List.mem_flatMap.1 hu
    simp only [recOf, List.mem_cons] at hx
    rcases hx with rfl | hx
    · rfl
    · exact Bs_one _ u hx

theorem sec_one (s : List (List UInt8)) : ∀ u ∈ s.flatMap Bs, u.oneCell' = true := by
  intro u hu
  obtain ⟨x, _, hx⟩ := List.mem_flatMap.1 hu
  exact Bs_one _ u hx
theorem clone52_own (w : World) (b lb cl : Nat) (sp : Array Value) (wv : Value) (D : Dk) (h : IsDk w b lb cl sp wv D) :
    Calls Try.prog 52 #[.slice (some ⟨lb, 0, none⟩) D.secs.length cl] w (ClonePost w 87 64 D.secs.length (D.secs.flatMap Bs)) := by
  have hm := h.ok.most
  have hsz : (D.secs.flatMap Bs).length = D.secs.length * 64 := by rw [length_flatMap_same Bs 64 _ (fun y hy => by rw [Bs_length, h.ok.len y hy]), Nat.mul_comm]
  refine clone52_some ⟨lb, 0, none⟩ D.secs.length cl _ w hsz ?_ (sec_one _) (Room.of_small (by omega) (by simp [maxLen]; omega))
  intro j u hu
  rw [Addr.add_mk, Nat.zero_add]
  refine (cells_at h.row j).trans ?_
  have hj : j < (D.secs.flatMap Bs).length := by
    rcases Nat.lt_or_ge j (D.secs.flatMap Bs).length with h | h
    · exact h
    · rw [List.getElem?_eq_none h] at hu; cases hu
  rw [secRow, Array.getElem?_append_left (by rw [secCells, List.size_toArray]; exact hj), secCells, List.getElem?_toArray]; exact hu

def DkClonePost (w : World) (D : Dk) (e : Ending) (w' : World) : Prop :=
  ∃ b lb cl sp wv, e = .returned (.pointer (some ⟨b, 0, none⟩)) ∧ IsDk w' b lb cl sp wv D ∧ (∀ k, dkFoot b lb wv k → w.heap.size ≤ k) ∧ Fr (fun _ => False) w w'

set_option maxRecDepth 100000 in
set_option maxHeartbeats 2000000 in
theorem clone_any (b lb cl : Nat) (sp : Array Value) (wv : Value) (D : Dk) (w : World) (h : IsDk w b lb cl sp wv D) (hl : D.buf.length ≤ 2932031007402) :
    Calls Try.prog 21 #[.pointer (some ⟨b, 0, none⟩)] w (DkClonePost w D) := by
  have HH := Lib.hid h
  obtain ⟨ok, head, row, own, ne1, ne2, ne3⟩ := h
  obtain ⟨ao, cap, rfl⟩ := ownsRow_slice own
  clear row own ok
  go_enter Try.func21, Try.ntmps21
  go_wp2
  have hf1 := (Fr.refl (fun _ => False) w).alloc (.cells #[.slice (some ⟨lb, 0, none⟩) D.secs.length cl, .slice ao D.buf.length cap, .int .i64 D.armed, .bool D.down] 84 (0, 0))
  have H1 := Lib.hid (HH.out.fr hf1 (fun _ _ h => h))
  have hn1 := heap_alloc_at w (.cells #[.slice (some ⟨lb, 0, none⟩) D.secs.length cl, .slice ao D.buf.length cap, .int .i64 D.armed, .bool D.down] 84 (0, 0))
  generalize w.alloc (.cells #[.slice (some ⟨lb, 0, none⟩) D.secs.length cl, .slice ao D.buf.length cap, .int .i64 D.armed, .bool D.down] 84 (0, 0)) = w1 at *
  generalize hnb : w.heap.size = nb at *
  have HNB := Lib.hid hnb; clear hnb
  have HF1 := Lib.hid hf1; clear hf1 head
  have head1 := H1.out.head
  refine start_ (n := 14) (S := fun w' => w'.heap[b]? = some (.cells #[.slice (some ⟨lb, 0, none⟩) D.secs.length cl, .slice ao D.buf.length cap, .int .i64 D.armed, .bool D.down] 84 (0, 0))) (ds := [11, 13]) #[false, false, false, false, false, false, false, false, false, false, false, false, false, false] (by kernel_rfl) rfl rfl (head1) (fun hHeld => ?_)
  refine pure_ (i := 0) (N := some 7) (v := ?_) (a' := ?_) #[true, false, false, false, false, false, false, false, false, false, false, false, false, false] rfl rfl (by kernel_rfl) (fun _ _ _ h => h) (Or.inl ⟨by rfl, ?_⟩) ?_ ?_
  rotate_left
  · intro w'
    try simp only [List.getElem_toArray, List.getElem_cons_succ, List.getElem_cons_zero]
    go_simp
    with_reducible rfl
  rotate_left
  · simp only [Act.put, List.setIfInBounds_toArray, List.set_cons_zero, List.set_cons_succ, i64_w, i32_w]
    rfl
  refine pure_ (i := 1) (N := some 8) (v := ?_) (a' := ?_) #[true, true, false, false, false, false, false, false, false, false, false, false, false, false] rfl rfl (by kernel_rfl) (fun _ _ _ h => h) (Or.inl ⟨by rfl, ?_⟩) ?_ ?_
  rotate_left
  · intro w'
    try simp only [List.getElem_toArray, List.getElem_cons_succ, List.getElem_cons_zero]
    go_simp
    with_reducible rfl
  rotate_left
  · simp only [Act.put, List.setIfInBounds_toArray, List.set_cons_zero, List.set_cons_succ, i64_w, i32_w]
    rfl
  refine pure_ (i := 2) (N := some 9) (v := ?_) (a' := ?_) #[true, true, true, false, false, false, false, false, false, false, false, false, false, false] rfl rfl (by kernel_rfl) (fun _ _ _ h => h) (Or.inl ⟨by rfl, ?_⟩) ?_ ?_
  rotate_left
  · intro w'
    try simp only [List.getElem_toArray, List.getElem_cons_succ, List.getElem_cons_zero]
    go_simp
    with_reducible rfl
  rotate_left
  · simp only [Act.put, List.setIfInBounds_toArray, List.set_cons_zero, List.set_cons_succ, i64_w, i32_w]
    rfl
  refine pure_ (i := 5) (N := some 12) (v := ?_) (a' := ?_) #[true, true, true, false, false, true, false, false, false, false, false, false, false, false] rfl rfl (by kernel_rfl) (fun _ _ _ h => h) (Or.inl ⟨by rfl, ?_⟩) ?_ ?_
  rotate_left
  · intro w'
    try simp only [List.getElem_toArray, List.getElem_cons_succ, List.getElem_cons_zero]
    go_simp
    with_reducible rfl
  rotate_left
  · simp only [Act.put, List.setIfInBounds_toArray, List.set_cons_zero, List.set_cons_succ, i64_w, i32_w]
    rfl
  refine pure_ (i := 6) (N := some 13) (v := ?_) (a' := ?_) #[true, true, true, false, false, true, true, false, false, false, false, false, false, false] rfl rfl (by kernel_rfl) (fun _ _ _ h => h) (Or.inl ⟨by rfl, ?_⟩) ?_ ?_
  rotate_left
  · intro w'
    try simp only [List.getElem_toArray, List.getElem_cons_succ, List.getElem_cons_zero]
    go_simp
    with_reducible rfl
  rotate_left
  · simp only [Act.put, List.setIfInBounds_toArray, List.set_cons_zero, List.set_cons_succ, i64_w, i32_w]
    rfl
  refine pure_ (i := 7) (N := some 14) (v := ?_) (a' := ?_) #[true, true, true, false, false, true, true, true, false, false, false, false, false, false] rfl rfl (by kernel_rfl) (fun _ _ _ h => h) (Or.inl ⟨by rfl, ?_⟩) ?_ ?_
  rotate_left
  · intro w'
    try simp only [List.getElem_toArray, List.getElem_cons_succ, List.getElem_cons_zero]
    go_simp
    with_reducible rfl
  rotate_left
  · simp only [Act.put, List.setIfInBounds_toArray, List.set_cons_zero, List.set_cons_succ, i64_w, i32_w]
    rfl
  refine take_ (i := 3) (N := some 10) (v := ?_) (a' := ?_) #[true, true, true, true, false, true, true, true, false, false, false, false, false, false] rfl rfl (by kernel_rfl) (fun _ _ _ h => h) (Or.inl ⟨by rfl, ?_⟩) hHeld ?_ ?_
  rotate_left
  · intro w' s0
    try simp only [List.getElem_toArray, List.getElem_cons_succ, List.getElem_cons_zero]
    go_simp
    with_reducible rfl
  rotate_left
  · simp only [Act.put, List.setIfInBounds_toArray, List.set_cons_zero, List.set_cons_succ, i64_w, i32_w]
    rfl
  refine take_ (i := 8) (N := some 15) (v := ?_) (a' := ?_) #[true, true, true, true, false, true, true, true, true, false, false, false, false, false] rfl rfl (by kernel_rfl) (fun _ _ _ h => h) (Or.inl ⟨by rfl, ?_⟩) hHeld ?_ ?_
  rotate_left
  · intro w' s0
    try simp only [List.getElem_toArray, List.getElem_cons_succ, List.getElem_cons_zero]
    go_simp
    with_reducible rfl
  rotate_left
  · simp only [Act.put, List.setIfInBounds_toArray, List.set_cons_zero, List.set_cons_succ, i64_w, i32_w]
    rfl
  refine one_ (i := 4) (N := some 11) #[true, true, true, true, true, true, true, true, true, false, false, false, false, false] rfl rfl (by kernel_rfl) (by decide) (fun K hK => ?_)
  refine goes_ Try.func52 (by kernel_rfl) rfl #[.slice (some ⟨lb, 0, none⟩) D.secs.length cl] (by rfl) rfl rfl (by simp only [List.map_toArray, List.map_cons, List.map_nil]; rfl) ?_
  with_reducible refine (clone52_own w1.drew b lb cl sp _ D (H1.out.fr (F := fun _ => False) (Fr.refl _ w1).drew (fun _ _ h => h))).mono ?_
  rintro e w2 ⟨v2, rfl, own2, new2, fr2⟩
  refine ⟨_, rfl, ?_⟩
  obtain ⟨ao2, cap2, rfl⟩ := ownsRow_slice own2
  have H2 := Lib.hid (H1.out.fr ((Fr.refl (fun _ => False) w1).drew.trans fr2 (fun _ h => h.elim)) (fun _ _ h => h))
  have hn2 := ((Fr.refl (fun _ => False) w1).drew.trans fr2 (fun _ h => h.elim)).at hn1 (fun h => h)
  have head2 := H2.out.head
  refine hK.out _ _ (head2) (fun hHeld => ?_)
  clear hK K
  refine norm_ (a' := ?_) ?_ ?_
  rotate_left
  · show Act.put _ (some 11) _ = _
    simp only [Act.put, List.setIfInBounds_toArray, List.set_cons_zero, List.set_cons_succ, i64_w, i32_w]
    rfl
  refine one_ (i := 9) (N := some 16) #[true, true, true, true, true, true, true, true, true, true, false, false, false, false] rfl rfl (by kernel_rfl) (by decide) (fun K hK => ?_)
  refine goes_ Try.func53 (by kernel_rfl) rfl #[.slice ao D.buf.length cap] (by rfl) rfl rfl (by simp only [List.map_toArray, List.map_cons, List.map_nil]; rfl) ?_
  with_reducible refine (clone53_own _ D.buf w2 H2.out.own hl).mono ?_
  rintro e w3 ⟨v3, rfl, own3, new3, fr3⟩
  refine ⟨_, rfl, ?_⟩
  obtain ⟨ao3, cap3, rfl⟩ := ownsRow_slice own3
  have H3 := Lib.hid (H2.out.fr fr3 (fun _ _ h => h))
  have hn3 := fr3.at hn2 (fun h => h)
  have head3 := H3.out.head
  refine hK.out _ _ (head3) (fun hHeld => ?_)
  clear hK K
  refine norm_ (a' := ?_) ?_ ?_
  rotate_left
  · show Act.put _ (some 16) _ = _
    simp only [Act.put, List.setIfInBounds_toArray, List.set_cons_zero, List.set_cons_succ, i64_w, i32_w]
    rfl
  refine pure_ (i := 10) (N := some 17) (v := ?_) (a' := ?_) #[true, true, true, true, true, true, true, true, true, true, true, false, false, false] rfl rfl (by kernel_rfl) (fun _ _ _ h => h) (Or.inl ⟨by rfl, ?_⟩) ?_ ?_
  rotate_left
  · intro w'
    try simp only [List.getElem_toArray, List.getElem_cons_succ, List.getElem_cons_zero]
    go_simp
    with_reducible rfl
  rotate_left
  · simp only [Act.put, List.setIfInBounds_toArray, List.set_cons_zero, List.set_cons_succ, i64_w, i32_w]
    rfl
  refine last_ (i := 11) (N := none) #[true, true, true, true, true, true, true, true, true, true, true, true, false, false] rfl rfl (by kernel_rfl) (by decide) (fun K hK => ?_)
  refine skip_ (w1 := ?_) (by rfl) rfl ?_ ?_
  rotate_left
  · try simp only [List.getElem_toArray, List.getElem_cons_succ, List.getElem_cons_zero]
    go_simp
    rfl
  refine hK.out _ _ ?_
  clear hK K
  refine pure_ (i := 12) (N := some 18) (v := ?_) (a' := ?_) #[true, true, true, true, true, true, true, true, true, true, true, true, true, false] rfl rfl (by kernel_rfl) (fun _ _ _ h => h) (Or.inl ⟨by rfl, ?_⟩) ?_ ?_
  rotate_left
  · intro w'
    try simp only [List.getElem_toArray, List.getElem_cons_succ, List.getElem_cons_zero]
    go_simp
    with_reducible rfl
  rotate_left
  · simp only [Act.put, List.setIfInBounds_toArray, List.set_cons_zero, List.set_cons_succ, i64_w, i32_w]
    rfl
  refine last_ (i := 13) (N := none) #[true, true, true, true, true, true, true, true, true, true, true, true, true, true] rfl rfl (by kernel_rfl) (by decide) (fun K hK => ?_)
  refine skip_ (w1 := ?_) (by rfl) rfl ?_ ?_
  rotate_left
  · try simp only [List.getElem_toArray, List.getElem_cons_succ, List.getElem_cons_zero]
    go_simp
    rfl
  refine hK.out _ _ ?_
  clear hK K
  refine done_ (by kernel_rfl) ?_

  go_wp2
  go_ret
  have hnb1 : nb < w1.heap.size := lt_of_block hn1
  rcases own2.2 with ⟨hn, h0⟩ | ⟨g2, c2, cur2, hv2, _, hg2, hnc2, hcm2, hcs2, ht2⟩
  · have := HH.out.ok.one; omega
  obtain ⟨rfl, rfl⟩ : ao2 = some ⟨g2, 0, none⟩ ∧ cap2 = c2 := by simpa using hv2
  have hg2n : w1.heap.size ≤ g2 := new2 g2 rfl
  have hg2l : g2 < w2.heap.size := lt_of_block hg2
  have hs12 : w1.heap.size ≤ w2.heap.size := fr2.size
  have hnews3 : ∀ k, (Value.slice ao3 D.buf.length cap3).ownBlock = some k → w2.heap.size ≤ k := new3
  refine ⟨nb, g2, cap2, (cur2.toList.drop (D.secs.length * 64)).toArray, .slice ao3 D.buf.length cap3, rfl, ⟨HH.out.ok, ?_, ?_, ?_, ?_, ?_, ?_⟩, ?_, ?_⟩
  · rw [heap_setCell_self, heap_setCell_self, hn3]; rfl
  · rw [heap_setCell, if_neg (by omega), heap_setCell, if_neg (by omega), fr3.at hg2 (fun h => h)]
    suffices hh : cur2 = secRow D.secs (cur2.toList.drop (D.secs.length * 64)).toArray by rw [← hh]
    apply Array.toList_inj.1
    rw [secRow, Array.toList_append, secCells]
    simp only [← ht2, List.take_append_drop]
  · refine ownsRow_fr own3 (((Fr.refl (fun k => k = nb) w3).setCell _ (.inl rfl)).setCell _ (.inl rfl)) ?_
    intro k hk; have := hnews3 k hk; omega
  · omega
  · intro hk; have := hnews3 nb hk; omega
  · intro hk; have := hnews3 g2 hk; omega
  · have := HNB.out
    rintro k (h | h | h)
    · omega
    · omega
    · have := hnews3 k h; omega
  · have hb := HNB.out
    exact (((((HF1.out.drew.trans fr2 (fun _ h => h.elim)).trans fr3 (fun _ h => h.elim)).setCell _ (.inr (Nat.le_of_eq hb))).setCell _ (.inr (Nat.le_of_eq hb))))
end Go.Proofs.Ytnpeeephkkmomaa
