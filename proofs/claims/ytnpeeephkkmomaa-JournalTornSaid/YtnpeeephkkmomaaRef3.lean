/-
  The document's disk: what it holds; New, change, Arm, Lasting, Told, Read.
-/
import Derived.Test.YtnpeeephkkmomaaTyp3
import Derived.Test.YtnpeeephkkmomaaLaw03c
namespace Go.Proofs.Ytnpeeephkkmomaa
open Go.RowKit Go.Maps Go.Proofs.YtnpeeephkkmomaaW.PrintLast
set_option linter.unusedVariables false
set_option linter.unusedSimpArgs false

/-- A Write of the document's buffer: its sector, and the block of its bytes. -/
def rRec (x : Nat × Nat) : List Value := [.int .i64 (x.1 : Int), .slice (some ⟨x.2, 0, none⟩) 64 64]
def rCells (l : List (Nat × Nat)) : List Value := l.flatMap rRec
theorem rCells_length (l : List (Nat × Nat)) : (rCells l).length = l.length * 2 := by
  rw [rCells, length_flatMap_same rRec 2 l (fun x _ => rfl), Nat.mul_comm]
theorem rCells_append (l m : List (Nat × Nat)) : rCells (l ++ m) = rCells l ++ rCells m := by simp [rCells]
theorem rCells_at (l : List (Nat × Nat)) (i : Nat) (h : i < l.length) : (rCells l)[i * 2]? = some (.int .i64 (l[i].1 : Int)) ∧ (rCells l)[i * 2 + 1]? = some (.slice (some ⟨l[i].2, 0, none⟩) 64 64) := by
  have hp := piece_flatMap rRec 2 l i (fun x _ => rfl) h
  have h0 : (((l.flatMap rRec).drop (2 * i)).take 2)[0]? = (rRec l[i])[0]? := by rw [hp]
  have h1 : (((l.flatMap rRec).drop (2 * i)).take 2)[1]? = (rRec l[i])[1]? := by rw [hp]
  rw [List.getElem?_take, if_pos (by decide), List.getElem?_drop] at h0 h1
  rw [Nat.mul_comm i 2]
  exact ⟨h0, h1⟩
theorem rCells_one (l : List (Nat × Nat)) : ∀ u ∈ rCells l, u.oneCell' = true := by
  intro u hu
  obtain ⟨x, _, hx⟩ := List.mem_flatMap.1 hu
  simp only [rRec, List.mem_cons, List.not_mem_nil, or_false] at hx
  rcases hx with rfl | rfl <;> rfl

/-- The document's disk at block rb tells what D tells. -/
structure IsRef (w : World) (rb mb : Nat) (bv : Value) (gs : List (Nat × Nat)) (n : Nat) (L : Int → List UInt8) (D : Dk) : Prop where
  head : w.heap[rb]? = some (.cells #[.int .i64 D.secs.length, .map (some mb), bv, .int .i64 D.armed, .bool D.down] 95 (0, 0))
  map : IM w mb n L
  own : w.ownsRow 0 97 2 bv D.buf.length (rCells gs)
  len : gs.length = D.buf.length
  recs : ∀ j (h : j < gs.length) (h' : j < D.buf.length), gs[j].1 = D.buf[j].1 ∧ IsBytes w (.slice (some ⟨gs[j].2, 0, none⟩) 64 64) D.buf[j].2
  told : ∀ i, i < D.secs.length → pad64 (L i) = D.secs.getD i []
  short : ∀ i, (L i).length ≤ 64
  ok : D.Ok
def rFoot (rb mb : Nat) (bv : Value) (gs : List (Nat × Nat)) (k : Nat) : Prop := k = rb ∨ k = mb ∨ bv.ownBlock = some k ∨ ∃ x ∈ gs, x.2 = k
theorem IsRef.fr {w w' : World} {F : Nat → Prop} {rb mb : Nat} {bv : Value} {gs : List (Nat × Nat)} {n : Nat} {L : Int → List UInt8} {D : Dk} (h : IsRef w rb mb bv gs n L D) (hf : Fr F w w') (hF : ∀ k, rFoot rb mb bv gs k → ¬ F k) : IsRef w' rb mb bv gs n L D :=
  ⟨hf.at h.head (hF _ (.inl rfl)), h.map.fr hf (hF _ (.inr (.inl rfl))), ownsRow_fr h.own hf (fun k hk => hF k (.inr (.inr (.inl hk)))), h.len,
    fun j hj hj' => ⟨(h.recs j hj hj').1, (h.recs j hj hj').2.fr hf (fun k hk => hF k (.inr (.inr (.inr ⟨gs[j], List.getElem_mem hj, by simpa [Value.ownBlock] using hk⟩))))⟩, h.told, h.short, h.ok⟩
theorem bytes_lt {w : World} {g : Nat} {l : List UInt8} (h : IsBytes w (.slice (some ⟨g, 0, none⟩) 64 64) l) : g < w.heap.size := by
  obtain ⟨ao, cap, hv, h1, h2, h3, h4⟩ := h.is
  simp only [Value.slice.injEq] at hv
  obtain ⟨rfl, hl, rfl⟩ := hv
  have := h4 _ rfl 0 _ (Bs_at l 0 (by omega))
  exact World.block_lt_of_cell? w _ this
theorem IsRef.lt {w : World} {rb mb : Nat} {bv : Value} {gs : List (Nat × Nat)} {n : Nat} {L : Int → List UInt8} {D : Dk} (h : IsRef w rb mb bv gs n L D) : ∀ k, rFoot rb mb bv gs k → k < w.heap.size := by
  rintro k (rfl | rfl | hk | ⟨x, hx, rfl⟩)
  · exact lt_of_block h.head
  · exact h.map.lt
  · exact (h.own.lt k hk).2
  · obtain ⟨j, hj, rfl⟩ := List.getElem_of_mem hx
    exact bytes_lt (h.recs j hj (by rw [← h.len]; exact hj)).2

set_option maxRecDepth 100000 in
theorem rchange_pos (b : Nat) (w : World) (x y z : Value) (n : Int) (hn : 0 < n) (hn2 : n ≤ 9223372036854775807)
    (h : w.heap[b]? = some (.cells #[x, y, z, .int .i64 n, .bool false] 95 (0, 0))) :
    Calls Try.prog 54 #[.pointer (some ⟨b, 0, none⟩)] w fun e w' => e = .returned (.tuple #[]) ∧
      w'.heap[b]? = some (.cells #[x, y, z, .int .i64 (n - 1), .bool (n - 1 == 0)] 95 (0, 0)) ∧ Fr (fun k => k = b) w w' := by
  have h1 : decide (0 < n) = true := by simp; omega
  have hw : IntKind.i64.wrap (n - 1) = n - 1 := IntWalk.i64_in _ (by omega)
  cases hz : (n - 1 == 0) with
  | true =>
    go_enter Try.func54, Try.ntmps54
    go_wp2
    go_end0
    refine ⟨rfl, ?_, ?_⟩
    · simp only [heap_setCell_self, h, putIn_some]; rfl
    · exact ((Fr.refl (fun k => k = b) w).setCell _ (.inl rfl)).setCell _ (.inl rfl)
  | false =>
    go_enter Try.func54, Try.ntmps54
    go_wp2
    go_end0
    refine ⟨rfl, ?_, ?_⟩
    · simp only [heap_setCell_self, h, putIn_some]; rfl
    · exact (Fr.refl (fun k => k = b) w).setCell _ (.inl rfl)
set_option maxRecDepth 100000 in
theorem rchange_neg (b : Nat) (w : World) (x y z : Value) (n : Int) (d : Bool) (hn : ¬ 0 < n)
    (h : w.heap[b]? = some (.cells #[x, y, z, .int .i64 n, .bool d] 95 (0, 0))) :
    Calls Try.prog 54 #[.pointer (some ⟨b, 0, none⟩)] w fun e w' => e = .returned (.tuple #[]) ∧ w = w' := by
  have h1 : decide (0 < n) = false := by simp; omega
  go_enter Try.func54, Try.ntmps54
  go_wp2
  go_end0
  exact ⟨rfl, rfl⟩
/-- The document's change, of a disk that isn't down. -/
theorem rchange_any (b : Nat) (w : World) (x y z : Value) (n : Int) (hn2 : n ≤ 9223372036854775807)
    (h : w.heap[b]? = some (.cells #[x, y, z, .int .i64 n, .bool false] 95 (0, 0))) :
    Calls Try.prog 54 #[.pointer (some ⟨b, 0, none⟩)] w fun e w' => e = .returned (.tuple #[]) ∧
      w'.heap[b]? = some (.cells #[x, y, z, .int .i64 (if 0 < n then n - 1 else n), .bool (if 0 < n then n - 1 == 0 else false)] 95 (0, 0)) ∧ Fr (fun k => k = b) w w' := by
  by_cases hn : 0 < n
  · simp only [hn, if_true]; exact rchange_pos b w x y z n hn hn2 h
  · simp only [hn, if_false]
    refine (rchange_neg b w x y z n false hn h).mono ?_
    rintro e w' ⟨rfl, rfl⟩
    exact ⟨rfl, h, Fr.refl _ _⟩

set_option maxRecDepth 100000 in
theorem rarm_any (rb mb : Nat) (bv : Value) (gs : List (Nat × Nat)) (m : Nat) (L : Int → List UInt8) (D : Dk) (w : World) (n : Int) (h : IsRef w rb mb bv gs m L D) (hn : -9223372036854775808 ≤ n ∧ n ≤ 9223372036854775807) :
    Calls Try.prog 26 #[.pointer (some ⟨rb, 0, none⟩), .int .i64 n] w fun e w' => e = .returned (.tuple #[]) ∧ IsRef w' rb mb bv gs m L (D.armedAt n) ∧ Fr (fun k => k = rb) w w' := by
  have HH := Lib.hid h
  have head := h.head
  clear h
  have fin : ∀ (a : Int) (d : Bool) (w' : World), D.armedAt n = { D with armed := a, down := d } → (-1 ≤ a ∧ a ≤ 9223372036854775807) → Fr (fun k => k = rb) w w' →
      w'.heap[rb]? = some (.cells #[.int .i64 D.secs.length, .map (some mb), bv, .int .i64 a, .bool d] 95 (0, 0)) → IsRef w' rb mb bv gs m L (D.armedAt n) := by
    intro a d w' hd ha hf hh
    have H := HH.out
    rw [hd]
    have hne1 : mb ≠ rb := by
      intro e; subst e
      obtain ⟨D', ⟨es, ck, hb, _⟩, _⟩ := H.map
      rw [H.head] at hb; cases hb
    have hne2 : ∀ k, bv.ownBlock = some k → k ≠ rb := by
      rintro k hk rfl
      rcases H.own.2 with ⟨rfl, _⟩ | ⟨g, cap, cur, rfl, _, hg, _⟩
      · cases hk
      · cases hk; rw [H.head] at hg; cases hg
    have hne3 : ∀ j (h : j < gs.length) (h' : j < D.buf.length), (gs[j]).2 ≠ rb := by
      intro j hj hj' e
      obtain ⟨ao, cap, hv, _, _, _, h4⟩ := (H.recs j hj hj').2.is
      have hl := (H.ok.buf _ (List.getElem_mem hj')).2
      simp only [Value.slice.injEq] at hv
      obtain ⟨rfl, _, _⟩ := hv
      have := h4 _ rfl 0 _ (Bs_at _ 0 (by omega))
      rw [Addr.add_mk, e, cells_at H.head] at this
      cases this
    exact ⟨hh, H.map.fr hf hne1, ownsRow_fr H.own hf hne2, H.len, fun j hj hj' => ⟨(H.recs j hj hj').1, (H.recs j hj hj').2.fr hf (fun k hk => by cases hk; exact hne3 j hj hj')⟩, H.told, H.short, ⟨H.ok.one, H.ok.most, H.ok.len, H.ok.buf, ha⟩⟩
  have FIN := Lib.hid fin; clear fin
  cases hd : D.down with
  | true =>
    have HDA : Hid (D.armedAt n = { D with armed := D.armed, down := D.down }) := Lib.hid (by simp [Dk.armedAt, hd])
    go_enter Try.func26, Try.ntmps26
    go_wp2
    exact bodyPost_ret (v := .tuple #[]) (results_none rfl _ _ _) rfl ⟨rfl, FIN.out _ _ _ HDA.out HH.out.ok.armed (Fr.refl _ _) HH.out.head, Fr.refl _ _⟩
  | false =>
    rw [hd] at head
    have hda : D.armedAt n = { D with armed := max n (-1), down := n == 0 } := by simp [Dk.armedAt, hd]
    by_cases h0 : n < 0
    · have h1 : decide (n < 0) = true := by simp; omega
      rw [show max n (-1) = -1 by omega, show (n == 0) = false by simp; omega] at hda
      have HDA := Lib.hid hda; clear hda
      go_enter Try.func26, Try.ntmps26
      go_wp2
      go_end0
      have hf := (Fr.refl (fun k => k = rb) w).setCell (p := ⟨rb, 3, none⟩) (.int .i64 (-1)) (.inl rfl)
      exact ⟨rfl, FIN.out _ _ _ HDA.out (by omega) hf (by simp only [heap_setCell_self, head, putIn_some]; rfl), hf⟩
    · have h1 : decide (n < 0) = false := by simp; omega
      rw [show max n (-1) = n by omega] at hda
      cases hz : (n == 0) with
      | true =>
        rw [hz] at hda
        have HDA := Lib.hid hda; clear hda
        go_enter Try.func26, Try.ntmps26
        go_wp2
        go_end0
        have hf := ((Fr.refl (fun k => k = rb) w).setCell (p := ⟨rb, 3, none⟩) (.int .i64 n) (.inl rfl)).setCell (p := ⟨rb, 4, none⟩) (.bool true) (.inl rfl)
        exact ⟨rfl, FIN.out _ _ _ HDA.out (by omega) hf (by simp only [heap_setCell_self, head, putIn_some]; rfl), hf⟩
      | false =>
        rw [hz] at hda
        have HDA := Lib.hid hda; clear hda
        go_enter Try.func26, Try.ntmps26
        go_wp2
        go_end0
        have hf := (Fr.refl (fun k => k = rb) w).setCell (p := ⟨rb, 3, none⟩) (.int .i64 n) (.inl rfl)
        exact ⟨rfl, FIN.out _ _ _ HDA.out (by omega) hf (by simp only [heap_setCell_self, head, putIn_some]; rfl), hf⟩
end Go.Proofs.Ytnpeeephkkmomaa
