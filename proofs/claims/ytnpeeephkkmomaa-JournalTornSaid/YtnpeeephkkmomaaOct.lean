/-
  slices.Clone, slices.Grow, slices.Concat of bytes.
-/
import Derived.Test.YtnpeeephkkmomaaCrc
import Derived.Test.YtnpeeephkkmomaaWZeros
namespace Go.Proofs.Ytnpeeephkkmomaa
open Go.RowKit Go.Proofs.YtnpeeephkkmomaaW.PrintLast
set_option linter.unusedVariables false
set_option linter.unusedSimpArgs false

/-- New bytes are handed back. -/
def BufPost (w : World) (l : List UInt8) (e : Ending) (w' : World) : Prop :=
  ∃ v, e = .returned v ∧ Buf w' v l ∧ (∀ k, v.ownBlock = some k → w.heap.size ≤ k) ∧ Fr (fun _ => False) w w'

theorem zero5_cells (m : Nat) : (Builtin.zeroCells (Value.int .u8 0).cells m).toList = Bs (List.replicate m 0) := by
  rw [show Builtin.zeroCells (Value.int .u8 0).cells m = madeCells (Value.int .u8 0).cells (m * 1) by unfold Builtin.zeroCells madeCells; rfl]
  rw [madeCells_const (Value.int .u8 0).cells (.int .u8 0) (m * 1) rfl (by decide)]
  simp [Bs]
theorem run_append_z (w : World) (ty : TypeId) (v : Value) (l : List UInt8) (hb : Buf w v l) (m : Nat) (hm : l.length + m ≤ 140737488355328) :
    ∃ v' w', (Builtin.append_ #[30, 3] ty #[v, .int .i64 m]).run Try.prog w = .ok v' w' ∧ Buf w' v' (l ++ List.replicate m 0) ∧ Fr (fun k => v.ownBlock = some k) w w' ∧ (v'.ownBlock = v.ownBlock ∨ v'.ownBlock = some w.heap.size) := by
  obtain ⟨i, hinfo, hz0, hz1, hz2⟩ := info_parts info5'
  obtain ⟨v', w', hr, h2, h3, h4⟩ := Go.Proofs.YtnpeeephkkmomaaW.PrintWords.run_append_zeros (P := Try.prog) w 0 30 3 ty 5 i (.int .u8 0) 1 1 Try.underlying30 Try.underlying3 hinfo hz0 hz1 hz2 rfl (by decide) (by decide) v l.length (Bs l) hb .i64 m (by
    intro u hu; rw [zero5_cells] at hu; exact Bs_one _ u hu) (by omega) (Nat.zero_le _)
  refine ⟨v', w', hr, ?_, (Fr.refl _ w).grown h3 (fun k hk => .inl hk), h4⟩
  rw [zero5_cells, ← Bs_append] at h2
  rw [Buf, List.length_append, List.length_replicate]; exact h2
theorem wpList_append_z {ops : Array Oper} {rest : List Oper} {o : Oper} {a : Act} {w : World} {Q : Exit → Act → World → Prop} (hgd : o.guard = none) (s x : Operand)
    (ho : o.op = .call { callee := .builtin .append, args := #[s, x], argTypes := #[30, 3] })
    (v : Value) (l : List UInt8) (hs : a.eval s = v) (hown : Buf w v l) (m : Nat) (hx : a.eval x = .int .i64 m) (hm : l.length + m ≤ 140737488355328)
    (h : ∀ v' w', Buf w' v' (l ++ List.replicate m 0) → Fr (fun k => v.ownBlock = some k) w w' → (v'.ownBlock = v.ownBlock ∨ v'.ownBlock = some w.heap.size) → wpList Try.prog ops Q rest (a.put o.dst v') w') :
    wpList Try.prog ops Q (o :: rest) a w :=
  wpList_plain hgd fun K hK => by
    obtain ⟨v', w', hr, h2, h3, h4⟩ := run_append_z w o.type v l hown m hm
    unfold Oper.wp execOp
    simp only [ho, resolve, invoke, builtin, Sem.run_bind, Sem.run_pure, Result.andThen_ok, List.map_toArray, List.map_cons, List.map_nil, hs, hx, hr]
    exact hK _ _ (h v' w' h2 h3 h4)

theorem Buf.at_some {w : World} {v : Value} {l : List UInt8} (h : Buf w v l) (hl : 0 < l.length) : ∃ g cap, v = .slice (some ⟨g, 0, none⟩) l.length cap ∧ l.length ≤ cap ∧ cap ≤ 9223372036854775807 := by
  rcases h.2 with ⟨hv, h0⟩ | ⟨g', cap', cur, hv, _, hg, hnc, hcm, hcs, ht⟩
  · omega
  · exact ⟨g', cap', hv, hnc, by simpa [maxLen] using hcm⟩
theorem Buf.cut {w : World} {g n cap : Nat} {l : List UInt8} (h : Buf w (.slice (some ⟨g, 0, none⟩) n cap) l) : Buf w (.slice (some ⟨g, 0, none⟩) 0 cap) [] := by
  rcases h.2 with ⟨hv, _⟩ | ⟨g', cap', cur, hv, _, hg, hnc, hcm, hcs, ht⟩
  · cases hv
  · simp only [Value.slice.injEq, Option.some.injEq, Addr.mk.injEq, and_true, true_and] at hv
    obtain ⟨rfl, _, rfl⟩ := hv
    exact ⟨by simp [Bs], .inr ⟨g, cap, cur, rfl, Nat.zero_le _, hg, Nat.zero_le _, hcm, hcs, by simp [Bs]⟩⟩

set_option maxRecDepth 100000 in
set_option maxHeartbeats 1000000 in
theorem grow_nil (n : Nat) (hn : n ≤ 140737488355328) (w : World) : Calls Try.prog 86 #[.slice none 0 0, .int .i64 n] w (BufPost w []) := by
  have hw1 : IntKind.i64.wrap (n : Int) = n := IntWalk.i64_in _ (by omega)
  by_cases h0 : 0 < n
  · have t1 : decide (0 < (n : Int)) = true := by simp; omega
    have t2 : decide ((n : Int) < 0) = false := by simp
    go_enter Try.func86, Try.ntmps86
    go_wp2_with (refine wpList_append_z rfl (.tmp 20) (.tmp 21) rfl (.slice none 0 0) [] rfl (Buf.nil _) n rfl (by simp; omega) ?_; intro v3 w3 own3 fr3 fresh3; obtain ⟨g3, cap3, rfl, hc3, hc4⟩ := own3.at_some (by simp; omega); simp only [List.nil_append, List.length_replicate] at own3 fresh3 hc3 ⊢)
    go_ret
    have hfr : Fr (fun _ => False) w w3 := fr3.mono (fun k _ h => by cases h)
    refine ⟨_, rfl, own3.cut, fun k hk => ?_, hfr⟩
    rcases fresh3 with h | h
    · cases h
    · cases hk; cases h; exact Nat.le_refl _
  · obtain rfl : n = 0 := by omega
    go_enter Try.func86, Try.ntmps86
    go_wp2
    go_ret
    exact ⟨_, rfl, Buf.nil w, by simp [Value.ownBlock], Fr.refl _ _⟩

set_option maxRecDepth 100000 in
set_option maxHeartbeats 1000000 in
/-- slices.Clone of bytes. -/
theorem clone65_any (v : Value) (l : List UInt8) (hl : l.length ≤ 140737488355328) (w : World) (hv : IsBytes w v l) : Calls Try.prog 65 #[v] w (BufPost w l) := by
  obtain ⟨ao, cap, rfl, h1, h2, h3, h4⟩ := hv.is
  have HV := Lib.hid hv; have H4 := Lib.hid h4; clear hv h4
  cases ao with
  | none =>
    obtain rfl := h3 rfl
    have hq := _root_.Go.run_eql_slice_nil (P := Try.prog) w 30 5 none 0 cap Try.underlying30
    go_enter Try.func65, Try.ntmps65
    go_wp2
    go_ret
    exact ⟨_, rfl, Buf.nil w, by simp [Value.ownBlock], Fr.refl _ _⟩
  | some a =>
    have hq := _root_.Go.run_eql_slice_nil (P := Try.prog) w 30 5 (some a) l.length cap Try.underlying30
    clear h3
    have own0 : Buf (w.alloc (.cells #[] 5 (0, 0))) (.slice (some ⟨w.heap.size, 0, none⟩) 0 0) [] := own_empty w 5 1
    have hb0 : IsBytes (w.alloc (.cells #[] 5 (0, 0))) (.slice (some a) l.length cap) l := HV.out.alloc _
    have OWN0 := Lib.hid own0; have HB0 := Lib.hid hb0; clear own0 hb0
    go_enter Try.func65, Try.ntmps65
    go_wp2_with (refine wpList_append_bytes rfl (.tmp 5) (.tmp 6) rfl (.slice (some ⟨w.heap.size, 0, none⟩) 0 0) [] rfl OWN0.out _ l rfl HB0.out (Room.of_small (by omega) (by simp [maxLen]; omega)) ?_; intro v3 w3 own3 fr3 fresh3)
    go_ret
    rw [List.nil_append] at own3
    refine ⟨v3, rfl, own3, fun k hk => ?_, ?_⟩
    · rcases fresh3 with h | h
      · rw [h] at hk; simp only [Value.ownBlock, Option.some.injEq] at hk; omega
      · rw [hk] at h; simp at h; omega
    · refine (((Fr.refl (fun _ => False) w).alloc (.cells #[] 5 (0, 0))).trans fr3 (fun k hk => ?_))
      simp only [Value.ownBlock, Option.some.injEq] at hk; exact .inr (Nat.le_of_eq hk)

/-- A slice of slices of bytes. -/
structure IsLists (w : World) (v : Value) (ls : List (List UInt8)) : Prop where
  is : ∃ ao cap, v = .slice ao ls.length cap ∧ ls.length ≤ cap ∧ cap ≤ 9223372036854775807 ∧ (ao = none → ls = []) ∧
    ∀ a, ao = some a → ∀ j (h : j < ls.length), ∃ u, w.cell? (a.add j) = some u ∧ IsBytes w u ls[j]
theorem IsLists.fr {w w' : World} {v : Value} {ls : List (List UInt8)} (h : IsLists w v ls) (hf : Fr (fun _ => False) w w') : IsLists w' v ls := by
  obtain ⟨ao, cap, rfl, h1, h2, h3, h4⟩ := h.is
  refine ⟨ao, cap, rfl, h1, h2, h3, fun a ha j hj => ?_⟩
  obtain ⟨u, hu, hb⟩ := h4 a ha j hj
  exact ⟨u, hf.cell hu, hb.fr hf (fun _ _ h => h)⟩
theorem IsLists.two {w : World} {g cap : Nat} {u v : Value} {l m : List UInt8} {T : TypeId} {f : Nat × Nat} (hg : w.heap[g]? = some (.cells #[u, v] T f)) (hc : 2 ≤ cap) (hc' : cap ≤ 9223372036854775807) (hu : IsBytes w u l) (hv : IsBytes w v m) :
    IsLists w (.slice (some ⟨g, 0, none⟩) 2 cap) [l, m] := by
  refine ⟨some ⟨g, 0, none⟩, cap, rfl, hc, hc', by simp, ?_⟩
  rintro a ha j hj
  cases ha
  rw [Addr.add_mk, Nat.zero_add, cells_at hg]
  rcases j with _ | _ | j
  · exact ⟨u, rfl, hu⟩
  · exact ⟨v, rfl, hv⟩
  · simp at hj; omega
end Go.Proofs.Ytnpeeephkkmomaa
