/-
  Rows of bytes of one's own: appended to, written into.
-/
import Derived.Test.YtnpeeephkkmomaaDsk6
namespace Go.Proofs.Ytnpeeephkkmomaa
open Go.RowKit Go.Proofs.YtnpeeephkkmomaaW.PrintLast
set_option linter.unusedVariables false
set_option linter.unusedSimpArgs false

/-- A row of bytes of one's own. -/
def Buf (w : World) (v : Value) (l : List UInt8) : Prop := w.ownsRow 0 5 1 v l.length (Bs l)
theorem Buf.nil (w : World) : Buf w (.slice none 0 0) [] := World.ownsRow_nil _ _ _ _
theorem Buf.fr {w w' : World} {F : Nat → Prop} {v : Value} {l : List UInt8} (h : Buf w v l) (hf : Fr F w w') (hF : ∀ k, v.ownBlock = some k → ¬ F k) : Buf w' v l := ownsRow_fr h hf hF
theorem Buf.slice {w : World} {v : Value} {l : List UInt8} (h : Buf w v l) : ∃ ao cap, v = .slice ao l.length cap := ownsRow_slice h
theorem Buf.bytes {w : World} {v : Value} {l : List UInt8} (h : Buf w v l) : IsBytes w v l := by
  rcases h.2 with ⟨rfl, h0⟩ | ⟨g, cap, cur, rfl, _, hg, hnc, hcm, hcs, ht⟩
  · obtain rfl := List.eq_nil_of_length_eq_zero h0
    exact IsBytes.nil w
  · refine ⟨some ⟨g, 0, none⟩, cap, rfl, hnc, by simpa [maxLen] using hcm, by simp, ?_⟩
    rintro a ha j v hv
    cases ha
    exact World.ownsRow.cells h rfl j v hv

theorem info5' : (Try.prog.info? 5).map (fun i => (i.zero, i.size, i.bytes)) = some (some (.int .u8 0), 1, 1) := by kernel_rfl

theorem run_append_bytes (w : World) (ty : TypeId) (v : Value) (l : List UInt8) (hb : Buf w v l) (x : Value) (m : List UInt8) (hx : IsBytes w x m) (hroom : Room 1 l.length m.length) :
    ∃ v' w', (Builtin.append_ #[30, 30] ty #[v, x]).run Try.prog w = .ok v' w' ∧ Buf w' v' (l ++ m) ∧ Fr (fun k => v.ownBlock = some k) w w' ∧ (v'.ownBlock = v.ownBlock ∨ v'.ownBlock = some w.heap.size) := by
  obtain ⟨i, hinfo, hz0, hz1, hz2⟩ := info_parts info5'
  obtain ⟨ao, cap, rfl, h1, h2, h3, h4⟩ := hx.is
  cases ao with
  | none =>
    obtain rfl := h3 rfl
    refine ⟨v, w, ?_, by rw [List.append_nil]; exact hb, Fr.refl _ w, .inl rfl⟩
    rcases hb.2 with ⟨rfl, h0⟩ | ⟨g, cap', cur, rfl, _, _, hnc, _⟩
    · simp [Builtin.append_, run_underlying Try.underlying30, sizeOf, typeInfo, hinfo, Builtin.lenOf, Builtin.firstCells]
    · simp [Builtin.append_, run_underlying Try.underlying30, sizeOf, typeInfo, hinfo, Builtin.lenOf, Builtin.firstCells, hnc, storeCells]
  | some a =>
    obtain ⟨v', w', hr, k2, k3, k4⟩ := run_append_mv (P := Try.prog) w 30 ty 5 i (.int .u8 0) 1 1 Try.underlying30 hinfo hz0 hz1 hz2 rfl (by decide) v l.length (Bs l) hb a m.length cap (Bs m) (by rw [Bs_length, Nat.mul_one]) (h4 a rfl) (Bs_one _) hroom
    refine ⟨v', w', hr, ?_, k3, k4⟩
    rw [← Bs_append] at k2
    rw [Buf, List.length_append]; exact k2

theorem step_append_bytes {ops : Array Oper} {o : Oper} {a : Act} {w : World} {K : Act → World → Prop} {Q : Exit → Act → World → Prop} (hw : Region.wanted o (yielded ops a.tmps) = true) (s x : Operand)
    (ho : o.op = .call { callee := .builtin .append, args := #[s, x], argTypes := #[30, 30] })
    (v : Value) (l : List UInt8) (hs : a.eval s = v) (hown : Buf w v l) (u : Value) (m : List UInt8) (hx : a.eval x = u) (hm : IsBytes w u m) (hroom : Room 1 l.length m.length)
    (h : ∀ v' w', Buf w' v' (l ++ m) → Fr (fun k => v.ownBlock = some k) w w' → (v'.ownBlock = v.ownBlock ∨ v'.ownBlock = some w.heap.size) → K (a.put o.dst v') w') :
    if Region.wanted o (yielded ops a.tmps) = true then Oper.wp Try.prog o a w K Q else K (a.put o.dst undef) w := by
  rw [if_pos hw]
  obtain ⟨v', w', hr, h2, h3, h4⟩ := run_append_bytes w o.type v l hown u m hm hroom
  unfold Oper.wp execOp
  simp only [ho, resolve, invoke, builtin, Sem.run_bind, Sem.run_pure, Result.andThen_ok, List.map_toArray, List.map_cons, List.map_nil, hs, hx, hr]
  exact h v' w' h2 h3 h4
theorem wpList_append_bytes {ops : Array Oper} {rest : List Oper} {o : Oper} {a : Act} {w : World} {Q : Exit → Act → World → Prop} (hgd : o.guard = none) (s x : Operand)
    (ho : o.op = .call { callee := .builtin .append, args := #[s, x], argTypes := #[30, 30] })
    (v : Value) (l : List UInt8) (hs : a.eval s = v) (hown : Buf w v l) (u : Value) (m : List UInt8) (hx : a.eval x = u) (hm : IsBytes w u m) (hroom : Room 1 l.length m.length)
    (h : ∀ v' w', Buf w' v' (l ++ m) → Fr (fun k => v.ownBlock = some k) w w' → (v'.ownBlock = v.ownBlock ∨ v'.ownBlock = some w.heap.size) → wpList Try.prog ops Q rest (a.put o.dst v') w') :
    wpList Try.prog ops Q (o :: rest) a w :=
  wpList_plain hgd fun K hK => by
    obtain ⟨v', w', hr, h2, h3, h4⟩ := run_append_bytes w o.type v l hown u m hm hroom
    unfold Oper.wp execOp
    simp only [ho, resolve, invoke, builtin, Sem.run_bind, Sem.run_pure, Result.andThen_ok, List.map_toArray, List.map_cons, List.map_nil, hs, hx, hr]
    exact hK _ _ (h v' w' h2 h3 h4)

theorem Bs_at (l : List UInt8) (j : Nat) (h : j < l.length) : (Bs l)[j]? = some (.int .u8 (l[j].toNat : Int)) := by
  simp [Bs, List.getElem?_map, List.getElem?_eq_getElem h]
/-- A slice into which bytes are written, whatever they are. -/
def Scr (w : World) (v : Value) (n : Nat) : Prop :=
  n = 0 ∨ ∃ g cap cur T, v = .slice (some ⟨g, 0, none⟩) n cap ∧ w.heap[g]? = some (.cells cur T (0, 0)) ∧ ∀ j, j < n → ∃ x, cur[j]? = some (.int .u8 x)
theorem Scr.of_row {w : World} {g n cap : Nat} {l : List UInt8} {T : TypeId} (h : w.heap[g]? = some (.cells (Bs l).toArray T (0, 0))) (hn : n ≤ l.length) : Scr w (.slice (some ⟨g, 0, none⟩) n cap) n := by
  refine .inr ⟨g, cap, _, T, rfl, h, fun j hj => ?_⟩
  rw [List.getElem?_toArray]
  exact ⟨_, Bs_at l j (by omega)⟩
theorem Buf.scr {w : World} {v : Value} {l : List UInt8} (h : Buf w v l) : Scr w v l.length := by
  rcases h.2 with ⟨rfl, h0⟩ | ⟨g, cap, cur, rfl, _, hg, hnc, hcm, hcs, ht⟩
  · exact .inl h0
  · refine .inr ⟨g, cap, cur, 5, rfl, hg, fun j hj => ?_⟩
    have hq : (cur.toList.take (l.length * 1))[j]? = (Bs l)[j]? := by rw [ht]
    rw [List.getElem?_take, if_pos (by omega), Array.getElem?_toList] at hq
    rw [hq]
    exact ⟨_, Bs_at l j hj⟩
theorem Scr.set {w : World} {g n cap k : Nat} {cur : Array Value} {T : TypeId} (hg : w.heap[g]? = some (.cells cur T (0, 0))) (hc : ∀ j, j < n → ∃ x, cur[j]? = some (.int .u8 x)) (y : Int) :
    Scr (w.setCell ⟨g, k, none⟩ (.int .u8 y)) (.slice (some ⟨g, 0, none⟩) n cap) n := by
  refine .inr ⟨g, cap, cur.setIfInBounds k (.int .u8 y), T, rfl, by rw [heap_setCell_self, hg]; rfl, fun j hj => ?_⟩
  obtain ⟨x, hx⟩ := hc j hj
  have hl : j < cur.size := (Array.getElem?_eq_some_iff.1 hx).1
  by_cases hjk : k = j
  · subst hjk
    exact ⟨y, by rw [Array.getElem?_setIfInBounds_self_of_lt hl]⟩
  · exact ⟨x, by rw [Array.getElem?_setIfInBounds_ne hjk]; exact hx⟩
end Go.Proofs.Ytnpeeephkkmomaa
