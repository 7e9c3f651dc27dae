/-
  The check sum.
-/
import Derived.Test.YtnpeeephkkmomaaMA
import Derived.Laws.Closers25b
import Derived.Test.YtnpeeephkkmomaaWZeros
import Derived.Laws.Tables
import Derived.Laws.Bits64b
import Derived.RangeFuncNested
import Derived.RangeFuncBound
import Derived.RangeFuncCalls
import Derived.RangeFuncLeaves
import Derived.OwnWalkIn
import Derived.TacticsInMore
import Derived.LoopNIn
import Derived.LoopIn
namespace Go.Proofs.Ytnpeeephkkmomaa
open Go.RowKit Go.Proofs.YtnpeeephkkmomaaW.PrintLast
set_option linter.unusedVariables false
set_option linter.unusedSimpArgs false

/-- A bit's step. -/
def crcR (z : Int) : Int := bits .xor .u32 (z / 2) (bits .and .u32 3988292384 (-bits .and .u32 z 1 % 4294967296))
def crcN : Nat → Int → Int
  | 0, z => z
  | n + 1, z => crcR (crcN n z)
/-- A byte's step. -/
def crcStep (c : Int) (x : UInt8) : Int := crcN 8 (bits .xor .u32 c ((x.toNat : Int) % 4294967296))
def crcAll (c : Int) (l : List UInt8) : Int := l.foldl crcStep c
theorem crcAll_snoc (c : Int) (l : List UInt8) (x : UInt8) : crcAll c (l ++ [x]) = crcStep (crcAll c l) x := by simp [crcAll]
/-- The sum of some bytes. -/
def crcSum (l : List UInt8) : Int := bits .xor .u32 IntKind.u32.max (crcAll 4294967295 l)
theorem crcSum_in (l : List UInt8) : 0 ≤ crcSum l ∧ crcSum l ≤ 4294967295 := ⟨bits_lo_u32 _ _ _, bits_hi_u32 _ _ _⟩
theorem crcSum_abc : crcSum [97, 98, 99] = 0x352441c2 := by decide +kernel

set_option maxRecDepth 100000 in
set_option maxHeartbeats 1000000 in
theorem step_any (c : Int) (x : UInt8) (w : World) :
    Calls Try.prog 84 #[.int .u32 c, .int .u8 x.toNat] w fun e w' => e = .returned (.int .u32 (crcStep c x)) ∧ w = w' := by
  have hs : Hid (crcStep c x = crcN 8 (bits .xor .u32 c ((x.toNat : Int) % 4294967296))) := Lib.hid rfl
  generalize hx : (x.toNat : Int) = xi at *
  clear hx
  go_enter Try.func84, Try.ntmps84
  go_wp2
  generalize bits .xor .u32 c (xi % 4294967296) = z0 at *
  go_loopw [0, 9] (fun v i wr => ∃ k : Nat, k ≤ 8 ∧ i = .int .i64 k ∧ v = .int .u32 (crcN k z0) ∧ wr = w) (fun _ i _ => 8 - (intOf i).toNat)
  case atStart => exact ⟨0, Nat.zero_le _, rfl, rfl, rfl⟩
  case round =>
    obtain ⟨k, hk, rfl, rfl, rfl⟩ := hrel
    have hw1 : IntKind.i64.wrap ((k : Int) + 1) = (k : Int) + 1 := IntWalk.i64_in _ (by omega)
    have hN : Hid (crcN (k + 1) z0 = crcR (crcN k z0)) := Lib.hid rfl
    by_cases hlt : k < 8
    · have t1 : decide ((k : Int) < 8) = true := by simp; omega
      generalize crcN k z0 = z at *
      go_wp2
      exact ⟨⟨k + 1, by omega, by go_num, by rw [hN.out]; rfl, trivial⟩, by simp [intOf]; omega⟩
    · have t1 : decide ((k : Int) < 8) = false := by simp; omega
      obtain rfl : k = 8 := by omega
      go_wp2
      go_ret
      rw [hs.out]; exact ⟨rfl, rfl⟩

set_option maxRecDepth 100000 in
set_option maxHeartbeats 1000000 in
theorem sum_any (g cp : Nat) (v : Value) (l : List UInt8) (T : TypeId) (w : World) (hg : w.heap[g]? = some (.cells #[v] T (0, 0))) (hv : IsBytes w v l) :
    Calls Try.prog 64 #[.slice (some ⟨g, 0, none⟩) 1 cp] w fun e w' => e = .returned (.int .u32 (crcSum l)) ∧ w = w' := by
  obtain ⟨ao, cap, rfl, h1, h2, h3, h4⟩ := hv.is
  have H3 := Lib.hid h3; have H4 := Lib.hid h4; clear h3 h4 hv
  go_enter Try.func64, Try.ntmps64
  go_wp2
  go_loopw [3, 10] (fun c i wr => wr = w ∧ ((i = .int .i64 0 ∧ c = .int .u32 4294967295) ∨ (i = .int .i64 1 ∧ c = .int .u32 (crcAll 4294967295 l)))) (fun _ i _ => 1 - (intOf i).toNat)
  case atStart => exact ⟨rfl, .inl ⟨rfl, rfl⟩⟩
  case round =>
    obtain ⟨rfl, ⟨rfl, rfl⟩ | ⟨rfl, rfl⟩⟩ := hrel
    · go_wp2
      go_loopw [3, 16] (fun c i wq => ∃ k : Nat, k ≤ l.length ∧ i = .int .i64 k ∧ c = .int .u32 (crcAll 4294967295 (l.take k)) ∧ wq = wr) (fun _ i _ => l.length - (intOf i).toNat)
      case atStart => exact ⟨0, Nat.zero_le _, rfl, rfl, rfl⟩
      case round =>
        obtain ⟨k, hk, rfl, rfl, rfl⟩ := hrel
        by_cases hlt : k < l.length
        · have hw1 : IntKind.i64.wrap ((k : Int) + 1) = (k : Int) + 1 := IntWalk.i64_in _ (by omega)
          obtain ⟨ab, off, rfl, hc⟩ : ∃ ab off, ao = some ⟨ab, off, none⟩ ∧ cellIn wr.heap[ab]? (off + k) = some (.int .u8 (l[k].toNat : Int)) := by
            cases ao with
            | none => rw [H3.out rfl] at hlt; simp at hlt
            | some a =>
              have := H4.out a rfl k _ (Bs_at l k hlt)
              have h0 := H4.out a rfl 0 _ (Bs_at l 0 (by omega))
              have hs := cell_spot h0 rfl
              obtain ⟨ab, off, sp⟩ := a
              simp only at hs
              subst hs
              rw [Addr.add_mk, cell?_mk] at this
              exact ⟨ab, off, rfl, this⟩
          have hst : crcAll 4294967295 (l.take (k + 1)) = crcStep (crcAll 4294967295 (l.take k)) l[k] := by
            rw [List.take_succ_eq_append_getElem hlt, crcAll_snoc]
          have HST := Lib.hid hst; clear hst
          generalize l[k] = x at *
          generalize crcAll 4294967295 (l.take k) = c at *
          go_wp2_with (go_at_call 84; refine (step_any c x wr).mono ?_; rintro e w2 ⟨rfl, rfl⟩)
          exact ⟨⟨k + 1, by omega, by go_num, by rw [HST.out], trivial⟩, by simp [intOf]; omega⟩
        · obtain rfl : k = l.length := by omega
          rw [List.take_length]
          go_wp2
          exact ⟨⟨trivial, .inr ⟨rfl, rfl⟩⟩, by simp [intOf]⟩
    · go_wp2
      go_ret
      exact ⟨rfl, rfl⟩
end Go.Proofs.Ytnpeeephkkmomaa
namespace Go.Proofs.Ytnpeeephkkmomaa
open Go.RowKit Go.Proofs.YtnpeeephkkmomaaW.PrintLast
set_option linter.unusedVariables false
set_option linter.unusedSimpArgs false

/-- New bytes are handed back. -/
def BufPost (w : World) (l : List UInt8) (e : Ending) (w' : World) : Prop :=
  ∃ v, e = .returned v ∧ Buf w' v l ∧ (∀ k, v.ownBlock = some k → w.heap.size ≤ k) ∧ Fr (fun _ => False) w w'

theorem zero5_cells (m : Nat) : (Builtin.zeroCells (Value.int .u8 0).cells m).toList = Bs (List.replicate m 0) := by
  rw [show Builtin.zeroCells (Value.int .u8 0).cells m = madeCells (Value.int .u8 0).cells (m * 1) by unfold Builtin.zeroCells madeCells; rfl]
  rw [madeCells_const (Value.int .u8 0).cells (.int .u8 0) (m * 1) rfl (by decide)]
  simp [Bs]
theorem run_append_z (w : World) (ty : TypeId) (v : Value) (l : List UInt8) (hb : Buf w v l) (m : Nat) (hm : l.length + m ≤ 140737488355328) :
    ∃ v' w', (Builtin.append_ #[30, 3] ty #[v, .int .i64 m]).run Try.prog w = .ok v' w' ∧ Buf w' v' (l ++ List.replicate m 0) ∧ Fr (fun k => v.ownBlock = some k) w w' ∧ (v'.ownBlock = v.ownBlock ∨ v'.ownBlock = some w.heap.size) := by
  obtain ⟨i, hinfo, hz0, hz1, hz2⟩ := info_parts info5'
  obtain ⟨v', w', hr, h2, h3, h4⟩ := Go.Proofs.YtnpeeephkkmomaaW.PrintWords.run_append_zeros (P := Try.prog) w 0 30 3 ty 5 i (.int .u8 0) 1 1 Try.underlying30 Try.underlying3 hinfo hz0 hz1 hz2 rfl (by decide) (by decide) v l.length (Bs l) hb .i64 m (by
    intro u hu; rw [zero5_cells] at hu; exact Bs_one _ u hu) (by omega) (Nat.zero_le _)
  refine ⟨v', w', hr, ?_, (Fr.refl _ w).grown h3 (fun k hk => .inl hk), h4⟩
  rw [zero5_cells, ← Bs_append] at h2
  rw [Buf, List.length_append, List.length_replicate]; exact h2
theorem wpList_append_z {ops : Array Oper} {rest : List Oper} {o : Oper} {a : Act} {w : World} {Q : Exit → Act → World → Prop} (hgd : o.guard = none) (s x : Operand)
    (ho : o.op = .call { callee := .builtin .append, args := #[s, x], argTypes := #[30, 3] })
    (v : Value) (l : List UInt8) (hs : a.eval s = v) (hown : Buf w v l) (m : Nat) (hx : a.eval x = .int .i64 m) (hm : l.length + m ≤ 140737488355328)
    (h : ∀ v' w', Buf w' v' (l ++ List.replicate m 0) → Fr (fun k => v.ownBlock = some k) w w' → (v'.ownBlock = v.ownBlock ∨ v'.ownBlock = some w.heap.size) → wpList Try.prog ops Q rest (a.put o.dst v') w') :
    wpList Try.prog ops Q (o :: rest) a w :=
  wpList_plain hgd fun K hK => by
    obtain ⟨v', w', hr, h2, h3, h4⟩ := run_append_z w o.type v l hown m hm
    unfold Oper.wp execOp
    simp only [ho, resolve, invoke, builtin, Sem.run_bind, Sem.run_pure, Result.andThen_ok, List.map_toArray, List.map_cons, List.map_nil, hs, hx, hr]
    exact hK _ _ (h v' w' h2 h3 h4)

theorem Buf.at_some {w : World} {v : Value} {l : List UInt8} (h : Buf w v l) (hl : 0 < l.length) : ∃ g cap, v = .slice (some ⟨g, 0, none⟩) l.length cap ∧ l.length ≤ cap ∧ cap ≤ 9223372036854775807 := by
  rcases h.2 with ⟨hv, h0⟩ | ⟨g', cap', cur, hv, _, hg, hnc, hcm, hcs, ht⟩
  · omega
  · exact ⟨g', cap', hv, hnc, by simpa [maxLen] using hcm⟩
theorem Buf.cut {w : World} {g n cap : Nat} {l : List UInt8} (h : Buf w (.slice (some ⟨g, 0, none⟩) n cap) l) : Buf w (.slice (some ⟨g, 0, none⟩) 0 cap) [] := by
  rcases h.2 with ⟨hv, _⟩ | ⟨g', cap', cur, hv, _, hg, hnc, hcm, hcs, ht⟩
  · cases hv
  · simp only [Value.slice.injEq, Option.some.injEq, Addr.mk.injEq, and_true, true_and] at hv
    obtain ⟨rfl, _, rfl⟩ := hv
    exact ⟨by simp [Bs], .inr ⟨g, cap, cur, rfl, Nat.zero_le _, hg, Nat.zero_le _, hcm, hcs, by simp [Bs]⟩⟩

set_option maxRecDepth 100000 in
set_option maxHeartbeats 1000000 in
theorem grow_nil (n : Nat) (hn : n ≤ 140737488355328) (w : World) : Calls Try.prog 86 #[.slice none 0 0, .int .i64 n] w (BufPost w []) := by
  have hw1 : IntKind.i64.wrap (n : Int) = n := IntWalk.i64_in _ (by omega)
  by_cases h0 : 0 < n
  · have t1 : decide (0 < (n : Int)) = true := by simp; omega
    have t2 : decide ((n : Int) < 0) = false := by simp
    go_enter Try.func86, Try.ntmps86
    go_wp2_with (refine wpList_append_z rfl (.tmp 20) (.tmp 21) rfl (.slice none 0 0) [] rfl (Buf.nil _) n rfl (by simp; omega) ?_; intro v3 w3 own3 fr3 fresh3; obtain ⟨g3, cap3, rfl, hc3, hc4⟩ := own3.at_some (by simp; omega); simp only [List.nil_append, List.length_replicate] at own3 fresh3 hc3 ⊢)
    go_ret
    have hfr : Fr (fun _ => False) w w3 := fr3.mono (fun k _ h => by cases h)
    refine ⟨_, rfl, own3.cut, fun k hk => ?_, hfr⟩
    rcases fresh3 with h | h
    · cases h
    · cases hk; cases h; exact Nat.le_refl _
  · obtain rfl : n = 0 := by omega
    go_enter Try.func86, Try.ntmps86
    go_wp2
    go_ret
    exact ⟨_, rfl, Buf.nil w, by simp [Value.ownBlock], Fr.refl _ _⟩

set_option maxRecDepth 100000 in
set_option maxHeartbeats 1000000 in
/-- slices.Clone of bytes. -/
theorem clone65_any (v : Value) (l : List UInt8) (hl : l.length ≤ 140737488355328) (w : World) (hv : IsBytes w v l) : Calls Try.prog 65 #[v] w (BufPost w l) := by
  obtain ⟨ao, cap, rfl, h1, h2, h3, h4⟩ := hv.is
  have HV := Lib.hid hv; have H4 := Lib.hid h4; clear hv h4
  cases ao with
  | none =>
    obtain rfl := h3 rfl
    have hq := _root_.Go.run_eql_slice_nil (P := Try.prog) w 30 5 none 0 cap Try.underlying30
    go_enter Try.func65, Try.ntmps65
    go_wp2
    go_ret
    exact ⟨_, rfl, Buf.nil w, by simp [Value.ownBlock], Fr.refl _ _⟩
  | some a =>
    have hq := _root_.Go.run_eql_slice_nil (P := Try.prog) w 30 5 (some a) l.length cap Try.underlying30
    clear h3
    have own0 : Buf (w.alloc (.cells #[] 5 (0, 0))) (.slice (some ⟨w.heap.size, 0, none⟩) 0 0) [] := own_empty w 5 1
    have hb0 : IsBytes (w.alloc (.cells #[] 5 (0, 0))) (.slice (some a) l.length cap) l := HV.out.alloc _
    have OWN0 := Lib.hid own0; have HB0 := Lib.hid hb0; clear own0 hb0
    go_enter Try.func65, Try.ntmps65
    go_wp2_with (refine wpList_append_bytes rfl (.tmp 5) (.tmp 6) rfl (.slice (some ⟨w.heap.size, 0, none⟩) 0 0) [] rfl OWN0.out _ l rfl HB0.out (Room.of_small (by omega) (by simp [maxLen]; omega)) ?_; intro v3 w3 own3 fr3 fresh3)
    go_ret
    rw [List.nil_append] at own3
    refine ⟨v3, rfl, own3, fun k hk => ?_, ?_⟩
    · rcases fresh3 with h | h
      · rw [h] at hk; simp only [Value.ownBlock, Option.some.injEq] at hk; omega
      · rw [hk] at h; simp at h; omega
    · refine (((Fr.refl (fun _ => False) w).alloc (.cells #[] 5 (0, 0))).trans fr3 (fun k hk => ?_))
      simp only [Value.ownBlock, Option.some.injEq] at hk; exact .inr (Nat.le_of_eq hk)

/-- A slice of slices of bytes. -/
structure IsLists (w : World) (v : Value) (ls : List (List UInt8)) : Prop where
  is : ∃ ao cap, v = .slice ao ls.length cap ∧ ls.length ≤ cap ∧ cap ≤ 9223372036854775807 ∧ (ao = none → ls = []) ∧
    ∀ a, ao = some a → ∀ j (h : j < ls.length), ∃ u, w.cell? (a.add j) = some u ∧ IsBytes w u ls[j]
theorem IsLists.fr {w w' : World} {v : Value} {ls : List (List UInt8)} (h : IsLists w v ls) (hf : Fr (fun _ => False) w w') : IsLists w' v ls := by
  obtain ⟨ao, cap, rfl, h1, h2, h3, h4⟩ := h.is
  refine ⟨ao, cap, rfl, h1, h2, h3, fun a ha j hj => ?_⟩
  obtain ⟨u, hu, hb⟩ := h4 a ha j hj
  exact ⟨u, hf.cell hu, hb.fr hf (fun _ _ h => h)⟩
theorem IsLists.two {w : World} {g cap : Nat} {u v : Value} {l m : List UInt8} {T : TypeId} {f : Nat × Nat} (hg : w.heap[g]? = some (.cells #[u, v] T f)) (hc : 2 ≤ cap) (hc' : cap ≤ 9223372036854775807) (hu : IsBytes w u l) (hv : IsBytes w v m) :
    IsLists w (.slice (some ⟨g, 0, none⟩) 2 cap) [l, m] := by
  refine ⟨some ⟨g, 0, none⟩, cap, rfl, hc, hc', by simp, ?_⟩
  rintro a ha j hj
  cases ha
  rw [Addr.add_mk, Nat.zero_add, cells_at hg]
  rcases j with _ | _ | j
  · exact ⟨u, rfl, hu⟩
  · exact ⟨v, rfl, hv⟩
  · simp at hj; omega
end Go.Proofs.Ytnpeeephkkmomaa
namespace Go.Proofs.Ytnpeeephkkmomaa
open Go.RowKit Go.Proofs.YtnpeeephkkmomaaW.PrintLast
set_option linter.unusedVariables false
set_option linter.unusedSimpArgs false

theorem IsLists.at {w : World} {ao : Option Addr} {cap n : Nat} {ls : List (List UInt8)} (h : IsLists w (.slice ao n cap) ls) (k : Nat) (hk : k < ls.length) :
    ∃ ab off uo uc, ao = some ⟨ab, off, none⟩ ∧ cellIn w.heap[ab]? (off + k) = some (.slice uo ls[k].length uc) ∧ IsBytes w (.slice uo ls[k].length uc) ls[k] := by
  obtain ⟨ao', cap', hv, h1, h2, h3, h4⟩ := h.is
  simp only [Value.slice.injEq] at hv
  obtain ⟨rfl, _, rfl⟩ := hv
  cases ao with
  | none => rw [h3 rfl] at hk; simp at hk
  | some a =>
    obtain ⟨u0, hu0, _⟩ := h4 a rfl 0 (by omega)
    have hs := cell_spot hu0 rfl
    obtain ⟨ab, off, sp⟩ := a
    simp only at hs
    subst hs
    obtain ⟨u, hu, hb⟩ := h4 _ rfl k hk
    rw [Addr.add_mk, cell?_mk] at hu
    obtain ⟨uo, uc, rfl, _⟩ := hb.is
    exact ⟨ab, off, uo, uc, rfl, hu, hb⟩

def lsum (ls : List (List UInt8)) : Nat := (ls.map List.length).sum
theorem lsum_snoc (ls : List (List UInt8)) (x : List UInt8) : lsum (ls ++ [x]) = lsum ls + x.length := by simp [lsum]
theorem lsum_take_le (ls : List (List UInt8)) (k : Nat) : lsum (ls.take k) ≤ lsum ls := by
  have : ls.map List.length = (ls.take k).map List.length ++ (ls.drop k).map List.length := by rw [← List.map_append, List.take_append_drop]
  unfold lsum; rw [this, List.sum_append]; omega
theorem lsum_flatten (ls : List (List UInt8)) : ls.flatten.length = lsum ls := by simp [lsum, List.length_flatten]

def CatAt (w : World) (l : List UInt8) (v : Value) (wr : World) : Prop := Buf wr v l ∧ (∀ k, v.ownBlock = some k → w.heap.size ≤ k) ∧ Fr (fun _ => False) w wr

set_option maxRecDepth 100000 in
set_option maxHeartbeats 2000000 in
theorem concat_any (v : Value) (ls : List (List UInt8)) (w : World) (hv : IsLists w v ls) (hl : lsum ls ≤ 140737488355328) : Calls Try.prog 67 #[v] w (BufPost w ls.flatten) := by
  obtain ⟨ao, cap, rfl, h1, h2, _, _⟩ := hv.is
  have HV := Lib.hid hv; clear hv
  have HL := Lib.hid hl; clear hl
  go_enter Try.func67, Try.ntmps67
  go_wp2
  go_loopw [3, 11] (fun c i wr => ∃ k : Nat, k ≤ ls.length ∧ i = .int .i64 k ∧ c = .int .i64 (lsum (ls.take k) : Nat) ∧ w = wr) (fun _ i _ => ls.length - (intOf i).toNat)
  case atStart => exact ⟨0, Nat.zero_le _, rfl, rfl, rfl⟩
  case round =>
    obtain ⟨k, hk, rfl, rfl, rfl⟩ := hrel
    by_cases hlt : k < ls.length
    · obtain ⟨ab, off, uo, uc, rfl, hc, hb⟩ := HV.out.at k hlt
      clear hb
      have hle := lsum_take_le ls (k + 1)
      have hst : lsum (ls.take (k + 1)) = lsum (ls.take k) + ls[k].length := by rw [List.take_succ_eq_append_getElem hlt, lsum_snoc]
      have hL := HL.out
      have HST := Lib.hid hst
      rw [hst] at hle
      clear hst
      generalize lsum (ls.take k) = s at *
      generalize ls[k].length = m at *
      have hw1 : IntKind.i64.wrap ((k : Int) + 1) = (k : Int) + 1 := IntWalk.i64_in _ (by omega)
      have hw2 : IntKind.i64.wrap ((s : Int) + (m : Int)) = (s : Int) + (m : Int) := IntWalk.i64_in _ (by omega)
      have t1 : decide ((s : Int) + (m : Int) < 0) = false := by simp; omega
      clear hL hle
      go_wp2
      exact ⟨⟨k + 1, by omega, by go_num, by rw [HST.out]; go_num, trivial⟩, by simp [intOf]; omega⟩
    · obtain rfl : k = ls.length := by omega
      rw [List.take_length]
      have hw1 : ((lsum ls : Nat) : Int) = (lsum ls : Nat) := rfl
      go_wp2_with (go_at_call 86; refine (grow_nil (lsum ls) HL.out w).mono ?_; rintro e w2 ⟨v2, rfl, b2, n2, f2⟩)
      have HB2 : Hid (CatAt w [] v2 w2) := ⟨b2, n2, f2⟩
      clear b2 n2 f2
      go_loopw [6, 27] (fun c i wq => ∃ k : Nat, k ≤ ls.length ∧ i = .int .i64 k ∧ CatAt w (ls.take k).flatten c wq) (fun _ i _ => ls.length - (intOf i).toNat)
      case atStart => exact ⟨0, Nat.zero_le _, rfl, HB2.out⟩
      case round =>
        clear HB2
        obtain ⟨k, hk, rfl, hb, hn, hf⟩ := hrel
        have HB := Lib.hid hb; have HN := Lib.hid hn; have HF := Lib.hid hf
        clear hb hn hf
        by_cases hlt : k < ls.length
        · obtain ⟨ab, off, uo, uc, rfl, hc, hb⟩ := (HV.out.fr HF.out).at k hlt
          have hle := lsum_take_le ls (k + 1)
          have hst : lsum (ls.take (k + 1)) = lsum (ls.take k) + ls[k].length := by rw [List.take_succ_eq_append_getElem hlt, lsum_snoc]
          have hfl : (ls.take (k + 1)).flatten = (ls.take k).flatten ++ ls[k] := by rw [List.take_succ_eq_append_getElem hlt, List.flatten_append]; simp only [List.flatten_cons, List.flatten_nil, List.append_nil]
          have hln := lsum_flatten (ls.take k)
          have hroom : Room 1 (ls.take k).flatten.length ls[k].length := by
            have := HL.out
            exact Room.of_le (by unfold maxLen; omega) (by omega)
          have HFL := Lib.hid hfl; have HROOM := Lib.hid hroom; have HBY := Lib.hid hb
          clear hle hst hfl hln hroom hb
          have hw1 : IntKind.i64.wrap ((k : Int) + 1) = (k : Int) + 1 := IntWalk.i64_in _ (by omega)
          go_wp2_with (refine wpList_append_bytes rfl (.tmp 31) (.tmp 32) rfl _ _ rfl HB.out _ _ rfl HBY.out HROOM.out ?_; intro v3 w3 own3 fr3 fresh3)
          refine ⟨⟨k + 1, by omega, by go_num, by rw [HFL.out]; exact own3, fun j hj => ?_, HF.out.trans fr3 (fun j hj => .inr (HN.out j hj))⟩, by simp [intOf]; omega⟩
          rcases fresh3 with h | h
          · rw [h] at hj; exact HN.out j hj
          · rw [hj] at h; cases h; exact HF.out.size
        · obtain rfl : k = ls.length := by omega
          rw [List.take_length] at HB
          go_wp2
          go_ret
          exact ⟨_, rfl, HB.out, HN.out, HF.out⟩
end Go.Proofs.Ytnpeeephkkmomaa
namespace Go.Proofs.Ytnpeeephkkmomaa
open Go.RowKit Go.Proofs.YtnpeeephkkmomaaW.PrintLast
set_option linter.unusedVariables false
set_option linter.unusedSimpArgs false

/-- The k-th byte of a number. -/
def byteAt (n : Int) (k : Nat) : UInt8 := UInt8.ofNat ((IntKind.u64.wrap n / 2 ^ (56 - 8 * k)) % 256).toNat
theorem byteAt_val (n : Int) (k : Nat) : ((byteAt n k).toNat : Int) = (IntKind.u64.wrap n / 2 ^ (56 - 8 * k)) % 256 := by
  have h := Int.emod_lt_of_pos (IntKind.u64.wrap n / 2 ^ (56 - 8 * k)) (show (0 : Int) < 256 by decide)
  have h0 := Int.emod_nonneg (IntKind.u64.wrap n / 2 ^ (56 - 8 * k)) (show (256 : Int) ≠ 0 by decide)
  unfold byteAt
  rw [UInt8.toNat_ofNat']
  omega
/-- A number's eight bytes. -/
def be8 (n : Int) : List UInt8 := (List.range 8).map (byteAt n)
theorem be8_length (n : Int) : (be8 n).length = 8 := by simp [be8]
def putC (n : Int) (k : Nat) : List UInt8 := (be8 n).take k ++ (List.replicate 8 (0 : UInt8)).drop k

theorem Bs_put (a b : List UInt8) (k : Nat) (x : UInt8) (ha : k < a.length) (hab : b.length = a.length) (hx : b[k]? = some x) :
    ((Bs (b.take k ++ a.drop k)).toArray.setIfInBounds k (.int .u8 (x.toNat : Int))) = (Bs (b.take (k + 1) ++ a.drop (k + 1))).toArray := by
  apply Array.toList_inj.1
  rw [Array.toList_setIfInBounds]
  have hk : (b.take k).length = k := by rw [List.length_take]; omega
  obtain ⟨hb, hxe⟩ := List.getElem?_eq_some_iff.1 hx
  simp only [Bs_append]
  rw [List.set_append_right _ _ (by rw [Bs_length, hk]; exact Nat.le_refl _), Bs_length, hk, Nat.sub_self, List.drop_eq_getElem_cons ha, List.take_succ_eq_append_getElem hb, hxe, Bs_append, List.append_assoc]
  rfl
theorem putC_step (n : Int) (k : Nat) (hk : k < 8) : (Bs (putC n k)).toArray.setIfInBounds k (.int .u8 ((IntKind.u64.wrap n / 2 ^ (56 - 8 * k)) % 256)) = (Bs (putC n (k + 1))).toArray := by
  rw [← byteAt_val]
  refine Bs_put _ _ k _ (by simpa using hk) (by simp [be8]) ?_
  simp [be8, hk]
theorem putC_size (n : Int) (k : Nat) (hk : k ≤ 8) : (Bs (putC n k)).toArray.size = 8 := by
  rw [List.size_toArray, Bs_length, putC, List.length_append, List.length_take, List.length_drop, be8_length]; simp; omega

def PutAt (w : World) (cs : List UInt8) (wr : World) : Prop := wr.heap[w.heap.size]? = some (.cells (Bs cs).toArray 158 (0, 0)) ∧ Fr (fun _ => False) w wr
theorem PutAt.set {w wr : World} {n : Int} {k : Nat} (hk : k < 8) (h : PutAt w (putC n k) wr) (z : Int) (hz : z = (IntKind.u64.wrap n / 2 ^ (56 - 8 * k)) % 256) : PutAt w (putC n (k + 1)) (wr.setCell ⟨w.heap.size, k, none⟩ (.int .u8 z)) := by
  refine ⟨?_, h.2.setCell _ (.inr (Nat.le_refl _))⟩
  rw [heap_setCell_self, h.1, putIn_some, hz, putC_step n k hk]

set_option maxRecDepth 100000 in
set_option maxHeartbeats 4000000 in
theorem putInt_any (v : Value) (l : List UInt8) (n : Int) (w : World) (hv : IsBytes w v l) (hl : l.length ≤ 140737488355320) : Calls Try.prog 85 #[v, .int .i64 n] w (BufPost w (l ++ be8 n)) := by
  obtain ⟨ao, cap, rfl, _⟩ := hv.is
  have HV := Lib.hid hv; clear hv
  go_enter Try.func85, Try.ntmps85
  go_wp2
  go_loopw [7] (fun i wr => ∃ k : Nat, k ≤ 8 ∧ i = .int .i64 k ∧ PutAt w (putC n k) wr) (fun i _ => 8 - (intOf i).toNat)
  case atStart => exact ⟨0, Nat.zero_le _, rfl, heap_alloc_at _ _, (Fr.refl _ w).alloc _⟩
  case round =>
    obtain ⟨k, hk, rfl, hp⟩ := hrel
    have HP := Lib.hid hp
    have hx := hp.1
    have hs := putC_size n k hk
    clear hp
    by_cases hlt : k < 8
    · have hcase : k = 0 ∨ k = 1 ∨ k = 2 ∨ k = 3 ∨ k = 4 ∨ k = 5 ∨ k = 6 ∨ k = 7 := by omega
      rcases hcase with rfl | rfl | rfl | rfl | rfl | rfl | rfl | rfl <;>
      · go_wp2
        exact ⟨⟨_, hlt, rfl, HP.out.set hlt _ (by simp)⟩, by simp [intOf]⟩
    · obtain rfl : k = 8 := by omega
      have hall : putC n 8 = be8 n := by simp [putC, List.take_of_length_le, be8_length]
      rw [hall] at hx HP
      have hb : IsBytes wr (.slice (some ⟨w.heap.size, 0, none⟩) 8 8) (be8 n) := by
        have := IsBytes.of_cells hx (by rw [be8_length]; decide)
        rwa [be8_length] at this
      have HB := Lib.hid hb
      clear hb hall hs
      go_wp2_with (go_at_call 67; refine (concat_any _ [l, be8 n] _ (IsLists.two (heap_alloc_at wr _) (by decide) (by decide) ((HV.out.fr HP.out.2 (fun _ _ h => h)).alloc _) (HB.out.alloc _)) (by simp [lsum, be8_length]; omega)).mono ?_; rintro e w3 ⟨v3, rfl, b3, n3, f3⟩)
      go_ret
      have hfa := HP.out.2.alloc (.cells #[.slice ao l.length cap, .slice (some ⟨w.heap.size, 0, none⟩) 8 8] 30 (0, 0))
      refine ⟨_, rfl, by simpa using b3, fun j hj => Nat.le_trans hfa.size (n3 j hj), hfa.trans f3 (fun _ h => h.elim)⟩
end Go.Proofs.Ytnpeeephkkmomaa
namespace Go.Proofs.Ytnpeeephkkmomaa
open Go.RowKit Go.Proofs.YtnpeeephkkmomaaW.PrintLast
set_option linter.unusedVariables false
set_option linter.unusedSimpArgs false

theorem addr_add (a : Addr) (i j : Nat) (h : a.spot = none) : (a.add i).add j = a.add (i + j) := by
  obtain ⟨b, o, s⟩ := a
  simp only at h; subst h
  simp only [Addr.add_mk, Nat.add_assoc]
theorem u30e : Try.prog.underlying 30 = some (.slice (Try.prog.elem 30)) := by kernel_rfl
theorem size5 (w : World) : (sizeOf (Try.prog.elem 30)).run Try.prog w = .ok 1 w := run_sizeOf (by kernel_rfl) w
theorem sliced_bytes {w : World} {ao : Option Addr} {len cap : Nat} {l : List UInt8} (h : IsBytes w (.slice ao len cap) l) (lo hi : Nat) (h1 : lo ≤ hi) (h2 : hi ≤ l.length) :
    IsBytes w (sliced ao lo hi cap 1) ((l.drop lo).take (hi - lo)) := by
  obtain ⟨ao', cap', hv, k1, k2, k3, k4⟩ := h.is
  simp only [Value.slice.injEq] at hv
  obtain ⟨rfl, rfl, rfl⟩ := hv
  have hl : ((l.drop lo).take (hi - lo)).length = hi - lo := by rw [List.length_take, List.length_drop]; omega
  unfold sliced
  by_cases he : cap = lo
  · rw [if_pos he]
    have hnil : (l.drop lo).take (hi - lo) = [] := List.eq_nil_of_length_eq_zero (by omega)
    refine ⟨ao, cap - lo, by rw [hl], by rw [hl]; omega, by omega, fun _ => hnil, fun a _ j v hv => ?_⟩
    rw [hnil] at hv; simp [Bs] at hv
  · rw [if_neg he]
    refine ⟨ao.map (·.add (lo * 1)), cap - lo, by rw [hl], by rw [hl]; omega, by omega, fun hn => ?_, fun a ha j v hv => ?_⟩
    · cases ao with
      | none => rw [k3 rfl]; simp
      | some a => simp at hn
    · cases ao with
      | none => simp at ha
      | some a0 =>
        simp only [Option.map_some, Option.some.injEq, Nat.mul_one] at ha
        subst ha
        have hj : j < hi - lo := by
          rcases Nat.lt_or_ge j (hi - lo) with h | h
          · exact h
          · rw [List.getElem?_eq_none (by rw [Bs_length, hl]; exact h)] at hv; cases hv
        have h0 := k4 a0 rfl 0 _ (Bs_at l 0 (by omega))
        rw [addr_add _ _ _ (cell_spot h0 rfl)]
        refine k4 a0 rfl (lo + j) v ?_
        rw [Bs_take, List.getElem?_take, if_pos hj, Bs_drop, List.getElem?_drop] at hv
        exact hv
theorem sliced_block (ao : Option Addr) (len cap lo hi : Nat) : (sliced ao lo hi cap 1).ownBlock = (Value.slice ao len cap).ownBlock := by
  unfold sliced
  split
  · cases ao <;> rfl
  · cases ao with
    | none => rfl
    | some a => simp only [Option.map_some, Value.ownBlock, block_add]

/-- b[lo:hi]. -/
theorem cut_lh {w : World} {v : Value} {l : List UInt8} (h : IsBytes w v l) (lo hi : Nat) (h1 : lo ≤ hi) (h2 : hi ≤ l.length) :
    ∃ v', (∀ w', (Instr.slice 30 v (some (.int .i64 (lo : Int))) (some (.int .i64 (hi : Int))) none).run Try.prog w' = .ok v' w') ∧ (∀ w', IsBytes w' v l → IsBytes w' v' ((l.drop lo).take (hi - lo))) ∧ v'.ownBlock = v.ownBlock := by
  obtain ⟨ao, cap, rfl, k1, k2, k3, k4⟩ := h.is
  refine ⟨sliced ao lo hi cap 1, fun w' => ?_, fun w' h' => sliced_bytes h' lo hi h1 h2, sliced_block ao l.length cap lo hi⟩
  rw [run_slice_lh w' 30 ao l.length cap u30e .i64 .i64 lo hi (by omega) (by omega) (by omega), size5]
  simp [Result.andThen]
/-- b[:hi]. -/
theorem cut_h {w : World} {v : Value} {l : List UInt8} (h : IsBytes w v l) (hi : Nat) (h2 : hi ≤ l.length) :
    ∃ v', (∀ w', (Instr.slice 30 v none (some (.int .i64 (hi : Int))) none).run Try.prog w' = .ok v' w') ∧ (∀ w', IsBytes w' v l → IsBytes w' v' (l.take hi)) ∧ v'.ownBlock = v.ownBlock := by
  obtain ⟨ao, cap, rfl, k1, k2, k3, k4⟩ := h.is
  refine ⟨sliced ao 0 hi cap 1, fun w' => ?_, fun w' h' => by simpa using sliced_bytes h' 0 hi (Nat.zero_le _) h2, sliced_block ao l.length cap 0 hi⟩
  rw [run_slice_h w' 30 ao l.length cap u30e .i64 hi (by omega) (by omega), size5]
  simp [Result.andThen]
/-- b[lo:]. -/
theorem cut_l {w : World} {v : Value} {l : List UInt8} (h : IsBytes w v l) (lo : Nat) (h2 : lo ≤ l.length) :
    ∃ v', (∀ w', (Instr.slice 30 v (some (.int .i64 (lo : Int))) none none).run Try.prog w' = .ok v' w') ∧ (∀ w', IsBytes w' v l → IsBytes w' v' (l.drop lo)) ∧ v'.ownBlock = v.ownBlock := by
  obtain ⟨ao, cap, rfl, k1, k2, k3, k4⟩ := h.is
  refine ⟨sliced ao lo l.length cap 1, fun w' => ?_, fun w' h' => ?_, sliced_block ao l.length cap lo l.length⟩
  · rw [run_slice_l w' 30 ao l.length cap u30e .i64 lo (by omega) (by omega), size5]
    simp [Result.andThen]
  · have := sliced_bytes h' lo l.length h2 (Nat.le_refl _)
    rwa [List.take_of_length_le (by rw [List.length_drop]; exact Nat.le_refl _)] at this
end Go.Proofs.Ytnpeeephkkmomaa
namespace Go.Proofs.Ytnpeeephkkmomaa
open Go.RowKit Go.Proofs.YtnpeeephkkmomaaW.PrintLast
set_option linter.unusedVariables false
set_option linter.unusedSimpArgs false

/-- A Reader at block rp. -/
structure IsRd (w : World) (rp : Nat) (v : Value) (l : List UInt8) (at_ : Nat) (bad : Bool) : Prop where
  head : w.heap[rp]? = some (.cells #[v, .int .i64 at_, .bool bad] 133 (0, 0))
  bytes : IsBytes w v l
  le : at_ ≤ l.length
  ne : v.ownBlock ≠ some rp
theorem IsRd.fr {w w' : World} {F : Nat → Prop} {rp : Nat} {v : Value} {l : List UInt8} {at_ : Nat} {bad : Bool} (h : IsRd w rp v l at_ bad) (hf : Fr F w w') (h1 : ¬ F rp) (h2 : ∀ k, v.ownBlock = some k → ¬ F k) : IsRd w' rp v l at_ bad :=
  ⟨hf.at h.head h1, h.bytes.fr hf h2, h.le, h.ne⟩
theorem bd133 (w : World) (a : Option Addr) (n c : Nat) : (Instr.build 133 #[(0, .slice a n c)]).run Try.prog w = .ok (.agg #[.slice a n c, .int .i64 0, .bool false]) w :=
  run_build w 133 _ _ (by kernel_rfl)
attribute [local go_sem] bd133

def RdNewPost (w : World) (l : List UInt8) (e : Ending) (w' : World) : Prop :=
  ∃ rp v, e = .returned (.pointer (some ⟨rp, 0, none⟩)) ∧ IsRd w' rp v l 0 false ∧ w.heap.size ≤ rp ∧ (∀ k, v.ownBlock = some k → w.heap.size ≤ k) ∧ Fr (fun _ => False) w w'

set_option maxRecDepth 100000 in
set_option maxHeartbeats 1000000 in
theorem rd_new (v : Value) (l : List UInt8) (hl : l.length ≤ 140737488355328) (w : World) (hv : IsBytes w v l) : Calls Try.prog 60 #[v] w (RdNewPost w l) := by
  have HV := Lib.hid hv; clear hv
  go_enter Try.func60, Try.ntmps60
  go_wp2_with (go_at_call 65; refine (clone65_any v l hl w HV.out).mono ?_; rintro e w2 ⟨v2, rfl, b2, n2, f2⟩; obtain ⟨ao2, cap2, rfl⟩ := b2.slice)
  go_ret
  have hfa := (Fr.refl (fun _ => False) w2).alloc (.cells #[.slice ao2 l.length cap2, .int .i64 0, .bool false] 133 (0, 0))
  refine ⟨w2.heap.size, .slice ao2 l.length cap2, rfl, ⟨heap_alloc_at _ _, b2.bytes.alloc _, Nat.zero_le _, fun e => ?_⟩, f2.size, n2, f2.trans hfa (fun _ h => h.elim)⟩
  have := (World.ownsRow.lt b2 _ e).2
  omega

set_option maxRecDepth 100000 in
theorem rd_bad (rp : Nat) (v : Value) (l : List UInt8) (at_ : Nat) (bad : Bool) (w : World) (h : IsRd w rp v l at_ bad) : Calls Try.prog 62 #[.pointer (some ⟨rp, 0, none⟩)] w fun e w' => e = .returned (.bool bad) ∧ w = w' := by
  have head := h.head
  clear h
  go_enter Try.func62, Try.ntmps62
  go_wp2
  go_ret
  exact ⟨rfl, rfl⟩

set_option maxRecDepth 100000 in
theorem rd_left (rp : Nat) (v : Value) (l : List UInt8) (at_ : Nat) (bad : Bool) (w : World) (h : IsRd w rp v l at_ bad) :
    Calls Try.prog 63 #[.pointer (some ⟨rp, 0, none⟩)] w fun e w' => e = .returned (.int .i64 (if bad then 0 else (l.length - at_ : Nat))) ∧ Fr (fun _ => False) w w' := by
  obtain ⟨ao, cap, rfl, k1, k2, _⟩ := h.bytes.is
  have head := h.head
  have hle := h.le
  clear h
  cases bad with
  | true =>
    go_enter Try.func63, Try.ntmps63
    go_wp2
    go_ret
    exact ⟨rfl, Fr.refl _ _⟩
  | false =>
    have hw : IntKind.i64.wrap ((l.length : Int) - (at_ : Int)) = ((l.length - at_ : Nat) : Int) := by rw [IntWalk.i64_in _ (by omega)]; omega
    have hw' : wrap64 ((l.length : Int) - (at_ : Int)) = ((l.length - at_ : Nat) : Int) := by rw [← i64_w]; exact hw
    have HLE := Lib.hid hle; clear hle
    go_enter Try.func63, Try.ntmps63
    go_wp2
    refine start_ (n := 11) (S := fun w' => w'.heap[rp]? = some (.cells #[.slice ao l.length cap, .int .i64 at_, .bool false] 133 (0, 0))) (ds := []) #[false, false, false, false, false, false, false, false, false, false, false] (by kernel_rfl) rfl rfl (head) (fun hHeld => ?_)
    refine pure_ (i := 0) (N := some 7) (v := ?_) (a' := ?_) #[true, false, false, false, false, false, false, false, false, false, false] rfl rfl (by kernel_rfl) (fun _ _ _ h => h) (Or.inl ⟨by rfl, ?_⟩) ?_ ?_
    rotate_left
    · intro w'
      try simp only [List.getElem_toArray, List.getElem_cons_succ, List.getElem_cons_zero]
      go_simp
      with_reducible rfl
    rotate_left
    · simp only [Act.put, List.setIfInBounds_toArray, List.set_cons_zero, List.set_cons_succ, i64_w, i32_w]
      rfl
    refine pure_ (i := 1) (N := some 8) (v := ?_) (a' := ?_) #[true, true, false, false, false, false, false, false, false, false, false] rfl rfl (by kernel_rfl) (fun _ _ _ h => h) (Or.inl ⟨by rfl, ?_⟩) ?_ ?_
    rotate_left
    · intro w'
      try simp only [List.getElem_toArray, List.getElem_cons_succ, List.getElem_cons_zero]
      go_simp
      with_reducible rfl
    rotate_left
    · simp only [Act.put, List.setIfInBounds_toArray, List.set_cons_zero, List.set_cons_succ, i64_w, i32_w]
      rfl
    refine pure_ (i := 2) (N := some 9) (v := ?_) (a' := ?_) #[true, true, true, false, false, false, false, false, false, false, false] rfl rfl (by kernel_rfl) (fun _ _ _ h => h) (Or.inl ⟨by rfl, ?_⟩) ?_ ?_
    rotate_left
    · intro w'
      try simp only [List.getElem_toArray, List.getElem_cons_succ, List.getElem_cons_zero]
      go_simp
      with_reducible rfl
    rotate_left
    · simp only [Act.put, List.setIfInBounds_toArray, List.set_cons_zero, List.set_cons_succ, i64_w, i32_w]
      rfl
    refine pure_ (i := 5) (N := some 12) (v := ?_) (a' := ?_) #[true, true, true, false, false, true, false, false, false, false, false] rfl rfl (by kernel_rfl) (fun _ _ _ h => h) (Or.inl ⟨by rfl, ?_⟩) ?_ ?_
    rotate_left
    · intro w'
      try simp only [List.getElem_toArray, List.getElem_cons_succ, List.getElem_cons_zero]
      go_simp
      with_reducible rfl
    rotate_left
    · simp only [Act.put, List.setIfInBounds_toArray, List.set_cons_zero, List.set_cons_succ, i64_w, i32_w]
      rfl
    refine pure_ (i := 6) (N := some 13) (v := ?_) (a' := ?_) #[true, true, true, false, false, true, true, false, false, false, false] rfl rfl (by kernel_rfl) (fun _ _ _ h => h) (Or.inl ⟨by rfl, ?_⟩) ?_ ?_
    rotate_left
    · intro w'
      try simp only [List.getElem_toArray, List.getElem_cons_succ, List.getElem_cons_zero]
      go_simp
      with_reducible rfl
    rotate_left
    · simp only [Act.put, List.setIfInBounds_toArray, List.set_cons_zero, List.set_cons_succ, i64_w, i32_w]
      rfl
    refine pure_ (i := 7) (N := some 14) (v := ?_) (a' := ?_) #[true, true, true, false, false, true, true, true, false, false, false] rfl rfl (by kernel_rfl) (fun _ _ _ h => h) (Or.inl ⟨by rfl, ?_⟩) ?_ ?_
    rotate_left
    · intro w'
      try simp only [List.getElem_toArray, List.getElem_cons_succ, List.getElem_cons_zero]
      go_simp
      with_reducible rfl
    rotate_left
    · simp only [Act.put, List.setIfInBounds_toArray, List.set_cons_zero, List.set_cons_succ, i64_w, i32_w]
      rfl
    refine take_ (i := 3) (N := some 10) (v := ?_) (a' := ?_) #[true, true, true, true, false, true, true, true, false, false, false] rfl rfl (by kernel_rfl) (fun _ _ _ h => h) (Or.inl ⟨by rfl, ?_⟩) hHeld ?_ ?_
    rotate_left
    · intro w' s0
      try simp only [List.getElem_toArray, List.getElem_cons_succ, List.getElem_cons_zero]
      go_simp
      with_reducible rfl
    rotate_left
    · simp only [Act.put, List.setIfInBounds_toArray, List.set_cons_zero, List.set_cons_succ, i64_w, i32_w]
      rfl
    refine pure_ (i := 4) (N := some 11) (v := ?_) (a' := ?_) #[true, true, true, true, true, true, true, true, false, false, false] rfl rfl (by kernel_rfl) (fun _ _ _ h => h) (Or.inl ⟨by rfl, ?_⟩) ?_ ?_
    rotate_left
    · intro w'
      try simp only [List.getElem_toArray, List.getElem_cons_succ, List.getElem_cons_zero]
      go_simp
      with_reducible rfl
    rotate_left
    · simp only [Act.put, List.setIfInBounds_toArray, List.set_cons_zero, List.set_cons_succ, i64_w, i32_w]
      rfl
    refine take_ (i := 8) (N := some 15) (v := ?_) (a' := ?_) #[true, true, true, true, true, true, true, true, true, false, false] rfl rfl (by kernel_rfl) (fun _ _ _ h => h) (Or.inl ⟨by rfl, ?_⟩) hHeld ?_ ?_
    rotate_left
    · intro w' s0
      try simp only [List.getElem_toArray, List.getElem_cons_succ, List.getElem_cons_zero]
      go_simp
      with_reducible rfl
    rotate_left
    · simp only [Act.put, List.setIfInBounds_toArray, List.set_cons_zero, List.set_cons_succ, i64_w, i32_w]
      rfl
    refine pure_ (i := 9) (N := some 16) (v := ?_) (a' := ?_) #[true, true, true, true, true, true, true, true, true, true, false] rfl rfl (by kernel_rfl) (fun _ _ _ h => h) (Or.inl ⟨by rfl, ?_⟩) ?_ ?_
    rotate_left
    · intro w'
      try simp only [List.getElem_toArray, List.getElem_cons_succ, List.getElem_cons_zero]
      go_simp
      with_reducible rfl
    rotate_left
    · simp only [Act.put, List.setIfInBounds_toArray, List.set_cons_zero, List.set_cons_succ, i64_w, i32_w]
      rfl
    refine pure_ (i := 10) (N := some 2) (v := ?_) (a' := ?_) #[true, true, true, true, true, true, true, true, true, true, true] rfl rfl (by kernel_rfl) (fun _ _ _ h => h) (Or.inl ⟨by rfl, ?_⟩) ?_ ?_
    rotate_left
    · intro w'
      try simp only [List.getElem_toArray, List.getElem_cons_succ, List.getElem_cons_zero]
      go_simp
      with_reducible rfl
    rotate_left
    · simp only [Act.put, List.setIfInBounds_toArray, List.set_cons_zero, List.set_cons_succ, i64_w, i32_w]
      rfl
    refine done_ (by kernel_rfl) ?_

    go_wp2
    go_ret
    exact ⟨by simp, (Fr.refl _ w).drew⟩
end Go.Proofs.Ytnpeeephkkmomaa
namespace Go.Proofs.Ytnpeeephkkmomaa
open Go.RowKit Go.Proofs.YtnpeeephkkmomaaW.PrintLast
set_option linter.unusedVariables false
set_option linter.unusedSimpArgs false

theorem IsRd.marked {w w' : World} {rp : Nat} {v : Value} {l : List UInt8} {at_ : Nat} {bad : Bool} (h : IsRd w rp v l at_ bad) {a : Nat} {b : Bool} (hh : w'.heap[rp]? = some (.cells #[v, .int .i64 a, .bool b] 133 (0, 0))) (hf : Fr (fun k => k = rp) w w') (ha : a ≤ l.length) : IsRd w' rp v l a b :=
  ⟨hh, h.bytes.fr hf (fun k hk e => h.ne (by rw [hk, e])), ha, h.ne⟩

set_option maxRecDepth 100000 in
set_option maxHeartbeats 2000000 in
theorem take_no (rp : Nat) (v : Value) (l : List UInt8) (at_ : Nat) (bad : Bool) (n : Int) (w : World) (h : IsRd w rp v l at_ bad) (hn : bad = true ∨ n < 0 ∨ ((l.length : Int) - at_) < n) :
    Calls Try.prog 83 #[.pointer (some ⟨rp, 0, none⟩), .int .i64 n] w fun e w' => e = .returned (.slice none 0 0) ∧ IsRd w' rp v l at_ true ∧ Fr (fun k => k = rp) w w' := by
  obtain ⟨ao, cap, rfl, k1, k2, _⟩ := h.bytes.is
  have HH := Lib.hid h
  have head := h.head
  have hle := h.le
  have fin : ∀ (w0 : World), Fr (fun k => k = rp) w w0 → w0.heap[rp]? = some (.cells #[.slice ao l.length cap, .int .i64 at_, .bool bad] 133 (0, 0)) →
      IsRd (w0.setCell ⟨rp, 2, none⟩ (.bool true)) rp (.slice ao l.length cap) l at_ true ∧ Fr (fun k => k = rp) w (w0.setCell ⟨rp, 2, none⟩ (.bool true)) := by
    intro w0 hf hh
    have f := hf.setCell (p := ⟨rp, 2, none⟩) (.bool true) (.inl rfl)
    exact ⟨HH.out.marked (by rw [heap_setCell_self, hh]; rfl) f HH.out.le, f⟩
  have FIN := Lib.hid fin; clear fin h
  cases bad with
  | true =>
    clear hn
    have HLE := Lib.hid hle; clear hle
    go_enter Try.func83, Try.ntmps83
    go_wp2
    refine start_ (n := 22) (S := fun w' => w'.heap[rp]? = some (.cells #[.slice ao l.length cap, .int .i64 at_, .bool true] 133 (0, 0))) (ds := []) #[false, false, false, false, false, false, false, false, false, false, false, false, false, false, false, false, false, false, false, false, false, false] (by kernel_rfl) rfl rfl (head) (fun hHeld => ?_)
    refine pure_ (i := 0) (N := some 6) (v := ?_) (a' := ?_) #[true, false, false, false, false, false, false, false, false, false, false, false, false, false, false, false, false, false, false, false, false, false] rfl rfl (by kernel_rfl) (fun _ _ _ h => h) (Or.inl ⟨by rfl, ?_⟩) ?_ ?_
    rotate_left
    · intro w'
      try simp only [List.getElem_toArray, List.getElem_cons_succ, List.getElem_cons_zero]
      go_simp
      with_reducible rfl
    rotate_left
    · simp only [Act.put, List.setIfInBounds_toArray, List.set_cons_zero, List.set_cons_succ, i64_w, i32_w]
      rfl
    refine pure_ (i := 1) (N := some 7) (v := ?_) (a' := ?_) #[true, true, false, false, false, false, false, false, false, false, false, false, false, false, false, false, false, false, false, false, false, false] rfl rfl (by kernel_rfl) (fun _ _ _ h => h) (Or.inl ⟨by rfl, ?_⟩) ?_ ?_
    rotate_left
    · intro w'
      try simp only [List.getElem_toArray, List.getElem_cons_succ, List.getElem_cons_zero]
      go_simp
      with_reducible rfl
    rotate_left
    · simp only [Act.put, List.setIfInBounds_toArray, List.set_cons_zero, List.set_cons_succ, i64_w, i32_w]
      rfl
    refine pure_ (i := 2) (N := some 8) (v := ?_) (a' := ?_) #[true, true, true, false, false, false, false, false, false, false, false, false, false, false, false, false, false, false, false, false, false, false] rfl rfl (by kernel_rfl) (fun _ _ _ h => h) (Or.inl ⟨by rfl, ?_⟩) ?_ ?_
    rotate_left
    · intro w'
      try simp only [List.getElem_toArray, List.getElem_cons_succ, List.getElem_cons_zero]
      go_simp
      with_reducible rfl
    rotate_left
    · simp only [Act.put, List.setIfInBounds_toArray, List.set_cons_zero, List.set_cons_succ, i64_w, i32_w]
      rfl
    refine take_ (i := 3) (N := some 9) (v := ?_) (a' := ?_) #[true, true, true, true, false, false, false, false, false, false, false, false, false, false, false, false, false, false, false, false, false, false] rfl rfl (by kernel_rfl) (fun _ _ _ h => h) (Or.inl ⟨by rfl, ?_⟩) hHeld ?_ ?_
    rotate_left
    · intro w' s0
      try simp only [List.getElem_toArray, List.getElem_cons_succ, List.getElem_cons_zero]
      go_simp
      with_reducible rfl
    rotate_left
    · simp only [Act.put, List.setIfInBounds_toArray, List.set_cons_zero, List.set_cons_succ, i64_w, i32_w]
      rfl
    refine pure_ (i := 4) (N := some 10) (v := ?_) (a' := ?_) #[true, true, true, true, true, false, false, false, false, false, false, false, false, false, false, false, false, false, false, false, false, false] rfl rfl (by kernel_rfl) (fun _ _ _ h => h) (Or.inl ⟨by rfl, ?_⟩) ?_ ?_
    rotate_left
    · intro w'
      try simp only [List.getElem_toArray, List.getElem_cons_succ, List.getElem_cons_zero]
      go_simp
      with_reducible rfl
    rotate_left
    · simp only [Act.put, List.setIfInBounds_toArray, List.set_cons_zero, List.set_cons_succ, i64_w, i32_w]
      rfl
    refine pure_ (i := 5) (N := some 11) (v := undef) (a' := ?_) #[true, true, true, true, true, true, false, false, false, false, false, false, false, false, false, false, false, false, false, false, false, false] rfl rfl (by kernel_rfl) (fun _ _ _ h => h) (Or.inr ⟨by rfl, rfl⟩) ?_ ?_
    rotate_left
    · simp only [Act.put, List.setIfInBounds_toArray, List.set_cons_zero, List.set_cons_succ, i64_w, i32_w]
      rfl
    refine pure_ (i := 6) (N := some 12) (v := undef) (a' := ?_) #[true, true, true, true, true, true, true, false, false, false, false, false, false, false, false, false, false, false, false, false, false, false] rfl rfl (by kernel_rfl) (fun _ _ _ h => h) (Or.inr ⟨by rfl, rfl⟩) ?_ ?_
    rotate_left
    · simp only [Act.put, List.setIfInBounds_toArray, List.set_cons_zero, List.set_cons_succ, i64_w, i32_w]
      rfl
    refine pure_ (i := 7) (N := some 13) (v := ?_) (a' := ?_) #[true, true, true, true, true, true, true, true, false, false, false, false, false, false, false, false, false, false, false, false, false, false] rfl rfl (by kernel_rfl) (fun _ _ _ h => h) (Or.inl ⟨by rfl, ?_⟩) ?_ ?_
    rotate_left
    · intro w'
      try simp only [List.getElem_toArray, List.getElem_cons_succ, List.getElem_cons_zero]
      go_simp
      with_reducible rfl
    rotate_left
    · simp only [Act.put, List.setIfInBounds_toArray, List.set_cons_zero, List.set_cons_succ, i64_w, i32_w]
      rfl
    refine pure_ (i := 8) (N := some 14) (v := ?_) (a' := ?_) #[true, true, true, true, true, true, true, true, true, false, false, false, false, false, false, false, false, false, false, false, false, false] rfl rfl (by kernel_rfl) (fun _ _ _ h => h) (Or.inl ⟨by rfl, ?_⟩) ?_ ?_
    rotate_left
    · intro w'
      try simp only [List.getElem_toArray, List.getElem_cons_succ, List.getElem_cons_zero]
      go_simp
      with_reducible rfl
    rotate_left
    · simp only [Act.put, List.setIfInBounds_toArray, List.set_cons_zero, List.set_cons_succ, i64_w, i32_w]
      rfl
    refine pure_ (i := 9) (N := some 15) (v := undef) (a' := ?_) #[true, true, true, true, true, true, true, true, true, true, false, false, false, false, false, false, false, false, false, false, false, false] rfl rfl (by kernel_rfl) (fun _ _ _ h => h) (Or.inr ⟨by rfl, rfl⟩) ?_ ?_
    rotate_left
    · simp only [Act.put, List.setIfInBounds_toArray, List.set_cons_zero, List.set_cons_succ, i64_w, i32_w]
      rfl
    refine pure_ (i := 10) (N := some 16) (v := undef) (a' := ?_) #[true, true, true, true, true, true, true, true, true, true, true, false, false, false, false, false, false, false, false, false, false, false] rfl rfl (by kernel_rfl) (fun _ _ _ h => h) (Or.inr ⟨by rfl, rfl⟩) ?_ ?_
    rotate_left
    · simp only [Act.put, List.setIfInBounds_toArray, List.set_cons_zero, List.set_cons_succ, i64_w, i32_w]
      rfl
    refine pure_ (i := 11) (N := some 17) (v := undef) (a' := ?_) #[true, true, true, true, true, true, true, true, true, true, true, true, false, false, false, false, false, false, false, false, false, false] rfl rfl (by kernel_rfl) (fun _ _ _ h => h) (Or.inr ⟨by rfl, rfl⟩) ?_ ?_
    rotate_left
    · simp only [Act.put, List.setIfInBounds_toArray, List.set_cons_zero, List.set_cons_succ, i64_w, i32_w]
      rfl
    refine pure_ (i := 12) (N := some 18) (v := undef) (a' := ?_) #[true, true, true, true, true, true, true, true, true, true, true, true, true, false, false, false, false, false, false, false, false, false] rfl rfl (by kernel_rfl) (fun _ _ _ h => h) (Or.inr ⟨by rfl, rfl⟩) ?_ ?_
    rotate_left
    · simp only [Act.put, List.setIfInBounds_toArray, List.set_cons_zero, List.set_cons_succ, i64_w, i32_w]
      rfl
    refine pure_ (i := 13) (N := some 19) (v := undef) (a' := ?_) #[true, true, true, true, true, true, true, true, true, true, true, true, true, true, false, false, false, false, false, false, false, false] rfl rfl (by kernel_rfl) (fun _ _ _ h => h) (Or.inr ⟨by rfl, rfl⟩) ?_ ?_
    rotate_left
    · simp only [Act.put, List.setIfInBounds_toArray, List.set_cons_zero, List.set_cons_succ, i64_w, i32_w]
      rfl
    refine pure_ (i := 14) (N := some 20) (v := undef) (a' := ?_) #[true, true, true, true, true, true, true, true, true, true, true, true, true, true, true, false, false, false, false, false, false, false] rfl rfl (by kernel_rfl) (fun _ _ _ h => h) (Or.inr ⟨by rfl, rfl⟩) ?_ ?_
    rotate_left
    · simp only [Act.put, List.setIfInBounds_toArray, List.set_cons_zero, List.set_cons_succ, i64_w, i32_w]
      rfl
    refine pure_ (i := 15) (N := some 21) (v := undef) (a' := ?_) #[true, true, true, true, true, true, true, true, true, true, true, true, true, true, true, true, false, false, false, false, false, false] rfl rfl (by kernel_rfl) (fun _ _ _ h => h) (Or.inr ⟨by rfl, rfl⟩) ?_ ?_
    rotate_left
    · simp only [Act.put, List.setIfInBounds_toArray, List.set_cons_zero, List.set_cons_succ, i64_w, i32_w]
      rfl
    refine pure_ (i := 16) (N := some 22) (v := undef) (a' := ?_) #[true, true, true, true, true, true, true, true, true, true, true, true, true, true, true, true, true, false, false, false, false, false] rfl rfl (by kernel_rfl) (fun _ _ _ h => h) (Or.inr ⟨by rfl, rfl⟩) ?_ ?_
    rotate_left
    · simp only [Act.put, List.setIfInBounds_toArray, List.set_cons_zero, List.set_cons_succ, i64_w, i32_w]
      rfl
    refine pure_ (i := 17) (N := some 23) (v := undef) (a' := ?_) #[true, true, true, true, true, true, true, true, true, true, true, true, true, true, true, true, true, true, false, false, false, false] rfl rfl (by kernel_rfl) (fun _ _ _ h => h) (Or.inr ⟨by rfl, rfl⟩) ?_ ?_
    rotate_left
    · simp only [Act.put, List.setIfInBounds_toArray, List.set_cons_zero, List.set_cons_succ, i64_w, i32_w]
      rfl
    refine pure_ (i := 18) (N := some 24) (v := undef) (a' := ?_) #[true, true, true, true, true, true, true, true, true, true, true, true, true, true, true, true, true, true, true, false, false, false] rfl rfl (by kernel_rfl) (fun _ _ _ h => h) (Or.inr ⟨by rfl, rfl⟩) ?_ ?_
    rotate_left
    · simp only [Act.put, List.setIfInBounds_toArray, List.set_cons_zero, List.set_cons_succ, i64_w, i32_w]
      rfl
    refine pure_ (i := 19) (N := some 25) (v := undef) (a' := ?_) #[true, true, true, true, true, true, true, true, true, true, true, true, true, true, true, true, true, true, true, true, false, false] rfl rfl (by kernel_rfl) (fun _ _ _ h => h) (Or.inr ⟨by rfl, rfl⟩) ?_ ?_
    rotate_left
    · simp only [Act.put, List.setIfInBounds_toArray, List.set_cons_zero, List.set_cons_succ, i64_w, i32_w]
      rfl
    refine pure_ (i := 20) (N := some 26) (v := undef) (a' := ?_) #[true, true, true, true, true, true, true, true, true, true, true, true, true, true, true, true, true, true, true, true, true, false] rfl rfl (by kernel_rfl) (fun _ _ _ h => h) (Or.inr ⟨by rfl, rfl⟩) ?_ ?_
    rotate_left
    · simp only [Act.put, List.setIfInBounds_toArray, List.set_cons_zero, List.set_cons_succ, i64_w, i32_w]
      rfl
    refine pure_ (i := 21) (N := some 27) (v := ?_) (a' := ?_) #[true, true, true, true, true, true, true, true, true, true, true, true, true, true, true, true, true, true, true, true, true, true] rfl rfl (by kernel_rfl) (fun _ _ _ h => h) (Or.inl ⟨by rfl, ?_⟩) ?_ ?_
    rotate_left
    · intro w'
      try simp only [List.getElem_toArray, List.getElem_cons_succ, List.getElem_cons_zero]
      go_simp
      with_reducible rfl
    rotate_left
    · simp only [Act.put, List.setIfInBounds_toArray, List.set_cons_zero, List.set_cons_succ, i64_w, i32_w]
      rfl
    refine done_ (by kernel_rfl) ?_

    go_wp2
    go_ret
    exact ⟨rfl, FIN.out w.drew (Fr.refl _ w).drew head⟩
  | false =>
    by_cases hneg : n < 0
    · have t1 : decide (n < 0) = true := by simpa using hneg
      clear hn hneg
      have HLE := Lib.hid hle; clear hle
      go_enter Try.func83, Try.ntmps83
      go_wp2
      refine start_ (n := 22) (S := fun w' => w'.heap[rp]? = some (.cells #[.slice ao l.length cap, .int .i64 at_, .bool false] 133 (0, 0))) (ds := []) #[false, false, false, false, false, false, false, false, false, false, false, false, false, false, false, false, false, false, false, false, false, false] (by kernel_rfl) rfl rfl (head) (fun hHeld => ?_)
      refine pure_ (i := 0) (N := some 6) (v := ?_) (a' := ?_) #[true, false, false, false, false, false, false, false, false, false, false, false, false, false, false, false, false, false, false, false, false, false] rfl rfl (by kernel_rfl) (fun _ _ _ h => h) (Or.inl ⟨by rfl, ?_⟩) ?_ ?_
      rotate_left
      · intro w'
        try simp only [List.getElem_toArray, List.getElem_cons_succ, List.getElem_cons_zero]
        go_simp
        with_reducible rfl
      rotate_left
      · simp only [Act.put, List.setIfInBounds_toArray, List.set_cons_zero, List.set_cons_succ, i64_w, i32_w]
        rfl
      refine pure_ (i := 1) (N := some 7) (v := ?_) (a' := ?_) #[true, true, false, false, false, false, false, false, false, false, false, false, false, false, false, false, false, false, false, false, false, false] rfl rfl (by kernel_rfl) (fun _ _ _ h => h) (Or.inl ⟨by rfl, ?_⟩) ?_ ?_
      rotate_left
      · intro w'
        try simp only [List.getElem_toArray, List.getElem_cons_succ, List.getElem_cons_zero]
        go_simp
        with_reducible rfl
      rotate_left
      · simp only [Act.put, List.setIfInBounds_toArray, List.set_cons_zero, List.set_cons_succ, i64_w, i32_w]
        rfl
      refine pure_ (i := 2) (N := some 8) (v := ?_) (a' := ?_) #[true, true, true, false, false, false, false, false, false, false, false, false, false, false, false, false, false, false, false, false, false, false] rfl rfl (by kernel_rfl) (fun _ _ _ h => h) (Or.inl ⟨by rfl, ?_⟩) ?_ ?_
      rotate_left
      · intro w'
        try simp only [List.getElem_toArray, List.getElem_cons_succ, List.getElem_cons_zero]
        go_simp
        with_reducible rfl
      rotate_left
      · simp only [Act.put, List.setIfInBounds_toArray, List.set_cons_zero, List.set_cons_succ, i64_w, i32_w]
        rfl
      refine take_ (i := 3) (N := some 9) (v := ?_) (a' := ?_) #[true, true, true, true, false, false, false, false, false, false, false, false, false, false, false, false, false, false, false, false, false, false] rfl rfl (by kernel_rfl) (fun _ _ _ h => h) (Or.inl ⟨by rfl, ?_⟩) hHeld ?_ ?_
      rotate_left
      · intro w' s0
        try simp only [List.getElem_toArray, List.getElem_cons_succ, List.getElem_cons_zero]
        go_simp
        with_reducible rfl
      rotate_left
      · simp only [Act.put, List.setIfInBounds_toArray, List.set_cons_zero, List.set_cons_succ, i64_w, i32_w]
        rfl
      refine pure_ (i := 4) (N := some 10) (v := ?_) (a' := ?_) #[true, true, true, true, true, false, false, false, false, false, false, false, false, false, false, false, false, false, false, false, false, false] rfl rfl (by kernel_rfl) (fun _ _ _ h => h) (Or.inl ⟨by rfl, ?_⟩) ?_ ?_
      rotate_left
      · intro w'
        try simp only [List.getElem_toArray, List.getElem_cons_succ, List.getElem_cons_zero]
        go_simp
        with_reducible rfl
      rotate_left
      · simp only [Act.put, List.setIfInBounds_toArray, List.set_cons_zero, List.set_cons_succ, i64_w, i32_w]
        rfl
      refine pure_ (i := 5) (N := some 11) (v := ?_) (a' := ?_) #[true, true, true, true, true, true, false, false, false, false, false, false, false, false, false, false, false, false, false, false, false, false] rfl rfl (by kernel_rfl) (fun _ _ _ h => h) (Or.inl ⟨by rfl, ?_⟩) ?_ ?_
      rotate_left
      · intro w'
        try simp only [List.getElem_toArray, List.getElem_cons_succ, List.getElem_cons_zero]
        go_simp
        with_reducible rfl
      rotate_left
      · simp only [Act.put, List.setIfInBounds_toArray, List.set_cons_zero, List.set_cons_succ, i64_w, i32_w]
        rfl
      refine pure_ (i := 6) (N := some 12) (v := ?_) (a' := ?_) #[true, true, true, true, true, true, true, false, false, false, false, false, false, false, false, false, false, false, false, false, false, false] rfl rfl (by kernel_rfl) (fun _ _ _ h => h) (Or.inl ⟨by rfl, ?_⟩) ?_ ?_
      rotate_left
      · intro w'
        try simp only [List.getElem_toArray, List.getElem_cons_succ, List.getElem_cons_zero]
        go_simp
        with_reducible rfl
      rotate_left
      · simp only [Act.put, List.setIfInBounds_toArray, List.set_cons_zero, List.set_cons_succ, i64_w, i32_w]
        rfl
      refine pure_ (i := 7) (N := some 13) (v := ?_) (a' := ?_) #[true, true, true, true, true, true, true, true, false, false, false, false, false, false, false, false, false, false, false, false, false, false] rfl rfl (by kernel_rfl) (fun _ _ _ h => h) (Or.inl ⟨by rfl, ?_⟩) ?_ ?_
      rotate_left
      · intro w'
        try simp only [List.getElem_toArray, List.getElem_cons_succ, List.getElem_cons_zero]
        go_simp
        with_reducible rfl
      rotate_left
      · simp only [Act.put, List.setIfInBounds_toArray, List.set_cons_zero, List.set_cons_succ, i64_w, i32_w]
        rfl
      refine pure_ (i := 8) (N := some 14) (v := ?_) (a' := ?_) #[true, true, true, true, true, true, true, true, true, false, false, false, false, false, false, false, false, false, false, false, false, false] rfl rfl (by kernel_rfl) (fun _ _ _ h => h) (Or.inl ⟨by rfl, ?_⟩) ?_ ?_
      rotate_left
      · intro w'
        try simp only [List.getElem_toArray, List.getElem_cons_succ, List.getElem_cons_zero]
        go_simp
        with_reducible rfl
      rotate_left
      · simp only [Act.put, List.setIfInBounds_toArray, List.set_cons_zero, List.set_cons_succ, i64_w, i32_w]
        rfl
      refine pure_ (i := 9) (N := some 15) (v := undef) (a' := ?_) #[true, true, true, true, true, true, true, true, true, true, false, false, false, false, false, false, false, false, false, false, false, false] rfl rfl (by kernel_rfl) (fun _ _ _ h => h) (Or.inr ⟨by rfl, rfl⟩) ?_ ?_
      rotate_left
      · simp only [Act.put, List.setIfInBounds_toArray, List.set_cons_zero, List.set_cons_succ, i64_w, i32_w]
        rfl
      refine pure_ (i := 10) (N := some 16) (v := undef) (a' := ?_) #[true, true, true, true, true, true, true, true, true, true, true, false, false, false, false, false, false, false, false, false, false, false] rfl rfl (by kernel_rfl) (fun _ _ _ h => h) (Or.inr ⟨by rfl, rfl⟩) ?_ ?_
      rotate_left
      · simp only [Act.put, List.setIfInBounds_toArray, List.set_cons_zero, List.set_cons_succ, i64_w, i32_w]
        rfl
      refine pure_ (i := 11) (N := some 17) (v := undef) (a' := ?_) #[true, true, true, true, true, true, true, true, true, true, true, true, false, false, false, false, false, false, false, false, false, false] rfl rfl (by kernel_rfl) (fun _ _ _ h => h) (Or.inr ⟨by rfl, rfl⟩) ?_ ?_
      rotate_left
      · simp only [Act.put, List.setIfInBounds_toArray, List.set_cons_zero, List.set_cons_succ, i64_w, i32_w]
        rfl
      refine pure_ (i := 12) (N := some 18) (v := undef) (a' := ?_) #[true, true, true, true, true, true, true, true, true, true, true, true, true, false, false, false, false, false, false, false, false, false] rfl rfl (by kernel_rfl) (fun _ _ _ h => h) (Or.inr ⟨by rfl, rfl⟩) ?_ ?_
      rotate_left
      · simp only [Act.put, List.setIfInBounds_toArray, List.set_cons_zero, List.set_cons_succ, i64_w, i32_w]
        rfl
      refine pure_ (i := 13) (N := some 19) (v := undef) (a' := ?_) #[true, true, true, true, true, true, true, true, true, true, true, true, true, true, false, false, false, false, false, false, false, false] rfl rfl (by kernel_rfl) (fun _ _ _ h => h) (Or.inr ⟨by rfl, rfl⟩) ?_ ?_
      rotate_left
      · simp only [Act.put, List.setIfInBounds_toArray, List.set_cons_zero, List.set_cons_succ, i64_w, i32_w]
        rfl
      refine pure_ (i := 14) (N := some 20) (v := undef) (a' := ?_) #[true, true, true, true, true, true, true, true, true, true, true, true, true, true, true, false, false, false, false, false, false, false] rfl rfl (by kernel_rfl) (fun _ _ _ h => h) (Or.inr ⟨by rfl, rfl⟩) ?_ ?_
      rotate_left
      · simp only [Act.put, List.setIfInBounds_toArray, List.set_cons_zero, List.set_cons_succ, i64_w, i32_w]
        rfl
      refine pure_ (i := 15) (N := some 21) (v := undef) (a' := ?_) #[true, true, true, true, true, true, true, true, true, true, true, true, true, true, true, true, false, false, false, false, false, false] rfl rfl (by kernel_rfl) (fun _ _ _ h => h) (Or.inr ⟨by rfl, rfl⟩) ?_ ?_
      rotate_left
      · simp only [Act.put, List.setIfInBounds_toArray, List.set_cons_zero, List.set_cons_succ, i64_w, i32_w]
        rfl
      refine pure_ (i := 16) (N := some 22) (v := undef) (a' := ?_) #[true, true, true, true, true, true, true, true, true, true, true, true, true, true, true, true, true, false, false, false, false, false] rfl rfl (by kernel_rfl) (fun _ _ _ h => h) (Or.inr ⟨by rfl, rfl⟩) ?_ ?_
      rotate_left
      · simp only [Act.put, List.setIfInBounds_toArray, List.set_cons_zero, List.set_cons_succ, i64_w, i32_w]
        rfl
      refine pure_ (i := 17) (N := some 23) (v := undef) (a' := ?_) #[true, true, true, true, true, true, true, true, true, true, true, true, true, true, true, true, true, true, false, false, false, false] rfl rfl (by kernel_rfl) (fun _ _ _ h => h) (Or.inr ⟨by rfl, rfl⟩) ?_ ?_
      rotate_left
      · simp only [Act.put, List.setIfInBounds_toArray, List.set_cons_zero, List.set_cons_succ, i64_w, i32_w]
        rfl
      refine pure_ (i := 18) (N := some 24) (v := undef) (a' := ?_) #[true, true, true, true, true, true, true, true, true, true, true, true, true, true, true, true, true, true, true, false, false, false] rfl rfl (by kernel_rfl) (fun _ _ _ h => h) (Or.inr ⟨by rfl, rfl⟩) ?_ ?_
      rotate_left
      · simp only [Act.put, List.setIfInBounds_toArray, List.set_cons_zero, List.set_cons_succ, i64_w, i32_w]
        rfl
      refine pure_ (i := 19) (N := some 25) (v := undef) (a' := ?_) #[true, true, true, true, true, true, true, true, true, true, true, true, true, true, true, true, true, true, true, true, false, false] rfl rfl (by kernel_rfl) (fun _ _ _ h => h) (Or.inr ⟨by rfl, rfl⟩) ?_ ?_
      rotate_left
      · simp only [Act.put, List.setIfInBounds_toArray, List.set_cons_zero, List.set_cons_succ, i64_w, i32_w]
        rfl
      refine pure_ (i := 20) (N := some 26) (v := undef) (a' := ?_) #[true, true, true, true, true, true, true, true, true, true, true, true, true, true, true, true, true, true, true, true, true, false] rfl rfl (by kernel_rfl) (fun _ _ _ h => h) (Or.inr ⟨by rfl, rfl⟩) ?_ ?_
      rotate_left
      · simp only [Act.put, List.setIfInBounds_toArray, List.set_cons_zero, List.set_cons_succ, i64_w, i32_w]
        rfl
      refine pure_ (i := 21) (N := some 27) (v := ?_) (a' := ?_) #[true, true, true, true, true, true, true, true, true, true, true, true, true, true, true, true, true, true, true, true, true, true] rfl rfl (by kernel_rfl) (fun _ _ _ h => h) (Or.inl ⟨by rfl, ?_⟩) ?_ ?_
      rotate_left
      · intro w'
        try simp only [List.getElem_toArray, List.getElem_cons_succ, List.getElem_cons_zero]
        go_simp
        with_reducible rfl
      rotate_left
      · simp only [Act.put, List.setIfInBounds_toArray, List.set_cons_zero, List.set_cons_succ, i64_w, i32_w]
        rfl
      refine done_ (by kernel_rfl) ?_

      go_wp2
      go_ret
      exact ⟨rfl, FIN.out w.drew (Fr.refl _ w).drew head⟩
    · have t1 : decide (n < 0) = false := by simpa using hneg
      have hw : wrap64 ((l.length : Int) - (at_ : Int)) = (l.length : Int) - at_ := by rw [← i64_w]; exact IntWalk.i64_in _ (by omega)
      have hn' : (l.length : Int) - (at_ : Int) < n := by
        rcases hn with h | h | h
        · cases h
        · omega
        · exact h
      have t2 : decide ((l.length : Int) - (at_ : Int) < n) = true := by simpa using hn'
      clear hn'
      clear hn hneg
      have HLE := Lib.hid hle; clear hle
      go_enter Try.func83, Try.ntmps83
      go_wp2
      refine start_ (n := 22) (S := fun w' => w'.heap[rp]? = some (.cells #[.slice ao l.length cap, .int .i64 at_, .bool false] 133 (0, 0))) (ds := []) #[false, false, false, false, false, false, false, false, false, false, false, false, false, false, false, false, false, false, false, false, false, false] (by kernel_rfl) rfl rfl (head) (fun hHeld => ?_)
      refine pure_ (i := 0) (N := some 6) (v := ?_) (a' := ?_) #[true, false, false, false, false, false, false, false, false, false, false, false, false, false, false, false, false, false, false, false, false, false] rfl rfl (by kernel_rfl) (fun _ _ _ h => h) (Or.inl ⟨by rfl, ?_⟩) ?_ ?_
      rotate_left
      · intro w'
        try simp only [List.getElem_toArray, List.getElem_cons_succ, List.getElem_cons_zero]
        go_simp
        with_reducible rfl
      rotate_left
      · simp only [Act.put, List.setIfInBounds_toArray, List.set_cons_zero, List.set_cons_succ, i64_w, i32_w]
        rfl
      refine pure_ (i := 1) (N := some 7) (v := ?_) (a' := ?_) #[true, true, false, false, false, false, false, false, false, false, false, false, false, false, false, false, false, false, false, false, false, false] rfl rfl (by kernel_rfl) (fun _ _ _ h => h) (Or.inl ⟨by rfl, ?_⟩) ?_ ?_
      rotate_left
      · intro w'
        try simp only [List.getElem_toArray, List.getElem_cons_succ, List.getElem_cons_zero]
        go_simp
        with_reducible rfl
      rotate_left
      · simp only [Act.put, List.setIfInBounds_toArray, List.set_cons_zero, List.set_cons_succ, i64_w, i32_w]
        rfl
      refine pure_ (i := 2) (N := some 8) (v := ?_) (a' := ?_) #[true, true, true, false, false, false, false, false, false, false, false, false, false, false, false, false, false, false, false, false, false, false] rfl rfl (by kernel_rfl) (fun _ _ _ h => h) (Or.inl ⟨by rfl, ?_⟩) ?_ ?_
      rotate_left
      · intro w'
        try simp only [List.getElem_toArray, List.getElem_cons_succ, List.getElem_cons_zero]
        go_simp
        with_reducible rfl
      rotate_left
      · simp only [Act.put, List.setIfInBounds_toArray, List.set_cons_zero, List.set_cons_succ, i64_w, i32_w]
        rfl
      refine take_ (i := 3) (N := some 9) (v := ?_) (a' := ?_) #[true, true, true, true, false, false, false, false, false, false, false, false, false, false, false, false, false, false, false, false, false, false] rfl rfl (by kernel_rfl) (fun _ _ _ h => h) (Or.inl ⟨by rfl, ?_⟩) hHeld ?_ ?_
      rotate_left
      · intro w' s0
        try simp only [List.getElem_toArray, List.getElem_cons_succ, List.getElem_cons_zero]
        go_simp
        with_reducible rfl
      rotate_left
      · simp only [Act.put, List.setIfInBounds_toArray, List.set_cons_zero, List.set_cons_succ, i64_w, i32_w]
        rfl
      refine pure_ (i := 4) (N := some 10) (v := ?_) (a' := ?_) #[true, true, true, true, true, false, false, false, false, false, false, false, false, false, false, false, false, false, false, false, false, false] rfl rfl (by kernel_rfl) (fun _ _ _ h => h) (Or.inl ⟨by rfl, ?_⟩) ?_ ?_
      rotate_left
      · intro w'
        try simp only [List.getElem_toArray, List.getElem_cons_succ, List.getElem_cons_zero]
        go_simp
        with_reducible rfl
      rotate_left
      · simp only [Act.put, List.setIfInBounds_toArray, List.set_cons_zero, List.set_cons_succ, i64_w, i32_w]
        rfl
      refine pure_ (i := 5) (N := some 11) (v := ?_) (a' := ?_) #[true, true, true, true, true, true, false, false, false, false, false, false, false, false, false, false, false, false, false, false, false, false] rfl rfl (by kernel_rfl) (fun _ _ _ h => h) (Or.inl ⟨by rfl, ?_⟩) ?_ ?_
      rotate_left
      · intro w'
        try simp only [List.getElem_toArray, List.getElem_cons_succ, List.getElem_cons_zero]
        go_simp
        with_reducible rfl
      rotate_left
      · simp only [Act.put, List.setIfInBounds_toArray, List.set_cons_zero, List.set_cons_succ, i64_w, i32_w]
        rfl
      refine pure_ (i := 6) (N := some 12) (v := ?_) (a' := ?_) #[true, true, true, true, true, true, true, false, false, false, false, false, false, false, false, false, false, false, false, false, false, false] rfl rfl (by kernel_rfl) (fun _ _ _ h => h) (Or.inl ⟨by rfl, ?_⟩) ?_ ?_
      rotate_left
      · intro w'
        try simp only [List.getElem_toArray, List.getElem_cons_succ, List.getElem_cons_zero]
        go_simp
        with_reducible rfl
      rotate_left
      · simp only [Act.put, List.setIfInBounds_toArray, List.set_cons_zero, List.set_cons_succ, i64_w, i32_w]
        rfl
      refine pure_ (i := 7) (N := some 13) (v := ?_) (a' := ?_) #[true, true, true, true, true, true, true, true, false, false, false, false, false, false, false, false, false, false, false, false, false, false] rfl rfl (by kernel_rfl) (fun _ _ _ h => h) (Or.inl ⟨by rfl, ?_⟩) ?_ ?_
      rotate_left
      · intro w'
        try simp only [List.getElem_toArray, List.getElem_cons_succ, List.getElem_cons_zero]
        go_simp
        with_reducible rfl
      rotate_left
      · simp only [Act.put, List.setIfInBounds_toArray, List.set_cons_zero, List.set_cons_succ, i64_w, i32_w]
        rfl
      refine pure_ (i := 8) (N := some 14) (v := ?_) (a' := ?_) #[true, true, true, true, true, true, true, true, true, false, false, false, false, false, false, false, false, false, false, false, false, false] rfl rfl (by kernel_rfl) (fun _ _ _ h => h) (Or.inl ⟨by rfl, ?_⟩) ?_ ?_
      rotate_left
      · intro w'
        try simp only [List.getElem_toArray, List.getElem_cons_succ, List.getElem_cons_zero]
        go_simp
        with_reducible rfl
      rotate_left
      · simp only [Act.put, List.setIfInBounds_toArray, List.set_cons_zero, List.set_cons_succ, i64_w, i32_w]
        rfl
      refine pure_ (i := 9) (N := some 15) (v := ?_) (a' := ?_) #[true, true, true, true, true, true, true, true, true, true, false, false, false, false, false, false, false, false, false, false, false, false] rfl rfl (by kernel_rfl) (fun _ _ _ h => h) (Or.inl ⟨by rfl, ?_⟩) ?_ ?_
      rotate_left
      · intro w'
        try simp only [List.getElem_toArray, List.getElem_cons_succ, List.getElem_cons_zero]
        go_simp
        with_reducible rfl
      rotate_left
      · simp only [Act.put, List.setIfInBounds_toArray, List.set_cons_zero, List.set_cons_succ, i64_w, i32_w]
        rfl
      refine pure_ (i := 10) (N := some 16) (v := ?_) (a' := ?_) #[true, true, true, true, true, true, true, true, true, true, true, false, false, false, false, false, false, false, false, false, false, false] rfl rfl (by kernel_rfl) (fun _ _ _ h => h) (Or.inl ⟨by rfl, ?_⟩) ?_ ?_
      rotate_left
      · intro w'
        try simp only [List.getElem_toArray, List.getElem_cons_succ, List.getElem_cons_zero]
        go_simp
        with_reducible rfl
      rotate_left
      · simp only [Act.put, List.setIfInBounds_toArray, List.set_cons_zero, List.set_cons_succ, i64_w, i32_w]
        rfl
      refine pure_ (i := 11) (N := some 17) (v := ?_) (a' := ?_) #[true, true, true, true, true, true, true, true, true, true, true, true, false, false, false, false, false, false, false, false, false, false] rfl rfl (by kernel_rfl) (fun _ _ _ h => h) (Or.inl ⟨by rfl, ?_⟩) ?_ ?_
      rotate_left
      · intro w'
        try simp only [List.getElem_toArray, List.getElem_cons_succ, List.getElem_cons_zero]
        go_simp
        with_reducible rfl
      rotate_left
      · simp only [Act.put, List.setIfInBounds_toArray, List.set_cons_zero, List.set_cons_succ, i64_w, i32_w]
        rfl
      refine pure_ (i := 12) (N := some 18) (v := ?_) (a' := ?_) #[true, true, true, true, true, true, true, true, true, true, true, true, true, false, false, false, false, false, false, false, false, false] rfl rfl (by kernel_rfl) (fun _ _ _ h => h) (Or.inl ⟨by rfl, ?_⟩) ?_ ?_
      rotate_left
      · intro w'
        try simp only [List.getElem_toArray, List.getElem_cons_succ, List.getElem_cons_zero]
        go_simp
        with_reducible rfl
      rotate_left
      · simp only [Act.put, List.setIfInBounds_toArray, List.set_cons_zero, List.set_cons_succ, i64_w, i32_w]
        rfl
      refine pure_ (i := 15) (N := some 21) (v := ?_) (a' := ?_) #[true, true, true, true, true, true, true, true, true, true, true, true, true, false, false, true, false, false, false, false, false, false] rfl rfl (by kernel_rfl) (fun _ _ _ h => h) (Or.inl ⟨by rfl, ?_⟩) ?_ ?_
      rotate_left
      · intro w'
        try simp only [List.getElem_toArray, List.getElem_cons_succ, List.getElem_cons_zero]
        go_simp
        with_reducible rfl
      rotate_left
      · simp only [Act.put, List.setIfInBounds_toArray, List.set_cons_zero, List.set_cons_succ, i64_w, i32_w]
        rfl
      refine pure_ (i := 16) (N := some 22) (v := ?_) (a' := ?_) #[true, true, true, true, true, true, true, true, true, true, true, true, true, false, false, true, true, false, false, false, false, false] rfl rfl (by kernel_rfl) (fun _ _ _ h => h) (Or.inl ⟨by rfl, ?_⟩) ?_ ?_
      rotate_left
      · intro w'
        try simp only [List.getElem_toArray, List.getElem_cons_succ, List.getElem_cons_zero]
        go_simp
        with_reducible rfl
      rotate_left
      · simp only [Act.put, List.setIfInBounds_toArray, List.set_cons_zero, List.set_cons_succ, i64_w, i32_w]
        rfl
      refine pure_ (i := 17) (N := some 23) (v := ?_) (a' := ?_) #[true, true, true, true, true, true, true, true, true, true, true, true, true, false, false, true, true, true, false, false, false, false] rfl rfl (by kernel_rfl) (fun _ _ _ h => h) (Or.inl ⟨by rfl, ?_⟩) ?_ ?_
      rotate_left
      · intro w'
        try simp only [List.getElem_toArray, List.getElem_cons_succ, List.getElem_cons_zero]
        go_simp
        with_reducible rfl
      rotate_left
      · simp only [Act.put, List.setIfInBounds_toArray, List.set_cons_zero, List.set_cons_succ, i64_w, i32_w]
        rfl
      refine take_ (i := 13) (N := some 19) (v := ?_) (a' := ?_) #[true, true, true, true, true, true, true, true, true, true, true, true, true, true, false, true, true, true, false, false, false, false] rfl rfl (by kernel_rfl) (fun _ _ _ h => h) (Or.inl ⟨by rfl, ?_⟩) hHeld ?_ ?_
      rotate_left
      · intro w' s0
        try simp only [List.getElem_toArray, List.getElem_cons_succ, List.getElem_cons_zero]
        go_simp
        with_reducible rfl
      rotate_left
      · simp only [Act.put, List.setIfInBounds_toArray, List.set_cons_zero, List.set_cons_succ, i64_w, i32_w]
        rfl
      refine pure_ (i := 14) (N := some 20) (v := ?_) (a' := ?_) #[true, true, true, true, true, true, true, true, true, true, true, true, true, true, true, true, true, true, false, false, false, false] rfl rfl (by kernel_rfl) (fun _ _ _ h => h) (Or.inl ⟨by rfl, ?_⟩) ?_ ?_
      rotate_left
      · intro w'
        try simp only [List.getElem_toArray, List.getElem_cons_succ, List.getElem_cons_zero]
        go_simp
        with_reducible rfl
      rotate_left
      · simp only [Act.put, List.setIfInBounds_toArray, List.set_cons_zero, List.set_cons_succ, i64_w, i32_w]
        rfl
      refine take_ (i := 18) (N := some 24) (v := ?_) (a' := ?_) #[true, true, true, true, true, true, true, true, true, true, true, true, true, true, true, true, true, true, true, false, false, false] rfl rfl (by kernel_rfl) (fun _ _ _ h => h) (Or.inl ⟨by rfl, ?_⟩) hHeld ?_ ?_
      rotate_left
      · intro w' s0
        try simp only [List.getElem_toArray, List.getElem_cons_succ, List.getElem_cons_zero]
        go_simp
        with_reducible rfl
      rotate_left
      · simp only [Act.put, List.setIfInBounds_toArray, List.set_cons_zero, List.set_cons_succ, i64_w, i32_w]
        rfl
      refine pure_ (i := 19) (N := some 25) (v := ?_) (a' := ?_) #[true, true, true, true, true, true, true, true, true, true, true, true, true, true, true, true, true, true, true, true, false, false] rfl rfl (by kernel_rfl) (fun _ _ _ h => h) (Or.inl ⟨by rfl, ?_⟩) ?_ ?_
      rotate_left
      · intro w'
        try simp only [List.getElem_toArray, List.getElem_cons_succ, List.getElem_cons_zero]
        go_simp
        with_reducible rfl
      rotate_left
      · simp only [Act.put, List.setIfInBounds_toArray, List.set_cons_zero, List.set_cons_succ, i64_w, i32_w]
        rfl
      refine pure_ (i := 20) (N := some 26) (v := ?_) (a' := ?_) #[true, true, true, true, true, true, true, true, true, true, true, true, true, true, true, true, true, true, true, true, true, false] rfl rfl (by kernel_rfl) (fun _ _ _ h => h) (Or.inl ⟨by rfl, ?_⟩) ?_ ?_
      rotate_left
      · intro w'
        try simp only [List.getElem_toArray, List.getElem_cons_succ, List.getElem_cons_zero]
        go_simp
        with_reducible rfl
      rotate_left
      · simp only [Act.put, List.setIfInBounds_toArray, List.set_cons_zero, List.set_cons_succ, i64_w, i32_w]
        rfl
      refine pure_ (i := 21) (N := some 27) (v := ?_) (a' := ?_) #[true, true, true, true, true, true, true, true, true, true, true, true, true, true, true, true, true, true, true, true, true, true] rfl rfl (by kernel_rfl) (fun _ _ _ h => h) (Or.inl ⟨by rfl, ?_⟩) ?_ ?_
      rotate_left
      · intro w'
        try simp only [List.getElem_toArray, List.getElem_cons_succ, List.getElem_cons_zero]
        go_simp
        with_reducible rfl
      rotate_left
      · simp only [Act.put, List.setIfInBounds_toArray, List.set_cons_zero, List.set_cons_succ, i64_w, i32_w]
        rfl
      refine done_ (by kernel_rfl) ?_

      go_wp2
      go_ret
      exact ⟨rfl, FIN.out w.drew (Fr.refl _ w).drew head⟩

def TakePost (w : World) (rp : Nat) (v : Value) (l : List UInt8) (at_ n : Nat) (e : Ending) (w' : World) : Prop :=
  ∃ v', e = .returned v' ∧ IsRd w' rp v l (at_ + n) false ∧ IsBytes w' v' ((l.drop at_).take n) ∧ v'.ownBlock = v.ownBlock ∧ Fr (fun k => k = rp) w w'

set_option maxRecDepth 100000 in
set_option maxHeartbeats 2000000 in
theorem take_ok (rp : Nat) (v : Value) (l : List UInt8) (at_ n : Nat) (w : World) (h : IsRd w rp v l at_ false) (hn : at_ + n ≤ l.length) :
    Calls Try.prog 83 #[.pointer (some ⟨rp, 0, none⟩), .int .i64 n] w (TakePost w rp v l at_ n) := by
  obtain ⟨v', hcut, hby, hblk⟩ := cut_lh h.bytes at_ (at_ + n) (Nat.le_add_right _ _) hn
  obtain ⟨ao, cap, rfl, k1, k2, _⟩ := h.bytes.is
  have HH := Lib.hid h
  have head := h.head
  have hle := h.le
  have t1 : decide ((n : Int) < 0) = false := by simp
  have hw : wrap64 ((l.length : Int) - (at_ : Int)) = (l.length : Int) - at_ := by rw [← i64_w]; exact IntWalk.i64_in _ (by omega)
  have hw2 : wrap64 ((at_ : Int) + (n : Int)) = (at_ : Int) + n := by rw [← i64_w]; exact IntWalk.i64_in _ (by omega)
  have hw3 : IntKind.i64.wrap ((at_ : Int) + (n : Int)) = (at_ : Int) + n := IntWalk.i64_in _ (by omega)
  have t2 : decide ((l.length : Int) - (at_ : Int) < (n : Int)) = false := by simp; omega
  have hcut' : ∀ w', (Instr.slice 30 (.slice ao l.length cap) (some (.int .i64 (at_ : Int))) (some (.int .i64 ((at_ : Int) + (n : Int)))) none).run Try.prog w' = .ok v' w' := by
    intro w'; have := hcut w'; simpa using this
  have HLE := Lib.hid hle; have HN := Lib.hid hn; have HBY := Lib.hid hby; have HBLK := Lib.hid hblk
  clear hle h hn hby hblk hcut
  go_enter Try.func83, Try.ntmps83
  go_wp2
  refine start_ (n := 22) (S := fun w' => w'.heap[rp]? = some (.cells #[.slice ao l.length cap, .int .i64 at_, .bool false] 133 (0, 0))) (ds := []) #[false, false, false, false, false, false, false, false, false, false, false, false, false, false, false, false, false, false, false, false, false, false] (by kernel_rfl) rfl rfl (head) (fun hHeld => ?_)
  refine pure_ (i := 0) (N := some 6) (v := ?_) (a' := ?_) #[true, false, false, false, false, false, false, false, false, false, false, false, false, false, false, false, false, false, false, false, false, false] rfl rfl (by kernel_rfl) (fun _ _ _ h => h) (Or.inl ⟨by rfl, ?_⟩) ?_ ?_
  rotate_left
  · intro w'
    try simp only [List.getElem_toArray, List.getElem_cons_succ, List.getElem_cons_zero]
    go_simp
    with_reducible rfl
  rotate_left
  · simp only [Act.put, List.setIfInBounds_toArray, List.set_cons_zero, List.set_cons_succ, i64_w, i32_w]
    rfl
  refine pure_ (i := 1) (N := some 7) (v := ?_) (a' := ?_) #[true, true, false, false, false, false, false, false, false, false, false, false, false, false, false, false, false, false, false, false, false, false] rfl rfl (by kernel_rfl) (fun _ _ _ h => h) (Or.inl ⟨by rfl, ?_⟩) ?_ ?_
  rotate_left
  · intro w'
    try simp only [List.getElem_toArray, List.getElem_cons_succ, List.getElem_cons_zero]
    go_simp
    with_reducible rfl
  rotate_left
  · simp only [Act.put, List.setIfInBounds_toArray, List.set_cons_zero, List.set_cons_succ, i64_w, i32_w]
    rfl
  refine pure_ (i := 2) (N := some 8) (v := ?_) (a' := ?_) #[true, true, true, false, false, false, false, false, false, false, false, false, false, false, false, false, false, false, false, false, false, false] rfl rfl (by kernel_rfl) (fun _ _ _ h => h) (Or.inl ⟨by rfl, ?_⟩) ?_ ?_
  rotate_left
  · intro w'
    try simp only [List.getElem_toArray, List.getElem_cons_succ, List.getElem_cons_zero]
    go_simp
    with_reducible rfl
  rotate_left
  · simp only [Act.put, List.setIfInBounds_toArray, List.set_cons_zero, List.set_cons_succ, i64_w, i32_w]
    rfl
  refine take_ (i := 3) (N := some 9) (v := ?_) (a' := ?_) #[true, true, true, true, false, false, false, false, false, false, false, false, false, false, false, false, false, false, false, false, false, false] rfl rfl (by kernel_rfl) (fun _ _ _ h => h) (Or.inl ⟨by rfl, ?_⟩) hHeld ?_ ?_
  rotate_left
  · intro w' s0
    try simp only [List.getElem_toArray, List.getElem_cons_succ, List.getElem_cons_zero]
    go_simp
    with_reducible rfl
  rotate_left
  · simp only [Act.put, List.setIfInBounds_toArray, List.set_cons_zero, List.set_cons_succ, i64_w, i32_w]
    rfl
  refine pure_ (i := 4) (N := some 10) (v := ?_) (a' := ?_) #[true, true, true, true, true, false, false, false, false, false, false, false, false, false, false, false, false, false, false, false, false, false] rfl rfl (by kernel_rfl) (fun _ _ _ h => h) (Or.inl ⟨by rfl, ?_⟩) ?_ ?_
  rotate_left
  · intro w'
    try simp only [List.getElem_toArray, List.getElem_cons_succ, List.getElem_cons_zero]
    go_simp
    with_reducible rfl
  rotate_left
  · simp only [Act.put, List.setIfInBounds_toArray, List.set_cons_zero, List.set_cons_succ, i64_w, i32_w]
    rfl
  refine pure_ (i := 5) (N := some 11) (v := ?_) (a' := ?_) #[true, true, true, true, true, true, false, false, false, false, false, false, false, false, false, false, false, false, false, false, false, false] rfl rfl (by kernel_rfl) (fun _ _ _ h => h) (Or.inl ⟨by rfl, ?_⟩) ?_ ?_
  rotate_left
  · intro w'
    try simp only [List.getElem_toArray, List.getElem_cons_succ, List.getElem_cons_zero]
    go_simp
    with_reducible rfl
  rotate_left
  · simp only [Act.put, List.setIfInBounds_toArray, List.set_cons_zero, List.set_cons_succ, i64_w, i32_w]
    rfl
  refine pure_ (i := 6) (N := some 12) (v := ?_) (a' := ?_) #[true, true, true, true, true, true, true, false, false, false, false, false, false, false, false, false, false, false, false, false, false, false] rfl rfl (by kernel_rfl) (fun _ _ _ h => h) (Or.inl ⟨by rfl, ?_⟩) ?_ ?_
  rotate_left
  · intro w'
    try simp only [List.getElem_toArray, List.getElem_cons_succ, List.getElem_cons_zero]
    go_simp
    with_reducible rfl
  rotate_left
  · simp only [Act.put, List.setIfInBounds_toArray, List.set_cons_zero, List.set_cons_succ, i64_w, i32_w]
    rfl
  refine pure_ (i := 7) (N := some 13) (v := ?_) (a' := ?_) #[true, true, true, true, true, true, true, true, false, false, false, false, false, false, false, false, false, false, false, false, false, false] rfl rfl (by kernel_rfl) (fun _ _ _ h => h) (Or.inl ⟨by rfl, ?_⟩) ?_ ?_
  rotate_left
  · intro w'
    try simp only [List.getElem_toArray, List.getElem_cons_succ, List.getElem_cons_zero]
    go_simp
    with_reducible rfl
  rotate_left
  · simp only [Act.put, List.setIfInBounds_toArray, List.set_cons_zero, List.set_cons_succ, i64_w, i32_w]
    rfl
  refine pure_ (i := 8) (N := some 14) (v := ?_) (a' := ?_) #[true, true, true, true, true, true, true, true, true, false, false, false, false, false, false, false, false, false, false, false, false, false] rfl rfl (by kernel_rfl) (fun _ _ _ h => h) (Or.inl ⟨by rfl, ?_⟩) ?_ ?_
  rotate_left
  · intro w'
    try simp only [List.getElem_toArray, List.getElem_cons_succ, List.getElem_cons_zero]
    go_simp
    with_reducible rfl
  rotate_left
  · simp only [Act.put, List.setIfInBounds_toArray, List.set_cons_zero, List.set_cons_succ, i64_w, i32_w]
    rfl
  refine pure_ (i := 9) (N := some 15) (v := ?_) (a' := ?_) #[true, true, true, true, true, true, true, true, true, true, false, false, false, false, false, false, false, false, false, false, false, false] rfl rfl (by kernel_rfl) (fun _ _ _ h => h) (Or.inl ⟨by rfl, ?_⟩) ?_ ?_
  rotate_left
  · intro w'
    try simp only [List.getElem_toArray, List.getElem_cons_succ, List.getElem_cons_zero]
    go_simp
    with_reducible rfl
  rotate_left
  · simp only [Act.put, List.setIfInBounds_toArray, List.set_cons_zero, List.set_cons_succ, i64_w, i32_w]
    rfl
  refine pure_ (i := 10) (N := some 16) (v := ?_) (a' := ?_) #[true, true, true, true, true, true, true, true, true, true, true, false, false, false, false, false, false, false, false, false, false, false] rfl rfl (by kernel_rfl) (fun _ _ _ h => h) (Or.inl ⟨by rfl, ?_⟩) ?_ ?_
  rotate_left
  · intro w'
    try simp only [List.getElem_toArray, List.getElem_cons_succ, List.getElem_cons_zero]
    go_simp
    with_reducible rfl
  rotate_left
  · simp only [Act.put, List.setIfInBounds_toArray, List.set_cons_zero, List.set_cons_succ, i64_w, i32_w]
    rfl
  refine pure_ (i := 11) (N := some 17) (v := ?_) (a' := ?_) #[true, true, true, true, true, true, true, true, true, true, true, true, false, false, false, false, false, false, false, false, false, false] rfl rfl (by kernel_rfl) (fun _ _ _ h => h) (Or.inl ⟨by rfl, ?_⟩) ?_ ?_
  rotate_left
  · intro w'
    try simp only [List.getElem_toArray, List.getElem_cons_succ, List.getElem_cons_zero]
    go_simp
    with_reducible rfl
  rotate_left
  · simp only [Act.put, List.setIfInBounds_toArray, List.set_cons_zero, List.set_cons_succ, i64_w, i32_w]
    rfl
  refine pure_ (i := 12) (N := some 18) (v := ?_) (a' := ?_) #[true, true, true, true, true, true, true, true, true, true, true, true, true, false, false, false, false, false, false, false, false, false] rfl rfl (by kernel_rfl) (fun _ _ _ h => h) (Or.inl ⟨by rfl, ?_⟩) ?_ ?_
  rotate_left
  · intro w'
    try simp only [List.getElem_toArray, List.getElem_cons_succ, List.getElem_cons_zero]
    go_simp
    with_reducible rfl
  rotate_left
  · simp only [Act.put, List.setIfInBounds_toArray, List.set_cons_zero, List.set_cons_succ, i64_w, i32_w]
    rfl
  refine pure_ (i := 15) (N := some 21) (v := ?_) (a' := ?_) #[true, true, true, true, true, true, true, true, true, true, true, true, true, false, false, true, false, false, false, false, false, false] rfl rfl (by kernel_rfl) (fun _ _ _ h => h) (Or.inl ⟨by rfl, ?_⟩) ?_ ?_
  rotate_left
  · intro w'
    try simp only [List.getElem_toArray, List.getElem_cons_succ, List.getElem_cons_zero]
    go_simp
    with_reducible rfl
  rotate_left
  · simp only [Act.put, List.setIfInBounds_toArray, List.set_cons_zero, List.set_cons_succ, i64_w, i32_w]
    rfl
  refine pure_ (i := 16) (N := some 22) (v := ?_) (a' := ?_) #[true, true, true, true, true, true, true, true, true, true, true, true, true, false, false, true, true, false, false, false, false, false] rfl rfl (by kernel_rfl) (fun _ _ _ h => h) (Or.inl ⟨by rfl, ?_⟩) ?_ ?_
  rotate_left
  · intro w'
    try simp only [List.getElem_toArray, List.getElem_cons_succ, List.getElem_cons_zero]
    go_simp
    with_reducible rfl
  rotate_left
  · simp only [Act.put, List.setIfInBounds_toArray, List.set_cons_zero, List.set_cons_succ, i64_w, i32_w]
    rfl
  refine pure_ (i := 17) (N := some 23) (v := ?_) (a' := ?_) #[true, true, true, true, true, true, true, true, true, true, true, true, true, false, false, true, true, true, false, false, false, false] rfl rfl (by kernel_rfl) (fun _ _ _ h => h) (Or.inl ⟨by rfl, ?_⟩) ?_ ?_
  rotate_left
  · intro w'
    try simp only [List.getElem_toArray, List.getElem_cons_succ, List.getElem_cons_zero]
    go_simp
    with_reducible rfl
  rotate_left
  · simp only [Act.put, List.setIfInBounds_toArray, List.set_cons_zero, List.set_cons_succ, i64_w, i32_w]
    rfl
  refine take_ (i := 13) (N := some 19) (v := ?_) (a' := ?_) #[true, true, true, true, true, true, true, true, true, true, true, true, true, true, false, true, true, true, false, false, false, false] rfl rfl (by kernel_rfl) (fun _ _ _ h => h) (Or.inl ⟨by rfl, ?_⟩) hHeld ?_ ?_
  rotate_left
  · intro w' s0
    try simp only [List.getElem_toArray, List.getElem_cons_succ, List.getElem_cons_zero]
    go_simp
    with_reducible rfl
  rotate_left
  · simp only [Act.put, List.setIfInBounds_toArray, List.set_cons_zero, List.set_cons_succ, i64_w, i32_w]
    rfl
  refine pure_ (i := 14) (N := some 20) (v := ?_) (a' := ?_) #[true, true, true, true, true, true, true, true, true, true, true, true, true, true, true, true, true, true, false, false, false, false] rfl rfl (by kernel_rfl) (fun _ _ _ h => h) (Or.inl ⟨by rfl, ?_⟩) ?_ ?_
  rotate_left
  · intro w'
    try simp only [List.getElem_toArray, List.getElem_cons_succ, List.getElem_cons_zero]
    go_simp
    with_reducible rfl
  rotate_left
  · simp only [Act.put, List.setIfInBounds_toArray, List.set_cons_zero, List.set_cons_succ, i64_w, i32_w]
    rfl
  refine take_ (i := 18) (N := some 24) (v := ?_) (a' := ?_) #[true, true, true, true, true, true, true, true, true, true, true, true, true, true, true, true, true, true, true, false, false, false] rfl rfl (by kernel_rfl) (fun _ _ _ h => h) (Or.inl ⟨by rfl, ?_⟩) hHeld ?_ ?_
  rotate_left
  · intro w' s0
    try simp only [List.getElem_toArray, List.getElem_cons_succ, List.getElem_cons_zero]
    go_simp
    with_reducible rfl
  rotate_left
  · simp only [Act.put, List.setIfInBounds_toArray, List.set_cons_zero, List.set_cons_succ, i64_w, i32_w]
    rfl
  refine pure_ (i := 19) (N := some 25) (v := ?_) (a' := ?_) #[true, true, true, true, true, true, true, true, true, true, true, true, true, true, true, true, true, true, true, true, false, false] rfl rfl (by kernel_rfl) (fun _ _ _ h => h) (Or.inl ⟨by rfl, ?_⟩) ?_ ?_
  rotate_left
  · intro w'
    try simp only [List.getElem_toArray, List.getElem_cons_succ, List.getElem_cons_zero]
    go_simp
    with_reducible rfl
  rotate_left
  · simp only [Act.put, List.setIfInBounds_toArray, List.set_cons_zero, List.set_cons_succ, i64_w, i32_w]
    rfl
  refine pure_ (i := 20) (N := some 26) (v := ?_) (a' := ?_) #[true, true, true, true, true, true, true, true, true, true, true, true, true, true, true, true, true, true, true, true, true, false] rfl rfl (by kernel_rfl) (fun _ _ _ h => h) (Or.inl ⟨by rfl, ?_⟩) ?_ ?_
  rotate_left
  · intro w'
    try simp only [List.getElem_toArray, List.getElem_cons_succ, List.getElem_cons_zero]
    go_simp
    with_reducible rfl
  rotate_left
  · simp only [Act.put, List.setIfInBounds_toArray, List.set_cons_zero, List.set_cons_succ, i64_w, i32_w]
    rfl
  refine pure_ (i := 21) (N := some 27) (v := ?_) (a' := ?_) #[true, true, true, true, true, true, true, true, true, true, true, true, true, true, true, true, true, true, true, true, true, true] rfl rfl (by kernel_rfl) (fun _ _ _ h => h) (Or.inl ⟨by rfl, ?_⟩) ?_ ?_
  rotate_left
  · intro w'
    try simp only [List.getElem_toArray, List.getElem_cons_succ, List.getElem_cons_zero]
    go_simp
    with_reducible rfl
  rotate_left
  · simp only [Act.put, List.setIfInBounds_toArray, List.set_cons_zero, List.set_cons_succ, i64_w, i32_w]
    rfl
  refine done_ (by kernel_rfl) ?_

  have head2 : w.drew.heap[rp]? = some (.cells #[.slice ao l.length cap, .int .i64 at_, .bool false] 133 (0, 0)) := head
  go_wp2
  refine start_ (n := 16) (S := fun w' => w'.heap[rp]? = some (.cells #[.slice ao l.length cap, .int .i64 at_, .bool false] 133 (0, 0))) (ds := []) #[false, false, false, false, false, false, false, false, false, false, false, false, false, false, false, false] (by kernel_rfl) rfl rfl (head) (fun hHeld => ?_)
  refine pure_ (i := 0) (N := some 31) (v := ?_) (a' := ?_) #[true, false, false, false, false, false, false, false, false, false, false, false, false, false, false, false] rfl rfl (by kernel_rfl) (fun _ _ _ h => h) (Or.inl ⟨by rfl, ?_⟩) ?_ ?_
  rotate_left
  · intro w'
    try simp only [List.getElem_toArray, List.getElem_cons_succ, List.getElem_cons_zero]
    go_simp
    with_reducible rfl
  rotate_left
  · simp only [Act.put, List.setIfInBounds_toArray, List.set_cons_zero, List.set_cons_succ, i64_w, i32_w]
    rfl
  refine pure_ (i := 1) (N := some 32) (v := ?_) (a' := ?_) #[true, true, false, false, false, false, false, false, false, false, false, false, false, false, false, false] rfl rfl (by kernel_rfl) (fun _ _ _ h => h) (Or.inl ⟨by rfl, ?_⟩) ?_ ?_
  rotate_left
  · intro w'
    try simp only [List.getElem_toArray, List.getElem_cons_succ, List.getElem_cons_zero]
    go_simp
    with_reducible rfl
  rotate_left
  · simp only [Act.put, List.setIfInBounds_toArray, List.set_cons_zero, List.set_cons_succ, i64_w, i32_w]
    rfl
  refine pure_ (i := 2) (N := some 33) (v := ?_) (a' := ?_) #[true, true, true, false, false, false, false, false, false, false, false, false, false, false, false, false] rfl rfl (by kernel_rfl) (fun _ _ _ h => h) (Or.inl ⟨by rfl, ?_⟩) ?_ ?_
  rotate_left
  · intro w'
    try simp only [List.getElem_toArray, List.getElem_cons_succ, List.getElem_cons_zero]
    go_simp
    with_reducible rfl
  rotate_left
  · simp only [Act.put, List.setIfInBounds_toArray, List.set_cons_zero, List.set_cons_succ, i64_w, i32_w]
    rfl
  refine pure_ (i := 4) (N := some 35) (v := ?_) (a' := ?_) #[true, true, true, false, true, false, false, false, false, false, false, false, false, false, false, false] rfl rfl (by kernel_rfl) (fun _ _ _ h => h) (Or.inl ⟨by rfl, ?_⟩) ?_ ?_
  rotate_left
  · intro w'
    try simp only [List.getElem_toArray, List.getElem_cons_succ, List.getElem_cons_zero]
    go_simp
    with_reducible rfl
  rotate_left
  · simp only [Act.put, List.setIfInBounds_toArray, List.set_cons_zero, List.set_cons_succ, i64_w, i32_w]
    rfl
  refine pure_ (i := 5) (N := some 36) (v := ?_) (a' := ?_) #[true, true, true, false, true, true, false, false, false, false, false, false, false, false, false, false] rfl rfl (by kernel_rfl) (fun _ _ _ h => h) (Or.inl ⟨by rfl, ?_⟩) ?_ ?_
  rotate_left
  · intro w'
    try simp only [List.getElem_toArray, List.getElem_cons_succ, List.getElem_cons_zero]
    go_simp
    with_reducible rfl
  rotate_left
  · simp only [Act.put, List.setIfInBounds_toArray, List.set_cons_zero, List.set_cons_succ, i64_w, i32_w]
    rfl
  refine pure_ (i := 6) (N := some 37) (v := ?_) (a' := ?_) #[true, true, true, false, true, true, true, false, false, false, false, false, false, false, false, false] rfl rfl (by kernel_rfl) (fun _ _ _ h => h) (Or.inl ⟨by rfl, ?_⟩) ?_ ?_
  rotate_left
  · intro w'
    try simp only [List.getElem_toArray, List.getElem_cons_succ, List.getElem_cons_zero]
    go_simp
    with_reducible rfl
  rotate_left
  · simp only [Act.put, List.setIfInBounds_toArray, List.set_cons_zero, List.set_cons_succ, i64_w, i32_w]
    rfl
  refine pure_ (i := 8) (N := some 39) (v := ?_) (a' := ?_) #[true, true, true, false, true, true, true, false, true, false, false, false, false, false, false, false] rfl rfl (by kernel_rfl) (fun _ _ _ h => h) (Or.inl ⟨by rfl, ?_⟩) ?_ ?_
  rotate_left
  · intro w'
    try simp only [List.getElem_toArray, List.getElem_cons_succ, List.getElem_cons_zero]
    go_simp
    with_reducible rfl
  rotate_left
  · simp only [Act.put, List.setIfInBounds_toArray, List.set_cons_zero, List.set_cons_succ, i64_w, i32_w]
    rfl
  refine pure_ (i := 9) (N := some 40) (v := ?_) (a' := ?_) #[true, true, true, false, true, true, true, false, true, true, false, false, false, false, false, false] rfl rfl (by kernel_rfl) (fun _ _ _ h => h) (Or.inl ⟨by rfl, ?_⟩) ?_ ?_
  rotate_left
  · intro w'
    try simp only [List.getElem_toArray, List.getElem_cons_succ, List.getElem_cons_zero]
    go_simp
    with_reducible rfl
  rotate_left
  · simp only [Act.put, List.setIfInBounds_toArray, List.set_cons_zero, List.set_cons_succ, i64_w, i32_w]
    rfl
  refine pure_ (i := 10) (N := some 41) (v := ?_) (a' := ?_) #[true, true, true, false, true, true, true, false, true, true, true, false, false, false, false, false] rfl rfl (by kernel_rfl) (fun _ _ _ h => h) (Or.inl ⟨by rfl, ?_⟩) ?_ ?_
  rotate_left
  · intro w'
    try simp only [List.getElem_toArray, List.getElem_cons_succ, List.getElem_cons_zero]
    go_simp
    with_reducible rfl
  rotate_left
  · simp only [Act.put, List.setIfInBounds_toArray, List.set_cons_zero, List.set_cons_succ, i64_w, i32_w]
    rfl
  refine pure_ (i := 12) (N := some 43) (v := ?_) (a' := ?_) #[true, true, true, false, true, true, true, false, true, true, true, false, true, false, false, false] rfl rfl (by kernel_rfl) (fun _ _ _ h => h) (Or.inl ⟨by rfl, ?_⟩) ?_ ?_
  rotate_left
  · intro w'
    try simp only [List.getElem_toArray, List.getElem_cons_succ, List.getElem_cons_zero]
    go_simp
    with_reducible rfl
  rotate_left
  · simp only [Act.put, List.setIfInBounds_toArray, List.set_cons_zero, List.set_cons_succ, i64_w, i32_w]
    rfl
  refine take_ (i := 3) (N := some 34) (v := ?_) (a' := ?_) #[true, true, true, true, true, true, true, false, true, true, true, false, true, false, false, false] rfl rfl (by kernel_rfl) (fun _ _ _ h => h) (Or.inl ⟨by rfl, ?_⟩) hHeld ?_ ?_
  rotate_left
  · intro w' s0
    try simp only [List.getElem_toArray, List.getElem_cons_succ, List.getElem_cons_zero]
    go_simp
    with_reducible rfl
  rotate_left
  · simp only [Act.put, List.setIfInBounds_toArray, List.set_cons_zero, List.set_cons_succ, i64_w, i32_w]
    rfl
  refine take_ (i := 7) (N := some 38) (v := ?_) (a' := ?_) #[true, true, true, true, true, true, true, true, true, true, true, false, true, false, false, false] rfl rfl (by kernel_rfl) (fun _ _ _ h => h) (Or.inl ⟨by rfl, ?_⟩) hHeld ?_ ?_
  rotate_left
  · intro w' s0
    try simp only [List.getElem_toArray, List.getElem_cons_succ, List.getElem_cons_zero]
    go_simp
    with_reducible rfl
  rotate_left
  · simp only [Act.put, List.setIfInBounds_toArray, List.set_cons_zero, List.set_cons_succ, i64_w, i32_w]
    rfl
  refine take_ (i := 11) (N := some 42) (v := ?_) (a' := ?_) #[true, true, true, true, true, true, true, true, true, true, true, true, true, false, false, false] rfl rfl (by kernel_rfl) (fun _ _ _ h => h) (Or.inl ⟨by rfl, ?_⟩) hHeld ?_ ?_
  rotate_left
  · intro w' s0
    try simp only [List.getElem_toArray, List.getElem_cons_succ, List.getElem_cons_zero]
    go_simp
    with_reducible rfl
  rotate_left
  · simp only [Act.put, List.setIfInBounds_toArray, List.set_cons_zero, List.set_cons_succ, i64_w, i32_w]
    rfl
  refine pure_ (i := 13) (N := some 44) (v := ?_) (a' := ?_) #[true, true, true, true, true, true, true, true, true, true, true, true, true, true, false, false] rfl rfl (by kernel_rfl) (fun _ _ _ h => h) (Or.inl ⟨by rfl, ?_⟩) ?_ ?_
  rotate_left
  · intro w'
    try simp only [List.getElem_toArray, List.getElem_cons_succ, List.getElem_cons_zero]
    go_simp
    with_reducible rfl
  rotate_left
  · simp only [Act.put, List.setIfInBounds_toArray, List.set_cons_zero, List.set_cons_succ, i64_w, i32_w]
    rfl
  refine pure_ (i := 14) (N := some 45) (v := ?_) (a' := ?_) #[true, true, true, true, true, true, true, true, true, true, true, true, true, true, true, false] rfl rfl (by kernel_rfl) (fun _ _ _ h => h) (Or.inl ⟨by rfl, ?_⟩) ?_ ?_
  rotate_left
  · intro w'
    try simp only [List.getElem_toArray, List.getElem_cons_succ, List.getElem_cons_zero]
    go_simp
    with_reducible rfl
  rotate_left
  · simp only [Act.put, List.setIfInBounds_toArray, List.set_cons_zero, List.set_cons_succ, i64_w, i32_w]
    rfl
  refine pure_ (i := 15) (N := some 5) (v := ?_) (a' := ?_) #[true, true, true, true, true, true, true, true, true, true, true, true, true, true, true, true] rfl rfl (by kernel_rfl) (fun _ _ _ h => h) (Or.inl ⟨by rfl, ?_⟩) ?_ ?_
  rotate_left
  · intro w'
    try simp only [List.getElem_toArray, List.getElem_cons_succ, List.getElem_cons_zero]
    go_simp
    with_reducible rfl
  rotate_left
  · simp only [Act.put, List.setIfInBounds_toArray, List.set_cons_zero, List.set_cons_succ, i64_w, i32_w]
    rfl
  refine done_ (by kernel_rfl) ?_

  go_wp2
  go_ret
  have f := ((Fr.refl (fun k => k = rp) w).drew.drew).setCell (p := ⟨rp, 1, none⟩) (.int .i64 ((at_ : Int) + (n : Int))) (.inl rfl)
  have hh : (w.drew.drew.setCell ⟨rp, 1, none⟩ (.int .i64 ((at_ : Int) + (n : Int)))).heap[rp]? = some (.cells #[.slice ao l.length cap, .int .i64 ((at_ + n : Nat) : Int), .bool false] 133 (0, 0)) := by
    rw [heap_setCell_self, show w.drew.drew.heap[rp]? = _ from head]; simp [putIn_some]
  have hr := HH.out.marked hh f HN.out
  refine ⟨v', rfl, hr, ?_, HBLK.out, f⟩
  have := HBY.out _ hr.bytes
  rwa [Nat.add_sub_cancel_left] at this
end Go.Proofs.Ytnpeeephkkmomaa
namespace Go.Proofs.Ytnpeeephkkmomaa
open Go.RowKit Go.Proofs.YtnpeeephkkmomaaW.PrintLast
set_option linter.unusedVariables false
set_option linter.unusedSimpArgs false

/-- Bytes as a number. -/
def beN (m : List UInt8) : Nat := m.foldl (fun z c => z * 256 + c.toNat) 0
theorem beN_snoc (m : List UInt8) (c : UInt8) : beN (m ++ [c]) = beN m * 256 + c.toNat := by simp [beN]
theorem beN_lt (m : List UInt8) : beN m < 256 ^ m.length := by
  rcases List.eq_nil_or_concat m with rfl | ⟨l, c, rfl⟩
  · simp [beN]
  · have := beN_lt l
    have hc := c.toNat_lt
    rw [List.concat_eq_append, beN_snoc, List.length_append, List.length_singleton, Nat.pow_succ]
    omega
termination_by m.length
theorem or_step (z c : Nat) (hz : z < 72057594037927936) (hc : c < 256) : bits .or .u64 (IntKind.u64.wrap ((z : Int) * 256)) (IntKind.u64.wrap (c : Int)) = ((z * 256 + c : Nat) : Int) := by
  have h1 : IntKind.u64.wrap ((z : Int) * 256) = ((z * 256 : Nat) : Int) := by
    rw [IntKind.wrap_u64]; omega
  have h2 : IntKind.u64.wrap (c : Int) = (c : Int) := by rw [IntKind.wrap_u64]; omega
  rw [h1, h2, bits_or_u64_nat _ _ (by omega) (by omega)]
  congr 1
  rw [show z * 256 = 2 ^ 8 * z by omega, ← Nat.two_pow_add_eq_or_of_lt (by omega)]
/-- A number out of eight bytes. -/
def rd8 (m : List UInt8) : Int := wrap64 (beN m : Nat)

set_option maxRecDepth 100000 in
set_option maxHeartbeats 2000000 in
theorem int_ok (rp : Nat) (v : Value) (l : List UInt8) (at_ : Nat) (w : World) (h : IsRd w rp v l at_ false) (hn : at_ + 8 ≤ l.length) :
    Calls Try.prog 61 #[.pointer (some ⟨rp, 0, none⟩)] w fun e w' => e = .returned (.int .i64 (rd8 ((l.drop at_).take 8))) ∧ IsRd w' rp v l (at_ + 8) false ∧ Fr (fun k => k = rp) w w' := by
  have HH := Lib.hid h
  clear h
  have hl8 : ((l.drop at_).take 8).length = 8 := by rw [List.length_take, List.length_drop]; omega
  have HN := Lib.hid hn; clear hn
  go_enter Try.func61, Try.ntmps61
  go_wp2_with (go_at_call 83; refine (take_ok rp v l at_ 8 w HH.out HN.out).mono ?_; rintro e w2 ⟨v2, rfl, r2, b2, _, f2⟩; obtain ⟨ao, cap, rfl, _⟩ := b2.is; rw [hl8])
  have HR := Lib.hid r2; have HB := Lib.hid b2; have HF := Lib.hid f2
  clear r2 b2 f2
  generalize hm : (l.drop at_).take 8 = m at *
  have HM := Lib.hid hm; clear hm
  go_loopw [3, 9] (fun c i wr => ∃ k : Nat, k ≤ 8 ∧ i = .int .i64 k ∧ c = .int .u64 (beN (m.take k) : Nat) ∧ w2 = wr) (fun _ i _ => 8 - (intOf i).toNat)
  case atStart => exact ⟨0, Nat.zero_le _, rfl, rfl, rfl⟩
  case round =>
    obtain ⟨k, hk, rfl, rfl, rfl⟩ := hrel
    by_cases hlt : k < 8
    · have hw1 : IntKind.i64.wrap ((k : Int) + 1) = (k : Int) + 1 := IntWalk.i64_in _ (by omega)
      have t1 : decide ((k : Int) < 8) = true := by simp; omega
      have hkm : k < m.length := by rw [hl8]; exact hlt
      obtain ⟨ab, off, rfl, hc⟩ : ∃ ab off, ao = some ⟨ab, off, none⟩ ∧ cellIn w2.heap[ab]? (off + k) = some (.int .u8 (m[k].toNat : Int)) := by
        obtain ⟨ao', cap', hv', _, _, h3, h4⟩ := HB.out.is
        simp only [Value.slice.injEq] at hv'
        obtain ⟨rfl, _, rfl⟩ := hv'
        cases ao with
        | none => rw [h3 rfl] at hkm; simp at hkm
        | some a =>
          have := h4 a rfl k _ (Bs_at m k hkm)
          have h0 := h4 a rfl 0 _ (Bs_at m 0 (by omega))
          have hs := cell_spot h0 rfl
          obtain ⟨ab, off, sp⟩ := a
          simp only at hs
          subst hs
          rw [Addr.add_mk, cell?_mk] at this
          exact ⟨ab, off, rfl, this⟩
      have hst : beN (m.take (k + 1)) = beN (m.take k) * 256 + m[k].toNat := by rw [List.take_succ_eq_append_getElem hkm, beN_snoc]
      have hlt2 : beN (m.take k) < 72057594037927936 := by
        have h1 := beN_lt (m.take k)
        have h2 : (m.take k).length = k := by rw [List.length_take]; omega
        rw [h2] at h1
        have h3 : 256 ^ k ≤ 256 ^ 7 := Nat.pow_le_pow_right (by decide) (by omega)
        omega
      have hor := or_step (beN (m.take k)) m[k].toNat hlt2 m[k].toNat_lt
      have HST := Lib.hid hst; clear hst hlt2
      generalize m[k] = x at *
      clear hkm
      generalize beN (m.take k) = z at *
      have HL8 := Lib.hid hl8; clear hl8
      go_wp2
      exact ⟨⟨k + 1, by omega, by go_num, by rw [HST.out]; go_num, trivial⟩, by simp [intOf]; omega⟩
    · obtain rfl : k = 8 := by omega
      rw [List.take_of_length_le (by omega)]
      go_wp2
      go_ret
      rw [HM.out]; exact ⟨rfl, HR.out, HF.out⟩
end Go.Proofs.Ytnpeeephkkmomaa
namespace Go.Proofs.Ytnpeeephkkmomaa
open Go.RowKit Go.Proofs.YtnpeeephkkmomaaW.PrintLast
set_option linter.unusedVariables false
set_option linter.unusedSimpArgs false

theorem be8_list (n : Int) : be8 n = [byteAt n 0, byteAt n 1, byteAt n 2, byteAt n 3, byteAt n 4, byteAt n 5, byteAt n 6, byteAt n 7] := rfl
theorem beN_be8 (n : Int) : (beN (be8 n) : Int) = IntKind.u64.wrap n := by
  rw [be8_list]
  have h0 := byteAt_val n 0; have h1 := byteAt_val n 1; have h2 := byteAt_val n 2; have h3 := byteAt_val n 3
  have h4 := byteAt_val n 4; have h5 := byteAt_val n 5; have h6 := byteAt_val n 6; have h7 := byteAt_val n 7
  have hu : 0 ≤ IntKind.u64.wrap n ∧ IntKind.u64.wrap n < 18446744073709551616 := by rw [IntKind.wrap_u64]; omega
  generalize IntKind.u64.wrap n = u at *
  simp only [beN, List.foldl_cons, List.foldl_nil]
  generalize (byteAt n 0).toNat = b0 at *; generalize (byteAt n 1).toNat = b1 at *; generalize (byteAt n 2).toNat = b2 at *; generalize (byteAt n 3).toNat = b3 at *
  generalize (byteAt n 4).toNat = b4 at *; generalize (byteAt n 5).toNat = b5 at *; generalize (byteAt n 6).toNat = b6 at *; generalize (byteAt n 7).toNat = b7 at *
  simp at h0 h1 h2 h3 h4 h5 h6 h7
  omega
/-- What was put is read. -/
theorem rd8_be8 (n : Int) (hn : -9223372036854775808 ≤ n ∧ n ≤ 9223372036854775807) : rd8 (be8 n) = n := by
  unfold rd8
  rw [beN_be8, ← i64_w, IntKind.wrap_u64, IntKind.wrap_i64]
  omega

set_option maxRecDepth 100000 in
set_option maxHeartbeats 2000000 in
theorem int_no (rp : Nat) (v : Value) (l : List UInt8) (at_ : Nat) (bad : Bool) (w : World) (h : IsRd w rp v l at_ bad) (hn : bad = true ∨ l.length < at_ + 8) :
    Calls Try.prog 61 #[.pointer (some ⟨rp, 0, none⟩)] w fun e w' => e = .returned (.int .i64 0) ∧ IsRd w' rp v l at_ true ∧ Fr (fun k => k = rp) w w' := by
  have HH := Lib.hid h
  clear h
  have hn' : Hid (bad = true ∨ (8 : Int) < 0 ∨ ((l.length : Int) - at_) < 8) := Lib.hid (by rcases hn with h | h; exact .inl h; exact .inr (.inr (by omega)))
  clear hn
  go_enter Try.func61, Try.ntmps61
  go_wp2_with (go_at_call 83; refine (take_no rp v l at_ bad 8 w HH.out hn'.out).mono ?_; rintro e w2 ⟨rfl, r2, f2⟩)
  have HR := Lib.hid r2; have HF := Lib.hid f2
  clear r2 f2
  refine wp_loop_rounds 1 ?_
  rw [rounds_succ]
  go_wp2
  go_ret
  exact ⟨rfl, HR.out, HF.out⟩
end Go.Proofs.Ytnpeeephkkmomaa
namespace Go.Proofs.Ytnpeeephkkmomaa
open Go.RowKit Go.Proofs.YtnpeeephkkmomaaW.PrintLast
set_option linter.unusedVariables false
set_option linter.unusedSimpArgs false

/-- A journal at block jp over the disk at block b. -/
def IsJ (w : World) (jp b : Nat) (from_ to_ end_ count : Int) : Prop :=
  w.heap[jp]? = some (.cells #[.pointer (some ⟨b, 0, none⟩), .int .i64 from_, .int .i64 to_, .int .i64 end_, .int .i64 count] 100 (0, 0))
theorem IsJ.fr {w w' : World} {F : Nat → Prop} {jp b : Nat} {from_ to_ end_ count : Int} (h : IsJ w jp b from_ to_ end_ count) (hf : Fr F w w') (hF : ¬ F jp) : IsJ w' jp b from_ to_ end_ count := hf.at h hF

set_option maxRecDepth 100000 in
theorem j_end (jp b : Nat) (from_ to_ end_ count : Int) (w : World) (h : IsJ w jp b from_ to_ end_ count) : Calls Try.prog 33 #[.pointer (some ⟨jp, 0, none⟩)] w fun e w' => e = .returned (.int .i64 end_) ∧ w = w' := by
  unfold IsJ at h
  go_enter Try.func33, Try.ntmps33
  go_wp2
  go_ret
  exact ⟨rfl, rfl⟩
set_option maxRecDepth 100000 in
theorem j_count (jp b : Nat) (from_ to_ end_ count : Int) (w : World) (h : IsJ w jp b from_ to_ end_ count) : Calls Try.prog 34 #[.pointer (some ⟨jp, 0, none⟩)] w fun e w' => e = .returned (.int .i64 count) ∧ w = w' := by
  unfold IsJ at h
  go_enter Try.func34, Try.ntmps34
  go_wp2
  go_ret
  exact ⟨rfl, rfl⟩
set_option maxRecDepth 100000 in
set_option maxHeartbeats 1000000 in
theorem j_room (jp b : Nat) (from_ to_ : Nat) (end_ count : Int) (w : World) (h : IsJ w jp b from_ to_ end_ count) (hft : from_ ≤ to_) (ht : to_ ≤ 65536) :
    Calls Try.prog 58 #[.pointer (some ⟨jp, 0, none⟩)] w fun e w' => e = .returned (.int .i64 ((to_ - from_ : Nat) * 64 : Nat)) ∧ Fr (fun _ => False) w w' := by
  unfold IsJ at h
  have hw1 : wrap64 ((to_ : Int) - (from_ : Int)) = (to_ : Int) - from_ := by rw [← i64_w]; exact IntWalk.i64_in _ (by omega)
  have hw2 : wrap64 (((to_ : Int) - (from_ : Int)) * 64) = ((to_ : Int) - from_) * 64 := by rw [← i64_w]; exact IntWalk.i64_in _ (by omega)
  have HE : Hid ((((to_ - from_ : Nat) * 64 : Nat) : Int) = ((to_ : Int) - from_) * 64) := Lib.hid (by omega)
  clear hft ht
  go_enter Try.func58, Try.ntmps58
  go_wp2
  refine start_ (n := 11) (S := fun w' => w'.heap[jp]? = some (.cells #[.pointer (some ⟨b, 0, none⟩), .int .i64 from_, .int .i64 to_, .int .i64 end_, .int .i64 count] 100 (0, 0))) (ds := []) #[false, false, false, false, false, false, false, false, false, false, false] (by kernel_rfl) rfl rfl (h) (fun hHeld => ?_)
  refine pure_ (i := 0) (N := some 3) (v := ?_) (a' := ?_) #[true, false, false, false, false, false, false, false, false, false, false] rfl rfl (by kernel_rfl) (fun _ _ _ h => h) (Or.inl ⟨by rfl, ?_⟩) ?_ ?_
  rotate_left
  · intro w'
    try simp only [List.getElem_toArray, List.getElem_cons_succ, List.getElem_cons_zero]
    go_simp
    with_reducible rfl
  rotate_left
  · simp only [Act.put, List.setIfInBounds_toArray, List.set_cons_zero, List.set_cons_succ, i64_w, i32_w]
    rfl
  refine pure_ (i := 1) (N := some 4) (v := ?_) (a' := ?_) #[true, true, false, false, false, false, false, false, false, false, false] rfl rfl (by kernel_rfl) (fun _ _ _ h => h) (Or.inl ⟨by rfl, ?_⟩) ?_ ?_
  rotate_left
  · intro w'
    try simp only [List.getElem_toArray, List.getElem_cons_succ, List.getElem_cons_zero]
    go_simp
    with_reducible rfl
  rotate_left
  · simp only [Act.put, List.setIfInBounds_toArray, List.set_cons_zero, List.set_cons_succ, i64_w, i32_w]
    rfl
  refine pure_ (i := 2) (N := some 5) (v := ?_) (a' := ?_) #[true, true, true, false, false, false, false, false, false, false, false] rfl rfl (by kernel_rfl) (fun _ _ _ h => h) (Or.inl ⟨by rfl, ?_⟩) ?_ ?_
  rotate_left
  · intro w'
    try simp only [List.getElem_toArray, List.getElem_cons_succ, List.getElem_cons_zero]
    go_simp
    with_reducible rfl
  rotate_left
  · simp only [Act.put, List.setIfInBounds_toArray, List.set_cons_zero, List.set_cons_succ, i64_w, i32_w]
    rfl
  refine pure_ (i := 4) (N := some 7) (v := ?_) (a' := ?_) #[true, true, true, false, true, false, false, false, false, false, false] rfl rfl (by kernel_rfl) (fun _ _ _ h => h) (Or.inl ⟨by rfl, ?_⟩) ?_ ?_
  rotate_left
  · intro w'
    try simp only [List.getElem_toArray, List.getElem_cons_succ, List.getElem_cons_zero]
    go_simp
    with_reducible rfl
  rotate_left
  · simp only [Act.put, List.setIfInBounds_toArray, List.set_cons_zero, List.set_cons_succ, i64_w, i32_w]
    rfl
  refine pure_ (i := 5) (N := some 8) (v := ?_) (a' := ?_) #[true, true, true, false, true, true, false, false, false, false, false] rfl rfl (by kernel_rfl) (fun _ _ _ h => h) (Or.inl ⟨by rfl, ?_⟩) ?_ ?_
  rotate_left
  · intro w'
    try simp only [List.getElem_toArray, List.getElem_cons_succ, List.getElem_cons_zero]
    go_simp
    with_reducible rfl
  rotate_left
  · simp only [Act.put, List.setIfInBounds_toArray, List.set_cons_zero, List.set_cons_succ, i64_w, i32_w]
    rfl
  refine pure_ (i := 6) (N := some 9) (v := ?_) (a' := ?_) #[true, true, true, false, true, true, true, false, false, false, false] rfl rfl (by kernel_rfl) (fun _ _ _ h => h) (Or.inl ⟨by rfl, ?_⟩) ?_ ?_
  rotate_left
  · intro w'
    try simp only [List.getElem_toArray, List.getElem_cons_succ, List.getElem_cons_zero]
    go_simp
    with_reducible rfl
  rotate_left
  · simp only [Act.put, List.setIfInBounds_toArray, List.set_cons_zero, List.set_cons_succ, i64_w, i32_w]
    rfl
  refine take_ (i := 3) (N := some 6) (v := ?_) (a' := ?_) #[true, true, true, true, true, true, true, false, false, false, false] rfl rfl (by kernel_rfl) (fun _ _ _ h => h) (Or.inl ⟨by rfl, ?_⟩) hHeld ?_ ?_
  rotate_left
  · intro w' s0
    try simp only [List.getElem_toArray, List.getElem_cons_succ, List.getElem_cons_zero]
    go_simp
    with_reducible rfl
  rotate_left
  · simp only [Act.put, List.setIfInBounds_toArray, List.set_cons_zero, List.set_cons_succ, i64_w, i32_w]
    rfl
  refine take_ (i := 7) (N := some 10) (v := ?_) (a' := ?_) #[true, true, true, true, true, true, true, true, false, false, false] rfl rfl (by kernel_rfl) (fun _ _ _ h => h) (Or.inl ⟨by rfl, ?_⟩) hHeld ?_ ?_
  rotate_left
  · intro w' s0
    try simp only [List.getElem_toArray, List.getElem_cons_succ, List.getElem_cons_zero]
    go_simp
    with_reducible rfl
  rotate_left
  · simp only [Act.put, List.setIfInBounds_toArray, List.set_cons_zero, List.set_cons_succ, i64_w, i32_w]
    rfl
  refine pure_ (i := 8) (N := some 11) (v := ?_) (a' := ?_) #[true, true, true, true, true, true, true, true, true, false, false] rfl rfl (by kernel_rfl) (fun _ _ _ h => h) (Or.inl ⟨by rfl, ?_⟩) ?_ ?_
  rotate_left
  · intro w'
    try simp only [List.getElem_toArray, List.getElem_cons_succ, List.getElem_cons_zero]
    go_simp
    with_reducible rfl
  rotate_left
  · simp only [Act.put, List.setIfInBounds_toArray, List.set_cons_zero, List.set_cons_succ, i64_w, i32_w]
    rfl
  refine pure_ (i := 9) (N := some 12) (v := ?_) (a' := ?_) #[true, true, true, true, true, true, true, true, true, true, false] rfl rfl (by kernel_rfl) (fun _ _ _ h => h) (Or.inl ⟨by rfl, ?_⟩) ?_ ?_
  rotate_left
  · intro w'
    try simp only [List.getElem_toArray, List.getElem_cons_succ, List.getElem_cons_zero]
    go_simp
    with_reducible rfl
  rotate_left
  · simp only [Act.put, List.setIfInBounds_toArray, List.set_cons_zero, List.set_cons_succ, i64_w, i32_w]
    rfl
  refine pure_ (i := 10) (N := some 2) (v := ?_) (a' := ?_) #[true, true, true, true, true, true, true, true, true, true, true] rfl rfl (by kernel_rfl) (fun _ _ _ h => h) (Or.inl ⟨by rfl, ?_⟩) ?_ ?_
  rotate_left
  · intro w'
    try simp only [List.getElem_toArray, List.getElem_cons_succ, List.getElem_cons_zero]
    go_simp
    with_reducible rfl
  rotate_left
  · simp only [Act.put, List.setIfInBounds_toArray, List.set_cons_zero, List.set_cons_succ, i64_w, i32_w]
    rfl
  refine done_ (by kernel_rfl) ?_

  go_wp2
  go_ret
  rw [HE.out]
  exact ⟨rfl, (Fr.refl _ w).drew⟩

theorem Room.of_small' {n m : Nat} (h : n + m ≤ 140737488355328) : Room 1 n m := Room.of_le (by unfold maxLen; omega) (by omega)
/-- A frame. -/
def frameOf (l : List UInt8) : List UInt8 := be8 l.length ++ be8 (crcSum l) ++ l
theorem frameOf_length (l : List UInt8) : (frameOf l).length = l.length + 16 := by simp [frameOf, be8_length]; omega

set_option maxRecDepth 100000 in
set_option maxHeartbeats 2000000 in
theorem j_frame (v : Value) (l : List UInt8) (w : World) (hv : IsBytes w v l) (hl : l.length ≤ 70368744177664) : Calls Try.prog 66 #[v] w (BufPost w (frameOf l)) := by
  obtain ⟨vo, vc, rfl, _⟩ := hv.is
  have HV := Lib.hid hv; clear hv
  have hc : IntKind.i64.wrap (crcSum l) = crcSum l := IntWalk.i64_in _ (by have := crcSum_in l; omega)
  have M1 : Hid True := Lib.hid trivial
  go_enter Try.func66, Try.ntmps66
  go_wp2_with (first
    | (go_at_call 85; clear M1; refine (putInt_any (.slice none 0 0) [] l.length w (IsBytes.nil w) (by decide)).mono ?_; rintro e w2 ⟨v2, rfl, b2, n2, f2⟩; have HB2 := Lib.hid b2; have HN2 := Lib.hid n2; have HF2 := Lib.hid f2; clear b2 n2 f2)
    | (go_at_call 64; refine (sum_any w2.heap.size 1 _ l 30 _ (heap_alloc_at w2 _) ((HV.out.fr HF2.out (fun _ _ h => h)).alloc _)).mono ?_; rintro e w3 ⟨rfl, rfl⟩; have hfa := (Fr.refl (fun _ => False) w2).alloc (.cells #[.slice vo l.length vc] 30 (0, 0)); have HB3 := Lib.hid (HB2.out.fr hfa (fun _ _ h => h)); have HF3 := Lib.hid (HF2.out.trans hfa (fun _ h => h.elim)); clear hfa HB2 HF2)
    | (go_at_call 85; refine (putInt_any v2 _ (crcSum l) _ HB3.out.bytes (by simp [be8_length])).mono ?_; rintro e w4 ⟨v4, rfl, b4, n4, f4⟩; have HB4 := Lib.hid b4; have HN4 := Lib.hid n4; have HF4 := Lib.hid (HF3.out.trans f4 (fun _ h => h.elim)); clear b4 n4 f4)
    | (refine wpList_append_bytes rfl (.tmp 10) (.tmp 11) rfl _ _ rfl HB4.out _ l rfl (HV.out.fr HF4.out (fun _ _ h => h)) (Room.of_small' (by simp [be8_length]; omega)) ?_; intro v5 w5 own5 fr5 fresh5))
  go_ret
  refine ⟨v5, rfl, by simpa [frameOf] using own5, fun k hk => ?_, HF4.out.trans fr5 (fun k hk => .inr (Nat.le_trans HF3.out.size (HN4.out k hk)))⟩
  rcases fresh5 with h | h
  · rw [h] at hk; exact Nat.le_trans HF3.out.size (HN4.out k hk)
  · rw [hk] at h; cases h; exact HF4.out.size
end Go.Proofs.Ytnpeeephkkmomaa
namespace Go.Proofs.Ytnpeeephkkmomaa
open Go.RowKit Go.Proofs.YtnpeeephkkmomaaW.PrintLast
set_option linter.unusedVariables false
set_option linter.unusedSimpArgs false

/-- What is told of k sectors, one behind the other. -/
def Dk.tells (D : Dk) (from_ k : Nat) : List UInt8 := (List.range k).flatMap fun i => D.told (from_ + i)
theorem Dk.tells_succ (D : Dk) (from_ k : Nat) : D.tells from_ (k + 1) = D.tells from_ k ++ D.told (from_ + k) := by
  simp [Dk.tells, List.range_succ]
theorem told_len (D : Dk) (h : D.Ok) (i : Nat) (hi : i < D.secs.length) : (D.told i).length = 64 := by
  refine lastAt_len _ i (fun x hx => (h.buf x hx).2) _ ?_
  rw [List.getD_eq_getElem?_getD, List.getElem?_eq_getElem hi]
  exact h.len _ (List.getElem_mem hi)
theorem Dk.tells_length (D : Dk) (h : D.Ok) (from_ : Nat) : ∀ k, from_ + k ≤ D.secs.length → (D.tells from_ k).length = 64 * k
  | 0, _ => rfl
  | k + 1, hk => by
    rw [Dk.tells_succ, List.length_append, Dk.tells_length D h from_ k (by omega), told_len D h _ (by omega)]; omega

def JReadAt (w : World) (l : List UInt8) (v : Value) (wr : World) : Prop := Buf wr v l ∧ (∀ k, v.ownBlock = some k → w.heap.size ≤ k) ∧ Fr (fun _ => False) w wr
def JReadPost (w : World) (l : List UInt8) (e : Ending) (w' : World) : Prop :=
  ∃ v, e = .returned (.tuple #[v, .int .i64 0]) ∧ IsBytes w' v l ∧ (∀ k, v.ownBlock = some k → w.heap.size ≤ k) ∧ Fr (fun _ => False) w w' ∧ ∀ k, v.ownBlock = some k → k < w'.heap.size

set_option maxRecDepth 100000 in
set_option maxHeartbeats 2000000 in
theorem j_read (jp b lb cl : Nat) (sp : Array Value) (wv : Value) (D : Dk) (from_ to_ : Nat) (end_ count : Int) (n : Nat) (w : World) (h : IsDk w b lb cl sp wv D) (hj : IsJ w jp b from_ to_ end_ count) (hd : D.down = false)
    (hn : from_ + (n + 63) / 64 ≤ D.secs.length) :
    Calls Try.prog 59 #[.pointer (some ⟨jp, 0, none⟩), .int .i64 n] w (JReadPost w ((D.tells from_ ((n + 63) / 64)).take n)) := by
  have HD := Lib.hid h
  have hmost := h.ok.most
  have HJ := Lib.hid hj
  unfold IsJ at hj
  have HN := Lib.hid hn
  have hb : n ≤ 4194304 ∧ from_ ≤ 65536 := by omega
  clear h hn hmost
  go_enter Try.func59, Try.ntmps59
  go_wp2
  go_loopw [6, 7] (fun o i wr => ∃ k : Nat, k ≤ (n + 63) / 64 ∧ i = .int .i64 ((from_ + k : Nat) : Int) ∧ JReadAt w (D.tells from_ k) o wr) (fun _ i _ => from_ + (n + 63) / 64 - (intOf i).toNat)
  case atStart => exact ⟨0, Nat.zero_le _, rfl, Buf.nil _, by simp [Value.ownBlock], Fr.refl _ _⟩
  case round =>
    obtain ⟨k, hk, rfl, hbuf, hnew, hfr⟩ := hrel
    have HB := Lib.hid hbuf; have HW := Lib.hid hnew; have HF := Lib.hid hfr
    have hj2 := HF.out.at hj (fun h => h)
    have hlen := Dk.tells_length D HD.out.ok from_ k (by have := HN.out; omega)
    obtain ⟨ao, cap, rfl⟩ := hbuf.slice
    clear hbuf hnew hfr hj
    have HLEN := Lib.hid hlen
    rw [hlen] at HB HW ⊢
    clear hlen
    have hlen := HLEN.out
    by_cases hlt : 64 * k < n
    · have t1 : decide ((64 : Int) * (k : Int) < (n : Int)) = true := by simp; omega
      have hN := HN.out
      have hq2 : from_ + k < D.secs.length := by omega
      have htl := told_len D HD.out.ok (from_ + k) hq2
      have hts := D.tells_succ from_ k
      have HTS := Lib.hid hts; have HQ2 := Lib.hid hq2; clear hts hq2 hN
      have HDW := Lib.hid (HD.out.fr HF.out (fun _ _ h => h))
      generalize hq : from_ + k = q at *
      have HQ := Lib.hid hq; clear hq
      have hw1 : IntKind.i64.wrap ((q : Int) + 1) = (q : Int) + 1 := IntWalk.i64_in _ (by have := HQ.out; omega)
      have hroom : Room 1 (D.tells from_ k).length (D.told q).length := Room.of_small' (by omega)
      have HROOM := Lib.hid hroom; clear hroom hlen
      go_wp2_with (first
        | (go_at_call 19; refine (read_ok b lb cl sp wv D wr q HDW.out hd HQ2.out).mono ?_; rintro e w3 ⟨sb, rfl, hsb, row3, fr3⟩; have HR3 : Hid (IsBytes w3 (.slice (some ⟨sb, 0, none⟩) 64 64) (D.told q)) := Lib.hid (by have := IsBytes.of_cells row3 (by rw [htl]; decide); rwa [htl] at this); have HB3 := Lib.hid (HB.out.fr fr3 (fun _ _ h => h)); have HF3 := Lib.hid (HF.out.trans fr3 (fun _ h => h.elim)); clear hsb row3 fr3)
        | (refine wpList_append_bytes rfl (.tmp 32) (.tmp 33) rfl _ _ rfl HB3.out _ _ rfl HR3.out HROOM.out ?_; intro v5 w5 own5 fr5 fresh5))
      have hqq := HQ.out
      refine ⟨⟨k + 1, by omega, by subst hqq; go_num, by rw [HTS.out]; exact own5, fun j hj => ?_, HF3.out.trans fr5 (fun j hj => .inr (HW.out j hj))⟩, by simp [intOf]; omega⟩
      rcases fresh5 with h | h
      · rw [h] at hj; exact HW.out j hj
      · rw [hj] at h; cases h; exact HF3.out.size
    · have t1 : decide ((64 : Int) * (k : Int) < (n : Int)) = false := by simp; omega
      obtain rfl : k = (n + 63) / 64 := by omega
      obtain ⟨v', hcut, hby, hblk⟩ := cut_h HB.out.bytes n (by rw [hlen]; omega)
      have HBY := Lib.hid hby; have HBLK := Lib.hid hblk
      clear hby hblk hlen
      go_wp2
      go_ret2
      exact ⟨v', rfl, HBY.out _ HB.out.bytes, fun j hj => HW.out j (by rw [← HBLK.out]; exact hj), HF.out, fun j hj => (World.ownsRow.lt HB.out j (by rw [← HBLK.out]; exact hj)).2⟩
end Go.Proofs.Ytnpeeephkkmomaa
namespace Go.Proofs.Ytnpeeephkkmomaa
open Go.RowKit Go.Proofs.YtnpeeephkkmomaaW.PrintLast
set_option linter.unusedVariables false
set_option linter.unusedSimpArgs false
attribute [local go_sem] bne_self_eq_false

set_option maxRecDepth 100000 in
set_option maxHeartbeats 2000000 in
theorem same_lists (u v : Value) (ls : List (List UInt8)) (w : World) (hu : IsLists w u ls) (hv : IsLists w v ls) :
    Calls Try.prog 35 #[u, v] w fun e w' => e = .returned (.bool true) ∧ Fr (fun _ => False) w w' := by
  obtain ⟨ao, cap, rfl, k1, k2, _, _⟩ := hu.is
  obtain ⟨ao', cap', rfl, k3, k4, _, _⟩ := hv.is
  have HU := Lib.hid hu; have HV := Lib.hid hv; clear hu hv
  have e1 : ((ls.length : Int) != (ls.length : Int)) = false := by simp
  go_enter Try.func35, Try.ntmps35
  go_wp2
  go_loopw [5] (fun i wr => ∃ k : Nat, k ≤ ls.length ∧ i = .int .i64 k ∧ Fr (fun _ => False) w wr) (fun i _ => ls.length - (intOf i).toNat)
  case atStart => exact ⟨0, Nat.zero_le _, rfl, Fr.refl _ _⟩
  case round =>
    obtain ⟨k, hk, rfl, hf⟩ := hrel
    have HF := Lib.hid hf; clear hf
    by_cases hlt : k < ls.length
    · obtain ⟨ab, off, uo, uc, rfl, hc, hb⟩ := (HU.out.fr HF.out).at k hlt
      obtain ⟨ab', off', uo', uc', rfl, hc', hb'⟩ := (HV.out.fr HF.out).at k hlt
      have s1 := cv309 wr.drew _ _ (hb.fr (F := fun _ => False) (Fr.refl _ wr).drew (fun _ _ h => h))
      have s2 := cv309 wr.drew _ _ (hb'.fr (F := fun _ => False) (Fr.refl _ wr).drew (fun _ _ h => h))
      have hw1 : IntKind.i64.wrap ((k : Int) + 1) = (k : Int) + 1 := IntWalk.i64_in _ (by omega)
      have t1 : decide ((k : Int) < (ls.length : Int)) = true := by simp; omega
      generalize ls[k] = l at *
      clear hb hb'
      go_wp2
      refine start_ (n := 11) (S := fun w' => cellIn w'.heap[ab]? (off + k) = some (.slice uo l.length uc) ∧ cellIn w'.heap[ab']? (off' + k) = some (.slice uo' l.length uc') ∧ cvStr Try.prog 30 9 (.slice uo l.length uc) w' = .ok (.value (str l)) w' ∧ cvStr Try.prog 30 9 (.slice uo' l.length uc') w' = .ok (.value (str l)) w') (ds := []) #[false, false, false, false, false, false, false, false, false, false, false] (by kernel_rfl) rfl rfl ⟨hc, hc', s1, s2⟩ (fun hHeld => ?_)
      refine pure_ (i := 0) (N := some 17) (v := ?_) (a' := ?_) #[true, false, false, false, false, false, false, false, false, false, false] rfl rfl (by kernel_rfl) (fun _ _ _ h => h) (Or.inl ⟨by rfl, ?_⟩) ?_ ?_
      rotate_left
      · intro w'
        try simp only [List.getElem_toArray, List.getElem_cons_succ, List.getElem_cons_zero]
        go_simp
        with_reducible rfl
      rotate_left
      · simp only [Act.put, List.setIfInBounds_toArray, List.set_cons_zero, List.set_cons_succ, i64_w, i32_w]
        rfl
      refine pure_ (i := 1) (N := some 18) (v := ?_) (a' := ?_) #[true, true, false, false, false, false, false, false, false, false, false] rfl rfl (by kernel_rfl) (fun _ _ _ h => h) (Or.inl ⟨by rfl, ?_⟩) ?_ ?_
      rotate_left
      · intro w'
        try simp only [List.getElem_toArray, List.getElem_cons_succ, List.getElem_cons_zero]
        go_simp
        with_reducible rfl
      rotate_left
      · simp only [Act.put, List.setIfInBounds_toArray, List.set_cons_zero, List.set_cons_succ, i64_w, i32_w]
        rfl
      refine pure_ (i := 2) (N := some 19) (v := ?_) (a' := ?_) #[true, true, true, false, false, false, false, false, false, false, false] rfl rfl (by kernel_rfl) (fun _ _ _ h => h) (Or.inl ⟨by rfl, ?_⟩) ?_ ?_
      rotate_left
      · intro w'
        try simp only [List.getElem_toArray, List.getElem_cons_succ, List.getElem_cons_zero]
        go_simp
        with_reducible rfl
      rotate_left
      · simp only [Act.put, List.setIfInBounds_toArray, List.set_cons_zero, List.set_cons_succ, i64_w, i32_w]
        rfl
      refine pure_ (i := 5) (N := some 22) (v := ?_) (a' := ?_) #[true, true, true, false, false, true, false, false, false, false, false] rfl rfl (by kernel_rfl) (fun _ _ _ h => h) (Or.inl ⟨by rfl, ?_⟩) ?_ ?_
      rotate_left
      · intro w'
        try simp only [List.getElem_toArray, List.getElem_cons_succ, List.getElem_cons_zero]
        go_simp
        with_reducible rfl
      rotate_left
      · simp only [Act.put, List.setIfInBounds_toArray, List.set_cons_zero, List.set_cons_succ, i64_w, i32_w]
        rfl
      refine pure_ (i := 6) (N := some 23) (v := ?_) (a' := ?_) #[true, true, true, false, false, true, true, false, false, false, false] rfl rfl (by kernel_rfl) (fun _ _ _ h => h) (Or.inl ⟨by rfl, ?_⟩) ?_ ?_
      rotate_left
      · intro w'
        try simp only [List.getElem_toArray, List.getElem_cons_succ, List.getElem_cons_zero]
        go_simp
        with_reducible rfl
      rotate_left
      · simp only [Act.put, List.setIfInBounds_toArray, List.set_cons_zero, List.set_cons_succ, i64_w, i32_w]
        rfl
      refine pure_ (i := 7) (N := some 24) (v := ?_) (a' := ?_) #[true, true, true, false, false, true, true, true, false, false, false] rfl rfl (by kernel_rfl) (fun _ _ _ h => h) (Or.inl ⟨by rfl, ?_⟩) ?_ ?_
      rotate_left
      · intro w'
        try simp only [List.getElem_toArray, List.getElem_cons_succ, List.getElem_cons_zero]
        go_simp
        with_reducible rfl
      rotate_left
      · simp only [Act.put, List.setIfInBounds_toArray, List.set_cons_zero, List.set_cons_succ, i64_w, i32_w]
        rfl
      refine take_ (i := 3) (N := some 20) (v := ?_) (a' := ?_) #[true, true, true, true, false, true, true, true, false, false, false] rfl rfl (by kernel_rfl) (fun _ _ _ h => h) (Or.inl ⟨by rfl, ?_⟩) hHeld ?_ ?_
      rotate_left
      · rintro w' ⟨s0, s1, s2, s3⟩
        try simp only [List.getElem_toArray, List.getElem_cons_succ, List.getElem_cons_zero]
        go_simp
        with_reducible rfl
      rotate_left
      · simp only [Act.put, List.setIfInBounds_toArray, List.set_cons_zero, List.set_cons_succ, i64_w, i32_w]
        rfl
      refine take_ (i := 4) (N := some 21) (v := ?_) (a' := ?_) #[true, true, true, true, true, true, true, true, false, false, false] rfl rfl (by kernel_rfl) (fun _ _ _ h => h) (Or.inl ⟨by rfl, ?_⟩) hHeld ?_ ?_
      rotate_left
      · rintro w' ⟨s0, s1, s2, s3⟩
        try simp only [List.getElem_toArray, List.getElem_cons_succ, List.getElem_cons_zero]
        go_simp
        with_reducible rfl
      rotate_left
      · simp only [Act.put, List.setIfInBounds_toArray, List.set_cons_zero, List.set_cons_succ, i64_w, i32_w]
        rfl
      refine take_ (i := 8) (N := some 25) (v := ?_) (a' := ?_) #[true, true, true, true, true, true, true, true, true, false, false] rfl rfl (by kernel_rfl) (fun _ _ _ h => h) (Or.inl ⟨by rfl, ?_⟩) hHeld ?_ ?_
      rotate_left
      · rintro w' ⟨s0, s1, s2, s3⟩
        try simp only [List.getElem_toArray, List.getElem_cons_succ, List.getElem_cons_zero]
        go_simp
        with_reducible rfl
      rotate_left
      · simp only [Act.put, List.setIfInBounds_toArray, List.set_cons_zero, List.set_cons_succ, i64_w, i32_w]
        rfl
      refine take_ (i := 9) (N := some 26) (v := ?_) (a' := ?_) #[true, true, true, true, true, true, true, true, true, true, false] rfl rfl (by kernel_rfl) (fun _ _ _ h => h) (Or.inl ⟨by rfl, ?_⟩) hHeld ?_ ?_
      rotate_left
      · rintro w' ⟨s0, s1, s2, s3⟩
        try simp only [List.getElem_toArray, List.getElem_cons_succ, List.getElem_cons_zero]
        go_simp
        with_reducible rfl
      rotate_left
      · simp only [Act.put, List.setIfInBounds_toArray, List.set_cons_zero, List.set_cons_succ, i64_w, i32_w]
        rfl
      refine pure_ (i := 10) (N := some 27) (v := ?_) (a' := ?_) #[true, true, true, true, true, true, true, true, true, true, true] rfl rfl (by kernel_rfl) (fun _ _ _ h => h) (Or.inl ⟨by rfl, ?_⟩) ?_ ?_
      rotate_left
      · intro w'
        try simp only [List.getElem_toArray, List.getElem_cons_succ, List.getElem_cons_zero]
        go_simp
        with_reducible rfl
      rotate_left
      · simp only [Act.put, List.setIfInBounds_toArray, List.set_cons_zero, List.set_cons_succ, i64_w, i32_w]
        rfl
      refine done_ (by kernel_rfl) ?_

      go_wp2
      exact ⟨⟨k + 1, by omega, by go_num, HF.out.drew⟩, by simp [intOf]; omega⟩
    · obtain rfl : k = ls.length := by omega
      go_wp2
      go_ret
      exact ⟨rfl, HF.out⟩
end Go.Proofs.Ytnpeeephkkmomaa
namespace Go.Proofs.Ytnpeeephkkmomaa
open Go.RowKit Go.Proofs.YtnpeeephkkmomaaW.PrintLast
set_option linter.unusedVariables false
set_option linter.unusedSimpArgs false
attribute [local go_sem] bne_self_eq_false

theorem info30' : (Try.prog.info? 30).map (fun i => (i.zero, i.size, i.bytes)) = some (some (.slice none 0 0), 1, 24) := by kernel_rfl

/-- A row of one's own of slices of bytes. -/
def OwnLists (w : World) (v : Value) (ls : List (List UInt8)) : Prop :=
  ∃ us : List Value, w.ownsRow 0 30 1 v ls.length us ∧ ∀ j (h : j < ls.length), ∃ u, us[j]? = some u ∧ u.oneCell' = true ∧ IsBytes w u ls[j] ∧ ∀ k, u.ownBlock = some k → v.ownBlock ≠ some k ∧ k < w.heap.size
theorem OwnLists.nil (w : World) : OwnLists w (.slice none 0 0) [] := ⟨[], World.ownsRow_nil _ _ _ _, fun j h => by simp at h⟩
theorem OwnLists.slice {w : World} {v : Value} {ls : List (List UInt8)} (h : OwnLists w v ls) : ∃ ao cap, v = .slice ao ls.length cap := by
  obtain ⟨us, h1, _⟩ := h; exact ownsRow_slice h1
theorem OwnLists.fr {w w' : World} {v : Value} {ls : List (List UInt8)} (h : OwnLists w v ls) (hf : Fr (fun _ => False) w w') : OwnLists w' v ls := by
  obtain ⟨us, h1, h2⟩ := h
  refine ⟨us, ownsRow_fr h1 hf (fun _ _ h => h), fun j hj => ?_⟩
  obtain ⟨u, e1, e2, e3, e4⟩ := h2 j hj
  exact ⟨u, e1, e2, e3.fr hf (fun _ _ h => h), fun k hk => ⟨(e4 k hk).1, Nat.lt_of_lt_of_le (e4 k hk).2 hf.size⟩⟩
theorem OwnLists.frK {w w' : World} {v : Value} {ls : List (List UInt8)} {F : Nat → Prop} (h : OwnLists w v ls) (hf : Fr F w w') (hF : ∀ k, F k → w.heap.size ≤ k) : OwnLists w' v ls :=
  h.fr (hf.mono (fun i hi hF' => absurd (hF i hF') (by omega)))
theorem OwnLists.lists {w : World} {v : Value} {ls : List (List UInt8)} (h : OwnLists w v ls) : IsLists w v ls := by
  obtain ⟨us, h1, h2⟩ := h
  have h1' := h1
  rcases h1.2 with ⟨rfl, h0⟩ | ⟨g, cap, cur, rfl, _, hg, hnc, hcm, hcs, ht⟩
  · obtain rfl := List.eq_nil_of_length_eq_zero h0
    exact ⟨none, 0, rfl, by simp, by simp, fun _ => rfl, fun a ha => by cases ha⟩
  · refine ⟨some ⟨g, 0, none⟩, cap, rfl, hnc, by simpa [maxLen] using hcm, by simp, ?_⟩
    rintro a ha j hj
    cases ha
    obtain ⟨u, e1, e2, e3, e4⟩ := h2 j hj
    exact ⟨u, World.ownsRow.cells h1' rfl j u e1, e3⟩

theorem wpList_append_list {ops : Array Oper} {rest : List Oper} {o : Oper} {a : Act} {w : World} {Q : Exit → Act → World → Prop} (hgd : o.guard = none) (s x : Operand)
    (ho : o.op = .call { callee := .builtin .append, args := #[s, x], argTypes := #[50, 50] })
    (v : Value) (ls : List (List UInt8)) (hs : a.eval s = v) (hown : OwnLists w v ls) (g c : Nat) (u : Value) (l : List UInt8) (hx : a.eval x = .slice (some ⟨g, 0, none⟩) 1 c) (hu : w.cell? ⟨g, 0, none⟩ = some u)
    (h1 : u.oneCell' = true) (hl : IsBytes w u l) (hne : ∀ k, u.ownBlock = some k → v.ownBlock ≠ some k ∧ k < w.heap.size) (hroom : ls.length ≤ 1099511627776)
    (h : ∀ v' w', OwnLists w' v' (ls ++ [l]) → Fr (fun k => v.ownBlock = some k) w w' → (v'.ownBlock = v.ownBlock ∨ v'.ownBlock = some w.heap.size) → wpList Try.prog ops Q rest (a.put o.dst v') w') :
    wpList Try.prog ops Q (o :: rest) a w := by
  obtain ⟨i, hinfo, hz0, hz1, hz2⟩ := info_parts info30'
  obtain ⟨us, k1, k2⟩ := hown
  refine wpList_append hgd s x 50 ho 30 i _ 1 24 Try.underlying50 hinfo hz0 hz1 hz2 rfl (by decide) v ls.length us hs k1 ⟨g, 0, none⟩ 1 c [u] hx rfl ?_ (by simpa using h1) (Room.one (by unfold maxLen; omega) (by decide) (by omega)) ?_
  · intro j u' hj
    rcases j with _ | j
    · simp only [List.getElem?_cons_zero, Option.some.injEq] at hj
      subst hj
      rw [Addr.add_mk]; exact hu
    · simp at hj
  · intro v' w' own fr fresh
    have hlen : us.length = ls.length := by have := k1.1; omega
    have hblk : ∀ (y : Value) k, (y.ownBlock = some k → v.ownBlock ≠ some k ∧ k < w.heap.size) → y.ownBlock = some k → v'.ownBlock ≠ some k ∧ k < w'.heap.size := by
      intro y k hy hk
      obtain ⟨e1, e2⟩ := hy hk
      refine ⟨?_, Nat.lt_of_lt_of_le e2 fr.size⟩
      rcases fresh with hf | hf
      · rw [hf]; exact e1
      · rw [hf]; intro e; cases e; omega
    refine h v' w' ⟨us ++ [u], by rw [List.length_append]; exact own, fun j hj => ?_⟩ fr fresh
    rw [List.length_append, List.length_singleton] at hj
    by_cases hjl : j < ls.length
    · obtain ⟨y, e1, e2, e3, e4⟩ := k2 j hjl
      refine ⟨y, by rw [List.getElem?_append_left (by omega)]; exact e1, e2, ?_, fun k hk => hblk y k (e4 k) hk⟩
      rw [List.getElem_append_left hjl]
      exact e3.fr fr (fun k hk => (e4 k hk).1)
    · obtain rfl : j = ls.length := by omega
      refine ⟨u, by rw [List.getElem?_append_right (by omega), hlen]; simp, h1, ?_, fun k hk => hblk u k (hne k) hk⟩
      rw [List.getElem_append_right (by omega)]
      simp only [Nat.sub_self, List.getElem_cons_zero]
      exact hl.fr fr (fun k hk => (hne k hk).1)

/-- Frames, one behind the other. -/
def framesOf (ls : List (List UInt8)) : List UInt8 := (ls.map frameOf).flatten
theorem framesOf_nil : framesOf [] = [] := rfl
theorem framesOf_cons (x : List UInt8) (ls : List (List UInt8)) : framesOf (x :: ls) = frameOf x ++ framesOf ls := rfl
theorem framesOf_append (a b : List (List UInt8)) : framesOf (a ++ b) = framesOf a ++ framesOf b := by simp [framesOf]
theorem framesOf_len : ∀ ls : List (List UInt8), ls.length ≤ (framesOf ls).length
  | [] => Nat.zero_le _
  | x :: ls => by have := framesOf_len ls; rw [framesOf_cons, List.length_append, frameOf_length, List.length_cons]; omega
theorem frame_parts (x r : List UInt8) : (frameOf x ++ r).take 8 = be8 x.length ∧ ((frameOf x ++ r).drop 8).take 8 = be8 (crcSum x) ∧ ((frameOf x ++ r).drop 16).take x.length = x ∧ (frameOf x ++ r).drop (16 + x.length) = r := by
  have h1 : (be8 (x.length : Int)).length = 8 := be8_length _
  have h2 : (be8 (crcSum x)).length = 8 := be8_length _
  have e : frameOf x ++ r = be8 x.length ++ (be8 (crcSum x) ++ (x ++ r)) := by simp [frameOf]
  rw [e]
  generalize be8 (x.length : Int) = p at *
  generalize be8 (crcSum x) = q at *
  have d8 : (p ++ (q ++ (x ++ r))).drop 8 = q ++ (x ++ r) := List.drop_left' h1
  have d16 : (p ++ (q ++ (x ++ r))).drop 16 = x ++ r := by
    rw [show 16 = 8 + 8 from rfl, ← List.drop_drop, d8]; exact List.drop_left' h2
  refine ⟨List.take_left' h1, by rw [d8]; exact List.take_left' h2, by rw [d16]; exact List.take_left' rfl, ?_⟩
  rw [← List.drop_drop, d16]; exact List.drop_left' rfl

/-- Of b, which begins with a frame: the frame's own bytes. -/
theorem cut_frame {w : World} {v : Value} {x r : List UInt8} (h : IsBytes w v (frameOf x ++ r)) :
    ∃ ao cap, (∀ w', (Instr.slice 30 v (some (.int .i64 16)) (some (.int .i64 (16 + (x.length : Int)))) none).run Try.prog w' = .ok (.slice ao x.length cap) w') ∧ (∀ w', IsBytes w' v (frameOf x ++ r) → IsBytes w' (.slice ao x.length cap) x) ∧
      (Value.slice ao x.length cap).ownBlock = v.ownBlock := by
  obtain ⟨v', h1, h2, h3⟩ := cut_lh h 16 (16 + x.length) (by omega) (by rw [List.length_append, frameOf_length]; omega)
  have hx := (frame_parts x r).2.2.1
  rw [Nat.add_sub_cancel_left] at h2
  simp only [hx] at h2
  obtain ⟨ao, cap, rfl, _⟩ := (h2 w h).is
  refine ⟨ao, cap, fun w' => ?_, h2, h3⟩
  have := h1 w'
  rw [Int.natCast_add] at this
  exact this
theorem cut_rest {w : World} {v : Value} {x r : List UInt8} (h : IsBytes w v (frameOf x ++ r)) :
    ∃ ao cap, (∀ w', (Instr.slice 30 v (some (.int .i64 (16 + (x.length : Int)))) none none).run Try.prog w' = .ok (.slice ao r.length cap) w') ∧ (∀ w', IsBytes w' v (frameOf x ++ r) → IsBytes w' (.slice ao r.length cap) r) ∧
      (Value.slice ao r.length cap).ownBlock = v.ownBlock := by
  obtain ⟨v', h1, h2, h3⟩ := cut_l h (16 + x.length) (by rw [List.length_append, frameOf_length]; omega)
  have hx := (frame_parts x r).2.2.2
  simp only [hx] at h2
  obtain ⟨ao, cap, rfl, _⟩ := (h2 w h).is
  refine ⟨ao, cap, fun w' => ?_, h2, h3⟩
  have := h1 w'
  rw [Int.natCast_add] at this
  exact this

def JOpenPost (w : World) (b : Nat) (from_ to_ end_ : Nat) (ls : List (List UInt8)) (e : Ending) (w' : World) : Prop :=
  ∃ jp v, e = .returned (.tuple #[.pointer (some ⟨jp, 0, none⟩), v, .int .i64 0]) ∧ IsJ w' jp b from_ to_ end_ ls.length ∧ IsLists w' v ls ∧ w.heap.size ≤ jp ∧ Fr (fun _ => False) w w'
def JOAt (w1 : World) (v : Value) (ls : List (List UInt8)) (wr : World) : Prop := OwnLists wr v ls ∧ (∀ k, v.ownBlock = some k → w1.heap.size ≤ k) ∧ Fr (fun _ => False) w1 wr

set_option maxRecDepth 100000 in
set_option maxHeartbeats 4000000 in
theorem j_open (b lb cl : Nat) (sp : Array Value) (wv : Value) (D : Dk) (from_ to_ end_ : Nat) (ls : List (List UInt8)) (w : World) (h : IsDk w b lb cl sp wv D) (hd : D.down = false)
    (hft : from_ ≤ to_) (hto : to_ ≤ D.secs.length) (hend : end_ ≤ (to_ - from_) * 64) (hfr : (D.tells from_ ((end_ + 63) / 64)).take end_ = framesOf ls) :
    Calls Try.prog 30 #[.pointer (some ⟨b, 0, none⟩), .int .i64 from_, .int .i64 to_, .int .i64 end_, .int .i64 (ls.length : Nat)] w (JOpenPost w b from_ to_ end_ ls) := by
  have HD := Lib.hid h
  have hmost := h.ok.most
  have HFR := Lib.hid hfr
  have hnd : from_ + (end_ + 63) / 64 ≤ D.secs.length := by omega
  have HND := Lib.hid hnd
  have hb : end_ ≤ 4194304 ∧ to_ ≤ 65536 := by omega
  have t1 : decide ((from_ : Int) < 0) = false := by simp
  have t2 : decide ((D.secs.length : Int) < (to_ : Int)) = false := by simp; omega
  have t3 : decide ((to_ : Int) < (from_ : Int)) = false := by simp; omega
  have t4 : decide ((end_ : Int) < 0) = false := by simp
  have t5 : decide (((to_ - from_ : Nat) : Int) * 64 < (end_ : Int)) = false := by simp; omega
  have t6 : decide (D.secs.length < to_) = false := by simp; omega
  have t7 : decide (to_ < from_) = false := by simp; omega
  have t8 : decide ((to_ - from_) * 64 < end_) = false := by simp; omega
  have HB := Lib.hid hb; have HFT := Lib.hid hft
  clear h hmost hfr hnd hb hft hto hend
  go_enter Try.func30, Try.ntmps30
  go_wp2_with (first
    | (go_at_call 57; refine (size_any b lb cl sp wv D w HD.out).mono ?_; rintro e w2 ⟨rfl, rfl⟩)
    | (go_at_call 58; refine (j_room w.heap.size b from_ to_ end_ (ls.length : Nat) _ (heap_alloc_at w _) HFT.out HB.out.2).mono ?_; rintro e w2 ⟨rfl, fr2⟩; have HF2 := Lib.hid (((Fr.refl (fun _ => False) w).alloc _).trans fr2 (fun _ h => h.elim)); have HJ2 := Lib.hid (fr2.at (heap_alloc_at w _) (fun h => h)); clear fr2)
    | (go_at_call 17; refine (down_any b lb cl sp wv D w2 (HD.out.fr HF2.out (fun _ _ h => h))).mono ?_; rintro e w3 ⟨rfl, rfl⟩)
    | (go_at_call 59; refine (j_read w.heap.size b lb cl sp wv D from_ to_ end_ (ls.length : Nat) end_ w2 (HD.out.fr HF2.out (fun _ _ h => h)) HJ2.out hd HND.out).mono ?_; rintro e w3 ⟨v3, rfl, hb3, hn3, hf3, hl3⟩; rw [HFR.out] at hb3; have HB3 := Lib.hid hb3; have HL3 : Hid (∀ j, v3.ownBlock = some j → j < w3.heap.size) := Lib.hid hl3; have HF3 := Lib.hid (HF2.out.trans hf3 (fun _ h => h.elim)); have HF23 := Lib.hid hf3; clear hb3 hn3 hf3 hl3))
  obtain ⟨ao3, cap3, rfl⟩ : ∃ ao cap, v3 = .slice ao (framesOf ls).length cap := by obtain ⟨ao, cap, e, _⟩ := HB3.out.is; exact ⟨ao, cap, e⟩
  go_wp2
  go_loopw [14, 16] (fun bv ov wr => ∃ k : Nat, k ≤ ls.length ∧ IsBytes wr bv (framesOf (ls.drop k)) ∧ (∀ j, bv.ownBlock = some j → j < w3.heap.size) ∧ JOAt w3 ov (ls.take k) wr) (fun bv _ _ => match bv with | .slice _ n _ => n | _ => 0)
  case atStart => exact ⟨0, Nat.zero_le _, HB3.out, HL3.out, OwnLists.nil _, by simp [Value.ownBlock], Fr.refl _ _⟩
  case round =>
    obtain ⟨k, hk, hb, hbk, ho, hn, hf⟩ := hrel
    obtain ⟨bo, bc, rfl, _⟩ := hb.is
    obtain ⟨oo, oc, rfl⟩ := ho.slice
    have HBY := Lib.hid hb; have HBK := Lib.hid hbk; have HO := Lib.hid ho; have HN := Lib.hid hn; have HF := Lib.hid hf
    clear hb hbk ho hn hf
    by_cases hlt : k < ls.length
    · have hdr : ls.drop k = ls[k] :: ls.drop (k + 1) := List.drop_eq_getElem_cons hlt
      have htk : ls.take (k + 1) = ls.take k ++ [ls[k]] := List.take_succ_eq_append_getElem hlt
      obtain ⟨x, hx⟩ : ∃ x, x = ls[k] := ⟨_, rfl⟩
      obtain ⟨r, hr⟩ : ∃ r, r = framesOf (ls.drop (k + 1)) := ⟨_, rfl⟩
      obtain ⟨m, hm⟩ : ∃ m, m = (framesOf (ls.drop k)).length := ⟨_, rfl⟩
      have hfx : framesOf (ls.drop k) = frameOf x ++ r := by rw [hdr, framesOf_cons, ← hx, ← hr]
      have hml : m = x.length + 16 + r.length := by rw [hm, hfx, List.length_append, frameOf_length]
      have hmb : m ≤ 4194304 := by
        have h1 : (framesOf ls).length ≤ end_ := by rw [← HFR.out, List.length_take]; omega
        have h2 : framesOf ls = framesOf (ls.take k) ++ framesOf (ls.drop k) := by rw [← framesOf_append, List.take_append_drop]
        have h3 := HB.out
        rw [h2, List.length_append] at h1
        omega
      have hll : (frameOf x ++ r).length = m := by rw [List.length_append, frameOf_length]; omega
      rw [hfx, hll] at HBY
      rw [← hx] at htk
      rw [← hm] at HBK ⊢
      obtain ⟨p1, p2, p3, p4⟩ := frame_parts x r
      have HI1 : Hid (rd8 (((frameOf x ++ r).drop 0).take 8) = x.length) := Lib.hid (by rw [List.drop_zero, p1]; exact rd8_be8 _ (by omega))
      have HI2 : Hid (rd8 (((frameOf x ++ r).drop (0 + 8)).take 8) = crcSum x) := Lib.hid (by rw [Nat.zero_add, p2]; exact rd8_be8 _ (by have := crcSum_in x; omega))
      have HLQ : Hid ((frameOf x ++ r).length - (0 + 8 + 8) = x.length + r.length) := Lib.hid (by rw [hll]; omega)
      have HLL := Lib.hid hll; have HML := Lib.hid hml; have HMB := Lib.hid hmb; have HTK := Lib.hid htk; have HR := Lib.hid hr
      obtain ⟨co, cc, hcut1, hcb1, hck1⟩ := cut_frame HBY.out
      obtain ⟨so, sc, hcut2, hcb2, hck2⟩ := cut_rest HBY.out
      have HCB1 := Lib.hid hcb1; have HCK1 := Lib.hid hck1; have HCB2 := Lib.hid hcb2; have HCK2 := Lib.hid hck2
      have q1 : decide (0 < (m : Int)) = true := by simp; omega
      have q1n : decide (0 < m) = true := by simp; omega
      have q3n : decide (x.length + r.length < x.length) = false := by simp
      have q2 : decide ((x.length : Int) < 0) = false := by simp
      have q3 : decide ((x.length : Int) + (r.length : Int) < (x.length : Int)) = false := by simp; omega
      have q4 : wrap64 (16 + (x.length : Int)) = 16 + (x.length : Int) := by rw [← i64_w]; exact IntWalk.i64_in _ (by omega)
      have q5 : IntKind.i64.wrap (16 + (x.length : Int)) = 16 + (x.length : Int) := IntWalk.i64_in _ (by omega)
      have q6 : IntKind.i64.wrap (crcSum x) = crcSum x := IntWalk.i64_in _ (by have := crcSum_in x; omega)
      have M1 : Hid True := Lib.hid trivial
      have hlk : (ls.take k).length = k := by rw [List.length_take]; omega
      rw [hlk] at HO HN
      have HOL : Hid (∀ j, (Value.slice oo k oc).ownBlock = some j → j < wr.heap.size) := Lib.hid (fun j hj => by obtain ⟨us, h1, _⟩ := HO.out; exact (World.ownsRow.lt h1 j hj).2)
      have HK1 : Hid ((ls.take k ++ [x]).length = k + 1) := Lib.hid (by rw [List.length_append, hlk]; rfl)
      have HEND : Hid (ls.length ≤ 1099511627776) := Lib.hid (by
        have h1 : (framesOf ls).length ≤ end_ := by rw [← HFR.out, List.length_take]; omega
        have h2 := framesOf_len ls; have h3 := HB.out; omega)
      clear hdr htk hx hr hm hfx hml hmb hll p1 p2 p3 p4 hcb1 hck1 hcb2 hck2 hlk
      go_wp2_with (first
        | (go_at_call 60; refine (rd_new _ _ (by rw [HLL.out]; have := HMB.out; omega) wr HBY.out).mono ?_; rintro e w4 ⟨rp, v4, rfl, hr4, hrp4, hv4, hf4⟩; have HR4 := Lib.hid hr4; have HF4 := Lib.hid hf4; have HRP := Lib.hid hrp4; clear hr4 hrp4 hv4 hf4)
        | (go_at_call 61; clear M1; refine (int_ok rp v4 _ 0 w4 HR4.out (by rw [HLL.out]; have := HML.out; omega)).mono ?_; rintro e w5 ⟨rfl, hr5, hf5⟩; rw [HI1.out]; have HR5 := Lib.hid hr5; have HF5 := Lib.hid (HF4.out.trans hf5 (fun j hj => .inr (hj ▸ HRP.out))); clear hr5 hf5)
        | (go_at_call 61; refine (int_ok rp v4 _ (0 + 8) w5 HR5.out (by rw [HLL.out]; have := HML.out; omega)).mono ?_; rintro e w6 ⟨rfl, hr6, hf6⟩; rw [HI2.out]; have HR6 := Lib.hid hr6; have HF6 := Lib.hid (HF5.out.trans hf6 (fun j hj => .inr (hj ▸ HRP.out))); clear hr6 hf6)
        | (go_at_call 62; refine (rd_bad rp v4 _ _ false w6 HR6.out).mono ?_; rintro e w7 ⟨rfl, rfl⟩)
        | (go_at_call 63; refine (rd_left rp v4 _ _ false w6 HR6.out).mono ?_; rintro e w7 ⟨rfl, hf7⟩; rw [HLQ.out]; have HF7 := Lib.hid (HF6.out.trans hf7 (fun _ h => h.elim)); clear hf7)
        | (go_at_call 64; refine (sum_any w7.heap.size 1 _ x 30 _ (heap_alloc_at w7 _) ((HCB1.out _ (HBY.out.fr HF7.out (fun _ _ h => h))).alloc _)).mono ?_; rintro e w8 ⟨rfl, rfl⟩; have HF8 := Lib.hid (HF7.out.alloc (.cells #[.slice co x.length cc] 30 (0, 0))))
        | (go_at_call 65; refine (clone65_any _ x (by have := HMB.out; have := HML.out; omega) _ (HCB1.out _ (HBY.out.fr HF8.out (fun _ _ h => h)))).mono ?_; rintro e w9 ⟨v9, rfl, b9, n9, f9⟩; obtain ⟨ao9, cap9, rfl⟩ := b9.slice; have HB9 := Lib.hid b9; have HN9 := Lib.hid n9; have HF9 := Lib.hid (HF8.out.trans f9 (fun _ h => h.elim)); clear b9 n9 f9)
        | (refine wpList_append_list rfl (.tmp 91) (.tmp 97) rfl _ (ls.take k) rfl (HO.out.fr (HF9.out.alloc _)) w9.heap.size 1 _ x rfl ((cells_at (heap_alloc_at w9 _) 0).trans rfl) rfl (HB9.out.bytes.alloc _) (fun j hj => ⟨fun hc => by
              have h1 := HOL.out j hc; have h2 := HN9.out j hj; have h3 := HF8.out.size; omega, by have := (World.ownsRow.lt HB9.out j hj).2; simp; omega⟩) (by have := HEND.out; rw [List.length_take]; omega) ?_; intro v10 w10 own10 fr10 fresh10; have HOW10 := Lib.hid own10; have HFR10 := Lib.hid fr10; have HFS10 := Lib.hid fresh10; obtain ⟨oo10, oc10, rfl⟩ := own10.slice; rw [HK1.out] at HOW10 HFS10 ⊢; clear own10 fr10 fresh10))
      have hf10 : Fr (fun j => w3.heap.size ≤ j) wr w10 := ((HF9.out.alloc _).mono (fun _ _ h => h.elim)).trans HFR10.out (fun j hj => .inl (HN.out j hj))
      refine ⟨⟨k + 1, by omega, ?_, fun j hj => ?_, ?_⟩, ?_⟩
      · rw [← HR.out]
        exact HCB2.out _ (HBY.out.fr hf10 (fun j hj h => by have := HBK.out j hj; omega))
      · exact HBK.out j (by rw [← HCK2.out]; exact hj)
      · refine ⟨by rw [HTK.out]; exact HOW10.out, fun j hj => ?_, (HF.out.trans hf10 (fun j hj => .inr hj)).mono (fun j h1 h2 => by omega)⟩
        rcases HFS10.out with h | h
        · rw [h] at hj; exact HN.out j hj
        · rw [h] at hj; cases hj; exact Nat.le_trans HF.out.size (Nat.le_trans HF9.out.size (by simp))
      · have := HML.out
        show r.length < m
        omega
    · obtain rfl : k = ls.length := by omega
      rw [List.drop_length, framesOf_nil] at HBY HBK ⊢
      rw [List.take_length] at HO HN ⊢
      have hfj : Fr (fun _ => False) w2 wr := HF23.out.trans HF.out (fun _ h => h.elim)
      go_wp2
      go_ret3
      exact ⟨w.heap.size, _, rfl, hfj.at HJ2.out (fun h => h), HO.out.lists, Nat.le_refl _, HF3.out.trans HF.out (fun _ h => h.elim)⟩
end Go.Proofs.Ytnpeeephkkmomaa
namespace Go.Proofs.Ytnpeeephkkmomaa
open Go.RowKit
set_option linter.unusedVariables false
set_option linter.unusedSimpArgs false

/-- What is no cells lies as it lay. -/
def NC (A B : World) : Prop := ∀ (j : Nat) (o : Obj), A.heap[j]? = some o → o.isCells = false → B.heap[j]? = some o
theorem NC.refl (A : World) : NC A A := fun _ _ h _ => h
theorem NC.trans {A B C : World} (h : NC A B) (k : NC B C) : NC A C := fun j o h1 h2 => k j o (h j o h1 h2) h2
theorem Fr.nc {F : Nat → Prop} {A B : World} (h : Fr F A B) (hF : ∀ j, F j → ∃ c T f, A.heap[j]? = some (.cells c T f)) : NC A B := by
  intro j o hj ho
  refine h.at hj (fun hf => ?_)
  obtain ⟨c, T, f, e⟩ := hF j hf
  rw [hj] at e; cases e; cases ho
theorem Fr.putObj {W : World} (l : Nat) (o : Obj) : Fr (fun j => j = l) W (W.putObj l o) :=
  ⟨rfl, rfl, rfl, by simp, fun k _ hk => World.putObj_heap_other hk⟩

/-- How a round may be left. -/
def rngPost (I : World → Prop) (Ix : World → Prop) (Kp : World → World → Prop) (W : World) : Exit → Act → World → Prop
  | .normal, _, W' => NC W W' ∧ Kp W W' ∧ I W'
  | .ret, _, W' => NC W W' ∧ Ix W'
  | _, _, _ => False

/-- The iterator's word. -/
def SeqW (P : Program) (gf : Nat) (lb : Array Value) (N : Nat) (X : Nat → Array Value → World → Prop) (St Kp : World → World → Prop) (Pre : World → Prop) : Prop :=
  ∀ (l : Nat) (J : Nat → World → Prop) (Jx : World → Prop) (W : World), (∀ k A B, J k A → St A B → J k B) →
    (∀ k args A, J k A → k < N → X k args A → YieldAt Fence.wide 1 P l args A fun e B => (e = .returned (.bool true) ∧ J (k + 1) B ∧ Kp A B) ∨ (e = .returned (.bool false) ∧ Jx B)) →
    J 0 W → Pre W → CallsIn Fence.wide 2 P gf (#[.func (.yield l) #[] #[]] ++ lb) W fun e B => (∃ v, e = .returned v) ∧ (J N B ∨ Jx B)

theorem wp_range {P : Program} {g : Operand} {ps : Array Tmp} {assign body : Code} {Q : Exit → Act → World → Prop} {a : Act} {w : World} {gf : Nat} {lb : Array Value}
    (hg : a.eval g = .func (.func gf) #[] lb) (eg : ∀ args w, (callFunc gf args).run P w = .ok (.enter gf args) w)
    (N : Nat) (X : Nat → Array Value → World → Prop) (St Kp : World → World → Prop) (Pre : World → Prop) (hseq : SeqW P gf lb N X St Kp Pre)
    (I : Nat → World → Prop) (Ix : World → Prop)
    (hps : ∀ k args A, X k args A → args.size = ps.size)
    (hSt : ∀ k A B, I k A → St A B → I k B) (hStN : ∀ A B, St A B → NC A B)
    (hRec : ∀ A B l r, w.heap.size ≤ l → A.heap[l]? = some (.loop r) → Fr (fun j => j = l) A B → (∀ k, I k A → I k B) ∧ (Ix A → Ix B) ∧ (∀ k args, X k args A → X k args B) ∧ Kp A B)
    (hKt : ∀ A B C, Kp A B → Kp B C → Kp A C)
    (h0 : ∀ o o', I 0 ((w.alloc o).alloc o') ∧ Pre ((w.alloc o).alloc o'))
    (hround : ∀ l k args W, I k W → k < N → X k args W →
      assign.wpIn (Fence.wide.inRound l) 1 P (Exit.then (fun a₁ w₁ => W = w₁ ∧ ∀ W2, I k W2 → X k args W2 → body.wpIn (Fence.wide.inRound l) 1 P (rngPost (I (k + 1)) Ix Kp W2) a₁ W2) (fun _ _ _ => False))
        { tmps := (ps.zip args).foldl (fun t (p, v) => t.setIfInBounds p v) a.tmps, defers := [] } W)
    (hdone : ∀ D W, w.heap.size ≤ D → I N W → W.heap[D]? = some (.deferred (some [])) → Q .normal { a with defers := { target := .collected D, args := #[] } :: a.defers } W)
    (hstop : ∀ D W, w.heap.size ≤ D → Ix W → W.heap[D]? = some (.deferred (some [])) → Q .ret { a with defers := { target := .collected D, args := #[] } :: a.defers } W) :
    (Code.rangeFunc g ps assign body).wp P Q a w := by
  refine (wpIn_wide (n := 3)).1 (wpIn_rangeFunc ?_)
  intro fn hfn
  obtain ⟨rec, hrec⟩ : ∃ rec : LoopState → Option Code → Loop, rec = fun st pe => { state := st, pending := pe, fn, tmps := a.tmps, params := ps, assign, body, defers := w.heap.size } := ⟨_, rfl⟩
  obtain ⟨W1, hW1⟩ : ∃ W1, (w.alloc (.deferred (some []))).alloc (.loop (rec .ready none)) = W1 := ⟨_, rfl⟩
  have hL1 : W1.heap[w.heap.size + 1]? = some (.loop (rec .ready none)) := by
    rw [← hW1]; have := World.alloc_heap_new (w.alloc (.deferred (some []))) (.loop (rec .ready none)); rwa [World.size_alloc] at this
  have hK1 : W1.heap[w.heap.size]? = some (.deferred (some [])) := by
    rw [← hW1]; exact (Below.heap_alloc _ _ _ (by simp)).trans (World.alloc_heap_new w _)
  have h01 := h0 (.deferred (some [])) (.loop (rec .ready none))
  rw [hW1] at h01
  refine ⟨w.heap.size + 1, [{ target := .collected w.heap.size, args := #[] }], W1, { target := .fn (.func gf) lb, args := #[.func (.yield (w.heap.size + 1)) #[] #[]] }, W1, gf,
    #[.func (.yield (w.heap.size + 1)) #[] #[]] ++ lb, W1, ?_, ?_, fun _ _ => trivial, ?_, fun h => (by cases h), ?_⟩
  · rw [← hW1, hrec]; exact run_enterLoop_outer _ _ _ _ _
  · simp only [resolve, hg]
    simp [go_sem]
  · simp [invoke, go_sem, eg]
  · refine (hseq (w.heap.size + 1)
      (fun k W => I k W ∧ W.heap[w.heap.size + 1]? = some (.loop (rec .ready none)) ∧ W.heap[w.heap.size]? = some (.deferred (some [])))
      (fun W => Ix W ∧ W.heap[w.heap.size + 1]? = some (.loop (rec .done (some .ret))) ∧ W.heap[w.heap.size]? = some (.deferred (some [])))
      W1 (fun k A B hJ hs => ⟨hSt k A B hJ.1 hs, hStN A B hs _ _ hJ.2.1 rfl, hStN A B hs _ _ hJ.2.2 rfl⟩) ?_ ⟨h01.1, hL1, hK1⟩ h01.2).mono ?_
    · rintro k args W ⟨hi, hl, hk⟩ hlen hx
      have hlt : w.heap.size + 1 < W.heap.size := (Array.getElem?_eq_some_iff.1 hl).1
      have hy := run_yield (P := P) (args := args) hl (by rw [hrec]; exact hps k args W hx)
      rw [hrec] at hy
      have hr1 := hRec W (W.putObj (w.heap.size + 1) (.loop { rec .ready none with state := .busy })) _ _ (by omega) hl (Fr.putObj _ _)
      have hl2 : (W.putObj (w.heap.size + 1) (.loop { rec .ready none with state := .busy })).heap[w.heap.size + 1]? = some (.loop { rec .ready none with state := .busy }) := World.putObj_heap_same hlt
      have hk2 : (W.putObj (w.heap.size + 1) (.loop { rec .ready none with state := .busy })).heap[w.heap.size]? = some (.deferred (some [])) := (World.putObj_heap_other (by omega)).trans hk
      refine ⟨fn, _, assign, body, hy, roundIn_of_wpIn hfn (wpIn_mono (hround (w.heap.size + 1) k args W hi hlen hx) ?_)⟩
      intro e1 a1 w1 he1
      cases e1 with
      | normal => ?_
      | _ => exact he1.elim
      obtain ⟨rfl, hb1⟩ := he1
      refine ⟨_, run_beginRound hl (by rw [hrec]), ?_⟩
      refine wpIn_mono (hb1 _ (hr1.1 k hi) (hr1.2.2.1 k args hx)) ?_
      have fin : ∀ (jump : Option Code) (W3 : World), NC (W.putObj (w.heap.size + 1) (.loop { rec .ready none with state := .busy })) W3 →
          (Instr.endRound (w.heap.size + 1) jump).run P W3 = .ok (.bool jump.isNone) (W3.putObj (w.heap.size + 1) (.loop (rec (if jump.isNone then .ready else .done) jump))) ∧
          W3.heap[w.heap.size + 1]? = some (.loop { rec .ready none with state := .busy }) ∧
          (W3.putObj (w.heap.size + 1) (.loop (rec (if jump.isNone then .ready else .done) jump))).heap[w.heap.size + 1]? = some (.loop (rec (if jump.isNone then .ready else .done) jump)) ∧
          (W3.putObj (w.heap.size + 1) (.loop (rec (if jump.isNone then .ready else .done) jump))).heap[w.heap.size]? = some (.deferred (some [])) := fun jump W3 hk3 => by
        have hl3 := hk3 _ _ hl2 rfl
        have := run_endRound (P := P) jump hl3
        rw [hrec] at this ⊢
        exact ⟨this, by rw [hrec] at hl3; exact hl3, World.putObj_heap_same (Array.getElem?_eq_some_iff.1 hl3).1, (World.putObj_heap_other (by omega)).trans (hk3 _ _ hk2 rfl)⟩
      rintro e a3 W3 hp
      cases e with
      | normal =>
        obtain ⟨hk3, hkp3, hi3⟩ := hp
        obtain ⟨hr, hl3, hl4, hk4⟩ := fin none W3 hk3
        have hr2 := hRec W3 (W3.putObj (w.heap.size + 1) (.loop (rec .ready none))) _ _ (by omega) hl3 (Fr.putObj _ _)
        exact ⟨_, _, hr, .inl ⟨rfl, ⟨hr2.1 _ hi3, hl4, hk4⟩, hKt _ _ _ (hKt _ _ _ hr1.2.2.2 hkp3) hr2.2.2.2⟩⟩
      | ret =>
        obtain ⟨hk3, hi3⟩ := hp
        obtain ⟨hr, hl3, hl4, hk4⟩ := fin (some .ret) W3 hk3
        have hr2 := hRec W3 (W3.putObj (w.heap.size + 1) (.loop (rec .done (some .ret)))) _ _ (by omega) hl3 (Fr.putObj _ _)
        exact ⟨_, _, hr, .inr ⟨rfl, hr2.2.1 hi3, hl4, hk4⟩⟩
      | exit id => exact hp.elim
      | goto t => exact hp.elim
      | panic ch => exact hp.elim
      | outgrown => exact hp.elim
    · rintro e W2 ⟨⟨v, rfl⟩, (⟨hi, hl, hk⟩ | ⟨hi, hl, hk⟩)⟩
      · have hr2 := hRec W2 (W2.putObj (w.heap.size + 1) (.loop { rec .ready none with state := .exhausted })) _ _ (by omega) hl (Fr.putObj _ _)
        exact ⟨none, _, by have := run_endLoop (P := P) hl (by rw [hrec]; simp); rw [hrec] at this ⊢; exact this, hdone _ _ (Nat.le_refl _) (hr2.1 _ hi) ((World.putObj_heap_other (by omega)).trans hk)⟩
      · have hr2 := hRec W2 (W2.putObj (w.heap.size + 1) (.loop { rec .done (some .ret) with state := .exhausted })) _ _ (by omega) hl (Fr.putObj _ _)
        exact ⟨some .ret, _, by have := run_endLoop (P := P) hl (by rw [hrec]; simp); rw [hrec] at this ⊢; exact this, wpIn_ret (hstop _ _ (Nat.le_refl _) (hr2.2.1 hi) ((World.putObj_heap_other (by omega)).trans hk))⟩

/-- What a walk is to come to where nothing panics. -/
def retPost (n : Nat) (P : Program) (fn : Func) (R : Ending → World → Prop) : Exit → Act → World → Prop
  | .ret, a, w => bodyPostM Fence.wide n P fn R .ret a w
  | _, _, _ => False
theorem wp_retPost {n : Nat} {P : Program} {fn : Func} {R : Ending → World → Prop} {c : Code} {a : Act} {w : World} (h : c.wp P (retPost n P fn R) a w) : c.wpIn Fence.wide n P (bodyPostM Fence.wide n P fn R) a w :=
  wpIn_wide.2 (wp_mono h (fun e a w hq => by cases e <;> first | exact hq | exact hq.elim))

/-- A return, the mark of one range over a function among the deferred calls. -/
theorem bodyPostM_ret {P : Program} {n : Nat} {fn : Func} {R : Ending → World → Prop} {tmps : Array Value} {W : World} {D : Nat} {v : Value}
    (hD : W.heap[D]? = some (.deferred (some []))) (hv : (results fn tmps).run P (W.putObj D (.deferred none)) = .ok v (W.putObj D (.deferred none))) (hR : R (.returned v) (W.putObj D (.deferred none))) :
    retPost n P fn R .ret { tmps := tmps, defers := [{ target := .collected D, args := #[] }] } W :=
  ⟨by simp, .inl ⟨_, _, rfl, run_takeDeferred hD, ⟨_, hv, hR⟩⟩⟩
theorem bodyPostM_ret0 {P : Program} {n : Nat} {fn : Func} {R : Ending → World → Prop} {tmps : Array Value} {W : World} {v : Value}
    (hv : (results fn tmps).run P W = .ok v W) (hR : R (.returned v) W) :
    retPost n P fn R .ret { tmps := tmps, defers := [] } W :=
  ⟨_, hv, hR⟩
end Go.Proofs.Ytnpeeephkkmomaa
namespace Go.Proofs.Ytnpeeephkkmomaa
open Go.RowKit Go.Proofs.YtnpeeephkkmomaaW.PrintLast
set_option linter.unusedVariables false
set_option linter.unusedSimpArgs false
attribute [local go_sem] Oper.semAt_some

/-- The k-th sector's worth of some bytes. -/
def chunk (f : List UInt8) (k : Nat) : List UInt8 := (f.drop (64 * k)).take 64
theorem chunk_length (f : List UInt8) (k : Nat) : (chunk f k).length = min 64 (f.length - 64 * k) := by simp [chunk]
/-- What the iterator leans on. -/
structure SecPre (p1 p2 p3 jp b : Nat) (from_ to_ : Nat) (end_ count : Int) (at_ : Nat) (W : World) : Prop where
  h1 : W.heap[p1]? = some (.cells #[.pointer (some ⟨jp, 0, none⟩)] 52 (0, 0))
  h2 : W.heap[p2]? = some (.cells #[.int .i64 at_] 2 (0, 0))
  hj : IsJ W jp b from_ to_ end_ count
theorem SecPre.fr {p1 p2 p3 jp b : Nat} {from_ to_ : Nat} {end_ count : Int} {at_ : Nat} {A B : World} {F : Nat → Prop} (h : SecPre p1 p2 p3 jp b from_ to_ end_ count at_ A) (hf : Fr F A B) (g1 : ¬ F p1) (g2 : ¬ F p2) (gj : ¬ F jp) :
    SecPre p1 p2 p3 jp b from_ to_ end_ count at_ B := ⟨hf.at h.h1 g1, hf.at h.h2 g2, hf.at h.hj gj⟩
/-- What stands in the iterator's own box. -/
def SecAt (p3 : Nat) (G : Nat → Prop) (f : List UInt8) (k : Nat) (W : World) : Prop :=
  ∃ ao cap, W.heap[p3]? = some (.cells #[.slice ao (f.drop (64 * k)).length cap] 30 (0, 0)) ∧ IsBytes W (.slice ao (f.drop (64 * k)).length cap) (f.drop (64 * k)) ∧ ∀ j, (Value.slice ao (f.drop (64 * k)).length cap).ownBlock = some j → ¬ G j ∧ j ≠ p3
theorem SecAt.fr0 {p3 : Nat} {G : Nat → Prop} {f : List UInt8} {k : Nat} {A B : World} (h : SecAt p3 G f k A) (hf : Fr (fun _ => False) A B) : SecAt p3 G f k B := by
  obtain ⟨ao, cap, e1, e2, e3⟩ := h
  exact ⟨ao, cap, hf.at e1 (fun h => h), e2.fr hf (fun _ _ h => h), e3⟩
/-- The iterator's own steps. -/
def SecSt (p3 : Nat) (A B : World) : Prop := Fr (fun j => j = p3) A B ∧ ∃ c T g, A.heap[p3]? = some (.cells c T g)
/-- What is handed to a round. -/
def SecX (G : Nat → Prop) (f : List UInt8) (s : Nat) (k : Nat) (args : Array Value) (W : World) : Prop :=
  ∃ ao cap, args = #[.int .i64 ((s + k : Nat) : Int), .slice ao (chunk f k).length cap] ∧ IsBytes W (.slice ao (chunk f k).length cap) (chunk f k) ∧ ∀ j, (Value.slice ao (chunk f k).length cap).ownBlock = some j → ¬ G j

set_option maxRecDepth 100000 in
set_option maxHeartbeats 4000000 in
theorem sectors_seq (p1 p2 p3 jp b : Nat) (from_ to_ : Nat) (end_ count : Int) (at_ : Nat) (f : List UInt8) (G : Nat → Prop) (g1 : ¬ G p1) (g2 : ¬ G p2) (g3 : ¬ G p3) (gj : ¬ G jp) (n1 : p1 ≠ p3) (n2 : p2 ≠ p3) (nj : jp ≠ p3)
    (hat : at_ ≤ 4194304) (hfrom : from_ ≤ 65536) (hf : f.length ≤ 4194304) :
    SeqW Try.prog 87 #[.pointer (some ⟨p1, 0, none⟩), .pointer (some ⟨p2, 0, none⟩), .pointer (some ⟨p3, 0, none⟩)] ((f.length + 63) / 64) (SecX G f (from_ + at_ / 64)) (SecSt p3) (fun A B => Fr G A B)
      (fun W => SecPre p1 p2 p3 jp b from_ to_ end_ count at_ W ∧ SecAt p3 G f 0 W) := by
  intro l J Jx W hSt hY h0 hpre
  obtain ⟨hp, hs⟩ := hpre
  have hp1 := hp.h1; have hp2 := hp.h2; have hj := hp.hj
  unfold IsJ at hj
  have HS := Lib.hid hs; have HP := Lib.hid hp; have HST := Lib.hid hSt; have HY := Lib.hid hY
  have hq : IntKind.i64.wrap ((at_ : Int).tdiv 64) = ((at_ / 64 : Nat) : Int) := by rw [Int.tdiv_eq_ediv_of_nonneg (by omega), IntWalk.i64_in _ (by omega)]; omega
  have hq' : wrap64 ((at_ : Int) / 64) = ((at_ / 64 : Nat) : Int) := by rw [← i64_w, IntWalk.i64_in _ (by omega)]; omega
  have HG := Lib.hid (And.intro g1 (And.intro g2 (And.intro g3 gj))); have HN := Lib.hid (And.intro n1 (And.intro n2 nj)); have HB := Lib.hid (And.intro hat (And.intro hfrom hf))
  clear hp hs hSt hY g1 g2 g3 gj n1 n2 nj
  generalize hsq : at_ / 64 = q at *
  have hw1 : IntKind.i64.wrap ((from_ : Int) + (q : Int)) = (from_ : Int) + q := IntWalk.i64_in _ (by omega)
  have hw1' : wrap64 ((from_ : Int) + (q : Int)) = (from_ : Int) + q := by rw [← i64_w]; exact hw1
  clear hat hfrom hf
  refine callsIn_of_wp Try.func87 rfl trivial ?_ rfl
  simp only [Try.ntmps87, List.size_toArray, List.length_cons, List.length_nil, Nat.reduceAdd, Nat.reduceSub, Array.replicate_succ, Array.replicate_zero, List.push_toArray, List.append_toArray, List.nil_append, List.cons_append]
  gi_wp2
  refine wpIn_wide.2 ?_
  refine start_ (n := 8) (S := fun w' => w'.heap[p1]? = some (.cells #[.pointer (some ⟨jp, 0, none⟩)] 52 (0, 0)) ∧ w'.heap[p2]? = some (.cells #[.int .i64 at_] 2 (0, 0)) ∧ w'.heap[jp]? = some (.cells #[.pointer (some ⟨b, 0, none⟩), .int .i64 from_, .int .i64 to_, .int .i64 end_, .int .i64 count] 100 (0, 0))) (ds := []) #[false, false, false, false, false, false, false, false] (by kernel_rfl) rfl rfl ⟨hp1, hp2, hj⟩ (fun hHeld => ?_)
  refine take_ (i := 0) (N := some 7) (v := ?_) (a' := ?_) #[true, false, false, false, false, false, false, false] rfl rfl (by kernel_rfl) (fun _ _ _ h => h) (Or.inl ⟨by rfl, ?_⟩) hHeld ?_ ?_
  rotate_left
  · rintro w' ⟨s0, s1, s2⟩
    try simp only [List.getElem_toArray, List.getElem_cons_succ, List.getElem_cons_zero]
    go_simp
    with_reducible rfl
  rotate_left
  · simp only [Act.put, List.setIfInBounds_toArray, List.set_cons_zero, List.set_cons_succ, i64_w, i32_w]
    rfl
  refine pure_ (i := 1) (N := some 8) (v := ?_) (a' := ?_) #[true, true, false, false, false, false, false, false] rfl rfl (by kernel_rfl) (fun _ _ _ h => h) (Or.inl ⟨by rfl, ?_⟩) ?_ ?_
  rotate_left
  · intro w'
    try simp only [List.getElem_toArray, List.getElem_cons_succ, List.getElem_cons_zero]
    go_simp
    with_reducible rfl
  rotate_left
  · simp only [Act.put, List.setIfInBounds_toArray, List.set_cons_zero, List.set_cons_succ, i64_w, i32_w]
    rfl
  refine pure_ (i := 2) (N := some 9) (v := ?_) (a' := ?_) #[true, true, true, false, false, false, false, false] rfl rfl (by kernel_rfl) (fun _ _ _ h => h) (Or.inl ⟨by rfl, ?_⟩) ?_ ?_
  rotate_left
  · intro w'
    try simp only [List.getElem_toArray, List.getElem_cons_succ, List.getElem_cons_zero]
    go_simp
    with_reducible rfl
  rotate_left
  · simp only [Act.put, List.setIfInBounds_toArray, List.set_cons_zero, List.set_cons_succ, i64_w, i32_w]
    rfl
  refine take_ (i := 3) (N := some 10) (v := ?_) (a' := ?_) #[true, true, true, true, false, false, false, false] rfl rfl (by kernel_rfl) (fun _ _ _ h => h) (Or.inl ⟨by rfl, ?_⟩) hHeld ?_ ?_
  rotate_left
  · rintro w' ⟨s0, s1, s2⟩
    try simp only [List.getElem_toArray, List.getElem_cons_succ, List.getElem_cons_zero]
    go_simp
    with_reducible rfl
  rotate_left
  · simp only [Act.put, List.setIfInBounds_toArray, List.set_cons_zero, List.set_cons_succ, i64_w, i32_w]
    rfl
  refine take_ (i := 4) (N := some 11) (v := ?_) (a' := ?_) #[true, true, true, true, true, false, false, false] rfl rfl (by kernel_rfl) (fun _ _ _ h => h) (Or.inl ⟨by rfl, ?_⟩) hHeld ?_ ?_
  rotate_left
  · rintro w' ⟨s0, s1, s2⟩
    try simp only [List.getElem_toArray, List.getElem_cons_succ, List.getElem_cons_zero]
    go_simp
    with_reducible rfl
  rotate_left
  · simp only [Act.put, List.setIfInBounds_toArray, List.set_cons_zero, List.set_cons_succ, i64_w, i32_w]
    rfl
  refine pure_ (i := 5) (N := some 12) (v := ?_) (a' := ?_) #[true, true, true, true, true, true, false, false] rfl rfl (by kernel_rfl) (fun _ _ _ h => h) (Or.inl ⟨by rfl, ?_⟩) ?_ ?_
  rotate_left
  · intro w'
    try simp only [List.getElem_toArray, List.getElem_cons_succ, List.getElem_cons_zero]
    go_simp
    with_reducible rfl
  rotate_left
  · simp only [Act.put, List.setIfInBounds_toArray, List.set_cons_zero, List.set_cons_succ, i64_w, i32_w]
    rfl
  refine pure_ (i := 6) (N := some 13) (v := ?_) (a' := ?_) #[true, true, true, true, true, true, true, false] rfl rfl (by kernel_rfl) (fun _ _ _ h => h) (Or.inl ⟨by rfl, ?_⟩) ?_ ?_
  rotate_left
  · intro w'
    try simp only [List.getElem_toArray, List.getElem_cons_succ, List.getElem_cons_zero]
    go_simp
    with_reducible rfl
  rotate_left
  · simp only [Act.put, List.setIfInBounds_toArray, List.set_cons_zero, List.set_cons_succ, i64_w, i32_w]
    rfl
  refine pure_ (i := 7) (N := some 5) (v := ?_) (a' := ?_) #[true, true, true, true, true, true, true, true] rfl rfl (by kernel_rfl) (fun _ _ _ h => h) (Or.inl ⟨by rfl, ?_⟩) ?_ ?_
  rotate_left
  · intro w'
    try simp only [List.getElem_toArray, List.getElem_cons_succ, List.getElem_cons_zero]
    go_simp
    with_reducible rfl
  rotate_left
  · simp only [Act.put, List.setIfInBounds_toArray, List.set_cons_zero, List.set_cons_succ, i64_w, i32_w]
    rfl
  refine done_ (by kernel_rfl) ?_

  gi_wp2
  have hq2 := HB.out
  simp only [hq', hw1']
  gi_loopw [5] (fun i wr => ∃ k : Nat, k ≤ (f.length + 63) / 64 ∧ i = .int .i64 ((from_ + q + k : Nat) : Int) ∧ J k wr ∧ SecPre p1 p2 p3 jp b from_ to_ end_ count at_ wr ∧ SecAt p3 G f k wr) (fun i _ => (f.length + 63) / 64 + (from_ + q) - (intOf i).toNat)
  case atStart =>
    have hd : Fr (fun j => j = p3) W W.drew := (Fr.refl _ W).drew
    exact ⟨0, Nat.zero_le _, by go_num, HST.out 0 W W.drew h0 ⟨hd, by obtain ⟨_, _, e, _⟩ := HS.out; exact ⟨_, _, _, e⟩⟩, HP.out.fr (F := fun _ => False) (Fr.refl _ W).drew (fun h => h) (fun h => h) (fun h => h), SecAt.fr0 HS.out (Fr.refl _ W).drew⟩
  case round =>
    obtain ⟨k, hk, rfl, hjk, hp, ao, cap, h3, hby, hbk⟩ := hrel
    clear hp1 hp2 hj hHeld
    obtain ⟨M, hM⟩ : ∃ M, M = (f.drop (64 * k)).length := ⟨_, rfl⟩
    have hMl : M = f.length - 64 * k := by rw [hM, List.length_drop]
    rw [← hM] at h3 hby hbk
    have hp1 := hp.h1; have hp2 := hp.h2
    have HP2 := Lib.hid hp; have HBY := Lib.hid hby; have HBK := Lib.hid hbk; have HJK := Lib.hid hjk
    have n13 : p1 ≠ p3 := HN.out.1

    clear hp hby hbk
    by_cases hlt : 64 * k < f.length
    · obtain ⟨C, hC⟩ : ∃ C, C = (chunk f k).length := ⟨_, rfl⟩
      have hCl : C = min 64 M := by rw [hC, chunk_length, hMl]
      have hck : (f.drop (64 * k)).take C = chunk f k := by
        unfold chunk
        rcases Nat.lt_or_ge M 64 with h | h
        · rw [List.take_of_length_le (by omega), List.take_of_length_le (by omega)]
        · rw [show C = 64 by omega]
      have hcd : (f.drop (64 * k)).drop C = f.drop (64 * (k + 1)) := by
        rcases Nat.lt_or_ge M 64 with h | h
        · rw [List.drop_of_length_le (by omega), List.drop_of_length_le (by omega)]
        · rw [show C = 64 by omega, List.drop_drop]; congr 1
      obtain ⟨v1, hcut1, hb1, ho1⟩ := cut_h HBY.out C (by omega)
      obtain ⟨v2, hcut2, hb2, ho2⟩ := cut_l HBY.out C (by omega)
      rw [hck] at hb1; rw [hcd] at hb2
      obtain ⟨o1, c1, rfl, _⟩ := (hb1 wr HBY.out).is
      obtain ⟨o2, c2, rfl, _⟩ := (hb2 wr HBY.out).is
      have hX : SecX G f (from_ + q) k #[.int .i64 ((from_ + q + k : Nat) : Int), .slice o1 (chunk f k).length c1] wr :=
        ⟨o1, c1, rfl, hb1 wr HBY.out, fun j hj => (HBK.out j (by rw [← ho1]; exact hj)).1⟩
      obtain ⟨fn, tmps, assign, body, hy, hR⟩ := HY.out k _ wr hjk (by omega) hX
      have HR := Lib.hid hR
      obtain ⟨i, hi⟩ : ∃ i, i = from_ + q + k := ⟨_, rfl⟩
      rw [← hi] at hy ⊢
      have t1 : decide (0 < (M : Int)) = true := by simp; omega
      have t1n : decide (0 < M) = true := by simp; omega
      have hw2 : IntKind.i64.wrap ((i : Int) + 1) = (i : Int) + 1 := IntWalk.i64_in _ (by omega)
      have HI := Lib.hid hi
      rw [← hC] at hy hcut1 hb1 ho1
      have HB1 := Lib.hid hb1; have HB2 := Lib.hid hb2; have HO1 := Lib.hid ho1; have HO2 := Lib.hid ho2; have HX := Lib.hid hX
      obtain ⟨M2, hM2⟩ : ∃ M2, M2 = (f.drop (64 * (k + 1))).length := ⟨_, rfl⟩
      rw [← hM2] at hcut2 HO2 HB2
      have HM2 := Lib.hid hM2
      clear hR hb1 hb2 ho1 ho2 hX hck hcd hC hM hMl hq2 hjk hM2 hi
      by_cases h64 : 64 < M
      · obtain rfl : C = 64 := by omega
        have hcut1' : ∀ w', (Instr.slice 30 (.slice ao M cap) none (some (.int .i64 64)) none).run Try.prog w' = .ok (.slice o1 64 c1) w' := hcut1
        have hcut2' : ∀ w', (Instr.slice 30 (.slice ao M cap) (some (.int .i64 64)) none none).run Try.prog w' = .ok (.slice o2 M2 c2) w' := hcut2
        clear hcut1 hcut2 hCl
        gi_wp2
        refine HR.out.mono ?_
        rintro e W3 (⟨rfl, hJ3, hk3⟩ | ⟨rfl, hJx3⟩)
        · have h33 := hk3.at h3 HG.out.2.2.1
          have HK3 := Lib.hid hk3; have HJ3 := Lib.hid hJ3
          clear hk3 hJ3 h3
          gi_wp2
          have fs : Fr (fun j => j = p3) W3 (W3.setCell ⟨p3, 0, none⟩ (.slice o2 M2 c2)) := (Fr.refl _ W3).setCell _ (.inl rfl)
          have hbk2 : ∀ j, (Value.slice o2 M2 c2).ownBlock = some j → ¬ G j ∧ j ≠ p3 := fun j hj => HBK.out j (by rw [← HO2.out]; exact hj)
          go_roundw
          case rel =>
            refine ⟨k + 1, by omega, by have := HI.out; congr 1; omega, HST.out (k + 1) W3 _ HJ3.out ⟨fs, _, _, _, h33⟩, (HP2.out.fr HK3.out HG.out.1 HG.out.2.1 HG.out.2.2.2).fr fs HN.out.1 HN.out.2.1 HN.out.2.2, ?_⟩
            unfold SecAt
            rw [← HM2.out]
            exact ⟨o2, c2, by rw [heap_setCell_self, h33]; rfl, ((HB2.out wr HBY.out).fr HK3.out (fun j hj => (hbk2 j hj).1)).fr fs (fun j hj => (hbk2 j hj).2), hbk2⟩
          case measure => have := HI.out; simp [intOf]; omega
        · gi_wp2
          refine bodyPost_ret (results_none rfl _ _ _) rfl ?_
          exact ⟨⟨_, rfl⟩, .inr hJx3⟩
      · obtain rfl : C = M := by omega
        clear hCl
        gi_wp2
        refine HR.out.mono ?_
        rintro e W3 (⟨rfl, hJ3, hk3⟩ | ⟨rfl, hJx3⟩)
        · have h33 := hk3.at h3 HG.out.2.2.1
          have HK3 := Lib.hid hk3; have HJ3 := Lib.hid hJ3
          clear hk3 hJ3 h3
          gi_wp2
          have fs : Fr (fun j => j = p3) W3 (W3.setCell ⟨p3, 0, none⟩ (.slice o2 M2 c2)) := (Fr.refl _ W3).setCell _ (.inl rfl)
          have hbk2 : ∀ j, (Value.slice o2 M2 c2).ownBlock = some j → ¬ G j ∧ j ≠ p3 := fun j hj => HBK.out j (by rw [← HO2.out]; exact hj)
          go_roundw
          case rel =>
            refine ⟨k + 1, by omega, by have := HI.out; congr 1; omega, HST.out (k + 1) W3 _ HJ3.out ⟨fs, _, _, _, h33⟩, (HP2.out.fr HK3.out HG.out.1 HG.out.2.1 HG.out.2.2.2).fr fs HN.out.1 HN.out.2.1 HN.out.2.2, ?_⟩
            unfold SecAt
            rw [← HM2.out]
            exact ⟨o2, c2, by rw [heap_setCell_self, h33]; rfl, ((HB2.out wr HBY.out).fr HK3.out (fun j hj => (hbk2 j hj).1)).fr fs (fun j hj => (hbk2 j hj).2), hbk2⟩
          case measure => have := HI.out; simp [intOf]; omega
        · gi_wp2
          refine bodyPost_ret (results_none rfl _ _ _) rfl ?_
          exact ⟨⟨_, rfl⟩, .inr hJx3⟩
    · obtain rfl : k = (f.length + 63) / 64 := by omega
      have t1 : decide (0 < (M : Int)) = false := by simp; omega
      have t1n : decide (0 < M) = false := by simp; omega
      clear hM hMl
      gi_wp2
      go_end0
      exact ⟨⟨_, rfl⟩, .inl HJK.out⟩
end Go.Proofs.Ytnpeeephkkmomaa
