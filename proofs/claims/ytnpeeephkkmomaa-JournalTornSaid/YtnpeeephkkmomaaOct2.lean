/-
  slices.Concat of bytes; PutInt.
-/
import Derived.Test.YtnpeeephkkmomaaOct
namespace Go.Proofs.Ytnpeeephkkmomaa
open Go.RowKit Go.Proofs.YtnpeeephkkmomaaW.PrintLast
set_option linter.unusedVariables false
set_option linter.unusedSimpArgs false

theorem IsLists.at {w : World} {ao : Option Addr} {cap n : Nat} {ls : List (List UInt8)} (h : IsLists w (.slice ao n cap) ls) (k : Nat) (hk : k < ls.length) :
    ∃ ab off uo uc, ao = some ⟨ab, off, none⟩ ∧ cellIn w.heap[ab]? (off + k) = some (.slice uo ls[k].length uc) ∧ IsBytes w (.slice uo ls[k].length uc) ls[k] := by
  obtain ⟨ao', cap', hv, h1, h2, h3, h4⟩ := h.is
  simp only [Value.slice.injEq] at hv
  obtain ⟨rfl, _, rfl⟩ := hv
  cases ao with
  | none => rw [h3 rfl] at hk; simp at hk
  | some a =>
    obtain ⟨u0, hu0, _⟩ := h4 a rfl 0 (by omega)
    have hs := cell_spot hu0 rfl
    obtain ⟨ab, off, sp⟩ := a
    simp only at hs
    subst hs
    obtain ⟨u, hu, hb⟩ := h4 _ rfl k hk
    rw [Addr.add_mk, cell?_mk] at hu
    obtain ⟨uo, uc, rfl, _⟩ := hb.is
    exact ⟨ab, off, uo, uc, rfl, hu, hb⟩

def lsum (ls : List (List UInt8)) : Nat := (ls.map List.length).sum
theorem lsum_snoc (ls : List (List UInt8)) (x : List UInt8) : lsum (ls ++ [x]) = lsum ls + x.length := by simp [lsum]
theorem lsum_take_le (ls : List (List UInt8)) (k : Nat) : lsum (ls.take k) ≤ lsum ls := by
  have : ls.map List.length = (ls.take k).map List.length ++ (ls.drop k).map List.length := by rw [← List.map_append, List.take_append_drop]
  unfold lsum; rw [this, List.sum_append]; omega
theorem lsum_flatten (ls : List (List UInt8)) : ls.flatten.length = lsum ls := by simp [lsum, List.length_flatten]

def CatAt (w : World) (l : List UInt8) (v : Value) (wr : World) : Prop := Buf wr v l ∧ (∀ k, v.ownBlock = some k → w.heap.size ≤ k) ∧ Fr (fun _ => False) w wr

set_option maxRecDepth 100000 in
set_option maxHeartbeats 2000000 in
theorem concat_any (v : Value) (ls : List (List UInt8)) (w : World) (hv : IsLists w v ls) (hl : lsum ls ≤ 140737488355328) : Calls Try.prog 67 #[v] w (BufPost w ls.flatten) := by
  obtain ⟨ao, cap, rfl, h1, h2, _, _⟩ := hv.is
  have HV := Lib.hid hv; clear hv
  have HL := Lib.hid hl; clear hl
  go_enter Try.func67, Try.ntmps67
  go_wp2
  go_loopw [3, 11] (fun c i wr => ∃ k : Nat, k ≤ ls.length ∧ i = .int .i64 k ∧ c = .int .i64 (lsum (ls.take k) : Nat) ∧ w = wr) (fun _ i _ => ls.length - (intOf i).toNat)
  case atStart => exact ⟨0, Nat.zero_le _, rfl, rfl, rfl⟩
  case round =>
    obtain ⟨k, hk, rfl, rfl, rfl⟩ := hrel
    by_cases hlt : k < ls.length
    · obtain ⟨ab, off, uo, uc, rfl, hc, hb⟩ := HV.out.at k hlt
      clear hb
      have hle := lsum_take_le ls (k + 1)
      have hst : lsum (ls.take (k + 1)) = lsum (ls.take k) + ls[k].length := by rw [List.take_succ_eq_append_getElem hlt, lsum_snoc]
      have hL := HL.out
      have HST := Lib.hid hst
      rw [hst] at hle
      clear hst
      generalize lsum (ls.take k) = s at *
      generalize ls[k].length = m at *
      have hw1 : IntKind.i64.wrap ((k : Int) + 1) = (k : Int) + 1 := IntWalk.i64_in _ (by omega)
      have hw2 : IntKind.i64.wrap ((s : Int) + (m : Int)) = (s : Int) + (m : Int) := IntWalk.i64_in _ (by omega)
      have t1 : decide ((s : Int) + (m : Int) < 0) = false := by simp; omega
      clear hL hle
      go_wp2
      exact ⟨⟨k + 1, by omega, by go_num, by rw [HST.out]; go_num, trivial⟩, by simp [intOf]; omega⟩
    · obtain rfl : k = ls.length := by omega
      rw [List.take_length]
      have hw1 : ((lsum ls : Nat) : Int) = (lsum ls : Nat) := rfl
      go_wp2_with (go_at_call 86; refine (grow_nil (lsum ls) HL.out w).mono ?_; rintro e w2 ⟨v2, rfl, b2, n2, f2⟩)
      have HB2 : Hid (CatAt w [] v2 w2) := ⟨b2, n2, f2⟩
      clear b2 n2 f2
      go_loopw [6, 27] (fun c i wq => ∃ k : Nat, k ≤ ls.length ∧ i = .int .i64 k ∧ CatAt w (ls.take k).flatten c wq) (fun _ i _ => ls.length - (intOf i).toNat)
      case atStart => exact ⟨0, Nat.zero_le _, rfl, HB2.out⟩
      case round =>
        clear HB2
        obtain ⟨k, hk, rfl, hb, hn, hf⟩ := hrel
        have HB := Lib.hid hb; have HN := Lib.hid hn; have HF := Lib.hid hf
        clear hb hn hf
        by_cases hlt : k < ls.length
        · obtain ⟨ab, off, uo, uc, rfl, hc, hb⟩ := (HV.out.fr HF.out).at k hlt
          have hle := lsum_take_le ls (k + 1)
          have hst : lsum (ls.take (k + 1)) = lsum (ls.take k) + ls[k].length := by rw [List.take_succ_eq_append_getElem hlt, lsum_snoc]
          have hfl : (ls.take (k + 1)).flatten = (ls.take k).flatten ++ ls[k] := by rw [List.take_succ_eq_append_getElem hlt, List.flatten_append]; simp only [List.flatten_cons, List.flatten_nil, List.append_nil]
          have hln := lsum_flatten (ls.take k)
          have hroom : Room 1 (ls.take k).flatten.length ls[k].length := by
            have := HL.out
            exact Room.of_le (by unfold maxLen; omega) (by omega)
          have HFL := Lib.hid hfl; have HROOM := Lib.hid hroom; have HBY := Lib.hid hb
          clear hle hst hfl hln hroom hb
          have hw1 : IntKind.i64.wrap ((k : Int) + 1) = (k : Int) + 1 := IntWalk.i64_in _ (by omega)
          go_wp2_with (refine wpList_append_bytes rfl (.tmp 31) (.tmp 32) rfl _ _ rfl HB.out _ _ rfl HBY.out HROOM.out ?_; intro v3 w3 own3 fr3 fresh3)
          refine ⟨⟨k + 1, by omega, by go_num, by rw [HFL.out]; exact own3, fun j hj => ?_, HF.out.trans fr3 (fun j hj => .inr (HN.out j hj))⟩, by simp [intOf]; omega⟩
          rcases fresh3 with h | h
          · rw [h] at hj; exact HN.out j hj
          · rw [hj] at h; cases h; exact HF.out.size
        · obtain rfl : k = ls.length := by omega
          rw [List.take_length] at HB
          go_wp2
          go_ret
          exact ⟨_, rfl, HB.out, HN.out, HF.out⟩
end Go.Proofs.Ytnpeeephkkmomaa
