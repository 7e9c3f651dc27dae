/-
  octet's Reader: Int.
-/
import Derived.Test.YtnpeeephkkmomaaRd3
import Derived.Laws.Bits64b
namespace Go.Proofs.Ytnpeeephkkmomaa
open Go.RowKit Go.Proofs.YtnpeeephkkmomaaW.PrintLast
set_option linter.unusedVariables false
set_option linter.unusedSimpArgs false

/-- Bytes as a number. -/
def beN (m : List UInt8) : Nat := m.foldl (fun z c => z * 256 + c.toNat) 0
theorem beN_snoc (m : List UInt8) (c : UInt8) : beN (m ++ [c]) = beN m * 256 + c.toNat := by simp [beN]
theorem beN_lt (m : List UInt8) : beN m < 256 ^ m.length := by
  rcases List.eq_nil_or_concat m with rfl | ⟨l, c, rfl⟩
  · simp [beN]
  · have := beN_lt l
    have hc := c.toNat_lt
    rw [List.concat_eq_append, beN_snoc, List.length_append, List.length_singleton, Nat.pow_succ]
    omega
termination_by m.length
theorem or_step (z c : Nat) (hz : z < 72057594037927936) (hc : c < 256) : bits .or .u64 (IntKind.u64.wrap ((z : Int) * 256)) (IntKind.u64.wrap (c : Int)) = ((z * 256 + c : Nat) : Int) := by
  have h1 : IntKind.u64.wrap ((z : Int) * 256) = ((z * 256 : Nat) : Int) := by
    rw [IntKind.wrap_u64]; omega
  have h2 : IntKind.u64.wrap (c : Int) = (c : Int) := by rw [IntKind.wrap_u64]; omega
  rw [h1, h2, bits_or_u64_nat _ _ (by omega) (by omega)]
  congr 1
  rw [show z * 256 = 2 ^ 8 * z by omega, ← Nat.two_pow_add_eq_or_of_lt (by omega)]
/-- A number out of eight bytes. -/
def rd8 (m : List UInt8) : Int := wrap64 (beN m : Nat)

set_option maxRecDepth 100000 in
set_option maxHeartbeats 2000000 in
theorem int_ok (rp : Nat) (v : Value) (l : List UInt8) (at_ : Nat) (w : World) (h : IsRd w rp v l at_ false) (hn : at_ + 8 ≤ l.length) :
    Calls Try.prog 61 #[.pointer (some ⟨rp, 0, none⟩)] w fun e w' => e = .returned (.int .i64 (rd8 ((l.drop at_).take 8))) ∧ IsRd w' rp v l (at_ + 8) false ∧ Fr (fun k => k = rp) w w' := by
  have HH := Lib.hid h
  clear h
  have hl8 : ((l.drop at_).take 8).length = 8 := by rw [List.length_take, List.length_drop]; omega
  have HN := Lib.hid hn; clear hn
  go_enter Try.func61, Try.ntmps61
  go_wp2_with (go_at_call 83; refine (take_ok rp v l at_ 8 w HH.out HN.out).mono ?_; rintro e w2 ⟨v2, rfl, r2, b2, _, f2⟩; obtain ⟨ao, cap, rfl, _⟩ := b2.is; rw [hl8])
  have HR := Lib.hid r2; have HB := Lib.hid b2; have HF := Lib.hid f2
  clear r2 b2 f2
  generalize hm : (l.drop at_).take 8 = m at *
  have HM := Lib.hid hm; clear hm
  go_loopw [3, 9] (fun c i wr => ∃ k : Nat, k ≤ 8 ∧ i = .int .i64 k ∧ c = .int .u64 (beN (m.take k) : Nat) ∧ w2 = wr) (fun _ i _ => 8 - (intOf i).toNat)
  case atStart => exact ⟨0, Nat.zero_le _, rfl, rfl, rfl⟩
  case round =>
    obtain ⟨k, hk, rfl, rfl, rfl⟩ := hrel
    by_cases hlt : k < 8
    · have hw1 : IntKind.i64.wrap ((k : Int) + 1) = (k : Int) + 1 := IntWalk.i64_in _ (by omega)
      have t1 : decide ((k : Int) < 8) = true := by simp; omega
      have hkm : k < m.length := by rw [hl8]; exact hlt
      obtain ⟨ab, off, rfl, hc⟩ : ∃ ab off, ao = some ⟨ab, off, none⟩ ∧ cellIn w2.heap[ab]? (off + k) = some (.int .u8 (m[k].toNat : Int)) := by
        obtain ⟨ao', cap', hv', _, _, h3, h4⟩ := HB.out.is
        simp only [Value.slice.injEq] at hv'
        obtain ⟨rfl, _, rfl⟩ := hv'
        cases ao with
        | none => rw [h3 rfl] at hkm; simp at hkm
        | some a =>
          have := h4 a rfl k _ (Bs_at m k hkm)
          have h0 := h4 a rfl 0 _ (Bs_at m 0 (by omega))
          have hs := cell_spot h0 rfl
          obtain ⟨ab, off, sp⟩ := a
          simp only at hs
          subst hs
          rw [Addr.add_mk, cell?_mk] at this
          exact ⟨ab, off, rfl, this⟩
      have hst : beN (m.take (k + 1)) = beN (m.take k) * 256 + m[k].toNat := by rw [List.take_succ_eq_append_getElem hkm, beN_snoc]
      have hlt2 : beN (m.take k) < 72057594037927936 := by
        have h1 := beN_lt (m.take k)
        have h2 : (m.take k).length = k := by rw [List.length_take]; omega
        rw [h2] at h1
        have h3 : 256 ^ k ≤ 256 ^ 7 := Nat.pow_le_pow_right (by decide) (by omega)
        omega
      have hor := or_step (beN (m.take k)) m[k].toNat hlt2 m[k].toNat_lt
      have HST := Lib.hid hst; clear hst hlt2
      generalize m[k] = x at *
      clear hkm
      generalize beN (m.take k) = z at *
      have HL8 := Lib.hid hl8; clear hl8
      go_wp2
      exact ⟨⟨k + 1, by omega, by go_num, by rw [HST.out]; go_num, trivial⟩, by simp [intOf]; omega⟩
    · obtain rfl : k = 8 := by omega
      rw [List.take_of_length_le (by omega)]
      go_wp2
      go_ret
      rw [HM.out]; exact ⟨rfl, HR.out, HF.out⟩
end Go.Proofs.Ytnpeeephkkmomaa
