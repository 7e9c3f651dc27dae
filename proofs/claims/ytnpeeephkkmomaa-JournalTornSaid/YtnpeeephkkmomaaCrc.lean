/-
  The check sum.
-/
import Derived.Test.YtnpeeephkkmomaaByt
import Derived.Laws.Closers25b
import Derived.Test.YtnpeeephkkmomaaRead
namespace Go.Proofs.Ytnpeeephkkmomaa
open Go.RowKit Go.Proofs.YtnpeeephkkmomaaW.PrintLast
set_option linter.unusedVariables false
set_option linter.unusedSimpArgs false

/-- A bit's step. -/
def crcR (z : Int) : Int := bits .xor .u32 (z / 2) (bits .and .u32 3988292384 (-bits .and .u32 z 1 % 4294967296))
def crcN : Nat → Int → Int
  | 0, z => z
  | n + 1, z => crcR (crcN n z)
/-- A byte's step. -/
def crcStep (c : Int) (x : UInt8) : Int := crcN 8 (bits .xor .u32 c ((x.toNat : Int) % 4294967296))
def crcAll (c : Int) (l : List UInt8) : Int := l.foldl crcStep c
theorem crcAll_snoc (c : Int) (l : List UInt8) (x : UInt8) : crcAll c (l ++ [x]) = crcStep (crcAll c l) x := by simp [crcAll]
/-- The sum of some bytes. -/
def crcSum (l : List UInt8) : Int := bits .xor .u32 IntKind.u32.max (crcAll 4294967295 l)
theorem crcSum_in (l : List UInt8) : 0 ≤ crcSum l ∧ crcSum l ≤ 4294967295 := ⟨bits_lo_u32 _ _ _, bits_hi_u32 _ _ _⟩
theorem crcSum_abc : crcSum [97, 98, 99] = 0x352441c2 := by decide +kernel

set_option maxRecDepth 100000 in
set_option maxHeartbeats 1000000 in
theorem step_any (c : Int) (x : UInt8) (w : World) :
    Calls Try.prog 84 #[.int .u32 c, .int .u8 x.toNat] w fun e w' => e = .returned (.int .u32 (crcStep c x)) ∧ w = w' := by
  have hs : Hid (crcStep c x = crcN 8 (bits .xor .u32 c ((x.toNat : Int) % 4294967296))) := Lib.hid rfl
  generalize hx : (x.toNat : Int) = xi at *
  clear hx
  go_enter Try.func84, Try.ntmps84
  go_wp2
  generalize bits .xor .u32 c (xi % 4294967296) = z0 at *
  go_loopw [0, 9] (fun v i wr => ∃ k : Nat, k ≤ 8 ∧ i = .int .i64 k ∧ v = .int .u32 (crcN k z0) ∧ wr = w) (fun _ i _ => 8 - (intOf i).toNat)
  case atStart => exact ⟨0, Nat.zero_le _, rfl, rfl, rfl⟩
  case round =>
    obtain ⟨k, hk, rfl, rfl, rfl⟩ := hrel
    have hw1 : IntKind.i64.wrap ((k : Int) + 1) = (k : Int) + 1 := IntWalk.i64_in _ (by omega)
    have hN : Hid (crcN (k + 1) z0 = crcR (crcN k z0)) := Lib.hid rfl
    by_cases hlt : k < 8
    · have t1 : decide ((k : Int) < 8) = true := by simp; omega
      generalize crcN k z0 = z at *
      go_wp2
      exact ⟨⟨k + 1, by omega, by go_num, by rw [hN.out]; rfl, trivial⟩, by simp [intOf]; omega⟩
    · have t1 : decide ((k : Int) < 8) = false := by simp; omega
      obtain rfl : k = 8 := by omega
      go_wp2
      go_ret
      rw [hs.out]; exact ⟨rfl, rfl⟩

set_option maxRecDepth 100000 in
set_option maxHeartbeats 1000000 in
theorem sum_any (g cp : Nat) (v : Value) (l : List UInt8) (T : TypeId) (w : World) (hg : w.heap[g]? = some (.cells #[v] T (0, 0))) (hv : IsBytes w v l) :
    Calls Try.prog 64 #[.slice (some ⟨g, 0, none⟩) 1 cp] w fun e w' => e = .returned (.int .u32 (crcSum l)) ∧ w = w' := by
  obtain ⟨ao, cap, rfl, h1, h2, h3, h4⟩ := hv.is
  have H3 := Lib.hid h3; have H4 := Lib.hid h4; clear h3 h4 hv
  go_enter Try.func64, Try.ntmps64
  go_wp2
  go_loopw [3, 10] (fun c i wr => wr = w ∧ ((i = .int .i64 0 ∧ c = .int .u32 4294967295) ∨ (i = .int .i64 1 ∧ c = .int .u32 (crcAll 4294967295 l)))) (fun _ i _ => 1 - (intOf i).toNat)
  case atStart => exact ⟨rfl, .inl ⟨rfl, rfl⟩⟩
  case round =>
    obtain ⟨rfl, ⟨rfl, rfl⟩ | ⟨rfl, rfl⟩⟩ := hrel
    · go_wp2
      go_loopw [3, 16] (fun c i wq => ∃ k : Nat, k ≤ l.length ∧ i = .int .i64 k ∧ c = .int .u32 (crcAll 4294967295 (l.take k)) ∧ wq = wr) (fun _ i _ => l.length - (intOf i).toNat)
      case atStart => exact ⟨0, Nat.zero_le _, rfl, rfl, rfl⟩
      case round =>
        obtain ⟨k, hk, rfl, rfl, rfl⟩ := hrel
        by_cases hlt : k < l.length
        · have hw1 : IntKind.i64.wrap ((k : Int) + 1) = (k : Int) + 1 := IntWalk.i64_in _ (by omega)
          obtain ⟨ab, off, rfl, hc⟩ : ∃ ab off, ao = some ⟨ab, off, none⟩ ∧ cellIn wr.heap[ab]? (off + k) = some (.int .u8 (l[k].toNat : Int)) := by
            cases ao with
            | none => rw [H3.out rfl] at hlt; simp at hlt
            | some a =>
              have := H4.out a rfl k _ (Bs_at l k hlt)
              have h0 := H4.out a rfl 0 _ (Bs_at l 0 (by omega))
              have hs := cell_spot h0 rfl
              obtain ⟨ab, off, sp⟩ := a
              simp only at hs
              subst hs
              rw [Addr.add_mk, cell?_mk] at this
              exact ⟨ab, off, rfl, this⟩
          have hst : crcAll 4294967295 (l.take (k + 1)) = crcStep (crcAll 4294967295 (l.take k)) l[k] := by
            rw [List.take_succ_eq_append_getElem hlt, crcAll_snoc]
          have HST := Lib.hid hst; clear hst
          generalize l[k] = x at *
          generalize crcAll 4294967295 (l.take k) = c at *
          go_wp2_with (go_at_call 84; refine (step_any c x wr).mono ?_; rintro e w2 ⟨rfl, rfl⟩)
          exact ⟨⟨k + 1, by omega, by go_num, by rw [HST.out], trivial⟩, by simp [intOf]; omega⟩
        · obtain rfl : k = l.length := by omega
          rw [List.take_length]
          go_wp2
          exact ⟨⟨trivial, .inr ⟨rfl, rfl⟩⟩, by simp [intOf]⟩
    · go_wp2
      go_ret
      exact ⟨rfl, rfl⟩
end Go.Proofs.Ytnpeeephkkmomaa
