/-
  octet's Reader: Int where too little is left; what was put is read.
-/
import Derived.Test.YtnpeeephkkmomaaRd4
namespace Go.Proofs.Ytnpeeephkkmomaa
open Go.RowKit Go.Proofs.YtnpeeephkkmomaaW.PrintLast
set_option linter.unusedVariables false
set_option linter.unusedSimpArgs false

theorem be8_list (n : Int) : be8 n = [byteAt n 0, byteAt n 1, byteAt n 2, byteAt n 3, byteAt n 4, byteAt n 5, byteAt n 6, byteAt n 7] := rfl
theorem beN_be8 (n : Int) : (beN (be8 n) : Int) = IntKind.u64.wrap n := by
  rw [be8_list]
  have h0 := byteAt_val n 0; have h1 := byteAt_val n 1; have h2 := byteAt_val n 2; have h3 := byteAt_val n 3
  have h4 := byteAt_val n 4; have h5 := byteAt_val n 5; have h6 := byteAt_val n 6; have h7 := byteAt_val n 7
  have hu : 0 ≤ IntKind.u64.wrap n ∧ IntKind.u64.wrap n < 18446744073709551616 := by rw [IntKind.wrap_u64]; omega
  generalize IntKind.u64.wrap n = u at *
  simp only [beN, List.foldl_cons, List.foldl_nil]
  generalize (byteAt n 0).toNat = b0 at *; generalize (byteAt n 1).toNat = b1 at *; generalize (byteAt n 2).toNat = b2 at *; generalize (byteAt n 3).toNat = b3 at *
  generalize (byteAt n 4).toNat = b4 at *; generalize (byteAt n 5).toNat = b5 at *; generalize (byteAt n 6).toNat = b6 at *; generalize (byteAt n 7).toNat = b7 at *
  simp at h0 h1 h2 h3 h4 h5 h6 h7
  omega
/-- What was put is read. -/
theorem rd8_be8 (n : Int) (hn : -9223372036854775808 ≤ n ∧ n ≤ 9223372036854775807) : rd8 (be8 n) = n := by
  unfold rd8
  rw [beN_be8, ← i64_w, IntKind.wrap_u64, IntKind.wrap_i64]
  omega

set_option maxRecDepth 100000 in
set_option maxHeartbeats 2000000 in
theorem int_no (rp : Nat) (v : Value) (l : List UInt8) (at_ : Nat) (bad : Bool) (w : World) (h : IsRd w rp v l at_ bad) (hn : bad = true ∨ l.length < at_ + 8) :
    Calls Try.prog 61 #[.pointer (some ⟨rp, 0, none⟩)] w fun e w' => e = .returned (.int .i64 0) ∧ IsRd w' rp v l at_ true ∧ Fr (fun k => k = rp) w w' := by
  have HH := Lib.hid h
  clear h
  have hn' : Hid (bad = true ∨ (8 : Int) < 0 ∨ ((l.length : Int) - at_) < 8) := Lib.hid (by rcases hn with h | h; exact .inl h; exact .inr (.inr (by omega)))
  clear hn
  go_enter Try.func61, Try.ntmps61
  go_wp2_with (go_at_call 83; refine (take_no rp v l at_ bad 8 w HH.out hn'.out).mono ?_; rintro e w2 ⟨rfl, r2, f2⟩)
  have HR := Lib.hid r2; have HF := Lib.hid f2
  clear r2 f2
  refine wp_loop_rounds 1 ?_
  rw [rounds_succ]
  go_wp2
  go_ret
  exact ⟨rfl, HR.out, HF.out⟩
end Go.Proofs.Ytnpeeephkkmomaa
