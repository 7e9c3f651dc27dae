/-
  Parts of bytes; octet's Reader.
-/
import Derived.Test.YtnpeeephkkmomaaOct3
namespace Go.Proofs.Ytnpeeephkkmomaa
open Go.RowKit Go.Proofs.YtnpeeephkkmomaaW.PrintLast
set_option linter.unusedVariables false
set_option linter.unusedSimpArgs false

theorem addr_add (a : Addr) (i j : Nat) (h : a.spot = none) : (a.add i).add j = a.add (i + j) := by
  obtain ⟨b, o, s⟩ := a
  simp only at h; subst h
  simp only [Addr.add_mk, Nat.add_assoc]
theorem u30e : Try.prog.underlying 30 = some (.slice (Try.prog.elem 30)) := by kernel_rfl
theorem size5 (w : World) : (sizeOf (Try.prog.elem 30)).run Try.prog w = .ok 1 w := run_sizeOf (by kernel_rfl) w
theorem sliced_bytes {w : World} {ao : Option Addr} {len cap : Nat} {l : List UInt8} (h : IsBytes w (.slice ao len cap) l) (lo hi : Nat) (h1 : lo ≤ hi) (h2 : hi ≤ l.length) :
    IsBytes w (sliced ao lo hi cap 1) ((l.drop lo).take (hi - lo)) := by
  obtain ⟨ao', cap', hv, k1, k2, k3, k4⟩ := h.is
  simp only [Value.slice.injEq] at hv
  obtain ⟨rfl, rfl, rfl⟩ := hv
  have hl : ((l.drop lo).take (hi - lo)).length = hi - lo := by rw [List.length_take, List.length_drop]; omega
  unfold sliced
  by_cases he : cap = lo
  · rw [if_pos he]
    have hnil : (l.drop lo).take (hi - lo) = [] := List.eq_nil_of_length_eq_zero (by omega)
    refine ⟨ao, cap - lo, by rw [hl], by rw [hl]; omega, by omega, fun _ => hnil, fun a _ j v hv => ?_⟩
    rw [hnil] at hv; simp [Bs] at hv
  · rw [if_neg he]
    refine ⟨ao.map (·.add (lo * 1)), cap - lo, by rw [hl], by rw [hl]; omega, by omega, fun hn => ?_, fun a ha j v hv => ?_⟩
    · cases ao with
      | none => rw [k3 rfl]; simp
      | some a => simp at hn
    · cases ao with
      | none => simp at ha
      | some a0 =>
        simp only [Option.map_some, Option.some.injEq, Nat.mul_one] at ha
        subst ha
        have hj : j < hi - lo := by
          rcases Nat.lt_or_ge j (hi - lo) with h | h
          · exact h
          · rw [List.getElem?_eq_none (by rw [Bs_length, hl]; exact h)] at hv; cases hv
        have h0 := k4 a0 rfl 0 _ (Bs_at l 0 (by omega))
        rw [addr_add _ _ _ (cell_spot h0 rfl)]
        refine k4 a0 rfl (lo + j) v ?_
        rw [Bs_take, List.getElem?_take, if_pos hj, Bs_drop, List.getElem?_drop] at hv
        exact hv
theorem sliced_block (ao : Option Addr) (len cap lo hi : Nat) : (sliced ao lo hi cap 1).ownBlock = (Value.slice ao len cap).ownBlock := by
  unfold sliced
  split
  · cases ao <;> rfl
  · cases ao with
    | none => rfl
    | some a => simp only [Option.map_some, Value.ownBlock, block_add]

/-- b[lo:hi]. -/
theorem cut_lh {w : World} {v : Value} {l : List UInt8} (h : IsBytes w v l) (lo hi : Nat) (h1 : lo ≤ hi) (h2 : hi ≤ l.length) :
    ∃ v', (∀ w', (Instr.slice 30 v (some (.int .i64 (lo : Int))) (some (.int .i64 (hi : Int))) none).run Try.prog w' = .ok v' w') ∧ (∀ w', IsBytes w' v l → IsBytes w' v' ((l.drop lo).take (hi - lo))) ∧ v'.ownBlock = v.ownBlock := by
  obtain ⟨ao, cap, rfl, k1, k2, k3, k4⟩ := h.is
  refine ⟨sliced ao lo hi cap 1, fun w' => ?_, fun w' h' => sliced_bytes h' lo hi h1 h2, sliced_block ao l.length cap lo hi⟩
  rw [run_slice_lh w' 30 ao l.length cap u30e .i64 .i64 lo hi (by omega) (by omega) (by omega), size5]
  simp [Result.andThen]
/-- b[:hi]. -/
theorem cut_h {w : World} {v : Value} {l : List UInt8} (h : IsBytes w v l) (hi : Nat) (h2 : hi ≤ l.length) :
    ∃ v', (∀ w', (Instr.slice 30 v none (some (.int .i64 (hi : Int))) none).run Try.prog w' = .ok v' w') ∧ (∀ w', IsBytes w' v l → IsBytes w' v' (l.take hi)) ∧ v'.ownBlock = v.ownBlock := by
  obtain ⟨ao, cap, rfl, k1, k2, k3, k4⟩ := h.is
  refine ⟨sliced ao 0 hi cap 1, fun w' => ?_, fun w' h' => by simpa using sliced_bytes h' 0 hi (Nat.zero_le _) h2, sliced_block ao l.length cap 0 hi⟩
  rw [run_slice_h w' 30 ao l.length cap u30e .i64 hi (by omega) (by omega), size5]
  simp [Result.andThen]
/-- b[lo:]. -/
theorem cut_l {w : World} {v : Value} {l : List UInt8} (h : IsBytes w v l) (lo : Nat) (h2 : lo ≤ l.length) :
    ∃ v', (∀ w', (Instr.slice 30 v (some (.int .i64 (lo : Int))) none none).run Try.prog w' = .ok v' w') ∧ (∀ w', IsBytes w' v l → IsBytes w' v' (l.drop lo)) ∧ v'.ownBlock = v.ownBlock := by
  obtain ⟨ao, cap, rfl, k1, k2, k3, k4⟩ := h.is
  refine ⟨sliced ao lo l.length cap 1, fun w' => ?_, fun w' h' => ?_, sliced_block ao l.length cap lo l.length⟩
  · rw [run_slice_l w' 30 ao l.length cap u30e .i64 lo (by omega) (by omega), size5]
    simp [Result.andThen]
  · have := sliced_bytes h' lo l.length h2 (Nat.le_refl _)
    rwa [List.take_of_length_le (by rw [List.length_drop]; exact Nat.le_refl _)] at this
end Go.Proofs.Ytnpeeephkkmomaa
