/-
  The document's disk: lemmas on its Crash.
-/
import Derived.Test.YtnpeeephkkmomaaRef3d
namespace Go.Proofs.Ytnpeeephkkmomaa
open Go.RowKit Go.Maps Go.Proofs.YtnpeeephkkmomaaW.PrintLast
set_option linter.unusedVariables false
set_option linter.unusedSimpArgs false

theorem Bs_setIn (a b : List UInt8) (k : Nat) (x : UInt8) (ha : k < a.length) (hab : b.length = a.length) (hx : b[k]? = some x) :
    ((Bs (b.take k ++ a.drop k)).toArray.setIfInBounds k (.int .u8 (x.toNat : Int))) = (Bs (b.take (k + 1) ++ a.drop (k + 1))).toArray := by
  apply Array.toList_inj.1
  rw [Array.toList_setIfInBounds]
  have hk : (b.take k).length = k := by rw [List.length_take]; omega
  obtain ⟨hb, hxe⟩ := List.getElem?_eq_some_iff.1 hx
  simp only [Bs_append]
  rw [List.set_append_right _ _ (by rw [Bs_length, hk]; exact Nat.le_refl _), Bs_length, hk, Nat.sub_self, List.drop_eq_getElem_cons ha, List.take_succ_eq_append_getElem hb, hxe, Bs_append, List.append_assoc]
  rfl

theorem tdiv_torn (torn : Int) (h : -9223372036854775808 ≤ torn ∧ torn ≤ 9223372036854775807) : IntKind.i64.wrap (torn.tdiv 8) = torn.tdiv 8 ∧ IntKind.i64.wrap (torn.tdiv 8 * 8) = torn.tdiv 8 * 8 ∧ ∀ k : Nat, k ≤ torn8 torn → (k < torn8 torn ↔ (k < 64 ∧ (k : Int) < torn.tdiv 8 * 8)) := by
  by_cases h0 : 0 ≤ torn
  · have e : torn.tdiv 8 = torn / 8 := Int.tdiv_eq_ediv_of_nonneg h0
    rw [e]
    refine ⟨IntWalk.i64_in _ (by omega), IntWalk.i64_in _ (by omega), fun k hk => ?_⟩
    have e8 : torn8 torn = min (torn / 8 * 8).toNat 64 := by unfold torn8; omega
    rw [e8] at *
    omega
  · have e : torn.tdiv 8 = -((-torn) / 8) := by
      have := Int.tdiv_eq_ediv_of_nonneg (a := -torn) (b := 8) (by omega)
      rw [Int.neg_tdiv] at this; omega
    rw [e]
    refine ⟨IntWalk.i64_in _ (by omega), IntWalk.i64_in _ (by omega), fun k hk => ?_⟩
    have e8 : torn8 torn = 0 := by unfold torn8; omega
    rw [e8] at *
    omega

end Go.Proofs.Ytnpeeephkkmomaa
