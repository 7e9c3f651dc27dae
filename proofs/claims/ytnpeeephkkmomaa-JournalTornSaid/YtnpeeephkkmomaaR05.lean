/-
  JournalTorn: whatever the power does while a frame is appended, the frames ahead of it are read as they were; and that one, too, if its Append was OK: for every input the law answers true, and its arguments read as they did.
  Conditions: none.
-/
import Derived.Test.YtnpeeephkkmomaaRows
import Derived.Test.YtnpeeephkkmomaaMF05
import Derived.WalkKit
import Derived.ProofKit
import Derived.OpenShut
import Derived.ShutString
import Derived.ChangeOld
import Derived.Below
import Derived.SizedLaws
namespace Go.Proofs.Ytnpeeephkkmomaa.journalTorn
open Go.ChangeShapes Go.WideShapes Go.ChangeAt Go.RowKit
set_option linter.unusedVariables false
set_option linter.unusedSimpArgs false
theorem own : ownKnob Try.prog.godebug = none := by kernel_rfl
theorem laidOut : laidOutB Try.prog = true := by kernel_rfl
set_option maxRecDepth 100000 in
theorem lifted (os : Os) (started : os.Started) (H : Type) (enc : TypeId × Value → H) :
    ReturnsInHanded {} Try.checked os 7 .any (Rows.journalTornSpec.pre6 enc Try.prog Try.f7 Rows.journalTornRow.domain false) (Rows.journalTornSpec.post enc Try.prog Try.f7 false true false false) := by
  refine returnsInHanded_of_change_sized (C := Try.checked) own started (by kernel_rfl) Try.func7
    (ChangeSpec.witness6 (enc := enc) (C := Try.checked) false ⟨#[], #[.slice none 0 0, .slice none 0 0, .agg #[.int .i64 0, .int .i64 0, .int .i64 0]], []⟩ 8 (by kernel_rfl) (by kernel_rfl) (by kernel_rfl) (by kernel_rfl)) ?_
  intro W base args ds gs before hval0 hW hcnd hsz0 _
  have hsz : (DataW.weightsEach Try.prog (Try.f7.params.toList ++ Rows.journalTornSpec.plain.varTypes Try.prog) (ds ++ gs)).all (· ≤ reachBytes) = true := hsz0
  have hval : ∀ (j : Nat) t v, Try.f7.params[j]? = some t → args[j]? = some v → Value.okWide Try.prog W .any base t v := hval0
  have hW' := hW
  obtain ⟨p, q, hA0, hV, rfl, hfz, hnd⟩ := hW
  have hA : DataW.TrodAll enc Try.prog W 0 (fun _ => true) true Try.f7.params.toList args.toList ds p := hA0
  rw [Try.params7] at hA hval hsz
  obtain ⟨v0, vs0, d0, ds0, p0, q0, hargs, rfl, rfl, h0, r0⟩ := trodAll_cons hA
  obtain ⟨v1, vs1, d1, ds1, p1, q1, rfl, rfl, rfl, h1, r1⟩ := trodAll_cons r0
  obtain ⟨v2, vs2, d2, ds2, p2, q2, rfl, rfl, rfl, h2, r2⟩ := trodAll_cons r1
  obtain ⟨rfl, rfl, rfl⟩ := trodAll_nil r2
  obtain rfl : args = #[v0, v1, v2] := by cases args; simp_all
  obtain ⟨rfl, rfl⟩ := trodVars_none hV
  obtain ⟨ao0, len0, cap0, rfl⟩ := okWide_slice Try.underlying50 (hval 0 50 v0 rfl rfl)
  have k0 := h0
  have lt0 : ∀ x ∈ p0, x.block < W.heap.size := by obtain ⟨m, hm⟩ := k0; exact DataW.trod_lt m _ _ _ hm
  obtain ⟨ls, hls⟩ : ∃ ls, IsLists W (.slice ao0 len0 cap0) ls := by
    obtain ⟨fuel, hf⟩ := h0
    exact lists_of_trod hf
  have y0 : len0 * 24 ≤ 140737488351232 := slice_sized hsz (j := 0) (t := 50) rfl rfl Try.underlying50 h0
  have hlen : len0 = ls.length := by obtain ⟨_, _, e, _⟩ := hls.is; simp only [Value.slice.injEq] at e; exact e.2.1
  obtain ⟨ao1, len1, cap1, rfl⟩ := okWide_slice Try.underlying30 (hval 1 30 v1 rfl rfl)
  have k1 := h1
  have lt1 : ∀ x ∈ p1, x.block < W.heap.size := by obtain ⟨m, hm⟩ := k1; exact DataW.trod_lt m _ _ _ hm
  obtain ⟨data, hdata⟩ : ∃ l, IsBytes W (.slice ao1 len1 cap1) l := by
    obtain ⟨fuel, hf⟩ := h1
    exact bytes_of_trod Try.underlying30 Try.underlying5 (by kernel_rfl) hf
  obtain ⟨c0, c1, c2, rfl⟩ := array3_of_okWide (hval 2 51 v2 rfl rfl)
  have k2 := h2
  have lt2 : ∀ x ∈ p2, x.block < W.heap.size := by obtain ⟨m, hm⟩ := k2; exact DataW.trod_lt m _ _ _ hm
  obtain ⟨x, y, z, wx, rfl, rfl, rfl⟩ : ∃ x y z : Int, (-9223372036854775808 ≤ x ∧ x ≤ 9223372036854775807) ∧ c0 = .int .i64 x ∧ c1 = .int .i64 y ∧ c2 = .int .i64 z := by
    obtain ⟨fuel, hf⟩ := h2
    obtain ⟨y0, y1, y2, n, _, t0, t1, t2⟩ := trod_array3 Try.underlying51 (by kernel_rfl) hf
    obtain ⟨z0, rfl, w0⟩ := int_of_trod (k := .i64) (by kernel_rfl) t0
    obtain ⟨z1, rfl, w1⟩ := int_of_trod (k := .i64) (by kernel_rfl) t1
    obtain ⟨z2, rfl, w2⟩ := int_of_trod (k := .i64) (by kernel_rfl) t2
    exact ⟨z0, z1, z2, i64_of_wf w0, rfl, rfl, rfl⟩
  clear hA0 hval0 hsz0
  refine (torn_walk ao0 len0 cap0 ls _ data x y z W hls hdata wx hlen (by omega)).mono fun e W' ⟨he, fr⟩ => ?_
  subst he
  have bel : Below W.heap.size W W' := fr.toBelow (Nat.le_refl _) (fun _ _ h => h)
  exact ⟨_, rfl, _, _, _, [], _, [], hW', trodAll_mk1 (shut_bool Try.underlying4 _), (trodAll_cons_mk (Below.trod laidOut (by kernel_rfl) (of_decide_eq_true (by kernel_rfl)) k0 bel lt0) (trodAll_cons_mk (Below.trod laidOut (by kernel_rfl) (of_decide_eq_true (by kernel_rfl)) k1 bel lt1) (trodAll_cons_mk (Below.trod laidOut (by kernel_rfl) (of_decide_eq_true (by kernel_rfl)) k2 bel lt2) trodAll_mk0))), rfl, bel.frame _, fun h => by cases h⟩
theorem over : Rows.journalTornRow.holds Try.pinned (OpenSpec.ofChange Rows.journalTornSpec) :=
  OpenClaim.holds_of_wide 7 Try.f7 rfl rfl rfl rfl rfl rfl rfl ⟨rfl, rfl, rfl, rfl, rfl⟩ rfl rfl rfl rfl rfl (by kernel_rfl) Try.func7 (by kernel_rfl)
    (of_decide_eq_true (by kernel_rfl)) (by unfold Func.isWrapper; first | (rw [if_pos (by decide +kernel)]; kernel_rfl) | (rw [if_neg (by decide +kernel)]; exact ⟨rfl, rfl⟩))
    (fun os started H enc _ => lifted os started H enc)
theorem proved : Rows.JournalTornSaid := over
#print axioms proved
end Go.Proofs.Ytnpeeephkkmomaa.journalTorn
