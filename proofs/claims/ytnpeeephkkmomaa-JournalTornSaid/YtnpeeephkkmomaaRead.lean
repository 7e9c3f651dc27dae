/-
  What a law's argument reads as: bytes, lists of structs. No program.
-/
import Derived.Test.YtnpeeephkkmomaaDkm
import Derived.Deep.Slices
import Derived.Deep.Fields
import Derived.ChangeSame
import Derived.ChangeSlices
import Derived.ProofKit
import Derived.SizedLaws
namespace Go.Proofs.Ytnpeeephkkmomaa
open Go.ChangeShapes Go.WideShapes Go.Deep Go.RowKit
set_option linter.unusedVariables false
set_option linter.unusedSimpArgs false

section
variable {H : Type} {enc : TypeId × Value → H} {P : Program} {w : World} {base : Nat} {held : Bool}

theorem bytes_of_trod {t e : TypeId} {fuel : Nat} {v : Value} {x : DataW H × List MemPlace} (ht : P.underlying t = some (.slice e)) (he : P.underlying e = some (.int .u8)) (hc : P.cellsOf e = 1)
    (h : DataW.trod enc P w base (fun _ => true) held fuel t [v] = some x) : ∃ l, IsBytes w v l := by
  rcases open_ints ht he hc h with ⟨hcs, _⟩ | ⟨a, len, cap, zs, hcs, _, hl, hm, hz, _, hcell, hwf⟩
  · obtain rfl : v = .slice none 0 0 := by simpa using hcs
    exact ⟨[], IsBytes.nil w⟩
  · obtain rfl : v = .slice (some a) len cap := by simpa using hcs
    have hz' : zs.length = cap := by simpa using hz
    have hm' : cap ≤ 9223372036854775807 := by simpa [maxLen] using hm
    refine ⟨(zs.take len).map fun z => UInt8.ofNat z.toNat, ⟨some a, cap, ?_, ?_, hm', by simp, ?_⟩⟩
    · simp; omega
    · simp; omega
    · rintro b hb j u hu
      cases hb
      simp only [Bs, List.map_map, List.getElem?_map, List.getElem?_take] at hu
      split at hu
      · rename_i hj
        have hjl : j < zs.length := by omega
        rw [List.getElem?_eq_getElem hjl] at hu
        simp only [Option.map_some, Option.some.injEq, Function.comp] at hu
        have hr := hwf zs[j] (List.getElem_mem hjl)
        have hr' : 0 ≤ zs[j] ∧ zs[j] ≤ 255 := by simpa [Lit.wf, IntKind.min, IntKind.max, IntKind.signed, IntKind.bits] using hr
        have hv : (((UInt8.ofNat zs[j].toNat).toNat : Nat) : Int) = zs[j] := by simp; omega
        rw [hv] at hu
        rw [← hu, hcell j hjl, List.getD_eq_getElem?_getD, List.getElem?_eq_getElem hjl]; rfl
      · cases hu

/-- A slice of structs whose fields are one cell each: every field of every element. -/
theorem fields_of_trod {t e : TypeId} {fs : Array Field} {fuel : Nat} {v : Value} {x : DataW H × List MemPlace} (ht : P.underlying t = some (.slice e)) (he : P.underlying e = some (.struct fs))
    (hone : oneCellFields P fs = true) (hC : P.cellsOf e = fs.size) (h : DataW.trod enc P w base (fun _ => true) held fuel t [v] = some x) :
    ∃ ao len cap, v = .slice ao len cap ∧ len ≤ cap ∧ cap ≤ maxLen ∧ (ao = none → len = 0) ∧ ∀ a, ao = some a → ∃ n : Nat → Nat, ∀ i, i < len → ∀ (j : Nat) (f : Field), fs[j]? = some f →
      ∃ (u : Value) (y : DataW H × List MemPlace), w.cell? (a.add (i * fs.size + j)) = some u ∧ DataW.trod enc P w base (fun _ => true) held (n i) f.type [u] = some y := by
  rcases open_slice ht h with ⟨hcs, _⟩ | ⟨a, len, cap, m, n, D, Pl, hcs, _, hl, hm, hmm, _, hi⟩
  · obtain rfl : v = .slice none 0 0 := by simpa using hcs
    exact ⟨none, 0, 0, rfl, Nat.le_refl _, Nat.zero_le _, fun _ => rfl, fun a h => by cases h⟩
  · obtain rfl : v = .slice (some a) len cap := by simpa using hcs
    simp only [if_true] at hmm
    subst hmm
    refine ⟨some a, len, m, rfl, hl, hm, by simp, ?_⟩
    rintro b hb
    cases hb
    have key : ∀ i, ∃ n', i < len → ∀ (j : Nat) (f : Field), fs[j]? = some f → ∃ (u : Value) (y : DataW H × List MemPlace), w.cell? (a.add (i * fs.size + j)) = some u ∧ DataW.trod enc P w base (fun _ => true) held n' f.type [u] = some y := by
      intro i
      by_cases hil : i < len
      · obtain ⟨cs', hc, ht'⟩ := hi i (by omega)
        rw [hC] at hc
        obtain ⟨ys, n', _, _, hlen, hyl, hf⟩ := DataW.trod_struct he ht'
        obtain ⟨_, hcl, hat⟩ := World.cells?_some hc
        refine ⟨n', fun _ j f hj => ?_⟩
        obtain ⟨ho, hk⟩ := hone_of hone j f hj
        have hjl : j < fs.size := (Array.getElem?_eq_some_iff.1 hj).1
        have hcell := hat j hjl
        have h1 := hf j f hj
        rw [ho, hk, List.drop_eq_getElem_cons (by omega)] at h1
        simp only [List.take_succ_cons, List.take_zero] at h1
        have hys : ys[j]? = some (ys[j]'(by omega)) := List.getElem?_eq_getElem (by omega)
        refine ⟨_, _, ?_, h1.trans hys⟩
        rw [← Go.Deep.add_add, hcell, List.getElem?_eq_getElem (by omega)]
      · exact ⟨0, fun h => absurd h hil⟩
    exact ⟨fun i => Classical.choose (key i), fun i => Classical.choose_spec (key i)⟩

theorem slice_sized {spare : Nat → Bool} {t e : TypeId} {a : Option Addr} {len cap : Nat} {d : DataW H} {ps : List MemPlace} {ts : List TypeId} {ds : List (DataW H)} {j : Nat}
    (hsz : (DataW.weightsEach P ts ds).all (· ≤ reachBytes) = true) (ht : ts[j]? = some t) (hd : ds[j]? = some d) (hu : P.underlying t = some (.slice e))
    (h : DataW.Trod enc P w base spare held t (.slice a len cap) d ps) : len * P.bytesOf e ≤ 140737488351232 := by
  obtain ⟨fuel, hf⟩ := h
  rcases open_slice hu hf with ⟨hcs, _⟩ | ⟨x, l, c, m, n, D, Pl, hcs, _, hl, _, _, hx, _⟩
  · simp [Value.cells] at hcs
    obtain ⟨rfl, rfl, rfl⟩ := hcs
    simp
  · simp [Value.cells] at hcs
    obtain ⟨rfl, rfl, rfl⟩ := hcs
    obtain ⟨hx, _⟩ := Prod.mk.inj hx
    subst hx
    have z := sized_slice hsz ht hd hu
    rw [List.length_map, List.length_range] at z
    exact Nat.le_trans (Nat.mul_le_mul_right _ (by omega)) z

theorem cell_spot {a : Addr} {n : Nat} {u : Value} (h : w.cell? (a.add n) = some u) (h0 : n = 0) : a.spot = none := by
  subst h0
  cases hs : a.spot with
  | none => rfl
  | some s =>
    simp only [Addr.add, if_true, World.cell?, hs] at h
    split at h <;> simp at h
theorem int_of_trod {t : TypeId} {k : IntKind} {fuel : Nat} {v : Value} {x : DataW H × List MemPlace} (ht : P.underlying t = some (.int k)) (h : DataW.trod enc P w base (fun _ => true) held fuel t [v] = some x) :
    ∃ z : Int, v = .int k z ∧ (Lit.int k z).wf = true := by
  obtain ⟨z, h1, _, h2⟩ := DataW.trod_int ht h
  exact ⟨z, by simpa using h1, h2⟩
theorem i64_of_wf {z : Int} (h : (Lit.int .i64 z).wf = true) : -9223372036854775808 ≤ z ∧ z ≤ 9223372036854775807 := by
  simpa [Lit.wf, IntKind.min, IntKind.max, IntKind.signed, IntKind.bits] using h
theorem choose_fn {α : Type} {n : Nat} {p : Nat → α → Prop} [Inhabited α] (h : ∀ i, i < n → ∃ x, p i x) : ∃ f : Nat → α, ∀ i, i < n → p i (f i) := by
  have : ∀ i, ∃ x, i < n → p i x := fun i => by
    by_cases hi : i < n
    · obtain ⟨x, hx⟩ := h i hi; exact ⟨x, fun _ => hx⟩
    · exact ⟨default, fun h => absurd h hi⟩
  exact ⟨fun i => Classical.choose (this i), fun i => Classical.choose_spec (this i)⟩
end
end Go.Proofs.Ytnpeeephkkmomaa
