/-
  JournalTorn: its arguments; its walk.
-/
import Derived.Test.YtnpeeephkkmomaaLaw05a
import Derived.Test.YtnpeeephkkmomaaRead
import Derived.Laws.IdiomArrays
namespace Go.Proofs.Ytnpeeephkkmomaa
open Go.ChangeShapes Go.WideShapes Go.Deep Go.RowKit Go.Proofs.YtnpeeephkkmomaaW.PrintLast
set_option linter.unusedVariables false
set_option linter.unusedSimpArgs false

section
variable {H : Type} {enc : TypeId × Value → H} {w : World} {base : Nat} {held : Bool}
theorem lists_of_trod {fuel : Nat} {v : Value} {x : DataW H × List MemPlace} (h : DataW.trod enc Try.prog w base (fun _ => true) held fuel 50 [v] = some x) : ∃ ls, IsLists w v ls := by
  rcases open_slice Try.underlying50 h with ⟨hcs, _⟩ | ⟨a, len, cap, m, n, D, Pl, hcs, _, hl, hm, hmm, _, hi⟩
  · obtain rfl : v = .slice none 0 0 := by simpa using hcs
    exact ⟨[], none, 0, rfl, by simp, by simp, fun _ => rfl, fun a ha => by cases ha⟩
  · obtain rfl : v = .slice (some a) len cap := by simpa using hcs
    simp only [if_true] at hmm
    subst hmm
    have key : ∀ i, i < len → ∃ q : Value × List UInt8, w.cell? (a.add i) = some q.1 ∧ IsBytes w q.1 q.2 := by
      intro i hil
      obtain ⟨cs', hc, ht'⟩ := hi i (by omega)
      have hC : Try.prog.cellsOf 30 = 1 := by kernel_rfl
      rw [hC, Nat.mul_one] at hc
      obtain ⟨_, hcl, hat⟩ := World.cells?_some hc
      obtain ⟨u, rfl⟩ : ∃ u, cs' = [u] := by
        rcases cs' with _ | ⟨u, _ | ⟨u2, t⟩⟩
        · simp at hcl
        · exact ⟨u, rfl⟩
        · simp at hcl
      obtain ⟨l, hb⟩ := bytes_of_trod Try.underlying30 Try.underlying5 (by kernel_rfl) ht'
      have h0 := hat 0 (by decide)
      rw [Go.Deep.add_add, Nat.add_zero] at h0
      exact ⟨(u, l), h0, hb⟩
    obtain ⟨f, hf⟩ := choose_fn (α := Value × List UInt8) key
    refine ⟨(List.range len).map (fun i => (f i).2), some a, m, ?_, ?_, by simpa [maxLen] using hm, by simp, ?_⟩
    · simp
    · simpa using hl
    · rintro b hb j hj
      cases hb
      have hj' : j < len := by simpa using hj
      refine ⟨(f j).1, (hf j hj').1, ?_⟩
      simp only [List.getElem_map, List.getElem_range]
      exact (hf j hj').2
set_option maxRecDepth 100000 in
theorem array3_of_okWide {r : Reach} {v : Value} (h : Value.okWide Try.prog w r base 51 v) : ∃ c0 c1 c2, v = .agg #[c0, c1, c2] := by
  simp only [Value.okWide, Try.underlying51] at h
  obtain ⟨cs, rfl, hs, _⟩ := h
  have h3 : Try.prog.cellsOf 51 = 3 := by kernel_rfl
  rw [h3] at hs
  obtain ⟨l⟩ := cs
  simp only [List.size_toArray] at hs
  rcases l with _ | ⟨a, _ | ⟨b, _ | ⟨c, _ | ⟨d, t⟩⟩⟩⟩
  · cases hs
  · cases hs
  · cases hs
  · exact ⟨a, b, c, rfl⟩
  · simp only [List.length_cons] at hs; omega
end
end Go.Proofs.Ytnpeeephkkmomaa
