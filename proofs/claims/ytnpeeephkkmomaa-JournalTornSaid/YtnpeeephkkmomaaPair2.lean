/-
  A disk and the document's, side by side: reading, comparing, cloning.
-/
import Derived.Test.YtnpeeephkkmomaaPair
namespace Go.Proofs.Ytnpeeephkkmomaa
open Go.RowKit Go.Maps Go.Proofs.YtnpeeephkkmomaaW.PrintLast
set_option linter.unusedVariables false
set_option linter.unusedSimpArgs false

def ReadA (D : Dk) (i : Int) (w : World) (e : Ending) (w' : World) : Prop :=
  ∃ v, e = .returned (.tuple #[v, .int .i64 (D.may i)]) ∧ IsBytes w' v (D.readA i) ∧ Fr (fun _ => False) w w'
theorem dk_read (b lb cl : Nat) (sp : Array Value) (wv : Value) (D : Dk) (w : World) (i : Int) (h : IsDk w b lb cl sp wv D) : Calls Try.prog 19 #[.pointer (some ⟨b, 0, none⟩), .int .i64 i] w (ReadA D i w) := by
  by_cases hm : D.may i = 0
  · obtain ⟨hd, ii, rfl, hi⟩ := Dk.may_zero hm
    refine (read_ok b lb cl sp wv D w ii h hd hi).mono ?_
    rintro e w' ⟨sb, rfl, _, row, fr⟩
    have ht := told_length D h.ok ii hi
    refine ⟨_, by rw [hm], ?_, fr⟩
    rw [Dk.readA, if_neg (by simpa using hm)]
    have := IsBytes.of_cells row (by rw [show (D.told ii).length = 64 from ht]; decide)
    rwa [show (D.told ii).length = 64 from ht] at this
  · refine (read_may b lb cl sp wv D w i h hm).mono ?_
    rintro e w' ⟨rfl, rfl⟩
    exact ⟨_, rfl, by rw [Dk.readA, if_pos hm]; exact IsBytes.nil w, Fr.refl _ w⟩
theorem ref_read (rb mb : Nat) (bv : Value) (gs : List (Nat × Nat)) (m : Nat) (L : Int → List UInt8) (D : Dk) (w : World) (i : Int) (h : IsRef w rb mb bv gs m L D) (hb : D.buf.length ≤ 9223372036854775806) :
    Calls Try.prog 28 #[.pointer (some ⟨rb, 0, none⟩), .int .i64 i] w (ReadA D i w) := by
  by_cases hm : D.may i = 0
  · obtain ⟨hd, ii, rfl, hi⟩ := Dk.may_zero hm
    refine (rread_ok rb mb bv gs m L D w ii h hd hi hb).mono ?_
    rintro e w' ⟨sb, rfl, _, row, fr⟩
    have ht := told_length D h.ok ii hi
    refine ⟨_, by rw [hm], ?_, fr⟩
    rw [Dk.readA, if_neg (by simpa using hm)]
    have := IsBytes.of_cells row (by rw [show (D.told ii).length = 64 from ht]; decide)
    rwa [show (D.told ii).length = 64 from ht] at this
  · refine (rread_may rb mb bv gs m L D w i h hm).mono ?_
    rintro e w' ⟨rfl, rfl⟩
    exact ⟨_, rfl, by rw [Dk.readA, if_pos hm]; exact IsBytes.nil w, Fr.refl _ w⟩

section
variable {W w : World} {b rb k : Nat} {D E : Dk} {nb : Nat} {o : Option Obj} (h : PS W w b rb k D E nb o)
include h
theorem PS.dread (i : Int) : Calls Try.prog 19 #[.pointer (some ⟨b, 0, none⟩), .int .i64 i] w (ReadA D i w) := by
  obtain ⟨lb, cl, sp, wv, mb, bv, gs, m, L, h1, h2, h3, h4, h5, h6, h7⟩ := h
  exact dk_read b lb cl sp wv D w i h1
theorem PS.rread (hk : k ≤ 2932031007401) (i : Int) : Calls Try.prog 28 #[.pointer (some ⟨rb, 0, none⟩), .int .i64 i] w (ReadA E i w) := by
  obtain ⟨lb, cl, sp, wv, mb, bv, gs, m, L, h1, h2, h3, h4, h5, h6, h7⟩ := h
  exact ref_read rb mb bv gs m L E w i h2 (by omega)
end
theorem PS.same {W w : World} {b rb k : Nat} {D : Dk} {nb : Nat} {o : Option Obj} (h : PS W w b rb k D D nb o) (hk : k ≤ 2932031007401) :
    Calls Try.prog 29 #[.pointer (some ⟨b, 0, none⟩), .pointer (some ⟨rb, 0, none⟩), .int .i64 5] w fun e w' => e = .returned (.bool true) ∧ Fr (fun _ => False) w w' := by
  obtain ⟨lb, cl, sp, wv, mb, bv, gs, m, L, h1, h2, h3, h4, h5, h6, h7⟩ := h
  exact same_any b lb cl sp wv rb mb bv gs m L D w 5 (by decide) h1 h2 (by omega)

/-- .. and an elder disk at block b0, which is left. -/
def PSJ (W w : World) (b0 b rb k : Nat) (D0 D E : Dk) (nb : Nat) (o : Option Obj) : Prop :=
  ∃ lb0 cl0 sp0 wv0, IsDk w b0 lb0 cl0 sp0 wv0 D0 ∧ D0.buf.length ≤ k + 1 ∧ (∀ j, dkFoot b0 lb0 wv0 j → W.heap.size ≤ j) ∧
  ∃ lb cl sp wv mb bv gs m L, IsDk w b lb cl sp wv D ∧ IsRef w rb mb bv gs m L E ∧ (∀ j, dkFoot b lb wv j → ¬ rFoot rb mb bv gs j) ∧ Own W w (fun j => dkFoot b lb wv j ∨ rFoot rb mb bv gs j) ∧
    m + E.buf.length ≤ k ∧ D.buf.length ≤ k + 1 ∧ (∀ x, o = some x → w.heap[nb]? = some x ∧ ¬ dkFoot b lb wv nb ∧ ¬ rFoot rb mb bv gs nb ∧ ¬ dkFoot b0 lb0 wv0 nb) ∧ ∀ j, dkFoot b0 lb0 wv0 j → ¬ dkFoot b lb wv j ∧ ¬ rFoot rb mb bv gs j
theorem PSJ.ps {W w : World} {b0 b rb k : Nat} {D0 D E : Dk} {nb : Nat} {o : Option Obj} (h : PSJ W w b0 b rb k D0 D E nb o) : PS W w b rb k D E nb o := by
  obtain ⟨lb0, cl0, sp0, wv0, g1, g2, g3, lb, cl, sp, wv, mb, bv, gs, m, L, h1, h2, h3, h4, h5, h6, h7, h8⟩ := h
  exact ⟨lb, cl, sp, wv, mb, bv, gs, m, L, h1, h2, h3, h4, h5, h6, fun x hx => ⟨(h7 x hx).1, (h7 x hx).2.1, (h7 x hx).2.2.1⟩⟩
theorem PSJ.still {W w w' : World} {b0 b rb k : Nat} {D0 D E : Dk} {nb : Nat} {o : Option Obj} (h : PSJ W w b0 b rb k D0 D E nb o) (hf : Fr (fun _ => False) w w') : PSJ W w' b0 b rb k D0 D E nb o := by
  obtain ⟨lb0, cl0, sp0, wv0, g1, g2, g3, lb, cl, sp, wv, mb, bv, gs, m, L, h1, h2, h3, h4, h5, h6, h7, h8⟩ := h
  exact ⟨lb0, cl0, sp0, wv0, g1.fr hf (fun _ _ h => h), g2, g3, lb, cl, sp, wv, mb, bv, gs, m, L, h1.fr hf (fun _ _ h => h), h2.fr hf (fun _ _ h => h), h3, h4.still hf, h5, h6, fun x hx => ⟨hf.at (h7 x hx).1 (fun h => h), (h7 x hx).2⟩, h8⟩
theorem PS.clone {W w : World} {b rb k : Nat} {D E : Dk} {nb : Nat} {o : Option Obj} (h : PS W w b rb k D E nb o) (hk : k ≤ 2932031007401) :
    Calls Try.prog 21 #[.pointer (some ⟨b, 0, none⟩)] w fun e w' => ∃ b', e = .returned (.pointer (some ⟨b', 0, none⟩)) ∧ PSJ W w' b b' rb k D D E nb o := by
  obtain ⟨lb, cl, sp, wv, mb, bv, gs, m, L, h1, h2, h3, h4, h5, h6, h7⟩ := h
  refine (clone_any b lb cl sp wv D w h1 (by omega)).mono ?_
  rintro e w' ⟨b', lb', cl', sp', wv', rfl, d, new, fr⟩
  have l1 := h1.lt
  have l2 := h2.lt
  refine ⟨b', rfl, lb, cl, sp, wv, h1.fr fr (fun _ _ h => h), by omega, fun j hj => h4.new j (.inl hj), lb', cl', sp', wv', mb, bv, gs, m, L, d, h2.fr fr (fun _ _ h => h), ?_, ?_, h5, h6, ?_, ?_⟩
  · intro j hj hr; have := new j hj; have := l2 j hr; omega
  · refine ⟨h4.fr.trans fr (fun _ h => h.elim), fun j hj => ?_⟩
    rcases hj with hj | hj
    · exact Nat.le_trans h4.fr.size (new j hj)
    · exact h4.new j (.inr hj)
  · intro x hx
    obtain ⟨e1, e2, e3⟩ := h7 x hx
    refine ⟨fr.at e1 (fun h => h), fun hj => ?_, e3, e2⟩
    have := new nb hj; have := lt_of_block e1; omega
  · intro j hj
    refine ⟨fun hj' => ?_, h3 j hj⟩
    have := new j hj'; have := l1 j hj; omega
theorem PSJ.step {W w : World} {b0 b rb k : Nat} {D0 D E : Dk} {nb : Nat} {o : Option Obj} (h : PSJ W w b0 b rb k D0 D E nb o) {f : Nat} {args : Array Value} {R : Ending → World → Prop} {D' : Dk} (hb : D'.buf.length ≤ k + 1)
    (hc : ∀ lb cl sp wv, IsDk w b0 lb cl sp wv D0 → Calls Try.prog f args w (fun e w' => R e w' ∧ ∃ wv', IsDk w' b0 lb cl sp wv' D' ∧ Mv (dkFoot b0 lb wv) (dkFoot b0 lb wv') w w')) :
    Calls Try.prog f args w (fun e w' => R e w' ∧ PSJ W w' b0 b rb k D' D E nb o) := by
  obtain ⟨lb0, cl0, sp0, wv0, g1, g2, g3, lb, cl, sp, wv, mb, bv, gs, m, L, h1, h2, h3, h4, h5, h6, h7, h8⟩ := h
  refine (hc lb0 cl0 sp0 wv0 g1).mono ?_
  rintro e w' ⟨hr, wv', d', mv⟩
  have l1 := h1.lt
  have l2 := h2.lt
  refine ⟨hr, lb0, cl0, sp0, wv', d', hb, ?_, lb, cl, sp, wv, mb, bv, gs, m, L, h1.fr mv.fr (fun j hj hf => (h8 j hf).1 hj), h2.fr mv.fr (fun j hj hf => (h8 j hf).2 hj), h3, ?_, h5, h6, ?_, ?_⟩
  · intro j hj
    rcases mv.piv j hj with h | h
    · exact g3 j h
    · exact Nat.le_trans h4.fr.size h
  · exact ⟨h4.fr.trans mv.fr (fun j hj => .inr (g3 j hj)), h4.new⟩
  · intro x hx
    obtain ⟨e1, e2, e3, e4⟩ := h7 x hx
    refine ⟨mv.fr.at e1 e4, e2, e3, fun hj => ?_⟩
    rcases mv.piv nb hj with h | h
    · exact e4 h
    · have := lt_of_block e1; omega
  · intro j hj
    rcases mv.piv j hj with h | h
    · exact h8 j h
    · exact ⟨fun hj' => by have := l1 j hj'; omega, fun hj' => by have := l2 j hj'; omega⟩
theorem PSJ.write {W w : World} {b0 b rb k : Nat} {D : Dk} {nb : Nat} {o : Option Obj} (h : PSJ W w b0 b rb k D D D nb o) (hk : k ≤ 2932031007401) (i : Int) (v : Value) (l : List UInt8) (hv : IsBytes w v l) :
    Calls Try.prog 16 #[.pointer (some ⟨b0, 0, none⟩), .int .i64 i, v] w fun e w' => e = .returned (.int .i64 (D.writeA i l).1) ∧ PSJ W w' b0 b rb k (D.writeA i l).2 D D nb o := by
  have hb : D.buf.length ≤ k := by obtain ⟨lb0, cl0, sp0, wv0, g1, g2, g3, lb, cl, sp, wv, mb, bv, gs, m, L, h1, h2, h3, h4, h5, h6, h7, h8⟩ := h; omega
  exact h.step (R := fun e _ => e = .returned (.int .i64 (D.writeA i l).1)) (Nat.le_trans (Dk.writeA_buf D i l) (by omega)) (fun lb cl sp wv h1 => dk_write b0 lb cl sp wv D w i v l h1 hv (by omega))
theorem PSJ.flush {W w : World} {b0 b rb k : Nat} {D0 D E : Dk} {nb : Nat} {o : Option Obj} (h : PSJ W w b0 b rb k D0 D E nb o) :
    Calls Try.prog 15 #[.pointer (some ⟨b0, 0, none⟩)] w fun e w' => e = .returned (.int .i64 D0.flushA.1) ∧ PSJ W w' b0 b rb k D0.flushA.2 D E nb o := by
  have hb : D0.buf.length ≤ k + 1 := by obtain ⟨lb0, cl0, sp0, wv0, g1, g2, g3, lb, cl, sp, wv, mb, bv, gs, m, L, h1, h2, h3, h4, h5, h6, h7, h8⟩ := h; exact g2
  exact h.step (R := fun e _ => e = .returned (.int .i64 D0.flushA.1)) (Nat.le_trans (Dk.flushA_buf D0) hb) (fun lb cl sp wv h1 => dk_flush b0 lb cl sp wv D0 w h1)
end Go.Proofs.Ytnpeeephkkmomaa
