/-
  A disk and the document's, side by side.
-/
import Derived.Test.YtnpeeephkkmomaaRef3h
import Derived.Test.YtnpeeephkkmomaaLaw03d
namespace Go.Proofs.Ytnpeeephkkmomaa
open Go.RowKit Go.Maps Go.Proofs.YtnpeeephkkmomaaW.PrintLast
set_option linter.unusedVariables false
set_option linter.unusedSimpArgs false

/-- Block b is a disk that tells D, block rb the document's that tells E; nothing of them stood in W; block nb (if any is asked) stands as it is. -/
def PS (W w : World) (b rb k : Nat) (D E : Dk) (nb : Nat) (o : Option Obj) : Prop :=
  ∃ lb cl sp wv mb bv gs m L, IsDk w b lb cl sp wv D ∧ IsRef w rb mb bv gs m L E ∧ (∀ j, dkFoot b lb wv j → ¬ rFoot rb mb bv gs j) ∧ Own W w (fun j => dkFoot b lb wv j ∨ rFoot rb mb bv gs j) ∧
    m + E.buf.length ≤ k ∧ D.buf.length ≤ k + 1 ∧ ∀ x, o = some x → w.heap[nb]? = some x ∧ ¬ dkFoot b lb wv nb ∧ ¬ rFoot rb mb bv gs nb
theorem PS.rec {W w : World} {b rb k : Nat} {D E : Dk} {nb : Nat} {x : Obj} (h : PS W w b rb k D E nb (some x)) : w.heap[nb]? = some x := by
  obtain ⟨lb, cl, sp, wv, mb, bv, gs, m, L, h1, h2, h3, h4, h5, h6, h7⟩ := h
  exact (h7 x rfl).1
theorem PS.le {W w : World} {b rb k : Nat} {D E : Dk} {nb : Nat} {o : Option Obj} (h : PS W w b rb k D E nb o) {k' : Nat} (hk : k ≤ k') : PS W w b rb k' D E nb o := by
  obtain ⟨lb, cl, sp, wv, mb, bv, gs, m, L, h1, h2, h3, h4, h5, h6, h7⟩ := h
  exact ⟨lb, cl, sp, wv, mb, bv, gs, m, L, h1, h2, h3, h4, by omega, by omega, h7⟩
theorem PS.forget {W w : World} {b rb k : Nat} {D E : Dk} {nb : Nat} {o : Option Obj} (h : PS W w b rb k D E nb o) {nb' : Nat} : PS W w b rb k D E nb' none := by
  obtain ⟨lb, cl, sp, wv, mb, bv, gs, m, L, h1, h2, h3, h4, h5, h6, h7⟩ := h
  exact ⟨lb, cl, sp, wv, mb, bv, gs, m, L, h1, h2, h3, h4, h5, h6, fun x h => by cases h⟩
theorem PS.still {W w w' : World} {b rb k : Nat} {D E : Dk} {nb : Nat} {o : Option Obj} (h : PS W w b rb k D E nb o) (hf : Fr (fun _ => False) w w') : PS W w' b rb k D E nb o := by
  obtain ⟨lb, cl, sp, wv, mb, bv, gs, m, L, h1, h2, h3, h4, h5, h6, h7⟩ := h
  exact ⟨lb, cl, sp, wv, mb, bv, gs, m, L, h1.fr hf (fun _ _ h => h), h2.fr hf (fun _ _ h => h), h3, h4.still hf, h5, h6, fun x hx => ⟨hf.at (h7 x hx).1 (fun h => h), (h7 x hx).2⟩⟩
/-- A new block is told of. -/
theorem PS.newRec {W w : World} {b rb k : Nat} {D E : Dk} {nb : Nat} {o : Option Obj} (h : PS W w b rb k D E nb o) (x : Obj) : PS W (w.alloc x) b rb k D E w.heap.size (some x) := by
  obtain ⟨lb, cl, sp, wv, mb, bv, gs, m, L, h1, h2, h3, h4, h5, h6, h7⟩ := h
  have hf := (Fr.refl (fun _ => False) w).alloc x
  exact ⟨lb, cl, sp, wv, mb, bv, gs, m, L, h1.fr hf (fun _ _ h => h), h2.fr hf (fun _ _ h => h), h3, h4.still hf, h5, h6,
    fun y hy => by cases hy; exact ⟨heap_alloc_at w x, fun h => by have := h1.lt _ h; omega, fun h => by have := h2.lt _ h; omega⟩⟩
theorem PS.own {W w : World} {b rb k : Nat} {D E : Dk} {nb : Nat} {o : Option Obj} (h : PS W w b rb k D E nb o) : Fr (fun _ => False) W w := by
  obtain ⟨lb, cl, sp, wv, mb, bv, gs, m, L, h1, h2, h3, h4, h5, h6, h7⟩ := h
  exact h4.fr

theorem PS.stepDk {W w : World} {b rb k : Nat} {D E : Dk} {nb : Nat} {o : Option Obj} (h : PS W w b rb k D E nb o) {f : Nat} {args : Array Value} {R : Ending → World → Prop} {D' : Dk} {k' : Nat} (hk : k ≤ k') (hb : D'.buf.length ≤ k' + 1)
    (hc : ∀ lb cl sp wv, IsDk w b lb cl sp wv D → Calls Try.prog f args w (fun e w' => R e w' ∧ ∃ wv', IsDk w' b lb cl sp wv' D' ∧ Mv (dkFoot b lb wv) (dkFoot b lb wv') w w')) :
    Calls Try.prog f args w (fun e w' => R e w' ∧ PS W w' b rb k' D' E nb o) := by
  obtain ⟨lb, cl, sp, wv, mb, bv, gs, m, L, h1, h2, h3, h4, h5, h6, h7⟩ := h
  refine (hc lb cl sp wv h1).mono ?_
  rintro e w' ⟨hr, wv', d', mv⟩
  have hpiv : ∀ j, dkFoot b lb wv' j → ¬ rFoot rb mb bv gs j := fun j hj hr => by
    rcases mv.piv j hj with h | h
    · exact h3 j h hr
    · have := h2.lt j hr; omega
  refine ⟨hr, lb, cl, sp, wv', mb, bv, gs, m, L, d', h2.fr mv.fr (fun j hj hf => h3 j hf hj), hpiv, ?_, by omega, hb, fun x hx => ?_⟩
  · refine ⟨h4.fr.trans mv.fr (fun j hj => .inr (h4.new j (.inl hj))), fun j hj => ?_⟩
    rcases hj with hj | hj
    · rcases mv.piv j hj with h | h
      · exact h4.new j (.inl h)
      · exact Nat.le_trans h4.fr.size h
    · exact h4.new j (.inr hj)
  · obtain ⟨e1, e2, e3⟩ := h7 x hx
    refine ⟨mv.fr.at e1 e2, fun hj => ?_, e3⟩
    rcases mv.piv nb hj with h | h
    · exact e2 h
    · have := lt_of_block e1; omega
theorem PS.stepRef {W w : World} {b rb k : Nat} {D E : Dk} {nb : Nat} {o : Option Obj} (h : PS W w b rb k D E nb o) {f : Nat} {args : Array Value} {R : Ending → World → Prop} {E' : Dk} {k' : Nat} (hk : k ≤ k')
    (hc : ∀ mb bv gs m L, m + E.buf.length ≤ k → IsRef w rb mb bv gs m L E → Calls Try.prog f args w (fun e w' => R e w' ∧ ∃ bv' gs' m' L', IsRef w' rb mb bv' gs' m' L' E' ∧ m' + E'.buf.length ≤ k' ∧ Mv (rFoot rb mb bv gs) (rFoot rb mb bv' gs') w w')) :
    Calls Try.prog f args w (fun e w' => R e w' ∧ PS W w' b rb k' D E' nb o) := by
  obtain ⟨lb, cl, sp, wv, mb, bv, gs, m, L, h1, h2, h3, h4, h5, h6, h7⟩ := h
  refine (hc mb bv gs m L h5 h2).mono ?_
  rintro e w' ⟨hr, bv', gs', m', L', d', hm', mv⟩
  have hpiv : ∀ j, dkFoot b lb wv j → ¬ rFoot rb mb bv' gs' j := fun j hj hr => by
    rcases mv.piv j hr with h | h
    · exact h3 j hj h
    · have := h1.lt j hj; omega
  refine ⟨hr, lb, cl, sp, wv, mb, bv', gs', m', L', h1.fr mv.fr (fun j hj hf => h3 j hj hf), d', hpiv, ?_, hm', by omega, fun x hx => ?_⟩
  · refine ⟨h4.fr.trans mv.fr (fun j hj => .inr (h4.new j (.inr hj))), fun j hj => ?_⟩
    rcases hj with hj | hj
    · exact h4.new j (.inl hj)
    · rcases mv.piv j hj with h | h
      · exact h4.new j (.inr h)
      · exact Nat.le_trans h4.fr.size h
  · obtain ⟨e1, e2, e3⟩ := h7 x hx
    refine ⟨mv.fr.at e1 e3, e2, fun hj => ?_⟩
    rcases mv.piv nb hj with h | h
    · exact e3 h
    · have := lt_of_block e1; omega

/-! What each operation answers, and leaves. -/
def Dk.writeA (D : Dk) (i : Int) (l : List UInt8) : Int × Dk := if D.may i ≠ 0 then (D.may i, D) else if 64 < l.length then (3, D) else (0, D.written i.toNat l)
def Dk.flushA (D : Dk) : Int × Dk := if D.down then (32, D) else (0, D.flushed)
def Dk.readA (D : Dk) (i : Int) : List UInt8 := if D.may i ≠ 0 then [] else D.told i.toNat
theorem Dk.may_zero {D : Dk} {i : Int} (h : D.may i = 0) : D.down = false ∧ ∃ ii : Nat, i = (ii : Int) ∧ ii < D.secs.length := by
  unfold Dk.may at h
  split at h
  · cases h
  · rename_i hdn
    split at h
    · cases h
    · rename_i hh
      exact ⟨by simpa using hdn, i.toNat, by omega, by omega⟩
theorem Dk.writeA_buf (D : Dk) (i : Int) (l : List UInt8) : (D.writeA i l).2.buf.length ≤ D.buf.length + 1 := by
  unfold Dk.writeA
  split
  · simp
  · split
    · simp
    · simp [Dk.written, Dk.changed]
theorem Dk.flushA_buf (D : Dk) : D.flushA.2.buf.length ≤ D.buf.length := by
  unfold Dk.flushA
  split
  · simp
  · simp [Dk.flushed, Dk.changed]
theorem Dk.armedAt_buf (D : Dk) (n : Int) : (D.armedAt n).buf = D.buf := by unfold Dk.armedAt; split <;> rfl

theorem dk_write (b lb cl : Nat) (sp : Array Value) (wv : Value) (D : Dk) (w : World) (i : Int) (v : Value) (l : List UInt8) (h : IsDk w b lb cl sp wv D) (hv : IsBytes w v l) (hroom : D.buf.length ≤ 2932031007402) :
    Calls Try.prog 16 #[.pointer (some ⟨b, 0, none⟩), .int .i64 i, v] w fun e w' => e = .returned (.int .i64 (D.writeA i l).1) ∧ ∃ wv', IsDk w' b lb cl sp wv' (D.writeA i l).2 ∧ Mv (dkFoot b lb wv) (dkFoot b lb wv') w w' := by
  unfold Dk.writeA
  by_cases hm : D.may i = 0
  · obtain ⟨hd, ii, rfl, hi⟩ := Dk.may_zero hm
    rw [if_neg (by simpa using hm)]
    by_cases hl : 64 < l.length
    · rw [if_pos hl]
      refine (write_long b lb cl sp wv D w ii v l h hm hv hl).mono ?_
      rintro e w' ⟨rfl, rfl⟩
      exact ⟨rfl, wv, h, Mv.refl _ _⟩
    · rw [if_neg hl]
      exact write_ok b lb cl sp wv D w ii v l h hd hi (by omega) hv hroom
  · rw [if_pos hm]
    refine (write_may b lb cl sp wv D w i v h hm).mono ?_
    rintro e w' ⟨rfl, rfl⟩
    exact ⟨rfl, wv, h, Mv.refl _ _⟩
theorem ref_write (rb mb : Nat) (bv : Value) (gs : List (Nat × Nat)) (m : Nat) (L : Int → List UInt8) (D : Dk) (w : World) (i : Int) (v : Value) (l : List UInt8) (h : IsRef w rb mb bv gs m L D) (hv : IsBytes w v l) (hroom : D.buf.length ≤ 2932031007402) :
    Calls Try.prog 24 #[.pointer (some ⟨rb, 0, none⟩), .int .i64 i, v] w fun e w' => e = .returned (.int .i64 (D.writeA i l).1) ∧ ∃ bv' gs', IsRef w' rb mb bv' gs' m L (D.writeA i l).2 ∧ Mv (rFoot rb mb bv gs) (rFoot rb mb bv' gs') w w' := by
  unfold Dk.writeA
  by_cases hm : D.may i = 0
  · obtain ⟨hd, ii, rfl, hi⟩ := Dk.may_zero hm
    rw [if_neg (by simpa using hm)]
    by_cases hl : 64 < l.length
    · rw [if_pos hl]
      refine (rwrite_long rb mb bv gs m L D w ii v l h hd hi hv hl).mono ?_
      rintro e w' ⟨rfl, rfl⟩
      exact ⟨rfl, bv, gs, h, Mv.refl _ _⟩
    · rw [if_neg hl]
      exact rwrite_ok rb mb bv gs m L D w ii v l h hd hi hv (by omega) hroom
  · rw [if_pos hm]
    refine (rwrite_may rb mb bv gs m L D w i v h hm).mono ?_
    rintro e w' ⟨rfl, rfl⟩
    exact ⟨rfl, bv, gs, h, Mv.refl _ _⟩
theorem dk_flush (b lb cl : Nat) (sp : Array Value) (wv : Value) (D : Dk) (w : World) (h : IsDk w b lb cl sp wv D) :
    Calls Try.prog 15 #[.pointer (some ⟨b, 0, none⟩)] w fun e w' => e = .returned (.int .i64 D.flushA.1) ∧ ∃ wv', IsDk w' b lb cl sp wv' D.flushA.2 ∧ Mv (dkFoot b lb wv) (dkFoot b lb wv') w w' := by
  unfold Dk.flushA
  cases hd : D.down with
  | true =>
    refine (flush_down b lb cl sp wv D w h hd).mono ?_
    rintro e w' ⟨rfl, rfl⟩
    exact ⟨rfl, wv, h, Mv.refl _ _⟩
  | false =>
    refine (flush_up b lb cl sp wv D w h hd).mono ?_
    rintro e w' ⟨rfl, k1, k2⟩
    exact ⟨rfl, _, k1, own_nil k2⟩
theorem ref_flush (rb mb : Nat) (bv : Value) (gs : List (Nat × Nat)) (m : Nat) (L : Int → List UInt8) (D : Dk) (w : World) (h : IsRef w rb mb bv gs m L D) (hroom : m + D.buf.length ≤ 9223372036854775806) :
    Calls Try.prog 25 #[.pointer (some ⟨rb, 0, none⟩)] w fun e w' => e = .returned (.int .i64 D.flushA.1) ∧ ∃ bv' gs' m' L', IsRef w' rb mb bv' gs' m' L' D.flushA.2 ∧ m' + D.flushA.2.buf.length ≤ m + D.buf.length ∧ Mv (rFoot rb mb bv gs) (rFoot rb mb bv' gs') w w' := by
  unfold Dk.flushA
  cases hd : D.down with
  | true =>
    refine (rflush_down rb mb bv gs m L D w h hd).mono ?_
    rintro e w' ⟨rfl, rfl⟩
    exact ⟨rfl, bv, gs, m, L, h, Nat.le_refl _, Mv.refl _ _⟩
  | false =>
    refine (rflush_up rb mb bv gs m L D w h hd hroom).mono ?_
    rintro e w' ⟨rfl, L', k1, k2⟩
    exact ⟨rfl, _, _, _, L', k1, by simp [Dk.flushed, Dk.changed], own_rnil k2⟩

theorem PS.dwrite {W w : World} {b rb k : Nat} {D : Dk} {nb : Nat} {o : Option Obj} (h : PS W w b rb k D D nb o) (hk : k ≤ 2932031007401) (i : Int) (v : Value) (l : List UInt8) (hv : IsBytes w v l) :
    Calls Try.prog 16 #[.pointer (some ⟨b, 0, none⟩), .int .i64 i, v] w fun e w' => e = .returned (.int .i64 (D.writeA i l).1) ∧ PS W w' b rb k (D.writeA i l).2 D nb o := by
  have hb : D.buf.length ≤ k := by obtain ⟨lb, cl, sp, wv, mb, bv, gs, m, L, h1, h2, h3, h4, h5, h6, h7⟩ := h; omega
  exact h.stepDk (R := fun e _ => e = .returned (.int .i64 (D.writeA i l).1)) (Nat.le_refl k) (Nat.le_trans (Dk.writeA_buf D i l) (by omega)) (fun lb cl sp wv h1 => dk_write b lb cl sp wv D w i v l h1 hv (by omega))
section
variable {W w : World} {b rb k : Nat} {D E : Dk} {nb : Nat} {o : Option Obj} (h : PS W w b rb k D E nb o)
include h
theorem PS.rwrite (hk : k ≤ 2932031007401) (i : Int) (v : Value) (l : List UInt8) (hv : IsBytes w v l) :
    Calls Try.prog 24 #[.pointer (some ⟨rb, 0, none⟩), .int .i64 i, v] w fun e w' => e = .returned (.int .i64 (E.writeA i l).1) ∧ PS W w' b rb (k + 1) D (E.writeA i l).2 nb o := by
  refine h.stepRef (R := fun e _ => e = .returned (.int .i64 (E.writeA i l).1)) (Nat.le_succ k) (fun mb bv gs m L hm h2 => (ref_write rb mb bv gs m L E w i v l h2 hv (by omega)).mono ?_)
  rintro e w' ⟨hr, bv', gs', r, mv⟩
  have := Dk.writeA_buf E i l
  exact ⟨hr, bv', gs', m, L, r, by omega, mv⟩
theorem PS.dflush : Calls Try.prog 15 #[.pointer (some ⟨b, 0, none⟩)] w fun e w' => e = .returned (.int .i64 D.flushA.1) ∧ PS W w' b rb k D.flushA.2 E nb o := by
  have hb : D.buf.length ≤ k + 1 := by obtain ⟨lb, cl, sp, wv, mb, bv, gs, m, L, h1, h2, h3, h4, h5, h6, h7⟩ := h; exact h6
  exact h.stepDk (R := fun e _ => e = .returned (.int .i64 D.flushA.1)) (Nat.le_refl k) (Nat.le_trans (Dk.flushA_buf D) (by omega)) (fun lb cl sp wv h1 => dk_flush b lb cl sp wv D w h1)
theorem PS.rflush (hk : k ≤ 2932031007401) : Calls Try.prog 25 #[.pointer (some ⟨rb, 0, none⟩)] w fun e w' => e = .returned (.int .i64 E.flushA.1) ∧ PS W w' b rb k D E.flushA.2 nb o := by
  refine h.stepRef (R := fun e _ => e = .returned (.int .i64 E.flushA.1)) (Nat.le_refl k) (fun mb bv gs m L hm h2 => (ref_flush rb mb bv gs m L E w h2 (by omega)).mono ?_)
  rintro e w' ⟨hr, bv', gs', m', L', r, hm', mv⟩
  exact ⟨hr, bv', gs', m', L', r, by omega, mv⟩
theorem PS.darm (n : Int) (hn : -9223372036854775808 ≤ n ∧ n ≤ 9223372036854775807) : Calls Try.prog 14 #[.pointer (some ⟨b, 0, none⟩), .int .i64 n] w fun e w' => e = .returned (.tuple #[]) ∧ PS W w' b rb k (D.armedAt n) E nb o := by
  have hb : D.buf.length ≤ k + 1 := by obtain ⟨lb, cl, sp, wv, mb, bv, gs, m, L, h1, h2, h3, h4, h5, h6, h7⟩ := h; exact h6
  refine h.stepDk (R := fun e _ => e = .returned (.tuple #[])) (Nat.le_refl k) (by rw [Dk.armedAt_buf]; exact hb) (fun lb cl sp wv h1 => (arm_any b lb cl sp wv D w n h1 hn).mono ?_)
  rintro e w' ⟨hr, d, fr⟩
  exact ⟨hr, wv, d, fr.mono (fun j _ h => .inl h), fun j h => .inl h⟩
theorem PS.rarm (n : Int) (hn : -9223372036854775808 ≤ n ∧ n ≤ 9223372036854775807) : Calls Try.prog 26 #[.pointer (some ⟨rb, 0, none⟩), .int .i64 n] w fun e w' => e = .returned (.tuple #[]) ∧ PS W w' b rb k D (E.armedAt n) nb o := by
  refine h.stepRef (R := fun e _ => e = .returned (.tuple #[])) (Nat.le_refl k) (fun mb bv gs m L hm h2 => (rarm_any rb mb bv gs m L E w n h2 hn).mono ?_)
  rintro e w' ⟨hr, r, fr⟩
  exact ⟨hr, bv, gs, m, L, r, by rw [Dk.armedAt_buf]; exact hm, fr.mono (fun j _ h => .inl h), fun j h => .inl h⟩
theorem PS.dcrash (x y : Int) : Calls Try.prog 18 #[.pointer (some ⟨b, 0, none⟩), .int .i64 x, .int .i64 y] w fun e w' => e = .returned (.tuple #[]) ∧ PS W w' b rb k (D.crashed x y) E nb o := by
  refine h.stepDk (R := fun e _ => e = .returned (.tuple #[])) (Nat.le_refl k) (by simp [Dk.crashed]) (fun lb cl sp wv h1 => (crash_any b lb cl sp wv D w x y h1).mono ?_)
  rintro e w' ⟨hr, d, fr⟩
  exact ⟨hr, _, d, own_nil fr⟩
theorem PS.rcrash (hk : k ≤ 2932031007401) (x y : Int) (hy : -9223372036854775808 ≤ y ∧ y ≤ 9223372036854775807) : Calls Try.prog 27 #[.pointer (some ⟨rb, 0, none⟩), .int .i64 x, .int .i64 y] w fun e w' => e = .returned (.tuple #[]) ∧ PS W w' b rb k D (E.crashed x y) nb o := by
  refine h.stepRef (R := fun e _ => e = .returned (.tuple #[])) (Nat.le_refl k) (fun mb bv gs m L hm h2 => (rcrash_any rb mb bv gs m L E w x y h2 hy (by omega)).mono ?_)
  rintro e w' ⟨hr, L', r, fr⟩
  exact ⟨hr, _, _, _, L', r, by simpa [Dk.crashed] using hm, own_rnil fr⟩
end
end Go.Proofs.Ytnpeeephkkmomaa
