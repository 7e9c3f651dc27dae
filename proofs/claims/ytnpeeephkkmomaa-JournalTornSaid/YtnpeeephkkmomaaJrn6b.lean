/-
  The journal: between two rounds of an Append; where a round has stopped.
-/
import Derived.Test.YtnpeeephkkmomaaJrn6
namespace Go.Proofs.Ytnpeeephkkmomaa
open Go.RowKit
set_option linter.unusedVariables false
set_option linter.unusedSimpArgs false

section
variable (w4 : World) (b lb cl : Nat) (sp : Array Value) (wv : Value) (D : Dk) (q3 : Nat) (f : List UInt8) (s0 : Nat)
/-- What a round may turn. -/
def RG : Nat → Prop := fun j => dkFoot b lb wv j ∨ w4.heap.size ≤ j
def RDk (k : Nat) (E : Dk) (wv' : Value) (W : World) : Prop :=
  IsDk W b lb cl sp wv' E ∧ (∀ j, dkFoot b lb wv' j → RG w4 b lb wv j) ∧ E.secs = D.secs ∧ E.buf = D.buf ++ wsOf f s0 k
def RIn (k : Nat) (W : World) : Prop :=
  Fr (fun j => RG w4 b lb wv j ∨ j = q3) w4 W ∧ ∃ wv' E, RDk w4 b lb cl sp wv D f s0 k E wv' W ∧ (D.down = false → D.armed ≤ 0 → E.down = false ∧ E.armed = D.armed)
def RStop (p4 N : Nat) (W : World) : Prop :=
  ∃ er : Int, er ≠ 0 ∧ W.heap[p4]? = some (.cells #[.int .i64 er] 27 (0, 0)) ∧ Fr (fun j => (RG w4 b lb wv j ∨ j = q3) ∨ j = p4) w4 W ∧ ∃ wv' E k, k ≤ N ∧ RDk w4 b lb cl sp wv D f s0 k E wv' W ∧ ¬ (D.down = false ∧ D.armed ≤ 0)
end
section
variable {w4 : World} {b lb cl : Nat} {sp : Array Value} {wv : Value} {D : Dk} {q3 : Nat} {f : List UInt8} {s0 : Nat}
theorem RDk.fr {k : Nat} {E : Dk} {wv' : Value} {A B : World} {F : Nat → Prop} (h : RDk w4 b lb cl sp wv D f s0 k E wv' A) (hf : Fr F A B) (hF : ∀ j, F j → ¬ dkFoot b lb wv' j) : RDk w4 b lb cl sp wv D f s0 k E wv' B :=
  ⟨h.1.fr hf (fun j hj hF' => hF j hF' hj), h.2⟩
theorem RDk.not_obj {k : Nat} {E : Dk} {wv' : Value} {A : World} (h : RDk w4 b lb cl sp wv D f s0 k E wv' A) {l : Nat} {o : Obj} (hl : A.heap[l]? = some o) (ho : o.isCells = false) : ¬ dkFoot b lb wv' l := fun hj => by
  obtain ⟨c, T, g, e⟩ := h.1.cells l hj
  rw [hl] at e; cases e; cases ho
theorem RDk.not_loop {k : Nat} {E : Dk} {wv' : Value} {A : World} (h : RDk w4 b lb cl sp wv D f s0 k E wv' A) {l : Nat} {r : Loop} (hl : A.heap[l]? = some (.loop r)) : ¬ dkFoot b lb wv' l := fun hj => by
  obtain ⟨c, T, g, e⟩ := h.1.cells l hj
  rw [hl] at e; cases e
theorem RIn.st {k : Nat} {A B : World} (h : RIn w4 b lb cl sp wv D q3 f s0 k A) (hf : Fr (fun j => j = q3) A B) (hq : ¬ RG w4 b lb wv q3) : RIn w4 b lb cl sp wv D q3 f s0 k B := by
  obtain ⟨h1, wv', E, h2, h3⟩ := h
  exact ⟨h1.trans hf (fun i hi => .inl (.inr hi)), wv', E, h2.fr hf (fun j hj hd => hq (by subst hj; exact h2.2.1 _ hd)), h3⟩
theorem RIn.rec {k : Nat} {A B : World} (h : RIn w4 b lb cl sp wv D q3 f s0 k A) {l : Nat} {r : Loop} (hw : w4.heap.size ≤ l) (hl : A.heap[l]? = some (.loop r)) (hf : Fr (fun j => j = l) A B) : RIn w4 b lb cl sp wv D q3 f s0 k B := by
  obtain ⟨h1, wv', E, h2, h3⟩ := h
  exact ⟨h1.trans hf (fun i hi => by subst hi; exact .inl (.inl (.inr hw))), wv', E, h2.fr hf (fun j hj hd => by subst hj; exact h2.not_loop hl hd), h3⟩
theorem RStop.rec {p4 N : Nat} {A B : World} (h : RStop w4 b lb cl sp wv D q3 f s0 p4 N A) {l : Nat} {r : Loop} (hw : w4.heap.size ≤ l) (hl : A.heap[l]? = some (.loop r)) (hf : Fr (fun j => j = l) A B) : RStop w4 b lb cl sp wv D q3 f s0 p4 N B := by
  obtain ⟨er, h0, hp, h1, wv', E, k, hk, h2, h3⟩ := h
  refine ⟨er, h0, hf.at hp (fun e => ?_), h1.trans hf (fun i hi => by subst hi; exact .inl (.inl (.inl (.inr hw)))), wv', E, k, hk, h2.fr hf (fun j hj hd => by subst hj; exact h2.not_loop hl hd), h3⟩
  subst e; rw [hl] at hp; cases hp
theorem SecX.rec {G : Nat → Prop} {k : Nat} {args : Array Value} {A B : World} (h : SecX G f s0 k args A) {l : Nat} (hl : G l) (hf : Fr (fun j => j = l) A B) : SecX G f s0 k args B := by
  obtain ⟨ao, cap, e, hb, hn⟩ := h
  exact ⟨ao, cap, e, hb.fr hf (fun j hj e => hn j hj (e ▸ hl)), hn⟩
/-- A sector is written. -/
theorem RDk.write {k : Nat} {E : Dk} {wv' : Value} {W : World} (h : RDk w4 b lb cl sp wv D f s0 k E wv' W) (hw : w4.heap.size ≤ W.heap.size) (hd : E.down = false) (hi : s0 + k < D.secs.length) (hroom : D.buf.length + k ≤ 2932031007402) (v : Value) (hv : IsBytes W v (chunk f k)) :
    Calls Try.prog 16 #[.pointer (some ⟨b, 0, none⟩), .int .i64 ((s0 + k : Nat) : Int), v] W fun e W' => e = .returned (.int .i64 0) ∧ (∃ wv2 E2, RDk w4 b lb cl sp wv D f s0 (k + 1) E2 wv2 W' ∧ (E.armed ≤ 0 → E2.down = E.down ∧ E2.armed = E.armed)) ∧ Fr (RG w4 b lb wv) W W' ∧ NC W W' := by
  have hl : (chunk f k).length ≤ 64 := by rw [chunk_length]; omega
  have hb : E.buf.length ≤ 2932031007402 := by rw [h.2.2.2, List.length_append, wsOf_length]; exact hroom
  refine (dk_write b lb cl sp wv' E W ((s0 + k : Nat) : Int) v (chunk f k) h.1 hv hb).mono ?_
  rintro e W' ⟨rfl, wv2, hE2, mv⟩
  rcases writeA_in (D := E) (i := s0 + k) (l := chunk f k) (by rw [h.2.2.1]; exact hi) hl with ⟨hd', _⟩ | ⟨_, he⟩
  · rw [hd] at hd'; cases hd'
  · rw [he] at hE2 ⊢
    refine ⟨rfl, ⟨wv2, _, ⟨hE2, fun j hj => ?_, h.2.2.1, ?_⟩, fun ha => ?_⟩, mv.fr.mono (fun j _ hj => h.2.1 j hj), mv.fr.nc (fun j hj => h.1.cells j hj)⟩
    · rcases mv.piv j hj with h1 | h1
      · exact h.2.1 j h1
      · exact .inr (Nat.le_trans hw h1)
    · show E.buf ++ _ = _
      rw [h.2.2.2, wsOf_succ, List.append_assoc]
    · simp only [Dk.written, Dk.changed]
      rw [if_neg (by omega), if_neg (by omega)]
      exact ⟨rfl, rfl⟩
theorem RDk.write_down {k : Nat} {E : Dk} {wv' : Value} {W : World} (h : RDk w4 b lb cl sp wv D f s0 k E wv' W) (hd : E.down = true) (i : Int) (v : Value) :
    Calls Try.prog 16 #[.pointer (some ⟨b, 0, none⟩), .int .i64 i, v] W fun e W' => e = .returned (.int .i64 32) ∧ W = W' := by
  have hm : E.may i = 32 := by unfold Dk.may; rw [hd]; rfl
  have := write_may b lb cl sp wv' E W i v h.1 (by rw [hm]; decide)
  rw [hm] at this; exact this
end
end Go.Proofs.Ytnpeeephkkmomaa
