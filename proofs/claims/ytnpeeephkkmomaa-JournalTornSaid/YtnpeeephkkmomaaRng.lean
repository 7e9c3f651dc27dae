/-
  A range over a function whose iterator keeps a state of its own in cells: a law for the outermost loop of a function that is walked without a fence.
-/
import Derived.Test.YtnpeeephkkmomaaJrn4
import Derived.RangeFuncNested
import Derived.RangeFuncBound
import Derived.RangeFuncCalls
import Derived.RangeFuncLeaves
import Derived.OwnWalkIn
import Derived.TacticsInMore
import Derived.LoopNIn
import Derived.LoopIn
namespace Go.Proofs.Ytnpeeephkkmomaa
open Go.RowKit
set_option linter.unusedVariables false
set_option linter.unusedSimpArgs false

/-- What is no cells lies as it lay. -/
def NC (A B : World) : Prop := ∀ (j : Nat) (o : Obj), A.heap[j]? = some o → o.isCells = false → B.heap[j]? = some o
theorem NC.refl (A : World) : NC A A := fun _ _ h _ => h
theorem NC.trans {A B C : World} (h : NC A B) (k : NC B C) : NC A C := fun j o h1 h2 => k j o (h j o h1 h2) h2
theorem Fr.nc {F : Nat → Prop} {A B : World} (h : Fr F A B) (hF : ∀ j, F j → ∃ c T f, A.heap[j]? = some (.cells c T f)) : NC A B := by
  intro j o hj ho
  refine h.at hj (fun hf => ?_)
  obtain ⟨c, T, f, e⟩ := hF j hf
  rw [hj] at e; cases e; cases ho
theorem Fr.putObj {W : World} (l : Nat) (o : Obj) : Fr (fun j => j = l) W (W.putObj l o) :=
  ⟨rfl, rfl, rfl, by simp, fun k _ hk => World.putObj_heap_other hk⟩

/-- How a round may be left. -/
def rngPost (I : World → Prop) (Ix : World → Prop) (Kp : World → World → Prop) (W : World) : Exit → Act → World → Prop
  | .normal, _, W' => NC W W' ∧ Kp W W' ∧ I W'
  | .ret, _, W' => NC W W' ∧ Ix W'
  | _, _, _ => False

/-- The iterator's word. -/
def SeqW (P : Program) (gf : Nat) (lb : Array Value) (N : Nat) (X : Nat → Array Value → World → Prop) (St Kp : World → World → Prop) (Pre : World → Prop) : Prop :=
  ∀ (l : Nat) (J : Nat → World → Prop) (Jx : World → Prop) (W : World), (∀ k A B, J k A → St A B → J k B) →
    (∀ k args A, J k A → k < N → X k args A → YieldAt Fence.wide 1 P l args A fun e B => (e = .returned (.bool true) ∧ J (k + 1) B ∧ Kp A B) ∨ (e = .returned (.bool false) ∧ Jx B)) →
    J 0 W → Pre W → CallsIn Fence.wide 2 P gf (#[.func (.yield l) #[] #[]] ++ lb) W fun e B => (∃ v, e = .returned v) ∧ (J N B ∨ Jx B)

theorem wp_range {P : Program} {g : Operand} {ps : Array Tmp} {assign body : Code} {Q : Exit → Act → World → Prop} {a : Act} {w : World} {gf : Nat} {lb : Array Value}
    (hg : a.eval g = .func (.func gf) #[] lb) (eg : ∀ args w, (callFunc gf args).run P w = .ok (.enter gf args) w)
    (N : Nat) (X : Nat → Array Value → World → Prop) (St Kp : World → World → Prop) (Pre : World → Prop) (hseq : SeqW P gf lb N X St Kp Pre)
    (I : Nat → World → Prop) (Ix : World → Prop)
    (hps : ∀ k args A, X k args A → args.size = ps.size)
    (hSt : ∀ k A B, I k A → St A B → I k B) (hStN : ∀ A B, St A B → NC A B)
    (hRec : ∀ A B l r, w.heap.size ≤ l → A.heap[l]? = some (.loop r) → Fr (fun j => j = l) A B → (∀ k, I k A → I k B) ∧ (Ix A → Ix B) ∧ (∀ k args, X k args A → X k args B) ∧ Kp A B)
    (hKt : ∀ A B C, Kp A B → Kp B C → Kp A C)
    (h0 : ∀ o o', I 0 ((w.alloc o).alloc o') ∧ Pre ((w.alloc o).alloc o'))
    (hround : ∀ l k args W, I k W → k < N → X k args W →
      assign.wpIn (Fence.wide.inRound l) 1 P (Exit.then (fun a₁ w₁ => W = w₁ ∧ ∀ W2, I k W2 → X k args W2 → body.wpIn (Fence.wide.inRound l) 1 P (rngPost (I (k + 1)) Ix Kp W2) a₁ W2) (fun _ _ _ => False))
        { tmps := (ps.zip args).foldl (fun t (p, v) => t.setIfInBounds p v) a.tmps, defers := [] } W)
    (hdone : ∀ D W, w.heap.size ≤ D → I N W → W.heap[D]? = some (.deferred (some [])) → Q .normal { a with defers := { target := .collected D, args := #[] } :: a.defers } W)
    (hstop : ∀ D W, w.heap.size ≤ D → Ix W → W.heap[D]? = some (.deferred (some [])) → Q .ret { a with defers := { target := .collected D, args := #[] } :: a.defers } W) :
    (Code.rangeFunc g ps assign body).wp P Q a w := by
  refine (wpIn_wide (n := 3)).1 (wpIn_rangeFunc ?_)
  intro fn hfn
  obtain ⟨rec, hrec⟩ : ∃ rec : LoopState → Option Code → Loop, rec = fun st pe => { state := st, pending := pe, fn, tmps := a.tmps, params := ps, assign, body, defers := w.heap.size } := ⟨_, rfl⟩
  obtain ⟨W1, hW1⟩ : ∃ W1, (w.alloc (.deferred (some []))).alloc (.loop (rec .ready none)) = W1 := ⟨_, rfl⟩
  have hL1 : W1.heap[w.heap.size + 1]? = some (.loop (rec .ready none)) := by
    rw [← hW1]; have := World.alloc_heap_new (w.alloc (.deferred (some []))) (.loop (rec .ready none)); rwa [World.size_alloc] at this
  have hK1 : W1.heap[w.heap.size]? = some (.deferred (some [])) := by
    rw [← hW1]; exact (Below.heap_alloc _ _ _ (by simp)).trans (World.alloc_heap_new w _)
  have h01 := h0 (.deferred (some [])) (.loop (rec .ready none))
  rw [hW1] at h01
  refine ⟨w.heap.size + 1, [{ target := .collected w.heap.size, args := #[] }], W1, { target := .fn (.func gf) lb, args := #[.func (.yield (w.heap.size + 1)) #[] #[]] }, W1, gf,
    #[.func (.yield (w.heap.size + 1)) #[] #[]] ++ lb, W1, ?_, ?_, fun _ _ => trivial, ?_, fun h => (by cases h), ?_⟩
  · rw [← hW1, hrec]; exact run_enterLoop_outer _ _ _ _ _
  · simp only [resolve, hg]
    simp [go_sem]
  · simp [invoke, go_sem, eg]
  · refine (hseq (w.heap.size + 1)
      (fun k W => I k W ∧ W.heap[w.heap.size + 1]? = some (.loop (rec .ready none)) ∧ W.heap[w.heap.size]? = some (.deferred (some [])))
      (fun W => Ix W ∧ W.heap[w.heap.size + 1]? = some (.loop (rec .done (some .ret))) ∧ W.heap[w.heap.size]? = some (.deferred (some [])))
      W1 (fun k A B hJ hs => ⟨hSt k A B hJ.1 hs, hStN A B hs _ _ hJ.2.1 rfl, hStN A B hs _ _ hJ.2.2 rfl⟩) ?_ ⟨h01.1, hL1, hK1⟩ h01.2).mono ?_
    · rintro k args W ⟨hi, hl, hk⟩ hlen hx
      have hlt : w.heap.size + 1 < W.heap.size := (Array.getElem?_eq_some_iff.1 hl).1
      have hy := run_yield (P := P) (args := args) hl (by rw [hrec]; exact hps k args W hx)
      rw [hrec] at hy
      have hr1 := hRec W (W.putObj (w.heap.size + 1) (.loop { rec .ready none with state := .busy })) _ _ (by omega) hl (Fr.putObj _ _)
      have hl2 : (W.putObj (w.heap.size + 1) (.loop { rec .ready none with state := .busy })).heap[w.heap.size + 1]? = some (.loop { rec .ready none with state := .busy }) := World.putObj_heap_same hlt
      have hk2 : (W.putObj (w.heap.size + 1) (.loop { rec .ready none with state := .busy })).heap[w.heap.size]? = some (.deferred (some [])) := (World.putObj_heap_other (by omega)).trans hk
      refine ⟨fn, _, assign, body, hy, roundIn_of_wpIn hfn (wpIn_mono (hround (w.heap.size + 1) k args W hi hlen hx) ?_)⟩
      intro e1 a1 w1 he1
      cases e1 with
      | normal => ?_
      | _ => exact he1.elim
      obtain ⟨rfl, hb1⟩ := he1
      refine ⟨_, run_beginRound hl (by rw [hrec]), ?_⟩
      refine wpIn_mono (hb1 _ (hr1.1 k hi) (hr1.2.2.1 k args hx)) ?_
      have fin : ∀ (jump : Option Code) (W3 : World), NC (W.putObj (w.heap.size + 1) (.loop { rec .ready none with state := .busy })) W3 →
          (Instr.endRound (w.heap.size + 1) jump).run P W3 = .ok (.bool jump.isNone) (W3.putObj (w.heap.size + 1) (.loop (rec (if jump.isNone then .ready else .done) jump))) ∧
          W3.heap[w.heap.size + 1]? = some (.loop { rec .ready none with state := .busy }) ∧
          (W3.putObj (w.heap.size + 1) (.loop (rec (if jump.isNone then .ready else .done) jump))).heap[w.heap.size + 1]? = some (.loop (rec (if jump.isNone then .ready else .done) jump)) ∧
          (W3.putObj (w.heap.size + 1) (.loop (rec (if jump.isNone then .ready else .done) jump))).heap[w.heap.size]? = some (.deferred (some [])) := fun jump W3 hk3 => by
        have hl3 := hk3 _ _ hl2 rfl
        have := run_endRound (P := P) jump hl3
        rw [hrec] at this ⊢
        exact ⟨this, by rw [hrec] at hl3; exact hl3, World.putObj_heap_same (Array.getElem?_eq_some_iff.1 hl3).1, (World.putObj_heap_other (by omega)).trans (hk3 _ _ hk2 rfl)⟩
      rintro e a3 W3 hp
      cases e with
      | normal =>
        obtain ⟨hk3, hkp3, hi3⟩ := hp
        obtain ⟨hr, hl3, hl4, hk4⟩ := fin none W3 hk3
        have hr2 := hRec W3 (W3.putObj (w.heap.size + 1) (.loop (rec .ready none))) _ _ (by omega) hl3 (Fr.putObj _ _)
        exact ⟨_, _, hr, .inl ⟨rfl, ⟨hr2.1 _ hi3, hl4, hk4⟩, hKt _ _ _ (hKt _ _ _ hr1.2.2.2 hkp3) hr2.2.2.2⟩⟩
      | ret =>
        obtain ⟨hk3, hi3⟩ := hp
        obtain ⟨hr, hl3, hl4, hk4⟩ := fin (some .ret) W3 hk3
        have hr2 := hRec W3 (W3.putObj (w.heap.size + 1) (.loop (rec .done (some .ret)))) _ _ (by omega) hl3 (Fr.putObj _ _)
        exact ⟨_, _, hr, .inr ⟨rfl, hr2.2.1 hi3, hl4, hk4⟩⟩
      | exit id => exact hp.elim
      | goto t => exact hp.elim
      | panic ch => exact hp.elim
      | outgrown => exact hp.elim
    · rintro e W2 ⟨⟨v, rfl⟩, (⟨hi, hl, hk⟩ | ⟨hi, hl, hk⟩)⟩
      · have hr2 := hRec W2 (W2.putObj (w.heap.size + 1) (.loop { rec .ready none with state := .exhausted })) _ _ (by omega) hl (Fr.putObj _ _)
        exact ⟨none, _, by have := run_endLoop (P := P) hl (by rw [hrec]; simp); rw [hrec] at this ⊢; exact this, hdone _ _ (Nat.le_refl _) (hr2.1 _ hi) ((World.putObj_heap_other (by omega)).trans hk)⟩
      · have hr2 := hRec W2 (W2.putObj (w.heap.size + 1) (.loop { rec .done (some .ret) with state := .exhausted })) _ _ (by omega) hl (Fr.putObj _ _)
        exact ⟨some .ret, _, by have := run_endLoop (P := P) hl (by rw [hrec]; simp); rw [hrec] at this ⊢; exact this, wpIn_ret (hstop _ _ (Nat.le_refl _) (hr2.2.1 hi) ((World.putObj_heap_other (by omega)).trans hk))⟩

/-- What a walk is to come to where nothing panics. -/
def retPost (n : Nat) (P : Program) (fn : Func) (R : Ending → World → Prop) : Exit → Act → World → Prop
  | .ret, a, w => bodyPostM Fence.wide n P fn R .ret a w
  | _, _, _ => False
theorem wp_retPost {n : Nat} {P : Program} {fn : Func} {R : Ending → World → Prop} {c : Code} {a : Act} {w : World} (h : c.wp P (retPost n P fn R) a w) : c.wpIn Fence.wide n P (bodyPostM Fence.wide n P fn R) a w :=
  wpIn_wide.2 (wp_mono h (fun e a w hq => by cases e <;> first | exact hq | exact hq.elim))

/-- A return, the mark of one range over a function among the deferred calls. -/
theorem bodyPostM_ret {P : Program} {n : Nat} {fn : Func} {R : Ending → World → Prop} {tmps : Array Value} {W : World} {D : Nat} {v : Value}
    (hD : W.heap[D]? = some (.deferred (some []))) (hv : (results fn tmps).run P (W.putObj D (.deferred none)) = .ok v (W.putObj D (.deferred none))) (hR : R (.returned v) (W.putObj D (.deferred none))) :
    retPost n P fn R .ret { tmps := tmps, defers := [{ target := .collected D, args := #[] }] } W :=
  ⟨by simp, .inl ⟨_, _, rfl, run_takeDeferred hD, ⟨_, hv, hR⟩⟩⟩
theorem bodyPostM_ret0 {P : Program} {n : Nat} {fn : Func} {R : Ending → World → Prop} {tmps : Array Value} {W : World} {v : Value}
    (hv : (results fn tmps).run P W = .ok v W) (hR : R (.returned v) W) :
    retPost n P fn R .ret { tmps := tmps, defers := [] } W :=
  ⟨_, hv, hR⟩
end Go.Proofs.Ytnpeeephkkmomaa
