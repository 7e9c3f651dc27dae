/-
  The journal: what an Append comes to; the maker of the iterator.
-/
import Derived.Test.YtnpeeephkkmomaaJrn5
import Derived.Test.YtnpeeephkkmomaaPair2
namespace Go.Proofs.Ytnpeeephkkmomaa
open Go.RowKit Go.Proofs.YtnpeeephkkmomaaW.PrintLast
set_option linter.unusedVariables false
set_option linter.unusedSimpArgs false

/-- The first k writes of some bytes from sector s on. -/
def wsOf (f : List UInt8) (s k : Nat) : List (Nat × List UInt8) := (List.range k).map fun j => (s + j, pad64 (chunk f j))
theorem wsOf_zero (f : List UInt8) (s : Nat) : wsOf f s 0 = [] := rfl
theorem wsOf_succ (f : List UInt8) (s k : Nat) : wsOf f s (k + 1) = wsOf f s k ++ [(s + k, pad64 (chunk f k))] := by simp [wsOf, List.range_succ]
theorem wsOf_length (f : List UInt8) (s k : Nat) : (wsOf f s k).length = k := by simp [wsOf]
/-- What an Append writes. -/
def appBytes (D : Dk) (from_ end_ : Nat) (l : List UInt8) : List UInt8 := (D.told (from_ + end_ / 64)).take (end_ % 64) ++ frameOf l
theorem appBytes_length (D : Dk) (from_ end_ : Nat) (l : List UInt8) (h : D.Ok) (hi : from_ + end_ / 64 < D.secs.length) : (appBytes D from_ end_ l).length = end_ % 64 + (l.length + 16) := by
  unfold appBytes
  rw [List.length_append, frameOf_length, List.length_take, told_len D h _ hi]
  omega

/-- What an Append comes to. -/
inductive AppRes (D E : Dk) (from_ to_ end_ : Nat) (count : Int) (l : List UInt8) (er end' count' : Int) : Prop
  | no (k : Nat) (hk : k ≤ ((appBytes D from_ end_ l).length + 63) / 64) (her : er ≠ 0) (he : end' = end_) (hc : count' = count) (hs : E.secs = D.secs) (hb : E.buf = D.buf ++ wsOf (appBytes D from_ end_ l) (from_ + end_ / 64) k)
      (hwhy : ¬ (D.down = false ∧ D.armed ≤ 0 ∧ l.length ≤ 1048576 ∧ end_ + l.length + 16 ≤ (to_ - from_) * 64)) (hz : l.length ≤ 1048576 ∧ end_ + l.length + 16 ≤ (to_ - from_) * 64 ∨ k = 0)
      (hfull : l.length ≤ 1048576 → (to_ - from_) * 64 < end_ + l.length + 16 → er = 51 ∧ E = D)
  | ok (her : er = 0) (he : end' = ((end_ + l.length + 16 : Nat) : Int)) (hc : count' = count + 1)
      (hs : E.secs = settled D.secs (D.buf ++ wsOf (appBytes D from_ end_ l) (from_ + end_ / 64) (((appBytes D from_ end_ l).length + 63) / 64))) (hb : E.buf = [])
      (hl : l.length ≤ 1048576) (hf : end_ + l.length + 16 ≤ (to_ - from_) * 64) (hup : D.down = false → D.armed ≤ 0 → E.down = false ∧ E.armed = D.armed)
def jFoot (b lb jp : Nat) (wv : Value) : Nat → Prop := fun j => dkFoot b lb wv j ∨ j = jp
def JAppPost (w : World) (jp b lb cl : Nat) (sp : Array Value) (wv : Value) (D : Dk) (from_ to_ end_ : Nat) (count : Int) (l : List UInt8) (e : Ending) (w' : World) : Prop :=
  ∃ (er : Int) (wv' : Value) (E : Dk) (end' count' : Int), e = .returned (.int .i64 er) ∧ IsDk w' b lb cl sp wv' E ∧ IsJ w' jp b from_ to_ end' count' ∧ ¬ dkFoot b lb wv' jp ∧ Mv (jFoot b lb jp wv) (jFoot b lb jp wv') w w' ∧
    AppRes D E from_ to_ end_ count l er end' count'

theorem IsDk.cells {w : World} {b lb cl : Nat} {sp : Array Value} {wv : Value} {D : Dk} (h : IsDk w b lb cl sp wv D) (j : Nat) (hj : dkFoot b lb wv j) : ∃ c T f, w.heap[j]? = some (.cells c T f) := by
  rcases hj with rfl | rfl | hj
  · exact ⟨_, _, _, h.head⟩
  · exact ⟨_, _, _, h.row⟩
  · rcases h.own.2 with ⟨rfl, _⟩ | ⟨g, cap, cur, rfl, _, hg, _⟩
    · cases hj
    · simp only [Value.ownBlock, Option.some.injEq] at hj
      subst hj
      exact ⟨_, _, _, hg⟩
theorem writeA_in {D : Dk} {i : Nat} {l : List UInt8} (hi : i < D.secs.length) (hl : l.length ≤ 64) : (D.down = true ∧ D.writeA i l = (32, D)) ∨ (D.down = false ∧ D.writeA i l = (0, D.written i l)) := by
  cases hd : D.down with
  | true => exact .inl ⟨rfl, by simp [Dk.writeA, Dk.may, hd]⟩
  | false =>
    refine .inr ⟨rfl, ?_⟩
    have hm : D.may i = 0 := by
      unfold Dk.may
      rw [hd, if_neg (by simp), if_neg (by omega)]
    unfold Dk.writeA
    rw [if_neg (by simpa using hm), if_neg (by omega)]
    rfl

set_option maxRecDepth 100000 in
set_option maxHeartbeats 1000000 in
theorem sec_make (jp at_ : Nat) (ao : Option Addr) (n c : Nat) (w : World) :
    Calls Try.prog 68 #[.pointer (some ⟨jp, 0, none⟩), .slice ao n c, .int .i64 at_] w fun e w' => ∃ q1 q2 q3 : Nat,
      e = .returned (.func (.func 87) #[] #[.pointer (some ⟨q1, 0, none⟩), .pointer (some ⟨q2, 0, none⟩), .pointer (some ⟨q3, 0, none⟩)]) ∧
      w'.heap[q1]? = some (.cells #[.pointer (some ⟨jp, 0, none⟩)] 52 (0, 0)) ∧ w'.heap[q2]? = some (.cells #[.int .i64 at_] 2 (0, 0)) ∧ w'.heap[q3]? = some (.cells #[.slice ao n c] 30 (0, 0)) ∧
      w.heap.size ≤ q1 ∧ w.heap.size ≤ q2 ∧ w.heap.size ≤ q3 ∧ q1 ≠ q3 ∧ q2 ≠ q3 ∧ Fr (fun _ => False) w w' := by
  go_enter Try.func68, Try.ntmps68
  go_wp2
  go_ret
  refine ⟨w.heap.size, w.heap.size + 1 + 1, w.heap.size + 1, rfl, ?_, ?_, ?_, by omega, by omega, by omega, by omega, by omega, (((Fr.refl _ w).alloc _).alloc _).alloc _⟩
  · rw [heap_alloc _ _ _ (by simp; omega), heap_alloc _ _ _ (by simp), heap_alloc_at]
  · have := heap_alloc_at ((w.alloc (.cells #[.pointer (some ⟨jp, 0, none⟩)] 52 (0, 0))).alloc (.cells #[.slice ao n c] 30 (0, 0))) (.cells #[.int .i64 at_] 2 (0, 0))
    simpa using this
  · rw [heap_alloc _ _ _ (by simp)]
    have := heap_alloc_at (w.alloc (.cells #[.pointer (some ⟨jp, 0, none⟩)] 52 (0, 0))) (.cells #[.slice ao n c] 30 (0, 0))
    simpa using this
end Go.Proofs.Ytnpeeephkkmomaa
