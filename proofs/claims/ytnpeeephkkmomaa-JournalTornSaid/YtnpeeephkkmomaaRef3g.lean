/-
  The document's disk: New; the comparison 'same'.
-/
import Derived.Test.YtnpeeephkkmomaaRef3f
import Derived.Carry
namespace Go.Proofs.Ytnpeeephkkmomaa
open Go.RowKit Go.Maps Go.Proofs.YtnpeeephkkmomaaW.PrintLast
set_option linter.unusedVariables false
set_option linter.unusedSimpArgs false

def RNewPost (n : Int) (w : World) (e : Ending) (w' : World) : Prop :=
  ∃ rb mb, e = .returned (.pointer (some ⟨rb, 0, none⟩)) ∧ IsRef w' rb mb (.slice none 0 0) [] 0 (fun _ => []) (newDk n) ∧ Fr (fun _ => False) w w' ∧ w.heap.size ≤ rb ∧ w.heap.size ≤ mb

theorem zSecs_getD (m : Int) (i : Nat) (h : i < (zSecs m).length) : pad64 [] = (zSecs m).getD i [] := by
  rw [List.getD_eq_getElem?_getD, List.getElem?_eq_getElem h]
  simp [zSecs, pad64]

theorem newRef (n m : Int) (w : World) (h1 : 1 ≤ m) (h2 : m ≤ 65536) (hm : m = min (max n 1) 65536) :
    RNewPost n w (.returned (.pointer (some ⟨w.heap.size + 1, 0, none⟩))) ((w.alloc (.map #[] 0)).alloc (.cells #[.int .i64 m, .map (some w.heap.size), .slice none 0 0, .int .i64 (-1), .bool false] 95 (0, 0))) := by
  have hd : newDk n = { secs := zSecs m, buf := [], armed := -1, down := false } := by rw [newDk, hm]
  have hz : ((zSecs m).length : Int) = m := by rw [zSecs_length]; omega
  refine ⟨w.heap.size + 1, w.heap.size, rfl, ?_, ((Fr.refl _ w).alloc _).alloc _, by omega, Nat.le_refl _⟩
  rw [hd]
  refine ⟨?_, (IM.made w).fr (F := fun _ => False) ((Fr.refl _ _).alloc _) (fun h => h), World.ownsRow_nil _ _ _ _, rfl, fun j hj => by simp at hj, fun i hi => zSecs_getD m i hi, fun i => by simp, ⟨?_, ?_, zSecs_len m, by simp, by simp⟩⟩
  · have h := heap_alloc_at (w.alloc (.map #[] 0)) (.cells #[.int .i64 m, .map (some w.heap.size), .slice none 0 0, .int .i64 (-1), .bool false] 95 (0, 0))
    have e : (w.alloc (.map #[] 0)).heap.size = w.heap.size + 1 := by simp
    rw [e] at h
    simp only [hz]; exact h
  · show 1 ≤ (zSecs m).length; omega
  · show (zSecs m).length ≤ _; omega

set_option maxRecDepth 100000 in
theorem rnew_any (n : Int) (w : World) :
    Calls Try.prog 23 #[.int .i64 n] w (RNewPost n w) := by
  have hmm := @run_makeMap Try.prog
  have FIN := Lib.hid (fun m => newRef n m w)
  by_cases h1 : n < 1
  · have t1 : decide (n < 1) = true := by simp; omega
    go_enter Try.func23, Try.ntmps23
    go_wp2
    go_ret
    exact FIN.out 1 (by omega) (by omega) (by omega)
  · have t1 : decide (n < 1) = false := by simp; omega
    by_cases h2 : n > 65536
    · have t2 : decide (65536 < n) = true := by simp; omega
      go_enter Try.func23, Try.ntmps23
      go_wp2
      go_ret
      exact FIN.out 65536 (by omega) (by omega) (by omega)
    · have t2 : decide (65536 < n) = false := by simp; omega
      go_enter Try.func23, Try.ntmps23
      go_wp2
      go_ret
      exact FIN.out n (by omega) (by omega) (by omega)
end Go.Proofs.Ytnpeeephkkmomaa
