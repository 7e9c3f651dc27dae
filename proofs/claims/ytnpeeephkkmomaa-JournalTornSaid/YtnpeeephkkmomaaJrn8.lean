/-
  The journal, as plain data: whatever the power does, the frames ahead stand.
-/
import Derived.Test.YtnpeeephkkmomaaJrn6
namespace Go.Proofs.Ytnpeeephkkmomaa
open Go.RowKit
set_option linter.unusedVariables false
set_option linter.unusedSimpArgs false

/-- Some bytes, as far as they reach, stand at the q-th sector. -/
def Agr (pre : List UInt8) (q : Nat) (x : List UInt8) : Prop := ∀ p, p < 64 → 64 * q + p < pre.length → x[p]? = pre[64 * q + p]?
/-- They stand on the disk, and no write that waits hits them. -/
def Good (fr : Nat) (pre : List UInt8) (D : Dk) : Prop :=
  (∀ q s, D.secs[fr + q]? = some s → Agr pre q s) ∧ (∀ x ∈ D.buf, ∀ q, x.1 = fr + q → Agr pre q x.2)

theorem Agr.prefix' {a b : List UInt8} {q : Nat} {x : List UInt8} (h : Agr (a ++ b) q x) : Agr a q x := fun p hp hl => by
  rw [h p hp (by rw [List.length_append]; omega), List.getElem?_append_left hl]
theorem Good.prefix' {fr : Nat} {a b : List UInt8} {D : Dk} (h : Good fr (a ++ b) D) : Good fr a D :=
  ⟨fun q s hs => (h.1 q s hs).prefix', fun x hx q hq => (h.2 x hx q hq).prefix'⟩
theorem Good.nil (fr : Nat) (D : Dk) : Good fr [] D := ⟨fun _ _ _ _ _ h => by simp at h, fun _ _ _ _ _ _ h => by simp at h⟩

theorem lastAt_or : ∀ (l : List (Nat × List UInt8)) (i : Nat) (s : List UInt8), lastAt l i s = s ∨ ∃ x ∈ l, x.1 = i ∧ lastAt l i s = x.2
  | [], _, _ => .inl rfl
  | x :: l, i, s => by
    have h := lastAt_or l i (if x.1 = i then x.2 else s)
    have e : lastAt (x :: l) i s = lastAt l i (if x.1 = i then x.2 else s) := rfl
    rw [e]
    rcases h with h | ⟨y, hy, hi, h⟩
    · rw [h]
      by_cases hx : x.1 = i
      · rw [if_pos hx]; exact .inr ⟨x, by simp, hx, rfl⟩
      · rw [if_neg hx]; exact .inl rfl
    · exact .inr ⟨y, by simp [hy], hi, h⟩
theorem lastAt_append (a b : List (Nat × List UInt8)) (i : Nat) (s : List UInt8) : lastAt (a ++ b) i s = lastAt b i (lastAt a i s) := by simp [lastAt]
theorem settled_get : ∀ (l : List (Nat × List UInt8)) (s : List (List UInt8)) (i : Nat), (settled s l)[i]? = (s[i]?).map (fun y => lastAt l i y)
  | [], s, i => by cases h : s[i]? <;> simp [settled, lastAt, h]
  | x :: l, s, i => by
    have e : settled s (x :: l) = settled (s.set x.1 x.2) l := rfl
    rw [e, settled_get l, List.getElem?_set]
    by_cases hx : x.1 = i
    · subst hx
      rw [if_pos rfl]
      by_cases hl : x.1 < s.length
      · rw [if_pos hl, List.getElem?_eq_getElem hl]
        simp [lastAt]
      · rw [if_neg hl, List.getElem?_eq_none (by omega)]; rfl
    · rw [if_neg hx]
      cases h : s[i]? with
      | none => rfl
      | some y => simp [lastAt, hx]
theorem Good.at {fr : Nat} {pre : List UInt8} {D : Dk} (h : Good fr pre D) {l : List (Nat × List UInt8)} (hl : ∀ x ∈ l, x ∈ D.buf) {q : Nat} {s : List UInt8} (hs : D.secs[fr + q]? = some s) : Agr pre q (lastAt l (fr + q) s) := by
  rcases lastAt_or l (fr + q) s with e | ⟨x, hx, hi, e⟩
  · rw [e]; exact h.1 q s hs
  · rw [e]; exact h.2 x (hl x hx) q hi
theorem Good.told {fr : Nat} {pre : List UInt8} {D : Dk} (h : Good fr pre D) {q : Nat} (hq : fr + q < D.secs.length) : Agr pre q (D.told (fr + q)) := by
  unfold Dk.told
  rw [List.getD_eq_getElem?_getD, List.getElem?_eq_getElem hq]
  exact h.at (fun _ h => h) (List.getElem?_eq_getElem hq)
theorem Good.stl {fr : Nat} {pre : List UInt8} {D : Dk} (h : Good fr pre D) {l : List (Nat × List UInt8)} (hl : ∀ x ∈ l, x ∈ D.buf) {q : Nat} {s : List UInt8} (hs : (settled D.secs l)[fr + q]? = some s) : Agr pre q s := by
  rw [settled_get] at hs
  cases h0 : D.secs[fr + q]? with
  | none => rw [h0] at hs; cases hs
  | some y =>
    rw [h0] at hs
    simp only [Option.map_some, Option.some.injEq] at hs
    rw [← hs]; exact h.at hl h0
theorem Agr.mix {pre : List UInt8} {q t : Nat} {x s : List UInt8} (hx : Agr pre q x) (hs : Agr pre q s) (hl : x.length = 64) (ht : t ≤ 64) : Agr pre q (x.take t ++ s.drop t) := fun p hp hb => by
  have htl : (x.take t).length = t := by rw [List.length_take]; omega
  by_cases h : p < t
  · rw [List.getElem?_append_left (by omega), List.getElem?_take, if_pos h]; exact hx p hp hb
  · rw [List.getElem?_append_right (by omega), htl, List.getElem?_drop, show t + (p - t) = p by omega]; exact hs p hp hb
theorem Good.crashed {fr : Nat} {pre : List UInt8} {D : Dk} (h : Good fr pre D) (ok : D.Ok) (a b : Int) : Good fr pre (D.crashed a b) := by
  refine ⟨fun q s hs => ?_, fun x hx => by simp [Dk.crashed] at hx⟩
  unfold Dk.crashed at hs
  simp only at hs
  have hsub : ∀ n, ∀ x ∈ D.buf.take n, x ∈ D.buf := fun n x hx => List.mem_of_mem_take hx
  split at hs
  · rename_i x hx
    have hxm := List.mem_of_getElem? hx
    rw [List.getElem?_set] at hs
    split at hs
    · rename_i e
      split at hs
      · rename_i hlt
        simp only [Option.some.injEq] at hs
        rw [← hs]
        refine Agr.mix (h.2 x hxm q e) ?_ (ok.buf x hxm).2 (by unfold torn8; omega)
        rw [List.getD_eq_getElem?_getD, List.getElem?_eq_getElem hlt]
        have hs2 : (settled D.secs (D.buf.take (min (max a 0) D.buf.length).toNat))[fr + q]? = some ((settled D.secs (D.buf.take (min (max a 0) D.buf.length).toNat))[x.1]) := by rw [← e]; exact List.getElem?_eq_getElem hlt
        exact h.stl (hsub _) hs2
      · cases hs
    · exact h.stl (hsub _) hs
  · exact h.stl (hsub _) hs
theorem tells_get (D : Dk) (ok : D.Ok) (fr : Nat) : ∀ k j, fr + k ≤ D.secs.length → j < 64 * k → (D.tells fr k)[j]? = (D.told (fr + j / 64))[j % 64]?
  | 0, j, _, h => by omega
  | k + 1, j, hk, h => by
    have hl := Dk.tells_length D ok fr k (by omega)
    rw [Dk.tells_succ]
    by_cases hj : j < 64 * k
    · rw [List.getElem?_append_left (by omega)]; exact tells_get D ok fr k j (by omega) hj
    · rw [List.getElem?_append_right (by omega), hl, show j / 64 = k by omega, show j % 64 = j - 64 * k by omega]
theorem Good.tells {fr : Nat} {pre : List UInt8} {D : Dk} (h : Good fr pre D) (ok : D.Ok) (hb : fr + (pre.length + 63) / 64 ≤ D.secs.length) : (D.tells fr ((pre.length + 63) / 64)).take pre.length = pre := by
  refine List.ext_getElem? fun j => ?_
  by_cases hj : j < pre.length
  · rw [List.getElem?_take, if_pos hj, tells_get D ok fr _ j hb (by omega), h.told (q := j / 64) (by omega) (j % 64) (by omega) (by omega), show 64 * (j / 64) + j % 64 = j by omega]
  · rw [List.getElem?_eq_none (by rw [List.length_take]; omega), List.getElem?_eq_none (by omega)]

theorem pad_chunk_get (f : List UInt8) (j p : Nat) (hp : p < 64) (h : 64 * j + p < f.length) : (pad64 (chunk f j))[p]? = f[64 * j + p]? := by
  unfold pad64
  rw [List.getElem?_append_left (by rw [chunk_length]; omega)]
  unfold chunk
  rw [List.getElem?_take, if_pos hp, List.getElem?_drop]
theorem appBytes_get (D : Dk) (ok : D.Ok) (fr en : Nat) (l : List UInt8) (hi : fr + en / 64 < D.secs.length) (i : Nat) :
    (appBytes D fr en l)[i]? = if i < en % 64 then (D.told (fr + en / 64))[i]? else (frameOf l)[i - en % 64]? := by
  have hl : ((D.told (fr + en / 64)).take (en % 64)).length = en % 64 := by rw [List.length_take, told_len D ok _ hi]; omega
  unfold appBytes
  by_cases h : i < en % 64
  · rw [if_pos h, List.getElem?_append_left (by omega), List.getElem?_take, if_pos h]
  · rw [if_neg h, List.getElem?_append_right (by omega), hl]
/-- As long as not all is done: what stood ahead stands. -/
theorem Good.part {fr : Nat} {pre : List UInt8} {D E : Dk} (h : Good fr pre D) (ok : D.Ok) (l : List UInt8) (hi : fr + pre.length / 64 < D.secs.length) (k : Nat) (hs : E.secs = D.secs) (hb : E.buf = D.buf ++ wsOf (appBytes D fr pre.length l) (fr + pre.length / 64) k) : Good fr pre E := by
  refine ⟨by rw [hs]; exact h.1, fun x hx q hq => ?_⟩
  rw [hb, List.mem_append] at hx
  rcases hx with hx | hx
  · exact h.2 x hx q hq
  · simp only [wsOf, List.mem_map, List.mem_range] at hx
    obtain ⟨j, hj, rfl⟩ := hx
    simp only at hq ⊢
    intro p hp hpl
    obtain rfl : q = pre.length / 64 + j := by omega
    obtain rfl : j = 0 := by omega
    have hlen := appBytes_length D fr pre.length l ok hi
    rw [pad_chunk_get _ _ _ hp (by omega), appBytes_get D ok fr _ l hi, if_pos (by omega)]
    rw [show 64 * 0 + p = p by omega]
    have := h.told hi p hp (by omega)
    rw [this]; rfl
theorem lastAt_ws (f : List UInt8) (s0 : Nat) : ∀ (k i : Nat) (s : List UInt8), lastAt (wsOf f s0 k) i s = if s0 ≤ i ∧ i < s0 + k then pad64 (chunk f (i - s0)) else s
  | 0, i, s => by rw [wsOf_zero, if_neg (by omega)]; rfl
  | k + 1, i, s => by
    rw [wsOf_succ, lastAt_snoc, lastAt_ws f s0 k]
    by_cases h : s0 + k = i
    · rw [if_pos h, if_pos (by omega)]; simp only; rw [show i - s0 = k by omega]
    · rw [if_neg h]
      by_cases h2 : s0 ≤ i ∧ i < s0 + k
      · rw [if_pos h2, if_pos (by omega)]
      · rw [if_neg h2, if_neg (by omega)]
/-- All is done: the frame stands, too. -/
theorem Good.full {fr : Nat} {pre : List UInt8} {D E : Dk} (h : Good fr pre D) (ok : D.Ok) (l : List UInt8) (hi : fr + pre.length / 64 < D.secs.length)
    (hs : E.secs = settled D.secs (D.buf ++ wsOf (appBytes D fr pre.length l) (fr + pre.length / 64) (((appBytes D fr pre.length l).length + 63) / 64))) (hb : E.buf = []) : Good fr (pre ++ frameOf l) E := by
  refine ⟨fun q s hq => ?_, fun x hx => by rw [hb] at hx; cases hx⟩
  rw [hs, settled_get] at hq
  have hlen := appBytes_length D fr pre.length l ok hi
  cases h0 : D.secs[fr + q]? with
  | none => rw [h0] at hq; cases hq
  | some y =>
    rw [h0] at hq
    simp only [Option.map_some, Option.some.injEq] at hq
    rw [lastAt_append, lastAt_ws] at hq
    intro p hp hpl
    rw [List.length_append, frameOf_length] at hpl
    by_cases hc : fr + pre.length / 64 ≤ fr + q ∧ fr + q < fr + pre.length / 64 + ((appBytes D fr pre.length l).length + 63) / 64
    · rw [if_pos hc] at hq
      obtain ⟨j, rfl⟩ : ∃ j, q = pre.length / 64 + j := ⟨q - pre.length / 64, by omega⟩
      rw [← hq, show fr + (pre.length / 64 + j) - (fr + pre.length / 64) = j by omega, pad_chunk_get _ _ _ hp (by omega), appBytes_get D ok fr _ l hi]
      by_cases hr : 64 * j + p < pre.length % 64
      · rw [if_pos hr, List.getElem?_append_left (by omega)]
        obtain rfl : j = 0 := by omega
        rw [show 64 * 0 + p = p by omega]
        exact h.told hi p hp (by omega)
      · rw [if_neg hr, List.getElem?_append_right (by omega)]
        congr 1; omega
    · rw [if_neg hc] at hq
      rw [← hq]
      have hq2 : 64 * q + p < pre.length := by omega
      rw [List.getElem?_append_left hq2]
      exact h.at (fun _ h => h) h0 p hp hq2
theorem Good.armed {fr : Nat} {pre : List UInt8} {D : Dk} (h : Good fr pre D) (n : Int) : Good fr pre (D.armedAt n) := by
  unfold Dk.armedAt
  split
  · exact h
  · exact h
end Go.Proofs.Ytnpeeephkkmomaa
