/-
  The journal and its disk, as a law's walk holds them.
-/
import Derived.Test.YtnpeeephkkmomaaJrn7
import Derived.Test.YtnpeeephkkmomaaJrn8
namespace Go.Proofs.Ytnpeeephkkmomaa
open Go.RowKit Go.Proofs.YtnpeeephkkmomaaW.PrintLast
set_option linter.unusedVariables false
set_option linter.unusedSimpArgs false

/-- What a step may turn. -/
def Aside (W : World) (X : Nat → Prop) : Nat → Prop := fun j => W.heap.size ≤ j ∧ ¬ X j
structure JHD (W w : World) (X : Nat → Prop) (n b jp : Nat) (pre : List UInt8) (en : Nat) (ct : Int) (m : Nat) (up : Prop) (lb cl : Nat) (sp : Array Value) (wv : Value) (D : Dk) : Prop where
  dk : IsDk w b lb cl sp wv D
  j : IsJ w jp b 0 n en ct
  njp : ¬ dkFoot b lb wv jp
  secs : D.secs.length = n
  good : Good 0 pre D
  buf : D.buf.length ≤ m
  own : Fr (fun _ => False) W w
  foot : ∀ j, jFoot b lb jp wv j → Aside W X j
  aside : ∀ j, X j → j < w.heap.size
  up : up → D.down = false ∧ D.armed ≤ 0
/-- The disk at block b holds pre, the journal at jp ends at en. -/
def JH (W w : World) (X : Nat → Prop) (n b jp : Nat) (pre : List UInt8) (en : Nat) (ct : Int) (m : Nat) (up : Prop) : Prop :=
  ∃ lb cl sp wv D, JHD W w X n b jp pre en ct m up lb cl sp wv D
section
variable {W w : World} {X : Nat → Prop} {n b jp : Nat} {pre : List UInt8} {en : Nat} {ct : Int} {m : Nat} {up : Prop}
theorem JH.fr {w' : World} (h : JH W w X n b jp pre en ct m up) (hf : Fr (fun _ => False) w w') : JH W w' X n b jp pre en ct m up := by
  obtain ⟨lb, cl, sp, wv, D, h⟩ := h
  exact ⟨lb, cl, sp, wv, D, h.dk.fr hf (fun _ _ h => h), h.j.fr hf (fun h => h), h.njp, h.secs, h.good, h.buf, h.own.trans hf (fun _ h => h.elim), h.foot, fun j hj => Nat.lt_of_lt_of_le (h.aside j hj) hf.size, h.up⟩
/-- A step of others', at blocks aside or new. -/
theorem JH.frX {w' : World} (h : JH W w X n b jp pre en ct m up) {F : Nat → Prop} (hf : Fr F w w') (hF : ∀ j, F j → X j ∨ w.heap.size ≤ j) (hXW : ∀ j, X j → W.heap.size ≤ j) (X' : Nat → Prop) (hX : ∀ j, X' j → (X j ∨ w.heap.size ≤ j) ∧ j < w'.heap.size) : JH W w' X' n b jp pre en ct m up := by
  obtain ⟨lb, cl, sp, wv, D, h⟩ := h
  have hlt : ∀ j, jFoot b lb jp wv j → j < w.heap.size := fun j hj => by
    rcases hj with hj | hj
    · exact h.dk.lt j hj
    · subst hj; exact lt_of_block h.j
  have hn : ∀ j, jFoot b lb jp wv j → ¬ F j := fun j hj hf => by
    rcases hF j hf with h1 | h1
    · exact (h.foot j hj).2 h1
    · have := hlt j hj; omega
  refine ⟨lb, cl, sp, wv, D, h.dk.fr hf (fun j hj => hn j (.inl hj)), h.j.fr hf (hn jp (.inr rfl)), h.njp, h.secs, h.good, h.buf, h.own.trans hf (fun j hj => ?_), fun j hj => ⟨(h.foot j hj).1, fun hx => ?_⟩, fun j hj => (hX j hj).2, h.up⟩
  · rcases hF j hj with h1 | h1
    · exact .inr (hXW j h1)
    · exact .inr (Nat.le_trans h.own.size h1)
  · rcases (hX j hx).1 with h1 | h1
    · exact (h.foot j hj).2 h1
    · have := hlt j hj; omega
theorem JH.weak (h : JH W w X n b jp pre en ct m up) {up' : Prop} (hu : up' → up) {m' : Nat} (hm : m ≤ m') : JH W w X n b jp pre en ct m' up' := by
  obtain ⟨lb, cl, sp, wv, D, h⟩ := h
  exact ⟨lb, cl, sp, wv, D, h.dk, h.j, h.njp, h.secs, h.good, Nat.le_trans h.buf hm, h.own, h.foot, h.aside, fun hx => h.up (hu hx)⟩
theorem JH.ends (h : JH W w X n b jp pre en ct m up) : Calls Try.prog 33 #[.pointer (some ⟨jp, 0, none⟩)] w fun e w' => e = .returned (.int .i64 en) ∧ w = w' := by
  obtain ⟨lb, cl, sp, wv, D, h⟩ := h
  exact j_end jp b 0 n en ct w h.j
theorem JH.counts (h : JH W w X n b jp pre en ct m up) : Calls Try.prog 34 #[.pointer (some ⟨jp, 0, none⟩)] w fun e w' => e = .returned (.int .i64 ct) ∧ w = w' := by
  obtain ⟨lb, cl, sp, wv, D, h⟩ := h
  exact j_count jp b 0 n en ct w h.j
theorem JHD.mv {lb cl : Nat} {sp : Array Value} {wv : Value} {D : Dk} (h : JHD W w X n b jp pre en ct m up lb cl sp wv D) {w' : World} {wv' : Value} (mv : Mv (jFoot b lb jp wv) (jFoot b lb jp wv') w w') :
    Fr (Aside W X) w w' ∧ Fr (fun _ => False) W w' ∧ (∀ j, jFoot b lb jp wv' j → Aside W X j) ∧ ∀ j, X j → j < w'.heap.size := by
  refine ⟨mv.fr.mono (fun j _ hj => h.foot j hj), h.own.trans mv.fr (fun j hj => .inr (h.foot j hj).1), fun j hj => ?_, fun j hj => Nat.lt_of_lt_of_le (h.aside j hj) mv.fr.size⟩
  rcases mv.piv j hj with h1 | h1
  · exact h.foot j h1
  · exact ⟨Nat.le_trans h.own.size h1, fun hx => by have := h.aside j hx; omega⟩
theorem JHD.mvD {lb cl : Nat} {sp : Array Value} {wv : Value} {D : Dk} (h : JHD W w X n b jp pre en ct m up lb cl sp wv D) {w' : World} {wv' : Value} (hf : Fr (dkFoot b lb wv) w w') (hp : ∀ j, dkFoot b lb wv' j → dkFoot b lb wv j) :
    IsJ w' jp b 0 n en ct ∧ ¬ dkFoot b lb wv' jp ∧ Fr (Aside W X) w w' ∧ Fr (fun _ => False) W w' ∧ (∀ j, jFoot b lb jp wv' j → Aside W X j) ∧ ∀ j, X j → j < w'.heap.size :=
  ⟨h.j.fr hf h.njp, fun hd => h.njp (hp _ hd), h.mv ⟨hf.mono (fun j _ hj => .inl hj), fun j hj => .inl (hj.elim (fun h => .inl (hp j h)) .inr)⟩⟩

theorem JH.append (h : JH W w X n b jp pre en ct m up) (hpre : pre.length = en) (hen : en ≤ n * 64) (hct : -1 ≤ ct ∧ ct ≤ 1099511627776) (hm : m ≤ 1099511627776) (v : Value) (l : List UInt8) (hv : IsBytes w v l) :
    Calls Try.prog 32 #[.pointer (some ⟨jp, 0, none⟩), v] w fun e w' => ∃ er : Int, e = .returned (.int .i64 er) ∧ Fr (Aside W X) w w' ∧
      ((er ≠ 0 ∧ JH W w' X n b jp pre en ct (m + 65538) False ∧ ¬ (up ∧ l.length ≤ 1048576 ∧ en + l.length + 16 ≤ n * 64) ∧ (l.length ≤ 1048576 → n * 64 < en + l.length + 16 → er = 51 ∧ JH W w' X n b jp pre en ct m up)) ∨
       (er = 0 ∧ JH W w' X n b jp (pre ++ frameOf l) (en + l.length + 16) (ct + 1) 0 up ∧ l.length ≤ 1048576 ∧ en + l.length + 16 ≤ n * 64)) := by
  obtain ⟨lb, cl, sp, wv, D, h⟩ := h
  refine (j_append jp b lb cl sp wv D 0 n en ct v l w h.dk h.j h.njp hv (Nat.zero_le _) (Nat.le_of_eq h.secs.symm) (Nat.le_trans h.buf hm) hct (by simpa using hen)).mono ?_
  rintro e w' ⟨er, wv', E, end', count', rfl, hE, hj, hnj, mv, hres⟩
  obtain ⟨f1, f2, f3, f4⟩ := h.mv mv
  refine ⟨er, rfl, f1, ?_⟩
  cases hres with
  | no k hk her he hc hs hb hwhy hz hfull =>
    subst he hc
    simp only [Nat.sub_zero] at hwhy hz hfull
    have hg : Good 0 pre E := by
      rcases hz with hz | rfl
      · refine h.good.part h.dk.ok l (by rw [hpre, h.secs]; omega) k hs ?_
        rw [hb, hpre]
      · rw [wsOf_zero, List.append_nil] at hb
        exact ⟨by rw [hs]; exact h.good.1, by rw [hb]; exact h.good.2⟩
    have hbl : E.buf.length ≤ m + 65538 := by
      have h1 := h.buf
      rw [hb, List.length_append, wsOf_length]
      rcases hz with hz | rfl
      · rw [appBytes_length D 0 _ l h.dk.ok (by rw [h.secs]; omega)] at hk
        omega
      · omega
    refine .inl ⟨her, ⟨lb, cl, sp, wv', E, hE, hj, hnj, by rw [hs]; exact h.secs, hg, hbl, f2, f3, f4, fun h => h.elim⟩, fun hh => hwhy ⟨(h.up hh.1).1, (h.up hh.1).2, hh.2⟩, fun h1 h2 => ?_⟩
    obtain ⟨e1, e2⟩ := hfull h1 h2
    subst e2
    exact ⟨e1, lb, cl, sp, wv', E, hE, hj, hnj, h.secs, h.good, h.buf, f2, f3, f4, h.up⟩
  | ok her he hc hs hb hl hf hup =>
    subst he hc
    simp only [Nat.sub_zero] at hf
    refine .inr ⟨her, ⟨lb, cl, sp, wv', E, hE, hj, hnj, ?_, ?_, by rw [hb]; simp, f2, f3, f4, fun hx => ⟨(hup (h.up hx).1 (h.up hx).2).1, by rw [(hup (h.up hx).1 (h.up hx).2).2]; exact (h.up hx).2⟩⟩, hl, hf⟩
    · rw [hs, settled_length]; exact h.secs
    · refine h.good.full h.dk.ok l (by rw [hpre, h.secs]; omega) ?_ hb
      rw [hs, hpre]
theorem JH.arm (h : JH W w X n b jp pre en ct m up) (x : Int) (hx : -9223372036854775808 ≤ x ∧ x ≤ 9223372036854775807) :
    Calls Try.prog 14 #[.pointer (some ⟨b, 0, none⟩), .int .i64 x] w fun e w' => e = .returned (.tuple #[]) ∧ JH W w' X n b jp pre en ct m False ∧ Fr (Aside W X) w w' := by
  obtain ⟨lb, cl, sp, wv, D, h⟩ := h
  refine (arm_any b lb cl sp wv D w x h.dk hx).mono ?_
  rintro e w' ⟨rfl, hE, fr⟩
  obtain ⟨j1, j2, f1, f2, f3, f4⟩ := h.mvD (wv' := wv) (fr.mono (fun j _ hj => .inl hj)) (fun _ h => h)
  refine ⟨rfl, ⟨lb, cl, sp, wv, _, hE, j1, j2, ?_, h.good.armed x, ?_, f2, f3, f4, fun h => h.elim⟩, f1⟩
  · unfold Dk.armedAt; split <;> exact h.secs
  · rw [Dk.armedAt_buf]; exact h.buf
theorem JH.crash (h : JH W w X n b jp pre en ct m up) (x y : Int) :
    Calls Try.prog 18 #[.pointer (some ⟨b, 0, none⟩), .int .i64 x, .int .i64 y] w fun e w' => e = .returned (.tuple #[]) ∧ JH W w' X n b jp pre en ct 0 True ∧ Fr (Aside W X) w w' := by
  obtain ⟨lb, cl, sp, wv, D, h⟩ := h
  refine (crash_any b lb cl sp wv D w x y h.dk).mono ?_
  rintro e w' ⟨rfl, hE, fr⟩
  obtain ⟨j1, j2, f1, f2, f3, f4⟩ := h.mvD (wv' := .slice none 0 0) (fr.mono (fun j _ hj => hj.elim .inl (fun h => .inr (.inl h)))) (fun j hj => by
    rcases hj with h | h | h
    · exact .inl h
    · exact .inr (.inl h)
    · simp [Value.ownBlock] at h)
  refine ⟨rfl, ⟨lb, cl, sp, _, _, hE, j1, j2, ?_, h.good.crashed h.dk.ok x y, by simp [Dk.crashed], f2, f3, f4, fun _ => ⟨rfl, by simp [Dk.crashed]⟩⟩, f1⟩
  unfold Dk.crashed
  simp only
  split
  · rw [List.length_set, settled_length]; exact h.secs
  · rw [settled_length]; exact h.secs
theorem JH.opens (h : JH W w X n b jp pre en ct m up) (hup : up) (ls : List (List UInt8)) (r : List UInt8) (hpre : pre = framesOf ls ++ r) (hle : (framesOf ls).length ≤ n * 64) :
    Calls Try.prog 30 #[.pointer (some ⟨b, 0, none⟩), .int .i64 0, .int .i64 n, .int .i64 (framesOf ls).length, .int .i64 ls.length] w fun e w' => ∃ jp' v, e = .returned (.tuple #[.pointer (some ⟨jp', 0, none⟩), v, .int .i64 0]) ∧ IsLists w' v ls ∧ Fr (fun _ => False) w w' := by
  obtain ⟨lb, cl, sp, wv, D, h⟩ := h
  have hg : Good 0 (framesOf ls) D := by have := h.good; rw [hpre] at this; exact this.prefix'
  refine (j_open b lb cl sp wv D 0 n (framesOf ls).length ls w h.dk (h.up hup).1 (Nat.zero_le _) (Nat.le_of_eq h.secs.symm) (by simpa using hle) (hg.tells h.dk.ok (by rw [h.secs]; omega))).mono ?_
  rintro e w' ⟨jp', v, rfl, hj, hl, hjp', fr⟩
  exact ⟨jp', v, rfl, hl, fr⟩
theorem JH.read0 (h : JH W w X n b jp pre en ct m up) (hup : up) (hn : 1 ≤ n) : Calls Try.prog 19 #[.pointer (some ⟨b, 0, none⟩), .int .i64 0] w fun e w' => ∃ sb x, e = .returned (.tuple #[.slice (some ⟨sb, 0, none⟩) 64 64, .int .i64 0]) ∧ x.length = 64 ∧ Agr pre 0 x ∧ w'.heap[sb]? = some (.cells (Bs x).toArray 87 (0, 0)) ∧ Fr (fun _ => False) w w' := by
  obtain ⟨lb, cl, sp, wv, D, h⟩ := h
  refine (read_ok b lb cl sp wv D w 0 h.dk (h.up hup).1 (by rw [h.secs]; omega)).mono ?_
  rintro e w' ⟨sb, rfl, hsb, row, fr⟩
  refine ⟨sb, _, rfl, told_len D h.dk.ok 0 (by rw [h.secs]; omega), ?_, row, fr⟩
  have := h.good.told (q := 0) (by rw [h.secs]; omega)
  exact this
end

/-- A new disk. -/
def JD (W w : World) (n b : Nat) : Prop := ∃ lb cl sp wv D, IsDk w b lb cl sp wv D ∧ D.secs.length = n ∧ D.buf = [] ∧ Fr (fun _ => False) W w ∧ (∀ j, dkFoot b lb wv j → W.heap.size ≤ j) ∧ D.down = false ∧ D.armed ≤ 0
theorem jd_new (n : Nat) (hn : 1 ≤ n ∧ n ≤ 65536) (W : World) : Calls Try.prog 12 #[.int .i64 n] W fun e w' => ∃ b : Nat, e = .returned (.pointer (some ⟨b, 0, none⟩)) ∧ JD W w' n b := by
  refine (new_any n W (by omega)).mono ?_
  rintro e w' ⟨b, lb, cl, sp, rfl, hd, fr, hb, hlb⟩
  refine ⟨b, rfl, lb, cl, sp, _, _, hd, ?_, rfl, fr, fun j hj => ?_, rfl, by simp [newDk]⟩
  · simp only [newDk, zSecs, List.length_replicate]; omega
  · rcases hj with h | h | h
    · subst h; exact hb
    · subst h; exact hlb
    · simp [Value.ownBlock] at h
theorem jd_open {W w : World} {n b : Nat} (h : JD W w n b) : Calls Try.prog 30 #[.pointer (some ⟨b, 0, none⟩), .int .i64 0, .int .i64 n, .int .i64 0, .int .i64 0] w fun e w' =>
    ∃ jp ao c, e = .returned (.tuple #[.pointer (some ⟨jp, 0, none⟩), .slice ao 0 c, .int .i64 0]) ∧ JH W w' (fun _ => False) n b jp [] 0 0 0 True := by
  obtain ⟨lb, cl, sp, wv, D, h1, h2, h3, h4, h5, h6, h7⟩ := h
  refine (j_open b lb cl sp wv D 0 n 0 [] w h1 h6 (Nat.zero_le _) (Nat.le_of_eq h2.symm) (Nat.zero_le _) (by simp [framesOf])).mono ?_
  rintro e w' ⟨jp, v, rfl, hj, hl, hjp, fr⟩
  obtain ⟨ao, c, rfl, _⟩ := hl.is
  have hnj : ¬ dkFoot b lb wv jp := fun hd => by have := h1.lt _ hd; omega
  refine ⟨jp, ao, c, rfl, lb, cl, sp, wv, D, h1.fr fr (fun _ _ h => h), hj, hnj, h2, Good.nil _ _, by rw [h3]; simp, h4.trans fr (fun _ h => h.elim), fun j hj => ⟨?_, fun h => h⟩, fun _ h => h.elim, fun _ => ⟨h6, h7⟩⟩
  rcases hj with h | h
  · exact h5 j h
  · subst h; exact Nat.le_trans h4.size hjp
end Go.Proofs.Ytnpeeephkkmomaa
