/-
  The journal: what an Append comes to; the maker of the iterator.
-/
import Derived.Test.YtnpeeephkkmomaaMB
import Derived.Test.YtnpeeephkkmomaaMA
import Derived.Shelf.Abstract
namespace Go.Proofs.Ytnpeeephkkmomaa
open Go.RowKit Go.Proofs.YtnpeeephkkmomaaW.PrintLast
set_option linter.unusedVariables false
set_option linter.unusedSimpArgs false

/-- The first k writes of some bytes from sector s on. -/
def wsOf (f : List UInt8) (s k : Nat) : List (Nat × List UInt8) := (List.range k).map fun j => (s + j, pad64 (chunk f j))
theorem wsOf_zero (f : List UInt8) (s : Nat) : wsOf f s 0 = [] := rfl
theorem wsOf_succ (f : List UInt8) (s k : Nat) : wsOf f s (k + 1) = wsOf f s k ++ [(s + k, pad64 (chunk f k))] := by simp [wsOf, List.range_succ]
theorem wsOf_length (f : List UInt8) (s k : Nat) : (wsOf f s k).length = k := by simp [wsOf]
/-- What an Append writes. -/
def appBytes (D : Dk) (from_ end_ : Nat) (l : List UInt8) : List UInt8 := (D.told (from_ + end_ / 64)).take (end_ % 64) ++ frameOf l
theorem appBytes_length (D : Dk) (from_ end_ : Nat) (l : List UInt8) (h : D.Ok) (hi : from_ + end_ / 64 < D.secs.length) : (appBytes D from_ end_ l).length = end_ % 64 + (l.length + 16) := by
  unfold appBytes
  rw [List.length_append, frameOf_length, List.length_take, told_len D h _ hi]
  omega

/-- What an Append comes to. -/
inductive AppRes (D E : Dk) (from_ to_ end_ : Nat) (count : Int) (l : List UInt8) (er end' count' : Int) : Prop
  | no (k : Nat) (hk : k ≤ ((appBytes D from_ end_ l).length + 63) / 64) (her : er ≠ 0) (he : end' = end_) (hc : count' = count) (hs : E.secs = D.secs) (hb : E.buf = D.buf ++ wsOf (appBytes D from_ end_ l) (from_ + end_ / 64) k)
      (hwhy : ¬ (D.down = false ∧ D.armed ≤ 0 ∧ l.length ≤ 1048576 ∧ end_ + l.length + 16 ≤ (to_ - from_) * 64)) (hz : l.length ≤ 1048576 ∧ end_ + l.length + 16 ≤ (to_ - from_) * 64 ∨ k = 0)
      (hfull : l.length ≤ 1048576 → (to_ - from_) * 64 < end_ + l.length + 16 → er = 51 ∧ E = D) (hlong : 1048576 < l.length → er = 3 ∧ E = D)
  | ok (her : er = 0) (he : end' = ((end_ + l.length + 16 : Nat) : Int)) (hc : count' = count + 1)
      (hs : E.secs = settled D.secs (D.buf ++ wsOf (appBytes D from_ end_ l) (from_ + end_ / 64) (((appBytes D from_ end_ l).length + 63) / 64))) (hb : E.buf = [])
      (hl : l.length ≤ 1048576) (hf : end_ + l.length + 16 ≤ (to_ - from_) * 64) (hup : D.down = false → D.armed ≤ 0 → E.down = false ∧ E.armed = D.armed)
def jFoot (b lb jp : Nat) (wv : Value) : Nat → Prop := fun j => dkFoot b lb wv j ∨ j = jp
def JAppPost (w : World) (jp b lb cl : Nat) (sp : Array Value) (wv : Value) (D : Dk) (from_ to_ end_ : Nat) (count : Int) (l : List UInt8) (e : Ending) (w' : World) : Prop :=
  ∃ (er : Int) (wv' : Value) (E : Dk) (end' count' : Int), e = .returned (.int .i64 er) ∧ IsDk w' b lb cl sp wv' E ∧ IsJ w' jp b from_ to_ end' count' ∧ ¬ dkFoot b lb wv' jp ∧ Mv (jFoot b lb jp wv) (jFoot b lb jp wv') w w' ∧
    AppRes D E from_ to_ end_ count l er end' count'

theorem IsDk.cells {w : World} {b lb cl : Nat} {sp : Array Value} {wv : Value} {D : Dk} (h : IsDk w b lb cl sp wv D) (j : Nat) (hj : dkFoot b lb wv j) : ∃ c T f, w.heap[j]? = some (.cells c T f) := by
  rcases hj with rfl | rfl | hj
  · exact ⟨_, _, _, h.head⟩
  · exact ⟨_, _, _, h.row⟩
  · rcases h.own.2 with ⟨rfl, _⟩ | ⟨g, cap, cur, rfl, _, hg, _⟩
    · cases hj
    · simp only [Value.ownBlock, Option.some.injEq] at hj
      subst hj
      exact ⟨_, _, _, hg⟩
theorem writeA_in {D : Dk} {i : Nat} {l : List UInt8} (hi : i < D.secs.length) (hl : l.length ≤ 64) : (D.down = true ∧ D.writeA i l = (32, D)) ∨ (D.down = false ∧ D.writeA i l = (0, D.written i l)) := by
  cases hd : D.down with
  | true => exact .inl ⟨rfl, by simp [Dk.writeA, Dk.may, hd]⟩
  | false =>
    refine .inr ⟨rfl, ?_⟩
    have hm : D.may i = 0 := by
      unfold Dk.may
      rw [hd, if_neg (by simp), if_neg (by omega)]
    unfold Dk.writeA
    rw [if_neg (by simpa using hm), if_neg (by omega)]
    rfl

set_option maxRecDepth 100000 in
set_option maxHeartbeats 1000000 in
theorem sec_make (jp at_ : Nat) (ao : Option Addr) (n c : Nat) (w : World) :
    Calls Try.prog 68 #[.pointer (some ⟨jp, 0, none⟩), .slice ao n c, .int .i64 at_] w fun e w' => ∃ q1 q2 q3 : Nat,
      e = .returned (.func (.func 87) #[] #[.pointer (some ⟨q1, 0, none⟩), .pointer (some ⟨q2, 0, none⟩), .pointer (some ⟨q3, 0, none⟩)]) ∧
      w'.heap[q1]? = some (.cells #[.pointer (some ⟨jp, 0, none⟩)] 52 (0, 0)) ∧ w'.heap[q2]? = some (.cells #[.int .i64 at_] 2 (0, 0)) ∧ w'.heap[q3]? = some (.cells #[.slice ao n c] 30 (0, 0)) ∧
      w.heap.size ≤ q1 ∧ w.heap.size ≤ q2 ∧ w.heap.size ≤ q3 ∧ q1 ≠ q3 ∧ q2 ≠ q3 ∧ Fr (fun _ => False) w w' := by
  go_enter Try.func68, Try.ntmps68
  go_wp2
  go_ret
  refine ⟨w.heap.size, w.heap.size + 1 + 1, w.heap.size + 1, rfl, ?_, ?_, ?_, by omega, by omega, by omega, by omega, by omega, (((Fr.refl _ w).alloc _).alloc _).alloc _⟩
  · rw [heap_alloc _ _ _ (by simp; omega), heap_alloc _ _ _ (by simp), heap_alloc_at]
  · have := heap_alloc_at ((w.alloc (.cells #[.pointer (some ⟨jp, 0, none⟩)] 52 (0, 0))).alloc (.cells #[.slice ao n c] 30 (0, 0))) (.cells #[.int .i64 at_] 2 (0, 0))
    simpa using this
  · rw [heap_alloc _ _ _ (by simp)]
    have := heap_alloc_at (w.alloc (.cells #[.pointer (some ⟨jp, 0, none⟩)] 52 (0, 0))) (.cells #[.slice ao n c] 30 (0, 0))
    simpa using this
end Go.Proofs.Ytnpeeephkkmomaa
namespace Go.Proofs.Ytnpeeephkkmomaa
open Go.RowKit
set_option linter.unusedVariables false
set_option linter.unusedSimpArgs false

section
variable (w4 : World) (b lb cl : Nat) (sp : Array Value) (wv : Value) (D : Dk) (q3 : Nat) (f : List UInt8) (s0 : Nat)
/-- What a round may turn. -/
def RG : Nat → Prop := fun j => dkFoot b lb wv j ∨ w4.heap.size ≤ j
def RDk (k : Nat) (E : Dk) (wv' : Value) (W : World) : Prop :=
  IsDk W b lb cl sp wv' E ∧ (∀ j, dkFoot b lb wv' j → RG w4 b lb wv j) ∧ E.secs = D.secs ∧ E.buf = D.buf ++ wsOf f s0 k
def RIn (k : Nat) (W : World) : Prop :=
  Fr (fun j => RG w4 b lb wv j ∨ j = q3) w4 W ∧ ∃ wv' E, RDk w4 b lb cl sp wv D f s0 k E wv' W ∧ (D.down = false → D.armed ≤ 0 → E.down = false ∧ E.armed = D.armed)
def RStop (p4 N : Nat) (W : World) : Prop :=
  ∃ er : Int, er ≠ 0 ∧ W.heap[p4]? = some (.cells #[.int .i64 er] 27 (0, 0)) ∧ Fr (fun j => (RG w4 b lb wv j ∨ j = q3) ∨ j = p4) w4 W ∧ ∃ wv' E k, k ≤ N ∧ RDk w4 b lb cl sp wv D f s0 k E wv' W ∧ ¬ (D.down = false ∧ D.armed ≤ 0)
end
section
variable {w4 : World} {b lb cl : Nat} {sp : Array Value} {wv : Value} {D : Dk} {q3 : Nat} {f : List UInt8} {s0 : Nat}
theorem RDk.fr {k : Nat} {E : Dk} {wv' : Value} {A B : World} {F : Nat → Prop} (h : RDk w4 b lb cl sp wv D f s0 k E wv' A) (hf : Fr F A B) (hF : ∀ j, F j → ¬ dkFoot b lb wv' j) : RDk w4 b lb cl sp wv D f s0 k E wv' B :=
  ⟨h.1.fr hf (fun j hj hF' => hF j hF' hj), h.2⟩
theorem RDk.not_obj {k : Nat} {E : Dk} {wv' : Value} {A : World} (h : RDk w4 b lb cl sp wv D f s0 k E wv' A) {l : Nat} {o : Obj} (hl : A.heap[l]? = some o) (ho : o.isCells = false) : ¬ dkFoot b lb wv' l := fun hj => by
  obtain ⟨c, T, g, e⟩ := h.1.cells l hj
  rw [hl] at e; cases e; cases ho
theorem RDk.not_loop {k : Nat} {E : Dk} {wv' : Value} {A : World} (h : RDk w4 b lb cl sp wv D f s0 k E wv' A) {l : Nat} {r : Loop} (hl : A.heap[l]? = some (.loop r)) : ¬ dkFoot b lb wv' l := fun hj => by
  obtain ⟨c, T, g, e⟩ := h.1.cells l hj
  rw [hl] at e; cases e
theorem RIn.st {k : Nat} {A B : World} (h : RIn w4 b lb cl sp wv D q3 f s0 k A) (hf : Fr (fun j => j = q3) A B) (hq : ¬ RG w4 b lb wv q3) : RIn w4 b lb cl sp wv D q3 f s0 k B := by
  obtain ⟨h1, wv', E, h2, h3⟩ := h
  exact ⟨h1.trans hf (fun i hi => .inl (.inr hi)), wv', E, h2.fr hf (fun j hj hd => hq (by subst hj; exact h2.2.1 _ hd)), h3⟩
theorem RIn.rec {k : Nat} {A B : World} (h : RIn w4 b lb cl sp wv D q3 f s0 k A) {l : Nat} {r : Loop} (hw : w4.heap.size ≤ l) (hl : A.heap[l]? = some (.loop r)) (hf : Fr (fun j => j = l) A B) : RIn w4 b lb cl sp wv D q3 f s0 k B := by
  obtain ⟨h1, wv', E, h2, h3⟩ := h
  exact ⟨h1.trans hf (fun i hi => by subst hi; exact .inl (.inl (.inr hw))), wv', E, h2.fr hf (fun j hj hd => by subst hj; exact h2.not_loop hl hd), h3⟩
theorem RStop.rec {p4 N : Nat} {A B : World} (h : RStop w4 b lb cl sp wv D q3 f s0 p4 N A) {l : Nat} {r : Loop} (hw : w4.heap.size ≤ l) (hl : A.heap[l]? = some (.loop r)) (hf : Fr (fun j => j = l) A B) : RStop w4 b lb cl sp wv D q3 f s0 p4 N B := by
  obtain ⟨er, h0, hp, h1, wv', E, k, hk, h2, h3⟩ := h
  refine ⟨er, h0, hf.at hp (fun e => ?_), h1.trans hf (fun i hi => by subst hi; exact .inl (.inl (.inl (.inr hw)))), wv', E, k, hk, h2.fr hf (fun j hj hd => by subst hj; exact h2.not_loop hl hd), h3⟩
  subst e; rw [hl] at hp; cases hp
theorem SecX.rec {G : Nat → Prop} {k : Nat} {args : Array Value} {A B : World} (h : SecX G f s0 k args A) {l : Nat} (hl : G l) (hf : Fr (fun j => j = l) A B) : SecX G f s0 k args B := by
  obtain ⟨ao, cap, e, hb, hn⟩ := h
  exact ⟨ao, cap, e, hb.fr hf (fun j hj e => hn j hj (e ▸ hl)), hn⟩
/-- A sector is written. -/
theorem RDk.write {k : Nat} {E : Dk} {wv' : Value} {W : World} (h : RDk w4 b lb cl sp wv D f s0 k E wv' W) (hw : w4.heap.size ≤ W.heap.size) (hd : E.down = false) (hi : s0 + k < D.secs.length) (hroom : D.buf.length + k ≤ 2932031007402) (v : Value) (hv : IsBytes W v (chunk f k)) :
    Calls Try.prog 16 #[.pointer (some ⟨b, 0, none⟩), .int .i64 ((s0 + k : Nat) : Int), v] W fun e W' => e = .returned (.int .i64 0) ∧ (∃ wv2 E2, RDk w4 b lb cl sp wv D f s0 (k + 1) E2 wv2 W' ∧ (E.armed ≤ 0 → E2.down = E.down ∧ E2.armed = E.armed)) ∧ Fr (RG w4 b lb wv) W W' ∧ NC W W' := by
  have hl : (chunk f k).length ≤ 64 := by rw [chunk_length]; omega
  have hb : E.buf.length ≤ 2932031007402 := by rw [h.2.2.2, List.length_append, wsOf_length]; exact hroom
  refine (dk_write b lb cl sp wv' E W ((s0 + k : Nat) : Int) v (chunk f k) h.1 hv hb).mono ?_
  rintro e W' ⟨rfl, wv2, hE2, mv⟩
  rcases writeA_in (D := E) (i := s0 + k) (l := chunk f k) (by rw [h.2.2.1]; exact hi) hl with ⟨hd', _⟩ | ⟨_, he⟩
  · rw [hd] at hd'; cases hd'
  · rw [he] at hE2 ⊢
    refine ⟨rfl, ⟨wv2, _, ⟨hE2, fun j hj => ?_, h.2.2.1, ?_⟩, fun ha => ?_⟩, mv.fr.mono (fun j _ hj => h.2.1 j hj), mv.fr.nc (fun j hj => h.1.cells j hj)⟩
    · rcases mv.piv j hj with h1 | h1
      · exact h.2.1 j h1
      · exact .inr (Nat.le_trans hw h1)
    · show E.buf ++ _ = _
      rw [h.2.2.2, wsOf_succ, List.append_assoc]
    · simp only [Dk.written, Dk.changed]
      rw [if_neg (by omega), if_neg (by omega)]
      exact ⟨rfl, rfl⟩
theorem RDk.write_down {k : Nat} {E : Dk} {wv' : Value} {W : World} (h : RDk w4 b lb cl sp wv D f s0 k E wv' W) (hd : E.down = true) (i : Int) (v : Value) :
    Calls Try.prog 16 #[.pointer (some ⟨b, 0, none⟩), .int .i64 i, v] W fun e W' => e = .returned (.int .i64 32) ∧ W = W' := by
  have hm : E.may i = 32 := by unfold Dk.may; rw [hd]; rfl
  have := write_may b lb cl sp wv' E W i v h.1 (by rw [hm]; decide)
  rw [hm] at this; exact this
end
end Go.Proofs.Ytnpeeephkkmomaa
namespace Go.Proofs.Ytnpeeephkkmomaa
open Go.RowKit Go.Proofs.YtnpeeephkkmomaaW.PrintLast
set_option linter.unusedVariables false
set_option linter.unusedSimpArgs false
attribute [local go_sem] Oper.semAt_some

theorem al2a (w : World) (o o' : Obj) : ((w.alloc o).alloc o').heap[w.heap.size + 1]? = some o' := by
  have := heap_alloc_at (w.alloc o) o'
  rwa [World.size_alloc] at this
theorem al2b (w : World) (o o' : Obj) : ((w.alloc o).alloc o').heap[w.heap.size]? = some o := by rw [heap_alloc _ _ _ (by simp), heap_alloc_at]
attribute [local go_sem ↓ high] al2a al2b
theorem res32 (tmps : Array Value) (p : Nat) (e : Int) (W : World) (ht : tmps.getD 4 undef = .pointer (some ⟨p, 0, none⟩)) (hp : W.heap[p]? = some (.cells #[.int .i64 e] 27 (0, 0))) :
    (results Try.f32 tmps).run Try.prog W = .ok (.int .i64 e) W := by
  have hr : Try.f32.results = #[.cell 4 27] := by kernel_rfl
  have hl : (loadVar 27 ⟨p, 0, none⟩).run Try.prog W = .ok (.int .i64 e) W := by
    go_simp
  rw [Array.getD_eq_getD_getElem?] at ht
  simp only [results, hr]
  simp [ht, asAddr, hl]
theorem app_none {jp b lb cl : Nat} {sp : Array Value} {wv : Value} {D : Dk} {from_ to_ end_ : Nat} {count : Int} {l : List UInt8} {w w' : World} (h : IsDk w b lb cl sp wv D) (hj : IsJ w jp b from_ to_ end_ count) (hjp : ¬ dkFoot b lb wv jp)
    (hf : Fr (fun _ => False) w w') (er : Int) (her : er ≠ 0) (hwhy : ¬ (D.down = false ∧ D.armed ≤ 0 ∧ l.length ≤ 1048576 ∧ end_ + l.length + 16 ≤ (to_ - from_) * 64))
    (hfull : l.length ≤ 1048576 → (to_ - from_) * 64 < end_ + l.length + 16 → er = 51) (hlong : 1048576 < l.length → er = 3) :
    JAppPost w jp b lb cl sp wv D from_ to_ end_ count l (.returned (.int .i64 er)) w' :=
  ⟨er, wv, D, end_, count, rfl, h.fr hf (fun _ _ h => h), hj.fr hf (fun h => h), hjp, ⟨hf.mono (fun _ _ h => h.elim), fun k hk => .inl hk⟩,
    .no 0 (Nat.zero_le _) her rfl rfl rfl (by rw [wsOf_zero, List.append_nil]) hwhy (.inr rfl) (fun h1 h2 => ⟨hfull h1 h2, rfl⟩) (fun h1 => ⟨hlong h1, rfl⟩)⟩
theorem w_quo (e s : Nat) (h : s = e / 64) (he : e ≤ 1099511627776) : wrap64 ((e : Int) / 64) = (s : Int) := by rw [← i64_w]; exact (IntWalk.i64_in _ (by omega)).trans (by omega)
theorem w_mul (s a : Nat) (h : a = 64 * s) (he : a ≤ 1099511627776) : wrap64 ((s : Int) * 64) = (a : Int) := by rw [← i64_w]; exact (IntWalk.i64_in _ (by omega)).trans (by omega)
theorem w_sub (e a r : Nat) (h : e = a + r) (he : e ≤ 1099511627776) : wrap64 ((e : Int) - (a : Int)) = (r : Int) := by rw [← i64_w]; exact (IntWalk.i64_in _ (by omega)).trans (by omega)
theorem w_sub' (a b : Nat) (h : a ≤ 1099511627776 ∧ b ≤ 1099511627776) : wrap64 ((a : Int) - (b : Int)) = (a : Int) - b := by rw [← i64_w]; exact IntWalk.i64_in _ (by omega)
theorem w_add (a b : Nat) (h : a + b ≤ 1099511627776) : wrap64 ((a : Int) + (b : Int)) = (a : Int) + b := by rw [← i64_w]; exact IntWalk.i64_in _ (by omega)
theorem w64 (x : Int) (h : -9223372036854775808 ≤ x ∧ x ≤ 9223372036854775807) : wrap64 x = x := by rw [← i64_w]; exact IntWalk.i64_in _ h
set_option maxRecDepth 100000 in
set_option maxHeartbeats 4000000 in
theorem j_append (jp b lb cl : Nat) (sp : Array Value) (wv : Value) (D : Dk) (from_ to_ end_ : Nat) (count : Int) (v : Value) (l : List UInt8) (w : World) (h : IsDk w b lb cl sp wv D) (hj : IsJ w jp b from_ to_ end_ count) (hjp : ¬ dkFoot b lb wv jp)
    (hv : IsBytes w v l) (hft : from_ ≤ to_) (hto : to_ ≤ D.secs.length) (hbuf : D.buf.length ≤ 1099511627776) (hcount : -1 ≤ count ∧ count ≤ 1099511627776) (hend : end_ ≤ (to_ - from_) * 64) :
    Calls Try.prog 32 #[.pointer (some ⟨jp, 0, none⟩), v] w (JAppPost w jp b lb cl sp wv D from_ to_ end_ count l) := by
  have HD := Lib.hid h
  have hmost := h.ok.most
  have HJ := Lib.hid hj
  have HV := Lib.hid hv
  have HJP := Lib.hid hjp
  obtain ⟨vo, vc, rfl, k1, k2, _⟩ := hv.is
  obtain ⟨R, hR⟩ : ∃ R, R = (to_ - from_) * 64 := ⟨_, rfl⟩
  obtain ⟨s, hs⟩ : ∃ s, s = end_ / 64 := ⟨_, rfl⟩
  obtain ⟨r, hr⟩ : ∃ r, r = end_ % 64 := ⟨_, rfl⟩
  obtain ⟨at_, hat⟩ : ∃ a, a = 64 * s := ⟨_, rfl⟩
  have hsr : end_ = at_ + r ∧ r < 64 := by omega
  have hRb : R ≤ 4194304 ∧ end_ ≤ R ∧ to_ ≤ 65536 ∧ from_ ≤ to_ := by omega
  have HB := Lib.hid (And.intro hR (And.intro hs (And.intro hr (And.intro hat (And.intro hsr (And.intro hRb (And.intro hto (And.intro hbuf hcount))))))))
  have hbs : at_ ≤ 1099511627776 ∧ end_ ≤ 1099511627776 ∧ from_ + s ≤ 1099511627776 ∧ R ≤ 1099511627776 ∧ s = at_ / 64 := by omega
  have A1 := congrArg (Value.int .i64) (w_quo end_ s hs hbs.2.1)
  have A2 := congrArg (Value.int .i64) (w_mul s at_ hat hbs.1)
  have A3 := congrArg (Value.int .i64) (w_sub end_ at_ r hsr.1 hbs.2.1)
  have A4 := congrArg (Value.int .i64) (w_quo at_ s hbs.2.2.2.2 hbs.1)
  have A5 := congrArg (Value.int .i64) (w_add from_ s hbs.2.2.1)
  have A6 := congrArg (Value.int .i64) (w_sub' R end_ ⟨hbs.2.2.2.1, hbs.2.1⟩)
  clear hbs
  have HK := Lib.hid k1; have HK2 := Lib.hid k2
  unfold IsJ at hj
  clear h hmost hv hjp hft hto hbuf hcount hend k1 k2 hR hs hr hat hsr hRb
  refine (callsIn_wide (n := 3)).1 (callsIn_of_wp_marks Try.func32 rfl trivial ?_ rfl)
  refine wp_retPost ?_
  simp only [Try.ntmps32, List.size_toArray, List.length_cons, List.length_nil, Nat.reduceAdd, Nat.reduceSub, Array.replicate_succ, Array.replicate_zero, List.push_toArray, List.append_toArray, List.nil_append, List.cons_append]
  by_cases hlong : 1048576 < l.length
  · have t1 : decide (1048576 < (l.length : Int)) = true := by simp; omega
    have t1n : decide (1048576 < l.length) = true := by simp; omega
    go_wp2
    refine bodyPostM_ret0 (res32 _ (w.heap.size + 1) 3 _ rfl (al2a _ _ _)) ?_
    exact app_none HD.out HJ.out HJP.out (((Fr.refl _ w).alloc _).alloc _) 3 (by decide) (fun h => by omega) (fun h => by omega) (fun _ => rfl)
  · have t1 : decide (1048576 < (l.length : Int)) = false := by simp; omega
    have t1n : decide (1048576 < l.length) = false := by simp; omega
    have A7 : Value.int .i64 (wrap64 ((l.length : Int) + 16)) = Value.int .i64 ((l.length : Int) + 16) := congrArg (Value.int .i64) (w_add l.length 16 (by omega))
    go_wp2
    obtain ⟨W0, hW0⟩ : ∃ W0, W0 = (w.alloc (.cells #[.pointer (some ⟨jp, 0, none⟩)] 52 (0, 0))).alloc (.cells #[.int .i64 0] 27 (0, 0)) := ⟨_, rfl⟩
    rw [← hW0]
    have hbx0 : W0.drew.heap[w.heap.size]? = some (.cells #[.pointer (some ⟨jp, 0, none⟩)] 52 (0, 0)) := by rw [hW0]; exact al2b _ _ _
    have hrs0 : W0.drew.heap[w.heap.size + 1]? = some (.cells #[.int .i64 0] 27 (0, 0)) := by rw [hW0]; exact al2a _ _ _
    have hf0 : Fr (fun _ => False) w W0.drew := by rw [hW0]; exact (((Fr.refl _ w).alloc _).alloc _).drew
    have hj0 := hf0.at hj (fun h => h)
    have HJ0 : Hid (IsJ W0.drew jp b from_ to_ end_ count) := Lib.hid hj0
    have HRS0 := Lib.hid hrs0; have HF0 := Lib.hid hf0; have HW0 := Lib.hid hW0
    clear hW0 hrs0 hf0
    have HLL := Lib.hid hlong
    clear hlong
    by_cases hfit : R < end_ + l.length + 16
    · have HFIT := Lib.hid hfit
      have t2 : decide ((R : Int) - (end_ : Int) < (l.length : Int) + 16) = true := by simp; omega
      clear hfit
      refine start_ (n := 11) (S := fun w' => w'.heap[w.heap.size]? = some (.cells #[.pointer (some ⟨jp, 0, none⟩)] 52 (0, 0)) ∧ w'.heap[jp]? = some (.cells #[.pointer (some ⟨b, 0, none⟩), .int .i64 from_, .int .i64 to_, .int .i64 end_, .int .i64 count] 100 (0, 0))) (ds := []) #[false, false, false, false, false, false, false, false, false, false, false] (by kernel_rfl) rfl rfl ⟨hbx0, hj0⟩ (fun hHeld => ?_)
      refine pure_ (i := 0) (N := some 18) (v := ?_) (a' := ?_) #[true, false, false, false, false, false, false, false, false, false, false] rfl rfl (by kernel_rfl) (fun _ _ _ h => h) (Or.inl ⟨by rfl, ?_⟩) ?_ ?_
      rotate_left
      · intro w'
        try simp only [List.getElem_toArray, List.getElem_cons_succ, List.getElem_cons_zero]
        go_simp
        with_reducible rfl
      rotate_left
      · simp only [Act.put, List.setIfInBounds_toArray, List.set_cons_zero, List.set_cons_succ, i64_w, i32_w]
        rfl
      refine pure_ (i := 1) (N := some 19) (v := ?_) (a' := ?_) #[true, true, false, false, false, false, false, false, false, false, false] rfl rfl (by kernel_rfl) (fun _ _ _ h => h) (Or.inl ⟨by rfl, ?_⟩) ?_ ?_
      rotate_left
      · intro w'
        try simp only [List.getElem_toArray, List.getElem_cons_succ, List.getElem_cons_zero]
        go_simp
        with_reducible rfl
      rotate_left
      · simp only [Act.put, List.setIfInBounds_toArray, List.set_cons_zero, List.set_cons_succ, i64_w, i32_w]
        rfl
      refine pure_ (i := 2) (N := some 20) (v := ?_) (a' := ?_) #[true, true, true, false, false, false, false, false, false, false, false] rfl rfl (by kernel_rfl) (fun _ _ _ h => h) (Or.inl ⟨by rfl, ?_⟩) ?_ ?_
      rotate_left
      · intro w'
        try simp only [List.getElem_toArray, List.getElem_cons_succ, List.getElem_cons_zero]
        go_simp
        with_reducible rfl
      rotate_left
      · simp only [Act.put, List.setIfInBounds_toArray, List.set_cons_zero, List.set_cons_succ, i64_w, i32_w]
        rfl
      refine take_ (i := 3) (N := some 21) (v := ?_) (a' := ?_) #[true, true, true, true, false, false, false, false, false, false, false] rfl rfl (by kernel_rfl) (fun _ _ _ h => h) (Or.inl ⟨by rfl, ?_⟩) hHeld ?_ ?_
      rotate_left
      · rintro w' ⟨s0, s1⟩
        try simp only [List.getElem_toArray, List.getElem_cons_succ, List.getElem_cons_zero]
        go_simp
        with_reducible rfl
      rotate_left
      · simp only [Act.put, List.setIfInBounds_toArray, List.set_cons_zero, List.set_cons_succ, i64_w, i32_w]
        rfl
      refine take_ (i := 5) (N := some 23) (v := ?_) (a' := ?_) #[true, true, true, true, false, true, false, false, false, false, false] rfl rfl (by kernel_rfl) (fun _ _ _ h => h) (Or.inl ⟨by rfl, ?_⟩) hHeld ?_ ?_
      rotate_left
      · rintro w' ⟨s0, s1⟩
        try simp only [List.getElem_toArray, List.getElem_cons_succ, List.getElem_cons_zero]
        go_simp
        with_reducible rfl
      rotate_left
      · simp only [Act.put, List.setIfInBounds_toArray, List.set_cons_zero, List.set_cons_succ, i64_w, i32_w]
        rfl
      refine pure_ (i := 6) (N := some 24) (v := ?_) (a' := ?_) #[true, true, true, true, false, true, true, false, false, false, false] rfl rfl (by kernel_rfl) (fun _ _ _ h => h) (Or.inl ⟨by rfl, ?_⟩) ?_ ?_
      rotate_left
      · intro w'
        try simp only [List.getElem_toArray, List.getElem_cons_succ, List.getElem_cons_zero]
        go_simp
        with_reducible rfl
      rotate_left
      · simp only [Act.put, List.setIfInBounds_toArray, List.set_cons_zero, List.set_cons_succ, i64_w, i32_w]
        rfl
      refine pure_ (i := 7) (N := some 25) (v := ?_) (a' := ?_) #[true, true, true, true, false, true, true, true, false, false, false] rfl rfl (by kernel_rfl) (fun _ _ _ h => h) (Or.inl ⟨by rfl, ?_⟩) ?_ ?_
      rotate_left
      · intro w'
        try simp only [List.getElem_toArray, List.getElem_cons_succ, List.getElem_cons_zero]
        go_simp
        with_reducible rfl
      rotate_left
      · simp only [Act.put, List.setIfInBounds_toArray, List.set_cons_zero, List.set_cons_succ, i64_w, i32_w]
        rfl
      refine take_ (i := 8) (N := some 26) (v := ?_) (a' := ?_) #[true, true, true, true, false, true, true, true, true, false, false] rfl rfl (by kernel_rfl) (fun _ _ _ h => h) (Or.inl ⟨by rfl, ?_⟩) hHeld ?_ ?_
      rotate_left
      · rintro w' ⟨s0, s1⟩
        try simp only [List.getElem_toArray, List.getElem_cons_succ, List.getElem_cons_zero]
        go_simp
        with_reducible rfl
      rotate_left
      · simp only [Act.put, List.setIfInBounds_toArray, List.set_cons_zero, List.set_cons_succ, i64_w, i32_w]
        rfl
      refine one_ (i := 4) (N := some 22) #[true, true, true, true, true, true, true, true, true, false, false] rfl rfl (by kernel_rfl) (by decide) (fun K hK => ?_)
      refine goes_ Try.func58 (by kernel_rfl) rfl #[.pointer (some ⟨jp, 0, none⟩)] (by rfl) rfl rfl (by simp only [List.map_toArray, List.map_cons, List.map_nil]; rfl) ?_
      with_reducible refine (j_room jp b from_ to_ end_ count W0.drew HJ0.out HB.out.2.2.2.2.2.1.2.2.2 HB.out.2.2.2.2.2.1.2.2.1).mono ?_
      rintro e w2 ⟨rfl, fr2⟩
      refine ⟨_, rfl, ?_⟩
      rw [← HB.out.1]
      have hbx2 := fr2.at hbx0 (fun h => h)
      have hj2 := fr2.at hj0 (fun h => h)
      have HF2 := Lib.hid fr2
      have hrs2 := fr2.at HRS0.out (fun h => h)
      refine hK.out _ _ ⟨hbx2, hj2⟩ (fun hHeld => ?_)
      clear hK K
      refine norm_ (a' := ?_) ?_ ?_
      rotate_left
      · show Act.put _ (some 22) _ = _
        simp only [Act.put, List.setIfInBounds_toArray, List.set_cons_zero, List.set_cons_succ, i64_w, i32_w]
        rfl
      refine pure_ (i := 9) (N := some 27) (v := ?_) (a' := ?_) #[true, true, true, true, true, true, true, true, true, true, false] rfl rfl (by kernel_rfl) (fun _ _ _ h => h) (Or.inl ⟨by rfl, ?_⟩) ?_ ?_
      rotate_left
      · intro w'
        try simp only [List.getElem_toArray, List.getElem_cons_succ, List.getElem_cons_zero]
        go_simp
        with_reducible rfl
      rotate_left
      · simp only [Act.put, List.setIfInBounds_toArray, List.set_cons_zero, List.set_cons_succ, i64_w, i32_w]
        rfl
      refine pure_ (i := 10) (N := some 28) (v := ?_) (a' := ?_) #[true, true, true, true, true, true, true, true, true, true, true] rfl rfl (by kernel_rfl) (fun _ _ _ h => h) (Or.inl ⟨by rfl, ?_⟩) ?_ ?_
      rotate_left
      · intro w'
        try simp only [List.getElem_toArray, List.getElem_cons_succ, List.getElem_cons_zero]
        go_simp
        with_reducible rfl
      rotate_left
      · simp only [Act.put, List.setIfInBounds_toArray, List.set_cons_zero, List.set_cons_succ, i64_w, i32_w]
        rfl
      refine done_ (by kernel_rfl) ?_

      go_wp2
      have hff : Fr (fun _ => False) w (w2.setCell ⟨w.heap.size + 1, 0, none⟩ (.int .i64 51)) := (HF0.out.trans HF2.out (fun _ h => h.elim)).setCell _ (.inr (by show w.heap.size ≤ w.heap.size + 1; omega))
      refine bodyPostM_ret0 (res32 _ (w.heap.size + 1) 51 _ rfl (by rw [heap_setCell_self, hrs2]; rfl)) ?_
      exact app_none HD.out HJ.out HJP.out hff 51 (by decide) (fun h => by have := HFIT.out; have := HB.out.1; omega) (fun _ _ => rfl) (fun h => by have := HLL.out; omega)
    · have HFIT := Lib.hid hfit
      have t2 : decide ((R : Int) - (end_ : Int) < (l.length : Int) + 16) = false := by simp; omega
      clear hfit
      refine start_ (n := 11) (S := fun w' => w'.heap[w.heap.size]? = some (.cells #[.pointer (some ⟨jp, 0, none⟩)] 52 (0, 0)) ∧ w'.heap[jp]? = some (.cells #[.pointer (some ⟨b, 0, none⟩), .int .i64 from_, .int .i64 to_, .int .i64 end_, .int .i64 count] 100 (0, 0))) (ds := []) #[false, false, false, false, false, false, false, false, false, false, false] (by kernel_rfl) rfl rfl ⟨hbx0, hj0⟩ (fun hHeld => ?_)
      refine pure_ (i := 0) (N := some 18) (v := ?_) (a' := ?_) #[true, false, false, false, false, false, false, false, false, false, false] rfl rfl (by kernel_rfl) (fun _ _ _ h => h) (Or.inl ⟨by rfl, ?_⟩) ?_ ?_
      rotate_left
      · intro w'
        try simp only [List.getElem_toArray, List.getElem_cons_succ, List.getElem_cons_zero]
        go_simp
        with_reducible rfl
      rotate_left
      · simp only [Act.put, List.setIfInBounds_toArray, List.set_cons_zero, List.set_cons_succ, i64_w, i32_w]
        rfl
      refine pure_ (i := 1) (N := some 19) (v := ?_) (a' := ?_) #[true, true, false, false, false, false, false, false, false, false, false] rfl rfl (by kernel_rfl) (fun _ _ _ h => h) (Or.inl ⟨by rfl, ?_⟩) ?_ ?_
      rotate_left
      · intro w'
        try simp only [List.getElem_toArray, List.getElem_cons_succ, List.getElem_cons_zero]
        go_simp
        with_reducible rfl
      rotate_left
      · simp only [Act.put, List.setIfInBounds_toArray, List.set_cons_zero, List.set_cons_succ, i64_w, i32_w]
        rfl
      refine pure_ (i := 2) (N := some 20) (v := ?_) (a' := ?_) #[true, true, true, false, false, false, false, false, false, false, false] rfl rfl (by kernel_rfl) (fun _ _ _ h => h) (Or.inl ⟨by rfl, ?_⟩) ?_ ?_
      rotate_left
      · intro w'
        try simp only [List.getElem_toArray, List.getElem_cons_succ, List.getElem_cons_zero]
        go_simp
        with_reducible rfl
      rotate_left
      · simp only [Act.put, List.setIfInBounds_toArray, List.set_cons_zero, List.set_cons_succ, i64_w, i32_w]
        rfl
      refine take_ (i := 3) (N := some 21) (v := ?_) (a' := ?_) #[true, true, true, true, false, false, false, false, false, false, false] rfl rfl (by kernel_rfl) (fun _ _ _ h => h) (Or.inl ⟨by rfl, ?_⟩) hHeld ?_ ?_
      rotate_left
      · rintro w' ⟨s0, s1⟩
        try simp only [List.getElem_toArray, List.getElem_cons_succ, List.getElem_cons_zero]
        go_simp
        with_reducible rfl
      rotate_left
      · simp only [Act.put, List.setIfInBounds_toArray, List.set_cons_zero, List.set_cons_succ, i64_w, i32_w]
        rfl
      refine take_ (i := 5) (N := some 23) (v := ?_) (a' := ?_) #[true, true, true, true, false, true, false, false, false, false, false] rfl rfl (by kernel_rfl) (fun _ _ _ h => h) (Or.inl ⟨by rfl, ?_⟩) hHeld ?_ ?_
      rotate_left
      · rintro w' ⟨s0, s1⟩
        try simp only [List.getElem_toArray, List.getElem_cons_succ, List.getElem_cons_zero]
        go_simp
        with_reducible rfl
      rotate_left
      · simp only [Act.put, List.setIfInBounds_toArray, List.set_cons_zero, List.set_cons_succ, i64_w, i32_w]
        rfl
      refine pure_ (i := 6) (N := some 24) (v := ?_) (a' := ?_) #[true, true, true, true, false, true, true, false, false, false, false] rfl rfl (by kernel_rfl) (fun _ _ _ h => h) (Or.inl ⟨by rfl, ?_⟩) ?_ ?_
      rotate_left
      · intro w'
        try simp only [List.getElem_toArray, List.getElem_cons_succ, List.getElem_cons_zero]
        go_simp
        with_reducible rfl
      rotate_left
      · simp only [Act.put, List.setIfInBounds_toArray, List.set_cons_zero, List.set_cons_succ, i64_w, i32_w]
        rfl
      refine pure_ (i := 7) (N := some 25) (v := ?_) (a' := ?_) #[true, true, true, true, false, true, true, true, false, false, false] rfl rfl (by kernel_rfl) (fun _ _ _ h => h) (Or.inl ⟨by rfl, ?_⟩) ?_ ?_
      rotate_left
      · intro w'
        try simp only [List.getElem_toArray, List.getElem_cons_succ, List.getElem_cons_zero]
        go_simp
        with_reducible rfl
      rotate_left
      · simp only [Act.put, List.setIfInBounds_toArray, List.set_cons_zero, List.set_cons_succ, i64_w, i32_w]
        rfl
      refine take_ (i := 8) (N := some 26) (v := ?_) (a' := ?_) #[true, true, true, true, false, true, true, true, true, false, false] rfl rfl (by kernel_rfl) (fun _ _ _ h => h) (Or.inl ⟨by rfl, ?_⟩) hHeld ?_ ?_
      rotate_left
      · rintro w' ⟨s0, s1⟩
        try simp only [List.getElem_toArray, List.getElem_cons_succ, List.getElem_cons_zero]
        go_simp
        with_reducible rfl
      rotate_left
      · simp only [Act.put, List.setIfInBounds_toArray, List.set_cons_zero, List.set_cons_succ, i64_w, i32_w]
        rfl
      refine one_ (i := 4) (N := some 22) #[true, true, true, true, true, true, true, true, true, false, false] rfl rfl (by kernel_rfl) (by decide) (fun K hK => ?_)
      refine goes_ Try.func58 (by kernel_rfl) rfl #[.pointer (some ⟨jp, 0, none⟩)] (by rfl) rfl rfl (by simp only [List.map_toArray, List.map_cons, List.map_nil]; rfl) ?_
      with_reducible refine (j_room jp b from_ to_ end_ count W0.drew HJ0.out HB.out.2.2.2.2.2.1.2.2.2 HB.out.2.2.2.2.2.1.2.2.1).mono ?_
      rintro e w2 ⟨rfl, fr2⟩
      refine ⟨_, rfl, ?_⟩
      rw [← HB.out.1]
      have hbx2 := fr2.at hbx0 (fun h => h)
      have hj2 := fr2.at hj0 (fun h => h)
      have HF2 := Lib.hid fr2
      have hrs2 := fr2.at HRS0.out (fun h => h)
      refine hK.out _ _ ⟨hbx2, hj2⟩ (fun hHeld => ?_)
      clear hK K
      refine norm_ (a' := ?_) ?_ ?_
      rotate_left
      · show Act.put _ (some 22) _ = _
        simp only [Act.put, List.setIfInBounds_toArray, List.set_cons_zero, List.set_cons_succ, i64_w, i32_w]
        rfl
      refine pure_ (i := 9) (N := some 27) (v := ?_) (a' := ?_) #[true, true, true, true, true, true, true, true, true, true, false] rfl rfl (by kernel_rfl) (fun _ _ _ h => h) (Or.inl ⟨by rfl, ?_⟩) ?_ ?_
      rotate_left
      · intro w'
        try simp only [List.getElem_toArray, List.getElem_cons_succ, List.getElem_cons_zero]
        go_simp
        with_reducible rfl
      rotate_left
      · simp only [Act.put, List.setIfInBounds_toArray, List.set_cons_zero, List.set_cons_succ, i64_w, i32_w]
        rfl
      refine pure_ (i := 10) (N := some 28) (v := ?_) (a' := ?_) #[true, true, true, true, true, true, true, true, true, true, true] rfl rfl (by kernel_rfl) (fun _ _ _ h => h) (Or.inl ⟨by rfl, ?_⟩) ?_ ?_
      rotate_left
      · intro w'
        try simp only [List.getElem_toArray, List.getElem_cons_succ, List.getElem_cons_zero]
        go_simp
        with_reducible rfl
      rotate_left
      · simp only [Act.put, List.setIfInBounds_toArray, List.set_cons_zero, List.set_cons_succ, i64_w, i32_w]
        rfl
      refine done_ (by kernel_rfl) ?_

      have hV2 : Hid (IsBytes w2 (.slice vo l.length vc) l) := Lib.hid (HV.out.fr (HF0.out.trans HF2.out (fun _ h => h.elim)) (fun _ _ h => h))
      obtain ⟨e1, he1⟩ : ∃ e1, e1 = end_ + (l.length + 16) := ⟨_, rfl⟩
      have HE1 := Lib.hid he1
      have A8 : Value.int .i64 (wrap64 ((end_ : Int) + ((l.length : Int) + 16))) = Value.int .i64 (e1 : Int) := by
        rw [w64 _ (by have := HLL.out; have := HB.out.2.2.2.2.2.1; omega)]; congr 1; omega
      clear he1
      obtain ⟨f, hf⟩ : ∃ f, f = appBytes D from_ end_ l := ⟨_, rfl⟩
      have HFE := Lib.hid hf
      clear hf
      by_cases hr0 : 0 < r
      · have t3 : decide (0 < (r : Int)) = true := by simp; omega
        have t3n : decide (0 < r) = true := by simp; omega
        have HR0 := Lib.hid hr0
        obtain ⟨i0, hi0⟩ : ∃ i0, i0 = from_ + s := ⟨_, rfl⟩
        have HI0 := Lib.hid hi0
        have A5b : Value.int .i64 ((from_ : Int) + (s : Int)) = Value.int .i64 (i0 : Int) := by congr 1; omega
        have hi0b : i0 < D.secs.length := by have h1 := HFIT.out; have h2 := HB.out.2.2.2.2.2.1; have h3 := HB.out.1; have h4 := HB.out.2.2.2.2.2.2.1; have h5 := HB.out.2.1; omega
        have htl := told_len D HD.out.ok i0 hi0b
        have HI0B := Lib.hid hi0b; have HTL := Lib.hid htl
        have hfe : [(D.told i0).take r, frameOf l].flatten = f := by
          rw [HFE.out]; unfold appBytes
          rw [← HB.out.2.2.1, ← HB.out.2.1, ← hi0]; simp
        have HFEB := Lib.hid hfe
        have hflb0 : f.length ≤ 4194304 := by rw [← hfe]; simp [frameOf_length]; have := HLL.out; omega
        have HFLB0 := Lib.hid hflb0
        have hrl : ((D.told i0).take r).length = r := by rw [List.length_take, htl]; have := HB.out.2.2.2.2.1.2; omega
        have HRL := Lib.hid hrl
        clear hr0 hi0 hi0b htl hfe hflb0 hrl
        go_wp2_with (first
          | (go_at_call 66; refine (j_frame (.slice vo l.length vc) l w2 hV2.out (by have := HLL.out; omega)).mono ?_; rintro e wa ⟨va, rfl, ba, na, fa⟩; obtain ⟨aoa, capa, rfl⟩ := ba.slice; rw [frameOf_length] at ba na ⊢; have HBa := Lib.hid ba; have HNa := Lib.hid na; have HFa := Lib.hid fa; have hbxa := fa.at hbx2 (fun h => h); have hja := fa.at hj2 (fun h => h); have hrsa := fa.at hrs2 (fun h => h); clear ba na fa))
        have hda : Fr (fun _ => False) w wa.drew := ((HF0.out.trans HF2.out (fun _ h => h.elim)).trans HFa.out (fun _ h => h.elim)).drew
        have HDA := Lib.hid (HD.out.fr hda (fun _ _ h => h))
        have HWA := Lib.hid hda
        have hbxd : wa.drew.heap[w.heap.size]? = some (.cells #[.pointer (some ⟨jp, 0, none⟩)] 52 (0, 0)) := hbxa
        have hjd : wa.drew.heap[jp]? = some (.cells #[.pointer (some ⟨b, 0, none⟩), .int .i64 from_, .int .i64 to_, .int .i64 end_, .int .i64 count] 100 (0, 0)) := hja
        have hrsd : wa.drew.heap[w.heap.size + 1]? = some (.cells #[.int .i64 0] 27 (0, 0)) := hrsa
        clear hda
        simp only [A3, A8]
        have HB45 : Hid (wrap64 ((at_ : Int) / 64) = (s : Int) ∧ wrap64 ((from_ : Int) + (s : Int)) = (i0 : Int)) := Lib.hid ⟨(Value.int.inj A4).2, by have h := (Value.int.inj A5).2; rw [h]; have := HI0.out; omega⟩
        cases hdd : D.down with
        | true =>
          have hm32 : D.may i0 = 32 := by unfold Dk.may; rw [hdd]; rfl
          have HRM : Hid (Calls Try.prog 19 #[.pointer (some ⟨b, 0, none⟩), .int .i64 (wrap64 ((from_ : Int) + (s : Int)))] wa.drew fun e w' => e = .returned (.tuple #[.slice none 0 0, .int .i64 32]) ∧ wa.drew = w') := Lib.hid (by
            have := read_may b lb cl sp wv D wa.drew i0 HDA.out (by rw [hm32]; decide)
            rw [hm32] at this; rw [HB45.out.2]; exact this)
          clear hm32
          refine start_ (n := 17) (S := fun w' => w'.heap[w.heap.size]? = some (.cells #[.pointer (some ⟨jp, 0, none⟩)] 52 (0, 0)) ∧ w'.heap[jp]? = some (.cells #[.pointer (some ⟨b, 0, none⟩), .int .i64 from_, .int .i64 to_, .int .i64 end_, .int .i64 count] 100 (0, 0))) (ds := []) #[false, false, false, false, false, false, false, false, false, false, false, false, false, false, false, false, false] (by kernel_rfl) rfl rfl ⟨hbxd, hjd⟩ (fun hHeld => ?_)
          refine pure_ (i := 8) (N := some 61) (v := ?_) (a' := ?_) #[false, false, false, false, false, false, false, false, true, false, false, false, false, false, false, false, false] rfl rfl (by kernel_rfl) (fun _ _ _ h => h) (Or.inl ⟨by rfl, ?_⟩) ?_ ?_
          rotate_left
          · intro w'
            try simp only [List.getElem_toArray, List.getElem_cons_succ, List.getElem_cons_zero]
            go_simp
            with_reducible rfl
          rotate_left
          · simp only [Act.put, List.setIfInBounds_toArray, List.set_cons_zero, List.set_cons_succ, i64_w, i32_w]
            rfl
          refine pure_ (i := 9) (N := some 62) (v := ?_) (a' := ?_) #[false, false, false, false, false, false, false, false, true, true, false, false, false, false, false, false, false] rfl rfl (by kernel_rfl) (fun _ _ _ h => h) (Or.inl ⟨by rfl, ?_⟩) ?_ ?_
          rotate_left
          · intro w'
            try simp only [List.getElem_toArray, List.getElem_cons_succ, List.getElem_cons_zero]
            go_simp
            with_reducible rfl
          rotate_left
          · simp only [Act.put, List.setIfInBounds_toArray, List.set_cons_zero, List.set_cons_succ, i64_w, i32_w]
            rfl
          refine take_ (i := 0) (N := some 53) (v := ?_) (a' := ?_) #[true, false, false, false, false, false, false, false, true, true, false, false, false, false, false, false, false] rfl rfl (by kernel_rfl) (fun _ _ _ h => h) (Or.inl ⟨by rfl, ?_⟩) hHeld ?_ ?_
          rotate_left
          · rintro w' ⟨s0, s1⟩
            try simp only [List.getElem_toArray, List.getElem_cons_succ, List.getElem_cons_zero]
            go_simp
            with_reducible rfl
          rotate_left
          · simp only [Act.put, List.setIfInBounds_toArray, List.set_cons_zero, List.set_cons_succ, i64_w, i32_w]
            rfl
          refine pure_ (i := 1) (N := some 54) (v := ?_) (a' := ?_) #[true, true, false, false, false, false, false, false, true, true, false, false, false, false, false, false, false] rfl rfl (by kernel_rfl) (fun _ _ _ h => h) (Or.inl ⟨by rfl, ?_⟩) ?_ ?_
          rotate_left
          · intro w'
            try simp only [List.getElem_toArray, List.getElem_cons_succ, List.getElem_cons_zero]
            go_simp
            with_reducible rfl
          rotate_left
          · simp only [Act.put, List.setIfInBounds_toArray, List.set_cons_zero, List.set_cons_succ, i64_w, i32_w]
            rfl
          refine pure_ (i := 2) (N := some 55) (v := ?_) (a' := ?_) #[true, true, true, false, false, false, false, false, true, true, false, false, false, false, false, false, false] rfl rfl (by kernel_rfl) (fun _ _ _ h => h) (Or.inl ⟨by rfl, ?_⟩) ?_ ?_
          rotate_left
          · intro w'
            try simp only [List.getElem_toArray, List.getElem_cons_succ, List.getElem_cons_zero]
            go_simp
            with_reducible rfl
          rotate_left
          · simp only [Act.put, List.setIfInBounds_toArray, List.set_cons_zero, List.set_cons_succ, i64_w, i32_w]
            rfl
          refine take_ (i := 3) (N := some 56) (v := ?_) (a' := ?_) #[true, true, true, true, false, false, false, false, true, true, false, false, false, false, false, false, false] rfl rfl (by kernel_rfl) (fun _ _ _ h => h) (Or.inl ⟨by rfl, ?_⟩) hHeld ?_ ?_
          rotate_left
          · rintro w' ⟨s0, s1⟩
            try simp only [List.getElem_toArray, List.getElem_cons_succ, List.getElem_cons_zero]
            go_simp
            with_reducible rfl
          rotate_left
          · simp only [Act.put, List.setIfInBounds_toArray, List.set_cons_zero, List.set_cons_succ, i64_w, i32_w]
            rfl
          refine take_ (i := 4) (N := some 57) (v := ?_) (a' := ?_) #[true, true, true, true, true, false, false, false, true, true, false, false, false, false, false, false, false] rfl rfl (by kernel_rfl) (fun _ _ _ h => h) (Or.inl ⟨by rfl, ?_⟩) hHeld ?_ ?_
          rotate_left
          · rintro w' ⟨s0, s1⟩
            try simp only [List.getElem_toArray, List.getElem_cons_succ, List.getElem_cons_zero]
            go_simp
            with_reducible rfl
          rotate_left
          · simp only [Act.put, List.setIfInBounds_toArray, List.set_cons_zero, List.set_cons_succ, i64_w, i32_w]
            rfl
          refine pure_ (i := 5) (N := some 58) (v := ?_) (a' := ?_) #[true, true, true, true, true, true, false, false, true, true, false, false, false, false, false, false, false] rfl rfl (by kernel_rfl) (fun _ _ _ h => h) (Or.inl ⟨by rfl, ?_⟩) ?_ ?_
          rotate_left
          · intro w'
            try simp only [List.getElem_toArray, List.getElem_cons_succ, List.getElem_cons_zero]
            go_simp
            with_reducible rfl
          rotate_left
          · simp only [Act.put, List.setIfInBounds_toArray, List.set_cons_zero, List.set_cons_succ, i64_w, i32_w]
            rfl
          refine pure_ (i := 6) (N := some 59) (v := ?_) (a' := ?_) #[true, true, true, true, true, true, true, false, true, true, false, false, false, false, false, false, false] rfl rfl (by kernel_rfl) (fun _ _ _ h => h) (Or.inl ⟨by rfl, ?_⟩) ?_ ?_
          rotate_left
          · intro w'
            try simp only [List.getElem_toArray, List.getElem_cons_succ, List.getElem_cons_zero]
            go_simp
            with_reducible rfl
          rotate_left
          · simp only [Act.put, List.setIfInBounds_toArray, List.set_cons_zero, List.set_cons_succ, i64_w, i32_w]
            rfl
          refine take_ (i := 7) (N := some 60) (v := ?_) (a' := ?_) #[true, true, true, true, true, true, true, true, true, true, false, false, false, false, false, false, false] rfl rfl (by kernel_rfl) (fun _ _ _ h => h) (Or.inl ⟨by rfl, ?_⟩) hHeld ?_ ?_
          rotate_left
          · rintro w' ⟨s0, s1⟩
            try simp only [List.getElem_toArray, List.getElem_cons_succ, List.getElem_cons_zero]
            go_simp
            with_reducible rfl
          rotate_left
          · simp only [Act.put, List.setIfInBounds_toArray, List.set_cons_zero, List.set_cons_succ, i64_w, i32_w]
            rfl
          refine pure_ (i := 10) (N := some 63) (v := ?_) (a' := ?_) #[true, true, true, true, true, true, true, true, true, true, true, false, false, false, false, false, false] rfl rfl (by kernel_rfl) (fun _ _ _ h => h) (Or.inl ⟨by rfl, ?_⟩) ?_ ?_
          rotate_left
          · intro w'
            try simp only [List.getElem_toArray, List.getElem_cons_succ, List.getElem_cons_zero]
            go_simp
            with_reducible rfl
          rotate_left
          · simp only [Act.put, List.setIfInBounds_toArray, List.set_cons_zero, List.set_cons_succ, i64_w, i32_w]
            rfl
          refine one_ (i := 11) (N := some 64) #[true, true, true, true, true, true, true, true, true, true, true, true, false, false, false, false, false] rfl rfl (by kernel_rfl) (by decide) (fun K hK => ?_)
          refine goes_ Try.func19 (by kernel_rfl) rfl #[.pointer (some ⟨b, 0, none⟩), .int .i64 (wrap64 ((from_ : Int) + (s : Int)))] (by rfl) rfl rfl (by simp only [List.map_toArray, List.map_cons, List.map_nil]; rfl) ?_
          with_reducible refine (HRM.out).mono ?_
          rintro e wb ⟨rfl, hwb⟩
          refine ⟨_, rfl, ?_⟩
          subst hwb
          refine hK.out _ _ ⟨hbxd, hjd⟩ (fun hHeld => ?_)
          clear hK K
          refine norm_ (a' := ?_) ?_ ?_
          rotate_left
          · show Act.put _ (some 64) _ = _
            simp only [Act.put, List.setIfInBounds_toArray, List.set_cons_zero, List.set_cons_succ, i64_w, i32_w]
            rfl
          refine pure_ (i := 12) (N := some 52) (v := ?_) (a' := ?_) #[true, true, true, true, true, true, true, true, true, true, true, true, true, false, false, false, false] rfl rfl (by kernel_rfl) (fun _ _ _ h => h) (Or.inl ⟨by rfl, ?_⟩) ?_ ?_
          rotate_left
          · intro w'
            try simp only [List.getElem_toArray, List.getElem_cons_succ, List.getElem_cons_zero]
            go_simp
            with_reducible rfl
          rotate_left
          · simp only [Act.put, List.setIfInBounds_toArray, List.set_cons_zero, List.set_cons_succ, i64_w, i32_w]
            rfl
          refine pure_ (i := 13) (N := some 65) (v := ?_) (a' := ?_) #[true, true, true, true, true, true, true, true, true, true, true, true, true, true, false, false, false] rfl rfl (by kernel_rfl) (fun _ _ _ h => h) (Or.inl ⟨by rfl, ?_⟩) ?_ ?_
          rotate_left
          · intro w'
            try simp only [List.getElem_toArray, List.getElem_cons_succ, List.getElem_cons_zero]
            go_simp
            with_reducible rfl
          rotate_left
          · simp only [Act.put, List.setIfInBounds_toArray, List.set_cons_zero, List.set_cons_succ, i64_w, i32_w]
            rfl
          refine pure_ (i := 14) (N := some 66) (v := ?_) (a' := ?_) #[true, true, true, true, true, true, true, true, true, true, true, true, true, true, true, false, false] rfl rfl (by kernel_rfl) (fun _ _ _ h => h) (Or.inl ⟨by rfl, ?_⟩) ?_ ?_
          rotate_left
          · intro w'
            try simp only [List.getElem_toArray, List.getElem_cons_succ, List.getElem_cons_zero]
            go_simp
            with_reducible rfl
          rotate_left
          · simp only [Act.put, List.setIfInBounds_toArray, List.set_cons_zero, List.set_cons_succ, i64_w, i32_w]
            rfl
          refine pure_ (i := 15) (N := some 9) (v := ?_) (a' := ?_) #[true, true, true, true, true, true, true, true, true, true, true, true, true, true, true, true, false] rfl rfl (by kernel_rfl) (fun _ _ _ h => h) (Or.inl ⟨by rfl, ?_⟩) ?_ ?_
          rotate_left
          · intro w'
            try simp only [List.getElem_toArray, List.getElem_cons_succ, List.getElem_cons_zero]
            go_simp
            with_reducible rfl
          rotate_left
          · simp only [Act.put, List.setIfInBounds_toArray, List.set_cons_zero, List.set_cons_succ, i64_w, i32_w]
            rfl
          refine pure_ (i := 16) (N := some 10) (v := ?_) (a' := ?_) #[true, true, true, true, true, true, true, true, true, true, true, true, true, true, true, true, true] rfl rfl (by kernel_rfl) (fun _ _ _ h => h) (Or.inl ⟨by rfl, ?_⟩) ?_ ?_
          rotate_left
          · intro w'
            try simp only [List.getElem_toArray, List.getElem_cons_succ, List.getElem_cons_zero]
            go_simp
            with_reducible rfl
          rotate_left
          · simp only [Act.put, List.setIfInBounds_toArray, List.set_cons_zero, List.set_cons_succ, i64_w, i32_w]
            rfl
          refine done_ (by kernel_rfl) ?_

          go_wp2
          have hff : Fr (fun _ => False) w (wa.setCell ⟨w.heap.size + 1, 0, none⟩ (.int .i64 32)).drew := (((HF0.out.trans HF2.out (fun _ h => h.elim)).trans HFa.out (fun _ h => h.elim)).setCell _ (.inr (by show w.heap.size ≤ w.heap.size + 1; omega))).drew
          refine bodyPostM_ret0 (res32 _ (w.heap.size + 1) 32 _ rfl (by rw [heap_drew', heap_setCell_self, hrsa]; rfl)) ?_
          exact app_none HD.out HJ.out HJP.out hff 32 (by decide) (fun h => by rw [hdd] at h; cases h.1) (fun _ h => by have h1 := HFIT.out; have h2 := HB.out.1; omega) (fun h => by have := HLL.out; omega)
        | false =>
          have HRM : Hid (Calls Try.prog 19 #[.pointer (some ⟨b, 0, none⟩), .int .i64 (wrap64 ((from_ : Int) + (s : Int)))] wa.drew (ReadPost wa.drew (D.told i0))) := Lib.hid (by rw [HB45.out.2]; exact read_ok b lb cl sp wv D wa.drew i0 HDA.out hdd HI0B.out)
          refine start_ (n := 17) (S := fun w' => w'.heap[w.heap.size]? = some (.cells #[.pointer (some ⟨jp, 0, none⟩)] 52 (0, 0)) ∧ w'.heap[jp]? = some (.cells #[.pointer (some ⟨b, 0, none⟩), .int .i64 from_, .int .i64 to_, .int .i64 end_, .int .i64 count] 100 (0, 0))) (ds := []) #[false, false, false, false, false, false, false, false, false, false, false, false, false, false, false, false, false] (by kernel_rfl) rfl rfl ⟨hbxd, hjd⟩ (fun hHeld => ?_)
          refine pure_ (i := 8) (N := some 61) (v := ?_) (a' := ?_) #[false, false, false, false, false, false, false, false, true, false, false, false, false, false, false, false, false] rfl rfl (by kernel_rfl) (fun _ _ _ h => h) (Or.inl ⟨by rfl, ?_⟩) ?_ ?_
          rotate_left
          · intro w'
            try simp only [List.getElem_toArray, List.getElem_cons_succ, List.getElem_cons_zero]
            go_simp
            with_reducible rfl
          rotate_left
          · simp only [Act.put, List.setIfInBounds_toArray, List.set_cons_zero, List.set_cons_succ, i64_w, i32_w]
            rfl
          refine pure_ (i := 9) (N := some 62) (v := ?_) (a' := ?_) #[false, false, false, false, false, false, false, false, true, true, false, false, false, false, false, false, false] rfl rfl (by kernel_rfl) (fun _ _ _ h => h) (Or.inl ⟨by rfl, ?_⟩) ?_ ?_
          rotate_left
          · intro w'
            try simp only [List.getElem_toArray, List.getElem_cons_succ, List.getElem_cons_zero]
            go_simp
            with_reducible rfl
          rotate_left
          · simp only [Act.put, List.setIfInBounds_toArray, List.set_cons_zero, List.set_cons_succ, i64_w, i32_w]
            rfl
          refine take_ (i := 0) (N := some 53) (v := ?_) (a' := ?_) #[true, false, false, false, false, false, false, false, true, true, false, false, false, false, false, false, false] rfl rfl (by kernel_rfl) (fun _ _ _ h => h) (Or.inl ⟨by rfl, ?_⟩) hHeld ?_ ?_
          rotate_left
          · rintro w' ⟨s0, s1⟩
            try simp only [List.getElem_toArray, List.getElem_cons_succ, List.getElem_cons_zero]
            go_simp
            with_reducible rfl
          rotate_left
          · simp only [Act.put, List.setIfInBounds_toArray, List.set_cons_zero, List.set_cons_succ, i64_w, i32_w]
            rfl
          refine pure_ (i := 1) (N := some 54) (v := ?_) (a' := ?_) #[true, true, false, false, false, false, false, false, true, true, false, false, false, false, false, false, false] rfl rfl (by kernel_rfl) (fun _ _ _ h => h) (Or.inl ⟨by rfl, ?_⟩) ?_ ?_
          rotate_left
          · intro w'
            try simp only [List.getElem_toArray, List.getElem_cons_succ, List.getElem_cons_zero]
            go_simp
            with_reducible rfl
          rotate_left
          · simp only [Act.put, List.setIfInBounds_toArray, List.set_cons_zero, List.set_cons_succ, i64_w, i32_w]
            rfl
          refine pure_ (i := 2) (N := some 55) (v := ?_) (a' := ?_) #[true, true, true, false, false, false, false, false, true, true, false, false, false, false, false, false, false] rfl rfl (by kernel_rfl) (fun _ _ _ h => h) (Or.inl ⟨by rfl, ?_⟩) ?_ ?_
          rotate_left
          · intro w'
            try simp only [List.getElem_toArray, List.getElem_cons_succ, List.getElem_cons_zero]
            go_simp
            with_reducible rfl
          rotate_left
          · simp only [Act.put, List.setIfInBounds_toArray, List.set_cons_zero, List.set_cons_succ, i64_w, i32_w]
            rfl
          refine take_ (i := 3) (N := some 56) (v := ?_) (a' := ?_) #[true, true, true, true, false, false, false, false, true, true, false, false, false, false, false, false, false] rfl rfl (by kernel_rfl) (fun _ _ _ h => h) (Or.inl ⟨by rfl, ?_⟩) hHeld ?_ ?_
          rotate_left
          · rintro w' ⟨s0, s1⟩
            try simp only [List.getElem_toArray, List.getElem_cons_succ, List.getElem_cons_zero]
            go_simp
            with_reducible rfl
          rotate_left
          · simp only [Act.put, List.setIfInBounds_toArray, List.set_cons_zero, List.set_cons_succ, i64_w, i32_w]
            rfl
          refine take_ (i := 4) (N := some 57) (v := ?_) (a' := ?_) #[true, true, true, true, true, false, false, false, true, true, false, false, false, false, false, false, false] rfl rfl (by kernel_rfl) (fun _ _ _ h => h) (Or.inl ⟨by rfl, ?_⟩) hHeld ?_ ?_
          rotate_left
          · rintro w' ⟨s0, s1⟩
            try simp only [List.getElem_toArray, List.getElem_cons_succ, List.getElem_cons_zero]
            go_simp
            with_reducible rfl
          rotate_left
          · simp only [Act.put, List.setIfInBounds_toArray, List.set_cons_zero, List.set_cons_succ, i64_w, i32_w]
            rfl
          refine pure_ (i := 5) (N := some 58) (v := ?_) (a' := ?_) #[true, true, true, true, true, true, false, false, true, true, false, false, false, false, false, false, false] rfl rfl (by kernel_rfl) (fun _ _ _ h => h) (Or.inl ⟨by rfl, ?_⟩) ?_ ?_
          rotate_left
          · intro w'
            try simp only [List.getElem_toArray, List.getElem_cons_succ, List.getElem_cons_zero]
            go_simp
            with_reducible rfl
          rotate_left
          · simp only [Act.put, List.setIfInBounds_toArray, List.set_cons_zero, List.set_cons_succ, i64_w, i32_w]
            rfl
          refine pure_ (i := 6) (N := some 59) (v := ?_) (a' := ?_) #[true, true, true, true, true, true, true, false, true, true, false, false, false, false, false, false, false] rfl rfl (by kernel_rfl) (fun _ _ _ h => h) (Or.inl ⟨by rfl, ?_⟩) ?_ ?_
          rotate_left
          · intro w'
            try simp only [List.getElem_toArray, List.getElem_cons_succ, List.getElem_cons_zero]
            go_simp
            with_reducible rfl
          rotate_left
          · simp only [Act.put, List.setIfInBounds_toArray, List.set_cons_zero, List.set_cons_succ, i64_w, i32_w]
            rfl
          refine take_ (i := 7) (N := some 60) (v := ?_) (a' := ?_) #[true, true, true, true, true, true, true, true, true, true, false, false, false, false, false, false, false] rfl rfl (by kernel_rfl) (fun _ _ _ h => h) (Or.inl ⟨by rfl, ?_⟩) hHeld ?_ ?_
          rotate_left
          · rintro w' ⟨s0, s1⟩
            try simp only [List.getElem_toArray, List.getElem_cons_succ, List.getElem_cons_zero]
            go_simp
            with_reducible rfl
          rotate_left
          · simp only [Act.put, List.setIfInBounds_toArray, List.set_cons_zero, List.set_cons_succ, i64_w, i32_w]
            rfl
          refine pure_ (i := 10) (N := some 63) (v := ?_) (a' := ?_) #[true, true, true, true, true, true, true, true, true, true, true, false, false, false, false, false, false] rfl rfl (by kernel_rfl) (fun _ _ _ h => h) (Or.inl ⟨by rfl, ?_⟩) ?_ ?_
          rotate_left
          · intro w'
            try simp only [List.getElem_toArray, List.getElem_cons_succ, List.getElem_cons_zero]
            go_simp
            with_reducible rfl
          rotate_left
          · simp only [Act.put, List.setIfInBounds_toArray, List.set_cons_zero, List.set_cons_succ, i64_w, i32_w]
            rfl
          refine one_ (i := 11) (N := some 64) #[true, true, true, true, true, true, true, true, true, true, true, true, false, false, false, false, false] rfl rfl (by kernel_rfl) (by decide) (fun K hK => ?_)
          refine goes_ Try.func19 (by kernel_rfl) rfl #[.pointer (some ⟨b, 0, none⟩), .int .i64 (wrap64 ((from_ : Int) + (s : Int)))] (by rfl) rfl rfl (by simp only [List.map_toArray, List.map_cons, List.map_nil]; rfl) ?_
          with_reducible refine (HRM.out).mono ?_
          rintro e wb ⟨sb, rfl, hsb, rowb, frb⟩
          refine ⟨_, rfl, ?_⟩
          have hbxb := frb.at hbxd (fun h => h)
          have hjb := frb.at hjd (fun h => h)
          have hrsb := frb.at hrsd (fun h => h)
          have HFB := Lib.hid frb
          have HRB : Hid (IsBytes wb (.slice (some ⟨sb, 0, none⟩) 64 64) (D.told i0)) := Lib.hid (by have := IsBytes.of_cells rowb (by rw [HTL.out]; decide); rwa [HTL.out] at this)
          clear rowb frb hsb
          refine hK.out _ _ ⟨hbxb, hjb⟩ (fun hHeld => ?_)
          clear hK K
          refine norm_ (a' := ?_) ?_ ?_
          rotate_left
          · show Act.put _ (some 64) _ = _
            simp only [Act.put, List.setIfInBounds_toArray, List.set_cons_zero, List.set_cons_succ, i64_w, i32_w]
            rfl
          refine pure_ (i := 12) (N := some 52) (v := ?_) (a' := ?_) #[true, true, true, true, true, true, true, true, true, true, true, true, true, false, false, false, false] rfl rfl (by kernel_rfl) (fun _ _ _ h => h) (Or.inl ⟨by rfl, ?_⟩) ?_ ?_
          rotate_left
          · intro w'
            try simp only [List.getElem_toArray, List.getElem_cons_succ, List.getElem_cons_zero]
            go_simp
            with_reducible rfl
          rotate_left
          · simp only [Act.put, List.setIfInBounds_toArray, List.set_cons_zero, List.set_cons_succ, i64_w, i32_w]
            rfl
          refine pure_ (i := 13) (N := some 65) (v := ?_) (a' := ?_) #[true, true, true, true, true, true, true, true, true, true, true, true, true, true, false, false, false] rfl rfl (by kernel_rfl) (fun _ _ _ h => h) (Or.inl ⟨by rfl, ?_⟩) ?_ ?_
          rotate_left
          · intro w'
            try simp only [List.getElem_toArray, List.getElem_cons_succ, List.getElem_cons_zero]
            go_simp
            with_reducible rfl
          rotate_left
          · simp only [Act.put, List.setIfInBounds_toArray, List.set_cons_zero, List.set_cons_succ, i64_w, i32_w]
            rfl
          refine pure_ (i := 14) (N := some 66) (v := ?_) (a' := ?_) #[true, true, true, true, true, true, true, true, true, true, true, true, true, true, true, false, false] rfl rfl (by kernel_rfl) (fun _ _ _ h => h) (Or.inl ⟨by rfl, ?_⟩) ?_ ?_
          rotate_left
          · intro w'
            try simp only [List.getElem_toArray, List.getElem_cons_succ, List.getElem_cons_zero]
            go_simp
            with_reducible rfl
          rotate_left
          · simp only [Act.put, List.setIfInBounds_toArray, List.set_cons_zero, List.set_cons_succ, i64_w, i32_w]
            rfl
          refine pure_ (i := 15) (N := some 9) (v := ?_) (a' := ?_) #[true, true, true, true, true, true, true, true, true, true, true, true, true, true, true, true, false] rfl rfl (by kernel_rfl) (fun _ _ _ h => h) (Or.inl ⟨by rfl, ?_⟩) ?_ ?_
          rotate_left
          · intro w'
            try simp only [List.getElem_toArray, List.getElem_cons_succ, List.getElem_cons_zero]
            go_simp
            with_reducible rfl
          rotate_left
          · simp only [Act.put, List.setIfInBounds_toArray, List.set_cons_zero, List.set_cons_succ, i64_w, i32_w]
            rfl
          refine pure_ (i := 16) (N := some 10) (v := ?_) (a' := ?_) #[true, true, true, true, true, true, true, true, true, true, true, true, true, true, true, true, true] rfl rfl (by kernel_rfl) (fun _ _ _ h => h) (Or.inl ⟨by rfl, ?_⟩) ?_ ?_
          rotate_left
          · intro w'
            try simp only [List.getElem_toArray, List.getElem_cons_succ, List.getElem_cons_zero]
            go_simp
            with_reducible rfl
          rotate_left
          · simp only [Act.put, List.setIfInBounds_toArray, List.set_cons_zero, List.set_cons_succ, i64_w, i32_w]
            rfl
          refine done_ (by kernel_rfl) ?_

          obtain ⟨vp, hcutp, hbp, hop⟩ := cut_h HRB.out r (by rw [HTL.out]; have := HB.out.2.2.2.2.1.2; omega)
          obtain ⟨opp, cpp, rfl, _⟩ := (hbp wb HRB.out).is
          rw [HRL.out] at hcutp hbp
          have HBP := Lib.hid (hbp wb HRB.out)
          have hBa : Hid (IsBytes wb (.slice aoa (l.length + 16) capa) (frameOf l)) := Lib.hid (HBa.out.bytes.fr ((Fr.refl (fun _ => False) wa).drew.trans HFB.out (fun _ h => h.elim)) (fun _ _ h => h))
          clear hbp hop hbxa hja hrsa hbxd hjd hrsd
          go_wp2_with (first
            | (go_at_call 67; refine (concat_any _ [(D.told i0).take r, frameOf l] _ (IsLists.two (heap_alloc_at wb _) (by decide) (by decide) (HBP.out.alloc _) (hBa.out.alloc _)) (by rw [← lsum_flatten, HFEB.out]; have := HFLB0.out; omega)).mono ?_; rintro e w3 ⟨v3, rfl, b3, n3, f3⟩; rw [HFEB.out] at b3; obtain ⟨ao3, cap3, rfl⟩ := b3.slice; have HB3 := Lib.hid b3; have HN3 := Lib.hid n3; have HFC := Lib.hid (((Fr.refl (fun _ => False) wb).alloc _).trans f3 (fun _ h => h.elim)); have hbx3 := HFC.out.at hbxb (fun h => h); have hj3 := HFC.out.at hjb (fun h => h); have hrs3 := HFC.out.at hrsb (fun h => h); clear b3 n3 f3)
            | (go_at_call 68; refine (sec_make jp at_ ao3 f.length cap3 w3).mono ?_; rintro e w4 ⟨q1, q2, q3, rfl, e1', e2, e3, e4, e5, e6, e7, e8, f4⟩; have HQ := Lib.hid (And.intro e1' (And.intro e2 (And.intro e3 (And.intro e4 (And.intro e5 (And.intro e6 (And.intro e7 e8))))))); have HF4 := Lib.hid f4; have hbx4 := f4.at hbx3 (fun h => h); have hj4 := f4.at hj3 (fun h => h); have hrs4 := f4.at hrs3 (fun h => h); clear e1' e2 e3 e4 e5 e6 e7 e8 f4))
          have HF3 : Hid (Fr (fun _ => False) w2 w3) := Lib.hid (((HFa.out.drew).trans HFB.out (fun _ h => h.elim)).trans HFC.out (fun _ h => h.elim))
          have HFLN : Hid (f.length = f.length) := Lib.hid rfl
          have HBF : Hid (IsBytes w4 (.slice ao3 f.length cap3) f) := Lib.hid (HB3.out.bytes.fr HF4.out (fun _ _ h => h))
          have HNF : Hid (∀ j, (Value.slice ao3 f.length cap3).ownBlock = some j → w.heap.size ≤ j ∧ j < w3.heap.size) := Lib.hid (fun j hj => ⟨by have h1 := HN3.out j hj; have h2 := (HWA.out.trans HFB.out (fun _ h => h.elim)).size; simp at h1; omega, (World.ownsRow.lt HB3.out j hj).2⟩)
          clear hdd
          have hfw4 : Fr (fun _ => False) w w4 := ((HF0.out.trans HF2.out (fun _ h => h.elim)).trans HF3.out (fun _ h => h.elim)).trans HF4.out (fun _ h => h.elim)
          have hd4 := HD.out.fr hfw4 (fun _ _ h => h)
          have HD4 := Lib.hid hd4; have HFW4 := Lib.hid hfw4
          have hltw : w.heap.size + 1 < w4.heap.size := lt_of_block hrs4
          have hjw : jp < w.heap.size := lt_of_block hj
          have hq1 := lt_of_block HQ.out.1; have hq2 := lt_of_block HQ.out.2.1; have hq3 := lt_of_block HQ.out.2.2.1
          have hw3s : w.heap.size + 1 < w3.heap.size := lt_of_block hrs3
          obtain ⟨_, _, _, hQ4, hQ5, hQ6, hQ7, hQ8⟩ := HQ.out
          have hRGold : ∀ j, w.heap.size ≤ j → j < w4.heap.size → ¬ RG w4 b lb wv j := fun j h1 h2 hg => by
            rcases hg with h | h
            · have := HD.out.lt j h; omega
            · omega
          have g1 : ¬ RG w4 b lb wv q1 := hRGold q1 (by omega) hq1
          have g2 : ¬ RG w4 b lb wv q2 := hRGold q2 (by omega) hq2
          have g3 : ¬ RG w4 b lb wv q3 := hRGold q3 (by omega) hq3
          have gj : ¬ RG w4 b lb wv jp := fun hg => by
            rcases hg with h | h
            · exact HJP.out h
            · omega
          have gp2 : ¬ RG w4 b lb wv w.heap.size := hRGold _ (by omega) (by omega)
          have gp4 : ¬ RG w4 b lb wv (w.heap.size + 1) := hRGold _ (by omega) (by omega)
          have HG := Lib.hid (And.intro g3 (And.intro gj (And.intro gp2 gp4)))
          have hne : q3 ≠ w.heap.size ∧ q3 ≠ w.heap.size + 1 ∧ q3 ≠ jp ∧ w.heap.size ≠ jp ∧ w.heap.size + 1 ≠ jp := by omega
          have HNE := Lib.hid hne
          have HSZ := Lib.hid (And.intro hltw (And.intro hq3 (And.intro hjw (show w.heap.size ≤ q3 by omega))))
          have HS0 : Hid (at_ / 64 = end_ / 64) := Lib.hid (by have h1 := HB.out.2.1; have h2 := HB.out.2.2.2.1; omega)
          have hflb : f.length = r + (l.length + 16) ∧ f.length ≤ 4194304 := by
            have hN : from_ + end_ / 64 < D.secs.length := by have h1 := HFIT.out; have h2 := HB.out.2.2.2.2.2.1; have h3 := HB.out.1; have h4 := HB.out.2.2.2.2.2.2.1; omega
            have h1 : f.length = end_ % 64 + (l.length + 16) := by rw [HFE.out]; exact appBytes_length D from_ end_ l HD.out.ok hN
            have h2 := HB.out.2.2.1; have h3 := HLL.out; have h4 := HB.out.2.2.2.2.1.2
            omega
          have HFLB := Lib.hid hflb
          have HNB : Hid (∀ k, k < (f.length + 63) / 64 → from_ + at_ / 64 + k < D.secs.length) := Lib.hid (fun k hk => by
            have h1 := HFIT.out; have h2 := HB.out.2.2.2.2.2.1; have h3 := HB.out.1; have h4 := HB.out.2.2.2.2.2.2.1; have h5 := hflb.1; have h6 := HB.out.2.2.2.2.1; have h7 := HB.out.2.2.2.1
            omega)
          have HNR : Hid (D.buf.length + (f.length + 63) / 64 ≤ 2932031007402) := Lib.hid (by have h1 := HB.out.2.2.2.2.2.2.2.1; have h2 := hflb.2; omega)
          have hseq := sectors_seq q1 q2 q3 jp b from_ to_ end_ count at_ f (RG w4 b lb wv) g1 g2 g3 gj hQ7 hQ8 (by omega) (by have h1 := HB.out.2.2.2.2.1.1; have h2 := HB.out.2.2.2.2.2.1; omega) (by have h2 := HB.out.2.2.2.2.2.1; omega) hflb.2
          have HSEQ := Lib.hid hseq
          have hpre : ∀ o o', RIn w4 b lb cl sp wv D q3 f (from_ + at_ / 64) 0 ((w4.alloc o).alloc o') ∧ SecPre q1 q2 q3 jp b from_ to_ end_ count at_ ((w4.alloc o).alloc o') ∧ SecAt q3 (RG w4 b lb wv) f 0 ((w4.alloc o).alloc o') := fun o o' => by
            have hfa : Fr (fun _ => False) w4 ((w4.alloc o).alloc o') := ((Fr.refl _ w4).alloc o).alloc o'
            refine ⟨⟨hfa.mono (fun _ _ h => h.elim), wv, D, ⟨hd4.fr hfa (fun _ _ h => h), fun j hj => .inl hj, rfl, by rw [wsOf_zero, List.append_nil]⟩, fun h _ => ⟨h, rfl⟩⟩, ⟨hfa.at HQ.out.1 (fun h => h), hfa.at HQ.out.2.1 (fun h => h), hfa.at hj4 (fun h => h)⟩, ?_⟩
            refine SecAt.fr0 ?_ hfa
            have e0 : f.drop (64 * 0) = f := by simp
            refine ⟨ao3, cap3, ?_⟩
            rw [e0, HFLN.out]
            exact ⟨HQ.out.2.2.1, HBF.out, fun j hj => ⟨hRGold j (HNF.out j hj).1 (by have := (HNF.out j hj).2; have := HF4.out.size; omega), fun e => by have := (HNF.out j hj).2; omega⟩⟩
          have HPRE := Lib.hid hpre
          clear hd4 hfw4 hltw hjw hq1 hq2 hq3 hw3s hQ4 hQ5 hQ6 hQ7 hQ8 hRGold g1 g2 g3 gj gp2 gp4 hne hseq hflb hpre
          refine wp_range (gf := 87) (lb := #[.pointer (some ⟨q1, 0, none⟩), .pointer (some ⟨q2, 0, none⟩), .pointer (some ⟨q3, 0, none⟩)]) rfl (enters_of Try.func87 (by kernel_rfl) rfl) _ _ _ _ _ HSEQ.out
            (fun k W => RIn w4 b lb cl sp wv D q3 f (from_ + at_ / 64) k W) (RStop w4 b lb cl sp wv D q3 f (from_ + at_ / 64) (w.heap.size + 1) ((f.length + 63) / 64)) ?hps ?hSt ?hStN ?hRec ?hKt ?h0 ?hround ?hdone ?hstop
          case hps => rintro k args A ⟨ao, cap, rfl, _⟩; rfl
          case hSt => exact fun k A B hI hf => hI.st hf.1 HG.out.1
          case hStN => exact fun A B hf => hf.1.nc (fun j hj => by subst hj; exact hf.2)
          case hRec => exact fun A B lp r hw hl hf => ⟨fun k hI => hI.rec hw hl hf, fun hx => hx.rec hw hl hf, fun k args hX => hX.rec (.inr hw) hf, hf.mono (fun j _ e => by subst e; exact .inr hw)⟩
          case hKt => exact fun A B C h1 h2 => h1.trans h2 (fun _ h => .inl h)
          case h0 => exact HPRE.out
          case hround =>
            rintro lp k args W hI hk ⟨xo, xc, rfl, hxb, hxn⟩
            have HKN := Lib.hid hk
            clear hk
            gi_wp2
            try refine ⟨trivial, ?_⟩
            rintro W2 ⟨hfr2, wv2, E2, hrd, harm⟩ ⟨xo', xc', hxe, hxb2, hxn2⟩
            have hxe : Value.slice xo (chunk f k).length xc = Value.slice xo' (chunk f k).length xc' := congrArg (fun a : Array Value => a.getD 1 undef) hxe
            simp only [Value.slice.injEq, true_and] at hxe
            obtain ⟨rfl, rfl⟩ := hxe
            have hbx5 := hfr2.at hbx4 (fun h => h.elim HG.out.2.2.1 (fun e => HNE.out.1 e.symm))
            have hrs5 := hfr2.at hrs4 (fun h => h.elim HG.out.2.2.2 (fun e => HNE.out.2.1 e.symm))
            have hj5 := hfr2.at hj4 (fun h => h.elim HG.out.2.1 (fun e => HNE.out.2.2.1 e.symm))
            have HFR2 := Lib.hid hfr2; have HRD := Lib.hid hrd; have HXB := Lib.hid hxb2; have HARM := Lib.hid harm
            have hi2 : from_ + at_ / 64 + k < D.secs.length := HNB.out k HKN.out
            have hsz2 : w4.heap.size ≤ W2.heap.size := hfr2.size
            have HI2 := Lib.hid hi2; have HSZ2 := Lib.hid hsz2
            clear hfr2 hrd hxb2 harm hxn2 hxb hxn hi2 hsz2
            cases hd2 : E2.down with
            | true =>
              gi_wp2_with (refine ⟨trivial, ?_⟩; gi_at_call 16; refine (CallsIn.inRound lp (callsIn_wide.2 (RDk.write_down HRD.out hd2 _ _))).mono ?_; rintro e W3 ⟨rfl, rfl⟩)
              have fs : Fr (fun j => j = w.heap.size + 1) W2 (W2.setCell ⟨w.heap.size + 1, 0, none⟩ (.int .i64 32)) := (Fr.refl _ W2).setCell _ (.inl rfl)
              exact ⟨fs.nc (fun j hj => by subst hj; exact ⟨_, _, _, hrs5⟩), 32, by decide, by rw [heap_setCell_self, hrs5]; rfl, (HFR2.out.mono (fun _ _ h => .inl h)).trans fs (fun j hj => .inl (.inr hj)), wv2, E2, k, Nat.le_of_lt HKN.out,
                HRD.out.fr fs (fun j hj hd => by subst hj; exact HG.out.2.2.2 (HRD.out.2.1 _ hd)), fun h => by have := HARM.out h.1 h.2; rw [hd2] at this; cases this.1⟩
            | false =>
              gi_wp2_with (refine ⟨trivial, ?_⟩; gi_at_call 16; refine (CallsIn.inRound lp (callsIn_wide.2 (HRD.out.write HSZ2.out hd2 HI2.out (by have h1 := HNR.out; have h2 := HKN.out; omega) _ HXB.out))).mono ?_; rintro e W3 ⟨rfl, ⟨wv3, E3, hrd3, harm3⟩, hfr3, hnc3⟩; have HRD3 := Lib.hid hrd3; have HARM3 := Lib.hid harm3; have HFR3 := Lib.hid hfr3; have HNC3 := Lib.hid hnc3; clear hrd3 harm3 hfr3 hnc3)
              exact ⟨HNC3.out, HFR3.out, HFR2.out.trans HFR3.out (fun j hj => .inl (.inl hj)), wv3, E3, HRD3.out, fun h1 h2 => by
                obtain ⟨a1, a2⟩ := HARM.out h1 h2
                obtain ⟨b1, b2⟩ := HARM3.out (by omega)
                exact ⟨b1.trans a1, b2.trans a2⟩⟩
          case hstop =>
            rintro Dm W hDm ⟨er, her, hp, hfr, wv6, E6, k6, hk6, hrd6, hno⟩ hK
            have hpd : w.heap.size + 1 ≠ Dm := fun e => by rw [e] at hp; rw [hK] at hp; cases hp
            have fp : Fr (fun j => j = Dm) W (W.putObj Dm (.deferred none)) := Fr.putObj _ _
            have hndf : ¬ dkFoot b lb wv6 Dm := hrd6.not_obj hK rfl
            have hall : Fr (fun j => jFoot b lb jp wv j ∨ w.heap.size ≤ j) w (W.putObj Dm (.deferred none)) := by
              refine ((HFW4.out.mono (fun _ _ h => h.elim)).trans hfr (fun j hj => .inl ?_)).trans fp (fun j hj => .inr ?_)
              · rcases hj with ((h | h) | h) | h
                · exact .inl (.inl h)
                · exact .inr (by have := HSZ.out.1; omega)
                · subst h; exact .inr HSZ.out.2.2.2
                · subst h; exact .inr (by omega)
              · subst hj; have := HSZ.out.1; omega
            refine bodyPostM_ret hK (res32 _ (w.heap.size + 1) er _ rfl (fp.at hp (fun e => hpd e))) ?_
            have hjW := hfr.at hj4 (fun h => by
              rcases h with (h | h) | h
              · exact HG.out.2.1 h
              · exact HNE.out.2.2.1 h.symm
              · exact HNE.out.2.2.2.2 h.symm)
            have hjd : jp ≠ Dm := fun e => by rw [e] at hjW; rw [hK] at hjW; cases hjW
            refine ⟨er, wv6, E6, end_, count, rfl, hrd6.1.fr fp (fun j hj e => by subst e; exact hndf hj), fp.at hjW (fun e => hjd e), fun hd => HG.out.2.1 (hrd6.2.1 _ hd), ⟨hall.mono (fun j hj h => h.elim id (fun h => by omega)), fun j hj => ?_⟩, ?_⟩
            · rcases hj with h | h
              · rcases hrd6.2.1 j h with h1 | h1
                · exact .inl (.inl h1)
                · exact .inr (by have := HSZ.out.1; omega)
              · exact .inl (.inr h)
            · refine .no k6 (by rw [← HFE.out]; exact hk6) her rfl rfl hrd6.2.2.1 (by rw [← HFE.out, ← HS0.out]; exact hrd6.2.2.2) (fun h => hno ⟨h.1, h.2.1⟩) (.inl ⟨by have := HLL.out; omega, by have h1 := HFIT.out; have h2 := HB.out.1; omega⟩) (fun _ h => by have h1 := HFIT.out; have h2 := HB.out.1; omega) (fun h => by have := HLL.out; omega)
          case hdone =>
            rintro Dm W hDm ⟨hfr, wv6, E6, hrd6, harm6⟩ hK
            have hbx6 := hfr.at hbx4 (fun h => h.elim HG.out.2.2.1 (fun e => HNE.out.1 e.symm))
            have hrs6 := hfr.at hrs4 (fun h => h.elim HG.out.2.2.2 (fun e => HNE.out.2.1 e.symm))
            have hj6 := hfr.at hj4 (fun h => h.elim HG.out.2.1 (fun e => HNE.out.2.2.1 e.symm))
            have hndf : ¬ dkFoot b lb wv6 Dm := hrd6.not_obj hK rfl
            have HFR6 := Lib.hid hfr; have HRD6 := Lib.hid hrd6; have HARM6 := Lib.hid harm6; have HK6 := Lib.hid hK; have HNDF := Lib.hid hndf; have HDM := Lib.hid hDm
            have hpd : w.heap.size + 1 ≠ Dm := fun e => by rw [e] at hrs6; rw [hK] at hrs6; cases hrs6
            have hjd : jp ≠ Dm := fun e => by rw [e] at hj6; rw [hK] at hj6; cases hj6
            have HPD := Lib.hid (And.intro hpd hjd)
            have hall6 : Fr (fun j => jFoot b lb jp wv j ∨ w.heap.size ≤ j) w W := by
              refine (HFW4.out.mono (fun _ _ h => h.elim)).trans hfr (fun j hj => .inl ?_)
              rcases hj with (h | h) | h
              · exact .inl (.inl h)
              · exact .inr (by have := HSZ.out.1; omega)
              · subst h; exact .inr HSZ.out.2.2.2
            have hpiv6 : ∀ j, jFoot b lb jp wv6 j → jFoot b lb jp wv j ∨ w.heap.size ≤ j := fun j hj => by
              rcases hj with h | h
              · rcases hrd6.2.1 j h with h1 | h1
                · exact .inl (.inl h1)
                · exact .inr (by have := HSZ.out.1; omega)
              · exact .inl (.inr h)
            have HALL6 := Lib.hid hall6; have HPIV6 := Lib.hid hpiv6
            have hbl : b ≠ w.heap.size ∧ lb ≠ w.heap.size ∧ b ≠ w.heap.size + 1 ∧ lb ≠ w.heap.size + 1 ∧ b ≠ jp ∧ lb ≠ jp := by
              have h1 := HD.out.lt b (.inl rfl); have h2 := HD.out.lt lb (.inr (.inl rfl))
              exact ⟨by omega, by omega, by omega, by omega, fun e => HJP.out (.inl e.symm), fun e => HJP.out (.inr (.inl e.symm))⟩
            have HBL := Lib.hid hbl
            clear hfr hrd6 harm6 hK hndf hDm hpd hjd hall6 hpiv6 hbl
            cases hd6 : E6.down with
            | true =>
              go_wp2_with (go_at_call 15; refine (flush_down b lb cl sp wv6 E6 W HRD6.out.1 hd6).mono ?_; rintro e W7 ⟨rfl, rfl⟩)
              have fs : Fr (fun j => j = w.heap.size + 1) W (W.setCell ⟨w.heap.size + 1, 0, none⟩ (.int .i64 32)) := (Fr.refl _ W).setCell _ (.inl rfl)
              have hK8 := fs.at HK6.out (fun e => HPD.out.1 e.symm)
              have fp : Fr (fun j => j = Dm) (W.setCell ⟨w.heap.size + 1, 0, none⟩ (.int .i64 32)) ((W.setCell ⟨w.heap.size + 1, 0, none⟩ (.int .i64 32)).putObj Dm (.deferred none)) := Fr.putObj _ _
              have fsp : Fr (fun j => j = w.heap.size + 1 ∨ j = Dm) W ((W.setCell ⟨w.heap.size + 1, 0, none⟩ (.int .i64 32)).putObj Dm (.deferred none)) := (fs.mono (fun _ _ h => .inl h)).trans fp (fun j hj => .inl (.inr hj))
              refine bodyPostM_ret hK8 (res32 _ (w.heap.size + 1) 32 _ rfl (fp.at (by rw [heap_setCell_self, hrs6]; rfl) (fun e => HPD.out.1 e))) ?_
              refine ⟨32, wv6, E6, end_, count, rfl, HRD6.out.1.fr fsp (fun j hj e => ?_), fsp.at hj6 (fun e => e.elim (fun h => HNE.out.2.2.2.2 h.symm) (fun h => HPD.out.2 h)), fun hd => HG.out.2.1 (HRD6.out.2.1 _ hd), ⟨(HALL6.out.trans fsp (fun j hj => .inl (.inr ?_))).mono (fun j hj h => h.elim id (fun h => by omega)), HPIV6.out⟩, ?_⟩
              · rcases e with h | h
                · subst h; exact HG.out.2.2.2 (HRD6.out.2.1 _ hj)
                · subst h; exact HNDF.out hj
              · rcases hj with h | h
                · omega
                · subst h; have := HSZ.out.1; have := HDM.out; omega
              · refine .no ((f.length + 63) / 64) (by rw [← HFE.out]; exact Nat.le_refl _) (by decide) rfl rfl HRD6.out.2.2.1 (by rw [← HFE.out, ← HS0.out]; exact HRD6.out.2.2.2) (fun h => by have := HARM6.out h.1 h.2.1; rw [hd6] at this; cases this.1) (.inl ⟨by have := HLL.out; omega, by have h1 := HFIT.out; have h2 := HB.out.1; omega⟩) (fun _ h => by have h1 := HFIT.out; have h2 := HB.out.1; omega) (fun h => by have := HLL.out; omega)
            | false =>
              have A9 : Value.int .i64 (wrap64 (count + 1)) = Value.int .i64 (count + 1) := congrArg (Value.int .i64) (w64 _ (by have := HB.out.2.2.2.2.2.2.2.2; omega))
              go_wp2_with (go_at_call 15; refine (flush_up b lb cl sp wv6 E6 W HRD6.out.1 hd6).mono ?_; rintro e W7 ⟨rfl, hE7, fr7⟩; have HE7 := Lib.hid hE7; have HFR7 := Lib.hid fr7; have hbx7 := fr7.at hbx6 (fun e => e.elim (fun h => HBL.out.1 h.symm) (fun h => HBL.out.2.1 h.symm)); have hrs7 := fr7.at hrs6 (fun e => e.elim (fun h => HBL.out.2.2.1 h.symm) (fun h => HBL.out.2.2.2.1 h.symm)); have hj7 := fr7.at hj6 (fun e => e.elim (fun h => HBL.out.2.2.2.2.1 h.symm) (fun h => HBL.out.2.2.2.2.2 h.symm)); clear hE7 fr7)
              have hbx7d : W7.drew.heap[w.heap.size]? = some (.cells #[.pointer (some ⟨jp, 0, none⟩)] 52 (0, 0)) := hbx7
              have hj7d : W7.drew.heap[jp]? = some (.cells #[.pointer (some ⟨b, 0, none⟩), .int .i64 from_, .int .i64 to_, .int .i64 end_, .int .i64 count] 100 (0, 0)) := hj7
              have hc7d : cellIn W7.drew.heap[jp]? 4 = some (.int .i64 count) := by rw [hj7d]; rfl
              have HC1 : Hid ((W7.drew.setCell ⟨jp, 3, none⟩ (.int .i64 e1)).heap[w.heap.size]? = some (.cells #[.pointer (some ⟨jp, 0, none⟩)] 52 (0, 0))) := Lib.hid (by rw [heap_setCell, if_neg (fun e => HNE.out.2.2.2.1 e.symm)]; exact hbx7d)
              have HC2 : Hid (cellIn (W7.drew.setCell ⟨jp, 3, none⟩ (.int .i64 e1)).heap[jp]? 4 = some (.int .i64 count)) := Lib.hid (by rw [heap_setCell_self, hj7d]; rfl)
              refine start_ (n := 14) (S := fun w' => w'.heap[w.heap.size]? = some (.cells #[.pointer (some ⟨jp, 0, none⟩)] 52 (0, 0)) ∧ cellIn w'.heap[jp]? 4 = some (.int .i64 count)) (ds := [13]) #[false, false, false, false, false, false, false, false, false, false, false, false, false, false] (by kernel_rfl) rfl rfl ⟨hbx7d, hc7d⟩ (fun hHeld => ?_)
              refine pure_ (i := 2) (N := some 102) (v := ?_) (a' := ?_) #[false, false, true, false, false, false, false, false, false, false, false, false, false, false] rfl rfl (by kernel_rfl) (fun _ _ _ h => h) (Or.inl ⟨by rfl, ?_⟩) ?_ ?_
              rotate_left
              · intro w'
                try simp only [List.getElem_toArray, List.getElem_cons_succ, List.getElem_cons_zero]
                go_simp
                with_reducible rfl
              rotate_left
              · simp only [Act.put, List.setIfInBounds_toArray, List.set_cons_zero, List.set_cons_succ, i64_w, i32_w]
                rfl
              refine take_ (i := 0) (N := some 100) (v := ?_) (a' := ?_) #[true, false, true, false, false, false, false, false, false, false, false, false, false, false] rfl rfl (by kernel_rfl) (fun _ _ _ h => h) (Or.inl ⟨by rfl, ?_⟩) hHeld ?_ ?_
              rotate_left
              · rintro w' ⟨s0, s1⟩
                try simp only [List.getElem_toArray, List.getElem_cons_succ, List.getElem_cons_zero]
                go_simp
                with_reducible rfl
              rotate_left
              · simp only [Act.put, List.setIfInBounds_toArray, List.set_cons_zero, List.set_cons_succ, i64_w, i32_w]
                rfl
              refine take_ (i := 1) (N := some 101) (v := ?_) (a' := ?_) #[true, true, true, false, false, false, false, false, false, false, false, false, false, false] rfl rfl (by kernel_rfl) (fun _ _ _ h => h) (Or.inl ⟨by rfl, ?_⟩) hHeld ?_ ?_
              rotate_left
              · rintro w' ⟨s0, s1⟩
                try simp only [List.getElem_toArray, List.getElem_cons_succ, List.getElem_cons_zero]
                go_simp
                with_reducible rfl
              rotate_left
              · simp only [Act.put, List.setIfInBounds_toArray, List.set_cons_zero, List.set_cons_succ, i64_w, i32_w]
                rfl
              refine take_ (i := 3) (N := some 103) (v := ?_) (a' := ?_) #[true, true, true, true, false, false, false, false, false, false, false, false, false, false] rfl rfl (by kernel_rfl) (fun _ _ _ h => h) (Or.inl ⟨by rfl, ?_⟩) hHeld ?_ ?_
              rotate_left
              · rintro w' ⟨s0, s1⟩
                try simp only [List.getElem_toArray, List.getElem_cons_succ, List.getElem_cons_zero]
                go_simp
                with_reducible rfl
              rotate_left
              · simp only [Act.put, List.setIfInBounds_toArray, List.set_cons_zero, List.set_cons_succ, i64_w, i32_w]
                rfl
              refine pure_ (i := 4) (N := some 104) (v := ?_) (a' := ?_) #[true, true, true, true, true, false, false, false, false, false, false, false, false, false] rfl rfl (by kernel_rfl) (fun _ _ _ h => h) (Or.inl ⟨by rfl, ?_⟩) ?_ ?_
              rotate_left
              · intro w'
                try simp only [List.getElem_toArray, List.getElem_cons_succ, List.getElem_cons_zero]
                go_simp
                with_reducible rfl
              rotate_left
              · simp only [Act.put, List.setIfInBounds_toArray, List.set_cons_zero, List.set_cons_succ, i64_w, i32_w]
                rfl
              refine pure_ (i := 5) (N := some 105) (v := ?_) (a' := ?_) #[true, true, true, true, true, true, false, false, false, false, false, false, false, false] rfl rfl (by kernel_rfl) (fun _ _ _ h => h) (Or.inl ⟨by rfl, ?_⟩) ?_ ?_
              rotate_left
              · intro w'
                try simp only [List.getElem_toArray, List.getElem_cons_succ, List.getElem_cons_zero]
                go_simp
                with_reducible rfl
              rotate_left
              · simp only [Act.put, List.setIfInBounds_toArray, List.set_cons_zero, List.set_cons_succ, i64_w, i32_w]
                rfl
              refine take_ (i := 6) (N := some 106) (v := ?_) (a' := ?_) #[true, true, true, true, true, true, true, false, false, false, false, false, false, false] rfl rfl (by kernel_rfl) (fun _ _ _ h => h) (Or.inl ⟨by rfl, ?_⟩) hHeld ?_ ?_
              rotate_left
              · rintro w' ⟨s0, s1⟩
                try simp only [List.getElem_toArray, List.getElem_cons_succ, List.getElem_cons_zero]
                go_simp
                with_reducible rfl
              rotate_left
              · simp only [Act.put, List.setIfInBounds_toArray, List.set_cons_zero, List.set_cons_succ, i64_w, i32_w]
                rfl
              refine pure_ (i := 7) (N := some 107) (v := ?_) (a' := ?_) #[true, true, true, true, true, true, true, true, false, false, false, false, false, false] rfl rfl (by kernel_rfl) (fun _ _ _ h => h) (Or.inl ⟨by rfl, ?_⟩) ?_ ?_
              rotate_left
              · intro w'
                try simp only [List.getElem_toArray, List.getElem_cons_succ, List.getElem_cons_zero]
                go_simp
                with_reducible rfl
              rotate_left
              · simp only [Act.put, List.setIfInBounds_toArray, List.set_cons_zero, List.set_cons_succ, i64_w, i32_w]
                rfl
              refine pure_ (i := 8) (N := some 108) (v := ?_) (a' := ?_) #[true, true, true, true, true, true, true, true, true, false, false, false, false, false] rfl rfl (by kernel_rfl) (fun _ _ _ h => h) (Or.inl ⟨by rfl, ?_⟩) ?_ ?_
              rotate_left
              · intro w'
                try simp only [List.getElem_toArray, List.getElem_cons_succ, List.getElem_cons_zero]
                go_simp
                with_reducible rfl
              rotate_left
              · simp only [Act.put, List.setIfInBounds_toArray, List.set_cons_zero, List.set_cons_succ, i64_w, i32_w]
                rfl
              refine pure_ (i := 9) (N := some 109) (v := ?_) (a' := ?_) #[true, true, true, true, true, true, true, true, true, true, false, false, false, false] rfl rfl (by kernel_rfl) (fun _ _ _ h => h) (Or.inl ⟨by rfl, ?_⟩) ?_ ?_
              rotate_left
              · intro w'
                try simp only [List.getElem_toArray, List.getElem_cons_succ, List.getElem_cons_zero]
                go_simp
                with_reducible rfl
              rotate_left
              · simp only [Act.put, List.setIfInBounds_toArray, List.set_cons_zero, List.set_cons_succ, i64_w, i32_w]
                rfl
              refine one_ (i := 10) (N := none) #[true, true, true, true, true, true, true, true, true, true, true, false, false, false] rfl rfl (by kernel_rfl) (by decide) (fun K hK => ?_)
              refine skip_ (w1 := ?_) (by rfl) rfl ?_ ?_
              rotate_left
              · try simp only [List.getElem_toArray, List.getElem_cons_succ, List.getElem_cons_zero]
                go_simp
                rfl
              refine hK.out _ _ ⟨HC1.out, HC2.out⟩ (fun hHeld => ?_)
              clear hK K
              refine pure_ (i := 11) (N := some 110) (v := ?_) (a' := ?_) #[true, true, true, true, true, true, true, true, true, true, true, true, false, false] rfl rfl (by kernel_rfl) (fun _ _ _ h => h) (Or.inl ⟨by rfl, ?_⟩) ?_ ?_
              rotate_left
              · intro w'
                try simp only [List.getElem_toArray, List.getElem_cons_succ, List.getElem_cons_zero]
                go_simp
                with_reducible rfl
              rotate_left
              · simp only [Act.put, List.setIfInBounds_toArray, List.set_cons_zero, List.set_cons_succ, i64_w, i32_w]
                rfl
              refine pure_ (i := 12) (N := some 111) (v := ?_) (a' := ?_) #[true, true, true, true, true, true, true, true, true, true, true, true, true, false] rfl rfl (by kernel_rfl) (fun _ _ _ h => h) (Or.inl ⟨by rfl, ?_⟩) ?_ ?_
              rotate_left
              · intro w'
                try simp only [List.getElem_toArray, List.getElem_cons_succ, List.getElem_cons_zero]
                go_simp
                with_reducible rfl
              rotate_left
              · simp only [Act.put, List.setIfInBounds_toArray, List.set_cons_zero, List.set_cons_succ, i64_w, i32_w]
                rfl
              refine last_ (i := 13) (N := none) #[true, true, true, true, true, true, true, true, true, true, true, true, true, true] rfl rfl (by kernel_rfl) (by decide) (fun K hK => ?_)
              refine skip_ (w1 := ?_) (by rfl) rfl ?_ ?_
              rotate_left
              · try simp only [List.getElem_toArray, List.getElem_cons_succ, List.getElem_cons_zero]
                go_simp
                rfl
              refine hK.out _ _ ?_
              clear hK K
              refine done_ (by kernel_rfl) ?_

              go_wp2
              obtain ⟨W9, hW9⟩ : ∃ W9, W9 = (((W7.setCell ⟨jp, 3, none⟩ (.int .i64 e1)).setCell ⟨jp, 4, none⟩ (.int .i64 (count + 1))).setCell ⟨w.heap.size + 1, 0, none⟩ (.int .i64 0)).drew := ⟨_, rfl⟩
              rw [← hW9]
              have fs : Fr (fun j => j = jp ∨ j = w.heap.size + 1) W7 W9 := by
                rw [hW9]; exact ((((Fr.refl _ W7).setCell _ (.inl (.inl rfl))).setCell _ (.inl (.inl rfl))).setCell _ (.inl (.inr rfl))).drew
              have hr9 : W9.heap[w.heap.size + 1]? = some (.cells #[.int .i64 0] 27 (0, 0)) := by
                rw [hW9, heap_drew', heap_setCell_self, heap_setCell, if_neg (fun e => HNE.out.2.2.2.2 e.symm), heap_setCell, if_neg (fun e => HNE.out.2.2.2.2 e.symm), hrs7]; rfl
              have hj9 : W9.heap[jp]? = some (.cells #[.pointer (some ⟨b, 0, none⟩), .int .i64 from_, .int .i64 to_, .int .i64 e1, .int .i64 (count + 1)] 100 (0, 0)) := by
                rw [hW9, heap_drew', heap_setCell, if_neg HNE.out.2.2.2.2, heap_setCell_self, heap_setCell_self, hj7]; rfl
              clear hW9
              have hbD : b ≠ Dm ∧ lb ≠ Dm := ⟨fun e => HNDF.out (.inl e.symm), fun e => HNDF.out (.inr (.inl e.symm))⟩
              have hK9 := fs.at (HFR7.out.at HK6.out (fun e => e.elim (fun h => hbD.1 h.symm) (fun h => hbD.2 h.symm))) (fun e => e.elim (fun h => HPD.out.2 h.symm) (fun h => HPD.out.1 h.symm))
              have fp : Fr (fun j => j = Dm) W9 (W9.putObj Dm (.deferred none)) := Fr.putObj _ _
              have fsp : Fr (fun j => j = jp ∨ j = w.heap.size + 1 ∨ j = Dm) W7 (W9.putObj Dm (.deferred none)) := (fs.mono (fun _ _ h => h.elim .inl (fun h => .inr (.inl h)))).trans fp (fun j hj => .inl (.inr (.inr hj)))
              refine bodyPostM_ret hK9 (res32 _ (w.heap.size + 1) 0 _ rfl (fp.at hr9 (fun e => HPD.out.1 e))) ?_
              refine ⟨0, .slice none 0 0, E6.flushed, e1, count + 1, rfl, HE7.out.fr fsp (fun j hj e => ?_), fp.at hj9 (fun e => HPD.out.2 e), fun hd => ?_, ⟨((HALL6.out.trans HFR7.out (fun j hj => .inl (.inl (.inl ?_)))).trans fsp (fun j hj => .inl ?_)).mono (fun j hj h => h.elim id (fun h => by omega)), fun j hj => ?_⟩, ?_⟩
              · rcases hj with h | h | h
                · subst h; rcases e with h | h | h
                  · exact HBL.out.2.2.2.2.1 h
                  · exact HBL.out.2.2.1 h
                  · exact hbD.1 h
                · subst h; rcases e with h | h | h
                  · exact HBL.out.2.2.2.2.2 h
                  · exact HBL.out.2.2.2.1 h
                  · exact hbD.2 h
                · simp [Value.ownBlock] at h
              · rcases hd with h | h | h
                · exact HBL.out.2.2.2.2.1 h.symm
                · exact HBL.out.2.2.2.2.2 h.symm
                · simp [Value.ownBlock] at h
              · rcases hj with h | h
                · exact .inl h
                · exact .inr (.inl h)
              · rcases hj with h | h | h
                · exact .inl (.inr h)
                · exact .inr (by omega)
                · exact .inr (by have := HSZ.out.1; have := HDM.out; omega)
              · rcases hj with (h | h | h) | h
                · exact .inl (.inl (.inl h))
                · exact .inl (.inl (.inr (.inl h)))
                · simp [Value.ownBlock] at h
                · exact .inl (.inr h)
              · refine .ok rfl (by have := HE1.out; omega) rfl ?_ rfl (by have := HLL.out; omega) (by have h1 := HFIT.out; have h2 := HB.out.1; omega) (fun h1 h2 => ?_)
                · rw [← HFE.out, ← HS0.out]
                  show settled E6.secs E6.buf = _
                  rw [HRD6.out.2.2.1, HRD6.out.2.2.2]
                · obtain ⟨a1, a2⟩ := HARM6.out h1 h2
                  have a3 : ¬ 0 < E6.armed := by omega
                  simp only [Dk.flushed, Dk.changed, if_neg a3]
                  exact ⟨a1, a2⟩
      · have hr1 : r = 0 := by omega
        have t3 : decide (0 < (r : Int)) = false := by simp; omega
        have t3n : decide (0 < r) = false := by simp; omega
        have HR0 := Lib.hid hr1
        clear hr0 hr1
        go_wp2_with (first
          | (go_at_call 66; refine (j_frame (.slice vo l.length vc) l w2 hV2.out (by have := HLL.out; omega)).mono ?_; rintro e w3 ⟨v3, rfl, b3, n3, f3⟩; obtain ⟨ao3, cap3, rfl⟩ := b3.slice; rw [frameOf_length] at b3 n3 ⊢; have HB3 := Lib.hid b3; have HN3 := Lib.hid n3; have HF3 := Lib.hid f3; have hbx3 := f3.at hbx2 (fun h => h); have hj3 := f3.at hj2 (fun h => h); have hrs3 := f3.at hrs2 (fun h => h); clear b3 n3 f3)
          | (go_at_call 68; refine (sec_make jp at_ ao3 (l.length + 16) cap3 w3).mono ?_; rintro e w4 ⟨q1, q2, q3, rfl, e1', e2, e3, e4, e5, e6, e7, e8, f4⟩; have HQ := Lib.hid (And.intro e1' (And.intro e2 (And.intro e3 (And.intro e4 (And.intro e5 (And.intro e6 (And.intro e7 e8))))))); have HF4 := Lib.hid f4; have hbx4 := f4.at hbx3 (fun h => h); have hj4 := f4.at hj3 (fun h => h); have hrs4 := f4.at hrs3 (fun h => h); clear e1' e2 e3 e4 e5 e6 e7 e8 f4))
        have hfe : frameOf l = f := by
          rw [HFE.out]; unfold appBytes
          rw [← HB.out.2.2.1, HR0.out, List.take_zero, List.nil_append]
        have HFLN : Hid (f.length = l.length + 16) := Lib.hid (by rw [← hfe, frameOf_length])
        have HBF : Hid (IsBytes w4 (.slice ao3 (l.length + 16) cap3) f) := Lib.hid (by rw [← hfe]; exact HB3.out.bytes.fr HF4.out (fun _ _ h => h))
        have HNF : Hid (∀ j, (Value.slice ao3 (l.length + 16) cap3).ownBlock = some j → w.heap.size ≤ j ∧ j < w3.heap.size) := Lib.hid (fun j hj => ⟨Nat.le_trans (HF0.out.trans HF2.out (fun _ h => h.elim)).size (HN3.out j hj), (World.ownsRow.lt HB3.out j hj).2⟩)
        clear hfe
        have hfw4 : Fr (fun _ => False) w w4 := ((HF0.out.trans HF2.out (fun _ h => h.elim)).trans HF3.out (fun _ h => h.elim)).trans HF4.out (fun _ h => h.elim)
        have hd4 := HD.out.fr hfw4 (fun _ _ h => h)
        have HD4 := Lib.hid hd4; have HFW4 := Lib.hid hfw4
        have hltw : w.heap.size + 1 < w4.heap.size := lt_of_block hrs4
        have hjw : jp < w.heap.size := lt_of_block hj
        have hq1 := lt_of_block HQ.out.1; have hq2 := lt_of_block HQ.out.2.1; have hq3 := lt_of_block HQ.out.2.2.1
        have hw3s : w.heap.size + 1 < w3.heap.size := lt_of_block hrs3
        obtain ⟨_, _, _, hQ4, hQ5, hQ6, hQ7, hQ8⟩ := HQ.out
        have hRGold : ∀ j, w.heap.size ≤ j → j < w4.heap.size → ¬ RG w4 b lb wv j := fun j h1 h2 hg => by
          rcases hg with h | h
          · have := HD.out.lt j h; omega
          · omega
        have g1 : ¬ RG w4 b lb wv q1 := hRGold q1 (by omega) hq1
        have g2 : ¬ RG w4 b lb wv q2 := hRGold q2 (by omega) hq2
        have g3 : ¬ RG w4 b lb wv q3 := hRGold q3 (by omega) hq3
        have gj : ¬ RG w4 b lb wv jp := fun hg => by
          rcases hg with h | h
          · exact HJP.out h
          · omega
        have gp2 : ¬ RG w4 b lb wv w.heap.size := hRGold _ (by omega) (by omega)
        have gp4 : ¬ RG w4 b lb wv (w.heap.size + 1) := hRGold _ (by omega) (by omega)
        have HG := Lib.hid (And.intro g3 (And.intro gj (And.intro gp2 gp4)))
        have hne : q3 ≠ w.heap.size ∧ q3 ≠ w.heap.size + 1 ∧ q3 ≠ jp ∧ w.heap.size ≠ jp ∧ w.heap.size + 1 ≠ jp := by omega
        have HNE := Lib.hid hne
        have HSZ := Lib.hid (And.intro hltw (And.intro hq3 (And.intro hjw (show w.heap.size ≤ q3 by omega))))
        have HS0 : Hid (at_ / 64 = end_ / 64) := Lib.hid (by have h1 := HB.out.2.1; have h2 := HB.out.2.2.2.1; omega)
        have hflb : f.length = r + (l.length + 16) ∧ f.length ≤ 4194304 := by
          have hN : from_ + end_ / 64 < D.secs.length := by have h1 := HFIT.out; have h2 := HB.out.2.2.2.2.2.1; have h3 := HB.out.1; have h4 := HB.out.2.2.2.2.2.2.1; omega
          have h1 : f.length = end_ % 64 + (l.length + 16) := by rw [HFE.out]; exact appBytes_length D from_ end_ l HD.out.ok hN
          have h2 := HB.out.2.2.1; have h3 := HLL.out; have h4 := HB.out.2.2.2.2.1.2
          omega
        have HFLB := Lib.hid hflb
        have HNB : Hid (∀ k, k < (f.length + 63) / 64 → from_ + at_ / 64 + k < D.secs.length) := Lib.hid (fun k hk => by
          have h1 := HFIT.out; have h2 := HB.out.2.2.2.2.2.1; have h3 := HB.out.1; have h4 := HB.out.2.2.2.2.2.2.1; have h5 := hflb.1; have h6 := HB.out.2.2.2.2.1; have h7 := HB.out.2.2.2.1
          omega)
        have HNR : Hid (D.buf.length + (f.length + 63) / 64 ≤ 2932031007402) := Lib.hid (by have h1 := HB.out.2.2.2.2.2.2.2.1; have h2 := hflb.2; omega)
        have hseq := sectors_seq q1 q2 q3 jp b from_ to_ end_ count at_ f (RG w4 b lb wv) g1 g2 g3 gj hQ7 hQ8 (by omega) (by have h1 := HB.out.2.2.2.2.1.1; have h2 := HB.out.2.2.2.2.2.1; omega) (by have h2 := HB.out.2.2.2.2.2.1; omega) hflb.2
        have HSEQ := Lib.hid hseq
        have hpre : ∀ o o', RIn w4 b lb cl sp wv D q3 f (from_ + at_ / 64) 0 ((w4.alloc o).alloc o') ∧ SecPre q1 q2 q3 jp b from_ to_ end_ count at_ ((w4.alloc o).alloc o') ∧ SecAt q3 (RG w4 b lb wv) f 0 ((w4.alloc o).alloc o') := fun o o' => by
          have hfa : Fr (fun _ => False) w4 ((w4.alloc o).alloc o') := ((Fr.refl _ w4).alloc o).alloc o'
          refine ⟨⟨hfa.mono (fun _ _ h => h.elim), wv, D, ⟨hd4.fr hfa (fun _ _ h => h), fun j hj => .inl hj, rfl, by rw [wsOf_zero, List.append_nil]⟩, fun h _ => ⟨h, rfl⟩⟩, ⟨hfa.at HQ.out.1 (fun h => h), hfa.at HQ.out.2.1 (fun h => h), hfa.at hj4 (fun h => h)⟩, ?_⟩
          refine SecAt.fr0 ?_ hfa
          have e0 : f.drop (64 * 0) = f := by simp
          refine ⟨ao3, cap3, ?_⟩
          rw [e0, HFLN.out]
          exact ⟨HQ.out.2.2.1, HBF.out, fun j hj => ⟨hRGold j (HNF.out j hj).1 (by have := (HNF.out j hj).2; have := HF4.out.size; omega), fun e => by have := (HNF.out j hj).2; omega⟩⟩
        have HPRE := Lib.hid hpre
        clear hd4 hfw4 hltw hjw hq1 hq2 hq3 hw3s hQ4 hQ5 hQ6 hQ7 hQ8 hRGold g1 g2 g3 gj gp2 gp4 hne hseq hflb hpre
        refine wp_range (gf := 87) (lb := #[.pointer (some ⟨q1, 0, none⟩), .pointer (some ⟨q2, 0, none⟩), .pointer (some ⟨q3, 0, none⟩)]) rfl (enters_of Try.func87 (by kernel_rfl) rfl) _ _ _ _ _ HSEQ.out
          (fun k W => RIn w4 b lb cl sp wv D q3 f (from_ + at_ / 64) k W) (RStop w4 b lb cl sp wv D q3 f (from_ + at_ / 64) (w.heap.size + 1) ((f.length + 63) / 64)) ?hps ?hSt ?hStN ?hRec ?hKt ?h0 ?hround ?hdone ?hstop
        case hps => rintro k args A ⟨ao, cap, rfl, _⟩; rfl
        case hSt => exact fun k A B hI hf => hI.st hf.1 HG.out.1
        case hStN => exact fun A B hf => hf.1.nc (fun j hj => by subst hj; exact hf.2)
        case hRec => exact fun A B lp r hw hl hf => ⟨fun k hI => hI.rec hw hl hf, fun hx => hx.rec hw hl hf, fun k args hX => hX.rec (.inr hw) hf, hf.mono (fun j _ e => by subst e; exact .inr hw)⟩
        case hKt => exact fun A B C h1 h2 => h1.trans h2 (fun _ h => .inl h)
        case h0 => exact HPRE.out
        case hround =>
          rintro lp k args W hI hk ⟨xo, xc, rfl, hxb, hxn⟩
          have HKN := Lib.hid hk
          clear hk
          gi_wp2
          try refine ⟨trivial, ?_⟩
          rintro W2 ⟨hfr2, wv2, E2, hrd, harm⟩ ⟨xo', xc', hxe, hxb2, hxn2⟩
          have hxe : Value.slice xo (chunk f k).length xc = Value.slice xo' (chunk f k).length xc' := congrArg (fun a : Array Value => a.getD 1 undef) hxe
          simp only [Value.slice.injEq, true_and] at hxe
          obtain ⟨rfl, rfl⟩ := hxe
          have hbx5 := hfr2.at hbx4 (fun h => h.elim HG.out.2.2.1 (fun e => HNE.out.1 e.symm))
          have hrs5 := hfr2.at hrs4 (fun h => h.elim HG.out.2.2.2 (fun e => HNE.out.2.1 e.symm))
          have hj5 := hfr2.at hj4 (fun h => h.elim HG.out.2.1 (fun e => HNE.out.2.2.1 e.symm))
          have HFR2 := Lib.hid hfr2; have HRD := Lib.hid hrd; have HXB := Lib.hid hxb2; have HARM := Lib.hid harm
          have hi2 : from_ + at_ / 64 + k < D.secs.length := HNB.out k HKN.out
          have hsz2 : w4.heap.size ≤ W2.heap.size := hfr2.size
          have HI2 := Lib.hid hi2; have HSZ2 := Lib.hid hsz2
          clear hfr2 hrd hxb2 harm hxn2 hxb hxn hi2 hsz2
          cases hd2 : E2.down with
          | true =>
            gi_wp2_with (refine ⟨trivial, ?_⟩; gi_at_call 16; refine (CallsIn.inRound lp (callsIn_wide.2 (RDk.write_down HRD.out hd2 _ _))).mono ?_; rintro e W3 ⟨rfl, rfl⟩)
            have fs : Fr (fun j => j = w.heap.size + 1) W2 (W2.setCell ⟨w.heap.size + 1, 0, none⟩ (.int .i64 32)) := (Fr.refl _ W2).setCell _ (.inl rfl)
            exact ⟨fs.nc (fun j hj => by subst hj; exact ⟨_, _, _, hrs5⟩), 32, by decide, by rw [heap_setCell_self, hrs5]; rfl, (HFR2.out.mono (fun _ _ h => .inl h)).trans fs (fun j hj => .inl (.inr hj)), wv2, E2, k, Nat.le_of_lt HKN.out,
              HRD.out.fr fs (fun j hj hd => by subst hj; exact HG.out.2.2.2 (HRD.out.2.1 _ hd)), fun h => by have := HARM.out h.1 h.2; rw [hd2] at this; cases this.1⟩
          | false =>
            gi_wp2_with (refine ⟨trivial, ?_⟩; gi_at_call 16; refine (CallsIn.inRound lp (callsIn_wide.2 (HRD.out.write HSZ2.out hd2 HI2.out (by have h1 := HNR.out; have h2 := HKN.out; omega) _ HXB.out))).mono ?_; rintro e W3 ⟨rfl, ⟨wv3, E3, hrd3, harm3⟩, hfr3, hnc3⟩; have HRD3 := Lib.hid hrd3; have HARM3 := Lib.hid harm3; have HFR3 := Lib.hid hfr3; have HNC3 := Lib.hid hnc3; clear hrd3 harm3 hfr3 hnc3)
            exact ⟨HNC3.out, HFR3.out, HFR2.out.trans HFR3.out (fun j hj => .inl (.inl hj)), wv3, E3, HRD3.out, fun h1 h2 => by
              obtain ⟨a1, a2⟩ := HARM.out h1 h2
              obtain ⟨b1, b2⟩ := HARM3.out (by omega)
              exact ⟨b1.trans a1, b2.trans a2⟩⟩
        case hstop =>
          rintro Dm W hDm ⟨er, her, hp, hfr, wv6, E6, k6, hk6, hrd6, hno⟩ hK
          have hpd : w.heap.size + 1 ≠ Dm := fun e => by rw [e] at hp; rw [hK] at hp; cases hp
          have fp : Fr (fun j => j = Dm) W (W.putObj Dm (.deferred none)) := Fr.putObj _ _
          have hndf : ¬ dkFoot b lb wv6 Dm := hrd6.not_obj hK rfl
          have hall : Fr (fun j => jFoot b lb jp wv j ∨ w.heap.size ≤ j) w (W.putObj Dm (.deferred none)) := by
            refine ((HFW4.out.mono (fun _ _ h => h.elim)).trans hfr (fun j hj => .inl ?_)).trans fp (fun j hj => .inr ?_)
            · rcases hj with ((h | h) | h) | h
              · exact .inl (.inl h)
              · exact .inr (by have := HSZ.out.1; omega)
              · subst h; exact .inr HSZ.out.2.2.2
              · subst h; exact .inr (by omega)
            · subst hj; have := HSZ.out.1; omega
          refine bodyPostM_ret hK (res32 _ (w.heap.size + 1) er _ rfl (fp.at hp (fun e => hpd e))) ?_
          have hjW := hfr.at hj4 (fun h => by
            rcases h with (h | h) | h
            · exact HG.out.2.1 h
            · exact HNE.out.2.2.1 h.symm
            · exact HNE.out.2.2.2.2 h.symm)
          have hjd : jp ≠ Dm := fun e => by rw [e] at hjW; rw [hK] at hjW; cases hjW
          refine ⟨er, wv6, E6, end_, count, rfl, hrd6.1.fr fp (fun j hj e => by subst e; exact hndf hj), fp.at hjW (fun e => hjd e), fun hd => HG.out.2.1 (hrd6.2.1 _ hd), ⟨hall.mono (fun j hj h => h.elim id (fun h => by omega)), fun j hj => ?_⟩, ?_⟩
          · rcases hj with h | h
            · rcases hrd6.2.1 j h with h1 | h1
              · exact .inl (.inl h1)
              · exact .inr (by have := HSZ.out.1; omega)
            · exact .inl (.inr h)
          · refine .no k6 (by rw [← HFE.out]; exact hk6) her rfl rfl hrd6.2.2.1 (by rw [← HFE.out, ← HS0.out]; exact hrd6.2.2.2) (fun h => hno ⟨h.1, h.2.1⟩) (.inl ⟨by have := HLL.out; omega, by have h1 := HFIT.out; have h2 := HB.out.1; omega⟩) (fun _ h => by have h1 := HFIT.out; have h2 := HB.out.1; omega) (fun h => by have := HLL.out; omega)
        case hdone =>
          rintro Dm W hDm ⟨hfr, wv6, E6, hrd6, harm6⟩ hK
          have hbx6 := hfr.at hbx4 (fun h => h.elim HG.out.2.2.1 (fun e => HNE.out.1 e.symm))
          have hrs6 := hfr.at hrs4 (fun h => h.elim HG.out.2.2.2 (fun e => HNE.out.2.1 e.symm))
          have hj6 := hfr.at hj4 (fun h => h.elim HG.out.2.1 (fun e => HNE.out.2.2.1 e.symm))
          have hndf : ¬ dkFoot b lb wv6 Dm := hrd6.not_obj hK rfl
          have HFR6 := Lib.hid hfr; have HRD6 := Lib.hid hrd6; have HARM6 := Lib.hid harm6; have HK6 := Lib.hid hK; have HNDF := Lib.hid hndf; have HDM := Lib.hid hDm
          have hpd : w.heap.size + 1 ≠ Dm := fun e => by rw [e] at hrs6; rw [hK] at hrs6; cases hrs6
          have hjd : jp ≠ Dm := fun e => by rw [e] at hj6; rw [hK] at hj6; cases hj6
          have HPD := Lib.hid (And.intro hpd hjd)
          have hall6 : Fr (fun j => jFoot b lb jp wv j ∨ w.heap.size ≤ j) w W := by
            refine (HFW4.out.mono (fun _ _ h => h.elim)).trans hfr (fun j hj => .inl ?_)
            rcases hj with (h | h) | h
            · exact .inl (.inl h)
            · exact .inr (by have := HSZ.out.1; omega)
            · subst h; exact .inr HSZ.out.2.2.2
          have hpiv6 : ∀ j, jFoot b lb jp wv6 j → jFoot b lb jp wv j ∨ w.heap.size ≤ j := fun j hj => by
            rcases hj with h | h
            · rcases hrd6.2.1 j h with h1 | h1
              · exact .inl (.inl h1)
              · exact .inr (by have := HSZ.out.1; omega)
            · exact .inl (.inr h)
          have HALL6 := Lib.hid hall6; have HPIV6 := Lib.hid hpiv6
          have hbl : b ≠ w.heap.size ∧ lb ≠ w.heap.size ∧ b ≠ w.heap.size + 1 ∧ lb ≠ w.heap.size + 1 ∧ b ≠ jp ∧ lb ≠ jp := by
            have h1 := HD.out.lt b (.inl rfl); have h2 := HD.out.lt lb (.inr (.inl rfl))
            exact ⟨by omega, by omega, by omega, by omega, fun e => HJP.out (.inl e.symm), fun e => HJP.out (.inr (.inl e.symm))⟩
          have HBL := Lib.hid hbl
          clear hfr hrd6 harm6 hK hndf hDm hpd hjd hall6 hpiv6 hbl
          cases hd6 : E6.down with
          | true =>
            go_wp2_with (go_at_call 15; refine (flush_down b lb cl sp wv6 E6 W HRD6.out.1 hd6).mono ?_; rintro e W7 ⟨rfl, rfl⟩)
            have fs : Fr (fun j => j = w.heap.size + 1) W (W.setCell ⟨w.heap.size + 1, 0, none⟩ (.int .i64 32)) := (Fr.refl _ W).setCell _ (.inl rfl)
            have hK8 := fs.at HK6.out (fun e => HPD.out.1 e.symm)
            have fp : Fr (fun j => j = Dm) (W.setCell ⟨w.heap.size + 1, 0, none⟩ (.int .i64 32)) ((W.setCell ⟨w.heap.size + 1, 0, none⟩ (.int .i64 32)).putObj Dm (.deferred none)) := Fr.putObj _ _
            have fsp : Fr (fun j => j = w.heap.size + 1 ∨ j = Dm) W ((W.setCell ⟨w.heap.size + 1, 0, none⟩ (.int .i64 32)).putObj Dm (.deferred none)) := (fs.mono (fun _ _ h => .inl h)).trans fp (fun j hj => .inl (.inr hj))
            refine bodyPostM_ret hK8 (res32 _ (w.heap.size + 1) 32 _ rfl (fp.at (by rw [heap_setCell_self, hrs6]; rfl) (fun e => HPD.out.1 e))) ?_
            refine ⟨32, wv6, E6, end_, count, rfl, HRD6.out.1.fr fsp (fun j hj e => ?_), fsp.at hj6 (fun e => e.elim (fun h => HNE.out.2.2.2.2 h.symm) (fun h => HPD.out.2 h)), fun hd => HG.out.2.1 (HRD6.out.2.1 _ hd), ⟨(HALL6.out.trans fsp (fun j hj => .inl (.inr ?_))).mono (fun j hj h => h.elim id (fun h => by omega)), HPIV6.out⟩, ?_⟩
            · rcases e with h | h
              · subst h; exact HG.out.2.2.2 (HRD6.out.2.1 _ hj)
              · subst h; exact HNDF.out hj
            · rcases hj with h | h
              · omega
              · subst h; have := HSZ.out.1; have := HDM.out; omega
            · refine .no ((f.length + 63) / 64) (by rw [← HFE.out]; exact Nat.le_refl _) (by decide) rfl rfl HRD6.out.2.2.1 (by rw [← HFE.out, ← HS0.out]; exact HRD6.out.2.2.2) (fun h => by have := HARM6.out h.1 h.2.1; rw [hd6] at this; cases this.1) (.inl ⟨by have := HLL.out; omega, by have h1 := HFIT.out; have h2 := HB.out.1; omega⟩) (fun _ h => by have h1 := HFIT.out; have h2 := HB.out.1; omega) (fun h => by have := HLL.out; omega)
          | false =>
            have A9 : Value.int .i64 (wrap64 (count + 1)) = Value.int .i64 (count + 1) := congrArg (Value.int .i64) (w64 _ (by have := HB.out.2.2.2.2.2.2.2.2; omega))
            go_wp2_with (go_at_call 15; refine (flush_up b lb cl sp wv6 E6 W HRD6.out.1 hd6).mono ?_; rintro e W7 ⟨rfl, hE7, fr7⟩; have HE7 := Lib.hid hE7; have HFR7 := Lib.hid fr7; have hbx7 := fr7.at hbx6 (fun e => e.elim (fun h => HBL.out.1 h.symm) (fun h => HBL.out.2.1 h.symm)); have hrs7 := fr7.at hrs6 (fun e => e.elim (fun h => HBL.out.2.2.1 h.symm) (fun h => HBL.out.2.2.2.1 h.symm)); have hj7 := fr7.at hj6 (fun e => e.elim (fun h => HBL.out.2.2.2.2.1 h.symm) (fun h => HBL.out.2.2.2.2.2 h.symm)); clear hE7 fr7)
            have hbx7d : W7.drew.heap[w.heap.size]? = some (.cells #[.pointer (some ⟨jp, 0, none⟩)] 52 (0, 0)) := hbx7
            have hj7d : W7.drew.heap[jp]? = some (.cells #[.pointer (some ⟨b, 0, none⟩), .int .i64 from_, .int .i64 to_, .int .i64 end_, .int .i64 count] 100 (0, 0)) := hj7
            have hc7d : cellIn W7.drew.heap[jp]? 4 = some (.int .i64 count) := by rw [hj7d]; rfl
            have HC1 : Hid ((W7.drew.setCell ⟨jp, 3, none⟩ (.int .i64 e1)).heap[w.heap.size]? = some (.cells #[.pointer (some ⟨jp, 0, none⟩)] 52 (0, 0))) := Lib.hid (by rw [heap_setCell, if_neg (fun e => HNE.out.2.2.2.1 e.symm)]; exact hbx7d)
            have HC2 : Hid (cellIn (W7.drew.setCell ⟨jp, 3, none⟩ (.int .i64 e1)).heap[jp]? 4 = some (.int .i64 count)) := Lib.hid (by rw [heap_setCell_self, hj7d]; rfl)
            refine start_ (n := 14) (S := fun w' => w'.heap[w.heap.size]? = some (.cells #[.pointer (some ⟨jp, 0, none⟩)] 52 (0, 0)) ∧ cellIn w'.heap[jp]? 4 = some (.int .i64 count)) (ds := [13]) #[false, false, false, false, false, false, false, false, false, false, false, false, false, false] (by kernel_rfl) rfl rfl ⟨hbx7d, hc7d⟩ (fun hHeld => ?_)
            refine pure_ (i := 2) (N := some 102) (v := ?_) (a' := ?_) #[false, false, true, false, false, false, false, false, false, false, false, false, false, false] rfl rfl (by kernel_rfl) (fun _ _ _ h => h) (Or.inl ⟨by rfl, ?_⟩) ?_ ?_
            rotate_left
            · intro w'
              try simp only [List.getElem_toArray, List.getElem_cons_succ, List.getElem_cons_zero]
              go_simp
              with_reducible rfl
            rotate_left
            · simp only [Act.put, List.setIfInBounds_toArray, List.set_cons_zero, List.set_cons_succ, i64_w, i32_w]
              rfl
            refine take_ (i := 0) (N := some 100) (v := ?_) (a' := ?_) #[true, false, true, false, false, false, false, false, false, false, false, false, false, false] rfl rfl (by kernel_rfl) (fun _ _ _ h => h) (Or.inl ⟨by rfl, ?_⟩) hHeld ?_ ?_
            rotate_left
            · rintro w' ⟨s0, s1⟩
              try simp only [List.getElem_toArray, List.getElem_cons_succ, List.getElem_cons_zero]
              go_simp
              with_reducible rfl
            rotate_left
            · simp only [Act.put, List.setIfInBounds_toArray, List.set_cons_zero, List.set_cons_succ, i64_w, i32_w]
              rfl
            refine take_ (i := 1) (N := some 101) (v := ?_) (a' := ?_) #[true, true, true, false, false, false, false, false, false, false, false, false, false, false] rfl rfl (by kernel_rfl) (fun _ _ _ h => h) (Or.inl ⟨by rfl, ?_⟩) hHeld ?_ ?_
            rotate_left
            · rintro w' ⟨s0, s1⟩
              try simp only [List.getElem_toArray, List.getElem_cons_succ, List.getElem_cons_zero]
              go_simp
              with_reducible rfl
            rotate_left
            · simp only [Act.put, List.setIfInBounds_toArray, List.set_cons_zero, List.set_cons_succ, i64_w, i32_w]
              rfl
            refine take_ (i := 3) (N := some 103) (v := ?_) (a' := ?_) #[true, true, true, true, false, false, false, false, false, false, false, false, false, false] rfl rfl (by kernel_rfl) (fun _ _ _ h => h) (Or.inl ⟨by rfl, ?_⟩) hHeld ?_ ?_
            rotate_left
            · rintro w' ⟨s0, s1⟩
              try simp only [List.getElem_toArray, List.getElem_cons_succ, List.getElem_cons_zero]
              go_simp
              with_reducible rfl
            rotate_left
            · simp only [Act.put, List.setIfInBounds_toArray, List.set_cons_zero, List.set_cons_succ, i64_w, i32_w]
              rfl
            refine pure_ (i := 4) (N := some 104) (v := ?_) (a' := ?_) #[true, true, true, true, true, false, false, false, false, false, false, false, false, false] rfl rfl (by kernel_rfl) (fun _ _ _ h => h) (Or.inl ⟨by rfl, ?_⟩) ?_ ?_
            rotate_left
            · intro w'
              try simp only [List.getElem_toArray, List.getElem_cons_succ, List.getElem_cons_zero]
              go_simp
              with_reducible rfl
            rotate_left
            · simp only [Act.put, List.setIfInBounds_toArray, List.set_cons_zero, List.set_cons_succ, i64_w, i32_w]
              rfl
            refine pure_ (i := 5) (N := some 105) (v := ?_) (a' := ?_) #[true, true, true, true, true, true, false, false, false, false, false, false, false, false] rfl rfl (by kernel_rfl) (fun _ _ _ h => h) (Or.inl ⟨by rfl, ?_⟩) ?_ ?_
            rotate_left
            · intro w'
              try simp only [List.getElem_toArray, List.getElem_cons_succ, List.getElem_cons_zero]
              go_simp
              with_reducible rfl
            rotate_left
            · simp only [Act.put, List.setIfInBounds_toArray, List.set_cons_zero, List.set_cons_succ, i64_w, i32_w]
              rfl
            refine take_ (i := 6) (N := some 106) (v := ?_) (a' := ?_) #[true, true, true, true, true, true, true, false, false, false, false, false, false, false] rfl rfl (by kernel_rfl) (fun _ _ _ h => h) (Or.inl ⟨by rfl, ?_⟩) hHeld ?_ ?_
            rotate_left
            · rintro w' ⟨s0, s1⟩
              try simp only [List.getElem_toArray, List.getElem_cons_succ, List.getElem_cons_zero]
              go_simp
              with_reducible rfl
            rotate_left
            · simp only [Act.put, List.setIfInBounds_toArray, List.set_cons_zero, List.set_cons_succ, i64_w, i32_w]
              rfl
            refine pure_ (i := 7) (N := some 107) (v := ?_) (a' := ?_) #[true, true, true, true, true, true, true, true, false, false, false, false, false, false] rfl rfl (by kernel_rfl) (fun _ _ _ h => h) (Or.inl ⟨by rfl, ?_⟩) ?_ ?_
            rotate_left
            · intro w'
              try simp only [List.getElem_toArray, List.getElem_cons_succ, List.getElem_cons_zero]
              go_simp
              with_reducible rfl
            rotate_left
            · simp only [Act.put, List.setIfInBounds_toArray, List.set_cons_zero, List.set_cons_succ, i64_w, i32_w]
              rfl
            refine pure_ (i := 8) (N := some 108) (v := ?_) (a' := ?_) #[true, true, true, true, true, true, true, true, true, false, false, false, false, false] rfl rfl (by kernel_rfl) (fun _ _ _ h => h) (Or.inl ⟨by rfl, ?_⟩) ?_ ?_
            rotate_left
            · intro w'
              try simp only [List.getElem_toArray, List.getElem_cons_succ, List.getElem_cons_zero]
              go_simp
              with_reducible rfl
            rotate_left
            · simp only [Act.put, List.setIfInBounds_toArray, List.set_cons_zero, List.set_cons_succ, i64_w, i32_w]
              rfl
            refine pure_ (i := 9) (N := some 109) (v := ?_) (a' := ?_) #[true, true, true, true, true, true, true, true, true, true, false, false, false, false] rfl rfl (by kernel_rfl) (fun _ _ _ h => h) (Or.inl ⟨by rfl, ?_⟩) ?_ ?_
            rotate_left
            · intro w'
              try simp only [List.getElem_toArray, List.getElem_cons_succ, List.getElem_cons_zero]
              go_simp
              with_reducible rfl
            rotate_left
            · simp only [Act.put, List.setIfInBounds_toArray, List.set_cons_zero, List.set_cons_succ, i64_w, i32_w]
              rfl
            refine one_ (i := 10) (N := none) #[true, true, true, true, true, true, true, true, true, true, true, false, false, false] rfl rfl (by kernel_rfl) (by decide) (fun K hK => ?_)
            refine skip_ (w1 := ?_) (by rfl) rfl ?_ ?_
            rotate_left
            · try simp only [List.getElem_toArray, List.getElem_cons_succ, List.getElem_cons_zero]
              go_simp
              rfl
            refine hK.out _ _ ⟨HC1.out, HC2.out⟩ (fun hHeld => ?_)
            clear hK K
            refine pure_ (i := 11) (N := some 110) (v := ?_) (a' := ?_) #[true, true, true, true, true, true, true, true, true, true, true, true, false, false] rfl rfl (by kernel_rfl) (fun _ _ _ h => h) (Or.inl ⟨by rfl, ?_⟩) ?_ ?_
            rotate_left
            · intro w'
              try simp only [List.getElem_toArray, List.getElem_cons_succ, List.getElem_cons_zero]
              go_simp
              with_reducible rfl
            rotate_left
            · simp only [Act.put, List.setIfInBounds_toArray, List.set_cons_zero, List.set_cons_succ, i64_w, i32_w]
              rfl
            refine pure_ (i := 12) (N := some 111) (v := ?_) (a' := ?_) #[true, true, true, true, true, true, true, true, true, true, true, true, true, false] rfl rfl (by kernel_rfl) (fun _ _ _ h => h) (Or.inl ⟨by rfl, ?_⟩) ?_ ?_
            rotate_left
            · intro w'
              try simp only [List.getElem_toArray, List.getElem_cons_succ, List.getElem_cons_zero]
              go_simp
              with_reducible rfl
            rotate_left
            · simp only [Act.put, List.setIfInBounds_toArray, List.set_cons_zero, List.set_cons_succ, i64_w, i32_w]
              rfl
            refine last_ (i := 13) (N := none) #[true, true, true, true, true, true, true, true, true, true, true, true, true, true] rfl rfl (by kernel_rfl) (by decide) (fun K hK => ?_)
            refine skip_ (w1 := ?_) (by rfl) rfl ?_ ?_
            rotate_left
            · try simp only [List.getElem_toArray, List.getElem_cons_succ, List.getElem_cons_zero]
              go_simp
              rfl
            refine hK.out _ _ ?_
            clear hK K
            refine done_ (by kernel_rfl) ?_

            go_wp2
            obtain ⟨W9, hW9⟩ : ∃ W9, W9 = (((W7.setCell ⟨jp, 3, none⟩ (.int .i64 e1)).setCell ⟨jp, 4, none⟩ (.int .i64 (count + 1))).setCell ⟨w.heap.size + 1, 0, none⟩ (.int .i64 0)).drew := ⟨_, rfl⟩
            rw [← hW9]
            have fs : Fr (fun j => j = jp ∨ j = w.heap.size + 1) W7 W9 := by
              rw [hW9]; exact ((((Fr.refl _ W7).setCell _ (.inl (.inl rfl))).setCell _ (.inl (.inl rfl))).setCell _ (.inl (.inr rfl))).drew
            have hr9 : W9.heap[w.heap.size + 1]? = some (.cells #[.int .i64 0] 27 (0, 0)) := by
              rw [hW9, heap_drew', heap_setCell_self, heap_setCell, if_neg (fun e => HNE.out.2.2.2.2 e.symm), heap_setCell, if_neg (fun e => HNE.out.2.2.2.2 e.symm), hrs7]; rfl
            have hj9 : W9.heap[jp]? = some (.cells #[.pointer (some ⟨b, 0, none⟩), .int .i64 from_, .int .i64 to_, .int .i64 e1, .int .i64 (count + 1)] 100 (0, 0)) := by
              rw [hW9, heap_drew', heap_setCell, if_neg HNE.out.2.2.2.2, heap_setCell_self, heap_setCell_self, hj7]; rfl
            clear hW9
            have hbD : b ≠ Dm ∧ lb ≠ Dm := ⟨fun e => HNDF.out (.inl e.symm), fun e => HNDF.out (.inr (.inl e.symm))⟩
            have hK9 := fs.at (HFR7.out.at HK6.out (fun e => e.elim (fun h => hbD.1 h.symm) (fun h => hbD.2 h.symm))) (fun e => e.elim (fun h => HPD.out.2 h.symm) (fun h => HPD.out.1 h.symm))
            have fp : Fr (fun j => j = Dm) W9 (W9.putObj Dm (.deferred none)) := Fr.putObj _ _
            have fsp : Fr (fun j => j = jp ∨ j = w.heap.size + 1 ∨ j = Dm) W7 (W9.putObj Dm (.deferred none)) := (fs.mono (fun _ _ h => h.elim .inl (fun h => .inr (.inl h)))).trans fp (fun j hj => .inl (.inr (.inr hj)))
            refine bodyPostM_ret hK9 (res32 _ (w.heap.size + 1) 0 _ rfl (fp.at hr9 (fun e => HPD.out.1 e))) ?_
            refine ⟨0, .slice none 0 0, E6.flushed, e1, count + 1, rfl, HE7.out.fr fsp (fun j hj e => ?_), fp.at hj9 (fun e => HPD.out.2 e), fun hd => ?_, ⟨((HALL6.out.trans HFR7.out (fun j hj => .inl (.inl (.inl ?_)))).trans fsp (fun j hj => .inl ?_)).mono (fun j hj h => h.elim id (fun h => by omega)), fun j hj => ?_⟩, ?_⟩
            · rcases hj with h | h | h
              · subst h; rcases e with h | h | h
                · exact HBL.out.2.2.2.2.1 h
                · exact HBL.out.2.2.1 h
                · exact hbD.1 h
              · subst h; rcases e with h | h | h
                · exact HBL.out.2.2.2.2.2 h
                · exact HBL.out.2.2.2.1 h
                · exact hbD.2 h
              · simp [Value.ownBlock] at h
            · rcases hd with h | h | h
              · exact HBL.out.2.2.2.2.1 h.symm
              · exact HBL.out.2.2.2.2.2 h.symm
              · simp [Value.ownBlock] at h
            · rcases hj with h | h
              · exact .inl h
              · exact .inr (.inl h)
            · rcases hj with h | h | h
              · exact .inl (.inr h)
              · exact .inr (by omega)
              · exact .inr (by have := HSZ.out.1; have := HDM.out; omega)
            · rcases hj with (h | h | h) | h
              · exact .inl (.inl (.inl h))
              · exact .inl (.inl (.inr (.inl h)))
              · simp [Value.ownBlock] at h
              · exact .inl (.inr h)
            · refine .ok rfl (by have := HE1.out; omega) rfl ?_ rfl (by have := HLL.out; omega) (by have h1 := HFIT.out; have h2 := HB.out.1; omega) (fun h1 h2 => ?_)
              · rw [← HFE.out, ← HS0.out]
                show settled E6.secs E6.buf = _
                rw [HRD6.out.2.2.1, HRD6.out.2.2.2]
              · obtain ⟨a1, a2⟩ := HARM6.out h1 h2
                have a3 : ¬ 0 < E6.armed := by omega
                simp only [Dk.flushed, Dk.changed, if_neg a3]
                exact ⟨a1, a2⟩
end Go.Proofs.Ytnpeeephkkmomaa
namespace Go.Proofs.Ytnpeeephkkmomaa
open Go.RowKit
set_option linter.unusedVariables false
set_option linter.unusedSimpArgs false

/-- Some bytes, as far as they reach, stand at the q-th sector. -/
def Agr (pre : List UInt8) (q : Nat) (x : List UInt8) : Prop := ∀ p, p < 64 → 64 * q + p < pre.length → x[p]? = pre[64 * q + p]?
/-- They stand on the disk, and no write that waits hits them. -/
def Good (fr : Nat) (pre : List UInt8) (D : Dk) : Prop :=
  (∀ q s, D.secs[fr + q]? = some s → Agr pre q s) ∧ (∀ x ∈ D.buf, ∀ q, x.1 = fr + q → Agr pre q x.2)

theorem Agr.ahead {a b : List UInt8} {q : Nat} {x : List UInt8} (h : Agr (a ++ b) q x) : Agr a q x := fun p hp hl => by
  rw [h p hp (by rw [List.length_append]; omega), List.getElem?_append_left hl]
theorem Good.ahead {fr : Nat} {a b : List UInt8} {D : Dk} (h : Good fr (a ++ b) D) : Good fr a D :=
  ⟨fun q s hs => (h.1 q s hs).ahead, fun x hx q hq => (h.2 x hx q hq).ahead⟩
theorem Good.nil (fr : Nat) (D : Dk) : Good fr [] D := ⟨fun _ _ _ _ _ h => by simp at h, fun _ _ _ _ _ _ h => by simp at h⟩

theorem lastAt_or : ∀ (l : List (Nat × List UInt8)) (i : Nat) (s : List UInt8), lastAt l i s = s ∨ ∃ x ∈ l, x.1 = i ∧ lastAt l i s = x.2
  | [], _, _ => .inl rfl
  | x :: l, i, s => by
    have h := lastAt_or l i (if x.1 = i then x.2 else s)
    have e : lastAt (x :: l) i s = lastAt l i (if x.1 = i then x.2 else s) := rfl
    rw [e]
    rcases h with h | ⟨y, hy, hi, h⟩
    · rw [h]
      by_cases hx : x.1 = i
      · rw [if_pos hx]; exact .inr ⟨x, by simp, hx, rfl⟩
      · rw [if_neg hx]; exact .inl rfl
    · exact .inr ⟨y, by simp [hy], hi, h⟩
theorem lastAt_append (a b : List (Nat × List UInt8)) (i : Nat) (s : List UInt8) : lastAt (a ++ b) i s = lastAt b i (lastAt a i s) := by simp [lastAt]
theorem settled_get : ∀ (l : List (Nat × List UInt8)) (s : List (List UInt8)) (i : Nat), (settled s l)[i]? = (s[i]?).map (fun y => lastAt l i y)
  | [], s, i => by cases h : s[i]? <;> simp [settled, lastAt, h]
  | x :: l, s, i => by
    have e : settled s (x :: l) = settled (s.set x.1 x.2) l := rfl
    rw [e, settled_get l, List.getElem?_set]
    by_cases hx : x.1 = i
    · subst hx
      rw [if_pos rfl]
      by_cases hl : x.1 < s.length
      · rw [if_pos hl, List.getElem?_eq_getElem hl]
        simp [lastAt]
      · rw [if_neg hl, List.getElem?_eq_none (by omega)]; rfl
    · rw [if_neg hx]
      cases h : s[i]? with
      | none => rfl
      | some y => simp [lastAt, hx]
theorem Good.at {fr : Nat} {pre : List UInt8} {D : Dk} (h : Good fr pre D) {l : List (Nat × List UInt8)} (hl : ∀ x ∈ l, x ∈ D.buf) {q : Nat} {s : List UInt8} (hs : D.secs[fr + q]? = some s) : Agr pre q (lastAt l (fr + q) s) := by
  rcases lastAt_or l (fr + q) s with e | ⟨x, hx, hi, e⟩
  · rw [e]; exact h.1 q s hs
  · rw [e]; exact h.2 x (hl x hx) q hi
theorem Good.told {fr : Nat} {pre : List UInt8} {D : Dk} (h : Good fr pre D) {q : Nat} (hq : fr + q < D.secs.length) : Agr pre q (D.told (fr + q)) := by
  unfold Dk.told
  rw [List.getD_eq_getElem?_getD, List.getElem?_eq_getElem hq]
  exact h.at (fun _ h => h) (List.getElem?_eq_getElem hq)
theorem Good.stl {fr : Nat} {pre : List UInt8} {D : Dk} (h : Good fr pre D) {l : List (Nat × List UInt8)} (hl : ∀ x ∈ l, x ∈ D.buf) {q : Nat} {s : List UInt8} (hs : (settled D.secs l)[fr + q]? = some s) : Agr pre q s := by
  rw [settled_get] at hs
  cases h0 : D.secs[fr + q]? with
  | none => rw [h0] at hs; cases hs
  | some y =>
    rw [h0] at hs
    simp only [Option.map_some, Option.some.injEq] at hs
    rw [← hs]; exact h.at hl h0
theorem Agr.mix {pre : List UInt8} {q t : Nat} {x s : List UInt8} (hx : Agr pre q x) (hs : Agr pre q s) (hl : x.length = 64) (ht : t ≤ 64) : Agr pre q (x.take t ++ s.drop t) := fun p hp hb => by
  have htl : (x.take t).length = t := by rw [List.length_take]; omega
  by_cases h : p < t
  · rw [List.getElem?_append_left (by omega), List.getElem?_take, if_pos h]; exact hx p hp hb
  · rw [List.getElem?_append_right (by omega), htl, List.getElem?_drop, show t + (p - t) = p by omega]; exact hs p hp hb
theorem Good.crashed {fr : Nat} {pre : List UInt8} {D : Dk} (h : Good fr pre D) (ok : D.Ok) (a b : Int) : Good fr pre (D.crashed a b) := by
  refine ⟨fun q s hs => ?_, fun x hx => by simp [Dk.crashed] at hx⟩
  unfold Dk.crashed at hs
  simp only at hs
  have hsub : ∀ n, ∀ x ∈ D.buf.take n, x ∈ D.buf := fun n x hx => List.mem_of_mem_take hx
  split at hs
  · rename_i x hx
    have hxm := List.mem_of_getElem? hx
    rw [List.getElem?_set] at hs
    split at hs
    · rename_i e
      split at hs
      · rename_i hlt
        simp only [Option.some.injEq] at hs
        rw [← hs]
        refine Agr.mix (h.2 x hxm q e) ?_ (ok.buf x hxm).2 (by unfold torn8; omega)
        rw [List.getD_eq_getElem?_getD, List.getElem?_eq_getElem hlt]
        have hs2 : (settled D.secs (D.buf.take (min (max a 0) D.buf.length).toNat))[fr + q]? = some ((settled D.secs (D.buf.take (min (max a 0) D.buf.length).toNat))[x.1]) := by rw [← e]; exact List.getElem?_eq_getElem hlt
        exact h.stl (hsub _) hs2
      · cases hs
    · exact h.stl (hsub _) hs
  · exact h.stl (hsub _) hs
theorem tells_get (D : Dk) (ok : D.Ok) (fr : Nat) : ∀ k j, fr + k ≤ D.secs.length → j < 64 * k → (D.tells fr k)[j]? = (D.told (fr + j / 64))[j % 64]?
  | 0, j, _, h => by omega
  | k + 1, j, hk, h => by
    have hl := Dk.tells_length D ok fr k (by omega)
    rw [Dk.tells_succ]
    by_cases hj : j < 64 * k
    · rw [List.getElem?_append_left (by omega)]; exact tells_get D ok fr k j (by omega) hj
    · rw [List.getElem?_append_right (by omega), hl, show j / 64 = k by omega, show j % 64 = j - 64 * k by omega]
theorem Good.tells {fr : Nat} {pre : List UInt8} {D : Dk} (h : Good fr pre D) (ok : D.Ok) (hb : fr + (pre.length + 63) / 64 ≤ D.secs.length) : (D.tells fr ((pre.length + 63) / 64)).take pre.length = pre := by
  refine List.ext_getElem? fun j => ?_
  by_cases hj : j < pre.length
  · rw [List.getElem?_take, if_pos hj, tells_get D ok fr _ j hb (by omega), h.told (q := j / 64) (by omega) (j % 64) (by omega) (by omega), show 64 * (j / 64) + j % 64 = j by omega]
  · rw [List.getElem?_eq_none (by rw [List.length_take]; omega), List.getElem?_eq_none (by omega)]

theorem pad_chunk_get (f : List UInt8) (j p : Nat) (hp : p < 64) (h : 64 * j + p < f.length) : (pad64 (chunk f j))[p]? = f[64 * j + p]? := by
  unfold pad64
  rw [List.getElem?_append_left (by rw [chunk_length]; omega)]
  unfold chunk
  rw [List.getElem?_take, if_pos hp, List.getElem?_drop]
theorem appBytes_get (D : Dk) (ok : D.Ok) (fr en : Nat) (l : List UInt8) (hi : fr + en / 64 < D.secs.length) (i : Nat) :
    (appBytes D fr en l)[i]? = if i < en % 64 then (D.told (fr + en / 64))[i]? else (frameOf l)[i - en % 64]? := by
  have hl : ((D.told (fr + en / 64)).take (en % 64)).length = en % 64 := by rw [List.length_take, told_len D ok _ hi]; omega
  unfold appBytes
  by_cases h : i < en % 64
  · rw [if_pos h, List.getElem?_append_left (by omega), List.getElem?_take, if_pos h]
  · rw [if_neg h, List.getElem?_append_right (by omega), hl]
/-- As long as not all is done: what stood ahead stands. -/
theorem Good.part {fr : Nat} {pre : List UInt8} {D E : Dk} (h : Good fr pre D) (ok : D.Ok) (l : List UInt8) (hi : fr + pre.length / 64 < D.secs.length) (k : Nat) (hs : E.secs = D.secs) (hb : E.buf = D.buf ++ wsOf (appBytes D fr pre.length l) (fr + pre.length / 64) k) : Good fr pre E := by
  refine ⟨by rw [hs]; exact h.1, fun x hx q hq => ?_⟩
  rw [hb, List.mem_append] at hx
  rcases hx with hx | hx
  · exact h.2 x hx q hq
  · simp only [wsOf, List.mem_map, List.mem_range] at hx
    obtain ⟨j, hj, rfl⟩ := hx
    simp only at hq ⊢
    intro p hp hpl
    obtain rfl : q = pre.length / 64 + j := by omega
    obtain rfl : j = 0 := by omega
    have hlen := appBytes_length D fr pre.length l ok hi
    rw [pad_chunk_get _ _ _ hp (by omega), appBytes_get D ok fr _ l hi, if_pos (by omega)]
    rw [show 64 * 0 + p = p by omega]
    have := h.told hi p hp (by omega)
    rw [this]; rfl
theorem lastAt_ws (f : List UInt8) (s0 : Nat) : ∀ (k i : Nat) (s : List UInt8), lastAt (wsOf f s0 k) i s = if s0 ≤ i ∧ i < s0 + k then pad64 (chunk f (i - s0)) else s
  | 0, i, s => by rw [wsOf_zero, if_neg (by omega)]; rfl
  | k + 1, i, s => by
    rw [wsOf_succ, lastAt_snoc, lastAt_ws f s0 k]
    by_cases h : s0 + k = i
    · rw [if_pos h, if_pos (by omega)]; simp only; rw [show i - s0 = k by omega]
    · rw [if_neg h]
      by_cases h2 : s0 ≤ i ∧ i < s0 + k
      · rw [if_pos h2, if_pos (by omega)]
      · rw [if_neg h2, if_neg (by omega)]
/-- All is done: the frame stands, too. -/
theorem Good.full {fr : Nat} {pre : List UInt8} {D E : Dk} (h : Good fr pre D) (ok : D.Ok) (l : List UInt8) (hi : fr + pre.length / 64 < D.secs.length)
    (hs : E.secs = settled D.secs (D.buf ++ wsOf (appBytes D fr pre.length l) (fr + pre.length / 64) (((appBytes D fr pre.length l).length + 63) / 64))) (hb : E.buf = []) : Good fr (pre ++ frameOf l) E := by
  refine ⟨fun q s hq => ?_, fun x hx => by rw [hb] at hx; cases hx⟩
  rw [hs, settled_get] at hq
  have hlen := appBytes_length D fr pre.length l ok hi
  cases h0 : D.secs[fr + q]? with
  | none => rw [h0] at hq; cases hq
  | some y =>
    rw [h0] at hq
    simp only [Option.map_some, Option.some.injEq] at hq
    rw [lastAt_append, lastAt_ws] at hq
    intro p hp hpl
    rw [List.length_append, frameOf_length] at hpl
    by_cases hc : fr + pre.length / 64 ≤ fr + q ∧ fr + q < fr + pre.length / 64 + ((appBytes D fr pre.length l).length + 63) / 64
    · rw [if_pos hc] at hq
      obtain ⟨j, rfl⟩ : ∃ j, q = pre.length / 64 + j := ⟨q - pre.length / 64, by omega⟩
      rw [← hq, show fr + (pre.length / 64 + j) - (fr + pre.length / 64) = j by omega, pad_chunk_get _ _ _ hp (by omega), appBytes_get D ok fr _ l hi]
      by_cases hr : 64 * j + p < pre.length % 64
      · rw [if_pos hr, List.getElem?_append_left (by omega)]
        obtain rfl : j = 0 := by omega
        rw [show 64 * 0 + p = p by omega]
        exact h.told hi p hp (by omega)
      · rw [if_neg hr, List.getElem?_append_right (by omega)]
        congr 1; omega
    · rw [if_neg hc] at hq
      rw [← hq]
      have hq2 : 64 * q + p < pre.length := by omega
      rw [List.getElem?_append_left hq2]
      exact h.at (fun _ h => h) h0 p hp hq2
theorem Good.armed {fr : Nat} {pre : List UInt8} {D : Dk} (h : Good fr pre D) (n : Int) : Good fr pre (D.armedAt n) := by
  unfold Dk.armedAt
  split
  · exact h
  · exact h
end Go.Proofs.Ytnpeeephkkmomaa
namespace Go.Proofs.Ytnpeeephkkmomaa
open Go.RowKit Go.Proofs.YtnpeeephkkmomaaW.PrintLast
set_option linter.unusedVariables false
set_option linter.unusedSimpArgs false

/-- What a step may turn. -/
def Aside (W : World) (X : Nat → Prop) : Nat → Prop := fun j => W.heap.size ≤ j ∧ ¬ X j
structure JHD (W w : World) (X : Nat → Prop) (n b jp : Nat) (pre : List UInt8) (en : Nat) (ct : Int) (m : Nat) (up : Prop) (lb cl : Nat) (sp : Array Value) (wv : Value) (D : Dk) : Prop where
  dk : IsDk w b lb cl sp wv D
  j : IsJ w jp b 0 n en ct
  njp : ¬ dkFoot b lb wv jp
  secs : D.secs.length = n
  good : Good 0 pre D
  buf : D.buf.length ≤ m
  own : Fr (fun _ => False) W w
  foot : ∀ j, jFoot b lb jp wv j → Aside W X j
  aside : ∀ j, X j → j < w.heap.size
  up : up → D.down = false ∧ D.armed ≤ 0
/-- The disk at block b holds pre, the journal at jp ends at en. -/
def JH (W w : World) (X : Nat → Prop) (n b jp : Nat) (pre : List UInt8) (en : Nat) (ct : Int) (m : Nat) (up : Prop) : Prop :=
  ∃ lb cl sp wv D, JHD W w X n b jp pre en ct m up lb cl sp wv D
section
variable {W w : World} {X : Nat → Prop} {n b jp : Nat} {pre : List UInt8} {en : Nat} {ct : Int} {m : Nat} {up : Prop}
theorem JH.fr {w' : World} (h : JH W w X n b jp pre en ct m up) (hf : Fr (fun _ => False) w w') : JH W w' X n b jp pre en ct m up := by
  obtain ⟨lb, cl, sp, wv, D, h⟩ := h
  exact ⟨lb, cl, sp, wv, D, h.dk.fr hf (fun _ _ h => h), h.j.fr hf (fun h => h), h.njp, h.secs, h.good, h.buf, h.own.trans hf (fun _ h => h.elim), h.foot, fun j hj => Nat.lt_of_lt_of_le (h.aside j hj) hf.size, h.up⟩
/-- A step of others', at blocks aside or new. -/
theorem JH.frX {w' : World} (h : JH W w X n b jp pre en ct m up) {F : Nat → Prop} (hf : Fr F w w') (hF : ∀ j, F j → X j ∨ w.heap.size ≤ j) (hXW : ∀ j, X j → W.heap.size ≤ j) (X' : Nat → Prop) (hX : ∀ j, X' j → (X j ∨ w.heap.size ≤ j) ∧ j < w'.heap.size) : JH W w' X' n b jp pre en ct m up := by
  obtain ⟨lb, cl, sp, wv, D, h⟩ := h
  have hlt : ∀ j, jFoot b lb jp wv j → j < w.heap.size := fun j hj => by
    rcases hj with hj | hj
    · exact h.dk.lt j hj
    · subst hj; exact lt_of_block h.j
  have hn : ∀ j, jFoot b lb jp wv j → ¬ F j := fun j hj hf => by
    rcases hF j hf with h1 | h1
    · exact (h.foot j hj).2 h1
    · have := hlt j hj; omega
  refine ⟨lb, cl, sp, wv, D, h.dk.fr hf (fun j hj => hn j (.inl hj)), h.j.fr hf (hn jp (.inr rfl)), h.njp, h.secs, h.good, h.buf, h.own.trans hf (fun j hj => ?_), fun j hj => ⟨(h.foot j hj).1, fun hx => ?_⟩, fun j hj => (hX j hj).2, h.up⟩
  · rcases hF j hj with h1 | h1
    · exact .inr (hXW j h1)
    · exact .inr (Nat.le_trans h.own.size h1)
  · rcases (hX j hx).1 with h1 | h1
    · exact (h.foot j hj).2 h1
    · have := hlt j hj; omega
theorem JH.weak (h : JH W w X n b jp pre en ct m up) {up' : Prop} (hu : up' → up) {m' : Nat} (hm : m ≤ m') : JH W w X n b jp pre en ct m' up' := by
  obtain ⟨lb, cl, sp, wv, D, h⟩ := h
  exact ⟨lb, cl, sp, wv, D, h.dk, h.j, h.njp, h.secs, h.good, Nat.le_trans h.buf hm, h.own, h.foot, h.aside, fun hx => h.up (hu hx)⟩
theorem JH.ends (h : JH W w X n b jp pre en ct m up) : Calls Try.prog 33 #[.pointer (some ⟨jp, 0, none⟩)] w fun e w' => e = .returned (.int .i64 en) ∧ w = w' := by
  obtain ⟨lb, cl, sp, wv, D, h⟩ := h
  exact j_end jp b 0 n en ct w h.j
theorem JH.counts (h : JH W w X n b jp pre en ct m up) : Calls Try.prog 34 #[.pointer (some ⟨jp, 0, none⟩)] w fun e w' => e = .returned (.int .i64 ct) ∧ w = w' := by
  obtain ⟨lb, cl, sp, wv, D, h⟩ := h
  exact j_count jp b 0 n en ct w h.j
theorem JHD.mv {lb cl : Nat} {sp : Array Value} {wv : Value} {D : Dk} (h : JHD W w X n b jp pre en ct m up lb cl sp wv D) {w' : World} {wv' : Value} (mv : Mv (jFoot b lb jp wv) (jFoot b lb jp wv') w w') :
    Fr (Aside W X) w w' ∧ Fr (fun _ => False) W w' ∧ (∀ j, jFoot b lb jp wv' j → Aside W X j) ∧ ∀ j, X j → j < w'.heap.size := by
  refine ⟨mv.fr.mono (fun j _ hj => h.foot j hj), h.own.trans mv.fr (fun j hj => .inr (h.foot j hj).1), fun j hj => ?_, fun j hj => Nat.lt_of_lt_of_le (h.aside j hj) mv.fr.size⟩
  rcases mv.piv j hj with h1 | h1
  · exact h.foot j h1
  · exact ⟨Nat.le_trans h.own.size h1, fun hx => by have := h.aside j hx; omega⟩
theorem JHD.mvD {lb cl : Nat} {sp : Array Value} {wv : Value} {D : Dk} (h : JHD W w X n b jp pre en ct m up lb cl sp wv D) {w' : World} {wv' : Value} (hf : Fr (dkFoot b lb wv) w w') (hp : ∀ j, dkFoot b lb wv' j → dkFoot b lb wv j) :
    IsJ w' jp b 0 n en ct ∧ ¬ dkFoot b lb wv' jp ∧ Fr (Aside W X) w w' ∧ Fr (fun _ => False) W w' ∧ (∀ j, jFoot b lb jp wv' j → Aside W X j) ∧ ∀ j, X j → j < w'.heap.size :=
  ⟨h.j.fr hf h.njp, fun hd => h.njp (hp _ hd), h.mv ⟨hf.mono (fun j _ hj => .inl hj), fun j hj => .inl (hj.elim (fun h => .inl (hp j h)) .inr)⟩⟩

theorem JH.append (h : JH W w X n b jp pre en ct m up) (hpre : pre.length = en) (hen : en ≤ n * 64) (hct : -1 ≤ ct ∧ ct ≤ 1099511627776) (hm : m ≤ 1099511627776) (v : Value) (l : List UInt8) (hv : IsBytes w v l) :
    Calls Try.prog 32 #[.pointer (some ⟨jp, 0, none⟩), v] w fun e w' => ∃ er : Int, e = .returned (.int .i64 er) ∧ Fr (Aside W X) w w' ∧
      ((er ≠ 0 ∧ JH W w' X n b jp pre en ct (m + 65538) False ∧ ¬ (up ∧ l.length ≤ 1048576 ∧ en + l.length + 16 ≤ n * 64) ∧ (l.length ≤ 1048576 → n * 64 < en + l.length + 16 → er = 51 ∧ JH W w' X n b jp pre en ct m up)) ∨
       (er = 0 ∧ JH W w' X n b jp (pre ++ frameOf l) (en + l.length + 16) (ct + 1) 0 up ∧ l.length ≤ 1048576 ∧ en + l.length + 16 ≤ n * 64)) := by
  obtain ⟨lb, cl, sp, wv, D, h⟩ := h
  refine (j_append jp b lb cl sp wv D 0 n en ct v l w h.dk h.j h.njp hv (Nat.zero_le _) (Nat.le_of_eq h.secs.symm) (Nat.le_trans h.buf hm) hct (by simpa using hen)).mono ?_
  rintro e w' ⟨er, wv', E, end', count', rfl, hE, hj, hnj, mv, hres⟩
  obtain ⟨f1, f2, f3, f4⟩ := h.mv mv
  refine ⟨er, rfl, f1, ?_⟩
  cases hres with
  | no k hk her he hc hs hb hwhy hz hfull hlong =>
    subst he hc
    simp only [Nat.sub_zero] at hwhy hz hfull
    have hg : Good 0 pre E := by
      rcases hz with hz | rfl
      · refine h.good.part h.dk.ok l (by rw [hpre, h.secs]; omega) k hs ?_
        rw [hb, hpre]
      · rw [wsOf_zero, List.append_nil] at hb
        exact ⟨by rw [hs]; exact h.good.1, by rw [hb]; exact h.good.2⟩
    have hbl : E.buf.length ≤ m + 65538 := by
      have h1 := h.buf
      rw [hb, List.length_append, wsOf_length]
      rcases hz with hz | rfl
      · rw [appBytes_length D 0 _ l h.dk.ok (by rw [h.secs]; omega)] at hk
        omega
      · omega
    refine .inl ⟨her, ⟨lb, cl, sp, wv', E, hE, hj, hnj, by rw [hs]; exact h.secs, hg, hbl, f2, f3, f4, fun h => h.elim⟩, fun hh => hwhy ⟨(h.up hh.1).1, (h.up hh.1).2, hh.2⟩, fun h1 h2 => ?_⟩
    obtain ⟨e1, e2⟩ := hfull h1 h2
    subst e2
    exact ⟨e1, lb, cl, sp, wv', E, hE, hj, hnj, h.secs, h.good, h.buf, f2, f3, f4, h.up⟩
  | ok her he hc hs hb hl hf hup =>
    subst he hc
    simp only [Nat.sub_zero] at hf
    refine .inr ⟨her, ⟨lb, cl, sp, wv', E, hE, hj, hnj, ?_, ?_, by rw [hb]; simp, f2, f3, f4, fun hx => ⟨(hup (h.up hx).1 (h.up hx).2).1, by rw [(hup (h.up hx).1 (h.up hx).2).2]; exact (h.up hx).2⟩⟩, hl, hf⟩
    · rw [hs, settled_length]; exact h.secs
    · refine h.good.full h.dk.ok l (by rw [hpre, h.secs]; omega) ?_ hb
      rw [hs, hpre]
theorem JH.arm (h : JH W w X n b jp pre en ct m up) (x : Int) (hx : -9223372036854775808 ≤ x ∧ x ≤ 9223372036854775807) :
    Calls Try.prog 14 #[.pointer (some ⟨b, 0, none⟩), .int .i64 x] w fun e w' => e = .returned (.tuple #[]) ∧ JH W w' X n b jp pre en ct m False ∧ Fr (Aside W X) w w' := by
  obtain ⟨lb, cl, sp, wv, D, h⟩ := h
  refine (arm_any b lb cl sp wv D w x h.dk hx).mono ?_
  rintro e w' ⟨rfl, hE, fr⟩
  obtain ⟨j1, j2, f1, f2, f3, f4⟩ := h.mvD (wv' := wv) (fr.mono (fun j _ hj => .inl hj)) (fun _ h => h)
  refine ⟨rfl, ⟨lb, cl, sp, wv, _, hE, j1, j2, ?_, h.good.armed x, ?_, f2, f3, f4, fun h => h.elim⟩, f1⟩
  · unfold Dk.armedAt; split <;> exact h.secs
  · rw [Dk.armedAt_buf]; exact h.buf
theorem JH.crash (h : JH W w X n b jp pre en ct m up) (x y : Int) :
    Calls Try.prog 18 #[.pointer (some ⟨b, 0, none⟩), .int .i64 x, .int .i64 y] w fun e w' => e = .returned (.tuple #[]) ∧ JH W w' X n b jp pre en ct 0 True ∧ Fr (Aside W X) w w' := by
  obtain ⟨lb, cl, sp, wv, D, h⟩ := h
  refine (crash_any b lb cl sp wv D w x y h.dk).mono ?_
  rintro e w' ⟨rfl, hE, fr⟩
  obtain ⟨j1, j2, f1, f2, f3, f4⟩ := h.mvD (wv' := .slice none 0 0) (fr.mono (fun j _ hj => hj.elim .inl (fun h => .inr (.inl h)))) (fun j hj => by
    rcases hj with h | h | h
    · exact .inl h
    · exact .inr (.inl h)
    · simp [Value.ownBlock] at h)
  refine ⟨rfl, ⟨lb, cl, sp, _, _, hE, j1, j2, ?_, h.good.crashed h.dk.ok x y, by simp [Dk.crashed], f2, f3, f4, fun _ => ⟨rfl, by simp [Dk.crashed]⟩⟩, f1⟩
  unfold Dk.crashed
  simp only
  split
  · rw [List.length_set, settled_length]; exact h.secs
  · rw [settled_length]; exact h.secs
theorem JH.opens (h : JH W w X n b jp pre en ct m up) (hup : up) (ls : List (List UInt8)) (r : List UInt8) (hpre : pre = framesOf ls ++ r) (hle : (framesOf ls).length ≤ n * 64) :
    Calls Try.prog 30 #[.pointer (some ⟨b, 0, none⟩), .int .i64 0, .int .i64 n, .int .i64 (framesOf ls).length, .int .i64 ls.length] w fun e w' => ∃ jp' v, e = .returned (.tuple #[.pointer (some ⟨jp', 0, none⟩), v, .int .i64 0]) ∧ IsLists w' v ls ∧ Fr (fun _ => False) w w' := by
  obtain ⟨lb, cl, sp, wv, D, h⟩ := h
  have hg : Good 0 (framesOf ls) D := by have := h.good; rw [hpre] at this; exact this.ahead
  refine (j_open b lb cl sp wv D 0 n (framesOf ls).length ls w h.dk (h.up hup).1 (Nat.zero_le _) (Nat.le_of_eq h.secs.symm) (by simpa using hle) (hg.tells h.dk.ok (by rw [h.secs]; omega))).mono ?_
  rintro e w' ⟨jp', v, rfl, hj, hl, hjp', fr⟩
  exact ⟨jp', v, rfl, hl, fr⟩
theorem JH.read0 (h : JH W w X n b jp pre en ct m up) (hup : up) (hn : 1 ≤ n) : Calls Try.prog 19 #[.pointer (some ⟨b, 0, none⟩), .int .i64 0] w fun e w' => ∃ sb x, e = .returned (.tuple #[.slice (some ⟨sb, 0, none⟩) 64 64, .int .i64 0]) ∧ x.length = 64 ∧ Agr pre 0 x ∧ w'.heap[sb]? = some (.cells (Bs x).toArray 87 (0, 0)) ∧ Fr (fun _ => False) w w' := by
  obtain ⟨lb, cl, sp, wv, D, h⟩ := h
  refine (read_ok b lb cl sp wv D w 0 h.dk (h.up hup).1 (by rw [h.secs]; omega)).mono ?_
  rintro e w' ⟨sb, rfl, hsb, row, fr⟩
  refine ⟨sb, _, rfl, told_len D h.dk.ok 0 (by rw [h.secs]; omega), ?_, row, fr⟩
  have := h.good.told (q := 0) (by rw [h.secs]; omega)
  exact this
end

/-- A new disk. -/
def JD (W w : World) (n b : Nat) : Prop := ∃ lb cl sp wv D, IsDk w b lb cl sp wv D ∧ D.secs.length = n ∧ D.buf = [] ∧ Fr (fun _ => False) W w ∧ (∀ j, dkFoot b lb wv j → W.heap.size ≤ j) ∧ D.down = false ∧ D.armed ≤ 0
theorem jd_new (n : Nat) (hn : 1 ≤ n ∧ n ≤ 65536) (W : World) : Calls Try.prog 12 #[.int .i64 n] W fun e w' => ∃ b : Nat, e = .returned (.pointer (some ⟨b, 0, none⟩)) ∧ JD W w' n b := by
  refine (new_any n W (by omega)).mono ?_
  rintro e w' ⟨b, lb, cl, sp, rfl, hd, fr, hb, hlb⟩
  refine ⟨b, rfl, lb, cl, sp, _, _, hd, ?_, rfl, fr, fun j hj => ?_, rfl, by simp [newDk]⟩
  · simp only [newDk, zSecs, List.length_replicate]; omega
  · rcases hj with h | h | h
    · subst h; exact hb
    · subst h; exact hlb
    · simp [Value.ownBlock] at h
theorem jd_open {W w : World} {n b : Nat} (h : JD W w n b) : Calls Try.prog 30 #[.pointer (some ⟨b, 0, none⟩), .int .i64 0, .int .i64 n, .int .i64 0, .int .i64 0] w fun e w' =>
    ∃ jp ao c, e = .returned (.tuple #[.pointer (some ⟨jp, 0, none⟩), .slice ao 0 c, .int .i64 0]) ∧ JH W w' (fun _ => False) n b jp [] 0 0 0 True := by
  obtain ⟨lb, cl, sp, wv, D, h1, h2, h3, h4, h5, h6, h7⟩ := h
  refine (j_open b lb cl sp wv D 0 n 0 [] w h1 h6 (Nat.zero_le _) (Nat.le_of_eq h2.symm) (Nat.zero_le _) (by simp [framesOf])).mono ?_
  rintro e w' ⟨jp, v, rfl, hj, hl, hjp, fr⟩
  obtain ⟨ao, c, rfl, _⟩ := hl.is
  have hnj : ¬ dkFoot b lb wv jp := fun hd => by have := h1.lt _ hd; omega
  refine ⟨jp, ao, c, rfl, lb, cl, sp, wv, D, h1.fr fr (fun _ _ h => h), hj, hnj, h2, Good.nil _ _, by rw [h3]; simp, h4.trans fr (fun _ h => h.elim), fun j hj => ⟨?_, fun h => h⟩, fun _ h => h.elim, fun _ => ⟨h6, h7⟩⟩
  rcases hj with h | h
  · exact h5 j h
  · subst h; exact Nat.le_trans h4.size hjp
end Go.Proofs.Ytnpeeephkkmomaa
