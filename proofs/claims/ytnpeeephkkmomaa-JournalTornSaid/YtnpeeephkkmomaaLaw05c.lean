/-
  JournalTorn: the walk.
-/
import Derived.Test.YtnpeeephkkmomaaLaw05b
namespace Go.Proofs.Ytnpeeephkkmomaa
open Go.RowKit Go.Proofs.YtnpeeephkkmomaaW.PrintLast
set_option linter.unusedVariables false
set_option linter.unusedSimpArgs false
attribute [local go_sem] beq_self_eq_true bne_self_eq_false

/-- A row of one's own of slices of others' bytes, which stand as they stood in W0. -/
def LaidAt (W0 w : World) (v : Value) (ls : List (List UInt8)) : Prop :=
  ∃ us : List Value, w.ownsRow 0 30 1 v ls.length us ∧ (∀ k, v.ownBlock = some k → W0.heap.size ≤ k) ∧ ∀ j (h : j < ls.length), ∃ u, us[j]? = some u ∧ u.oneCell' = true ∧ IsBytes W0 u ls[j]
theorem LaidAt.nil (W0 w : World) : LaidAt W0 w (.slice none 0 0) [] := ⟨[], World.ownsRow_nil _ _ _ _, by simp [Value.ownBlock], fun j h => by simp at h⟩
theorem LaidAt.slice {W0 w : World} {v : Value} {ls : List (List UInt8)} (h : LaidAt W0 w v ls) : ∃ ao cap, v = .slice ao ls.length cap := by
  obtain ⟨us, h1, _⟩ := h; exact ownsRow_slice h1
theorem LaidAt.fr {W0 w w' : World} {v : Value} {ls : List (List UInt8)} (h : LaidAt W0 w v ls) {F : Nat → Prop} (hf : Fr F w w') (hF : ∀ k, v.ownBlock = some k → ¬ F k) : LaidAt W0 w' v ls := by
  obtain ⟨us, h1, h2, h3⟩ := h
  exact ⟨us, ownsRow_fr h1 hf hF, h2, h3⟩
theorem LaidAt.aside {W0 w w' : World} {v : Value} {ls : List (List UInt8)} (h : LaidAt W0 w v ls) (hf : Fr (Aside W0 (fun j => v.ownBlock = some j)) w w') : LaidAt W0 w' v ls := h.fr hf (fun k hk ha => ha.2 hk)
theorem LaidAt.lists {W0 w : World} {v : Value} {ls : List (List UInt8)} (h : LaidAt W0 w v ls) (hf : Fr (fun _ => False) W0 w) : IsLists w v ls := by
  obtain ⟨us, h1, hq0, h2⟩ := h
  have h1' := h1
  rcases h1.2 with ⟨rfl, h0⟩ | ⟨g, cap, cur, rfl, _, hg, hnc, hcm, hcs, ht⟩
  · obtain rfl := List.eq_nil_of_length_eq_zero h0
    exact ⟨none, 0, rfl, by simp, by simp, fun _ => rfl, fun a ha => by cases ha⟩
  · refine ⟨some ⟨g, 0, none⟩, cap, rfl, hnc, by simpa [maxLen] using hcm, by simp, ?_⟩
    rintro a ha j hj
    cases ha
    obtain ⟨u, e1, e2, e3⟩ := h2 j hj
    exact ⟨u, World.ownsRow.cells h1' rfl j u e1, e3.fr hf (fun _ _ h => h)⟩
theorem LaidAt.lt {W0 w : World} {v : Value} {ls : List (List UInt8)} (h : LaidAt W0 w v ls) (k : Nat) (hk : v.ownBlock = some k) : W0.heap.size ≤ k ∧ k < w.heap.size := by
  obtain ⟨us, h1, h2, _⟩ := h
  exact ⟨h2 k hk, (World.ownsRow.lt h1 k hk).2⟩
theorem wpList_append_laid {W0 : World} {ops : Array Oper} {rest : List Oper} {o : Oper} {a : Act} {w : World} {Q : Exit → Act → World → Prop} (hgd : o.guard = none) (s x : Operand)
    (ho : o.op = .call { callee := .builtin .append, args := #[s, x], argTypes := #[50, 50] })
    (v : Value) (ls : List (List UInt8)) (hs : a.eval s = v) (hown : LaidAt W0 w v ls) (hw : W0.heap.size ≤ w.heap.size) (g c : Nat) (u : Value) (l : List UInt8) (hx : a.eval x = .slice (some ⟨g, 0, none⟩) 1 c) (hu : w.cell? ⟨g, 0, none⟩ = some u)
    (h1 : u.oneCell' = true) (hl : IsBytes W0 u l) (hroom : ls.length ≤ 1099511627776)
    (h : ∀ v' w', LaidAt W0 w' v' (ls ++ [l]) → Fr (fun k => v.ownBlock = some k) w w' → (v'.ownBlock = v.ownBlock ∨ v'.ownBlock = some w.heap.size) → wpList Try.prog ops Q rest (a.put o.dst v') w') :
    wpList Try.prog ops Q (o :: rest) a w := by
  obtain ⟨i, hinfo, hz0, hz1, hz2⟩ := info_parts info30'
  obtain ⟨us, k1, k0, k2⟩ := hown
  refine wpList_append hgd s x 50 ho 30 i _ 1 24 Try.underlying50 hinfo hz0 hz1 hz2 rfl (by decide) v ls.length us hs k1 ⟨g, 0, none⟩ 1 c [u] hx rfl ?_ (by simpa using h1) (Room.one (by unfold maxLen; omega) (by decide) (by omega)) ?_
  · intro j u' hj
    rcases j with _ | j
    · simp only [List.getElem?_cons_zero, Option.some.injEq] at hj
      subst hj
      rw [Addr.add_mk]; exact hu
    · simp at hj
  · intro v' w' own fr fresh
    have hlen : us.length = ls.length := by have := k1.1; omega
    refine h v' w' ⟨us ++ [u], by rw [List.length_append]; exact own, fun k hk => ?_, fun j hj => ?_⟩ fr fresh
    · rcases fresh with e | e
      · exact k0 k (by rw [← e]; exact hk)
      · rw [e] at hk; cases hk; exact hw
    · rw [List.length_append, List.length_singleton] at hj
      by_cases hjl : j < ls.length
      · obtain ⟨y, e1, e2, e3⟩ := k2 j hjl
        refine ⟨y, by rw [List.getElem?_append_left (by omega)]; exact e1, e2, ?_⟩
        rw [List.getElem_append_left hjl]; exact e3
      · obtain rfl : j = ls.length := by omega
        refine ⟨u, by rw [List.getElem?_append_right (by omega), hlen]; simp, h1, ?_⟩
        rw [List.getElem_append_right (by omega)]
        simp only [Nat.sub_self, List.getElem_cons_zero]
        exact hl

/-- Between two rounds. -/
def TornAt (W0 wr : World) (b jp : Nat) (lv : Value) (laid : List (List UInt8)) : Prop :=
  LaidAt W0 wr lv laid ∧ JH W0 wr (fun j => lv.ownBlock = some j) 300 b jp (framesOf laid) (framesOf laid).length laid.length 0 True
theorem JH.own0 {W w : World} {X : Nat → Prop} {n b jp : Nat} {pre : List UInt8} {en : Nat} {ct : Int} {m : Nat} {up : Prop} (h : JH W w X n b jp pre en ct m up) : Fr (fun _ => False) W w := by
  obtain ⟨_, _, _, _, _, h⟩ := h; exact h.own
theorem JH.opens' {W w : World} {X : Nat → Prop} {n b jp : Nat} {pre : List UInt8} {en : Nat} {ct : Int} {m : Nat} {up : Prop} (h : JH W w X n b jp pre en ct m up) (hup : up) (ls : List (List UInt8)) (r : List UInt8) (hpre : pre = framesOf ls ++ r) (hle : (framesOf ls).length ≤ n * 64) (E C : Nat) (hE : E = (framesOf ls).length) (hC : C = ls.length) :
    Calls Try.prog 30 #[.pointer (some ⟨b, 0, none⟩), .int .i64 0, .int .i64 n, .int .i64 E, .int .i64 C] w fun e w' => ∃ jp' v, e = .returned (.tuple #[.pointer (some ⟨jp', 0, none⟩), v, .int .i64 0]) ∧ IsLists w' v ls ∧ Fr (fun _ => False) w w' := by
  subst hE hC
  exact h.opens hup ls r hpre hle
theorem JH.laid {W0 w w' : World} {n b jp : Nat} {pre : List UInt8} {en : Nat} {ct : Int} {m : Nat} {up : Prop} {v v' : Value} {ls ls' : List (List UInt8)} (h : JH W0 w (fun j => v.ownBlock = some j) n b jp pre en ct m up) (h1 : LaidAt W0 w v ls) (h2 : LaidAt W0 w' v' ls')
    (fr : Fr (fun k => v.ownBlock = some k) w w') (fresh : v'.ownBlock = v.ownBlock ∨ v'.ownBlock = some w.heap.size) : JH W0 w' (fun j => v'.ownBlock = some j) n b jp pre en ct m up := by
  refine h.frX fr (fun j hj => .inl hj) (fun j hj => (h1.lt j hj).1) _ (fun j hj => ⟨?_, (h2.lt j hj).2⟩)
  rcases fresh with e | e
  · exact .inl (e.symm.trans hj)
  · rw [e] at hj; cases hj; exact .inr (Nat.le_refl _)
theorem framesOf_snoc (ls : List (List UInt8)) (l : List UInt8) : framesOf (ls ++ [l]) = framesOf ls ++ frameOf l := by simp [framesOf]

set_option maxRecDepth 100000 in
set_option maxHeartbeats 4000000 in
theorem torn_walk (ao : Option Addr) (len cap : Nat) (ls : List (List UInt8)) (v : Value) (l : List UInt8) (x y z : Int) (w : World) (hls : IsLists w (.slice ao len cap) ls) (hv : IsBytes w v l)
    (hx : -9223372036854775808 ≤ x ∧ x ≤ 9223372036854775807) (hlen : len = ls.length) (hcap : len ≤ 140737488351232) :
    Calls Try.prog 7 #[.slice ao len cap, v, .agg #[.int .i64 x, .int .i64 y, .int .i64 z]] w fun e w' => e = .returned (.bool true) ∧ Fr (fun _ => False) w w' := by
  obtain ⟨vo, vc, rfl, _⟩ := hv.is
  have HLS := Lib.hid hls; have HV := Lib.hid hv; have HX := Lib.hid hx; have HLEN := Lib.hid hlen; have HCAP := Lib.hid hcap
  clear hls hv hx hlen hcap
  go_enter Try.func7, Try.ntmps7
  go_wp2_with fail
  obtain ⟨W0, hW0⟩ : ∃ W0, W0 = w.alloc (.cells #[.int .i64 x, .int .i64 y, .int .i64 z] 51 (0, 0)) := ⟨_, rfl⟩
  rw [← hW0]
  have hbox : W0.heap[w.heap.size]? = some (.cells #[.int .i64 x, .int .i64 y, .int .i64 z] 51 (0, 0)) := by rw [hW0]; exact heap_alloc_at _ _
  have hf0 : Fr (fun _ => False) w W0 := by rw [hW0]; exact (Fr.refl _ w).alloc _
  have HBOX := Lib.hid hbox; have HF0 := Lib.hid hf0
  have HLS0 := Lib.hid (HLS.out.fr hf0); have HV0 := Lib.hid (HV.out.fr hf0 (fun _ _ h => h))
  clear hW0 hbox hf0 HLS HV
  refine (jd_new 300 (by decide) W0).mono ?_
  rintro e w1 ⟨b, rfl, hd⟩
  have HD := Lib.hid hd; clear hd
  go_wp2_with fail
  refine (jd_open HD.out).mono ?_
  rintro e w2 ⟨jp, ao2, c2, rfl, hj⟩
  have HJ2 := Lib.hid hj; clear hj
  go_wp2_with fail
  refine (awake5 w2).mono ?_
  rintro e w3 ⟨rfl, f3⟩
  have HT3 : Hid (TornAt W0 w3 b jp (.slice none 0 0) []) := Lib.hid ⟨LaidAt.nil _ _, (HJ2.out.fr f3).frX (Fr.refl (fun _ => False) w3) (fun _ h => h.elim) (fun _ h => h.elim) _ (fun j hj => by simp [Value.ownBlock] at hj)⟩
  clear f3 HJ2 HD
  go_wp2
  go_loopw [11, 12] (fun lv i wr => ∃ (k : Nat) (laid : List (List UInt8)), k ≤ len ∧ k ≤ 20 ∧ i = .int .i64 k ∧ laid.length ≤ k ∧ (framesOf laid).length ≤ 216 * laid.length ∧ TornAt W0 wr b jp lv laid) (fun _ i _ => len - (intOf i).toNat)
  case atStart => exact ⟨0, [], Nat.zero_le _, Nat.zero_le _, rfl, Nat.le_refl _, Nat.le_refl _, HT3.out⟩
  case round =>
    clear HT3
    obtain ⟨k, laid, hk, hk2, rfl, hll, hfl, hlaid, hj⟩ := hrel
    obtain ⟨lo, lc, rfl⟩ := hlaid.slice
    have HLAID := Lib.hid hlaid; have HJ := Lib.hid hj
    have HB := Lib.hid (And.intro hll hfl)
    clear hlaid hj hll hfl
    by_cases hlt : k < len ∧ k < 20
    · obtain ⟨hlt1, hlt2⟩ := hlt
      obtain ⟨ab, off, uo, uc, rfl, hc0, hb0⟩ := HLS0.out.at k (by rw [← HLEN.out]; exact hlt1)
      have hkl : k < ls.length := by rw [← HLEN.out]; exact hlt1
      have hcr : cellIn wr.heap[ab]? (off + k) = some (.slice uo ls[k].length uc) := by rw [← cell?_mk]; exact HJ.out.own0.cell (by rw [cell?_mk]; exact hc0)
      generalize ls[k] = q at *
      have HC0 := Lib.hid hc0; have HB0 := Lib.hid hb0
      have hw1 : IntKind.i64.wrap ((k : Int) + 1) = (k : Int) + 1 := IntWalk.i64_in _ (by omega)
      have t1 : decide ((k : Int) < (len : Int)) = true := by simp; omega
      have t1n : decide (k < len) = true := by simp; omega
      have t2 : decide ((k : Int) < 20) = true := by simp; omega
      have t2n : decide (k < 20) = true := by simp; omega
      clear hc0 hb0 hkl
      by_cases hq : q.length ≤ 200
      · have t3 : decide ((q.length : Int) ≤ 200) = true := by simp; omega
        have t3n : decide (q.length ≤ 200) = true := by simp; omega
        have HQ := Lib.hid hq
        clear hq
        go_wp2_with (first
          | (go_at_call 32; refine (HJ.out.append rfl (by have := HB.out; omega) (by have := HB.out; omega) (by decide) _ q (HB0.out.fr HJ.out.own0 (fun _ _ h => h))).mono ?_; rintro e w5 ⟨er, rfl, f5, hres⟩; obtain ⟨rfl, hj5⟩ : er = 0 ∧ JH W0 w5 (fun j => (Value.slice lo laid.length lc).ownBlock = some j) 300 b jp (framesOf (laid ++ [q])) (framesOf (laid ++ [q])).length ((laid ++ [q]).length : Nat) 0 True := (by
              rcases hres with ⟨_, _, hno, _⟩ | ⟨h0, hj, _, _⟩
              · exact (hno ⟨trivial, by have := HQ.out; omega, by have := HB.out; have := HQ.out; omega⟩).elim
              · refine ⟨h0, ?_⟩
                rw [framesOf_snoc, List.length_append, frameOf_length, List.length_append, List.length_singleton]
                exact hj); have HJ5 := Lib.hid hj5; have HL5 := Lib.hid (HLAID.out.aside f5); have hc5 : cellIn w5.heap[ab]? (off + k) = some (.slice uo q.length uc) := (by rw [← cell?_mk]; exact hj5.own0.cell (by rw [cell?_mk]; exact HC0.out)); clear hj5 hres f5)
          | (refine wpList_append_laid (W0 := W0) rfl (.tmp 58) (.tmp 63) rfl _ laid rfl (HL5.out.fr ((Fr.refl (fun _ => False) w5).alloc _) (fun _ _ h => h)) (Nat.le_trans HJ5.out.own0.size (by simp)) w5.heap.size 1 _ q rfl ((cells_at (heap_alloc_at w5 _) 0).trans rfl) rfl HB0.out (by have := HB.out; omega) ?_; intro v6 w6 own6 fr6 fresh6; have HOW6 := Lib.hid own6; have HFR6 := Lib.hid fr6; obtain ⟨lo6, lc6, rfl⟩ := own6.slice; have HFS6 := Lib.hid fresh6; clear own6 fr6 fresh6))
        have e1 : (laid ++ [q]).length = laid.length + 1 := by simp
        have e2 : (framesOf (laid ++ [q])).length = (framesOf laid).length + (q.length + 16) := by rw [framesOf_snoc, List.length_append, frameOf_length]
        rw [e1] at HOW6 HFS6
        refine ⟨⟨k + 1, laid ++ [q], by omega, by omega, by go_num, by have := HB.out; omega, by have := HB.out; have := HQ.out; omega, HOW6.out, (HJ5.out.fr ((Fr.refl _ w5).alloc _)).frX HFR6.out (fun j hj => .inl hj) (fun j hj => (HLAID.out.lt j hj).1) _ (fun j hj => ⟨?_, (HOW6.out.lt j hj).2⟩)⟩, by simp [intOf]; omega⟩
        rcases HFS6.out with h | h
        · exact .inl (h.symm.trans hj)
        · rw [h] at hj; cases hj; exact .inr (Nat.le_refl _)
      · have t3 : decide ((q.length : Int) ≤ 200) = false := by simp; omega
        have t3n : decide (q.length ≤ 200) = false := by simp; omega
        clear hq
        go_wp2
        exact ⟨⟨k + 1, laid, by omega, by omega, by go_num, by have := HB.out; omega, HB.out.2, HLAID.out, HJ.out⟩, by simp [intOf]; omega⟩
    · obtain ⟨E0, hE0⟩ : ∃ E, E = (framesOf laid).length := ⟨_, rfl⟩
      obtain ⟨C0, hC0⟩ : ∃ C, C = laid.length := ⟨_, rfl⟩
      rw [← hE0, ← hC0] at HJ
      rw [← hC0] at HLAID ⊢
      have HE0 := Lib.hid hE0; have HC0 := Lib.hid hC0
      have hb0 : E0 ≤ 4320 ∧ C0 ≤ 20 := by have := HB.out; omega
      have HB0 := Lib.hid hb0
      clear hE0 hC0 hb0
      have hbr := HJ.out.own0.at HBOX.out (fun h => h)
      have hcond : decide (k < len) = false ∨ (decide (k < len) = true ∧ decide (k < 20) = false) := by simp; omega
      have hcondI : (decide ((k : Int) < (len : Int)) = false ∧ decide (k < len) = false) ∨ (decide ((k : Int) < (len : Int)) = true ∧ decide (k < len) = true ∧ decide ((k : Int) < 20) = false ∧ decide (k < 20) = false) := by simp; omega
      clear hcond hlt hk hk2
      have M1 : Hid True := Lib.hid trivial; have M2 : Hid True := Lib.hid trivial
      rcases hcondI with ⟨t1, t1n⟩ | ⟨t1, t1n, t2, t2n⟩
      · go_wp2_with (first
          | (go_at_call 33; refine HJ.out.ends.mono ?_; rintro e wq ⟨rfl, rfl⟩)
          | (go_at_call 34; refine HJ.out.counts.mono ?_; rintro e wq ⟨rfl, rfl⟩)
          | (go_at_call 14; refine (HJ.out.arm x HX.out).mono ?_; rintro e wa ⟨rfl, hja, fa⟩; have HLAID := Lib.hid (HLAID.out.aside fa); have HJ := Lib.hid hja; have hba := hja.own0.at HBOX.out (fun h => h); clear hja fa))
        refine (HJ.out.append HE0.out.symm (by have := HB0.out; omega) (by have := HB0.out; omega) (by decide) _ l (HV0.out.fr HJ.out.own0 (fun _ _ h => h))).mono ?_
        rintro e wb ⟨er, rfl, fb, hres⟩
        have HLAID := Lib.hid (HLAID.out.aside fb)
        obtain ⟨L', E2, C2, hjb, hE2, hC2, hEb, hcase⟩ : ∃ (L' : List (List UInt8)) (E2 C2 : Nat), JH W0 wb (fun j => (Value.slice lo C0 lc).ownBlock = some j) 300 b jp (framesOf L') E2 C2 200000 False ∧ E2 = (framesOf L').length ∧ C2 = L'.length ∧ E2 ≤ 19200 ∧ ((er ≠ 0 ∧ L' = laid ∧ E2 = E0 ∧ C2 = C0) ∨ (er = 0 ∧ L' = laid ++ [l])) := by
          rcases hres with ⟨hne, hjx, _, _⟩ | ⟨h0, hjx, hl1, hl2⟩
          · exact ⟨laid, E0, C0, hjx.weak id (by decide), HE0.out, HC0.out, by have := HB0.out; omega, .inl ⟨hne, rfl, rfl, rfl⟩⟩
          · refine ⟨laid ++ [l], E0 + l.length + 16, C0 + 1, ?_, ?_, ?_, by omega, .inr ⟨h0, rfl⟩⟩
            · rw [framesOf_snoc]; exact hjx.weak id (by decide)
            · rw [framesOf_snoc, List.length_append, frameOf_length, ← HE0.out]; omega
            · rw [List.length_append, List.length_singleton, ← HC0.out]
        have HPR : Hid (∃ r, framesOf L' = framesOf laid ++ r) := Lib.hid (by
          rcases hcase with ⟨_, h, _⟩ | ⟨_, h⟩
          · exact ⟨[], by rw [h, List.append_nil]⟩
          · exact ⟨frameOf l, by rw [h, framesOf_snoc]⟩)
        have HJ := Lib.hid hjb; have HE2 := Lib.hid hE2; have HC2 := Lib.hid hC2; have HEB := Lib.hid hEb
        have hbb := hjb.own0.at HBOX.out (fun h => h)
        clear hjb hE2 hC2 hEb hres fb
        rcases hcase with ⟨hne, hL, hE, hC⟩ | ⟨h0, hL⟩
        any_goals (rw [hE, hC] at HJ; replace hL := hL.symm; subst hL; have te : (er != 0) = true := (by simpa using hne); clear hne hE hC)
        any_goals (subst h0; subst hL)
        all_goals go_wp2_with (first
          | (go_at_call 33; refine HJ.out.ends.mono ?_; rintro e wq ⟨rfl, rfl⟩)
          | (go_at_call 34; refine HJ.out.counts.mono ?_; rintro e wq ⟨rfl, rfl⟩)
          | (go_at_call 18; refine (HJ.out.crash y z).mono ?_; rintro e wc ⟨rfl, hjc, fc⟩; have HLAID := Lib.hid (HLAID.out.aside fc); have HJ := Lib.hid hjc; clear hjc fc)
          | (go_at_call 30; clear M1; obtain ⟨r, hr⟩ := HPR.out; refine (HJ.out.opens' trivial laid r hr (by have h1 := HE0.out; have h2 := HB0.out; omega) E0 C0 HE0.out HC0.out).mono ?_; rintro e wd ⟨jq, got, rfl, hgot, fd⟩; have HGOT := Lib.hid hgot; have HJ := Lib.hid (HJ.out.fr fd); have HLAID := Lib.hid (HLAID.out.fr fd (fun _ _ h => h)); clear hgot fd hr)
          | (go_at_call 35; clear M2; refine (same_lists _ _ laid _ HGOT.out (HLAID.out.lists HJ.out.own0)).mono ?_; rintro e we ⟨rfl, fe⟩; have HJ := Lib.hid (HJ.out.fr fe); have HLAID := Lib.hid (HLAID.out.fr fe (fun _ _ h => h)); clear fe)
          | (refine wpList_append_laid (W0 := W0) rfl (.tmp 110) (.tmp 112) rfl _ laid rfl (HLAID.out.fr ((Fr.refl (fun _ => False) we).alloc _) (fun _ _ h => h)) (Nat.le_trans HJ.out.own0.size (by simp)) we.heap.size 1 _ l rfl ((cells_at (heap_alloc_at we _) 0).trans rfl) rfl HV0.out (by have h1 := HC0.out; have h2 := HB0.out; omega) ?_; intro v7 w7 own7 fr7 fresh7; obtain ⟨lo7, lc7, rfl⟩ := own7.slice; rw [← HC2.out] at own7 fresh7 ⊢; have HLAID7 := Lib.hid own7
             have HJ := Lib.hid ((HJ.out.fr ((Fr.refl (fun _ => False) we).alloc _)).laid (HLAID.out.fr ((Fr.refl (fun _ => False) we).alloc _) (fun _ _ h => h)) own7 fr7 fresh7)
             clear own7 fr7 fresh7)
          | (go_at_call 30; refine (HJ.out.opens' trivial (laid ++ [l]) [] (by rw [List.append_nil]) (by have h1 := HE2.out; have h2 := HEB.out; omega) E2 C2 HE2.out HC2.out).mono ?_; rintro e wf ⟨jq2, got2, rfl, hgot, fd⟩; have HGOT2 := Lib.hid hgot; have HJ := Lib.hid (HJ.out.fr fd); have HLAID7 := Lib.hid (HLAID7.out.fr fd (fun _ _ h => h)); clear hgot fd)
          | (go_at_call 35; refine (same_lists _ _ (laid ++ [l]) _ HGOT2.out (HLAID7.out.lists HJ.out.own0)).mono ?_; rintro e wg ⟨rfl, fe⟩; have HJ := Lib.hid (HJ.out.fr fe); clear fe))
        all_goals (go_ret; exact ⟨rfl, HF0.out.trans HJ.out.own0 (fun _ h => h.elim)⟩)
      · go_wp2_with (first
          | (go_at_call 33; refine HJ.out.ends.mono ?_; rintro e wq ⟨rfl, rfl⟩)
          | (go_at_call 34; refine HJ.out.counts.mono ?_; rintro e wq ⟨rfl, rfl⟩)
          | (go_at_call 14; refine (HJ.out.arm x HX.out).mono ?_; rintro e wa ⟨rfl, hja, fa⟩; have HLAID := Lib.hid (HLAID.out.aside fa); have HJ := Lib.hid hja; have hba := hja.own0.at HBOX.out (fun h => h); clear hja fa))
        refine (HJ.out.append HE0.out.symm (by have := HB0.out; omega) (by have := HB0.out; omega) (by decide) _ l (HV0.out.fr HJ.out.own0 (fun _ _ h => h))).mono ?_
        rintro e wb ⟨er, rfl, fb, hres⟩
        have HLAID := Lib.hid (HLAID.out.aside fb)
        obtain ⟨L', E2, C2, hjb, hE2, hC2, hEb, hcase⟩ : ∃ (L' : List (List UInt8)) (E2 C2 : Nat), JH W0 wb (fun j => (Value.slice lo C0 lc).ownBlock = some j) 300 b jp (framesOf L') E2 C2 200000 False ∧ E2 = (framesOf L').length ∧ C2 = L'.length ∧ E2 ≤ 19200 ∧ ((er ≠ 0 ∧ L' = laid ∧ E2 = E0 ∧ C2 = C0) ∨ (er = 0 ∧ L' = laid ++ [l])) := by
          rcases hres with ⟨hne, hjx, _, _⟩ | ⟨h0, hjx, hl1, hl2⟩
          · exact ⟨laid, E0, C0, hjx.weak id (by decide), HE0.out, HC0.out, by have := HB0.out; omega, .inl ⟨hne, rfl, rfl, rfl⟩⟩
          · refine ⟨laid ++ [l], E0 + l.length + 16, C0 + 1, ?_, ?_, ?_, by omega, .inr ⟨h0, rfl⟩⟩
            · rw [framesOf_snoc]; exact hjx.weak id (by decide)
            · rw [framesOf_snoc, List.length_append, frameOf_length, ← HE0.out]; omega
            · rw [List.length_append, List.length_singleton, ← HC0.out]
        have HPR : Hid (∃ r, framesOf L' = framesOf laid ++ r) := Lib.hid (by
          rcases hcase with ⟨_, h, _⟩ | ⟨_, h⟩
          · exact ⟨[], by rw [h, List.append_nil]⟩
          · exact ⟨frameOf l, by rw [h, framesOf_snoc]⟩)
        have HJ := Lib.hid hjb; have HE2 := Lib.hid hE2; have HC2 := Lib.hid hC2; have HEB := Lib.hid hEb
        have hbb := hjb.own0.at HBOX.out (fun h => h)
        clear hjb hE2 hC2 hEb hres fb
        rcases hcase with ⟨hne, hL, hE, hC⟩ | ⟨h0, hL⟩
        any_goals (rw [hE, hC] at HJ; replace hL := hL.symm; subst hL; have te : (er != 0) = true := (by simpa using hne); clear hne hE hC)
        any_goals (subst h0; subst hL)
        all_goals go_wp2_with (first
          | (go_at_call 33; refine HJ.out.ends.mono ?_; rintro e wq ⟨rfl, rfl⟩)
          | (go_at_call 34; refine HJ.out.counts.mono ?_; rintro e wq ⟨rfl, rfl⟩)
          | (go_at_call 18; refine (HJ.out.crash y z).mono ?_; rintro e wc ⟨rfl, hjc, fc⟩; have HLAID := Lib.hid (HLAID.out.aside fc); have HJ := Lib.hid hjc; clear hjc fc)
          | (go_at_call 30; clear M1; obtain ⟨r, hr⟩ := HPR.out; refine (HJ.out.opens' trivial laid r hr (by have h1 := HE0.out; have h2 := HB0.out; omega) E0 C0 HE0.out HC0.out).mono ?_; rintro e wd ⟨jq, got, rfl, hgot, fd⟩; have HGOT := Lib.hid hgot; have HJ := Lib.hid (HJ.out.fr fd); have HLAID := Lib.hid (HLAID.out.fr fd (fun _ _ h => h)); clear hgot fd hr)
          | (go_at_call 35; clear M2; refine (same_lists _ _ laid _ HGOT.out (HLAID.out.lists HJ.out.own0)).mono ?_; rintro e we ⟨rfl, fe⟩; have HJ := Lib.hid (HJ.out.fr fe); have HLAID := Lib.hid (HLAID.out.fr fe (fun _ _ h => h)); clear fe)
          | (refine wpList_append_laid (W0 := W0) rfl (.tmp 110) (.tmp 112) rfl _ laid rfl (HLAID.out.fr ((Fr.refl (fun _ => False) we).alloc _) (fun _ _ h => h)) (Nat.le_trans HJ.out.own0.size (by simp)) we.heap.size 1 _ l rfl ((cells_at (heap_alloc_at we _) 0).trans rfl) rfl HV0.out (by have h1 := HC0.out; have h2 := HB0.out; omega) ?_; intro v7 w7 own7 fr7 fresh7; obtain ⟨lo7, lc7, rfl⟩ := own7.slice; rw [← HC2.out] at own7 fresh7 ⊢; have HLAID7 := Lib.hid own7
             have HJ := Lib.hid ((HJ.out.fr ((Fr.refl (fun _ => False) we).alloc _)).laid (HLAID.out.fr ((Fr.refl (fun _ => False) we).alloc _) (fun _ _ h => h)) own7 fr7 fresh7)
             clear own7 fr7 fresh7)
          | (go_at_call 30; refine (HJ.out.opens' trivial (laid ++ [l]) [] (by rw [List.append_nil]) (by have h1 := HE2.out; have h2 := HEB.out; omega) E2 C2 HE2.out HC2.out).mono ?_; rintro e wf ⟨jq2, got2, rfl, hgot, fd⟩; have HGOT2 := Lib.hid hgot; have HJ := Lib.hid (HJ.out.fr fd); have HLAID7 := Lib.hid (HLAID7.out.fr fd (fun _ _ h => h)); clear hgot fd)
          | (go_at_call 35; refine (same_lists _ _ (laid ++ [l]) _ HGOT2.out (HLAID7.out.lists HJ.out.own0)).mono ?_; rintro e wg ⟨rfl, fe⟩; have HJ := Lib.hid (HJ.out.fr fe); clear fe))
        all_goals (go_ret; exact ⟨rfl, HF0.out.trans HJ.out.own0 (fun _ h => h.elim)⟩)
end Go.Proofs.Ytnpeeephkkmomaa
