/-
  The journal: Open of frames as they were laid.
-/
import Derived.Test.YtnpeeephkkmomaaJrn3
namespace Go.Proofs.Ytnpeeephkkmomaa
open Go.RowKit Go.Proofs.YtnpeeephkkmomaaW.PrintLast
set_option linter.unusedVariables false
set_option linter.unusedSimpArgs false
attribute [local go_sem] bne_self_eq_false

theorem info30' : (Try.prog.info? 30).map (fun i => (i.zero, i.size, i.bytes)) = some (some (.slice none 0 0), 1, 24) := by kernel_rfl

/-- A row of one's own of slices of bytes. -/
def OwnLists (w : World) (v : Value) (ls : List (List UInt8)) : Prop :=
  ∃ us : List Value, w.ownsRow 0 30 1 v ls.length us ∧ ∀ j (h : j < ls.length), ∃ u, us[j]? = some u ∧ u.oneCell' = true ∧ IsBytes w u ls[j] ∧ ∀ k, u.ownBlock = some k → v.ownBlock ≠ some k ∧ k < w.heap.size
theorem OwnLists.nil (w : World) : OwnLists w (.slice none 0 0) [] := ⟨[], World.ownsRow_nil _ _ _ _, fun j h => by simp at h⟩
theorem OwnLists.slice {w : World} {v : Value} {ls : List (List UInt8)} (h : OwnLists w v ls) : ∃ ao cap, v = .slice ao ls.length cap := by
  obtain ⟨us, h1, _⟩ := h; exact ownsRow_slice h1
theorem OwnLists.fr {w w' : World} {v : Value} {ls : List (List UInt8)} (h : OwnLists w v ls) (hf : Fr (fun _ => False) w w') : OwnLists w' v ls := by
  obtain ⟨us, h1, h2⟩ := h
  refine ⟨us, ownsRow_fr h1 hf (fun _ _ h => h), fun j hj => ?_⟩
  obtain ⟨u, e1, e2, e3, e4⟩ := h2 j hj
  exact ⟨u, e1, e2, e3.fr hf (fun _ _ h => h), fun k hk => ⟨(e4 k hk).1, Nat.lt_of_lt_of_le (e4 k hk).2 hf.size⟩⟩
theorem OwnLists.frK {w w' : World} {v : Value} {ls : List (List UInt8)} {F : Nat → Prop} (h : OwnLists w v ls) (hf : Fr F w w') (hF : ∀ k, F k → w.heap.size ≤ k) : OwnLists w' v ls :=
  h.fr (hf.mono (fun i hi hF' => absurd (hF i hF') (by omega)))
theorem OwnLists.lists {w : World} {v : Value} {ls : List (List UInt8)} (h : OwnLists w v ls) : IsLists w v ls := by
  obtain ⟨us, h1, h2⟩ := h
  have h1' := h1
  rcases h1.2 with ⟨rfl, h0⟩ | ⟨g, cap, cur, rfl, _, hg, hnc, hcm, hcs, ht⟩
  · obtain rfl := List.eq_nil_of_length_eq_zero h0
    exact ⟨none, 0, rfl, by simp, by simp, fun _ => rfl, fun a ha => by cases ha⟩
  · refine ⟨some ⟨g, 0, none⟩, cap, rfl, hnc, by simpa [maxLen] using hcm, by simp, ?_⟩
    rintro a ha j hj
    cases ha
    obtain ⟨u, e1, e2, e3, e4⟩ := h2 j hj
    exact ⟨u, World.ownsRow.cells h1' rfl j u e1, e3⟩

theorem wpList_append_list {ops : Array Oper} {rest : List Oper} {o : Oper} {a : Act} {w : World} {Q : Exit → Act → World → Prop} (hgd : o.guard = none) (s x : Operand)
    (ho : o.op = .call { callee := .builtin .append, args := #[s, x], argTypes := #[50, 50] })
    (v : Value) (ls : List (List UInt8)) (hs : a.eval s = v) (hown : OwnLists w v ls) (g c : Nat) (u : Value) (l : List UInt8) (hx : a.eval x = .slice (some ⟨g, 0, none⟩) 1 c) (hu : w.cell? ⟨g, 0, none⟩ = some u)
    (h1 : u.oneCell' = true) (hl : IsBytes w u l) (hne : ∀ k, u.ownBlock = some k → v.ownBlock ≠ some k ∧ k < w.heap.size) (hroom : ls.length ≤ 1099511627776)
    (h : ∀ v' w', OwnLists w' v' (ls ++ [l]) → Fr (fun k => v.ownBlock = some k) w w' → (v'.ownBlock = v.ownBlock ∨ v'.ownBlock = some w.heap.size) → wpList Try.prog ops Q rest (a.put o.dst v') w') :
    wpList Try.prog ops Q (o :: rest) a w := by
  obtain ⟨i, hinfo, hz0, hz1, hz2⟩ := info_parts info30'
  obtain ⟨us, k1, k2⟩ := hown
  refine wpList_append hgd s x 50 ho 30 i _ 1 24 Try.underlying50 hinfo hz0 hz1 hz2 rfl (by decide) v ls.length us hs k1 ⟨g, 0, none⟩ 1 c [u] hx rfl ?_ (by simpa using h1) (Room.one (by unfold maxLen; omega) (by decide) (by omega)) ?_
  · intro j u' hj
    rcases j with _ | j
    · simp only [List.getElem?_cons_zero, Option.some.injEq] at hj
      subst hj
      rw [Addr.add_mk]; exact hu
    · simp at hj
  · intro v' w' own fr fresh
    have hlen : us.length = ls.length := by have := k1.1; omega
    have hblk : ∀ (y : Value) k, (y.ownBlock = some k → v.ownBlock ≠ some k ∧ k < w.heap.size) → y.ownBlock = some k → v'.ownBlock ≠ some k ∧ k < w'.heap.size := by
      intro y k hy hk
      obtain ⟨e1, e2⟩ := hy hk
      refine ⟨?_, Nat.lt_of_lt_of_le e2 fr.size⟩
      rcases fresh with hf | hf
      · rw [hf]; exact e1
      · rw [hf]; intro e; cases e; omega
    refine h v' w' ⟨us ++ [u], by rw [List.length_append]; exact own, fun j hj => ?_⟩ fr fresh
    rw [List.length_append, List.length_singleton] at hj
    by_cases hjl : j < ls.length
    · obtain ⟨y, e1, e2, e3, e4⟩ := k2 j hjl
      refine ⟨y, by rw [List.getElem?_append_left (by omega)]; exact e1, e2, ?_, fun k hk => hblk y k (e4 k) hk⟩
      rw [List.getElem_append_left hjl]
      exact e3.fr fr (fun k hk => (e4 k hk).1)
    · obtain rfl : j = ls.length := by omega
      refine ⟨u, by rw [List.getElem?_append_right (by omega), hlen]; simp, h1, ?_, fun k hk => hblk u k (hne k) hk⟩
      rw [List.getElem_append_right (by omega)]
      simp only [Nat.sub_self, List.getElem_cons_zero]
      exact hl.fr fr (fun k hk => (hne k hk).1)

/-- Frames, one behind the other. -/
def framesOf (ls : List (List UInt8)) : List UInt8 := (ls.map frameOf).flatten
theorem framesOf_nil : framesOf [] = [] := rfl
theorem framesOf_cons (x : List UInt8) (ls : List (List UInt8)) : framesOf (x :: ls) = frameOf x ++ framesOf ls := rfl
theorem framesOf_append (a b : List (List UInt8)) : framesOf (a ++ b) = framesOf a ++ framesOf b := by simp [framesOf]
theorem framesOf_len : ∀ ls : List (List UInt8), ls.length ≤ (framesOf ls).length
  | [] => Nat.zero_le _
  | x :: ls => by have := framesOf_len ls; rw [framesOf_cons, List.length_append, frameOf_length, List.length_cons]; omega
theorem frame_parts (x r : List UInt8) : (frameOf x ++ r).take 8 = be8 x.length ∧ ((frameOf x ++ r).drop 8).take 8 = be8 (crcSum x) ∧ ((frameOf x ++ r).drop 16).take x.length = x ∧ (frameOf x ++ r).drop (16 + x.length) = r := by
  have h1 : (be8 (x.length : Int)).length = 8 := be8_length _
  have h2 : (be8 (crcSum x)).length = 8 := be8_length _
  have e : frameOf x ++ r = be8 x.length ++ (be8 (crcSum x) ++ (x ++ r)) := by simp [frameOf]
  rw [e]
  generalize be8 (x.length : Int) = p at *
  generalize be8 (crcSum x) = q at *
  have d8 : (p ++ (q ++ (x ++ r))).drop 8 = q ++ (x ++ r) := List.drop_left' h1
  have d16 : (p ++ (q ++ (x ++ r))).drop 16 = x ++ r := by
    rw [show 16 = 8 + 8 from rfl, ← List.drop_drop, d8]; exact List.drop_left' h2
  refine ⟨List.take_left' h1, by rw [d8]; exact List.take_left' h2, by rw [d16]; exact List.take_left' rfl, ?_⟩
  rw [← List.drop_drop, d16]; exact List.drop_left' rfl

/-- Of b, which begins with a frame: the frame's own bytes. -/
theorem cut_frame {w : World} {v : Value} {x r : List UInt8} (h : IsBytes w v (frameOf x ++ r)) :
    ∃ ao cap, (∀ w', (Instr.slice 30 v (some (.int .i64 16)) (some (.int .i64 (16 + (x.length : Int)))) none).run Try.prog w' = .ok (.slice ao x.length cap) w') ∧ (∀ w', IsBytes w' v (frameOf x ++ r) → IsBytes w' (.slice ao x.length cap) x) ∧
      (Value.slice ao x.length cap).ownBlock = v.ownBlock := by
  obtain ⟨v', h1, h2, h3⟩ := cut_lh h 16 (16 + x.length) (by omega) (by rw [List.length_append, frameOf_length]; omega)
  have hx := (frame_parts x r).2.2.1
  rw [Nat.add_sub_cancel_left] at h2
  simp only [hx] at h2
  obtain ⟨ao, cap, rfl, _⟩ := (h2 w h).is
  refine ⟨ao, cap, fun w' => ?_, h2, h3⟩
  have := h1 w'
  rw [Int.natCast_add] at this
  exact this
theorem cut_rest {w : World} {v : Value} {x r : List UInt8} (h : IsBytes w v (frameOf x ++ r)) :
    ∃ ao cap, (∀ w', (Instr.slice 30 v (some (.int .i64 (16 + (x.length : Int)))) none none).run Try.prog w' = .ok (.slice ao r.length cap) w') ∧ (∀ w', IsBytes w' v (frameOf x ++ r) → IsBytes w' (.slice ao r.length cap) r) ∧
      (Value.slice ao r.length cap).ownBlock = v.ownBlock := by
  obtain ⟨v', h1, h2, h3⟩ := cut_l h (16 + x.length) (by rw [List.length_append, frameOf_length]; omega)
  have hx := (frame_parts x r).2.2.2
  simp only [hx] at h2
  obtain ⟨ao, cap, rfl, _⟩ := (h2 w h).is
  refine ⟨ao, cap, fun w' => ?_, h2, h3⟩
  have := h1 w'
  rw [Int.natCast_add] at this
  exact this

def JOpenPost (w : World) (b : Nat) (from_ to_ end_ : Nat) (ls : List (List UInt8)) (e : Ending) (w' : World) : Prop :=
  ∃ jp v, e = .returned (.tuple #[.pointer (some ⟨jp, 0, none⟩), v, .int .i64 0]) ∧ IsJ w' jp b from_ to_ end_ ls.length ∧ IsLists w' v ls ∧ w.heap.size ≤ jp ∧ Fr (fun _ => False) w w'
def JOAt (w1 : World) (v : Value) (ls : List (List UInt8)) (wr : World) : Prop := OwnLists wr v ls ∧ (∀ k, v.ownBlock = some k → w1.heap.size ≤ k) ∧ Fr (fun _ => False) w1 wr

set_option maxRecDepth 100000 in
set_option maxHeartbeats 4000000 in
theorem j_open (b lb cl : Nat) (sp : Array Value) (wv : Value) (D : Dk) (from_ to_ end_ : Nat) (ls : List (List UInt8)) (w : World) (h : IsDk w b lb cl sp wv D) (hd : D.down = false)
    (hft : from_ ≤ to_) (hto : to_ ≤ D.secs.length) (hend : end_ ≤ (to_ - from_) * 64) (hfr : (D.tells from_ ((end_ + 63) / 64)).take end_ = framesOf ls) :
    Calls Try.prog 30 #[.pointer (some ⟨b, 0, none⟩), .int .i64 from_, .int .i64 to_, .int .i64 end_, .int .i64 (ls.length : Nat)] w (JOpenPost w b from_ to_ end_ ls) := by
  have HD := Lib.hid h
  have hmost := h.ok.most
  have HFR := Lib.hid hfr
  have hnd : from_ + (end_ + 63) / 64 ≤ D.secs.length := by omega
  have HND := Lib.hid hnd
  have hb : end_ ≤ 4194304 ∧ to_ ≤ 65536 := by omega
  have t1 : decide ((from_ : Int) < 0) = false := by simp
  have t2 : decide ((D.secs.length : Int) < (to_ : Int)) = false := by simp; omega
  have t3 : decide ((to_ : Int) < (from_ : Int)) = false := by simp; omega
  have t4 : decide ((end_ : Int) < 0) = false := by simp
  have t5 : decide (((to_ - from_ : Nat) : Int) * 64 < (end_ : Int)) = false := by simp; omega
  have t6 : decide (D.secs.length < to_) = false := by simp; omega
  have t7 : decide (to_ < from_) = false := by simp; omega
  have t8 : decide ((to_ - from_) * 64 < end_) = false := by simp; omega
  have HB := Lib.hid hb; have HFT := Lib.hid hft
  clear h hmost hfr hnd hb hft hto hend
  go_enter Try.func30, Try.ntmps30
  go_wp2_with (first
    | (go_at_call 57; refine (size_any b lb cl sp wv D w HD.out).mono ?_; rintro e w2 ⟨rfl, rfl⟩)
    | (go_at_call 58; refine (j_room w.heap.size b from_ to_ end_ (ls.length : Nat) _ (heap_alloc_at w _) HFT.out HB.out.2).mono ?_; rintro e w2 ⟨rfl, fr2⟩; have HF2 := Lib.hid (((Fr.refl (fun _ => False) w).alloc _).trans fr2 (fun _ h => h.elim)); have HJ2 := Lib.hid (fr2.at (heap_alloc_at w _) (fun h => h)); clear fr2)
    | (go_at_call 17; refine (down_any b lb cl sp wv D w2 (HD.out.fr HF2.out (fun _ _ h => h))).mono ?_; rintro e w3 ⟨rfl, rfl⟩)
    | (go_at_call 59; refine (j_read w.heap.size b lb cl sp wv D from_ to_ end_ (ls.length : Nat) end_ w2 (HD.out.fr HF2.out (fun _ _ h => h)) HJ2.out hd HND.out).mono ?_; rintro e w3 ⟨v3, rfl, hb3, hn3, hf3, hl3⟩; rw [HFR.out] at hb3; have HB3 := Lib.hid hb3; have HL3 : Hid (∀ j, v3.ownBlock = some j → j < w3.heap.size) := Lib.hid hl3; have HF3 := Lib.hid (HF2.out.trans hf3 (fun _ h => h.elim)); have HF23 := Lib.hid hf3; clear hb3 hn3 hf3 hl3))
  obtain ⟨ao3, cap3, rfl⟩ : ∃ ao cap, v3 = .slice ao (framesOf ls).length cap := by obtain ⟨ao, cap, e, _⟩ := HB3.out.is; exact ⟨ao, cap, e⟩
  go_wp2
  go_loopw [14, 16] (fun bv ov wr => ∃ k : Nat, k ≤ ls.length ∧ IsBytes wr bv (framesOf (ls.drop k)) ∧ (∀ j, bv.ownBlock = some j → j < w3.heap.size) ∧ JOAt w3 ov (ls.take k) wr) (fun bv _ _ => match bv with | .slice _ n _ => n | _ => 0)
  case atStart => exact ⟨0, Nat.zero_le _, HB3.out, HL3.out, OwnLists.nil _, by simp [Value.ownBlock], Fr.refl _ _⟩
  case round =>
    obtain ⟨k, hk, hb, hbk, ho, hn, hf⟩ := hrel
    obtain ⟨bo, bc, rfl, _⟩ := hb.is
    obtain ⟨oo, oc, rfl⟩ := ho.slice
    have HBY := Lib.hid hb; have HBK := Lib.hid hbk; have HO := Lib.hid ho; have HN := Lib.hid hn; have HF := Lib.hid hf
    clear hb hbk ho hn hf
    by_cases hlt : k < ls.length
    · have hdr : ls.drop k = ls[k] :: ls.drop (k + 1) := List.drop_eq_getElem_cons hlt
      have htk : ls.take (k + 1) = ls.take k ++ [ls[k]] := List.take_succ_eq_append_getElem hlt
      obtain ⟨x, hx⟩ : ∃ x, x = ls[k] := ⟨_, rfl⟩
      obtain ⟨r, hr⟩ : ∃ r, r = framesOf (ls.drop (k + 1)) := ⟨_, rfl⟩
      obtain ⟨m, hm⟩ : ∃ m, m = (framesOf (ls.drop k)).length := ⟨_, rfl⟩
      have hfx : framesOf (ls.drop k) = frameOf x ++ r := by rw [hdr, framesOf_cons, ← hx, ← hr]
      have hml : m = x.length + 16 + r.length := by rw [hm, hfx, List.length_append, frameOf_length]
      have hmb : m ≤ 4194304 := by
        have h1 : (framesOf ls).length ≤ end_ := by rw [← HFR.out, List.length_take]; omega
        have h2 : framesOf ls = framesOf (ls.take k) ++ framesOf (ls.drop k) := by rw [← framesOf_append, List.take_append_drop]
        have h3 := HB.out
        rw [h2, List.length_append] at h1
        omega
      have hll : (frameOf x ++ r).length = m := by rw [List.length_append, frameOf_length]; omega
      rw [hfx, hll] at HBY
      rw [← hx] at htk
      rw [← hm] at HBK ⊢
      obtain ⟨p1, p2, p3, p4⟩ := frame_parts x r
      have HI1 : Hid (rd8 (((frameOf x ++ r).drop 0).take 8) = x.length) := Lib.hid (by rw [List.drop_zero, p1]; exact rd8_be8 _ (by omega))
      have HI2 : Hid (rd8 (((frameOf x ++ r).drop (0 + 8)).take 8) = crcSum x) := Lib.hid (by rw [Nat.zero_add, p2]; exact rd8_be8 _ (by have := crcSum_in x; omega))
      have HLQ : Hid ((frameOf x ++ r).length - (0 + 8 + 8) = x.length + r.length) := Lib.hid (by rw [hll]; omega)
      have HLL := Lib.hid hll; have HML := Lib.hid hml; have HMB := Lib.hid hmb; have HTK := Lib.hid htk; have HR := Lib.hid hr
      obtain ⟨co, cc, hcut1, hcb1, hck1⟩ := cut_frame HBY.out
      obtain ⟨so, sc, hcut2, hcb2, hck2⟩ := cut_rest HBY.out
      have HCB1 := Lib.hid hcb1; have HCK1 := Lib.hid hck1; have HCB2 := Lib.hid hcb2; have HCK2 := Lib.hid hck2
      have q1 : decide (0 < (m : Int)) = true := by simp; omega
      have q1n : decide (0 < m) = true := by simp; omega
      have q3n : decide (x.length + r.length < x.length) = false := by simp
      have q2 : decide ((x.length : Int) < 0) = false := by simp
      have q3 : decide ((x.length : Int) + (r.length : Int) < (x.length : Int)) = false := by simp; omega
      have q4 : wrap64 (16 + (x.length : Int)) = 16 + (x.length : Int) := by rw [← i64_w]; exact IntWalk.i64_in _ (by omega)
      have q5 : IntKind.i64.wrap (16 + (x.length : Int)) = 16 + (x.length : Int) := IntWalk.i64_in _ (by omega)
      have q6 : IntKind.i64.wrap (crcSum x) = crcSum x := IntWalk.i64_in _ (by have := crcSum_in x; omega)
      have M1 : Hid True := Lib.hid trivial
      have hlk : (ls.take k).length = k := by rw [List.length_take]; omega
      rw [hlk] at HO HN
      have HOL : Hid (∀ j, (Value.slice oo k oc).ownBlock = some j → j < wr.heap.size) := Lib.hid (fun j hj => by obtain ⟨us, h1, _⟩ := HO.out; exact (World.ownsRow.lt h1 j hj).2)
      have HK1 : Hid ((ls.take k ++ [x]).length = k + 1) := Lib.hid (by rw [List.length_append, hlk]; rfl)
      have HEND : Hid (ls.length ≤ 1099511627776) := Lib.hid (by
        have h1 : (framesOf ls).length ≤ end_ := by rw [← HFR.out, List.length_take]; omega
        have h2 := framesOf_len ls; have h3 := HB.out; omega)
      clear hdr htk hx hr hm hfx hml hmb hll p1 p2 p3 p4 hcb1 hck1 hcb2 hck2 hlk
      go_wp2_with (first
        | (go_at_call 60; refine (rd_new _ _ (by rw [HLL.out]; have := HMB.out; omega) wr HBY.out).mono ?_; rintro e w4 ⟨rp, v4, rfl, hr4, hrp4, hv4, hf4⟩; have HR4 := Lib.hid hr4; have HF4 := Lib.hid hf4; have HRP := Lib.hid hrp4; clear hr4 hrp4 hv4 hf4)
        | (go_at_call 61; clear M1; refine (int_ok rp v4 _ 0 w4 HR4.out (by rw [HLL.out]; have := HML.out; omega)).mono ?_; rintro e w5 ⟨rfl, hr5, hf5⟩; rw [HI1.out]; have HR5 := Lib.hid hr5; have HF5 := Lib.hid (HF4.out.trans hf5 (fun j hj => .inr (hj ▸ HRP.out))); clear hr5 hf5)
        | (go_at_call 61; refine (int_ok rp v4 _ (0 + 8) w5 HR5.out (by rw [HLL.out]; have := HML.out; omega)).mono ?_; rintro e w6 ⟨rfl, hr6, hf6⟩; rw [HI2.out]; have HR6 := Lib.hid hr6; have HF6 := Lib.hid (HF5.out.trans hf6 (fun j hj => .inr (hj ▸ HRP.out))); clear hr6 hf6)
        | (go_at_call 62; refine (rd_bad rp v4 _ _ false w6 HR6.out).mono ?_; rintro e w7 ⟨rfl, rfl⟩)
        | (go_at_call 63; refine (rd_left rp v4 _ _ false w6 HR6.out).mono ?_; rintro e w7 ⟨rfl, hf7⟩; rw [HLQ.out]; have HF7 := Lib.hid (HF6.out.trans hf7 (fun _ h => h.elim)); clear hf7)
        | (go_at_call 64; refine (sum_any w7.heap.size 1 _ x 30 _ (heap_alloc_at w7 _) ((HCB1.out _ (HBY.out.fr HF7.out (fun _ _ h => h))).alloc _)).mono ?_; rintro e w8 ⟨rfl, rfl⟩; have HF8 := Lib.hid (HF7.out.alloc (.cells #[.slice co x.length cc] 30 (0, 0))))
        | (go_at_call 65; refine (clone65_any _ x (by have := HMB.out; have := HML.out; omega) _ (HCB1.out _ (HBY.out.fr HF8.out (fun _ _ h => h)))).mono ?_; rintro e w9 ⟨v9, rfl, b9, n9, f9⟩; obtain ⟨ao9, cap9, rfl⟩ := b9.slice; have HB9 := Lib.hid b9; have HN9 := Lib.hid n9; have HF9 := Lib.hid (HF8.out.trans f9 (fun _ h => h.elim)); clear b9 n9 f9)
        | (refine wpList_append_list rfl (.tmp 91) (.tmp 97) rfl _ (ls.take k) rfl (HO.out.fr (HF9.out.alloc _)) w9.heap.size 1 _ x rfl ((cells_at (heap_alloc_at w9 _) 0).trans rfl) rfl (HB9.out.bytes.alloc _) (fun j hj => ⟨fun hc => by
              have h1 := HOL.out j hc; have h2 := HN9.out j hj; have h3 := HF8.out.size; omega, by have := (World.ownsRow.lt HB9.out j hj).2; simp; omega⟩) (by have := HEND.out; rw [List.length_take]; omega) ?_; intro v10 w10 own10 fr10 fresh10; have HOW10 := Lib.hid own10; have HFR10 := Lib.hid fr10; have HFS10 := Lib.hid fresh10; obtain ⟨oo10, oc10, rfl⟩ := own10.slice; rw [HK1.out] at HOW10 HFS10 ⊢; clear own10 fr10 fresh10))
      have hf10 : Fr (fun j => w3.heap.size ≤ j) wr w10 := ((HF9.out.alloc _).mono (fun _ _ h => h.elim)).trans HFR10.out (fun j hj => .inl (HN.out j hj))
      refine ⟨⟨k + 1, by omega, ?_, fun j hj => ?_, ?_⟩, ?_⟩
      · rw [← HR.out]
        exact HCB2.out _ (HBY.out.fr hf10 (fun j hj h => by have := HBK.out j hj; omega))
      · exact HBK.out j (by rw [← HCK2.out]; exact hj)
      · refine ⟨by rw [HTK.out]; exact HOW10.out, fun j hj => ?_, (HF.out.trans hf10 (fun j hj => .inr hj)).mono (fun j h1 h2 => by omega)⟩
        rcases HFS10.out with h | h
        · rw [h] at hj; exact HN.out j hj
        · rw [h] at hj; cases hj; exact Nat.le_trans HF.out.size (Nat.le_trans HF9.out.size (by simp))
      · have := HML.out
        show r.length < m
        omega
    · obtain rfl : k = ls.length := by omega
      rw [List.drop_length, framesOf_nil] at HBY HBK ⊢
      rw [List.take_length] at HO HN ⊢
      have hfj : Fr (fun _ => False) w2 wr := HF23.out.trans HF.out (fun _ h => h.elim)
      go_wp2
      go_ret3
      exact ⟨w.heap.size, _, rfl, hfj.at HJ2.out (fun h => h), HO.out.lists, Nat.le_refl _, HF3.out.trans HF.out (fun _ h => h.elim)⟩
end Go.Proofs.Ytnpeeephkkmomaa
