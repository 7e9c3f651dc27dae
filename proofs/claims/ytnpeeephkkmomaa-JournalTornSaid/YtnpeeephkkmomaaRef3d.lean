/-
  The document's disk: Flush, Crash.
-/
import Derived.Test.YtnpeeephkkmomaaRef3c
namespace Go.Proofs.Ytnpeeephkkmomaa
open Go.RowKit Go.Maps Go.Proofs.YtnpeeephkkmomaaW.PrintLast
set_option linter.unusedVariables false
set_option linter.unusedSimpArgs false

/-- The map behind some writes. -/
def lay (L : Int → List UInt8) (l : List (Nat × List UInt8)) : Int → List UInt8 := l.foldl (fun L x => fun j => if j = (x.1 : Int) then x.2 else L j) L
theorem lay_snoc (L : Int → List UInt8) (l : List (Nat × List UInt8)) (x : Nat × List UInt8) : lay L (l ++ [x]) = fun j => if j = (x.1 : Int) then x.2 else lay L l j := by simp [lay]
def TellsOf (L : Int → List UInt8) (secs : List (List UInt8)) : Prop := (∀ i, i < secs.length → pad64 (L i) = secs.getD i []) ∧ ∀ i, (L i).length ≤ 64
theorem TellsOf.one {L : Int → List UInt8} {secs : List (List UInt8)} (h : TellsOf L secs) (a : Nat) (d : List UInt8) (ha : a < secs.length) (hd : d.length = 64) : TellsOf (fun j => if j = (a : Int) then d else L j) (secs.set a d) := by
  refine ⟨fun i hi => ?_, fun i => ?_⟩
  · rw [List.length_set] at hi
    by_cases e : i = a
    · subst e
      simp only [if_true]
      rw [pad64_same d hd, List.getD_eq_getElem?_getD, List.getElem?_set_self ha]; rfl
    · have e' : ¬ ((i : Int) = (a : Int)) := by omega
      simp only [if_neg e']
      rw [h.1 i hi, List.getD_eq_getElem?_getD, List.getD_eq_getElem?_getD, List.getElem?_set_ne (Ne.symm e)]
  · simp only
    split
    · omega
    · exact h.2 i
theorem TellsOf.lay {l : List (Nat × List UInt8)} : ∀ {L : Int → List UInt8} {secs : List (List UInt8)}, TellsOf L secs → (∀ x ∈ l, x.1 < secs.length ∧ x.2.length = 64) → TellsOf (lay L l) (settled secs l) := by
  induction l with
  | nil => intro L secs h _; exact h
  | cons x l ih =>
    intro L secs h hb
    have h0 := hb x (by simp)
    have h1 := h.one x.1 x.2 h0.1 h0.2
    exact ih h1 (fun y hy => by rw [List.length_set]; exact hb y (by simp [hy]))

theorem IsRef.tells {w : World} {rb mb : Nat} {bv : Value} {gs : List (Nat × Nat)} {n : Nat} {L : Int → List UInt8} {D : Dk} (h : IsRef w rb mb bv gs n L D) : TellsOf L D.secs := ⟨h.told, h.short⟩

/-- What the loop of Flush holds. -/
def FlushAt (w : World) (mb m : Nat) (L : Int → List UInt8) (wr : World) : Prop := IM wr mb m L ∧ Fr (fun k => k = mb) w wr

/-- The emptied buffer. -/
theorem IsRef.emptied {w w' : World} {rb mb : Nat} {bv : Value} {gs : List (Nat × Nat)} {n m : Nat} {L L' : Int → List UInt8} {D : Dk} {a : Int} {d : Bool} {s : List (List UInt8)} (h : IsRef w rb mb bv gs n L D)
    (hh : w'.heap[rb]? = some (.cells #[.int .i64 D.secs.length, .map (some mb), .slice none 0 0, .int .i64 a, .bool d] 95 (0, 0))) (hm : IM w' mb m L') (ht : TellsOf L' s) (hs : s.length = D.secs.length) (h64 : ∀ x ∈ s, x.length = 64) (ha : -1 ≤ a ∧ a ≤ 9223372036854775807) :
    IsRef w' rb mb (.slice none 0 0) [] m L' { secs := s, buf := [], armed := a, down := d } :=
  ⟨by rw [hs]; exact hh, hm, World.ownsRow_nil _ _ _ _, rfl, fun j hj => by simp at hj, ht.1, ht.2, ⟨by rw [hs]; exact h.ok.one, by rw [hs]; exact h.ok.most, h64, by simp, ha⟩⟩
theorem own_rnil {rb mb : Nat} {bv : Value} {gs : List (Nat × Nat)} {w w' : World} (h : Fr (fun k => k = rb ∨ k = mb) w w') : Mv (rFoot rb mb bv gs) (rFoot rb mb (.slice none 0 0) []) w w' :=
  ⟨h.mono (fun k _ h => h.elim .inl (fun h => .inr (.inl h))), by
    rintro k (h | h | h | ⟨x, hx, _⟩)
    · exact .inl (.inl h)
    · exact .inl (.inr (.inl h))
    · cases h
    · cases hx⟩

set_option maxRecDepth 100000 in
theorem rflush_down (rb mb : Nat) (bv : Value) (gs : List (Nat × Nat)) (m : Nat) (L : Int → List UInt8) (D : Dk) (w : World) (h : IsRef w rb mb bv gs m L D) (hd : D.down = true) :
    Calls Try.prog 25 #[.pointer (some ⟨rb, 0, none⟩)] w fun e w' => e = .returned (.int .i64 32) ∧ w = w' := by
  have head := h.head
  rw [hd] at head
  clear h
  go_enter Try.func25, Try.ntmps25
  go_wp2
  go_ret
  exact ⟨rfl, rfl⟩

set_option maxRecDepth 100000 in
set_option maxHeartbeats 2000000 in
theorem rflush_up (rb mb : Nat) (bv : Value) (gs : List (Nat × Nat)) (m : Nat) (L : Int → List UInt8) (D : Dk) (w : World) (h : IsRef w rb mb bv gs m L D) (hd : D.down = false) (hroom : m + D.buf.length ≤ 9223372036854775806) :
    Calls Try.prog 25 #[.pointer (some ⟨rb, 0, none⟩)] w fun e w' => e = .returned (.int .i64 0) ∧ ∃ L', IsRef w' rb mb (.slice none 0 0) [] (m + D.buf.length) L' D.flushed ∧ Fr (fun k => k = rb ∨ k = mb) w w' := by
  obtain ⟨ao, cap, rfl⟩ := ownsRow_slice h.own
  have HH := Lib.hid h
  have head := h.head
  rw [hd] at head
  clear h
  go_enter Try.func25, Try.ntmps25
  go_wp2
  go_loopw [3] (fun c wr => ∃ k : Nat, k ≤ D.buf.length ∧ c = .int .i64 k ∧ FlushAt w mb (m + k) (lay L (D.buf.take k)) wr) (fun c _ => D.buf.length - (intOf c).toNat)
  case atStart => exact ⟨0, Nat.zero_le _, rfl, HH.out.map, Fr.refl _ _⟩
  case round =>
    obtain ⟨k, hk, rfl, him, hfr⟩ := hrel
    rename_i wr
    have HF := Lib.hid hfr; clear hfr
    have HIM := Lib.hid him; clear him
    have head2 := HF.out.at head (fun e => HH.out.mb_ne e.symm)
    clear head
    by_cases hlt : k < D.buf.length
    · obtain ⟨g2, cur, gk, rfl, hg2, hsz, hc0, hc1, hby, hgk⟩ := HH.out.rec_at k hlt
      have hb64 := HH.out.ok.buf _ (List.getElem_mem hlt)
      have hmost := HH.out.ok.most
      have hg3 := HF.out.at hg2 (HH.out.bv_ne g2 rfl).2
      have hby3 : IsBytes wr (.slice (some ⟨gk, 0, none⟩) 64 64) D.buf[k].2 := hby.fr HF.out (fun j hj e => by
        cases hj; obtain ⟨x, hx, hx2⟩ := hgk; exact (HH.out.gs_ne x hx).2.1 (by rw [hx2]; exact e))
      have k1 := cv309 wr.drew _ _ (hby3.fr (F := fun _ => False) (Fr.refl _ wr).drew (fun _ _ h => h))
      have hst : lay L (D.buf.take (k + 1)) = fun j => if j = (D.buf[k].1 : Int) then D.buf[k].2 else lay L (D.buf.take k) j := by
        rw [List.take_succ_eq_append_getElem hlt, lay_snoc]
      have HST := Lib.hid hst; clear hst
      have hw1 : IntKind.i64.wrap ((k : Int) + 1) = (k : Int) + 1 := IntWalk.i64_in _ (by omega)
      generalize D.buf[k] = xx at hc0 k1 HST hb64
      obtain ⟨at_, d⟩ := xx
      simp only at hc0 k1 HST hb64
      obtain ⟨w9, hrun, him9, fr9⟩ := (HIM.out.fr (F := fun _ => False) (Fr.refl _ wr).drew (fun h => h)).upd (by unfold maxLen; omega) (at_ : Int) (wf64 at_ (by omega)) d (by unfold maxLen; omega)
      have HIM9 := Lib.hid him9; have HF9 := Lib.hid fr9
      clear him9 fr9 hby hby3 hg2 hb64 hgk hmost
      go_wp2
      refine start_ (n := 22) (S := fun w' => w'.heap[rb]? = some (.cells #[.int .i64 D.secs.length, .map (some mb), .slice (some ⟨g2, 0, none⟩) D.buf.length cap, .int .i64 D.armed, .bool false] 95 (0, 0)) ∧ w'.heap[g2]? = some (.cells cur 97 (0, 0)) ∧ cvStr Try.prog 30 9 (.slice (some ⟨gk, 0, none⟩) 64 64) w' = .ok (.value (str d)) w') (ds := [21]) #[false, false, false, false, false, false, false, false, false, false, false, false, false, false, false, false, false, false, false, false, false, false] (by kernel_rfl) rfl rfl ⟨head2, hg3, k1⟩ (fun hHeld => ?_)
      refine pure_ (i := 0) (N := some 17) (v := ?_) (a' := ?_) #[true, false, false, false, false, false, false, false, false, false, false, false, false, false, false, false, false, false, false, false, false, false] rfl rfl (by kernel_rfl) (fun _ _ _ h => h) (Or.inl ⟨by rfl, ?_⟩) ?_ ?_
      rotate_left
      · intro w'
        try simp only [List.getElem_toArray, List.getElem_cons_succ, List.getElem_cons_zero]
        go_simp
        with_reducible rfl
      rotate_left
      · simp only [Act.put, List.setIfInBounds_toArray, List.set_cons_zero, List.set_cons_succ, i64_w, i32_w]
        rfl
      refine pure_ (i := 1) (N := some 18) (v := ?_) (a' := ?_) #[true, true, false, false, false, false, false, false, false, false, false, false, false, false, false, false, false, false, false, false, false, false] rfl rfl (by kernel_rfl) (fun _ _ _ h => h) (Or.inl ⟨by rfl, ?_⟩) ?_ ?_
      rotate_left
      · intro w'
        try simp only [List.getElem_toArray, List.getElem_cons_succ, List.getElem_cons_zero]
        go_simp
        with_reducible rfl
      rotate_left
      · simp only [Act.put, List.setIfInBounds_toArray, List.set_cons_zero, List.set_cons_succ, i64_w, i32_w]
        rfl
      refine pure_ (i := 2) (N := some 19) (v := ?_) (a' := ?_) #[true, true, true, false, false, false, false, false, false, false, false, false, false, false, false, false, false, false, false, false, false, false] rfl rfl (by kernel_rfl) (fun _ _ _ h => h) (Or.inl ⟨by rfl, ?_⟩) ?_ ?_
      rotate_left
      · intro w'
        try simp only [List.getElem_toArray, List.getElem_cons_succ, List.getElem_cons_zero]
        go_simp
        with_reducible rfl
      rotate_left
      · simp only [Act.put, List.setIfInBounds_toArray, List.set_cons_zero, List.set_cons_succ, i64_w, i32_w]
        rfl
      refine pure_ (i := 4) (N := some 21) (v := ?_) (a' := ?_) #[true, true, true, false, true, false, false, false, false, false, false, false, false, false, false, false, false, false, false, false, false, false] rfl rfl (by kernel_rfl) (fun _ _ _ h => h) (Or.inl ⟨by rfl, ?_⟩) ?_ ?_
      rotate_left
      · intro w'
        try simp only [List.getElem_toArray, List.getElem_cons_succ, List.getElem_cons_zero]
        go_simp
        with_reducible rfl
      rotate_left
      · simp only [Act.put, List.setIfInBounds_toArray, List.set_cons_zero, List.set_cons_succ, i64_w, i32_w]
        rfl
      refine pure_ (i := 5) (N := some 22) (v := ?_) (a' := ?_) #[true, true, true, false, true, true, false, false, false, false, false, false, false, false, false, false, false, false, false, false, false, false] rfl rfl (by kernel_rfl) (fun _ _ _ h => h) (Or.inl ⟨by rfl, ?_⟩) ?_ ?_
      rotate_left
      · intro w'
        try simp only [List.getElem_toArray, List.getElem_cons_succ, List.getElem_cons_zero]
        go_simp
        with_reducible rfl
      rotate_left
      · simp only [Act.put, List.setIfInBounds_toArray, List.set_cons_zero, List.set_cons_succ, i64_w, i32_w]
        rfl
      refine pure_ (i := 6) (N := some 23) (v := ?_) (a' := ?_) #[true, true, true, false, true, true, true, false, false, false, false, false, false, false, false, false, false, false, false, false, false, false] rfl rfl (by kernel_rfl) (fun _ _ _ h => h) (Or.inl ⟨by rfl, ?_⟩) ?_ ?_
      rotate_left
      · intro w'
        try simp only [List.getElem_toArray, List.getElem_cons_succ, List.getElem_cons_zero]
        go_simp
        with_reducible rfl
      rotate_left
      · simp only [Act.put, List.setIfInBounds_toArray, List.set_cons_zero, List.set_cons_succ, i64_w, i32_w]
        rfl
      refine pure_ (i := 8) (N := some 25) (v := ?_) (a' := ?_) #[true, true, true, false, true, true, true, false, true, false, false, false, false, false, false, false, false, false, false, false, false, false] rfl rfl (by kernel_rfl) (fun _ _ _ h => h) (Or.inl ⟨by rfl, ?_⟩) ?_ ?_
      rotate_left
      · intro w'
        try simp only [List.getElem_toArray, List.getElem_cons_succ, List.getElem_cons_zero]
        go_simp
        with_reducible rfl
      rotate_left
      · simp only [Act.put, List.setIfInBounds_toArray, List.set_cons_zero, List.set_cons_succ, i64_w, i32_w]
        rfl
      refine pure_ (i := 12) (N := some 29) (v := ?_) (a' := ?_) #[true, true, true, false, true, true, true, false, true, false, false, false, true, false, false, false, false, false, false, false, false, false] rfl rfl (by kernel_rfl) (fun _ _ _ h => h) (Or.inl ⟨by rfl, ?_⟩) ?_ ?_
      rotate_left
      · intro w'
        try simp only [List.getElem_toArray, List.getElem_cons_succ, List.getElem_cons_zero]
        go_simp
        with_reducible rfl
      rotate_left
      · simp only [Act.put, List.setIfInBounds_toArray, List.set_cons_zero, List.set_cons_succ, i64_w, i32_w]
        rfl
      refine pure_ (i := 13) (N := some 30) (v := ?_) (a' := ?_) #[true, true, true, false, true, true, true, false, true, false, false, false, true, true, false, false, false, false, false, false, false, false] rfl rfl (by kernel_rfl) (fun _ _ _ h => h) (Or.inl ⟨by rfl, ?_⟩) ?_ ?_
      rotate_left
      · intro w'
        try simp only [List.getElem_toArray, List.getElem_cons_succ, List.getElem_cons_zero]
        go_simp
        with_reducible rfl
      rotate_left
      · simp only [Act.put, List.setIfInBounds_toArray, List.set_cons_zero, List.set_cons_succ, i64_w, i32_w]
        rfl
      refine pure_ (i := 14) (N := some 31) (v := ?_) (a' := ?_) #[true, true, true, false, true, true, true, false, true, false, false, false, true, true, true, false, false, false, false, false, false, false] rfl rfl (by kernel_rfl) (fun _ _ _ h => h) (Or.inl ⟨by rfl, ?_⟩) ?_ ?_
      rotate_left
      · intro w'
        try simp only [List.getElem_toArray, List.getElem_cons_succ, List.getElem_cons_zero]
        go_simp
        with_reducible rfl
      rotate_left
      · simp only [Act.put, List.setIfInBounds_toArray, List.set_cons_zero, List.set_cons_succ, i64_w, i32_w]
        rfl
      refine pure_ (i := 16) (N := some 33) (v := ?_) (a' := ?_) #[true, true, true, false, true, true, true, false, true, false, false, false, true, true, true, false, true, false, false, false, false, false] rfl rfl (by kernel_rfl) (fun _ _ _ h => h) (Or.inl ⟨by rfl, ?_⟩) ?_ ?_
      rotate_left
      · intro w'
        try simp only [List.getElem_toArray, List.getElem_cons_succ, List.getElem_cons_zero]
        go_simp
        with_reducible rfl
      rotate_left
      · simp only [Act.put, List.setIfInBounds_toArray, List.set_cons_zero, List.set_cons_succ, i64_w, i32_w]
        rfl
      refine take_ (i := 3) (N := some 20) (v := ?_) (a' := ?_) #[true, true, true, true, true, true, true, false, true, false, false, false, true, true, true, false, true, false, false, false, false, false] rfl rfl (by kernel_rfl) (fun _ _ _ h => h) (Or.inl ⟨by rfl, ?_⟩) hHeld ?_ ?_
      rotate_left
      · rintro w' ⟨s0, s1, s2⟩
        try simp only [List.getElem_toArray, List.getElem_cons_succ, List.getElem_cons_zero]
        go_simp
        with_reducible rfl
      rotate_left
      · simp only [Act.put, List.setIfInBounds_toArray, List.set_cons_zero, List.set_cons_succ, i64_w, i32_w]
        rfl
      refine take_ (i := 7) (N := some 24) (v := ?_) (a' := ?_) #[true, true, true, true, true, true, true, true, true, false, false, false, true, true, true, false, true, false, false, false, false, false] rfl rfl (by kernel_rfl) (fun _ _ _ h => h) (Or.inl ⟨by rfl, ?_⟩) hHeld ?_ ?_
      rotate_left
      · rintro w' ⟨s0, s1, s2⟩
        try simp only [List.getElem_toArray, List.getElem_cons_succ, List.getElem_cons_zero]
        go_simp
        with_reducible rfl
      rotate_left
      · simp only [Act.put, List.setIfInBounds_toArray, List.set_cons_zero, List.set_cons_succ, i64_w, i32_w]
        rfl
      refine pure_ (i := 9) (N := some 26) (v := ?_) (a' := ?_) #[true, true, true, true, true, true, true, true, true, true, false, false, true, true, true, false, true, false, false, false, false, false] rfl rfl (by kernel_rfl) (fun _ _ _ h => h) (Or.inl ⟨by rfl, ?_⟩) ?_ ?_
      rotate_left
      · intro w'
        try simp only [List.getElem_toArray, List.getElem_cons_succ, List.getElem_cons_zero]
        go_simp
        with_reducible rfl
      rotate_left
      · simp only [Act.put, List.setIfInBounds_toArray, List.set_cons_zero, List.set_cons_succ, i64_w, i32_w]
        rfl
      refine pure_ (i := 10) (N := some 27) (v := ?_) (a' := ?_) #[true, true, true, true, true, true, true, true, true, true, true, false, true, true, true, false, true, false, false, false, false, false] rfl rfl (by kernel_rfl) (fun _ _ _ h => h) (Or.inl ⟨by rfl, ?_⟩) ?_ ?_
      rotate_left
      · intro w'
        try simp only [List.getElem_toArray, List.getElem_cons_succ, List.getElem_cons_zero]
        go_simp
        with_reducible rfl
      rotate_left
      · simp only [Act.put, List.setIfInBounds_toArray, List.set_cons_zero, List.set_cons_succ, i64_w, i32_w]
        rfl
      refine take_ (i := 11) (N := some 28) (v := ?_) (a' := ?_) #[true, true, true, true, true, true, true, true, true, true, true, true, true, true, true, false, true, false, false, false, false, false] rfl rfl (by kernel_rfl) (fun _ _ _ h => h) (Or.inl ⟨by rfl, ?_⟩) hHeld ?_ ?_
      rotate_left
      · rintro w' ⟨s0, s1, s2⟩
        try simp only [List.getElem_toArray, List.getElem_cons_succ, List.getElem_cons_zero]
        go_simp
        with_reducible rfl
      rotate_left
      · simp only [Act.put, List.setIfInBounds_toArray, List.set_cons_zero, List.set_cons_succ, i64_w, i32_w]
        rfl
      refine take_ (i := 15) (N := some 32) (v := ?_) (a' := ?_) #[true, true, true, true, true, true, true, true, true, true, true, true, true, true, true, true, true, false, false, false, false, false] rfl rfl (by kernel_rfl) (fun _ _ _ h => h) (Or.inl ⟨by rfl, ?_⟩) hHeld ?_ ?_
      rotate_left
      · rintro w' ⟨s0, s1, s2⟩
        try simp only [List.getElem_toArray, List.getElem_cons_succ, List.getElem_cons_zero]
        go_simp
        with_reducible rfl
      rotate_left
      · simp only [Act.put, List.setIfInBounds_toArray, List.set_cons_zero, List.set_cons_succ, i64_w, i32_w]
        rfl
      refine pure_ (i := 17) (N := some 34) (v := ?_) (a' := ?_) #[true, true, true, true, true, true, true, true, true, true, true, true, true, true, true, true, true, true, false, false, false, false] rfl rfl (by kernel_rfl) (fun _ _ _ h => h) (Or.inl ⟨by rfl, ?_⟩) ?_ ?_
      rotate_left
      · intro w'
        try simp only [List.getElem_toArray, List.getElem_cons_succ, List.getElem_cons_zero]
        go_simp
        with_reducible rfl
      rotate_left
      · simp only [Act.put, List.setIfInBounds_toArray, List.set_cons_zero, List.set_cons_succ, i64_w, i32_w]
        rfl
      refine pure_ (i := 18) (N := some 35) (v := ?_) (a' := ?_) #[true, true, true, true, true, true, true, true, true, true, true, true, true, true, true, true, true, true, true, false, false, false] rfl rfl (by kernel_rfl) (fun _ _ _ h => h) (Or.inl ⟨by rfl, ?_⟩) ?_ ?_
      rotate_left
      · intro w'
        try simp only [List.getElem_toArray, List.getElem_cons_succ, List.getElem_cons_zero]
        go_simp
        with_reducible rfl
      rotate_left
      · simp only [Act.put, List.setIfInBounds_toArray, List.set_cons_zero, List.set_cons_succ, i64_w, i32_w]
        rfl
      refine take_ (i := 19) (N := some 36) (v := ?_) (a' := ?_) #[true, true, true, true, true, true, true, true, true, true, true, true, true, true, true, true, true, true, true, true, false, false] rfl rfl (by kernel_rfl) (fun _ _ _ h => h) (Or.inl ⟨by rfl, ?_⟩) hHeld ?_ ?_
      rotate_left
      · rintro w' ⟨s0, s1, s2⟩
        try simp only [List.getElem_toArray, List.getElem_cons_succ, List.getElem_cons_zero]
        go_simp
        with_reducible rfl
      rotate_left
      · simp only [Act.put, List.setIfInBounds_toArray, List.set_cons_zero, List.set_cons_succ, i64_w, i32_w]
        rfl
      refine take_ (i := 20) (N := some 37) (v := ?_) (a' := ?_) #[true, true, true, true, true, true, true, true, true, true, true, true, true, true, true, true, true, true, true, true, true, false] rfl rfl (by kernel_rfl) (fun _ _ _ h => h) (Or.inl ⟨by rfl, ?_⟩) hHeld ?_ ?_
      rotate_left
      · rintro w' ⟨s0, s1, s2⟩
        try simp only [List.getElem_toArray, List.getElem_cons_succ, List.getElem_cons_zero]
        go_simp
        with_reducible rfl
      rotate_left
      · simp only [Act.put, List.setIfInBounds_toArray, List.set_cons_zero, List.set_cons_succ, i64_w, i32_w]
        rfl
      refine last_ (i := 21) (N := none) #[true, true, true, true, true, true, true, true, true, true, true, true, true, true, true, true, true, true, true, true, true, true] rfl rfl (by kernel_rfl) (by decide) (fun K hK => ?_)
      refine skip_ (w1 := ?_) (by rfl) rfl ?_ ?_
      rotate_left
      · try simp only [List.getElem_toArray, List.getElem_cons_succ, List.getElem_cons_zero]
        go_simp
        rfl
      refine hK.out _ _ ?_
      clear hK K
      refine done_ (by kernel_rfl) ?_

      go_wp2
      go_roundw
      case rel => exact ⟨k + 1, by omega, by go_num, by rw [HST.out]; exact HIM9.out, HF.out.trans ((Fr.refl _ wr).drew.trans HF9.out (fun k hk => .inl hk)) (fun k hk => .inl hk)⟩
      case measure => simp [intOf]; omega
    · obtain rfl : k = D.buf.length := by omega
      rw [List.take_length] at HIM
      have hw4 : (wr.setCell ⟨rb, 2, none⟩ (.slice none 0 0)).heap[rb]? = some (.cells #[.int .i64 D.secs.length, .map (some mb), .slice none 0 0, .int .i64 D.armed, .bool false] 95 (0, 0)) := by
        rw [heap_setCell_self, head2]; rfl
      go_wp2_with (go_at_call 54; refine (rchange_any rb _ _ _ _ D.armed HH.out.ok.armed.2 hw4).mono ?_; rintro e w5 ⟨rfl, head5, fr5⟩)
      go_ret
      have fr4 : Fr (fun k => k = rb) wr (wr.setCell ⟨rb, 2, none⟩ (.slice none 0 0)) := (Fr.refl _ _).setCell _ (.inl rfl)
      have fr45 := fr4.trans fr5 (fun k hk => .inl hk)
      refine ⟨rfl, lay L D.buf, ?_, (HF.out.mono (fun k _ h => Or.inr h) : Fr (fun k => k = rb ∨ k = mb) w wr).trans fr45 (fun k hk => .inl (.inl hk))⟩
      have hbuf := HH.out.ok.buf
      have := HH.out.emptied (a := if 0 < D.armed then D.armed - 1 else D.armed) (d := if 0 < D.armed then D.armed - 1 == 0 else false) head5 (HIM.out.fr fr45 HH.out.mb_ne) (HH.out.tells.lay hbuf) (settled_length _ _) (settled_len _ (fun x hx => (hbuf x hx).2) _ HH.out.ok.len) (by have := HH.out.ok.armed; split <;> omega)
      simpa [Dk.flushed, Dk.changed, hd] using this

end Go.Proofs.Ytnpeeephkkmomaa
