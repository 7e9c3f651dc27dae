/-
  The walk of the disk's Crash.
-/
import Derived.Test.YtnpeeephkkmomaaDsk4
namespace Go.Proofs.Ytnpeeephkkmomaa
open Go.RowKit Go.Proofs.YtnpeeephkkmomaaW.PrintLast
set_option linter.unusedVariables false
set_option linter.unusedSimpArgs false
attribute [local go_sem ↓] xmx xmn
attribute [local go_sem] mxP_int mnP_int

theorem flatMap_split (s : List (List UInt8)) (i : Nat) (hi : i < s.length) : s.flatMap Bs = (s.take i).flatMap Bs ++ Bs s[i] ++ (s.drop (i + 1)).flatMap Bs := by
  have h1 : s.flatMap Bs = (s.take i ++ s.drop i).flatMap Bs := by rw [List.take_append_drop]
  rw [h1, List.drop_eq_getElem_cons hi, List.flatMap_append, List.flatMap_cons, List.append_assoc]
/-- A part of a sector is written. -/
theorem secCells_part (s : List (List UInt8)) (h : ∀ x ∈ s, x.length = 64) (i : Nat) (hi : i < s.length) (x : List UInt8) (hx : x.length ≤ 64) :
    splice (secCells s) (i * 64) (Bs x) = secCells (s.set i (x ++ (s.getD i []).drop x.length)) := by
  rw [List.getD_eq_getElem?_getD, List.getElem?_eq_getElem hi, Option.getD_some]
  have hl : ((s.take i).flatMap Bs).length = i * 64 := by
    rw [length_flatMap_same Bs 64 _ (fun y hy => by rw [Bs_length, h y (List.mem_of_mem_take hy)]), List.length_take, Nat.min_eq_left (by omega), Nat.mul_comm]
  have h64 : s[i].length = 64 := h _ (List.getElem_mem hi)
  have hset : (s.set i (x ++ s[i].drop x.length)).flatMap Bs = (s.take i).flatMap Bs ++ Bs (x ++ s[i].drop x.length) ++ (s.drop (i + 1)).flatMap Bs := by
    rw [List.set_eq_take_append_cons_drop, if_pos hi]; simp
  apply Array.toList_inj.1
  rw [splice_toList]
  show (s.flatMap Bs).take (i * 64) ++ Bs x ++ (s.flatMap Bs).drop (i * 64 + (Bs x).length) = (s.set i (x ++ s[i].drop x.length)).flatMap Bs
  rw [hset, flatMap_split s i hi, Bs_length, ← hl, List.append_assoc, List.append_assoc, List.take_left, List.drop_length_add_append, List.drop_append_of_le_length (by rw [Bs_length, h64]; exact hx), Bs_append, ← Bs_drop]
  simp

theorem secRow_part (s : List (List UInt8)) (sp : Array Value) (h : ∀ x ∈ s, x.length = 64) (i : Nat) (hi : i < s.length) (x : List UInt8) (hx : x.length ≤ 64) :
    splice (secRow s sp) (i * 64) (Bs x) = secRow (s.set i (x ++ (s.getD i []).drop x.length)) sp := by
  have hs := secCells_size s h
  rw [secRow, splice_append _ _ _ _ (by rw [Bs_length, hs]; omega), secCells_part s h i hi x hx]; rfl

theorem torn_mul (torn : Int) : IntKind.i64.wrap ((IntKind.i64.wrap ((mn (mx torn 0) 64).tdiv 8)) * 8) = (torn8 torn : Nat) := by
  have e : mn (mx torn 0) 64 = min (max torn 0) 64 := by rw [mn_eq, mx_eq]
  rw [e]
  have h0 : 0 ≤ min (max torn 0) 64 := by omega
  have h1 : min (max torn 0) 64 ≤ 64 := by omega
  unfold torn8
  generalize min (max torn 0) 64 = m at *
  have hq : IntKind.i64.wrap (m / 8) = m / 8 := IntWalk.i64_in _ (by omega)
  rw [Int.tdiv_eq_ediv_of_nonneg h0, hq, IntWalk.i64_in _ (by omega)]
  omega
theorem torn8_le (torn : Int) : torn8 torn ≤ 64 := by unfold torn8; omega

set_option maxRecDepth 100000 in
set_option maxHeartbeats 1000000 in
theorem crash_some (b lb cl : Nat) (sp : Array Value) (g cap : Nat) (D : Dk) (w : World) (keep torn : Int) (h : IsDk w b lb cl sp (.slice (some ⟨g, 0, none⟩) D.buf.length cap) D)  :
    Calls Try.prog 18 #[.pointer (some ⟨b, 0, none⟩), .int .i64 keep, .int .i64 torn] w fun e w' => e = .returned (.tuple #[]) ∧ IsDk w' b lb cl sp (.slice none 0 0) (D.crashed keep torn) ∧ Fr (fun k => k = b ∨ k = lb) w w' := by
  have HH := Lib.hid h
  obtain ⟨ok, head, row, own, ne1, ne2, ne3⟩ := h
  rcases own.2 with ⟨h, _⟩ | ⟨g', cap', cur, hv, _, hg, hnc, hcm, hcs, htake⟩
  · cases h
  obtain ⟨rfl, rfl⟩ : g = g' ∧ cap = cap' := by simpa using hv
  replace hcm : cap ≤ 9223372036854775807 := by simpa [maxLen] using hcm
  have hn : ∃ n : Nat, mn (mx keep 0) D.buf.length = (n : Int) ∧ n ≤ D.buf.length ∧ n = (min (max keep 0) D.buf.length).toNat := by
    refine ⟨(min (max keep 0) D.buf.length).toNat, ?_, ?_, rfl⟩
    · rw [mn_eq, mx_eq]; omega
    · omega
  obtain ⟨n, hn1, hn2, hn3⟩ := hn
  have HN3 := Lib.hid hn3; clear hn3
  have HOWN := Lib.hid own; clear own
  have HOK := Lib.hid ok; clear ok
  have HTK := Lib.hid htake; clear htake
  clear hv
  by_cases hlt : n < D.buf.length
  · have hx := own_extract (w := w) (g := g) (cap := cap) (fun x hx => (HOK.out.buf x hx).2) HTK.out n hlt
    have hbk := HOK.out.buf D.buf[n] (List.getElem_mem hlt)
    have hget : D.buf[n]? = some D.buf[n] := List.getElem?_eq_getElem hlt
    have hnl : (settled D.secs (D.buf.take n)).length = D.secs.length := settled_length _ _
    have hl64 : ∀ x ∈ settled D.secs (D.buf.take n), x.length = 64 := settled_len _ (fun x hx => (HOK.out.buf x (List.mem_of_mem_take hx)).2) _ HOK.out.len
    have hsz : n * 65 + 65 ≤ cur.size := by rw [hcs]; omega
    have hmost := HOK.out.most
    have hok2 := HOK.out.atSettled n [] (by simp)
    have hres : D.crashed keep torn = { secs := (settled D.secs (D.buf.take n)).set D.buf[n].1 (D.buf[n].2.take (torn8 torn) ++ ((settled D.secs (D.buf.take n)).getD D.buf[n].1 []).drop (torn8 torn)), buf := [], armed := -1, down := false } := by
      simp only [Dk.crashed, ← HN3.out, hget]
    generalize D.buf[n] = xx at hx hbk hget hres
    obtain ⟨at_, d⟩ := xx
    obtain ⟨hat, hd⟩ := hbk
    simp only [recOf] at hx hat hd hres
    have hx' : sub cur (n * 65) 65 = (Value.int .i64 (at_ : Int) :: Bs d).toArray := hx
    have hbl : (Bs d).length = 64 := by rw [Bs_length, hd]
    have hss := secRow_size _ sp hl64
    have htm : wrap64 (wrap64 ((mn (mx torn 0) 64).tdiv 8) * 8) = (torn8 torn : Nat) := by rw [← i64_w, ← i64_w]; exact torn_mul torn
    have ht8 := torn8_le torn
    have hpart := secRow_part _ sp hl64 at_ (by rw [hnl]; exact hat) (d.take (torn8 torn)) (by rw [List.length_take]; omega)
    rw [List.length_take, hd, Nat.min_eq_left ht8] at hpart
    have hnew : ∀ x ∈ (settled D.secs (D.buf.take n)).set at_ (d.take (torn8 torn) ++ ((settled D.secs (D.buf.take n)).getD at_ []).drop (torn8 torn)), x.length = 64 := by
      intro x hx
      rcases List.mem_or_eq_of_mem_set hx with h1 | h1
      · exact hl64 x h1
      · have : ((settled D.secs (D.buf.take n)).getD at_ []).length = 64 := by
          rw [List.getD_eq_getElem?_getD, List.getElem?_eq_getElem (by rw [hnl]; exact hat), Option.getD_some]; exact hl64 _ (List.getElem_mem _)
        rw [h1, List.length_append, List.length_take, List.length_drop, this, hd]; omega
    have HNEW := Lib.hid hnew; clear hnew
    generalize hS : settled D.secs (D.buf.take n) = S at *
    have HS := Lib.hid hS; clear hS
    have HOK2 := Lib.hid hok2; clear hok2
    have HPART := Lib.hid hpart; clear hpart
    have HRES := Lib.hid hres; clear hres
    have HSS := Lib.hid hss; clear hss
    have HL := Lib.hid hl64; clear hl64
    have HD := Lib.hid hd; clear hd
    have HNL := Lib.hid hnl; clear hnl
    clear hx hget hcs
    go_enter Try.func18, Try.ntmps18
    go_wp2_with (go_at_call 49; refine (settle_any b lb cl sp _ D w n HH.out hn2).mono ?_; rintro e w2 ⟨rfl, row2, fr2⟩; rw [HS.out] at row2; have hg2 := fr2.at hg (fun e => ne3 (by rw [e]; rfl)); have head2 := fr2.at head ne1; clear head hg row; have FR2 := Lib.hid fr2; clear fr2)
    have ha : (w2.alloc (.cells (Value.int .i64 (at_ : Int) :: Bs d).toArray 89 (0, 0))).heap[b]? = _ := (heap_alloc_lt _ _ _ (by rw [head2]; rfl)).trans head2
    have hr : (w2.alloc (.cells (Value.int .i64 (at_ : Int) :: Bs d).toArray 89 (0, 0))).heap[lb]? = _ := (heap_alloc_lt _ _ _ (by rw [row2]; rfl)).trans row2
    have hn : (w2.alloc (.cells (Value.int .i64 (at_ : Int) :: Bs d).toArray 89 (0, 0))).heap[w2.heap.size]? = _ := heap_alloc_at _ _
    have hfa : Fr (fun k => k = lb) w (w2.alloc (.cells (Value.int .i64 (at_ : Int) :: Bs d).toArray 89 (0, 0))) := FR2.out.alloc _
    clear head2 row2 hg2
    generalize hw3 : w2.alloc (.cells (Value.int .i64 (at_ : Int) :: Bs d).toArray 89 (0, 0)) = w3 at *
    clear hw3
    generalize w2.heap.size = nb at *
    have hby : IsBytes w3 (.slice (some ⟨nb, 1, none⟩) 64 64) d := by
      refine ⟨some ⟨nb, 1, none⟩, 64, by rw [HD.out], by rw [HD.out]; exact Nat.le_refl _, by omega, by simp, ?_⟩
      rintro a rfl' j v hv
      cases rfl'
      rw [Addr.add_mk, cells_at hn]
      simp only [List.getElem?_toArray]
      rw [Nat.add_comm, List.getElem?_cons_succ]; exact hv
    have HFA := Lib.hid hfa; clear hfa
    have HBY := Lib.hid hby; clear hby
    refine start_ (n := 16) (S := fun w' => w'.heap[b]? = some (.cells #[.slice (some ⟨lb, 0, none⟩) D.secs.length cl, .slice (some ⟨g, 0, none⟩) D.buf.length cap, .int .i64 D.armed, .bool D.down] 84 (0, 0)) ∧ w'.heap[nb]? = some (.cells (Value.int .i64 (at_ : Int) :: Bs d).toArray 89 (0, 0))) (ds := [15]) #[false, false, false, false, false, false, false, false, false, false, false, false, false, false, false, false] (by kernel_rfl) rfl rfl ⟨ha, hn⟩ (fun hHeld => ?_)
    refine pure_ (i := 0) (N := some 33) (v := ?_) (a' := ?_) #[true, false, false, false, false, false, false, false, false, false, false, false, false, false, false, false] rfl rfl (by kernel_rfl) (fun _ _ _ h => h) (Or.inl ⟨by rfl, ?_⟩) ?_ ?_
    rotate_left
    · intro w'
      try simp only [List.getElem_toArray, List.getElem_cons_succ, List.getElem_cons_zero]
      go_simp
      with_reducible rfl
    rotate_left
    · simp only [Act.put, List.setIfInBounds_toArray, List.set_cons_zero, List.set_cons_succ, i64_w, i32_w]
      rfl
    refine pure_ (i := 1) (N := some 34) (v := ?_) (a' := ?_) #[true, true, false, false, false, false, false, false, false, false, false, false, false, false, false, false] rfl rfl (by kernel_rfl) (fun _ _ _ h => h) (Or.inl ⟨by rfl, ?_⟩) ?_ ?_
    rotate_left
    · intro w'
      try simp only [List.getElem_toArray, List.getElem_cons_succ, List.getElem_cons_zero]
      go_simp
      with_reducible rfl
    rotate_left
    · simp only [Act.put, List.setIfInBounds_toArray, List.set_cons_zero, List.set_cons_succ, i64_w, i32_w]
      rfl
    refine pure_ (i := 2) (N := some 35) (v := ?_) (a' := ?_) #[true, true, true, false, false, false, false, false, false, false, false, false, false, false, false, false] rfl rfl (by kernel_rfl) (fun _ _ _ h => h) (Or.inl ⟨by rfl, ?_⟩) ?_ ?_
    rotate_left
    · intro w'
      try simp only [List.getElem_toArray, List.getElem_cons_succ, List.getElem_cons_zero]
      go_simp
      with_reducible rfl
    rotate_left
    · simp only [Act.put, List.setIfInBounds_toArray, List.set_cons_zero, List.set_cons_succ, i64_w, i32_w]
      rfl
    refine pure_ (i := 4) (N := some 37) (v := ?_) (a' := ?_) #[true, true, true, false, true, false, false, false, false, false, false, false, false, false, false, false] rfl rfl (by kernel_rfl) (fun _ _ _ h => h) (Or.inl ⟨by rfl, ?_⟩) ?_ ?_
    rotate_left
    · intro w'
      try simp only [List.getElem_toArray, List.getElem_cons_succ, List.getElem_cons_zero]
      go_simp
      with_reducible rfl
    rotate_left
    · simp only [Act.put, List.setIfInBounds_toArray, List.set_cons_zero, List.set_cons_succ, i64_w, i32_w]
      rfl
    refine pure_ (i := 7) (N := some 40) (v := ?_) (a' := ?_) #[true, true, true, false, true, false, false, true, false, false, false, false, false, false, false, false] rfl rfl (by kernel_rfl) (fun _ _ _ h => h) (Or.inl ⟨by rfl, ?_⟩) ?_ ?_
    rotate_left
    · intro w'
      try simp only [List.getElem_toArray, List.getElem_cons_succ, List.getElem_cons_zero]
      go_simp
      with_reducible rfl
    rotate_left
    · simp only [Act.put, List.setIfInBounds_toArray, List.set_cons_zero, List.set_cons_succ, i64_w, i32_w]
      rfl
    refine pure_ (i := 8) (N := some 41) (v := ?_) (a' := ?_) #[true, true, true, false, true, false, false, true, true, false, false, false, false, false, false, false] rfl rfl (by kernel_rfl) (fun _ _ _ h => h) (Or.inl ⟨by rfl, ?_⟩) ?_ ?_
    rotate_left
    · intro w'
      try simp only [List.getElem_toArray, List.getElem_cons_succ, List.getElem_cons_zero]
      go_simp
      with_reducible rfl
    rotate_left
    · simp only [Act.put, List.setIfInBounds_toArray, List.set_cons_zero, List.set_cons_succ, i64_w, i32_w]
      rfl
    refine pure_ (i := 9) (N := some 42) (v := ?_) (a' := ?_) #[true, true, true, false, true, false, false, true, true, true, false, false, false, false, false, false] rfl rfl (by kernel_rfl) (fun _ _ _ h => h) (Or.inl ⟨by rfl, ?_⟩) ?_ ?_
    rotate_left
    · intro w'
      try simp only [List.getElem_toArray, List.getElem_cons_succ, List.getElem_cons_zero]
      go_simp
      with_reducible rfl
    rotate_left
    · simp only [Act.put, List.setIfInBounds_toArray, List.set_cons_zero, List.set_cons_succ, i64_w, i32_w]
      rfl
    refine pure_ (i := 10) (N := some 43) (v := ?_) (a' := ?_) #[true, true, true, false, true, false, false, true, true, true, true, false, false, false, false, false] rfl rfl (by kernel_rfl) (fun _ _ _ h => h) (Or.inl ⟨by rfl, ?_⟩) ?_ ?_
    rotate_left
    · intro w'
      try simp only [List.getElem_toArray, List.getElem_cons_succ, List.getElem_cons_zero]
      go_simp
      with_reducible rfl
    rotate_left
    · simp only [Act.put, List.setIfInBounds_toArray, List.set_cons_zero, List.set_cons_succ, i64_w, i32_w]
      rfl
    refine pure_ (i := 11) (N := some 44) (v := ?_) (a' := ?_) #[true, true, true, false, true, false, false, true, true, true, true, true, false, false, false, false] rfl rfl (by kernel_rfl) (fun _ _ _ h => h) (Or.inl ⟨by rfl, ?_⟩) ?_ ?_
    rotate_left
    · intro w'
      try simp only [List.getElem_toArray, List.getElem_cons_succ, List.getElem_cons_zero]
      go_simp
      with_reducible rfl
    rotate_left
    · simp only [Act.put, List.setIfInBounds_toArray, List.set_cons_zero, List.set_cons_succ, i64_w, i32_w]
      rfl
    refine pure_ (i := 13) (N := some 46) (v := ?_) (a' := ?_) #[true, true, true, false, true, false, false, true, true, true, true, true, false, true, false, false] rfl rfl (by kernel_rfl) (fun _ _ _ h => h) (Or.inl ⟨by rfl, ?_⟩) ?_ ?_
    rotate_left
    · intro w'
      try simp only [List.getElem_toArray, List.getElem_cons_succ, List.getElem_cons_zero]
      go_simp
      with_reducible rfl
    rotate_left
    · simp only [Act.put, List.setIfInBounds_toArray, List.set_cons_zero, List.set_cons_succ, i64_w, i32_w]
      rfl
    refine pure_ (i := 14) (N := some 47) (v := ?_) (a' := ?_) #[true, true, true, false, true, false, false, true, true, true, true, true, false, true, true, false] rfl rfl (by kernel_rfl) (fun _ _ _ h => h) (Or.inl ⟨by rfl, ?_⟩) ?_ ?_
    rotate_left
    · intro w'
      try simp only [List.getElem_toArray, List.getElem_cons_succ, List.getElem_cons_zero]
      go_simp
      with_reducible rfl
    rotate_left
    · simp only [Act.put, List.setIfInBounds_toArray, List.set_cons_zero, List.set_cons_succ, i64_w, i32_w]
      rfl
    refine take_ (i := 3) (N := some 36) (v := ?_) (a' := ?_) #[true, true, true, true, true, false, false, true, true, true, true, true, false, true, true, false] rfl rfl (by kernel_rfl) (fun _ _ _ h => h) (Or.inl ⟨by rfl, ?_⟩) hHeld ?_ ?_
    rotate_left
    · rintro w' ⟨s0, s1⟩
      try simp only [List.getElem_toArray, List.getElem_cons_succ, List.getElem_cons_zero]
      go_simp
      with_reducible rfl
    rotate_left
    · simp only [Act.put, List.setIfInBounds_toArray, List.set_cons_zero, List.set_cons_succ, i64_w, i32_w]
      rfl
    refine take_ (i := 5) (N := some 38) (v := ?_) (a' := ?_) #[true, true, true, true, true, true, false, true, true, true, true, true, false, true, true, false] rfl rfl (by kernel_rfl) (fun _ _ _ h => h) (Or.inl ⟨by rfl, ?_⟩) hHeld ?_ ?_
    rotate_left
    · rintro w' ⟨s0, s1⟩
      try simp only [List.getElem_toArray, List.getElem_cons_succ, List.getElem_cons_zero]
      go_simp
      with_reducible rfl
    rotate_left
    · simp only [Act.put, List.setIfInBounds_toArray, List.set_cons_zero, List.set_cons_succ, i64_w, i32_w]
      rfl
    refine pure_ (i := 6) (N := some 39) (v := ?_) (a' := ?_) #[true, true, true, true, true, true, true, true, true, true, true, true, false, true, true, false] rfl rfl (by kernel_rfl) (fun _ _ _ h => h) (Or.inl ⟨by rfl, ?_⟩) ?_ ?_
    rotate_left
    · intro w'
      try simp only [List.getElem_toArray, List.getElem_cons_succ, List.getElem_cons_zero]
      go_simp
      with_reducible rfl
    rotate_left
    · simp only [Act.put, List.setIfInBounds_toArray, List.set_cons_zero, List.set_cons_succ, i64_w, i32_w]
      rfl
    refine pure_ (i := 12) (N := some 45) (v := ?_) (a' := ?_) #[true, true, true, true, true, true, true, true, true, true, true, true, true, true, true, false] rfl rfl (by kernel_rfl) (fun _ _ _ h => h) (Or.inl ⟨by rfl, ?_⟩) ?_ ?_
    rotate_left
    · intro w'
      try simp only [List.getElem_toArray, List.getElem_cons_succ, List.getElem_cons_zero]
      go_simp
      with_reducible rfl
    rotate_left
    · simp only [Act.put, List.setIfInBounds_toArray, List.set_cons_zero, List.set_cons_succ, i64_w, i32_w]
      rfl
    refine last_ (i := 15) (N := some 48) #[true, true, true, true, true, true, true, true, true, true, true, true, true, true, true, true] rfl rfl (by kernel_rfl) (by decide) (fun K hK => ?_)
    refine step_copy_bytes (by rfl) (.tmp 45) (.tmp 47) 30 30 5 rfl Try.underlying30 (by kernel_rfl) lb (at_ * 64) (torn8 torn) 64 rfl _ d rfl (HBY.out.fr (F := fun _ => False) (Fr.refl _ w3).drew (fun _ _ h => h)) (secRow S sp) 87 hr (by rw [HD.out]; have := HNL.out; have := HSS.out; omega) ?_
    rw [HPART.out]
    refine hK.out _ _ ?_
    clear hK K
    refine norm_ (a' := ?_) ?_ ?_
    rotate_left
    · show Act.put _ (some 48) _ = _
      simp only [Act.put, List.setIfInBounds_toArray, List.set_cons_zero, List.set_cons_succ, i64_w, i32_w]
      rfl
    refine done_ (by kernel_rfl) ?_

    have row4 : (w3.drew.setRow lb (secRow (S.set at_ (d.take (torn8 torn) ++ (S.getD at_ []).drop (torn8 torn))) sp)).heap[lb]? = some (.cells (secRow (S.set at_ (d.take (torn8 torn) ++ (S.getD at_ []).drop (torn8 torn))) sp) 87 (0, 0)) := by
      rw [heap_setRow_self, heap_drew', hr]; rfl
    have fr4 : Fr (fun k => k = lb) w (w3.drew.setRow lb (secRow (S.set at_ (d.take (torn8 torn) ++ (S.getD at_ []).drop (torn8 torn))) sp)) := HFA.out.drew.setRow _ (.inl rfl)
    have head4 : (w3.drew.setRow lb (secRow (S.set at_ (d.take (torn8 torn) ++ (S.getD at_ []).drop (torn8 torn))) sp)).heap[b]? = some (.cells #[.slice (some ⟨lb, 0, none⟩) D.secs.length cl, .slice (some ⟨g, 0, none⟩) D.buf.length cap, .int .i64 D.armed, .bool D.down] 84 (0, 0)) := by
      rw [heap_setRow, if_neg (Ne.symm ne1), heap_drew']; exact ha
    generalize w3.drew.setRow lb (secRow (S.set at_ (d.take (torn8 torn) ++ (S.getD at_ []).drop (torn8 torn))) sp) = w4 at *
    have FIN : Hid (∀ w5, w5 = ((w4.setCell ⟨b, 1, none⟩ (.slice none 0 0)).setCell ⟨b, 3, none⟩ (.bool false)).setCell ⟨b, 2, none⟩ (.int .i64 (-1)) → IsDk w5 b lb cl sp (.slice none 0 0) (D.crashed keep torn) ∧ Fr (fun k => k = b ∨ k = lb) w w5) := by
      rintro w5 rfl
      have fr5 : Fr (fun k => k = b) w4 (((w4.setCell ⟨b, 1, none⟩ (.slice none 0 0)).setCell ⟨b, 3, none⟩ (.bool false)).setCell ⟨b, 2, none⟩ (.int .i64 (-1))) := by
        refine Fr.setCell (Fr.setCell (Fr.setCell (Fr.refl _ _) _ (by simp)) _ (by simp)) _ (by simp)
      rw [HRES.out]
      refine ⟨⟨⟨?_, ?_, HNEW.out, by simp, by simp⟩, ?_, fr5.at row4 (Ne.symm ne1), World.ownsRow_nil _ _ _ _, ne1, by simp [Value.ownBlock], by simp [Value.ownBlock]⟩, ?_⟩
      · show 1 ≤ (S.set _ _).length; rw [List.length_set, HNL.out]; exact HOK.out.one
      · show (S.set _ _).length ≤ _; rw [List.length_set, HNL.out]; exact HOK.out.most
      · rw [heap_setCell_self, heap_setCell_self, heap_setCell_self, head4]; simp [putIn_some, HNL.out]
      · exact (fr4.mono (fun k _ h => .inr h)).trans (fr5.mono (G := fun k => k = b ∨ k = lb) (fun k _ h => .inl h)) (fun k h => .inl h)
    clear ha hn hr row4 fr4
    go_wp2
    go_end0
    exact ⟨rfl, FIN.out _ rfl⟩
  · obtain rfl : n = D.buf.length := by omega
    have hres : D.crashed keep torn = { secs := settled D.secs (D.buf.take D.buf.length), buf := [], armed := -1, down := false } := by
      simp only [Dk.crashed, ← HN3.out]
      rw [List.getElem?_eq_none (Nat.le_refl _)]
    have hok2 := HOK.out.atSettled D.buf.length [] (by simp)
    have HRES := Lib.hid hres; clear hres
    have HOK2 := Lib.hid hok2; clear hok2
    have hlt' : decide ((D.buf.length : Int) < (D.buf.length : Int)) = false := by simp
    go_enter Try.func18, Try.ntmps18
    go_wp2_with (go_at_call 49; refine (settle_any b lb cl sp _ D w D.buf.length HH.out (Nat.le_refl _)).mono ?_; rintro e w4 ⟨rfl, row4, fr4⟩; have head4 := fr4.at head ne1; clear head hg row
                 have ROW4 := Lib.hid row4; clear row4; have FR4 := Lib.hid fr4; clear fr4; have HEAD4 := Lib.hid head4)
    go_end0
    have fr5 : Fr (fun k => k = b) w4 (((w4.setCell ⟨b, 1, none⟩ (.slice none 0 0)).setCell ⟨b, 3, none⟩ (.bool false)).setCell ⟨b, 2, none⟩ (.int .i64 (-1))) := by
        refine Fr.setCell (Fr.setCell (Fr.setCell (Fr.refl _ _) _ (by simp)) _ (by simp)) _ (by simp)
    rw [HRES.out]
    refine ⟨rfl, ⟨⟨HOK2.out.one, HOK2.out.most, HOK2.out.len, by simp, by simp⟩, ?_, fr5.at ROW4.out (Ne.symm ne1), World.ownsRow_nil _ _ _ _, ne1, by simp [Value.ownBlock], by simp [Value.ownBlock]⟩, ?_⟩
    · rw [heap_setCell_self, heap_setCell_self, heap_setCell_self, HEAD4.out]; simp [putIn_some, settled_length]
    · exact (FR4.out.mono (fun k _ h => .inr h)).trans (fr5.mono (G := fun k => k = b ∨ k = lb) (fun k _ h => .inl h)) (fun k h => .inl h)

set_option maxRecDepth 100000 in
set_option maxHeartbeats 1000000 in
theorem crash_nil (b lb cl : Nat) (sp : Array Value) (D : Dk) (w : World) (keep torn : Int) (h : IsDk w b lb cl sp (.slice none 0 0) D) (h0 : D.buf.length = 0) :
    Calls Try.prog 18 #[.pointer (some ⟨b, 0, none⟩), .int .i64 keep, .int .i64 torn] w fun e w' => e = .returned (.tuple #[]) ∧ IsDk w' b lb cl sp (.slice none 0 0) (D.crashed keep torn) ∧ Fr (fun k => k = b ∨ k = lb) w w' := by
  have HH := Lib.hid h
  obtain ⟨ok, head, row, own, ne1, ne2, ne3⟩ := h
  have hn1 : mn (mx keep 0) 0 = ((0 : Nat) : Int) := by rw [mn_eq, mx_eq]; omega
  have hb : D.buf = [] := List.eq_nil_of_length_eq_zero h0
  have hres : D.crashed keep torn = { secs := settled D.secs (D.buf.take 0), buf := [], armed := -1, down := false } := by
    simp [Dk.crashed, hb]
  have HRES := Lib.hid hres; clear hres
  have HOK := Lib.hid ok; clear ok
  clear own h0 hb
  go_enter Try.func18, Try.ntmps18
  go_wp2_with (go_at_call 49; refine (settle_any b lb cl sp _ D w 0 HH.out (Nat.zero_le _)).mono ?_; rintro e w4 ⟨rfl, row4, fr4⟩; have head4 := fr4.at head ne1; clear head row
               have ROW4 := Lib.hid row4; clear row4; have FR4 := Lib.hid fr4; clear fr4; have HEAD4 := Lib.hid head4)
  go_end0
  have fr5 : Fr (fun k => k = b) w4 (((w4.setCell ⟨b, 1, none⟩ (.slice none 0 0)).setCell ⟨b, 3, none⟩ (.bool false)).setCell ⟨b, 2, none⟩ (.int .i64 (-1))) := by
    refine Fr.setCell (Fr.setCell (Fr.setCell (Fr.refl _ _) _ (by simp)) _ (by simp)) _ (by simp)
  rw [HRES.out]
  have ok := HOK.out
  refine ⟨rfl, ⟨⟨?_, ?_, ?_, by simp, by simp⟩, ?_, fr5.at ROW4.out (Ne.symm ne1), World.ownsRow_nil _ _ _ _, ne1, by simp [Value.ownBlock], by simp [Value.ownBlock]⟩, ?_⟩
  · simpa [settled] using ok.one
  · simpa [settled] using ok.most
  · simpa [settled] using ok.len
  · rw [heap_setCell_self, heap_setCell_self, heap_setCell_self, HEAD4.out]; simp [putIn_some, settled]
  · exact (FR4.out.mono (fun k _ h => .inr h)).trans (fr5.mono (G := fun k => k = b ∨ k = lb) (fun k _ h => .inl h)) (fun k h => .inl h)

theorem crash_any (b lb cl : Nat) (sp : Array Value) (wv : Value) (D : Dk) (w : World) (keep torn : Int) (h : IsDk w b lb cl sp wv D) :
    Calls Try.prog 18 #[.pointer (some ⟨b, 0, none⟩), .int .i64 keep, .int .i64 torn] w fun e w' => e = .returned (.tuple #[]) ∧ IsDk w' b lb cl sp (.slice none 0 0) (D.crashed keep torn) ∧ Fr (fun k => k = b ∨ k = lb) w w' := by
  rcases h.own.2 with ⟨rfl, h0⟩ | ⟨g', cap', cur, rfl, _⟩
  · exact crash_nil b lb cl sp D w keep torn h h0
  · exact crash_some b lb cl sp g' cap' D w keep torn h
end Go.Proofs.Ytnpeeephkkmomaa
