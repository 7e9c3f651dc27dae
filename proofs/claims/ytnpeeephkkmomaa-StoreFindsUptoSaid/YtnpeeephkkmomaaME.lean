/-
  The cell: its numbers told; a sector read.
-/
import Derived.Test.YtnpeeephkkmomaaMD
import Derived.ChangeKeysEq
namespace Go.Proofs.Ytnpeeephkkmomaa
open Go.RowKit Go.Proofs.YtnpeeephkkmomaaW.PrintLast
set_option linter.unusedVariables false
set_option linter.unusedSimpArgs false

/-- A cell at block cp. -/
def IsCell (w : World) (cp b : Nat) (t x y z : Int) : Prop := w.heap[cp]? = some (.cells #[.pointer (some ⟨b, 0, none⟩), .int .i64 0, .int .i64 t, .int .i64 x, .int .i64 y, .int .i64 z] 143 (0, 0))
theorem IsCell.fr {w w' : World} {F : Nat → Prop} {cp b : Nat} {t x y z : Int} (h : IsCell w cp b t x y z) (hf : Fr F w w') (hF : ¬ F cp) : IsCell w' cp b t x y z := hf.at h hF
theorem res70 (tmps : Array Value) (p : Nat) (x y z : Value) (W : World) (ht : tmps.getD 2 undef = .pointer (some ⟨p, 0, none⟩)) (hp : W.heap[p]? = some (.cells #[x, y, z] 113 (0, 0))) :
    (results Try.f70 tmps).run Try.prog W = .ok (.agg #[x, y, z]) W := by
  have hr : Try.f70.results = #[.cell 2 113] := by kernel_rfl
  have hl : (loadVar 113 ⟨p, 0, none⟩).run Try.prog W = .ok (.agg #[x, y, z]) W := by
    go_simp
  rw [Array.getD_eq_getD_getElem?] at ht
  simp only [results, hr]
  simp [ht, asAddr, hl]
theorem res88 (tmps : Array Value) (p : Nat) (x y z u r : Value) (W : World) (ht : tmps.getD 2 undef = .pointer (some ⟨p, 0, none⟩)) (hr3 : tmps.getD 3 undef = r) (hp : W.heap[p]? = some (.cells #[x, y, z, u] 141 (0, 0))) :
    (results Try.f88 tmps).run Try.prog W = .ok (.tuple #[.agg #[x, y, z, u], r]) W := by
  have hr : Try.f88.results = #[.cell 2 141, .tmp 3] := by kernel_rfl
  have hl : (loadVar 141 ⟨p, 0, none⟩).run Try.prog W = .ok (.agg #[x, y, z, u]) W := by
    go_simp
  rw [Array.getD_eq_getD_getElem?] at ht hr3
  simp only [results, hr]
  simp [ht, asAddr, hl, hr3]
set_option maxRecDepth 100000 in
set_option maxHeartbeats 1000000 in
theorem get70 (cp b : Nat) (t x y z : Int) (w : World) (h : IsCell w cp b t x y z) : Calls Try.prog 70 #[.pointer (some ⟨cp, 0, none⟩)] w fun e w' => e = .returned (.agg #[.int .i64 x, .int .i64 y, .int .i64 z]) ∧ Fr (fun _ => False) w w' := by
  unfold IsCell at h
  have har : ∀ W : World, (Instr.arrayAt 113 (.slice (some ⟨cp, 3, none⟩) 3 3)).run Try.prog W = .ok (.pointer (some ⟨cp, 3, none⟩)) W := fun W => rfl
  go_enter Try.func70, Try.ntmps70
  go_wp2
  refine bodyPost_ret (res70 _ w.heap.size _ _ _ _ rfl (heap_alloc_at _ _)) rfl ?_
  exact ⟨rfl, (Fr.refl _ w).alloc _⟩

def in64 (x : Int) : Prop := -9223372036854775808 ≤ x ∧ x ≤ 9223372036854775807
theorem info2i : ∃ i, Try.prog.info? 2 = some i := by
  obtain ⟨i, h, _⟩ := info_parts info2; exact ⟨i, h⟩
set_option maxRecDepth 100000 in
theorem eq141 (a b c d : Int) (w : World) : (Op.equalIn 10000 141 (.agg #[.int .i64 a, .int .i64 b, .int .i64 c, .int .i64 d]) (.agg #[.int .i64 a, .int .i64 b, .int .i64 c, .int .i64 d])).run Try.prog w = .ok true w := by
  obtain ⟨i, hi⟩ := info2i
  have hc : Try.prog.cellsOf 2 = 1 := by kernel_rfl
  rw [show (10000 : Nat) = 9999 + 1 from rfl, run_equalIn_array w 9999 _ _ (by kernel_rfl : Try.prog.underlying 141 = some (.array 4 2)) hi, hc]
  have hq : ∀ x y : Int, ∀ W, (Op.equalIn 9999 2 (.int .i64 x) (.int .i64 y)).run Try.prog W = .ok (x == y) W := fun x y W => run_equalIn_int W 9998 2 .i64 .i64 x y (by kernel_rfl)
  have hk : Try.prog.plainKey 2 = true := by kernel_rfl
  have p0 : ∀ W, (part 2 #[.int .i64 a, .int .i64 b, .int .i64 c, .int .i64 d] 0).run Try.prog W = .ok (.int .i64 a) W := fun W => run_part_plain W hk rfl
  have p1 : ∀ W, (part 2 #[.int .i64 a, .int .i64 b, .int .i64 c, .int .i64 d] 1).run Try.prog W = .ok (.int .i64 b) W := fun W => run_part_plain W hk rfl
  have p2 : ∀ W, (part 2 #[.int .i64 a, .int .i64 b, .int .i64 c, .int .i64 d] 2).run Try.prog W = .ok (.int .i64 c) W := fun W => run_part_plain W hk rfl
  have p3 : ∀ W, (part 2 #[.int .i64 a, .int .i64 b, .int .i64 c, .int .i64 d] 3).run Try.prog W = .ok (.int .i64 d) W := fun W => run_part_plain W hk rfl
  simp [List.range, List.range.loop, Op.eqItems, hq, p0, p1, p2, p3]
/-- A half twice. -/
def dblB (h : List Int) : List UInt8 := halfB h ++ halfB h
theorem dblB_len (h : List Int) : (dblB h).length = 16 * h.length := by simp [dblB, halfB_len]; omega
theorem dblB_at (h : List Int) (j : Nat) (hj : j < (h ++ h).length) : ((dblB h).drop (8 * j)).take 8 = be8 (h ++ h)[j] := by
  have e : dblB h = (h ++ h).flatMap be8 := by simp [dblB, halfB]
  rw [e]
  exact piece_flatMap be8 8 (h ++ h) j (fun x _ => be8_length x) hj
def eightOf (h : List Int) (m : Nat) : Array Value := (((h ++ h).take m).map (Value.int .i64) ++ List.replicate (8 - m) (Value.int .i64 0)).toArray
theorem eightOf_size (h : List Int) (hh : h.length = 4) (m : Nat) (hm : m ≤ 8) : (eightOf h m).size = 8 := by
  simp [eightOf, hh]; omega
theorem eightOf_set (h : List Int) (hh : h.length = 4) (m : Nat) (hm : m < (h ++ h).length) : (eightOf h m).setIfInBounds m (.int .i64 (h ++ h)[m]) = eightOf h (m + 1) := by
  have hl : (h ++ h).length = 8 := by simp [hh]
  apply Array.toList_inj.1
  rw [Array.toList_setIfInBounds]
  simp only [eightOf]
  have h1 : (((h ++ h).take m).map (Value.int .i64)).length = m := by simp [hh]; omega
  rw [List.set_append_right _ _ (by rw [h1]; exact Nat.le_refl _), h1, Nat.sub_self, show 8 - m = (8 - (m + 1)) + 1 by omega, List.replicate_succ, List.set_cons_zero, List.take_succ_eq_append_getElem hm, List.map_append, List.append_assoc]
  rfl
structure CRdAt (w w1 : World) (rp : Nat) (v : Value) (h : List Int) (ab : Nat) (m : Nat) (wr : World) : Prop where
  rd : RdAt w w1 rp v (dblB h) (8 * m) false wr
  row : wr.heap[ab]? = some (.cells (eightOf h m) 159 (0, 0))
  new : w1.heap.size ≤ ab
theorem CRdAt.fr {w w1 wr w' : World} {rp : Nat} {v : Value} {h : List Int} {ab m : Nat} {F : Nat → Prop} (r : CRdAt w w1 rp v h ab m wr) (hf : Fr F wr w') (hF : ∀ j, ¬ F j) : CRdAt w w1 rp v h ab m w' :=
  ⟨r.rd.fr hf (fun j h => (hF j h).elim), hf.at r.row (hF _), r.new⟩
theorem CRdAt.int {w w1 wr : World} {rp : Nat} {v : Value} {h : List Int} {ab m : Nat} (r : CRdAt w w1 rp v h ab m wr) (hm : m < (h ++ h).length) (h64 : ∀ x ∈ h, in64 x) :
    Calls Try.prog 61 #[.pointer (some ⟨rp, 0, none⟩)] wr fun e w' => e = .returned (.int .i64 (h ++ h)[m]) ∧ RdAt w w1 rp v (dblB h) (8 * m + 8) false w' ∧ w'.heap[ab]? = some (.cells (eightOf h m) 159 (0, 0)) := by
  refine (r.rd.int (by rw [dblB_len]; rw [List.length_append] at hm; omega)).mono ?_
  rintro e w' ⟨rfl, r1, f1⟩
  refine ⟨?_, r1, f1.at r.row (fun e => by have := r.new; have := r.rd.lt; omega)⟩
  rw [dblB_at h m hm, rd8_be8]
  have := List.getElem_mem hm
  rw [List.mem_append] at this
  exact h64 _ (this.elim id id)
theorem CRdAt.put {w w1 wr : World} {rp : Nat} {v : Value} {h : List Int} {ab m : Nat} (hh : h.length = 4) (hm : m < (h ++ h).length) (r : RdAt w w1 rp v (dblB h) (8 * m + 8) false wr) (hr : wr.heap[ab]? = some (.cells (eightOf h m) 159 (0, 0))) (hn : w1.heap.size ≤ ab) :
    CRdAt w w1 rp v h ab (m + 1) (wr.setCell ⟨ab, m, none⟩ (.int .i64 (h ++ h)[m])) := by
  refine ⟨r.fr (F := fun j => j = ab) ((Fr.refl _ wr).setCell _ (.inl rfl)) (fun j hj => by omega), ?_, hn⟩
  rw [heap_setCell_self, hr, putIn_some, eightOf_set h hh m hm]

set_option maxRecDepth 100000 in
set_option maxHeartbeats 4000000 in
theorem read88 (a b c d : Int) (h64 : ∀ x ∈ [a, b, c, d], in64 x) (v : Value) (w : World) (hv : IsBytes w v (dblB [a, b, c, d])) : Calls Try.prog 88 #[v] w fun e w' => e = .returned (.tuple #[.agg #[.int .i64 a, .int .i64 b, .int .i64 c, .int .i64 d], .bool (decide (0 < a))]) ∧ Fr (fun _ => False) w w' := by
  have HV := Lib.hid hv; have H64 := Lib.hid h64
  clear hv h64
  go_enter Try.func88, Try.ntmps88
  go_wp2_with (go_at_call 60; refine (rd_new v (dblB [a, b, c, d]) (by simp [dblB_len]) _ (HV.out.fr (F := fun _ => False) ((Fr.refl _ _).alloc _) (fun _ _ h => h))).mono ?_; rintro e w1 ⟨rp, rv, rfl, r1, o1, _, f1⟩; have HT1 : Hid (RdAt (w.alloc (.cells #[.int .i64 0, .int .i64 0, .int .i64 0, .int .i64 0] 141 (0, 0))) w1 rp rv (dblB [a, b, c, d]) 0 false w1) := Lib.hid (RdAt.new r1 (by intro h; have := congrArg List.length h; rw [dblB_len] at this; simp at this) o1 f1); clear r1 o1 f1)
  obtain ⟨W0, hW0⟩ : ∃ W0, W0 = w.alloc (.cells #[.int .i64 0, .int .i64 0, .int .i64 0, .int .i64 0] 141 (0, 0)) := ⟨_, rfl⟩
  rw [← hW0] at HT1
  have hres : W0.heap[w.heap.size]? = some (.cells #[.int .i64 0, .int .i64 0, .int .i64 0, .int .i64 0] 141 (0, 0)) := by rw [hW0]; exact heap_alloc_at _ _
  have HF0 : Hid (Fr (fun _ => False) w W0) := Lib.hid (by rw [hW0]; exact (Fr.refl _ w).alloc _)
  have HRES := Lib.hid hres
  clear hres hW0
  obtain ⟨ab, hab⟩ : ∃ ab, ab = w1.heap.size := ⟨_, rfl⟩
  have HC0 : Hid (CRdAt W0 w1 rp rv [a, b, c, d] ab 0 (w1.alloc (.cells (eightOf [a, b, c, d] 0) 159 (0, 0)))) := Lib.hid ⟨HT1.out.fr (F := fun _ => False) ((Fr.refl _ _).alloc _) (fun _ h => h.elim), by rw [hab]; exact heap_alloc_at _ _, by omega⟩
  rw [← hab]
  have HAB := Lib.hid hab
  clear hab HT1
  go_loopw [10] (fun i wr => ∃ k : Nat, k ≤ 2 ∧ i = .int .i64 k ∧ CRdAt W0 w1 rp rv [a, b, c, d] ab (4 * k) wr) (fun i _ => 2 - (intOf i).toNat)
  case atStart => exact ⟨0, by omega, rfl, HC0.out⟩
  case round =>
    obtain ⟨k, hk, rfl, hr⟩ := hrel
    have HR := Lib.hid hr; clear hr
    by_cases hlt : k < 2
    · have hw1 : IntKind.i64.wrap ((k : Int) + 1) = (k : Int) + 1 := IntWalk.i64_in _ (by omega)
      have t1 : decide ((k : Int) < 2) = true := by simp; omega
      go_wp2
      go_loopw [13] (fun i wq => ∃ j : Nat, j ≤ 4 ∧ i = .int .i64 j ∧ CRdAt W0 w1 rp rv [a, b, c, d] ab (4 * k + j) wq) (fun i _ => 4 - (intOf i).toNat)
      case atStart => exact ⟨0, by omega, rfl, HR.out⟩
      case round =>
        obtain ⟨j, hj, rfl, hr⟩ := hrel
        have HR := Lib.hid hr; clear hr
        by_cases hlt4 : j < 4
        · have hw4 : IntKind.i64.wrap ((j : Int) + 1) = (j : Int) + 1 := IntWalk.i64_in _ (by omega)
          have t4 : decide ((j : Int) < 4) = true := by simp; omega
          have hI1 : (k : Int) < 2 := by omega
          have hI2 : (j : Int) < 4 := by omega
          have hI3 : k * 4 + j < 8 := by omega
          have HRD : Hid (CRdAt W0 w1 rp rv [a, b, c, d] ab (4 * k + j) wr.drew) := Lib.hid (HR.out.fr (F := fun _ => False) (Fr.refl _ wr).drew (fun _ h => h.elim))
          have rowd := HRD.out.row
          have hmj : 4 * k + j < ([a, b, c, d] ++ [a, b, c, d]).length := by simp; omega
          have HINT := Lib.hid (HRD.out.int hmj H64.out)
          have HPUT : Hid (∀ W, RdAt W0 w1 rp rv (dblB [a, b, c, d]) (8 * (4 * k + j) + 8) false W → W.heap[ab]? = some (.cells (eightOf [a, b, c, d] (4 * k + j)) 159 (0, 0)) → CRdAt W0 w1 rp rv [a, b, c, d] ab (4 * k + j + 1) (W.setCell ⟨ab, 4 * k + j, none⟩ (.int .i64 (([a, b, c, d] ++ [a, b, c, d])[4 * k + j]'hmj)))) := Lib.hid (fun W h1 h2 => CRdAt.put rfl hmj h1 h2 (by rw [HAB.out]; exact Nat.le_refl _))
          have hs := eightOf_size [a, b, c, d] rfl (4 * k + j) (by omega)
          generalize ([a, b, c, d] ++ [a, b, c, d])[4 * k + j]'hmj = x at HINT HPUT
          go_wp2
          refine start_ (n := 7) (S := fun w' => w'.heap[ab]? = some (.cells (eightOf [a, b, c, d] (4 * k + j)) 159 (0, 0))) (ds := [6]) #[false, false, false, false, false, false, false] (by kernel_rfl) rfl rfl (rowd) (fun hHeld => ?_)
          refine pure_ (i := 0) (N := some 16) (v := ?_) (a' := ?_) #[true, false, false, false, false, false, false] rfl rfl (by kernel_rfl) (fun _ _ _ h => h) (Or.inl ⟨by rfl, ?_⟩) ?_ ?_
          rotate_left
          · intro w'
            try simp only [List.getElem_toArray, List.getElem_cons_succ, List.getElem_cons_zero]
            go_simp
            with_reducible rfl
          rotate_left
          · simp only [Act.put, List.setIfInBounds_toArray, List.set_cons_zero, List.set_cons_succ, i64_w, i32_w]
            rfl
          refine pure_ (i := 1) (N := some 17) (v := ?_) (a' := ?_) #[true, true, false, false, false, false, false] rfl rfl (by kernel_rfl) (fun _ _ _ h => h) (Or.inl ⟨by rfl, ?_⟩) ?_ ?_
          rotate_left
          · intro w'
            try simp only [List.getElem_toArray, List.getElem_cons_succ, List.getElem_cons_zero]
            go_simp
            with_reducible rfl
          rotate_left
          · simp only [Act.put, List.setIfInBounds_toArray, List.set_cons_zero, List.set_cons_succ, i64_w, i32_w]
            rfl
          refine pure_ (i := 2) (N := some 18) (v := ?_) (a' := ?_) #[true, true, true, false, false, false, false] rfl rfl (by kernel_rfl) (fun _ _ _ h => h) (Or.inl ⟨by rfl, ?_⟩) ?_ ?_
          rotate_left
          · intro w'
            try simp only [List.getElem_toArray, List.getElem_cons_succ, List.getElem_cons_zero]
            go_simp
            with_reducible rfl
          rotate_left
          · simp only [Act.put, List.setIfInBounds_toArray, List.set_cons_zero, List.set_cons_succ, i64_w, i32_w]
            rfl
          refine pure_ (i := 4) (N := some 20) (v := ?_) (a' := ?_) #[true, true, true, false, true, false, false] rfl rfl (by kernel_rfl) (fun _ _ _ h => h) (Or.inl ⟨by rfl, ?_⟩) ?_ ?_
          rotate_left
          · intro w'
            try simp only [List.getElem_toArray, List.getElem_cons_succ, List.getElem_cons_zero]
            go_simp
            with_reducible rfl
          rotate_left
          · simp only [Act.put, List.setIfInBounds_toArray, List.set_cons_zero, List.set_cons_succ, i64_w, i32_w]
            rfl
          refine one_ (i := 3) (N := some 19) #[true, true, true, true, true, false, false] rfl rfl (by kernel_rfl) (by decide) (fun K hK => ?_)
          refine goes_ Try.func61 (by kernel_rfl) rfl #[.pointer (some ⟨rp, 0, none⟩)] (by rfl) rfl rfl (by simp only [List.map_toArray, List.map_cons, List.map_nil]; rfl) ?_
          with_reducible refine (HINT.out).mono ?_
          rintro e w2 ⟨rfl, r2, row2⟩
          refine ⟨_, rfl, ?_⟩
          have HR2 := Lib.hid r2
          clear r2
          refine hK.out _ _ (row2) (fun hHeld => ?_)
          clear hK K
          refine norm_ (a' := ?_) ?_ ?_
          rotate_left
          · show Act.put _ (some 19) _ = _
            simp only [Act.put, List.setIfInBounds_toArray, List.set_cons_zero, List.set_cons_succ, i64_w, i32_w]
            rfl
          refine pure_ (i := 5) (N := some 21) (v := ?_) (a' := ?_) #[true, true, true, true, true, true, false] rfl rfl (by kernel_rfl) (fun _ _ _ h => h) (Or.inl ⟨by rfl, ?_⟩) ?_ ?_
          rotate_left
          · intro w'
            try simp only [List.getElem_toArray, List.getElem_cons_succ, List.getElem_cons_zero]
            go_simp
            with_reducible rfl
          rotate_left
          · simp only [Act.put, List.setIfInBounds_toArray, List.set_cons_zero, List.set_cons_succ, i64_w, i32_w]
            rfl
          refine last_ (i := 6) (N := none) #[true, true, true, true, true, true, true] rfl rfl (by kernel_rfl) (by decide) (fun K hK => ?_)
          refine skip_ (w1 := ?_) (by rfl) rfl ?_ ?_
          rotate_left
          · try simp only [List.getElem_toArray, List.getElem_cons_succ, List.getElem_cons_zero]
            go_simp
            rfl
          refine hK.out _ _ ?_
          clear hK K
          refine done_ (by kernel_rfl) ?_

          rw [Nat.mul_comm k 4]
          have HNEW := Lib.hid (HPUT.out _ HR2.out row2)
          go_wp2
          exact ⟨⟨j + 1, by omega, by go_num, HNEW.out⟩, by simp [intOf]; omega⟩
        · obtain rfl : j = 4 := by omega
          go_wp2
          exact ⟨⟨k + 1, by omega, by go_num, HR.out⟩, by simp [intOf]; omega⟩
    · obtain rfl : k = 2 := by omega
      have HRD : Hid (CRdAt W0 w1 rp rv [a, b, c, d] ab 8 wr.drew) := Lib.hid (HR.out.fr (F := fun _ => False) (Fr.refl _ wr).drew (fun _ h => h.elim))
      have hrow : wr.drew.heap[ab]? = some (.cells #[.int .i64 a, .int .i64 b, .int .i64 c, .int .i64 d, .int .i64 a, .int .i64 b, .int .i64 c, .int .i64 d] 159 (0, 0)) := HRD.out.row
      have hres : wr.heap[w.heap.size]? = some (.cells #[.int .i64 0, .int .i64 0, .int .i64 0, .int .i64 0] 141 (0, 0)) := HR.out.rd.own.at HRES.out (fun h => h)
      have HFW : Hid (Fr (fun _ => False) w wr) := Lib.hid (HF0.out.trans HR.out.rd.own (fun _ h => h.elim))
      have heq := fun W => eq141 a b c d W
      have hne : ab ≠ w.heap.size := by have h1 := HR.out.rd.old; have h2 := HR.out.rd.lt; have h3 := HF0.out.size; have h4 := HAB.out; have h5 := lt_of_block HRES.out; omega
      have hff : Fr (fun k => k = w.heap.size) wr ((((wr.setCell ⟨w.heap.size, 0, none⟩ (.int .i64 a)).setCell ⟨w.heap.size, 1, none⟩ (.int .i64 b)).setCell ⟨w.heap.size, 2, none⟩ (.int .i64 c)).setCell ⟨w.heap.size, 3, none⟩ (.int .i64 d)).drew := (((((Fr.refl (fun k => k = w.heap.size) wr).setCell _ (.inl rfl)).setCell _ (.inl rfl)).setCell _ (.inl rfl)).setCell _ (.inl rfl)).drew
      have HKEEP := Lib.hid (hff.at hrow hne)
      have HFIN : Hid (((((wr.setCell ⟨w.heap.size, 0, none⟩ (.int .i64 a)).setCell ⟨w.heap.size, 1, none⟩ (.int .i64 b)).setCell ⟨w.heap.size, 2, none⟩ (.int .i64 c)).setCell ⟨w.heap.size, 3, none⟩ (.int .i64 d)).drew.heap[w.heap.size]? = some (.cells #[.int .i64 a, .int .i64 b, .int .i64 c, .int .i64 d] 141 (0, 0))) := Lib.hid (by
        show (((((wr.setCell ⟨w.heap.size, 0, none⟩ (.int .i64 a)).setCell ⟨w.heap.size, 1, none⟩ (.int .i64 b)).setCell ⟨w.heap.size, 2, none⟩ (.int .i64 c)).setCell ⟨w.heap.size, 3, none⟩ (.int .i64 d))).heap[w.heap.size]? = _
        rw [heap_setCell_self, heap_setCell_self, heap_setCell_self, heap_setCell_self, hres]; rfl)
      have HFF := Lib.hid (HFW.out.trans hff (fun j hj => .inr (by rw [hj]; exact Nat.le_refl _)))
      clear hne hff
      go_wp2
      refine start_ (n := 15) (S := fun w' => w'.heap[ab]? = some (.cells #[.int .i64 a, .int .i64 b, .int .i64 c, .int .i64 d, .int .i64 a, .int .i64 b, .int .i64 c, .int .i64 d] 159 (0, 0))) (ds := []) #[false, false, false, false, false, false, false, false, false, false, false, false, false, false, false] (by kernel_rfl) rfl rfl (hrow) (fun hHeld => ?_)
      refine pure_ (i := 0) (N := some 24) (v := ?_) (a' := ?_) #[true, false, false, false, false, false, false, false, false, false, false, false, false, false, false] rfl rfl (by kernel_rfl) (fun _ _ _ h => h) (Or.inl ⟨by rfl, ?_⟩) ?_ ?_
      rotate_left
      · intro w'
        try simp only [List.getElem_toArray, List.getElem_cons_succ, List.getElem_cons_zero]
        go_simp
        with_reducible rfl
      rotate_left
      · simp only [Act.put, List.setIfInBounds_toArray, List.set_cons_zero, List.set_cons_succ, i64_w, i32_w]
        rfl
      refine pure_ (i := 2) (N := some 26) (v := ?_) (a' := ?_) #[true, false, true, false, false, false, false, false, false, false, false, false, false, false, false] rfl rfl (by kernel_rfl) (fun _ _ _ h => h) (Or.inl ⟨by rfl, ?_⟩) ?_ ?_
      rotate_left
      · intro w'
        try simp only [List.getElem_toArray, List.getElem_cons_succ, List.getElem_cons_zero]
        go_simp
        with_reducible rfl
      rotate_left
      · simp only [Act.put, List.setIfInBounds_toArray, List.set_cons_zero, List.set_cons_succ, i64_w, i32_w]
        rfl
      refine pure_ (i := 4) (N := some 28) (v := ?_) (a' := ?_) #[true, false, true, false, true, false, false, false, false, false, false, false, false, false, false] rfl rfl (by kernel_rfl) (fun _ _ _ h => h) (Or.inl ⟨by rfl, ?_⟩) ?_ ?_
      rotate_left
      · intro w'
        try simp only [List.getElem_toArray, List.getElem_cons_succ, List.getElem_cons_zero]
        go_simp
        with_reducible rfl
      rotate_left
      · simp only [Act.put, List.setIfInBounds_toArray, List.set_cons_zero, List.set_cons_succ, i64_w, i32_w]
        rfl
      refine take_ (i := 1) (N := some 25) (v := ?_) (a' := ?_) #[true, true, true, false, true, false, false, false, false, false, false, false, false, false, false] rfl rfl (by kernel_rfl) (fun _ _ _ h => h) (Or.inl ⟨by rfl, ?_⟩) hHeld ?_ ?_
      rotate_left
      · intro w' s0
        try simp only [List.getElem_toArray, List.getElem_cons_succ, List.getElem_cons_zero]
        go_simp
        with_reducible rfl
      rotate_left
      · simp only [Act.put, List.setIfInBounds_toArray, List.set_cons_zero, List.set_cons_succ, i64_w, i32_w]
        rfl
      refine take_ (i := 3) (N := some 27) (v := ?_) (a' := ?_) #[true, true, true, true, true, false, false, false, false, false, false, false, false, false, false] rfl rfl (by kernel_rfl) (fun _ _ _ h => h) (Or.inl ⟨by rfl, ?_⟩) hHeld ?_ ?_
      rotate_left
      · intro w' s0
        try simp only [List.getElem_toArray, List.getElem_cons_succ, List.getElem_cons_zero]
        go_simp
        with_reducible rfl
      rotate_left
      · simp only [Act.put, List.setIfInBounds_toArray, List.set_cons_zero, List.set_cons_succ, i64_w, i32_w]
        rfl
      refine take_ (i := 5) (N := some 29) (v := ?_) (a' := ?_) #[true, true, true, true, true, true, false, false, false, false, false, false, false, false, false] rfl rfl (by kernel_rfl) (fun _ _ _ h => h) (Or.inl ⟨by rfl, ?_⟩) hHeld ?_ ?_
      rotate_left
      · intro w' s0
        try simp only [List.getElem_toArray, List.getElem_cons_succ, List.getElem_cons_zero]
        go_simp
        with_reducible rfl
      rotate_left
      · simp only [Act.put, List.setIfInBounds_toArray, List.set_cons_zero, List.set_cons_succ, i64_w, i32_w]
        rfl
      refine pure_ (i := 6) (N := some 30) (v := ?_) (a' := ?_) #[true, true, true, true, true, true, true, false, false, false, false, false, false, false, false] rfl rfl (by kernel_rfl) (fun _ _ _ h => h) (Or.inl ⟨by rfl, ?_⟩) ?_ ?_
      rotate_left
      · intro w'
        try simp only [List.getElem_toArray, List.getElem_cons_succ, List.getElem_cons_zero]
        go_simp
        with_reducible rfl
      rotate_left
      · simp only [Act.put, List.setIfInBounds_toArray, List.set_cons_zero, List.set_cons_succ, i64_w, i32_w]
        rfl
      refine pure_ (i := 7) (N := some 31) (v := ?_) (a' := ?_) #[true, true, true, true, true, true, true, true, false, false, false, false, false, false, false] rfl rfl (by kernel_rfl) (fun _ _ _ h => h) (Or.inl ⟨by rfl, ?_⟩) ?_ ?_
      rotate_left
      · intro w'
        try simp only [List.getElem_toArray, List.getElem_cons_succ, List.getElem_cons_zero]
        go_simp
        with_reducible rfl
      rotate_left
      · simp only [Act.put, List.setIfInBounds_toArray, List.set_cons_zero, List.set_cons_succ, i64_w, i32_w]
        rfl
      refine pure_ (i := 8) (N := some 32) (v := ?_) (a' := ?_) #[true, true, true, true, true, true, true, true, true, false, false, false, false, false, false] rfl rfl (by kernel_rfl) (fun _ _ _ h => h) (Or.inl ⟨by rfl, ?_⟩) ?_ ?_
      rotate_left
      · intro w'
        try simp only [List.getElem_toArray, List.getElem_cons_succ, List.getElem_cons_zero]
        go_simp
        with_reducible rfl
      rotate_left
      · simp only [Act.put, List.setIfInBounds_toArray, List.set_cons_zero, List.set_cons_succ, i64_w, i32_w]
        rfl
      refine pure_ (i := 9) (N := some 33) (v := ?_) (a' := ?_) #[true, true, true, true, true, true, true, true, true, true, false, false, false, false, false] rfl rfl (by kernel_rfl) (fun _ _ _ h => h) (Or.inl ⟨by rfl, ?_⟩) ?_ ?_
      rotate_left
      · intro w'
        try simp only [List.getElem_toArray, List.getElem_cons_succ, List.getElem_cons_zero]
        go_simp
        with_reducible rfl
      rotate_left
      · simp only [Act.put, List.setIfInBounds_toArray, List.set_cons_zero, List.set_cons_succ, i64_w, i32_w]
        rfl
      refine take_ (i := 10) (N := some 34) (v := ?_) (a' := ?_) #[true, true, true, true, true, true, true, true, true, true, true, false, false, false, false] rfl rfl (by kernel_rfl) (fun _ _ _ h => h) (Or.inl ⟨by rfl, ?_⟩) hHeld ?_ ?_
      rotate_left
      · intro w' s0
        try simp only [List.getElem_toArray, List.getElem_cons_succ, List.getElem_cons_zero]
        go_simp
        with_reducible rfl
      rotate_left
      · simp only [Act.put, List.setIfInBounds_toArray, List.set_cons_zero, List.set_cons_succ, i64_w, i32_w]
        rfl
      refine pure_ (i := 11) (N := some 35) (v := ?_) (a' := ?_) #[true, true, true, true, true, true, true, true, true, true, true, true, false, false, false] rfl rfl (by kernel_rfl) (fun _ _ _ h => h) (Or.inl ⟨by rfl, ?_⟩) ?_ ?_
      rotate_left
      · intro w'
        try simp only [List.getElem_toArray, List.getElem_cons_succ, List.getElem_cons_zero]
        go_simp
        with_reducible rfl
      rotate_left
      · simp only [Act.put, List.setIfInBounds_toArray, List.set_cons_zero, List.set_cons_succ, i64_w, i32_w]
        rfl
      refine pure_ (i := 12) (N := some 36) (v := ?_) (a' := ?_) #[true, true, true, true, true, true, true, true, true, true, true, true, true, false, false] rfl rfl (by kernel_rfl) (fun _ _ _ h => h) (Or.inl ⟨by rfl, ?_⟩) ?_ ?_
      rotate_left
      · intro w'
        try simp only [List.getElem_toArray, List.getElem_cons_succ, List.getElem_cons_zero]
        go_simp
        with_reducible rfl
      rotate_left
      · simp only [Act.put, List.setIfInBounds_toArray, List.set_cons_zero, List.set_cons_succ, i64_w, i32_w]
        rfl
      refine one_ (i := 13) (N := none) #[true, true, true, true, true, true, true, true, true, true, true, true, true, true, false] rfl rfl (by kernel_rfl) (by decide) (fun K hK => ?_)
      refine skip_ (w1 := ?_) (by rfl) rfl ?_ ?_
      rotate_left
      · try simp only [List.getElem_toArray, List.getElem_cons_succ, List.getElem_cons_zero]
        go_simp
        rfl
      refine hK.out _ _ (HKEEP.out) (fun hHeld => ?_)
      clear hK K
      refine pure_ (i := 14) (N := some 3) (v := ?_) (a' := ?_) #[true, true, true, true, true, true, true, true, true, true, true, true, true, true, true] rfl rfl (by kernel_rfl) (fun _ _ _ h => h) (Or.inl ⟨by rfl, ?_⟩) ?_ ?_
      rotate_left
      · intro w'
        try simp only [List.getElem_toArray, List.getElem_cons_succ, List.getElem_cons_zero]
        go_simp
        with_reducible rfl
      rotate_left
      · simp only [Act.put, List.setIfInBounds_toArray, List.set_cons_zero, List.set_cons_succ, i64_w, i32_w]
        rfl
      refine done_ (by kernel_rfl) ?_

      go_wp2
      refine bodyPost_ret (res88 _ w.heap.size _ _ _ _ _ _ rfl rfl HFIN.out) rfl ?_
      exact ⟨rfl, HFF.out⟩
end Go.Proofs.Ytnpeeephkkmomaa
namespace Go.Proofs.Ytnpeeephkkmomaa
open Go.RowKit Go.Proofs.YtnpeeephkkmomaaW.PrintLast
set_option linter.unusedVariables false
set_option linter.unusedSimpArgs false

/-- What a cell comes to behind k sectors. -/
def pk (H : Nat → Int × Int × Int × Int) : Nat → Int × Int × Int × Int
  | 0 => (0, 0, 0, 0)
  | k + 1 => if 0 < (H k).1 ∧ (pk H k).1 < (H k).1 then H k else pk H k
def q4 (h : Int × Int × Int × Int) : List Int := [h.1, h.2.1, h.2.2.1, h.2.2.2]
def CellPost (w : World) (b : Nat) (h : Int × Int × Int × Int) (e : Ending) (w' : World) : Prop :=
  ∃ cp, e = .returned (.tuple #[.pointer (some ⟨cp, 0, none⟩), .int .i64 0]) ∧ IsCell w' cp b h.1 h.2.1 h.2.2.1 h.2.2.2 ∧ w.heap.size ≤ cp ∧ Fr (fun _ => False) w w'
set_option maxRecDepth 100000 in
set_option maxHeartbeats 4000000 in
theorem open69 (b lb cl : Nat) (sp : Array Value) (wv : Value) (D : Dk) (w : World) (hd : IsDk w b lb cl sp wv D) (hup : D.down = false) (hn : 2 ≤ D.secs.length) (H : Nat → Int × Int × Int × Int)
    (hH : ∀ k, k < 2 → D.told k = dblB (q4 (H k)) ∧ ∀ x ∈ q4 (H k), in64 x) :
    Calls Try.prog 69 #[.pointer (some ⟨b, 0, none⟩), .int .i64 0] w (CellPost w b (pk H 2)) := by
  have HD := Lib.hid hd; have HUP := Lib.hid hup; have HN := Lib.hid hn; have HH := Lib.hid hH
  clear hd hup hn hH
  go_enter Try.func69, Try.ntmps69
  go_wp2
  go_loopw [16] (fun i wr => ∃ k : Nat, k ≤ 2 ∧ i = .int .i64 k ∧ IsCell wr w.heap.size b (pk H k).1 (pk H k).2.1 (pk H k).2.2.1 (pk H k).2.2.2 ∧ Fr (fun _ => False) w wr) (fun i _ => 2 - (intOf i).toNat)
  case atStart => exact ⟨0, by omega, rfl, heap_alloc_at _ _, (Fr.refl _ w).alloc _⟩
  case round =>
    obtain ⟨k, hk, rfl, hc, hf⟩ := hrel
    have HF := Lib.hid hf
    clear hf
    by_cases hlt : k < 2
    · have hw1 : IntKind.i64.wrap ((k : Int) + 1) = (k : Int) + 1 := IntWalk.i64_in _ (by omega)
      have A1 : Value.int .i64 (wrap64 (k : Int)) = Value.int .i64 (k : Int) := by rw [w64 _ (by omega)]
      have t1 : decide ((k : Int) < 2) = true := by simp; omega
      obtain ⟨e1, e2⟩ := HH.out k hlt
      have HST : Hid (pk H (k + 1) = if 0 < (H k).1 ∧ (pk H k).1 < (H k).1 then H k else pk H k) := Lib.hid rfl
      generalize pk H k = P at *
      obtain ⟨t, x, y, z⟩ := P
      generalize H k = Q at *
      obtain ⟨a, b', c, d⟩ := Q
      simp only [q4] at e1 e2 hc HST
      have HE1 := Lib.hid e1; have HE2 := Lib.hid e2; have HC := Lib.hid hc
      clear e1 e2
      unfold IsCell at hc
      cases hfl : decide (0 < a) with
      | true =>
        have HFL := Lib.hid hfl
        clear hfl
        go_wp2_with (first
          | (go_at_call 19; refine (read_ok b lb cl sp wv D wr k (HD.out.fr HF.out (fun _ _ h => h)) HUP.out (by have := HN.out; omega)).mono ?_; rintro e w2 ⟨sb, rfl, hsb, row2, f2⟩; rw [HE1.out] at row2; have HB2 : Hid (IsBytes w2 (.slice (some ⟨sb, 0, none⟩) 64 64) (dblB [a, b', c, d])) := Lib.hid (IsBytes.of_cells row2 (by simp [dblB_len])); have hc2 := f2.at hc (fun h => h); have HF2 := Lib.hid (HF.out.trans f2 (fun _ h => h.elim)); clear row2 f2 hsb)
          | (go_at_call 88; refine (read88 a b' c d HE2.out _ _ HB2.out).mono ?_; rw [HFL.out]; rintro e w3 ⟨rfl, f3⟩; have hc3 := f3.at hc2 (fun h => h); have HF3 := Lib.hid (HF2.out.trans f3 (fun _ h => h.elim)); clear f3))
        have ha3 := heap_alloc_at w3 (.cells #[.int .i64 a, .int .i64 b', .int .i64 c, .int .i64 d] 141 (0, 0))
        have hd3 := (heap_alloc w3 (.cells #[.int .i64 a, .int .i64 b', .int .i64 c, .int .i64 d] 141 (0, 0)) _ (lt_of_block hc3)).trans hc3
        refine start_ (n := 11) (S := fun w' => w'.heap[w3.heap.size]? = some (.cells #[.int .i64 a, .int .i64 b', .int .i64 c, .int .i64 d] 141 (0, 0)) ∧ w'.heap[w.heap.size]? = some (.cells #[.pointer (some ⟨b, 0, none⟩), .int .i64 0, .int .i64 t, .int .i64 x, .int .i64 y, .int .i64 z] 143 (0, 0))) (ds := []) #[false, false, false, false, false, false, false, false, false, false, false] (by kernel_rfl) rfl rfl ⟨ha3, hd3⟩ (fun hHeld => ?_)
        refine pure_ (i := 0) (N := some 35) (v := ?_) (a' := ?_) #[true, false, false, false, false, false, false, false, false, false, false] rfl rfl (by kernel_rfl) (fun _ _ _ h => h) (Or.inl ⟨by rfl, ?_⟩) ?_ ?_
        rotate_left
        · intro w'
          try simp only [List.getElem_toArray, List.getElem_cons_succ, List.getElem_cons_zero]
          go_simp
          with_reducible rfl
        rotate_left
        · simp only [Act.put, List.setIfInBounds_toArray, List.set_cons_zero, List.set_cons_succ, i64_w, i32_w]
          rfl
        refine pure_ (i := 1) (N := some 36) (v := ?_) (a' := ?_) #[true, true, false, false, false, false, false, false, false, false, false] rfl rfl (by kernel_rfl) (fun _ _ _ h => h) (Or.inl ⟨by rfl, ?_⟩) ?_ ?_
        rotate_left
        · intro w'
          try simp only [List.getElem_toArray, List.getElem_cons_succ, List.getElem_cons_zero]
          go_simp
          with_reducible rfl
        rotate_left
        · simp only [Act.put, List.setIfInBounds_toArray, List.set_cons_zero, List.set_cons_succ, i64_w, i32_w]
          rfl
        refine pure_ (i := 2) (N := some 37) (v := ?_) (a' := ?_) #[true, true, true, false, false, false, false, false, false, false, false] rfl rfl (by kernel_rfl) (fun _ _ _ h => h) (Or.inl ⟨by rfl, ?_⟩) ?_ ?_
        rotate_left
        · intro w'
          try simp only [List.getElem_toArray, List.getElem_cons_succ, List.getElem_cons_zero]
          go_simp
          with_reducible rfl
        rotate_left
        · simp only [Act.put, List.setIfInBounds_toArray, List.set_cons_zero, List.set_cons_succ, i64_w, i32_w]
          rfl
        refine pure_ (i := 4) (N := some 39) (v := ?_) (a' := ?_) #[true, true, true, false, true, false, false, false, false, false, false] rfl rfl (by kernel_rfl) (fun _ _ _ h => h) (Or.inl ⟨by rfl, ?_⟩) ?_ ?_
        rotate_left
        · intro w'
          try simp only [List.getElem_toArray, List.getElem_cons_succ, List.getElem_cons_zero]
          go_simp
          with_reducible rfl
        rotate_left
        · simp only [Act.put, List.setIfInBounds_toArray, List.set_cons_zero, List.set_cons_succ, i64_w, i32_w]
          rfl
        refine pure_ (i := 5) (N := some 40) (v := ?_) (a' := ?_) #[true, true, true, false, true, true, false, false, false, false, false] rfl rfl (by kernel_rfl) (fun _ _ _ h => h) (Or.inl ⟨by rfl, ?_⟩) ?_ ?_
        rotate_left
        · intro w'
          try simp only [List.getElem_toArray, List.getElem_cons_succ, List.getElem_cons_zero]
          go_simp
          with_reducible rfl
        rotate_left
        · simp only [Act.put, List.setIfInBounds_toArray, List.set_cons_zero, List.set_cons_succ, i64_w, i32_w]
          rfl
        refine pure_ (i := 6) (N := some 41) (v := ?_) (a' := ?_) #[true, true, true, false, true, true, true, false, false, false, false] rfl rfl (by kernel_rfl) (fun _ _ _ h => h) (Or.inl ⟨by rfl, ?_⟩) ?_ ?_
        rotate_left
        · intro w'
          try simp only [List.getElem_toArray, List.getElem_cons_succ, List.getElem_cons_zero]
          go_simp
          with_reducible rfl
        rotate_left
        · simp only [Act.put, List.setIfInBounds_toArray, List.set_cons_zero, List.set_cons_succ, i64_w, i32_w]
          rfl
        refine pure_ (i := 7) (N := some 42) (v := ?_) (a' := ?_) #[true, true, true, false, true, true, true, true, false, false, false] rfl rfl (by kernel_rfl) (fun _ _ _ h => h) (Or.inl ⟨by rfl, ?_⟩) ?_ ?_
        rotate_left
        · intro w'
          try simp only [List.getElem_toArray, List.getElem_cons_succ, List.getElem_cons_zero]
          go_simp
          with_reducible rfl
        rotate_left
        · simp only [Act.put, List.setIfInBounds_toArray, List.set_cons_zero, List.set_cons_succ, i64_w, i32_w]
          rfl
        refine take_ (i := 3) (N := some 38) (v := ?_) (a' := ?_) #[true, true, true, true, true, true, true, true, false, false, false] rfl rfl (by kernel_rfl) (fun _ _ _ h => h) (Or.inl ⟨by rfl, ?_⟩) hHeld ?_ ?_
        rotate_left
        · rintro w' ⟨s0, s1⟩
          try simp only [List.getElem_toArray, List.getElem_cons_succ, List.getElem_cons_zero]
          go_simp
          with_reducible rfl
        rotate_left
        · simp only [Act.put, List.setIfInBounds_toArray, List.set_cons_zero, List.set_cons_succ, i64_w, i32_w]
          rfl
        refine take_ (i := 8) (N := some 43) (v := ?_) (a' := ?_) #[true, true, true, true, true, true, true, true, true, false, false] rfl rfl (by kernel_rfl) (fun _ _ _ h => h) (Or.inl ⟨by rfl, ?_⟩) hHeld ?_ ?_
        rotate_left
        · rintro w' ⟨s0, s1⟩
          try simp only [List.getElem_toArray, List.getElem_cons_succ, List.getElem_cons_zero]
          go_simp
          with_reducible rfl
        rotate_left
        · simp only [Act.put, List.setIfInBounds_toArray, List.set_cons_zero, List.set_cons_succ, i64_w, i32_w]
          rfl
        refine pure_ (i := 9) (N := some 44) (v := ?_) (a' := ?_) #[true, true, true, true, true, true, true, true, true, true, false] rfl rfl (by kernel_rfl) (fun _ _ _ h => h) (Or.inl ⟨by rfl, ?_⟩) ?_ ?_
        rotate_left
        · intro w'
          try simp only [List.getElem_toArray, List.getElem_cons_succ, List.getElem_cons_zero]
          go_simp
          with_reducible rfl
        rotate_left
        · simp only [Act.put, List.setIfInBounds_toArray, List.set_cons_zero, List.set_cons_succ, i64_w, i32_w]
          rfl
        refine pure_ (i := 10) (N := some 45) (v := ?_) (a' := ?_) #[true, true, true, true, true, true, true, true, true, true, true] rfl rfl (by kernel_rfl) (fun _ _ _ h => h) (Or.inl ⟨by rfl, ?_⟩) ?_ ?_
        rotate_left
        · intro w'
          try simp only [List.getElem_toArray, List.getElem_cons_succ, List.getElem_cons_zero]
          go_simp
          with_reducible rfl
        rotate_left
        · simp only [Act.put, List.setIfInBounds_toArray, List.set_cons_zero, List.set_cons_succ, i64_w, i32_w]
          rfl
        refine done_ (by kernel_rfl) ?_

        obtain ⟨W4, hW4⟩ : ∃ W4, W4 = (w3.alloc (.cells #[.int .i64 a, .int .i64 b', .int .i64 c, .int .i64 d] 141 (0, 0))).drew := ⟨_, rfl⟩
        have ha4 : W4.heap[w3.heap.size]? = some (.cells #[.int .i64 a, .int .i64 b', .int .i64 c, .int .i64 d] 141 (0, 0)) := by rw [hW4]; exact ha3
        have hd4 : W4.heap[w.heap.size]? = some (.cells #[.pointer (some ⟨b, 0, none⟩), .int .i64 0, .int .i64 t, .int .i64 x, .int .i64 y, .int .i64 z] 143 (0, 0)) := by rw [hW4]; exact hd3
        have HF4 : Hid (Fr (fun _ => False) w W4) := Lib.hid (by rw [hW4]; exact (HF3.out.alloc _).drew)
        rw [← hW4]
        clear hW4 ha3 hd3 hc2 hc3
        generalize w3.heap.size = hb at *
        go_wp2
        · have hgt : t < a := by assumption
          have hst := HST.out
          rw [if_pos ⟨by simpa using HFL.out, hgt⟩] at hst
          refine ⟨⟨k + 1, by omega, by go_num, ?_, ((((HF4.out.setCell _ (.inr (Nat.le_refl _))).setCell _ (.inr (Nat.le_refl _))).setCell _ (.inr (Nat.le_refl _))).setCell _ (.inr (Nat.le_refl _)))⟩, by simp [intOf]; omega⟩
          rw [hst]
          unfold IsCell
          rw [heap_setCell_self, heap_setCell_self, heap_setCell_self, heap_setCell_self, hd4]; rfl
        · have hgt : ¬ t < a := by omega
          have hst := HST.out
          rw [if_neg (fun h => hgt h.2)] at hst
          exact ⟨⟨k + 1, by omega, by go_num, by rw [hst]; exact hd4, HF4.out⟩, by simp [intOf]; omega⟩
      | false =>
        have HFL := Lib.hid hfl
        clear hfl
        go_wp2_with (first
          | (go_at_call 19; refine (read_ok b lb cl sp wv D wr k (HD.out.fr HF.out (fun _ _ h => h)) HUP.out (by have := HN.out; omega)).mono ?_; rintro e w2 ⟨sb, rfl, hsb, row2, f2⟩; rw [HE1.out] at row2; have HB2 : Hid (IsBytes w2 (.slice (some ⟨sb, 0, none⟩) 64 64) (dblB [a, b', c, d])) := Lib.hid (IsBytes.of_cells row2 (by simp [dblB_len])); have hc2 := f2.at hc (fun h => h); have HF2 := Lib.hid (HF.out.trans f2 (fun _ h => h.elim)); clear row2 f2 hsb)
          | (go_at_call 88; refine (read88 a b' c d HE2.out _ _ HB2.out).mono ?_; rw [HFL.out]; rintro e w3 ⟨rfl, f3⟩; have hc3 := f3.at hc2 (fun h => h); have HF3 := Lib.hid (HF2.out.trans f3 (fun _ h => h.elim)); clear f3))
        have ha3 := heap_alloc_at w3 (.cells #[.int .i64 a, .int .i64 b', .int .i64 c, .int .i64 d] 141 (0, 0))
        have hd3 := (heap_alloc w3 (.cells #[.int .i64 a, .int .i64 b', .int .i64 c, .int .i64 d] 141 (0, 0)) _ (lt_of_block hc3)).trans hc3
        refine start_ (n := 11) (S := fun w' => w'.heap[w3.heap.size]? = some (.cells #[.int .i64 a, .int .i64 b', .int .i64 c, .int .i64 d] 141 (0, 0)) ∧ w'.heap[w.heap.size]? = some (.cells #[.pointer (some ⟨b, 0, none⟩), .int .i64 0, .int .i64 t, .int .i64 x, .int .i64 y, .int .i64 z] 143 (0, 0))) (ds := []) #[false, false, false, false, false, false, false, false, false, false, false] (by kernel_rfl) rfl rfl ⟨ha3, hd3⟩ (fun hHeld => ?_)
        refine pure_ (i := 0) (N := some 35) (v := ?_) (a' := ?_) #[true, false, false, false, false, false, false, false, false, false, false] rfl rfl (by kernel_rfl) (fun _ _ _ h => h) (Or.inl ⟨by rfl, ?_⟩) ?_ ?_
        rotate_left
        · intro w'
          try simp only [List.getElem_toArray, List.getElem_cons_succ, List.getElem_cons_zero]
          go_simp
          with_reducible rfl
        rotate_left
        · simp only [Act.put, List.setIfInBounds_toArray, List.set_cons_zero, List.set_cons_succ, i64_w, i32_w]
          rfl
        refine pure_ (i := 1) (N := some 36) (v := ?_) (a' := ?_) #[true, true, false, false, false, false, false, false, false, false, false] rfl rfl (by kernel_rfl) (fun _ _ _ h => h) (Or.inl ⟨by rfl, ?_⟩) ?_ ?_
        rotate_left
        · intro w'
          try simp only [List.getElem_toArray, List.getElem_cons_succ, List.getElem_cons_zero]
          go_simp
          with_reducible rfl
        rotate_left
        · simp only [Act.put, List.setIfInBounds_toArray, List.set_cons_zero, List.set_cons_succ, i64_w, i32_w]
          rfl
        refine pure_ (i := 2) (N := some 37) (v := undef) (a' := ?_) #[true, true, true, false, false, false, false, false, false, false, false] rfl rfl (by kernel_rfl) (fun _ _ _ h => h) (Or.inr ⟨by rfl, rfl⟩) ?_ ?_
        rotate_left
        · simp only [Act.put, List.setIfInBounds_toArray, List.set_cons_zero, List.set_cons_succ, i64_w, i32_w]
          rfl
        refine pure_ (i := 3) (N := some 38) (v := undef) (a' := ?_) #[true, true, true, true, false, false, false, false, false, false, false] rfl rfl (by kernel_rfl) (fun _ _ _ h => h) (Or.inr ⟨by rfl, rfl⟩) ?_ ?_
        rotate_left
        · simp only [Act.put, List.setIfInBounds_toArray, List.set_cons_zero, List.set_cons_succ, i64_w, i32_w]
          rfl
        refine pure_ (i := 4) (N := some 39) (v := undef) (a' := ?_) #[true, true, true, true, true, false, false, false, false, false, false] rfl rfl (by kernel_rfl) (fun _ _ _ h => h) (Or.inr ⟨by rfl, rfl⟩) ?_ ?_
        rotate_left
        · simp only [Act.put, List.setIfInBounds_toArray, List.set_cons_zero, List.set_cons_succ, i64_w, i32_w]
          rfl
        refine pure_ (i := 5) (N := some 40) (v := undef) (a' := ?_) #[true, true, true, true, true, true, false, false, false, false, false] rfl rfl (by kernel_rfl) (fun _ _ _ h => h) (Or.inr ⟨by rfl, rfl⟩) ?_ ?_
        rotate_left
        · simp only [Act.put, List.setIfInBounds_toArray, List.set_cons_zero, List.set_cons_succ, i64_w, i32_w]
          rfl
        refine pure_ (i := 6) (N := some 41) (v := undef) (a' := ?_) #[true, true, true, true, true, true, true, false, false, false, false] rfl rfl (by kernel_rfl) (fun _ _ _ h => h) (Or.inr ⟨by rfl, rfl⟩) ?_ ?_
        rotate_left
        · simp only [Act.put, List.setIfInBounds_toArray, List.set_cons_zero, List.set_cons_succ, i64_w, i32_w]
          rfl
        refine pure_ (i := 7) (N := some 42) (v := undef) (a' := ?_) #[true, true, true, true, true, true, true, true, false, false, false] rfl rfl (by kernel_rfl) (fun _ _ _ h => h) (Or.inr ⟨by rfl, rfl⟩) ?_ ?_
        rotate_left
        · simp only [Act.put, List.setIfInBounds_toArray, List.set_cons_zero, List.set_cons_succ, i64_w, i32_w]
          rfl
        refine pure_ (i := 8) (N := some 43) (v := undef) (a' := ?_) #[true, true, true, true, true, true, true, true, true, false, false] rfl rfl (by kernel_rfl) (fun _ _ _ h => h) (Or.inr ⟨by rfl, rfl⟩) ?_ ?_
        rotate_left
        · simp only [Act.put, List.setIfInBounds_toArray, List.set_cons_zero, List.set_cons_succ, i64_w, i32_w]
          rfl
        refine pure_ (i := 9) (N := some 44) (v := undef) (a' := ?_) #[true, true, true, true, true, true, true, true, true, true, false] rfl rfl (by kernel_rfl) (fun _ _ _ h => h) (Or.inr ⟨by rfl, rfl⟩) ?_ ?_
        rotate_left
        · simp only [Act.put, List.setIfInBounds_toArray, List.set_cons_zero, List.set_cons_succ, i64_w, i32_w]
          rfl
        refine pure_ (i := 10) (N := some 45) (v := ?_) (a' := ?_) #[true, true, true, true, true, true, true, true, true, true, true] rfl rfl (by kernel_rfl) (fun _ _ _ h => h) (Or.inl ⟨by rfl, ?_⟩) ?_ ?_
        rotate_left
        · intro w'
          try simp only [List.getElem_toArray, List.getElem_cons_succ, List.getElem_cons_zero]
          go_simp
          with_reducible rfl
        rotate_left
        · simp only [Act.put, List.setIfInBounds_toArray, List.set_cons_zero, List.set_cons_succ, i64_w, i32_w]
          rfl
        refine done_ (by kernel_rfl) ?_

        obtain ⟨W4, hW4⟩ : ∃ W4, W4 = (w3.alloc (.cells #[.int .i64 a, .int .i64 b', .int .i64 c, .int .i64 d] 141 (0, 0))).drew := ⟨_, rfl⟩
        have ha4 : W4.heap[w3.heap.size]? = some (.cells #[.int .i64 a, .int .i64 b', .int .i64 c, .int .i64 d] 141 (0, 0)) := by rw [hW4]; exact ha3
        have hd4 : W4.heap[w.heap.size]? = some (.cells #[.pointer (some ⟨b, 0, none⟩), .int .i64 0, .int .i64 t, .int .i64 x, .int .i64 y, .int .i64 z] 143 (0, 0)) := by rw [hW4]; exact hd3
        have HF4 : Hid (Fr (fun _ => False) w W4) := Lib.hid (by rw [hW4]; exact (HF3.out.alloc _).drew)
        rw [← hW4]
        clear hW4 ha3 hd3 hc2 hc3
        generalize w3.heap.size = hb at *
        go_wp2
        have hst := HST.out
        rw [if_neg (fun h => by have := HFL.out; simp at this; omega)] at hst
        exact ⟨⟨k + 1, by omega, by go_num, by rw [hst]; exact hd4, HF4.out⟩, by simp [intOf]; omega⟩
    · obtain rfl : k = 2 := by omega
      have HC := Lib.hid hc
      go_wp2
      go_ret2
      exact ⟨_, rfl, HC.out, Nat.le_refl _, HF.out⟩
end Go.Proofs.Ytnpeeephkkmomaa
namespace Go.Proofs.Ytnpeeephkkmomaa
open Go.RowKit Go.Proofs.YtnpeeephkkmomaaW.PrintLast
set_option linter.unusedVariables false
set_option linter.unusedSimpArgs false

def SetPost (w : World) (b lb cl : Nat) (sp : Array Value) (wv : Value) (cp : Nat) (D : Dk) (i : Nat) (t x y z : Int) (e : Ending) (w' : World) : Prop :=
  ∃ wv', e = .returned (.int .i64 0) ∧ IsDk w' b lb cl sp wv' (D.written i (dblB [t, x, y, z])).flushed ∧ IsCell w' cp b t x y z ∧ ¬ dkFoot b lb wv' cp ∧ Mv (jFoot b lb cp wv) (jFoot b lb cp wv') w w'
theorem Mv.jn {b lb cp : Nat} {wv wv' : Value} {w w' : World} (h : Mv (dkFoot b lb wv) (dkFoot b lb wv') w w') : Mv (jFoot b lb cp wv) (jFoot b lb cp wv') w w' :=
  ⟨h.fr.mono (fun _ _ h => .inl h), fun k hk => hk.elim (fun h1 => (h.piv k h1).imp .inl id) (fun h1 => .inl (.inr h1))⟩
theorem fr_four (cp : Nat) (w : World) (v2 v3 v4 v5 : Value) : Fr (fun j => j = cp) w ((((w.setCell ⟨cp, 2, none⟩ v2).setCell ⟨cp, 3, none⟩ v3).setCell ⟨cp, 4, none⟩ v4).setCell ⟨cp, 5, none⟩ v5) :=
  ((((Fr.refl (fun j => j = cp) w).setCell _ (.inl rfl)).setCell _ (.inl rfl)).setCell _ (.inl rfl)).setCell _ (.inl rfl)
theorem written_up {D : Dk} (i : Nat) (l : List UInt8) (h : D.down = false) (ha : D.armed ≤ 0) : (D.written i l).down = false ∧ (D.written i l).armed ≤ 0 := by
  simp only [Dk.written, Dk.changed]
  rw [if_neg (by omega), if_neg (by omega)]
  exact ⟨h, ha⟩
set_option maxRecDepth 100000 in
set_option maxHeartbeats 4000000 in
theorem set75 (b lb cl : Nat) (sp : Array Value) (wv : Value) (cp : Nat) (D : Dk) (w : World) (t : Nat) (x y z x' y' z' : Int) (hd : IsDk w b lb cl sp wv D) (hc : IsCell w cp b t x y z) (hcp : ¬ dkFoot b lb wv cp) (hup : D.down = false) (harm : D.armed ≤ 0) (hn : 2 ≤ D.secs.length) (hb : D.buf.length ≤ 1000000)
    (ht : t ≤ 4611686018427387000) (i : Nat) (hi : i = t % 2) (htu : (t : Int) + 1 ∉ turnsOf (D.told i)) :
    Calls Try.prog 75 #[.pointer (some ⟨cp, 0, none⟩), .agg #[.int .i64 x', .int .i64 y', .int .i64 z']] w (SetPost w b lb cl sp wv cp D i (t + 1) x' y' z') := by
  have HD := Lib.hid hd; have HC := Lib.hid hc; have HCP := Lib.hid hcp; have HUP := Lib.hid hup; have HARM := Lib.hid harm; have HN := Lib.hid hn; have HB := Lib.hid hb; have HT := Lib.hid ht; have HI := Lib.hid hi; have HTU := Lib.hid htu
  unfold IsCell at hc
  have t1 : decide (4611686018427387904 ≤ (t : Int)) = false := by simp; omega
  have A1 : wrap64 ((t : Int) + 1) = (t : Int) + 1 := w64 _ (by omega)
  have A2 : wrap64 ((t : Int) + 1 + 1) = (t : Int) + 1 + 1 := w64 _ (by omega)
  have A3 : wrap64 (((t : Int) + 1 + 1).tmod 2) = (i : Int) := by
    rw [Int.tmod_eq_emod_of_nonneg (by omega), w64 _ (by omega)]; omega
  clear hd hcp hup harm hn hb ht hi htu
  go_enter Try.func75, Try.ntmps75
  go_wp2
  obtain ⟨W0, hW0⟩ : ∃ W0, W0 = w.alloc (.cells #[.int .i64 x', .int .i64 y', .int .i64 z'] 113 (0, 0)) := ⟨_, rfl⟩
  rw [← hW0]
  have hbx0 : W0.drew.heap[w.heap.size]? = some (.cells #[.int .i64 x', .int .i64 y', .int .i64 z'] 113 (0, 0)) := by rw [hW0]; exact heap_alloc_at _ _
  have hf0 : Fr (fun _ => False) w W0 := by rw [hW0]; exact (Fr.refl _ w).alloc _
  have hc0 : W0.drew.heap[cp]? = some (.cells #[.pointer (some ⟨b, 0, none⟩), .int .i64 0, .int .i64 (t : Int), .int .i64 x, .int .i64 y, .int .i64 z] 143 (0, 0)) := hf0.at hc (fun h => h)
  have HF0 := Lib.hid hf0
  clear hW0 hf0
  refine start_ (n := 15) (S := fun w' => w'.heap[w.heap.size]? = some (.cells #[.int .i64 x', .int .i64 y', .int .i64 z'] 113 (0, 0)) ∧ w'.heap[cp]? = some (.cells #[.pointer (some ⟨b, 0, none⟩), .int .i64 0, .int .i64 (t : Int), .int .i64 x, .int .i64 y, .int .i64 z] 143 (0, 0))) (ds := [14]) #[false, false, false, false, false, false, false, false, false, false, false, false, false, false, false] (by kernel_rfl) rfl rfl ⟨hbx0, hc0⟩ (fun hHeld => ?_)
  refine pure_ (i := 0) (N := some 17) (v := ?_) (a' := ?_) #[true, false, false, false, false, false, false, false, false, false, false, false, false, false, false] rfl rfl (by kernel_rfl) (fun _ _ _ h => h) (Or.inl ⟨by rfl, ?_⟩) ?_ ?_
  rotate_left
  · intro w'
    try simp only [List.getElem_toArray, List.getElem_cons_succ, List.getElem_cons_zero]
    go_simp
    with_reducible rfl
  rotate_left
  · simp only [Act.put, List.setIfInBounds_toArray, List.set_cons_zero, List.set_cons_succ, i64_w, i32_w]
    rfl
  refine pure_ (i := 1) (N := some 18) (v := ?_) (a' := ?_) #[true, true, false, false, false, false, false, false, false, false, false, false, false, false, false] rfl rfl (by kernel_rfl) (fun _ _ _ h => h) (Or.inl ⟨by rfl, ?_⟩) ?_ ?_
  rotate_left
  · intro w'
    try simp only [List.getElem_toArray, List.getElem_cons_succ, List.getElem_cons_zero]
    go_simp
    with_reducible rfl
  rotate_left
  · simp only [Act.put, List.setIfInBounds_toArray, List.set_cons_zero, List.set_cons_succ, i64_w, i32_w]
    rfl
  refine pure_ (i := 2) (N := some 19) (v := ?_) (a' := ?_) #[true, true, true, false, false, false, false, false, false, false, false, false, false, false, false] rfl rfl (by kernel_rfl) (fun _ _ _ h => h) (Or.inl ⟨by rfl, ?_⟩) ?_ ?_
  rotate_left
  · intro w'
    try simp only [List.getElem_toArray, List.getElem_cons_succ, List.getElem_cons_zero]
    go_simp
    with_reducible rfl
  rotate_left
  · simp only [Act.put, List.setIfInBounds_toArray, List.set_cons_zero, List.set_cons_succ, i64_w, i32_w]
    rfl
  refine pure_ (i := 3) (N := some 20) (v := ?_) (a' := ?_) #[true, true, true, true, false, false, false, false, false, false, false, false, false, false, false] rfl rfl (by kernel_rfl) (fun _ _ _ h => h) (Or.inl ⟨by rfl, ?_⟩) ?_ ?_
  rotate_left
  · intro w'
    try simp only [List.getElem_toArray, List.getElem_cons_succ, List.getElem_cons_zero]
    go_simp
    with_reducible rfl
  rotate_left
  · simp only [Act.put, List.setIfInBounds_toArray, List.set_cons_zero, List.set_cons_succ, i64_w, i32_w]
    rfl
  refine pure_ (i := 6) (N := some 23) (v := ?_) (a' := ?_) #[true, true, true, true, false, false, true, false, false, false, false, false, false, false, false] rfl rfl (by kernel_rfl) (fun _ _ _ h => h) (Or.inl ⟨by rfl, ?_⟩) ?_ ?_
  rotate_left
  · intro w'
    try simp only [List.getElem_toArray, List.getElem_cons_succ, List.getElem_cons_zero]
    go_simp
    with_reducible rfl
  rotate_left
  · simp only [Act.put, List.setIfInBounds_toArray, List.set_cons_zero, List.set_cons_succ, i64_w, i32_w]
    rfl
  refine pure_ (i := 8) (N := some 25) (v := ?_) (a' := ?_) #[true, true, true, true, false, false, true, false, true, false, false, false, false, false, false] rfl rfl (by kernel_rfl) (fun _ _ _ h => h) (Or.inl ⟨by rfl, ?_⟩) ?_ ?_
  rotate_left
  · intro w'
    try simp only [List.getElem_toArray, List.getElem_cons_succ, List.getElem_cons_zero]
    go_simp
    with_reducible rfl
  rotate_left
  · simp only [Act.put, List.setIfInBounds_toArray, List.set_cons_zero, List.set_cons_succ, i64_w, i32_w]
    rfl
  refine pure_ (i := 10) (N := some 27) (v := ?_) (a' := ?_) #[true, true, true, true, false, false, true, false, true, false, true, false, false, false, false] rfl rfl (by kernel_rfl) (fun _ _ _ h => h) (Or.inl ⟨by rfl, ?_⟩) ?_ ?_
  rotate_left
  · intro w'
    try simp only [List.getElem_toArray, List.getElem_cons_succ, List.getElem_cons_zero]
    go_simp
    with_reducible rfl
  rotate_left
  · simp only [Act.put, List.setIfInBounds_toArray, List.set_cons_zero, List.set_cons_succ, i64_w, i32_w]
    rfl
  refine take_ (i := 4) (N := some 21) (v := ?_) (a' := ?_) #[true, true, true, true, true, false, true, false, true, false, true, false, false, false, false] rfl rfl (by kernel_rfl) (fun _ _ _ h => h) (Or.inl ⟨by rfl, ?_⟩) hHeld ?_ ?_
  rotate_left
  · rintro w' ⟨s0, s1⟩
    try simp only [List.getElem_toArray, List.getElem_cons_succ, List.getElem_cons_zero]
    go_simp
    with_reducible rfl
  rotate_left
  · simp only [Act.put, List.setIfInBounds_toArray, List.set_cons_zero, List.set_cons_succ, i64_w, i32_w]
    rfl
  refine pure_ (i := 5) (N := some 22) (v := ?_) (a' := ?_) #[true, true, true, true, true, true, true, false, true, false, true, false, false, false, false] rfl rfl (by kernel_rfl) (fun _ _ _ h => h) (Or.inl ⟨by rfl, ?_⟩) ?_ ?_
  rotate_left
  · intro w'
    try simp only [List.getElem_toArray, List.getElem_cons_succ, List.getElem_cons_zero]
    go_simp
    with_reducible rfl
  rotate_left
  · simp only [Act.put, List.setIfInBounds_toArray, List.set_cons_zero, List.set_cons_succ, i64_w, i32_w]
    rfl
  refine take_ (i := 7) (N := some 24) (v := ?_) (a' := ?_) #[true, true, true, true, true, true, true, true, true, false, true, false, false, false, false] rfl rfl (by kernel_rfl) (fun _ _ _ h => h) (Or.inl ⟨by rfl, ?_⟩) hHeld ?_ ?_
  rotate_left
  · rintro w' ⟨s0, s1⟩
    try simp only [List.getElem_toArray, List.getElem_cons_succ, List.getElem_cons_zero]
    go_simp
    with_reducible rfl
  rotate_left
  · simp only [Act.put, List.setIfInBounds_toArray, List.set_cons_zero, List.set_cons_succ, i64_w, i32_w]
    rfl
  refine take_ (i := 9) (N := some 26) (v := ?_) (a' := ?_) #[true, true, true, true, true, true, true, true, true, true, true, false, false, false, false] rfl rfl (by kernel_rfl) (fun _ _ _ h => h) (Or.inl ⟨by rfl, ?_⟩) hHeld ?_ ?_
  rotate_left
  · rintro w' ⟨s0, s1⟩
    try simp only [List.getElem_toArray, List.getElem_cons_succ, List.getElem_cons_zero]
    go_simp
    with_reducible rfl
  rotate_left
  · simp only [Act.put, List.setIfInBounds_toArray, List.set_cons_zero, List.set_cons_succ, i64_w, i32_w]
    rfl
  refine take_ (i := 11) (N := some 28) (v := ?_) (a' := ?_) #[true, true, true, true, true, true, true, true, true, true, true, true, false, false, false] rfl rfl (by kernel_rfl) (fun _ _ _ h => h) (Or.inl ⟨by rfl, ?_⟩) hHeld ?_ ?_
  rotate_left
  · rintro w' ⟨s0, s1⟩
    try simp only [List.getElem_toArray, List.getElem_cons_succ, List.getElem_cons_zero]
    go_simp
    with_reducible rfl
  rotate_left
  · simp only [Act.put, List.setIfInBounds_toArray, List.set_cons_zero, List.set_cons_succ, i64_w, i32_w]
    rfl
  refine pure_ (i := 12) (N := some 29) (v := ?_) (a' := ?_) #[true, true, true, true, true, true, true, true, true, true, true, true, true, false, false] rfl rfl (by kernel_rfl) (fun _ _ _ h => h) (Or.inl ⟨by rfl, ?_⟩) ?_ ?_
  rotate_left
  · intro w'
    try simp only [List.getElem_toArray, List.getElem_cons_succ, List.getElem_cons_zero]
    go_simp
    with_reducible rfl
  rotate_left
  · simp only [Act.put, List.setIfInBounds_toArray, List.set_cons_zero, List.set_cons_succ, i64_w, i32_w]
    rfl
  refine one_ (i := 13) (N := some 5) #[true, true, true, true, true, true, true, true, true, true, true, true, true, true, false] rfl rfl (by kernel_rfl) (by decide) (fun K hK => ?_)
  refine value_ (w1 := ?_) (v := ?_) (by rfl) rfl ?_ ?_
  rotate_left 2
  · try simp only [List.getElem_toArray, List.getElem_cons_succ, List.getElem_cons_zero]
    go_simp
    constructor
    · rfl
    · rfl
  refine hK.out _ _ ⟨(heap_alloc _ _ _ (lt_of_block hbx0)).trans hbx0, (heap_alloc _ _ _ (lt_of_block hc0)).trans hc0⟩ (fun hHeld => ?_)
  clear hK K
  refine norm_ (a' := ?_) ?_ ?_
  rotate_left
  · show Act.put _ (some 5) _ = _
    simp only [Act.put, List.setIfInBounds_toArray, List.set_cons_zero, List.set_cons_succ, i64_w, i32_w]
    rfl
  refine last_ (i := 14) (N := none) #[true, true, true, true, true, true, true, true, true, true, true, true, true, true, true] rfl rfl (by kernel_rfl) (by decide) (fun K hK => ?_)
  obtain ⟨hb, hhb⟩ : ∃ hb, hb = W0.heap.size := ⟨_, rfl⟩
  obtain ⟨W1, hW1⟩ : ∃ W1, W1 = (W0.alloc (.cells #[.int .i64 0, .int .i64 0, .int .i64 0, .int .i64 0] 141 (0, 0))).drew := ⟨_, rfl⟩
  have ha1 : W1.heap[hb]? = some (.cells #[.int .i64 0, .int .i64 0, .int .i64 0, .int .i64 0] 141 (0, 0)) := by rw [hW1, hhb]; exact heap_alloc_at W0 _
  have HF1 : Hid (Fr (fun _ => False) w W1) := Lib.hid (by rw [hW1]; exact (HF0.out.alloc _).drew)
  have HHB : Hid (w.heap.size ≤ hb) := Lib.hid (by rw [hhb]; exact HF0.out.size)
  rw [← hW1, ← hhb]
  clear hW1 hhb
  refine skip_ (w1 := ?_) (by rfl) rfl ?_ ?_
  rotate_left
  · try simp only [List.getElem_toArray, List.getElem_cons_succ, List.getElem_cons_zero]
    go_simp
    rfl
  refine hK.out _ _ ?_
  clear hK K
  refine done_ (by kernel_rfl) ?_

  obtain ⟨W2, hW2⟩ : ∃ W2, W2 = (((W1.setCell ⟨hb, 0, none⟩ (.int .i64 ((t : Int) + 1))).setCell ⟨hb, 1, none⟩ (.int .i64 x')).setCell ⟨hb, 2, none⟩ (.int .i64 y')).setCell ⟨hb, 3, none⟩ (.int .i64 z') := ⟨_, rfl⟩
  have ha2 : W2.heap[hb]? = some (.cells #[.int .i64 ((t : Int) + 1), .int .i64 x', .int .i64 y', .int .i64 z'] 141 (0, 0)) := by
    rw [hW2, heap_setCell_self, heap_setCell_self, heap_setCell_self, heap_setCell_self, ha1]; rfl
  have HF2 : Hid (Fr (fun _ => False) w W2) := Lib.hid (by rw [hW2]; exact (((HF1.out.setCell _ (.inr HHB.out)).setCell _ (.inr HHB.out)).setCell _ (.inr HHB.out)).setCell _ (.inr HHB.out))
  have hc2 := HF2.out.at hc (fun h => h)
  have ha2d : W2.drew.heap[hb]? = some (.cells #[.int .i64 ((t : Int) + 1), .int .i64 x', .int .i64 y', .int .i64 z'] 141 (0, 0)) := ha2
  have hc2d : W2.drew.heap[cp]? = some (.cells #[.pointer (some ⟨b, 0, none⟩), .int .i64 0, .int .i64 (t : Int), .int .i64 x, .int .i64 y, .int .i64 z] 143 (0, 0)) := hc2
  first
    | rw [← hW2]
    | (go_wp2; rw [← hW2])
  clear hW2 ha1 hc hc0 hbx0 HF1 HF0
  try go_wp2
  refine start_ (n := 10) (S := fun w' => w'.heap[cp]? = some (.cells #[.pointer (some ⟨b, 0, none⟩), .int .i64 0, .int .i64 (t : Int), .int .i64 x, .int .i64 y, .int .i64 z] 143 (0, 0)) ∧ w'.heap[hb]? = some (.cells #[.int .i64 ((t : Int) + 1), .int .i64 x', .int .i64 y', .int .i64 z'] 141 (0, 0))) (ds := []) #[false, false, false, false, false, false, false, false, false, false] (by kernel_rfl) rfl rfl ⟨hc2d, ha2d⟩ (fun hHeld => ?_)
  refine pure_ (i := 0) (N := some 30) (v := ?_) (a' := ?_) #[true, false, false, false, false, false, false, false, false, false] rfl rfl (by kernel_rfl) (fun _ _ _ h => h) (Or.inl ⟨by rfl, ?_⟩) ?_ ?_
  rotate_left
  · intro w'
    try simp only [List.getElem_toArray, List.getElem_cons_succ, List.getElem_cons_zero]
    go_simp
    with_reducible rfl
  rotate_left
  · simp only [Act.put, List.setIfInBounds_toArray, List.set_cons_zero, List.set_cons_succ, i64_w, i32_w]
    rfl
  refine pure_ (i := 1) (N := some 31) (v := ?_) (a' := ?_) #[true, true, false, false, false, false, false, false, false, false] rfl rfl (by kernel_rfl) (fun _ _ _ h => h) (Or.inl ⟨by rfl, ?_⟩) ?_ ?_
  rotate_left
  · intro w'
    try simp only [List.getElem_toArray, List.getElem_cons_succ, List.getElem_cons_zero]
    go_simp
    with_reducible rfl
  rotate_left
  · simp only [Act.put, List.setIfInBounds_toArray, List.set_cons_zero, List.set_cons_succ, i64_w, i32_w]
    rfl
  refine pure_ (i := 2) (N := some 32) (v := ?_) (a' := ?_) #[true, true, true, false, false, false, false, false, false, false] rfl rfl (by kernel_rfl) (fun _ _ _ h => h) (Or.inl ⟨by rfl, ?_⟩) ?_ ?_
  rotate_left
  · intro w'
    try simp only [List.getElem_toArray, List.getElem_cons_succ, List.getElem_cons_zero]
    go_simp
    with_reducible rfl
  rotate_left
  · simp only [Act.put, List.setIfInBounds_toArray, List.set_cons_zero, List.set_cons_succ, i64_w, i32_w]
    rfl
  refine pure_ (i := 4) (N := some 34) (v := ?_) (a' := ?_) #[true, true, true, false, true, false, false, false, false, false] rfl rfl (by kernel_rfl) (fun _ _ _ h => h) (Or.inl ⟨by rfl, ?_⟩) ?_ ?_
  rotate_left
  · intro w'
    try simp only [List.getElem_toArray, List.getElem_cons_succ, List.getElem_cons_zero]
    go_simp
    with_reducible rfl
  rotate_left
  · simp only [Act.put, List.setIfInBounds_toArray, List.set_cons_zero, List.set_cons_succ, i64_w, i32_w]
    rfl
  refine take_ (i := 3) (N := some 33) (v := ?_) (a' := ?_) #[true, true, true, true, true, false, false, false, false, false] rfl rfl (by kernel_rfl) (fun _ _ _ h => h) (Or.inl ⟨by rfl, ?_⟩) hHeld ?_ ?_
  rotate_left
  · rintro w' ⟨s0, s1⟩
    try simp only [List.getElem_toArray, List.getElem_cons_succ, List.getElem_cons_zero]
    go_simp
    with_reducible rfl
  rotate_left
  · simp only [Act.put, List.setIfInBounds_toArray, List.set_cons_zero, List.set_cons_succ, i64_w, i32_w]
    rfl
  refine take_ (i := 5) (N := some 35) (v := ?_) (a' := ?_) #[true, true, true, true, true, true, false, false, false, false] rfl rfl (by kernel_rfl) (fun _ _ _ h => h) (Or.inl ⟨by rfl, ?_⟩) hHeld ?_ ?_
  rotate_left
  · rintro w' ⟨s0, s1⟩
    try simp only [List.getElem_toArray, List.getElem_cons_succ, List.getElem_cons_zero]
    go_simp
    with_reducible rfl
  rotate_left
  · simp only [Act.put, List.setIfInBounds_toArray, List.set_cons_zero, List.set_cons_succ, i64_w, i32_w]
    rfl
  refine pure_ (i := 6) (N := some 36) (v := ?_) (a' := ?_) #[true, true, true, true, true, true, true, false, false, false] rfl rfl (by kernel_rfl) (fun _ _ _ h => h) (Or.inl ⟨by rfl, ?_⟩) ?_ ?_
  rotate_left
  · intro w'
    try simp only [List.getElem_toArray, List.getElem_cons_succ, List.getElem_cons_zero]
    go_simp
    with_reducible rfl
  rotate_left
  · simp only [Act.put, List.setIfInBounds_toArray, List.set_cons_zero, List.set_cons_succ, i64_w, i32_w]
    rfl
  refine pure_ (i := 7) (N := some 37) (v := ?_) (a' := ?_) #[true, true, true, true, true, true, true, true, false, false] rfl rfl (by kernel_rfl) (fun _ _ _ h => h) (Or.inl ⟨by rfl, ?_⟩) ?_ ?_
  rotate_left
  · intro w'
    try simp only [List.getElem_toArray, List.getElem_cons_succ, List.getElem_cons_zero]
    go_simp
    with_reducible rfl
  rotate_left
  · simp only [Act.put, List.setIfInBounds_toArray, List.set_cons_zero, List.set_cons_succ, i64_w, i32_w]
    rfl
  refine pure_ (i := 8) (N := some 38) (v := ?_) (a' := ?_) #[true, true, true, true, true, true, true, true, true, false] rfl rfl (by kernel_rfl) (fun _ _ _ h => h) (Or.inl ⟨by rfl, ?_⟩) ?_ ?_
  rotate_left
  · intro w'
    try simp only [List.getElem_toArray, List.getElem_cons_succ, List.getElem_cons_zero]
    go_simp
    with_reducible rfl
  rotate_left
  · simp only [Act.put, List.setIfInBounds_toArray, List.set_cons_zero, List.set_cons_succ, i64_w, i32_w]
    rfl
  refine pure_ (i := 9) (N := some 6) (v := ?_) (a' := ?_) #[true, true, true, true, true, true, true, true, true, true] rfl rfl (by kernel_rfl) (fun _ _ _ h => h) (Or.inl ⟨by rfl, ?_⟩) ?_ ?_
  rotate_left
  · intro w'
    try simp only [List.getElem_toArray, List.getElem_cons_succ, List.getElem_cons_zero]
    go_simp
    with_reducible rfl
  rotate_left
  · simp only [Act.put, List.setIfInBounds_toArray, List.set_cons_zero, List.set_cons_succ, i64_w, i32_w]
    rfl
  refine done_ (by kernel_rfl) ?_

  have HF2d : Hid (Fr (fun _ => False) w W2.drew) := Lib.hid HF2.out.drew
  go_wp2_with (first
    | (go_at_call 19; refine (read_ok b lb cl sp wv D W2.drew i (HD.out.fr HF2d.out (fun _ _ h => h)) HUP.out (by have := HN.out; have := HI.out; omega)).mono ?_; rintro e W3 ⟨sb, rfl, hsb, row3, f3⟩; have HB3 : Hid (IsBytes W3 (.slice (some ⟨sb, 0, none⟩) 64 64) (D.told i)) := Lib.hid (by have := IsBytes.of_cells row3 (by rw [told_len D HD.out.ok i (by have := HN.out; have := HI.out; omega)]; decide); rwa [told_len D HD.out.ok i (by have := HN.out; have := HI.out; omega)] at this); have hc3 := f3.at hc2d (fun h => h); have ha3 := f3.at ha2d (fun h => h); have HF3 := Lib.hid (HF2d.out.trans f3 (fun _ h => h.elim)); clear row3 f3 hsb ha2 hc2 ha2d hc2d))
  go_loopw [] (fun wr => wr = W3) (fun _ => 0)
  case atStart => rfl
  case round =>
    subst hrel
    have HTR : Hid (Calls Try.prog 99 #[.slice (some ⟨sb, 0, none⟩) 64 64] wr.drew (TurnPost wr.drew (turnsOf (D.told i)))) := Lib.hid (turns99 _ _ _ (HB3.out.fr (F := fun _ => False) (Fr.refl _ wr).drew (fun _ _ h => h)) (told_len D HD.out.ok i (by have := HN.out; have := HI.out; omega)))
    have HCON : Hid (∀ (v : Value) (W : World), W.ownsRow 0 2 1 v (turnsOf (D.told i)).length ((turnsOf (D.told i)).map (Value.int .i64)) → Calls Try.prog 98 #[v, .int .i64 ((t : Int) + 1)] W fun e w' => e = .returned (.bool false) ∧ W = w') := Lib.hid (fun v W h => by
      have := contains98 v _ ((t : Int) + 1) W h (by simp [turnsOf])
      rwa [show decide ((t : Int) + 1 ∈ turnsOf (D.told i)) = false by simpa using HTU.out] at this)
    have ha3d : wr.drew.heap[hb]? = some (.cells #[.int .i64 ((t : Int) + 1), .int .i64 x', .int .i64 y', .int .i64 z'] 141 (0, 0)) := ha3
    go_wp2
    refine start_ (n := 5) (S := fun w' => w'.heap[hb]? = some (.cells #[.int .i64 ((t : Int) + 1), .int .i64 x', .int .i64 y', .int .i64 z'] 141 (0, 0))) (ds := []) #[false, false, false, false, false] (by kernel_rfl) rfl rfl (ha3d) (fun hHeld => ?_)
    refine pure_ (i := 0) (N := some 51) (v := ?_) (a' := ?_) #[true, false, false, false, false] rfl rfl (by kernel_rfl) (fun _ _ _ h => h) (Or.inl ⟨by rfl, ?_⟩) ?_ ?_
    rotate_left
    · intro w'
      try simp only [List.getElem_toArray, List.getElem_cons_succ, List.getElem_cons_zero]
      go_simp
      with_reducible rfl
    rotate_left
    · simp only [Act.put, List.setIfInBounds_toArray, List.set_cons_zero, List.set_cons_succ, i64_w, i32_w]
      rfl
    refine pure_ (i := 2) (N := some 53) (v := ?_) (a' := ?_) #[true, false, true, false, false] rfl rfl (by kernel_rfl) (fun _ _ _ h => h) (Or.inl ⟨by rfl, ?_⟩) ?_ ?_
    rotate_left
    · intro w'
      try simp only [List.getElem_toArray, List.getElem_cons_succ, List.getElem_cons_zero]
      go_simp
      with_reducible rfl
    rotate_left
    · simp only [Act.put, List.setIfInBounds_toArray, List.set_cons_zero, List.set_cons_succ, i64_w, i32_w]
      rfl
    refine take_ (i := 3) (N := some 54) (v := ?_) (a' := ?_) #[true, false, true, true, false] rfl rfl (by kernel_rfl) (fun _ _ _ h => h) (Or.inl ⟨by rfl, ?_⟩) hHeld ?_ ?_
    rotate_left
    · intro w' s0
      try simp only [List.getElem_toArray, List.getElem_cons_succ, List.getElem_cons_zero]
      go_simp
      with_reducible rfl
    rotate_left
    · simp only [Act.put, List.setIfInBounds_toArray, List.set_cons_zero, List.set_cons_succ, i64_w, i32_w]
      rfl
    refine one_ (i := 1) (N := some 52) #[true, true, true, true, false] rfl rfl (by kernel_rfl) (by decide) (fun K hK => ?_)
    refine goes_ Try.func99 (by kernel_rfl) rfl #[.slice (some ⟨sb, 0, none⟩) 64 64] (by rfl) rfl rfl (by simp only [List.map_toArray, List.map_cons, List.map_nil]; rfl) ?_
    with_reducible refine (HTR.out).mono ?_
    rintro e w4 ⟨xv, rfl, r4, n4, f4⟩
    refine ⟨_, rfl, ?_⟩
    have HR4 := Lib.hid r4
    have ha4 := f4.at ha3d (fun h => h)
    have HF4 := Lib.hid (HF3.out.drew.trans f4 (fun _ h => h.elim))
    clear r4 n4 f4
    refine hK.out _ _ (ha4) (fun hHeld => ?_)
    clear hK K
    refine norm_ (a' := ?_) ?_ ?_
    rotate_left
    · show Act.put _ (some 52) _ = _
      simp only [Act.put, List.setIfInBounds_toArray, List.set_cons_zero, List.set_cons_succ, i64_w, i32_w]
      rfl
    refine one_ (i := 4) (N := some 55) #[true, true, true, true, true] rfl rfl (by kernel_rfl) (by decide) (fun K hK => ?_)
    refine goes_ Try.func98 (by kernel_rfl) rfl #[xv, .int .i64 ((t : Int) + 1)] (by rfl) rfl rfl (by simp only [List.map_toArray, List.map_cons, List.map_nil]; rfl) ?_
    with_reducible refine (HCON.out xv w4 HR4.out).mono ?_
    rintro e w5 ⟨rfl, rfl⟩
    refine ⟨_, rfl, ?_⟩
    refine hK.out _ _ (ha4) (fun hHeld => ?_)
    clear hK K
    refine norm_ (a' := ?_) ?_ ?_
    rotate_left
    · show Act.put _ (some 55) _ = _
      simp only [Act.put, List.setIfInBounds_toArray, List.set_cons_zero, List.set_cons_succ, i64_w, i32_w]
      rfl
    refine done_ (by kernel_rfl) ?_

    have hc4 := HF4.out.at HC.out (fun h => h)
    unfold IsCell at hc4
    clear ha3 ha3d hc3 HF3 HTR HCON HR4
    have ha4d : w4.drew.heap[hb]? = some (.cells #[.int .i64 ((t : Int) + 1), .int .i64 x', .int .i64 y', .int .i64 z'] 141 (0, 0)) := ha4
    have hc4d : w4.drew.heap[cp]? = some (.cells #[.pointer (some ⟨b, 0, none⟩), .int .i64 0, .int .i64 (t : Int), .int .i64 x, .int .i64 y, .int .i64 z] 143 (0, 0)) := hc4
    have HF4d := Lib.hid HF4.out.drew
    go_wp2
    refine start_ (n := 13) (S := fun w' => w'.heap[cp]? = some (.cells #[.pointer (some ⟨b, 0, none⟩), .int .i64 0, .int .i64 (t : Int), .int .i64 x, .int .i64 y, .int .i64 z] 143 (0, 0)) ∧ w'.heap[hb]? = some (.cells #[.int .i64 ((t : Int) + 1), .int .i64 x', .int .i64 y', .int .i64 z'] 141 (0, 0))) (ds := []) #[false, false, false, false, false, false, false, false, false, false, false, false, false] (by kernel_rfl) rfl rfl ⟨hc4d, ha4d⟩ (fun hHeld => ?_)
    refine pure_ (i := 0) (N := some 60) (v := ?_) (a' := ?_) #[true, false, false, false, false, false, false, false, false, false, false, false, false] rfl rfl (by kernel_rfl) (fun _ _ _ h => h) (Or.inl ⟨by rfl, ?_⟩) ?_ ?_
    rotate_left
    · intro w'
      try simp only [List.getElem_toArray, List.getElem_cons_succ, List.getElem_cons_zero]
      go_simp
      with_reducible rfl
    rotate_left
    · simp only [Act.put, List.setIfInBounds_toArray, List.set_cons_zero, List.set_cons_succ, i64_w, i32_w]
      rfl
    refine pure_ (i := 1) (N := some 61) (v := ?_) (a' := ?_) #[true, true, false, false, false, false, false, false, false, false, false, false, false] rfl rfl (by kernel_rfl) (fun _ _ _ h => h) (Or.inl ⟨by rfl, ?_⟩) ?_ ?_
    rotate_left
    · intro w'
      try simp only [List.getElem_toArray, List.getElem_cons_succ, List.getElem_cons_zero]
      go_simp
      with_reducible rfl
    rotate_left
    · simp only [Act.put, List.setIfInBounds_toArray, List.set_cons_zero, List.set_cons_succ, i64_w, i32_w]
      rfl
    refine pure_ (i := 2) (N := some 62) (v := ?_) (a' := ?_) #[true, true, true, false, false, false, false, false, false, false, false, false, false] rfl rfl (by kernel_rfl) (fun _ _ _ h => h) (Or.inl ⟨by rfl, ?_⟩) ?_ ?_
    rotate_left
    · intro w'
      try simp only [List.getElem_toArray, List.getElem_cons_succ, List.getElem_cons_zero]
      go_simp
      with_reducible rfl
    rotate_left
    · simp only [Act.put, List.setIfInBounds_toArray, List.set_cons_zero, List.set_cons_succ, i64_w, i32_w]
      rfl
    refine pure_ (i := 4) (N := some 64) (v := ?_) (a' := ?_) #[true, true, true, false, true, false, false, false, false, false, false, false, false] rfl rfl (by kernel_rfl) (fun _ _ _ h => h) (Or.inl ⟨by rfl, ?_⟩) ?_ ?_
    rotate_left
    · intro w'
      try simp only [List.getElem_toArray, List.getElem_cons_succ, List.getElem_cons_zero]
      go_simp
      with_reducible rfl
    rotate_left
    · simp only [Act.put, List.setIfInBounds_toArray, List.set_cons_zero, List.set_cons_succ, i64_w, i32_w]
      rfl
    refine take_ (i := 3) (N := some 63) (v := ?_) (a' := ?_) #[true, true, true, true, true, false, false, false, false, false, false, false, false] rfl rfl (by kernel_rfl) (fun _ _ _ h => h) (Or.inl ⟨by rfl, ?_⟩) hHeld ?_ ?_
    rotate_left
    · rintro w' ⟨s0, s1⟩
      try simp only [List.getElem_toArray, List.getElem_cons_succ, List.getElem_cons_zero]
      go_simp
      with_reducible rfl
    rotate_left
    · simp only [Act.put, List.setIfInBounds_toArray, List.set_cons_zero, List.set_cons_succ, i64_w, i32_w]
      rfl
    refine take_ (i := 5) (N := some 65) (v := ?_) (a' := ?_) #[true, true, true, true, true, true, false, false, false, false, false, false, false] rfl rfl (by kernel_rfl) (fun _ _ _ h => h) (Or.inl ⟨by rfl, ?_⟩) hHeld ?_ ?_
    rotate_left
    · rintro w' ⟨s0, s1⟩
      try simp only [List.getElem_toArray, List.getElem_cons_succ, List.getElem_cons_zero]
      go_simp
      with_reducible rfl
    rotate_left
    · simp only [Act.put, List.setIfInBounds_toArray, List.set_cons_zero, List.set_cons_succ, i64_w, i32_w]
      rfl
    refine take_ (i := 7) (N := some 67) (v := ?_) (a' := ?_) #[true, true, true, true, true, true, false, true, false, false, false, false, false] rfl rfl (by kernel_rfl) (fun _ _ _ h => h) (Or.inl ⟨by rfl, ?_⟩) hHeld ?_ ?_
    rotate_left
    · rintro w' ⟨s0, s1⟩
      try simp only [List.getElem_toArray, List.getElem_cons_succ, List.getElem_cons_zero]
      go_simp
      with_reducible rfl
    rotate_left
    · simp only [Act.put, List.setIfInBounds_toArray, List.set_cons_zero, List.set_cons_succ, i64_w, i32_w]
      rfl
    refine one_ (i := 6) (N := some 66) #[true, true, true, true, true, true, true, true, false, false, false, false, false] rfl rfl (by kernel_rfl) (by decide) (fun K hK => ?_)
    refine goes_ Try.func100 (by kernel_rfl) rfl #[.agg #[.int .i64 ((t : Int) + 1), .int .i64 x', .int .i64 y', .int .i64 z']] (by rfl) rfl rfl (by simp only [List.map_toArray, List.map_cons, List.map_nil]; rfl) ?_
    with_reducible refine (bytes100 ((t : Int) + 1) x' y' z' w4.drew).mono ?_
    rintro e w6 ⟨v6, rfl, b6, n6, f6⟩
    refine ⟨_, rfl, ?_⟩
    obtain ⟨o6, q6, rfl⟩ := b6.slice
    have HB6 := Lib.hid b6.bytes
    have hc6 := f6.at hc4d (fun h => h)
    have ha6 := f6.at ha4d (fun h => h)
    have HF6 := Lib.hid (HF4d.out.trans f6 (fun _ h => h.elim))
    clear b6 n6 f6
    refine hK.out _ _ ⟨hc6, ha6⟩ (fun hHeld => ?_)
    clear hK K
    refine norm_ (a' := ?_) ?_ ?_
    rotate_left
    · show Act.put _ (some 66) _ = _
      simp only [Act.put, List.setIfInBounds_toArray, List.set_cons_zero, List.set_cons_succ, i64_w, i32_w]
      rfl
    refine one_ (i := 8) (N := some 68) #[true, true, true, true, true, true, true, true, true, false, false, false, false] rfl rfl (by kernel_rfl) (by decide) (fun K hK => ?_)
    refine goes_ Try.func100 (by kernel_rfl) rfl #[.agg #[.int .i64 ((t : Int) + 1), .int .i64 x', .int .i64 y', .int .i64 z']] (by rfl) rfl rfl (by simp only [List.map_toArray, List.map_cons, List.map_nil]; rfl) ?_
    with_reducible refine (bytes100 ((t : Int) + 1) x' y' z' w6).mono ?_
    rintro e w8 ⟨v8, rfl, b8, n8, f8⟩
    refine ⟨_, rfl, ?_⟩
    obtain ⟨o8, q8, rfl⟩ := b8.slice
    have HB8 := Lib.hid b8.bytes
    have HB6 := Lib.hid (HB6.out.fr f8 (fun _ _ h => h))
    have hc8 := f8.at hc6 (fun h => h)
    have ha8 := f8.at ha6 (fun h => h)
    have HF8 := Lib.hid (HF6.out.trans f8 (fun _ h => h.elim))
    clear b8 n8 f8
    refine hK.out _ _ ⟨hc8, ha8⟩ (fun hHeld => ?_)
    clear hK K
    refine norm_ (a' := ?_) ?_ ?_
    rotate_left
    · show Act.put _ (some 68) _ = _
      simp only [Act.put, List.setIfInBounds_toArray, List.set_cons_zero, List.set_cons_succ, i64_w, i32_w]
      rfl
    refine one_ (i := 9) (N := some 69) #[true, true, true, true, true, true, true, true, true, true, false, false, false] rfl rfl (by kernel_rfl) (by decide) (fun K hK => ?_)
    refine value_ (w1 := ?_) (v := ?_) (by rfl) rfl ?_ ?_
    rotate_left 2
    · try simp only [List.getElem_toArray, List.getElem_cons_succ, List.getElem_cons_zero]
      go_simp
      constructor
      · rfl
      · rfl
    refine hK.out _ _ ⟨(heap_alloc _ _ _ (lt_of_block hc8)).trans hc8, (heap_alloc _ _ _ (lt_of_block ha8)).trans ha8⟩ (fun hHeld => ?_)
    clear hK K
    refine norm_ (a' := ?_) ?_ ?_
    rotate_left
    · show Act.put _ (some 69) _ = _
      simp only [Act.put, List.setIfInBounds_toArray, List.set_cons_zero, List.set_cons_succ, i64_w, i32_w]
      rfl
    refine one_ (i := 10) (N := some 70) #[true, true, true, true, true, true, true, true, true, true, true, false, false] rfl rfl (by kernel_rfl) (by decide) (fun K hK => ?_)
    refine goes_ Try.func67 (by kernel_rfl) rfl #[.slice (some ⟨w8.heap.size, 0, none⟩) 2 2] (by rfl) rfl rfl (by simp only [List.map_toArray, List.map_cons, List.map_nil]; rfl) ?_
    with_reducible refine (concat_any _ [halfB [(t : Int) + 1, x', y', z'], halfB [(t : Int) + 1, x', y', z']] _ (IsLists.two (heap_alloc_at w8 _) (by decide) (by decide) (HB6.out.alloc _) (HB8.out.alloc _)) (by simp [lsum, halfB_len])).mono ?_
    rintro e w9 ⟨v9, rfl, b9, n9, f9⟩
    refine ⟨_, rfl, ?_⟩
    have HB9 : Hid (IsBytes w9 v9 (dblB [(t : Int) + 1, x', y', z'])) := Lib.hid (by simpa [dblB] using b9.bytes)
    have hc9 := f9.at ((heap_alloc _ _ _ (lt_of_block hc8)).trans hc8) (fun h => h)
    have ha9 := f9.at ((heap_alloc _ _ _ (lt_of_block ha8)).trans ha8) (fun h => h)
    have HF9 := Lib.hid ((HF8.out.alloc _).trans f9 (fun _ h => h.elim))
    clear b9 n9 f9
    refine hK.out _ _ ⟨hc9, ha9⟩ (fun hHeld => ?_)
    clear hK K
    refine norm_ (a' := ?_) ?_ ?_
    rotate_left
    · show Act.put _ (some 70) _ = _
      simp only [Act.put, List.setIfInBounds_toArray, List.set_cons_zero, List.set_cons_succ, i64_w, i32_w]
      rfl
    refine one_ (i := 11) (N := some 71) #[true, true, true, true, true, true, true, true, true, true, true, true, false] rfl rfl (by kernel_rfl) (by decide) (fun K hK => ?_)
    refine goes_ Try.func16 (by kernel_rfl) rfl #[.pointer (some ⟨b, 0, none⟩), .int .i64 (i : Int), v9] (by rfl) rfl rfl (by simp only [List.map_toArray, List.map_cons, List.map_nil]; rfl) ?_
    with_reducible refine (write_ok b lb cl sp wv D w9 i _ _ (HD.out.fr HF9.out (fun _ _ h => h)) HUP.out (by have := HN.out; have := HI.out; omega) (by simp [dblB_len]) HB9.out (by have := HB.out; omega)).mono ?_
    rintro e w10 ⟨rfl, wv1, d10, mv10⟩
    refine ⟨_, rfl, ?_⟩
    have HD10 := Lib.hid d10
    have HM10 : Hid (Mv (jFoot b lb cp wv) (jFoot b lb cp wv1) w w10) := Lib.hid ((Mv.of_fr HF9.out.wide).trans mv10.jn)
    have hc10 := mv10.fr.at hc9 HCP.out
    have ha10 := mv10.fr.at ha9 (fun h => by have h1 := HD.out.lt _ h; have h2 := HHB.out; omega)
    clear d10 mv10
    refine hK.out _ _ ⟨hc10, ha10⟩ (fun hHeld => ?_)
    clear hK K
    refine norm_ (a' := ?_) ?_ ?_
    rotate_left
    · show Act.put _ (some 71) _ = _
      simp only [Act.put, List.setIfInBounds_toArray, List.set_cons_zero, List.set_cons_succ, i64_w, i32_w]
      rfl
    refine pure_ (i := 12) (N := some 9) (v := ?_) (a' := ?_) #[true, true, true, true, true, true, true, true, true, true, true, true, true] rfl rfl (by kernel_rfl) (fun _ _ _ h => h) (Or.inl ⟨by rfl, ?_⟩) ?_ ?_
    rotate_left
    · intro w'
      try simp only [List.getElem_toArray, List.getElem_cons_succ, List.getElem_cons_zero]
      go_simp
      with_reducible rfl
    rotate_left
    · simp only [Act.put, List.setIfInBounds_toArray, List.set_cons_zero, List.set_cons_succ, i64_w, i32_w]
      rfl
    refine done_ (by kernel_rfl) ?_

    have HU := Lib.hid (written_up i (dblB [(t : Int) + 1, x', y', z']) HUP.out HARM.out)
    clear hc4 ha4 ha4d hc4d HF4 hc6 ha6 hc8 ha8 hc9 ha9
    generalize hD' : D.written i (dblB [(t : Int) + 1, x', y', z']) = D' at *
    go_wp2_with (first
      | (go_at_call 15; refine (flush_up b lb cl sp wv1 D' w10 HD10.out HU.out.1).mono ?_; rintro e w11 ⟨rfl, d11, f11⟩; have HD11 := Lib.hid d11; have HF11 := Lib.hid f11; have hc11 := f11.at hc10 (fun h => HCP.out (h.elim .inl (fun h => .inr (.inl h)))); have ha11 := f11.at ha10 (fun h => by have h1 := HHB.out; have h2 := HD.out.lt b (.inl rfl); have h3 := HD.out.lt lb (.inr (.inl rfl)); omega); clear d11 f11))
    have HSET : Hid (Fr (fun j => j = cp) w11 ((((w11.setCell ⟨cp, 2, none⟩ (.int .i64 ((t : Int) + 1))).setCell ⟨cp, 3, none⟩ (.int .i64 x')).setCell ⟨cp, 4, none⟩ (.int .i64 y')).setCell ⟨cp, 5, none⟩ (.int .i64 z'))) := Lib.hid (fr_four cp w11 _ _ _ _)
    go_ret
    have hfx : Fr (fun j => j = cp) w11 ((((w11.setCell ⟨cp, 2, none⟩ (.int .i64 ((t : Int) + 1))).setCell ⟨cp, 3, none⟩ (.int .i64 x')).setCell ⟨cp, 4, none⟩ (.int .i64 y')).setCell ⟨cp, 5, none⟩ (.int .i64 z')) := HSET.out
    refine ⟨.slice none 0 0, rfl, ?_, ?_, ?_, ?_⟩
    · rw [hD']
      refine HD11.out.fr hfx (fun j hj he => ?_)
      subst he
      rcases hj with h | h | h
      · exact HCP.out (.inl h)
      · exact HCP.out (.inr (.inl h))
      · simp [Value.ownBlock] at h
    · unfold IsCell
      rw [heap_setCell_self, heap_setCell_self, heap_setCell_self, heap_setCell_self, hc11]; rfl
    · rintro (h | h | h)
      · exact HCP.out (.inl h)
      · exact HCP.out (.inr (.inl h))
      · simp [Value.ownBlock] at h
    · refine (HM10.out.trans ⟨HF11.out.mono (fun j _ hj => .inl (hj.elim .inl (fun h => .inr (.inl h)))), fun j hj => .inl ?_⟩).trans (Mv.of_fr (hfx.mono (fun j _ hj => .inr hj)))
      rcases hj with (h | h | h) | h
      · exact .inl (.inl h)
      · exact .inl (.inr (.inl h))
      · simp [Value.ownBlock] at h
      · exact .inr h
end Go.Proofs.Ytnpeeephkkmomaa
namespace Go.Proofs.Ytnpeeephkkmomaa
open Go.RowKit Go.Proofs.YtnpeeephkkmomaaW.PrintLast
set_option linter.unusedVariables false
set_option linter.unusedSimpArgs false

/-- A Reader ahead of what is left. -/
structure RdR (w : World) (rp : Nat) (v : Value) (l rest : List UInt8) : Prop where
  is : ∃ p, IsRd w rp v l p false ∧ l.drop p = rest
theorem RdR.fr {w w' : World} {F : Nat → Prop} {rp : Nat} {v : Value} {l rest : List UInt8} (h : RdR w rp v l rest) (hf : Fr F w w') (h1 : ¬ F rp) (h2 : ∀ k, v.ownBlock = some k → ¬ F k) : RdR w' rp v l rest := by
  obtain ⟨p, hp, hr⟩ := h.is
  exact ⟨p, hp.fr hf h1 h2, hr⟩
theorem drop_add {l rest a r : List UInt8} {p n : Nat} (h : l.drop p = rest) (hr : rest = a ++ r) (ha : a.length = n) : l.drop (p + n) = r := by
  rw [← List.drop_drop, h, hr, ← ha, List.drop_left]
theorem drop_len {l rest : List UInt8} {p : Nat} (h : l.drop p = rest) (hr : rest ≠ []) : p + rest.length = l.length := by
  have := congrArg List.length h
  rw [List.length_drop] at this
  have : rest.length ≠ 0 := fun h => hr (List.eq_nil_of_length_eq_zero h)
  omega
def RdTo (w : World) (rp : Nat) (v : Value) (l rest : List UInt8) (u : Value) (e : Ending) (w' : World) : Prop := e = .returned u ∧ RdR w' rp v l rest ∧ Fr (fun k => k = rp) w w'
theorem RdR.int {w : World} {rp : Nat} {v : Value} {l r : List UInt8} (n : Int) (h : RdR w rp v l (be8 n ++ r)) (hn : in64 n) : Calls Try.prog 61 #[.pointer (some ⟨rp, 0, none⟩)] w (RdTo w rp v l r (.int .i64 n)) := by
  obtain ⟨p, hp, hr⟩ := h.is
  have hl := drop_len hr (by intro h; have := congrArg List.length h; simp [be8_length] at this)
  rw [List.length_append, be8_length] at hl
  refine (int_ok rp v l p w hp (by omega)).mono ?_
  rintro e w' ⟨rfl, h1, h2⟩
  refine ⟨?_, ⟨p + 8, h1, drop_add hr rfl (be8_length n)⟩, h2⟩
  rw [hr, List.take_left' (be8_length n), rd8_be8 n hn]
theorem IsBytes.one {w : World} {v : Value} {c : UInt8} (h : IsBytes w v [c]) : ∃ ab off q, v = .slice (some ⟨ab, off, none⟩) 1 q ∧ cellIn w.heap[ab]? off = some (.int .u8 c.toNat) := by
  obtain ⟨ao, cap, rfl, h1, h2, h3, h4⟩ := h.is
  cases ao with
  | none => cases h3 rfl
  | some a =>
    have q0 := h4 a rfl 0 _ rfl
    have hs := cell_spot q0 rfl
    obtain ⟨ab, off, sp⟩ := a
    simp only at hs
    subst hs
    rw [Addr.add_mk, cell?_mk] at q0
    exact ⟨ab, off, cap, rfl, q0⟩
def TakeTo (w : World) (rp : Nat) (v : Value) (l r a : List UInt8) (e : Ending) (w' : World) : Prop :=
  ∃ v', e = .returned v' ∧ RdR w' rp v l r ∧ IsBytes w' v' a ∧ Fr (fun k => k = rp) w w'
theorem RdR.take {w : World} {rp : Nat} {v : Value} {l r : List UInt8} (a : List UInt8) (n : Nat) (hn : n = a.length) (ha : 0 < n) (h : RdR w rp v l (a ++ r)) : Calls Try.prog 83 #[.pointer (some ⟨rp, 0, none⟩), .int .i64 n] w (TakeTo w rp v l r a) := by
  obtain ⟨p, hp, hr⟩ := h.is
  have hl := drop_len hr (by intro h; have := congrArg List.length h; rw [List.length_append] at this; simp only [List.length_nil] at this; omega)
  rw [List.length_append] at hl
  refine (take_ok rp v l p n w hp (by omega)).mono ?_
  rintro e w' ⟨v', rfl, h1, h2, _, h3⟩
  refine ⟨v', rfl, ⟨p + n, h1, drop_add hr rfl hn.symm⟩, ?_, h3⟩
  rw [hr, List.take_left' hn.symm] at h2
  exact h2
theorem RdR.take0 {w : World} {rp : Nat} {v : Value} {l r : List UInt8} (h : RdR w rp v l r) : Calls Try.prog 83 #[.pointer (some ⟨rp, 0, none⟩), .int .i64 (0 : Nat)] w (TakeTo w rp v l r []) := by
  obtain ⟨p, hp, hr⟩ := h.is
  refine (take_ok rp v l p 0 w hp hp.le).mono ?_
  rintro e w' ⟨v', rfl, h1, h2, _, h3⟩
  exact ⟨v', rfl, ⟨p, h1, hr⟩, by simpa using h2, h3⟩
theorem RdR.takes {w : World} {rp : Nat} {v : Value} {l r : List UInt8} (a : List UInt8) (h : RdR w rp v l (a ++ r)) : Calls Try.prog 83 #[.pointer (some ⟨rp, 0, none⟩), .int .i64 (a.length : Nat)] w (TakeTo w rp v l r a) := by
  cases a with
  | nil => exact h.take0
  | cons x a => exact h.take (x :: a) _ rfl (by simp)
set_option maxRecDepth 100000 in
set_option maxHeartbeats 1000000 in
theorem RdR.text {w : World} {rp : Nat} {v : Value} {l r : List UInt8} (s : List UInt8) (hs : s.length ≤ 1099511627776) (h : RdR w rp v l (textOf s ++ r)) : Calls Try.prog 90 #[.pointer (some ⟨rp, 0, none⟩)] w (RdTo w rp v l r (str s)) := by
  have H := Lib.hid h
  have HS := Lib.hid hs
  obtain ⟨n, hn⟩ : ∃ n, n = s.length := ⟨_, rfl⟩
  have HN := Lib.hid hn
  clear h hs hn
  go_enter Try.func90, Try.ntmps90
  go_wp2_with (first
    | (go_at_call 61; refine (RdR.int (n : Int) (by have := H.out; unfold textOf at this; rw [List.append_assoc, ← HN.out] at this; exact this) (by have h1 := HN.out; have h2 := HS.out; constructor <;> omega)).mono ?_; rintro e w2 ⟨rfl, r2, f2⟩; have HR2 := Lib.hid r2; have HF2 := Lib.hid f2; clear r2 f2)
    | (go_at_call 83; refine (show Calls _ 83 #[_, .int .i64 (n : Int)] w2 (TakeTo w2 rp v l r s) from (by rw [HN.out]; exact HR2.out.takes s)).mono ?_; rintro e w3 ⟨v3, rfl, r3, b3, f3⟩; have k3 := cv309 w3 _ _ b3; have HR3 := Lib.hid r3; have HF3 := Lib.hid (HF2.out.trans f3 (fun _ h => .inl h)); clear r3 f3))
  go_ret
  exact ⟨rfl, HR3.out, HF3.out⟩
set_option maxRecDepth 100000 in
set_option maxHeartbeats 1000000 in
theorem RdR.bool {w : World} {rp : Nat} {v : Value} {l r : List UInt8} (x : Bool) (h : RdR w rp v l (boolOf x ++ r)) : Calls Try.prog 91 #[.pointer (some ⟨rp, 0, none⟩)] w (RdTo w rp v l r (.bool x)) := by
  cases x with
  | true =>
    have H := Lib.hid h
    clear h
    go_enter Try.func91, Try.ntmps91
    go_wp2_with (first
      | (go_at_call 83; refine (RdR.take (boolOf true) 1 (by simp [boolOf]) (by decide) H.out).mono ?_; rintro e w3 ⟨v3, rfl, r3, b3, f3⟩; obtain ⟨ab, off, q, rfl, hc3⟩ := b3.one; have hc3 : cellIn w3.heap[ab]? off = some (.int .u8 1) := hc3; have HR3 := Lib.hid r3; have HF3 := Lib.hid f3; clear r3 f3 b3))
    go_ret
    exact ⟨rfl, HR3.out, HF3.out⟩
  | false =>
    have H := Lib.hid h
    clear h
    go_enter Try.func91, Try.ntmps91
    go_wp2_with (first
      | (go_at_call 83; refine (RdR.take (boolOf false) 1 (by simp [boolOf]) (by decide) H.out).mono ?_; rintro e w3 ⟨v3, rfl, r3, b3, f3⟩; obtain ⟨ab, off, q, rfl, hc3⟩ := b3.one; have hc3 : cellIn w3.heap[ab]? off = some (.int .u8 0) := hc3; have HR3 := Lib.hid r3; have HF3 := Lib.hid f3; clear r3 f3 b3))
    go_ret
    exact ⟨rfl, HR3.out, HF3.out⟩
theorem RdR.left {w : World} {rp : Nat} {v : Value} {l r : List UInt8} (h : RdR w rp v l r) : Calls Try.prog 63 #[.pointer (some ⟨rp, 0, none⟩)] w fun e w' => e = .returned (.int .i64 (r.length : Nat)) ∧ Fr (fun _ => False) w w' := by
  obtain ⟨p, hp, hr⟩ := h.is
  refine (rd_left rp v l p false w hp).mono ?_
  rintro e w' ⟨rfl, f⟩
  refine ⟨?_, f⟩
  rw [← hr, List.length_drop]; rfl
theorem RdR.head {w : World} {rp : Nat} {v : Value} {l r : List UInt8} (h : RdR w rp v l r) : ∃ p : Nat, w.heap[rp]? = some (.cells #[v, .int .i64 p, .bool false] 133 (0, 0)) := by
  obtain ⟨p, hp, _⟩ := h.is
  exact ⟨p, hp.head⟩
set_option maxRecDepth 100000 in
set_option maxHeartbeats 1000000 in
theorem RdR.count {w : World} {rp : Nat} {v : Value} {l r : List UInt8} (n : Nat) (hb : r.length ≤ 1099511627776) (hn : n ≤ r.length / 9) (h : RdR w rp v l (be8 n ++ r)) : Calls Try.prog 89 #[.pointer (some ⟨rp, 0, none⟩), .int .i64 9] w (RdTo w rp v l r (.int .i64 n)) := by
  have H := Lib.hid h
  obtain ⟨m, hm⟩ : ∃ m, m = r.length := ⟨_, rfl⟩
  obtain ⟨q, hq⟩ : ∃ q, q = r.length / 9 := ⟨_, rfl⟩
  have HM := Lib.hid hm
  have HNB : Hid (in64 n) := Lib.hid (by constructor <;> omega)
  have A1 : wrap64 ((m : Int) / max 9 1) = (q : Int) := by rw [show max (9 : Int) 1 = 9 by decide, w64 _ (by omega)]; omega
  have t0 : decide ((n : Int) < 0) = false := by simp
  have t1 : decide ((q : Int) < (n : Int)) = false := by simp; omega
  have t1n : decide (q < n) = false := by simp; omega
  clear h hb hn hm hq
  go_enter Try.func89, Try.ntmps89
  go_wp2_with (first
    | (go_at_call 61; refine (RdR.int (n : Int) H.out HNB.out).mono ?_; rintro e w2 ⟨rfl, r2, f2⟩; obtain ⟨p2, hh2⟩ := r2.head; have HR2 := Lib.hid r2; have HF2 := Lib.hid f2; clear r2 f2)
    | (go_at_call 63; refine HR2.out.left.mono ?_; rw [← HM.out]; rintro e w3 ⟨rfl, f3⟩; have HF3 := Lib.hid (HF2.out.trans f3 (fun _ h => h.elim)); have hh3 := f3.at hh2 (fun h => h); have HFF3 := Lib.hid f3; clear f3))
  go_ret
  exact ⟨rfl, HR2.out.fr HFF3.out (fun h => h) (fun _ _ h => h), HF3.out⟩
set_option maxRecDepth 100000 in
set_option maxHeartbeats 1000000 in
theorem RdR.done {w : World} {rp : Nat} {v : Value} {l : List UInt8} (h : RdR w rp v l []) : Calls Try.prog 92 #[.pointer (some ⟨rp, 0, none⟩)] w fun e w' => e = .returned (.bool true) ∧ Fr (fun _ => False) w w' := by
  obtain ⟨p, hp, hr⟩ := h.is
  obtain rfl : p = l.length := by
    have := congrArg List.length hr
    rw [List.length_drop] at this
    have := hp.le
    simp at *; omega
  obtain ⟨ao, cap, rfl, _⟩ := hp.bytes.is
  have head := hp.head
  clear hp hr h
  have headd : w.drew.heap[rp]? = some (.cells #[.slice ao l.length cap, .int .i64 l.length, .bool false] 133 (0, 0)) := head
  go_enter Try.func92, Try.ntmps92
  go_wp2
  refine start_ (n := 18) (S := fun w' => w'.heap[rp]? = some (.cells #[.slice ao l.length cap, .int .i64 l.length, .bool false] 133 (0, 0))) (ds := []) #[false, false, false, false, false, false, false, false, false, false, false, false, false, false, false, false, false, false] (by kernel_rfl) rfl rfl (headd) (fun hHeld => ?_)
  refine pure_ (i := 0) (N := some 3) (v := ?_) (a' := ?_) #[true, false, false, false, false, false, false, false, false, false, false, false, false, false, false, false, false, false] rfl rfl (by kernel_rfl) (fun _ _ _ h => h) (Or.inl ⟨by rfl, ?_⟩) ?_ ?_
  rotate_left
  · intro w'
    try simp only [List.getElem_toArray, List.getElem_cons_succ, List.getElem_cons_zero]
    go_simp
    with_reducible rfl
  rotate_left
  · simp only [Act.put, List.setIfInBounds_toArray, List.set_cons_zero, List.set_cons_succ, i64_w, i32_w]
    rfl
  refine pure_ (i := 1) (N := some 4) (v := ?_) (a' := ?_) #[true, true, false, false, false, false, false, false, false, false, false, false, false, false, false, false, false, false] rfl rfl (by kernel_rfl) (fun _ _ _ h => h) (Or.inl ⟨by rfl, ?_⟩) ?_ ?_
  rotate_left
  · intro w'
    try simp only [List.getElem_toArray, List.getElem_cons_succ, List.getElem_cons_zero]
    go_simp
    with_reducible rfl
  rotate_left
  · simp only [Act.put, List.setIfInBounds_toArray, List.set_cons_zero, List.set_cons_succ, i64_w, i32_w]
    rfl
  refine pure_ (i := 2) (N := some 5) (v := ?_) (a' := ?_) #[true, true, true, false, false, false, false, false, false, false, false, false, false, false, false, false, false, false] rfl rfl (by kernel_rfl) (fun _ _ _ h => h) (Or.inl ⟨by rfl, ?_⟩) ?_ ?_
  rotate_left
  · intro w'
    try simp only [List.getElem_toArray, List.getElem_cons_succ, List.getElem_cons_zero]
    go_simp
    with_reducible rfl
  rotate_left
  · simp only [Act.put, List.setIfInBounds_toArray, List.set_cons_zero, List.set_cons_succ, i64_w, i32_w]
    rfl
  refine take_ (i := 3) (N := some 6) (v := ?_) (a' := ?_) #[true, true, true, true, false, false, false, false, false, false, false, false, false, false, false, false, false, false] rfl rfl (by kernel_rfl) (fun _ _ _ h => h) (Or.inl ⟨by rfl, ?_⟩) hHeld ?_ ?_
  rotate_left
  · intro w' s0
    try simp only [List.getElem_toArray, List.getElem_cons_succ, List.getElem_cons_zero]
    go_simp
    with_reducible rfl
  rotate_left
  · simp only [Act.put, List.setIfInBounds_toArray, List.set_cons_zero, List.set_cons_succ, i64_w, i32_w]
    rfl
  refine pure_ (i := 4) (N := some 7) (v := ?_) (a' := ?_) #[true, true, true, true, true, false, false, false, false, false, false, false, false, false, false, false, false, false] rfl rfl (by kernel_rfl) (fun _ _ _ h => h) (Or.inl ⟨by rfl, ?_⟩) ?_ ?_
  rotate_left
  · intro w'
    try simp only [List.getElem_toArray, List.getElem_cons_succ, List.getElem_cons_zero]
    go_simp
    with_reducible rfl
  rotate_left
  · simp only [Act.put, List.setIfInBounds_toArray, List.set_cons_zero, List.set_cons_succ, i64_w, i32_w]
    rfl
  refine pure_ (i := 5) (N := some 8) (v := ?_) (a' := ?_) #[true, true, true, true, true, true, false, false, false, false, false, false, false, false, false, false, false, false] rfl rfl (by kernel_rfl) (fun _ _ _ h => h) (Or.inl ⟨by rfl, ?_⟩) ?_ ?_
  rotate_left
  · intro w'
    try simp only [List.getElem_toArray, List.getElem_cons_succ, List.getElem_cons_zero]
    go_simp
    with_reducible rfl
  rotate_left
  · simp only [Act.put, List.setIfInBounds_toArray, List.set_cons_zero, List.set_cons_succ, i64_w, i32_w]
    rfl
  refine pure_ (i := 6) (N := some 9) (v := ?_) (a' := ?_) #[true, true, true, true, true, true, true, false, false, false, false, false, false, false, false, false, false, false] rfl rfl (by kernel_rfl) (fun _ _ _ h => h) (Or.inl ⟨by rfl, ?_⟩) ?_ ?_
  rotate_left
  · intro w'
    try simp only [List.getElem_toArray, List.getElem_cons_succ, List.getElem_cons_zero]
    go_simp
    with_reducible rfl
  rotate_left
  · simp only [Act.put, List.setIfInBounds_toArray, List.set_cons_zero, List.set_cons_succ, i64_w, i32_w]
    rfl
  refine pure_ (i := 7) (N := some 10) (v := ?_) (a' := ?_) #[true, true, true, true, true, true, true, true, false, false, false, false, false, false, false, false, false, false] rfl rfl (by kernel_rfl) (fun _ _ _ h => h) (Or.inl ⟨by rfl, ?_⟩) ?_ ?_
  rotate_left
  · intro w'
    try simp only [List.getElem_toArray, List.getElem_cons_succ, List.getElem_cons_zero]
    go_simp
    with_reducible rfl
  rotate_left
  · simp only [Act.put, List.setIfInBounds_toArray, List.set_cons_zero, List.set_cons_succ, i64_w, i32_w]
    rfl
  refine pure_ (i := 8) (N := some 11) (v := ?_) (a' := ?_) #[true, true, true, true, true, true, true, true, true, false, false, false, false, false, false, false, false, false] rfl rfl (by kernel_rfl) (fun _ _ _ h => h) (Or.inl ⟨by rfl, ?_⟩) ?_ ?_
  rotate_left
  · intro w'
    try simp only [List.getElem_toArray, List.getElem_cons_succ, List.getElem_cons_zero]
    go_simp
    with_reducible rfl
  rotate_left
  · simp only [Act.put, List.setIfInBounds_toArray, List.set_cons_zero, List.set_cons_succ, i64_w, i32_w]
    rfl
  refine pure_ (i := 10) (N := some 13) (v := ?_) (a' := ?_) #[true, true, true, true, true, true, true, true, true, false, true, false, false, false, false, false, false, false] rfl rfl (by kernel_rfl) (fun _ _ _ h => h) (Or.inl ⟨by rfl, ?_⟩) ?_ ?_
  rotate_left
  · intro w'
    try simp only [List.getElem_toArray, List.getElem_cons_succ, List.getElem_cons_zero]
    go_simp
    with_reducible rfl
  rotate_left
  · simp only [Act.put, List.setIfInBounds_toArray, List.set_cons_zero, List.set_cons_succ, i64_w, i32_w]
    rfl
  refine pure_ (i := 11) (N := some 14) (v := ?_) (a' := ?_) #[true, true, true, true, true, true, true, true, true, false, true, true, false, false, false, false, false, false] rfl rfl (by kernel_rfl) (fun _ _ _ h => h) (Or.inl ⟨by rfl, ?_⟩) ?_ ?_
  rotate_left
  · intro w'
    try simp only [List.getElem_toArray, List.getElem_cons_succ, List.getElem_cons_zero]
    go_simp
    with_reducible rfl
  rotate_left
  · simp only [Act.put, List.setIfInBounds_toArray, List.set_cons_zero, List.set_cons_succ, i64_w, i32_w]
    rfl
  refine pure_ (i := 12) (N := some 15) (v := ?_) (a' := ?_) #[true, true, true, true, true, true, true, true, true, false, true, true, true, false, false, false, false, false] rfl rfl (by kernel_rfl) (fun _ _ _ h => h) (Or.inl ⟨by rfl, ?_⟩) ?_ ?_
  rotate_left
  · intro w'
    try simp only [List.getElem_toArray, List.getElem_cons_succ, List.getElem_cons_zero]
    go_simp
    with_reducible rfl
  rotate_left
  · simp only [Act.put, List.setIfInBounds_toArray, List.set_cons_zero, List.set_cons_succ, i64_w, i32_w]
    rfl
  refine take_ (i := 9) (N := some 12) (v := ?_) (a' := ?_) #[true, true, true, true, true, true, true, true, true, true, true, true, true, false, false, false, false, false] rfl rfl (by kernel_rfl) (fun _ _ _ h => h) (Or.inl ⟨by rfl, ?_⟩) hHeld ?_ ?_
  rotate_left
  · intro w' s0
    try simp only [List.getElem_toArray, List.getElem_cons_succ, List.getElem_cons_zero]
    go_simp
    with_reducible rfl
  rotate_left
  · simp only [Act.put, List.setIfInBounds_toArray, List.set_cons_zero, List.set_cons_succ, i64_w, i32_w]
    rfl
  refine take_ (i := 13) (N := some 16) (v := ?_) (a' := ?_) #[true, true, true, true, true, true, true, true, true, true, true, true, true, true, false, false, false, false] rfl rfl (by kernel_rfl) (fun _ _ _ h => h) (Or.inl ⟨by rfl, ?_⟩) hHeld ?_ ?_
  rotate_left
  · intro w' s0
    try simp only [List.getElem_toArray, List.getElem_cons_succ, List.getElem_cons_zero]
    go_simp
    with_reducible rfl
  rotate_left
  · simp only [Act.put, List.setIfInBounds_toArray, List.set_cons_zero, List.set_cons_succ, i64_w, i32_w]
    rfl
  refine pure_ (i := 14) (N := some 17) (v := ?_) (a' := ?_) #[true, true, true, true, true, true, true, true, true, true, true, true, true, true, true, false, false, false] rfl rfl (by kernel_rfl) (fun _ _ _ h => h) (Or.inl ⟨by rfl, ?_⟩) ?_ ?_
  rotate_left
  · intro w'
    try simp only [List.getElem_toArray, List.getElem_cons_succ, List.getElem_cons_zero]
    go_simp
    with_reducible rfl
  rotate_left
  · simp only [Act.put, List.setIfInBounds_toArray, List.set_cons_zero, List.set_cons_succ, i64_w, i32_w]
    rfl
  refine pure_ (i := 15) (N := some 18) (v := ?_) (a' := ?_) #[true, true, true, true, true, true, true, true, true, true, true, true, true, true, true, true, false, false] rfl rfl (by kernel_rfl) (fun _ _ _ h => h) (Or.inl ⟨by rfl, ?_⟩) ?_ ?_
  rotate_left
  · intro w'
    try simp only [List.getElem_toArray, List.getElem_cons_succ, List.getElem_cons_zero]
    go_simp
    with_reducible rfl
  rotate_left
  · simp only [Act.put, List.setIfInBounds_toArray, List.set_cons_zero, List.set_cons_succ, i64_w, i32_w]
    rfl
  refine pure_ (i := 16) (N := some 19) (v := ?_) (a' := ?_) #[true, true, true, true, true, true, true, true, true, true, true, true, true, true, true, true, true, false] rfl rfl (by kernel_rfl) (fun _ _ _ h => h) (Or.inl ⟨by rfl, ?_⟩) ?_ ?_
  rotate_left
  · intro w'
    try simp only [List.getElem_toArray, List.getElem_cons_succ, List.getElem_cons_zero]
    go_simp
    with_reducible rfl
  rotate_left
  · simp only [Act.put, List.setIfInBounds_toArray, List.set_cons_zero, List.set_cons_succ, i64_w, i32_w]
    rfl
  refine pure_ (i := 17) (N := some 2) (v := ?_) (a' := ?_) #[true, true, true, true, true, true, true, true, true, true, true, true, true, true, true, true, true, true] rfl rfl (by kernel_rfl) (fun _ _ _ h => h) (Or.inl ⟨by rfl, ?_⟩) ?_ ?_
  rotate_left
  · intro w'
    try simp only [List.getElem_toArray, List.getElem_cons_succ, List.getElem_cons_zero]
    go_simp
    with_reducible rfl
  rotate_left
  · simp only [Act.put, List.setIfInBounds_toArray, List.set_cons_zero, List.set_cons_succ, i64_w, i32_w]
    rfl
  refine done_ (by kernel_rfl) ?_

  go_wp2
  go_ret
  exact ⟨by simp, (Fr.refl _ w).drew⟩
end Go.Proofs.Ytnpeeephkkmomaa
namespace Go.Proofs.Ytnpeeephkkmomaa
open Go.RowKit Go.Proofs.YtnpeeephkkmomaaW.PrintLast
set_option linter.unusedVariables false
set_option linter.unusedSimpArgs false

/-- What is read of a change: the value of one that takes away is not written. -/
def normC (c : Chg) : Chg := { c with val := if c.gone then [] else c.val }
theorem wpList_append_chg {ops : Array Oper} {rest : List Oper} {o : Oper} {a : Act} {w : World} {Q : Exit → Act → World → Prop} (hgd : o.guard = none) (s x : Operand)
    (ho : o.op = .call { callee := .builtin .append, args := #[s, x], argTypes := #[65, 65] })
    (v : Value) (l : List Chg) (hs : a.eval s = v) (hown : OwnChg w v l) (g q : Nat) (hx : a.eval x = .slice (some ⟨g, 0, none⟩) 1 q) (c : Chg) (hg : w.heap[g]? = some (.cells (chCells c).toArray 75 (0, 0))) (hroom : l.length ≤ 1099511627776)
    (h : ∀ v' w', OwnChg w' v' (l ++ [c]) → Fr (fun k => v.ownBlock = some k) w w' → (v'.ownBlock = v.ownBlock ∨ v'.ownBlock = some w.heap.size) → wpList Try.prog ops Q rest (a.put o.dst v') w') :
    wpList Try.prog ops Q (o :: rest) a w := by
  obtain ⟨inf, hinf, hz0, hz1, hz2⟩ := info_parts info75
  refine wpList_append hgd s x 65 ho 75 inf _ 3 40 Try.underlying65 hinf hz0 hz1 hz2 rfl (by decide) v l.length (l.flatMap chCells) hs hown ⟨g, 0, none⟩ 1 q (chCells c) hx rfl (fun j u hu => by rw [Addr.add_mk, Nat.zero_add]; exact (cells_at hg j).trans (by simpa using hu)) (ch_one c) (Room.one (by unfold maxLen; omega) (by decide) (by omega)) ?_
  intro v' w' own fr fresh
  refine h v' w' ?_ fr fresh
  unfold OwnChg
  rw [List.length_append, List.length_singleton, List.flatMap_append]
  simpa using own

structure DecAt (w w1 : World) (rp : Nat) (rv : Value) (full rest : List UInt8) (cur : Value) (xs : List Chg) (wr : World) : Prop where
  rd : RdR wr rp rv full rest
  lt : rp < w1.heap.size
  vlt : ∀ k, rv.ownBlock = some k → k < w1.heap.size
  old : w.heap.size ≤ rp
  own : OwnChg wr cur xs
  new : ∀ j, cur.ownBlock = some j → w1.heap.size ≤ j
  fr : Fr (fun _ => False) w wr
  size : w1.heap.size ≤ wr.heap.size
theorem DecAt.to {w w1 wr w' : World} {rp : Nat} {rv : Value} {full rest r : List UInt8} {cur : Value} {xs : List Chg} {u : Value} {e : Ending} (h : DecAt w w1 rp rv full rest cur xs wr) (t : RdTo wr rp rv full r u e w') :
    e = .returned u ∧ DecAt w w1 rp rv full r cur xs w' ∧ Fr (fun k => k = rp) wr w' := by
  obtain ⟨rfl, h1, h2⟩ := t
  exact ⟨rfl, ⟨h1, h.lt, h.vlt, h.old, h.own.fr h2 (fun k hk e => by have := h.new k hk; have := h.lt; omega), h.new, h.fr.trans h2 (fun j hj => .inr (by have := h.old; omega)), Nat.le_trans h.size h2.size⟩, h2⟩
theorem DecAt.still {w w1 wr w' : World} {rp : Nat} {rv : Value} {full rest : List UInt8} {cur : Value} {xs : List Chg} (h : DecAt w w1 rp rv full rest cur xs wr) (hf : Fr (fun _ => False) wr w') : DecAt w w1 rp rv full rest cur xs w' :=
  ⟨h.rd.fr hf (fun h => h) (fun _ _ h => h), h.lt, h.vlt, h.old, h.own.fr hf (fun _ _ h => h), h.new, h.fr.trans hf (fun _ h => h.elim), Nat.le_trans h.size hf.size⟩
theorem DecAt.push {w w1 wr w' : World} {rp : Nat} {rv : Value} {full rest : List UInt8} {cur v' : Value} {xs : List Chg} {c : Chg} (h : DecAt w w1 rp rv full rest cur xs wr) (ho : OwnChg w' v' (xs ++ [c])) (hf : Fr (fun k => cur.ownBlock = some k) wr w') (hn : v'.ownBlock = cur.ownBlock ∨ v'.ownBlock = some wr.heap.size) :
    DecAt w w1 rp rv full rest v' (xs ++ [c]) w' := by
  refine ⟨h.rd.fr hf (fun hj => by have := h.new _ hj; have := h.lt; omega) (fun k hk hj => by have := h.new _ hj; have := h.vlt k hk; omega), h.lt, h.vlt, h.old, ho, fun j hj => ?_, h.fr.trans hf (fun j hj => .inr (by have := h.new j hj; have := h.lt; have := h.old; omega)), Nat.le_trans h.size hf.size⟩
  rcases hn with e | e
  · exact h.new j (e.symm.trans hj)
  · rw [e] at hj; cases hj; exact h.size
theorem DecAt.at {w w1 wr w' : World} {rp : Nat} {rv : Value} {full rest : List UInt8} {cur : Value} {xs : List Chg} {bx : Nat} (h : DecAt w w1 rp rv full rest cur xs wr) (hf : Fr (fun k => k = bx) wr w') (hb : w1.heap.size ≤ bx) (hne : cur.ownBlock ≠ some bx) : DecAt w w1 rp rv full rest cur xs w' :=
  ⟨h.rd.fr hf (fun hj => by have := h.lt; omega) (fun k hk hj => by have := h.vlt k hk; omega), h.lt, h.vlt, h.old, h.own.fr hf (fun k hk e => hne (by rw [hk, e])), h.new, h.fr.trans hf (fun j hj => .inr (by have := h.lt; have := h.old; omega)), Nat.le_trans h.size hf.size⟩
theorem encOne_min (c : Chg) : 9 ≤ (encOne c).length := by
  unfold encOne textOf boolOf
  cases c.gone <;> simp [be8_length] <;> omega
theorem encAll_min (l : List Chg) : 9 * l.length ≤ (encAll l).length := by
  induction l with
  | nil => simp
  | cons c l ih =>
    have := encOne_min c
    simp only [encAll, List.flatMap_cons, List.length_append, List.length_cons] at *
    omega
def DecPost (w : World) (l : List Chg) (e : Ending) (w' : World) : Prop :=
  ∃ v, e = .returned (.tuple #[v, .bool true]) ∧ OwnChg w' v (l.map normC) ∧ (∀ k, v.ownBlock = some k → w.heap.size ≤ k) ∧ Fr (fun _ => False) w w'
set_option maxRecDepth 100000 in
set_option maxHeartbeats 4000000 in
theorem decode72 (v : Value) (l : List Chg) (w : World) (hv : IsBytes w v (encBytes l)) (hn : encN l ≤ 1099511627776) : Calls Try.prog 72 #[v] w (DecPost w l) := by
  have HV := Lib.hid hv; have HN := Lib.hid hn
  have hlen : (encBytes l).length ≤ 1099511627776 := by
    have := encAll_length l
    unfold encBytes; rw [List.length_append, be8_length]; omega
  have hlb : l.length ≤ 1099511627776 := by
    have h1 := encAll_min l; have := encAll_length l; omega
  have HLB := Lib.hid hlb
  have HLEN := Lib.hid hlen
  have HE : Hid ((encAll l).length ≤ 1099511627776) := Lib.hid (by have := encAll_length l; omega)
  obtain ⟨F, hF⟩ : ∃ F, F = encBytes l := ⟨_, rfl⟩
  have HFE : Hid (F = be8 l.length ++ encAll l) := Lib.hid hF
  rw [← hF] at HV HLEN
  clear hv hn hlen hlb hF
  go_enter Try.func72, Try.ntmps72
  go_wp2_with (first
    | (go_at_call 60; refine (rd_new v F (by have := HLEN.out; omega) _ HV.out).mono ?_; rintro e w1 ⟨rp, rv, rfl, r1, o1, n1, f1⟩; have HD1 : Hid (DecAt w w1 rp rv F F (.slice none 0 0) [] w1) := Lib.hid ⟨⟨0, r1, by simp⟩, lt_of_block r1.head, r1.bytes.blk (by intro h; have := congrArg List.length h; rw [HFE.out] at this; simp [be8_length] at this), o1, OwnChg.nil _, by simp [Value.ownBlock], f1, Nat.le_refl _⟩; have HR1 : Hid (RdR w1 rp rv F (be8 l.length ++ encAll l)) := Lib.hid ⟨0, r1, by rw [List.drop_zero]; exact HFE.out⟩; clear r1 o1 n1 f1)
    | (go_at_call 89; refine (RdR.count (l := F) (r := encAll l) l.length HE.out (by have := encAll_min l; omega) HR1.out).mono ?_; intro e w2 t2; obtain ⟨rfl, h2, _⟩ := HD1.out.to t2; have HD2 := Lib.hid h2; clear t2 h2))
  clear HD1 HR1
  go_loopw [5, 11] (fun cu i wr => ∃ (k : Nat) (cur : Value), k ≤ l.length ∧ i = .int .i64 k ∧ cur = cu ∧ DecAt w w1 rp rv F (encAll (l.drop k)) cur ((l.take k).map normC) wr) (fun _ i _ => l.length - (intOf i).toNat)
  case atStart => exact ⟨0, _, Nat.zero_le _, rfl, rfl, HD2.out⟩
  case round =>
    clear HD2
    obtain ⟨k, cur, hk, rfl, rfl, hd⟩ := hrel
    have HD := Lib.hid hd
    by_cases hlt : k < l.length
    · have hw1 : IntKind.i64.wrap ((k : Int) + 1) = (k : Int) + 1 := IntWalk.i64_in _ (by have := HLB.out; omega)
      have t1 : decide ((k : Int) < (l.length : Int)) = true := by simp; omega
      have t1n : decide (k < l.length) = true := by simp; omega
      have hst : encAll (l.drop k) = textOf l[k].key ++ (boolOf l[k].gone ++ ((if l[k].gone then [] else textOf l[k].val) ++ encAll (l.drop (k + 1)))) := by
        rw [List.drop_eq_getElem_cons hlt]; unfold encAll; rw [List.flatMap_cons]; unfold encOne; simp only [List.append_assoc]
      have htk : (l.take (k + 1)).map normC = (l.take k).map normC ++ [normC l[k]] := by rw [List.take_succ_eq_append_getElem hlt, List.map_append]; rfl
      have hcb : l[k].key.length ≤ 1099511627776 ∧ l[k].val.length ≤ 1099511627776 := by
        have h1 : encN (l.take (k + 1)) = encN (l.take k) + (17 + l[k].key.length + l[k].val.length) := by rw [List.take_succ_eq_append_getElem hlt, encN_snoc]
        have h2 := encN_take l (k + 1); have h3 := HN.out
        omega
      have HXL : Hid (((l.take k).map normC).length ≤ 1099511627776) := Lib.hid (by rw [List.length_map, List.length_take]; have := HLB.out; omega)
      rw [hst] at HD
      obtain ⟨R, hR⟩ : ∃ R, encAll (l.drop (k + 1)) = R := ⟨_, rfl⟩
      rw [hR] at HD
      have HRR := Lib.hid hR
      generalize hc : l[k] = c at *
      have HTK := Lib.hid htk; have HCB := Lib.hid hcb
      obtain ⟨oo, oc, rfl⟩ := hd.own.slice
      clear hst htk hcb hd hc hR
      generalize (l.take k).map normC = xs at *
      have hstr1 : Hid (str c.key = Value.string ⟨c.key.toArray⟩) := Lib.hid rfl
      have hstr2 : Hid (str c.val = Value.string ⟨c.val.toArray⟩) := Lib.hid rfl
      cases hg : c.gone with
      | true =>
        rw [hg] at HD
        simp only [if_true, List.nil_append] at HD
        have hnc : Hid (chCells (normC c) = [.string ⟨c.key.toArray⟩, .string ByteArray.empty, .bool true]) := Lib.hid (by unfold normC; rw [hg]; rfl)
        have HG := Lib.hid hg
        generalize (⟨c.key.toArray⟩ : ByteArray) = S1 at *
        clear hg
        go_wp2_with (first
          | (go_at_call 90; refine (HD.out.rd.text c.key HCB.out.1).mono ?_; rw [hstr1.out]; intro e w3 t3; obtain ⟨rfl, h3, f3⟩ := HD.out.to t3; have HD3 := Lib.hid h3; clear t3 h3 f3)
          | (go_at_call 91; refine (HD3.out.rd.bool true).mono ?_; intro e w4 t4; obtain ⟨rfl, h4, f4⟩ := HD3.out.to t4; have HD4 := Lib.hid h4; clear t4 h4 f4)
          | (refine wpList_append_chg rfl (.tmp 24) (.tmp 26) rfl _ xs rfl (HD4.out.still (((Fr.refl (fun _ => False) w4).alloc _).alloc _)).own (w4.heap.size + 1) 1 rfl (normC c) (by rw [hnc.out]; have := heap_alloc_at (w4.alloc (.cells #[.string S1, .string ByteArray.empty, .bool true] 75 (0, 0))) (.cells #[.string S1, .string ByteArray.empty, .bool true] 75 (0, 0)); rwa [World.size_alloc] at this) HXL.out ?_; intro v6 w6 own6 fr6 fresh6; have HD6 := Lib.hid ((HD4.out.still (((Fr.refl (fun _ => False) w4).alloc _).alloc _)).push own6 fr6 fresh6); obtain ⟨o6, c6, rfl⟩ := own6.slice; clear own6 fr6 fresh6))
        rw [List.length_append, List.length_singleton] at HD6
        exact ⟨⟨k + 1, _, by omega, by go_num, rfl, by rw [HTK.out, HRR.out]; exact HD6.out⟩, by simp [intOf]; omega⟩
      | false =>
        rw [hg] at HD
        simp only [Bool.false_eq_true, if_false] at HD
        have hnc : Hid (chCells (normC c) = [.string ⟨c.key.toArray⟩, .string ⟨c.val.toArray⟩, .bool false]) := Lib.hid (by unfold normC; rw [hg]; rfl)
        have HG := Lib.hid hg
        generalize (⟨c.key.toArray⟩ : ByteArray) = S1 at *
        generalize (⟨c.val.toArray⟩ : ByteArray) = S2 at *
        have M1 : Hid True := Lib.hid trivial
        clear hg
        go_wp2_with (first
          | (go_at_call 90; clear M1; refine (HD.out.rd.text c.key HCB.out.1).mono ?_; rw [hstr1.out]; intro e w3 t3; obtain ⟨rfl, h3, f3⟩ := HD.out.to t3; have HD3 := Lib.hid h3; clear t3 h3 f3)
          | (go_at_call 91; refine (HD3.out.rd.bool false).mono ?_; intro e w4 t4; obtain ⟨rfl, h4, f4⟩ := HD3.out.to t4; have HD4 := Lib.hid h4; clear t4 h4 f4)
          | (go_at_call 90; refine ((HD4.out.still ((Fr.refl (fun _ => False) w4).alloc _)).rd.text c.val HCB.out.2).mono ?_; rw [hstr2.out]; intro e w5 t5; obtain ⟨rfl, h5, f5⟩ := (HD4.out.still ((Fr.refl (fun _ => False) w4).alloc _)).to t5; have HD5 := Lib.hid h5; have hbx5 := f5.at (heap_alloc_at w4 _) (fun h => by have h1 := HD4.out.lt; have h2 := HD4.out.size; omega); have HD5b := Lib.hid ((h5.at ((Fr.refl (fun k => k = w4.heap.size) w5).setCell (p := ⟨w4.heap.size, 1, none⟩) (.string S2) (.inl rfl)) HD4.out.size (fun h => by have := HD4.out.own.lt _ h; omega)).still ((Fr.refl (fun _ => False) _).alloc (.cells #[.string S1, .string S2, .bool false] 75 (0, 0)))); clear t5 h5 f5)
          | (refine wpList_append_chg rfl (.tmp 24) (.tmp 26) rfl _ xs rfl HD5b.out.own w5.heap.size 1 rfl (normC c) (by rw [hnc.out]; have := heap_alloc_at (w5.setCell ⟨w4.heap.size, 1, none⟩ (.string S2)) (.cells #[.string S1, .string S2, .bool false] 75 (0, 0)); rwa [World.size_setCell] at this) HXL.out ?_; intro v6 w6 own6 fr6 fresh6; have HD6 := Lib.hid (HD5b.out.push own6 fr6 fresh6); obtain ⟨o6, c6, rfl⟩ := own6.slice; clear own6 fr6 fresh6))
        rw [List.length_append, List.length_singleton] at HD6
        exact ⟨⟨k + 1, _, by omega, by go_num, rfl, by rw [HTK.out, HRR.out]; exact HD6.out⟩, by simp [intOf]; omega⟩
    · obtain rfl : k = l.length := by omega
      obtain ⟨oo, oc, hcur⟩ := hd.own.slice
      rw [List.take_length, List.length_map] at hcur
      rw [List.take_length] at HD
      clear hd
      subst hcur
      go_wp2_with (go_at_call 92; refine (RdR.done (by have := HD.out.rd; rw [List.drop_length] at this; exact this)).mono ?_; rintro e w3 ⟨rfl, f3⟩; have HD3 := Lib.hid (HD.out.still f3); clear f3)
      go_ret2
      refine ⟨_, rfl, ?_, fun j hj => Nat.le_of_lt (Nat.lt_of_le_of_lt HD3.out.old (Nat.lt_of_lt_of_le HD3.out.lt (HD3.out.new j hj))), HD3.out.fr⟩
      exact HD3.out.own
end Go.Proofs.Ytnpeeephkkmomaa
namespace Go.Proofs.Ytnpeeephkkmomaa
open Go.RowKit
set_option linter.unusedVariables false
set_option linter.unusedSimpArgs false

/-- The disk is up, and nothing waits. -/
structure DkUp (D : Dk) (n : Nat) : Prop where
  ok : D.Ok
  len : D.secs.length = n
  buf : D.buf = []
  up : D.down = false
  arm : D.armed ≤ 0
def CellIs (D : Dk) (t : Nat) (x y z : Int) (prev : Int × Int × Int × Int) : Prop :=
  D.told ((t + 1) % 2) = dblB [(t : Int), x, y, z] ∧ D.told (t % 2) = dblB (q4 prev) ∧ (∀ u ∈ [(t : Int), x, y, z], in64 u) ∧ (∀ u ∈ q4 prev, in64 u) ∧ (prev.1 < t ∨ (t = 0 ∧ prev = (0, 0, 0, 0)))
def CellOn (D : Dk) (t : Nat) (x y z : Int) : Prop := (t = 0 → x = 0 ∧ y = 0 ∧ z = 0) ∧ ∃ prev, CellIs D t x y z prev
theorem CellOn.pick {D : Dk} {t : Nat} {x y z : Int} (h : CellOn D t x y z) :
    ∃ H : Nat → Int × Int × Int × Int, (∀ k, k < 2 → D.told k = dblB (q4 (H k)) ∧ ∀ u ∈ q4 (H k), in64 u) ∧ pk H 2 = ((t : Int), x, y, z) := by
  obtain ⟨h0, prev, h1, h2, h3, h4, h5⟩ := h
  obtain ⟨H, hH⟩ : ∃ H : Nat → Int × Int × Int × Int, H = fun k => if k = (t + 1) % 2 then ((t : Int), x, y, z) else prev := ⟨_, rfl⟩
  have hA : H ((t + 1) % 2) = ((t : Int), x, y, z) := by rw [hH]; exact if_pos rfl
  have hB : H (t % 2) = prev := by rw [hH]; exact if_neg (by omega)
  refine ⟨H, fun k hk => ?_, ?_⟩
  · by_cases hc : k = (t + 1) % 2
    · rw [hc, hA]; exact ⟨h1, h3⟩
    · rw [show k = t % 2 by omega, hB]; exact ⟨h2, h4⟩
  · have e2 : pk H 2 = if 0 < (H 1).1 ∧ (pk H 1).1 < (H 1).1 then H 1 else pk H 1 := rfl
    have e1 : pk H 1 = if 0 < (H 0).1 ∧ 0 < (H 0).1 then H 0 else (0, 0, 0, 0) := rfl
    rcases Nat.eq_zero_or_pos t with ht | ht
    · subst ht
      obtain ⟨rfl, rfl, rfl⟩ := h0 rfl
      have hp : ¬ 0 < prev.1 := by
        rcases h5 with h | ⟨_, h⟩
        · omega
        · rw [h]; simp
      have g0 : H 0 = prev := hB
      have g1 : H 1 = (((0 : Nat) : Int), 0, 0, 0) := hA
      rw [g0, if_neg (fun h => hp h.1)] at e1
      rw [e2, g1, e1]; rfl
    · have hp : prev.1 < t := by
        rcases h5 with h | ⟨h, _⟩
        · exact h
        · omega
      rcases (by omega : (t + 1) % 2 = 0 ∨ (t + 1) % 2 = 1) with e | e
      · have g0 : H 0 = ((t : Int), x, y, z) := by rw [← e]; exact hA
        have g1 : H 1 = prev := by rw [← hB]; congr 1; omega
        rw [g0, if_pos ⟨by simp; omega, by simp; omega⟩] at e1
        rw [e2, g1, e1, if_neg (fun h => by have := h.2; simp at this; omega)]
      · have g1 : H 1 = ((t : Int), x, y, z) := by rw [← e]; exact hA
        have g0 : H 0 = prev := by rw [← hB]; congr 1; omega
        rw [e2, g1, if_pos]
        refine ⟨by simp; omega, ?_⟩
        rw [e1, g0]
        split
        · simpa using hp
        · simp; omega
theorem CellOn.turn {D : Dk} {t : Nat} {x y z : Int} (h : CellOn D t x y z) : (t : Int) + 1 ∉ turnsOf (D.told (t % 2)) := by
  obtain ⟨h0, prev, h1, h2, h3, h4, h5⟩ := h
  have e0 := dblB_at (q4 prev) 0 (by simp [q4])
  have e4 := dblB_at (q4 prev) 4 (by simp [q4])
  have hb := rd8_be8 prev.1 (h4 prev.1 (by simp [q4]))
  have : turnsOf (dblB (q4 prev)) = [prev.1, prev.1] := by
    unfold turnsOf
    simp only [Nat.mul_zero, List.drop_zero] at e0
    rw [e0, show (32 : Nat) = 8 * 4 from rfl, e4]
    simp only [q4, List.cons_append, List.nil_append, List.getElem_cons_zero, List.getElem_cons_succ]
    rw [hb]
  rw [h2, this]
  simp
  rcases h5 with h | ⟨h, h'⟩
  · omega
  · rw [h']; simp; omega
theorem told_nil {D : Dk} (h : D.buf = []) (i : Nat) : D.told i = D.secs.getD i [] := by unfold Dk.told; rw [h]; rfl

/-- A Set. -/
theorem written_flushed {D : Dk} {n : Nat} (h : DkUp D n) (i : Nat) (hi : i < n) (l : List UInt8) (hl : l.length = 64) :
    DkUp (D.written i l).flushed n ∧ (D.written i l).flushed.secs = D.secs.set i l := by
  have hp : pad64 l = l := by unfold pad64; rw [hl]; simp
  have e1 : (D.written i l).secs = D.secs := rfl
  have e2 : (D.written i l).buf = [(i, l)] := by simp only [Dk.written, Dk.changed]; rw [h.buf, hp]; rfl
  have e3 := written_up i l h.up h.arm
  have e4 : (D.written i l).flushed.secs = D.secs.set i l := by
    simp only [Dk.flushed, Dk.changed, e1, e2]; rfl
  have ha := h.ok.armed
  have e5 : (D.written i l).armed = D.armed := by simp only [Dk.written, Dk.changed]; rw [if_neg (by have := h.arm; omega)]
  have e6 : (D.written i l).flushed.armed = D.armed := by simp only [Dk.flushed, Dk.changed, e5]; rw [if_neg (by have := h.arm; omega)]
  have e7 : (D.written i l).flushed.down = false := by simp only [Dk.flushed, Dk.changed, e5]; rw [if_neg (by have := h.arm; omega)]; exact e3.1
  refine ⟨⟨⟨?_, ?_, ?_, ?_, ?_⟩, ?_, rfl, e7, by rw [e6]; exact h.arm⟩, e4⟩
  · rw [e4, List.length_set]; exact h.ok.one
  · rw [e4, List.length_set]; exact h.ok.most
  · rw [e4]
    intro s hs
    rcases List.mem_or_eq_of_mem_set hs with h1 | h1
    · exact h.ok.len s h1
    · rw [h1]; exact hl
  · intro x hx; cases hx
  · rw [e6]; exact ha
  · rw [e4, List.length_set]; exact h.len
theorem set_law {D : Dk} {n : Nat} (h : DkUp D n) (hn : 2 ≤ n) {t : Nat} {x y z : Int} (hc : CellOn D t x y z) (ht : in64 ((t : Int) + 1)) (x' y' z' : Int) (hx : in64 x') (hy : in64 y') (hz : in64 z') :
    DkUp (D.written (t % 2) (dblB [(t : Int) + 1, x', y', z'])).flushed n ∧ CellOn (D.written (t % 2) (dblB [(t : Int) + 1, x', y', z'])).flushed (t + 1) x' y' z' ∧
      ∀ fr pre, 2 ≤ fr → Good fr pre D → Good fr pre (D.written (t % 2) (dblB [(t : Int) + 1, x', y', z'])).flushed := by
  obtain ⟨u1, u2⟩ := written_flushed h (t % 2) (by omega) (dblB [(t : Int) + 1, x', y', z']) (by simp [dblB_len])
  obtain ⟨h0, prev, h1, h2, h3, h4, h5⟩ := hc
  refine ⟨u1, ⟨fun h => by omega, ((t : Int), x, y, z), ?_, ?_, ?_, h3, .inl (by simp; omega)⟩, fun fr pre hf hg => ⟨fun q s hs => ?_, fun _ hx => by rw [u1.buf] at hx; cases hx⟩⟩
  · rw [told_nil u1.buf, u2, show (t + 1 + 1) % 2 = t % 2 by omega, List.getD_eq_getElem?_getD, List.getElem?_set_self (by rw [h.len]; omega)]
    simp
  · rw [told_nil u1.buf, u2, List.getD_eq_getElem?_getD, List.getElem?_set_ne (by omega), ← List.getD_eq_getElem?_getD, ← told_nil h.buf, h1]; rfl
  · intro u hu
    simp only [List.mem_cons, List.not_mem_nil, or_false] at hu
    rcases hu with rfl | rfl | rfl | rfl
    · exact_mod_cast ht
    · exact hx
    · exact hy
    · exact hz
  · rw [u2, List.getElem?_set_ne (by omega)] at hs
    exact hg.1 q s hs
/-- An Append that went well. -/
theorem append_law {D E : Dk} {n : Nat} (h : DkUp D n) (hE : E.Ok) (hE1 : E.down = false) (hE2 : E.armed = D.armed) (hb : E.buf = []) (fr s k : Nat) (f : List UInt8) (hfr : 2 ≤ fr) (hs : E.secs = settled D.secs (D.buf ++ wsOf f (fr + s) k)) :
    DkUp E n ∧ ∀ t x y z, CellOn D t x y z → CellOn E t x y z := by
  have hu : DkUp E n := ⟨hE, by rw [hs, settled_length]; exact h.len, hb, hE1, by rw [hE2]; exact h.arm⟩
  have ht : ∀ i, i < 2 → E.told i = D.told i := fun i hi => by
    rw [told_nil hb, told_nil h.buf, hs, h.buf, List.nil_append, List.getD_eq_getElem?_getD, List.getD_eq_getElem?_getD, settled_get]
    cases hh : D.secs[i]? with
    | none => rfl
    | some y => simp only [Option.map_some, Option.getD_some]; rw [lastAt_ws, if_neg (by omega)]
  refine ⟨hu, fun t x y z hc => ?_⟩
  obtain ⟨h0, prev, h1, h2, h3⟩ := hc
  exact ⟨h0, prev, by rw [ht _ (by omega)]; exact h1, by rw [ht _ (by omega)]; exact h2, h3⟩
theorem applyOne_last (l : List Chg) (c : Chg) (hk : c.gone = false) (hlt : ∀ x ∈ l, Lib.compareBytes x.key c.key < 0) : applyOne l c = l ++ [c] := by
  have hp : posOf l c.key = l.length := tw_len _ l l.length (Nat.le_refl _) (fun q hq _ => by simpa using hlt _ (List.getElem_mem hq)) (fun h => by omega)
  have hh : hasKey l c.key = false := by
    unfold hasKey
    rw [List.any_eq_false]
    intro x hx he
    have h1 := hlt x hx
    have h2 : x.key = c.key := by simpa using he
    rw [h2, cb_refl] at h1
    exact absurd h1 (by decide)
  unfold applyOne
  rw [hh, hp, hk]
  simp
theorem applyAll_self (L : List Chg) (hr : Rising L) (hk : Kept L) : applyAll [] L = L := by
  have h : ∀ k, k ≤ L.length → applyAll [] (L.take k) = L.take k := by
    intro k
    induction k with
    | zero => intro _; simp [applyAll]
    | succ k ih =>
      intro hl
      rw [List.take_succ_eq_append_getElem (by omega), applyAll_snoc, ih (by omega)]
      refine applyOne_last _ _ (hk _ (List.getElem_mem _)) (fun x hx => ?_)
      obtain ⟨i, hi, rfl⟩ := List.mem_iff_getElem.1 hx
      rw [List.length_take] at hi
      rw [List.getElem_take]
      exact hr i k (by omega) (by omega) (by omega)
  have := h L.length (Nat.le_refl _)
  rwa [List.take_length] at this
theorem applyOne_norm (a : List Chg) (c : Chg) : applyOne a (normC c) = applyOne a c := by
  cases hg : c.gone with
  | false =>
    have : normC c = c := by cases c; simp_all [normC]
    rw [this]
  | true =>
    have h1 : (normC c).key = c.key := rfl
    have h2 : (normC c).gone = true := hg
    unfold applyOne
    rw [h1, h2, hg]
    simp
theorem applyAll_norm (b : List Chg) : ∀ a, applyAll a (b.map normC) = applyAll a b := by
  unfold applyAll
  induction b with
  | nil => intro a; rfl
  | cons c b ih => intro a; rw [List.map_cons, List.foldl_cons, List.foldl_cons, applyOne_norm, ih]
/-- What batches come to. -/
def hasOf (fs : List (List Chg)) : List Chg := fs.foldl applyAll []
theorem hasOf_snoc (fs : List (List Chg)) (l : List Chg) : hasOf (fs ++ [l]) = applyAll (hasOf fs) l := by simp [hasOf]
theorem hasOf_kept (fs : List (List Chg)) : Rising (hasOf fs) ∧ Kept (hasOf fs) := by
  unfold hasOf
  have : ∀ (fs : List (List Chg)) (a : List Chg), Rising a ∧ Kept a → Rising (fs.foldl applyAll a) ∧ Kept (fs.foldl applyAll a) := by
    intro fs
    induction fs with
    | nil => intro a h; exact h
    | cons f fs ih => intro a h; exact ih _ ⟨h.1.all f, h.2.all f⟩
  exact this fs [] ⟨Rising.nil, fun c hc => by cases hc⟩
theorem hasOf_one (fs : List (List Chg)) : hasOf [hasOf fs] = hasOf fs := by
  have h := hasOf_kept fs
  show applyAll [] (hasOf fs) = _
  exact applyAll_self _ h.1 h.2
theorem hasOf_all (fs : List (List Chg)) (l : List Chg) : hasOf [applyAll (hasOf fs) l] = applyAll (hasOf fs) l := by
  rw [← hasOf_snoc]; exact hasOf_one _
theorem hasOf_length (fs : List (List Chg)) : (hasOf fs).length ≤ (fs.map List.length).sum := by
  unfold hasOf
  have : ∀ (fs : List (List Chg)) (a : List Chg), (fs.foldl applyAll a).length ≤ a.length + (fs.map List.length).sum := by
    intro fs
    induction fs with
    | nil => intro a; simp
    | cons f fs ih => intro a; have h1 := ih (applyAll a f); have h2 := applyAll_length a f; simp only [List.foldl_cons, List.map_cons, List.sum_cons]; omega
  simpa using this fs []
def halfN (n : Nat) : Nat := (n - 2) / 2
def fromN (n a : Nat) : Nat := 2 + a * ((n - 2) / 2)
def toN (n a : Nat) : Nat := 2 + a * ((n - 2) / 2) + (n - 2) / 2
theorem from_to (n a : Nat) (hn : 2 ≤ n) (ha : a ≤ 1) : 2 ≤ fromN n a ∧ fromN n a ≤ toN n a ∧ toN n a ≤ n ∧ toN n a - fromN n a = halfN n := by
  unfold fromN toN halfN
  rcases (by omega : a = 0 ∨ a = 1) with rfl | rfl <;> omega
/-- A store, as plain data: its area, how often its cell was set, the batches that its journal holds. -/
structure StoV where
  area : Nat
  turn : Nat
  fs : List (List Chg)
def StoV.bytes (S : StoV) : List UInt8 := framesOf (S.fs.map encBytes)
def StoV.en (S : StoV) : Nat := S.bytes.length
def StoV.ct (S : StoV) : Nat := S.fs.length
def StoV.has (S : StoV) : List Chg := hasOf S.fs
/-- What its disk holds. -/
structure OnDk (D : Dk) (n : Nat) (S : StoV) : Prop where
  up : DkUp D n
  area : S.area ≤ 1
  cell : CellOn D S.turn S.area S.en S.ct
  good : Good (fromN n S.area) S.bytes D
  fit : S.en ≤ halfN n * 64
  enc : ∀ f ∈ S.fs, encN f ≤ 1099511627776
theorem encAll_append (a b : List Chg) : encAll (a ++ b) = encAll a ++ encAll b := by simp [encAll]
theorem encAll_cons (c : Chg) (b : List Chg) : encAll (c :: b) = encOne c ++ encAll b := by simp [encAll]
theorem encAll_split (l : List Chg) (p : Nat) : (encAll l).length = (encAll (l.take p)).length + (encAll (l.drop p)).length := by
  rw [← List.length_append, ← encAll_append, List.take_append_drop]
theorem encAll_drop (l : List Chg) (p q : Nat) (h : p ≤ q) : (encAll (l.drop q)).length ≤ (encAll (l.drop p)).length := by
  have := encAll_split (l.drop p) (q - p)
  rw [List.drop_drop, show p + (q - p) = q by omega] at this
  omega
theorem encAll_one (l : List Chg) (c : Chg) : (encAll (applyOne l c)).length ≤ (encAll l).length + (encOne c).length := by
  unfold applyOne
  generalize posOf l c.key = p
  have h1 := encAll_split l p
  have h2 := encAll_drop l p (p + 1) (by omega)
  split
  · split
    · rw [List.eraseIdx_eq_take_drop_succ, encAll_append, List.length_append]; omega
    · rw [List.set_eq_take_append_cons_drop]
      split
      · rw [encAll_append, encAll_cons, List.length_append, List.length_append]; omega
      · omega
  · split
    · omega
    · rw [encAll_append, encAll_cons, List.length_append, List.length_append]; omega
theorem encAll_all (b : List Chg) : ∀ l, (encAll (applyAll l b)).length ≤ (encAll l).length + (encAll b).length := by
  induction b with
  | nil => intro l; simp [applyAll]
  | cons c b ih =>
    intro l
    have h1 := ih (applyOne l c)
    have h2 := encAll_one l c
    rw [encAll_cons, List.length_append]
    have e : applyAll l (c :: b) = applyAll (applyOne l c) b := rfl
    rw [e]; omega
theorem encN_kept (l : List Chg) (h : Kept l) : encN l = 8 + (encAll l).length := by
  induction l with
  | nil => rfl
  | cons c l ih =>
    have hc := h c (by simp)
    have h1 := ih (fun x hx => h x (by simp [hx]))
    rw [encAll_cons, List.length_append]
    have h2 : (encOne c).length = 17 + c.key.length + c.val.length := by
      unfold encOne textOf boolOf
      rw [hc]
      simp [be8_length]; omega
    simp only [encN, List.map_cons, List.sum_cons] at *
    omega
theorem hasOf_enc (fs : List (List Chg)) : (encAll (hasOf fs)).length + 8 * fs.length ≤ (framesOf (fs.map encBytes)).length := by
  have : ∀ (fs : List (List Chg)) (a : List Chg), (encAll (fs.foldl applyAll a)).length + 8 * fs.length ≤ (encAll a).length + (framesOf (fs.map encBytes)).length := by
    intro fs
    induction fs with
    | nil => intro a; simp [framesOf]
    | cons f fs ih =>
      intro a
      have h1 := ih (applyAll a f)
      have h2 := encAll_all f a
      rw [List.map_cons, framesOf_cons, List.length_append, frameOf_length]
      have h3 : (encBytes f).length = 8 + (encAll f).length := by unfold encBytes; rw [List.length_append, be8_length]
      simp only [List.foldl_cons, List.length_cons]
      omega
  simpa [hasOf, encAll] using this fs []
theorem OnDk.small {D : Dk} {n : Nat} {S : StoV} (h : OnDk D n S) : S.en ≤ 2097152 ∧ S.has.length ≤ 2097152 ∧ S.ct ≤ 2097152 ∧ (encAll S.has).length ≤ S.en := by
  have h1 := h.fit
  have h2 := h.up.ok.most
  rw [h.up.len] at h2
  have h3 := hasOf_enc S.fs
  have h4 := encAll_min S.has
  have h5 : S.en = (framesOf (S.fs.map encBytes)).length := rfl
  have h6 : S.ct = S.fs.length := rfl
  have h7 : S.has = hasOf S.fs := rfl
  unfold halfN at h1
  rw [← h7, ← h5] at h3
  omega
end Go.Proofs.Ytnpeeephkkmomaa
namespace Go.Proofs.Ytnpeeephkkmomaa
open Go.RowKit Go.Proofs.YtnpeeephkkmomaaW.PrintLast
set_option linter.unusedVariables false
set_option linter.unusedSimpArgs false

def stFoot (b lb cp jp s : Nat) (wv hv : Value) : Nat → Prop := fun j => dkFoot b lb wv j ∨ j = cp ∨ j = jp ∨ j = s ∨ hv.ownBlock = some j
structure StM (W w : World) (X : Nat → Prop) (n b s : Nat) (S : StoV) (cp jp lb cl : Nat) (sp : Array Value) (wv hv : Value) (D : Dk) : Prop where
  dk : IsDk w b lb cl sp wv D
  cell : IsCell w cp b S.turn S.area S.en S.ct
  j : IsJ w jp b (fromN n S.area : Nat) (toN n S.area : Nat) S.en S.ct
  st : w.heap[s]? = some (.cells #[.pointer (some ⟨b, 0, none⟩), .pointer (some ⟨cp, 0, none⟩), .pointer (some ⟨jp, 0, none⟩), .int .i64 S.area, hv] 116 (0, 0))
  has : OwnChg w hv S.has
  on : OnDk D n S
  ncp : ¬ dkFoot b lb wv cp
  njp : ¬ dkFoot b lb wv jp
  ns : ¬ dkFoot b lb wv s
  ne : cp ≠ jp ∧ cp ≠ s ∧ jp ≠ s
  nhv : ∀ k, hv.ownBlock = some k → ¬ dkFoot b lb wv k ∧ k ≠ cp ∧ k ≠ jp ∧ k ≠ s
  own : Fr (fun _ => False) W w
  foot : ∀ j, stFoot b lb cp jp s wv hv j → Aside W X j
  aside : ∀ j, X j → j < w.heap.size
/-- A store at block s over the disk at block b. -/
def StH (W w : World) (X : Nat → Prop) (n b s : Nat) (S : StoV) : Prop := ∃ cp jp lb cl sp wv hv D, StM W w X n b s S cp jp lb cl sp wv hv D
/-- A disk that holds a store. -/
def DkH (W w : World) (X : Nat → Prop) (n b : Nat) (S : StoV) : Prop :=
  ∃ lb cl sp wv D, IsDk w b lb cl sp wv D ∧ OnDk D n S ∧ Fr (fun _ => False) W w ∧ (∀ j, dkFoot b lb wv j → Aside W X j) ∧ ∀ j, X j → j < w.heap.size

theorem place71' (b lb cl : Nat) (sp : Array Value) (wv : Value) (D : Dk) (w : World) (n area : Nat) (h : IsDk w b lb cl sp wv D) (hl : D.secs.length = n) (ha : area ≤ 1) (h2 : 2 ≤ n) :
    Calls Try.prog 71 #[.pointer (some ⟨b, 0, none⟩), .int .i64 area] w fun e w' => e = .returned (.tuple #[.int .i64 (fromN n area : Nat), .int .i64 (toN n area : Nat)]) ∧ w = w' := by
  subst hl
  exact place71 b lb cl sp wv D w area h ha h2
theorem j_open' {b lb cl : Nat} {sp : Array Value} {wv : Value} {D : Dk} {n : Nat} {S : StoV} {w : World} (h : IsDk w b lb cl sp wv D) (hn : 2 ≤ n) (on : OnDk D n S) (fr tq en ct : Nat) (e1 : fr = fromN n S.area) (e2 : tq = toN n S.area) (e3 : en = S.en) (e4 : ct = S.ct) :
    Calls Try.prog 30 #[.pointer (some ⟨b, 0, none⟩), .int .i64 fr, .int .i64 tq, .int .i64 en, .int .i64 ct] w (JOpenPost w b fr tq en (S.fs.map encBytes)) := by
  have hft := from_to n S.area hn on.area
  have e4' : ct = (S.fs.map encBytes).length := by rw [e4, List.length_map]; rfl
  rw [e4']
  have hfit := on.fit
  refine j_open b lb cl sp wv D fr tq en (S.fs.map encBytes) w h on.up.up (by omega) (by rw [on.up.len]; omega) (by rw [e3, e1, e2, hft.2.2.2]; exact hfit) ?_
  rw [e3, e1]
  exact on.good.tells on.up.ok (by rw [on.up.len]; have := hft.2.2.2; have e : S.bytes.length = S.en := rfl; omega)
/-- Behind k frames. -/
structure OpAt (w3 : World) (s b cp jp area : Nat) (fs : List (List Chg)) (k : Nat) (wr : World) : Prop where
  is : ∃ hv, wr.heap[s]? = some (.cells #[.pointer (some ⟨b, 0, none⟩), .pointer (some ⟨cp, 0, none⟩), .pointer (some ⟨jp, 0, none⟩), .int .i64 area, hv] 116 (0, 0)) ∧ OwnChg wr hv (hasOf (fs.take k)) ∧ ∀ j, hv.ownBlock = some j → w3.heap.size ≤ j
  fr : Fr (fun j => j = s) w3 wr

theorem StH.make {W w w3 W5 w7 wr : World} {X : Nat → Prop} {n b s cp jp lb cl a fr tq t en ct : Nat} {sp : Array Value} {wv hv : Value} {D : Dk} {S : StoV} (hd : IsDk w b lb cl sp wv D) (on : OnDk D n S) (own : Fr (fun _ => False) W w) (foot : ∀ j, dkFoot b lb wv j → Aside W X j) (aside : ∀ j, X j → j < w.heap.size)
    (he : fr = fromN n S.area ∧ tq = toN n S.area ∧ t = S.turn ∧ en = S.en ∧ ct = S.ct) (ha : a = S.area) (hs3 : w.heap.size ≤ w3.heap.size) (hcp : w.heap.size ≤ cp ∧ cp < w3.heap.size) (hs : s = w3.heap.size + 1 ∧ s < W5.heap.size) (hjp : W5.heap.size ≤ jp)
    (f7 : Fr (fun _ => False) w w7) (fR : Fr (fun j => j = s) w7 wr) (hc : IsCell w7 cp b t a en ct) (hj : IsJ w7 jp b fr tq en ct) (hst : wr.heap[s]? = some (.cells #[.pointer (some ⟨b, 0, none⟩), .pointer (some ⟨cp, 0, none⟩), .pointer (some ⟨jp, 0, none⟩), .int .i64 a, hv] 116 (0, 0)))
    (ho : OwnChg wr hv S.has) (hn : ∀ j, hv.ownBlock = some j → w7.heap.size ≤ j) : StH W wr X n b s S ∧ Fr (fun _ => False) w wr := by
  obtain ⟨rfl, rfl, rfl, rfl, rfl⟩ := he
  subst ha
  have fW : Fr (fun _ => False) w wr := f7.trans fR (fun j hj => .inr (by omega))
  have hjl := lt_of_block hj
  have hlt := hd.lt
  refine ⟨⟨cp, jp, lb, cl, sp, wv, hv, D, hd.fr fW (fun _ _ h => h), hc.fr fR (by omega), hj.fr fR (by omega), hst, ho, on, fun h => by have := hlt _ h; omega, fun h => by have := hlt _ h; omega, fun h => by have := hlt _ h; omega, by omega, fun k hk => ?_, own.trans fW (fun _ h => h.elim), fun j hj => ?_, fun j hj => Nat.lt_of_lt_of_le (aside j hj) fW.size⟩, fW⟩
  · have h1 := hn k hk
    have h2 := f7.size
    exact ⟨fun h => by have := hlt _ h; omega, by omega, by omega, by omega⟩
  · have hnew : w.heap.size ≤ j → Aside W X j := fun h => ⟨Nat.le_trans own.size h, fun hx => by have := aside j hx; omega⟩
    rcases hj with h | h | h | h | h
    · exact foot j h
    · exact hnew (by omega)
    · exact hnew (by omega)
    · exact hnew (by omega)
    · exact hnew (Nat.le_trans f7.size (hn j h))
theorem op_row {w : World} {s ab i L : Nat} {p q r u : Value} {T : TypeId} {uo : Option Addr} {uc : Nat} (hs : w.heap[s]? = some (.cells #[p, q, r, u, .slice none 0 0] T (0, 0))) (hp : ∀ o n c, p ≠ .slice o n c) (hq : ∀ o n c, q ≠ .slice o n c) (hr : ∀ o n c, r ≠ .slice o n c) (hu : ∀ o n c, u ≠ .slice o n c)
    (hc : cellIn w.heap[ab]? i = some (.slice uo L uc)) (hL : L ≠ 0) : ab ≠ s := by
  rintro rfl
  rw [← cell?_mk, cells_at hs] at hc
  rcases i with _ | _ | _ | _ | _ | i <;> simp at hc
  · exact hp _ _ _ hc
  · exact hq _ _ _ hc
  · exact hr _ _ _ hc
  · exact hu _ _ _ hc
  · exact hL hc.2.1.symm
theorem op_bytes {w : World} {s : Nat} {p q r u z : Value} {T : TypeId} {v : Value} {l : List UInt8} (hs : w.heap[s]? = some (.cells #[p, q, r, u, z] T (0, 0))) (h : ∀ c : UInt8, p ≠ .int .u8 c.toNat ∧ q ≠ .int .u8 c.toNat ∧ r ≠ .int .u8 c.toNat ∧ u ≠ .int .u8 c.toNat ∧ z ≠ .int .u8 c.toNat) (hb : IsBytes w v l) (hl : l ≠ []) : ∀ k, v.ownBlock = some k → k ≠ s := by
  obtain ⟨ao, cap, rfl, h1, h2, h3, h4⟩ := hb.is
  rintro k hk rfl
  cases ao with
  | none => exact hl (h3 rfl)
  | some a =>
    cases l with
    | nil => exact hl rfl
    | cons c l =>
      have q0 := h4 a rfl 0 _ rfl
      have hs0 := cell_spot q0 rfl
      obtain ⟨ab, off, sp⟩ := a
      simp only at hs0
      subst hs0
      simp only [Value.ownBlock, Option.some.injEq] at hk
      subst hk
      rw [Addr.add_mk, cells_at hs] at q0
      have hh := h c
      generalize off + 0 = i at q0
      rcases i with _ | _ | _ | _ | _ | i <;> simp at q0
      · exact hh.1 q0
      · exact hh.2.1 q0
      · exact hh.2.2.1 q0
      · exact hh.2.2.2.1 q0
      · exact hh.2.2.2.2 q0
attribute [local go_sem ↓ high] al2a al2b
set_option maxRecDepth 100000 in
set_option maxHeartbeats 1000000 in
theorem open36 {W w : World} {X : Nat → Prop} {n b : Nat} {S : StoV} (h : DkH W w X n b S) (hn : 4 ≤ n) :
    Calls Try.prog 36 #[.pointer (some ⟨b, 0, none⟩)] w fun e w' => ∃ s, e = .returned (.tuple #[.pointer (some ⟨s, 0, none⟩), .int .i64 0]) ∧ StH W w' X n b s S ∧ Fr (fun _ => False) w w' := by
  obtain ⟨lb, cl, sp, wv, D, hd, on, own, foot, aside⟩ := h
  obtain ⟨H, hH, hpk⟩ := on.cell.pick
  have HD := Lib.hid hd; have HON := Lib.hid on; have HOWN := Lib.hid own; have HFOOT := Lib.hid foot; have HAS := Lib.hid aside; have HN := Lib.hid hn; have HH := Lib.hid hH; have HPK := Lib.hid hpk
  have hsm := on.small
  have hft := from_to n S.area (by omega) on.area
  have hmost := on.up.ok.most
  rw [on.up.len] at hmost
  obtain ⟨fr, hfr⟩ : ∃ fr, fr = fromN n S.area := ⟨_, rfl⟩
  obtain ⟨tq, hto⟩ : ∃ tq, tq = toN n S.area := ⟨_, rfl⟩
  obtain ⟨t, ht⟩ : ∃ t, t = S.turn := ⟨_, rfl⟩
  obtain ⟨en, hen⟩ : ∃ en, en = S.en := ⟨_, rfl⟩
  obtain ⟨ct, hct⟩ : ∃ ct, ct = S.ct := ⟨_, rfl⟩
  have HE := Lib.hid (And.intro hfr (And.intro hto (And.intro ht (And.intro hen hct))))
  have HSM := Lib.hid hsm
  have t1 : decide ((n : Int) < 4) = false := by simp; omega
  have t1n : decide (n < 4) = false := by simp; omega
  have P71 : Hid (∀ W, IsDk W b lb cl sp wv D → Calls Try.prog 71 #[.pointer (some ⟨b, 0, none⟩), .int .i64 S.area] W fun e w' => e = .returned (.tuple #[.int .i64 fr, .int .i64 tq]) ∧ W = w') := Lib.hid (fun W h => by rw [hfr, hto]; exact place71' b lb cl sp wv D W n S.area h on.up.len on.area (by omega))
  rw [← ht, ← hen, ← hct] at hpk
  have HPK := Lib.hid hpk
  obtain ⟨a, ha⟩ : ∃ a, a = S.area := ⟨_, rfl⟩
  rw [← ha] at P71 HPK
  have HA := Lib.hid ha
  have hab : a = 0 ∨ a = 1 := by have := on.area; omega
  clear hd on own foot aside hn hH hpk hsm hft hmost hfr hto ht hen hct ha
  have hlen : Hid (D.secs.length = n) := Lib.hid HON.out.up.len
  rcases hab with rfl | rfl
  · go_enter Try.func36, Try.ntmps36
    go_wp2_with (first
      | (go_at_call 57; refine (size_any b lb cl sp wv D w HD.out).mono ?_; rw [hlen.out]; rintro e w1 ⟨rfl, rfl⟩)
      | (go_at_call 69; refine (open69 b lb cl sp wv D _ HD.out HON.out.up.up (by rw [hlen.out]; have := HN.out; omega) H HH.out).mono ?_; rw [HPK.out]; rintro e w2 ⟨cp, rfl, c2, hcp, f2⟩; have HC2 := Lib.hid c2; have HCP := Lib.hid hcp; have HF2 := Lib.hid f2; clear c2 hcp f2)
      | (go_at_call 70; refine (get70 cp b _ _ _ _ w2 HC2.out).mono ?_; rintro e w3 ⟨rfl, f3⟩; have HF3 := Lib.hid (HF2.out.trans f3 (fun _ h => h.elim)); have HC3 := Lib.hid (HC2.out.fr f3 (fun h => h)); clear f3)
      | (go_at_call 71
         obtain ⟨W5, hW5⟩ : ∃ W5, W5 = ((w3.alloc (.cells #[.int .i64 0, .int .i64 (en : Int), .int .i64 (ct : Int)] 113 (0, 0))).alloc (.cells #[.pointer (some ⟨b, 0, none⟩), .pointer (some ⟨cp, 0, none⟩), .pointer none, .int .i64 0, .slice none 0 0] 116 (0, 0))) := ⟨_, rfl⟩
         have hv5 : W5.heap[w3.heap.size]? = some (.cells #[.int .i64 0, .int .i64 (en : Int), .int .i64 (ct : Int)] 113 (0, 0)) := by rw [hW5]; exact al2b _ _ _
         have hs5 : W5.heap[w3.heap.size + 1]? = some (.cells #[.pointer (some ⟨b, 0, none⟩), .pointer (some ⟨cp, 0, none⟩), .pointer none, .int .i64 0, .slice none 0 0] 116 (0, 0)) := by rw [hW5]; exact al2a _ _ _
         have HF5 : Hid (Fr (fun _ => False) w W5) := Lib.hid (by rw [hW5]; exact (HF3.out.alloc _).alloc _)
         have HC5 : Hid (IsCell W5 cp b t 0 en ct) := Lib.hid (by rw [hW5]; exact HC3.out.fr (((Fr.refl (fun _ => False) w3).alloc _).alloc _) (fun h => h))
         have HCS : Hid (cp < w3.heap.size) := Lib.hid (lt_of_block HC3.out)
         have HSZ : Hid (w.heap.size ≤ w3.heap.size) := Lib.hid HF3.out.size
         rw [← hW5]
         clear hW5
         refine (P71.out W5 (HD.out.fr HF5.out (fun _ _ h => h))).mono ?_
         rintro e w6 ⟨rfl, rfl⟩)
      | (go_at_call 30
         refine (j_open' (HD.out.fr HF5.out (fun _ _ h => h)) (by have := HN.out; omega) HON.out fr tq en ct HE.out.1 HE.out.2.1 HE.out.2.2.2.1 HE.out.2.2.2.2).mono ?_
         rintro e w7 ⟨jp, fv, rfl, hj7, hl7, hjp7, f7⟩
         obtain ⟨fo, fc, rfl, _⟩ := hl7.is
         rw [List.length_map] at hl7 ⊢
         have HL7 := Lib.hid hl7
         have HJ8 : Hid (IsJ w7 jp b fr tq en ct) := Lib.hid (by rw [List.length_map] at hj7; have e : ct = S.fs.length := HE.out.2.2.2.2; rw [← e] at hj7; exact hj7)
         have HJP := Lib.hid hjp7
         have hs7 := f7.at hs5 (fun h => h)
         have HC7 := Lib.hid (HC5.out.fr f7 (fun h => h))
         have HF7 := Lib.hid (HF5.out.trans f7 (fun _ h => h.elim))
         have HS5 : Hid (w3.heap.size + 1 < W5.heap.size) := Lib.hid (lt_of_block hs5)
         clear hj7 hl7 hjp7 f7 hs5 hv5))
    obtain ⟨s, hsn⟩ : ∃ s, s = w3.heap.size + 1 := ⟨_, rfl⟩
    rw [← hsn] at hs7 HS5 ⊢
    have HSN := Lib.hid hsn
    have HSP : Hid (w7.heap[s]? = some (.cells #[.pointer (some ⟨b, 0, none⟩), .pointer (some ⟨cp, 0, none⟩), .pointer none, .int .i64 0, .slice none 0 0] 116 (0, 0))) := Lib.hid hs7
    have HLB : Hid (S.fs.length ≤ 2097152) := Lib.hid (by have := HSM.out.2.2.1; exact this)
    go_loopw [73] (fun i wr => ∃ k : Nat, k ≤ S.fs.length ∧ i = .int .i64 k ∧ OpAt w7 s b cp jp 0 S.fs k wr) (fun i _ => S.fs.length - (intOf i).toNat)
    case atStart =>
      refine ⟨0, Nat.zero_le _, rfl, ⟨.slice none 0 0, ?_, OwnChg.nil _, by simp [Value.ownBlock]⟩, (Fr.refl _ w7).setCell _ (.inl rfl)⟩
      rw [heap_setCell_self, hs7]; rfl
    case round =>
      clear hs7 hsn
      obtain ⟨k, hk, rfl, ho⟩ := hrel
      obtain ⟨⟨hv, hs, hown, hnew⟩, hfr⟩ := ho
      have HSR := Lib.hid hs
      have HFR := Lib.hid hfr; have HNEW := Lib.hid hnew; have HOW := Lib.hid hown
      by_cases hlt : k < S.fs.length
      · have hw1 : IntKind.i64.wrap ((k : Int) + 1) = (k : Int) + 1 := IntWalk.i64_in _ (by have := HLB.out; omega)
        have t1 : decide ((k : Int) < (S.fs.length : Int)) = true := by simp; omega
        have t1n : decide (k < S.fs.length) = true := by simp; omega
        obtain ⟨ab, off, uo, uc, rfl, hc0, hb0⟩ := HL7.out.at k (by rw [List.length_map]; exact hlt)
        have hml : (S.fs.map encBytes)[k]'(by rw [List.length_map]; exact hlt) = encBytes S.fs[k] := by rw [List.getElem_map]
        rw [hml] at hc0 hb0
        have hfm : S.fs[k] ∈ S.fs := List.getElem_mem hlt
        have HENC : Hid (encN S.fs[k] ≤ 1099511627776) := Lib.hid (HON.out.enc _ hfm)
        have hel : 8 ≤ (encBytes S.fs[k]).length := by unfold encBytes; rw [List.length_append, be8_length]; omega
        have hst : hasOf (S.fs.take (k + 1)) = applyAll (hasOf (S.fs.take k)) (S.fs[k].map normC) := by rw [List.take_succ_eq_append_getElem hlt, hasOf_snoc, applyAll_norm]
        have HST := Lib.hid hst
        have hna : ab ≠ s := op_row HSP.out (by intro _ _ _ h; cases h) (by intro _ _ _ h; cases h) (by intro _ _ _ h; cases h) (by intro _ _ _ h; cases h) hc0 (by omega)
        have hnb : ∀ j, (Value.slice uo (encBytes S.fs[k]).length uc).ownBlock = some j → j ≠ s := op_bytes HSP.out (fun c => ⟨by simp, by simp, by simp, by simp, by simp⟩) hb0 (by intro h; rw [h] at hel; simp at hel)
        have hcr : cellIn wr.heap[ab]? (off + k) = some (.slice uo (encBytes S.fs[k]).length uc) := by
          rw [← cell?_mk] at hc0 ⊢
          exact HFR.out.cell hc0 hna
        have HBR := Lib.hid (hb0.fr HFR.out (fun j hj e => hnb j hj e))
        have hkl := hasOf_kept (S.fs.take k)
        have HKL := Lib.hid hkl
        have HHL : Hid ((hasOf (S.fs.take k)).length + (S.fs[k].map normC).length ≤ 1099511627776) := Lib.hid (by
          rw [List.length_map]
          have h1 := hasOf_enc (S.fs.take k ++ [S.fs[k]])
          have h2 := encAll_min (hasOf (S.fs.take k))
          have h3 := hasOf_enc (S.fs.take k)
          have h4 := encAll_min S.fs[k]
          have e1 : S.bytes = framesOf ((S.fs.take k).map encBytes) ++ (frameOf (encBytes S.fs[k]) ++ framesOf ((S.fs.drop (k + 1)).map encBytes)) := by
            unfold StoV.bytes
            rw [← framesOf_cons, ← List.map_cons, ← framesOf_append, ← List.map_append, ← List.drop_eq_getElem_cons hlt, List.take_append_drop]
          have e2 := congrArg List.length e1
          rw [List.length_append, List.length_append, frameOf_length] at e2
          have e3 : (encBytes S.fs[k]).length = 8 + (encAll S.fs[k]).length := by unfold encBytes; rw [List.length_append, be8_length]
          have e4 : S.bytes.length = S.en := rfl
          have h5 := HSM.out.1
          omega)
        obtain ⟨B, hB⟩ : ∃ B, B = S.fs[k].map normC := ⟨_, rfl⟩
        have HDEC : Hid (Calls Try.prog 72 #[.slice uo (encBytes S.fs[k]).length uc] wr fun e w' => ∃ v, e = .returned (.tuple #[v, .bool true]) ∧ OwnChg w' v B ∧ (∀ k, v.ownBlock = some k → wr.heap.size ≤ k) ∧ Fr (fun _ => False) wr w') := Lib.hid (by rw [hB]; exact decode72 _ S.fs[k] _ HBR.out HENC.out)
        rw [← hB] at HST HHL
        obtain ⟨P, hP⟩ : ∃ P, P = hasOf (S.fs.take k) := ⟨_, rfl⟩
        obtain ⟨Q, hQ⟩ : ∃ Q, Q = hasOf (S.fs.take (k + 1)) := ⟨_, rfl⟩
        rw [← hP] at HST HHL HOW HKL hown
        rw [← hQ] at HST
        have HQ := Lib.hid hQ
        clear hml hfm hel hst hna hnb hc0 hb0 hkl hB hP hQ
        obtain ⟨hvo, hvc, rfl⟩ := hown.slice
        clear hown hfr hnew
        generalize (encBytes S.fs[k]).length = bl at hcr HBR HDEC
        go_wp2_with (first
          | (go_at_call 72
             refine HDEC.out.mono ?_
             rintro e w8 ⟨bv, rfl, o8, n8, f8⟩
             have HO8 := Lib.hid o8
             have hs8 := f8.at hs (fun h => h)
             have HF8 := Lib.hid f8
             obtain ⟨bo, bc, rfl⟩ := o8.slice
             clear o8 n8 f8)
          | (go_at_call 73
             refine (apply73 _ _ P B w8 (HOW.out.fr HF8.out (fun _ _ h => h)).chg HO8.out.chg HKL.out.1 HHL.out).mono ?_
             rw [← HST.out]
             rintro e w9 ⟨nv, rfl, o9, n9, f9⟩
             have HO9 := Lib.hid o9
             have hs9 := f9.at hs8 (fun h => h)
             have HN9 := Lib.hid n9
             have HF9 := Lib.hid (HF8.out.trans f9 (fun _ h => h.elim))
             have HSZ8 : Hid (wr.heap.size ≤ w8.heap.size) := Lib.hid HF8.out.size
             obtain ⟨no, nc, rfl⟩ := o9.slice
             clear o9 n9 f9))
        have hsl := lt_of_block hs
        have hset : Fr (fun j => j = s) w9 (w9.setCell ⟨s, 4, none⟩ (.slice no Q.length nc)) := (Fr.refl (fun j => j = s) w9).setCell _ (.inl rfl)
        have hnb : ∀ j, (Value.slice no Q.length nc).ownBlock = some j → w8.heap.size ≤ j := HN9.out
        have HOFF : Hid (∀ j, (Value.slice no Q.length nc).ownBlock = some j → ¬ j = s) := Lib.hid (fun j hj e => by have := hnb j hj; have := HSZ8.out; omega)
        refine ⟨⟨k + 1, by omega, by go_num, ⟨_, ?_, by rw [← HQ.out]; exact HO9.out.fr hset (fun j hj e => HOFF.out j hj e), fun j hj => ?_⟩, (HFR.out.trans HF9.out (fun _ h => h.elim)).trans hset (fun j hj => .inl hj)⟩, by simp [intOf]; omega⟩
        · rw [heap_setCell_self, hs9]; rfl
        · exact Nat.le_trans HFR.out.size (Nat.le_trans HSZ8.out (hnb j hj))
      · obtain rfl : k = S.fs.length := by omega
        rw [List.take_length] at hown HOW
        clear hown hfr hnew hs
        go_wp2
        go_ret2
        obtain ⟨r1, r2⟩ := StH.make (X := X) HD.out HON.out HOWN.out HFOOT.out HAS.out HE.out HA.out HSZ.out ⟨HCP.out, HCS.out⟩ ⟨HSN.out, HS5.out⟩ HJP.out HF7.out HFR.out HC7.out HJ8.out HSR.out HOW.out HNEW.out
        exact ⟨s, rfl, r1, r2⟩
  · go_enter Try.func36, Try.ntmps36
    go_wp2_with (first
      | (go_at_call 57; refine (size_any b lb cl sp wv D w HD.out).mono ?_; rw [hlen.out]; rintro e w1 ⟨rfl, rfl⟩)
      | (go_at_call 69; refine (open69 b lb cl sp wv D _ HD.out HON.out.up.up (by rw [hlen.out]; have := HN.out; omega) H HH.out).mono ?_; rw [HPK.out]; rintro e w2 ⟨cp, rfl, c2, hcp, f2⟩; have HC2 := Lib.hid c2; have HCP := Lib.hid hcp; have HF2 := Lib.hid f2; clear c2 hcp f2)
      | (go_at_call 70; refine (get70 cp b _ _ _ _ w2 HC2.out).mono ?_; rintro e w3 ⟨rfl, f3⟩; have HF3 := Lib.hid (HF2.out.trans f3 (fun _ h => h.elim)); have HC3 := Lib.hid (HC2.out.fr f3 (fun h => h)); clear f3)
      | (go_at_call 71
         obtain ⟨W5, hW5⟩ : ∃ W5, W5 = ((w3.alloc (.cells #[.int .i64 1, .int .i64 (en : Int), .int .i64 (ct : Int)] 113 (0, 0))).alloc (.cells #[.pointer (some ⟨b, 0, none⟩), .pointer (some ⟨cp, 0, none⟩), .pointer none, .int .i64 1, .slice none 0 0] 116 (0, 0))) := ⟨_, rfl⟩
         have hv5 : W5.heap[w3.heap.size]? = some (.cells #[.int .i64 1, .int .i64 (en : Int), .int .i64 (ct : Int)] 113 (0, 0)) := by rw [hW5]; exact al2b _ _ _
         have hs5 : W5.heap[w3.heap.size + 1]? = some (.cells #[.pointer (some ⟨b, 0, none⟩), .pointer (some ⟨cp, 0, none⟩), .pointer none, .int .i64 1, .slice none 0 0] 116 (0, 0)) := by rw [hW5]; exact al2a _ _ _
         have HF5 : Hid (Fr (fun _ => False) w W5) := Lib.hid (by rw [hW5]; exact (HF3.out.alloc _).alloc _)
         have HC5 : Hid (IsCell W5 cp b t 1 en ct) := Lib.hid (by rw [hW5]; exact HC3.out.fr (((Fr.refl (fun _ => False) w3).alloc _).alloc _) (fun h => h))
         have HCS : Hid (cp < w3.heap.size) := Lib.hid (lt_of_block HC3.out)
         have HSZ : Hid (w.heap.size ≤ w3.heap.size) := Lib.hid HF3.out.size
         rw [← hW5]
         clear hW5
         refine (P71.out W5 (HD.out.fr HF5.out (fun _ _ h => h))).mono ?_
         rintro e w6 ⟨rfl, rfl⟩)
      | (go_at_call 30
         refine (j_open' (HD.out.fr HF5.out (fun _ _ h => h)) (by have := HN.out; omega) HON.out fr tq en ct HE.out.1 HE.out.2.1 HE.out.2.2.2.1 HE.out.2.2.2.2).mono ?_
         rintro e w7 ⟨jp, fv, rfl, hj7, hl7, hjp7, f7⟩
         obtain ⟨fo, fc, rfl, _⟩ := hl7.is
         rw [List.length_map] at hl7 ⊢
         have HL7 := Lib.hid hl7
         have HJ8 : Hid (IsJ w7 jp b fr tq en ct) := Lib.hid (by rw [List.length_map] at hj7; have e : ct = S.fs.length := HE.out.2.2.2.2; rw [← e] at hj7; exact hj7)
         have HJP := Lib.hid hjp7
         have hs7 := f7.at hs5 (fun h => h)
         have HC7 := Lib.hid (HC5.out.fr f7 (fun h => h))
         have HF7 := Lib.hid (HF5.out.trans f7 (fun _ h => h.elim))
         have HS5 : Hid (w3.heap.size + 1 < W5.heap.size) := Lib.hid (lt_of_block hs5)
         clear hj7 hl7 hjp7 f7 hs5 hv5))
    obtain ⟨s, hsn⟩ : ∃ s, s = w3.heap.size + 1 := ⟨_, rfl⟩
    rw [← hsn] at hs7 HS5 ⊢
    have HSN := Lib.hid hsn
    have HSP : Hid (w7.heap[s]? = some (.cells #[.pointer (some ⟨b, 0, none⟩), .pointer (some ⟨cp, 0, none⟩), .pointer none, .int .i64 1, .slice none 0 0] 116 (0, 0))) := Lib.hid hs7
    have HLB : Hid (S.fs.length ≤ 2097152) := Lib.hid (by have := HSM.out.2.2.1; exact this)
    go_loopw [73] (fun i wr => ∃ k : Nat, k ≤ S.fs.length ∧ i = .int .i64 k ∧ OpAt w7 s b cp jp 1 S.fs k wr) (fun i _ => S.fs.length - (intOf i).toNat)
    case atStart =>
      refine ⟨0, Nat.zero_le _, rfl, ⟨.slice none 0 0, ?_, OwnChg.nil _, by simp [Value.ownBlock]⟩, (Fr.refl _ w7).setCell _ (.inl rfl)⟩
      rw [heap_setCell_self, hs7]; rfl
    case round =>
      clear hs7 hsn
      obtain ⟨k, hk, rfl, ho⟩ := hrel
      obtain ⟨⟨hv, hs, hown, hnew⟩, hfr⟩ := ho
      have HSR := Lib.hid hs
      have HFR := Lib.hid hfr; have HNEW := Lib.hid hnew; have HOW := Lib.hid hown
      by_cases hlt : k < S.fs.length
      · have hw1 : IntKind.i64.wrap ((k : Int) + 1) = (k : Int) + 1 := IntWalk.i64_in _ (by have := HLB.out; omega)
        have t1 : decide ((k : Int) < (S.fs.length : Int)) = true := by simp; omega
        have t1n : decide (k < S.fs.length) = true := by simp; omega
        obtain ⟨ab, off, uo, uc, rfl, hc0, hb0⟩ := HL7.out.at k (by rw [List.length_map]; exact hlt)
        have hml : (S.fs.map encBytes)[k]'(by rw [List.length_map]; exact hlt) = encBytes S.fs[k] := by rw [List.getElem_map]
        rw [hml] at hc0 hb0
        have hfm : S.fs[k] ∈ S.fs := List.getElem_mem hlt
        have HENC : Hid (encN S.fs[k] ≤ 1099511627776) := Lib.hid (HON.out.enc _ hfm)
        have hel : 8 ≤ (encBytes S.fs[k]).length := by unfold encBytes; rw [List.length_append, be8_length]; omega
        have hst : hasOf (S.fs.take (k + 1)) = applyAll (hasOf (S.fs.take k)) (S.fs[k].map normC) := by rw [List.take_succ_eq_append_getElem hlt, hasOf_snoc, applyAll_norm]
        have HST := Lib.hid hst
        have hna : ab ≠ s := op_row HSP.out (by intro _ _ _ h; cases h) (by intro _ _ _ h; cases h) (by intro _ _ _ h; cases h) (by intro _ _ _ h; cases h) hc0 (by omega)
        have hnb : ∀ j, (Value.slice uo (encBytes S.fs[k]).length uc).ownBlock = some j → j ≠ s := op_bytes HSP.out (fun c => ⟨by simp, by simp, by simp, by simp, by simp⟩) hb0 (by intro h; rw [h] at hel; simp at hel)
        have hcr : cellIn wr.heap[ab]? (off + k) = some (.slice uo (encBytes S.fs[k]).length uc) := by
          rw [← cell?_mk] at hc0 ⊢
          exact HFR.out.cell hc0 hna
        have HBR := Lib.hid (hb0.fr HFR.out (fun j hj e => hnb j hj e))
        have hkl := hasOf_kept (S.fs.take k)
        have HKL := Lib.hid hkl
        have HHL : Hid ((hasOf (S.fs.take k)).length + (S.fs[k].map normC).length ≤ 1099511627776) := Lib.hid (by
          rw [List.length_map]
          have h1 := hasOf_enc (S.fs.take k ++ [S.fs[k]])
          have h2 := encAll_min (hasOf (S.fs.take k))
          have h3 := hasOf_enc (S.fs.take k)
          have h4 := encAll_min S.fs[k]
          have e1 : S.bytes = framesOf ((S.fs.take k).map encBytes) ++ (frameOf (encBytes S.fs[k]) ++ framesOf ((S.fs.drop (k + 1)).map encBytes)) := by
            unfold StoV.bytes
            rw [← framesOf_cons, ← List.map_cons, ← framesOf_append, ← List.map_append, ← List.drop_eq_getElem_cons hlt, List.take_append_drop]
          have e2 := congrArg List.length e1
          rw [List.length_append, List.length_append, frameOf_length] at e2
          have e3 : (encBytes S.fs[k]).length = 8 + (encAll S.fs[k]).length := by unfold encBytes; rw [List.length_append, be8_length]
          have e4 : S.bytes.length = S.en := rfl
          have h5 := HSM.out.1
          omega)
        obtain ⟨B, hB⟩ : ∃ B, B = S.fs[k].map normC := ⟨_, rfl⟩
        have HDEC : Hid (Calls Try.prog 72 #[.slice uo (encBytes S.fs[k]).length uc] wr fun e w' => ∃ v, e = .returned (.tuple #[v, .bool true]) ∧ OwnChg w' v B ∧ (∀ k, v.ownBlock = some k → wr.heap.size ≤ k) ∧ Fr (fun _ => False) wr w') := Lib.hid (by rw [hB]; exact decode72 _ S.fs[k] _ HBR.out HENC.out)
        rw [← hB] at HST HHL
        obtain ⟨P, hP⟩ : ∃ P, P = hasOf (S.fs.take k) := ⟨_, rfl⟩
        obtain ⟨Q, hQ⟩ : ∃ Q, Q = hasOf (S.fs.take (k + 1)) := ⟨_, rfl⟩
        rw [← hP] at HST HHL HOW HKL hown
        rw [← hQ] at HST
        have HQ := Lib.hid hQ
        clear hml hfm hel hst hna hnb hc0 hb0 hkl hB hP hQ
        obtain ⟨hvo, hvc, rfl⟩ := hown.slice
        clear hown hfr hnew
        generalize (encBytes S.fs[k]).length = bl at hcr HBR HDEC
        go_wp2_with (first
          | (go_at_call 72
             refine HDEC.out.mono ?_
             rintro e w8 ⟨bv, rfl, o8, n8, f8⟩
             have HO8 := Lib.hid o8
             have hs8 := f8.at hs (fun h => h)
             have HF8 := Lib.hid f8
             obtain ⟨bo, bc, rfl⟩ := o8.slice
             clear o8 n8 f8)
          | (go_at_call 73
             refine (apply73 _ _ P B w8 (HOW.out.fr HF8.out (fun _ _ h => h)).chg HO8.out.chg HKL.out.1 HHL.out).mono ?_
             rw [← HST.out]
             rintro e w9 ⟨nv, rfl, o9, n9, f9⟩
             have HO9 := Lib.hid o9
             have hs9 := f9.at hs8 (fun h => h)
             have HN9 := Lib.hid n9
             have HF9 := Lib.hid (HF8.out.trans f9 (fun _ h => h.elim))
             have HSZ8 : Hid (wr.heap.size ≤ w8.heap.size) := Lib.hid HF8.out.size
             obtain ⟨no, nc, rfl⟩ := o9.slice
             clear o9 n9 f9))
        have hsl := lt_of_block hs
        have hset : Fr (fun j => j = s) w9 (w9.setCell ⟨s, 4, none⟩ (.slice no Q.length nc)) := (Fr.refl (fun j => j = s) w9).setCell _ (.inl rfl)
        have hnb : ∀ j, (Value.slice no Q.length nc).ownBlock = some j → w8.heap.size ≤ j := HN9.out
        have HOFF : Hid (∀ j, (Value.slice no Q.length nc).ownBlock = some j → ¬ j = s) := Lib.hid (fun j hj e => by have := hnb j hj; have := HSZ8.out; omega)
        refine ⟨⟨k + 1, by omega, by go_num, ⟨_, ?_, by rw [← HQ.out]; exact HO9.out.fr hset (fun j hj e => HOFF.out j hj e), fun j hj => ?_⟩, (HFR.out.trans HF9.out (fun _ h => h.elim)).trans hset (fun j hj => .inl hj)⟩, by simp [intOf]; omega⟩
        · rw [heap_setCell_self, hs9]; rfl
        · exact Nat.le_trans HFR.out.size (Nat.le_trans HSZ8.out (hnb j hj))
      · obtain rfl : k = S.fs.length := by omega
        rw [List.take_length] at hown HOW
        clear hown hfr hnew hs
        go_wp2
        go_ret2
        obtain ⟨r1, r2⟩ := StH.make (X := X) HD.out HON.out HOWN.out HFOOT.out HAS.out HE.out HA.out HSZ.out ⟨HCP.out, HCS.out⟩ ⟨HSN.out, HS5.out⟩ HJP.out HF7.out HFR.out HC7.out HJ8.out HSR.out HOW.out HNEW.out
        exact ⟨s, rfl, r1, r2⟩
end Go.Proofs.Ytnpeeephkkmomaa
namespace Go.Proofs.Ytnpeeephkkmomaa
open Go.RowKit Go.Proofs.YtnpeeephkkmomaaW.PrintLast
set_option linter.unusedVariables false
set_option linter.unusedSimpArgs false

/-- What a step of Append on a disk that is up comes to. -/
def AppUp (w : World) (n b lb cl : Nat) (sp : Array Value) (wv : Value) (D : Dk) (jp fr tq en : Nat) (ct : Int) (pre l : List UInt8) (e : Ending) (w' : World) : Prop :=
  ∃ (er : Int) (wv' : Value) (E : Dk), e = .returned (.int .i64 er) ∧ IsDk w' b lb cl sp wv' E ∧ DkUp E n ∧ Mv (jFoot b lb jp wv) (jFoot b lb jp wv') w w' ∧ ¬ dkFoot b lb wv' jp ∧ (∀ t x y z, CellOn D t x y z → CellOn E t x y z) ∧
    ((er = 0 ∧ (l.length ≤ 1048576 ∧ en + l.length + 16 ≤ (tq - fr) * 64) ∧ IsJ w' jp b fr tq ((en + l.length + 16 : Nat) : Int) (ct + 1) ∧ Good fr (pre ++ frameOf l) E) ∨
     ((er = 51 ∨ er = 3) ∧ ¬ (l.length ≤ 1048576 ∧ en + l.length + 16 ≤ (tq - fr) * 64) ∧ IsJ w' jp b fr tq en ct ∧ E = D))
theorem append_up (n b lb cl : Nat) (sp : Array Value) (wv : Value) (D : Dk) (jp fr tq en : Nat) (ct : Int) (pre : List UInt8) (v : Value) (l : List UInt8) (w : World) (h : IsDk w b lb cl sp wv D) (hu : DkUp D n) (hj : IsJ w jp b fr tq en ct) (hjp : ¬ dkFoot b lb wv jp) (hv : IsBytes w v l)
    (hf2 : 2 ≤ fr) (hft : fr ≤ tq) (hto : tq ≤ n) (hct : 0 ≤ ct ∧ ct ≤ 1099511627776) (hend : en ≤ (tq - fr) * 64) (hg : Good fr pre D) (hpre : pre.length = en) :
    Calls Try.prog 32 #[.pointer (some ⟨jp, 0, none⟩), v] w (AppUp w n b lb cl sp wv D jp fr tq en ct pre l) := by
  refine (j_append jp b lb cl sp wv D fr tq en ct v l w h hj hjp hv hft (by rw [hu.len]; exact hto) (by rw [hu.buf]; simp) (by omega) hend).mono ?_
  rintro e w' ⟨er, wv', E, en', ct', rfl, hE, hJ, hnj, mv, res⟩
  cases res with
  | no k hk her he hc hs hb hwhy hz hfull hlong =>
    subst he hc
    have hno : ¬ (l.length ≤ 1048576 ∧ en + l.length + 16 ≤ (tq - fr) * 64) := fun hh => hwhy ⟨hu.up, hu.arm, hh.1, hh.2⟩
    have hed : (er = 51 ∨ er = 3) ∧ E = D := by
      by_cases h1 : l.length ≤ 1048576
      · have := hfull h1 (by omega); exact ⟨.inl this.1, this.2⟩
      · have := hlong (by omega); exact ⟨.inr this.1, this.2⟩
    obtain ⟨h1, rfl⟩ := hed
    exact ⟨er, wv', E, rfl, hE, hu, mv, hnj, fun _ _ _ _ h => h, .inr ⟨h1, hno, hJ, rfl⟩⟩
  | ok her he hc hs hb hl hf hup =>
    subst he hc
    obtain ⟨u1, u2⟩ := append_law hu hE.ok (hup hu.up hu.arm).1 (hup hu.up hu.arm).2 hb fr (en / 64) _ _ hf2 hs
    refine ⟨er, wv', E, rfl, hE, u1, mv, hnj, u2, .inl ⟨her, ⟨hl, hf⟩, hJ, ?_⟩⟩
    subst hpre
    exact hg.full h.ok l (by rw [hu.len]; omega) hs hb

structure StX (W w : World) (X : Nat → Prop) (n b s cp jq lb cl : Nat) (sp : Array Value) (wv hv : Value) (D : Dk) (t : Nat) (x y z : Int) (fr tq en ct : Nat) (L : List Chg) (pre : List UInt8) (stc : Array Value) : Prop where
  dk : IsDk w b lb cl sp wv D
  up : DkUp D n
  cell : IsCell w cp b t x y z
  on : CellOn D t x y z
  j : IsJ w jq b fr tq en ct
  good : Good fr pre D
  pre : pre.length = en
  st : w.heap[s]? = some (.cells stc 116 (0, 0))
  has : OwnChg w hv L
  ncp : ¬ dkFoot b lb wv cp
  njq : ¬ dkFoot b lb wv jq
  ns : ¬ dkFoot b lb wv s
  ne : cp ≠ jq ∧ cp ≠ s ∧ jq ≠ s
  nhv : ∀ k, hv.ownBlock = some k → ¬ dkFoot b lb wv k ∧ k ≠ cp ∧ k ≠ jq ∧ k ≠ s
  own : Fr (fun _ => False) W w
  foot : ∀ j, stFoot b lb cp jq s wv hv j → Aside W X j
  aside : ∀ j, X j → j < w.heap.size
section
variable {W w : World} {X : Nat → Prop} {n b s cp jq lb cl : Nat} {sp : Array Value} {wv hv : Value} {D : Dk} {t : Nat} {x y z : Int} {fr tq en ct : Nat} {L : List Chg} {pre : List UInt8} {stc : Array Value}
theorem StX.still {w' : World} (h : StX W w X n b s cp jq lb cl sp wv hv D t x y z fr tq en ct L pre stc) (hf : Fr (fun _ => False) w w') : StX W w' X n b s cp jq lb cl sp wv hv D t x y z fr tq en ct L pre stc :=
  ⟨h.dk.fr hf (fun _ _ h => h), h.up, h.cell.fr hf (fun h => h), h.on, h.j.fr hf (fun h => h), h.good, h.pre, hf.at h.st (fun h => h), h.has.fr hf (fun _ _ h => h), h.ncp, h.njq, h.ns, h.ne, h.nhv, h.own.trans hf (fun _ h => h.elim), h.foot, fun j hj => Nat.lt_of_lt_of_le (h.aside j hj) hf.size⟩
theorem StX.lt (h : StX W w X n b s cp jq lb cl sp wv hv D t x y z fr tq en ct L pre stc) (k : Nat) (hk : stFoot b lb cp jq s wv hv k) : k < w.heap.size := by
  rcases hk with hk | hk | hk | hk | hk
  · exact h.dk.lt k hk
  · rw [hk]; exact lt_of_block h.cell
  · rw [hk]; exact lt_of_block h.j
  · rw [hk]; exact lt_of_block h.st
  · exact h.has.lt k hk
/-- A step that turns the disk and one block of the footprint. -/
theorem StX.step {w' : World} {wv' : Value} {c : Nat} (h : StX W w X n b s cp jq lb cl sp wv hv D t x y z fr tq en ct L pre stc) (hc : c = cp ∨ c = jq) (mv : Mv (jFoot b lb c wv) (jFoot b lb c wv') w w') (hnc : ¬ dkFoot b lb wv' c) :
    (c = jq → IsCell w' cp b t x y z) ∧ (c = cp → IsJ w' jq b fr tq en ct) ∧ w'.heap[s]? = some (.cells stc 116 (0, 0)) ∧ OwnChg w' hv L ∧ ¬ dkFoot b lb wv' cp ∧ ¬ dkFoot b lb wv' jq ∧ ¬ dkFoot b lb wv' s ∧
    (∀ k, hv.ownBlock = some k → ¬ dkFoot b lb wv' k ∧ k ≠ cp ∧ k ≠ jq ∧ k ≠ s) ∧ Fr (fun _ => False) W w' ∧ (∀ j, stFoot b lb cp jq s wv' hv j → Aside W X j) ∧ (∀ j, X j → j < w'.heap.size) ∧ Fr (Aside W X) w w' := by
  have hout : ∀ k, stFoot b lb cp jq s wv hv k → ¬ dkFoot b lb wv k → k ≠ c → ¬ jFoot b lb c wv k ∧ ¬ dkFoot b lb wv' k := fun k hk hd hkc => by
    refine ⟨fun hj => hj.elim hd hkc, fun hd' => ?_⟩
    rcases mv.piv k (.inl hd') with h1 | h1
    · exact h1.elim hd hkc
    · have := h.lt k hk; omega
  have hne := h.ne
  have hcf : stFoot b lb cp jq s wv hv c := by rcases hc with rfl | rfl; exact .inr (.inl rfl); exact .inr (.inr (.inl rfl))
  have hs := hout s (.inr (.inr (.inr (.inl rfl)))) h.ns (by omega)
  have hcp : ¬ dkFoot b lb wv' cp := by
    by_cases e : cp = c
    · rw [e]; exact hnc
    · exact (hout cp (.inr (.inl rfl)) h.ncp e).2
  have hjq : ¬ dkFoot b lb wv' jq := by
    by_cases e : jq = c
    · rw [e]; exact hnc
    · exact (hout jq (.inr (.inr (.inl rfl))) h.njq e).2
  have hhv : ∀ k, hv.ownBlock = some k → ¬ jFoot b lb c wv k ∧ ¬ dkFoot b lb wv' k := fun k hk => by
    obtain ⟨q1, q2, q3, q4⟩ := h.nhv k hk
    exact hout k (.inr (.inr (.inr (.inr hk)))) q1 (by omega)
  have hasd : ∀ j, jFoot b lb c wv j → Aside W X j := fun j hj => hj.elim (fun h1 => h.foot j (.inl h1)) (fun h1 => h.foot j (by rw [h1]; exact hcf))
  refine ⟨fun e => h.cell.fr mv.fr (hout cp (.inr (.inl rfl)) h.ncp (by omega)).1, fun e => h.j.fr mv.fr (hout jq (.inr (.inr (.inl rfl))) h.njq (by omega)).1, mv.fr.at h.st hs.1, h.has.fr mv.fr (fun k hk => (hhv k hk).1), hcp, hjq, hs.2, fun k hk => ⟨(hhv k hk).2, (h.nhv k hk).2⟩, h.own.trans mv.fr (fun j hj => .inr (hasd j hj).1), fun j hj => ?_, fun j hj => Nat.lt_of_lt_of_le (h.aside j hj) mv.fr.size, mv.fr.mono (fun j _ hj => hasd j hj)⟩
  rcases hj with h1 | h1
  · rcases mv.piv j (.inl h1) with h2 | h2
    · exact hasd j h2
    · exact ⟨Nat.le_trans h.own.size h2, fun hx => by have := h.aside j hx; omega⟩
  · exact h.foot j (.inr h1)
theorem StX.append (h : StX W w X n b s cp jq lb cl sp wv hv D t x y z fr tq en ct L pre stc) (v : Value) (l : List UInt8) (hv' : IsBytes w v l) (hf2 : 2 ≤ fr) (hft : fr ≤ tq) (hto : tq ≤ n) (hct : ct ≤ 1099511627776) (hend : en ≤ (tq - fr) * 64) :
    Calls Try.prog 32 #[.pointer (some ⟨jq, 0, none⟩), v] w fun e w' => ∃ (er : Int) (wv' : Value) (E : Dk), e = .returned (.int .i64 er) ∧ Fr (Aside W X) w w' ∧ Mv (jFoot b lb jq wv) (jFoot b lb jq wv') w w' ∧
      ((er = 0 ∧ (l.length ≤ 1048576 ∧ en + l.length + 16 ≤ (tq - fr) * 64) ∧ StX W w' X n b s cp jq lb cl sp wv' hv E t x y z fr tq (en + l.length + 16) (ct + 1) L (pre ++ frameOf l) stc) ∨
       ((er = 51 ∨ er = 3) ∧ ¬ (l.length ≤ 1048576 ∧ en + l.length + 16 ≤ (tq - fr) * 64) ∧ E = D ∧ StX W w' X n b s cp jq lb cl sp wv' hv D t x y z fr tq en ct L pre stc)) := by
  refine (append_up n b lb cl sp wv D jq fr tq en ct pre v l w h.dk h.up h.j h.njq hv' hf2 hft hto (by omega) hend h.good h.pre).mono ?_
  rintro e w' ⟨er, wv', E, rfl, hE, hu, mv, hnj, hc, hres⟩
  obtain ⟨s1, s2, s3, s4, s5, s6, s7, s8, s9, s10, s11, s12⟩ := h.step (.inr rfl) mv hnj
  refine ⟨er, wv', E, rfl, s12, mv, ?_⟩
  rcases hres with ⟨r1, r2, r3, r4⟩ | ⟨r1, r2, r3, rfl⟩
  · exact .inl ⟨r1, r2, hE, hu, s1 rfl, hc _ _ _ _ h.on, r3, r4, by rw [List.length_append, frameOf_length, h.pre]; omega, s3, s4, s5, s6, s7, h.ne, s8, s9, s10, s11⟩
  · exact .inr ⟨r1, r2, rfl, hE, hu, s1 rfl, h.on, r3, h.good, h.pre, s3, s4, s5, s6, s7, h.ne, s8, s9, s10, s11⟩
theorem StX.set (h : StX W w X n b s cp jq lb cl sp wv hv D t x y z fr tq en ct L pre stc) (hn : 2 ≤ n) (ht : t ≤ 4611686018427387000) (hf2 : 2 ≤ fr) (x' y' z' : Int) (hx : in64 x') (hy : in64 y') (hz : in64 z') :
    Calls Try.prog 75 #[.pointer (some ⟨cp, 0, none⟩), .agg #[.int .i64 x', .int .i64 y', .int .i64 z']] w fun e w' => ∃ (wv' : Value) (E : Dk), e = .returned (.int .i64 0) ∧ Fr (Aside W X) w w' ∧
      StX W w' X n b s cp jq lb cl sp wv' hv E (t + 1) x' y' z' fr tq en ct L pre stc := by
  refine (set75 b lb cl sp wv cp D w t x y z x' y' z' h.dk h.cell h.ncp h.up.up h.up.arm (by rw [h.up.len]; exact hn) (by rw [h.up.buf]; simp) ht (t % 2) rfl h.on.turn).mono ?_
  rintro e w' ⟨wv', rfl, hE, hC, hnc, mv⟩
  obtain ⟨s1, s2, s3, s4, s5, s6, s7, s8, s9, s10, s11, s12⟩ := h.step (.inl rfl) mv hnc
  obtain ⟨u1, u2, u3⟩ := set_law h.up hn h.on (by constructor <;> omega) x' y' z' hx hy hz
  exact ⟨wv', _, rfl, s12, hE, u1, by exact_mod_cast hC, u2, s2 rfl, u3 fr pre hf2 h.good, h.pre, s3, s4, s5, s6, s7, h.ne, s8, s9, s10, s11⟩
end
end Go.Proofs.Ytnpeeephkkmomaa
namespace Go.Proofs.Ytnpeeephkkmomaa
open Go.RowKit Go.Proofs.YtnpeeephkkmomaaW.PrintLast
set_option linter.unusedVariables false
set_option linter.unusedSimpArgs false

def Fits (n en len : Nat) : Prop := len ≤ 1048576 ∧ en + len + 16 ≤ halfN n * 64
def StoV.app (S : StoV) (l : List Chg) : StoV := ⟨S.area, S.turn + 1, S.fs ++ [l]⟩
def StoV.snap (S : StoV) (l : List Chg) : StoV := ⟨1 - S.area, S.turn + 1, [applyAll S.has l]⟩
/-- What a Commit comes to. -/
inductive ComTo (n : Nat) (S : StoV) (l : List Chg) : Int → StoV → Prop
  | app : Fits n S.en (encBytes l).length → ComTo n S l 0 (S.app l)
  | snap : ¬ Fits n S.en (encBytes l).length → Fits n 0 (encBytes (applyAll S.has l)).length → ComTo n S l 0 (S.snap l)
  | full : ¬ Fits n S.en (encBytes l).length → ¬ Fits n 0 (encBytes (applyAll S.has l)).length → ComTo n S l 51 S
def ComPost (W w : World) (X : Nat → Prop) (n b s : Nat) (S : StoV) (l : List Chg) (e : Ending) (w' : World) : Prop :=
  ∃ er S', e = .returned (.int .i64 er) ∧ ComTo n S l er S' ∧ StH W w' X n b s S' ∧ Fr (Aside W X) w w'

theorem StX.begin {W w w1 : World} {X : Nat → Prop} {n b s cp jp lb cl fr tq en ct t a : Nat} {sp : Array Value} {wv hv0 v1 : Value} {D : Dk} {S : StoV} {H L : List Chg} (h : StM W w X n b s S cp jp lb cl sp wv hv0 D)
    (he : fr = fromN n S.area ∧ tq = toN n S.area ∧ t = S.turn ∧ en = S.en ∧ ct = S.ct ∧ a = S.area ∧ L = S.has) (f1 : Fr (fun _ => False) w w1) (o1 : OwnChg w1 v1 H) (n1 : ∀ k, v1.ownBlock = some k → w.heap.size ≤ k) :
    StX W (w1.alloc (.cells #[.pointer (some ⟨b, 0, none⟩), .int .i64 fr, .int .i64 tq, .int .i64 en, .int .i64 ct] 100 (0, 0))) X n b s cp w1.heap.size lb cl sp wv v1 D t a en ct fr tq en ct H S.bytes
      #[.pointer (some ⟨b, 0, none⟩), .pointer (some ⟨cp, 0, none⟩), .pointer (some ⟨jp, 0, none⟩), .int .i64 a, hv0] := by
  obtain ⟨rfl, rfl, rfl, rfl, rfl, rfl, rfl⟩ := he
  have f2 : Fr (fun _ => False) w (w1.alloc (.cells #[.pointer (some ⟨b, 0, none⟩), .int .i64 (fromN n S.area : Nat), .int .i64 (toN n S.area : Nat), .int .i64 S.en, .int .i64 S.ct] 100 (0, 0))) := f1.alloc _
  have hlt := h.dk.lt
  have hs1 := f1.size
  have hc := lt_of_block h.cell
  have hs := lt_of_block h.st
  have hnew : ∀ j, w.heap.size ≤ j → Aside W X j := fun j hj => ⟨Nat.le_trans h.own.size hj, fun hx => by have := h.aside j hx; omega⟩
  refine ⟨h.dk.fr f2 (fun _ _ h => h), h.on.up, h.cell.fr f2 (fun h => h), h.on.cell, heap_alloc_at _ _, h.on.good, rfl, f2.at h.st (fun h => h), o1.fr (F := fun _ => False) ((Fr.refl _ w1).alloc _) (fun _ _ h => h), h.ncp, fun hd => by have := hlt _ hd; omega, h.ns, ⟨by omega, h.ne.2.1, by omega⟩, fun k hk => ?_, h.own.trans f2 (fun _ h => h.elim), fun j hj => ?_, fun j hj => Nat.lt_of_lt_of_le (h.aside j hj) f2.size⟩
  · have h1 := n1 k hk
    have h2 := o1.lt k hk
    exact ⟨fun hd => by have := hlt _ hd; omega, by omega, by omega, by omega⟩
  · rcases hj with h1 | h1 | h1 | h1 | h1
    · exact h.foot j (.inl h1)
    · exact h.foot j (.inr (.inl h1))
    · exact hnew j (by omega)
    · exact h.foot j (.inr (.inr (.inr (.inl h1))))
    · exact hnew j (n1 j h1)
section
variable {W w : World} {X : Nat → Prop} {n b s cp jq lb cl : Nat} {sp : Array Value} {wv hv : Value} {D : Dk} {t : Nat} {x y z : Int} {fr tq en ct : Nat} {L : List Chg} {pre : List UInt8} {stc : Array Value}
/-- Another journal, as yet without frames. -/
theorem StX.other {w' : World} {jq' fr' tq' : Nat} (h : StX W w X n b s cp jq lb cl sp wv hv D t x y z fr tq en ct L pre stc) (f : Fr (fun _ => False) w w') (hj : IsJ w' jq' b fr' tq' (0 : Nat) (0 : Nat)) (hq : w.heap.size ≤ jq') :
    StX W w' X n b s cp jq' lb cl sp wv hv D t x y z fr' tq' 0 0 L [] stc := by
  have h' := h.still f
  have hlt := h.lt
  have hc := lt_of_block h.cell
  have hs := lt_of_block h.st
  refine ⟨h'.dk, h'.up, h'.cell, h'.on, hj, Good.nil _ _, rfl, h'.st, h'.has, h'.ncp, fun hd => by have := hlt _ (.inl hd); omega, h'.ns, ⟨by omega, h.ne.2.1, by omega⟩, fun k hk => ?_, h'.own, fun j hj => ?_, h'.aside⟩
  · obtain ⟨q1, q2, q3, q4⟩ := h.nhv k hk
    have := hlt k (.inr (.inr (.inr (.inr hk))))
    exact ⟨q1, q2, by omega, q4⟩
  · rcases hj with h1 | h1 | h1 | h1
    · exact h.foot j (.inl h1)
    · exact h.foot j (.inr (.inl h1))
    · exact ⟨Nat.le_trans h.own.size (by omega), fun hx => by have := h.aside j hx; omega⟩
    · exact h.foot j (.inr (.inr (.inr h1)))
theorem StX.finish {jp a0 : Value} {hv0 : Value} (h : StX W w X n b s cp jq lb cl sp wv hv D t x y z fr tq en ct L pre #[.pointer (some ⟨b, 0, none⟩), .pointer (some ⟨cp, 0, none⟩), jp, a0, hv0]) (S : StoV) (a : Nat)
    (he : t = S.turn ∧ x = S.area ∧ y = S.en ∧ z = S.ct ∧ fr = fromN n S.area ∧ tq = toN n S.area ∧ en = S.en ∧ ct = S.ct ∧ L = S.has ∧ pre = S.bytes ∧ a = S.area) (ha : S.area ≤ 1) (hf : S.en ≤ halfN n * 64) (henc : ∀ f ∈ S.fs, encN f ≤ 1099511627776) :
    StH W (((w.setCell ⟨s, 3, none⟩ (.int .i64 a)).setCell ⟨s, 2, none⟩ (.pointer (some ⟨jq, 0, none⟩))).setCell ⟨s, 4, none⟩ hv) X n b s S ∧ Fr (Aside W X) w (((w.setCell ⟨s, 3, none⟩ (.int .i64 a)).setCell ⟨s, 2, none⟩ (.pointer (some ⟨jq, 0, none⟩))).setCell ⟨s, 4, none⟩ hv) := by
  obtain ⟨rfl, rfl, rfl, rfl, rfl, rfl, rfl, rfl, rfl, rfl, rfl⟩ := he
  have hfx : Fr (fun j => j = s) w (((w.setCell ⟨s, 3, none⟩ (.int .i64 S.area)).setCell ⟨s, 2, none⟩ (.pointer (some ⟨jq, 0, none⟩))).setCell ⟨s, 4, none⟩ hv) :=
    (((Fr.refl (fun j => j = s) w).setCell _ (.inl rfl)).setCell _ (.inl rfl)).setCell _ (.inl rfl)
  have hne := h.ne
  have hsa : Aside W X s := h.foot s (.inr (.inr (.inr (.inl rfl))))
  refine ⟨⟨cp, jq, lb, cl, sp, wv, hv, D, h.dk.fr hfx (fun j hj e => h.ns (by rw [← e]; exact hj)), h.cell.fr hfx (by omega), h.j.fr hfx (by omega), ?_, h.has.fr hfx (fun k hk => (h.nhv k hk).2.2.2), ⟨h.up, ha, h.on, h.good, hf, henc⟩, h.ncp, h.njq, h.ns, hne, h.nhv, h.own.trans hfx (fun j hj => .inr (by rw [hj]; exact hsa.1)), h.foot, fun j hj => Nat.lt_of_lt_of_le (h.aside j hj) hfx.size⟩, hfx.mono (fun j _ hj => by rw [hj]; exact hsa)⟩
  rw [heap_setCell_self, heap_setCell_self, heap_setCell_self, h.st]; rfl
theorem Mv.app {b lb jq : Nat} {wv0 wv wv' : Value} {w wB w4 : World} (h : Mv (dkFoot b lb wv0) (dkFoot b lb wv) w wB) (m : Mv (jFoot b lb jq wv) (jFoot b lb jq wv') wB w4) (hq : w.heap.size ≤ jq) : Mv (dkFoot b lb wv0) (dkFoot b lb wv') w w4 := by
  have hk : ∀ j, jFoot b lb jq wv j → dkFoot b lb wv0 j ∨ w.heap.size ≤ j := fun j hj => hj.elim (fun h1 => h.piv j h1) (fun h1 => .inr (by omega))
  refine ⟨h.fr.trans m.fr hk, fun k hd => ?_⟩
  rcases m.piv k (.inl hd) with h1 | h1
  · exact hk k h1
  · exact .inr (Nat.le_trans h.fr.size h1)
theorem StX.back {w0 : World} {jp a : Nat} {wv0 hv0 : Value} {S : StoV} (h0 : StM W w0 X n b s S cp jp lb cl sp wv0 hv0 D)
    (h : StX W w X n b s cp jq lb cl sp wv hv D t x y z fr tq en ct L pre #[.pointer (some ⟨b, 0, none⟩), .pointer (some ⟨cp, 0, none⟩), .pointer (some ⟨jp, 0, none⟩), .int .i64 a, hv0]) (he : t = S.turn ∧ x = S.area ∧ y = S.en ∧ z = S.ct ∧ a = S.area) (mv : Mv (dkFoot b lb wv0) (dkFoot b lb wv) w0 w) : StH W w X n b s S := by
  obtain ⟨rfl, rfl, rfl, rfl, rfl⟩ := he
  have hj := lt_of_block h0.j
  have hnd : ∀ k, k < w0.heap.size → ¬ dkFoot b lb wv0 k → ¬ dkFoot b lb wv k := fun k hk hn hd => (mv.piv k hd).elim hn (fun h => by omega)
  refine ⟨cp, jp, lb, cl, sp, wv, hv0, D, h.dk, h.cell, h0.j.fr mv.fr h0.njp, h.st, h0.has.fr mv.fr (fun k hk => (h0.nhv k hk).1), h0.on, h.ncp, hnd jp hj h0.njp, h.ns, h0.ne, fun k hk => ⟨hnd k (h0.has.lt k hk) (h0.nhv k hk).1, (h0.nhv k hk).2⟩, h.own, fun j hj => ?_, h.aside⟩
  rcases hj with h1 | h1
  · exact h.foot j (.inl h1)
  · exact h0.foot j (.inr h1)
end
theorem app_facts (S : StoV) (l : List Chg) : (S.app l).bytes = S.bytes ++ frameOf (encBytes l) ∧ (S.app l).en = S.en + (encBytes l).length + 16 ∧ (S.app l).ct = S.ct + 1 ∧ (S.app l).has = applyAll S.has l := by
  have e : (S.app l).bytes = S.bytes ++ frameOf (encBytes l) := by
    unfold StoV.bytes StoV.app
    rw [List.map_append, framesOf_append]; simp [framesOf]
  refine ⟨e, ?_, ?_, hasOf_snoc _ _⟩
  · unfold StoV.en; rw [e, List.length_append, frameOf_length]; omega
  · simp [StoV.ct, StoV.app]
theorem snap_facts (S : StoV) (l : List Chg) : (S.snap l).bytes = frameOf (encBytes (applyAll S.has l)) ∧ (S.snap l).en = (encBytes (applyAll S.has l)).length + 16 ∧ (S.snap l).ct = 1 ∧ (S.snap l).has = applyAll S.has l := by
  have e : (S.snap l).bytes = frameOf (encBytes (applyAll S.has l)) := by
    unfold StoV.bytes StoV.snap
    simp [framesOf]
  refine ⟨e, ?_, rfl, hasOf_all _ _⟩
  unfold StoV.en; rw [e, frameOf_length]

set_option maxRecDepth 100000 in
set_option maxHeartbeats 2000000 in
theorem commit39 {W w : World} {X : Nat → Prop} {n b s : Nat} {S : StoV} (h : StH W w X n b s S) (hn : 4 ≤ n) (ht : S.turn ≤ 4611686018427387000) (v : Value) (l : List Chg) (hv : IsChg w v l) (hl : encN l ≤ 549755813888) :
    Calls Try.prog 39 #[.pointer (some ⟨s, 0, none⟩), v] w (ComPost W w X n b s S l) := by
  obtain ⟨cp, jp, lb, cl, sp, wv, hv0, D, h⟩ := h
  have HST := Lib.hid h
  have hst := h.st
  have hj := h.j
  obtain ⟨ho, hc, rfl⟩ := h.has.slice
  have HV := Lib.hid hv; have HL := Lib.hid hl; have HN := Lib.hid hn; have HT := Lib.hid ht
  have hsm := h.on.small
  have hlb : l.length ≤ 549755813888 := by have h1 := encAll_min l; have h2 := encAll_length l; omega
  have HSM := Lib.hid hsm; have HLB := Lib.hid hlb
  have HR := Lib.hid (hasOf_kept S.fs)
  obtain ⟨vo, vc, rfl, _⟩ := hv.is
  obtain ⟨fr, hfr⟩ : ∃ fr, fr = fromN n S.area := ⟨_, rfl⟩
  obtain ⟨tq, hto⟩ : ∃ tq, tq = toN n S.area := ⟨_, rfl⟩
  obtain ⟨t, ht'⟩ : ∃ t, t = S.turn := ⟨_, rfl⟩
  obtain ⟨en, hen⟩ : ∃ en, en = S.en := ⟨_, rfl⟩
  obtain ⟨ct, hct⟩ : ∃ ct, ct = S.ct := ⟨_, rfl⟩
  obtain ⟨a, ha⟩ : ∃ a, a = S.area := ⟨_, rfl⟩
  obtain ⟨L, hL⟩ : ∃ L, L = S.has := ⟨_, rfl⟩
  rw [← hfr, ← hto, ← hen, ← hct] at hj
  rw [← ha, ← hL] at hst
  have HE := Lib.hid (And.intro hfr (And.intro hto (And.intro ht' (And.intro hen (And.intro hct (And.intro ha hL))))))
  obtain ⟨H', hH⟩ : ∃ H', H' = applyAll L l := ⟨_, rfl⟩
  obtain ⟨EB, hEB⟩ : ∃ EB, EB = encBytes l := ⟨_, rfl⟩
  have HH := Lib.hid hH; have HEB := Lib.hid hEB
  have HAP : Hid (Calls Try.prog 73 #[.slice ho S.has.length hc, .slice vo l.length vc] w (ChgPost w H')) := Lib.hid (by
    rw [hH, hL]; exact apply73 _ _ S.has l w HST.out.has.chg HV.out HR.out.1 (by omega))
  rw [← hL] at HAP
  have HENC : Hid (∀ W, Fr (fun _ => False) w W → Calls Try.prog 74 #[.slice vo l.length vc] W (BufPost W EB)) := Lib.hid (fun W f => by
    rw [hEB]; exact encode74 _ l W (HV.out.fr f (fun _ _ h => h)) (by have := HL.out; omega))
  have HSTL : Hid (StM W w X n b s S cp jp lb cl sp wv (.slice ho L.length hc) D) := Lib.hid (by rw [hL]; exact HST.out)
  have hft := from_to n S.area (by have := HN.out; omega) HST.out.on.area
  have hmost := HST.out.on.up.ok.most
  rw [HST.out.on.up.len] at hmost
  have HB : Hid (2 ≤ fr ∧ fr ≤ tq ∧ tq ≤ n ∧ tq - fr = halfN n ∧ ct ≤ 2097152 ∧ en ≤ (tq - fr) * 64 ∧ n ≤ 65536) := Lib.hid (by
    rw [hfr, hto, hct, hen]; refine ⟨hft.1, hft.2.1, hft.2.2.1, hft.2.2.2, hsm.2.2.1, ?_, hmost⟩
    rw [hft.2.2.2]; exact HST.out.on.fit)
  unfold IsJ at hj
  clear h hv hl hn ht hft hmost hH hEB hsm hlb hfr hto ht' hen hct ha hL
  go_enter Try.func39, Try.ntmps39
  go_wp2_with (first
    | (go_at_call 73
       refine HAP.out.mono ?_
       rintro e w1 ⟨v1, rfl, o1, n1, f1⟩
       have hst1 := f1.at hst (fun h => h)
       have hj1 := f1.at hj (fun h => h)
       have HO1 := Lib.hid o1; have HN1 := Lib.hid n1; have HF1 := Lib.hid f1
       obtain ⟨o1', c1', rfl⟩ := o1.slice
       clear o1 n1 f1)
    | (go_at_call 74
       go_loud (
       obtain ⟨W2, hW2⟩ : ∃ W2, W2 = w1.alloc (.cells #[.pointer (some ⟨b, 0, none⟩), .int .i64 fr, .int .i64 tq, .int .i64 en, .int .i64 ct] 100 (0, 0)) := ⟨_, rfl⟩
       have hx2 : StX W W2 X n b s cp w1.heap.size lb cl sp wv (.slice o1' H'.length c1') D t a en ct fr tq en ct H' S.bytes #[.pointer (some ⟨b, 0, none⟩), .pointer (some ⟨cp, 0, none⟩), .pointer (some ⟨jp, 0, none⟩), .int .i64 a, .slice ho L.length hc] := by
         rw [hW2]; exact StX.begin HSTL.out HE.out HF1.out HO1.out HN1.out
       have hf2 : Fr (fun _ => False) w W2 := by rw [hW2]; exact HF1.out.alloc _
       have HSQ : Hid (w.heap.size ≤ w1.heap.size) := Lib.hid HF1.out.size
       rw [← hW2]
       clear hW2
       generalize w1.heap.size = jq at *
       refine (HENC.out W2 hf2).mono ?_
       rintro e w3 ⟨v3, rfl, b3, n3, f3⟩
       have HX3 := Lib.hid (hx2.still f3)
       have HB3 := Lib.hid b3.bytes
       have HM3 : Hid (Mv (dkFoot b lb wv) (dkFoot b lb wv) w w3) := Lib.hid (Mv.of_fr (hf2.trans f3 (fun _ h => h.elim)).wide)
       obtain ⟨o3, c3, rfl⟩ := b3.slice
       clear b3 n3 f3 hx2 hf2 hst1 hj1)))
  refine (HX3.out.append _ EB HB3.out HB.out.1 HB.out.2.1 HB.out.2.2.1 (by have := HB.out; omega) HB.out.2.2.2.2.2.1).mono ?_
  rintro e w4 ⟨er, wv4, E, rfl, fa4, mv4, hres⟩
  have HFA4 : Hid (Fr (Aside W X) w w4) := Lib.hid ((HM3.out.fr.mono (fun j _ h => HST.out.foot j (.inl h))).trans fa4 (fun _ h => .inl h))
  have HM4 := Lib.hid (HM3.out.app mv4 HSQ.out)
  clear fa4 mv4 HX3 HM3 hst hj
  rcases hres with ⟨rfl, hfit, hx4⟩ | ⟨her, hfit, rfl, hx4⟩
  · have HFIT := Lib.hid hfit
    obtain ⟨en2, hen2⟩ : ∃ en2, en2 = en + EB.length + 16 := ⟨_, rfl⟩
    obtain ⟨ct2, hct2⟩ : ∃ ct2, ct2 = ct + 1 := ⟨_, rfl⟩
    rw [← hen2, ← hct2] at hx4
    have HX4 := Lib.hid (hx4.still (Fr.refl _ w4).drew)
    have HE2 := Lib.hid (And.intro hen2 hct2)
    have hst4 := HX4.out.st
    clear hx4 hfit hen2 hct2
    have HT2 : Hid (t ≤ 4611686018427387000) := Lib.hid (by rw [HE.out.2.2.1]; exact HT.out)
    have HF2 : Hid (2 ≤ fr) := Lib.hid HB.out.1
    have HI64 : Hid (in64 (a : Int) ∧ in64 (en2 : Int) ∧ in64 (ct2 : Int)) := Lib.hid (by
      have h1 := HB.out; have h2 := HE2.out; have h3 := HST.out.on.area; have h4 := HE.out.2.2.2.2.2.1; have h5 := HFIT.out
      refine ⟨?_, ?_, ?_⟩ <;> constructor <;> omega)
    go_wp2
    refine start_ (n := 12) (S := fun w' => w'.heap[s]? = some (.cells #[.pointer (some ⟨b, 0, none⟩), .pointer (some ⟨cp, 0, none⟩), .pointer (some ⟨jp, 0, none⟩), .int .i64 a, .slice ho L.length hc] 116 (0, 0))) (ds := []) #[false, false, false, false, false, false, false, false, false, false, false, false] (by kernel_rfl) rfl rfl (hst4) (fun hHeld => ?_)
    refine pure_ (i := 0) (N := some 73) (v := ?_) (a' := ?_) #[true, false, false, false, false, false, false, false, false, false, false, false] rfl rfl (by kernel_rfl) (fun _ _ _ h => h) (Or.inl ⟨by rfl, ?_⟩) ?_ ?_
    rotate_left
    · intro w'
      try simp only [List.getElem_toArray, List.getElem_cons_succ, List.getElem_cons_zero]
      go_simp
      with_reducible rfl
    rotate_left
    · simp only [Act.put, List.setIfInBounds_toArray, List.set_cons_zero, List.set_cons_succ, i64_w, i32_w]
      rfl
    refine pure_ (i := 1) (N := some 74) (v := ?_) (a' := ?_) #[true, true, false, false, false, false, false, false, false, false, false, false] rfl rfl (by kernel_rfl) (fun _ _ _ h => h) (Or.inl ⟨by rfl, ?_⟩) ?_ ?_
    rotate_left
    · intro w'
      try simp only [List.getElem_toArray, List.getElem_cons_succ, List.getElem_cons_zero]
      go_simp
      with_reducible rfl
    rotate_left
    · simp only [Act.put, List.setIfInBounds_toArray, List.set_cons_zero, List.set_cons_succ, i64_w, i32_w]
      rfl
    refine pure_ (i := 2) (N := some 75) (v := ?_) (a' := ?_) #[true, true, true, false, false, false, false, false, false, false, false, false] rfl rfl (by kernel_rfl) (fun _ _ _ h => h) (Or.inl ⟨by rfl, ?_⟩) ?_ ?_
    rotate_left
    · intro w'
      try simp only [List.getElem_toArray, List.getElem_cons_succ, List.getElem_cons_zero]
      go_simp
      with_reducible rfl
    rotate_left
    · simp only [Act.put, List.setIfInBounds_toArray, List.set_cons_zero, List.set_cons_succ, i64_w, i32_w]
      rfl
    refine pure_ (i := 4) (N := some 77) (v := ?_) (a' := ?_) #[true, true, true, false, true, false, false, false, false, false, false, false] rfl rfl (by kernel_rfl) (fun _ _ _ h => h) (Or.inl ⟨by rfl, ?_⟩) ?_ ?_
    rotate_left
    · intro w'
      try simp only [List.getElem_toArray, List.getElem_cons_succ, List.getElem_cons_zero]
      go_simp
      with_reducible rfl
    rotate_left
    · simp only [Act.put, List.setIfInBounds_toArray, List.set_cons_zero, List.set_cons_succ, i64_w, i32_w]
      rfl
    refine pure_ (i := 5) (N := some 78) (v := ?_) (a' := ?_) #[true, true, true, false, true, true, false, false, false, false, false, false] rfl rfl (by kernel_rfl) (fun _ _ _ h => h) (Or.inl ⟨by rfl, ?_⟩) ?_ ?_
    rotate_left
    · intro w'
      try simp only [List.getElem_toArray, List.getElem_cons_succ, List.getElem_cons_zero]
      go_simp
      with_reducible rfl
    rotate_left
    · simp only [Act.put, List.setIfInBounds_toArray, List.set_cons_zero, List.set_cons_succ, i64_w, i32_w]
      rfl
    refine pure_ (i := 7) (N := some 80) (v := ?_) (a' := ?_) #[true, true, true, false, true, true, false, true, false, false, false, false] rfl rfl (by kernel_rfl) (fun _ _ _ h => h) (Or.inl ⟨by rfl, ?_⟩) ?_ ?_
    rotate_left
    · intro w'
      try simp only [List.getElem_toArray, List.getElem_cons_succ, List.getElem_cons_zero]
      go_simp
      with_reducible rfl
    rotate_left
    · simp only [Act.put, List.setIfInBounds_toArray, List.set_cons_zero, List.set_cons_succ, i64_w, i32_w]
      rfl
    refine take_ (i := 3) (N := some 76) (v := ?_) (a' := ?_) #[true, true, true, true, true, true, false, true, false, false, false, false] rfl rfl (by kernel_rfl) (fun _ _ _ h => h) (Or.inl ⟨by rfl, ?_⟩) hHeld ?_ ?_
    rotate_left
    · intro w' s0
      try simp only [List.getElem_toArray, List.getElem_cons_succ, List.getElem_cons_zero]
      go_simp
      with_reducible rfl
    rotate_left
    · simp only [Act.put, List.setIfInBounds_toArray, List.set_cons_zero, List.set_cons_succ, i64_w, i32_w]
      rfl
    refine one_ (i := 6) (N := some 79) #[true, true, true, true, true, true, true, true, false, false, false, false] rfl rfl (by kernel_rfl) (by decide) (fun K hK => ?_)
    refine goes_ Try.func33 (by kernel_rfl) rfl #[.pointer (some ⟨jq, 0, none⟩)] (by rfl) rfl rfl (by simp only [List.map_toArray, List.map_cons, List.map_nil]; rfl) ?_
    with_reducible refine (j_end jq b fr tq en2 ct2 _ HX4.out.j).mono ?_
    rintro e wq ⟨rfl, rfl⟩
    refine ⟨_, rfl, ?_⟩
    refine hK.out _ _ (hst4) (fun hHeld => ?_)
    clear hK K
    refine norm_ (a' := ?_) ?_ ?_
    rotate_left
    · show Act.put _ (some 79) _ = _
      simp only [Act.put, List.setIfInBounds_toArray, List.set_cons_zero, List.set_cons_succ, i64_w, i32_w]
      rfl
    refine one_ (i := 8) (N := some 81) #[true, true, true, true, true, true, true, true, true, false, false, false] rfl rfl (by kernel_rfl) (by decide) (fun K hK => ?_)
    refine goes_ Try.func34 (by kernel_rfl) rfl #[.pointer (some ⟨jq, 0, none⟩)] (by rfl) rfl rfl (by simp only [List.map_toArray, List.map_cons, List.map_nil]; rfl) ?_
    with_reducible refine (j_count jq b fr tq en2 ct2 _ HX4.out.j).mono ?_
    rintro e wq ⟨rfl, rfl⟩
    refine ⟨_, rfl, ?_⟩
    refine hK.out _ _ (hst4) (fun hHeld => ?_)
    clear hK K
    refine norm_ (a' := ?_) ?_ ?_
    rotate_left
    · show Act.put _ (some 81) _ = _
      simp only [Act.put, List.setIfInBounds_toArray, List.set_cons_zero, List.set_cons_succ, i64_w, i32_w]
      rfl
    refine pure_ (i := 9) (N := some 82) (v := ?_) (a' := ?_) #[true, true, true, true, true, true, true, true, true, true, false, false] rfl rfl (by kernel_rfl) (fun _ _ _ h => h) (Or.inl ⟨by rfl, ?_⟩) ?_ ?_
    rotate_left
    · intro w'
      try simp only [List.getElem_toArray, List.getElem_cons_succ, List.getElem_cons_zero]
      go_simp
      with_reducible rfl
    rotate_left
    · simp only [Act.put, List.setIfInBounds_toArray, List.set_cons_zero, List.set_cons_succ, i64_w, i32_w]
      rfl
    refine one_ (i := 10) (N := some 83) #[true, true, true, true, true, true, true, true, true, true, true, false] rfl rfl (by kernel_rfl) (by decide) (fun K hK => ?_)
    refine goes_ Try.func75 (by kernel_rfl) rfl #[.pointer (some ⟨cp, 0, none⟩), .agg #[.int .i64 (a : Int), .int .i64 (en2 : Int), .int .i64 (ct2 : Int)]] (by rfl) rfl rfl (by simp only [List.map_toArray, List.map_cons, List.map_nil]; rfl) ?_
    with_reducible refine (HX4.out.set (by have := HN.out; omega) HT2.out HF2.out _ _ _ HI64.out.1 HI64.out.2.1 HI64.out.2.2).mono ?_
    rintro e w5 ⟨wv5, E5, rfl, fa5, hx5⟩
    refine ⟨_, rfl, ?_⟩
    have HX5 := Lib.hid hx5
    have hst5 := hx5.st
    have HFA5 := Lib.hid fa5
    clear fa5 hx5
    refine hK.out _ _ (hst5) (fun hHeld => ?_)
    clear hK K
    refine norm_ (a' := ?_) ?_ ?_
    rotate_left
    · show Act.put _ (some 83) _ = _
      simp only [Act.put, List.setIfInBounds_toArray, List.set_cons_zero, List.set_cons_succ, i64_w, i32_w]
      rfl
    refine pure_ (i := 11) (N := some 12) (v := ?_) (a' := ?_) #[true, true, true, true, true, true, true, true, true, true, true, true] rfl rfl (by kernel_rfl) (fun _ _ _ h => h) (Or.inl ⟨by rfl, ?_⟩) ?_ ?_
    rotate_left
    · intro w'
      try simp only [List.getElem_toArray, List.getElem_cons_succ, List.getElem_cons_zero]
      go_simp
      with_reducible rfl
    rotate_left
    · simp only [Act.put, List.setIfInBounds_toArray, List.set_cons_zero, List.set_cons_succ, i64_w, i32_w]
      rfl
    refine done_ (by kernel_rfl) ?_

    clear hst4
    go_wp2
    go_ret
    obtain ⟨g1, g2, g3, g4⟩ := app_facts S l
    obtain ⟨e1, e2, e3, e4, e5, e6, e7⟩ := HE.out
    obtain ⟨r1, r2⟩ := HX5.out.finish (S.app l) a ⟨by rw [e3]; rfl, by rw [e6]; rfl, by rw [g2, HE2.out.1, e4, HEB.out], by rw [g3, HE2.out.2, e5], e1, e2, by rw [g2, HE2.out.1, e4, HEB.out], by rw [g3, HE2.out.2, e5], by rw [g4, HH.out, e7], by rw [g1, HEB.out], e6⟩ HST.out.on.area
      (by rw [g2, ← e4, ← HEB.out]; have h1 := HFIT.out; have h2 := HB.out.2.2.2.1; omega) (fun f hf => by
        rcases List.mem_append.1 hf with h | h
        · exact HST.out.on.enc f h
        · rw [List.mem_singleton] at h; rw [h]; have := HL.out; omega)
    exact ⟨0, S.app l, rfl, .app (by unfold Fits; rw [← e4, ← HEB.out]; have h1 := HFIT.out; have h2 := HB.out.2.2.2.1; omega), r1, (HFA4.out.drew.trans HFA5.out (fun _ h => .inl h)).trans r2 (fun _ h => .inl h)⟩
  · have HNF : Hid (¬ Fits n S.en (encBytes l).length) := Lib.hid (fun hh => hfit (by
      unfold Fits at hh; rw [← HEB.out, ← HE.out.2.2.2.1] at hh; have h2 := HB.out.2.2.2.1; omega))
    have hal := HST.out.on.area
    obtain ⟨a2, ha2⟩ : ∃ a2, a2 = 1 - a := ⟨_, rfl⟩
    have hab : a ≤ 1 := by have := HE.out.2.2.2.2.2.1; omega
    have A1 : wrap64 (1 - (a : Int)) = (a2 : Int) := by rw [w64 _ (by omega)]; omega
    have hft := from_to n a2 (by have := HN.out; omega) (by omega)
    obtain ⟨fr2, hfr2⟩ : ∃ fr2, fr2 = fromN n a2 := ⟨_, rfl⟩
    obtain ⟨tq2, htq2⟩ : ∃ tq2, tq2 = toN n a2 := ⟨_, rfl⟩
    rw [← hfr2, ← htq2] at hft
    have HB2 := Lib.hid hft
    have HE2 := Lib.hid (And.intro ha2 (And.intro hfr2 (And.intro htq2 hab)))
    have P71 : Hid (∀ W, IsDk W b lb cl sp wv4 E → Calls Try.prog 71 #[.pointer (some ⟨b, 0, none⟩), .int .i64 a2] W fun e w' => e = .returned (.tuple #[.int .i64 fr2, .int .i64 tq2]) ∧ W = w') := Lib.hid (fun W h => by rw [hfr2, htq2]; exact place71' b lb cl sp wv4 E W n a2 h hx4.up.len (by omega) (by have := HN.out; omega))
    obtain ⟨EH, hEH⟩ : ∃ EH, EH = encBytes H' := ⟨_, rfl⟩
    have HEH := Lib.hid hEH
    have HENH : Hid (∀ W, IsChg W (.slice o1' H'.length c1') H' → Calls Try.prog 74 #[.slice o1' H'.length c1'] W (BufPost W EH)) := Lib.hid (fun W h => by
      rw [hEH]
      refine encode74 _ H' W h ?_
      have h1 : Kept H' := by rw [HH.out, HE.out.2.2.2.2.2.2]; exact HR.out.2.all l
      have h2 := encAll_all l L
      rw [encN_kept H' h1, HH.out]
      have h3 := HSM.out; have h4 := encAll_length l; have h5 := HL.out
      rw [← HE.out.2.2.2.2.2.2] at h3
      omega)
    have hst4 := hx4.st
    have HX4 := Lib.hid hx4
    clear hx4 hfit hal ha2 hab hft hfr2 htq2 hEH HENC HAP
    rcases her with rfl | rfl
    all_goals
      go_wp2_with (first
        | (go_at_call 71
           refine (P71.out w4 HX4.out.dk).mono ?_
           rintro e wq ⟨rfl, rfl⟩)
        | (go_at_call 30
           go_loud (
           refine (j_open b lb cl sp wv4 E fr2 tq2 0 [] w4 HX4.out.dk HX4.out.up.up HB2.out.2.1 (by rw [HX4.out.up.len]; exact HB2.out.2.2.1) (Nat.zero_le _) (by simp [framesOf])).mono ?_
           rintro e w5 ⟨jq2, fv, rfl, hj5, hl5, hjq, f5⟩
           obtain ⟨fo, fc, rfl, _⟩ := hl5.is
           have HX5 := Lib.hid (HX4.out.other f5 hj5 hjq)
           have HM5 : Hid (Mv (dkFoot b lb wv) (dkFoot b lb wv4) w w5) := Lib.hid (HM4.out.trans (Mv.of_fr f5.wide))
           have HSQ2 : Hid (w.heap.size ≤ jq2) := Lib.hid (Nat.le_trans HM4.out.fr.size hjq)
           have HFA5 : Hid (Fr (Aside W X) w w5) := Lib.hid (HFA4.out.trans f5 (fun _ h => h.elim))
           have hst5 := f5.at hst4 (fun h => h)
           clear hj5 hl5 hjq f5))
        | (go_at_call 74
           refine (HENH.out w5 HX5.out.has.chg).mono ?_
           rintro e w6 ⟨v6, rfl, b6, n6, f6⟩
           have HX6 := Lib.hid (HX5.out.still f6)
           have HB6 := Lib.hid b6.bytes
           have HM6 : Hid (Mv (dkFoot b lb wv) (dkFoot b lb wv4) w w6) := Lib.hid (HM5.out.trans (Mv.of_fr f6.wide))
           have HFA6 : Hid (Fr (Aside W X) w w6) := Lib.hid (HFA5.out.trans f6 (fun _ h => h.elim))
           obtain ⟨o6, c6, rfl⟩ := b6.slice
           clear b6 n6 f6))
    all_goals
      refine (HX6.out.append _ EH HB6.out HB2.out.1 HB2.out.2.1 HB2.out.2.2.1 (by omega) (by omega)).mono ?_
      rintro e w7 ⟨er, wv7, E7, rfl, fa7, mv7, hres⟩
      have HFA7 : Hid (Fr (Aside W X) w w7) := Lib.hid (HFA6.out.trans fa7 (fun _ h => .inl h))
      have HM7 := Lib.hid (HM6.out.app mv7 HSQ2.out)
      clear fa7 mv7 HX6 HM6 HX5 HM5 HX4 HM4 hst5 hst4
      rcases hres with ⟨rfl, hfit, hx7⟩ | ⟨her, hfit, rfl, hx7⟩
      · have HFIT := Lib.hid hfit
        obtain ⟨en2, hen2⟩ : ∃ en2, en2 = 0 + EH.length + 16 := ⟨_, rfl⟩
        obtain ⟨ct2, hct2⟩ : ∃ ct2, ct2 = 0 + 1 := ⟨_, rfl⟩
        rw [← hen2, ← hct2] at hx7
        have HX7 := Lib.hid (hx7.still (Fr.refl _ w7).drew)
        have HEN := Lib.hid (And.intro hen2 hct2)
        have hst7 := HX7.out.st
        clear hx7 hfit hen2 hct2
        have HT2 : Hid (t ≤ 4611686018427387000) := Lib.hid (by rw [HE.out.2.2.1]; exact HT.out)
        have HI64 : Hid (in64 (a2 : Int) ∧ in64 (en2 : Int) ∧ in64 (ct2 : Int)) := Lib.hid (by
          have h1 := HB.out; have h2 := HEN.out; have h5 := HFIT.out; have h6 := HE2.out
          refine ⟨?_, ?_, ?_⟩ <;> constructor <;> omega)
        go_wp2
        refine start_ (n := 12) (S := fun w' => w'.heap[s]? = some (.cells #[.pointer (some ⟨b, 0, none⟩), .pointer (some ⟨cp, 0, none⟩), .pointer (some ⟨jp, 0, none⟩), .int .i64 a, .slice ho L.length hc] 116 (0, 0))) (ds := []) #[false, false, false, false, false, false, false, false, false, false, false, false] (by kernel_rfl) rfl rfl (hst7) (fun hHeld => ?_)
        refine pure_ (i := 0) (N := some 73) (v := ?_) (a' := ?_) #[true, false, false, false, false, false, false, false, false, false, false, false] rfl rfl (by kernel_rfl) (fun _ _ _ h => h) (Or.inl ⟨by rfl, ?_⟩) ?_ ?_
        rotate_left
        · intro w'
          try simp only [List.getElem_toArray, List.getElem_cons_succ, List.getElem_cons_zero]
          go_simp
          with_reducible rfl
        rotate_left
        · simp only [Act.put, List.setIfInBounds_toArray, List.set_cons_zero, List.set_cons_succ, i64_w, i32_w]
          rfl
        refine pure_ (i := 1) (N := some 74) (v := ?_) (a' := ?_) #[true, true, false, false, false, false, false, false, false, false, false, false] rfl rfl (by kernel_rfl) (fun _ _ _ h => h) (Or.inl ⟨by rfl, ?_⟩) ?_ ?_
        rotate_left
        · intro w'
          try simp only [List.getElem_toArray, List.getElem_cons_succ, List.getElem_cons_zero]
          go_simp
          with_reducible rfl
        rotate_left
        · simp only [Act.put, List.setIfInBounds_toArray, List.set_cons_zero, List.set_cons_succ, i64_w, i32_w]
          rfl
        refine pure_ (i := 2) (N := some 75) (v := ?_) (a' := ?_) #[true, true, true, false, false, false, false, false, false, false, false, false] rfl rfl (by kernel_rfl) (fun _ _ _ h => h) (Or.inl ⟨by rfl, ?_⟩) ?_ ?_
        rotate_left
        · intro w'
          try simp only [List.getElem_toArray, List.getElem_cons_succ, List.getElem_cons_zero]
          go_simp
          with_reducible rfl
        rotate_left
        · simp only [Act.put, List.setIfInBounds_toArray, List.set_cons_zero, List.set_cons_succ, i64_w, i32_w]
          rfl
        refine pure_ (i := 4) (N := some 77) (v := ?_) (a' := ?_) #[true, true, true, false, true, false, false, false, false, false, false, false] rfl rfl (by kernel_rfl) (fun _ _ _ h => h) (Or.inl ⟨by rfl, ?_⟩) ?_ ?_
        rotate_left
        · intro w'
          try simp only [List.getElem_toArray, List.getElem_cons_succ, List.getElem_cons_zero]
          go_simp
          with_reducible rfl
        rotate_left
        · simp only [Act.put, List.setIfInBounds_toArray, List.set_cons_zero, List.set_cons_succ, i64_w, i32_w]
          rfl
        refine pure_ (i := 5) (N := some 78) (v := ?_) (a' := ?_) #[true, true, true, false, true, true, false, false, false, false, false, false] rfl rfl (by kernel_rfl) (fun _ _ _ h => h) (Or.inl ⟨by rfl, ?_⟩) ?_ ?_
        rotate_left
        · intro w'
          try simp only [List.getElem_toArray, List.getElem_cons_succ, List.getElem_cons_zero]
          go_simp
          with_reducible rfl
        rotate_left
        · simp only [Act.put, List.setIfInBounds_toArray, List.set_cons_zero, List.set_cons_succ, i64_w, i32_w]
          rfl
        refine pure_ (i := 7) (N := some 80) (v := ?_) (a' := ?_) #[true, true, true, false, true, true, false, true, false, false, false, false] rfl rfl (by kernel_rfl) (fun _ _ _ h => h) (Or.inl ⟨by rfl, ?_⟩) ?_ ?_
        rotate_left
        · intro w'
          try simp only [List.getElem_toArray, List.getElem_cons_succ, List.getElem_cons_zero]
          go_simp
          with_reducible rfl
        rotate_left
        · simp only [Act.put, List.setIfInBounds_toArray, List.set_cons_zero, List.set_cons_succ, i64_w, i32_w]
          rfl
        refine take_ (i := 3) (N := some 76) (v := ?_) (a' := ?_) #[true, true, true, true, true, true, false, true, false, false, false, false] rfl rfl (by kernel_rfl) (fun _ _ _ h => h) (Or.inl ⟨by rfl, ?_⟩) hHeld ?_ ?_
        rotate_left
        · intro w' s0
          try simp only [List.getElem_toArray, List.getElem_cons_succ, List.getElem_cons_zero]
          go_simp
          with_reducible rfl
        rotate_left
        · simp only [Act.put, List.setIfInBounds_toArray, List.set_cons_zero, List.set_cons_succ, i64_w, i32_w]
          rfl
        refine one_ (i := 6) (N := some 79) #[true, true, true, true, true, true, true, true, false, false, false, false] rfl rfl (by kernel_rfl) (by decide) (fun K hK => ?_)
        refine goes_ Try.func33 (by kernel_rfl) rfl #[.pointer (some ⟨jq2, 0, none⟩)] (by rfl) rfl rfl (by simp only [List.map_toArray, List.map_cons, List.map_nil]; rfl) ?_
        with_reducible refine (j_end jq2 b fr2 tq2 en2 ct2 _ HX7.out.j).mono ?_
        rintro e wq ⟨rfl, rfl⟩
        refine ⟨_, rfl, ?_⟩
        refine hK.out _ _ (hst7) (fun hHeld => ?_)
        clear hK K
        refine norm_ (a' := ?_) ?_ ?_
        rotate_left
        · show Act.put _ (some 79) _ = _
          simp only [Act.put, List.setIfInBounds_toArray, List.set_cons_zero, List.set_cons_succ, i64_w, i32_w]
          rfl
        refine one_ (i := 8) (N := some 81) #[true, true, true, true, true, true, true, true, true, false, false, false] rfl rfl (by kernel_rfl) (by decide) (fun K hK => ?_)
        refine goes_ Try.func34 (by kernel_rfl) rfl #[.pointer (some ⟨jq2, 0, none⟩)] (by rfl) rfl rfl (by simp only [List.map_toArray, List.map_cons, List.map_nil]; rfl) ?_
        with_reducible refine (j_count jq2 b fr2 tq2 en2 ct2 _ HX7.out.j).mono ?_
        rintro e wq ⟨rfl, rfl⟩
        refine ⟨_, rfl, ?_⟩
        refine hK.out _ _ (hst7) (fun hHeld => ?_)
        clear hK K
        refine norm_ (a' := ?_) ?_ ?_
        rotate_left
        · show Act.put _ (some 81) _ = _
          simp only [Act.put, List.setIfInBounds_toArray, List.set_cons_zero, List.set_cons_succ, i64_w, i32_w]
          rfl
        refine pure_ (i := 9) (N := some 82) (v := ?_) (a' := ?_) #[true, true, true, true, true, true, true, true, true, true, false, false] rfl rfl (by kernel_rfl) (fun _ _ _ h => h) (Or.inl ⟨by rfl, ?_⟩) ?_ ?_
        rotate_left
        · intro w'
          try simp only [List.getElem_toArray, List.getElem_cons_succ, List.getElem_cons_zero]
          go_simp
          with_reducible rfl
        rotate_left
        · simp only [Act.put, List.setIfInBounds_toArray, List.set_cons_zero, List.set_cons_succ, i64_w, i32_w]
          rfl
        refine one_ (i := 10) (N := some 83) #[true, true, true, true, true, true, true, true, true, true, true, false] rfl rfl (by kernel_rfl) (by decide) (fun K hK => ?_)
        refine goes_ Try.func75 (by kernel_rfl) rfl #[.pointer (some ⟨cp, 0, none⟩), .agg #[.int .i64 (a2 : Int), .int .i64 (en2 : Int), .int .i64 (ct2 : Int)]] (by rfl) rfl rfl (by simp only [List.map_toArray, List.map_cons, List.map_nil]; rfl) ?_
        with_reducible refine (HX7.out.set (by have := HN.out; omega) HT2.out HB2.out.1 _ _ _ HI64.out.1 HI64.out.2.1 HI64.out.2.2).mono ?_
        rintro e w8 ⟨wv8, E8, rfl, fa8, hx8⟩
        refine ⟨_, rfl, ?_⟩
        have HX8 := Lib.hid hx8
        have hst8 := hx8.st
        have HFA8 := Lib.hid fa8
        clear fa8 hx8
        refine hK.out _ _ (hst8) (fun hHeld => ?_)
        clear hK K
        refine norm_ (a' := ?_) ?_ ?_
        rotate_left
        · show Act.put _ (some 83) _ = _
          simp only [Act.put, List.setIfInBounds_toArray, List.set_cons_zero, List.set_cons_succ, i64_w, i32_w]
          rfl
        refine pure_ (i := 11) (N := some 12) (v := ?_) (a' := ?_) #[true, true, true, true, true, true, true, true, true, true, true, true] rfl rfl (by kernel_rfl) (fun _ _ _ h => h) (Or.inl ⟨by rfl, ?_⟩) ?_ ?_
        rotate_left
        · intro w'
          try simp only [List.getElem_toArray, List.getElem_cons_succ, List.getElem_cons_zero]
          go_simp
          with_reducible rfl
        rotate_left
        · simp only [Act.put, List.setIfInBounds_toArray, List.set_cons_zero, List.set_cons_succ, i64_w, i32_w]
          rfl
        refine done_ (by kernel_rfl) ?_

        clear hst7
        go_wp2
        go_ret
        obtain ⟨g1, g2, g3, g4⟩ := snap_facts S l
        obtain ⟨e1, e2, e3, e4, e5, e6, e7⟩ := HE.out
        obtain ⟨q1, q2, q3, q4⟩ := HE2.out
        have eb : EH = encBytes (applyAll S.has l) := by rw [HEH.out, HH.out, e7]
        have ea : (S.snap l).area = a2 := by rw [q1, e6]; rfl
        obtain ⟨r1, r2⟩ := HX8.out.finish (S.snap l) a2 ⟨by rw [e3]; rfl, by rw [ea], by rw [g2, HEN.out.1, eb]; congr 2; omega, by rw [g3, HEN.out.2], by rw [q2, ea], by rw [q3, ea], by rw [g2, HEN.out.1, eb]; omega, by rw [g3, HEN.out.2], by rw [g4, HH.out, e7], by rw [g1, eb, List.nil_append], ea.symm⟩ (by rw [ea]; omega)
          (by rw [g2, ← eb]; have h1 := HFIT.out; have h2 := HB2.out.2.2.2; omega) (fun f hf => by
            obtain rfl : f = applyAll S.has l := by simpa [StoV.snap] using hf
            have h1 : Kept (applyAll S.has l) := HR.out.2.all l
            rw [encN_kept _ h1]
            have h2 := encAll_all l S.has
            have h3 := HSM.out; have h4 := encAll_length l; have h5 := HL.out
            omega)
        exact ⟨0, S.snap l, rfl, .snap HNF.out (by unfold Fits; rw [← eb]; have h1 := HFIT.out; have h2 := HB2.out.2.2.2; omega), r1, (HFA7.out.drew.trans HFA8.out (fun _ h => .inl h)).trans r2 (fun _ h => .inl h)⟩
      · have HNF2 : Hid (¬ Fits n 0 (encBytes (applyAll S.has l)).length) := Lib.hid (fun hh => hfit (by
          have eb : EH = encBytes (applyAll S.has l) := by rw [HEH.out, HH.out, HE.out.2.2.2.2.2.2]
          unfold Fits at hh; rw [← eb] at hh; have h2 := HB2.out.2.2.2; omega))
        have HBK := Lib.hid (hx7.back HSTL.out ⟨HE.out.2.2.1, by rw [HE.out.2.2.2.2.2.1], by rw [HE.out.2.2.2.1], by rw [HE.out.2.2.2.2.1], HE.out.2.2.2.2.2.1⟩ HM7.out)
        clear hx7 hfit
        rcases her with rfl | rfl
        all_goals
          go_wp2
          go_ret
          exact ⟨51, S, rfl, .full HNF.out HNF2.out, HBK.out, HFA7.out⟩
end Go.Proofs.Ytnpeeephkkmomaa
namespace Go.Proofs.Ytnpeeephkkmomaa
open Go.RowKit Go.Proofs.YtnpeeephkkmomaaW.PrintLast
set_option linter.unusedVariables false
set_option linter.unusedSimpArgs false

theorem StH.still {W w w' : World} {X : Nat → Prop} {n b s : Nat} {S : StoV} (h : StH W w X n b s S) (hf : Fr (fun _ => False) w w') : StH W w' X n b s S := by
  obtain ⟨cp, jp, lb, cl, sp, wv, hv, D, h⟩ := h
  exact ⟨cp, jp, lb, cl, sp, wv, hv, D, h.dk.fr hf (fun _ _ h => h), h.cell.fr hf (fun h => h), h.j.fr hf (fun h => h), hf.at h.st (fun h => h), h.has.fr hf (fun _ _ h => h), h.on, h.ncp, h.njp, h.ns, h.ne, h.nhv, h.own.trans hf (fun _ h => h.elim), h.foot, fun j hj => Nat.lt_of_lt_of_le (h.aside j hj) hf.size⟩
theorem StH.own {W w : World} {X : Nat → Prop} {n b s : Nat} {S : StoV} (h : StH W w X n b s S) : Fr (fun _ => False) W w := by
  obtain ⟨cp, jp, lb, cl, sp, wv, hv, D, h⟩ := h
  exact h.own
/-- A key's value. -/
def getOf (L : List Chg) (k : List UInt8) : List UInt8 × Bool := match L.find? (fun c => c.key == k) with | some c => (c.val, true) | none => ([], false)
theorem getOf_found {L : List Chg} {k : List UInt8} {i : Nat} (h : FindAt L k i true) (hi : i < L.length) (he : L[i].key = k) : getOf L k = (L[i].val, true) := by
  have : L.find? (fun c => c.key == k) = some L[i] := by
    rw [List.find?_eq_some_iff_getElem]
    refine ⟨by simpa using he, i, hi, rfl, fun j hj => ?_⟩
    have h1 := h.lo j (by omega) hj
    have h2 : L[j].key ≠ k := fun e => by rw [e, cb_refl] at h1; exact absurd h1 (by decide)
    simpa using h2
  unfold getOf; rw [this]
theorem getOf_not {L : List Chg} {k : List UInt8} {i : Nat} (h : FindAt L k i false) (hr : Rising L) : getOf L k = ([], false) := by
  have : L.find? (fun c => c.key == k) = none := by
    rw [List.find?_eq_none]
    intro c hc he
    obtain ⟨j, hj, rfl⟩ := List.mem_iff_getElem.1 hc
    have he' : L[j].key = k := by simpa using he
    have hji : ¬ j < i := fun h1 => by have h2 := h.lo j hj h1; rw [he', cb_refl] at h2; exact absurd h2 (by decide)
    have hf : ∃ h : i < L.length, L[i].key = k := by
      refine ⟨by omega, ?_⟩
      rcases Nat.lt_or_ge i j with h1 | h1
      · have h2 := hr i j (by omega) hj h1
        have h3 := h.hi i (by omega) (Nat.le_refl _)
        rw [he'] at h2; omega
      · obtain rfl : i = j := by omega
        exact he'
    have := h.is.2 hf
    cases this
  unfold getOf; rw [this]
set_option maxRecDepth 100000 in
set_option maxHeartbeats 1000000 in
theorem StH.count {W w : World} {X : Nat → Prop} {n b s : Nat} {S : StoV} (h : StH W w X n b s S) : Calls Try.prog 46 #[.pointer (some ⟨s, 0, none⟩)] w fun e w' => e = .returned (.int .i64 (S.has.length : Nat)) ∧ w = w' := by
  obtain ⟨cp, jp, lb, cl, sp, wv, hv, D, h⟩ := h
  have hst := h.st
  obtain ⟨ho, hc, rfl⟩ := h.has.slice
  clear h
  go_enter Try.func46, Try.ntmps46
  go_wp2
  go_ret
  exact ⟨rfl, rfl⟩
set_option maxRecDepth 100000 in
set_option maxHeartbeats 1000000 in
theorem StH.get {W w : World} {X : Nat → Prop} {n b s : Nat} {S : StoV} (h : StH W w X n b s S) (k : List UInt8) :
    Calls Try.prog 43 #[.pointer (some ⟨s, 0, none⟩), str k] w fun e w' => e = .returned (.tuple #[str (getOf S.has k).1, .bool (getOf S.has k).2]) ∧ StH W w' X n b s S ∧ Fr (fun _ => False) w w' := by
  have HH := Lib.hid h
  obtain ⟨cp, jp, lb, cl, sp, wv, hv, D, h⟩ := h
  have hst := h.st
  have hsm := h.on.small
  obtain ⟨ho, hc, hcp⟩ := h.has.slice
  subst hcp
  have HR := Lib.hid (hasOf_kept S.fs)
  have HF : Hid (Calls Try.prog 80 #[.slice ho S.has.length hc, str k] w (FindPost S.has k w)) := Lib.hid (find80 _ _ k w h.has.chg HR.out.1 (by omega))
  have HCH := Lib.hid h.has.chg
  have HLB : Hid (S.has.length ≤ 2097152) := Lib.hid hsm.2.1
  have HRS : Hid (Rising S.has) := Lib.hid HR.out.1
  generalize S.has = L at *
  clear h hsm
  unfold str at HF ⊢
  generalize (⟨k.toArray⟩ : ByteArray) = K at *
  go_enter Try.func43, Try.ntmps43
  go_wp2_with fail
  refine HF.out.mono ?_
  rintro e w2 ⟨i, found, rfl, hfa, f2⟩
  have hst2 := f2.at hst (fun h => h)
  have HST2 := Lib.hid (HH.out.still f2)
  have HF2 := Lib.hid f2
  have HCH2 := Lib.hid (HCH.out.fr f2 (fun _ _ h => h))
  clear f2 hst HF
  cases found with
  | false =>
    have hg := getOf_not hfa HRS.out
    have HGG := Lib.hid hg
    clear hg hfa
    go_wp2
    go_ret2
    exact ⟨by rw [HGG.out]; rfl, HST2.out, HF2.out⟩
  | true =>
    obtain ⟨hi, he⟩ := hfa.is.1 rfl
    have hg := getOf_found hfa hi he
    obtain ⟨ab, off, rfl, c0, c1, c2⟩ := HCH2.out.at i hi
    have t1 : decide ((i : Int) < (L.length : Int)) = true := by simp; omega
    have t1n : decide (i < L.length) = true := by simp; omega
    generalize L[i] = c at *
    unfold str at c0 c1
    have hvv : Hid (str c.val = .string ⟨c.val.toArray⟩) := Lib.hid rfl
    generalize (⟨c.val.toArray⟩ : ByteArray) = V at *
    have HGG := Lib.hid hg
    clear hg hfa he
    go_wp2
    go_ret2
    refine ⟨?_, HST2.out, HF2.out⟩
    rw [HGG.out]
    show Ending.returned (.tuple #[.string V, .bool true]) = Ending.returned (.tuple #[str c.val, .bool true])
    rw [hvv.out]
theorem pre_ge : ∀ (a p : List UInt8), Lib.hasPrefix a p = true → 0 ≤ Lib.compareBytes a p
  | [], [], _ => by simp [Lib.compareBytes]
  | [], _ :: _, h => by simp [Lib.hasPrefix, List.isPrefixOf] at h
  | _ :: _, [], _ => by simp [Lib.compareBytes]
  | a :: x, b :: y, h => by
    simp only [Lib.hasPrefix, List.isPrefixOf, Bool.and_eq_true, beq_iff_eq] at h
    obtain ⟨rfl, h⟩ := h
    rw [cb_cons, if_neg (by omega), if_neg (by omega)]
    exact pre_ge x y h
theorem pre_mid : ∀ (a c p : List UInt8), 0 ≤ Lib.compareBytes a p → Lib.compareBytes a c < 0 → Lib.hasPrefix c p = true → Lib.hasPrefix a p = true
  | a, _, [], _, _, _ => by cases a <;> simp [Lib.hasPrefix, List.isPrefixOf]
  | a, [], _ :: _, _, _, h => by simp [Lib.hasPrefix, List.isPrefixOf] at h
  | [], _ :: _, _ :: _, h, _, _ => by simp [Lib.compareBytes] at h
  | a :: x, c :: z, b :: y, h1, h2, h3 => by
    simp only [Lib.hasPrefix, List.isPrefixOf, Bool.and_eq_true, beq_iff_eq] at h3 ⊢
    obtain ⟨rfl, h3⟩ := h3
    rw [cb_cons] at h1 h2
    split at h1
    · omega
    · split at h1
      · rw [if_neg (by omega), if_pos (by omega)] at h2; omega
      · rw [if_neg (by omega), if_neg (by omega)] at h2
        exact ⟨(UInt8.toNat_inj.1 (by omega)).symm, pre_mid x z y h1 h2 h3⟩
/-- The pairs whose keys begin so. -/
def underOf (L : List Chg) (p : List UInt8) : List Chg := L.filter fun c => Lib.hasPrefix c.key p
theorem under_eq (L : List Chg) (p : List UInt8) (i k : Nat) (hr : Rising L) (hlo : ∀ q (h : q < L.length), q < i → Lib.compareBytes L[q].key p < 0) (hhi : ∀ q (h : q < L.length), i ≤ q → 0 ≤ Lib.compareBytes L[q].key p)
    (hik : i ≤ k) (hk : k ≤ L.length) (hpre : ∀ q (h : q < L.length), i ≤ q → q < k → Lib.hasPrefix L[q].key p = true) (hend : ∀ h : k < L.length, Lib.hasPrefix L[k].key p = false) : (L.drop i).take (k - i) = underOf L p := by
  have e : L = L.take i ++ ((L.drop i).take (k - i) ++ L.drop k) := by
    have h1 : L.drop k = (L.drop i).drop (k - i) := by rw [List.drop_drop, show i + (k - i) = k by omega]
    rw [h1, List.take_append_drop, List.take_append_drop]
  have f1 : underOf (L.take i) p = [] := by
    refine List.filter_eq_nil_iff.2 fun c hc hp => ?_
    obtain ⟨q, hq, rfl⟩ := List.mem_iff_getElem.1 hc
    rw [List.length_take] at hq
    have h1 := hlo q (by omega) (by omega)
    rw [List.getElem_take] at hp
    have h2 := pre_ge _ _ hp
    omega
  have f2 : underOf ((L.drop i).take (k - i)) p = (L.drop i).take (k - i) := by
    refine List.filter_eq_self.2 fun c hc => ?_
    obtain ⟨q, hq, rfl⟩ := List.mem_iff_getElem.1 hc
    rw [List.length_take, List.length_drop] at hq
    rw [List.getElem_take, List.getElem_drop]
    exact hpre (i + q) (by omega) (by omega) (by omega)
  have f3 : underOf (L.drop k) p = [] := by
    refine List.filter_eq_nil_iff.2 fun c hc hp => ?_
    obtain ⟨q, hq, rfl⟩ := List.mem_iff_getElem.1 hc
    rw [List.length_drop] at hq
    rw [List.getElem_drop] at hp
    have hkl : k < L.length := by omega
    have h0 := hend hkl
    rcases Nat.eq_zero_or_pos q with h | h
    · subst h
      have : L[k + 0].key = L[k].key := rfl
      rw [this, h0] at hp; cases hp
    · have h1 := hr k (k + q) hkl (by omega) (by omega)
      have h2 := hhi k hkl hik
      have h3 := pre_mid _ _ _ h2 h1 hp
      rw [h0] at h3; cases h3
  have : underOf L p = underOf (L.take i) p ++ (underOf ((L.drop i).take (k - i)) p ++ underOf (L.drop k) p) := by
    unfold underOf
    rw [← List.filter_append, ← List.filter_append, ← e]
  rw [this, f1, f2, f3]; simp
/-- A part of a row of one's own. -/
theorem OwnChg.part {w : World} {g cap : Nat} {L : List Chg} (h : OwnChg w (.slice (some ⟨g, 0, none⟩) L.length cap) L) (i k : Nat) (hik : i ≤ k) (hk : k ≤ L.length) (c : Nat) (hc : k - i ≤ c) (hc' : c ≤ 9223372036854775807) :
    IsChg w (.slice (some ⟨g, i * 3, none⟩) (k - i) c) ((L.drop i).take (k - i)) := by
  have hl : ((L.drop i).take (k - i)).length = k - i := by rw [List.length_take, List.length_drop]; omega
  refine ⟨some ⟨g, i * 3, none⟩, c, by rw [hl], by rw [hl]; exact hc, hc', by simp, ?_⟩
  rintro a ha j u hu
  cases ha
  have h2 := World.ownsRow.cells h rfl (i * 3 + j) u (by
    rw [flat_take, flat_drop, List.getElem?_take] at hu
    split at hu
    · rwa [List.getElem?_drop] at hu
    · cases hu)
  rw [Addr.add_mk] at h2 ⊢
  rwa [Nat.zero_add] at h2
theorem OwnChg.part' {w : World} {g cap : Nat} {L : List Chg} (h : OwnChg w (.slice (some ⟨g, 0, none⟩) L.length cap) L) (i k : Nat) (hik : i ≤ k) (hk : k ≤ L.length) (hkc : k ≤ cap) (hc' : cap - i ≤ 9223372036854775807) :
    IsChg w (.slice (if cap = i then some ⟨g, 0, none⟩ else some ⟨g, i * 3, none⟩) (k - i) (cap - i)) ((L.drop i).take (k - i)) := by
  split
  · obtain rfl : i = k := by omega
    rw [Nat.sub_self, List.take_zero]
    exact ⟨some ⟨g, 0, none⟩, cap - i, rfl, Nat.zero_le _, hc', by simp, fun a ha j u hu => by simp at hu⟩
  · exact h.part i k hik hk (cap - i) (by omega) hc'
def UnderPost (W w : World) (X : Nat → Prop) (n b s : Nat) (S : StoV) (p : List UInt8) (e : Ending) (w' : World) : Prop :=
  ∃ v, e = .returned v ∧ OwnChg w' v (underOf S.has p) ∧ (∀ k, v.ownBlock = some k → w.heap.size ≤ k) ∧ StH W w' X n b s S ∧ Fr (fun _ => False) w w'
set_option maxRecDepth 100000 in
set_option maxHeartbeats 1000000 in
theorem StH.under {W w : World} {X : Nat → Prop} {n b s : Nat} {S : StoV} (h : StH W w X n b s S) (p : List UInt8) : Calls Try.prog 44 #[.pointer (some ⟨s, 0, none⟩), str p] w (UnderPost W w X n b s S p) := by
  have HH := Lib.hid h
  obtain ⟨cp, jp, lb, cl, sp, wv, hv, D, h⟩ := h
  have hst := h.st
  have hsm := h.on.small
  have hlb := hsm.2.1
  have HRS : Hid (Rising S.has) := Lib.hid (hasOf_kept S.fs).1
  have HF : Hid (Calls Try.prog 80 #[hv, str p] w (FindPost S.has p w)) := Lib.hid (find80 _ _ p w h.has.chg HRS.out (by omega))
  have HOW := Lib.hid h.has
  have HLB := Lib.hid hlb
  obtain ⟨L, hL⟩ : ∃ L, L = S.has := ⟨_, rfl⟩
  rw [← hL] at HRS HF HOW HLB
  have HL := Lib.hid hL
  have HPRE : Hid (∀ (c : Chg) W, Calls Try.prog 81 #[str c.key, str p] W fun e w' => e = .returned (.bool (Lib.hasPrefix c.key p)) ∧ W = w') := Lib.hid (fun c W => pre81 c.key p W)
  have hcase := HOW.out.2
  clear h hsm hlb hL
  unfold str at HF HPRE ⊢
  generalize (⟨p.toArray⟩ : ByteArray) = K at *
  rcases hcase with ⟨rfl, h0⟩ | ⟨g, cap, cur, rfl, _, hg, hnc, hcm, hcs, ht⟩
  · obtain rfl := List.eq_nil_of_length_eq_zero h0
    go_enter Try.func44, Try.ntmps44
    go_wp2_with fail
    refine HF.out.mono ?_
    rintro e w2 ⟨i, found, rfl, hfa, f2⟩
    obtain rfl : i = 0 := by have := hfa.le; simpa using this
    have hst2 := f2.at hst (fun h => h)
    have HST2 := Lib.hid (HH.out.still f2)
    have HF2 := Lib.hid f2
    clear f2 hst HF hfa
    go_wp2
    go_loopw [7] (fun i' wr => i' = .int .i64 0 ∧ w2 = wr) (fun i' _ => 0)
    case atStart => exact ⟨rfl, rfl⟩
    case round =>
      obtain ⟨rfl, rfl⟩ := hrel
      go_wp2_with (first
            | (go_at_call 82
               go_loud (
               refine (clone82 (.slice none 0 0) [] w2 (OwnChg.nil _).chg (by simp)).mono ?_
               rintro e w3 ⟨v3, rfl, o3, n3, f3⟩
               have HO3 := Lib.hid o3; have HN3 := Lib.hid n3; have HF3 := Lib.hid f3
               obtain ⟨o3', c3', rfl⟩ := o3.slice
               clear o3 n3 f3)))
      go_ret
      exact ⟨_, rfl, by rw [← HL.out]; exact HO3.out, fun j hj => Nat.le_trans HF2.out.size (HN3.out j hj), HST2.out.still HF3.out, HF2.out.trans HF3.out (fun _ h => h.elim)⟩
  · have HCM := Lib.hid (And.intro hnc hcm)
    clear hg hcs ht
    go_enter Try.func44, Try.ntmps44
    go_wp2_with fail
    refine HF.out.mono ?_
    rintro e w2 ⟨i, found, rfl, hfa, f2⟩
    have hst2 := f2.at hst (fun h => h)
    have HST2 := Lib.hid (HH.out.still f2)
    have HF2 := Lib.hid f2
    have HOW2 := Lib.hid (HOW.out.fr f2 (fun _ _ h => h))
    have HFA := Lib.hid hfa
    have hil := hfa.le
    have HIL := Lib.hid hil
    clear f2 hst HF hfa
    go_wp2
    go_loopw [7] (fun i' wr => ∃ k : Nat, i ≤ k ∧ k ≤ L.length ∧ i' = .int .i64 k ∧ (∀ q (h : q < L.length), i ≤ q → q < k → Lib.hasPrefix L[q].key p = true) ∧ w2 = wr) (fun i' _ => L.length - (intOf i').toNat)
    case atStart => exact ⟨i, Nat.le_refl _, hil, rfl, fun q h h1 h2 => by omega, rfl⟩
    case round =>
      obtain ⟨k, hik, hk, rfl, hpre, rfl⟩ := hrel
      have HP := Lib.hid hpre; clear hpre
      have hkI : (i : Int) ≤ (k : Int) := by omega
      have hcap : k ≤ cap := by have := HCM.out; omega
      by_cases hlt : k < L.length
      · have hw1 : IntKind.i64.wrap ((k : Int) + 1) = (k : Int) + 1 := IntWalk.i64_in _ (by have := HLB.out; omega)
        have t1 : decide ((k : Int) < (L.length : Int)) = true := by simp; omega
        have t1n : decide (k < L.length) = true := by simp; omega
        obtain ⟨ab, off, hab, c0, c1, c2⟩ := HOW2.out.chg.at k hlt
        cases hab
        rw [Nat.zero_add] at c0 c1 c2
        have P1 := Lib.hid (HPRE.out L[k])
        have HPK : Hid (Lib.hasPrefix L[k].key p = Lib.hasPrefix L[k].key p) := Lib.hid rfl
        cases hp : Lib.hasPrefix L[k].key p with
        | true =>
          rw [hp] at P1
          have HPT := Lib.hid hp
          unfold str at c0 c1
          generalize (⟨L[k].key.toArray⟩ : ByteArray) = S1 at *
          clear hp
          go_wp2_with (go_at_call 81; refine (P1.out _).mono ?_; rintro e w3 ⟨rfl, rfl⟩)
          refine ⟨⟨k + 1, by omega, by omega, by go_num, fun q h h1 h2 => ?_, by first | rfl | trivial⟩, by simp [intOf]; omega⟩
          rcases Nat.lt_or_ge q k with h3 | h3
          · exact HP.out q h h1 h3
          · obtain rfl : q = k := by omega
            exact HPT.out
        | false =>
          rw [hp] at P1
          have HPT := Lib.hid hp
          have HU := Lib.hid (under_eq L p i k HRS.out HFA.out.lo HFA.out.hi hik hk HP.out (fun _ => hp))
          unfold str at c0 c1
          generalize (⟨L[k].key.toArray⟩ : ByteArray) = S1 at *
          clear hp
          go_wp2_with (first
            | (go_at_call 81; refine (P1.out _).mono ?_; rintro e w3 ⟨rfl, rfl⟩)
            | (go_at_call 82
               go_loud (
               refine (clone82 _ ((L.drop i).take (k - i)) w2 (HOW2.out.part i k hik hk (cap - i) (by omega) (by have := HCM.out.2; unfold maxLen at this; omega)) (by rw [List.length_take, List.length_drop]; have := HLB.out; omega)).mono ?_
               rw [HU.out, HL.out]
               rintro e w3 ⟨v3, rfl, o3, n3, f3⟩
               have HO3 := Lib.hid o3; have HN3 := Lib.hid n3; have HF3 := Lib.hid f3
               obtain ⟨o3', c3', rfl⟩ := o3.slice
               clear o3 n3 f3)))
          go_ret
          exact ⟨_, rfl, HO3.out, fun j hj => Nat.le_trans HF2.out.size (HN3.out j hj), HST2.out.still HF3.out, HF2.out.trans HF3.out (fun _ h => h.elim)⟩
      · obtain rfl : k = L.length := by omega
        have HU := Lib.hid (under_eq L p i L.length HRS.out HFA.out.lo HFA.out.hi hik hk HP.out (fun h => absurd h (Nat.lt_irrefl _)))
        have hlI : ¬ ((L.length : Int) < (L.length : Int)) := by omega
        go_wp2_with (first
            | (go_at_call 82
               go_loud (
               refine (clone82 _ ((L.drop i).take (L.length - i)) w2 (HOW2.out.part' i L.length hik hk hcap (by have := HCM.out.2; unfold maxLen at this; omega)) (by rw [List.length_take, List.length_drop]; have := HLB.out; omega)).mono ?_
               rw [HU.out, HL.out]
               rintro e w3 ⟨v3, rfl, o3, n3, f3⟩
               have HO3 := Lib.hid o3; have HN3 := Lib.hid n3; have HF3 := Lib.hid f3
               obtain ⟨o3', c3', rfl⟩ := o3.slice
               clear o3 n3 f3)))
        all_goals (go_ret; exact ⟨_, rfl, HO3.out, fun j hj => Nat.le_trans HF2.out.size (HN3.out j hj), HST2.out.still HF3.out, HF2.out.trans HF3.out (fun _ h => h.elim)⟩)
end Go.Proofs.Ytnpeeephkkmomaa
