/-
  The walk of the disk's Read.
-/
import Derived.Test.YtnpeeephkkmomaaDsk3
namespace Go.Proofs.Ytnpeeephkkmomaa
open Go.RowKit Go.Proofs.YtnpeeephkkmomaaW.PrintLast
set_option linter.unusedVariables false
set_option linter.unusedSimpArgs false

def ReadPost (w : World) (l : List UInt8) (e : Ending) (w' : World) : Prop :=
  ∃ sb, e = .returned (.tuple #[.slice (some ⟨sb, 0, none⟩) 64 64, .int .i64 0]) ∧ w.heap.size ≤ sb ∧ w'.heap[sb]? = some (.cells (Bs l).toArray 87 (0, 0)) ∧ Fr (fun _ => False) w w'

set_option maxRecDepth 100000 in
set_option maxHeartbeats 1000000 in
theorem read_may (b lb cl : Nat) (sp : Array Value) (wv : Value) (D : Dk) (w : World) (i : Int) (h : IsDk w b lb cl sp wv D) (hm : D.may i ≠ 0) :
    Calls Try.prog 19 #[.pointer (some ⟨b, 0, none⟩), .int .i64 i] w fun e w' => e = .returned (.tuple #[.slice none 0 0, .int .i64 (D.may i)]) ∧ w = w' := by
  have head := h.head
  have hb : (D.may i != 0) = true := by simpa using hm
  have hmm : (if D.down then 32 else if i < 0 ∨ (D.secs.length : Int) ≤ i then 31 else 0 : Int) = D.may i := rfl
  have HM := Lib.hid hmm; clear hmm
  clear h hm
  go_enter Try.func19, Try.ntmps19
  go_wp2_with (go_at_call 51; refine (may_at b lb D.secs.length cl wv D.armed D.down w i head).mono ?_; rintro e w' ⟨rfl, rfl⟩; rw [HM.out])
  go_ret2
  exact ⟨rfl, rfl⟩

theorem lastAt_snoc (l : List (Nat × List UInt8)) (x : Nat × List UInt8) (i : Nat) (s : List UInt8) : lastAt (l ++ [x]) i s = if x.1 = i then x.2 else lastAt l i s := by
  simp [lastAt]
theorem lastAt_len (l : List (Nat × List UInt8)) (i : Nat) (h : ∀ x ∈ l, x.2.length = 64) : ∀ s, s.length = 64 → (lastAt l i s).length = 64 := by
  induction l with
  | nil => intro s hs; exact hs
  | cons x l ih =>
    intro s hs
    refine ih (fun y hy => h y (by simp [hy])) _ ?_
    show (if x.1 = i then x.2 else s).length = 64
    split
    · exact h x (by simp)
    · exact hs

def ReadAt (w : World) (sb : Nat) (l : List UInt8) (wr : World) : Prop := wr.heap[sb]? = some (.cells (Bs l).toArray 87 (0, 0)) ∧ Fr (fun _ => False) w wr

set_option maxRecDepth 100000 in
set_option maxHeartbeats 1000000 in
theorem read_some (b lb cl : Nat) (sp : Array Value) (g cap : Nat) (D : Dk) (w : World) (i : Nat) (h : IsDk w b lb cl sp (.slice (some ⟨g, 0, none⟩) D.buf.length cap) D) (hd : D.down = false) (hi : i < D.secs.length) :
    Calls Try.prog 19 #[.pointer (some ⟨b, 0, none⟩), .int .i64 i] w (ReadPost w (D.told i)) := by
  obtain ⟨ok, head, row, own, ne1, ne2, ne3⟩ := h
  rcases own.2 with ⟨h, _⟩ | ⟨g', cap', cur, hv, _, hg, hnc, hcm, hcs, htake⟩
  · cases h
  obtain ⟨rfl, rfl⟩ : g = g' ∧ cap = cap' := by simpa using hv
  replace hcm : cap ≤ 9223372036854775807 := by simpa [maxLen] using hcm
  rw [hd] at head
  have hneg : ¬ ((i : Int) < 0 ∨ (D.secs.length : Int) ≤ (i : Int)) := by omega
  have hss := secRow_size _ sp ok.len
  have hsx' : sub (secRow D.secs sp) (i * 64) 64 = (Bs D.secs[i]).toArray := secRow_extract _ sp ok.len i hi
  have hl0 : D.secs[i].length = 64 := ok.len _ (List.getElem_mem hi)
  have hbs0 : (Bs D.secs[i]).length = 64 := by rw [Bs_length, hl0]
  have hbnd : i * 64 + 64 ≤ (secRow D.secs sp).size := by omega
  have hmost := ok.most
  have hblen : ∀ x ∈ D.buf, x.2.length = 64 := fun x hx => (ok.buf x hx).2
  have HT : Hid (D.told i = lastAt (D.buf.take D.buf.length) i D.secs[i]) := by
    show _ = _
    rw [List.take_length, Dk.told, List.getD_eq_getElem?_getD, List.getElem?_eq_getElem hi]; rfl
  have HOK := Lib.hid ok; clear ok
  have HSS := Lib.hid hss; clear hss
  have HB := Lib.hid hblen; clear hblen
  have HTK := Lib.hid htake; clear htake
  clear own hv
  go_enter Try.func19, Try.ntmps19
  go_wp2_with (go_at_call 51; refine (may_at b lb D.secs.length cl _ D.armed false w i head).mono ?_; rintro e w' ⟨rfl, rfl⟩; simp only [hneg, if_false, Bool.false_eq_true])
  have hbase : ReadAt w w.heap.size D.secs[i] (w.alloc (.cells (Bs D.secs[i]).toArray 87 (0, 0))) := ⟨heap_alloc_at _ _, (Fr.refl _ w).alloc _⟩
  have HBASE := Lib.hid hbase; clear hbase
  go_loopw [28] (fun c wr => ∃ k : Nat, k ≤ D.buf.length ∧ c = .int .i64 k ∧ ReadAt w w.heap.size (lastAt (D.buf.take k) i D.secs[i]) wr) (fun c _ => D.buf.length - (intOf c).toNat)
  case atStart => exact ⟨0, Nat.zero_le _, rfl, HBASE.out⟩
  case round =>
    obtain ⟨k, hk, rfl, hrow, hfr⟩ := hrel
    rename_i wr
    have gg := hfr.at hg (fun e => e)
    by_cases hlt : k < D.buf.length
    · have hx := own_extract (w := w) (g := g) (cap := cap) HB.out HTK.out k hlt
      have hbk := HOK.out.buf D.buf[k] (List.getElem_mem hlt)
      have hst : lastAt (D.buf.take (k + 1)) i D.secs[i] = if D.buf[k].1 = i then D.buf[k].2 else lastAt (D.buf.take k) i D.secs[i] := by
        rw [List.take_succ_eq_append_getElem hlt, lastAt_snoc]
      have hol : (Bs (lastAt (D.buf.take k) i D.secs[i])).length = 64 := by rw [Bs_length]; exact lastAt_len _ i (fun x hx => HB.out x (List.mem_of_mem_take hx)) _ hl0
      have hsz : k * 65 + 65 ≤ cur.size := by rw [hcs]; omega
      generalize D.buf[k] = xx at hx hbk hst
      obtain ⟨at_, d⟩ := xx
      obtain ⟨hat, hd⟩ := hbk
      simp only [recOf] at hx hat hd hst
      have hx' : sub cur (k * 65) 65 = (Value.int .i64 (at_ : Int) :: Bs d).toArray := hx
      have hbl : (Bs d).length = 64 := by rw [Bs_length, hd]
      have hE : sub (Value.int .i64 (at_ : Int) :: Bs d).toArray 1 64 = (Bs d).toArray := by
        apply Array.toList_inj.1; simp only [sub, Array.toList_extract, List.extract_eq_take_drop]; rw [show 1 + 64 - 1 = 64 from rfl, List.drop_succ_cons, List.drop_zero, List.take_of_length_le (by omega)]
      have hw1 : IntKind.i64.wrap ((k : Int) + 1) = (k : Int) + 1 := IntWalk.i64_in _ (by omega)
      have HST := Lib.hid hst; clear hst
      have HF := Lib.hid hfr; clear hfr
      clear hx hd head row hg hsx' hl0 hbs0 hbnd hcs
      generalize lastAt (D.buf.take k) i D.secs[i] = old at *
      generalize hsb : w.heap.size = sb at *
      have HSB := Lib.hid hsb; clear hsb
      by_cases hq : at_ = i
      · have hq' : ((at_ : Int) == (i : Int)) = true := by simp [hq]
        have HQ := Lib.hid hq; clear hq
        go_wp2
        go_roundw
        case rel =>
          refine ⟨k + 1, by omega, by go_num, ?_, ?_⟩
          · rw [HST.out, if_pos HQ.out, heap_setRow_self]
            rw [heap_alloc_lt _ _ _ (by rw [hrow]; rfl), hrow]; rfl
          · exact (HF.out.alloc _).setRow _ (.inr (Nat.le_of_eq HSB.out))
        case measure => simp [intOf]; omega
      · have hq' : ((at_ : Int) == (i : Int)) = false := by simp; omega
        have HQ := Lib.hid hq; clear hq
        go_wp2
        go_roundw
        case rel =>
          refine ⟨k + 1, by omega, by go_num, ?_, ?_⟩
          · rw [HST.out, if_neg HQ.out]
            rw [heap_alloc_lt _ _ _ (by rw [hrow]; rfl), hrow]
          · exact HF.out.alloc _
        case measure => simp [intOf]; omega
    · obtain rfl : k = D.buf.length := by omega
      rw [← HT.out] at hrow
      go_wp2
      go_ret2
      exact ⟨_, rfl, Nat.le_refl _, hrow, hfr⟩

set_option maxRecDepth 100000 in
set_option maxHeartbeats 1000000 in
theorem read_nil (b lb cl : Nat) (sp : Array Value) (D : Dk) (w : World) (i : Nat) (h : IsDk w b lb cl sp (.slice none 0 0) D) (hb : D.buf.length = 0) (hd : D.down = false) (hi : i < D.secs.length) :
    Calls Try.prog 19 #[.pointer (some ⟨b, 0, none⟩), .int .i64 i] w (ReadPost w (D.told i)) := by
  obtain ⟨ok, head, row, own, ne1, ne2, ne3⟩ := h
  rw [hd] at head
  have hneg : ¬ ((i : Int) < 0 ∨ (D.secs.length : Int) ≤ (i : Int)) := by omega
  have hss := secRow_size _ sp ok.len
  have hsx' : sub (secRow D.secs sp) (i * 64) 64 = (Bs D.secs[i]).toArray := secRow_extract _ sp ok.len i hi
  have hl0 : D.secs[i].length = 64 := ok.len _ (List.getElem_mem hi)
  have hbs0 : (Bs D.secs[i]).length = 64 := by rw [Bs_length, hl0]
  have hbnd : i * 64 + 64 ≤ (secRow D.secs sp).size := by omega
  have hmost := ok.most
  have HT : Hid (D.told i = D.secs[i]) := by
    show _ = _
    rw [Dk.told, List.eq_nil_of_length_eq_zero hb, List.getD_eq_getElem?_getD, List.getElem?_eq_getElem hi]; rfl
  have hbase : ReadAt w w.heap.size D.secs[i] (w.alloc (.cells (Bs D.secs[i]).toArray 87 (0, 0))) := ⟨heap_alloc_at _ _, (Fr.refl _ w).alloc _⟩
  have HBASE := Lib.hid hbase; clear hbase
  clear ok hss own hb
  go_enter Try.func19, Try.ntmps19
  go_wp2_with (go_at_call 51; refine (may_at b lb D.secs.length cl _ D.armed false w i head).mono ?_; rintro e w' ⟨rfl, rfl⟩; simp only [hneg, if_false, Bool.false_eq_true])
  refine wp_loop_once ?_
  go_wp2
  go_ret2
  exact ⟨_, rfl, Nat.le_refl _, by rw [HT.out]; exact HBASE.out.1, HBASE.out.2⟩

theorem read_ok (b lb cl : Nat) (sp : Array Value) (wv : Value) (D : Dk) (w : World) (i : Nat) (h : IsDk w b lb cl sp wv D) (hd : D.down = false) (hi : i < D.secs.length) :
    Calls Try.prog 19 #[.pointer (some ⟨b, 0, none⟩), .int .i64 i] w (ReadPost w (D.told i)) := by
  rcases h.own.2 with ⟨rfl, h0⟩ | ⟨g', cap', cur, rfl, _⟩
  · exact read_nil b lb cl sp D w i h h0 hd hi
  · exact read_some b lb cl sp g' cap' D w i h hd hi
end Go.Proofs.Ytnpeeephkkmomaa
