/-
  The walks of the disk's inner functions: changed, may, settle.
-/
import Derived.Test.YtnpeeephkkmomaaTyp
import Derived.Test.YtnpeeephkkmomaaDkm
import Derived.Deep.Cut
namespace Go.Proofs.Ytnpeeephkkmomaa
open Go.RowKit
set_option linter.unusedVariables false
set_option linter.unusedSimpArgs false

def SettleAt (lb : Nat) (sp : Array Value) (D : Dk) (w : World) (k : Nat) (wr : World) : Prop :=
  wr.heap[lb]? = some (.cells (secRow (settled D.secs (D.buf.take k)) sp) 87 (0, 0)) ∧ Fr (fun i => i = lb) w wr

set_option maxRecDepth 100000 in
set_option maxHeartbeats 400000 in
theorem settle_some (b lb cl : Nat) (sp : Array Value) (g cap : Nat) (D : Dk) (w : World) (n : Nat) (h : IsDk w b lb cl sp (.slice (some ⟨g, 0, none⟩) D.buf.length cap) D) (hn : n ≤ D.buf.length) :
    Calls Try.prog 49 #[.pointer (some ⟨b, 0, none⟩), .int .i64 n] w fun e w' => e = .returned (.tuple #[]) ∧ SettleAt lb sp D w n w' := by
  obtain ⟨ok, head, row, own, ne1, ne2, ne3⟩ := h
  rcases own.2 with ⟨h, _⟩ | ⟨g', cap', cur, hv, _, hg, hnc, hcm, hcs, htake⟩
  · cases h
  obtain ⟨rfl, rfl⟩ : g = g' ∧ cap = cap' := by simpa using hv
  replace hcm : cap ≤ 9223372036854775807 := by simpa [maxLen] using hcm
  go_enter Try.func49, Try.ntmps49
  go_wp2
  go_loopw [13] (fun i wr => ∃ k : Nat, k ≤ n ∧ i = .int .i64 k ∧ SettleAt lb sp D w k wr) (fun i _ => n - (intOf i).toNat)
  case atStart => exact ⟨0, Nat.zero_le _, rfl, by simpa [settled] using row, Fr.refl _ _⟩
  case round =>
    obtain ⟨k, hk, rfl, hrow, hfr⟩ := hrel
    rename_i wr
    have ghead := hfr.at head (fun e => ne1 e)
    have gg := hfr.at hg (fun e => ne3 (by rw [e]; rfl))
    by_cases hlt : k < n
    · have hkk : k < D.buf.length := by omega
      have hx := own_extract (w := w) (g := g) (cap := cap) (fun x hx => (ok.buf x hx).2) htake k hkk
      have hbk := ok.buf D.buf[k] (List.getElem_mem hkk)
      have hst : settled D.secs (D.buf.take (k + 1)) = (settled D.secs (D.buf.take k)).set D.buf[k].1 D.buf[k].2 := by
        rw [List.take_succ_eq_append_getElem hkk, settled_snoc]
      have hnn : (settled D.secs (D.buf.take k)).length = D.secs.length := settled_length _ _
      have hl64 : ∀ x ∈ settled D.secs (D.buf.take k), x.length = 64 := settled_len _ (fun x hx => (ok.buf x (List.mem_of_mem_take hx)).2) _ ok.len
      have hsz : k * 65 + 65 ≤ cur.size := by rw [hcs]; omega
      generalize D.buf[k] = xx at hx hbk hst
      obtain ⟨at_, d⟩ := xx
      obtain ⟨hat, hd⟩ := hbk
      simp only [recOf] at hx hat hd hst
      have hm := ok.most
      have hset := secRow_set _ sp hl64 at_ (by rw [hnn]; exact hat) d hd
      have hss := secRow_size _ sp hl64
      rw [hnn] at hss
      rw [← hst] at hset
      have HE : Hid ((Value.int .i64 (at_ : Int) :: Bs d).toArray.extract 1 (1 + 64) = (Bs d).toArray) := by
        show _ = _
        apply Array.toList_inj.1; simp only [Array.toList_extract, List.extract_eq_take_drop]; rw [show 1 + 64 - 1 = 64 from rfl, List.drop_succ_cons, List.drop_zero, List.take_of_length_le (by rw [Bs_length, hd]; omega)]
      have H1 : ∀ v ∈ (Value.int .i64 (at_ : Int) :: Bs d).toArray.toList, v.oneCell' = true := by
        intro v hv; simp only [List.mem_cons] at hv; rcases hv with rfl | hv; · rfl
        · exact Bs_one _ v hv
      have hv65 : (Value.int .i64 (at_ : Int) :: Bs d).toArray.size = 65 := by simp [Bs_length, hd]
      have hv64 : (Bs d).toArray.size = 64 := by simp [Bs_length, hd]
      have hN := hfr.alloc (.cells (Value.int .i64 (at_ : Int) :: Bs d).toArray 89 (0, 0))
      have ghead2 := (heap_alloc_old wr (.cells (Value.int .i64 (at_ : Int) :: Bs d).toArray 89 (0, 0)) (lt_of_block ghead)).trans ghead
      have G := heap_alloc_new wr (.cells (Value.int .i64 (at_ : Int) :: Bs d).toArray 89 (0, 0))
      have L := (heap_alloc_old wr (.cells (Value.int .i64 (at_ : Int) :: Bs d).toArray 89 (0, 0)) (lt_of_block hrow)).trans hrow
      have e1 : wr.heap.size ≠ b := fun e => by have := lt_of_block ghead; omega
      have HX := Lib.hid hx; clear hx
      have HST := Lib.hid hst; clear hst
      have HSET := Lib.hid hset; clear hset
      have HSS := Lib.hid hss; clear hss
      have H65 := Lib.hid hv65; clear hv65
      have H64 := Lib.hid hv64; clear hv64
      have HHD := Lib.hid hd; clear hd
      have HNN := Lib.hid hnn; clear hnn
      have HL := Lib.hid hl64; clear hl64
      have HH1 := Lib.hid H1; clear H1
      have HF := Lib.hid hfr; clear hfr
      have HNF := Lib.hid hN; clear hN
      have HOK := Lib.hid ok; clear ok
      have HOWN := Lib.hid own; clear own
      have HTK := Lib.hid htake; clear htake
      have HCS := Lib.hid hcs; clear hcs
      go_wp2_with (first
        | (refine wpList_load_rec rfl 89 (.tmp 15) rfl _ 65 Try.underlying89 rfl info89 g (k * 65) rfl cur 89 (0, 0) gg hsz ?_; rw [HX.out])
        | (refine wpList_alloc_rec rfl 89 rfl Try.zeroCells89 zero89 ?_)
        | (refine wpList_store_rec rfl 89 (.tmp 5) (.tmp 16) rfl 65 info89 wr.heap.size 0 rfl _ rfl Try.zeroCells89 89 (heap_alloc_new _ _) H65.out (by simp [zc89_size]) HH1.out ?_; rw [setRow_alloc_new, splice_all _ _ (by rw [Array.length_toList, H65.out, zc89_size]), Array.toArray_toList]))
      generalize wr.alloc (.cells (Value.int .i64 (at_ : Int) :: Bs d).toArray 89 (0, 0)) = w2 at *
      generalize wr.heap.size = nb at *
      refine wp_region_still_tail 9 rfl (by kernel_rfl) ?_
      simp only [List.take_succ_cons, List.take_zero, List.drop_succ_cons, List.drop_zero]
      still_step
      still_step
      still_step
      still_step
      still_step
      still_step
      still_step
      refine wpStill_load_rec rfl 87 (.tmp 23) rfl _ 64 Try.underlying87 rfl info87 nb 1 rfl _ 89 (0, 0) G (by rw [H65.out]; decide) ?_
      rw [HE.out]
      still_step
      refine wpStill_nil ?_
      have hwr : IntKind.i64.wrap ((k : Int) + 1) = (k : Int) + 1 := IntWalk.i64_in _ (by omega)
      go_wp2_with (first
        | (refine wpList_store_rec rfl 87 (.tmp 25) (.tmp 24) rfl 64 info87 lb (at_ * 64) rfl _ rfl _ 87 L H64.out (by have := HSS.out; have := HNN.out; omega) (Bs_one d) ?_; rw [HSET.out]))
      go_roundw
      case rel =>
        refine ⟨k + 1, by omega, by go_num, ?_, ?_⟩
        · have := setRow_heap { w2 with drawn := w2.drawn + 1 } lb _ (secRow (settled D.secs (D.buf.take (k + 1))) sp) 87 _ L
          exact this
        · exact HNF.out.drew.setRow _ (Or.inl rfl)
      case measure => simp [intOf]; omega
    · obtain rfl : k = n := by omega
      go_wp2
      go_end0
      exact ⟨rfl, hrow, hfr⟩

set_option maxRecDepth 100000 in
set_option maxHeartbeats 400000 in
theorem settle_nil (b lb cl : Nat) (sp : Array Value) (D : Dk) (w : World) (h : IsDk w b lb cl sp (.slice none 0 0) D) :
    Calls Try.prog 49 #[.pointer (some ⟨b, 0, none⟩), .int .i64 0] w fun e w' => e = .returned (.tuple #[]) ∧ SettleAt lb sp D w 0 w' := by
  obtain ⟨ok, head, row, own, ne1, ne2, ne3⟩ := h
  clear ok own
  go_enter Try.func49, Try.ntmps49
  go_wp2
  refine wp_loop_once ?_
  go_wp2
  go_end0
  exact ⟨rfl, by simpa [settled] using row, Fr.refl _ _⟩

theorem settle_any (b lb cl : Nat) (sp : Array Value) (wv : Value) (D : Dk) (w : World) (n : Nat) (h : IsDk w b lb cl sp wv D) (hn : n ≤ D.buf.length) :
    Calls Try.prog 49 #[.pointer (some ⟨b, 0, none⟩), .int .i64 n] w fun e w' => e = .returned (.tuple #[]) ∧ SettleAt lb sp D w n w' := by
  rcases h.own.2 with ⟨rfl, h0⟩ | ⟨g', cap', cur, rfl, _⟩
  · obtain rfl : n = 0 := by omega
    exact settle_nil b lb cl sp D w h
  · exact settle_some b lb cl sp g' cap' D w n h hn
set_option maxRecDepth 100000 in
set_option maxHeartbeats 400000 in
theorem changed_pos (b : Nat) (w : World) (x y : Value) (n : Int) (d : Bool) (hn : 0 < n) (hn2 : n ≤ 9223372036854775807)
    (h : w.heap[b]? = some (.cells #[x, y, .int .i64 n, .bool d] 84 (0, 0))) :
    Calls Try.prog 50 #[.pointer (some ⟨b, 0, none⟩)] w fun e w' => e = .returned (.tuple #[]) ∧ w'.heap[b]? = some (.cells #[x, y, .int .i64 (n - 1), .bool (n - 1 == 0)] 84 (0, 0)) ∧ Fr (fun k => k = b) w w' := by
  go_enter Try.func50, Try.ntmps50
  go_wp2
  go_end0
  refine ⟨rfl, ?_, ?_⟩
  · simp [heap_setCell_self, h, putIn_some]
  · refine Fr.setCell (Fr.setCell (Fr.refl _ _) _ (by simp)) _ (by simp)

set_option maxRecDepth 100000 in
set_option maxHeartbeats 400000 in
theorem changed_not (b : Nat) (w : World) (x y : Value) (n : Int) (d : Bool) (hn : n ≤ 0) 
    (h : w.heap[b]? = some (.cells #[x, y, .int .i64 n, .bool d] 84 (0, 0))) :
    Calls Try.prog 50 #[.pointer (some ⟨b, 0, none⟩)] w fun e w' => e = .returned (.tuple #[]) ∧ w' = w := by
  go_enter Try.func50, Try.ntmps50
  go_wp2
  go_end0
  exact ⟨rfl, rfl⟩


set_option maxRecDepth 100000 in
set_option maxHeartbeats 400000 in
theorem may_at (b lb n cl : Nat) (y : Value) (m : Int) (d : Bool) (w : World) (i : Int)
    (h : w.heap[b]? = some (.cells #[.slice (some ⟨lb, 0, none⟩) n cl, y, .int .i64 m, .bool d] 84 (0, 0))) :
    Calls Try.prog 51 #[.pointer (some ⟨b, 0, none⟩), .int .i64 i] w fun e w' => e = .returned (.int .i64 (if d then 32 else if i < 0 ∨ (n : Int) ≤ i then 31 else 0)) ∧ w = w' := by
  cases d with
  | true =>
    go_enter Try.func51, Try.ntmps51
    go_wp2
    go_ret
    exact ⟨rfl, rfl⟩
  | false =>
    by_cases h1 : i < 0
    · go_enter Try.func51, Try.ntmps51
      go_wp2
      go_ret
      exact ⟨by simp [h1], rfl⟩
    · have h0 : decide (i < 0) = false := by simpa using h1
      by_cases h2 : (n : Int) ≤ i
      · go_enter Try.func51, Try.ntmps51
        go_wp2
        go_ret
        exact ⟨by simp [h2], rfl⟩
      · have h3 : decide ((n : Int) ≤ i) = false := by simpa using h2
        go_enter Try.func51, Try.ntmps51
        go_wp2
        go_ret
        exact ⟨by simp [h1, h2], rfl⟩

theorem changed_any (b : Nat) (w : World) (x y : Value) (n : Int) (d : Bool) (hn2 : n ≤ 9223372036854775807)
    (h : w.heap[b]? = some (.cells #[x, y, .int .i64 n, .bool d] 84 (0, 0))) :
    Calls Try.prog 50 #[.pointer (some ⟨b, 0, none⟩)] w fun e w' => e = .returned (.tuple #[]) ∧
      w'.heap[b]? = some (.cells #[x, y, .int .i64 (if 0 < n then n - 1 else n), .bool (if 0 < n then n - 1 == 0 else d)] 84 (0, 0)) ∧ Fr (fun k => k = b) w w' := by
  by_cases hn : 0 < n
  · simp only [hn, if_true]; exact changed_pos b w x y n d hn hn2 h
  · simp only [hn, if_false]
    refine (changed_not b w x y n d (by omega) h).mono ?_
    rintro e w' ⟨rfl, rfl⟩
    exact ⟨rfl, h, Fr.refl _ _⟩
end Go.Proofs.Ytnpeeephkkmomaa
