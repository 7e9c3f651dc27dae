/-
  DiskArmed: the walk: an armed disk does just so many changes more.
-/
import Derived.Test.YtnpeeephkkmomaaLaw03a
namespace Go.Proofs.Ytnpeeephkkmomaa
open Go.RowKit Go.Proofs.YtnpeeephkkmomaaW.PrintLast
set_option linter.unusedVariables false
set_option linter.unusedSimpArgs false

/-- So many changes are left. -/
structure ArmInv (left : Nat) (D : Dk) : Prop where
  secs : D.secs.length = 3
  none : left = 0 → D.down = true
  some : 0 < left → D.down = false ∧ D.armed = (left : Int)
  buf : D.buf.length + left ≤ 15

theorem ArmInv.changed {left : Nat} {D : Dk} (n : 0 < left) (hs : D.secs.length = 3) (hd : D.down = false) (ha : D.armed = (left : Int)) (hb : D.buf.length + (left - 1) ≤ 15) : ArmInv (left - 1) D.changed := by
  have hp : 0 < D.armed := by omega
  refine ⟨hs, ?_, ?_, hb⟩
  · intro h; simp only [Dk.changed, hp, if_true, beq_iff_eq]; omega
  · intro h; simp only [Dk.changed, hp, if_true]; refine ⟨by rw [beq_eq_false_iff_ne]; omega, by omega⟩

/-- The state of the law's disk: 'w1': behind New. -/
def AQ (b lb cl : Nat) (sp : Array Value) (w1 : World) (left : Nat) (w : World) : Prop :=
  ∃ wv D, IsDk w b lb cl sp wv D ∧ ArmInv left D ∧ Mv (dkFoot b lb (.slice none 0 0)) (dkFoot b lb wv) w1 w

theorem aq_flush {b lb cl : Nat} {sp : Array Value} {w1 : World} {left : Nat} {w : World} (h : AQ b lb cl sp w1 left w) :
    Calls Try.prog 15 #[.pointer (some ⟨b, 0, none⟩)] w fun e w' => e = .returned (.int .i64 (if left = 0 then 32 else 0)) ∧ AQ b lb cl sp w1 (left - 1) w' := by
  obtain ⟨wv, D, hd, hi, hm⟩ := h
  by_cases h0 : left = 0
  · refine (flush_down b lb cl sp wv D w hd (hi.none h0)).mono ?_
    rintro e w' ⟨rfl, rfl⟩
    subst h0
    exact ⟨rfl, wv, D, hd, hi, hm⟩
  · obtain ⟨k1, k2⟩ := hi.some (by omega)
    refine (flush_up b lb cl sp wv D w hd k1).mono ?_
    rintro e w' ⟨rfl, h1, h2⟩
    rw [if_neg h0]
    refine ⟨rfl, _, _, h1, ArmInv.changed (D := { D with secs := settled D.secs D.buf, buf := [] }) (by omega) (by rw [← hi.secs]; exact settled_length _ _) k1 k2 (by have := hi.buf; simp; omega), hm.trans ⟨h2.mono (fun k _ h => h.elim .inl (fun h => .inr (.inl h))), fun k h => ?_⟩⟩
    rcases h with h | h | h
    · exact .inl (.inl h)
    · exact .inl (.inr (.inl h))
    · cases h

theorem aq_write {b lb cl : Nat} {sp : Array Value} {w1 : World} {left : Nat} {w : World} (h : AQ b lb cl sp w1 left w) (i : Int) (hi0 : 0 ≤ i) (hi3 : i < 3) (v : Value) (l : List UInt8) (hv : IsBytes w v l) (hl : l.length ≤ 64) :
    Calls Try.prog 16 #[.pointer (some ⟨b, 0, none⟩), .int .i64 i, v] w fun e w' => e = .returned (.int .i64 (if left = 0 then 32 else 0)) ∧ AQ b lb cl sp w1 (left - 1) w' := by
  obtain ⟨wv, D, hd, hi, hm⟩ := h
  by_cases h0 : left = 0
  · have hmay : D.may i = 32 := by simp [Dk.may, hi.none h0]
    refine (write_may b lb cl sp wv D w i v hd (by rw [hmay]; decide)).mono ?_
    rintro e w' ⟨rfl, rfl⟩
    rw [hmay, if_pos h0]
    subst h0
    exact ⟨rfl, wv, D, hd, hi, hm⟩
  · obtain ⟨k1, k2⟩ := hi.some (by omega)
    obtain ⟨n, rfl⟩ := Int.eq_ofNat_of_zero_le hi0
    refine (write_ok b lb cl sp wv D w n v l hd k1 (by rw [hi.secs]; omega) hl hv (by have := hi.buf; omega)).mono ?_
    rintro e w' ⟨rfl, wv', h1, h2⟩
    rw [if_neg h0]
    exact ⟨rfl, _, _, h1, ArmInv.changed (D := { D with buf := D.buf ++ [(n, pad64 l)] }) (by omega) hi.secs k1 k2 (by have := hi.buf; simp; omega), hm.trans h2⟩

theorem aq_down {b lb cl : Nat} {sp : Array Value} {w1 : World} {left : Nat} {w : World} (h : AQ b lb cl sp w1 left w) :
    Calls Try.prog 17 #[.pointer (some ⟨b, 0, none⟩)] w fun e w' => e = .returned (.bool (decide (left = 0))) ∧ w = w' := by
  obtain ⟨wv, D, hd, hi, hm⟩ := h
  refine (down_any b lb cl sp wv D w hd).mono ?_
  rintro e w' ⟨rfl, rfl⟩
  refine ⟨?_, rfl⟩
  by_cases h0 : left = 0
  · rw [hi.none h0]; simp [h0]
  · rw [(hi.some (by omega)).1]; simp [h0]

theorem aq_arm99 {b lb cl : Nat} {sp : Array Value} {w1 : World} {left : Nat} {w : World} (h : AQ b lb cl sp w1 left w) (h0 : left = 0) :
    Calls Try.prog 14 #[.pointer (some ⟨b, 0, none⟩), .int .i64 99] w fun e w' => e = .returned (.tuple #[]) ∧ AQ b lb cl sp w1 left w' := by
  obtain ⟨wv, D, hd, hi, hm⟩ := h
  refine (arm_any b lb cl sp wv D w 99 hd (by omega)).mono ?_
  rintro e w' ⟨rfl, h1, h2⟩
  refine ⟨rfl, wv, D, ?_, hi, hm.trans ⟨h2.mono (fun k _ h => .inl h), fun k h => .inl h⟩⟩
  have : D.armedAt 99 = D := by simp [Dk.armedAt, hi.none h0]
  rwa [this] at h1

/-- Behind the rounds: Arm(-1), a crash, and a write. -/
theorem aq_arm_off {b lb cl : Nat} {sp : Array Value} {w1 : World} {left : Nat} {w : World} (h : AQ b lb cl sp w1 left w) :
    Calls Try.prog 14 #[.pointer (some ⟨b, 0, none⟩), .int .i64 (-1)] w fun e w' => e = .returned (.tuple #[]) ∧ ∃ wv D, IsDk w' b lb cl sp wv D ∧ D.secs.length = 3 ∧ Mv (dkFoot b lb (.slice none 0 0)) (dkFoot b lb wv) w1 w' := by
  obtain ⟨wv, D, hd, hi, hm⟩ := h
  refine (arm_any b lb cl sp wv D w (-1) hd (by omega)).mono ?_
  rintro e w' ⟨rfl, h1, h2⟩
  refine ⟨rfl, wv, _, h1, ?_, hm.trans ⟨h2.mono (fun k _ h => .inl h), fun k h => .inl h⟩⟩
  unfold Dk.armedAt; split <;> exact hi.secs

theorem byte_row (w : World) (x : Int) (h0 : 0 ≤ x) (hn : x < 256) (T : TypeId) (fr : Nat × Nat) : IsBytes (w.alloc (.cells #[.int .u8 x] T fr)) (.slice (some ⟨w.heap.size, 0, none⟩) 1 1) [UInt8.ofNat x.toNat] := by
  have : (w.alloc (.cells #[.int .u8 x] T fr)).heap[w.heap.size]? = some (.cells (Bs [UInt8.ofNat x.toNat]).toArray T fr) := by
    rw [heap_alloc_at]
    have : (((UInt8.ofNat x.toNat).toNat : Nat) : Int) = x := by simp; omega
    simp only [Bs, List.map_cons, List.map_nil, this]
  exact IsBytes.of_cells this (by simp)

theorem AQ.alloc {b lb cl : Nat} {sp : Array Value} {w1 : World} {left : Nat} {w : World} (h : AQ b lb cl sp w1 left w) (o : Obj) : AQ b lb cl sp w1 left (w.alloc o) := by
  obtain ⟨wv, D, hd, hi, hm⟩ := h
  exact ⟨wv, D, hd.alloc o, hi, hm.trans (Mv.of_fr ((Fr.refl _ w).alloc o))⟩

set_option maxRecDepth 100000 in
set_option maxHeartbeats 2000000 in
theorem armed_walk (n : Int) (hn : 0 ≤ n ∧ n ≤ 255) (ao : Option Addr) (len cap : Nat) (B : Nat → Bool) (w : World) (hlen : len ≤ 9223372036854775807) (h0 : ao = none → len = 0)
    (hB : ∀ a, ao = some a → ∀ i, i < len → w.cell? (a.add i) = some (.bool (B i))) :
    Calls Try.prog 3 #[.int .u8 n, .slice ao len cap] w fun e w' => e = .returned (.bool true) ∧ Fr (fun _ => False) w w' := by
  have HB0 := Lib.hid hB; clear hB
  have H00 := Lib.hid h0; clear h0
  obtain ⟨m, hm⟩ : ∃ m : Nat, n % 16 = (m : Int) := ⟨(n % 16).toNat, by omega⟩
  have hm15 : m ≤ 15 := by omega
  have HM := Lib.hid hm; clear hm
  go_enter Try.func3, Try.ntmps3
  go_wp2_with fail
  refine (new_any 3 _ (by omega)).mono ?_
  rintro e w1 ⟨b, lb, cl, sp, rfl, D1, fr1, hb, hlb⟩
  have FR1 := Lib.hid fr1; clear fr1
  have HB := Lib.hid hb; clear hb
  have HLB := Lib.hid hlb; clear hlb
  have HD1 := Lib.hid D1; clear D1
  go_wp2_with fail
  refine (awake3 _).mono ?_
  rintro e w2 ⟨rfl, fr2⟩
  have FR2 := Lib.hid fr2; clear fr2
  go_wp2_with fail
  refine (arm_any b lb cl sp _ _ w2 (n % 16) (HD1.out.fr FR2.out (fun _ _ h => h)) (by omega)).mono ?_
  rintro e w3 ⟨rfl, D3, fr3⟩
  rw [HM.out] at D3
  have hq : AQ b lb cl sp w1 m w3 := by
    refine ⟨_, _, D3, ⟨?_, ?_, ?_, ?_⟩, ⟨(FR2.out.mono (fun _ _ h => h.elim)).trans (fr3.mono (G := dkFoot b lb (.slice none 0 0)) (fun k _ h => .inl h)) (fun k h => .inl h), fun k h => .inl h⟩⟩
    · simp [Dk.armedAt, newDk, zSecs_length]; omega
    · intro h; subst h; decide +kernel
    · intro h
      have h1 : max (m : Int) (-1) = m := by omega
      have h2 : ((m : Int) == 0) = false := by rw [beq_eq_false_iff_ne]; omega
      exact ⟨by simp [Dk.armedAt, newDk, h2], by simp [Dk.armedAt, newDk, h1]⟩
    · show 0 + m ≤ 15; omega
  have HQ := Lib.hid hq; clear hq D3 fr3
  have hcell : ∀ (left : Nat) (wr : World), AQ b lb cl sp w1 left wr → ∀ a, ao = some a → ∀ i, i < len → wr.cell? (a.add i) = some (.bool (B i)) := by
    rintro left wr ⟨wv, D, _, _, hmv⟩ a ha i hi
    have hc := HB0.out a ha i hi
    have hlt := World.block_lt_of_cell? w _ hc
    rw [block_add] at hlt
    have hk := hmv.fr.block a.block (by have := FR1.out.size; omega) (fun h => by
      have h1 := HB.out
      have h2 := HLB.out
      rcases h with h | h | h
      · omega
      · omega
      · cases h)
    have hk2 := FR1.out.block a.block hlt (fun h => h)
    rw [World.cell?_of_block (w := w) (by rw [block_add, hk, hk2])]; exact hc
  have HCELL := Lib.hid hcell; clear hcell
  go_wp2
  go_loopw [6, 7] (fun l i wr => ∃ k left : Nat, k ≤ len ∧ i = .int .i64 k ∧ l = .int .i64 left ∧ left ≤ 15 ∧ AQ b lb cl sp w1 left wr) (fun _ i _ => len - (intOf i).toNat)
  case atStart => exact ⟨0, m, Nat.zero_le _, rfl, by rw [HM.out], hm15, HQ.out⟩
  case round =>
    obtain ⟨k, left, hk, rfl, rfl, hl15, hq⟩ := hrel
    rename_i wr
    have HQ2 := Lib.hid hq; clear hq
    by_cases hlt : k < len
    · cases ao with
      | none => exact absurd (H00.out rfl) (by omega)
      | some a =>
        have hc := HCELL.out left wr HQ2.out a rfl k hlt
        have hkb : k + 1 ≤ 9223372036854775807 := by omega
        have hw1 : IntKind.i64.wrap ((k : Int) + 1) = (k : Int) + 1 := IntWalk.i64_in _ (by omega)
        have BR := byte_row wr ((k : Int) % 256) (by omega) (by omega) 5 (0, 0)
        have hk3a : 0 ≤ (k : Int) % 3 := by omega
        have hk3b : (k : Int) % 3 < 3 := by omega
        have HBR := Lib.hid BR; clear BR
        rcases (show left = 0 ∨ left = 1 ∨ ∃ q, left = q + 2 by rcases left with _ | _ | q <;> simp) with rfl | rfl | ⟨q, rfl⟩
        · go_wp2_with fail
          · refine (aq_flush HQ2.out).mono ?_
            rintro e w4 ⟨rfl, h4⟩
            have HQ4 : Hid (AQ b lb cl sp w1 0 w4) := h4
            clear h4
            simp only [if_true]
            go_wp2_with fail
            refine (aq_down HQ4.out).mono ?_
            rintro e w5 ⟨rfl, rfl⟩
            simp only [decide_true]
            go_wp2_with fail
            refine (aq_arm99 HQ4.out rfl).mono ?_
            rintro e w5 ⟨rfl, h5⟩
            have HQ5 := Lib.hid h5; clear h5
            go_wp2
            go_roundw
            case rel => exact ⟨k + 1, 0, by omega, by go_num, rfl, by omega, HQ5.out⟩
            case measure => simp [intOf]; omega
          · refine (aq_write (HQ2.out.alloc _) _ hk3a hk3b _ _ HBR.out (by simp)).mono ?_
            rintro e w4 ⟨rfl, h4⟩
            have HQ4 : Hid (AQ b lb cl sp w1 0 w4) := h4
            clear h4
            simp only [if_true]
            go_wp2_with fail
            refine (aq_down HQ4.out).mono ?_
            rintro e w5 ⟨rfl, rfl⟩
            simp only [decide_true]
            go_wp2_with fail
            refine (aq_arm99 HQ4.out rfl).mono ?_
            rintro e w5 ⟨rfl, h5⟩
            have HQ5 := Lib.hid h5; clear h5
            go_wp2
            go_roundw
            case rel => exact ⟨k + 1, 0, by omega, by go_num, rfl, by omega, HQ5.out⟩
            case measure => simp [intOf]; omega
        · go_wp2_with fail
          · refine (aq_flush HQ2.out).mono ?_
            rintro e w4 ⟨rfl, h4⟩
            have HQ4 : Hid (AQ b lb cl sp w1 0 w4) := h4
            clear h4
            simp only [show ¬ (1 = 0) from by decide, if_false]
            go_wp2_with fail
            refine (aq_down HQ4.out).mono ?_
            rintro e w5 ⟨rfl, rfl⟩
            simp only [decide_true]
            go_wp2_with fail
            refine (aq_arm99 HQ4.out rfl).mono ?_
            rintro e w5 ⟨rfl, h5⟩
            have HQ5 := Lib.hid h5; clear h5
            go_wp2
            go_roundw
            case rel => exact ⟨k + 1, 0, by omega, by go_num, rfl, by omega, HQ5.out⟩
            case measure => simp [intOf]; omega
          · refine (aq_write (HQ2.out.alloc _) _ hk3a hk3b _ _ HBR.out (by simp)).mono ?_
            rintro e w4 ⟨rfl, h4⟩
            have HQ4 : Hid (AQ b lb cl sp w1 0 w4) := h4
            clear h4
            simp only [show ¬ (1 = 0) from by decide, if_false]
            go_wp2_with fail
            refine (aq_down HQ4.out).mono ?_
            rintro e w5 ⟨rfl, rfl⟩
            simp only [decide_true]
            go_wp2_with fail
            refine (aq_arm99 HQ4.out rfl).mono ?_
            rintro e w5 ⟨rfl, h5⟩
            have HQ5 := Lib.hid h5; clear h5
            go_wp2
            go_roundw
            case rel => exact ⟨k + 1, 0, by omega, by go_num, rfl, by omega, HQ5.out⟩
            case measure => simp [intOf]; omega
        · have hq1 : IntKind.i64.wrap ((q : Int) + 2 - 1) = (q : Int) + 1 := by rw [IntWalk.i64_in _ (by omega)]; omega
          have hq2 : ((q : Int) + 1 == 0) = false := by rw [beq_eq_false_iff_ne]; omega
          have hq3 : (0 : Int) < (q : Int) + 2 := by omega
          go_wp2_with fail
          · refine (aq_flush HQ2.out).mono ?_
            rintro e w4 ⟨rfl, h4⟩
            have HQ4 : Hid (AQ b lb cl sp w1 (q + 1) w4) := h4
            clear h4
            simp only [show ¬ (q + 2 = 0) from by omega, if_false]
            go_wp2_with fail
            refine (aq_down HQ4.out).mono ?_
            rintro e w5 ⟨rfl, rfl⟩
            simp only [show ¬ (q + 1 = 0) from by omega, decide_false]
            go_wp2
            go_roundw
            case rel => exact ⟨k + 1, q + 1, by omega, by go_num, by go_num, by omega, HQ4.out⟩
            case measure => simp [intOf]; omega
          · refine (aq_write (HQ2.out.alloc _) _ hk3a hk3b _ _ HBR.out (by simp)).mono ?_
            rintro e w4 ⟨rfl, h4⟩
            have HQ4 : Hid (AQ b lb cl sp w1 (q + 1) w4) := h4
            clear h4
            simp only [show ¬ (q + 2 = 0) from by omega, if_false]
            go_wp2_with fail
            refine (aq_down HQ4.out).mono ?_
            rintro e w5 ⟨rfl, rfl⟩
            simp only [show ¬ (q + 1 = 0) from by omega, decide_false]
            go_wp2
            go_roundw
            case rel => exact ⟨k + 1, q + 1, by omega, by go_num, by go_num, by omega, HQ4.out⟩
            case measure => simp [intOf]; omega
    · obtain rfl : k = len := by omega
      go_wp2_with fail
      refine (aq_arm_off HQ2.out).mono ?_
      rintro e w4 ⟨rfl, wv4, D4, h4, hs4, hm4⟩
      have HM4 := Lib.hid hm4; clear hm4
      have HD4 := Lib.hid h4; clear h4
      go_wp2_with fail
      refine (crash_any b lb cl sp wv4 D4 w4 0 0 HD4.out).mono ?_
      rintro e w5 ⟨rfl, h5, fr5⟩
      have hs5 : (D4.crashed 0 0).secs.length = 3 := by
        have e0 : (min (max 0 0) (D4.buf.length : Int)).toNat = 0 := by omega
        simp only [Dk.crashed, e0, List.take_zero, settled, List.foldl_nil]
        split
        · rw [List.length_set]; exact hs4
        · exact hs4
      have HS5 := Lib.hid hs5; clear hs5 hs4
      have HD5 := Lib.hid h5; clear h5
      have hm5 : Mv (dkFoot b lb (.slice none 0 0)) (dkFoot b lb (.slice none 0 0)) w1 w5 := HM4.out.trans ⟨fr5.mono (fun k _ h => h.elim .inl (fun h => .inr (.inl h))), fun k h => by
        rcases h with h | h | h
        · exact .inl (.inl h)
        · exact .inl (.inr (.inl h))
        · cases h⟩
      have HM5 := Lib.hid hm5; clear hm5 fr5
      go_wp2_with fail
      refine (down_any b lb cl sp _ _ w5 HD5.out).mono ?_
      rintro e w6 ⟨rfl, rfl⟩
      simp only [show (D4.crashed 0 0).down = false from rfl]
      go_wp2_with fail
      refine (write_ok b lb cl sp _ _ w5 0 _ [] HD5.out rfl (by rw [HS5.out]; decide) (by decide) (IsBytes.nil _) (by show 0 < _; decide)).mono ?_
      rintro e w6 ⟨rfl, wv6, h6, hm6⟩
      have HM6 := Lib.hid hm6; clear hm6 h6
      go_wp2
      go_ret
      exact ⟨rfl, FR1.out.trans (HM5.out.trans HM6.out).fr (fun k h => by
        rcases h with h | h | h
        · exact .inr (by rw [h]; exact HB.out)
        · exact .inr (by rw [h]; exact HLB.out)
        · cases h)⟩
end Go.Proofs.Ytnpeeephkkmomaa
