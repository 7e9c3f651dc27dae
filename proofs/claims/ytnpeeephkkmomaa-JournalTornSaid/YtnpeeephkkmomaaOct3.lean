/-
  octet.PutInt.
-/
import Derived.Test.YtnpeeephkkmomaaOct2
namespace Go.Proofs.Ytnpeeephkkmomaa
open Go.RowKit Go.Proofs.YtnpeeephkkmomaaW.PrintLast
set_option linter.unusedVariables false
set_option linter.unusedSimpArgs false

/-- The k-th byte of a number. -/
def byteAt (n : Int) (k : Nat) : UInt8 := UInt8.ofNat ((IntKind.u64.wrap n / 2 ^ (56 - 8 * k)) % 256).toNat
theorem byteAt_val (n : Int) (k : Nat) : ((byteAt n k).toNat : Int) = (IntKind.u64.wrap n / 2 ^ (56 - 8 * k)) % 256 := by
  have h := Int.emod_lt_of_pos (IntKind.u64.wrap n / 2 ^ (56 - 8 * k)) (show (0 : Int) < 256 by decide)
  have h0 := Int.emod_nonneg (IntKind.u64.wrap n / 2 ^ (56 - 8 * k)) (show (256 : Int) ≠ 0 by decide)
  unfold byteAt
  rw [UInt8.toNat_ofNat']
  omega
/-- A number's eight bytes. -/
def be8 (n : Int) : List UInt8 := (List.range 8).map (byteAt n)
theorem be8_length (n : Int) : (be8 n).length = 8 := by simp [be8]
def putC (n : Int) (k : Nat) : List UInt8 := (be8 n).take k ++ (List.replicate 8 (0 : UInt8)).drop k

theorem Bs_put (a b : List UInt8) (k : Nat) (x : UInt8) (ha : k < a.length) (hab : b.length = a.length) (hx : b[k]? = some x) :
    ((Bs (b.take k ++ a.drop k)).toArray.setIfInBounds k (.int .u8 (x.toNat : Int))) = (Bs (b.take (k + 1) ++ a.drop (k + 1))).toArray := by
  apply Array.toList_inj.1
  rw [Array.toList_setIfInBounds]
  have hk : (b.take k).length = k := by rw [List.length_take]; omega
  obtain ⟨hb, hxe⟩ := List.getElem?_eq_some_iff.1 hx
  simp only [Bs_append]
  rw [List.set_append_right _ _ (by rw [Bs_length, hk]; exact Nat.le_refl _), Bs_length, hk, Nat.sub_self, List.drop_eq_getElem_cons ha, List.take_succ_eq_append_getElem hb, hxe, Bs_append, List.append_assoc]
  rfl
theorem putC_step (n : Int) (k : Nat) (hk : k < 8) : (Bs (putC n k)).toArray.setIfInBounds k (.int .u8 ((IntKind.u64.wrap n / 2 ^ (56 - 8 * k)) % 256)) = (Bs (putC n (k + 1))).toArray := by
  rw [← byteAt_val]
  refine Bs_put _ _ k _ (by simpa using hk) (by simp [be8]) ?_
  simp [be8, hk]
theorem putC_size (n : Int) (k : Nat) (hk : k ≤ 8) : (Bs (putC n k)).toArray.size = 8 := by
  rw [List.size_toArray, Bs_length, putC, List.length_append, List.length_take, List.length_drop, be8_length]; simp; omega

def PutAt (w : World) (cs : List UInt8) (wr : World) : Prop := wr.heap[w.heap.size]? = some (.cells (Bs cs).toArray 158 (0, 0)) ∧ Fr (fun _ => False) w wr
theorem PutAt.set {w wr : World} {n : Int} {k : Nat} (hk : k < 8) (h : PutAt w (putC n k) wr) (z : Int) (hz : z = (IntKind.u64.wrap n / 2 ^ (56 - 8 * k)) % 256) : PutAt w (putC n (k + 1)) (wr.setCell ⟨w.heap.size, k, none⟩ (.int .u8 z)) := by
  refine ⟨?_, h.2.setCell _ (.inr (Nat.le_refl _))⟩
  rw [heap_setCell_self, h.1, putIn_some, hz, putC_step n k hk]

set_option maxRecDepth 100000 in
set_option maxHeartbeats 4000000 in
theorem putInt_any (v : Value) (l : List UInt8) (n : Int) (w : World) (hv : IsBytes w v l) (hl : l.length ≤ 140737488355320) : Calls Try.prog 85 #[v, .int .i64 n] w (BufPost w (l ++ be8 n)) := by
  obtain ⟨ao, cap, rfl, _⟩ := hv.is
  have HV := Lib.hid hv; clear hv
  go_enter Try.func85, Try.ntmps85
  go_wp2
  go_loopw [7] (fun i wr => ∃ k : Nat, k ≤ 8 ∧ i = .int .i64 k ∧ PutAt w (putC n k) wr) (fun i _ => 8 - (intOf i).toNat)
  case atStart => exact ⟨0, Nat.zero_le _, rfl, heap_alloc_at _ _, (Fr.refl _ w).alloc _⟩
  case round =>
    obtain ⟨k, hk, rfl, hp⟩ := hrel
    have HP := Lib.hid hp
    have hx := hp.1
    have hs := putC_size n k hk
    clear hp
    by_cases hlt : k < 8
    · have hcase : k = 0 ∨ k = 1 ∨ k = 2 ∨ k = 3 ∨ k = 4 ∨ k = 5 ∨ k = 6 ∨ k = 7 := by omega
      rcases hcase with rfl | rfl | rfl | rfl | rfl | rfl | rfl | rfl <;>
      · go_wp2
        exact ⟨⟨_, hlt, rfl, HP.out.set hlt _ (by simp)⟩, by simp [intOf]⟩
    · obtain rfl : k = 8 := by omega
      have hall : putC n 8 = be8 n := by simp [putC, List.take_of_length_le, be8_length]
      rw [hall] at hx HP
      have hb : IsBytes wr (.slice (some ⟨w.heap.size, 0, none⟩) 8 8) (be8 n) := by
        have := IsBytes.of_cells hx (by rw [be8_length]; decide)
        rwa [be8_length] at this
      have HB := Lib.hid hb
      clear hb hall hs
      go_wp2_with (go_at_call 67; refine (concat_any _ [l, be8 n] _ (IsLists.two (heap_alloc_at wr _) (by decide) (by decide) ((HV.out.fr HP.out.2 (fun _ _ h => h)).alloc _) (HB.out.alloc _)) (by simp [lsum, be8_length]; omega)).mono ?_; rintro e w3 ⟨v3, rfl, b3, n3, f3⟩)
      go_ret
      have hfa := HP.out.2.alloc (.cells #[.slice ao l.length cap, .slice (some ⟨w.heap.size, 0, none⟩) 8 8] 30 (0, 0))
      refine ⟨_, rfl, by simpa using b3, fun j hj => Nat.le_trans hfa.size (n3 j hj), hfa.trans f3 (fun _ h => h.elim)⟩
end Go.Proofs.Ytnpeeephkkmomaa
