/-
  The journal: read.
-/
import Derived.Test.YtnpeeephkkmomaaJrn
namespace Go.Proofs.Ytnpeeephkkmomaa
open Go.RowKit Go.Proofs.YtnpeeephkkmomaaW.PrintLast
set_option linter.unusedVariables false
set_option linter.unusedSimpArgs false

/-- What is told of k sectors, one behind the other. -/
def Dk.tells (D : Dk) (from_ k : Nat) : List UInt8 := (List.range k).flatMap fun i => D.told (from_ + i)
theorem Dk.tells_succ (D : Dk) (from_ k : Nat) : D.tells from_ (k + 1) = D.tells from_ k ++ D.told (from_ + k) := by
  simp [Dk.tells, List.range_succ]
theorem told_len (D : Dk) (h : D.Ok) (i : Nat) (hi : i < D.secs.length) : (D.told i).length = 64 := by
  refine lastAt_len _ i (fun x hx => (h.buf x hx).2) _ ?_
  rw [List.getD_eq_getElem?_getD, List.getElem?_eq_getElem hi]
  exact h.len _ (List.getElem_mem hi)
theorem Dk.tells_length (D : Dk) (h : D.Ok) (from_ : Nat) : ∀ k, from_ + k ≤ D.secs.length → (D.tells from_ k).length = 64 * k
  | 0, _ => rfl
  | k + 1, hk => by
    rw [Dk.tells_succ, List.length_append, Dk.tells_length D h from_ k (by omega), told_len D h _ (by omega)]; omega

def JReadAt (w : World) (l : List UInt8) (v : Value) (wr : World) : Prop := Buf wr v l ∧ (∀ k, v.ownBlock = some k → w.heap.size ≤ k) ∧ Fr (fun _ => False) w wr
def JReadPost (w : World) (l : List UInt8) (e : Ending) (w' : World) : Prop :=
  ∃ v, e = .returned (.tuple #[v, .int .i64 0]) ∧ IsBytes w' v l ∧ (∀ k, v.ownBlock = some k → w.heap.size ≤ k) ∧ Fr (fun _ => False) w w' ∧ ∀ k, v.ownBlock = some k → k < w'.heap.size

set_option maxRecDepth 100000 in
set_option maxHeartbeats 2000000 in
theorem j_read (jp b lb cl : Nat) (sp : Array Value) (wv : Value) (D : Dk) (from_ to_ : Nat) (end_ count : Int) (n : Nat) (w : World) (h : IsDk w b lb cl sp wv D) (hj : IsJ w jp b from_ to_ end_ count) (hd : D.down = false)
    (hn : from_ + (n + 63) / 64 ≤ D.secs.length) :
    Calls Try.prog 59 #[.pointer (some ⟨jp, 0, none⟩), .int .i64 n] w (JReadPost w ((D.tells from_ ((n + 63) / 64)).take n)) := by
  have HD := Lib.hid h
  have hmost := h.ok.most
  have HJ := Lib.hid hj
  unfold IsJ at hj
  have HN := Lib.hid hn
  have hb : n ≤ 4194304 ∧ from_ ≤ 65536 := by omega
  clear h hn hmost
  go_enter Try.func59, Try.ntmps59
  go_wp2
  go_loopw [6, 7] (fun o i wr => ∃ k : Nat, k ≤ (n + 63) / 64 ∧ i = .int .i64 ((from_ + k : Nat) : Int) ∧ JReadAt w (D.tells from_ k) o wr) (fun _ i _ => from_ + (n + 63) / 64 - (intOf i).toNat)
  case atStart => exact ⟨0, Nat.zero_le _, rfl, Buf.nil _, by simp [Value.ownBlock], Fr.refl _ _⟩
  case round =>
    obtain ⟨k, hk, rfl, hbuf, hnew, hfr⟩ := hrel
    have HB := Lib.hid hbuf; have HW := Lib.hid hnew; have HF := Lib.hid hfr
    have hj2 := HF.out.at hj (fun h => h)
    have hlen := Dk.tells_length D HD.out.ok from_ k (by have := HN.out; omega)
    obtain ⟨ao, cap, rfl⟩ := hbuf.slice
    clear hbuf hnew hfr hj
    have HLEN := Lib.hid hlen
    rw [hlen] at HB HW ⊢
    clear hlen
    have hlen := HLEN.out
    by_cases hlt : 64 * k < n
    · have t1 : decide ((64 : Int) * (k : Int) < (n : Int)) = true := by simp; omega
      have hN := HN.out
      have hq2 : from_ + k < D.secs.length := by omega
      have htl := told_len D HD.out.ok (from_ + k) hq2
      have hts := D.tells_succ from_ k
      have HTS := Lib.hid hts; have HQ2 := Lib.hid hq2; clear hts hq2 hN
      have HDW := Lib.hid (HD.out.fr HF.out (fun _ _ h => h))
      generalize hq : from_ + k = q at *
      have HQ := Lib.hid hq; clear hq
      have hw1 : IntKind.i64.wrap ((q : Int) + 1) = (q : Int) + 1 := IntWalk.i64_in _ (by have := HQ.out; omega)
      have hroom : Room 1 (D.tells from_ k).length (D.told q).length := Room.of_small' (by omega)
      have HROOM := Lib.hid hroom; clear hroom hlen
      go_wp2_with (first
        | (go_at_call 19; refine (read_ok b lb cl sp wv D wr q HDW.out hd HQ2.out).mono ?_; rintro e w3 ⟨sb, rfl, hsb, row3, fr3⟩; have HR3 : Hid (IsBytes w3 (.slice (some ⟨sb, 0, none⟩) 64 64) (D.told q)) := Lib.hid (by have := IsBytes.of_cells row3 (by rw [htl]; decide); rwa [htl] at this); have HB3 := Lib.hid (HB.out.fr fr3 (fun _ _ h => h)); have HF3 := Lib.hid (HF.out.trans fr3 (fun _ h => h.elim)); clear hsb row3 fr3)
        | (refine wpList_append_bytes rfl (.tmp 32) (.tmp 33) rfl _ _ rfl HB3.out _ _ rfl HR3.out HROOM.out ?_; intro v5 w5 own5 fr5 fresh5))
      have hqq := HQ.out
      refine ⟨⟨k + 1, by omega, by subst hqq; go_num, by rw [HTS.out]; exact own5, fun j hj => ?_, HF3.out.trans fr5 (fun j hj => .inr (HW.out j hj))⟩, by simp [intOf]; omega⟩
      rcases fresh5 with h | h
      · rw [h] at hj; exact HW.out j hj
      · rw [hj] at h; cases h; exact HF3.out.size
    · have t1 : decide ((64 : Int) * (k : Int) < (n : Int)) = false := by simp; omega
      obtain rfl : k = (n + 63) / 64 := by omega
      obtain ⟨v', hcut, hby, hblk⟩ := cut_h HB.out.bytes n (by rw [hlen]; omega)
      have HBY := Lib.hid hby; have HBLK := Lib.hid hblk
      clear hby hblk hlen
      go_wp2
      go_ret2
      exact ⟨v', rfl, HBY.out _ HB.out.bytes, fun j hj => HW.out j (by rw [← HBLK.out]; exact hj), HF.out, fun j hj => (World.ownsRow.lt HB.out j (by rw [← HBLK.out]; exact hj)).2⟩
end Go.Proofs.Ytnpeeephkkmomaa
