/-
  The walks of the disk's functions: Write's refusals, Flush, Arm, Down, Size, Waits.
-/
import Derived.Test.YtnpeeephkkmomaaDsk2
namespace Go.Proofs.Ytnpeeephkkmomaa
open Go.RowKit Go.Proofs.YtnpeeephkkmomaaW.PrintLast
set_option linter.unusedVariables false
set_option linter.unusedSimpArgs false

set_option maxRecDepth 100000 in
set_option maxHeartbeats 1000000 in
theorem write_may (b lb cl : Nat) (sp : Array Value) (wv : Value) (D : Dk) (w : World) (i : Int) (v : Value) (h : IsDk w b lb cl sp wv D) (hm : D.may i ≠ 0) :
    Calls Try.prog 16 #[.pointer (some ⟨b, 0, none⟩), .int .i64 i, v] w fun e w' => e = .returned (.int .i64 (D.may i)) ∧ w = w' := by
  have head := h.head
  have hb : (D.may i != 0) = true := by simpa using hm
  have hmm : (if D.down then 32 else if i < 0 ∨ (D.secs.length : Int) ≤ i then 31 else 0 : Int) = D.may i := rfl
  have HM := Lib.hid hmm; clear hmm
  clear h hm
  go_enter Try.func16, Try.ntmps16
  go_wp2_with (go_at_call 51; refine (may_at b lb D.secs.length cl wv D.armed D.down w i head).mono ?_; rintro e w' ⟨rfl, rfl⟩; rw [HM.out])
  go_ret
  exact ⟨rfl, rfl⟩

set_option maxRecDepth 100000 in
set_option maxHeartbeats 1000000 in
theorem write_long (b lb cl : Nat) (sp : Array Value) (wv : Value) (D : Dk) (w : World) (i : Int) (v : Value) (l : List UInt8) (h : IsDk w b lb cl sp wv D) (hm : D.may i = 0) (hv : IsBytes w v l) (hl : 64 < l.length) :
    Calls Try.prog 16 #[.pointer (some ⟨b, 0, none⟩), .int .i64 i, v] w fun e w' => e = .returned (.int .i64 3) ∧ w = w' := by
  have head := h.head
  obtain ⟨ao, cap, rfl, hc1, hc2, _, _⟩ := hv.is
  have hmm : (if D.down then 32 else if i < 0 ∨ (D.secs.length : Int) ≤ i then 31 else 0 : Int) = 0 := hm
  have HM := Lib.hid hmm; clear hmm
  have hle : decide ((64 : Int) < (l.length : Int)) = true := by simp; omega
  clear h hm hv
  go_enter Try.func16, Try.ntmps16
  go_wp2_with (go_at_call 51; refine (may_at b lb D.secs.length cl wv D.armed D.down w i head).mono ?_; rintro e w' ⟨rfl, rfl⟩; rw [HM.out])
  go_ret
  exact ⟨rfl, rfl⟩

set_option maxRecDepth 100000 in
set_option maxHeartbeats 1000000 in
theorem flush_down (b lb cl : Nat) (sp : Array Value) (wv : Value) (D : Dk) (w : World) (h : IsDk w b lb cl sp wv D) (hd : D.down = true) :
    Calls Try.prog 15 #[.pointer (some ⟨b, 0, none⟩)] w fun e w' => e = .returned (.int .i64 32) ∧ w = w' := by
  have head := h.head
  rw [hd] at head
  clear h
  go_enter Try.func15, Try.ntmps15
  go_wp2
  go_ret
  exact ⟨rfl, rfl⟩

set_option maxRecDepth 100000 in
set_option maxHeartbeats 1000000 in
theorem flush_up (b lb cl : Nat) (sp : Array Value) (wv : Value) (D : Dk) (w : World) (h : IsDk w b lb cl sp wv D) (hd : D.down = false) :
    Calls Try.prog 15 #[.pointer (some ⟨b, 0, none⟩)] w fun e w' => e = .returned (.int .i64 0) ∧ IsDk w' b lb cl sp (.slice none 0 0) D.flushed ∧ Fr (fun k => k = b ∨ k = lb) w w' := by
  have head := h.head
  rw [hd] at head
  have HH := Lib.hid h
  obtain ⟨ao, cap, rfl⟩ := ownsRow_slice h.own
  have ne1 := h.ne.1
  have ha := h.ok.armed.2
  clear h
  go_enter Try.func15, Try.ntmps15
  go_wp2_with (first
    | (go_at_call 49; refine (settle_any b lb cl sp _ D w D.buf.length HH.out (Nat.le_refl _)).mono ?_; rintro e w2 ⟨rfl, row2, fr2⟩
       have head2 := fr2.at head ne1
       have head3 : (w2.setCell ⟨b, 1, none⟩ (.slice none 0 0)).heap[b]? = some (.cells #[.slice (some ⟨lb, 0, none⟩) D.secs.length cl, .slice none 0 0, .int .i64 D.armed, .bool false] 84 (0, 0)) := by
         rw [heap_setCell_self, head2]; rfl
       have ROW2 := Lib.hid row2; clear row2; have FR2 := Lib.hid fr2; clear fr2; have HEAD3 := Lib.hid head3; clear head3)
    | (go_at_call 50; refine (changed_any b _ _ _ D.armed false ha HEAD3.out).mono ?_; rintro e w5 ⟨rfl, head5, fr5⟩))
  go_ret
  have ok := HH.out.ok
  have fr3 : Fr (fun k => k = b) w2 (w2.setCell ⟨b, 1, none⟩ (.slice none 0 0)) := (Fr.refl _ _).setCell _ (.inl rfl)
  have row5 := fr5.at (fr3.at ROW2.out (Ne.symm ne1)) (Ne.symm ne1)
  rw [List.take_length] at row5
  have ok5 : Dk.Ok { D with secs := settled D.secs D.buf, buf := [] } := by
    have := ok.atSettled D.buf.length [] (by simp)
    rwa [List.take_length] at this
  refine ⟨rfl, ⟨ok5.changed, ?_, row5, World.ownsRow_nil _ _ _ _, ⟨ne1, by simp [Value.ownBlock], by simp [Value.ownBlock]⟩⟩, ?_⟩
  · rw [head5]; simp [Dk.flushed, Dk.changed, hd, settled_length]
  · exact ((FR2.out.mono (G := fun k => k = b ∨ k = lb) (fun k _ h => .inr h)).trans fr3 (fun k h => .inl (.inl h))).trans fr5 (fun k h => .inl (.inl h))

set_option maxRecDepth 100000 in
set_option maxHeartbeats 1000000 in
theorem arm_any (b lb cl : Nat) (sp : Array Value) (wv : Value) (D : Dk) (w : World) (n : Int) (h : IsDk w b lb cl sp wv D) (hn : -9223372036854775808 ≤ n ∧ n ≤ 9223372036854775807) :
    Calls Try.prog 14 #[.pointer (some ⟨b, 0, none⟩), .int .i64 n] w fun e w' => e = .returned (.tuple #[]) ∧ IsDk w' b lb cl sp wv (D.armedAt n) ∧ Fr (fun k => k = b) w w' := by
  have head := h.head
  have HH := Lib.hid h
  clear h
  cases hd : D.down with
  | true =>
    rw [hd] at head
    go_enter Try.func14, Try.ntmps14
    go_wp2
    exact bodyPost_ret (v := .tuple #[]) (results_none rfl _ _ _) rfl ⟨rfl, by simpa [Dk.armedAt, hd] using HH.out, Fr.refl _ _⟩
  | false =>
    rw [hd] at head
    have fin : Hid (∀ m : Int, m = max n (-1) → IsDk ((w.setCell ⟨b, 2, none⟩ (.int .i64 m)).setCell ⟨b, 3, none⟩ (.bool (n == 0))) b lb cl sp wv (D.armedAt n) ∧
        Fr (fun k => k = b) w ((w.setCell ⟨b, 2, none⟩ (.int .i64 m)).setCell ⟨b, 3, none⟩ (.bool (n == 0)))) := by
      intro m hm
      have h := HH.out
      have fr : Fr (fun k => k = b) w ((w.setCell ⟨b, 2, none⟩ (.int .i64 m)).setCell ⟨b, 3, none⟩ (.bool (n == 0))) := by
        refine Fr.setCell (Fr.setCell (Fr.refl _ _) _ (by simp)) _ (by simp)
      refine ⟨⟨⟨?_, ?_, ?_, ?_, ?_⟩, ?_, ?_, ?_, h.ne⟩, fr⟩
      · simpa [Dk.armedAt, hd] using h.ok.one
      · simpa [Dk.armedAt, hd] using h.ok.most
      · simpa [Dk.armedAt, hd] using h.ok.len
      · simpa [Dk.armedAt, hd] using h.ok.buf
      · simp only [Dk.armedAt, hd]; simp; omega
      · rw [heap_setCell_self, heap_setCell_self, head]; simp [putIn_some, Dk.armedAt, hd, hm]
      · simpa [Dk.armedAt, hd] using fr.at h.row (Ne.symm h.ne.1)
      · simpa [Dk.armedAt, hd] using ownsRow_fr h.own fr (fun k hk e => h.ne.2.1 (by rw [hk, e]))
    go_enter Try.func14, Try.ntmps14
    go_wp2
    all_goals go_end0
    · exact ⟨rfl, fin.out _ (by omega)⟩
    · exact ⟨rfl, fin.out _ (by omega)⟩

set_option maxRecDepth 100000 in
theorem down_any (b lb cl : Nat) (sp : Array Value) (wv : Value) (D : Dk) (w : World) (h : IsDk w b lb cl sp wv D) :
    Calls Try.prog 17 #[.pointer (some ⟨b, 0, none⟩)] w fun e w' => e = .returned (.bool D.down) ∧ w = w' := by
  have head := h.head
  clear h
  go_enter Try.func17, Try.ntmps17
  go_wp2
  go_ret
  exact ⟨rfl, rfl⟩

set_option maxRecDepth 100000 in
theorem size_any (b lb cl : Nat) (sp : Array Value) (wv : Value) (D : Dk) (w : World) (h : IsDk w b lb cl sp wv D) :
    Calls Try.prog 57 #[.pointer (some ⟨b, 0, none⟩)] w fun e w' => e = .returned (.int .i64 D.secs.length) ∧ w = w' := by
  have head := h.head
  clear h
  go_enter Try.func57, Try.ntmps57
  go_wp2
  go_ret
  exact ⟨rfl, rfl⟩

set_option maxRecDepth 100000 in
theorem waits_any (b lb cl : Nat) (sp : Array Value) (wv : Value) (D : Dk) (w : World) (h : IsDk w b lb cl sp wv D) :
    Calls Try.prog 22 #[.pointer (some ⟨b, 0, none⟩)] w fun e w' => e = .returned (.int .i64 D.buf.length) ∧ w = w' := by
  obtain ⟨ao, cap, rfl⟩ := ownsRow_slice h.own
  have head := h.head
  clear h
  go_enter Try.func22, Try.ntmps22
  go_wp2
  go_ret
  exact ⟨rfl, rfl⟩

/-- P3.1: a new disk. -/
def newDk (n : Int) : Dk := { secs := zSecs (min (max n 1) 65536), buf := [], armed := -1, down := false }

def newWorld (w : World) (m : Int) : World :=
  (w.alloc (.cells (secCells (zSecs m)) 87 (0, 0))).alloc (.cells #[.slice (some ⟨w.heap.size, 0, none⟩) m.toNat m.toNat, .slice none 0 0, .int .i64 (-1), .bool false] 84 (0, 0))
theorem newDk_is (n m : Int) (w : World) (h1 : 1 ≤ m) (h2 : m ≤ 65536) (hm : m = min (max n 1) 65536) :
    IsDk (newWorld w m) (w.heap.size + 1) w.heap.size m.toNat #[] (.slice none 0 0) (newDk n) ∧ Fr (fun _ => False) w (newWorld w m) := by
  have hd : newDk n = { secs := zSecs m, buf := [], armed := -1, down := false } := by rw [newDk, hm]
  rw [hd]
  refine ⟨⟨⟨?_, ?_, zSecs_len m, by simp, by simp⟩, ?_, ?_, World.ownsRow_nil _ _ _ _, by omega, by simp [Value.ownBlock], by simp [Value.ownBlock]⟩, ((Fr.refl _ w).alloc _).alloc _⟩
  · show 1 ≤ (zSecs m).length; rw [zSecs_length]; omega
  · show (zSecs m).length ≤ _; rw [zSecs_length]; omega
  · have h := heap_alloc_at (w.alloc (.cells (secCells (zSecs m)) 87 (0, 0))) (.cells #[.slice (some ⟨w.heap.size, 0, none⟩) m.toNat m.toNat, .slice none 0 0, .int .i64 (-1), .bool false] 84 (0, 0))
    have e : (w.alloc (.cells (secCells (zSecs m)) 87 (0, 0))).heap.size = w.heap.size + 1 := by simp
    rw [e] at h
    simp only [newWorld, zSecs_length]
    exact h
  · rw [show secRow (zSecs m) #[] = secCells (zSecs m) by simp [secRow]]; exact (heap_alloc _ _ _ (by simp)).trans (heap_alloc_at _ _)

def NewPost (n : Int) (w : World) (e : Ending) (w' : World) : Prop :=
  ∃ b lb cl sp, e = .returned (.pointer (some ⟨b, 0, none⟩)) ∧ IsDk w' b lb cl sp (.slice none 0 0) (newDk n) ∧ Fr (fun _ => False) w w' ∧ w.heap.size ≤ b ∧ w.heap.size ≤ lb

set_option maxRecDepth 100000 in
set_option maxHeartbeats 1000000 in
theorem new_any (n : Int) (w : World) (hn : -9223372036854775808 ≤ n ∧ n ≤ 9223372036854775807) :
    Calls Try.prog 12 #[.int .i64 n] w (NewPost n w) := by
  have fin : ∀ (m : Int), 1 ≤ m → m ≤ 65536 → m = min (max n 1) 65536 → NewPost n w (.returned (.pointer (some ⟨w.heap.size + 1, 0, none⟩))) (newWorld w m) := by
    intro m h1 h2 h3
    exact ⟨_, _, _, _, rfl, (newDk_is n m w h1 h2 h3).1, (newDk_is n m w h1 h2 h3).2, by omega, Nat.le_refl _⟩
  have FIN := Lib.hid fin; clear fin
  by_cases h1 : n < 1
  · go_enter Try.func12, Try.ntmps12
    go_wp2
    go_ret
    exact FIN.out 1 (by omega) (by omega) (by omega)
  · by_cases h2 : 65536 < n
    · go_enter Try.func12, Try.ntmps12
      go_wp2
      go_ret
      exact FIN.out 65536 (by omega) (by omega) (by omega)
    · have h3 : 0 ≤ n := by omega
      have h4 : n ≤ 65536 := by omega
      go_enter Try.func12, Try.ntmps12
      go_wp2
      go_ret
      exact FIN.out n (by omega) (by omega) (by omega)
end Go.Proofs.Ytnpeeephkkmomaa
