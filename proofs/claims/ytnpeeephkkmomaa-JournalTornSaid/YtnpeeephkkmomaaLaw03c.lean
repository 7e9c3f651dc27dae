/-
  DiskLasts: the walk: what was flushed outlasts whatever comes behind it that is neither flushed nor written to that sector.
-/
import Derived.Test.YtnpeeephkkmomaaLaw03a
import Derived.Test.YtnpeeephkkmomaaRead
namespace Go.Proofs.Ytnpeeephkkmomaa
open Go.RowKit Go.Proofs.YtnpeeephkkmomaaW.PrintLast
set_option linter.unusedVariables false
set_option linter.unusedSimpArgs false

def BytesPost (w : World) (l : List UInt8) (e : Ending) (w' : World) : Prop :=
  ∃ sb, e = .returned (.slice (some ⟨sb, 0, none⟩) l.length l.length) ∧ w.heap.size ≤ sb ∧ w'.heap[sb]? = some (.cells (Bs l).toArray 5 (0, 0)) ∧ Fr (fun _ => False) w w'

set_option maxRecDepth 100000 in
set_option maxHeartbeats 1000000 in
theorem whole_any (v : Value) (l : List UInt8) (w : World) (hv : IsBytes w v l) (hl : l.length ≤ 64) : Calls Try.prog 20 #[v] w (BytesPost w (pad64 l)) := by
  have HV := Lib.hid hv; clear hv
  go_enter Try.func20, Try.ntmps20
  go_wp2_with (refine wpList_copy_bytes rfl (.tmp 5) (.tmp 6) 30 30 5 rfl Try.underlying30 (by kernel_rfl) w.heap.size 0 64 64 rfl _ l rfl (HV.out.alloc _) (Bs (zB 64)).toArray 5 (heap_alloc_at _ _) (by rw [List.size_toArray, Bs_length, zB_length]; omega) ?_; rw [setRow_alloc_new, List.take_of_length_le hl, splice_pad64 l hl])
  go_ret
  refine ⟨w.heap.size, ?_, Nat.le_refl _, heap_alloc_at _ _, (Fr.refl _ w).alloc _⟩
  rw [pad64_length l hl]; rfl

/-- What the law keeps of its disk. -/
structure LastInv (p : List UInt8) (D : Dk) (k : Nat) : Prop where
  secs : D.secs.length = 8
  seven : D.secs.getD 7 [] = p
  buf : ∀ x ∈ D.buf, x.1 ≠ 7
  len : D.buf.length ≤ k

theorem settled_seven (l : List (Nat × List UInt8)) (h : ∀ x ∈ l, x.1 ≠ 7) : ∀ s, (settled s l).getD 7 [] = s.getD 7 [] := by
  induction l with
  | nil => intro s; rfl
  | cons x l ih =>
    intro s
    show (settled (s.set x.1 x.2) l).getD 7 [] = _
    rw [ih (fun y hy => h y (by simp [hy])), List.getD_eq_getElem?_getD, List.getD_eq_getElem?_getD, List.getElem?_set_ne (h x (by simp))]

theorem LastInv.mono {p : List UInt8} {D : Dk} {k : Nat} (h : LastInv p D k) : LastInv p D (k + 1) := ⟨h.secs, h.seven, h.buf, Nat.le_succ_of_le h.len⟩
theorem LastInv.changed {p : List UInt8} {D : Dk} {k : Nat} (h : LastInv p D k) : LastInv p D.changed k := ⟨h.secs, h.seven, h.buf, h.len⟩
theorem LastInv.written {p : List UInt8} {D : Dk} {k : Nat} (h : LastInv p D k) (i : Nat) (l : List UInt8) (hi : i ≠ 7) : LastInv p (D.written i l) (k + 1) :=
  LastInv.changed (D := { D with buf := D.buf ++ [(i, pad64 l)] }) ⟨h.secs, h.seven, fun x hx => by
    rcases List.mem_append.1 hx with h1 | h1
    · exact h.buf x h1
    · rw [List.mem_singleton.1 h1]; exact hi, by have := h.len; simp; omega⟩
theorem LastInv.flushed {p : List UInt8} {D : Dk} {k : Nat} (h : LastInv p D k) : LastInv p D.flushed k :=
  LastInv.changed (D := { D with secs := settled D.secs D.buf, buf := [] }) ⟨by rw [← h.secs]; exact settled_length _ _, by rw [← h.seven]; exact settled_seven _ h.buf _, by simp, Nat.zero_le _⟩
theorem LastInv.armed {p : List UInt8} {D : Dk} {k : Nat} (h : LastInv p D k) (n : Int) : LastInv p (D.armedAt n) k := by
  unfold Dk.armedAt; split
  · exact h
  · exact ⟨h.secs, h.seven, h.buf, h.len⟩
theorem LastInv.crashed {p : List UInt8} {D : Dk} {k : Nat} (h : LastInv p D k) (a b : Int) : LastInv p (D.crashed a b) k := by
  have hb : ∀ x ∈ D.buf.take (min (max a 0) (D.buf.length : Int)).toNat, x.1 ≠ 7 := fun x hx => h.buf x (List.mem_of_mem_take hx)
  refine ⟨?_, ?_, by simp [Dk.crashed], Nat.zero_le _⟩
  · simp only [Dk.crashed]; split
    · rw [List.length_set, settled_length]; exact h.secs
    · rw [settled_length]; exact h.secs
  · simp only [Dk.crashed]; split
    · rename_i x hx
      rw [List.getD_eq_getElem?_getD, List.getElem?_set_ne (h.buf x (List.mem_of_getElem? hx)), ← List.getD_eq_getElem?_getD, settled_seven _ hb]; exact h.seven
    · rw [settled_seven _ hb]; exact h.seven

def LQ (b lb cl : Nat) (sp : Array Value) (W : World) (p : List UInt8) (k : Nat) (w : World) : Prop :=
  ∃ wv D, IsDk w b lb cl sp wv D ∧ LastInv p D k ∧ Own W w (dkFoot b lb wv)
theorem LQ.fr {b lb cl : Nat} {sp : Array Value} {W : World} {p : List UInt8} {k : Nat} {w w' : World} (h : LQ b lb cl sp W p k w) (f : Fr (fun _ => False) w w') : LQ b lb cl sp W p k w' := by
  obtain ⟨wv, D, h1, h2, h3⟩ := h
  exact ⟨wv, D, h1.fr f (fun _ _ h => h), h2, h3.still f⟩
theorem LQ.mono {b lb cl : Nat} {sp : Array Value} {W : World} {p : List UInt8} {k : Nat} {w : World} (h : LQ b lb cl sp W p k w) : LQ b lb cl sp W p (k + 1) w := by
  obtain ⟨wv, D, h1, h2, h3⟩ := h
  exact ⟨wv, D, h1, h2.mono, h3⟩

def AnyErr (Q : World → Prop) (e : Ending) (w' : World) : Prop := ∃ n : Int, e = .returned (.int .i64 n) ∧ Q w'

theorem lq_write {b lb cl : Nat} {sp : Array Value} {W : World} {p : List UInt8} {k : Nat} {w : World} (h : LQ b lb cl sp W p k w) (hk : k ≤ 2932031007402) (i : Int) (hi : i ≠ 7) (v : Value) (l : List UInt8) (hv : IsBytes w v l) :
    Calls Try.prog 16 #[.pointer (some ⟨b, 0, none⟩), .int .i64 i, v] w (AnyErr (LQ b lb cl sp W p (k + 1))) := by
  obtain ⟨wv, D, h1, h2, h3⟩ := h
  by_cases hm : D.may i = 0
  · by_cases hl : l.length ≤ 64
    · have hd : D.down = false := by
        cases hd : D.down with
        | false => rfl
        | true => simp [Dk.may, hd] at hm
      have hb : 0 ≤ i ∧ i < D.secs.length := by
        simp only [Dk.may, hd, Bool.false_eq_true, if_false] at hm
        split at hm
        · cases hm
        · omega
      obtain ⟨n, rfl⟩ := Int.eq_ofNat_of_zero_le hb.1
      refine (write_ok b lb cl sp wv D w n v l h1 hd (by omega) hl hv (by have := h2.len; omega)).mono ?_
      rintro e w' ⟨rfl, wv', k1, k2⟩
      exact ⟨_, rfl, wv', _, k1, h2.written n l (by omega), h3.step k2⟩
    · refine (write_long b lb cl sp wv D w i v l h1 hm hv (by omega)).mono ?_
      rintro e w' ⟨rfl, rfl⟩
      exact ⟨_, rfl, wv, D, h1, h2.mono, h3⟩
  · refine (write_may b lb cl sp wv D w i v h1 hm).mono ?_
    rintro e w' ⟨rfl, rfl⟩
    exact ⟨_, rfl, wv, D, h1, h2.mono, h3⟩

theorem own_nil {b lb : Nat} {wv : Value} {w w' : World} (h : Fr (fun k => k = b ∨ k = lb) w w') : Mv (dkFoot b lb wv) (dkFoot b lb (.slice none 0 0)) w w' :=
  ⟨h.mono (fun k _ h => h.elim .inl (fun h => .inr (.inl h))), fun k h => by
    rcases h with h | h | h
    · exact .inl (.inl h)
    · exact .inl (.inr (.inl h))
    · cases h⟩

theorem lq_flush {b lb cl : Nat} {sp : Array Value} {W : World} {p : List UInt8} {k : Nat} {w : World} (h : LQ b lb cl sp W p k w) :
    Calls Try.prog 15 #[.pointer (some ⟨b, 0, none⟩)] w (AnyErr (LQ b lb cl sp W p (k + 1))) := by
  obtain ⟨wv, D, h1, h2, h3⟩ := h
  cases hd : D.down with
  | true =>
    refine (flush_down b lb cl sp wv D w h1 hd).mono ?_
    rintro e w' ⟨rfl, rfl⟩
    exact ⟨_, rfl, wv, D, h1, h2.mono, h3⟩
  | false =>
    refine (flush_up b lb cl sp wv D w h1 hd).mono ?_
    rintro e w' ⟨rfl, k1, k2⟩
    exact ⟨_, rfl, _, _, k1, h2.flushed.mono, h3.step (own_nil k2)⟩

theorem lq_arm {b lb cl : Nat} {sp : Array Value} {W : World} {p : List UInt8} {k : Nat} {w : World} (h : LQ b lb cl sp W p k w) (n : Int) (hn : -9223372036854775808 ≤ n ∧ n ≤ 9223372036854775807) :
    Calls Try.prog 14 #[.pointer (some ⟨b, 0, none⟩), .int .i64 n] w fun e w' => e = .returned (.tuple #[]) ∧ LQ b lb cl sp W p (k + 1) w' := by
  obtain ⟨wv, D, h1, h2, h3⟩ := h
  refine (arm_any b lb cl sp wv D w n h1 hn).mono ?_
  rintro e w' ⟨rfl, k1, k2⟩
  exact ⟨rfl, _, _, k1, (h2.armed n).mono, h3.step ⟨k2.mono (fun k _ h => .inl h), fun k h => .inl h⟩⟩

theorem lq_crash {b lb cl : Nat} {sp : Array Value} {W : World} {p : List UInt8} {k : Nat} {w : World} (h : LQ b lb cl sp W p k w) (x y : Int) :
    Calls Try.prog 18 #[.pointer (some ⟨b, 0, none⟩), .int .i64 x, .int .i64 y] w fun e w' => e = .returned (.tuple #[]) ∧ LQ b lb cl sp W p (k + 1) w' := by
  obtain ⟨wv, D, h1, h2, h3⟩ := h
  refine (crash_any b lb cl sp wv D w x y h1).mono ?_
  rintro e w' ⟨rfl, k1, k2⟩
  exact ⟨rfl, _, _, k1, (h2.crashed x y).mono, h3.step (own_nil k2)⟩

/-- An argument of operations: what stands at its i-th place. -/
structure IsOps (w : World) (ao : Option Addr) (len : Nat) (K I N : Nat → Int) (V : Nat → Value) (L : Nat → List UInt8) : Prop where
  at_ : 0 < len → ∃ ab off, ao = some ⟨ab, off, none⟩ ∧ ∀ j, j < len → w.cell? ⟨ab, off + j * 4, none⟩ = some (.int .i64 (K j)) ∧ w.cell? ⟨ab, off + j * 4 + 1, none⟩ = some (.int .i64 (I j)) ∧
    w.cell? ⟨ab, off + j * 4 + 2, none⟩ = some (.int .i64 (N j)) ∧ w.cell? ⟨ab, off + j * 4 + 3, none⟩ = some (V j)
  ints : ∀ j, j < len → (-9223372036854775808 ≤ K j ∧ K j ≤ 9223372036854775807) ∧ (-9223372036854775808 ≤ I j ∧ I j ≤ 9223372036854775807) ∧ (-9223372036854775808 ≤ N j ∧ N j ≤ 9223372036854775807)
  bytes : ∀ j, j < len → IsBytes w (V j) (L j)

section
open Go.ChangeShapes Go.WideShapes Go.Deep
theorem ops_of_trod {H : Type} {enc : TypeId × Value → H} {W : World} {base : Nat} {held : Bool} {fuel : Nat} {v : Value} {x : DataW H × List MemPlace}
    (h : DataW.trod enc Try.prog W base (fun _ => true) held fuel 33 [v] = some x) :
    ∃ ao len cap K I N V L, v = .slice ao len cap ∧ len ≤ cap ∧ cap ≤ 9223372036854775807 ∧ IsOps W ao len K I N V L := by
  obtain ⟨ao, len, cap, rfl, hl, hm, h0, hc⟩ := fields_of_trod Try.underlying33 Try.underlying35 (by kernel_rfl) (by kernel_rfl) h
  refine ⟨ao, len, cap, ?_⟩
  cases ao with
  | none =>
    obtain rfl := h0 rfl
    exact ⟨fun _ => 0, fun _ => 0, fun _ => 0, fun _ => .slice none 0 0, fun _ => [], rfl, hl, by simpa [maxLen] using hm, ⟨fun h => by omega, fun j h => by omega, fun j h => by omega⟩⟩
  | some a =>
    obtain ⟨n, hf⟩ := hc a rfl
    have key : ∀ i, i < len → ∃ q : (Int × Int × Int × Value × List UInt8), (W.cell? (a.add (i * 4 + 0)) = some (.int .i64 q.1) ∧ W.cell? (a.add (i * 4 + 1)) = some (.int .i64 q.2.1) ∧ W.cell? (a.add (i * 4 + 2)) = some (.int .i64 q.2.2.1) ∧ W.cell? (a.add (i * 4 + 3)) = some q.2.2.2.1) ∧
        ((-9223372036854775808 ≤ q.1 ∧ q.1 ≤ 9223372036854775807) ∧ (-9223372036854775808 ≤ q.2.1 ∧ q.2.1 ≤ 9223372036854775807) ∧ (-9223372036854775808 ≤ q.2.2.1 ∧ q.2.2.1 ≤ 9223372036854775807)) ∧ IsBytes W q.2.2.2.1 q.2.2.2.2 := by
      intro i hi
      obtain ⟨u0, y0, c0, t0⟩ := hf i hi 0 _ rfl
      obtain ⟨u1, y1, c1, t1⟩ := hf i hi 1 _ rfl
      obtain ⟨u2, y2, c2, t2⟩ := hf i hi 2 _ rfl
      obtain ⟨u3, y3, c3, t3⟩ := hf i hi 3 _ rfl
      obtain ⟨z0, rfl, w0⟩ := int_of_trod (k := .i64) (by kernel_rfl) t0
      obtain ⟨z1, rfl, w1⟩ := int_of_trod (k := .i64) (by kernel_rfl) t1
      obtain ⟨z2, rfl, w2⟩ := int_of_trod (k := .i64) (by kernel_rfl) t2
      obtain ⟨l, hl3⟩ := bytes_of_trod (e := 5) (by kernel_rfl) (by kernel_rfl) (by kernel_rfl) t3
      exact ⟨(z0, z1, z2, u3, l), ⟨c0, c1, c2, c3⟩, ⟨i64_of_wf w0, i64_of_wf w1, i64_of_wf w2⟩, hl3⟩
    obtain ⟨f, hf⟩ := choose_fn (α := Int × Int × Int × Value × List UInt8) key
    refine ⟨fun i => (f i).1, fun i => (f i).2.1, fun i => (f i).2.2.1, fun i => (f i).2.2.2.1, fun i => (f i).2.2.2.2, rfl, hl, by simpa [maxLen] using hm, ⟨fun hp => ?_, fun j hj => (hf j hj).2.1, fun j hj => (hf j hj).2.2⟩⟩
    have hs := cell_spot (hf 0 hp).1.1 rfl
    obtain ⟨ab, off, sp⟩ := a
    simp only at hs
    subst hs
    refine ⟨ab, off, rfl, fun j hj => ?_⟩
    have := (hf j hj).1
    simp only [Addr.add_mk] at this
    exact this
end

theorem last_start (data : List UInt8) : LastInv (pad64 data) ((newDk 8).written 7 data).flushed 0 := by
  refine ⟨?_, ?_, by simp [Dk.flushed, Dk.changed], by simp [Dk.flushed, Dk.changed]⟩
  · show (List.set (zSecs (min (max 8 1) 65536)) 7 (pad64 data)).length = 8
    rw [List.length_set, zSecs_length]; rfl
  · show (List.set (zSecs (min (max 8 1) 65536)) 7 (pad64 data)).getD 7 [] = _
    rw [List.getD_eq_getElem?_getD, List.getElem?_set_self (by rw [zSecs_length]; decide)]; rfl

set_option maxRecDepth 100000 in
set_option maxHeartbeats 2000000 in
theorem lasts_walk (v : Value) (data : List UInt8) (ao : Option Addr) (len cap : Nat) (K I N : Nat → Int) (V : Nat → Value) (L : Nat → List UInt8) (w : World)
    (hv : IsBytes w v data) (ho : IsOps w ao len K I N V L) (hlen : len ≤ 2932031007402) :
    Calls Try.prog 4 #[v, .slice ao len cap] w fun e w' => e = .returned (.bool true) ∧ Fr (fun _ => False) w w' := by
  have HV := Lib.hid hv; clear hv
  have HO := Lib.hid ho; clear ho
  obtain ⟨vo, vc, hvv, _⟩ := HV.out.is
  go_enter Try.func4, Try.ntmps4
  subst hvv
  go_wp2_with fail
  refine (new_any 8 _ (by omega)).mono ?_
  rintro e w1 ⟨b, lb, cl, sp, rfl, D1, fr1, hb, hlb⟩
  have O1 : Own w w1 (dkFoot b lb (.slice none 0 0)) := ⟨fr1, fun k h => by
    rcases h with h | h | h
    · omega
    · omega
    · cases h⟩
  have HO1 := Lib.hid O1; clear O1 fr1 hb hlb
  have HD1 := Lib.hid D1; clear D1
  go_wp2_with fail
  refine (awake3 _).mono ?_
  rintro e w2 ⟨rfl, fr2⟩
  have HO2 := Lib.hid (HO1.out.still fr2)
  have HD2 := Lib.hid (HD1.out.fr fr2 (fun _ _ h => h))
  clear fr2 HO1 HD1
  by_cases h64 : data.length ≤ 64
  · have hle : decide ((64 : Int) < (data.length : Int)) = false := by simp; omega
    go_wp2_with fail
    refine (write_ok b lb cl sp _ _ w2 7 _ data HD2.out rfl (by decide) h64 (HO2.out.bytes HV.out) (by decide)).mono ?_
    rintro e w3 ⟨rfl, wv3, d3, m3⟩
    have HO3 := Lib.hid (HO2.out.step m3)
    have HD3 := Lib.hid d3
    clear m3 d3 HO2 HD2
    go_wp2_with fail
    refine (flush_up b lb cl sp _ _ w3 HD3.out rfl).mono ?_
    rintro e w4 ⟨rfl, d4, f4⟩
    have Q4 : Hid (LQ b lb cl sp w (pad64 data) 0 w4) := ⟨_, _, d4, last_start data, HO3.out.step (own_nil f4)⟩
    clear d4 f4 HO3 HD3
    go_wp2
    go_loopw [6] (fun i wr => ∃ k : Nat, k ≤ len ∧ i = .int .i64 k ∧ LQ b lb cl sp w (pad64 data) k wr) (fun i _ => len - (intOf i).toNat)
    case atStart => exact ⟨0, Nat.zero_le _, rfl, Q4.out⟩
    case round =>
      obtain ⟨k, hk, rfl, hq⟩ := hrel
      rename_i wr
      have HQ := Lib.hid hq; clear hq
      by_cases hlt : k < len
      · obtain ⟨ab, off, rfl, hc⟩ := HO.out.at_ (by omega)
        obtain ⟨hK, hI, hN⟩ := HO.out.ints k hlt
        have hB := HO.out.bytes k hlt
        obtain ⟨vo', vc', hvv', _⟩ := hB.is
        obtain ⟨q0, q1, q2, q3⟩ := hc k hlt
        have hown : ∀ {a : Addr} {u : Value}, w.cell? a = some u → wr.cell? a = some u := by
          obtain ⟨wv, D, _, _, ow⟩ := HQ.out
          exact fun h => ow.cell h
        have c0 : cellIn wr.heap[ab]? (off + k * 4) = some (.int .i64 (K k)) := by rw [← cell?_mk]; exact hown q0
        have c1 : cellIn wr.heap[ab]? (off + k * 4 + 1) = some (.int .i64 (I k)) := by rw [← cell?_mk]; exact hown q1
        have c2 : cellIn wr.heap[ab]? (off + k * 4 + 2) = some (.int .i64 (N k)) := by rw [← cell?_mk]; exact hown q2
        have c3 : cellIn wr.heap[ab]? (off + k * 4 + 3) = some (V k) := by rw [← cell?_mk]; exact hown q3
        have hb5 : IsBytes wr (V k) (L k) := by
          obtain ⟨wv, D, _, _, ow⟩ := HQ.out
          exact ow.bytes hB
        rw [hvv'] at c3 hb5
        have HBB := Lib.hid hb5; clear hb5 hB
        have hw1 : IntKind.i64.wrap ((k : Int) + 1) = (k : Int) + 1 := IntWalk.i64_in _ (by omega)
        clear hvv' hc q0 q1 q2 q3 hown hK
        by_cases h7 : I k = 7
        · have t7 : (I k != 7) = false := by simp [h7]
          have H7 := Lib.hid h7; clear h7
          go_wp2_with (first
            | (go_at_call 15; refine (lq_flush (HQ.out.fr ((Fr.refl _ wr).alloc _))).mono ?_; rintro e w5 ⟨n, rfl, q5⟩; have HQ5 := Lib.hid q5; clear q5)
            | (go_at_call 14; refine (lq_arm (HQ.out.fr ((Fr.refl _ wr).alloc _)) _ hN).mono ?_; rintro e w5 ⟨rfl, q5⟩; have HQ5 := Lib.hid q5; clear q5)
            | (go_at_call 18; refine (lq_crash (HQ.out.fr ((Fr.refl _ wr).alloc _)) _ _).mono ?_; rintro e w5 ⟨rfl, q5⟩; have HQ5 := Lib.hid q5; clear q5))
          all_goals first
            | exact ⟨⟨k + 1, by omega, by go_num, HQ5.out⟩, by simp [intOf]; omega⟩
            | exact ⟨⟨k + 1, by omega, by go_num, (HQ.out.fr ((Fr.refl _ wr).alloc _)).mono⟩, by simp [intOf]; omega⟩
        · have t7 : (I k != 7) = true := by simp [h7]
          have H7 := Lib.hid h7; clear h7
          go_wp2_with (first
            | (go_at_call 16; refine (lq_write (HQ.out.fr ((Fr.refl _ wr).alloc _)) (by omega) _ H7.out _ (L k) (HBB.out.alloc _)).mono ?_; rintro e w5 ⟨n, rfl, q5⟩; have HQ5 := Lib.hid q5; clear q5)
            | (go_at_call 15; refine (lq_flush (HQ.out.fr ((Fr.refl _ wr).alloc _))).mono ?_; rintro e w5 ⟨n, rfl, q5⟩; have HQ5 := Lib.hid q5; clear q5)
            | (go_at_call 14; refine (lq_arm (HQ.out.fr ((Fr.refl _ wr).alloc _)) _ hN).mono ?_; rintro e w5 ⟨rfl, q5⟩; have HQ5 := Lib.hid q5; clear q5)
            | (go_at_call 18; refine (lq_crash (HQ.out.fr ((Fr.refl _ wr).alloc _)) _ _).mono ?_; rintro e w5 ⟨rfl, q5⟩; have HQ5 := Lib.hid q5; clear q5))
          all_goals first
            | exact ⟨⟨k + 1, by omega, by go_num, HQ5.out⟩, by simp [intOf]; omega⟩
            | exact ⟨⟨k + 1, by omega, by go_num, (HQ.out.fr ((Fr.refl _ wr).alloc _)).mono⟩, by simp [intOf]; omega⟩
      · obtain rfl : k = len := by omega
        obtain ⟨wv5, D5, hd5, hi5, ho5⟩ := HQ.out
        have HD5 := Lib.hid hd5; have HI5 := Lib.hid hi5; have HO5 := Lib.hid ho5
        clear hd5 hi5 ho5
        go_wp2_with fail
        refine (crash_any b lb cl sp wv5 D5 wr 0 0 HD5.out).mono ?_
        rintro e w6 ⟨rfl, d6, f6⟩
        have HD6 := Lib.hid d6
        have HO6 := Lib.hid (HO5.out.step (own_nil f6))
        have HI6 := Lib.hid (HI5.out.crashed 0 0)
        clear d6 f6
        go_wp2_with fail
        refine (read_ok b lb cl sp _ _ w6 7 HD6.out rfl (by rw [HI6.out.secs]; decide)).mono ?_
        rintro e w7 ⟨sb, rfl, hsb, row7, f7⟩
        have ht : (D5.crashed 0 0).told 7 = pad64 data := by
          rw [← HI6.out.seven]; rfl
        rw [ht] at row7
        have HO7 := Lib.hid (HO6.out.still f7)
        have hp64 := pad64_length data h64
        have C1 : IsBytes w7 (.slice (some ⟨sb, 0, none⟩) 64 64) (pad64 data) := by
          have := IsBytes.of_row row7 64 64 (by omega) (Nat.le_refl _) (by decide)
          rwa [List.take_of_length_le (by omega)] at this
        have HC1 := Lib.hid C1
        have HV7 := Lib.hid (HO7.out.bytes HV.out)
        have k1 := cv309 w7.drew _ _ (C1.fr (F := fun _ => False) (Fr.refl _ w7).drew (fun _ _ h => h))
        clear hsb ht C1 hp64
        go_wp2
        refine start_ (n := 11) (S := fun w' => cvStr Try.prog 30 9 (.slice (some ⟨sb, 0, none⟩) 64 64) w' = .ok (.value (str (pad64 data))) w') (ds := []) #[false, false, false, false, false, false, false, false, false, false, false] (by kernel_rfl) rfl rfl (k1) (fun hHeld => ?_)
        refine pure_ (i := 0) (N := some 76) (v := ?_) (a' := ?_) #[true, false, false, false, false, false, false, false, false, false, false] rfl rfl (by kernel_rfl) (fun _ _ _ h => h) (Or.inl ⟨by rfl, ?_⟩) ?_ ?_
        rotate_left
        · intro w'
          try simp only [List.getElem_toArray, List.getElem_cons_succ, List.getElem_cons_zero]
          go_simp
          with_reducible rfl
        rotate_left
        · simp only [Act.put, List.setIfInBounds_toArray, List.set_cons_zero, List.set_cons_succ, i64_w, i32_w]
          rfl
        refine pure_ (i := 1) (N := some 77) (v := ?_) (a' := ?_) #[true, true, false, false, false, false, false, false, false, false, false] rfl rfl (by kernel_rfl) (fun _ _ _ h => h) (Or.inl ⟨by rfl, ?_⟩) ?_ ?_
        rotate_left
        · intro w'
          try simp only [List.getElem_toArray, List.getElem_cons_succ, List.getElem_cons_zero]
          go_simp
          with_reducible rfl
        rotate_left
        · simp only [Act.put, List.setIfInBounds_toArray, List.set_cons_zero, List.set_cons_succ, i64_w, i32_w]
          rfl
        refine pure_ (i := 2) (N := some 78) (v := ?_) (a' := ?_) #[true, true, true, false, false, false, false, false, false, false, false] rfl rfl (by kernel_rfl) (fun _ _ _ h => h) (Or.inl ⟨by rfl, ?_⟩) ?_ ?_
        rotate_left
        · intro w'
          try simp only [List.getElem_toArray, List.getElem_cons_succ, List.getElem_cons_zero]
          go_simp
          with_reducible rfl
        rotate_left
        · simp only [Act.put, List.setIfInBounds_toArray, List.set_cons_zero, List.set_cons_succ, i64_w, i32_w]
          rfl
        refine pure_ (i := 3) (N := some 79) (v := ?_) (a' := ?_) #[true, true, true, true, false, false, false, false, false, false, false] rfl rfl (by kernel_rfl) (fun _ _ _ h => h) (Or.inl ⟨by rfl, ?_⟩) ?_ ?_
        rotate_left
        · intro w'
          try simp only [List.getElem_toArray, List.getElem_cons_succ, List.getElem_cons_zero]
          go_simp
          with_reducible rfl
        rotate_left
        · simp only [Act.put, List.setIfInBounds_toArray, List.set_cons_zero, List.set_cons_succ, i64_w, i32_w]
          rfl
        refine pure_ (i := 5) (N := some 81) (v := ?_) (a' := ?_) #[true, true, true, true, false, true, false, false, false, false, false] rfl rfl (by kernel_rfl) (fun _ _ _ h => h) (Or.inl ⟨by rfl, ?_⟩) ?_ ?_
        rotate_left
        · intro w'
          try simp only [List.getElem_toArray, List.getElem_cons_succ, List.getElem_cons_zero]
          go_simp
          with_reducible rfl
        rotate_left
        · simp only [Act.put, List.setIfInBounds_toArray, List.set_cons_zero, List.set_cons_succ, i64_w, i32_w]
          rfl
        refine take_ (i := 4) (N := some 80) (v := ?_) (a' := ?_) #[true, true, true, true, true, true, false, false, false, false, false] rfl rfl (by kernel_rfl) (fun _ _ _ h => h) (Or.inl ⟨by rfl, ?_⟩) hHeld ?_ ?_
        rotate_left
        · intro w' s0
          try simp only [List.getElem_toArray, List.getElem_cons_succ, List.getElem_cons_zero]
          go_simp
          with_reducible rfl
        rotate_left
        · simp only [Act.put, List.setIfInBounds_toArray, List.set_cons_zero, List.set_cons_succ, i64_w, i32_w]
          rfl
        refine one_ (i := 6) (N := some 82) #[true, true, true, true, true, true, true, false, false, false, false] rfl rfl (by kernel_rfl) (by decide) (fun K hK => ?_)
        refine goes_ Try.func20 (by kernel_rfl) rfl #[.slice vo data.length vc] (by rfl) rfl rfl (by simp only [List.map_toArray, List.map_cons, List.map_nil]; rfl) ?_
        with_reducible refine (whole_any _ data _ (HV7.out.fr (F := fun _ => False) (Fr.refl _ w7).drew (fun _ _ h => h)) h64).mono ?_
        rintro e w8 ⟨nb, rfl, hnb, row8, f8⟩
        refine ⟨_, rfl, ?_⟩
        have k8 := cv309 w8 _ _ ((HC1.out.fr (F := fun _ => False) (Fr.refl _ w7).drew (fun _ _ h => h)).fr f8 (fun _ _ h => h))
        have k9 := cv309 w8 _ _ (IsBytes.of_cells row8 (by rw [pad64_length data h64]; decide))
        refine hK.out _ _ (k8) (fun hHeld => ?_)
        clear hK K
        refine norm_ (a' := ?_) ?_ ?_
        rotate_left
        · show Act.put _ (some 82) _ = _
          simp only [Act.put, List.setIfInBounds_toArray, List.set_cons_zero, List.set_cons_succ, i64_w, i32_w]
          rfl
        refine one_ (i := 7) (N := some 83) #[true, true, true, true, true, true, true, true, false, false, false] rfl rfl (by kernel_rfl) (by decide) (fun K hK => ?_)
        refine value_ (w1 := ?_) (v := ?_) (by rfl) rfl ?_ ?_
        rotate_left 2
        · try simp only [List.getElem_toArray, List.getElem_cons_succ, List.getElem_cons_zero]
          go_simp
          constructor
          · rfl
          · rfl
        refine hK.out _ _ (k8) (fun hHeld => ?_)
        clear hK K
        refine norm_ (a' := ?_) ?_ ?_
        rotate_left
        · show Act.put _ (some 83) _ = _
          simp only [Act.put, List.setIfInBounds_toArray, List.set_cons_zero, List.set_cons_succ, i64_w, i32_w]
          rfl
        refine pure_ (i := 8) (N := some 84) (v := ?_) (a' := ?_) #[true, true, true, true, true, true, true, true, true, false, false] rfl rfl (by kernel_rfl) (fun _ _ _ h => h) (Or.inl ⟨by rfl, ?_⟩) ?_ ?_
        rotate_left
        · intro w'
          try simp only [List.getElem_toArray, List.getElem_cons_succ, List.getElem_cons_zero]
          go_simp
          with_reducible rfl
        rotate_left
        · simp only [Act.put, List.setIfInBounds_toArray, List.set_cons_zero, List.set_cons_succ, i64_w, i32_w]
          rfl
        refine pure_ (i := 9) (N := some 85) (v := ?_) (a' := ?_) #[true, true, true, true, true, true, true, true, true, true, false] rfl rfl (by kernel_rfl) (fun _ _ _ h => h) (Or.inl ⟨by rfl, ?_⟩) ?_ ?_
        rotate_left
        · intro w'
          try simp only [List.getElem_toArray, List.getElem_cons_succ, List.getElem_cons_zero]
          go_simp
          with_reducible rfl
        rotate_left
        · simp only [Act.put, List.setIfInBounds_toArray, List.set_cons_zero, List.set_cons_succ, i64_w, i32_w]
          rfl
        refine pure_ (i := 10) (N := some 4) (v := ?_) (a' := ?_) #[true, true, true, true, true, true, true, true, true, true, true] rfl rfl (by kernel_rfl) (fun _ _ _ h => h) (Or.inl ⟨by rfl, ?_⟩) ?_ ?_
        rotate_left
        · intro w'
          try simp only [List.getElem_toArray, List.getElem_cons_succ, List.getElem_cons_zero]
          go_simp
          with_reducible rfl
        rotate_left
        · simp only [Act.put, List.setIfInBounds_toArray, List.set_cons_zero, List.set_cons_succ, i64_w, i32_w]
          rfl
        refine done_ (by kernel_rfl) ?_

        go_wp2
        go_ret
        exact ⟨rfl, (HO7.out.fr.drew).trans f8 (fun _ h => h.elim)⟩
  · have hle : decide ((64 : Int) < (data.length : Int)) = true := by simp; omega
    go_wp2_with fail
    refine (awake3 _).mono ?_
    rintro e w3 ⟨rfl, fr3⟩
    go_wp2
    go_ret
    exact ⟨rfl, (HO2.out.still fr3).fr⟩
end Go.Proofs.Ytnpeeephkkmomaa
