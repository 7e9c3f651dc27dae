/-
  The store: texts compared, laid behind bytes; an area's place.
-/
import Derived.Test.YtnpeeephkkmomaaMC
import Derived.Lib.Strings
import Derived.Lib.Slices
import Derived.Lib.Walk
import Derived.Lib.Bytealg
import Derived.Lib.AppendStr
import Derived.Lib.SliceRun
import Derived.Lib.Overlaps
import Derived.Lib.AppendZerosOnto
namespace Go.Proofs.Ytnpeeephkkmomaa
open Go.RowKit Go.Proofs.YtnpeeephkkmomaaW.PrintLast
set_option linter.unusedVariables false
set_option linter.unusedSimpArgs false

set_option maxHeartbeats 1000000 in
set_option maxRecDepth 100000 in
/-- internal/bytealg.CompareString. -/
theorem cmp109 (a b : ByteArray) (w : World) :
    Calls Try.prog 109 #[.string a, .string b] w fun e w' => e = .returned (.int .i64 (Lib.compareBytes a.data.toList b.data.toList)) ∧ w' = w := by
  go_enter Try.func109, Try.ntmps109
  go_wp2
  rw [run_callFunc_extern Try.func111 (by kernel_rfl) (by kernel_rfl) (by kernel_rfl) (e := Extern.BytealgCompare.compare) (by kernel_rfl), Lib.run_compareString]
  simp only [Result.andThen]
  rw [Oper.upon_value]
  go_wp2
  go_ret
  exact ⟨rfl, rfl⟩
set_option maxRecDepth 100000 in
/-- strings.Compare. -/
theorem cmp104 (a b : List UInt8) (w : World) : Calls Try.prog 104 #[str a, str b] w fun e w' => e = .returned (.int .i64 (Lib.compareBytes a b)) ∧ w = w' := by
  unfold str
  go_enter Try.func104, Try.ntmps104
  go_wp2_with (go_at_call 109; refine (cmp109 _ _ _).mono ?_; rintro e w' ⟨rfl, rfl⟩)
  go_ret
  exact ⟨rfl, rfl⟩
set_option maxRecDepth 100000 in
set_option maxHeartbeats 1000000 in
/-- strings.HasPrefix. -/
theorem pre105 (s p : ByteArray) (w : World) :
    Calls Try.prog 105 #[.string s, .string p] w fun e w' => e = .returned (.bool (Lib.hasPrefix s.data.toList p.data.toList)) ∧ w = w' := by
  rw [← Lib.hasPrefix_of_take, ← Lib.size_eq, ← Lib.size_eq]
  go_enter Try.func105, Try.ntmps105
  go_wp2
  · rename_i h
    go_ret
    refine ⟨?_, rfl⟩
    show Ending.returned (Value.bool (List.take p.size s.data.toList == p.data.toList)) = _
    simp [h]
  · rename_i h
    go_ret
    refine ⟨?_, rfl⟩
    show Ending.returned (Value.bool false) = _
    simp [h]
set_option maxRecDepth 100000 in
theorem pre81 (s p : List UInt8) (w : World) : Calls Try.prog 81 #[str s, str p] w fun e w' => e = .returned (.bool (Lib.hasPrefix s p)) ∧ w = w' := by
  unfold str
  go_enter Try.func81, Try.ntmps81
  go_wp2_with (go_at_call 105; refine (pre105 _ _ _).mono ?_; rintro e w' ⟨rfl, rfl⟩)
  go_ret
  exact ⟨rfl, rfl⟩

/-- A change. -/
structure Chg where
  key : List UInt8
  val : List UInt8
  gone : Bool
def chCells (c : Chg) : List Value := [str c.key, str c.val, .bool c.gone]
theorem bx75 (w : World) (vs : Array Value) : (Instr.box 75 (.agg vs)).run Try.prog w = .ok (.pointer (some ⟨w.heap.size, 0, none⟩)) (w.alloc (.cells vs 75 (0, 0))) := rfl
set_option maxRecDepth 100000 in
set_option maxHeartbeats 1000000 in
/-- find's comparison. -/
theorem cmp103 (c : Chg) (k : List UInt8) (w : World) : Calls Try.prog 103 #[.agg (chCells c).toArray, str k] w fun e w' => e = .returned (.int .i64 (Lib.compareBytes c.key k)) ∧ Fr (fun _ => False) w w' := by
  unfold chCells
  go_enter Try.func103, Try.ntmps103
  go_wp2_with (go_at_call 104; refine (cmp104 _ _ _).mono ?_; rintro e w' ⟨rfl, rfl⟩)
  go_ret
  exact ⟨rfl, (Fr.refl _ w).alloc _⟩

set_option maxRecDepth 100000 in
set_option maxHeartbeats 1000000 in
/-- place. -/
theorem place71 (b lb cl : Nat) (sp : Array Value) (wv : Value) (D : Dk) (w : World) (area : Nat) (h : IsDk w b lb cl sp wv D) (ha : area ≤ 1) (h2 : 2 ≤ D.secs.length) :
    Calls Try.prog 71 #[.pointer (some ⟨b, 0, none⟩), .int .i64 area] w fun e w' => e = .returned (.tuple #[.int .i64 ((2 + area * ((D.secs.length - 2) / 2) : Nat) : Int), .int .i64 ((2 + area * ((D.secs.length - 2) / 2) + (D.secs.length - 2) / 2 : Nat) : Int)]) ∧ w = w' := by
  have HD := Lib.hid h
  have hmost := h.ok.most
  obtain ⟨n, hn⟩ : ∃ n, n = D.secs.length := ⟨_, rfl⟩
  obtain ⟨q, hq⟩ : ∃ q, q = (D.secs.length - 2) / 2 := ⟨_, rfl⟩
  obtain ⟨m, hm⟩ : ∃ m, m = area * q := ⟨_, rfl⟩
  have hmb : m ≤ q := by
    rw [hm]
    have : area = 0 ∨ area = 1 := by omega
    rcases this with rfl | rfl <;> omega
  have B := And.intro hn (And.intro hq hm)
  rw [← hq, ← hm]
  have A1 : Value.int .i64 (wrap64 ((n : Int) - 2)) = Value.int .i64 ((n : Int) - 2) := by rw [w64 _ (by omega)]
  have A2 : Value.int .i64 (wrap64 (((n : Int) - 2).tdiv 2)) = Value.int .i64 (q : Int) := by
    rw [Int.tdiv_eq_ediv_of_nonneg (by omega), w64 _ (by omega)]; congr 1; omega
  have A3 : Value.int .i64 (wrap64 ((area : Int) * (q : Int))) = Value.int .i64 (m : Int) := by
    rw [hm]; rw [← Int.natCast_mul]; rw [w64 _ (by rw [← hm]; omega)]
  have A4 : Value.int .i64 (wrap64 (2 + (m : Int))) = Value.int .i64 (2 + (m : Int)) := by rw [w64 _ (by omega)]
  have A5 : Value.int .i64 (wrap64 (2 + (m : Int) + (q : Int))) = Value.int .i64 (2 + (m : Int) + (q : Int)) := by rw [w64 _ (by omega)]
  have HN := Lib.hid hn
  clear h hmost hq hm hmb B hn h2 ha
  go_enter Try.func71, Try.ntmps71
  go_wp2_with (go_at_call 57; refine (size_any b lb cl sp wv D w HD.out).mono ?_; rintro e w2 ⟨rfl, rfl⟩; rw [← HN.out])
  go_ret2
  refine ⟨?_, rfl⟩
  show Ending.returned (.tuple #[.int .i64 (wrap64 (2 + (m : Int))), .int .i64 (wrap64 (2 + (m : Int) + (q : Int)))]) = _
  rw [A4, A5]; rfl
end Go.Proofs.Ytnpeeephkkmomaa
namespace Go.Proofs.Ytnpeeephkkmomaa
open Go.RowKit Go.Proofs.YtnpeeephkkmomaaW.PrintLast
set_option linter.unusedVariables false
set_option linter.unusedSimpArgs false

theorem strCells_str (s : List UInt8) : Lib.strCells ⟨s.toArray⟩ = Bs s := by simp [Lib.strCells, Bs]
theorem size_str (s : List UInt8) : (⟨s.toArray⟩ : ByteArray).size = s.length := rfl
theorem run_append_str (w : World) (ty : TypeId) (v : Value) (l : List UInt8) (hb : Buf w v l) (s : List UInt8) (hroom : l.length + s.length ≤ 140737488355328) :
    ∃ v' w', (Builtin.append_ #[30, 9] ty #[v, str s]).run Try.prog w = .ok v' w' ∧ Buf w' v' (l ++ s) ∧ Fr (fun k => v.ownBlock = some k) w w' ∧ (v'.ownBlock = v.ownBlock ∨ v'.ownBlock = some w.heap.size) := by
  obtain ⟨i, hi, hz0, hz1, hz2⟩ := info_parts info5'
  have hsz := size_str s
  have hcs := strCells_str s
  unfold str
  obtain ⟨S, hS⟩ : ∃ S : ByteArray, S = ⟨s.toArray⟩ := ⟨_, rfl⟩
  rw [← hS] at hsz hcs ⊢
  have hlen : (Bs l ++ Bs s).length = (l.length + s.length) * 1 := by rw [List.length_append, Bs_length, Bs_length, Nat.mul_one]
  have hmx : ∀ old, old < l.length + s.length → grownCap w (l.length + s.length) old 5 ≤ maxLen := fun old _ => grownCap_le_maxLen w (l.length + s.length) old 5 (by unfold maxLen; omega)
  have hgr : ∀ old, old < l.length + s.length → Buf (w.drew.alloc (.cells ((Bs l).toArray ++ (Bs s).toArray ++ Builtin.zeroCells (Value.int .u8 0).cells (grownCap w (l.length + s.length) old 5 - (l.length + s.length))) 5))
      (.slice (some ⟨w.heap.size, 0, none⟩) (l.length + s.length) (grownCap w (l.length + s.length) old 5)) (l ++ s) := by
    intro old ho
    have hge := grownCap_ge w (l.length + s.length) old 5
    unfold Buf
    rw [List.length_append, Bs_append]
    refine ⟨hlen, .inr ⟨w.heap.size, _, _, rfl, Nat.zero_le _, heap_alloc_at w.drew _, hge, hmx old ho, ?_, ?_⟩⟩
    · simp only [Array.size_append, List.size_toArray, size_zeroCells, Bs_length, Value.cells]
      simp; omega
    · simp only [Array.toList_append, List.append_assoc]
      rw [← List.append_assoc, ← hlen]
      exact List.take_left
  have hfr : ∀ o, Fr (fun k => v.ownBlock = some k) w (w.drew.alloc o) := fun o => ((Fr.refl _ w).drew).alloc _
  rcases hb.2 with ⟨rfl, h0⟩ | ⟨g, cap, cur, rfl, _, hg, hnc, hcm, hcs2, htake⟩
  · obtain rfl := List.eq_nil_of_length_eq_zero h0
    by_cases hs0 : s.length = 0
    · obtain rfl := List.eq_nil_of_length_eq_zero hs0
      refine ⟨.slice none 0 0, w, ?_, Buf.nil w, Fr.refl _ w, .inl rfl⟩
      rw [hS]
      rw [show (⟨([] : List UInt8).toArray⟩ : ByteArray) = ByteArray.empty from rfl]
      simp [Builtin.append_, run_underlying Try.underlying30, run_underlying Try.underlying9, sizeOf, typeInfo, hi, Builtin.lenOf, Builtin.firstCells]
    · have hr := run_append_nil_string (P := Try.prog) w 30 9 ty 5 i (.int .u8 0) Try.underlying30 Try.underlying9 hi hz0 S (by omega) (by omega) (by rw [hz2]; omega)
      have h2 := hgr 0 (by simp; omega)
      refine ⟨_, _, hr, ?_, hfr _, .inr rfl⟩
      simp only [List.length_nil, Nat.zero_add, List.nil_append] at h2 ⊢
      rw [hsz]
      have hm : S.data.map (fun b => Value.int .u8 b.toNat) = #[] ++ (Bs s).toArray := by rw [hS]; apply Array.ext'; simp [Bs]
      rw [hm]
      exact h2
  · by_cases hrm : l.length + S.size ≤ cap
    · have hr := Lib.run_append_room_string (P := Try.prog) w 30 9 ty 5 i Try.underlying30 Try.underlying9 hi hz1 g l.length cap cur hg S hrm (by rw [hcs2]; omega)
      refine ⟨_, _, hr, ?_, (Fr.refl _ w).setRow _ (.inl rfl), .inl rfl⟩
      rw [hcs, hsz]
      unfold Buf
      rw [List.length_append, Bs_append]
      refine ⟨hlen, .inr ⟨g, cap, _, rfl, Nat.zero_le _, setRow_heap w g cur _ 5 _ hg, by omega, hcm, ?_, ?_⟩⟩
      · simp only [List.size_toArray, List.length_append, List.length_take, List.length_drop, Array.length_toList, Bs_length]
        omega
      · rw [Nat.mul_one] at htake
        rw [htake, ← hlen]
        exact List.take_left
    · have hr := Lib.run_append_grow_string (P := Try.prog) w 30 9 ty 5 i (.int .u8 0) Try.underlying30 Try.underlying9 hi hz0 ⟨g, 0, none⟩ l.length cap (Bs l) (by rw [hz1, Bs_length, Nat.mul_one]) (World.ownsRow.cells hb rfl) S (by omega) (by omega) (by
          rw [hz2, hsz]
          have := growslice_fits (bytes := 1) (need := l.length + s.length) (old := cap) (by omega) (by omega)
          exact this)
      have h2 := hgr cap (by omega)
      refine ⟨_, _, hr, ?_, hfr _, .inr rfl⟩
      rw [hcs, hsz]
      exact h2
theorem wpList_append_str {ops : Array Oper} {rest : List Oper} {o : Oper} {a : Act} {w : World} {Q : Exit → Act → World → Prop} (hgd : o.guard = none) (s x : Operand)
    (ho : o.op = .call { callee := .builtin .append, args := #[s, x], argTypes := #[30, 9] })
    (v : Value) (l : List UInt8) (hs : a.eval s = v) (hown : Buf w v l) (m : List UInt8) (hx : a.eval x = str m) (hroom : l.length + m.length ≤ 140737488355328)
    (h : ∀ v' w', Buf w' v' (l ++ m) → Fr (fun k => v.ownBlock = some k) w w' → (v'.ownBlock = v.ownBlock ∨ v'.ownBlock = some w.heap.size) → wpList Try.prog ops Q rest (a.put o.dst v') w') :
    wpList Try.prog ops Q (o :: rest) a w :=
  wpList_plain hgd fun K hK => by
    obtain ⟨v', w', hr, h2, h3, h4⟩ := run_append_str w o.type v l hown m hroom
    unfold Oper.wp execOp
    simp only [ho, resolve, invoke, builtin, Sem.run_bind, Sem.run_pure, Result.andThen_ok, List.map_toArray, List.map_cons, List.map_nil, hs, hx, hr]
    exact hK _ _ (h v' w' h2 h3 h4)

/-- A text's bytes, its length ahead. -/
def textOf (s : List UInt8) : List UInt8 := be8 s.length ++ s
set_option maxRecDepth 100000 in
set_option maxHeartbeats 1000000 in
theorem putText_nil (s : List UInt8) (hs : s.length ≤ 70368744177664) (w : World) : Calls Try.prog 96 #[.slice none 0 0, str s] w (BufPost w (textOf s)) := by
  have HS := Lib.hid hs
  unfold str
  have hsz := size_str s
  obtain ⟨S, hS⟩ : ∃ S : ByteArray, S = ⟨s.toArray⟩ := ⟨_, rfl⟩
  rw [← hS] at hsz ⊢
  have hsv : Hid (Value.string S = str s) := Lib.hid (by rw [hS]; rfl)
  clear hS hs
  go_enter Try.func96, Try.ntmps96
  go_wp2_with (first
    | (go_at_call 85; refine (putInt_any (.slice none 0 0) [] s.length w (IsBytes.nil w) (by decide)).mono ?_; rintro e w2 ⟨v2, rfl, b2, n2, f2⟩; have HB2 := Lib.hid b2; have HN2 := Lib.hid n2; have HF2 := Lib.hid f2; clear b2 n2 f2)
    | (refine wpList_append_str rfl (.tmp 8) (.tmp 9) rfl _ _ rfl HB2.out s hsv.out (by have := HS.out; simp [be8_length]; omega) ?_; intro v5 w5 own5 fr5 fresh5))
  go_ret
  refine ⟨v5, rfl, by simpa [textOf] using own5, fun k hk => ?_, HF2.out.trans fr5 (fun k hk => .inr (HN2.out k hk))⟩
  rcases fresh5 with h | h
  · exact HN2.out k (h.symm.trans hk)
  · rw [hk] at h; cases h; exact HF2.out.size
def boolOf (x : Bool) : List UInt8 := [if x then 1 else 0]
set_option maxRecDepth 100000 in
set_option maxHeartbeats 1000000 in
theorem putBool_nil (x : Bool) (w : World) : Calls Try.prog 97 #[.slice none 0 0, .bool x] w (BufPost w (boolOf x)) := by
  have h1 : ∀ c : UInt8, IsLists ((w.alloc (.cells #[.int .u8 c.toNat] 5 (0, 0))).alloc (.cells #[.slice none 0 0, .slice (some ⟨w.heap.size, 0, none⟩) 1 1] 30 (0, 0))) (.slice (some ⟨w.heap.size + 1, 0, none⟩) 2 2) [[], [c]] := fun c =>
    IsLists.two (by have := heap_alloc_at (w.alloc (.cells #[.int .u8 c.toNat] 5 (0, 0))) (.cells #[.slice none 0 0, .slice (some ⟨w.heap.size, 0, none⟩) 1 1] 30 (0, 0)); rwa [World.size_alloc] at this) (by decide) (by decide) (IsBytes.nil _) (by
      have h : IsBytes (w.alloc (.cells (Bs [c]).toArray 5 (0, 0))) (.slice (some ⟨w.heap.size, 0, none⟩) 1 1) [c] := IsBytes.of_cells (l := [c]) (heap_alloc_at w _) (by simp)
      exact h.alloc _)
  have hf : ∀ o o', Fr (fun _ => False) w ((w.alloc o).alloc o') := fun o o' => ((Fr.refl _ w).alloc _).alloc _
  have H1 := Lib.hid h1; have HF := Lib.hid hf
  clear h1 hf
  cases x with
  | true =>
    go_enter Try.func97, Try.ntmps97
    go_wp2_with (go_at_call 67; refine (concat_any _ [[], [1]] _ (H1.out 1) (by decide)).mono ?_; rintro e w3 ⟨v3, rfl, b3, n3, f3⟩)
    go_ret
    exact ⟨v3, rfl, b3, fun k hk => Nat.le_trans (HF.out _ _).size (n3 k hk), (HF.out _ _).trans f3 (fun _ h => h.elim)⟩
  | false =>
    go_enter Try.func97, Try.ntmps97
    go_wp2_with (go_at_call 67; refine (concat_any _ [[], [0]] _ (H1.out 0) (by decide)).mono ?_; rintro e w3 ⟨v3, rfl, b3, n3, f3⟩)
    go_ret
    exact ⟨v3, rfl, b3, fun k hk => Nat.le_trans (HF.out _ _).size (n3 k hk), (HF.out _ _).trans f3 (fun _ h => h.elim)⟩

def PutPost (ob : Nat) (outv : Value) (l : List UInt8) (w : World) (e : Ending) (w' : World) : Prop :=
  e = .returned (.tuple #[]) ∧ ∃ outv', w'.heap[ob]? = some (.cells #[outv'] 30 (0, 0)) ∧ Buf w' outv' l ∧ (outv'.ownBlock = outv.ownBlock ∨ ∀ k, outv'.ownBlock = some k → w.heap.size ≤ k) ∧ Fr (fun k => k = ob ∨ outv.ownBlock = some k) w w'
set_option maxRecDepth 100000 in
set_option maxHeartbeats 1000000 in
/-- encode's put. -/
theorem put95 (ob : Nat) (outv bv : Value) (acc b : List UInt8) (w : World) (ho : w.heap[ob]? = some (.cells #[outv] 30 (0, 0))) (hb : Buf w outv acc) (hne : outv.ownBlock ≠ some ob) (hbv : IsBytes w bv b) (hroom : acc.length + b.length ≤ 140737488355328) :
    Calls Try.prog 95 #[bv, .pointer (some ⟨ob, 0, none⟩)] w (PutPost ob outv (acc ++ b) w) := by
  obtain ⟨oo, oc, rfl⟩ := hb.slice
  have HB := Lib.hid hb; have HBV := Lib.hid hbv; have HNE := Lib.hid hne; have HR := Lib.hid hroom
  clear hb hbv hne hroom
  go_enter Try.func95, Try.ntmps95
  go_wp2_with (refine wpList_append_bytes rfl (.tmp 3) (.tmp 4) rfl _ acc rfl HB.out _ b rfl HBV.out (Room.of_small' HR.out) ?_; intro v5 w5 own5 fr5 fresh5; have HOW5 := Lib.hid own5; have HFR5 := Lib.hid fr5; have HFS5 := Lib.hid fresh5; obtain ⟨o5, c5, rfl⟩ := own5.slice; have ho5 := fr5.at ho (fun h => HNE.out h); have HLT := Lib.hid (lt_of_block ho); clear own5 fr5 fresh5)
  go_end0
  rw [List.length_append] at HOW5 HFS5
  have hnb : (Value.slice o5 (acc.length + b.length) c5).ownBlock ≠ some ob := fun h => by
    rcases HFS5.out with h1 | h1
    · exact HNE.out (h1.symm.trans h)
    · rw [h1] at h; cases h; have := HLT.out; omega
  refine ⟨rfl, _, by rw [heap_setCell_self, ho5]; rfl, HOW5.out.fr (F := fun k => k = ob) ((Fr.refl _ w5).setCell _ (.inl rfl)) (fun k hk e => hnb (by rw [hk, e])), ?_, (HFR5.out.mono (fun _ _ h => .inr h)).setCell _ (.inl (.inl rfl))⟩
  rcases HFS5.out with h | h
  · exact .inl h
  · exact .inr (fun k hk => by rw [h] at hk; cases hk; exact Nat.le_refl _)
end Go.Proofs.Ytnpeeephkkmomaa
namespace Go.Proofs.Ytnpeeephkkmomaa
open Go.RowKit Go.Proofs.YtnpeeephkkmomaaW.PrintLast
set_option linter.unusedVariables false
set_option linter.unusedSimpArgs false

theorem flat3 : ∀ (l : List Chg) (k j : Nat) (h : k < l.length), j < 3 → (l.flatMap chCells)[k * 3 + j]? = (chCells l[k])[j]?
  | c :: l, 0, j, _, hj => by
    rw [List.flatMap_cons, Nat.zero_mul, Nat.zero_add, List.getElem?_append_left (by simpa [chCells] using hj)]; rfl
  | c :: l, k + 1, j, h, hj => by
    rw [List.flatMap_cons, List.getElem?_append_right (by simp [chCells]; omega)]
    have := flat3 l k j (by simpa using h) hj
    rw [List.getElem_cons_succ, ← this]
    congr 1
    simp [chCells]; omega
theorem flat_len (l : List Chg) : (l.flatMap chCells).length = l.length * 3 := by
  induction l with
  | nil => rfl
  | cons c l ih => rw [List.flatMap_cons, List.length_append, ih]; simp [chCells]; omega
/-- A slice of changes. -/
structure IsChg (w : World) (v : Value) (l : List Chg) : Prop where
  is : ∃ ao cap, v = .slice ao l.length cap ∧ l.length ≤ cap ∧ cap ≤ 9223372036854775807 ∧ (ao = none → l = []) ∧
    ∀ a, ao = some a → ∀ j u, (l.flatMap chCells)[j]? = some u → w.cell? (a.add j) = some u
theorem IsChg.fr {w w' : World} {v : Value} {l : List Chg} {F : Nat → Prop} (h : IsChg w v l) (hf : Fr F w w') (hF : ∀ k, v.ownBlock = some k → ¬ F k) : IsChg w' v l := by
  obtain ⟨ao, cap, rfl, h1, h2, h3, h4⟩ := h.is
  refine ⟨ao, cap, rfl, h1, h2, h3, fun a ha j u hu => hf.cell (h4 a ha j u hu) ?_⟩
  subst ha
  have : (a.add j).block = a.block := block_add a j
  rw [this]
  exact hF a.block rfl
theorem IsChg.at {w : World} {ao : Option Addr} {n cap : Nat} {l : List Chg} (h : IsChg w (.slice ao n cap) l) (k : Nat) (hk : k < l.length) :
    ∃ ab off, ao = some ⟨ab, off, none⟩ ∧ cellIn w.heap[ab]? (off + k * 3) = some (str l[k].key) ∧ cellIn w.heap[ab]? (off + k * 3 + 1) = some (str l[k].val) ∧ cellIn w.heap[ab]? (off + k * 3 + 2) = some (.bool l[k].gone) := by
  obtain ⟨ao', cap', hv, h1, h2, h3, h4⟩ := h.is
  simp only [Value.slice.injEq] at hv
  obtain ⟨rfl, _, rfl⟩ := hv
  cases ao with
  | none => rw [h3 rfl] at hk; simp at hk
  | some a =>
    have q0 := h4 a rfl (k * 3 + 0) _ (flat3 l k 0 hk (by decide))
    have q1 := h4 a rfl (k * 3 + 1) _ (flat3 l k 1 hk (by decide))
    have q2 := h4 a rfl (k * 3 + 2) _ (flat3 l k 2 hk (by decide))
    have z0 := h4 a rfl 0 _ (flat3 l 0 0 (by omega) (by decide))
    have hs := cell_spot z0 rfl
    obtain ⟨ab, off, sp⟩ := a
    simp only at hs
    subst hs
    rw [Addr.add_mk, cell?_mk] at q0 q1 q2
    exact ⟨ab, off, rfl, q0, q1, q2⟩

def encN (l : List Chg) : Nat := 8 + (l.map fun c => 17 + c.key.length + c.val.length).sum
theorem encN_snoc (l : List Chg) (c : Chg) : encN (l ++ [c]) = encN l + (17 + c.key.length + c.val.length) := by simp [encN]; omega
theorem encN_take (l : List Chg) (k : Nat) : encN (l.take k) ≤ encN l := by
  have : l.map (fun c => 17 + c.key.length + c.val.length) = (l.take k).map (fun c => 17 + c.key.length + c.val.length) ++ (l.drop k).map (fun c => 17 + c.key.length + c.val.length) := by rw [← List.map_append, List.take_append_drop]
  unfold encN; rw [this, List.sum_append]; omega
def encOne (c : Chg) : List UInt8 := textOf c.key ++ boolOf c.gone ++ (if c.gone then [] else textOf c.val)
def encAll (l : List Chg) : List UInt8 := l.flatMap encOne
theorem encAll_snoc (l : List Chg) (c : Chg) : encAll (l ++ [c]) = encAll l ++ encOne c := by simp [encAll]
theorem encOne_length (c : Chg) : (encOne c).length ≤ 17 + c.key.length + c.val.length := by
  unfold encOne textOf boolOf
  cases c.gone <;> simp [be8_length] <;> omega
theorem encAll_length (l : List Chg) : (encAll l).length + 8 ≤ encN l := by
  induction l with
  | nil => simp [encAll, encN]
  | cons c l ih =>
    have := encOne_length c
    simp only [encAll, encN, List.flatMap_cons, List.length_append, List.map_cons, List.sum_cons] at *
    omega
/-- A batch's bytes. -/
def encBytes (l : List Chg) : List UInt8 := be8 l.length ++ encAll l

/-- What encode's put has put. -/
def EncAt (w : World) (ob : Nat) (acc : List UInt8) (wr : World) : Prop :=
  ∃ outv, wr.heap[ob]? = some (.cells #[outv] 30 (0, 0)) ∧ Buf wr outv acc ∧ outv.ownBlock ≠ some ob ∧ (∀ k, outv.ownBlock = some k → w.heap.size ≤ k) ∧ Fr (fun _ => False) w wr ∧ w.heap.size ≤ ob
theorem EncAt.fr {w wr w' : World} {ob : Nat} {acc : List UInt8} (h : EncAt w ob acc wr) (hf : Fr (fun _ => False) wr w') : EncAt w ob acc w' := by
  obtain ⟨outv, h1, h2, h3, h4, h5, h6⟩ := h
  exact ⟨outv, hf.at h1 (fun h => h), h2.fr hf (fun _ _ h => h), h3, h4, h5.trans hf (fun _ h => h.elim), h6⟩
theorem EncAt.put {w wr : World} {ob : Nat} {acc : List UInt8} (h : EncAt w ob acc wr) (bv : Value) (b : List UInt8) (hb : IsBytes wr bv b) (hroom : acc.length + b.length ≤ 140737488355328) :
    Calls Try.prog 95 #[bv, .pointer (some ⟨ob, 0, none⟩)] wr fun e w' => e = .returned (.tuple #[]) ∧ EncAt w ob (acc ++ b) w' := by
  obtain ⟨outv, h1, h2, h3, h4, h5, h6⟩ := h
  refine (put95 ob outv bv acc b wr h1 h2 h3 hb hroom).mono ?_
  rintro e w' ⟨rfl, outv', k1, k2, k3, k4⟩
  have hob := lt_of_block h1
  refine ⟨rfl, outv', k1, k2, fun h => ?_, fun k hk => ?_, h5.trans k4 (fun j hj => .inr ?_), h6⟩
  · rcases k3 with e | e
    · exact h3 (e.symm.trans h)
    · have := e ob h; omega
  · rcases k3 with e | e
    · exact h4 k (e.symm.trans hk)
    · exact Nat.le_trans h5.size (e k hk)
  · rcases hj with h | h
    · omega
    · exact h4 j h

/-- .. a block of others' beside it. -/
def EncRec (w : World) (ob : Nat) (acc : List UInt8) (cb : Nat) (x : Obj) (wr : World) : Prop :=
  ∃ outv, wr.heap[ob]? = some (.cells #[outv] 30 (0, 0)) ∧ Buf wr outv acc ∧ outv.ownBlock ≠ some ob ∧ (∀ k, outv.ownBlock = some k → w.heap.size ≤ k) ∧ Fr (fun _ => False) w wr ∧ w.heap.size ≤ ob ∧ wr.heap[cb]? = some x ∧ outv.ownBlock ≠ some cb ∧ cb ≠ ob
theorem EncAt.newRec {w wr : World} {ob : Nat} {acc : List UInt8} (h : EncAt w ob acc wr) (x : Obj) : EncRec w ob acc wr.heap.size x (wr.alloc x) := by
  have h' := h.fr ((Fr.refl (fun _ => False) wr).alloc x)
  obtain ⟨outv, h1, h2, h3, h4, h5, h6⟩ := h
  have hf : Fr (fun _ => False) wr (wr.alloc x) := (Fr.refl _ wr).alloc x
  exact ⟨outv, hf.at h1 (fun h => h), h2.fr hf (fun _ _ h => h), h3, h4, h5.trans hf (fun _ h => h.elim), h6, heap_alloc_at _ _, fun e => by have := (World.ownsRow.lt h2 _ e).2; omega, fun e => by have := lt_of_block h1; omega⟩
theorem EncRec.fr {w wr w' : World} {ob cb : Nat} {acc : List UInt8} {x : Obj} (h : EncRec w ob acc cb x wr) (hf : Fr (fun _ => False) wr w') : EncRec w ob acc cb x w' := by
  obtain ⟨outv, h1, h2, h3, h4, h5, h6, h7, h8, h9⟩ := h
  exact ⟨outv, hf.at h1 (fun h => h), h2.fr hf (fun _ _ h => h), h3, h4, h5.trans hf (fun _ h => h.elim), h6, hf.at h7 (fun h => h), h8, h9⟩
theorem EncRec.forget {w wr : World} {ob cb : Nat} {acc : List UInt8} {x : Obj} (h : EncRec w ob acc cb x wr) : EncAt w ob acc wr := by
  obtain ⟨outv, h1, h2, h3, h4, h5, h6, _⟩ := h
  exact ⟨outv, h1, h2, h3, h4, h5, h6⟩
theorem EncRec.rec {w wr : World} {ob cb : Nat} {acc : List UInt8} {x : Obj} (h : EncRec w ob acc cb x wr) : wr.heap[cb]? = some x := by
  obtain ⟨outv, _, _, _, _, _, _, h7, _⟩ := h; exact h7
theorem EncRec.put {w wr : World} {ob cb : Nat} {acc : List UInt8} {x : Obj} (h : EncRec w ob acc cb x wr) (bv : Value) (b : List UInt8) (hb : IsBytes wr bv b) (hroom : acc.length + b.length ≤ 140737488355328) :
    Calls Try.prog 95 #[bv, .pointer (some ⟨ob, 0, none⟩)] wr fun e w' => e = .returned (.tuple #[]) ∧ EncRec w ob (acc ++ b) cb x w' := by
  obtain ⟨outv, h1, h2, h3, h4, h5, h6, h7, h8, h9⟩ := h
  refine (put95 ob outv bv acc b wr h1 h2 h3 hb hroom).mono ?_
  rintro e w' ⟨rfl, outv', k1, k2, k3, k4⟩
  have hob := lt_of_block h1
  have hcb := lt_of_block h7
  refine ⟨rfl, outv', k1, k2, fun h => ?_, fun k hk => ?_, h5.trans k4 (fun j hj => .inr ?_), h6, k4.at h7 (fun hj => ?_), fun h => ?_, h9⟩
  · rcases k3 with e | e
    · exact h3 (e.symm.trans h)
    · have := e ob h; omega
  · rcases k3 with e | e
    · exact h4 k (e.symm.trans hk)
    · exact Nat.le_trans h5.size (e k hk)
  · rcases hj with h | h
    · omega
    · exact h4 j h
  · rcases hj with h | h
    · exact h9 h
    · exact h8 h
  · rcases k3 with e | e
    · exact h8 (e.symm.trans h)
    · have := e cb h; omega

set_option maxRecDepth 100000 in
set_option maxHeartbeats 4000000 in
theorem encode74 (v : Value) (l : List Chg) (w : World) (hv : IsChg w v l) (hn : encN l ≤ 1099511627776) : Calls Try.prog 74 #[v] w (BufPost w (encBytes l)) := by
  obtain ⟨ao, cap, rfl, k1, k2, _, _⟩ := hv.is
  have HV := Lib.hid hv; have HN := Lib.hid hn; have HK := Lib.hid (And.intro k1 k2)
  have hlb : l.length ≤ 1099511627776 := by
    have h1 : ∀ l : List Chg, l.length ≤ (l.map fun c => 17 + c.key.length + c.val.length).sum := by
      intro l; induction l with
      | nil => simp
      | cons c l ih => simp; omega
    have := h1 l; unfold encN at hn; omega
  have HLB := Lib.hid hlb
  clear hv hn k1 k2 hlb
  go_enter Try.func74, Try.ntmps74
  go_wp2
  go_loopw [3, 12] (fun n i wr => ∃ k : Nat, k ≤ l.length ∧ i = .int .i64 k ∧ n = .int .i64 (encN (l.take k) : Nat) ∧ Fr (fun _ => False) w wr) (fun _ i _ => l.length - (intOf i).toNat)
  case atStart => exact ⟨0, Nat.zero_le _, rfl, rfl, Fr.refl _ _⟩
  case round =>
    obtain ⟨k, hk, rfl, rfl, hf⟩ := hrel
    have HF := Lib.hid hf; clear hf
    by_cases hlt : k < l.length
    · obtain ⟨ab, off, rfl, c0, c1, c2⟩ := (HV.out.fr HF.out (fun _ _ h => h)).at k hlt
      have hst : encN (l.take (k + 1)) = encN (l.take k) + (17 + l[k].key.length + l[k].val.length) := by rw [List.take_succ_eq_append_getElem hlt, encN_snoc]
      have hle := encN_take l (k + 1)
      rw [hst] at hle
      have hN := HN.out
      have HST := Lib.hid hst
      clear hst
      generalize encN (l.take k) = s at *
      generalize l[k] = c at *
      have s1 := size_str c.key; have s2 := size_str c.val
      unfold str at c0 c1
      obtain ⟨S1, hS1⟩ : ∃ S : ByteArray, S = ⟨c.key.toArray⟩ := ⟨_, rfl⟩
      obtain ⟨S2, hS2⟩ : ∃ S : ByteArray, S = ⟨c.val.toArray⟩ := ⟨_, rfl⟩
      rw [← hS1] at s1 c0; rw [← hS2] at s2 c1
      obtain ⟨x, hx⟩ : ∃ x, x = S1.size := ⟨_, rfl⟩
      obtain ⟨y, hy⟩ : ∃ y, y = S2.size := ⟨_, rfl⟩
      have A1 : Value.int .i64 (wrap64 (17 + (x : Int))) = Value.int .i64 (17 + (x : Int)) := by rw [w64 _ (by omega)]
      have A2 : Value.int .i64 (wrap64 (17 + (x : Int) + (y : Int))) = Value.int .i64 (17 + (x : Int) + (y : Int)) := by rw [w64 _ (by omega)]
      have A3 : Value.int .i64 (wrap64 ((s : Int) + (17 + (x : Int) + (y : Int)))) = Value.int .i64 ((s : Int) + (17 + (x : Int) + (y : Int))) := by rw [w64 _ (by omega)]
      have hw1 : IntKind.i64.wrap ((k : Int) + 1) = (k : Int) + 1 := IntWalk.i64_in _ (by have := HLB.out; omega)
      have t1 : decide ((k : Int) < (l.length : Int)) = true := by simp; omega
      have t1n : decide (k < l.length) = true := by simp; omega
      have hxs : S1.size = x := hx.symm
      have hys : S2.size = y := hy.symm
      have HXY : Hid (x = c.key.length ∧ y = c.val.length) := Lib.hid ⟨by omega, by omega⟩
      clear hS1 hS2 s1 s2 hx hy hle hN
      go_wp2
      exact ⟨⟨k + 1, by omega, by go_num, by rw [A3, HST.out]; have := HXY.out; congr 1; omega, HF.out.alloc _⟩, by simp [intOf]; omega⟩
    · obtain rfl : k = l.length := by omega
      rw [List.take_length]
      have hN := HN.out
      obtain ⟨C, hC⟩ : ∃ C, C = encN l := ⟨_, rfl⟩
      rw [← hC] at hN ⊢
      have HC := Lib.hid hC; have HCB := Lib.hid hN
      have t1 : decide (0 ≤ (C : Int)) = true := by simp
      have mk := mk30 wr 0 (C : Int) (by omega) (by omega) (by omega)
      simp only [Int.toNat_natCast, Int.toNat_zero] at mk
      have hbuf0 : Buf (wr.alloc (.cells (Bs (zB C)).toArray 5 (0, 0))) (.slice (some ⟨wr.heap.size, 0, none⟩) 0 C) [] :=
        ⟨by simp [Bs], .inr ⟨wr.heap.size, C, _, rfl, Nat.zero_le _, heap_alloc_at wr _, Nat.zero_le _, by unfold maxLen; omega, by simp [zB, Bs], by simp [Bs]⟩⟩
      obtain ⟨Wa, hWa⟩ : ∃ Wa, Wa = wr.alloc (.cells (Bs (zB C)).toArray 5 (0, 0)) := ⟨_, rfl⟩
      rw [← hWa] at mk hbuf0
      have HB0 := Lib.hid hbuf0
      have HFa : Hid (Fr (fun _ => False) w Wa) := Lib.hid (by rw [hWa]; exact HF.out.alloc _)
      have HWS : Hid (Wa.heap.size = wr.heap.size + 1) := Lib.hid (by rw [hWa]; simp)
      clear hbuf0 hWa hC hN
      have HE0 : Hid (EncAt w Wa.heap.size [] (Wa.alloc (.cells #[.slice (some ⟨wr.heap.size, 0, none⟩) 0 C] 30 (0, 0)))) := Lib.hid ⟨_, heap_alloc_at _ _, HB0.out.fr (F := fun _ => False) ((Fr.refl _ Wa).alloc _) (fun _ _ h => h), by
          intro h; simp only [Value.ownBlock, Option.some.injEq] at h; have := HWS.out; omega, by
          intro k h; simp only [Value.ownBlock, Option.some.injEq] at h; subst h; exact HF.out.size, HFa.out.alloc _, HFa.out.size⟩

      go_wp2_with (first
        | (go_at_call 85; refine (putInt_any (.slice none 0 0) [] l.length _ (IsBytes.nil _) (by decide)).mono ?_; rintro e w2 ⟨v2, rfl, b2, n2, f2⟩; have HE := Lib.hid (HE0.out.fr f2); have HBV : Hid (IsBytes w2 v2 (be8 l.length)) := Lib.hid (by simpa using b2.bytes); clear b2 n2 f2)
        | (go_at_call 95; refine (HE.out.put _ _ HBV.out (by simp [be8_length])).mono ?_; rintro e w3 ⟨rfl, hex⟩; have HE3 : Hid (EncAt w Wa.heap.size (be8 l.length ++ encAll (l.take 0)) w3) := Lib.hid (by simpa [encAll] using hex); clear hex))
      obtain ⟨ob, hob⟩ : ∃ ob, ob = Wa.heap.size := ⟨_, rfl⟩
      rw [← hob] at HE3 ⊢
      clear mk HB0 HFa HWS HE0 HBV HE hob t1 HF
      go_loopw [37] (fun i wq => ∃ k : Nat, k ≤ l.length ∧ i = .int .i64 k ∧ EncAt w ob (be8 l.length ++ encAll (l.take k)) wq) (fun i _ => l.length - (intOf i).toNat)
      case atStart => exact ⟨0, Nat.zero_le _, rfl, HE3.out⟩
      case round =>
        clear HE3
        obtain ⟨k, hk, rfl, he⟩ := hrel
        have HE := Lib.hid he
        have hfw : Fr (fun _ => False) w wr := by obtain ⟨_, _, _, _, _, h, _⟩ := he; exact h
        by_cases hlt : k < l.length
        · obtain ⟨ab, off, rfl, c0, c1, c2⟩ := (HV.out.fr hfw (fun _ _ h => h)).at k hlt
          have hA : (be8 l.length ++ encAll (l.take k)).length ≤ 1099511627776 := by
            have h1 := encAll_length (l.take k); have h2 := encN_take l k; have h3 := HN.out
            rw [List.length_append, be8_length]; omega
          have hcb : l[k].key.length ≤ 1099511627776 ∧ l[k].val.length ≤ 1099511627776 := by
            have h1 : encN (l.take (k + 1)) = encN (l.take k) + (17 + l[k].key.length + l[k].val.length) := by rw [List.take_succ_eq_append_getElem hlt, encN_snoc]
            have h2 := encN_take l (k + 1); have h3 := HN.out
            omega
          have hst : be8 l.length ++ encAll (l.take (k + 1)) = (be8 l.length ++ encAll (l.take k)) ++ encOne l[k] := by rw [List.take_succ_eq_append_getElem hlt, encAll_snoc, List.append_assoc]
          have HST := Lib.hid hst
          generalize be8 l.length ++ encAll (l.take k) = A at *
          generalize l[k] = c at *
          have HA := Lib.hid hA; have HCB := Lib.hid hcb
          have P1 : Hid (∀ W, Calls Try.prog 96 #[.slice none 0 0, str c.key] W (BufPost W (textOf c.key))) := Lib.hid (fun W => putText_nil c.key (by omega) W)
          have P2 : Hid (∀ W, Calls Try.prog 96 #[.slice none 0 0, str c.val] W (BufPost W (textOf c.val))) := Lib.hid (fun W => putText_nil c.val (by omega) W)
          unfold str at c0 c1 P1 P2
          generalize (⟨c.key.toArray⟩ : ByteArray) = S1 at *
          generalize (⟨c.val.toArray⟩ : ByteArray) = S2 at *
          have hw1 : IntKind.i64.wrap ((k : Int) + 1) = (k : Int) + 1 := IntWalk.i64_in _ (by have := HLB.out; omega)
          have t1 : decide ((k : Int) < (l.length : Int)) = true := by simp; omega
          have t1n : decide (k < l.length) = true := by simp; omega
          have M1 : Hid True := Lib.hid trivial
          clear hA hcb hst hfw he
          cases hg : c.gone with
          | true =>
            rw [hg] at c2
            go_wp2_with (first
              | (go_at_call 96; refine (P1.out _).mono ?_; rintro e w2 ⟨v2, rfl, b2, n2, f2⟩; have HE := Lib.hid ((HE.out.newRec _).fr f2); have hcp := HE.out.rec; have HBV := Lib.hid b2.bytes; clear b2 n2 f2)
              | (go_at_call 97; refine (putBool_nil true _).mono ?_; rintro e w4 ⟨v4, rfl, b4, n4, f4⟩; have HE := Lib.hid (HE.out.fr f4); have hcp := HE.out.rec; have HBV := Lib.hid b4.bytes; clear b4 n4 f4)
              | (go_at_call 95; refine (HE.out.put _ _ HBV.out (by simp [textOf, boolOf, be8_length]; have h1 := HA.out; have h2 := HCB.out; omega)).mono ?_; rintro e w3 ⟨rfl, hex⟩; have HE := Lib.hid hex; have hcp := HE.out.rec; clear hex))
            exact ⟨⟨k + 1, by omega, by go_num, by rw [HST.out]; have h := HE.out.forget; unfold encOne; rw [hg]; simpa using h⟩, by simp [intOf]; omega⟩
          | false =>
            rw [hg] at c2
            go_wp2_with (first
              | (go_at_call 96; clear M1; refine (P1.out _).mono ?_; rintro e w2 ⟨v2, rfl, b2, n2, f2⟩; have HE := Lib.hid ((HE.out.newRec _).fr f2); have hcp := HE.out.rec; have HBV := Lib.hid b2.bytes; clear b2 n2 f2)
              | (go_at_call 96; refine (P2.out _).mono ?_; rintro e w2 ⟨v2, rfl, b2, n2, f2⟩; have HE := Lib.hid (HE.out.fr f2); have hcp := HE.out.rec; have HBV := Lib.hid b2.bytes; clear b2 n2 f2)
              | (go_at_call 97; refine (putBool_nil false _).mono ?_; rintro e w4 ⟨v4, rfl, b4, n4, f4⟩; have HE := Lib.hid (HE.out.fr f4); have hcp := HE.out.rec; have HBV := Lib.hid b4.bytes; clear b4 n4 f4)
              | (go_at_call 95; refine (HE.out.put _ _ HBV.out (by simp [textOf, boolOf, be8_length]; have h1 := HA.out; have h2 := HCB.out; omega)).mono ?_; rintro e w3 ⟨rfl, hex⟩; have HE := Lib.hid hex; have hcp := HE.out.rec; clear hex))
            exact ⟨⟨k + 1, by omega, by go_num, by rw [HST.out]; have h := HE.out.forget; unfold encOne; rw [hg]; simpa using h⟩, by simp [intOf]; omega⟩
        · obtain rfl : k = l.length := by omega
          rw [List.take_length, ← show encBytes l = be8 l.length ++ encAll l from rfl] at HE
          obtain ⟨outv, h1, h2, h3, h4, h5, h6⟩ := HE.out
          obtain ⟨oo, oc, rfl⟩ := h2.slice
          have HB := Lib.hid h2; have H4 := Lib.hid h4; have H5 := Lib.hid h5
          clear h2 h3 h4 h5 h6 he hfw
          go_wp2
          go_ret
          exact ⟨_, rfl, HB.out, H4.out, H5.out⟩
end Go.Proofs.Ytnpeeephkkmomaa
namespace Go.Proofs.Ytnpeeephkkmomaa
open Go.RowKit Go.Proofs.YtnpeeephkkmomaaW.PrintLast
set_option linter.unusedVariables false
set_option linter.unusedSimpArgs false

theorem cb_cons (a b : UInt8) (x y : List UInt8) : Lib.compareBytes (a :: x) (b :: y) = if a.toNat < b.toNat then -1 else if b.toNat < a.toNat then 1 else Lib.compareBytes x y := by
  simp only [Lib.compareBytes, UInt8.lt_iff_toNat_lt]
theorem cb_trans : ∀ a b c : List UInt8, Lib.compareBytes a b < 0 → Lib.compareBytes b c < 0 → Lib.compareBytes a c < 0
  | [], [], c, h, _ => by simp [Lib.compareBytes] at h
  | [], b :: y, [], _, h => by simp [Lib.compareBytes] at h
  | [], _ :: _, _ :: _, _, _ => by simp [Lib.compareBytes]
  | _ :: _, [], _, h, _ => by simp [Lib.compareBytes] at h
  | _ :: _, _ :: _, [], _, h => by simp [Lib.compareBytes] at h
  | a :: x, b :: y, c :: z, h1, h2 => by
    have ih := cb_trans x y z
    rw [cb_cons] at h1 h2 ⊢
    split at h1 <;> split at h2 <;> split <;> first | decide | omega | skip
    all_goals (split at h1 <;> split at h2 <;> first | omega | skip)
    all_goals (split <;> first | omega | exact ih h1 h2 | skip)
theorem cb_eq : ∀ a b : List UInt8, Lib.compareBytes a b = 0 → a = b
  | [], [], _ => rfl
  | [], _ :: _, h => by simp [Lib.compareBytes] at h
  | _ :: _, [], h => by simp [Lib.compareBytes] at h
  | a :: x, b :: y, h => by
    rw [cb_cons] at h
    split at h
    · simp at h
    · split at h
      · simp at h
      · have h1 : a = b := UInt8.toNat_inj.1 (by omega)
        rw [h1, cb_eq x y h]
theorem cb_refl : ∀ a : List UInt8, Lib.compareBytes a a = 0
  | [] => rfl
  | a :: x => by rw [cb_cons, if_neg (by omega), if_neg (by omega)]; exact cb_refl x
theorem cb_asymm : ∀ a b : List UInt8, Lib.compareBytes a b < 0 → ¬ Lib.compareBytes b a < 0 := fun a b h1 h2 => by
  have := cb_trans a b a h1 h2; rw [cb_refl] at this; omega
theorem cb_total : ∀ a b : List UInt8, Lib.compareBytes a b < 0 ∨ Lib.compareBytes a b = 0 ∨ Lib.compareBytes b a < 0
  | [], [] => .inr (.inl rfl)
  | [], _ :: _ => .inl (by simp [Lib.compareBytes])
  | _ :: _, [] => .inr (.inr (by simp [Lib.compareBytes]))
  | a :: x, b :: y => by
    rw [cb_cons, cb_cons]
    have ih := cb_total x y
    split
    · exact .inl (by decide)
    · split
      · exact .inr (.inr (by decide))
      · exact ih
theorem cb_range : ∀ a b : List UInt8, -1 ≤ Lib.compareBytes a b ∧ Lib.compareBytes a b ≤ 1
  | [], [] => by simp [Lib.compareBytes]
  | [], _ :: _ => by simp [Lib.compareBytes]
  | _ :: _, [] => by simp [Lib.compareBytes]
  | a :: x, b :: y => by
    rw [cb_cons]
    have ih := cb_range x y
    split
    · decide
    · split
      · decide
      · exact ih

/-- Rising by keys. -/
def Rising (l : List Chg) : Prop := ∀ i j (hi : i < l.length) (hj : j < l.length), i < j → Lib.compareBytes l[i].key l[j].key < 0
/-- Where a key stands, or would stand. -/
structure FindAt (l : List Chg) (k : List UInt8) (i : Nat) (found : Bool) : Prop where
  le : i ≤ l.length
  lo : ∀ q (h : q < l.length), q < i → Lib.compareBytes l[q].key k < 0
  hi : ∀ q (h : q < l.length), i ≤ q → 0 ≤ Lib.compareBytes l[q].key k
  is : found = true ↔ ∃ h : i < l.length, l[i].key = k

def FindPost (l : List Chg) (k : List UInt8) (w : World) (e : Ending) (w' : World) : Prop := ∃ (i : Nat) (found : Bool), e = .returned (.tuple #[.int .i64 i, .bool found]) ∧ FindAt l k i found ∧ Fr (fun _ => False) w w'
set_option maxRecDepth 100000 in
set_option maxHeartbeats 4000000 in
theorem bsearch102 (v : Value) (l : List Chg) (k : List UInt8) (w : World) (hv : IsChg w v l) (hr : Rising l) (hlen : l.length ≤ 1099511627776) :
    Calls Try.prog 102 #[v, str k, .func (.func 103) #[] #[]] w (FindPost l k w) := by
  obtain ⟨ao, cap, rfl, k1, k2, _, _⟩ := hv.is
  have HV := Lib.hid hv; have HR := Lib.hid hr; have HLB := Lib.hid hlen; have HK := Lib.hid (And.intro k1 k2)
  have P : Hid (∀ (c : Chg) (W : World), Calls Try.prog 103 #[.agg (chCells c).toArray, str k] W fun e w' => e = .returned (.int .i64 (Lib.compareBytes c.key k)) ∧ Fr (fun _ => False) W w') := Lib.hid (fun c W => cmp103 c k W)
  unfold str at P ⊢
  generalize (⟨k.toArray⟩ : ByteArray) = S at *
  clear hv hr hlen k1 k2
  go_enter Try.func102, Try.ntmps102
  go_wp2
  go_loopw [9, 10] (fun i j wr => ∃ a b : Nat, i = .int .i64 a ∧ j = .int .i64 b ∧ a ≤ b ∧ b ≤ l.length ∧ (∀ q (h : q < l.length), q < a → Lib.compareBytes l[q].key k < 0) ∧ (∀ q (h : q < l.length), b ≤ q → 0 ≤ Lib.compareBytes l[q].key k) ∧ Fr (fun _ => False) w wr) (fun i j _ => (intOf j).toNat - (intOf i).toNat)
  case atStart => exact ⟨0, l.length, rfl, rfl, Nat.zero_le _, Nat.le_refl _, fun q h hq => by omega, fun q h hq => by omega, Fr.refl _ _⟩
  case round =>
    obtain ⟨a, b, rfl, rfl, hab, hb, hlo, hhi, hf⟩ := hrel
    have HF := Lib.hid hf; have HLO := Lib.hid hlo; have HHI := Lib.hid hhi; have HB := Lib.hid hb
    clear hf hlo hhi hb
    by_cases hlt : a < b
    · obtain ⟨m, hm⟩ : ∃ m, m = (a + b) / 2 := ⟨_, rfl⟩
      have hml : m < l.length ∧ a ≤ m ∧ m < b := by have := HB.out; omega
      obtain ⟨ab, off, rfl, c0, c1, c2⟩ := (HV.out.fr HF.out (fun _ _ h => h)).at m hml.1
      have hsum : a + b ≤ 2199023255552 := by have := HB.out; have := HLB.out; omega
      have HML := Lib.hid hml; have HM := Lib.hid hm
      obtain ⟨s, hs⟩ : ∃ s, s = a + b := ⟨_, rfl⟩
      have A1 : Value.int .i64 (wrap64 ((a : Int) + (b : Int))) = Value.int .i64 (s : Int) := by rw [w64 _ (by omega)]; congr 1; omega
      have t1 : decide ((a : Int) < (b : Int)) = true := by simp; omega
      have t1n : decide (a < b) = true := by simp; omega
      have A2 : Value.int .i64 (wrap64 ((m : Int) + 1)) = Value.int .i64 ((m : Int) + 1) := by rw [w64 _ (by omega)]
      have B1 : IntKind.u64.wrap (s : Int) = (s : Int) := by rw [IntKind.wrap_u64]; omega
      have B2 : wrap64 ((s : Int) / 2) = (m : Int) := by rw [w64 _ (by omega)]; omega
      have t3 : decide ((m : Int) < (l.length : Int)) = true := by simp; omega
      have t3n : decide (m < l.length) = true := by simp; omega
      have HS := Lib.hid hs
      have hml1 := hml.1
      generalize hc : l[m] = c at c0 c1 c2
      have HC : Hid (∃ h : m < l.length, l[m] = c) := Lib.hid ⟨hml1, hc⟩
      unfold str at c0 c1
      have P1 : Hid (∀ W : World, Calls Try.prog 103 #[.agg #[.string ⟨c.key.toArray⟩, .string ⟨c.val.toArray⟩, .bool c.gone], .string S] W fun e w' => e = .returned (.int .i64 (Lib.compareBytes c.key k)) ∧ Fr (fun _ => False) W w') := Lib.hid (P.out c)
      generalize (⟨c.key.toArray⟩ : ByteArray) = S1 at *
      generalize (⟨c.val.toArray⟩ : ByteArray) = S2 at *
      clear hs hm hc hml hsum hlt
      go_wp2_with (go_at_call 103; refine (P1.out _).mono ?_; rintro e w2 ⟨rfl, f2⟩; have HF2 := Lib.hid (HF.out.trans f2 (fun _ h => h.elim)); clear f2)
      · have hcm : Lib.compareBytes c.key k < 0 := by assumption
        rw [A2]
        refine ⟨⟨m + 1, b, by go_num, rfl, by have := HML.out; omega, HB.out, fun q h hq => ?_, HHI.out, HF2.out⟩, by have := HML.out; simp [intOf]; omega⟩
        obtain ⟨hm, hc⟩ := HC.out
        rcases Nat.lt_or_ge q m with h1 | h1
        · refine cb_trans _ _ _ (HR.out q m h hm h1) ?_
          rw [hc]; exact hcm
        · obtain rfl : q = m := by omega
          rw [hc]; exact hcm
      · have hcm : ¬ Lib.compareBytes c.key k < 0 := by omega
        refine ⟨⟨a, m, rfl, rfl, HML.out.2.1, Nat.le_of_lt HML.out.1, HLO.out, fun q h hq => ?_, HF2.out⟩, by have := HML.out; simp [intOf]; omega⟩
        obtain ⟨hm, hc⟩ := HC.out
        rcases Nat.lt_or_ge m q with h1 | h1
        · rcases Int.lt_or_le (Lib.compareBytes l[q].key k) 0 with h2 | h2
          · have h3 := cb_trans _ _ _ (HR.out m q hm h h1) h2
            rw [hc] at h3; exact absurd h3 hcm
          · exact h2
        · obtain rfl : q = m := by omega
          rw [hc]; exact Int.not_lt.1 hcm
    · obtain rfl : a = b := by omega
      have t0 : decide ((a : Int) < (a : Int)) = false := by simp
      have hlo2 := HB.out
      by_cases hal : a < l.length
      · obtain ⟨ab, off, rfl, c0, c1, c2⟩ := (HV.out.fr HF.out (fun _ _ h => h)).at a hal
        have t1 : decide ((a : Int) < (l.length : Int)) = true := by simp; omega
        have t1n : decide (a < l.length) = true := by simp; omega
        generalize hc : l[a] = c at c0 c1 c2
        have HC : Hid (∃ h : a < l.length, l[a] = c) := Lib.hid ⟨hal, hc⟩
        unfold str at c0 c1
        have P1 : Hid (∀ W : World, Calls Try.prog 103 #[.agg #[.string ⟨c.key.toArray⟩, .string ⟨c.val.toArray⟩, .bool c.gone], .string S] W fun e w' => e = .returned (.int .i64 (Lib.compareBytes c.key k)) ∧ Fr (fun _ => False) W w') := Lib.hid (P.out c)
        generalize (⟨c.key.toArray⟩ : ByteArray) = S1 at *
        generalize (⟨c.val.toArray⟩ : ByteArray) = S2 at *
        clear hc
        go_wp2_with (go_at_call 103; refine (P1.out _).mono ?_; rintro e w2 ⟨rfl, f2⟩; have HF2 := Lib.hid (HF.out.trans f2 (fun _ h => h.elim)); clear f2)
        go_ret2
        obtain ⟨ha, hc⟩ := HC.out
        refine ⟨a, Lib.compareBytes c.key k == 0, rfl, ⟨hlo2, HLO.out, HHI.out, ⟨fun h => ⟨ha, ?_⟩, fun ⟨h, e⟩ => ?_⟩⟩, HF2.out⟩
        · rw [hc]; exact cb_eq _ _ (by simpa using h)
        · rw [hc] at e; rw [e, cb_refl]; rfl
      · have t1 : decide ((a : Int) < (l.length : Int)) = false := by simp; omega
        have t1n : decide (a < l.length) = false := by simp; omega
        go_wp2
        go_ret2
        exact ⟨a, false, rfl, ⟨hlo2, HLO.out, HHI.out, ⟨fun h => (by cases h), fun ⟨h, _⟩ => absurd h hal⟩⟩, HF.out⟩

set_option maxRecDepth 100000 in
set_option maxHeartbeats 1000000 in
/-- find. -/
theorem find80 (v : Value) (l : List Chg) (k : List UInt8) (w : World) (hv : IsChg w v l) (hr : Rising l) (hlen : l.length ≤ 1099511627776) : Calls Try.prog 80 #[v, str k] w (FindPost l k w) := by
  obtain ⟨ao, cap, rfl, k1, k2, _, _⟩ := hv.is
  have P := Lib.hid (bsearch102 _ l k w hv hr hlen)
  clear hv hr hlen k1 k2
  unfold str at P ⊢
  generalize (⟨k.toArray⟩ : ByteArray) = S at *
  go_enter Try.func80, Try.ntmps80
  go_wp2_with (go_at_call 102; refine P.out.mono ?_; rintro e w2 ⟨i, found, rfl, hf, f2⟩; have HFA := Lib.hid hf; have HF2 := Lib.hid f2; clear hf f2)
  go_ret2
  exact ⟨i, found, rfl, HFA.out, HF2.out⟩
end Go.Proofs.Ytnpeeephkkmomaa
namespace Go.Proofs.Ytnpeeephkkmomaa
open Go.RowKit Go.Proofs.YtnpeeephkkmomaaW.PrintLast
set_option linter.unusedVariables false
set_option linter.unusedSimpArgs false

theorem info75 : (Try.prog.info? 75).map (fun i => (i.zero, i.size, i.bytes)) = some (some (.agg #[.string ByteArray.empty, .string ByteArray.empty, .bool false]), 3, 40) := by kernel_rfl
theorem chs_one (l : List Chg) : ∀ v ∈ l.flatMap chCells, v.oneCell' = true := by
  intro v hv
  simp only [List.mem_flatMap, chCells, List.mem_cons, List.not_mem_nil, or_false] at hv
  obtain ⟨c, _, rfl | rfl | rfl⟩ := hv <;> rfl
/-- A row of changes of one's own. -/
def OwnChg (w : World) (v : Value) (l : List Chg) : Prop := w.ownsRow 0 75 3 v l.length (l.flatMap chCells)
theorem OwnChg.nil (w : World) : OwnChg w (.slice none 0 0) [] := World.ownsRow_nil _ _ _ _
theorem OwnChg.fr {w w' : World} {F : Nat → Prop} {v : Value} {l : List Chg} (h : OwnChg w v l) (hf : Fr F w w') (hF : ∀ k, v.ownBlock = some k → ¬ F k) : OwnChg w' v l := ownsRow_fr h hf hF
theorem OwnChg.slice {w : World} {v : Value} {l : List Chg} (h : OwnChg w v l) : ∃ ao cap, v = .slice ao l.length cap := ownsRow_slice h
theorem OwnChg.lt {w : World} {v : Value} {l : List Chg} (h : OwnChg w v l) (k : Nat) (hk : v.ownBlock = some k) : k < w.heap.size := (World.ownsRow.lt h k hk).2
theorem OwnChg.chg {w : World} {v : Value} {l : List Chg} (h : OwnChg w v l) : IsChg w v l := by
  rcases h.2 with ⟨rfl, h0⟩ | ⟨g, cap, cur, rfl, _, hg, hnc, hcm, hcs, ht⟩
  · obtain rfl := List.eq_nil_of_length_eq_zero h0
    exact ⟨none, 0, rfl, Nat.le_refl _, by decide, fun _ => rfl, fun a h => by cases h⟩
  · refine ⟨some ⟨g, 0, none⟩, cap, rfl, hnc, by simpa [maxLen] using hcm, by simp, ?_⟩
    rintro a ha j v hv
    cases ha
    exact World.ownsRow.cells h rfl j v hv
def ChgPost (w : World) (l : List Chg) (e : Ending) (w' : World) : Prop :=
  ∃ v, e = .returned v ∧ OwnChg w' v l ∧ (∀ k, v.ownBlock = some k → w.heap.size ≤ k) ∧ Fr (fun _ => False) w w'

set_option maxRecDepth 100000 in
set_option maxHeartbeats 1000000 in
/-- slices.Clone of changes. -/
theorem clone82 (v : Value) (l : List Chg) (w : World) (hv : IsChg w v l) (hl : l.length ≤ 1099511627776) : Calls Try.prog 82 #[v] w (ChgPost w l) := by
  obtain ⟨ao, cap, rfl, h1, h2, h3, h4⟩ := hv.is
  have H4 := Lib.hid h4; clear hv h4
  cases ao with
  | none =>
    obtain rfl := h3 rfl
    have hq := _root_.Go.run_eql_slice_nil (P := Try.prog) w 65 75 none 0 cap Try.underlying65
    go_enter Try.func82, Try.ntmps82
    go_wp2
    go_ret
    exact ⟨_, rfl, OwnChg.nil w, by simp [Value.ownBlock], Fr.refl _ w⟩
  | some a =>
    obtain ⟨i, hinfo, hz0, hz1, hz2⟩ := info_parts info75
    have hq := _root_.Go.run_eql_slice_nil (P := Try.prog) w 65 75 (some a) l.length cap Try.underlying65
    clear h3
    go_enter Try.func82, Try.ntmps82
    go_wp2_with (refine wpList_append0 rfl (.tmp 5) (.tmp 6) 65 rfl 75 i _ 3 40 Try.underlying65 hinfo hz0 hz1 hz2 rfl (by decide) (.slice (some ⟨w.heap.size, 0, none⟩) 0 0) 0 [] rfl (own_empty w 75 3) a l.length cap (l.flatMap chCells) rfl (flat_len l) (fun j u hu => ((Fr.refl (fun _ => False) w).alloc (.cells #[] 75 (0, 0))).cell (H4.out a rfl j u hu)) (chs_one l) (RoomAt.empty (by unfold maxLen; omega) (by omega)) ?_; intro v3 w3 own3 fr3 fresh3)
    go_ret
    rw [Nat.zero_add, List.nil_append] at own3
    refine ⟨v3, rfl, own3, fun k hk => ?_, ?_⟩
    · rcases fresh3 with h | h
      · rw [h] at hk; simp only [Value.ownBlock, Option.some.injEq] at hk; omega
      · rw [hk] at h; simp at h; omega
    · refine (((Fr.refl (fun _ => False) w).alloc (.cells #[] 75 (0, 0))).trans fr3 (fun k hk => ?_))
      simp only [Value.ownBlock, Option.some.injEq] at hk; exact .inr (Nat.le_of_eq hk)

theorem run_copy_rec {P : Program} (w : World) (dT sT ty elem : TypeId) (size : Nat) (g o dLen dCap : Nat) (a : Addr) (sLen sCap : Nat) (cur : Array Value) (t : TypeId) (cs : List Value)
    (hu : P.underlying dT = some (.slice elem)) (hs : (P.info? elem).map (·.size) = some size)
    (hg : w.heap[g]? = some (.cells cur t (0, 0))) (hn : cs.length = Nat.min sLen dLen * size)
    (hsrc : ∀ j v, cs[j]? = some v → w.cell? (a.add j) = some v) (hfit : o + cs.length ≤ cur.size) (h1 : ∀ v ∈ cs, v.oneCell' = true) :
    (Builtin.copy_ #[dT, sT] ty #[.slice (some ⟨g, o, none⟩) dLen dCap, .slice (some a) sLen sCap]).run P w =
      .ok (goInt (Nat.min sLen dLen)) (w.setRow g (splice cur o cs)) := by
  have hl := run_loadCells_list (P := P) w a cs hsrc
  have hst := run_storeCells_at P g o t cs 0 cur w hg (by simpa using hfit) h1
  cases hq : P.info? elem with
  | none => simp [hq] at hs
  | some i =>
    have hi : i.size = size := by simpa [hq] using hs
    rw [hn] at hl
    simp [Builtin.copy_, run_underlying hu, Builtin.lenOf, Builtin.firstCells, sizeOf, typeInfo, hq, hi, hl, hst, splice]
theorem run_clear_rec {P : Program} (w : World) (t e ty : TypeId) (z : Value) (ht : P.underlying t = some (.slice e)) (hv : ∀ w, (zeroValue e).run P w = .ok z w) (h1 : ∀ u ∈ z.cells.toList, u.oneCell' = true) (g o n c : Nat) (cur : Array Value) (T : TypeId)
    (hg : w.heap[g]? = some (.cells cur T (0, 0))) (hn : 0 < n) (h0 : 0 < z.cells.size) (hfit : o + n * z.cells.size ≤ cur.size) :
    (Builtin.clear_ #[t] ty #[.slice (some ⟨g, o, none⟩) n c]).run P w = .ok (.tuple #[]) (w.setRow g (splice cur o (Builtin.zeroCells z.cells n).toList)) := by
  have hlen : (Builtin.zeroCells z.cells n).toList.length = n * z.cells.size := by simp [size_zeroCells]
  have hone : ∀ u ∈ (Builtin.zeroCells z.cells n).toList, u.oneCell' = true := by
    intro u hu
    simp only [Builtin.zeroCells, Array.toList_map, List.mem_map] at hu
    obtain ⟨j, hj, rfl⟩ := hu
    have hm : j % z.cells.size < z.cells.size := Nat.mod_lt _ h0
    rw [getElem!_pos z.cells _ hm]
    exact h1 _ (by simp)
  have hst := run_storeCells_at P g o T (Builtin.zeroCells z.cells n).toList 0 cur w hg (by rw [hlen]; simpa using hfit) hone
  obtain ⟨m, rfl⟩ : ∃ m, n = m + 1 := ⟨n - 1, by omega⟩
  simp only [Nat.add_zero] at hst
  simp [Builtin.clear_, run_underlying ht, hv, hst, splice]

section
variable {P : Program} {ops : Array Oper} {rest : List Oper} {o : Oper} {a : Act} {w : World} {K : Act → World → Prop} {Q : Exit → Act → World → Prop}
theorem step_append_run (hw : Region.wanted o (yielded ops a.tmps) = true) (s x : Operand) (t : TypeId) (ho : o.op = .call { callee := .builtin .append, args := #[s, x], argTypes := #[t, t] })
    (v u : Value) (hs : a.eval s = v) (hx : a.eval x = u) {v' : Value} {w' : World} (hr : ∀ ty, (Builtin.append_ #[t, t] ty #[v, u]).run P w = .ok v' w') (h : K (a.put o.dst v') w') :
    if Region.wanted o (yielded ops a.tmps) = true then Oper.wp P o a w K Q else K (a.put o.dst undef) w := by
  rw [if_pos hw]
  unfold Oper.wp execOp
  simp only [ho, resolve, invoke, builtin, Sem.run_bind, Sem.run_pure, Result.andThen_ok, List.map_toArray, List.map_cons, List.map_nil, hs, hx, hr]
  exact h
theorem wpList_clear_run (hgd : o.guard = none) (s : Operand) (t : TypeId) (ho : o.op = .call { callee := .builtin .clear, args := #[s], argTypes := #[t] })
    (v : Value) (hs : a.eval s = v) {v' : Value} {w' : World} (hr : ∀ ty, (Builtin.clear_ #[t] ty #[v]).run P w = .ok v' w') (h : wpList P ops Q rest (a.put o.dst v') w') : wpList P ops Q (o :: rest) a w :=
  wpList_plain hgd fun K hK => by
    unfold Oper.wp execOp
    simp only [ho, resolve, invoke, builtin, Sem.run_bind, Sem.run_pure, Result.andThen_ok, List.map_toArray, List.map_cons, List.map_nil, hs, hr]
    exact hK _ _ h
end
def zCells75 : Array Value := #[.string ByteArray.empty, .string ByteArray.empty, .bool false]
theorem zero75 (w : World) : (zeroValue 75).run Try.prog w = .ok (.agg zCells75) w := by
  obtain ⟨i, hi, hz0, _, _⟩ := info_parts info75
  simp [zeroValue, typeInfo, hi, hz0, zCells75]
theorem flat_take (l : List Chg) (i : Nat) : (l.take i).flatMap chCells = (l.flatMap chCells).take (i * 3) := by
  induction l generalizing i with
  | nil => simp
  | cons c l ih =>
    cases i with
    | zero => simp
    | succ i =>
      rw [List.take_succ_cons, List.flatMap_cons, List.flatMap_cons, ih, List.take_append]
      have h3 : (chCells c).length = 3 := rfl
      rw [List.take_of_length_le (l := chCells c) (by rw [h3]; omega), h3, show (i + 1) * 3 - 3 = i * 3 by omega]
theorem flat_drop (l : List Chg) (i : Nat) : (l.drop i).flatMap chCells = (l.flatMap chCells).drop (i * 3) := by
  induction l generalizing i with
  | nil => simp
  | cons c l ih =>
    cases i with
    | zero => simp
    | succ i =>
      rw [List.drop_succ_cons, List.flatMap_cons, ih, List.drop_append]
      have h3 : (chCells c).length = 3 := rfl
      rw [List.drop_of_length_le (l := chCells c) (by rw [h3]; omega), h3, List.nil_append, show (i + 1) * 3 - 3 = i * 3 by omega]
theorem u65e : Try.prog.underlying 65 = some (.slice (Try.prog.elem 65)) := by kernel_rfl
theorem size75 (w : World) : (sizeOf (Try.prog.elem 65)).run Try.prog w = .ok 3 w := run_sizeOf (by kernel_rfl) w
set_option maxRecDepth 100000 in
set_option maxHeartbeats 4000000 in
/-- slices.Delete of one change. -/
theorem delete93 (v : Value) (l : List Chg) (i : Nat) (w : World) (hv : OwnChg w v l) (hi : i < l.length) (hl : l.length ≤ 1099511627776) :
    Calls Try.prog 93 #[v, .int .i64 i, .int .i64 ((i : Int) + 1)] w fun e w' => ∃ v', e = .returned v' ∧ OwnChg w' v' (l.eraseIdx i) ∧ v'.ownBlock = v.ownBlock ∧ Fr (fun k => v.ownBlock = some k) w w' := by
  rcases hv.2 with ⟨_, h0⟩ | ⟨g, cap, cur, rfl, _, hg, hnc, hcm, hcs, ht⟩
  · omega
  have HV := Lib.hid hv
  obtain ⟨n, hn⟩ : ∃ n, n = l.length := ⟨_, rfl⟩
  rw [← hn] at hi hl hnc ⊢
  have hcm' : cap ≤ 9223372036854775807 := by simpa [maxLen] using hcm
  have t1 : ((i : Int) == (i : Int) + 1) = false := by simp; omega
  have HN := Lib.hid hn; have HCM := Lib.hid hcm'
  clear hv hcm hn
  obtain ⟨inf, hinf, hz0, hz1, hz2⟩ := info_parts info75
  have hcell := World.ownsRow.cells HV.out (g := g) rfl
  have hnews : ∀ j u, ((l.drop (i + 1)).flatMap chCells)[j]? = some u → w.drew.cell? ((⟨g, (i + 1) * 3, none⟩ : Addr).add j) = some u := fun j u hu => by
    rw [flat_drop, List.getElem?_drop] at hu
    have := hcell ((i + 1) * 3 + j) u hu
    rw [Addr.add_mk]
    rw [Addr.add_mk, Nat.zero_add] at this
    exact this
  have hnl : ((l.drop (i + 1)).flatMap chCells).length = (n - (i + 1)) * 3 := by rw [flat_len, List.length_drop, HN.out]
  obtain ⟨news, hnw⟩ : ∃ news, news = (l.drop (i + 1)).flatMap chCells := ⟨_, rfl⟩
  have hn1 : ∀ u ∈ news, u.oneCell' = true := by rw [hnw]; exact chs_one _
  rw [← hnw] at hnews hnl
  obtain ⟨cur1, hcur1⟩ : ∃ cur1 : Array Value, cur1 = (cur.toList.take (i * 3) ++ news ++ cur.toList.drop (i * 3 + news.length)).toArray := ⟨_, rfl⟩
  have hi1 : i < l.length := by have := HN.out; omega
  have hlen1 : cur1.size = cur.size := by rw [hcur1]; simp [hnl]; omega
  have hr : ∀ ty, (Builtin.append_ #[65, 65] ty #[.slice (some ⟨g, 0, none⟩) i cap, .slice (some ⟨g, (i + 1) * 3, none⟩) (n - (i + 1)) (cap - (i + 1))]).run Try.prog w.drew = .ok (.slice (some ⟨g, 0, none⟩) (i + (n - (i + 1))) cap) (w.drew.setRow g cur1) := fun ty => by
    have := run_append_room (P := Try.prog) w.drew 65 ty 75 inf Try.underlying65 hinf g i cap cur hg ⟨g, (i + 1) * 3, none⟩ (n - (i + 1)) (cap - (i + 1)) news (by rw [hz1]; exact hnl) hnews hn1 (by omega) (by rw [hz1, hnl, hcs]; omega)
    rw [hz1] at this
    rw [hcur1]; exact this
  have hr0 : ∀ ty c, n = i + 1 → (Builtin.append_ #[65, 65] ty #[.slice (some ⟨g, 0, none⟩) i cap, .slice (some ⟨g, 0, none⟩) 0 c]).run Try.prog w.drew = .ok (.slice (some ⟨g, 0, none⟩) i cap) (w.drew.setRow g cur1) := fun ty c he => by
    have h0 : news = [] := List.eq_nil_of_length_eq_zero (by rw [hnl]; omega)
    have := run_append_room (P := Try.prog) w.drew 65 ty 75 inf Try.underlying65 hinf g i cap cur hg ⟨g, 0, none⟩ 0 c [] (by simp) (by simp) (by simp) (by omega) (by rw [hz1, hcs]; simp; omega)
    rw [hz1] at this
    rw [hcur1, h0]; simpa using this
  obtain ⟨N1, hN1⟩ : ∃ N1, N1 = n - 1 := ⟨_, rfl⟩
  have hsum : i + (n - (i + 1)) = N1 := by omega
  rw [hsum] at hr
  have hg1 : (w.drew.setRow g cur1).heap[g]? = some (.cells cur1 75 (0, 0)) := setRow_heap w.drew g cur cur1 75 _ hg
  obtain ⟨W1, hW1⟩ : ∃ W1, W1 = w.drew.setRow g cur1 := ⟨_, rfl⟩
  rw [← hW1] at hr hr0 hg1
  have hclr : ∀ ty c, (Builtin.clear_ #[65] ty #[.slice (some ⟨g, N1 * 3, none⟩) (n - N1) c]).run Try.prog W1 = .ok (.tuple #[]) (W1.setRow g (splice cur1 (N1 * 3) (Builtin.zeroCells zCells75 (n - N1)).toList)) := fun ty c =>
    run_clear_rec W1 65 75 ty (.agg zCells75) Try.underlying65 zero75 (by intro u hu; simp [Value.cells, zCells75] at hu; rcases hu with rfl | rfl | rfl <;> rfl) g (N1 * 3) (n - N1) c cur1 75 hg1 (by omega) (by decide) (by
      have : (Value.agg zCells75).cells.size = 3 := rfl
      rw [this, hlen1, hcs]; omega)
  have hfin : OwnChg (W1.setRow g (splice cur1 (N1 * 3) (Builtin.zeroCells zCells75 (n - N1)).toList)) (.slice (some ⟨g, 0, none⟩) N1 cap) (l.eraseIdx i) := by
    have hll : (l.eraseIdx i).length = N1 := by rw [List.length_eraseIdx, if_pos hi1, ← HN.out, hN1]
    have hzl : (Builtin.zeroCells zCells75 (n - N1)).toList.length = (n - N1) * 3 := by simp [size_zeroCells, zCells75]
    unfold OwnChg
    rw [hll]
    refine ⟨by rw [flat_len, hll], .inr ⟨g, cap, _, rfl, Nat.zero_le _, setRow_heap W1 g cur1 _ 75 _ hg1, by omega, by simpa [maxLen] using HCM.out, ?_, ?_⟩⟩
    · rw [splice_size _ _ _ (by rw [hzl, hlen1, hcs]; omega), hlen1, hcs]
    · rw [splice_toList, List.append_assoc, List.take_append_of_le_length (by rw [List.length_take]; simp [hlen1, hcs]; omega), List.take_take, Nat.min_self, hcur1]
      have e1 : N1 * 3 = (cur.toList.take (i * 3) ++ news).length := by rw [List.length_append, List.length_take, hnl]; simp [hcs]; omega
      rw [e1, List.take_left, List.eraseIdx_eq_take_drop_succ, List.flatMap_append, ← hnw, flat_take, ← ht, List.take_take, Nat.min_eq_left (by omega)]
  have hfr : Fr (fun k => (Value.slice (some ⟨g, 0, none⟩) n cap).ownBlock = some k) w (W1.setRow g (splice cur1 (N1 * 3) (Builtin.zeroCells zCells75 (n - N1)).toList)) := by
    rw [hW1]
    have h0 : Fr (fun k => (Value.slice (some ⟨g, 0, none⟩) n cap).ownBlock = some k) w w.drew := (Fr.refl _ w).drew
    exact (h0.setRow (g := g) cur1 (.inl rfl)).setRow (g := g) _ (.inl rfl)
  have HFIN := Lib.hid hfin; have HFR := Lib.hid hfr; have HN1 := Lib.hid hN1; have HI := Lib.hid hi
  have t2 : decide ((i : Int) < (n : Int)) = true := by simp; omega
  clear hfin hfr hN1 hsum hW1 hcur1 hlen1 hnw hnews hnl hn1 hcell ht hcs
  have hN1a : N1 ≤ n := by have := HN1.out; omega
  by_cases hc : cap = i + 1
  · have hn2 : n = i + 1 := by omega
    have hN2 : N1 = i := by have := HN1.out; omega
    subst hc; subst hN2; subst hn2
    have hr1 := fun ty => hr0 ty 0 rfl
    have hb1 : 0 ≤ (N1 : Int) + 1 := by omega
    have hb3 : N1 ≤ N1 + 1 := by omega
    have hb4 : (N1 : Int) ≤ (N1 : Int) + 1 := by omega
    have hb5 : (0 : Int) ≤ (N1 : Int) := by omega
    rw [show N1 + 1 - N1 = 1 by omega] at hclr HFIN HFR
    clear hr hr0
    go_enter Try.func93, Try.ntmps93
    go_wp2
    refine start_ (n := 8) (S := fun w' => w'.heap[g]? = some (.cells cur 75 (0, 0))) (ds := [6]) #[false, false, false, false, false, false, false, false] (by kernel_rfl) rfl rfl (hg) (fun hHeld => ?_)
    refine pure_ (i := 0) (N := some 20) (v := ?_) (a' := ?_) #[true, false, false, false, false, false, false, false] rfl rfl (by kernel_rfl) (fun _ _ _ h => h) (Or.inl ⟨by rfl, ?_⟩) ?_ ?_
    rotate_left
    · intro w'
      try simp only [List.getElem_toArray, List.getElem_cons_succ, List.getElem_cons_zero]
      go_simp
      with_reducible rfl
    rotate_left
    · simp only [Act.put, List.setIfInBounds_toArray, List.set_cons_zero, List.set_cons_succ, i64_w, i32_w]
      rfl
    refine pure_ (i := 1) (N := some 21) (v := ?_) (a' := ?_) #[true, true, false, false, false, false, false, false] rfl rfl (by kernel_rfl) (fun _ _ _ h => h) (Or.inl ⟨by rfl, ?_⟩) ?_ ?_
    rotate_left
    · intro w'
      try simp only [List.getElem_toArray, List.getElem_cons_succ, List.getElem_cons_zero]
      go_simp
      with_reducible rfl
    rotate_left
    · simp only [Act.put, List.setIfInBounds_toArray, List.set_cons_zero, List.set_cons_succ, i64_w, i32_w]
      rfl
    refine pure_ (i := 2) (N := some 22) (v := ?_) (a' := ?_) #[true, true, true, false, false, false, false, false] rfl rfl (by kernel_rfl) (fun _ _ _ h => h) (Or.inl ⟨by rfl, ?_⟩) ?_ ?_
    rotate_left
    · intro w'
      try simp only [List.getElem_toArray, List.getElem_cons_succ, List.getElem_cons_zero]
      go_simp
      with_reducible rfl
    rotate_left
    · simp only [Act.put, List.setIfInBounds_toArray, List.set_cons_zero, List.set_cons_succ, i64_w, i32_w]
      rfl
    refine pure_ (i := 3) (N := some 23) (v := ?_) (a' := ?_) #[true, true, true, true, false, false, false, false] rfl rfl (by kernel_rfl) (fun _ _ _ h => h) (Or.inl ⟨by rfl, ?_⟩) ?_ ?_
    rotate_left
    · intro w'
      try simp only [List.getElem_toArray, List.getElem_cons_succ, List.getElem_cons_zero]
      go_simp
      with_reducible rfl
    rotate_left
    · simp only [Act.put, List.setIfInBounds_toArray, List.set_cons_zero, List.set_cons_succ, i64_w, i32_w]
      rfl
    refine pure_ (i := 4) (N := some 24) (v := ?_) (a' := ?_) #[true, true, true, true, true, false, false, false] rfl rfl (by kernel_rfl) (fun _ _ _ h => h) (Or.inl ⟨by rfl, ?_⟩) ?_ ?_
    rotate_left
    · intro w'
      try simp only [List.getElem_toArray, List.getElem_cons_succ, List.getElem_cons_zero]
      go_simp
      with_reducible rfl
    rotate_left
    · simp only [Act.put, List.setIfInBounds_toArray, List.set_cons_zero, List.set_cons_succ, i64_w, i32_w]
      rfl
    refine pure_ (i := 5) (N := some 25) (v := ?_) (a' := ?_) #[true, true, true, true, true, true, false, false] rfl rfl (by kernel_rfl) (fun _ _ _ h => h) (Or.inl ⟨by rfl, ?_⟩) ?_ ?_
    rotate_left
    · intro w'
      try simp only [List.getElem_toArray, List.getElem_cons_succ, List.getElem_cons_zero]
      go_simp
      with_reducible rfl
    rotate_left
    · simp only [Act.put, List.setIfInBounds_toArray, List.set_cons_zero, List.set_cons_succ, i64_w, i32_w]
      rfl
    refine last_ (i := 6) (N := some 26) #[true, true, true, true, true, true, true, false] rfl rfl (by kernel_rfl) (by decide) (fun K hK => ?_)
    refine step_append_run (by rfl) (.tmp 22) (.tmp 25) 65 rfl _ _ rfl rfl hr1 ?_
    refine hK.out _ _ ?_
    clear hK K
    refine norm_ (a' := ?_) ?_ ?_
    rotate_left
    · show Act.put _ (some 26) _ = _
      simp only [Act.put, List.setIfInBounds_toArray, List.set_cons_zero, List.set_cons_succ, i64_w, i32_w]
      rfl
    refine pure_ (i := 7) (N := some 0) (v := ?_) (a' := ?_) #[true, true, true, true, true, true, true, true] rfl rfl (by kernel_rfl) (fun _ _ _ h => h) (Or.inl ⟨by rfl, ?_⟩) ?_ ?_
    rotate_left
    · intro w'
      try simp only [List.getElem_toArray, List.getElem_cons_succ, List.getElem_cons_zero]
      go_simp
      with_reducible rfl
    rotate_left
    · simp only [Act.put, List.setIfInBounds_toArray, List.set_cons_zero, List.set_cons_succ, i64_w, i32_w]
      rfl
    refine done_ (by kernel_rfl) ?_

    go_wp2_with (refine wpList_clear_run rfl (.tmp 31) 65 rfl _ rfl (fun ty => hclr ty _) ?_)
    go_ret
    exact ⟨_, rfl, HFIN.out, rfl, HFR.out⟩
  · have hc2 : i + 1 < cap := by omega
    have hic : i ≤ cap := by omega
    have hb1 : 0 ≤ (i : Int) + 1 := by omega
    have hb2 : (i : Int) + 1 ≤ (n : Int) := by omega
    have hcN : ¬ cap = N1 := by have := HN1.out; omega
    clear hr0
    go_enter Try.func93, Try.ntmps93
    go_wp2
    refine start_ (n := 8) (S := fun w' => w'.heap[g]? = some (.cells cur 75 (0, 0))) (ds := [6]) #[false, false, false, false, false, false, false, false] (by kernel_rfl) rfl rfl (hg) (fun hHeld => ?_)
    refine pure_ (i := 0) (N := some 20) (v := ?_) (a' := ?_) #[true, false, false, false, false, false, false, false] rfl rfl (by kernel_rfl) (fun _ _ _ h => h) (Or.inl ⟨by rfl, ?_⟩) ?_ ?_
    rotate_left
    · intro w'
      try simp only [List.getElem_toArray, List.getElem_cons_succ, List.getElem_cons_zero]
      go_simp
      with_reducible rfl
    rotate_left
    · simp only [Act.put, List.setIfInBounds_toArray, List.set_cons_zero, List.set_cons_succ, i64_w, i32_w]
      rfl
    refine pure_ (i := 1) (N := some 21) (v := ?_) (a' := ?_) #[true, true, false, false, false, false, false, false] rfl rfl (by kernel_rfl) (fun _ _ _ h => h) (Or.inl ⟨by rfl, ?_⟩) ?_ ?_
    rotate_left
    · intro w'
      try simp only [List.getElem_toArray, List.getElem_cons_succ, List.getElem_cons_zero]
      go_simp
      with_reducible rfl
    rotate_left
    · simp only [Act.put, List.setIfInBounds_toArray, List.set_cons_zero, List.set_cons_succ, i64_w, i32_w]
      rfl
    refine pure_ (i := 2) (N := some 22) (v := ?_) (a' := ?_) #[true, true, true, false, false, false, false, false] rfl rfl (by kernel_rfl) (fun _ _ _ h => h) (Or.inl ⟨by rfl, ?_⟩) ?_ ?_
    rotate_left
    · intro w'
      try simp only [List.getElem_toArray, List.getElem_cons_succ, List.getElem_cons_zero]
      go_simp
      with_reducible rfl
    rotate_left
    · simp only [Act.put, List.setIfInBounds_toArray, List.set_cons_zero, List.set_cons_succ, i64_w, i32_w]
      rfl
    refine pure_ (i := 3) (N := some 23) (v := ?_) (a' := ?_) #[true, true, true, true, false, false, false, false] rfl rfl (by kernel_rfl) (fun _ _ _ h => h) (Or.inl ⟨by rfl, ?_⟩) ?_ ?_
    rotate_left
    · intro w'
      try simp only [List.getElem_toArray, List.getElem_cons_succ, List.getElem_cons_zero]
      go_simp
      with_reducible rfl
    rotate_left
    · simp only [Act.put, List.setIfInBounds_toArray, List.set_cons_zero, List.set_cons_succ, i64_w, i32_w]
      rfl
    refine pure_ (i := 4) (N := some 24) (v := ?_) (a' := ?_) #[true, true, true, true, true, false, false, false] rfl rfl (by kernel_rfl) (fun _ _ _ h => h) (Or.inl ⟨by rfl, ?_⟩) ?_ ?_
    rotate_left
    · intro w'
      try simp only [List.getElem_toArray, List.getElem_cons_succ, List.getElem_cons_zero]
      go_simp
      with_reducible rfl
    rotate_left
    · simp only [Act.put, List.setIfInBounds_toArray, List.set_cons_zero, List.set_cons_succ, i64_w, i32_w]
      rfl
    refine pure_ (i := 5) (N := some 25) (v := ?_) (a' := ?_) #[true, true, true, true, true, true, false, false] rfl rfl (by kernel_rfl) (fun _ _ _ h => h) (Or.inl ⟨by rfl, ?_⟩) ?_ ?_
    rotate_left
    · intro w'
      try simp only [List.getElem_toArray, List.getElem_cons_succ, List.getElem_cons_zero]
      go_simp
      with_reducible rfl
    rotate_left
    · simp only [Act.put, List.setIfInBounds_toArray, List.set_cons_zero, List.set_cons_succ, i64_w, i32_w]
      rfl
    refine last_ (i := 6) (N := some 26) #[true, true, true, true, true, true, true, false] rfl rfl (by kernel_rfl) (by decide) (fun K hK => ?_)
    refine step_append_run (by rfl) (.tmp 22) (.tmp 25) 65 rfl _ _ rfl rfl hr ?_
    refine hK.out _ _ ?_
    clear hK K
    refine norm_ (a' := ?_) ?_ ?_
    rotate_left
    · show Act.put _ (some 26) _ = _
      simp only [Act.put, List.setIfInBounds_toArray, List.set_cons_zero, List.set_cons_succ, i64_w, i32_w]
      rfl
    refine pure_ (i := 7) (N := some 0) (v := ?_) (a' := ?_) #[true, true, true, true, true, true, true, true] rfl rfl (by kernel_rfl) (fun _ _ _ h => h) (Or.inl ⟨by rfl, ?_⟩) ?_ ?_
    rotate_left
    · intro w'
      try simp only [List.getElem_toArray, List.getElem_cons_succ, List.getElem_cons_zero]
      go_simp
      with_reducible rfl
    rotate_left
    · simp only [Act.put, List.setIfInBounds_toArray, List.set_cons_zero, List.set_cons_succ, i64_w, i32_w]
      rfl
    refine done_ (by kernel_rfl) ?_

    go_wp2_with (refine wpList_clear_run rfl (.tmp 31) 65 rfl _ rfl (fun ty => hclr ty _) ?_)
    go_ret
    exact ⟨_, rfl, HFIN.out, rfl, HFR.out⟩
end Go.Proofs.Ytnpeeephkkmomaa
namespace Go.Proofs.Ytnpeeephkkmomaa
open Go.RowKit Go.Proofs.YtnpeeephkkmomaaW.PrintLast
set_option linter.unusedVariables false
set_option linter.unusedSimpArgs false

section
variable {P : Program} {ops : Array Oper} {rest : List Oper} {o : Oper} {a : Act} {w : World} {K : Act → World → Prop} {Q : Exit → Act → World → Prop}
theorem step_copy_run (hw : Region.wanted o (yielded ops a.tmps) = true) (d x : Operand) (t : TypeId) (ho : o.op = .call { callee := .builtin .copy, args := #[d, x], argTypes := #[t, t] })
    (v u : Value) (hd : a.eval d = v) (hx : a.eval x = u) {v' : Value} {w' : World} (hr : ∀ ty, (Builtin.copy_ #[t, t] ty #[v, u]).run P w = .ok v' w') (h : K (a.put o.dst v') w') :
    if Region.wanted o (yielded ops a.tmps) = true then Oper.wp P o a w K Q else K (a.put o.dst undef) w := by
  rw [if_pos hw]
  unfold Oper.wp execOp
  simp only [ho, resolve, invoke, builtin, Sem.run_bind, Sem.run_pure, Result.andThen_ok, List.map_toArray, List.map_cons, List.map_nil, hd, hx, hr]
  exact h
theorem wpList_copy_run (hgd : o.guard = none) (d x : Operand) (t : TypeId) (ho : o.op = .call { callee := .builtin .copy, args := #[d, x], argTypes := #[t, t] })
    (v u : Value) (hd : a.eval d = v) (hx : a.eval x = u) {v' : Value} {w' : World} (hr : ∀ ty, (Builtin.copy_ #[t, t] ty #[v, u]).run P w = .ok v' w') (h : wpList P ops Q rest (a.put o.dst v') w') : wpList P ops Q (o :: rest) a w :=
  wpList_plain hgd fun K hK => by
    unfold Oper.wp execOp
    simp only [ho, resolve, invoke, builtin, Sem.run_bind, Sem.run_pure, Result.andThen_ok, List.map_toArray, List.map_cons, List.map_nil, hd, hx, hr]
    exact hK _ _ h
end
def InsPost (w : World) (v : Value) (l : List Chg) (e : Ending) (w' : World) : Prop :=
  ∃ v', e = .returned v' ∧ OwnChg w' v' l ∧ (v'.ownBlock = v.ownBlock ∨ ∀ k, v'.ownBlock = some k → w.heap.size ≤ k) ∧ Fr (fun k => v.ownBlock = some k) w w'
theorem u75s : (Try.prog.info? 75).map (·.size) = some 3 := by kernel_rfl
theorem ch_one (c : Chg) : ∀ u ∈ chCells c, u.oneCell' = true := by intro u hu; simp only [chCells, List.mem_cons, List.not_mem_nil, or_false] at hu; rcases hu with rfl | rfl | rfl <;> rfl

set_option maxRecDepth 100000 in
set_option maxHeartbeats 4000000 in
/-- .. at the end. -/
theorem insert94_end (v : Value) (l : List Chg) (c : Chg) (vb : Nat) (w : World) (hv : OwnChg w v l) (hvb : w.heap[vb]? = some (.cells (chCells c).toArray 75 (0, 0))) (hl : l.length ≤ 1099511627776) :
    Calls Try.prog 94 #[v, .int .i64 (l.length : Nat), .slice (some ⟨vb, 0, none⟩) 1 1] w (InsPost w v (l ++ [c])) := by
  have HV := Lib.hid hv
  obtain ⟨inf, hinf, hz0, hz1, hz2⟩ := info_parts info75
  have hst := hv.chg
  have hao : ∃ ao cap, v = .slice ao l.length cap ∧ l.length ≤ cap ∧ cap ≤ 9223372036854775807 ∧ (cap = l.length ∨ ∃ g, ao = some ⟨g, 0, none⟩) := by
    rcases hv.2 with ⟨rfl, h0⟩ | ⟨g, cap, cur, rfl, _, hg, hnc, hcm, hcs, ht⟩
    · exact ⟨none, 0, by rw [h0], by omega, by decide, .inl h0.symm⟩
    · exact ⟨_, cap, rfl, hnc, by simpa [maxLen] using hcm, .inr ⟨g, rfl⟩⟩
  obtain ⟨ao, cap, rfl, k1, k2, hcase⟩ := hao
  have HVB := Lib.hid hvb
  clear hv hst hvb
  obtain ⟨n, hn⟩ : ∃ n, n = l.length := ⟨_, rfl⟩
  rw [← hn] at hl k1 HV hcase ⊢
  have HN := Lib.hid hn
  have HV2 : Hid (w.ownsRow 0 75 3 (.slice ao n cap) n (l.flatMap chCells)) := Lib.hid (by have h := HV.out; unfold OwnChg at h; rw [← hn] at h; exact h)
  clear hn
  by_cases hc : cap = n
  · subst hc
    clear hcase
    go_enter Try.func94, Try.ntmps94
    go_wp2_with (refine wpList_append rfl (.tmp 23) (.tmp 24) 65 rfl 75 inf _ 3 40 Try.underlying65 hinf hz0 hz1 hz2 rfl (by decide) _ _ (l.flatMap chCells) rfl HV2.out ⟨vb, 0, none⟩ 1 1 (chCells c) rfl rfl (fun j u hu => by rw [Addr.add_mk, Nat.zero_add]; exact (cells_at HVB.out j).trans (by simpa using hu)) (ch_one c) (Room.one (by unfold maxLen; omega) (by decide) (by omega)) ?_; intro v3 w3 own3 fr3 fresh3)
    go_ret
    refine ⟨v3, rfl, ?_, ?_, fr3⟩
    · unfold OwnChg
      rw [List.length_append, List.length_singleton, List.flatMap_append, ← HN.out]
      simpa using own3
    · rcases fresh3 with h | h
      · exact .inl h
      · exact .inr (fun k hk => by rw [h] at hk; cases hk; exact Nat.le_refl _)
  · obtain ⟨g, rfl⟩ := hcase.resolve_left hc
    go_enter Try.func94, Try.ntmps94
    go_wp2_with (refine wpList_append rfl (.tmp 23) (.tmp 24) 65 rfl 75 inf _ 3 40 Try.underlying65 hinf hz0 hz1 hz2 rfl (by decide) _ _ (l.flatMap chCells) rfl HV2.out ⟨vb, 0, none⟩ 1 1 (chCells c) rfl rfl (fun j u hu => by rw [Addr.add_mk, Nat.zero_add]; exact (cells_at HVB.out j).trans (by simpa using hu)) (ch_one c) (Room.one (by unfold maxLen; omega) (by decide) (by omega)) ?_; intro v3 w3 own3 fr3 fresh3)
    go_ret
    refine ⟨v3, rfl, ?_, ?_, fr3⟩
    · unfold OwnChg
      rw [List.length_append, List.length_singleton, List.flatMap_append, ← HN.out]
      simpa using own3
    · rcases fresh3 with h | h
      · exact .inl h
      · exact .inr (fun k hk => by rw [h] at hk; cases hk; exact Nat.le_refl _)

theorem insert_cells (l : List Chg) (i : Nat) (c : Chg) : (l.take i ++ c :: l.drop i).flatMap chCells = (l.flatMap chCells).take (i * 3) ++ chCells c ++ (l.flatMap chCells).drop (i * 3) := by
  rw [List.flatMap_append, List.flatMap_cons, flat_take, flat_drop, List.append_assoc]

set_option maxRecDepth 100000 in
set_option maxHeartbeats 4000000 in
/-- .. in the middle, where there is room. -/
theorem insert94_room (g cap : Nat) (l : List Chg) (i : Nat) (c : Chg) (vb : Nat) (w : World) (hv : OwnChg w (.slice (some ⟨g, 0, none⟩) l.length cap) l) (hi : i < l.length) (hroom : l.length + 1 ≤ cap) (hvb : w.heap[vb]? = some (.cells (chCells c).toArray 75 (0, 0))) (hne : vb ≠ g) (hl : l.length ≤ 1099511627776) :
    Calls Try.prog 94 #[.slice (some ⟨g, 0, none⟩) l.length cap, .int .i64 i, .slice (some ⟨vb, 0, none⟩) 1 1] w (InsPost w (.slice (some ⟨g, 0, none⟩) l.length cap) (l.take i ++ c :: l.drop i)) := by
  have HV := Lib.hid hv
  obtain ⟨cur, hg, hcm, hcs, ht⟩ : ∃ cur : Array Value, w.heap[g]? = some (.cells cur 75 (0, 0)) ∧ cap ≤ 9223372036854775807 ∧ cur.size = cap * 3 ∧ cur.toList.take (l.length * 3) = l.flatMap chCells := by
    rcases hv.2 with ⟨h, _⟩ | ⟨g', cap', cur, hvv, _, hg, hnc, hcm, hcs, ht⟩
    · cases h
    · simp only [Value.slice.injEq, Option.some.injEq, Addr.mk.injEq, and_true, true_and] at hvv
      obtain ⟨rfl, rfl⟩ := hvv
      exact ⟨cur, hg, by simpa [maxLen] using hcm, hcs, ht⟩
  have hcell := World.ownsRow.cells hv (g := g) rfl
  obtain ⟨n, hn⟩ : ∃ n, n = l.length := ⟨_, rfl⟩
  have HN := Lib.hid hn
  have hd3 : ((l.drop i).flatMap chCells).length = (n - i) * 3 := by rw [flat_len, List.length_drop, hn]
  obtain ⟨tl, htl⟩ : ∃ tl, tl = (l.drop i).flatMap chCells := ⟨_, rfl⟩
  have htl1 : ∀ u ∈ tl, u.oneCell' = true := by rw [htl]; exact chs_one _
  have htlc : ∀ j u, tl[j]? = some u → w.drew.cell? ((⟨g, i * 3, none⟩ : Addr).add j) = some u := fun j u hu => by
    rw [htl, flat_drop, List.getElem?_drop] at hu
    have := hcell (i * 3 + j) u hu
    rw [Addr.add_mk]
    rw [Addr.add_mk, Nat.zero_add] at this
    exact this
  rw [← htl] at hd3
  rw [← hn] at hi hroom hl ht ⊢
  have hcp1 : ∀ ty, (Builtin.copy_ #[65, 65] ty #[.slice (some ⟨g, (i + 1) * 3, none⟩) (n + 1 - (i + 1)) (cap - (i + 1)), .slice (some ⟨g, i * 3, none⟩) (n + 1 - i) (cap - i)]).run Try.prog w.drew = .ok (goInt (Nat.min (n + 1 - i) (n + 1 - (i + 1)))) (w.drew.setRow g (splice cur ((i + 1) * 3) tl)) := fun ty =>
    run_copy_rec w.drew 65 65 ty 75 3 g ((i + 1) * 3) _ _ ⟨g, i * 3, none⟩ _ _ cur 75 tl Try.underlying65 u75s hg (by rw [hd3]; simp only [Nat.min_def]; split <;> omega) htlc (by rw [hd3, hcs]; omega) htl1
  have hs1 : (splice cur ((i + 1) * 3) tl).size = cur.size := splice_size _ _ _ (by rw [hd3, hcs]; omega)
  obtain ⟨W1, hW1⟩ : ∃ W1, W1 = w.drew.setRow g (splice cur ((i + 1) * 3) tl) := ⟨_, rfl⟩
  have hg1 : W1.heap[g]? = some (.cells (splice cur ((i + 1) * 3) tl) 75 (0, 0)) := by rw [hW1]; exact setRow_heap w.drew g cur _ 75 _ hg
  have hv1 : W1.heap[vb]? = some (.cells (chCells c).toArray 75 (0, 0)) := by rw [hW1, heap_setRow, if_neg (fun e => hne e.symm)]; exact hvb
  rw [← hW1] at hcp1
  simp only [Nat.add_sub_add_right] at hcp1
  obtain ⟨cur1, hcur1⟩ : ∃ cur1, cur1 = splice cur ((i + 1) * 3) tl := ⟨_, rfl⟩
  rw [← hcur1] at hg1 hs1
  have hcp2 : ∀ ty, (Builtin.copy_ #[65, 65] ty #[.slice (some ⟨g, i * 3, none⟩) (n + 1 - i) (cap - i), .slice (some ⟨vb, 0, none⟩) 1 1]).run Try.prog W1 = .ok (goInt (Nat.min 1 (n + 1 - i))) (W1.setRow g (splice cur1 (i * 3) (chCells c))) := fun ty =>
    run_copy_rec W1 65 65 ty 75 3 g (i * 3) _ _ ⟨vb, 0, none⟩ 1 1 cur1 75 (chCells c) Try.underlying65 u75s hg1 (by simp only [Nat.min_def, chCells, List.length_cons, List.length_nil]; split <;> omega) (fun j u hu => by rw [Addr.add_mk, Nat.zero_add]; exact (cells_at hv1 j).trans (by simpa using hu)) (by rw [hs1, hcs]; simp [chCells]; omega) (ch_one c)
  have hfin : OwnChg (W1.setRow g (splice cur1 (i * 3) (chCells c))) (.slice (some ⟨g, 0, none⟩) (n + 1) cap) (l.take i ++ c :: l.drop i) := by
    have hll : (l.take i ++ c :: l.drop i).length = n + 1 := by simp; omega
    unfold OwnChg
    rw [hll]
    have hc3 : (chCells c).length = 3 := rfl
    refine ⟨by rw [flat_len, hll], .inr ⟨g, cap, _, rfl, Nat.zero_le _, setRow_heap W1 g cur1 _ 75 _ hg1, by omega, by unfold maxLen; omega, ?_, ?_⟩⟩
    · rw [splice_size _ _ _ (by rw [hc3, hs1, hcs]; omega), hs1, hcs]
    · rw [insert_cells, ← ht, List.take_take, Nat.min_eq_left (by omega), splice_toList, hc3]
      have e1 : cur1.toList.take (i * 3) = cur.toList.take (i * 3) := by
        rw [hcur1, splice_toList, List.append_assoc, List.take_append_of_le_length (by rw [List.length_take]; simp [hcs]; omega), List.take_take, Nat.min_eq_left (by omega)]
      have e2 : cur1.toList.drop (i * 3 + 3) = tl ++ cur.toList.drop ((i + 1) * 3 + tl.length) := by
        rw [hcur1, splice_toList, List.append_assoc]
        have e3 : (cur.toList.take ((i + 1) * 3)).length = i * 3 + 3 := by rw [List.length_take]; simp [hcs]; omega
        rw [← e3, List.drop_left]
      rw [e1, e2]
      have e4 : (cur.toList.take (i * 3) ++ chCells c ++ (cur.toList.take (n * 3)).drop (i * 3)).length = (n + 1) * 3 := by
        simp only [List.length_append, List.length_take, List.length_drop, Array.length_toList, hc3, hcs]; omega
      have e5 : tl = (cur.toList.take (n * 3)).drop (i * 3) := by rw [ht, htl, flat_drop]
      rw [← e4, ← e5, ← List.append_assoc, List.take_left]
  have hfr : Fr (fun k => (Value.slice (some ⟨g, 0, none⟩) n cap).ownBlock = some k) w (W1.setRow g (splice cur1 (i * 3) (chCells c))) := by
    rw [hW1]
    have h0 : Fr (fun k => (Value.slice (some ⟨g, 0, none⟩) n cap).ownBlock = some k) w w.drew := (Fr.refl _ w).drew
    exact (h0.setRow (g := g) _ (.inl rfl)).setRow (g := g) _ (.inl rfl)
  have HFIN := Lib.hid hfin; have HFR := Lib.hid hfr
  have hov : ∀ lb cb, (callFunc 106 #[.slice (some ⟨vb, 0, none⟩) 1 1, .slice (some ⟨g, (i + 1) * 3, none⟩) lb cb]).run Try.prog w = .ok (.value (.bool false)) w := fun lb cb => by
    rw [run_callFunc_extern Try.func106 (by kernel_rfl) (by kernel_rfl) (by kernel_rfl) (e := Extern.SlicesOverlaps.overlaps #[65, 65] #[4]) (by kernel_rfl),
      Lib.run_overlaps_apart w 65 4 75 Try.underlying65 3 (fun w => run_sizeOf u75s w) ⟨vb, 0, none⟩ ⟨g, (i + 1) * 3, none⟩ 1 1 lb cb hne 75 75 3 (cap * 3) (by simp [World.shape?, hvb, chCells]) (by simp [World.shape?, hg, hcs]) (by omega) (by rw [frozen?_mk, hvb]; exact freeIn_some _ _ _) (by rw [frozen?_mk, hvb]; exact freeIn_some _ _ _)]
    rfl
  have t1 : ((i : Int) == (n : Int)) = false := by simp; omega
  have t2 : decide ((cap : Int) < (n : Int) + 1) = false := by simp; omega
  have hin : i ≤ n := by omega
  have hb1 : (0 : Int) ≤ (i : Int) + 1 := by omega
  have hb2 : (i : Int) + 1 ≤ (n : Int) + 1 := by omega
  have hb3 : i + 1 ≤ n + 1 := by omega
  have hb4 : (i : Int) ≤ (n : Int) + 1 := by omega
  have hb5 : i ≤ n + 1 := by omega
  have hb6 : (0 : Int) ≤ (n : Int) + 1 := by omega
  have hb7 : (n : Int) + 1 ≤ (cap : Int) := by omega
  have hc1 : ¬ cap = i := by omega
  have hc2 : ¬ cap = i + 1 := by omega
  have hB1 : wrap64 ((n : Int) + 1) = (n : Int) + 1 := w64 _ (by omega)
  have hB2 : wrap64 ((i : Int) + 1) = (i : Int) + 1 := w64 _ (by omega)
  clear hfin hfr hg1 hv1 hs1 hcur1 hW1 htlc htl1 htl hd3 hcell ht hn hv
  go_enter Try.func94, Try.ntmps94
  go_wp2_with (simp only [hov])
  refine start_ (n := 9) (S := fun w' => w'.heap[g]? = some (.cells cur 75 (0, 0))) (ds := [8]) #[false, false, false, false, false, false, false, false, false] (by kernel_rfl) rfl rfl (hg) (fun hHeld => ?_)
  refine pure_ (i := 0) (N := some 69) (v := ?_) (a' := ?_) #[true, false, false, false, false, false, false, false, false] rfl rfl (by kernel_rfl) (fun _ _ _ h => h) (Or.inl ⟨by rfl, ?_⟩) ?_ ?_
  rotate_left
  · intro w'
    try simp only [List.getElem_toArray, List.getElem_cons_succ, List.getElem_cons_zero]
    go_simp
    with_reducible rfl
  rotate_left
  · simp only [Act.put, List.setIfInBounds_toArray, List.set_cons_zero, List.set_cons_succ, i64_w, i32_w]
    rfl
  refine pure_ (i := 1) (N := some 70) (v := ?_) (a' := ?_) #[true, true, false, false, false, false, false, false, false] rfl rfl (by kernel_rfl) (fun _ _ _ h => h) (Or.inl ⟨by rfl, ?_⟩) ?_ ?_
  rotate_left
  · intro w'
    try simp only [List.getElem_toArray, List.getElem_cons_succ, List.getElem_cons_zero]
    go_simp
    with_reducible rfl
  rotate_left
  · simp only [Act.put, List.setIfInBounds_toArray, List.set_cons_zero, List.set_cons_succ, i64_w, i32_w]
    rfl
  refine pure_ (i := 2) (N := some 71) (v := ?_) (a' := ?_) #[true, true, true, false, false, false, false, false, false] rfl rfl (by kernel_rfl) (fun _ _ _ h => h) (Or.inl ⟨by rfl, ?_⟩) ?_ ?_
  rotate_left
  · intro w'
    try simp only [List.getElem_toArray, List.getElem_cons_succ, List.getElem_cons_zero]
    go_simp
    with_reducible rfl
  rotate_left
  · simp only [Act.put, List.setIfInBounds_toArray, List.set_cons_zero, List.set_cons_succ, i64_w, i32_w]
    rfl
  refine pure_ (i := 3) (N := some 72) (v := ?_) (a' := ?_) #[true, true, true, true, false, false, false, false, false] rfl rfl (by kernel_rfl) (fun _ _ _ h => h) (Or.inl ⟨by rfl, ?_⟩) ?_ ?_
  rotate_left
  · intro w'
    try simp only [List.getElem_toArray, List.getElem_cons_succ, List.getElem_cons_zero]
    go_simp
    with_reducible rfl
  rotate_left
  · simp only [Act.put, List.setIfInBounds_toArray, List.set_cons_zero, List.set_cons_succ, i64_w, i32_w]
    rfl
  refine pure_ (i := 4) (N := some 73) (v := ?_) (a' := ?_) #[true, true, true, true, true, false, false, false, false] rfl rfl (by kernel_rfl) (fun _ _ _ h => h) (Or.inl ⟨by rfl, ?_⟩) ?_ ?_
  rotate_left
  · intro w'
    try simp only [List.getElem_toArray, List.getElem_cons_succ, List.getElem_cons_zero]
    go_simp
    with_reducible rfl
  rotate_left
  · simp only [Act.put, List.setIfInBounds_toArray, List.set_cons_zero, List.set_cons_succ, i64_w, i32_w]
    rfl
  refine pure_ (i := 5) (N := some 74) (v := ?_) (a' := ?_) #[true, true, true, true, true, true, false, false, false] rfl rfl (by kernel_rfl) (fun _ _ _ h => h) (Or.inl ⟨by rfl, ?_⟩) ?_ ?_
  rotate_left
  · intro w'
    try simp only [List.getElem_toArray, List.getElem_cons_succ, List.getElem_cons_zero]
    go_simp
    with_reducible rfl
  rotate_left
  · simp only [Act.put, List.setIfInBounds_toArray, List.set_cons_zero, List.set_cons_succ, i64_w, i32_w]
    rfl
  refine pure_ (i := 6) (N := some 75) (v := ?_) (a' := ?_) #[true, true, true, true, true, true, true, false, false] rfl rfl (by kernel_rfl) (fun _ _ _ h => h) (Or.inl ⟨by rfl, ?_⟩) ?_ ?_
  rotate_left
  · intro w'
    try simp only [List.getElem_toArray, List.getElem_cons_succ, List.getElem_cons_zero]
    go_simp
    with_reducible rfl
  rotate_left
  · simp only [Act.put, List.setIfInBounds_toArray, List.set_cons_zero, List.set_cons_succ, i64_w, i32_w]
    rfl
  refine pure_ (i := 7) (N := some 76) (v := ?_) (a' := ?_) #[true, true, true, true, true, true, true, true, false] rfl rfl (by kernel_rfl) (fun _ _ _ h => h) (Or.inl ⟨by rfl, ?_⟩) ?_ ?_
  rotate_left
  · intro w'
    try simp only [List.getElem_toArray, List.getElem_cons_succ, List.getElem_cons_zero]
    go_simp
    with_reducible rfl
  rotate_left
  · simp only [Act.put, List.setIfInBounds_toArray, List.set_cons_zero, List.set_cons_succ, i64_w, i32_w]
    rfl
  refine last_ (i := 8) (N := some 77) #[true, true, true, true, true, true, true, true, true] rfl rfl (by kernel_rfl) (by decide) (fun K hK => ?_)
  refine step_copy_run (by rfl) (.tmp 73) (.tmp 76) 65 rfl _ _ rfl rfl hcp1 ?_
  refine hK.out _ _ ?_
  clear hK K
  refine norm_ (a' := ?_) ?_ ?_
  rotate_left
  · show Act.put _ (some 77) _ = _
    simp only [Act.put, List.setIfInBounds_toArray, List.set_cons_zero, List.set_cons_succ, i64_w, i32_w]
    rfl
  refine done_ (by kernel_rfl) ?_

  go_wp2_with (refine wpList_copy_run rfl (.tmp 80) (.tmp 81) 65 rfl _ _ rfl rfl hcp2 ?_)
  go_ret
  exact ⟨_, rfl, HFIN.out, .inl rfl, HFR.out⟩
def zc75 (n : Nat) : Array Value := Builtin.zeroCells (Value.agg #[.string ByteArray.empty, .string ByteArray.empty, .bool false]).cells n
theorem zc75_size (n : Nat) : (zc75 n).size = n * 3 := by simp [zc75, size_zeroCells, Value.cells]

set_option maxRecDepth 100000 in
set_option maxHeartbeats 4000000 in
/-- .. in the middle, where there is no room: a new row. -/
theorem insert94_grow (g : Nat) (l : List Chg) (i : Nat) (c : Chg) (vb : Nat) (w : World) (hv : OwnChg w (.slice (some ⟨g, 0, none⟩) l.length l.length) l) (hi : i < l.length) (hvb : w.heap[vb]? = some (.cells (chCells c).toArray 75 (0, 0))) (hl : l.length ≤ 1099511627776) :
    Calls Try.prog 94 #[.slice (some ⟨g, 0, none⟩) l.length l.length, .int .i64 i, .slice (some ⟨vb, 0, none⟩) 1 1] w (InsPost w (.slice (some ⟨g, 0, none⟩) l.length l.length) (l.take i ++ c :: l.drop i)) := by
  have HV := Lib.hid hv
  obtain ⟨inf, hinf, hz0, hz1, hz2⟩ := info_parts info75
  have hcell0 := World.ownsRow.cells hv (g := g) rfl
  have hcell : ∀ j u, (l.flatMap chCells)[j]? = some u → w.cell? ((⟨g, 0, none⟩ : Addr).add j) = some u := hcell0
  have hgl : g < w.heap.size := HV.out.lt g rfl
  have hvl := (Array.getElem?_eq_some_iff.mp hvb).1
  obtain ⟨n, hn⟩ : ∃ n, n = l.length := ⟨_, rfl⟩
  have hdl : ((l.drop i).flatMap chCells).length = (n - i) * 3 := by rw [flat_len, List.length_drop, hn]
  have htl' : ((l.take i).flatMap chCells).length = i * 3 := by rw [flat_len, List.length_take, ← hn]; omega
  obtain ⟨hd, hhd⟩ : ∃ hd, hd = (l.take i).flatMap chCells := ⟨_, rfl⟩
  obtain ⟨tl, htl⟩ : ∃ tl, tl = (l.drop i).flatMap chCells := ⟨_, rfl⟩
  have htl1 : ∀ u ∈ tl, u.oneCell' = true := by rw [htl]; exact chs_one _
  rw [← htl] at hdl
  rw [← hhd] at htl'
  rw [← hn] at hi hl ⊢
  have hold : (Builtin.firstCells inf.size i (.slice (some ⟨g, 0, none⟩) i n)).run Try.prog w.drew = .ok hd.toArray w.drew := by
    rw [hz1]
    exact run_firstCells_some w.drew 3 i ⟨g, 0, none⟩ i n hd (by rw [htl']) (fun j v hj => by
      rw [hhd, flat_take, List.getElem?_take] at hj
      split at hj
      · exact hcell j v hj
      · cases hj)
  have hG0 : n + 1 ≤ grownCap w (n + 1) n 75 := grownCap_ge w _ _ _
  have hG1 := grownCap_le_maxLen w (n + 1) n 75 (by unfold maxLen; omega)
  have hrm : Room 40 n 1 := Room.one (by unfold maxLen; omega) (by decide) (by omega)
  have hrz : ∀ ty, (Builtin.append_ #[65, 3] ty #[.slice (some ⟨g, 0, none⟩) i n, .int .i64 ((n : Int) + 1 - (i : Int))]).run Try.prog w =
      .ok (.slice (some ⟨w.heap.size, 0, none⟩) (n + 1) (grownCap w (n + 1) n 75)) (w.drew.alloc (.cells (hd.toArray ++ zc75 (n + 1 - i) ++ zc75 (grownCap w (n + 1) n 75 - (n + 1))) 75)) := fun ty => by
    have hik : i + (n + 1 - i) = n + 1 := by omega
    have h := Lib.run_append_grow_zeros w 65 3 ty 75 inf _ .i64 .i64 Try.underlying65 Try.underlying3 hinf hz0 (some ⟨g, 0, none⟩) i n hd hold (n + 1 - i) (by omega) (by rw [hz1]; omega) (by omega) (by omega) (by rw [hz2]; omega) (by rw [hz2, hik]; exact hrm.2 n (Nat.le_refl _) (by omega))
    rw [hik] at h
    rw [show (n : Int) + 1 - (i : Int) = ((n + 1 - i : Nat) : Int) by omega]
    exact h
  obtain ⟨G, hG⟩ : ∃ G, G = grownCap w (n + 1) n 75 := ⟨_, rfl⟩
  rw [← hG] at hG0 hG1 hrz
  unfold maxLen at hG1
  obtain ⟨N, hN⟩ : ∃ N, N = w.heap.size := ⟨_, rfl⟩
  rw [← hN] at hrz
  obtain ⟨ROW, hROW⟩ : ∃ ROW, ROW = hd.toArray ++ zc75 (n + 1 - i) ++ zc75 (G - (n + 1)) := ⟨_, rfl⟩
  have hRs : ROW.size = G * 3 := by rw [hROW]; simp only [Array.size_append, zc75_size, List.size_toArray, htl']; omega
  have hRt : ROW.toList.take (i * 3) = hd := by
    rw [hROW, Array.toList_append, Array.toList_append, List.append_assoc, ← htl', List.take_left]
  rw [← hROW] at hrz
  obtain ⟨W1, hW1⟩ : ∃ W1, W1 = w.drew.alloc (.cells ROW 75) := ⟨_, rfl⟩
  rw [← hW1] at hrz
  have fr1 : Fr (fun _ => False) w W1 := by rw [hW1]; exact (Fr.refl _ w).drew.alloc _
  have hN1 : W1.heap[N]? = some (.cells ROW 75 (0, 0)) := by rw [hW1, hN]; exact heap_alloc_at w.drew _
  have hv1 : W1.heap[vb]? = some (.cells (chCells c).toArray 75 (0, 0)) := fr1.at hvb (fun h => h)
  have hc3 : (chCells c).length = 3 := rfl
  have hcp1 : ∀ ty, (Builtin.copy_ #[65, 65] ty #[.slice (some ⟨N, i * 3, none⟩) (n + 1 - i) (G - i), .slice (some ⟨vb, 0, none⟩) 1 1]).run Try.prog W1 = .ok (goInt (Nat.min 1 (n + 1 - i))) (W1.setRow N (splice ROW (i * 3) (chCells c))) := fun ty =>
    run_copy_rec W1 65 65 ty 75 3 N (i * 3) _ _ ⟨vb, 0, none⟩ 1 1 ROW 75 (chCells c) Try.underlying65 u75s hN1 (by simp only [Nat.min_def, hc3]; split <;> omega) (fun j u hu => by rw [Addr.add_mk, Nat.zero_add]; exact (cells_at hv1 j).trans (by simpa using hu)) (by rw [hRs, hc3]; omega) (ch_one c)
  obtain ⟨ROW2, hROW2⟩ : ∃ ROW2, ROW2 = splice ROW (i * 3) (chCells c) := ⟨_, rfl⟩
  have hR2s : ROW2.size = G * 3 := by rw [hROW2, splice_size _ _ _ (by rw [hRs, hc3]; omega), hRs]
  rw [← hROW2] at hcp1
  obtain ⟨W2, hW2⟩ : ∃ W2, W2 = W1.setRow N ROW2 := ⟨_, rfl⟩
  rw [← hW2] at hcp1
  have hN2 : W2.heap[N]? = some (.cells ROW2 75 (0, 0)) := by rw [hW2]; exact setRow_heap W1 N ROW _ 75 _ hN1
  have fr2 : Fr (fun k => k = N) W1 W2 := by rw [hW2]; exact (Fr.refl _ W1).setRow (g := N) _ (.inl rfl)
  have hgN : g ≠ N := by omega
  have hcp2 : ∀ ty, (Builtin.copy_ #[65, 65] ty #[.slice (some ⟨N, (i + 1) * 3, none⟩) (n - i) (G - (i + 1)), .slice (some ⟨g, i * 3, none⟩) (n - i) (n - i)]).run Try.prog W2.drew = .ok (goInt (Nat.min (n - i) (n - i))) (W2.drew.setRow N (splice ROW2 ((i + 1) * 3) tl)) := fun ty =>
    run_copy_rec W2.drew 65 65 ty 75 3 N ((i + 1) * 3) _ _ ⟨g, i * 3, none⟩ _ _ ROW2 75 tl Try.underlying65 u75s hN2 (by rw [hdl]; simp only [Nat.min_def]; split <;> omega) (fun j u hu => by
      rw [htl, flat_drop, List.getElem?_drop] at hu
      have h0 := hcell (i * 3 + j) u hu
      rw [Addr.add_mk, Nat.zero_add] at h0
      rw [Addr.add_mk]
      exact fr2.cell (fr1.cell h0 (fun h => h)) hgN) (by rw [hdl, hR2s]; omega) htl1
  obtain ⟨W3, hW3⟩ : ∃ W3, W3 = W2.drew.setRow N (splice ROW2 ((i + 1) * 3) tl) := ⟨_, rfl⟩
  rw [← hW3] at hcp2
  have fr3 : Fr (fun k => k = N) W2 W3 := by rw [hW3]; exact (Fr.refl _ W2).drew.setRow (g := N) _ (.inl rfl)
  have hfin : OwnChg W3 (.slice (some ⟨N, 0, none⟩) (n + 1) G) (l.take i ++ c :: l.drop i) := by
    have hll : (l.take i ++ c :: l.drop i).length = n + 1 := by simp; omega
    unfold OwnChg
    rw [hll]
    refine ⟨by rw [flat_len, hll], .inr ⟨N, G, _, rfl, Nat.zero_le _, by rw [hW3]; exact setRow_heap W2.drew N ROW2 _ 75 _ hN2, by omega, by unfold maxLen; omega, ?_, ?_⟩⟩
    · rw [splice_size _ _ _ (by rw [hdl, hR2s]; omega), hR2s]
    · rw [List.flatMap_append, List.flatMap_cons, ← hhd, ← htl, splice_toList]
      have e1 : ROW2.toList.take ((i + 1) * 3) = hd ++ chCells c := by
        rw [hROW2, splice_toList, hRt]
        have : (hd ++ chCells c).length = (i + 1) * 3 := by rw [List.length_append, htl', hc3]; omega
        rw [← this, List.take_left]
      rw [e1]
      have e4 : (hd ++ chCells c ++ tl).length = (n + 1) * 3 := by rw [List.length_append, List.length_append, htl', hc3, hdl]; omega
      rw [← e4, List.take_left, List.append_assoc]
  have hfr : Fr (fun k => (Value.slice (some ⟨g, 0, none⟩) n n).ownBlock = some k) w W3 :=
    (fr1.mono (fun _ _ h => h.elim)).trans (fr2.trans fr3 (fun k hk => .inl hk)) (fun k hk => .inr (by omega))
  have HFIN := Lib.hid hfin; have HFR := Lib.hid hfr
  have HNW := Lib.hid hN
  have t1 : ((i : Int) == (n : Int)) = false := by simp; omega
  have t2 : decide ((n : Int) < (n : Int) + 1) = true := by simp; omega
  have hin : i ≤ n := by omega
  have hb1 : (0 : Int) ≤ (i : Int) + 1 := by omega
  have hb2 : (i : Int) + 1 ≤ (n : Int) + 1 := by omega
  have hb3 : i + 1 ≤ n + 1 := by omega
  have hb4 : (i : Int) ≤ (n : Int) + 1 := by omega
  have hb5 : i ≤ n + 1 := by omega
  have hc1 : ¬ G = i := by omega
  have hc2 : ¬ G = i + 1 := by omega
  have hc4 : ¬ n = i := by omega
  have hc5 : (n : Int) + 1 ≤ (G : Int) := by omega
  obtain ⟨hB1, hB3, hB2⟩ : wrap64 ((n : Int) + 1) = (n : Int) + 1 ∧ wrap64 ((n : Int) + 1 - (i : Int)) = (n : Int) + 1 - (i : Int) ∧ wrap64 ((i : Int) + 1) = (i : Int) + 1 := ⟨w64 _ (by omega), w64 _ (by omega), w64 _ (by omega)⟩
  clear hfin hfr fr1 fr2 fr3 hN1 hv1 hW1 hW2 hW3 hG hN hROW hROW2 hRs hRt hR2s htl1 htl hhd htl' hdl hcell hcell0 hn hv hold hgl hvl
  go_enter Try.func94, Try.ntmps94
  go_wp2_with (first
    | (refine Lib.wpList_append_run _ rfl _ _ _ _ rfl _ _ rfl rfl _ _ (hrz _) ?_)
    | (refine wpList_copy_run rfl (.tmp 43) (.tmp 44) 65 rfl _ _ rfl rfl hcp1 ?_))
  refine start_ (n := 9) (S := fun w' => w'.heap[N]? = some (.cells ROW2 75 (0, 0))) (ds := [8]) #[false, false, false, false, false, false, false, false, false] (by kernel_rfl) rfl rfl (hN2) (fun hHeld => ?_)
  refine pure_ (i := 0) (N := some 46) (v := ?_) (a' := ?_) #[true, false, false, false, false, false, false, false, false] rfl rfl (by kernel_rfl) (fun _ _ _ h => h) (Or.inl ⟨by rfl, ?_⟩) ?_ ?_
  rotate_left
  · intro w'
    try simp only [List.getElem_toArray, List.getElem_cons_succ, List.getElem_cons_zero]
    go_simp
    with_reducible rfl
  rotate_left
  · simp only [Act.put, List.setIfInBounds_toArray, List.set_cons_zero, List.set_cons_succ, i64_w, i32_w]
    rfl
  refine pure_ (i := 1) (N := some 47) (v := ?_) (a' := ?_) #[true, true, false, false, false, false, false, false, false] rfl rfl (by kernel_rfl) (fun _ _ _ h => h) (Or.inl ⟨by rfl, ?_⟩) ?_ ?_
  rotate_left
  · intro w'
    try simp only [List.getElem_toArray, List.getElem_cons_succ, List.getElem_cons_zero]
    go_simp
    with_reducible rfl
  rotate_left
  · simp only [Act.put, List.setIfInBounds_toArray, List.set_cons_zero, List.set_cons_succ, i64_w, i32_w]
    rfl
  refine pure_ (i := 2) (N := some 48) (v := ?_) (a' := ?_) #[true, true, true, false, false, false, false, false, false] rfl rfl (by kernel_rfl) (fun _ _ _ h => h) (Or.inl ⟨by rfl, ?_⟩) ?_ ?_
  rotate_left
  · intro w'
    try simp only [List.getElem_toArray, List.getElem_cons_succ, List.getElem_cons_zero]
    go_simp
    with_reducible rfl
  rotate_left
  · simp only [Act.put, List.setIfInBounds_toArray, List.set_cons_zero, List.set_cons_succ, i64_w, i32_w]
    rfl
  refine pure_ (i := 3) (N := some 49) (v := ?_) (a' := ?_) #[true, true, true, true, false, false, false, false, false] rfl rfl (by kernel_rfl) (fun _ _ _ h => h) (Or.inl ⟨by rfl, ?_⟩) ?_ ?_
  rotate_left
  · intro w'
    try simp only [List.getElem_toArray, List.getElem_cons_succ, List.getElem_cons_zero]
    go_simp
    with_reducible rfl
  rotate_left
  · simp only [Act.put, List.setIfInBounds_toArray, List.set_cons_zero, List.set_cons_succ, i64_w, i32_w]
    rfl
  refine pure_ (i := 4) (N := some 50) (v := ?_) (a' := ?_) #[true, true, true, true, true, false, false, false, false] rfl rfl (by kernel_rfl) (fun _ _ _ h => h) (Or.inl ⟨by rfl, ?_⟩) ?_ ?_
  rotate_left
  · intro w'
    try simp only [List.getElem_toArray, List.getElem_cons_succ, List.getElem_cons_zero]
    go_simp
    with_reducible rfl
  rotate_left
  · simp only [Act.put, List.setIfInBounds_toArray, List.set_cons_zero, List.set_cons_succ, i64_w, i32_w]
    rfl
  refine pure_ (i := 5) (N := some 51) (v := ?_) (a' := ?_) #[true, true, true, true, true, true, false, false, false] rfl rfl (by kernel_rfl) (fun _ _ _ h => h) (Or.inl ⟨by rfl, ?_⟩) ?_ ?_
  rotate_left
  · intro w'
    try simp only [List.getElem_toArray, List.getElem_cons_succ, List.getElem_cons_zero]
    go_simp
    with_reducible rfl
  rotate_left
  · simp only [Act.put, List.setIfInBounds_toArray, List.set_cons_zero, List.set_cons_succ, i64_w, i32_w]
    rfl
  refine pure_ (i := 6) (N := some 52) (v := ?_) (a' := ?_) #[true, true, true, true, true, true, true, false, false] rfl rfl (by kernel_rfl) (fun _ _ _ h => h) (Or.inl ⟨by rfl, ?_⟩) ?_ ?_
  rotate_left
  · intro w'
    try simp only [List.getElem_toArray, List.getElem_cons_succ, List.getElem_cons_zero]
    go_simp
    with_reducible rfl
  rotate_left
  · simp only [Act.put, List.setIfInBounds_toArray, List.set_cons_zero, List.set_cons_succ, i64_w, i32_w]
    rfl
  refine pure_ (i := 7) (N := some 53) (v := ?_) (a' := ?_) #[true, true, true, true, true, true, true, true, false] rfl rfl (by kernel_rfl) (fun _ _ _ h => h) (Or.inl ⟨by rfl, ?_⟩) ?_ ?_
  rotate_left
  · intro w'
    try simp only [List.getElem_toArray, List.getElem_cons_succ, List.getElem_cons_zero]
    go_simp
    with_reducible rfl
  rotate_left
  · simp only [Act.put, List.setIfInBounds_toArray, List.set_cons_zero, List.set_cons_succ, i64_w, i32_w]
    rfl
  refine last_ (i := 8) (N := some 54) #[true, true, true, true, true, true, true, true, true] rfl rfl (by kernel_rfl) (by decide) (fun K hK => ?_)
  refine step_copy_run (by rfl) (.tmp 50) (.tmp 53) 65 rfl _ _ rfl rfl hcp2 ?_
  refine hK.out _ _ ?_
  clear hK K
  refine norm_ (a' := ?_) ?_ ?_
  rotate_left
  · show Act.put _ (some 54) _ = _
    simp only [Act.put, List.setIfInBounds_toArray, List.set_cons_zero, List.set_cons_succ, i64_w, i32_w]
    rfl
  refine done_ (by kernel_rfl) ?_

  go_wp2
  go_ret
  exact ⟨_, rfl, HFIN.out, .inr (fun k hk => by cases hk; exact Nat.le_of_eq HNW.out.symm), HFR.out⟩

/-- slices.Insert of one change, wherever. -/
theorem insert94 (v : Value) (l : List Chg) (i : Nat) (c : Chg) (vb : Nat) (w : World) (hv : OwnChg w v l) (hi : i ≤ l.length) (hvb : w.heap[vb]? = some (.cells (chCells c).toArray 75 (0, 0))) (hne : v.ownBlock ≠ some vb) (hl : l.length ≤ 1099511627776) :
    Calls Try.prog 94 #[v, .int .i64 (i : Nat), .slice (some ⟨vb, 0, none⟩) 1 1] w (InsPost w v (l.take i ++ c :: l.drop i)) := by
  rcases Nat.lt_or_ge i l.length with h | h
  · rcases hv.2 with ⟨rfl, h0⟩ | ⟨g, cap, cur, rfl, _, hg, hnc, hcm, hcs, ht⟩
    · omega
    · rcases Nat.lt_or_ge l.length cap with hc | hc
      · exact insert94_room g cap l i c vb w hv h hc hvb (fun e => hne (by rw [e]; rfl)) hl
      · obtain rfl : cap = l.length := Nat.le_antisymm hc hnc
        exact insert94_grow g l i c vb w hv h hvb hl
  · obtain rfl : i = l.length := Nat.le_antisymm hi h
    rw [List.take_length, List.drop_length]
    exact insert94_end v l c vb w hv hvb hl
end Go.Proofs.Ytnpeeephkkmomaa
namespace Go.Proofs.Ytnpeeephkkmomaa
open Go.RowKit Go.Proofs.YtnpeeephkkmomaaW.PrintLast
set_option linter.unusedVariables false
set_option linter.unusedSimpArgs false

theorem tw_len {α : Type} (p : α → Bool) : ∀ (l : List α) (i : Nat), i ≤ l.length → (∀ q (h : q < l.length), q < i → p l[q] = true) → (∀ h : i < l.length, p l[i] = false) → (l.takeWhile p).length = i
  | [], i, h, _, _ => by simp at h; simp [h]
  | x :: l, 0, _, _, h => by
    have := h (by simp)
    simp only [List.getElem_cons_zero] at this
    simp [List.takeWhile_cons, this]
  | x :: l, i + 1, h, lo, hi => by
    have h0 := lo 0 (by simp) (by omega)
    simp only [List.getElem_cons_zero] at h0
    have ih := tw_len p l i (by simpa using h) (fun q hq hqi => by have := lo (q + 1) (by simpa using hq) (by omega); simpa using this) (fun hl => by have := hi (by simpa using hl); simpa using this)
    simp [List.takeWhile_cons, h0, ih]
theorem tw_lo {α : Type} (p : α → Bool) : ∀ (l : List α) (q : Nat) (h : q < l.length), q < (l.takeWhile p).length → p l[q] = true
  | x :: l, q, h, hq => by
    cases hp : p x with
    | false => simp [List.takeWhile_cons, hp] at hq
    | true =>
      cases q with
      | zero => exact hp
      | succ q => simp [List.takeWhile_cons, hp] at hq; exact tw_lo p l q (by simpa using h) hq
theorem tw_le {α : Type} (p : α → Bool) : ∀ (l : List α), (l.takeWhile p).length ≤ l.length
  | [] => by simp
  | x :: l => by
    have := tw_le p l
    simp only [List.takeWhile_cons]
    split <;> simp <;> omega
theorem tw_hi {α : Type} (p : α → Bool) : ∀ (l : List α) (h : (l.takeWhile p).length < l.length), p l[(l.takeWhile p).length] = false
  | x :: l, h => by
    cases hp : p x with
    | false => simp only [List.takeWhile_cons, hp]; simpa using hp
    | true =>
      have hl : (l.takeWhile p).length < l.length := by simpa [List.takeWhile_cons, hp] using h
      have ih := tw_hi p l hl
      have e : ((x :: l).takeWhile p).length = (l.takeWhile p).length + 1 := by simp [List.takeWhile_cons, hp]
      have e2 : (x :: l)[((x :: l).takeWhile p).length] = l[(l.takeWhile p).length] := by
        have : (x :: l)[(l.takeWhile p).length + 1]'(by simpa using hl) = l[(l.takeWhile p).length] := rfl
        rw [← this]; congr 1
      rw [e2]; exact ih
/-- Where a key stands, or would stand. -/
def posOf (l : List Chg) (k : List UInt8) : Nat := (l.takeWhile fun x => decide (Lib.compareBytes x.key k < 0)).length
def hasKey (l : List Chg) (k : List UInt8) : Bool := l.any fun x => x.key == k
theorem FindAt.eq {l : List Chg} {k : List UInt8} {i : Nat} {found : Bool} (h : FindAt l k i found) (hr : Rising l) : i = posOf l k ∧ found = hasKey l k := by
  refine ⟨(tw_len _ l i h.le (fun q hq hqi => by simpa using h.lo q hq hqi) (fun hl => by have := h.hi i hl (Nat.le_refl _); simp; omega)).symm, ?_⟩
  have : found = true ↔ hasKey l k = true := by
    rw [h.is]
    unfold hasKey
    rw [List.any_eq_true]
    constructor
    · rintro ⟨hl, e⟩; exact ⟨_, List.getElem_mem hl, by simpa using e⟩
    · rintro ⟨x, hx, e⟩
      obtain ⟨q, hq, rfl⟩ := List.mem_iff_getElem.1 hx
      have e : l[q].key = k := by simpa using e
      have h0 : Lib.compareBytes l[q].key k = 0 := by rw [e]; exact cb_refl k
      rcases Nat.lt_trichotomy q i with h1 | h1 | h1
      · have := h.lo q hq h1; omega
      · subst h1; exact ⟨hq, e⟩
      · have := h.hi i (by omega) (Nat.le_refl _)
        have := hr i q (by omega) hq h1
        rw [e] at this; omega
  cases found <;> cases hh : hasKey l k <;> simp_all
theorem findAt_pos (l : List Chg) (k : List UInt8) (hr : Rising l) : FindAt l k (posOf l k) (hasKey l k) := by
  have hle := tw_le (fun x : Chg => decide (Lib.compareBytes x.key k < 0)) l
  have key : ∃ found, FindAt l k (posOf l k) found := by
    refine ⟨decide (∃ h : posOf l k < l.length, l[posOf l k].key = k), hle, fun q hq hqi => by simpa using tw_lo _ l q hq hqi, fun q hq hqi => ?_, by simp⟩
    have h1 : posOf l k < l.length := by omega
    have h0 := tw_hi (fun x : Chg => decide (Lib.compareBytes x.key k < 0)) l h1
    simp only [decide_eq_false_iff_not] at h0
    rcases Nat.lt_or_ge (posOf l k) q with h2 | h2
    · rcases Int.lt_or_le (Lib.compareBytes l[q].key k) 0 with h3 | h3
      · exact absurd (cb_trans _ _ _ (hr _ q h1 hq h2) h3) h0
      · exact h3
    · obtain rfl : q = posOf l k := by omega
      exact Int.not_lt.1 h0
  obtain ⟨found, hf⟩ := key
  rw [← (hf.eq hr).2]; exact hf
/-- The pairs behind one change. -/
def applyOne (l : List Chg) (c : Chg) : List Chg :=
  if hasKey l c.key then (if c.gone then l.eraseIdx (posOf l c.key) else l.set (posOf l c.key) c)
  else if c.gone then l else l.take (posOf l c.key) ++ c :: l.drop (posOf l c.key)
def applyAll (l b : List Chg) : List Chg := b.foldl applyOne l
theorem applyAll_snoc (l b : List Chg) (c : Chg) : applyAll l (b ++ [c]) = applyOne (applyAll l b) c := by simp [applyAll]
theorem Rising.iff (l : List Chg) : Rising l ↔ l.Pairwise (fun a b => Lib.compareBytes a.key b.key < 0) := by
  rw [List.pairwise_iff_getElem]; rfl
theorem Rising.one {l : List Chg} (c : Chg) (hr : Rising l) : Rising (applyOne l c) := by
  have F := findAt_pos l c.key hr
  generalize hp : posOf l c.key = p at F
  unfold applyOne
  rw [hp]
  cases hk : hasKey l c.key with
  | true =>
    rw [hk] at F
    obtain ⟨hl, e⟩ := F.is.1 rfl
    cases c.gone with
    | true => simp only [if_true]; exact (Rising.iff _).2 (((Rising.iff _).1 hr).sublist (List.eraseIdx_sublist l p))
    | false =>
      simp only [if_true, Bool.false_eq_true, if_false]
      intro i j hi hj hij
      rw [List.length_set] at hi hj
      have h0 := hr i j hi hj hij
      rw [List.getElem_set, List.getElem_set]
      split
      · subst_vars
        rw [if_neg (by omega)]; rw [e] at h0; exact h0
      · split
        · subst_vars
          rw [e] at h0; exact h0
        · exact h0
  | false =>
    rw [hk] at F
    cases c.gone with
    | true => simpa using hr
    | false =>
      simp only [Bool.false_eq_true, if_false]
      refine (Rising.iff _).2 (List.pairwise_append.2 ⟨((Rising.iff _).1 hr).sublist (List.take_sublist p l), List.pairwise_cons.2 ⟨fun x hx => ?_, ((Rising.iff _).1 hr).sublist (List.drop_sublist p l)⟩, fun x hx y hy => ?_⟩)
      · obtain ⟨q, hq, rfl⟩ := List.mem_iff_getElem.1 hx
        rw [List.length_drop] at hq
        rw [List.getElem_drop]
        have h0 := F.hi (p + q) (by omega) (by omega)
        rcases cb_total l[p + q].key c.key with h1 | h1 | h1
        · omega
        · have : hasKey l c.key = true := List.any_eq_true.2 ⟨_, List.getElem_mem (by omega : p + q < l.length), by simpa using cb_eq _ _ h1⟩
          rw [hk] at this; cases this
        · exact h1
      · obtain ⟨q, hq, rfl⟩ := List.mem_iff_getElem.1 hx
        rw [List.length_take] at hq
        rw [List.getElem_take]
        have h0 := F.lo q (by omega) (by omega)
        rcases List.mem_cons.1 hy with rfl | hy
        · exact h0
        · obtain ⟨r, hq2, rfl⟩ := List.mem_iff_getElem.1 hy
          rw [List.length_drop] at hq2
          rw [List.getElem_drop]
          exact hr q (p + r) (by omega) (by omega) (by omega)
theorem Rising.nil : Rising [] := fun i j hi => by simp at hi
theorem Rising.all {l : List Chg} (b : List Chg) (hr : Rising l) : Rising (applyAll l b) := by
  unfold applyAll
  induction b generalizing l with
  | nil => exact hr
  | cons c b ih => exact ih (hr.one c)
theorem applyOne_length (l : List Chg) (c : Chg) : (applyOne l c).length ≤ l.length + 1 := by
  unfold applyOne
  split <;> split <;> simp [List.length_eraseIdx] <;> (try split) <;> omega
theorem applyAll_length (l b : List Chg) : (applyAll l b).length ≤ l.length + b.length := by
  unfold applyAll
  induction b generalizing l with
  | nil => simp
  | cons c b ih =>
    have := ih (applyOne l c); have := applyOne_length l c
    simp only [List.foldl_cons, List.length_cons]; omega
/-- No change among them takes a key away. -/
def Kept (l : List Chg) : Prop := ∀ c ∈ l, c.gone = false
theorem Kept.one {l : List Chg} (c : Chg) (h : Kept l) : Kept (applyOne l c) := by
  intro x hx
  unfold applyOne at hx
  cases hg : c.gone with
  | true =>
    rw [hg] at hx
    simp only [if_true] at hx
    split at hx
    · exact h x (List.mem_of_mem_eraseIdx hx)
    · exact h x hx
  | false =>
    rw [hg] at hx
    simp only [Bool.false_eq_true, if_false] at hx
    split at hx
    · rcases List.mem_or_eq_of_mem_set hx with h1 | h1
      · exact h x h1
      · rw [h1]; exact hg
    · rcases List.mem_append.1 hx with h1 | h1
      · exact h x (List.mem_of_mem_take h1)
      · rcases List.mem_cons.1 h1 with h1 | h1
        · rw [h1]; exact hg
        · exact h x (List.mem_of_mem_drop h1)
theorem Kept.all {l : List Chg} (b : List Chg) (h : Kept l) : Kept (applyAll l b) := by
  unfold applyAll
  induction b generalizing l with
  | nil => exact h
  | cons c b ih => exact ih (h.one c)

/-- find, at a rising slice. -/
theorem find80' (v : Value) (l : List Chg) (k : List UInt8) (w : World) (hv : IsChg w v l) (hr : Rising l) (hlen : l.length ≤ 1099511627776) :
    Calls Try.prog 80 #[v, str k] w fun e w' => e = .returned (.tuple #[.int .i64 (posOf l k), .bool (hasKey l k)]) ∧ Fr (fun _ => False) w w' := by
  refine (find80 v l k w hv hr hlen).mono ?_
  rintro e w' ⟨i, found, rfl, hf, f⟩
  obtain ⟨rfl, rfl⟩ := hf.eq hr
  exact ⟨rfl, f⟩
end Go.Proofs.Ytnpeeephkkmomaa
namespace Go.Proofs.Ytnpeeephkkmomaa
open Go.RowKit Go.Proofs.YtnpeeephkkmomaaW.PrintLast
set_option linter.unusedVariables false
set_option linter.unusedSimpArgs false

def AppAt (w : World) (l b : List Chg) (k : Nat) (cur : Value) (wr : World) : Prop := OwnChg wr cur (applyAll l (b.take k)) ∧ (∀ j, cur.ownBlock = some j → w.heap.size ≤ j) ∧ Fr (fun _ => False) w wr
theorem AppAt.step {w wr w2 : World} {l b : List Chg} {k : Nat} {cur v' : Value} (h : AppAt w l b k cur wr) (hk : k < b.length) {F : Nat → Prop} (hf : Fr F wr w2) (hF : ∀ j, F j → cur.ownBlock = some j ∨ wr.heap.size ≤ j) (ho : OwnChg w2 v' (applyOne (applyAll l (b.take k)) b[k]))
    (hb : v'.ownBlock = cur.ownBlock ∨ ∀ j, v'.ownBlock = some j → wr.heap.size ≤ j) : AppAt w l b (k + 1) v' w2 := by
  obtain ⟨h1, h2, h3⟩ := h
  refine ⟨?_, fun j hj => ?_, h3.trans hf (fun j hj => .inr ?_)⟩
  · rw [List.take_succ_eq_append_getElem hk, applyAll_snoc]; exact ho
  · rcases hb with e | e
    · exact h2 j (e.symm.trans hj)
    · exact Nat.le_trans h3.size (e j hj)
  · rcases hF j hj with e | e
    · exact h2 j e
    · exact Nat.le_trans h3.size e

theorem Fr.wide {F : Nat → Prop} {a b : World} (h : Fr (fun _ => False) a b) : Fr F a b := h.mono (fun _ _ h => h.elim)
theorem OwnChg.put {w : World} {g cap n p : Nat} {cur : Array Value} {L : List Chg} (h : OwnChg w (.slice (some ⟨g, 0, none⟩) n cap) L) (hg : w.heap[g]? = some (.cells cur 75 (0, 0))) (hp : p < L.length) (c : Chg) :
    OwnChg (w.setRow g (splice cur (p * 3) (chCells c))) (.slice (some ⟨g, 0, none⟩) n cap) (L.set p c) := by
  rcases h.2 with ⟨hv, _⟩ | ⟨g', cap', cur', hv, _, hg', hnc, hcm, hcs, ht⟩
  · cases hv
  · simp only [Value.slice.injEq, Option.some.injEq, Addr.mk.injEq, and_true, true_and] at hv
    obtain ⟨rfl, rfl, rfl⟩ := hv
    rw [hg] at hg'
    simp only [Option.some.injEq, Obj.cells.injEq, and_true] at hg'
    subst hg'
    have hc3 : (chCells c).length = 3 := rfl
    unfold OwnChg
    rw [List.length_set]
    refine ⟨by rw [flat_len, List.length_set], .inr ⟨g, cap, _, rfl, Nat.zero_le _, setRow_heap w g cur _ 75 _ hg, hnc, hcm, ?_, ?_⟩⟩
    · rw [splice_size _ _ _ (by rw [hc3, hcs]; omega), hcs]
    · rw [List.set_eq_take_append_cons_drop, if_pos hp, List.flatMap_append, List.flatMap_cons, flat_take, flat_drop, ← ht, splice_toList, List.take_take, Nat.min_eq_left (by omega), hc3]
      have h1 : (cur.toList.take (p * 3) ++ chCells c).length = (p + 1) * 3 := by rw [List.length_append, List.length_take, hc3]; simp [hcs]; omega
      rw [← List.append_assoc, List.take_append, List.take_of_length_le (by rw [h1]; omega), h1, List.drop_take, show p * 3 + 3 = (p + 1) * 3 by omega]

set_option maxRecDepth 100000 in
set_option maxHeartbeats 4000000 in
/-- apply. -/
theorem apply73 (v u : Value) (l b : List Chg) (w : World) (hv : IsChg w v l) (hu : IsChg w u b) (hr : Rising l) (hlen : l.length + b.length ≤ 1099511627776) : Calls Try.prog 73 #[v, u] w (ChgPost w (applyAll l b)) := by
  obtain ⟨ao, cap, rfl, k1, k2, _, _⟩ := hu.is
  have HU := Lib.hid hu; have HR := Lib.hid hr; have HL := Lib.hid hlen; have HK := Lib.hid (And.intro k1 k2)
  have HC := Lib.hid (clone82 v l w hv (by omega))
  clear hv hu hr hlen k1 k2
  go_enter Try.func73, Try.ntmps73
  go_wp2_with (go_at_call 82; refine HC.out.mono ?_; rintro e w1 ⟨v1, rfl, o1, n1, f1⟩; have HA1 : Hid (AppAt w l b 0 v1 w1) := Lib.hid ⟨by simpa [applyAll] using o1, n1, f1⟩; clear o1 n1 f1)
  go_loopw [0, 13] (fun cu i wr => ∃ (k : Nat) (cur : Value), k ≤ b.length ∧ i = .int .i64 k ∧ cur = cu ∧ AppAt w l b k cur wr) (fun _ i _ => b.length - (intOf i).toNat)
  case atStart => exact ⟨0, _, Nat.zero_le _, rfl, rfl, HA1.out⟩
  case round =>
    clear HA1
    obtain ⟨k, cur, hk, rfl, rfl, ha⟩ := hrel
    have HA := Lib.hid ha
    obtain ⟨ho, hn, hf⟩ := ha
    by_cases hlt : k < b.length
    · obtain ⟨ab, off, rfl, c0, c1, c2⟩ := (HU.out.fr hf (fun _ _ h => h)).at k hlt
      have hrk := HR.out.all (b.take k)
      have hlk : (applyAll l (b.take k)).length ≤ 1099511627776 := by have h1 := applyAll_length l (b.take k); have h2 := HL.out; rw [List.length_take] at h1; omega
      have HS : Hid (∀ {w2 : World} {v' : Value} {F : Nat → Prop} (hf : Fr F wr w2) (hF : ∀ j, F j → cur.ownBlock = some j ∨ wr.heap.size ≤ j) (ho : OwnChg w2 v' (applyOne (applyAll l (b.take k)) b[k]))
        (hb : v'.ownBlock = cur.ownBlock ∨ ∀ j, v'.ownBlock = some j → wr.heap.size ≤ j), AppAt w l b (k + 1) v' w2) := Lib.hid (fun hf hF ho hb => HA.out.step hlt hf hF ho hb)
      clear HA hn hf
      generalize applyAll l (b.take k) = L at *
      generalize b[k] = c at *
      have HO := Lib.hid ho
      have HFA := findAt_pos L c.key hrk
      have HFD : Hid (∀ W v, IsChg W v L → Calls Try.prog 80 #[v, str c.key] W fun e w' => e = .returned (.tuple #[.int .i64 (posOf L c.key), .bool (hasKey L c.key)]) ∧ Fr (fun _ => False) W w') := Lib.hid (fun W v h => find80' v L c.key W h hrk hlk)
      have HAO : Hid (applyOne L c = if hasKey L c.key then (if c.gone then L.eraseIdx (posOf L c.key) else L.set (posOf L c.key) c) else if c.gone then L else L.take (posOf L c.key) ++ c :: L.drop (posOf L c.key)) := Lib.hid rfl
      generalize posOf L c.key = p at *
      have hle := HFA.le
      have his : hasKey L c.key = true → p < L.length := fun h => by obtain ⟨h1, _⟩ := HFA.is.1 h; exact h1
      generalize hasKey L c.key = hk at *
      have HCH : Hid (chCells c = [str c.key, str c.val, .bool c.gone]) := Lib.hid rfl
      unfold str at c0 c1 HFD HCH
      generalize (⟨c.key.toArray⟩ : ByteArray) = S1 at *
      generalize (⟨c.val.toArray⟩ : ByteArray) = S2 at *
      have hw1 : IntKind.i64.wrap ((k : Int) + 1) = (k : Int) + 1 := IntWalk.i64_in _ (by have := HL.out; omega)
      have t1 : decide ((k : Int) < (b.length : Int)) = true := by simp; omega
      have t1n : decide (k < b.length) = true := by simp; omega
      have A1 : Value.int .i64 (wrap64 ((p : Int) + 1)) = Value.int .i64 ((p : Int) + 1) := by rw [w64 _ (by omega)]
      obtain ⟨X, hX⟩ : ∃ X : Obj, X = .cells #[.string S1, .string S2, .bool c.gone] 75 (0, 0) := ⟨_, rfl⟩
      have HLK := Lib.hid hlk; have HLE := Lib.hid hle; have HIS := Lib.hid his; have HX := Lib.hid hX
      clear hrk hlk HFA hle his ho hX
      cases hg : c.gone with
      | true =>
        rw [hg] at c2 HX
        cases hh : hk with
        | true =>
          rw [hh] at HFD
          have HE : Hid (applyOne L c = L.eraseIdx p) := Lib.hid (by have := HAO.out; rw [hh, hg] at this; simpa using this)
          go_wp2_with (first
            | (go_at_call 80; refine (HFD.out _ _ (HO.out.fr (F := fun _ => False) ((Fr.refl _ wr).alloc _) (fun _ _ h => h)).chg).mono ?_; rintro e w2 ⟨rfl, f2⟩; have hcp := f2.at (heap_alloc_at wr _) (fun h => h); have HF2 := Lib.hid (((Fr.refl (fun _ => False) wr).alloc _).trans f2 (fun _ h => h.elim)); clear f2)
            | (go_at_call 93; rw [A1]; refine (delete93 _ L p _ (HO.out.fr HF2.out (fun _ _ h => h)) (HIS.out hh) HLK.out).mono ?_; rintro e w3 ⟨v3, rfl, o3, n3, f3⟩; have HO3 := Lib.hid o3; have HN3 := Lib.hid n3; have HF3 := Lib.hid f3; clear o3 n3 f3))
          exact ⟨⟨k + 1, _, by omega, by go_num, rfl, HS.out (HF2.out.wide.trans HF3.out (fun j hj => .inl hj)) (fun j hj => .inl hj) (by rw [HE.out]; exact HO3.out) (.inl HN3.out)⟩, by simp [intOf]; omega⟩
        | false =>
          rw [hh] at HFD
          have HE : Hid (applyOne L c = L) := Lib.hid (by have := HAO.out; rw [hh, hg] at this; simpa using this)
          go_wp2_with (go_at_call 80; refine (HFD.out _ _ (HO.out.fr (F := fun _ => False) ((Fr.refl _ wr).alloc _) (fun _ _ h => h)).chg).mono ?_; rintro e w2 ⟨rfl, f2⟩; have hcp := f2.at (heap_alloc_at wr _) (fun h => h); have HF2 := Lib.hid (((Fr.refl (fun _ => False) wr).alloc _).trans f2 (fun _ h => h.elim)); clear f2)
          exact ⟨⟨k + 1, _, by omega, by go_num, rfl, HS.out HF2.out (fun j hj => hj.elim) (by rw [HE.out]; exact HO.out.fr HF2.out (fun _ _ h => h)) (.inl rfl)⟩, by simp [intOf]; omega⟩
      | false =>
        rw [hg] at c2 HX HCH
        cases hh : hk with
        | true =>
          rw [hh] at HFD
          have HE : Hid (applyOne L c = L.set p c) := Lib.hid (by have := HAO.out; rw [hh, hg] at this; simpa using this)
          have hpl := HIS.out hh
          rcases HO.out.2 with ⟨_, h0⟩ | ⟨g, cap2, curA, rfl, _, hga, hnc, hcm, hcs, ht⟩
          · omega
          obtain ⟨n, hn⟩ : ∃ n, n = L.length := ⟨_, rfl⟩
          have HN := Lib.hid hn
          rw [← hn] at HS hpl hnc
          have HO' : Hid (OwnChg wr (.slice (some ⟨g, 0, none⟩) n cap2) L) := Lib.hid (by rw [hn]; exact HO.out)
          rw [← hn]
          have q1 : (p : Int) < (n : Int) := by omega
          have q2 : decide ((p : Int) < (n : Int)) = true := by simp; omega
          have q3 : decide (p < n) = true := by simp; omega
          have HPL : Hid (p < L.length) := Lib.hid (by omega)
          have HP : Hid (p * 3 + 3 ≤ curA.size) := Lib.hid (by rw [hcs]; omega)
          clear hn ht hcs HO
          go_wp2_with (first
            | (go_at_call 80; refine (HFD.out _ _ (HO'.out.fr (F := fun _ => False) ((Fr.refl _ wr).alloc _) (fun _ _ h => h)).chg).mono ?_; rintro e w2 ⟨rfl, f2⟩; have hcp := f2.at (heap_alloc_at wr _) (fun h => h); have HF2 := Lib.hid (((Fr.refl (fun _ => False) wr).alloc _).trans f2 (fun _ h => h.elim)); have hga2 := HF2.out.at hga (fun h => h); clear f2)
            | (refine wpList_store_rec rfl 75 (.tmp 48) (.tmp 47) rfl 3 u75s g (p * 3) rfl #[.string S1, .string S2, .bool false] rfl curA 75 hga2 rfl HP.out (by intro u hu; simp at hu; rcases hu with rfl | rfl | rfl <;> rfl) ?_; have HW := Lib.hid (HO'.out.fr HF2.out (fun _ _ h => h)); have hga3 := Lib.hid hga2))
          have HPC := (HW.out.put hga3.out HPL.out c)
          rw [HCH.out] at HPC
          exact ⟨⟨k + 1, _, by omega, by go_num, rfl, HS.out (F := fun j => (Value.slice (some ⟨g, 0, none⟩) n cap2).ownBlock = some j) (HF2.out.wide.setRow (g := g) _ (.inl rfl)) (fun j hj => .inl hj) (by rw [HE.out]; exact HPC) (.inl rfl)⟩, by simp [intOf]; omega⟩
        | false =>
          rw [hh] at HFD
          have HE : Hid (applyOne L c = L.take p ++ c :: L.drop p) := Lib.hid (by have := HAO.out; rw [hh, hg] at this; simpa using this)
          go_wp2_with (first
            | (go_at_call 80; refine (HFD.out _ _ (HO.out.fr (F := fun _ => False) ((Fr.refl _ wr).alloc _) (fun _ _ h => h)).chg).mono ?_; rintro e w2 ⟨rfl, f2⟩; have hcp := f2.at (heap_alloc_at wr _) (fun h => h); have HF2 := Lib.hid (((Fr.refl (fun _ => False) wr).alloc _).trans f2 (fun _ h => h.elim)); clear f2)
            | (go_at_call 94; refine (insert94 _ L p c _ _ (HO.out.fr (HF2.out.alloc _) (fun _ _ h => h)) HLE.out (by rw [HCH.out]; exact heap_alloc_at _ _) (fun e => by have := HO.out.lt _ e; have := HF2.out.size; omega) HLK.out).mono ?_; rintro e w3 ⟨v3, rfl, o3, n3, f3⟩; have HO3 := Lib.hid o3; have HN3 := Lib.hid n3; have HF3 := Lib.hid f3; clear o3 n3 f3))
          exact ⟨⟨k + 1, _, by omega, by go_num, rfl, HS.out ((HF2.out.alloc _).wide.trans HF3.out (fun j hj => .inl hj)) (fun j hj => .inl hj) (by rw [HE.out]; exact HO3.out) (HN3.out.imp id (fun h j hj => Nat.le_trans (HF2.out.alloc _).size (h j hj)))⟩, by simp [intOf]; omega⟩
    · obtain rfl : k = b.length := by omega
      rw [List.take_length] at ho
      obtain ⟨oo, oc, rfl⟩ := ho.slice
      have HO := Lib.hid ho; have HN := Lib.hid hn; have HF := Lib.hid hf
      clear ho hn hf HA
      go_wp2
      go_ret
      exact ⟨_, rfl, HO.out, HN.out, HF.out⟩
end Go.Proofs.Ytnpeeephkkmomaa
namespace Go.Proofs.Ytnpeeephkkmomaa
open Go.RowKit Go.Proofs.YtnpeeephkkmomaaW.PrintLast
set_option linter.unusedVariables false
set_option linter.unusedSimpArgs false

theorem IsBytes.blk {w : World} {v : Value} {l : List UInt8} (h : IsBytes w v l) (hl : l ≠ []) : ∀ k, v.ownBlock = some k → k < w.heap.size := by
  obtain ⟨ao, cap, rfl, h1, h2, h3, h4⟩ := h.is
  intro k hk
  cases ao with
  | none => exact absurd (h3 rfl) hl
  | some a =>
    have h0 : 0 < l.length := List.length_pos_iff.2 hl
    have hc := h4 a rfl 0 _ (Bs_at l 0 h0)
    have := World.block_lt_of_cell? w _ hc
    rw [block_add] at this
    simp only [Value.ownBlock, Option.some.injEq] at hk
    omega
/-- A Reader made behind w, that stands in w1. -/
structure RdAt (w w1 : World) (rp : Nat) (v : Value) (l : List UInt8) (at_ : Nat) (bad : Bool) (wr : World) : Prop where
  rd : IsRd wr rp v l at_ bad
  lt : rp < w1.heap.size
  vlt : ∀ k, v.ownBlock = some k → k < w1.heap.size
  own : Fr (fun _ => False) w wr
  old : w.heap.size ≤ rp
  size : w1.heap.size ≤ wr.heap.size
theorem RdAt.new {w w1 : World} {rp : Nat} {v : Value} {l : List UInt8} (h : IsRd w1 rp v l 0 false) (hl : l ≠ []) (ho : w.heap.size ≤ rp) (hf : Fr (fun _ => False) w w1) : RdAt w w1 rp v l 0 false w1 :=
  ⟨h, lt_of_block h.head, h.bytes.blk hl, hf, ho, Nat.le_refl _⟩
theorem RdAt.fr {w w1 wr w' : World} {rp : Nat} {v : Value} {l : List UInt8} {at_ : Nat} {bad : Bool} {F : Nat → Prop} (h : RdAt w w1 rp v l at_ bad wr) (hf : Fr F wr w') (hF : ∀ j, F j → w1.heap.size ≤ j) : RdAt w w1 rp v l at_ bad w' :=
  ⟨h.rd.fr hf (fun hj => by have := hF _ hj; have := h.lt; omega) (fun k hk hj => by have := hF _ hj; have := h.vlt k hk; omega), h.lt, h.vlt,
    h.own.trans hf (fun j hj => .inr (by have := hF _ hj; have := h.lt; have := h.old; omega)), h.old, Nat.le_trans h.size hf.size⟩
theorem RdAt.int {w w1 wr : World} {rp : Nat} {v : Value} {l : List UInt8} {at_ : Nat} (h : RdAt w w1 rp v l at_ false wr) (hn : at_ + 8 ≤ l.length) :
    Calls Try.prog 61 #[.pointer (some ⟨rp, 0, none⟩)] wr fun e w' => e = .returned (.int .i64 (rd8 ((l.drop at_).take 8))) ∧ RdAt w w1 rp v l (at_ + 8) false w' ∧ Fr (fun k => k = rp) wr w' := by
  refine (int_ok rp v l at_ wr h.rd hn).mono ?_
  rintro e w' ⟨rfl, r, f⟩
  exact ⟨rfl, ⟨r, h.lt, h.vlt, h.own.trans f (fun j hj => .inr (by have := h.old; omega)), h.old, Nat.le_trans h.size f.size⟩, f⟩

theorem info2 : (Try.prog.info? 2).map (fun i => (i.zero, i.size, i.bytes)) = some (some (.int .i64 0), 1, 8) := by kernel_rfl
structure TurnAt (w w1 : World) (rp : Nat) (v : Value) (l : List UInt8) (at_ : Nat) (cur : Value) (xs : List Int) (wr : World) : Prop where
  rd : RdAt w w1 rp v l at_ false wr
  row : wr.ownsRow 0 2 1 cur xs.length (xs.map (Value.int .i64))
  new : ∀ j, cur.ownBlock = some j → w1.heap.size ≤ j
theorem TurnAt.int {w w1 wr : World} {rp : Nat} {v : Value} {l : List UInt8} {at_ : Nat} {cur : Value} {xs : List Int} (h : TurnAt w w1 rp v l at_ cur xs wr) (hn : at_ + 8 ≤ l.length) :
    Calls Try.prog 61 #[.pointer (some ⟨rp, 0, none⟩)] wr fun e w' => e = .returned (.int .i64 (rd8 ((l.drop at_).take 8))) ∧ TurnAt w w1 rp v l (at_ + 8) cur xs w' := by
  refine (h.rd.int hn).mono ?_
  rintro e w' ⟨rfl, r, f⟩
  exact ⟨rfl, r, ownsRow_fr h.row f (fun k hk hj => by have := h.new k hk; have := h.rd.lt; omega), h.new⟩
theorem TurnAt.slice {w w1 wr : World} {rp : Nat} {v : Value} {l : List UInt8} {at_ : Nat} {cur : Value} {xs : List Int} (h : TurnAt w w1 rp v l at_ cur xs wr) : ∃ ao cap, cur = .slice ao xs.length cap := ownsRow_slice h.row
theorem TurnAt.push {w w1 wr w2 w' : World} {rp : Nat} {v : Value} {l : List UInt8} {at_ : Nat} {cur v' : Value} {xs : List Int} {x : Int} (h : TurnAt w w1 rp v l at_ cur xs wr) (h2 : Fr (fun _ => False) wr w2) (hr : w'.ownsRow 0 2 1 v' (xs.length + 1) (xs.map (Value.int .i64) ++ [.int .i64 x]))
    (hf : Fr (fun k => cur.ownBlock = some k) w2 w') (hn : v'.ownBlock = cur.ownBlock ∨ v'.ownBlock = some w2.heap.size) : TurnAt w w1 rp v l at_ v' (xs ++ [x]) w' := by
  refine ⟨(h.rd.fr h2 (fun _ h => h.elim)).fr hf (fun j hj => h.new j hj), by simpa using hr, fun j hj => ?_⟩
  rcases hn with e | e
  · exact h.new j (e.symm.trans hj)
  · rw [e] at hj; cases hj; exact Nat.le_trans h.rd.size h2.size
/-- The turns of a sector. -/
def turnsOf (l : List UInt8) : List Int := [rd8 (l.take 8), rd8 ((l.drop 32).take 8)]
def TurnPost (w : World) (xs : List Int) (e : Ending) (w' : World) : Prop :=
  ∃ v, e = .returned v ∧ w'.ownsRow 0 2 1 v xs.length (xs.map (Value.int .i64)) ∧ (∀ j, v.ownBlock = some j → w.heap.size ≤ j) ∧ Fr (fun _ => False) w w'
set_option maxRecDepth 100000 in
set_option maxHeartbeats 4000000 in
theorem turns99 (v : Value) (l : List UInt8) (w : World) (hv : IsBytes w v l) (hl : l.length = 64) : Calls Try.prog 99 #[v] w (TurnPost w (turnsOf l)) := by
  have HV := Lib.hid hv; have HL := Lib.hid hl
  obtain ⟨inf, hinf, hz0, hz1, hz2⟩ := info_parts info2
  clear hv hl
  go_enter Try.func99, Try.ntmps99
  go_wp2_with (go_at_call 60; refine (rd_new v l (by have := HL.out; omega) w HV.out).mono ?_; rintro e w1 ⟨rp, rv, rfl, r1, o1, _, f1⟩; have HT1 : Hid (TurnAt w w1 rp rv l 0 (.slice none 0 0) [] w1) := Lib.hid ⟨RdAt.new r1 (by intro h; have := HL.out; rw [h] at this; simp at this) o1 f1, World.ownsRow_nil _ _ _ _, by simp [Value.ownBlock]⟩; clear r1 o1 f1)
  go_loopw [4, 7] (fun cu i wr => ∃ (k : Nat) (cur : Value), k ≤ 2 ∧ i = .int .i64 k ∧ cur = cu ∧ TurnAt w w1 rp rv l (32 * k) cur ((turnsOf l).take k) wr) (fun _ i _ => 2 - (intOf i).toNat)
  case atStart => exact ⟨0, _, by omega, rfl, rfl, HT1.out⟩
  case round =>
    clear HT1
    obtain ⟨k, cur, hk, rfl, rfl, ht⟩ := hrel
    have HT := Lib.hid ht
    by_cases hlt : k < 2
    · have hw1 : IntKind.i64.wrap ((k : Int) + 1) = (k : Int) + 1 := IntWalk.i64_in _ (by omega)
      have t1 : decide ((k : Int) < 2) = true := by simp; omega
      have hsn : (turnsOf l).take (k + 1) = (turnsOf l).take k ++ [rd8 ((l.drop (32 * k)).take 8)] := by
        rcases (by omega : k = 0 ∨ k = 1) with rfl | rfl <;> rfl
      have HSN := Lib.hid hsn
      generalize hx : rd8 ((l.drop (32 * k)).take 8) = x at hsn HSN
      have HX := Lib.hid hx
      generalize (turnsOf l).take k = xs at *
      obtain ⟨oo, oc, rfl⟩ := ht.slice
      have HXL : Hid (xs.length ≤ 2) := Lib.hid (by have := congrArg List.length hsn; simp [turnsOf] at this; omega)
      clear ht hsn hx
      go_wp2_with (first
        | (go_at_call 61; refine (HT.out.int (by have := HL.out; omega)).mono ?_; rw [HX.out]; rintro e w2 ⟨rfl, h2⟩; have HT2 := Lib.hid h2; clear h2)
        | (refine wpList_append rfl (.tmp 9) (.tmp 12) 146 rfl 2 inf _ 1 8 Try.underlying146 hinf hz0 hz1 hz2 rfl (by decide) _ xs.length (xs.map (Value.int .i64)) rfl (ownsRow_fr HT2.out.row (F := fun _ => False) ((Fr.refl _ _).alloc _) (fun _ _ h => h)) ⟨_, 0, none⟩ 1 1 [.int .i64 x] rfl rfl (fun j u hu => by rw [Addr.add_mk, Nat.zero_add]; exact (cells_at (heap_alloc_at _ _) j).trans (by simpa using hu)) (by intro u hu; simp at hu; subst hu; rfl) (Room.one (by unfold maxLen; have := HXL.out; omega) (by decide) (by have := HXL.out; omega)) ?_; intro v3 w3 own3 fr3 fresh3; have HT3 : Hid (TurnAt w w1 rp rv l (32 * k + 8) v3 (xs ++ [x]) w3) := Lib.hid (HT2.out.push ((Fr.refl (fun _ => False) _).alloc _) own3 fr3 fresh3); clear own3 fr3 fresh3))
      clear HT HT2
      go_loopw [14] (fun i wq => ∃ j : Nat, j ≤ 3 ∧ i = .int .i64 j ∧ TurnAt w w1 rp rv l (32 * k + 8 + 8 * j) v3 (xs ++ [x]) wq) (fun i _ => 3 - (intOf i).toNat)
      case atStart => exact ⟨0, by omega, rfl, HT3.out⟩
      case round =>
        clear HT3
        obtain ⟨j, hj, rfl, ht⟩ := hrel
        have HT := Lib.hid ht
        clear ht
        by_cases hlt3 : j < 3
        · have hw3 : IntKind.i64.wrap ((j : Int) + 1) = (j : Int) + 1 := IntWalk.i64_in _ (by omega)
          have t3 : decide ((j : Int) < 3) = true := by simp; omega
          go_wp2_with (go_at_call 61; refine (HT.out.int (by have := HL.out; omega)).mono ?_; rintro e w2 ⟨rfl, h2⟩; have HT2 := Lib.hid h2; clear h2)
          exact ⟨⟨j + 1, by omega, by go_num, HT2.out⟩, by simp [intOf]; omega⟩
        · obtain rfl : j = 3 := by omega
          go_wp2
          exact ⟨⟨k + 1, _, by omega, by go_num, rfl, by rw [HSN.out]; exact HT.out⟩, by simp [intOf]; omega⟩
    · obtain rfl : k = 2 := by omega
      obtain ⟨oo, oc, rfl⟩ := ht.slice
      clear ht
      go_wp2
      go_ret
      exact ⟨_, rfl, HT.out.row, fun j hj => Nat.le_of_lt (Nat.lt_of_le_of_lt HT.out.rd.old (Nat.lt_of_lt_of_le HT.out.rd.lt (HT.out.new j hj))), HT.out.rd.own⟩

/-- What slices.Index tells. -/
def idxOf (xs : List Int) (x : Int) : Int := if x ∈ xs then (xs.takeWhile (fun y => decide (y ≠ x))).length else -1
set_option maxRecDepth 100000 in
set_option maxHeartbeats 1000000 in
theorem index108 (v : Value) (xs : List Int) (x : Int) (w : World) (hv : w.ownsRow 0 2 1 v xs.length (xs.map (Value.int .i64))) (hl : xs.length ≤ 1000) :
    Calls Try.prog 108 #[v, .int .i64 x] w fun e w' => (∃ i : Int, e = .returned (.int .i64 i) ∧ (0 ≤ i ↔ x ∈ xs)) ∧ w = w' := by
  obtain ⟨oo, oc, rfl⟩ := ownsRow_slice hv
  have HV := Lib.hid hv; have HLB := Lib.hid hl
  clear hv hl
  go_enter Try.func108, Try.ntmps108
  go_wp2
  go_loopw [8] (fun i wr => ∃ k : Nat, k ≤ xs.length ∧ i = .int .i64 k ∧ x ∉ xs.take k ∧ w = wr) (fun i _ => xs.length - (intOf i).toNat)
  case atStart => exact ⟨0, Nat.zero_le _, rfl, by simp, rfl⟩
  case round =>
    obtain ⟨k, hk, rfl, hn, rfl⟩ := hrel
    have HN := Lib.hid hn; clear hn
    by_cases hlt : k < xs.length
    · have hw1 : IntKind.i64.wrap ((k : Int) + 1) = (k : Int) + 1 := IntWalk.i64_in _ (by have := HLB.out; omega)
      have t1 : decide ((k : Int) < (xs.length : Int)) = true := by simp; omega
      have t1n : decide (k < xs.length) = true := by simp; omega
      obtain ⟨g, rfl, hc⟩ : ∃ g, oo = some ⟨g, 0, none⟩ ∧ cellIn w.heap[g]? k = some (.int .i64 xs[k]) := by
        rcases HV.out.2 with ⟨h, h0⟩ | ⟨g, cap, cur, h, _⟩
        · omega
        · cases h
          have := World.ownsRow.cells HV.out (g := g) rfl k (.int .i64 xs[k]) (by simp [hlt])
          rw [Addr.add_mk, cell?_mk, Nat.zero_add] at this
          exact ⟨g, rfl, this⟩
      have HST : Hid (xs.take (k + 1) = xs.take k ++ [xs[k]]) := Lib.hid (List.take_succ_eq_append_getElem hlt)
      have HIN : Hid (xs[k] ∈ xs) := Lib.hid (List.getElem_mem hlt)
      generalize hy : xs[k] = y at *
      clear hy
      by_cases hxy : x = y
      · subst hxy
        have t2 : (x == x) = true := by simp
        go_wp2
        go_ret
        exact ⟨⟨_, rfl, ⟨fun _ => HIN.out, fun _ => by omega⟩⟩, rfl⟩
      · have t2 : (x == y) = false := by simp [hxy]
        go_wp2
        exact ⟨⟨k + 1, by omega, by go_num, by rw [HST.out]; simp [hxy]; exact HN.out, by first | rfl | trivial⟩, by simp [intOf]; omega⟩
    · obtain rfl : k = xs.length := by omega
      rw [List.take_length] at HN
      go_wp2
      go_ret
      exact ⟨⟨_, rfl, ⟨fun h => absurd h (by decide), fun h => absurd h HN.out⟩⟩, rfl⟩
set_option maxRecDepth 100000 in
set_option maxHeartbeats 1000000 in
theorem contains98 (v : Value) (xs : List Int) (x : Int) (w : World) (hv : w.ownsRow 0 2 1 v xs.length (xs.map (Value.int .i64))) (hl : xs.length ≤ 1000) :
    Calls Try.prog 98 #[v, .int .i64 x] w fun e w' => e = .returned (.bool (decide (x ∈ xs))) ∧ w = w' := by
  obtain ⟨oo, oc, rfl⟩ := ownsRow_slice hv
  have HV := Lib.hid hv; have HLB := Lib.hid hl
  clear hv hl
  go_enter Try.func98, Try.ntmps98
  go_wp2_with (go_at_call 108; refine (index108 _ xs x _ HV.out HLB.out).mono ?_; rintro e w' ⟨⟨i, rfl, hi⟩, rfl⟩; have HI := Lib.hid hi; clear hi)
  go_ret
  refine ⟨?_, rfl⟩
  have : decide (x ∈ xs) = decide (0 ≤ i) := by rw [decide_eq_decide]; exact HI.out.symm
  rw [this]; rfl
/-- A half's bytes. -/
def halfB (h : List Int) : List UInt8 := h.flatMap be8
theorem halfB_len (h : List Int) : (halfB h).length = 8 * h.length := by
  induction h with
  | nil => rfl
  | cons x h ih => simp only [halfB, List.flatMap_cons, List.length_append, be8_length, List.length_cons] at *; omega
set_option maxRecDepth 100000 in
theorem ix141 (a b c d : Int) (w : World) (k : Nat) (hk : k < 4) : (Instr.index 141 (.agg #[.int .i64 a, .int .i64 b, .int .i64 c, .int .i64 d]) (.int .i64 (k : Int))).run Try.prog w = .ok (.int .i64 ([a, b, c, d][k]'hk)) w := by
  rcases (by omega : k = 0 ∨ k = 1 ∨ k = 2 ∨ k = 3) with rfl | rfl | rfl | rfl <;> rfl
set_option maxRecDepth 100000 in
set_option maxHeartbeats 2000000 in
theorem bytes100 (a b c d : Int) (w : World) : Calls Try.prog 100 #[.agg #[.int .i64 a, .int .i64 b, .int .i64 c, .int .i64 d]] w (BufPost w (halfB [a, b, c, d])) := by
  go_enter Try.func100, Try.ntmps100
  go_wp2
  go_loopw [3, 7] (fun cu i wr => ∃ (k : Nat) (cur : Value), k ≤ 4 ∧ i = .int .i64 k ∧ cur = cu ∧ IsBytes wr cur (halfB ([a, b, c, d].take k)) ∧ (k = 4 → Buf wr cur (halfB [a, b, c, d])) ∧ (∀ j, cur.ownBlock = some j → w.heap.size ≤ j) ∧ Fr (fun _ => False) w wr) (fun _ i _ => 4 - (intOf i).toNat)
  case atStart => exact ⟨0, _, by omega, rfl, rfl, IsBytes.nil _, fun h => absurd h (by decide), by simp [Value.ownBlock], (Fr.refl _ w).alloc _⟩
  case round =>
    obtain ⟨k, cur, hk, rfl, rfl, hb, h4, hn, hf⟩ := hrel
    have HB := Lib.hid hb; have H4 := Lib.hid h4; have HN := Lib.hid hn; have HF := Lib.hid hf
    by_cases hlt : k < 4
    · have hw1 : IntKind.i64.wrap ((k : Int) + 1) = (k : Int) + 1 := IntWalk.i64_in _ (by omega)
      have t1 : decide ((k : Int) < 4) = true := by simp; omega
      have hkl : k < [a, b, c, d].length := hlt
      have hix := fun w => ix141 a b c d w k hlt
      have HST : Hid (halfB ([a, b, c, d].take (k + 1)) = halfB ([a, b, c, d].take k) ++ be8 ([a, b, c, d][k]'hkl)) := Lib.hid (by rw [List.take_succ_eq_append_getElem hkl]; unfold halfB; rw [List.flatMap_append]; simp)
      have HLN : Hid ((halfB ([a, b, c, d].take k)).length ≤ 100) := Lib.hid (by rw [halfB_len, List.length_take]; omega)
      generalize [a, b, c, d][k]'hkl = x at *
      clear hb h4 hn hf hkl
      go_wp2_with (go_at_call 85; refine (putInt_any cur _ x _ HB.out (by have := HLN.out; omega)).mono ?_; rw [← HST.out]; rintro e w2 ⟨v2, rfl, b2, n2, f2⟩; have HB2 := Lib.hid b2; have HN2 := Lib.hid n2; have HF2 := Lib.hid (HF.out.trans f2 (fun _ h => h.elim)); clear b2 n2 f2)
      exact ⟨⟨k + 1, _, by omega, by go_num, rfl, HB2.out.bytes, fun h4 => by rw [show k + 1 = 4 from h4] at HB2; exact HB2.out, fun j hj => Nat.le_trans HF.out.size (HN2.out j hj), HF2.out⟩, by simp [intOf]; omega⟩
    · obtain rfl : k = 4 := by omega
      obtain ⟨oo, oc, rfl⟩ := (h4 rfl).slice
      have HB4 := Lib.hid (h4 rfl)
      clear hb h4 hn hf H4
      go_wp2
      go_ret
      exact ⟨_, rfl, HB4.out, HN.out, HF.out⟩
end Go.Proofs.Ytnpeeephkkmomaa
