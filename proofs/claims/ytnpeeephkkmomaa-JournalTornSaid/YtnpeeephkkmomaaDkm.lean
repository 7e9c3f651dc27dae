/-
  The disk as plain data, and how it lies in memory. No program.
-/
import Derived.Test.YtnpeeephkkmomaaBase
namespace Go.Proofs.Ytnpeeephkkmomaa
open Go.RowKit
set_option linter.unusedVariables false
set_option linter.unusedSimpArgs false

/-- Pieces of one length, one behind the other. -/
theorem drop_flatMap {α β : Type} (f : α → List β) (n : Nat) : ∀ (l : List α) (i : Nat), (∀ x ∈ l, (f x).length = n) → i ≤ l.length →
    (l.flatMap f).drop (n * i) = (l.drop i).flatMap f
  | l, 0, _, _ => by simp
  | [], i + 1, _, h => by simp at h
  | x :: l, i + 1, h, hi => by
    have h0 := h x (by simp)
    simp only [List.flatMap_cons, List.drop_succ_cons]
    rw [← drop_flatMap f n l i (fun y hy => h y (by simp [hy])) (by simpa using hi)]
    rw [show n * (i + 1) = (f x).length + n * i by rw [h0, Nat.mul_succ]; omega, List.drop_append]
    simp
theorem take_flatMap {α β : Type} (f : α → List β) (n : Nat) : ∀ (l : List α) (i : Nat), (∀ x ∈ l, (f x).length = n) → i ≤ l.length →
    (l.flatMap f).take (n * i) = (l.take i).flatMap f
  | l, 0, _, _ => by simp
  | [], i + 1, _, h => by simp at h
  | x :: l, i + 1, h, hi => by
    have h0 := h x (by simp)
    simp only [List.flatMap_cons, List.take_succ_cons]
    rw [← take_flatMap f n l i (fun y hy => h y (by simp [hy])) (by simpa using hi)]
    rw [show n * (i + 1) = (f x).length + n * i by rw [h0, Nat.mul_succ]; omega, List.take_length_add_append]
theorem length_flatMap_same {α β : Type} (f : α → List β) (n : Nat) : ∀ (l : List α), (∀ x ∈ l, (f x).length = n) → (l.flatMap f).length = n * l.length
  | [], _ => by simp
  | x :: l, h => by
    have h0 := h x (by simp)
    simp only [List.flatMap_cons, List.length_append, List.length_cons]
    rw [length_flatMap_same f n l (fun y hy => h y (by simp [hy])), h0, Nat.mul_succ]; omega
theorem piece_flatMap {α β : Type} (f : α → List β) (n : Nat) (l : List α) (i : Nat) (h : ∀ x ∈ l, (f x).length = n) (hi : i < l.length) :
    ((l.flatMap f).drop (n * i)).take n = f l[i] := by
  rw [drop_flatMap f n l i h (by omega), List.drop_eq_getElem_cons hi, List.flatMap_cons, ← h l[i] (List.getElem_mem hi), List.take_left]
theorem set_flatMap {α β : Type} (f : α → List β) (n : Nat) (l : List α) (i : Nat) (y : α) (h : ∀ x ∈ l, (f x).length = n) (hy : (f y).length = n) (hi : i < l.length) :
    (l.flatMap f).take (n * i) ++ f y ++ (l.flatMap f).drop (n * i + n) = (l.set i y).flatMap f := by
  rw [take_flatMap f n l i h (by omega), show n * i + n = n * (i + 1) by rw [Nat.mul_succ], drop_flatMap f n l (i + 1) h (by omega), List.set_eq_take_append_cons_drop, if_pos hi]
  simp

structure Dk where
  secs : List (List UInt8)
  buf : List (Nat × List UInt8)
  armed : Int
  down : Bool

/-- The sectors, one behind the other. -/
def secCells (s : List (List UInt8)) : Array Value := (s.flatMap Bs).toArray
/-- A write that waits. -/
def recOf (x : Nat × List UInt8) : List Value := Value.int .i64 (x.1 : Int) :: Bs x.2
def settled (s : List (List UInt8)) (l : List (Nat × List UInt8)) : List (List UInt8) := l.foldl (fun s x => s.set x.1 x.2) s

structure Dk.Ok (D : Dk) : Prop where
  one : 1 ≤ D.secs.length
  most : D.secs.length ≤ 65536
  len : ∀ s ∈ D.secs, s.length = 64
  buf : ∀ x ∈ D.buf, x.1 < D.secs.length ∧ x.2.length = 64
  armed : -1 ≤ D.armed ∧ D.armed ≤ 9223372036854775807

/-- The sectors, and what lies behind them in their block. -/
def secRow (s : List (List UInt8)) (sp : Array Value) : Array Value := secCells s ++ sp
/-- The disk at block 'b', its sectors at block 'lb', its writes under 'wv'. -/
structure IsDk (w : World) (b lb cl : Nat) (sp : Array Value) (wv : Value) (D : Dk) : Prop where
  ok : D.Ok
  head : w.heap[b]? = some (.cells #[.slice (some ⟨lb, 0, none⟩) D.secs.length cl, wv, .int .i64 D.armed, .bool D.down] 84 (0, 0))
  row : w.heap[lb]? = some (.cells (secRow D.secs sp) 87 (0, 0))
  own : w.ownsRow 0 89 65 wv D.buf.length (D.buf.flatMap recOf)
  ne : b ≠ lb ∧ wv.ownBlock ≠ some b ∧ wv.ownBlock ≠ some lb

theorem settled_length (l : List (Nat × List UInt8)) : ∀ s, (settled s l).length = s.length := by
  induction l with
  | nil => intro s; rfl
  | cons x l ih => intro s; show (settled (s.set x.1 x.2) l).length = _; rw [ih]; simp
theorem settled_len (l : List (Nat × List UInt8)) (hl : ∀ x ∈ l, x.2.length = 64) : ∀ s, (∀ x ∈ s, x.length = 64) → ∀ x ∈ settled s l, x.length = 64 := by
  induction l with
  | nil => intro s h; exact h
  | cons x l ih =>
    intro s h
    refine ih (fun y hy => hl y (by simp [hy])) (s.set x.1 x.2) (fun y hy => ?_)
    rcases List.mem_or_eq_of_mem_set hy with h1 | h1
    · exact h y h1
    · rw [h1]; exact hl x (by simp)
theorem settled_snoc (s : List (List UInt8)) (l : List (Nat × List UInt8)) (x : Nat × List UInt8) : settled s (l ++ [x]) = (settled s l).set x.1 x.2 := by
  simp [settled]

theorem secCells_size (s : List (List UInt8)) (h : ∀ x ∈ s, x.length = 64) : (secCells s).size = 64 * s.length := by
  simp only [secCells, List.size_toArray]
  exact length_flatMap_same Bs 64 s (fun x hx => by rw [Bs_length, h x hx])
theorem secCells_extract (s : List (List UInt8)) (h : ∀ x ∈ s, x.length = 64) (i : Nat) (hi : i < s.length) :
    (secCells s).extract (i * 64) (i * 64 + 64) = (Bs s[i]).toArray := by
  apply Array.toList_inj.1
  simp only [secCells, Array.toList_extract, List.extract_eq_take_drop]
  rw [show i * 64 + 64 - i * 64 = 64 by omega, Nat.mul_comm i 64]
  exact piece_flatMap Bs 64 s i (fun x hx => by rw [Bs_length, h x hx]) hi
theorem secCells_set (s : List (List UInt8)) (h : ∀ x ∈ s, x.length = 64) (i : Nat) (hi : i < s.length) (d : List UInt8) (hd : d.length = 64) :
    splice (secCells s) (i * 64) (Bs d) = secCells (s.set i d) := by
  apply Array.toList_inj.1
  rw [splice_toList]
  simp only [secCells, Bs_length, hd]
  rw [Nat.mul_comm i 64]
  exact set_flatMap Bs 64 s i d (fun x hx => by rw [Bs_length, h x hx]) (by rw [Bs_length, hd]) hi

theorem secRow_size (s : List (List UInt8)) (sp : Array Value) (h : ∀ x ∈ s, x.length = 64) : 64 * s.length ≤ (secRow s sp).size := by
  simp only [secRow, Array.size_append, secCells_size s h]; omega
theorem secRow_extract (s : List (List UInt8)) (sp : Array Value) (h : ∀ x ∈ s, x.length = 64) (i : Nat) (hi : i < s.length) :
    sub (secRow s sp) (i * 64) 64 = (Bs s[i]).toArray := by
  rw [← secCells_extract s h i hi]
  apply Array.toList_inj.1
  simp only [sub, secRow, Array.toList_extract, Array.toList_append, List.extract_eq_take_drop]
  have hs : (secCells s).toList.length = 64 * s.length := by simpa using secCells_size s h
  rw [show i * 64 + 64 - i * 64 = 64 by omega, List.drop_append_of_le_length (by omega), List.take_append_of_le_length (by simp only [List.length_drop]; omega)]
theorem splice_append (cs sp : Array Value) (o : Nat) (vs : List Value) (h : o + vs.length ≤ cs.size) : splice (cs ++ sp) o vs = splice cs o vs ++ sp := by
  apply Array.toList_inj.1
  rw [Array.toList_append, splice_toList, splice_toList, Array.toList_append]
  have hs : cs.toList.length = cs.size := by simp
  rw [List.take_append_of_le_length (by omega), List.drop_append_of_le_length (by omega)]
  simp
theorem secRow_set (s : List (List UInt8)) (sp : Array Value) (h : ∀ x ∈ s, x.length = 64) (i : Nat) (hi : i < s.length) (d : List UInt8) (hd : d.length = 64) :
    splice (secRow s sp) (i * 64) (Bs d) = secRow (s.set i d) sp := by
  have hs := secCells_size s h
  rw [secRow, splice_append _ _ _ _ (by rw [Bs_length, hd, hs]; omega), secCells_set s h i hi d hd]; rfl
theorem recOf_length (x : Nat × List UInt8) (h : x.2.length = 64) : (recOf x).length = 65 := by simp [recOf, Bs_length, h]
/-- A record of the writes that wait, as it is loaded. -/
theorem own_extract {w : World} {g cap : Nat} {l : List (Nat × List UInt8)} {cur : Array Value} (hl : ∀ x ∈ l, x.2.length = 64)
    (ht : cur.toList.take (l.length * 65) = l.flatMap recOf) (i : Nat) (hi : i < l.length) : cur.extract (i * 65) (i * 65 + 65) = (recOf l[i]).toArray := by
  apply Array.toList_inj.1
  simp only [Array.toList_extract, List.extract_eq_take_drop]
  have h1 := piece_flatMap recOf 65 l i (fun x hx => recOf_length x (hl x hx)) hi
  rw [← h1, ← ht, show i * 65 + 65 - i * 65 = 65 by omega, List.drop_take, List.take_take, Nat.mul_comm i 65, Nat.min_eq_left (by omega)]

/-- P3.2: why a sector can't be used. -/
def Dk.may (D : Dk) (i : Int) : Int := if D.down then 32 else if i < 0 ∨ (D.secs.length : Int) ≤ i then 31 else 0
/-- P3.3: a change. -/
def Dk.changed (D : Dk) : Dk := { D with armed := if 0 < D.armed then D.armed - 1 else D.armed, down := if 0 < D.armed then D.armed - 1 == 0 else D.down }
def Dk.flushed (D : Dk) : Dk := Dk.changed { D with secs := settled D.secs D.buf, buf := [] }
def pad64 (l : List UInt8) : List UInt8 := l ++ List.replicate (64 - l.length) 0
def Dk.written (D : Dk) (i : Nat) (l : List UInt8) : Dk := Dk.changed { D with buf := D.buf ++ [(i, pad64 l)] }
def Dk.armedAt (D : Dk) (n : Int) : Dk := if D.down then D else { D with armed := max n (-1), down := n == 0 }
/-- The last of the writes there, or else the sector. -/
def lastAt (l : List (Nat × List UInt8)) (i : Nat) (s : List UInt8) : List UInt8 := l.foldl (fun s x => if x.1 = i then x.2 else s) s
def Dk.told (D : Dk) (i : Nat) : List UInt8 := lastAt D.buf i (D.secs.getD i [])
def torn8 (torn : Int) : Nat := (min (max torn 0) 64).toNat / 8 * 8
def Dk.crashed (D : Dk) (keep torn : Int) : Dk :=
  let n := (min (max keep 0) D.buf.length).toNat
  let s := settled D.secs (D.buf.take n)
  { secs := match D.buf[n]? with
      | some x => s.set x.1 (x.2.take (torn8 torn) ++ (s.getD x.1 []).drop (torn8 torn))
      | none => s
    buf := [], armed := -1, down := false }

theorem Dk.Ok.changed {D : Dk} (h : D.Ok) : D.changed.Ok := by
  refine ⟨h.one, h.most, h.len, h.buf, ?_⟩
  have := h.armed
  simp only [Dk.changed]
  split <;> omega
theorem Dk.Ok.atSettled {D : Dk} (h : D.Ok) (n : Nat) (l : List (Nat × List UInt8)) (hl : ∀ x ∈ l, x.1 < D.secs.length ∧ x.2.length = 64) :
    Dk.Ok { D with secs := settled D.secs (D.buf.take n), buf := l } := by
  refine ⟨?_, ?_, ?_, ?_, h.armed⟩
  · show 1 ≤ (settled _ _).length; rw [settled_length]; exact h.one
  · show (settled _ _).length ≤ _; rw [settled_length]; exact h.most
  · exact settled_len _ (fun x hx => (h.buf x (List.mem_of_mem_take hx)).2) _ h.len
  · intro x hx; show _ < (settled _ _).length ∧ _; rw [settled_length]; exact hl x hx
theorem pad64_length (l : List UInt8) (h : l.length ≤ 64) : (pad64 l).length = 64 := by simp [pad64]; omega

def zSecs (c : Int) : List (List UInt8) := List.replicate c.toNat (List.replicate 64 0)
theorem zSecs_length (c : Int) : (zSecs c).length = c.toNat := by simp [zSecs]
theorem zSecs_len (c : Int) : ∀ s ∈ zSecs c, s.length = 64 := by
  intro s hs; rw [List.eq_of_mem_replicate hs, List.length_replicate]
theorem secCells_zero (k : Nat) : secCells (List.replicate k (List.replicate 64 0)) = (List.replicate (k * 64) (Value.int .u8 0)).toArray := by
  unfold secCells
  congr 1
  induction k with
  | zero => rfl
  | succ k ih =>
    rw [List.replicate_succ, List.flatMap_cons, ih, Nat.succ_mul, Nat.add_comm, ← List.replicate_append_replicate]
    congr 1

/-- The blocks of a disk. -/
def dkFoot (b lb : Nat) (wv : Value) (k : Nat) : Prop := k = b ∨ k = lb ∨ wv.ownBlock = some k
/-- From one footprint to the next. -/
structure Mv (F G : Nat → Prop) (w w' : World) : Prop where
  fr : Fr F w w'
  piv : ∀ k, G k → F k ∨ w.heap.size ≤ k
theorem Mv.trans {F G H : Nat → Prop} {a b c : World} (h : Mv F G a b) (k : Mv G H b c) : Mv F H a c :=
  ⟨h.fr.trans k.fr h.piv, fun i hi => by
    rcases k.piv i hi with h1 | h1
    · exact h.piv i h1
    · exact .inr (Nat.le_trans h.fr.size h1)⟩
theorem Mv.refl (F : Nat → Prop) (w : World) : Mv F F w w := ⟨Fr.refl F w, fun _ h => .inl h⟩
theorem Mv.of_fr {F : Nat → Prop} {w w' : World} (h : Fr F w w') : Mv F F w w' := ⟨h, fun _ h => .inl h⟩

theorem ownsRow_fr {w w' : World} {F : Nat → Prop} {base : Nat} {e : TypeId} {size : Nat} {v : Value} {n : Nat} {xs : List Value}
    (h : w.ownsRow base e size v n xs) (hf : Fr F w w') (hF : ∀ k, v.ownBlock = some k → ¬ F k) : w'.ownsRow base e size v n xs := by
  refine ⟨h.1, ?_⟩
  rcases h.2 with hn | ⟨g, cap, cur, rfl, hb, hg, rest⟩
  · exact .inl hn
  · exact .inr ⟨g, cap, cur, rfl, hb, hf.at hg (hF g rfl), rest⟩

theorem ownsRow_slice {w : World} {base : Nat} {e : TypeId} {size : Nat} {v : Value} {n : Nat} {xs : List Value} (h : w.ownsRow base e size v n xs) : ∃ ao cap, v = .slice ao n cap := by
  rcases h.2 with ⟨rfl, rfl⟩ | ⟨g, cap, cur, rfl, _⟩
  · exact ⟨none, 0, rfl⟩
  · exact ⟨_, cap, rfl⟩

/-- A disk outside of what turned. -/
theorem IsDk.fr {w w' : World} {F : Nat → Prop} {b lb cl : Nat} {sp : Array Value} {wv : Value} {D : Dk} (h : IsDk w b lb cl sp wv D) (hf : Fr F w w') (hF : ∀ k, dkFoot b lb wv k → ¬ F k) : IsDk w' b lb cl sp wv D :=
  ⟨h.ok, hf.at h.head (hF b (.inl rfl)), hf.at h.row (hF lb (.inr (.inl rfl))), ownsRow_fr h.own hf (fun k hk => hF k (.inr (.inr hk))), h.ne⟩
theorem IsDk.alloc {w : World} {b lb cl : Nat} {sp : Array Value} {wv : Value} {D : Dk} (h : IsDk w b lb cl sp wv D) (o : Obj) : IsDk (w.alloc o) b lb cl sp wv D :=
  h.fr (F := fun _ => False) ((Fr.refl _ w).alloc o) (fun _ _ h => h)
theorem IsDk.lt {w : World} {b lb cl : Nat} {sp : Array Value} {wv : Value} {D : Dk} (h : IsDk w b lb cl sp wv D) : ∀ k, dkFoot b lb wv k → k < w.heap.size := by
  rintro k (rfl | rfl | hk)
  · exact lt_of_block h.head
  · exact lt_of_block h.row
  · exact (h.own.lt k hk).2

/-- A slice of bytes that reads as a list. -/
structure IsBytes (w : World) (v : Value) (l : List UInt8) : Prop where
  is : ∃ ao cap, v = .slice ao l.length cap ∧ l.length ≤ cap ∧ cap ≤ 9223372036854775807 ∧ (ao = none → l = []) ∧
    ∀ a, ao = some a → ∀ j v, (Bs l)[j]? = some v → w.cell? (a.add j) = some v
theorem block_add (a : Addr) (n : Nat) : (a.add n).block = a.block := by unfold Addr.add; split <;> rfl
theorem IsBytes.fr {w w' : World} {F : Nat → Prop} {v : Value} {l : List UInt8} (h : IsBytes w v l) (hf : Fr F w w') (hF : ∀ k, v.ownBlock = some k → ¬ F k) : IsBytes w' v l := by
  obtain ⟨ao, cap, rfl, h1, h2, h3, h4⟩ := h.is
  refine ⟨ao, cap, rfl, h1, h2, h3, fun a ha j u hu => ?_⟩
  have hc := h4 a ha j u hu
  subst ha
  have hlt := World.block_lt_of_cell? w _ hc
  have hk := hf.block _ hlt (by rw [block_add]; exact hF _ rfl)
  rw [World.cell?_of_block hk]; exact hc
/-- Read in an older world. -/
theorem IsBytes.old {w w' : World} {F : Nat → Prop} {v : Value} {l : List UInt8} (h : IsBytes w v l) (hf : Fr F w w') (hF : ∀ k, k < w.heap.size → ¬ F k) : IsBytes w' v l := by
  obtain ⟨ao, cap, rfl, h1, h2, h3, h4⟩ := h.is
  refine ⟨ao, cap, rfl, h1, h2, h3, fun a ha j u hu => ?_⟩
  have hc := h4 a ha j u hu
  have hlt := World.block_lt_of_cell? w _ hc
  have hk := hf.block _ hlt (hF _ hlt)
  rw [World.cell?_of_block hk]; exact hc
theorem IsBytes.alloc {w : World} {v : Value} {l : List UInt8} (h : IsBytes w v l) (o : Obj) : IsBytes (w.alloc o) v l :=
  h.fr (F := fun _ => False) ((Fr.refl _ w).alloc o) (fun _ _ h => h)

theorem splice_nil (cs : Array Value) (o : Nat) : splice cs o [] = cs := by simp [splice]
theorem run_copy_bytes {P : Program} (w : World) (dT sT ty elem : TypeId) (g o dLen dCap : Nat) (v : Value) (l : List UInt8) (hb : IsBytes w v l)
    (hu : P.underlying dT = some (.slice elem)) (hs : (P.info? elem).map (·.size) = some 1) (cs : Array Value) (T : TypeId)
    (hg : w.heap[g]? = some (.cells cs T (0, 0))) (hfit : o + min l.length dLen ≤ cs.size) :
    (Builtin.copy_ #[dT, sT] ty #[.slice (some ⟨g, o, none⟩) dLen dCap, v]).run P w = .ok (goInt (min l.length dLen : Nat)) (w.setRow g (splice cs o (Bs (l.take dLen)))) := by
  obtain ⟨ao, cap, rfl, h1, h2, h3, h4⟩ := hb.is
  cases ao with
  | none =>
    obtain rfl := h3 rfl
    have := run_copy_none (P := P) w dT sT ty elem (some ⟨g, o, none⟩) none dLen dCap 0 cap hu hs (by simp)
    simp only [List.length_nil, List.take_nil, Bs_nil, splice_nil, Nat.zero_min]
    rw [setRow_self w g cs T (0, 0) hg]
    exact this
  | some a =>
    have hlen : (Bs (l.take dLen)).length = min l.length dLen := by rw [Bs_length, List.length_take, Nat.min_comm]
    have := run_copy_row (P := P) w dT sT ty elem g o dLen dCap a l.length cap cs T (Bs (l.take dLen)) hu hs hg (by rw [hlen]) (fun j u hu => by
      refine h4 a rfl j u ?_
      rw [Bs_take, List.getElem?_take] at hu
      split at hu
      · exact hu
      · cases hu) (by rw [hlen]; exact hfit) (Bs_one _)
    rw [hlen] at this
    unfold splice
    rw [hlen]
    exact this
theorem step_copy_bytes {P : Program} {ops : Array Oper} {Q : Exit → Act → World → Prop} {a : Act} {w : World} {K : Act → World → Prop} {oo : Oper} (hw : Region.wanted oo (yielded ops a.tmps) = true) (x y : Operand) (dT sT elem : TypeId)
    (ho : oo.op = .call { callee := .builtin .copy, args := #[x, y], argTypes := #[dT, sT] })
    (hu : P.underlying dT = some (.slice elem)) (hs : (P.info? elem).map (·.size) = some 1)
    (g o dLen dCap : Nat) (hx : a.eval x = .slice (some ⟨g, o, none⟩) dLen dCap) (v : Value) (l : List UInt8) (hy : a.eval y = v) (hb : IsBytes w v l) (cs : Array Value) (T : TypeId)
    (hg : w.heap[g]? = some (.cells cs T (0, 0))) (hfit : o + min l.length dLen ≤ cs.size)
    (hk : K (a.put oo.dst (goInt (min l.length dLen : Nat))) (w.setRow g (splice cs o (Bs (l.take dLen))))) :
    if Region.wanted oo (yielded ops a.tmps) = true then Oper.wp P oo a w K Q else K (a.put oo.dst undef) w := by
  rw [if_pos hw]
  have hr := run_copy_bytes (P := P) w dT sT oo.type elem g o dLen dCap v l hb hu hs cs T hg hfit
  unfold Oper.wp execOp
  simp only [ho, resolve, invoke, builtin, Sem.run_bind, Sem.run_pure, Result.andThen_ok, List.map_toArray, List.map_cons, List.map_nil, hx, hy, hr]
  exact hk
theorem wpList_copy_bytes {P : Program} {ops : Array Oper} {Q : Exit → Act → World → Prop} {a : Act} {w : World} {rest : List Oper} {oo : Oper} (hgd : oo.guard = none) (x y : Operand) (dT sT elem : TypeId)
    (ho : oo.op = .call { callee := .builtin .copy, args := #[x, y], argTypes := #[dT, sT] })
    (hu : P.underlying dT = some (.slice elem)) (hs : (P.info? elem).map (·.size) = some 1)
    (g o dLen dCap : Nat) (hx : a.eval x = .slice (some ⟨g, o, none⟩) dLen dCap) (v : Value) (l : List UInt8) (hy : a.eval y = v) (hb : IsBytes w v l) (cs : Array Value) (T : TypeId)
    (hg : w.heap[g]? = some (.cells cs T (0, 0))) (hfit : o + min l.length dLen ≤ cs.size)
    (hk : wpList P ops Q rest (a.put oo.dst (goInt (min l.length dLen : Nat))) (w.setRow g (splice cs o (Bs (l.take dLen))))) : wpList P ops Q (oo :: rest) a w :=
  wpList_plain hgd fun K hK => by
    have hr := run_copy_bytes (P := P) w dT sT oo.type elem g o dLen dCap v l hb hu hs cs T hg hfit
    unfold Oper.wp execOp
    simp only [ho, resolve, invoke, builtin, Sem.run_bind, Sem.run_pure, Result.andThen_ok, List.map_toArray, List.map_cons, List.map_nil, hx, hy, hr]
    exact hK _ _ hk

/-- A string of bytes. -/
def str (l : List UInt8) : Value := .string ⟨l.toArray⟩
section
variable (P : Program) (t : TypeId) (xo yo : Operand) (w : World)
theorem eqO_string (a b : ByteArray) : eqO P .eql t xo yo (.string a) (.string b) w = .ok (.value (.bool (a.data.toList == b.data.toList))) w := by
  simp [eqO, eqGuard, binOp, Op.stringOp, ByteArray.toList_eq]
theorem neO_string (a b : ByteArray) : eqO P .neq t xo yo (.string a) (.string b) w = .ok (.value (.bool (a.data.toList != b.data.toList))) w := by
  simp [eqO, eqGuard, binOp, Op.stringOp, ByteArray.toList_eq, bne]
theorem eqO_str (a b : List UInt8) : eqO P .eql t xo yo (str a) (str b) w = .ok (.value (.bool (a == b))) w := by
  unfold str; rw [eqO_string]
theorem neO_str (a b : List UInt8) : eqO P .neq t xo yo (str a) (str b) w = .ok (.value (.bool (a != b))) w := by
  unfold str; rw [neO_string]
end
attribute [go_sem] eqO_string neO_string eqO_str neO_str
/-- Noughts. -/
def zB (c : Int) : List UInt8 := List.replicate c.toNat 0
theorem zB_length (c : Int) : (zB c).length = c.toNat := by simp [zB]
theorem Bs_zB (c : Int) : (List.replicate c.toNat (Value.int .u8 0)).toArray = (Bs (zB c)).toArray := by simp [Bs, zB, List.map_replicate]
theorem splice_pad64 (l : List UInt8) (h : l.length ≤ 64) : splice (Bs (zB 64)).toArray 0 (Bs l) = (Bs (pad64 l)).toArray := by
  apply Array.toList_inj.1
  rw [splice_toList]
  simp only [Bs_length, List.take_zero, List.nil_append, Nat.zero_add, zB, ← Bs_drop, ← Bs_append, pad64]
  rw [show (64 : Int).toNat = 64 from rfl, List.drop_replicate]
def cvStr (P : Program) (s t : TypeId) (v : Value) (w : World) : Result Next := (do pure (.value (← convert s t v)) : Sem Next).run P w
theorem cvStr_go {P : Program} (s e t : TypeId) (hs : P.underlying s = some (.slice e)) (he : P.underlying e = some (.int .u8)) (ht : P.underlying t = some .string) (w : World) (v : Value) (l : List UInt8) (h : IsBytes w v l) :
    cvStr P s t v w = .ok (.value (str l)) w := by
  obtain ⟨ao, cap, rfl, h1, h2, h3, h4⟩ := h.is
  unfold cvStr
  cases ao with
  | none =>
    obtain rfl := h3 rfl
    simp only [Sem.run_bind, run_convert_bytes_nil w s e hs he _ _ t ht, Result.andThen_ok, Sem.run_pure]; rfl
  | some a =>
    have hd := run_convert_bytes_string w s t e (some a) l.length cap hs he ht
    have hb := run_bytesToString (P := P) w a l.length cap (l.map fun c => (c.toNat : Int)) (by
      have := run_loadCells_list (P := P) w a (Bs l) (h4 a rfl)
      rw [Bs_length] at this
      rw [this, List.map_map]; rfl)
    simp only [Sem.run_bind, hd, hb, Result.andThen_ok, Sem.run_pure]
    congr 2
    unfold str
    congr 1
    have : ∀ (l : List UInt8) (r : ByteArray), (l.map fun c => (c.toNat : Int)).foldl (fun r n => r.push (UInt8.ofNat n.toNat)) r = ⟨r.data ++ l.toArray⟩ := by
      intro l
      induction l with
      | nil => intro r; simp
      | cons c l ih => intro r; simp only [List.map_cons, List.foldl_cons, ih]; simp [ByteArray.push]
    rw [this]; simp [ByteArray.empty, ByteArray.emptyWithCapacity]; rfl
theorem IsBytes.of_row {w : World} {g : Nat} {l : List UInt8} {T : TypeId} {fr : Nat × Nat} (h : w.heap[g]? = some (.cells (Bs l).toArray T fr)) (n cap : Nat) (hn : n ≤ l.length) (hc : n ≤ cap) (hc' : cap ≤ 9223372036854775807) :
    IsBytes w (.slice (some ⟨g, 0, none⟩) n cap) (l.take n) := by
  have hl : (l.take n).length = n := by rw [List.length_take]; omega
  refine ⟨some ⟨g, 0, none⟩, cap, by rw [hl], by rw [hl]; exact hc, hc', by simp, ?_⟩
  rintro a ha j v hv
  cases ha
  rw [Addr.add_mk, Nat.zero_add, cells_at h]
  rw [Bs_take, List.getElem?_take] at hv
  split at hv
  · simpa using hv
  · cases hv
theorem IsBytes.nil (w : World) : IsBytes w (.slice none 0 0) [] := ⟨none, 0, rfl, Nat.le_refl _, by decide, fun _ => rfl, fun a h => by cases h⟩
theorem IsBytes.of_cells {w : World} {g : Nat} {l : List UInt8} {T : TypeId} {fr : Nat × Nat} (h : w.heap[g]? = some (.cells (Bs l).toArray T fr)) (hl : l.length ≤ 9223372036854775807) :
    IsBytes w (.slice (some ⟨g, 0, none⟩) l.length l.length) l := by
  have := IsBytes.of_row h l.length l.length (Nat.le_refl _) (Nat.le_refl _) hl
  rwa [List.take_length] at this

/-- Whatever was there before stands; what is owned is new. -/
structure Own (W w : World) (F : Nat → Prop) : Prop where
  fr : Fr (fun _ => False) W w
  new : ∀ k, F k → W.heap.size ≤ k
theorem Own.step {W w w' : World} {F G : Nat → Prop} (h : Own W w F) (m : Mv F G w w') : Own W w' G :=
  ⟨h.fr.trans m.fr (fun k hk => .inr (h.new k hk)), fun k hk => (m.piv k hk).elim (h.new k) (fun hs => Nat.le_trans h.fr.size hs)⟩
theorem Own.still {W w w' : World} {F : Nat → Prop} (h : Own W w F) (m : Fr (fun _ => False) w w') : Own W w' F :=
  ⟨h.fr.trans m (fun _ hk => hk.elim), h.new⟩
theorem Own.cell {W w : World} {F : Nat → Prop} (h : Own W w F) {a : Addr} {v : Value} (hc : W.cell? a = some v) : w.cell? a = some v := by
  have hlt := World.block_lt_of_cell? W _ hc
  rw [World.cell?_of_block (h.fr.block _ hlt (fun h => h))]; exact hc
theorem Own.bytes {W w : World} {F : Nat → Prop} (h : Own W w F) {v : Value} {l : List UInt8} (hb : IsBytes W v l) : IsBytes w v l := hb.old h.fr (fun _ _ h => h)
theorem Own.begin (W : World) (F : Nat → Prop) (h : ∀ k, ¬ F k) : Own W W F := ⟨Fr.refl _ W, fun k hk => (h k hk).elim⟩
theorem Own.grow {W w w' : World} {F G : Nat → Prop} (h : Own W w F) (m : Fr (fun _ => False) w w') (hG : ∀ k, G k → F k ∨ w.heap.size ≤ k) : Own W w' G :=
  ⟨h.fr.trans m (fun _ hk => hk.elim), fun k hk => (hG k hk).elim (h.new k) (fun hs => Nat.le_trans h.fr.size hs)⟩
end Go.Proofs.Ytnpeeephkkmomaa
