/-
  The laws of the store: a new store; awake.
-/
import Derived.Test.YtnpeeephkkmomaaME
import Derived.ChangeKeysEq
import Derived.Test.YtnpeeephkkmomaaRows
import Derived.Test.YtnpeeephkkmomaaMA
namespace Go.Proofs.Ytnpeeephkkmomaa
open Go.RowKit Go.Proofs.YtnpeeephkkmomaaW.PrintLast
set_option linter.unusedVariables false
set_option linter.unusedSimpArgs false

def S0 : StoV := ⟨0, 0, []⟩
theorem newDk_on (n : Nat) (hn : 4 ≤ n ∧ n ≤ 65536) (D : Dk) (hD : D = newDk n) (ok : D.Ok) : OnDk D n S0 := by
  have hs : D.secs = List.replicate n (List.replicate 64 0) := by
    rw [hD]; simp only [newDk, zSecs]; congr 1; omega
  have hb : D.buf = [] := by rw [hD]; rfl
  have ht : ∀ i, i < 2 → D.told i = dblB [0, 0, 0, 0] := fun i hi => by
    rw [told_nil hb, hs, List.getD_eq_getElem?_getD, List.getElem?_replicate, if_pos (by omega)]; rfl
  have hz : ∀ u ∈ [(0 : Int), 0, 0, 0], in64 u := by
    intro u hu
    simp only [List.mem_cons, List.not_mem_nil, or_false, or_self] at hu
    subst hu; constructor <;> decide
  refine ⟨⟨ok, by rw [hs, List.length_replicate], hb, by rw [hD]; rfl, by rw [hD]; simp [newDk]⟩, by decide, ⟨fun _ => ⟨rfl, rfl, rfl⟩, (0, 0, 0, 0), ht 1 (by omega), ht 0 (by omega), hz, hz, .inr ⟨rfl, rfl⟩⟩, Good.nil _ _, Nat.zero_le _, fun f hf => by cases hf⟩
theorem st_new (n : Nat) (hn : 4 ≤ n ∧ n ≤ 65536) (W : World) : Calls Try.prog 12 #[.int .i64 n] W fun e w' => ∃ b : Nat, e = .returned (.pointer (some ⟨b, 0, none⟩)) ∧ DkH W w' (fun _ => False) n b S0 := by
  refine (new_any n W (by omega)).mono ?_
  rintro e w' ⟨b, lb, cl, sp, rfl, hd, fr, hb, hlb⟩
  refine ⟨b, rfl, lb, cl, sp, _, _, hd, newDk_on n hn _ rfl hd.ok, fr, fun j hj => ⟨?_, fun h => h⟩, fun j h => h.elim⟩
  rcases hj with h | h | h
  · subst h; exact hb
  · subst h; exact hlb
  · simp [Value.ownBlock] at h
theorem StH.lt {W w : World} {X : Nat → Prop} {n b s cp jp lb cl : Nat} {sp : Array Value} {wv hv : Value} {D : Dk} {S : StoV} (h : StM W w X n b s S cp jp lb cl sp wv hv D) (k : Nat) (hk : stFoot b lb cp jp s wv hv k) : k < w.heap.size := by
  rcases hk with hk | hk | hk | hk | hk
  · exact h.dk.lt k hk
  · rw [hk]; exact lt_of_block h.cell
  · rw [hk]; exact lt_of_block h.j
  · rw [hk]; exact lt_of_block h.st
  · exact h.has.lt k hk
/-- A step of others', at blocks aside or new. -/
theorem StH.frX {W w w' : World} {X : Nat → Prop} {n b s : Nat} {S : StoV} (h : StH W w X n b s S) {F : Nat → Prop} (hf : Fr F w w') (hF : ∀ j, F j → X j ∨ w.heap.size ≤ j) (hXW : ∀ j, X j → W.heap.size ≤ j) (X' : Nat → Prop) (hX : ∀ j, X' j → (X j ∨ w.heap.size ≤ j) ∧ j < w'.heap.size) : StH W w' X' n b s S := by
  obtain ⟨cp, jp, lb, cl, sp, wv, hv, D, h⟩ := h
  have hn : ∀ j, stFoot b lb cp jp s wv hv j → ¬ F j := fun j hj hf => by
    rcases hF j hf with h1 | h1
    · exact (h.foot j hj).2 h1
    · have := StH.lt h j hj; omega
  refine ⟨cp, jp, lb, cl, sp, wv, hv, D, h.dk.fr hf (fun j hj => hn j (.inl hj)), h.cell.fr hf (hn cp (.inr (.inl rfl))), h.j.fr hf (hn jp (.inr (.inr (.inl rfl)))), hf.at h.st (hn s (.inr (.inr (.inr (.inl rfl))))), h.has.fr hf (fun k hk => hn k (.inr (.inr (.inr (.inr hk))))), h.on, h.ncp, h.njp, h.ns, h.ne, h.nhv, h.own.trans hf (fun j hj => ?_), fun j hj => ⟨(h.foot j hj).1, fun hx => ?_⟩, fun j hj => (hX j hj).2⟩
  · rcases hF j hj with h1 | h1
    · exact .inr (hXW j h1)
    · exact .inr (Nat.le_trans h.own.size h1)
  · rcases (hX j hx).1 with h1 | h1
    · exact (h.foot j hj).2 h1
    · have := StH.lt h j hj; omega
theorem encBytes_le (l : List Chg) : (encBytes l).length ≤ encN l := by
  have := encAll_length l
  unfold encBytes; rw [List.length_append, be8_length]; omega
theorem IsChg.of_block {w : World} {g : Nat} {l : List Chg} {T : TypeId} (h : w.heap[g]? = some (.cells (l.flatMap chCells).toArray T (0, 0))) (n : Nat) (hn : n = l.length) (hl : l.length ≤ 1099511627776) : IsChg w (.slice (some ⟨g, 0, none⟩) n n) l := by
  subst hn
  refine ⟨some ⟨g, 0, none⟩, l.length, rfl, Nat.le_refl _, by omega, by simp, ?_⟩
  rintro a ha j u hu
  cases ha
  rw [Addr.add_mk, Nat.zero_add, cells_at h]
  simpa using hu
/-- A Commit that finds room in the area that is in use. -/
theorem StH.app {W w : World} {X : Nat → Prop} {n b s : Nat} {S : StoV} (h : StH W w X n b s S) (hn : 4 ≤ n) (ht : S.turn ≤ 4611686018427387000) (v : Value) (l : List Chg) (hv : IsChg w v l) (hl : encN l ≤ 1048576) (hf : S.en + encN l + 16 ≤ halfN n * 64) :
    Calls Try.prog 39 #[.pointer (some ⟨s, 0, none⟩), v] w fun e w' => e = .returned (.int .i64 0) ∧ StH W w' X n b s (S.app l) ∧ Fr (Aside W X) w w' := by
  refine (commit39 h hn ht v l hv (by omega)).mono ?_
  rintro e w' ⟨er, S', rfl, hc, h1, h2⟩
  have hle := encBytes_le l
  have hft : Fits n S.en (encBytes l).length := ⟨by omega, by omega⟩
  cases hc with
  | app _ => exact ⟨rfl, h1, h2⟩
  | snap hx _ => exact absurd hft hx
  | full hx _ => exact absurd hft hx

def lA1 : List Chg := [⟨[97], [49], false⟩, ⟨[98], [50], false⟩]
def lA2 : List Chg := [⟨[97], [], true⟩]
def lB : List Chg := [⟨[98], [50], false⟩]
theorem awake_room : (S0.app lA1).en + encN lA2 + 16 ≤ halfN 20 * 64 := by
  rw [(app_facts S0 lA1).2.1]
  have h1 := encBytes_le lA1
  have h2 : encN lA1 = 46 := by decide
  have h3 : encN lA2 = 26 := by decide
  have h4 : S0.en = 0 := rfl
  have h5 : halfN 20 = 9 := rfl
  omega
def SA : StoV := (S0.app lA1).app lA2
theorem SA_has : SA.has = lB := by
  unfold SA
  rw [(app_facts _ _).2.2.2, (app_facts _ _).2.2.2]; rfl
set_option maxRecDepth 100000 in
theorem eq75 (a b : ByteArray) (x : Bool) (w : World) : (Op.equalIn 10000 75 (.agg #[.string a, .string b, .bool x]) (.agg #[.string a, .string b, .bool x])).run Try.prog w = .ok true w := by
  have hu : Try.prog.underlying 75 = some (.struct (Try.prog.fieldsOf 75)) := by kernel_rfl
  have hp : Try.prog.stoodInHeld 75 = false := by kernel_rfl
  obtain ⟨fs, hfs⟩ : ∃ fs, fs = (Try.prog.fieldsOf 75).toList := ⟨_, rfl⟩
  have hk : (fs.map fun f => (f.name == "_", f.type, f.offset)) = [(false, 9, 0), (false, 9, 1), (false, 4, 2)] := by rw [hfs]; kernel_rfl
  rw [show (10000 : Nat) = 9999 + 1 from rfl, run_equalIn_struct w 9999 75 _ _ hu hp, ← hfs]
  obtain ⟨f0, f1, f2, rfl⟩ : ∃ f0 f1 f2, fs = [f0, f1, f2] := by
    match fs, hk with
    | [f0, f1, f2], _ => exact ⟨f0, f1, f2, rfl⟩
  simp only [List.map_cons, List.map_nil, List.cons.injEq, Prod.mk.injEq, and_true] at hk
  obtain ⟨⟨n0, t0, o0⟩, ⟨n1, t1, o1⟩, n2, t2, o2⟩ := hk
  have k9 : Try.prog.plainKey 9 = true := by kernel_rfl
  have k4 : Try.prog.plainKey 4 = true := by kernel_rfl
  have n0' : f0.name ≠ "_" := by simpa using n0
  have n1' : f1.name ≠ "_" := by simpa using n1
  have n2' : f2.name ≠ "_" := by simpa using n2
  have p0 : ∀ W, (part 9 #[.string a, .string b, .bool x] 0).run Try.prog W = .ok (.string a) W := fun W => run_part_plain W k9 rfl
  have p1 : ∀ W, (part 9 #[.string a, .string b, .bool x] 1).run Try.prog W = .ok (.string b) W := fun W => run_part_plain W k9 rfl
  have p2 : ∀ W, (part 4 #[.string a, .string b, .bool x] 2).run Try.prog W = .ok (.bool x) W := fun W => run_part_plain W k4 rfl
  have q9 : ∀ c W, (Op.equalIn 9999 9 (.string c) (.string c)).run Try.prog W = .ok true W := fun c W => by
    rw [show (9999 : Nat) = 9998 + 1 from rfl, run_equalIn_string W 9998 9 c c (by kernel_rfl)]; simp
  have q4 : ∀ c W, (Op.equalIn 9999 4 (.bool c) (.bool c)).run Try.prog W = .ok true W := fun c W => by
    rw [show (9999 : Nat) = 9998 + 1 from rfl, run_equalIn_bool' W 9998 4 c c (by kernel_rfl)]; simp
  simp [Op.eqFields, n0', n1', n2', t0, t1, t2, o0, o1, o2, p0, p1, p2, q9, q4]
set_option maxRecDepth 100000 in
set_option maxHeartbeats 2000000 in
theorem awake6 (w : World) : Calls Try.prog 37 #[] w fun e w' => e = .returned (.bool true) ∧ Fr (fun _ => False) w w' := by
  have M1 : Hid True := Lib.hid trivial
  have heq : (∀ a b x w, (Op.equalIn 10000 75 (.agg #[.string a, .string b, .bool x]) (.agg #[.string a, .string b, .bool x])).run Try.prog w = .ok true w) := eq75
  go_enter Try.func37, Try.ntmps37
  go_wp2_with (first
    | (go_at_call 12; refine (st_new 20 (by decide) w).mono ?_; rintro e w1 ⟨b, rfl, hd⟩; have HD := Lib.hid hd; clear hd)
    | (go_at_call 36; refine (open36 HD.out (by decide)).mono ?_; rintro e w2 ⟨s, rfl, hs, _⟩; have HS := Lib.hid hs; clear hs)
    | (go_at_call 39; clear M1; go_loud (refine ((HS.out.still ((Fr.refl (fun _ => False) w2).alloc _)).app (by decide) (by decide) _ lA1 (IsChg.of_block (heap_alloc_at w2 _) 2 rfl (by decide)) (by decide) (by decide)).mono ?_; rintro e w3 ⟨rfl, h3, f3⟩; have HS3 := Lib.hid h3; clear h3 f3))
    | (go_at_call 39; go_loud (refine ((HS3.out.still ((Fr.refl (fun _ => False) w3).alloc _)).app (by decide) (by decide) _ lA2 (IsChg.of_block (heap_alloc_at w3 _) 1 rfl (by decide)) (by decide) awake_room).mono ?_; rintro e w4 ⟨rfl, h4, f4⟩; have HS4 : Hid (StH w w4 (fun _ => False) 20 b s SA) := Lib.hid h4; clear h4 f4))
    | (go_at_call 44
       go_loud (
       refine (HS4.out.under []).mono ?_
       rintro e w5 ⟨v5, rfl, o5, n5, h5, f5⟩
       rw [SA_has] at o5
       have o6 : OwnChg w5 v5 lB := o5
       have HS5 := Lib.hid h5
       have HF5 := Lib.hid f5
       obtain ⟨vo, vc, hv5⟩ := o6.slice
       have hv6 : v5 = .slice vo 1 vc := hv5
       subst hv6
       obtain ⟨ab, off, rfl, c0, c1, c2⟩ := o6.chg.at 0 (by decide)
       have d0 : w5.cell? ⟨ab, off, none⟩ = some (.string ⟨#[98]⟩) := by rw [cell?_mk]; exact c0
       have d1 : w5.cell? ⟨ab, off + 1, none⟩ = some (.string ⟨#[50]⟩) := by rw [cell?_mk]; exact c1
       have d2 : w5.cell? ⟨ab, off + 2, none⟩ = some (.bool false) := by rw [cell?_mk]; exact c2
       clear o5 o6 n5 h5 f5 hv5 c0 c1 c2))
    | (go_at_call 43
       go_loud (
       refine (HS5.out.get [97]).mono ?_
       rw [show getOf SA.has [97] = ([], false) by rw [SA_has]; rfl]
       rintro e w6 ⟨rfl, h6, f6⟩
       have HS6 := Lib.hid h6
       have e0 := f6.cell d0
       have e1 := f6.cell d1
       have e2 := f6.cell d2
       rw [cell?_mk] at e0 e1 e2
       clear h6 f6 d0 d1 d2))
    | (go_at_call 46
       go_loud (
       refine HS6.out.count.mono ?_
       rw [show SA.has.length = 1 by rw [SA_has]; rfl]
       rintro e w7 ⟨rfl, rfl⟩)))
  go_ret
  exact ⟨rfl, HS6.out.own⟩
end Go.Proofs.Ytnpeeephkkmomaa
namespace Go.Proofs.Ytnpeeephkkmomaa
open Go.RowKit
set_option linter.unusedVariables false
set_option linter.unusedSimpArgs false

theorem Rising.inj {L : List Chg} (hr : Rising L) {i j : Nat} (hi : i < L.length) (hj : j < L.length) (he : L[i].key = L[j].key) : i = j := by
  rcases Nat.lt_trichotomy i j with h | h | h
  · have := hr i j hi hj h; rw [he, cb_refl] at this; exact absurd this (by decide)
  · exact h
  · have := hr j i hj hi h; rw [he, cb_refl] at this; exact absurd this (by decide)
theorem mem_applyOne {L : List Chg} (hr : Rising L) (c x : Chg) : x ∈ applyOne L c ↔ (x = c ∧ c.gone = false) ∨ (x ∈ L ∧ x.key ≠ c.key) := by
  have F := findAt_pos L c.key hr
  unfold applyOne
  cases hk : hasKey L c.key with
  | true =>
    rw [hk] at F
    obtain ⟨hp, hpk⟩ := F.is.1 rfl
    have hiff : ∀ i (h : i < L.length), L[i].key = c.key ↔ i = posOf L c.key := fun i h =>
      ⟨fun e => hr.inj h hp (by rw [e, hpk]), fun e => by subst e; exact hpk⟩
    cases hg : c.gone with
    | true =>
      simp only [if_true, Bool.true_eq_false, and_false, false_or]
      rw [List.mem_eraseIdx_iff_getElem]
      constructor
      · rintro ⟨i, hi, hne, rfl⟩
        exact ⟨List.getElem_mem hi, fun e => hne ((hiff i hi).1 e)⟩
      · rintro ⟨hx, hne⟩
        obtain ⟨i, hi, rfl⟩ := List.mem_iff_getElem.1 hx
        exact ⟨i, hi, fun e => hne ((hiff i hi).2 e), rfl⟩
    | false =>
      simp only [if_true, Bool.false_eq_true, if_false, and_true]
      constructor
      · intro hx
        obtain ⟨i, hi, rfl⟩ := List.mem_iff_getElem.1 hx
        rw [List.length_set] at hi
        rw [List.getElem_set]
        split
        · exact .inl rfl
        · rename_i hne
          exact .inr ⟨List.getElem_mem hi, fun e => hne ((hiff i hi).1 e).symm⟩
      · rintro (rfl | ⟨hx, hne⟩)
        · exact List.mem_iff_getElem.2 ⟨posOf L x.key, by rw [List.length_set]; exact hp, by rw [List.getElem_set_self]⟩
        · obtain ⟨i, hi, rfl⟩ := List.mem_iff_getElem.1 hx
          exact List.mem_iff_getElem.2 ⟨i, by rw [List.length_set]; exact hi, by rw [List.getElem_set_ne (fun e => hne ((hiff i hi).2 e.symm))]⟩
  | false =>
    have hno : ∀ x ∈ L, x.key ≠ c.key := fun x hx e => by
      unfold hasKey at hk
      rw [List.any_eq_false] at hk
      exact hk x hx (by simpa using e)
    cases hg : c.gone with
    | true => simp only [Bool.false_eq_true, if_false, if_true, Bool.true_eq_false, and_false, false_or]; exact ⟨fun h => ⟨h, hno x h⟩, fun h => h.1⟩
    | false =>
      simp only [Bool.false_eq_true, if_false, and_true]
      rw [List.mem_append, List.mem_cons]
      constructor
      · rintro (h | h | h)
        · exact .inr ⟨List.mem_of_mem_take h, hno x (List.mem_of_mem_take h)⟩
        · exact .inl h
        · exact .inr ⟨List.mem_of_mem_drop h, hno x (List.mem_of_mem_drop h)⟩
      · rintro (h | ⟨h, _⟩)
        · exact .inr (.inl h)
        · rw [← List.take_append_drop (posOf L c.key) L, List.mem_append] at h
          rcases h with h | h
          · exact .inl h
          · exact .inr (.inr h)
theorem getOf_mem {L : List Chg} (hr : Rising L) {c : Chg} (hc : c ∈ L) : getOf L c.key = (c.val, true) := by
  unfold getOf
  cases hf : L.find? (fun x => x.key == c.key) with
  | none =>
    rw [List.find?_eq_none] at hf
    exact absurd (beq_self_eq_true c.key) (hf c hc)
  | some d =>
    have h1 := List.mem_of_find?_eq_some hf
    have h2 := List.find?_some hf
    obtain ⟨i, hi, rfl⟩ := List.mem_iff_getElem.1 h1
    obtain ⟨j, hj, rfl⟩ := List.mem_iff_getElem.1 hc
    have h3 : L[i].key = L[j].key := by simpa using h2
    obtain rfl := hr.inj hi hj h3
    rfl
theorem getOf_none {L : List Chg} {k : List UInt8} (h : ∀ c ∈ L, c.key ≠ k) : getOf L k = ([], false) := by
  unfold getOf
  have : L.find? (fun x => x.key == k) = none := by
    rw [List.find?_eq_none]
    intro c hc he
    exact h c hc (by simpa using he)
  rw [this]
theorem getOf_cases {L : List Chg} (hr : Rising L) (k : List UInt8) : (∃ c ∈ L, c.key = k ∧ getOf L k = (c.val, true)) ∨ ((∀ c ∈ L, c.key ≠ k) ∧ getOf L k = ([], false)) := by
  by_cases h : ∃ c ∈ L, c.key = k
  · obtain ⟨c, hc, rfl⟩ := h
    exact .inl ⟨c, hc, rfl, getOf_mem hr hc⟩
  · have h' : ∀ c ∈ L, c.key ≠ k := fun c hc e => h ⟨c, hc, e⟩
    exact .inr ⟨h', getOf_none h'⟩
theorem getOf_put {L : List Chg} (hr : Rising L) (c : Chg) (hg : c.gone = false) (k : List UInt8) : getOf (applyOne L c) k = if k = c.key then (c.val, true) else getOf L k := by
  have hr' := hr.one c
  split
  · rename_i e
    subst e
    exact getOf_mem hr' ((mem_applyOne hr c c).2 (.inl ⟨rfl, hg⟩))
  · rename_i hne
    rcases getOf_cases hr k with ⟨d, hd, rfl, e⟩ | ⟨hno, e⟩
    · rw [e]
      exact getOf_mem hr' ((mem_applyOne hr c d).2 (.inr ⟨hd, hne⟩))
    · rw [e]
      refine getOf_none fun d hd he => ?_
      rcases (mem_applyOne hr c d).1 hd with ⟨rfl, _⟩ | ⟨h1, _⟩
      · exact hne he.symm
      · exact hno d h1 he

/-- Four keys at most. -/
def Four (L : List Chg) : Prop := ∀ c ∈ L, (∃ x : UInt8, c.key = [x] ∧ 97 ≤ x.toNat ∧ x.toNat ≤ 100) ∧ c.val.length ≤ 3
theorem Four.len {L : List Chg} (h : Four L) (hr : Rising L) : L.length ≤ 4 := by
  have key : ∀ i (hi : i < L.length), ∃ x : UInt8, L[i].key = [x] ∧ 97 + i ≤ x.toNat := by
    intro i
    induction i with
    | zero =>
      intro hi
      obtain ⟨⟨x, hx, h1, _⟩, _⟩ := h _ (List.getElem_mem hi)
      exact ⟨x, hx, by omega⟩
    | succ i ih =>
      intro hi
      obtain ⟨y, hy, hy2⟩ := ih (by omega)
      obtain ⟨⟨x, hx, h1, _⟩, _⟩ := h _ (List.getElem_mem hi)
      refine ⟨x, hx, ?_⟩
      have h2 := hr i (i + 1) (by omega) hi (by omega)
      rw [hx, hy, cb_cons] at h2
      split at h2
      · omega
      · split at h2
        · omega
        · simp [Lib.compareBytes] at h2
  rcases Nat.lt_or_ge 4 L.length with h4 | h4
  · obtain ⟨x, hx, hx2⟩ := key 4 h4
    obtain ⟨⟨y, hy, h1, h2⟩, _⟩ := h _ (List.getElem_mem h4)
    rw [hx] at hy
    cases hy
    omega
  · exact h4
theorem Four.encN {L : List Chg} (h : Four L) (hr : Rising L) : encN L ≤ 92 := by
  have h4 := h.len hr
  have : ∀ L : List Chg, Four L → Go.Proofs.Ytnpeeephkkmomaa.encN L ≤ 8 + 21 * L.length := by
    intro L
    induction L with
    | nil => intro _; simp [Go.Proofs.Ytnpeeephkkmomaa.encN]
    | cons c L ih =>
      intro hL
      have h1 := ih (fun x hx => hL x (by simp [hx]))
      obtain ⟨⟨x, hx, _⟩, h3⟩ := hL c (by simp)
      have h2 : c.key.length = 1 := by rw [hx]; rfl
      simp only [Go.Proofs.Ytnpeeephkkmomaa.encN, List.map_cons, List.sum_cons, List.length_cons] at *
      omega
  have := this L h
  omega
theorem Four.one {L : List Chg} (h : Four L) (hr : Rising L) (c : Chg) (hc : (∃ x : UInt8, c.key = [x] ∧ 97 ≤ x.toNat ∧ x.toNat ≤ 100) ∧ c.val.length ≤ 3) : Four (applyOne L c) := by
  intro d hd
  rcases (mem_applyOne hr c d).1 hd with ⟨rfl, _⟩ | ⟨h1, _⟩
  · exact hc
  · exact h d h1
end Go.Proofs.Ytnpeeephkkmomaa
namespace Go.Proofs.Ytnpeeephkkmomaa
open Go.RowKit Go.Proofs.YtnpeeephkkmomaaW.PrintLast
set_option linter.unusedVariables false
set_option linter.unusedSimpArgs false
attribute [local go_sem] beq_self_eq_true bne_self_eq_false

section
open Go.ChangeShapes Go.WideShapes Go.Deep
instance : Inhabited Chg := ⟨⟨[], [], false⟩⟩
def bulkC (c : Chg) : Nat := c.key.length + c.val.length + 4
theorem bulk_sum {H : Type} (f : Nat → Chg) (D : Nat → DataW H) : ∀ is : List Nat, (∀ i ∈ is, bulkC (f i) ≤ Rows.uptoBulk (D i)) → ((is.map f).map bulkC).sum ≤ Rows.uptoBulkAll (is.map D)
  | [], _ => by simp [Rows.uptoBulkAll]
  | i :: is, h => by
    have h1 := bulk_sum f D is (fun j hj => h j (by simp [hj]))
    have h2 := h i (by simp)
    simp only [List.map_cons, List.sum_cons, Rows.uptoBulkAll]
    omega
theorem list3 {α : Type} {l : List α} (h : l.length = 3) : ∃ a b c, l = [a, b, c] := by
  rcases l with _ | ⟨a, _ | ⟨b, _ | ⟨c, _ | ⟨d, t⟩⟩⟩⟩
  · simp at h
  · simp at h
  · simp at h
  · exact ⟨a, b, c, rfl⟩
  · simp at h
set_option maxRecDepth 100000 in
theorem chgs_of_trod {H : Type} {enc : TypeId × Value → H} {W : World} {base : Nat} {held : Bool} {fuel : Nat} {v : Value} {x : DataW H × List MemPlace}
    (h : DataW.trod enc Try.prog W base (fun _ => true) held fuel 59 [v] = some x) : ∃ l : List Chg, IsChg W v l ∧ (l.map bulkC).sum ≤ Rows.uptoBulk x.1 := by
  rcases open_slice Try.underlying59 h with ⟨hcs, rfl⟩ | ⟨a, len, cap, m, n, D, Pl, hcs, _, hl, hm, hmm, rfl, hi⟩
  · obtain rfl : v = .slice none 0 0 := by simpa using hcs
    exact ⟨[], ⟨none, 0, rfl, Nat.le_refl _, by decide, fun _ => rfl, fun a h => by cases h⟩, by simp⟩
  · obtain rfl : v = .slice (some a) len cap := by simpa using hcs
    simp only [if_true] at hmm
    subst hmm
    have hC : Try.prog.cellsOf 72 = 3 := by kernel_rfl
    have key : ∀ i, i < len → ∃ c : Chg, (W.cell? (a.add (i * 3 + 0)) = some (str c.key) ∧ W.cell? (a.add (i * 3 + 1)) = some (str c.val) ∧ W.cell? (a.add (i * 3 + 2)) = some (.bool c.gone)) ∧ bulkC c ≤ Rows.uptoBulk (D i) := by
      intro i hil
      obtain ⟨cs', hc, ht'⟩ := hi i (by omega)
      rw [hC] at hc
      obtain ⟨ys, n', _, hx, hlen, hyl, hf⟩ := DataW.trod_struct Try.underlying72 ht'
      rw [hC] at hlen
      obtain ⟨u0, u1, u2, rfl⟩ := list3 hlen
      obtain ⟨y0, y1, y2, rfl⟩ := list3 (hyl.trans rfl)
      obtain ⟨_, hcl, hat⟩ := World.cells?_some hc
      have f0 : DataW.trod enc Try.prog W base (fun _ => true) held n' 9 (([u0, u1, u2].drop 0).take (Try.prog.cellsOf 9)) = [y0, y1, y2][0]? := hf 0 _ rfl
      have f1 : DataW.trod enc Try.prog W base (fun _ => true) held n' 9 (([u0, u1, u2].drop 1).take (Try.prog.cellsOf 9)) = [y0, y1, y2][1]? := hf 1 _ rfl
      have f2 : DataW.trod enc Try.prog W base (fun _ => true) held n' 4 (([u0, u1, u2].drop 2).take (Try.prog.cellsOf 4)) = [y0, y1, y2][2]? := hf 2 _ rfl
      have c9 : Try.prog.cellsOf 9 = 1 := by kernel_rfl
      have c4 : Try.prog.cellsOf 4 = 1 := by kernel_rfl
      simp only [c9, c4, List.drop_zero, List.take_succ_cons, List.take_zero, List.drop_succ_cons, List.getElem?_cons_zero, List.getElem?_cons_succ] at f0 f1 f2
      obtain ⟨s0, g0, x0, _⟩ := DataW.trod_string Try.underlying9 f0
      obtain ⟨s1, g1, x1, _⟩ := DataW.trod_string Try.underlying9 f1
      obtain ⟨b2, g2, x2⟩ := DataW.trod_bool Try.underlying4 f2
      simp only [List.cons.injEq, and_true] at g0 g1 g2
      subst g0 g1 g2
      have h0 := hat 0 (by decide); have h1 := hat 1 (by decide); have h2 := hat 2 (by decide)
      rw [Go.Deep.add_add] at h0 h1 h2
      have hstr : ∀ s : ByteArray, Value.string s = str s.data.toList := fun s => by unfold str; simp
      refine ⟨⟨s0.data.toList, s1.data.toList, b2⟩, ⟨?_, ?_, ?_⟩, ?_⟩
      · rw [h0, ← hstr]; rfl
      · rw [h1, ← hstr]; rfl
      · rw [h2]; rfl
      · have : D i = .agg ([y0, y1, y2].map (·.1)) := congrArg Prod.fst hx
        rw [this, x0, x1, x2]
        simp [bulkC, Rows.uptoBulk, Rows.uptoBulkAll]
        omega
    obtain ⟨f, hf⟩ := choose_fn (α := Chg) key
    refine ⟨(List.range len).map f, ⟨some a, m, by simp, by simpa using hl, by simpa [maxLen] using hm, by simp, ?_⟩, ?_⟩
    · rintro b hb j u hu
      cases hb
      have hjl : j < (((List.range len).map f).flatMap chCells).length := by
        rcases Nat.lt_or_ge j (((List.range len).map f).flatMap chCells).length with h | h
        · exact h
        · rw [List.getElem?_eq_none h] at hu; cases hu
      rw [flat_len, List.length_map, List.length_range] at hjl
      have hk : j / 3 < ((List.range len).map f).length := by simp; omega
      have h3 := flat3 ((List.range len).map f) (j / 3) (j % 3) hk (Nat.mod_lt _ (by decide))
      rw [show j / 3 * 3 + j % 3 = j by omega] at h3
      rw [h3] at hu
      obtain ⟨⟨q0, q1, q2⟩, _⟩ := hf (j / 3) (by omega)
      rw [List.getElem_map, List.getElem_range] at hu
      rcases (by omega : j % 3 = 0 ∨ j % 3 = 1 ∨ j % 3 = 2) with e | e | e <;> rw [e] at hu
      · rw [show j = j / 3 * 3 + 0 by omega, q0]; exact hu
      · rw [show j = j / 3 * 3 + 1 by omega, q1]; exact hu
      · rw [show j = j / 3 * 3 + 2 by omega, q2]; exact hu
    · have := bulk_sum f D (List.range len) (fun i hi => (hf i (List.mem_range.1 hi)).2)
      simp only [Rows.uptoBulk]
      omega
theorem encN_bulk (l : List Chg) : encN l ≤ 8 + 5 * (l.map bulkC).sum := by
  unfold encN bulkC
  induction l with
  | nil => simp
  | cons c l ih => simp only [List.map_cons, List.sum_cons] at *; omega
theorem len_bulk (l : List Chg) : 4 * l.length ≤ (l.map bulkC).sum := by
  unfold bulkC
  induction l with
  | nil => simp
  | cons c l ih => simp only [List.map_cons, List.sum_cons, List.length_cons] at *; omega
end

set_option maxRecDepth 100000 in
theorem few38 (v : Value) (l : List Chg) (w : World) (hv : IsChg w v l) : Calls Try.prog 38 #[v] w fun e w' => e = .returned (.bool (decide (l.length ≤ 300))) ∧ w = w' := by
  obtain ⟨ao, cap, rfl, _⟩ := hv.is
  clear hv
  go_enter Try.func38, Try.ntmps38
  go_wp2
  go_ret
  refine ⟨?_, rfl⟩
  have : decide ((l.length : Int) ≤ 300) = decide (l.length ≤ 300) := by rw [decide_eq_decide]; omega
  rw [← this]; rfl

/-- A row of the document's pairs, of one's own. -/
def OwnRef (w : World) (v : Value) (l : List Chg) : Prop := w.ownsRow 0 72 3 v l.length (l.flatMap chCells)
theorem OwnRef.nil (w : World) : OwnRef w (.slice none 0 0) [] := World.ownsRow_nil _ _ _ _
theorem OwnRef.fr {w w' : World} {F : Nat → Prop} {v : Value} {l : List Chg} (h : OwnRef w v l) (hf : Fr F w w') (hF : ∀ k, v.ownBlock = some k → ¬ F k) : OwnRef w' v l := ownsRow_fr h hf hF
theorem OwnRef.slice {w : World} {v : Value} {l : List Chg} (h : OwnRef w v l) : ∃ ao cap, v = .slice ao l.length cap := ownsRow_slice h
theorem OwnRef.lt {w : World} {v : Value} {l : List Chg} (h : OwnRef w v l) (k : Nat) (hk : v.ownBlock = some k) : k < w.heap.size := (World.ownsRow.lt h k hk).2
theorem OwnRef.chg {w : World} {v : Value} {l : List Chg} (h : OwnRef w v l) : IsChg w v l := by
  rcases h.2 with ⟨rfl, h0⟩ | ⟨g, cap, cur, rfl, _, hg, hnc, hcm, hcs, ht⟩
  · obtain rfl := List.eq_nil_of_length_eq_zero h0
    exact ⟨none, 0, rfl, Nat.le_refl _, by decide, fun _ => rfl, fun a h => by cases h⟩
  · refine ⟨some ⟨g, 0, none⟩, cap, rfl, hnc, by simpa [maxLen] using hcm, by simp, ?_⟩
    rintro a ha j v hv
    cases ha
    exact World.ownsRow.cells h rfl j v hv
theorem info72 : (Try.prog.info? 72).map (fun i => (i.zero, i.size, i.bytes)) = some (some (.agg #[.string ByteArray.empty, .string ByteArray.empty, .bool false]), 3, 40) := by kernel_rfl
theorem wpList_append_ref {ops : Array Oper} {rest : List Oper} {o : Oper} {a : Act} {w : World} {Q : Exit → Act → World → Prop} (hgd : o.guard = none) (s x : Operand)
    (ho : o.op = .call { callee := .builtin .append, args := #[s, x], argTypes := #[59, 59] })
    (v : Value) (l : List Chg) (hs : a.eval s = v) (hown : OwnRef w v l) (g q : Nat) (hx : a.eval x = .slice (some ⟨g, 0, none⟩) 1 q) (c : Chg) (hg : w.heap[g]? = some (.cells (chCells c).toArray 72 (0, 0))) (hroom : l.length ≤ 1099511627776)
    (h : ∀ v' w', OwnRef w' v' (l ++ [c]) → Fr (fun k => v.ownBlock = some k) w w' → (v'.ownBlock = v.ownBlock ∨ v'.ownBlock = some w.heap.size) → wpList Try.prog ops Q rest (a.put o.dst v') w') :
    wpList Try.prog ops Q (o :: rest) a w := by
  obtain ⟨inf, hinf, hz0, hz1, hz2⟩ := info_parts info72
  refine wpList_append hgd s x 59 ho 72 inf _ 3 40 Try.underlying59 hinf hz0 hz1 hz2 rfl (by decide) v l.length (l.flatMap chCells) hs hown ⟨g, 0, none⟩ 1 q (chCells c) hx rfl (fun j u hu => by rw [Addr.add_mk, Nat.zero_add]; exact (cells_at hg j).trans (by simpa using hu)) (ch_one c) (Room.one (by unfold maxLen; omega) (by decide) (by omega)) ?_
  intro v' w' own fr fresh
  refine h v' w' ?_ fr fresh
  unfold OwnRef
  rw [List.length_append, List.length_singleton, List.flatMap_append]
  simpa using own
theorem step_append_ref {ops : Array Oper} {o : Oper} {a : Act} {w : World} {K : Act → World → Prop} {Q : Exit → Act → World → Prop} (hw : Region.wanted o (yielded ops a.tmps) = true) (s x : Operand)
    (ho : o.op = .call { callee := .builtin .append, args := #[s, x], argTypes := #[59, 59] })
    (v : Value) (l : List Chg) (hs : a.eval s = v) (hown : OwnRef w v l) (g q : Nat) (hx : a.eval x = .slice (some ⟨g, 0, none⟩) 1 q) (c : Chg) (hg : w.heap[g]? = some (.cells (chCells c).toArray 72 (0, 0))) (hroom : l.length ≤ 1099511627776)
    (h : ∀ v' w', OwnRef w' v' (l ++ [c]) → Fr (fun k => v.ownBlock = some k) w w' → (v'.ownBlock = v.ownBlock ∨ v'.ownBlock = some w.heap.size) → K (a.put o.dst v') w') :
    if Region.wanted o (yielded ops a.tmps) = true then Oper.wp Try.prog o a w K Q else K (a.put o.dst undef) w := by
  obtain ⟨inf, hinf, hz0, hz1, hz2⟩ := info_parts info72
  refine step_append hw s x 59 ho 72 inf _ 3 40 Try.underlying59 hinf hz0 hz1 hz2 rfl (by decide) v l.length (l.flatMap chCells) hs hown ⟨g, 0, none⟩ 1 q (chCells c) hx rfl (fun j u hu => by rw [Addr.add_mk, Nat.zero_add]; exact (cells_at hg j).trans (by simpa using hu)) (ch_one c) (Room.one (by unfold maxLen; omega) (by decide) (by omega)) ?_
  intro v' w' own fr fresh
  refine h v' w' ?_ fr fresh
  unfold OwnRef
  rw [List.length_append, List.length_singleton, List.flatMap_append]
  simpa using own
theorem step_append_chg {ops : Array Oper} {o : Oper} {a : Act} {w : World} {K : Act → World → Prop} {Q : Exit → Act → World → Prop} (hw : Region.wanted o (yielded ops a.tmps) = true) (s x : Operand)
    (ho : o.op = .call { callee := .builtin .append, args := #[s, x], argTypes := #[65, 65] })
    (v : Value) (l : List Chg) (hs : a.eval s = v) (hown : OwnChg w v l) (g q : Nat) (hx : a.eval x = .slice (some ⟨g, 0, none⟩) 1 q) (c : Chg) (hg : w.heap[g]? = some (.cells (chCells c).toArray 75 (0, 0))) (hroom : l.length ≤ 1099511627776)
    (h : ∀ v' w', OwnChg w' v' (l ++ [c]) → Fr (fun k => v.ownBlock = some k) w w' → (v'.ownBlock = v.ownBlock ∨ v'.ownBlock = some w.heap.size) → K (a.put o.dst v') w') :
    if Region.wanted o (yielded ops a.tmps) = true then Oper.wp Try.prog o a w K Q else K (a.put o.dst undef) w := by
  obtain ⟨inf, hinf, hz0, hz1, hz2⟩ := info_parts info75
  refine step_append hw s x 65 ho 75 inf _ 3 40 Try.underlying65 hinf hz0 hz1 hz2 rfl (by decide) v l.length (l.flatMap chCells) hs hown ⟨g, 0, none⟩ 1 q (chCells c) hx rfl (fun j u hu => by rw [Addr.add_mk, Nat.zero_add]; exact (cells_at hg j).trans (by simpa using hu)) (ch_one c) (Room.one (by unfold maxLen; omega) (by decide) (by omega)) ?_
  intro v' w' own fr fresh
  refine h v' w' ?_ fr fresh
  unfold OwnChg
  rw [List.length_append, List.length_singleton, List.flatMap_append]
  simpa using own
end Go.Proofs.Ytnpeeephkkmomaa
namespace Go.Proofs.Ytnpeeephkkmomaa
open Go.RowKit Go.Proofs.YtnpeeephkkmomaaW.PrintLast
set_option linter.unusedVariables false
set_option linter.unusedSimpArgs false
attribute [local go_sem] beq_self_eq_true bne_self_eq_false

structure BatAt (w : World) (cur : Value) (xs : List Chg) (wr : World) : Prop where
  own : OwnChg wr cur xs
  new : ∀ j, cur.ownBlock = some j → w.heap.size ≤ j
  fr : Fr (fun _ => False) w wr
theorem BatAt.push {w wr w2 w' : World} {cur v' : Value} {xs : List Chg} {c : Chg} (h : BatAt w cur xs wr) (f2 : Fr (fun _ => False) wr w2) (ho : OwnChg w' v' (xs ++ [c])) (hf : Fr (fun k => cur.ownBlock = some k) w2 w') (hn : v'.ownBlock = cur.ownBlock ∨ v'.ownBlock = some w2.heap.size) : BatAt w v' (xs ++ [c]) w' := by
  refine ⟨ho, fun j hj => ?_, (h.fr.trans f2 (fun _ h => h.elim)).trans hf (fun j hj => .inr (h.new j hj))⟩
  rcases hn with e | e
  · exact h.new j (e.symm.trans hj)
  · rw [e] at hj; cases hj; exact Nat.le_trans h.fr.size f2.size
set_option maxRecDepth 100000 in
set_option maxHeartbeats 2000000 in
theorem batch40 (v : Value) (l : List Chg) (w : World) (hv : IsChg w v l) (hl : l.length ≤ 1099511627776) : Calls Try.prog 40 #[v] w (ChgPost w l) := by
  obtain ⟨ao, cap, rfl, k1, k2, _⟩ := hv.is
  have HV := Lib.hid hv; have HLB := Lib.hid hl; have HK := Lib.hid (And.intro k1 k2)
  clear hv hl k1 k2
  go_enter Try.func40, Try.ntmps40
  go_wp2
  go_loopw [3, 4] (fun cu i wr => ∃ (k : Nat) (cur : Value), k ≤ l.length ∧ i = .int .i64 k ∧ cur = cu ∧ BatAt w cur (l.take k) wr) (fun _ i _ => l.length - (intOf i).toNat)
  case atStart => exact ⟨0, _, Nat.zero_le _, rfl, rfl, OwnChg.nil _, by simp [Value.ownBlock], Fr.refl _ w⟩
  case round =>
    obtain ⟨k, cur, hk, rfl, rfl, hb⟩ := hrel
    have HB := Lib.hid hb
    by_cases hlt : k < l.length
    · have hw1 : IntKind.i64.wrap ((k : Int) + 1) = (k : Int) + 1 := IntWalk.i64_in _ (by have := HLB.out; omega)
      have t1 : decide ((k : Int) < (l.length : Int)) = true := by simp; omega
      have t1n : decide (k < l.length) = true := by simp; omega
      have hkI : (k : Int) < (l.length : Int) := by omega
      obtain ⟨ab, off, rfl, c0, c1, c2⟩ := (HV.out.fr hb.fr (fun _ _ h => h)).at k hlt
      have HTK : Hid (l.take (k + 1) = l.take k ++ [l[k]]) := Lib.hid (List.take_succ_eq_append_getElem hlt)
      have HXL : Hid ((l.take k).length ≤ 1099511627776) := Lib.hid (by rw [List.length_take]; have := HLB.out; omega)
      obtain ⟨oo, oc, rfl⟩ := hb.own.slice
      generalize l[k] = c at *
      generalize l.take k = xs at *
      have hcc : Hid (chCells c = [.string ⟨c.key.toArray⟩, .string ⟨c.val.toArray⟩, .bool c.gone]) := Lib.hid rfl
      unfold str at c0 c1
      generalize (⟨c.key.toArray⟩ : ByteArray) = S1 at *
      generalize (⟨c.val.toArray⟩ : ByteArray) = S2 at *
      have d0 : cellIn wr.drew.heap[ab]? (off + k * 3) = some (.string S1) := c0
      have d1 : cellIn wr.drew.heap[ab]? (off + k * 3 + 1) = some (.string S2) := c1
      have d2 : cellIn wr.drew.heap[ab]? (off + k * 3 + 2) = some (.bool c.gone) := c2
      clear hb
      go_wp2
      refine start_ (n := 20) (S := fun w' => cellIn w'.heap[ab]? (off + k * 3) = some (.string S1) ∧ cellIn w'.heap[ab]? (off + k * 3 + 1) = some (.string S2) ∧ cellIn w'.heap[ab]? (off + k * 3 + 2) = some (.bool c.gone)) (ds := [17, 18]) #[false, false, false, false, false, false, false, false, false, false, false, false, false, false, false, false, false, false, false, false] (by kernel_rfl) rfl rfl ⟨d0, d1, d2⟩ (fun hHeld => ?_)
      refine pure_ (i := 0) (N := some 11) (v := ?_) (a' := ?_) #[true, false, false, false, false, false, false, false, false, false, false, false, false, false, false, false, false, false, false, false] rfl rfl (by kernel_rfl) (fun _ _ _ h => h) (Or.inl ⟨by rfl, ?_⟩) ?_ ?_
      rotate_left
      · intro w'
        try simp only [List.getElem_toArray, List.getElem_cons_succ, List.getElem_cons_zero]
        go_simp
        with_reducible rfl
      rotate_left
      · simp only [Act.put, List.setIfInBounds_toArray, List.set_cons_zero, List.set_cons_succ, i64_w, i32_w]
        rfl
      refine pure_ (i := 1) (N := some 12) (v := ?_) (a' := ?_) #[true, true, false, false, false, false, false, false, false, false, false, false, false, false, false, false, false, false, false, false] rfl rfl (by kernel_rfl) (fun _ _ _ h => h) (Or.inl ⟨by rfl, ?_⟩) ?_ ?_
      rotate_left
      · intro w'
        try simp only [List.getElem_toArray, List.getElem_cons_succ, List.getElem_cons_zero]
        go_simp
        with_reducible rfl
      rotate_left
      · simp only [Act.put, List.setIfInBounds_toArray, List.set_cons_zero, List.set_cons_succ, i64_w, i32_w]
        rfl
      refine pure_ (i := 2) (N := some 13) (v := ?_) (a' := ?_) #[true, true, true, false, false, false, false, false, false, false, false, false, false, false, false, false, false, false, false, false] rfl rfl (by kernel_rfl) (fun _ _ _ h => h) (Or.inl ⟨by rfl, ?_⟩) ?_ ?_
      rotate_left
      · intro w'
        try simp only [List.getElem_toArray, List.getElem_cons_succ, List.getElem_cons_zero]
        go_simp
        with_reducible rfl
      rotate_left
      · simp only [Act.put, List.setIfInBounds_toArray, List.set_cons_zero, List.set_cons_succ, i64_w, i32_w]
        rfl
      refine pure_ (i := 3) (N := some 14) (v := ?_) (a' := ?_) #[true, true, true, true, false, false, false, false, false, false, false, false, false, false, false, false, false, false, false, false] rfl rfl (by kernel_rfl) (fun _ _ _ h => h) (Or.inl ⟨by rfl, ?_⟩) ?_ ?_
      rotate_left
      · intro w'
        try simp only [List.getElem_toArray, List.getElem_cons_succ, List.getElem_cons_zero]
        go_simp
        with_reducible rfl
      rotate_left
      · simp only [Act.put, List.setIfInBounds_toArray, List.set_cons_zero, List.set_cons_succ, i64_w, i32_w]
        rfl
      refine pure_ (i := 4) (N := some 15) (v := ?_) (a' := ?_) #[true, true, true, true, true, false, false, false, false, false, false, false, false, false, false, false, false, false, false, false] rfl rfl (by kernel_rfl) (fun _ _ _ h => h) (Or.inl ⟨by rfl, ?_⟩) ?_ ?_
      rotate_left
      · intro w'
        try simp only [List.getElem_toArray, List.getElem_cons_succ, List.getElem_cons_zero]
        go_simp
        with_reducible rfl
      rotate_left
      · simp only [Act.put, List.setIfInBounds_toArray, List.set_cons_zero, List.set_cons_succ, i64_w, i32_w]
        rfl
      refine pure_ (i := 6) (N := some 17) (v := ?_) (a' := ?_) #[true, true, true, true, true, false, true, false, false, false, false, false, false, false, false, false, false, false, false, false] rfl rfl (by kernel_rfl) (fun _ _ _ h => h) (Or.inl ⟨by rfl, ?_⟩) ?_ ?_
      rotate_left
      · intro w'
        try simp only [List.getElem_toArray, List.getElem_cons_succ, List.getElem_cons_zero]
        go_simp
        with_reducible rfl
      rotate_left
      · simp only [Act.put, List.setIfInBounds_toArray, List.set_cons_zero, List.set_cons_succ, i64_w, i32_w]
        rfl
      refine pure_ (i := 7) (N := some 18) (v := ?_) (a' := ?_) #[true, true, true, true, true, false, true, true, false, false, false, false, false, false, false, false, false, false, false, false] rfl rfl (by kernel_rfl) (fun _ _ _ h => h) (Or.inl ⟨by rfl, ?_⟩) ?_ ?_
      rotate_left
      · intro w'
        try simp only [List.getElem_toArray, List.getElem_cons_succ, List.getElem_cons_zero]
        go_simp
        with_reducible rfl
      rotate_left
      · simp only [Act.put, List.setIfInBounds_toArray, List.set_cons_zero, List.set_cons_succ, i64_w, i32_w]
        rfl
      refine pure_ (i := 8) (N := some 19) (v := ?_) (a' := ?_) #[true, true, true, true, true, false, true, true, true, false, false, false, false, false, false, false, false, false, false, false] rfl rfl (by kernel_rfl) (fun _ _ _ h => h) (Or.inl ⟨by rfl, ?_⟩) ?_ ?_
      rotate_left
      · intro w'
        try simp only [List.getElem_toArray, List.getElem_cons_succ, List.getElem_cons_zero]
        go_simp
        with_reducible rfl
      rotate_left
      · simp only [Act.put, List.setIfInBounds_toArray, List.set_cons_zero, List.set_cons_succ, i64_w, i32_w]
        rfl
      refine pure_ (i := 9) (N := some 20) (v := ?_) (a' := ?_) #[true, true, true, true, true, false, true, true, true, true, false, false, false, false, false, false, false, false, false, false] rfl rfl (by kernel_rfl) (fun _ _ _ h => h) (Or.inl ⟨by rfl, ?_⟩) ?_ ?_
      rotate_left
      · intro w'
        try simp only [List.getElem_toArray, List.getElem_cons_succ, List.getElem_cons_zero]
        go_simp
        with_reducible rfl
      rotate_left
      · simp only [Act.put, List.setIfInBounds_toArray, List.set_cons_zero, List.set_cons_succ, i64_w, i32_w]
        rfl
      refine pure_ (i := 11) (N := some 22) (v := ?_) (a' := ?_) #[true, true, true, true, true, false, true, true, true, true, false, true, false, false, false, false, false, false, false, false] rfl rfl (by kernel_rfl) (fun _ _ _ h => h) (Or.inl ⟨by rfl, ?_⟩) ?_ ?_
      rotate_left
      · intro w'
        try simp only [List.getElem_toArray, List.getElem_cons_succ, List.getElem_cons_zero]
        go_simp
        with_reducible rfl
      rotate_left
      · simp only [Act.put, List.setIfInBounds_toArray, List.set_cons_zero, List.set_cons_succ, i64_w, i32_w]
        rfl
      refine pure_ (i := 12) (N := some 23) (v := ?_) (a' := ?_) #[true, true, true, true, true, false, true, true, true, true, false, true, true, false, false, false, false, false, false, false] rfl rfl (by kernel_rfl) (fun _ _ _ h => h) (Or.inl ⟨by rfl, ?_⟩) ?_ ?_
      rotate_left
      · intro w'
        try simp only [List.getElem_toArray, List.getElem_cons_succ, List.getElem_cons_zero]
        go_simp
        with_reducible rfl
      rotate_left
      · simp only [Act.put, List.setIfInBounds_toArray, List.set_cons_zero, List.set_cons_succ, i64_w, i32_w]
        rfl
      refine pure_ (i := 13) (N := some 24) (v := ?_) (a' := ?_) #[true, true, true, true, true, false, true, true, true, true, false, true, true, true, false, false, false, false, false, false] rfl rfl (by kernel_rfl) (fun _ _ _ h => h) (Or.inl ⟨by rfl, ?_⟩) ?_ ?_
      rotate_left
      · intro w'
        try simp only [List.getElem_toArray, List.getElem_cons_succ, List.getElem_cons_zero]
        go_simp
        with_reducible rfl
      rotate_left
      · simp only [Act.put, List.setIfInBounds_toArray, List.set_cons_zero, List.set_cons_succ, i64_w, i32_w]
        rfl
      refine pure_ (i := 14) (N := some 25) (v := ?_) (a' := ?_) #[true, true, true, true, true, false, true, true, true, true, false, true, true, true, true, false, false, false, false, false] rfl rfl (by kernel_rfl) (fun _ _ _ h => h) (Or.inl ⟨by rfl, ?_⟩) ?_ ?_
      rotate_left
      · intro w'
        try simp only [List.getElem_toArray, List.getElem_cons_succ, List.getElem_cons_zero]
        go_simp
        with_reducible rfl
      rotate_left
      · simp only [Act.put, List.setIfInBounds_toArray, List.set_cons_zero, List.set_cons_succ, i64_w, i32_w]
        rfl
      refine take_ (i := 5) (N := some 16) (v := ?_) (a' := ?_) #[true, true, true, true, true, true, true, true, true, true, false, true, true, true, true, false, false, false, false, false] rfl rfl (by kernel_rfl) (fun _ _ _ h => h) (Or.inl ⟨by rfl, ?_⟩) hHeld ?_ ?_
      rotate_left
      · rintro w' ⟨s0, s1, s2⟩
        try simp only [List.getElem_toArray, List.getElem_cons_succ, List.getElem_cons_zero]
        go_simp
        with_reducible rfl
      rotate_left
      · simp only [Act.put, List.setIfInBounds_toArray, List.set_cons_zero, List.set_cons_succ, i64_w, i32_w]
        rfl
      refine take_ (i := 10) (N := some 21) (v := ?_) (a' := ?_) #[true, true, true, true, true, true, true, true, true, true, true, true, true, true, true, false, false, false, false, false] rfl rfl (by kernel_rfl) (fun _ _ _ h => h) (Or.inl ⟨by rfl, ?_⟩) hHeld ?_ ?_
      rotate_left
      · rintro w' ⟨s0, s1, s2⟩
        try simp only [List.getElem_toArray, List.getElem_cons_succ, List.getElem_cons_zero]
        go_simp
        with_reducible rfl
      rotate_left
      · simp only [Act.put, List.setIfInBounds_toArray, List.set_cons_zero, List.set_cons_succ, i64_w, i32_w]
        rfl
      refine take_ (i := 15) (N := some 26) (v := ?_) (a' := ?_) #[true, true, true, true, true, true, true, true, true, true, true, true, true, true, true, true, false, false, false, false] rfl rfl (by kernel_rfl) (fun _ _ _ h => h) (Or.inl ⟨by rfl, ?_⟩) hHeld ?_ ?_
      rotate_left
      · rintro w' ⟨s0, s1, s2⟩
        try simp only [List.getElem_toArray, List.getElem_cons_succ, List.getElem_cons_zero]
        go_simp
        with_reducible rfl
      rotate_left
      · simp only [Act.put, List.setIfInBounds_toArray, List.set_cons_zero, List.set_cons_succ, i64_w, i32_w]
        rfl
      refine pure_ (i := 16) (N := some 27) (v := ?_) (a' := ?_) #[true, true, true, true, true, true, true, true, true, true, true, true, true, true, true, true, true, false, false, false] rfl rfl (by kernel_rfl) (fun _ _ _ h => h) (Or.inl ⟨by rfl, ?_⟩) ?_ ?_
      rotate_left
      · intro w'
        try simp only [List.getElem_toArray, List.getElem_cons_succ, List.getElem_cons_zero]
        go_simp
        with_reducible rfl
      rotate_left
      · simp only [Act.put, List.setIfInBounds_toArray, List.set_cons_zero, List.set_cons_succ, i64_w, i32_w]
        rfl
      refine last_ (i := 17) (N := some 28) #[true, true, true, true, true, true, true, true, true, true, true, true, true, true, true, true, true, true, false, false] rfl rfl (by kernel_rfl) (by decide) (fun K hK => ?_)
      refine value_ (w1 := ?_) (v := ?_) (by rfl) rfl ?_ ?_
      rotate_left 2
      · try simp only [List.getElem_toArray, List.getElem_cons_succ, List.getElem_cons_zero]
        go_simp
        constructor
        · rfl
        · rfl
      refine hK.out _ _ ?_
      clear hK K
      refine norm_ (a' := ?_) ?_ ?_
      rotate_left
      · show Act.put _ (some 28) _ = _
        simp only [Act.put, List.setIfInBounds_toArray, List.set_cons_zero, List.set_cons_succ, i64_w, i32_w]
        rfl
      refine last_ (i := 18) (N := some 29) #[true, true, true, true, true, true, true, true, true, true, true, true, true, true, true, true, true, true, true, false] rfl rfl (by kernel_rfl) (by decide) (fun K hK => ?_)
      refine step_append_chg (by rfl) (.tmp 11) (.tmp 28) rfl _ xs rfl (HB.out.own.fr (F := fun _ => False) ((Fr.refl _ wr).alloc _).drew (fun _ _ h => h)) wr.heap.size 1 rfl c (by rw [hcc.out]; exact heap_alloc_at wr _) HXL.out ?_
      intro v3 w3 own3 fr3 fresh3
      have HB3 := Lib.hid (HB.out.push ((Fr.refl _ wr).alloc _).drew own3 fr3 fresh3)
      obtain ⟨o3, c3, rfl⟩ := own3.slice
      clear own3 fr3 fresh3
      refine hK.out _ _ ?_
      clear hK K
      refine norm_ (a' := ?_) ?_ ?_
      rotate_left
      · show Act.put _ (some 29) _ = _
        simp only [Act.put, List.setIfInBounds_toArray, List.set_cons_zero, List.set_cons_succ, i64_w, i32_w]
        rfl
      refine pure_ (i := 19) (N := some 3) (v := ?_) (a' := ?_) #[true, true, true, true, true, true, true, true, true, true, true, true, true, true, true, true, true, true, true, true] rfl rfl (by kernel_rfl) (fun _ _ _ h => h) (Or.inl ⟨by rfl, ?_⟩) ?_ ?_
      rotate_left
      · intro w'
        try simp only [List.getElem_toArray, List.getElem_cons_succ, List.getElem_cons_zero]
        go_simp
        with_reducible rfl
      rotate_left
      · simp only [Act.put, List.setIfInBounds_toArray, List.set_cons_zero, List.set_cons_succ, i64_w, i32_w]
        rfl
      refine done_ (by kernel_rfl) ?_

      rw [List.length_append, List.length_singleton] at HB3 ⊢
      go_wp2
      exact ⟨⟨k + 1, _, by omega, by go_num, rfl, by rw [HTK.out]; exact HB3.out⟩, by simp [intOf]; omega⟩
    · obtain rfl : k = l.length := by omega
      rw [List.take_length] at HB
      obtain ⟨oo, oc, hcur⟩ := HB.out.own.slice
      subst hcur
      clear hb
      go_wp2
      go_ret
      exact ⟨_, rfl, HB.out.own, HB.out.new, HB.out.fr⟩
structure PrsAt (w1 : World) (cur : Value) (xs : List Chg) (wr : World) : Prop where
  own : OwnRef wr cur xs
  new : ∀ j, cur.ownBlock = some j → w1.heap.size ≤ j
  fr : Fr (fun _ => False) w1 wr
theorem PrsAt.push {w wr w2 w' : World} {cur v' : Value} {xs : List Chg} {c : Chg} (h : PrsAt w cur xs wr) (f2 : Fr (fun _ => False) wr w2) (ho : OwnRef w' v' (xs ++ [c])) (hf : Fr (fun k => cur.ownBlock = some k) w2 w') (hn : v'.ownBlock = cur.ownBlock ∨ v'.ownBlock = some w2.heap.size) : PrsAt w v' (xs ++ [c]) w' := by
  refine ⟨ho, fun j hj => ?_, (h.fr.trans f2 (fun _ h => h.elim)).trans hf (fun j hj => .inr (h.new j hj))⟩
  rcases hn with e | e
  · exact h.new j (e.symm.trans hj)
  · rw [e] at hj; cases hj; exact Nat.le_trans h.fr.size f2.size
def PrsPost (W w : World) (X : Nat → Prop) (n b s : Nat) (S : StoV) (e : Ending) (w' : World) : Prop :=
  ∃ v, e = .returned v ∧ OwnRef w' v S.has ∧ (∀ k, v.ownBlock = some k → w.heap.size ≤ k) ∧ StH W w' X n b s S ∧ Fr (fun _ => False) w w'
theorem underOf_all (L : List Chg) : underOf L [] = L := by
  unfold underOf
  refine List.filter_eq_self.2 fun c _ => ?_
  cases c.key <;> rfl
set_option maxRecDepth 100000 in
set_option maxHeartbeats 2000000 in
theorem StH.pairs {W w : World} {X : Nat → Prop} {n b s : Nat} {S : StoV} (h : StH W w X n b s S) : Calls Try.prog 47 #[.pointer (some ⟨s, 0, none⟩)] w (PrsPost W w X n b s S) := by
  have HH := Lib.hid h
  have HLB : Hid (S.has.length ≤ 2097152) := Lib.hid (by obtain ⟨cp, jp, lb, cl, sp, wv, hv, D, h⟩ := h; exact h.on.small.2.1)
  obtain ⟨l, hl⟩ : ∃ l, l = S.has := ⟨_, rfl⟩
  have HL := Lib.hid hl
  rw [← hl] at HLB
  have HU : Hid (Calls Try.prog 44 #[.pointer (some ⟨s, 0, none⟩), str []] w fun e w' => ∃ v, e = .returned v ∧ OwnChg w' v l ∧ (∀ k, v.ownBlock = some k → w.heap.size ≤ k) ∧ StH W w' X n b s S ∧ Fr (fun _ => False) w w') := Lib.hid (by
    refine (h.under []).mono ?_
    rintro e w' ⟨v, rfl, h1, h2⟩
    rw [underOf_all, ← hl] at h1
    exact ⟨v, rfl, h1, h2⟩)
  clear h hl
  go_enter Try.func47, Try.ntmps47
  go_wp2_with (go_at_call 44; go_loud (refine HU.out.mono ?_; rintro e w1 ⟨v1, rfl, o1, n1, h1, f1⟩; have HO1 := Lib.hid o1; have HN1 := Lib.hid n1; have HS1 := Lib.hid h1; have HF1 := Lib.hid f1; obtain ⟨uo, uc, rfl⟩ := o1.slice; clear o1 n1 h1 f1))
  go_loopw [3, 5] (fun cu i wr => ∃ (k : Nat) (cur : Value), k ≤ l.length ∧ i = .int .i64 k ∧ cur = cu ∧ PrsAt w1 cur (l.take k) wr) (fun _ i _ => l.length - (intOf i).toNat)
  case atStart => exact ⟨0, _, Nat.zero_le _, rfl, rfl, OwnRef.nil _, by simp [Value.ownBlock], Fr.refl _ w1⟩
  case round =>
    obtain ⟨k, cur, hk, rfl, rfl, hb⟩ := hrel
    have HB := Lib.hid hb
    by_cases hlt : k < l.length
    · have hw1 : IntKind.i64.wrap ((k : Int) + 1) = (k : Int) + 1 := IntWalk.i64_in _ (by have := HLB.out; omega)
      have t1 : decide ((k : Int) < (l.length : Int)) = true := by simp; omega
      have t1n : decide (k < l.length) = true := by simp; omega
      have hkI : (k : Int) < (l.length : Int) := by omega
      obtain ⟨ab, off, rfl, c0, c1, c2⟩ := (HO1.out.chg.fr hb.fr (fun _ _ h => h)).at k hlt
      have HTK : Hid (l.take (k + 1) = l.take k ++ [l[k]]) := Lib.hid (List.take_succ_eq_append_getElem hlt)
      have HXL : Hid ((l.take k).length ≤ 1099511627776) := Lib.hid (by rw [List.length_take]; have := HLB.out; omega)
      obtain ⟨oo, oc, rfl⟩ := hb.own.slice
      generalize l[k] = c at *
      generalize l.take k = xs at *
      have hcc : Hid (chCells c = [.string ⟨c.key.toArray⟩, .string ⟨c.val.toArray⟩, .bool c.gone]) := Lib.hid rfl
      unfold str at c0 c1
      generalize (⟨c.key.toArray⟩ : ByteArray) = S1 at *
      generalize (⟨c.val.toArray⟩ : ByteArray) = S2 at *
      have d0 : cellIn wr.drew.heap[ab]? (off + k * 3) = some (.string S1) := c0
      have d1 : cellIn wr.drew.heap[ab]? (off + k * 3 + 1) = some (.string S2) := c1
      have d2 : cellIn wr.drew.heap[ab]? (off + k * 3 + 2) = some (.bool c.gone) := c2
      clear hb
      go_wp2
      refine start_ (n := 20) (S := fun w' => cellIn w'.heap[ab]? (off + k * 3) = some (.string S1) ∧ cellIn w'.heap[ab]? (off + k * 3 + 1) = some (.string S2) ∧ cellIn w'.heap[ab]? (off + k * 3 + 2) = some (.bool c.gone)) (ds := [17, 18]) #[false, false, false, false, false, false, false, false, false, false, false, false, false, false, false, false, false, false, false, false] (by kernel_rfl) rfl rfl ⟨d0, d1, d2⟩ (fun hHeld => ?_)
      refine pure_ (i := 0) (N := some 14) (v := ?_) (a' := ?_) #[true, false, false, false, false, false, false, false, false, false, false, false, false, false, false, false, false, false, false, false] rfl rfl (by kernel_rfl) (fun _ _ _ h => h) (Or.inl ⟨by rfl, ?_⟩) ?_ ?_
      rotate_left
      · intro w'
        try simp only [List.getElem_toArray, List.getElem_cons_succ, List.getElem_cons_zero]
        go_simp
        with_reducible rfl
      rotate_left
      · simp only [Act.put, List.setIfInBounds_toArray, List.set_cons_zero, List.set_cons_succ, i64_w, i32_w]
        rfl
      refine pure_ (i := 1) (N := some 15) (v := ?_) (a' := ?_) #[true, true, false, false, false, false, false, false, false, false, false, false, false, false, false, false, false, false, false, false] rfl rfl (by kernel_rfl) (fun _ _ _ h => h) (Or.inl ⟨by rfl, ?_⟩) ?_ ?_
      rotate_left
      · intro w'
        try simp only [List.getElem_toArray, List.getElem_cons_succ, List.getElem_cons_zero]
        go_simp
        with_reducible rfl
      rotate_left
      · simp only [Act.put, List.setIfInBounds_toArray, List.set_cons_zero, List.set_cons_succ, i64_w, i32_w]
        rfl
      refine pure_ (i := 2) (N := some 16) (v := ?_) (a' := ?_) #[true, true, true, false, false, false, false, false, false, false, false, false, false, false, false, false, false, false, false, false] rfl rfl (by kernel_rfl) (fun _ _ _ h => h) (Or.inl ⟨by rfl, ?_⟩) ?_ ?_
      rotate_left
      · intro w'
        try simp only [List.getElem_toArray, List.getElem_cons_succ, List.getElem_cons_zero]
        go_simp
        with_reducible rfl
      rotate_left
      · simp only [Act.put, List.setIfInBounds_toArray, List.set_cons_zero, List.set_cons_succ, i64_w, i32_w]
        rfl
      refine pure_ (i := 3) (N := some 17) (v := ?_) (a' := ?_) #[true, true, true, true, false, false, false, false, false, false, false, false, false, false, false, false, false, false, false, false] rfl rfl (by kernel_rfl) (fun _ _ _ h => h) (Or.inl ⟨by rfl, ?_⟩) ?_ ?_
      rotate_left
      · intro w'
        try simp only [List.getElem_toArray, List.getElem_cons_succ, List.getElem_cons_zero]
        go_simp
        with_reducible rfl
      rotate_left
      · simp only [Act.put, List.setIfInBounds_toArray, List.set_cons_zero, List.set_cons_succ, i64_w, i32_w]
        rfl
      refine pure_ (i := 4) (N := some 18) (v := ?_) (a' := ?_) #[true, true, true, true, true, false, false, false, false, false, false, false, false, false, false, false, false, false, false, false] rfl rfl (by kernel_rfl) (fun _ _ _ h => h) (Or.inl ⟨by rfl, ?_⟩) ?_ ?_
      rotate_left
      · intro w'
        try simp only [List.getElem_toArray, List.getElem_cons_succ, List.getElem_cons_zero]
        go_simp
        with_reducible rfl
      rotate_left
      · simp only [Act.put, List.setIfInBounds_toArray, List.set_cons_zero, List.set_cons_succ, i64_w, i32_w]
        rfl
      refine pure_ (i := 6) (N := some 20) (v := ?_) (a' := ?_) #[true, true, true, true, true, false, true, false, false, false, false, false, false, false, false, false, false, false, false, false] rfl rfl (by kernel_rfl) (fun _ _ _ h => h) (Or.inl ⟨by rfl, ?_⟩) ?_ ?_
      rotate_left
      · intro w'
        try simp only [List.getElem_toArray, List.getElem_cons_succ, List.getElem_cons_zero]
        go_simp
        with_reducible rfl
      rotate_left
      · simp only [Act.put, List.setIfInBounds_toArray, List.set_cons_zero, List.set_cons_succ, i64_w, i32_w]
        rfl
      refine pure_ (i := 7) (N := some 21) (v := ?_) (a' := ?_) #[true, true, true, true, true, false, true, true, false, false, false, false, false, false, false, false, false, false, false, false] rfl rfl (by kernel_rfl) (fun _ _ _ h => h) (Or.inl ⟨by rfl, ?_⟩) ?_ ?_
      rotate_left
      · intro w'
        try simp only [List.getElem_toArray, List.getElem_cons_succ, List.getElem_cons_zero]
        go_simp
        with_reducible rfl
      rotate_left
      · simp only [Act.put, List.setIfInBounds_toArray, List.set_cons_zero, List.set_cons_succ, i64_w, i32_w]
        rfl
      refine pure_ (i := 8) (N := some 22) (v := ?_) (a' := ?_) #[true, true, true, true, true, false, true, true, true, false, false, false, false, false, false, false, false, false, false, false] rfl rfl (by kernel_rfl) (fun _ _ _ h => h) (Or.inl ⟨by rfl, ?_⟩) ?_ ?_
      rotate_left
      · intro w'
        try simp only [List.getElem_toArray, List.getElem_cons_succ, List.getElem_cons_zero]
        go_simp
        with_reducible rfl
      rotate_left
      · simp only [Act.put, List.setIfInBounds_toArray, List.set_cons_zero, List.set_cons_succ, i64_w, i32_w]
        rfl
      refine pure_ (i := 9) (N := some 23) (v := ?_) (a' := ?_) #[true, true, true, true, true, false, true, true, true, true, false, false, false, false, false, false, false, false, false, false] rfl rfl (by kernel_rfl) (fun _ _ _ h => h) (Or.inl ⟨by rfl, ?_⟩) ?_ ?_
      rotate_left
      · intro w'
        try simp only [List.getElem_toArray, List.getElem_cons_succ, List.getElem_cons_zero]
        go_simp
        with_reducible rfl
      rotate_left
      · simp only [Act.put, List.setIfInBounds_toArray, List.set_cons_zero, List.set_cons_succ, i64_w, i32_w]
        rfl
      refine pure_ (i := 11) (N := some 25) (v := ?_) (a' := ?_) #[true, true, true, true, true, false, true, true, true, true, false, true, false, false, false, false, false, false, false, false] rfl rfl (by kernel_rfl) (fun _ _ _ h => h) (Or.inl ⟨by rfl, ?_⟩) ?_ ?_
      rotate_left
      · intro w'
        try simp only [List.getElem_toArray, List.getElem_cons_succ, List.getElem_cons_zero]
        go_simp
        with_reducible rfl
      rotate_left
      · simp only [Act.put, List.setIfInBounds_toArray, List.set_cons_zero, List.set_cons_succ, i64_w, i32_w]
        rfl
      refine pure_ (i := 12) (N := some 26) (v := ?_) (a' := ?_) #[true, true, true, true, true, false, true, true, true, true, false, true, true, false, false, false, false, false, false, false] rfl rfl (by kernel_rfl) (fun _ _ _ h => h) (Or.inl ⟨by rfl, ?_⟩) ?_ ?_
      rotate_left
      · intro w'
        try simp only [List.getElem_toArray, List.getElem_cons_succ, List.getElem_cons_zero]
        go_simp
        with_reducible rfl
      rotate_left
      · simp only [Act.put, List.setIfInBounds_toArray, List.set_cons_zero, List.set_cons_succ, i64_w, i32_w]
        rfl
      refine pure_ (i := 13) (N := some 27) (v := ?_) (a' := ?_) #[true, true, true, true, true, false, true, true, true, true, false, true, true, true, false, false, false, false, false, false] rfl rfl (by kernel_rfl) (fun _ _ _ h => h) (Or.inl ⟨by rfl, ?_⟩) ?_ ?_
      rotate_left
      · intro w'
        try simp only [List.getElem_toArray, List.getElem_cons_succ, List.getElem_cons_zero]
        go_simp
        with_reducible rfl
      rotate_left
      · simp only [Act.put, List.setIfInBounds_toArray, List.set_cons_zero, List.set_cons_succ, i64_w, i32_w]
        rfl
      refine pure_ (i := 14) (N := some 28) (v := ?_) (a' := ?_) #[true, true, true, true, true, false, true, true, true, true, false, true, true, true, true, false, false, false, false, false] rfl rfl (by kernel_rfl) (fun _ _ _ h => h) (Or.inl ⟨by rfl, ?_⟩) ?_ ?_
      rotate_left
      · intro w'
        try simp only [List.getElem_toArray, List.getElem_cons_succ, List.getElem_cons_zero]
        go_simp
        with_reducible rfl
      rotate_left
      · simp only [Act.put, List.setIfInBounds_toArray, List.set_cons_zero, List.set_cons_succ, i64_w, i32_w]
        rfl
      refine take_ (i := 5) (N := some 19) (v := ?_) (a' := ?_) #[true, true, true, true, true, true, true, true, true, true, false, true, true, true, true, false, false, false, false, false] rfl rfl (by kernel_rfl) (fun _ _ _ h => h) (Or.inl ⟨by rfl, ?_⟩) hHeld ?_ ?_
      rotate_left
      · rintro w' ⟨s0, s1, s2⟩
        try simp only [List.getElem_toArray, List.getElem_cons_succ, List.getElem_cons_zero]
        go_simp
        with_reducible rfl
      rotate_left
      · simp only [Act.put, List.setIfInBounds_toArray, List.set_cons_zero, List.set_cons_succ, i64_w, i32_w]
        rfl
      refine take_ (i := 10) (N := some 24) (v := ?_) (a' := ?_) #[true, true, true, true, true, true, true, true, true, true, true, true, true, true, true, false, false, false, false, false] rfl rfl (by kernel_rfl) (fun _ _ _ h => h) (Or.inl ⟨by rfl, ?_⟩) hHeld ?_ ?_
      rotate_left
      · rintro w' ⟨s0, s1, s2⟩
        try simp only [List.getElem_toArray, List.getElem_cons_succ, List.getElem_cons_zero]
        go_simp
        with_reducible rfl
      rotate_left
      · simp only [Act.put, List.setIfInBounds_toArray, List.set_cons_zero, List.set_cons_succ, i64_w, i32_w]
        rfl
      refine take_ (i := 15) (N := some 29) (v := ?_) (a' := ?_) #[true, true, true, true, true, true, true, true, true, true, true, true, true, true, true, true, false, false, false, false] rfl rfl (by kernel_rfl) (fun _ _ _ h => h) (Or.inl ⟨by rfl, ?_⟩) hHeld ?_ ?_
      rotate_left
      · rintro w' ⟨s0, s1, s2⟩
        try simp only [List.getElem_toArray, List.getElem_cons_succ, List.getElem_cons_zero]
        go_simp
        with_reducible rfl
      rotate_left
      · simp only [Act.put, List.setIfInBounds_toArray, List.set_cons_zero, List.set_cons_succ, i64_w, i32_w]
        rfl
      refine pure_ (i := 16) (N := some 30) (v := ?_) (a' := ?_) #[true, true, true, true, true, true, true, true, true, true, true, true, true, true, true, true, true, false, false, false] rfl rfl (by kernel_rfl) (fun _ _ _ h => h) (Or.inl ⟨by rfl, ?_⟩) ?_ ?_
      rotate_left
      · intro w'
        try simp only [List.getElem_toArray, List.getElem_cons_succ, List.getElem_cons_zero]
        go_simp
        with_reducible rfl
      rotate_left
      · simp only [Act.put, List.setIfInBounds_toArray, List.set_cons_zero, List.set_cons_succ, i64_w, i32_w]
        rfl
      refine last_ (i := 17) (N := some 31) #[true, true, true, true, true, true, true, true, true, true, true, true, true, true, true, true, true, true, false, false] rfl rfl (by kernel_rfl) (by decide) (fun K hK => ?_)
      refine value_ (w1 := ?_) (v := ?_) (by rfl) rfl ?_ ?_
      rotate_left 2
      · try simp only [List.getElem_toArray, List.getElem_cons_succ, List.getElem_cons_zero]
        go_simp
        constructor
        · rfl
        · rfl
      refine hK.out _ _ ?_
      clear hK K
      refine norm_ (a' := ?_) ?_ ?_
      rotate_left
      · show Act.put _ (some 31) _ = _
        simp only [Act.put, List.setIfInBounds_toArray, List.set_cons_zero, List.set_cons_succ, i64_w, i32_w]
        rfl
      refine last_ (i := 18) (N := some 32) #[true, true, true, true, true, true, true, true, true, true, true, true, true, true, true, true, true, true, true, false] rfl rfl (by kernel_rfl) (by decide) (fun K hK => ?_)
      refine step_append_ref (by rfl) (.tmp 14) (.tmp 31) rfl _ xs rfl (HB.out.own.fr (F := fun _ => False) ((Fr.refl _ wr).alloc _).drew (fun _ _ h => h)) wr.heap.size 1 rfl c (by rw [hcc.out]; exact heap_alloc_at wr _) HXL.out ?_
      intro v3 w3 own3 fr3 fresh3
      have HB3 := Lib.hid (HB.out.push ((Fr.refl _ wr).alloc _).drew own3 fr3 fresh3)
      obtain ⟨o3, c3, rfl⟩ := own3.slice
      clear own3 fr3 fresh3
      refine hK.out _ _ ?_
      clear hK K
      refine norm_ (a' := ?_) ?_ ?_
      rotate_left
      · show Act.put _ (some 32) _ = _
        simp only [Act.put, List.setIfInBounds_toArray, List.set_cons_zero, List.set_cons_succ, i64_w, i32_w]
        rfl
      refine pure_ (i := 19) (N := some 3) (v := ?_) (a' := ?_) #[true, true, true, true, true, true, true, true, true, true, true, true, true, true, true, true, true, true, true, true] rfl rfl (by kernel_rfl) (fun _ _ _ h => h) (Or.inl ⟨by rfl, ?_⟩) ?_ ?_
      rotate_left
      · intro w'
        try simp only [List.getElem_toArray, List.getElem_cons_succ, List.getElem_cons_zero]
        go_simp
        with_reducible rfl
      rotate_left
      · simp only [Act.put, List.setIfInBounds_toArray, List.set_cons_zero, List.set_cons_succ, i64_w, i32_w]
        rfl
      refine done_ (by kernel_rfl) ?_

      rw [List.length_append, List.length_singleton] at HB3 ⊢
      go_wp2
      exact ⟨⟨k + 1, _, by omega, by go_num, rfl, by rw [HTK.out]; exact HB3.out⟩, by simp [intOf]; omega⟩
    · obtain rfl : k = l.length := by omega
      rw [List.take_length] at HB
      obtain ⟨oo, oc, hcur⟩ := HB.out.own.slice
      subst hcur
      clear hb
      go_wp2
      go_ret
      exact ⟨_, rfl, by rw [← HL.out]; exact HB.out.own, fun j hj => Nat.le_trans HF1.out.size (HB.out.new j hj), HS1.out.still HB.out.fr, HF1.out.trans HB.out.fr (fun _ h => h.elim)⟩
set_option maxRecDepth 100000 in
theorem eq72 (a b : ByteArray) (x : Bool) (w : World) : (Op.equalIn 10000 72 (.agg #[.string a, .string b, .bool x]) (.agg #[.string a, .string b, .bool x])).run Try.prog w = .ok true w := by
  have hu : Try.prog.underlying 72 = some (.struct (Try.prog.fieldsOf 72)) := by kernel_rfl
  have hp : Try.prog.stoodInHeld 72 = false := by kernel_rfl
  obtain ⟨fs, hfs⟩ : ∃ fs, fs = (Try.prog.fieldsOf 72).toList := ⟨_, rfl⟩
  have hk : (fs.map fun f => (f.name == "_", f.type, f.offset)) = [(false, 9, 0), (false, 9, 1), (false, 4, 2)] := by rw [hfs]; kernel_rfl
  rw [show (10000 : Nat) = 9999 + 1 from rfl, run_equalIn_struct w 9999 72 _ _ hu hp, ← hfs]
  obtain ⟨f0, f1, f2, rfl⟩ : ∃ f0 f1 f2, fs = [f0, f1, f2] := by
    match fs, hk with
    | [f0, f1, f2], _ => exact ⟨f0, f1, f2, rfl⟩
  simp only [List.map_cons, List.map_nil, List.cons.injEq, Prod.mk.injEq, and_true] at hk
  obtain ⟨⟨n0, t0, o0⟩, ⟨n1, t1, o1⟩, n2, t2, o2⟩ := hk
  have k9 : Try.prog.plainKey 9 = true := by kernel_rfl
  have k4 : Try.prog.plainKey 4 = true := by kernel_rfl
  have n0' : f0.name ≠ "_" := by simpa using n0
  have n1' : f1.name ≠ "_" := by simpa using n1
  have n2' : f2.name ≠ "_" := by simpa using n2
  have p0 : ∀ W, (part 9 #[.string a, .string b, .bool x] 0).run Try.prog W = .ok (.string a) W := fun W => run_part_plain W k9 rfl
  have p1 : ∀ W, (part 9 #[.string a, .string b, .bool x] 1).run Try.prog W = .ok (.string b) W := fun W => run_part_plain W k9 rfl
  have p2 : ∀ W, (part 4 #[.string a, .string b, .bool x] 2).run Try.prog W = .ok (.bool x) W := fun W => run_part_plain W k4 rfl
  have q9 : ∀ c W, (Op.equalIn 9999 9 (.string c) (.string c)).run Try.prog W = .ok true W := fun c W => by
    rw [show (9999 : Nat) = 9998 + 1 from rfl, run_equalIn_string W 9998 9 c c (by kernel_rfl)]; simp
  have q4 : ∀ c W, (Op.equalIn 9999 4 (.bool c) (.bool c)).run Try.prog W = .ok true W := fun c W => by
    rw [show (9999 : Nat) = 9998 + 1 from rfl, run_equalIn_bool' W 9998 4 c c (by kernel_rfl)]; simp
  simp [Op.eqFields, n0', n1', n2', t0, t1, t2, o0, o1, o2, p0, p1, p2, q9, q4]
set_option maxRecDepth 100000 in
set_option maxHeartbeats 2000000 in
/-- The same pairs. -/
theorem same48 (u v : Value) (l : List Chg) (w : World) (hu : IsChg w u l) (hv : IsChg w v l) : Calls Try.prog 48 #[u, v] w fun e w' => e = .returned (.bool true) ∧ Fr (fun _ => False) w w' := by
  obtain ⟨ao, cap, rfl, k1, k2, _⟩ := hu.is
  obtain ⟨bo, bc, rfl, _⟩ := hv.is
  have HU := Lib.hid hu; have HV := Lib.hid hv; have HLB := Lib.hid (And.intro k1 k2)
  have heq : (∀ a b x w, (Op.equalIn 10000 72 (.agg #[.string a, .string b, .bool x]) (.agg #[.string a, .string b, .bool x])).run Try.prog w = .ok true w) := eq72
  clear hu hv k1 k2
  have tne : decide ((l.length : Int) = (l.length : Int)) = true := by simp
  go_enter Try.func48, Try.ntmps48
  go_wp2
  go_loopw [5] (fun i wr => ∃ k : Nat, k ≤ l.length ∧ i = .int .i64 k ∧ Fr (fun _ => False) w wr) (fun i _ => l.length - (intOf i).toNat)
  case atStart => exact ⟨0, Nat.zero_le _, rfl, Fr.refl _ w⟩
  case round =>
    obtain ⟨k, hk, rfl, hf⟩ := hrel
    have HF := Lib.hid hf
    by_cases hlt : k < l.length
    · have hw1 : IntKind.i64.wrap ((k : Int) + 1) = (k : Int) + 1 := IntWalk.i64_in _ (by have := HLB.out; omega)
      have t1 : decide ((k : Int) < (l.length : Int)) = true := by simp; omega
      have t1n : decide (k < l.length) = true := by simp; omega
      have hkI : (k : Int) < (l.length : Int) := by omega
      obtain ⟨ab, off, rfl, c0, c1, c2⟩ := (HU.out.fr hf (fun _ _ h => h)).at k hlt
      obtain ⟨ab', off', rfl, c0', c1', c2'⟩ := (HV.out.fr hf (fun _ _ h => h)).at k hlt
      generalize l[k] = c at *
      unfold str at c0 c1 c0' c1'
      generalize (⟨c.key.toArray⟩ : ByteArray) = S1 at *
      generalize (⟨c.val.toArray⟩ : ByteArray) = S2 at *
      have d0 : cellIn wr.drew.heap[ab]? (off + k * 3) = some (.string S1) := c0
      have d1 : cellIn wr.drew.heap[ab]? (off + k * 3 + 1) = some (.string S2) := c1
      have d2 : cellIn wr.drew.heap[ab]? (off + k * 3 + 2) = some (.bool c.gone) := c2
      have d0' : cellIn wr.drew.heap[ab']? (off' + k * 3) = some (.string S1) := c0'
      have d1' : cellIn wr.drew.heap[ab']? (off' + k * 3 + 1) = some (.string S2) := c1'
      have d2' : cellIn wr.drew.heap[ab']? (off' + k * 3 + 2) = some (.bool c.gone) := c2'
      clear hf
      go_wp2
      refine start_ (n := 9) (S := fun w' => cellIn w'.heap[ab]? (off + k * 3) = some (.string S1) ∧ cellIn w'.heap[ab]? (off + k * 3 + 1) = some (.string S2) ∧ cellIn w'.heap[ab]? (off + k * 3 + 2) = some (.bool c.gone) ∧ cellIn w'.heap[ab']? (off' + k * 3) = some (.string S1) ∧ cellIn w'.heap[ab']? (off' + k * 3 + 1) = some (.string S2) ∧ cellIn w'.heap[ab']? (off' + k * 3 + 2) = some (.bool c.gone)) (ds := []) #[false, false, false, false, false, false, false, false, false] (by kernel_rfl) rfl rfl ⟨d0, d1, d2, d0', d1', d2'⟩ (fun hHeld => ?_)
      refine pure_ (i := 0) (N := some 17) (v := ?_) (a' := ?_) #[true, false, false, false, false, false, false, false, false] rfl rfl (by kernel_rfl) (fun _ _ _ h => h) (Or.inl ⟨by rfl, ?_⟩) ?_ ?_
      rotate_left
      · intro w'
        try simp only [List.getElem_toArray, List.getElem_cons_succ, List.getElem_cons_zero]
        go_simp
        with_reducible rfl
      rotate_left
      · simp only [Act.put, List.setIfInBounds_toArray, List.set_cons_zero, List.set_cons_succ, i64_w, i32_w]
        rfl
      refine pure_ (i := 1) (N := some 18) (v := ?_) (a' := ?_) #[true, true, false, false, false, false, false, false, false] rfl rfl (by kernel_rfl) (fun _ _ _ h => h) (Or.inl ⟨by rfl, ?_⟩) ?_ ?_
      rotate_left
      · intro w'
        try simp only [List.getElem_toArray, List.getElem_cons_succ, List.getElem_cons_zero]
        go_simp
        with_reducible rfl
      rotate_left
      · simp only [Act.put, List.setIfInBounds_toArray, List.set_cons_zero, List.set_cons_succ, i64_w, i32_w]
        rfl
      refine pure_ (i := 2) (N := some 19) (v := ?_) (a' := ?_) #[true, true, true, false, false, false, false, false, false] rfl rfl (by kernel_rfl) (fun _ _ _ h => h) (Or.inl ⟨by rfl, ?_⟩) ?_ ?_
      rotate_left
      · intro w'
        try simp only [List.getElem_toArray, List.getElem_cons_succ, List.getElem_cons_zero]
        go_simp
        with_reducible rfl
      rotate_left
      · simp only [Act.put, List.setIfInBounds_toArray, List.set_cons_zero, List.set_cons_succ, i64_w, i32_w]
        rfl
      refine pure_ (i := 4) (N := some 21) (v := ?_) (a' := ?_) #[true, true, true, false, true, false, false, false, false] rfl rfl (by kernel_rfl) (fun _ _ _ h => h) (Or.inl ⟨by rfl, ?_⟩) ?_ ?_
      rotate_left
      · intro w'
        try simp only [List.getElem_toArray, List.getElem_cons_succ, List.getElem_cons_zero]
        go_simp
        with_reducible rfl
      rotate_left
      · simp only [Act.put, List.setIfInBounds_toArray, List.set_cons_zero, List.set_cons_succ, i64_w, i32_w]
        rfl
      refine pure_ (i := 5) (N := some 22) (v := ?_) (a' := ?_) #[true, true, true, false, true, true, false, false, false] rfl rfl (by kernel_rfl) (fun _ _ _ h => h) (Or.inl ⟨by rfl, ?_⟩) ?_ ?_
      rotate_left
      · intro w'
        try simp only [List.getElem_toArray, List.getElem_cons_succ, List.getElem_cons_zero]
        go_simp
        with_reducible rfl
      rotate_left
      · simp only [Act.put, List.setIfInBounds_toArray, List.set_cons_zero, List.set_cons_succ, i64_w, i32_w]
        rfl
      refine pure_ (i := 6) (N := some 23) (v := ?_) (a' := ?_) #[true, true, true, false, true, true, true, false, false] rfl rfl (by kernel_rfl) (fun _ _ _ h => h) (Or.inl ⟨by rfl, ?_⟩) ?_ ?_
      rotate_left
      · intro w'
        try simp only [List.getElem_toArray, List.getElem_cons_succ, List.getElem_cons_zero]
        go_simp
        with_reducible rfl
      rotate_left
      · simp only [Act.put, List.setIfInBounds_toArray, List.set_cons_zero, List.set_cons_succ, i64_w, i32_w]
        rfl
      refine take_ (i := 3) (N := some 20) (v := ?_) (a' := ?_) #[true, true, true, true, true, true, true, false, false] rfl rfl (by kernel_rfl) (fun _ _ _ h => h) (Or.inl ⟨by rfl, ?_⟩) hHeld ?_ ?_
      rotate_left
      · rintro w' ⟨s0, s1, s2, s3, s4, s5⟩
        try simp only [List.getElem_toArray, List.getElem_cons_succ, List.getElem_cons_zero]
        go_simp
        with_reducible rfl
      rotate_left
      · simp only [Act.put, List.setIfInBounds_toArray, List.set_cons_zero, List.set_cons_succ, i64_w, i32_w]
        rfl
      refine take_ (i := 7) (N := some 24) (v := ?_) (a' := ?_) #[true, true, true, true, true, true, true, true, false] rfl rfl (by kernel_rfl) (fun _ _ _ h => h) (Or.inl ⟨by rfl, ?_⟩) hHeld ?_ ?_
      rotate_left
      · rintro w' ⟨s0, s1, s2, s3, s4, s5⟩
        try simp only [List.getElem_toArray, List.getElem_cons_succ, List.getElem_cons_zero]
        go_simp
        with_reducible rfl
      rotate_left
      · simp only [Act.put, List.setIfInBounds_toArray, List.set_cons_zero, List.set_cons_succ, i64_w, i32_w]
        rfl
      refine pure_ (i := 8) (N := some 25) (v := ?_) (a' := ?_) #[true, true, true, true, true, true, true, true, true] rfl rfl (by kernel_rfl) (fun _ _ _ h => h) (Or.inl ⟨by rfl, ?_⟩) ?_ ?_
      rotate_left
      · intro w'
        try simp only [List.getElem_toArray, List.getElem_cons_succ, List.getElem_cons_zero]
        go_simp
        with_reducible rfl
      rotate_left
      · simp only [Act.put, List.setIfInBounds_toArray, List.set_cons_zero, List.set_cons_succ, i64_w, i32_w]
        rfl
      refine done_ (by kernel_rfl) ?_

      go_wp2
      exact ⟨⟨k + 1, by omega, by go_num, HF.out.drew⟩, by simp [intOf]; omega⟩
    · obtain rfl : k = l.length := by omega
      clear hf
      go_wp2
      go_ret
      exact ⟨rfl, HF.out⟩
end Go.Proofs.Ytnpeeephkkmomaa
namespace Go.Proofs.Ytnpeeephkkmomaa
open Go.RowKit Go.Proofs.YtnpeeephkkmomaaW.PrintLast
set_option linter.unusedVariables false
set_option linter.unusedSimpArgs false
attribute [local go_sem] beq_self_eq_true bne_self_eq_false

theorem OnDk.crashed {D : Dk} {n : Nat} {S : StoV} (h : OnDk D n S) : OnDk (D.crashed 0 0) n S := by
  have hb := h.up.buf
  have e : D.crashed 0 0 = { secs := D.secs, buf := [], armed := -1, down := false } := by
    unfold Dk.crashed
    simp [hb, settled]
  have hs : (D.crashed 0 0).secs = D.secs := by rw [e]
  have hb' : (D.crashed 0 0).buf = [] := by rw [e]
  have ha : (D.crashed 0 0).armed = -1 := by rw [e]
  have ht : ∀ i, (D.crashed 0 0).told i = D.told i := fun i => by rw [told_nil hb', told_nil hb, hs]
  refine ⟨⟨⟨by rw [hs]; exact h.up.ok.one, by rw [hs]; exact h.up.ok.most, by rw [hs]; exact h.up.ok.len, fun x hx => (by rw [hb'] at hx; cases hx), by rw [ha]; decide⟩, by rw [hs]; exact h.up.len, hb', by rw [e], by rw [ha]; decide⟩, h.area, ?_, ⟨fun q s hq => h.good.1 q s (by rw [hs] at hq; exact hq), fun x hx => (by rw [hb'] at hx; cases hx)⟩, h.fit, h.enc⟩
  obtain ⟨h0, prev, h1, h2, h3⟩ := h.cell
  exact ⟨h0, prev, by rw [ht]; exact h1, by rw [ht]; exact h2, h3⟩
theorem StH.crash {W w : World} {X : Nat → Prop} {n b s : Nat} {S : StoV} (h : StH W w X n b s S) :
    Calls Try.prog 18 #[.pointer (some ⟨b, 0, none⟩), .int .i64 0, .int .i64 0] w fun e w' => e = .returned (.tuple #[]) ∧ DkH W w' X n b S ∧ Fr (Aside W X) w w' := by
  obtain ⟨cp, jp, lb, cl, sp, wv, hv, D, h⟩ := h
  refine (crash_any b lb cl sp wv D w 0 0 h.dk).mono ?_
  rintro e w' ⟨rfl, hE, fr⟩
  have hfa : Fr (Aside W X) w w' := fr.mono (fun j _ hj => h.foot j (.inl (hj.elim .inl (fun h => .inr (.inl h)))))
  refine ⟨rfl, ⟨lb, cl, sp, _, _, hE, h.on.crashed, h.own.trans hfa (fun j hj => .inr hj.1), fun j hj => ?_, fun j hj => Nat.lt_of_lt_of_le (h.aside j hj) fr.size⟩, hfa⟩
  rcases hj with h1 | h1 | h1
  · exact h.foot j (.inl (.inl h1))
  · exact h.foot j (.inl (.inr (.inl h1)))
  · simp [Value.ownBlock] at h1
theorem ComTo.turn {n : Nat} {S S' : StoV} {l : List Chg} {er : Int} (h : ComTo n S l er S') : S'.turn ≤ S.turn + 1 := by
  cases h with
  | app _ => exact Nat.le_refl _
  | snap _ _ => exact Nat.le_refl _
  | full _ _ => exact Nat.le_succ _
theorem ComTo.er {n : Nat} {S S' : StoV} {l : List Chg} {er : Int} (h : ComTo n S l er S') : (er = 0) ∨ (er = 51 ∧ S' = S) := by
  cases h with
  | app _ => exact .inl rfl
  | snap _ _ => exact .inl rfl
  | full _ _ => exact .inr ⟨rfl, rfl⟩
theorem encAll_mem {L : List Chg} {c : Chg} (h : c ∈ L) : (encOne c).length ≤ (encAll L).length := by
  induction L with
  | nil => cases h
  | cons d L ih =>
    rw [encAll_cons, List.length_append]
    rcases List.mem_cons.1 h with rfl | h
    · omega
    · have := ih h; omega
/-- What is too long is refused. -/
theorem ComTo.long {n : Nat} {S S' : StoV} {c : Chg} {er : Int} (h : ComTo n S [c] er S') (hn : 2 ≤ n) (hg : c.gone = false) (hl : 64 * n < c.val.length) : er = 51 := by
  have h1 : halfN n * 64 ≤ 64 * n := by unfold halfN; omega
  have h2 : c.val.length ≤ (encOne c).length := by unfold encOne textOf; rw [hg]; simp; omega
  have h3 : ∀ L : List Chg, c ∈ L → ∀ k, ¬ Fits n k (encBytes L).length := fun L hL k hf => by
    have := encAll_mem hL
    have h5 : (encBytes L).length = 8 + (encAll L).length := by unfold encBytes; rw [List.length_append, be8_length]
    have := hf.2
    omega
  cases h with
  | app hf => exact absurd hf (h3 [c] (by simp) _)
  | snap _ hf => exact absurd hf (h3 _ ((mem_applyOne (hasOf_kept S.fs).1 c c).2 (.inl ⟨rfl, hg⟩)) _)
  | full _ _ => rfl

set_option maxRecDepth 100000 in
set_option maxHeartbeats 4000000 in
theorem full_walk (x : Nat) (hx : x < 256) (v : Value) (l : List Chg) (z : Int) (hz : -9223372036854775808 ≤ z ∧ z ≤ 9223372036854775807) (w : World) (hv : IsChg w v l) (hl : encN l ≤ 549755813888) :
    Calls Try.prog 11 #[.int .u8 (x : Int), v, .int .i64 z] w fun e w' => e = .returned (.bool true) ∧ Fr (fun _ => False) w w' := by
  obtain ⟨vo, vc, rfl, k1, k2, _⟩ := hv.is
  have HV := Lib.hid hv; have HL := Lib.hid hl; have HZ := Lib.hid hz; have HXB := Lib.hid hx
  have hlb : l.length ≤ 549755813888 := by have h1 := encAll_min l; have h2 := encAll_length l; omega
  have HLB := Lib.hid hlb
  obtain ⟨m, hm⟩ : ∃ m, m = x % 12 := ⟨_, rfl⟩
  obtain ⟨n, hn⟩ : ∃ n, n = 4 + x % 12 := ⟨_, rfl⟩
  have hxm : (x : Int) % 12 = (m : Int) := by omega
  have hw4 : 4 + (m : Int) = (n : Int) := by omega
  have HNB : Hid (4 ≤ n ∧ n ≤ 15) := Lib.hid (by omega)
  clear hv hl hz k1 k2 hm hn hx hlb
  by_cases hA : z < 0 ∨ 5000 < z ∨ 300 < l.length
  · have hcs : (decide (z < 0) = true) ∨ (decide (z < 0) = false ∧ decide (5000 < z) = true) ∨ (decide (z < 0) = false ∧ decide (5000 < z) = false ∧ decide (l.length ≤ 300) = false) := by
      simp only [decide_eq_true_eq, decide_eq_false_iff_not]; omega
    have M1 : Hid True := Lib.hid trivial
    rcases hcs with t0 | ⟨t0, t1⟩ | ⟨t0, t1, t2⟩
    all_goals
      have HT : Hid True := Lib.hid trivial
      clear hA
      go_enter Try.func11, Try.ntmps11
      go_wp2_with (first
        | (go_at_call 12; refine (st_new n (by have := HNB.out; omega) w).mono ?_; rintro e w1 ⟨b, rfl, hd⟩; have HD := Lib.hid hd; clear hd)
        | (go_at_call 36; refine (open36 HD.out HNB.out.1).mono ?_; rintro e w2 ⟨s, rfl, hs, _⟩; have HS := Lib.hid hs; clear hs)
        | (go_at_call 37; clear M1; refine (awake6 w2).mono ?_; rintro e w3 ⟨rfl, f3⟩; have HS3 := Lib.hid (HS.out.still f3); clear f3)
        | (go_at_call 38; refine (few38 _ l w3 (HV.out.fr HS3.out.own (fun _ _ h => h))).mono ?_; rw [t2]; rintro e w4 ⟨rfl, rfl⟩)
        | (go_at_call 37; refine (awake6 w3).mono ?_; rintro e w5 ⟨rfl, f5⟩; have HS5 := Lib.hid (HS3.out.still f5); clear f5))
      go_ret
      exact ⟨rfl, HS5.out.own⟩
  · have t0 : decide (z < 0) = false := by simp; omega
    have t1 : decide (5000 < z) = false := by simp; omega
    have t2 : decide (l.length ≤ 300) = true := by simp; omega
    obtain ⟨k, rfl⟩ : ∃ k : Nat, z = (k : Int) := ⟨z.toNat, by omega⟩
    have HKB : Hid (k ≤ 5000) := Lib.hid (by omega)
    have hw64 : wrap64 (64 * (n : Int)) = 64 * (n : Int) := by rw [w64 _ (by have := HNB.out; omega)]
    clear hA
    have M1 : Hid True := Lib.hid trivial
    have M2 : Hid True := Lib.hid trivial
    obtain ⟨B, hB⟩ : ∃ B : ByteArray, B = ⟨(zB k).toArray⟩ := ⟨_, rfl⟩
    have HBE := Lib.hid hB
    clear hB
    go_enter Try.func11, Try.ntmps11
    go_wp2_with (first
      | (go_at_call 12; refine (st_new n (by have := HNB.out; omega) w).mono ?_; rintro e w1 ⟨b, rfl, hd⟩; have HD := Lib.hid hd; clear hd)
      | (go_at_call 36; clear M1; refine (open36 HD.out HNB.out.1).mono ?_; rintro e w2 ⟨s, rfl, hs, _⟩; have HS := Lib.hid hs; clear hs)
      | (go_at_call 37; refine (awake6 w2).mono ?_; rintro e w3 ⟨rfl, f3⟩; have HS3 := Lib.hid (HS.out.still f3); clear f3)
      | (go_at_call 38; refine (few38 _ l w3 (HV.out.fr HS3.out.own (fun _ _ h => h))).mono ?_; rw [t2]; rintro e w4 ⟨rfl, rfl⟩)
      | (go_at_call 40; go_loud (refine (batch40 _ l w3 (HV.out.fr HS3.out.own (fun _ _ h => h)) (by have := HLB.out; omega)).mono ?_; rintro e w5 ⟨v5, rfl, o5, n5, f5⟩; have HO5 := Lib.hid o5; have HS5 := Lib.hid (HS3.out.still f5); obtain ⟨o5', c5', rfl⟩ := o5.slice; clear o5 n5 f5))
      | (go_at_call 39; clear M2; go_loud (refine (commit39 HS5.out HNB.out.1 (by decide) _ l HO5.out.chg HL.out).mono ?_; rintro e w6 ⟨er1, S1, rfl, hc1, h6, f6⟩; have HS6 := Lib.hid h6; have HC1 := Lib.hid hc1; clear hc1 h6 f6))
      | (go_at_call 47; go_loud (
         refine HS6.out.pairs.mono ?_
         rintro e w7 ⟨v7, rfl, o7, n7, h7, f7⟩
         have HS7 := Lib.hid (HS6.out.frX (F := fun _ => False) f7 (fun _ h => h.elim) (fun _ h => h.elim) (fun j => v7.ownBlock = some j) (fun j hj => ⟨.inr (n7 j hj), o7.lt j hj⟩))
         have HO7 := Lib.hid o7
         obtain ⟨o7', c7', rfl⟩ := o7.slice
         have mk := mk30 w7 (k : Int) (k : Int) (by omega) (by omega) (by have := HKB.out; omega)
         simp only [Int.toNat_natCast] at mk
         have k9 : cvStr Try.prog 30 9 (.slice (some ⟨w7.heap.size, 0, none⟩) k k) (w7.alloc (.cells (Bs (zB (k : Int))).toArray 5 (0, 0))) = .ok (.value (.string B)) (w7.alloc (.cells (Bs (zB (k : Int))).toArray 5 (0, 0))) := by
           have hl : (zB (k : Int)).length = k := by rw [zB_length]; simp
           have hb := IsBytes.of_cells (l := zB (k : Int)) (heap_alloc_at w7 (.cells (Bs (zB (k : Int))).toArray 5 (0, 0))) (by rw [hl]; have := HKB.out; omega)
           rw [hl] at hb
           rw [cv309 _ _ _ hb, HBE.out]; rfl
         obtain ⟨W8, hW8⟩ : ∃ W8, W8 = w7.alloc (.cells (Bs (zB (k : Int))).toArray 5 (0, 0)) := ⟨_, rfl⟩
         have HF8 : Hid (Fr (fun _ => False) w7 W8) := Lib.hid (by rw [hW8]; exact (Fr.refl _ w7).alloc _)
         rw [← hW8] at mk k9
         clear hW8 o7 n7 h7 f7)))
    have hcb : Hid ((W8.alloc (.cells #[.string ⟨#[122, 122]⟩, .string B, .bool false] 75 (0, 0))).heap[W8.heap.size]? = some (.cells ([(⟨[122, 122], zB (k : Int), false⟩ : Chg)].flatMap chCells).toArray 75 (0, 0))) := Lib.hid (by rw [heap_alloc_at, HBE.out]; rfl)
    have hen : encN [(⟨[122, 122], zB (k : Int), false⟩ : Chg)] ≤ 549755813888 := by simp [encN, zB_length]; have := HKB.out; omega
    refine (commit39 ((HS7.out.still HF8.out).still ((Fr.refl (fun _ => False) W8).alloc _)) HNB.out.1 (by have := HC1.out.turn; have e : S0.turn = 0 := rfl; omega) _ [⟨[122, 122], zB (k : Int), false⟩] (IsChg.of_block hcb.out 1 rfl (by simp)) hen).mono ?_
    rintro e w9 ⟨er2, S2, rfl, hc2, h9, f9⟩
    have HS9 := Lib.hid h9
    have HO9 := Lib.hid ((HO7.out.fr (HF8.out.alloc (.cells #[.string ⟨#[122, 122]⟩, .string B, .bool false] 75 (0, 0))) (fun _ _ h => h)).fr f9 (fun j hj ha => ha.2 hj))
    have hlong := hc2.long (by have := HNB.out; omega) rfl
    clear h9 f9 hcb hen mk k9
    rcases hc2.er with rfl | ⟨rfl, rfl⟩
    · have t5 : decide (64 * (n : Int) < (k : Int)) = false := by
        simp
        rcases Int.lt_or_le (64 * (n : Int)) (k : Int) with h | h
        · have := hlong (by simp [zB_length]; omega)
          exact absurd this (by decide)
        · exact h
      clear hc2 hlong
      go_wp2
      go_ret
      exact ⟨rfl, HS9.out.own⟩
    · clear hc2 hlong
      have M3 : Hid True := Lib.hid trivial
      have M4 : Hid True := Lib.hid trivial
      cases t5 : decide (64 * (n : Int) < (k : Int))
      all_goals
        go_wp2_with (first
          | (go_at_call 47; clear M3; go_loud (
             refine HS9.out.pairs.mono ?_
             rintro e w10 ⟨v10, rfl, o10, n10, h10, f10⟩
             have HS10 := Lib.hid h10
             have HO10 := Lib.hid (HO9.out.fr f10 (fun _ _ h => h))
             have HP10 := Lib.hid o10.chg
             obtain ⟨o10', c10', rfl⟩ := o10.slice
             clear o10 n10 h10 f10))
          | (go_at_call 48; clear M4; go_loud (
             refine (same48 _ _ _ w10 HP10.out HO10.out.chg).mono ?_
             rintro e w11 ⟨rfl, f11⟩
             have HS11 := Lib.hid (HS10.out.still f11)
             have HO11 := Lib.hid (HO10.out.fr f11 (fun _ _ h => h))
             clear f11))
          | (go_at_call 18; go_loud (
             refine HS11.out.crash.mono ?_
             rintro e w12 ⟨rfl, d12, f12⟩
             have HD12 := Lib.hid d12
             have HO12 := Lib.hid (HO11.out.fr f12 (fun j hj ha => ha.2 hj))
             clear d12 f12))
          | (go_at_call 36; go_loud (
             refine (open36 HD12.out HNB.out.1).mono ?_
             rintro e w13 ⟨s13, rfl, h13, f13⟩
             have HS13 := Lib.hid h13
             have HO13 := Lib.hid (HO12.out.fr f13 (fun _ _ h => h))
             clear h13 f13))
          | (go_at_call 47; go_loud (
             refine HS13.out.pairs.mono ?_
             rintro e w14 ⟨v14, rfl, o14, n14, h14, f14⟩
             have HS14 := Lib.hid h14
             have HO14 := Lib.hid (HO13.out.fr f14 (fun _ _ h => h))
             have HP14 := Lib.hid o14.chg
             obtain ⟨o14', c14', rfl⟩ := o14.slice
             clear o14 n14 h14 f14))
          | (go_at_call 48; go_loud (
             refine (same48 _ _ _ w14 HP14.out HO14.out.chg).mono ?_
             rintro e w15 ⟨rfl, f15⟩
             have HS15 := Lib.hid (HS14.out.still f15)
             clear f15)))
        go_ret
        exact ⟨rfl, HS15.out.own⟩
end Go.Proofs.Ytnpeeephkkmomaa
namespace Go.Proofs.Ytnpeeephkkmomaa
open Go.RowKit Go.Proofs.YtnpeeephkkmomaaW.PrintLast
set_option linter.unusedVariables false
set_option linter.unusedSimpArgs false
attribute [local go_sem] beq_self_eq_true bne_self_eq_false

def c0Of (c : Chg) : Chg := { c with gone := false }
/-- A round of Do. -/
def stepD (c : Chg) (st : List Chg × Bool) (x : Chg) : List Chg × Bool :=
  if x.key = c.key then st else if st.2 = false ∧ Lib.compareBytes c.key x.key < 0 then (st.1 ++ [c0Of c, x], true) else (st.1 ++ [x], st.2)
def doD (L : List Chg) (c : Chg) : List Chg := if (L.foldl (stepD c) ([], c.gone)).2 then (L.foldl (stepD c) ([], c.gone)).1 else (L.foldl (stepD c) ([], c.gone)).1 ++ [c0Of c]
theorem fold_lt (c : Chg) : ∀ (A : List Chg) (st : List Chg × Bool), (∀ x ∈ A, Lib.compareBytes x.key c.key < 0) → A.foldl (stepD c) st = (st.1 ++ A, st.2)
  | [], st, _ => by simp
  | x :: A, st, h => by
    have h1 := h x (by simp)
    have e : stepD c st x = (st.1 ++ [x], st.2) := by
      unfold stepD
      rw [if_neg (fun e => by rw [e, cb_refl] at h1; exact absurd h1 (by decide)), if_neg (fun e => cb_asymm _ _ h1 e.2)]
    rw [List.foldl_cons, e, fold_lt c A _ (fun y hy => h y (by simp [hy]))]
    simp
theorem fold_gt (c : Chg) : ∀ (B : List Chg) (st : List Chg × Bool), (∀ x ∈ B, Lib.compareBytes c.key x.key < 0) → B.foldl (stepD c) st = if st.2 then (st.1 ++ B, true) else if B = [] then (st.1, false) else (st.1 ++ c0Of c :: B, true)
  | [], (o, b), _ => by cases b <;> simp
  | x :: B, st, h => by
    have h1 := h x (by simp)
    have hne : x.key ≠ c.key := fun e => by rw [e, cb_refl] at h1; exact absurd h1 (by decide)
    have hr := fun st' => fold_gt c B st' (fun y hy => h y (by simp [hy]))
    cases hs : st.2 with
    | true =>
      have e : stepD c st x = (st.1 ++ [x], true) := by
        unfold stepD
        rw [if_neg hne, if_neg (fun e => by rw [hs] at e; exact absurd e.1 (by decide)), hs]
      rw [List.foldl_cons, e, hr]
      simp
    | false =>
      have e : stepD c st x = (st.1 ++ [c0Of c, x], true) := by
        unfold stepD
        rw [if_neg hne, if_pos ⟨hs, h1⟩]
      rw [List.foldl_cons, e, hr]
      simp
theorem c0_self {c : Chg} (h : c.gone = false) : c0Of c = c := by cases c; simp_all [c0Of]
theorem doD_eq {L : List Chg} (hr : Rising L) (c : Chg) : doD L c = applyOne L c := by
  have F := findAt_pos L c.key hr
  have hA : ∀ x ∈ L.take (posOf L c.key), Lib.compareBytes x.key c.key < 0 := fun x hx => by
    obtain ⟨i, hi, rfl⟩ := List.mem_iff_getElem.1 hx
    rw [List.length_take] at hi
    rw [List.getElem_take]
    exact F.lo i (by omega) (by omega)
  have e0 : L.foldl (stepD c) ([], c.gone) = (L.drop (posOf L c.key)).foldl (stepD c) (L.take (posOf L c.key), c.gone) := by
    have : L.foldl (stepD c) ([], c.gone) = (L.take (posOf L c.key) ++ L.drop (posOf L c.key)).foldl (stepD c) ([], c.gone) := by rw [List.take_append_drop]
    rw [this, List.foldl_append, fold_lt c _ _ hA]; simp
  unfold doD applyOne
  rw [e0]
  cases hk : hasKey L c.key with
  | true =>
    rw [hk] at F
    obtain ⟨hp, hpk⟩ := F.is.1 rfl
    have hB : ∀ x ∈ L.drop (posOf L c.key + 1), Lib.compareBytes c.key x.key < 0 := fun x hx => by
      obtain ⟨i, hi, rfl⟩ := List.mem_iff_getElem.1 hx
      rw [List.length_drop] at hi
      rw [List.getElem_drop]
      have := hr (posOf L c.key) (posOf L c.key + 1 + i) hp (by omega) (by omega)
      rwa [hpk] at this
    have e1 : (L.drop (posOf L c.key)).foldl (stepD c) (L.take (posOf L c.key), c.gone) = (L.drop (posOf L c.key + 1)).foldl (stepD c) (L.take (posOf L c.key), c.gone) := by
      rw [List.drop_eq_getElem_cons hp, List.foldl_cons]
      congr 1
      unfold stepD
      rw [if_pos hpk]
    rw [e1, fold_gt c _ _ hB]
    cases hg : c.gone with
    | true => simp [List.eraseIdx_eq_take_drop_succ]
    | false =>
      have hc0 := c0_self hg
      simp only [Bool.false_eq_true, if_false, if_true]
      rw [List.set_eq_take_append_cons_drop, if_pos hp]
      split
      · rename_i hn
        simp only [Bool.false_eq_true, if_false]
        rw [hc0, hn]
      · simp only [if_true]
        rw [hc0]
  | false =>
    have hB : ∀ x ∈ L.drop (posOf L c.key), Lib.compareBytes c.key x.key < 0 := fun x hx => by
      obtain ⟨i, hi, rfl⟩ := List.mem_iff_getElem.1 hx
      rw [List.length_drop] at hi
      rw [List.getElem_drop]
      have h1 := F.hi (posOf L c.key + i) (by omega) (by omega)
      have h2 : L[posOf L c.key + i].key ≠ c.key := fun e => by
        unfold hasKey at hk
        rw [List.any_eq_false] at hk
        have hmem : L[posOf L c.key + i] ∈ L := List.getElem_mem _
        exact hk _ hmem (by simpa using e)
      rcases cb_total c.key L[posOf L c.key + i].key with h | h | h
      · exact h
      · exact absurd (cb_eq _ _ h).symm h2
      · omega
    rw [fold_gt c _ _ hB]
    cases hg : c.gone with
    | true => simp
    | false =>
      have hc0 := c0_self hg
      simp only [Bool.false_eq_true, if_false]
      split
      · rename_i hn
        simp only [Bool.false_eq_true, if_false]
        rw [hc0, hn]
      · simp only [if_true]
        rw [hc0]
theorem less_cb : ∀ a b : List UInt8, Op.bytesLess a b = decide (Lib.compareBytes a b < 0)
  | [], [] => by simp [Op.bytesLess, Lib.compareBytes]
  | [], _ :: _ => by simp [Op.bytesLess, Lib.compareBytes]
  | _ :: _, [] => by simp [Op.bytesLess, Lib.compareBytes]
  | a :: x, b :: y => by
    rw [cb_cons]
    have ih := less_cb x y
    have e : Op.bytesLess (a :: x) (b :: y) = (decide (a < b) || (a == b && Op.bytesLess x y)) := rfl
    have hlt : decide (a < b) = decide (a.toNat < b.toNat) := by rw [decide_eq_decide]; exact UInt8.lt_iff_toNat_lt
    rw [e, ih, hlt]
    by_cases h1 : a.toNat < b.toNat
    · simp [h1]
    · by_cases h2 : b.toNat < a.toNat
      · have : ¬ a = b := fun e => by rw [e] at h2; omega
        simp [h1, h2, this]
      · have : a = b := UInt8.toNat_inj.1 (by omega)
        subst this
        simp
theorem bx72 (w : World) (vs : Array Value) : (Instr.box 72 (.agg vs)).run Try.prog w = .ok (.pointer (some ⟨w.heap.size, 0, none⟩)) (w.alloc (.cells vs 72 (0, 0))) := rfl
structure DoAt (W0 : World) (cb : Nat) (SC SV : ByteArray) (cur : Value) (xs : List Chg) (wr : World) : Prop where
  own : OwnRef wr cur xs
  new : ∀ j, cur.ownBlock = some j → W0.heap.size ≤ j
  box : wr.heap[cb]? = some (.cells #[.string SC, .string SV, .bool false] 72 (0, 0))
  lt : cb < W0.heap.size
  fr : Fr (fun _ => False) W0 wr
theorem DoAt.push {W0 wr w2 w' : World} {cb : Nat} {SC SV : ByteArray} {cur v' : Value} {xs : List Chg} {c : Chg} (h : DoAt W0 cb SC SV cur xs wr) (f2 : Fr (fun _ => False) wr w2) (ho : OwnRef w' v' (xs ++ [c])) (hf : Fr (fun k => cur.ownBlock = some k) w2 w') (hn : v'.ownBlock = cur.ownBlock ∨ v'.ownBlock = some w2.heap.size) : DoAt W0 cb SC SV v' (xs ++ [c]) w' := by
  refine ⟨ho, fun j hj => ?_, hf.at (f2.at h.box (fun h => h)) (fun hj => by have := h.new _ hj; have := h.lt; omega), h.lt, (h.fr.trans f2 (fun _ h => h.elim)).trans hf (fun j hj => .inr (h.new j hj))⟩
  rcases hn with e | e
  · exact h.new j (e.symm.trans hj)
  · rw [e] at hj; cases hj; exact Nat.le_trans h.fr.size f2.size
theorem DoAt.still {W0 wr w2 : World} {cb : Nat} {SC SV : ByteArray} {cur : Value} {xs : List Chg} (h : DoAt W0 cb SC SV cur xs wr) (f : Fr (fun _ => False) wr w2) : DoAt W0 cb SC SV cur xs w2 :=
  ⟨h.own.fr f (fun _ _ h => h), h.new, f.at h.box (fun h => h), h.lt, h.fr.trans f (fun _ h => h.elim)⟩
def RefPost (w : World) (l : List Chg) (e : Ending) (w' : World) : Prop :=
  ∃ v, e = .returned v ∧ OwnRef w' v l ∧ (∀ k, v.ownBlock = some k → w.heap.size ≤ k) ∧ Fr (fun _ => False) w w'
theorem stepD_len (c : Chg) (st : List Chg × Bool) (x : Chg) : (stepD c st x).1.length ≤ st.1.length + 2 := by
  unfold stepD
  split
  · omega
  · split <;> simp
theorem foldD_len (c : Chg) : ∀ (L : List Chg) (st : List Chg × Bool), (L.foldl (stepD c) st).1.length ≤ st.1.length + 2 * L.length
  | [], st => by simp
  | x :: L, st => by
    have h1 := foldD_len c L (stepD c st x)
    have h2 := stepD_len c st x
    rw [List.foldl_cons, List.length_cons]; omega
set_option maxRecDepth 100000 in
set_option maxHeartbeats 4000000 in
theorem do79 (v : Value) (L : List Chg) (c : Chg) (w : World) (hv : IsChg w v L) (hl : L.length ≤ 274877906944) : Calls Try.prog 79 #[v, .agg #[.string ⟨c.key.toArray⟩, .string ⟨c.val.toArray⟩, .bool c.gone]] w (RefPost w (doD L c)) := by
  obtain ⟨ao, cap, rfl, k1, k2, _⟩ := hv.is
  have HV := Lib.hid hv; have HLB := Lib.hid hl; have HK := Lib.hid (And.intro k1 k2)
  clear hv hl k1 k2
  obtain ⟨SC, hSC⟩ : ∃ S : ByteArray, S = ⟨c.key.toArray⟩ := ⟨_, rfl⟩
  obtain ⟨SV, hSV⟩ : ∃ S : ByteArray, S = ⟨c.val.toArray⟩ := ⟨_, rfl⟩
  obtain ⟨gn, hgn⟩ : ∃ g, g = c.gone := ⟨_, rfl⟩
  rw [← hSC, ← hSV, ← hgn]
  have HSC := Lib.hid hSC; have HSV := Lib.hid hSV; have HGN := Lib.hid hgn
  have HC0 : Hid (chCells (c0Of c) = [.string SC, .string SV, .bool false]) := Lib.hid (by rw [hSC, hSV]; rfl)
  clear hSC hSV hgn
  go_enter Try.func79, Try.ntmps79
  go_wp2
  obtain ⟨W0, hW0⟩ : ∃ W0, W0 = w.alloc (.cells #[.string SC, .string SV, .bool false] 72 (0, 0)) := ⟨_, rfl⟩
  obtain ⟨cb, hcb⟩ : ∃ cb, cb = w.heap.size := ⟨_, rfl⟩
  have hbx : W0.heap[cb]? = some (.cells #[.string SC, .string SV, .bool false] 72 (0, 0)) := by rw [hW0, hcb]; exact heap_alloc_at _ _
  have HFW : Hid (Fr (fun _ => False) w W0) := Lib.hid (by rw [hW0]; exact (Fr.refl _ w).alloc _)
  have HD0 : Hid (DoAt W0 cb SC SV (.slice none 0 0) [] W0) := Lib.hid ⟨OwnRef.nil _, by simp [Value.ownBlock], hbx, lt_of_block hbx, Fr.refl _ _⟩
  rw [← hW0, ← hcb]
  clear hW0 hcb hbx
  go_loopw [5, 6, 7] (fun cu la i wr => ∃ (k : Nat) (cur : Value), k ≤ L.length ∧ i = .int .i64 k ∧ cur = cu ∧ la = .bool ((L.take k).foldl (stepD c) ([], gn)).2 ∧ DoAt W0 cb SC SV cur ((L.take k).foldl (stepD c) ([], gn)).1 wr) (fun _ _ i _ => L.length - (intOf i).toNat)
  case atStart => exact ⟨0, _, Nat.zero_le _, rfl, rfl, rfl, HD0.out⟩
  case round =>
    clear HD0
    obtain ⟨k, cur, hk, rfl, rfl, rfl, hd⟩ := hrel
    have HD := Lib.hid hd
    by_cases hlt : k < L.length
    · have hw1 : IntKind.i64.wrap ((k : Int) + 1) = (k : Int) + 1 := IntWalk.i64_in _ (by have := HLB.out; omega)
      have t1 : decide ((k : Int) < (L.length : Int)) = true := by simp; omega
      have t1n : decide (k < L.length) = true := by simp; omega
      have hkI : (k : Int) < (L.length : Int) := by omega
      obtain ⟨ab, off, rfl, q0, q1, q2⟩ := HV.out.at k hlt
      have HTR : Hid (∀ W, Fr (fun _ => False) W0 W → ∀ i u, cellIn w.heap[ab]? i = some u → cellIn W.heap[ab]? i = some u) := Lib.hid (fun W f i u h => by
        rw [← cell?_mk] at h ⊢
        exact (HFW.out.trans f (fun _ h => h.elim)).cell h)
      have c0 := HTR.out wr hd.fr _ _ q0
      have c1 := HTR.out wr hd.fr _ _ q1
      have c2 := HTR.out wr hd.fr _ _ q2
      have HQ := Lib.hid (And.intro q0 (And.intro q1 q2))
      clear q0 q1 q2
      have HST : Hid ((L.take (k + 1)).foldl (stepD c) ([], gn) = stepD c ((L.take k).foldl (stepD c) ([], gn)) L[k]) := Lib.hid (by rw [List.take_succ_eq_append_getElem hlt, List.foldl_append]; rfl)
      have HXL : Hid (((L.take k).foldl (stepD c) ([], gn)).1.length ≤ 1099511627776 - 2) := Lib.hid (by
        have h1 := foldD_len c (L.take k) ([], gn)
        have h2 : (L.take k).length ≤ L.length := by rw [List.length_take]; omega
        have h3 := HLB.out
        simp only [List.length_nil, Nat.zero_add] at h1
        omega)
      obtain ⟨oo, oc, rfl⟩ := hd.own.slice
      have hbx := hd.box
      generalize L[k] = x at *
      generalize (L.take k).foldl (stepD c) ([], gn) = st at *
      obtain ⟨xs, laid⟩ := st
      simp only at HXL HD ⊢
      have hcc : Hid (chCells x = [.string ⟨x.key.toArray⟩, .string ⟨x.val.toArray⟩, .bool x.gone]) := Lib.hid rfl
      unfold str at c0 c1
      obtain ⟨SX, hSX⟩ : ∃ S : ByteArray, S = ⟨x.key.toArray⟩ := ⟨_, rfl⟩
      unfold str at HQ
      rw [← hSX] at c0 hcc HQ
      have HSX := Lib.hid hSX
      have hsx : SX.data.toList = x.key := by rw [hSX]
      have hsc : SC.data.toList = c.key := by rw [HSC.out]
      clear hSX
      generalize (⟨x.val.toArray⟩ : ByteArray) = S2 at *
      have d0 : cellIn wr.drew.heap[ab]? (off + k * 3) = some (.string SX) := c0
      have dbx : wr.drew.heap[cb]? = some (.cells #[.string SC, .string SV, .bool false] 72 (0, 0)) := hbx
      clear hd
      by_cases hke : x.key = c.key
      · have teq : (x.key == c.key) = true := by simpa using hke
        have hst : Hid (stepD c (xs, laid) x = (xs, laid)) := Lib.hid (by unfold stepD; rw [if_pos hke])
        clear hke
        go_wp2
        refine start_ (n := 8) (S := fun w' => cellIn w'.heap[ab]? (off + k * 3) = some (.string SX) ∧ w'.heap[cb]? = some (.cells #[.string SC, .string SV, .bool false] 72 (0, 0))) (ds := []) #[false, false, false, false, false, false, false, false] (by kernel_rfl) rfl rfl ⟨d0, dbx⟩ (fun hHeld => ?_)
        refine pure_ (i := 0) (N := some 17) (v := ?_) (a' := ?_) #[true, false, false, false, false, false, false, false] rfl rfl (by kernel_rfl) (fun _ _ _ h => h) (Or.inl ⟨by rfl, ?_⟩) ?_ ?_
        rotate_left
        · intro w'
          try simp only [List.getElem_toArray, List.getElem_cons_succ, List.getElem_cons_zero]
          go_simp
          with_reducible rfl
        rotate_left
        · simp only [Act.put, List.setIfInBounds_toArray, List.set_cons_zero, List.set_cons_succ, i64_w, i32_w]
          rfl
        refine pure_ (i := 1) (N := some 18) (v := ?_) (a' := ?_) #[true, true, false, false, false, false, false, false] rfl rfl (by kernel_rfl) (fun _ _ _ h => h) (Or.inl ⟨by rfl, ?_⟩) ?_ ?_
        rotate_left
        · intro w'
          try simp only [List.getElem_toArray, List.getElem_cons_succ, List.getElem_cons_zero]
          go_simp
          with_reducible rfl
        rotate_left
        · simp only [Act.put, List.setIfInBounds_toArray, List.set_cons_zero, List.set_cons_succ, i64_w, i32_w]
          rfl
        refine pure_ (i := 2) (N := some 19) (v := ?_) (a' := ?_) #[true, true, true, false, false, false, false, false] rfl rfl (by kernel_rfl) (fun _ _ _ h => h) (Or.inl ⟨by rfl, ?_⟩) ?_ ?_
        rotate_left
        · intro w'
          try simp only [List.getElem_toArray, List.getElem_cons_succ, List.getElem_cons_zero]
          go_simp
          with_reducible rfl
        rotate_left
        · simp only [Act.put, List.setIfInBounds_toArray, List.set_cons_zero, List.set_cons_succ, i64_w, i32_w]
          rfl
        refine pure_ (i := 3) (N := some 20) (v := ?_) (a' := ?_) #[true, true, true, true, false, false, false, false] rfl rfl (by kernel_rfl) (fun _ _ _ h => h) (Or.inl ⟨by rfl, ?_⟩) ?_ ?_
        rotate_left
        · intro w'
          try simp only [List.getElem_toArray, List.getElem_cons_succ, List.getElem_cons_zero]
          go_simp
          with_reducible rfl
        rotate_left
        · simp only [Act.put, List.setIfInBounds_toArray, List.set_cons_zero, List.set_cons_succ, i64_w, i32_w]
          rfl
        refine pure_ (i := 5) (N := some 22) (v := ?_) (a' := ?_) #[true, true, true, true, false, true, false, false] rfl rfl (by kernel_rfl) (fun _ _ _ h => h) (Or.inl ⟨by rfl, ?_⟩) ?_ ?_
        rotate_left
        · intro w'
          try simp only [List.getElem_toArray, List.getElem_cons_succ, List.getElem_cons_zero]
          go_simp
          with_reducible rfl
        rotate_left
        · simp only [Act.put, List.setIfInBounds_toArray, List.set_cons_zero, List.set_cons_succ, i64_w, i32_w]
          rfl
        refine take_ (i := 4) (N := some 21) (v := ?_) (a' := ?_) #[true, true, true, true, true, true, false, false] rfl rfl (by kernel_rfl) (fun _ _ _ h => h) (Or.inl ⟨by rfl, ?_⟩) hHeld ?_ ?_
        rotate_left
        · rintro w' ⟨s0, s1⟩
          try simp only [List.getElem_toArray, List.getElem_cons_succ, List.getElem_cons_zero]
          go_simp
          with_reducible rfl
        rotate_left
        · simp only [Act.put, List.setIfInBounds_toArray, List.set_cons_zero, List.set_cons_succ, i64_w, i32_w]
          rfl
        refine take_ (i := 6) (N := some 23) (v := ?_) (a' := ?_) #[true, true, true, true, true, true, true, false] rfl rfl (by kernel_rfl) (fun _ _ _ h => h) (Or.inl ⟨by rfl, ?_⟩) hHeld ?_ ?_
        rotate_left
        · rintro w' ⟨s0, s1⟩
          try simp only [List.getElem_toArray, List.getElem_cons_succ, List.getElem_cons_zero]
          go_simp
          with_reducible rfl
        rotate_left
        · simp only [Act.put, List.setIfInBounds_toArray, List.set_cons_zero, List.set_cons_succ, i64_w, i32_w]
          rfl
        refine pure_ (i := 7) (N := some 24) (v := ?_) (a' := ?_) #[true, true, true, true, true, true, true, true] rfl rfl (by kernel_rfl) (fun _ _ _ h => h) (Or.inl ⟨by rfl, ?_⟩) ?_ ?_
        rotate_left
        · intro w'
          try simp only [List.getElem_toArray, List.getElem_cons_succ, List.getElem_cons_zero]
          go_simp
          with_reducible rfl
        rotate_left
        · simp only [Act.put, List.setIfInBounds_toArray, List.set_cons_zero, List.set_cons_succ, i64_w, i32_w]
          rfl
        refine done_ (by kernel_rfl) ?_

        go_wp2
        exact ⟨⟨k + 1, _, by omega, by go_num, rfl, by rw [HST.out, hst.out], by rw [HST.out, hst.out]; exact HD.out.still (Fr.refl _ wr).drew⟩, by simp [intOf]; omega⟩
      · have teq : (x.key == c.key) = false := by simpa using hke
        have HKE := Lib.hid hke
        clear hke
        cases laid with
        | true =>
          have hst : Hid (stepD c (xs, true) x = (xs ++ [x], true)) := Lib.hid (by unfold stepD; rw [if_neg HKE.out, if_neg (fun h => by have := h.1; simp at this)])
          have c0d : cellIn wr.heap[ab]? (off + k * 3) = some (.string SX) := c0
          go_wp2
          refine start_ (n := 8) (S := fun w' => cellIn w'.heap[ab]? (off + k * 3) = some (.string SX) ∧ w'.heap[cb]? = some (.cells #[.string SC, .string SV, .bool false] 72 (0, 0))) (ds := []) #[false, false, false, false, false, false, false, false] (by kernel_rfl) rfl rfl ⟨d0, dbx⟩ (fun hHeld => ?_)
          refine pure_ (i := 0) (N := some 17) (v := ?_) (a' := ?_) #[true, false, false, false, false, false, false, false] rfl rfl (by kernel_rfl) (fun _ _ _ h => h) (Or.inl ⟨by rfl, ?_⟩) ?_ ?_
          rotate_left
          · intro w'
            try simp only [List.getElem_toArray, List.getElem_cons_succ, List.getElem_cons_zero]
            go_simp
            with_reducible rfl
          rotate_left
          · simp only [Act.put, List.setIfInBounds_toArray, List.set_cons_zero, List.set_cons_succ, i64_w, i32_w]
            rfl
          refine pure_ (i := 1) (N := some 18) (v := ?_) (a' := ?_) #[true, true, false, false, false, false, false, false] rfl rfl (by kernel_rfl) (fun _ _ _ h => h) (Or.inl ⟨by rfl, ?_⟩) ?_ ?_
          rotate_left
          · intro w'
            try simp only [List.getElem_toArray, List.getElem_cons_succ, List.getElem_cons_zero]
            go_simp
            with_reducible rfl
          rotate_left
          · simp only [Act.put, List.setIfInBounds_toArray, List.set_cons_zero, List.set_cons_succ, i64_w, i32_w]
            rfl
          refine pure_ (i := 2) (N := some 19) (v := ?_) (a' := ?_) #[true, true, true, false, false, false, false, false] rfl rfl (by kernel_rfl) (fun _ _ _ h => h) (Or.inl ⟨by rfl, ?_⟩) ?_ ?_
          rotate_left
          · intro w'
            try simp only [List.getElem_toArray, List.getElem_cons_succ, List.getElem_cons_zero]
            go_simp
            with_reducible rfl
          rotate_left
          · simp only [Act.put, List.setIfInBounds_toArray, List.set_cons_zero, List.set_cons_succ, i64_w, i32_w]
            rfl
          refine pure_ (i := 3) (N := some 20) (v := ?_) (a' := ?_) #[true, true, true, true, false, false, false, false] rfl rfl (by kernel_rfl) (fun _ _ _ h => h) (Or.inl ⟨by rfl, ?_⟩) ?_ ?_
          rotate_left
          · intro w'
            try simp only [List.getElem_toArray, List.getElem_cons_succ, List.getElem_cons_zero]
            go_simp
            with_reducible rfl
          rotate_left
          · simp only [Act.put, List.setIfInBounds_toArray, List.set_cons_zero, List.set_cons_succ, i64_w, i32_w]
            rfl
          refine pure_ (i := 5) (N := some 22) (v := ?_) (a' := ?_) #[true, true, true, true, false, true, false, false] rfl rfl (by kernel_rfl) (fun _ _ _ h => h) (Or.inl ⟨by rfl, ?_⟩) ?_ ?_
          rotate_left
          · intro w'
            try simp only [List.getElem_toArray, List.getElem_cons_succ, List.getElem_cons_zero]
            go_simp
            with_reducible rfl
          rotate_left
          · simp only [Act.put, List.setIfInBounds_toArray, List.set_cons_zero, List.set_cons_succ, i64_w, i32_w]
            rfl
          refine take_ (i := 4) (N := some 21) (v := ?_) (a' := ?_) #[true, true, true, true, true, true, false, false] rfl rfl (by kernel_rfl) (fun _ _ _ h => h) (Or.inl ⟨by rfl, ?_⟩) hHeld ?_ ?_
          rotate_left
          · rintro w' ⟨s0, s1⟩
            try simp only [List.getElem_toArray, List.getElem_cons_succ, List.getElem_cons_zero]
            go_simp
            with_reducible rfl
          rotate_left
          · simp only [Act.put, List.setIfInBounds_toArray, List.set_cons_zero, List.set_cons_succ, i64_w, i32_w]
            rfl
          refine take_ (i := 6) (N := some 23) (v := ?_) (a' := ?_) #[true, true, true, true, true, true, true, false] rfl rfl (by kernel_rfl) (fun _ _ _ h => h) (Or.inl ⟨by rfl, ?_⟩) hHeld ?_ ?_
          rotate_left
          · rintro w' ⟨s0, s1⟩
            try simp only [List.getElem_toArray, List.getElem_cons_succ, List.getElem_cons_zero]
            go_simp
            with_reducible rfl
          rotate_left
          · simp only [Act.put, List.setIfInBounds_toArray, List.set_cons_zero, List.set_cons_succ, i64_w, i32_w]
            rfl
          refine pure_ (i := 7) (N := some 24) (v := ?_) (a' := ?_) #[true, true, true, true, true, true, true, true] rfl rfl (by kernel_rfl) (fun _ _ _ h => h) (Or.inl ⟨by rfl, ?_⟩) ?_ ?_
          rotate_left
          · intro w'
            try simp only [List.getElem_toArray, List.getElem_cons_succ, List.getElem_cons_zero]
            go_simp
            with_reducible rfl
          rotate_left
          · simp only [Act.put, List.setIfInBounds_toArray, List.set_cons_zero, List.set_cons_succ, i64_w, i32_w]
            rfl
          refine done_ (by kernel_rfl) ?_

          go_wp2
          refine start_ (n := 12) (S := fun w' => cellIn w'.heap[ab]? (off + k * 3) = some (.string SX) ∧ w'.heap[cb]? = some (.cells #[.string SC, .string SV, .bool false] 72 (0, 0))) (ds := []) #[false, false, false, false, false, false, false, false, false, false, false, false] (by kernel_rfl) rfl rfl ⟨d0, dbx⟩ (fun hHeld => ?_)
          refine pure_ (i := 0) (N := some 25) (v := ?_) (a' := ?_) #[true, false, false, false, false, false, false, false, false, false, false, false] rfl rfl (by kernel_rfl) (fun _ _ _ h => h) (Or.inl ⟨by rfl, ?_⟩) ?_ ?_
          rotate_left
          · intro w'
            try simp only [List.getElem_toArray, List.getElem_cons_succ, List.getElem_cons_zero]
            go_simp
            with_reducible rfl
          rotate_left
          · simp only [Act.put, List.setIfInBounds_toArray, List.set_cons_zero, List.set_cons_succ, i64_w, i32_w]
            rfl
          refine pure_ (i := 1) (N := some 26) (v := ?_) (a' := ?_) #[true, true, false, false, false, false, false, false, false, false, false, false] rfl rfl (by kernel_rfl) (fun _ _ _ h => h) (Or.inl ⟨by rfl, ?_⟩) ?_ ?_
          rotate_left
          · intro w'
            try simp only [List.getElem_toArray, List.getElem_cons_succ, List.getElem_cons_zero]
            go_simp
            with_reducible rfl
          rotate_left
          · simp only [Act.put, List.setIfInBounds_toArray, List.set_cons_zero, List.set_cons_succ, i64_w, i32_w]
            rfl
          refine pure_ (i := 2) (N := some 27) (v := ?_) (a' := ?_) #[true, true, true, false, false, false, false, false, false, false, false, false] rfl rfl (by kernel_rfl) (fun _ _ _ h => h) (Or.inl ⟨by rfl, ?_⟩) ?_ ?_
          rotate_left
          · intro w'
            try simp only [List.getElem_toArray, List.getElem_cons_succ, List.getElem_cons_zero]
            go_simp
            with_reducible rfl
          rotate_left
          · simp only [Act.put, List.setIfInBounds_toArray, List.set_cons_zero, List.set_cons_succ, i64_w, i32_w]
            rfl
          refine pure_ (i := 3) (N := some 28) (v := undef) (a' := ?_) #[true, true, true, true, false, false, false, false, false, false, false, false] rfl rfl (by kernel_rfl) (fun _ _ _ h => h) (Or.inr ⟨by rfl, rfl⟩) ?_ ?_
          rotate_left
          · simp only [Act.put, List.setIfInBounds_toArray, List.set_cons_zero, List.set_cons_succ, i64_w, i32_w]
            rfl
          refine pure_ (i := 4) (N := some 29) (v := undef) (a' := ?_) #[true, true, true, true, true, false, false, false, false, false, false, false] rfl rfl (by kernel_rfl) (fun _ _ _ h => h) (Or.inr ⟨by rfl, rfl⟩) ?_ ?_
          rotate_left
          · simp only [Act.put, List.setIfInBounds_toArray, List.set_cons_zero, List.set_cons_succ, i64_w, i32_w]
            rfl
          refine pure_ (i := 5) (N := some 30) (v := undef) (a' := ?_) #[true, true, true, true, true, true, false, false, false, false, false, false] rfl rfl (by kernel_rfl) (fun _ _ _ h => h) (Or.inr ⟨by rfl, rfl⟩) ?_ ?_
          rotate_left
          · simp only [Act.put, List.setIfInBounds_toArray, List.set_cons_zero, List.set_cons_succ, i64_w, i32_w]
            rfl
          refine pure_ (i := 6) (N := some 31) (v := undef) (a' := ?_) #[true, true, true, true, true, true, true, false, false, false, false, false] rfl rfl (by kernel_rfl) (fun _ _ _ h => h) (Or.inr ⟨by rfl, rfl⟩) ?_ ?_
          rotate_left
          · simp only [Act.put, List.setIfInBounds_toArray, List.set_cons_zero, List.set_cons_succ, i64_w, i32_w]
            rfl
          refine pure_ (i := 7) (N := some 32) (v := undef) (a' := ?_) #[true, true, true, true, true, true, true, true, false, false, false, false] rfl rfl (by kernel_rfl) (fun _ _ _ h => h) (Or.inr ⟨by rfl, rfl⟩) ?_ ?_
          rotate_left
          · simp only [Act.put, List.setIfInBounds_toArray, List.set_cons_zero, List.set_cons_succ, i64_w, i32_w]
            rfl
          refine pure_ (i := 8) (N := some 33) (v := undef) (a' := ?_) #[true, true, true, true, true, true, true, true, true, false, false, false] rfl rfl (by kernel_rfl) (fun _ _ _ h => h) (Or.inr ⟨by rfl, rfl⟩) ?_ ?_
          rotate_left
          · simp only [Act.put, List.setIfInBounds_toArray, List.set_cons_zero, List.set_cons_succ, i64_w, i32_w]
            rfl
          refine pure_ (i := 9) (N := some 34) (v := undef) (a' := ?_) #[true, true, true, true, true, true, true, true, true, true, false, false] rfl rfl (by kernel_rfl) (fun _ _ _ h => h) (Or.inr ⟨by rfl, rfl⟩) ?_ ?_
          rotate_left
          · simp only [Act.put, List.setIfInBounds_toArray, List.set_cons_zero, List.set_cons_succ, i64_w, i32_w]
            rfl
          refine pure_ (i := 10) (N := some 35) (v := undef) (a' := ?_) #[true, true, true, true, true, true, true, true, true, true, true, false] rfl rfl (by kernel_rfl) (fun _ _ _ h => h) (Or.inr ⟨by rfl, rfl⟩) ?_ ?_
          rotate_left
          · simp only [Act.put, List.setIfInBounds_toArray, List.set_cons_zero, List.set_cons_succ, i64_w, i32_w]
            rfl
          refine pure_ (i := 11) (N := some 36) (v := ?_) (a' := ?_) #[true, true, true, true, true, true, true, true, true, true, true, true] rfl rfl (by kernel_rfl) (fun _ _ _ h => h) (Or.inl ⟨by rfl, ?_⟩) ?_ ?_
          rotate_left
          · intro w'
            try simp only [List.getElem_toArray, List.getElem_cons_succ, List.getElem_cons_zero]
            go_simp
            with_reducible rfl
          rotate_left
          · simp only [Act.put, List.setIfInBounds_toArray, List.set_cons_zero, List.set_cons_succ, i64_w, i32_w]
            rfl
          refine done_ (by kernel_rfl) ?_

          go_wp2_with (first
            | (refine wpList_append_ref rfl (.tmp 41) (.tmp 46) rfl _ xs rfl (HD.out.own.fr (F := fun _ => False) (((Fr.refl _ wr).alloc _).drew).drew (fun _ _ h => h)) wr.heap.size 1 rfl x (by rw [hcc.out]; exact heap_alloc_at wr _) (by have := HXL.out; omega) ?_; intro v3 w3 own3 fr3 fresh3; have HD3 := Lib.hid (HD.out.push (((Fr.refl _ wr).alloc _).drew).drew own3 fr3 fresh3); obtain ⟨o3, c3, rfl⟩ := own3.slice; clear own3 fr3 fresh3))
          rw [List.length_append, List.length_singleton] at HD3
          exact ⟨⟨k + 1, _, by omega, by go_num, rfl, by rw [HST.out, hst.out], by rw [HST.out, hst.out]; exact HD3.out⟩, by simp [intOf]; omega⟩
        | false =>
          cases hlc : decide (Lib.compareBytes c.key x.key < 0) with
          | true =>
            have hlc' : Lib.compareBytes c.key x.key < 0 := by simpa using hlc
            have hst : Hid (stepD c (xs, false) x = (xs ++ [c0Of c, x], true)) := Lib.hid (by unfold stepD; rw [if_neg HKE.out, if_pos ⟨rfl, hlc'⟩])
            have hless : Op.bytesLess SC.toList SX.toList = true := by rw [ByteArray.toList_eq, ByteArray.toList_eq, hsc, hsx, less_cb]; exact hlc
            clear hlc hlc'
            go_wp2
            refine start_ (n := 8) (S := fun w' => cellIn w'.heap[ab]? (off + k * 3) = some (.string SX) ∧ w'.heap[cb]? = some (.cells #[.string SC, .string SV, .bool false] 72 (0, 0))) (ds := []) #[false, false, false, false, false, false, false, false] (by kernel_rfl) rfl rfl ⟨d0, dbx⟩ (fun hHeld => ?_)
            refine pure_ (i := 0) (N := some 17) (v := ?_) (a' := ?_) #[true, false, false, false, false, false, false, false] rfl rfl (by kernel_rfl) (fun _ _ _ h => h) (Or.inl ⟨by rfl, ?_⟩) ?_ ?_
            rotate_left
            · intro w'
              try simp only [List.getElem_toArray, List.getElem_cons_succ, List.getElem_cons_zero]
              go_simp
              with_reducible rfl
            rotate_left
            · simp only [Act.put, List.setIfInBounds_toArray, List.set_cons_zero, List.set_cons_succ, i64_w, i32_w]
              rfl
            refine pure_ (i := 1) (N := some 18) (v := ?_) (a' := ?_) #[true, true, false, false, false, false, false, false] rfl rfl (by kernel_rfl) (fun _ _ _ h => h) (Or.inl ⟨by rfl, ?_⟩) ?_ ?_
            rotate_left
            · intro w'
              try simp only [List.getElem_toArray, List.getElem_cons_succ, List.getElem_cons_zero]
              go_simp
              with_reducible rfl
            rotate_left
            · simp only [Act.put, List.setIfInBounds_toArray, List.set_cons_zero, List.set_cons_succ, i64_w, i32_w]
              rfl
            refine pure_ (i := 2) (N := some 19) (v := ?_) (a' := ?_) #[true, true, true, false, false, false, false, false] rfl rfl (by kernel_rfl) (fun _ _ _ h => h) (Or.inl ⟨by rfl, ?_⟩) ?_ ?_
            rotate_left
            · intro w'
              try simp only [List.getElem_toArray, List.getElem_cons_succ, List.getElem_cons_zero]
              go_simp
              with_reducible rfl
            rotate_left
            · simp only [Act.put, List.setIfInBounds_toArray, List.set_cons_zero, List.set_cons_succ, i64_w, i32_w]
              rfl
            refine pure_ (i := 3) (N := some 20) (v := ?_) (a' := ?_) #[true, true, true, true, false, false, false, false] rfl rfl (by kernel_rfl) (fun _ _ _ h => h) (Or.inl ⟨by rfl, ?_⟩) ?_ ?_
            rotate_left
            · intro w'
              try simp only [List.getElem_toArray, List.getElem_cons_succ, List.getElem_cons_zero]
              go_simp
              with_reducible rfl
            rotate_left
            · simp only [Act.put, List.setIfInBounds_toArray, List.set_cons_zero, List.set_cons_succ, i64_w, i32_w]
              rfl
            refine pure_ (i := 5) (N := some 22) (v := ?_) (a' := ?_) #[true, true, true, true, false, true, false, false] rfl rfl (by kernel_rfl) (fun _ _ _ h => h) (Or.inl ⟨by rfl, ?_⟩) ?_ ?_
            rotate_left
            · intro w'
              try simp only [List.getElem_toArray, List.getElem_cons_succ, List.getElem_cons_zero]
              go_simp
              with_reducible rfl
            rotate_left
            · simp only [Act.put, List.setIfInBounds_toArray, List.set_cons_zero, List.set_cons_succ, i64_w, i32_w]
              rfl
            refine take_ (i := 4) (N := some 21) (v := ?_) (a' := ?_) #[true, true, true, true, true, true, false, false] rfl rfl (by kernel_rfl) (fun _ _ _ h => h) (Or.inl ⟨by rfl, ?_⟩) hHeld ?_ ?_
            rotate_left
            · rintro w' ⟨s0, s1⟩
              try simp only [List.getElem_toArray, List.getElem_cons_succ, List.getElem_cons_zero]
              go_simp
              with_reducible rfl
            rotate_left
            · simp only [Act.put, List.setIfInBounds_toArray, List.set_cons_zero, List.set_cons_succ, i64_w, i32_w]
              rfl
            refine take_ (i := 6) (N := some 23) (v := ?_) (a' := ?_) #[true, true, true, true, true, true, true, false] rfl rfl (by kernel_rfl) (fun _ _ _ h => h) (Or.inl ⟨by rfl, ?_⟩) hHeld ?_ ?_
            rotate_left
            · rintro w' ⟨s0, s1⟩
              try simp only [List.getElem_toArray, List.getElem_cons_succ, List.getElem_cons_zero]
              go_simp
              with_reducible rfl
            rotate_left
            · simp only [Act.put, List.setIfInBounds_toArray, List.set_cons_zero, List.set_cons_succ, i64_w, i32_w]
              rfl
            refine pure_ (i := 7) (N := some 24) (v := ?_) (a' := ?_) #[true, true, true, true, true, true, true, true] rfl rfl (by kernel_rfl) (fun _ _ _ h => h) (Or.inl ⟨by rfl, ?_⟩) ?_ ?_
            rotate_left
            · intro w'
              try simp only [List.getElem_toArray, List.getElem_cons_succ, List.getElem_cons_zero]
              go_simp
              with_reducible rfl
            rotate_left
            · simp only [Act.put, List.setIfInBounds_toArray, List.set_cons_zero, List.set_cons_succ, i64_w, i32_w]
              rfl
            refine done_ (by kernel_rfl) ?_

            go_wp2
            refine start_ (n := 12) (S := fun w' => cellIn w'.heap[ab]? (off + k * 3) = some (.string SX) ∧ w'.heap[cb]? = some (.cells #[.string SC, .string SV, .bool false] 72 (0, 0))) (ds := []) #[false, false, false, false, false, false, false, false, false, false, false, false] (by kernel_rfl) rfl rfl ⟨d0, dbx⟩ (fun hHeld => ?_)
            refine pure_ (i := 0) (N := some 25) (v := ?_) (a' := ?_) #[true, false, false, false, false, false, false, false, false, false, false, false] rfl rfl (by kernel_rfl) (fun _ _ _ h => h) (Or.inl ⟨by rfl, ?_⟩) ?_ ?_
            rotate_left
            · intro w'
              try simp only [List.getElem_toArray, List.getElem_cons_succ, List.getElem_cons_zero]
              go_simp
              with_reducible rfl
            rotate_left
            · simp only [Act.put, List.setIfInBounds_toArray, List.set_cons_zero, List.set_cons_succ, i64_w, i32_w]
              rfl
            refine pure_ (i := 1) (N := some 26) (v := ?_) (a' := ?_) #[true, true, false, false, false, false, false, false, false, false, false, false] rfl rfl (by kernel_rfl) (fun _ _ _ h => h) (Or.inl ⟨by rfl, ?_⟩) ?_ ?_
            rotate_left
            · intro w'
              try simp only [List.getElem_toArray, List.getElem_cons_succ, List.getElem_cons_zero]
              go_simp
              with_reducible rfl
            rotate_left
            · simp only [Act.put, List.setIfInBounds_toArray, List.set_cons_zero, List.set_cons_succ, i64_w, i32_w]
              rfl
            refine pure_ (i := 2) (N := some 27) (v := ?_) (a' := ?_) #[true, true, true, false, false, false, false, false, false, false, false, false] rfl rfl (by kernel_rfl) (fun _ _ _ h => h) (Or.inl ⟨by rfl, ?_⟩) ?_ ?_
            rotate_left
            · intro w'
              try simp only [List.getElem_toArray, List.getElem_cons_succ, List.getElem_cons_zero]
              go_simp
              with_reducible rfl
            rotate_left
            · simp only [Act.put, List.setIfInBounds_toArray, List.set_cons_zero, List.set_cons_succ, i64_w, i32_w]
              rfl
            refine pure_ (i := 3) (N := some 28) (v := ?_) (a' := ?_) #[true, true, true, true, false, false, false, false, false, false, false, false] rfl rfl (by kernel_rfl) (fun _ _ _ h => h) (Or.inl ⟨by rfl, ?_⟩) ?_ ?_
            rotate_left
            · intro w'
              try simp only [List.getElem_toArray, List.getElem_cons_succ, List.getElem_cons_zero]
              go_simp
              with_reducible rfl
            rotate_left
            · simp only [Act.put, List.setIfInBounds_toArray, List.set_cons_zero, List.set_cons_succ, i64_w, i32_w]
              rfl
            refine pure_ (i := 5) (N := some 30) (v := ?_) (a' := ?_) #[true, true, true, true, false, true, false, false, false, false, false, false] rfl rfl (by kernel_rfl) (fun _ _ _ h => h) (Or.inl ⟨by rfl, ?_⟩) ?_ ?_
            rotate_left
            · intro w'
              try simp only [List.getElem_toArray, List.getElem_cons_succ, List.getElem_cons_zero]
              go_simp
              with_reducible rfl
            rotate_left
            · simp only [Act.put, List.setIfInBounds_toArray, List.set_cons_zero, List.set_cons_succ, i64_w, i32_w]
              rfl
            refine pure_ (i := 6) (N := some 31) (v := ?_) (a' := ?_) #[true, true, true, true, false, true, true, false, false, false, false, false] rfl rfl (by kernel_rfl) (fun _ _ _ h => h) (Or.inl ⟨by rfl, ?_⟩) ?_ ?_
            rotate_left
            · intro w'
              try simp only [List.getElem_toArray, List.getElem_cons_succ, List.getElem_cons_zero]
              go_simp
              with_reducible rfl
            rotate_left
            · simp only [Act.put, List.setIfInBounds_toArray, List.set_cons_zero, List.set_cons_succ, i64_w, i32_w]
              rfl
            refine pure_ (i := 7) (N := some 32) (v := ?_) (a' := ?_) #[true, true, true, true, false, true, true, true, false, false, false, false] rfl rfl (by kernel_rfl) (fun _ _ _ h => h) (Or.inl ⟨by rfl, ?_⟩) ?_ ?_
            rotate_left
            · intro w'
              try simp only [List.getElem_toArray, List.getElem_cons_succ, List.getElem_cons_zero]
              go_simp
              with_reducible rfl
            rotate_left
            · simp only [Act.put, List.setIfInBounds_toArray, List.set_cons_zero, List.set_cons_succ, i64_w, i32_w]
              rfl
            refine pure_ (i := 8) (N := some 33) (v := ?_) (a' := ?_) #[true, true, true, true, false, true, true, true, true, false, false, false] rfl rfl (by kernel_rfl) (fun _ _ _ h => h) (Or.inl ⟨by rfl, ?_⟩) ?_ ?_
            rotate_left
            · intro w'
              try simp only [List.getElem_toArray, List.getElem_cons_succ, List.getElem_cons_zero]
              go_simp
              with_reducible rfl
            rotate_left
            · simp only [Act.put, List.setIfInBounds_toArray, List.set_cons_zero, List.set_cons_succ, i64_w, i32_w]
              rfl
            refine take_ (i := 4) (N := some 29) (v := ?_) (a' := ?_) #[true, true, true, true, true, true, true, true, true, false, false, false] rfl rfl (by kernel_rfl) (fun _ _ _ h => h) (Or.inl ⟨by rfl, ?_⟩) hHeld ?_ ?_
            rotate_left
            · rintro w' ⟨s0, s1⟩
              try simp only [List.getElem_toArray, List.getElem_cons_succ, List.getElem_cons_zero]
              go_simp
              with_reducible rfl
            rotate_left
            · simp only [Act.put, List.setIfInBounds_toArray, List.set_cons_zero, List.set_cons_succ, i64_w, i32_w]
              rfl
            refine take_ (i := 9) (N := some 34) (v := ?_) (a' := ?_) #[true, true, true, true, true, true, true, true, true, true, false, false] rfl rfl (by kernel_rfl) (fun _ _ _ h => h) (Or.inl ⟨by rfl, ?_⟩) hHeld ?_ ?_
            rotate_left
            · rintro w' ⟨s0, s1⟩
              try simp only [List.getElem_toArray, List.getElem_cons_succ, List.getElem_cons_zero]
              go_simp
              with_reducible rfl
            rotate_left
            · simp only [Act.put, List.setIfInBounds_toArray, List.set_cons_zero, List.set_cons_succ, i64_w, i32_w]
              rfl
            refine pure_ (i := 10) (N := some 35) (v := ?_) (a' := ?_) #[true, true, true, true, true, true, true, true, true, true, true, false] rfl rfl (by kernel_rfl) (fun _ _ _ h => h) (Or.inl ⟨by rfl, ?_⟩) ?_ ?_
            rotate_left
            · intro w'
              try simp only [List.getElem_toArray, List.getElem_cons_succ, List.getElem_cons_zero]
              go_simp
              with_reducible rfl
            rotate_left
            · simp only [Act.put, List.setIfInBounds_toArray, List.set_cons_zero, List.set_cons_succ, i64_w, i32_w]
              rfl
            refine pure_ (i := 11) (N := some 36) (v := ?_) (a' := ?_) #[true, true, true, true, true, true, true, true, true, true, true, true] rfl rfl (by kernel_rfl) (fun _ _ _ h => h) (Or.inl ⟨by rfl, ?_⟩) ?_ ?_
            rotate_left
            · intro w'
              try simp only [List.getElem_toArray, List.getElem_cons_succ, List.getElem_cons_zero]
              go_simp
              with_reducible rfl
            rotate_left
            · simp only [Act.put, List.setIfInBounds_toArray, List.set_cons_zero, List.set_cons_succ, i64_w, i32_w]
              rfl
            refine done_ (by kernel_rfl) ?_

            have M1 : Hid True := Lib.hid trivial
            go_wp2_with (first
              | (clear M1; (refine wpList_append_ref rfl (.tmp 37) (.tmp 39) rfl _ xs rfl (HD.out.own.fr (F := fun _ => False) (((Fr.refl _ wr).alloc _).drew).drew (fun _ _ h => h)) wr.heap.size 1 rfl (c0Of c) (by rw [HC0.out]; exact heap_alloc_at wr _) (by have := HXL.out; omega) ?_; intro v3 w3 own3 fr3 fresh3; have HD3 := Lib.hid (HD.out.push (((Fr.refl _ wr).alloc _).drew).drew own3 fr3 fresh3); have e0 := HTR.out w3 HD3.out.fr _ _ HQ.out.1; have e1 := HTR.out w3 HD3.out.fr _ _ HQ.out.2.1; have e2 := HTR.out w3 HD3.out.fr _ _ HQ.out.2.2; obtain ⟨o3, c3, hv3⟩ := own3.slice; rw [List.length_append, List.length_singleton] at hv3; subst hv3; clear own3 fr3 fresh3))
              | (refine wpList_append_ref rfl (.tmp 41) (.tmp 46) rfl _ (xs ++ [c0Of c]) rfl (HD3.out.own.fr (F := fun _ => False) ((Fr.refl _ w3).alloc _) (fun _ _ h => h)) w3.heap.size 1 rfl x (by rw [hcc.out]; exact heap_alloc_at w3 _) (by have := HXL.out; rw [List.length_append, List.length_singleton]; omega) ?_; intro v4 w4 own4 fr4 fresh4; have HD4 := Lib.hid (HD3.out.push ((Fr.refl _ w3).alloc _) own4 fr4 fresh4); obtain ⟨o4, c4, hv4⟩ := own4.slice; rw [List.length_append, List.length_append, List.length_singleton, List.length_singleton] at hv4; subst hv4; clear own4 fr4 fresh4))
            exact ⟨⟨k + 1, _, by omega, by go_num, rfl, by rw [HST.out, hst.out], by rw [HST.out, hst.out]; simpa using HD4.out⟩, by simp [intOf]; omega⟩
          | false =>
            have hlc' : ¬ Lib.compareBytes c.key x.key < 0 := by simpa using hlc
            have hst : Hid (stepD c (xs, false) x = (xs ++ [x], false)) := Lib.hid (by unfold stepD; rw [if_neg HKE.out, if_neg (fun h => hlc' h.2)])
            have hless : Op.bytesLess SC.toList SX.toList = false := by rw [ByteArray.toList_eq, ByteArray.toList_eq, hsc, hsx, less_cb]; exact hlc
            clear hlc hlc'
            go_wp2
            refine start_ (n := 8) (S := fun w' => cellIn w'.heap[ab]? (off + k * 3) = some (.string SX) ∧ w'.heap[cb]? = some (.cells #[.string SC, .string SV, .bool false] 72 (0, 0))) (ds := []) #[false, false, false, false, false, false, false, false] (by kernel_rfl) rfl rfl ⟨d0, dbx⟩ (fun hHeld => ?_)
            refine pure_ (i := 0) (N := some 17) (v := ?_) (a' := ?_) #[true, false, false, false, false, false, false, false] rfl rfl (by kernel_rfl) (fun _ _ _ h => h) (Or.inl ⟨by rfl, ?_⟩) ?_ ?_
            rotate_left
            · intro w'
              try simp only [List.getElem_toArray, List.getElem_cons_succ, List.getElem_cons_zero]
              go_simp
              with_reducible rfl
            rotate_left
            · simp only [Act.put, List.setIfInBounds_toArray, List.set_cons_zero, List.set_cons_succ, i64_w, i32_w]
              rfl
            refine pure_ (i := 1) (N := some 18) (v := ?_) (a' := ?_) #[true, true, false, false, false, false, false, false] rfl rfl (by kernel_rfl) (fun _ _ _ h => h) (Or.inl ⟨by rfl, ?_⟩) ?_ ?_
            rotate_left
            · intro w'
              try simp only [List.getElem_toArray, List.getElem_cons_succ, List.getElem_cons_zero]
              go_simp
              with_reducible rfl
            rotate_left
            · simp only [Act.put, List.setIfInBounds_toArray, List.set_cons_zero, List.set_cons_succ, i64_w, i32_w]
              rfl
            refine pure_ (i := 2) (N := some 19) (v := ?_) (a' := ?_) #[true, true, true, false, false, false, false, false] rfl rfl (by kernel_rfl) (fun _ _ _ h => h) (Or.inl ⟨by rfl, ?_⟩) ?_ ?_
            rotate_left
            · intro w'
              try simp only [List.getElem_toArray, List.getElem_cons_succ, List.getElem_cons_zero]
              go_simp
              with_reducible rfl
            rotate_left
            · simp only [Act.put, List.setIfInBounds_toArray, List.set_cons_zero, List.set_cons_succ, i64_w, i32_w]
              rfl
            refine pure_ (i := 3) (N := some 20) (v := ?_) (a' := ?_) #[true, true, true, true, false, false, false, false] rfl rfl (by kernel_rfl) (fun _ _ _ h => h) (Or.inl ⟨by rfl, ?_⟩) ?_ ?_
            rotate_left
            · intro w'
              try simp only [List.getElem_toArray, List.getElem_cons_succ, List.getElem_cons_zero]
              go_simp
              with_reducible rfl
            rotate_left
            · simp only [Act.put, List.setIfInBounds_toArray, List.set_cons_zero, List.set_cons_succ, i64_w, i32_w]
              rfl
            refine pure_ (i := 5) (N := some 22) (v := ?_) (a' := ?_) #[true, true, true, true, false, true, false, false] rfl rfl (by kernel_rfl) (fun _ _ _ h => h) (Or.inl ⟨by rfl, ?_⟩) ?_ ?_
            rotate_left
            · intro w'
              try simp only [List.getElem_toArray, List.getElem_cons_succ, List.getElem_cons_zero]
              go_simp
              with_reducible rfl
            rotate_left
            · simp only [Act.put, List.setIfInBounds_toArray, List.set_cons_zero, List.set_cons_succ, i64_w, i32_w]
              rfl
            refine take_ (i := 4) (N := some 21) (v := ?_) (a' := ?_) #[true, true, true, true, true, true, false, false] rfl rfl (by kernel_rfl) (fun _ _ _ h => h) (Or.inl ⟨by rfl, ?_⟩) hHeld ?_ ?_
            rotate_left
            · rintro w' ⟨s0, s1⟩
              try simp only [List.getElem_toArray, List.getElem_cons_succ, List.getElem_cons_zero]
              go_simp
              with_reducible rfl
            rotate_left
            · simp only [Act.put, List.setIfInBounds_toArray, List.set_cons_zero, List.set_cons_succ, i64_w, i32_w]
              rfl
            refine take_ (i := 6) (N := some 23) (v := ?_) (a' := ?_) #[true, true, true, true, true, true, true, false] rfl rfl (by kernel_rfl) (fun _ _ _ h => h) (Or.inl ⟨by rfl, ?_⟩) hHeld ?_ ?_
            rotate_left
            · rintro w' ⟨s0, s1⟩
              try simp only [List.getElem_toArray, List.getElem_cons_succ, List.getElem_cons_zero]
              go_simp
              with_reducible rfl
            rotate_left
            · simp only [Act.put, List.setIfInBounds_toArray, List.set_cons_zero, List.set_cons_succ, i64_w, i32_w]
              rfl
            refine pure_ (i := 7) (N := some 24) (v := ?_) (a' := ?_) #[true, true, true, true, true, true, true, true] rfl rfl (by kernel_rfl) (fun _ _ _ h => h) (Or.inl ⟨by rfl, ?_⟩) ?_ ?_
            rotate_left
            · intro w'
              try simp only [List.getElem_toArray, List.getElem_cons_succ, List.getElem_cons_zero]
              go_simp
              with_reducible rfl
            rotate_left
            · simp only [Act.put, List.setIfInBounds_toArray, List.set_cons_zero, List.set_cons_succ, i64_w, i32_w]
              rfl
            refine done_ (by kernel_rfl) ?_

            go_wp2
            refine start_ (n := 12) (S := fun w' => cellIn w'.heap[ab]? (off + k * 3) = some (.string SX) ∧ w'.heap[cb]? = some (.cells #[.string SC, .string SV, .bool false] 72 (0, 0))) (ds := []) #[false, false, false, false, false, false, false, false, false, false, false, false] (by kernel_rfl) rfl rfl ⟨d0, dbx⟩ (fun hHeld => ?_)
            refine pure_ (i := 0) (N := some 25) (v := ?_) (a' := ?_) #[true, false, false, false, false, false, false, false, false, false, false, false] rfl rfl (by kernel_rfl) (fun _ _ _ h => h) (Or.inl ⟨by rfl, ?_⟩) ?_ ?_
            rotate_left
            · intro w'
              try simp only [List.getElem_toArray, List.getElem_cons_succ, List.getElem_cons_zero]
              go_simp
              with_reducible rfl
            rotate_left
            · simp only [Act.put, List.setIfInBounds_toArray, List.set_cons_zero, List.set_cons_succ, i64_w, i32_w]
              rfl
            refine pure_ (i := 1) (N := some 26) (v := ?_) (a' := ?_) #[true, true, false, false, false, false, false, false, false, false, false, false] rfl rfl (by kernel_rfl) (fun _ _ _ h => h) (Or.inl ⟨by rfl, ?_⟩) ?_ ?_
            rotate_left
            · intro w'
              try simp only [List.getElem_toArray, List.getElem_cons_succ, List.getElem_cons_zero]
              go_simp
              with_reducible rfl
            rotate_left
            · simp only [Act.put, List.setIfInBounds_toArray, List.set_cons_zero, List.set_cons_succ, i64_w, i32_w]
              rfl
            refine pure_ (i := 2) (N := some 27) (v := ?_) (a' := ?_) #[true, true, true, false, false, false, false, false, false, false, false, false] rfl rfl (by kernel_rfl) (fun _ _ _ h => h) (Or.inl ⟨by rfl, ?_⟩) ?_ ?_
            rotate_left
            · intro w'
              try simp only [List.getElem_toArray, List.getElem_cons_succ, List.getElem_cons_zero]
              go_simp
              with_reducible rfl
            rotate_left
            · simp only [Act.put, List.setIfInBounds_toArray, List.set_cons_zero, List.set_cons_succ, i64_w, i32_w]
              rfl
            refine pure_ (i := 3) (N := some 28) (v := ?_) (a' := ?_) #[true, true, true, true, false, false, false, false, false, false, false, false] rfl rfl (by kernel_rfl) (fun _ _ _ h => h) (Or.inl ⟨by rfl, ?_⟩) ?_ ?_
            rotate_left
            · intro w'
              try simp only [List.getElem_toArray, List.getElem_cons_succ, List.getElem_cons_zero]
              go_simp
              with_reducible rfl
            rotate_left
            · simp only [Act.put, List.setIfInBounds_toArray, List.set_cons_zero, List.set_cons_succ, i64_w, i32_w]
              rfl
            refine pure_ (i := 5) (N := some 30) (v := ?_) (a' := ?_) #[true, true, true, true, false, true, false, false, false, false, false, false] rfl rfl (by kernel_rfl) (fun _ _ _ h => h) (Or.inl ⟨by rfl, ?_⟩) ?_ ?_
            rotate_left
            · intro w'
              try simp only [List.getElem_toArray, List.getElem_cons_succ, List.getElem_cons_zero]
              go_simp
              with_reducible rfl
            rotate_left
            · simp only [Act.put, List.setIfInBounds_toArray, List.set_cons_zero, List.set_cons_succ, i64_w, i32_w]
              rfl
            refine pure_ (i := 6) (N := some 31) (v := ?_) (a' := ?_) #[true, true, true, true, false, true, true, false, false, false, false, false] rfl rfl (by kernel_rfl) (fun _ _ _ h => h) (Or.inl ⟨by rfl, ?_⟩) ?_ ?_
            rotate_left
            · intro w'
              try simp only [List.getElem_toArray, List.getElem_cons_succ, List.getElem_cons_zero]
              go_simp
              with_reducible rfl
            rotate_left
            · simp only [Act.put, List.setIfInBounds_toArray, List.set_cons_zero, List.set_cons_succ, i64_w, i32_w]
              rfl
            refine pure_ (i := 7) (N := some 32) (v := ?_) (a' := ?_) #[true, true, true, true, false, true, true, true, false, false, false, false] rfl rfl (by kernel_rfl) (fun _ _ _ h => h) (Or.inl ⟨by rfl, ?_⟩) ?_ ?_
            rotate_left
            · intro w'
              try simp only [List.getElem_toArray, List.getElem_cons_succ, List.getElem_cons_zero]
              go_simp
              with_reducible rfl
            rotate_left
            · simp only [Act.put, List.setIfInBounds_toArray, List.set_cons_zero, List.set_cons_succ, i64_w, i32_w]
              rfl
            refine pure_ (i := 8) (N := some 33) (v := ?_) (a' := ?_) #[true, true, true, true, false, true, true, true, true, false, false, false] rfl rfl (by kernel_rfl) (fun _ _ _ h => h) (Or.inl ⟨by rfl, ?_⟩) ?_ ?_
            rotate_left
            · intro w'
              try simp only [List.getElem_toArray, List.getElem_cons_succ, List.getElem_cons_zero]
              go_simp
              with_reducible rfl
            rotate_left
            · simp only [Act.put, List.setIfInBounds_toArray, List.set_cons_zero, List.set_cons_succ, i64_w, i32_w]
              rfl
            refine take_ (i := 4) (N := some 29) (v := ?_) (a' := ?_) #[true, true, true, true, true, true, true, true, true, false, false, false] rfl rfl (by kernel_rfl) (fun _ _ _ h => h) (Or.inl ⟨by rfl, ?_⟩) hHeld ?_ ?_
            rotate_left
            · rintro w' ⟨s0, s1⟩
              try simp only [List.getElem_toArray, List.getElem_cons_succ, List.getElem_cons_zero]
              go_simp
              with_reducible rfl
            rotate_left
            · simp only [Act.put, List.setIfInBounds_toArray, List.set_cons_zero, List.set_cons_succ, i64_w, i32_w]
              rfl
            refine take_ (i := 9) (N := some 34) (v := ?_) (a' := ?_) #[true, true, true, true, true, true, true, true, true, true, false, false] rfl rfl (by kernel_rfl) (fun _ _ _ h => h) (Or.inl ⟨by rfl, ?_⟩) hHeld ?_ ?_
            rotate_left
            · rintro w' ⟨s0, s1⟩
              try simp only [List.getElem_toArray, List.getElem_cons_succ, List.getElem_cons_zero]
              go_simp
              with_reducible rfl
            rotate_left
            · simp only [Act.put, List.setIfInBounds_toArray, List.set_cons_zero, List.set_cons_succ, i64_w, i32_w]
              rfl
            refine pure_ (i := 10) (N := some 35) (v := ?_) (a' := ?_) #[true, true, true, true, true, true, true, true, true, true, true, false] rfl rfl (by kernel_rfl) (fun _ _ _ h => h) (Or.inl ⟨by rfl, ?_⟩) ?_ ?_
            rotate_left
            · intro w'
              try simp only [List.getElem_toArray, List.getElem_cons_succ, List.getElem_cons_zero]
              go_simp
              with_reducible rfl
            rotate_left
            · simp only [Act.put, List.setIfInBounds_toArray, List.set_cons_zero, List.set_cons_succ, i64_w, i32_w]
              rfl
            refine pure_ (i := 11) (N := some 36) (v := ?_) (a' := ?_) #[true, true, true, true, true, true, true, true, true, true, true, true] rfl rfl (by kernel_rfl) (fun _ _ _ h => h) (Or.inl ⟨by rfl, ?_⟩) ?_ ?_
            rotate_left
            · intro w'
              try simp only [List.getElem_toArray, List.getElem_cons_succ, List.getElem_cons_zero]
              go_simp
              with_reducible rfl
            rotate_left
            · simp only [Act.put, List.setIfInBounds_toArray, List.set_cons_zero, List.set_cons_succ, i64_w, i32_w]
              rfl
            refine done_ (by kernel_rfl) ?_

            go_wp2_with (first
              | (refine wpList_append_ref rfl (.tmp 41) (.tmp 46) rfl _ xs rfl (HD.out.own.fr (F := fun _ => False) (((Fr.refl _ wr).alloc _).drew).drew (fun _ _ h => h)) wr.heap.size 1 rfl x (by rw [hcc.out]; exact heap_alloc_at wr _) (by have := HXL.out; omega) ?_; intro v3 w3 own3 fr3 fresh3; have HD3 := Lib.hid (HD.out.push (((Fr.refl _ wr).alloc _).drew).drew own3 fr3 fresh3); obtain ⟨o3, c3, rfl⟩ := own3.slice; clear own3 fr3 fresh3))
            rw [List.length_append, List.length_singleton] at HD3
            exact ⟨⟨k + 1, _, by omega, by go_num, rfl, by rw [HST.out, hst.out], by rw [HST.out, hst.out]; exact HD3.out⟩, by simp [intOf]; omega⟩
    · obtain rfl : k = L.length := by omega
      rw [List.take_length] at HD ⊢
      obtain ⟨oo, oc, hcur⟩ := HD.out.own.slice
      subst hcur
      have hbx := hd.box
      clear hd
      have hfin : doD L c = if (L.foldl (stepD c) ([], gn)).2 then (L.foldl (stepD c) ([], gn)).1 else (L.foldl (stepD c) ([], gn)).1 ++ [c0Of c] := by unfold doD; rw [HGN.out]
      have HFIN := Lib.hid hfin
      have HXL : Hid ((L.foldl (stepD c) ([], gn)).1.length ≤ 1099511627776 - 2) := Lib.hid (by
        have h1 := foldD_len c L ([], gn)
        have h3 := HLB.out
        simp only [List.length_nil, Nat.zero_add] at h1
        omega)
      clear hfin
      generalize L.foldl (stepD c) ([], gn) = st at *
      obtain ⟨xs, laid⟩ := st
      simp only at HXL HD HFIN ⊢
      cases laid with
      | true =>
        go_wp2
        go_ret
        exact ⟨_, rfl, by rw [HFIN.out]; exact HD.out.own, fun j hj => Nat.le_trans HFW.out.size (HD.out.new j hj), HFW.out.trans HD.out.fr (fun _ h => h.elim)⟩
      | false =>
        go_wp2_with (first
          | (refine wpList_append_ref rfl (.tmp 50) (.tmp 52) rfl _ xs rfl (HD.out.own.fr (F := fun _ => False) ((Fr.refl _ wr).alloc _) (fun _ _ h => h)) wr.heap.size 1 rfl (c0Of c) (by rw [HC0.out]; exact heap_alloc_at wr _) (by have := HXL.out; omega) ?_; intro v3 w3 own3 fr3 fresh3; have HD3 := Lib.hid (HD.out.push ((Fr.refl _ wr).alloc _) own3 fr3 fresh3); obtain ⟨o3, c3, hv3⟩ := own3.slice; rw [List.length_append, List.length_singleton] at hv3; subst hv3; clear own3 fr3 fresh3))
        go_ret
        exact ⟨_, rfl, by rw [HFIN.out, if_neg (by simp)]; exact HD3.out.own, fun j hj => Nat.le_trans HFW.out.size (HD3.out.new j hj), HFW.out.trans HD3.out.fr (fun _ h => h.elim)⟩
def AllPost (w : World) (l : List Chg) (e : Ending) (w' : World) : Prop := ∃ v, e = .returned v ∧ IsChg w' v l ∧ Fr (fun _ => False) w w'
theorem IsChg.slice {w : World} {v : Value} {l : List Chg} (h : IsChg w v l) : ∃ ao cap, v = .slice ao l.length cap := by
  obtain ⟨ao, cap, h, _⟩ := h.is
  exact ⟨ao, cap, h⟩
set_option maxRecDepth 100000 in
set_option maxHeartbeats 2000000 in
theorem all42 (v : Value) (l : List Chg) (w : World) (hv : IsChg w v l) (hl : l.length ≤ 274877906944) : Calls Try.prog 42 #[.slice none 0 0, v] w (AllPost w (applyAll [] l)) := by
  obtain ⟨ao, cap, rfl, k1, k2, _⟩ := hv.is
  have HV := Lib.hid hv; have HLB := Lib.hid hl; have HK := Lib.hid (And.intro k1 k2)
  clear hv hl k1 k2
  go_enter Try.func42, Try.ntmps42
  go_wp2
  go_loopw [5, 6] (fun cu i wr => ∃ (k : Nat) (cur : Value), k ≤ l.length ∧ i = .int .i64 k ∧ cur = cu ∧ IsChg wr cur (applyAll [] (l.take k)) ∧ Fr (fun _ => False) w wr) (fun _ i _ => l.length - (intOf i).toNat)
  case atStart => exact ⟨0, _, Nat.zero_le _, rfl, rfl, (OwnRef.nil _).chg, Fr.refl _ w⟩
  case round =>
    obtain ⟨k, cur, hk, rfl, rfl, hc, hf⟩ := hrel
    have HC := Lib.hid hc; have HF := Lib.hid hf
    by_cases hlt : k < l.length
    · have hw1 : IntKind.i64.wrap ((k : Int) + 1) = (k : Int) + 1 := IntWalk.i64_in _ (by have := HLB.out; omega)
      have t1 : decide ((k : Int) < (l.length : Int)) = true := by simp; omega
      have t1n : decide (k < l.length) = true := by simp; omega
      have hkI : (k : Int) < (l.length : Int) := by omega
      obtain ⟨ab, off, rfl, c0, c1, c2⟩ := (HV.out.fr hf (fun _ _ h => h)).at k hlt
      have hr : Rising (applyAll [] (l.take k)) := Rising.nil.all _
      have hlen : (applyAll [] (l.take k)).length ≤ 274877906944 := by
        have h1 := applyAll_length [] (l.take k)
        have h2 : (l.take k).length ≤ l.length := by rw [List.length_take]; omega
        have h3 := HLB.out
        simp only [List.length_nil, Nat.zero_add] at h1
        omega
      have HST : Hid (applyAll [] (l.take (k + 1)) = applyOne (applyAll [] (l.take k)) l[k]) := Lib.hid (by rw [List.take_succ_eq_append_getElem hlt, applyAll_snoc])
      obtain ⟨oo, oc, rfl⟩ := hc.slice
      generalize applyAll [] (l.take k) = P at *
      generalize l[k] = c at *
      have HDO : Hid (Calls Try.prog 79 #[.slice oo P.length oc, .agg #[.string ⟨c.key.toArray⟩, .string ⟨c.val.toArray⟩, .bool c.gone]] wr (RefPost wr (applyOne P c))) := Lib.hid (by rw [← doD_eq hr]; exact do79 _ P c wr HC.out hlen)
      unfold str at c0 c1
      generalize (⟨c.key.toArray⟩ : ByteArray) = S1 at *
      generalize (⟨c.val.toArray⟩ : ByteArray) = S2 at *
      generalize applyOne P c = Q at *
      clear hc hf hr hlen
      go_wp2_with (go_at_call 79; go_loud (refine HDO.out.mono ?_; rintro e w3 ⟨v3, rfl, o3, n3, f3⟩; have HO3 := Lib.hid o3.chg; have HF3 := Lib.hid (HF.out.trans f3 (fun _ h => h.elim)); obtain ⟨o3', c3', rfl⟩ := o3.slice; clear o3 n3 f3))
      exact ⟨⟨k + 1, _, by omega, by go_num, rfl, by rw [HST.out]; exact HO3.out, HF3.out⟩, by simp [intOf]; omega⟩
    · obtain rfl : k = l.length := by omega
      rw [List.take_length] at HC
      obtain ⟨oo, oc, hcur⟩ := HC.out.slice
      subst hcur
      clear hc hf
      go_wp2
      go_ret
      exact ⟨_, rfl, HC.out, HF.out⟩
end Go.Proofs.Ytnpeeephkkmomaa
namespace Go.Proofs.Ytnpeeephkkmomaa
open Go.RowKit Go.Proofs.YtnpeeephkkmomaaW.PrintLast
set_option linter.unusedVariables false
set_option linter.unusedSimpArgs false

/-- Some bytes of one's own, so many. -/
structure LenAt (w : World) (v : Value) (d : List UInt8) (wr : World) : Prop where
  own : Buf wr v d
  new : ∀ j, v.ownBlock = some j → w.heap.size ≤ j
  fr : Fr (fun _ => False) w wr
def LenPost (w : World) (m : Nat) (e : Ending) (w' : World) : Prop := ∃ v d, e = .returned v ∧ LenAt w v d w' ∧ d.length = m
theorem LenAt.push {w wr w2 w' : World} {v v' : Value} {d x : List UInt8} (h : LenAt w v d wr) (f2 : Fr (fun _ => False) wr w2) (ho : Buf w' v' (d ++ x)) (hf : Fr (fun k => v.ownBlock = some k) w2 w') (hn : v'.ownBlock = v.ownBlock ∨ v'.ownBlock = some w2.heap.size) : LenAt w v' (d ++ x) w' := by
  refine ⟨ho, fun j hj => ?_, (h.fr.trans f2 (fun _ h => h.elim)).trans hf (fun j hj => .inr (h.new j hj))⟩
  rcases hn with e | e
  · exact h.new j (e.symm.trans hj)
  · rw [e] at hj; cases hj; exact Nat.le_trans h.fr.size f2.size
theorem byte_is (Y : Int) (g : Nat) (W : World) (h : W.heap[g]? = some (.cells #[.int .u8 (Y % 256)] 5 (0, 0))) : IsBytes W (.slice (some ⟨g, 0, none⟩) 1 1) [UInt8.ofNat (Y % 256).toNat] := by
  have h1 := Int.emod_lt_of_pos Y (show (0 : Int) < 256 by decide)
  have h0 := Int.emod_nonneg Y (show (256 : Int) ≠ 0 by decide)
  have e : (((UInt8.ofNat (Y % 256).toNat).toNat : Nat) : Int) = Y % 256 := by rw [UInt8.toNat_ofNat']; omega
  exact IsBytes.of_cells (l := [UInt8.ofNat (Y % 256).toNat]) (T := 5) (fr := (0, 0)) (by rw [h]; simp only [Bs, List.map_cons, List.map_nil, e]) (by simp)
set_option maxRecDepth 100000 in
set_option maxHeartbeats 2000000 in
theorem digits76 (n : Int) (w : World) : Calls Try.prog 76 #[.int .i64 n] w (LenPost w 8) := by
  go_enter Try.func76, Try.ntmps76
  go_wp2
  go_loopw [3, 4] (fun cu i wr => ∃ (k : Nat) (cur : Value) (d : List UInt8), k ≤ 8 ∧ i = .int .i64 k ∧ cur = cu ∧ LenAt w cur d wr ∧ d.length = k) (fun _ i _ => 8 - (intOf i).toNat)
  case atStart => exact ⟨0, _, [], by omega, rfl, rfl, ⟨Buf.nil w, by simp [Value.ownBlock], Fr.refl _ w⟩, rfl⟩
  case round =>
    obtain ⟨k, cur, d, hk, rfl, rfl, hd, hl⟩ := hrel
    have HD := Lib.hid hd; have HL := Lib.hid hl
    by_cases hlt : k < 8
    · obtain ⟨oo, oc, hcur⟩ := hd.own.slice
      rw [hl] at hcur
      subst hcur
      clear hd hl
      have HBY := Lib.hid byte_is
      have hcase : k = 0 ∨ k = 1 ∨ k = 2 ∨ k = 3 ∨ k = 4 ∨ k = 5 ∨ k = 6 ∨ k = 7 := by omega
      rcases hcase with rfl | rfl | rfl | rfl | rfl | rfl | rfl | rfl
      · go_wp2_with (first
          | (refine wpList_append_bytes rfl (.tmp 9) (.tmp 18) rfl _ d rfl (HD.out.own.fr (F := fun _ => False) ((Fr.refl _ wr).alloc _) (fun _ _ h => h)) _ [UInt8.ofNat ((IntKind.u64.wrap n / 72057594037927936) % 256).toNat] rfl (byte_is (IntKind.u64.wrap n / 72057594037927936) wr.heap.size _ (by exact heap_alloc_at wr _)) (Room.of_small' (by have := HL.out; simp; omega)) ?_; intro v3 w3 own3 fr3 fresh3; have HD3 := Lib.hid (HD.out.push ((Fr.refl _ wr).alloc _) own3 fr3 fresh3); have HL3 : Hid ((d ++ [UInt8.ofNat ((IntKind.u64.wrap n / 72057594037927936) % 256).toNat]).length = 1) := Lib.hid (by rw [List.length_append, List.length_singleton, HL.out]); obtain ⟨o3, c3, hv3⟩ := own3.slice; rw [List.length_append, List.length_singleton, HL.out] at hv3; subst hv3; clear own3 fr3 fresh3))
        exact ⟨⟨_, _, _, by omega, by go_num, rfl, HD3.out, HL3.out⟩, by simp [intOf]⟩
      · go_wp2_with (first
          | (refine wpList_append_bytes rfl (.tmp 9) (.tmp 18) rfl _ d rfl (HD.out.own.fr (F := fun _ => False) ((Fr.refl _ wr).alloc _) (fun _ _ h => h)) _ [UInt8.ofNat ((IntKind.u64.wrap n / 281474976710656) % 256).toNat] rfl (byte_is (IntKind.u64.wrap n / 281474976710656) wr.heap.size _ (by exact heap_alloc_at wr _)) (Room.of_small' (by have := HL.out; simp; omega)) ?_; intro v3 w3 own3 fr3 fresh3; have HD3 := Lib.hid (HD.out.push ((Fr.refl _ wr).alloc _) own3 fr3 fresh3); have HL3 : Hid ((d ++ [UInt8.ofNat ((IntKind.u64.wrap n / 281474976710656) % 256).toNat]).length = 2) := Lib.hid (by rw [List.length_append, List.length_singleton, HL.out]); obtain ⟨o3, c3, hv3⟩ := own3.slice; rw [List.length_append, List.length_singleton, HL.out] at hv3; subst hv3; clear own3 fr3 fresh3))
        exact ⟨⟨_, _, _, by omega, by go_num, rfl, HD3.out, HL3.out⟩, by simp [intOf]⟩
      · go_wp2_with (first
          | (refine wpList_append_bytes rfl (.tmp 9) (.tmp 18) rfl _ d rfl (HD.out.own.fr (F := fun _ => False) ((Fr.refl _ wr).alloc _) (fun _ _ h => h)) _ [UInt8.ofNat ((IntKind.u64.wrap n / 1099511627776) % 256).toNat] rfl (byte_is (IntKind.u64.wrap n / 1099511627776) wr.heap.size _ (by exact heap_alloc_at wr _)) (Room.of_small' (by have := HL.out; simp; omega)) ?_; intro v3 w3 own3 fr3 fresh3; have HD3 := Lib.hid (HD.out.push ((Fr.refl _ wr).alloc _) own3 fr3 fresh3); have HL3 : Hid ((d ++ [UInt8.ofNat ((IntKind.u64.wrap n / 1099511627776) % 256).toNat]).length = 3) := Lib.hid (by rw [List.length_append, List.length_singleton, HL.out]); obtain ⟨o3, c3, hv3⟩ := own3.slice; rw [List.length_append, List.length_singleton, HL.out] at hv3; subst hv3; clear own3 fr3 fresh3))
        exact ⟨⟨_, _, _, by omega, by go_num, rfl, HD3.out, HL3.out⟩, by simp [intOf]⟩
      · go_wp2_with (first
          | (refine wpList_append_bytes rfl (.tmp 9) (.tmp 18) rfl _ d rfl (HD.out.own.fr (F := fun _ => False) ((Fr.refl _ wr).alloc _) (fun _ _ h => h)) _ [UInt8.ofNat ((IntKind.u64.wrap n / 4294967296) % 256).toNat] rfl (byte_is (IntKind.u64.wrap n / 4294967296) wr.heap.size _ (by exact heap_alloc_at wr _)) (Room.of_small' (by have := HL.out; simp; omega)) ?_; intro v3 w3 own3 fr3 fresh3; have HD3 := Lib.hid (HD.out.push ((Fr.refl _ wr).alloc _) own3 fr3 fresh3); have HL3 : Hid ((d ++ [UInt8.ofNat ((IntKind.u64.wrap n / 4294967296) % 256).toNat]).length = 4) := Lib.hid (by rw [List.length_append, List.length_singleton, HL.out]); obtain ⟨o3, c3, hv3⟩ := own3.slice; rw [List.length_append, List.length_singleton, HL.out] at hv3; subst hv3; clear own3 fr3 fresh3))
        exact ⟨⟨_, _, _, by omega, by go_num, rfl, HD3.out, HL3.out⟩, by simp [intOf]⟩
      · go_wp2_with (first
          | (refine wpList_append_bytes rfl (.tmp 9) (.tmp 18) rfl _ d rfl (HD.out.own.fr (F := fun _ => False) ((Fr.refl _ wr).alloc _) (fun _ _ h => h)) _ [UInt8.ofNat ((IntKind.u64.wrap n / 16777216) % 256).toNat] rfl (byte_is (IntKind.u64.wrap n / 16777216) wr.heap.size _ (by exact heap_alloc_at wr _)) (Room.of_small' (by have := HL.out; simp; omega)) ?_; intro v3 w3 own3 fr3 fresh3; have HD3 := Lib.hid (HD.out.push ((Fr.refl _ wr).alloc _) own3 fr3 fresh3); have HL3 : Hid ((d ++ [UInt8.ofNat ((IntKind.u64.wrap n / 16777216) % 256).toNat]).length = 5) := Lib.hid (by rw [List.length_append, List.length_singleton, HL.out]); obtain ⟨o3, c3, hv3⟩ := own3.slice; rw [List.length_append, List.length_singleton, HL.out] at hv3; subst hv3; clear own3 fr3 fresh3))
        exact ⟨⟨_, _, _, by omega, by go_num, rfl, HD3.out, HL3.out⟩, by simp [intOf]⟩
      · go_wp2_with (first
          | (refine wpList_append_bytes rfl (.tmp 9) (.tmp 18) rfl _ d rfl (HD.out.own.fr (F := fun _ => False) ((Fr.refl _ wr).alloc _) (fun _ _ h => h)) _ [UInt8.ofNat ((IntKind.u64.wrap n / 65536) % 256).toNat] rfl (byte_is (IntKind.u64.wrap n / 65536) wr.heap.size _ (by exact heap_alloc_at wr _)) (Room.of_small' (by have := HL.out; simp; omega)) ?_; intro v3 w3 own3 fr3 fresh3; have HD3 := Lib.hid (HD.out.push ((Fr.refl _ wr).alloc _) own3 fr3 fresh3); have HL3 : Hid ((d ++ [UInt8.ofNat ((IntKind.u64.wrap n / 65536) % 256).toNat]).length = 6) := Lib.hid (by rw [List.length_append, List.length_singleton, HL.out]); obtain ⟨o3, c3, hv3⟩ := own3.slice; rw [List.length_append, List.length_singleton, HL.out] at hv3; subst hv3; clear own3 fr3 fresh3))
        exact ⟨⟨_, _, _, by omega, by go_num, rfl, HD3.out, HL3.out⟩, by simp [intOf]⟩
      · go_wp2_with (first
          | (refine wpList_append_bytes rfl (.tmp 9) (.tmp 18) rfl _ d rfl (HD.out.own.fr (F := fun _ => False) ((Fr.refl _ wr).alloc _) (fun _ _ h => h)) _ [UInt8.ofNat ((IntKind.u64.wrap n / 256) % 256).toNat] rfl (byte_is (IntKind.u64.wrap n / 256) wr.heap.size _ (by exact heap_alloc_at wr _)) (Room.of_small' (by have := HL.out; simp; omega)) ?_; intro v3 w3 own3 fr3 fresh3; have HD3 := Lib.hid (HD.out.push ((Fr.refl _ wr).alloc _) own3 fr3 fresh3); have HL3 : Hid ((d ++ [UInt8.ofNat ((IntKind.u64.wrap n / 256) % 256).toNat]).length = 7) := Lib.hid (by rw [List.length_append, List.length_singleton, HL.out]); obtain ⟨o3, c3, hv3⟩ := own3.slice; rw [List.length_append, List.length_singleton, HL.out] at hv3; subst hv3; clear own3 fr3 fresh3))
        exact ⟨⟨_, _, _, by omega, by go_num, rfl, HD3.out, HL3.out⟩, by simp [intOf]⟩
      · go_wp2_with (first
          | (refine wpList_append_bytes rfl (.tmp 9) (.tmp 18) rfl _ d rfl (HD.out.own.fr (F := fun _ => False) ((Fr.refl _ wr).alloc _) (fun _ _ h => h)) _ [UInt8.ofNat ((IntKind.u64.wrap n) % 256).toNat] rfl (byte_is (IntKind.u64.wrap n) wr.heap.size _ (by exact heap_alloc_at wr _)) (Room.of_small' (by have := HL.out; simp; omega)) ?_; intro v3 w3 own3 fr3 fresh3; have HD3 := Lib.hid (HD.out.push ((Fr.refl _ wr).alloc _) own3 fr3 fresh3); have HL3 : Hid ((d ++ [UInt8.ofNat ((IntKind.u64.wrap n) % 256).toNat]).length = 8) := Lib.hid (by rw [List.length_append, List.length_singleton, HL.out]); obtain ⟨o3, c3, hv3⟩ := own3.slice; rw [List.length_append, List.length_singleton, HL.out] at hv3; subst hv3; clear own3 fr3 fresh3))
        exact ⟨⟨_, _, _, by omega, by go_num, rfl, HD3.out, HL3.out⟩, by simp [intOf]⟩
    · obtain rfl : k = 8 := by omega
      obtain ⟨oo, oc, hcur⟩ := hd.own.slice
      rw [hl] at hcur
      subst hcur
      clear hd hl
      go_wp2
      go_ret
      exact ⟨_, d, rfl, HD.out, HL.out⟩
theorem LenAt.nil (w : World) : LenAt w (.slice none 0 0) [] w := ⟨Buf.nil w, by simp [Value.ownBlock], Fr.refl _ w⟩
theorem LenAt.still {w wr w' : World} {v : Value} {d : List UInt8} (h : LenAt w v d wr) (f : Fr (fun _ => False) wr w') : LenAt w v d w' := ⟨h.own.fr f (fun _ _ h => h), h.new, h.fr.trans f (fun _ h => h.elim)⟩
theorem LenAt.slice {w wr : World} {v : Value} {d : List UInt8} (h : LenAt w v d wr) : ∃ ao cap, v = .slice ao d.length cap := h.own.slice
set_option maxRecDepth 100000 in
set_option maxHeartbeats 1000000 in
theorem int101 (n : Int) (w : World) : Calls Try.prog 101 #[.slice none 0 0, .int .i64 n] w (LenPost w 8) := by
  have M1 : Hid True := Lib.hid trivial
  go_enter Try.func101, Try.ntmps101
  go_wp2_with (first
    | (go_at_call 76; refine (digits76 n _).mono ?_; rintro e w2 ⟨v2, d2, rfl, h2, hl2⟩; have HD2 := Lib.hid h2; have HL2 := Lib.hid hl2; obtain ⟨o2, c2, hv2⟩ := h2.slice; rw [hl2] at hv2; subst hv2; clear h2 hl2)
    | (clear M1; refine wpList_append_bytes rfl (.tmp 6) (.tmp 7) rfl _ [] rfl (Buf.nil w) _ [] rfl (IsBytes.nil w) (Room.of_small' (by simp)) ?_; intro v1 w1 own1 fr1 fresh1; have HA1 := Lib.hid ((LenAt.nil w).push (Fr.refl _ w) own1 fr1 fresh1); obtain ⟨o1, c1, hv1⟩ := own1.slice; rw [List.append_nil] at hv1 HA1; subst hv1; clear own1 fr1 fresh1)
    | (refine wpList_append_bytes rfl (.tmp 9) (.tmp 11) rfl _ [] rfl (HA1.out.still HD2.out.fr).own _ d2 rfl HD2.out.own.bytes (Room.of_small' (by rw [HL2.out]; simp)) ?_; intro v3 w3 own3 fr3 fresh3; have HA3 := Lib.hid (HA1.out.push HD2.out.fr own3 fr3 fresh3); clear own3 fr3 fresh3))
  go_ret
  exact ⟨v3, _, rfl, HA3.out, by rw [List.nil_append]; exact HL2.out⟩
set_option maxRecDepth 100000 in
set_option maxHeartbeats 1000000 in
theorem text77 (s : List UInt8) (hs : s.length ≤ 70368744177664) (w : World) : Calls Try.prog 77 #[.slice none 0 0, str s] w (LenPost w (8 + s.length)) := by
  have HS := Lib.hid hs
  unfold str
  have hsz := size_str s
  obtain ⟨S, hS⟩ : ∃ S : ByteArray, S = ⟨s.toArray⟩ := ⟨_, rfl⟩
  rw [← hS] at hsz ⊢
  have hsv : Hid (Value.string S = str s) := Lib.hid (by rw [hS]; rfl)
  clear hS hs
  go_enter Try.func77, Try.ntmps77
  go_wp2_with (first
    | (go_at_call 101; refine (int101 _ w).mono ?_; rintro e w2 ⟨v2, d2, rfl, h2, hl2⟩; have HD2 := Lib.hid h2; have HL2 := Lib.hid hl2; obtain ⟨o2, c2, hv2⟩ := h2.slice; rw [hl2] at hv2; subst hv2; clear h2 hl2)
    | (refine wpList_append_str rfl (.tmp 8) (.tmp 9) rfl _ d2 rfl HD2.out.own s hsv.out (by have := HS.out; rw [HL2.out]; omega) ?_; intro v5 w5 own5 fr5 fresh5; have HA5 := Lib.hid (HD2.out.push (Fr.refl _ w2) own5 fr5 fresh5); clear own5 fr5 fresh5))
  go_ret
  exact ⟨v5, _, rfl, HA5.out, by rw [List.length_append, HL2.out]⟩
set_option maxRecDepth 100000 in
set_option maxHeartbeats 1000000 in
theorem bool78 (x : Bool) (w : World) : Calls Try.prog 78 #[.slice none 0 0, .bool x] w (LenPost w 1) := by
  cases x with
  | true =>
    have M1 : Hid True := Lib.hid trivial
    go_enter Try.func78, Try.ntmps78
    go_wp2_with (first
      | (clear M1; refine wpList_append_bytes rfl (.tmp 6) (.tmp 7) rfl _ [] rfl (Buf.nil w) _ [] rfl (IsBytes.nil w) (Room.of_small' (by simp)) ?_; intro v1 w1 own1 fr1 fresh1; have HA1 := Lib.hid ((LenAt.nil w).push (Fr.refl _ w) own1 fr1 fresh1); obtain ⟨o1, c1, hv1⟩ := own1.slice; rw [List.append_nil] at hv1 HA1; subst hv1; clear own1 fr1 fresh1)
      | (refine wpList_append_bytes rfl (.tmp 10) (.tmp 11) rfl _ [] rfl (HA1.out.still ((Fr.refl _ w1).alloc _)).own _ [1] rfl (IsBytes.of_cells (l := [1]) (T := 5) (fr := (0, 0)) (by exact heap_alloc_at w1 _) (by simp)) (Room.of_small' (by simp)) ?_; intro v3 w3 own3 fr3 fresh3; have HA3 := Lib.hid (HA1.out.push ((Fr.refl _ w1).alloc _) own3 fr3 fresh3); clear own3 fr3 fresh3))
    go_ret
    exact ⟨v3, _, rfl, HA3.out, rfl⟩
  | false =>
    have M1 : Hid True := Lib.hid trivial
    go_enter Try.func78, Try.ntmps78
    go_wp2_with (first
      | (clear M1; refine wpList_append_bytes rfl (.tmp 6) (.tmp 7) rfl _ [] rfl (Buf.nil w) _ [] rfl (IsBytes.nil w) (Room.of_small' (by simp)) ?_; intro v1 w1 own1 fr1 fresh1; have HA1 := Lib.hid ((LenAt.nil w).push (Fr.refl _ w) own1 fr1 fresh1); obtain ⟨o1, c1, hv1⟩ := own1.slice; rw [List.append_nil] at hv1 HA1; subst hv1; clear own1 fr1 fresh1)
      | (refine wpList_append_bytes rfl (.tmp 13) (.tmp 14) rfl _ [] rfl (HA1.out.still ((Fr.refl _ w1).alloc _)).own _ [0] rfl (IsBytes.of_cells (l := [0]) (T := 5) (fr := (0, 0)) (by exact heap_alloc_at w1 _) (by simp)) (Room.of_small' (by simp)) ?_; intro v3 w3 own3 fr3 fresh3; have HA3 := Lib.hid (HA1.out.push ((Fr.refl _ w1).alloc _) own3 fr3 fresh3); clear own3 fr3 fresh3))
    go_ret
    exact ⟨v3, _, rfl, HA3.out, rfl⟩
def BytPost (w : World) (m : Nat) (e : Ending) (w' : World) : Prop := ∃ ao c, e = .returned (.slice ao m c) ∧ Fr (fun _ => False) w w'
set_option maxRecDepth 100000 in
set_option maxHeartbeats 4000000 in
theorem bytes41 (v : Value) (l : List Chg) (w : World) (hv : IsChg w v l) (hn : encN l ≤ 549755813888) : Calls Try.prog 41 #[v] w (BytPost w (encBytes l).length) := by
  obtain ⟨ao, cap, rfl, k1, k2, _⟩ := hv.is
  have HV := Lib.hid hv; have HN := Lib.hid hn; have HK := Lib.hid (And.intro k1 k2)
  have hlb : l.length ≤ 549755813888 := by have h1 := encAll_min l; have h2 := encAll_length l; omega
  have HLB := Lib.hid hlb
  clear hv hn k1 k2 hlb
  go_enter Try.func41, Try.ntmps41
  go_wp2_with (go_at_call 76; refine (digits76 _ w).mono ?_; rintro e w2 ⟨v2, d2, rfl, h2, hl2⟩; have HD2 := Lib.hid h2; have HL2 := Lib.hid hl2; obtain ⟨o2, c2, hv2⟩ := h2.slice; rw [hl2] at hv2; subst hv2; clear h2 hl2)
  go_loopw [3, 4] (fun cu i wr => ∃ (k : Nat) (cur : Value) (d : List UInt8), k ≤ l.length ∧ i = .int .i64 k ∧ cur = cu ∧ LenAt w cur d wr ∧ d.length = 8 + (encAll (l.take k)).length) (fun _ i _ => l.length - (intOf i).toNat)
  case atStart => exact ⟨0, _, d2, Nat.zero_le _, rfl, rfl, HD2.out, by rw [HL2.out]; simp [encAll]⟩
  case round =>
    clear HD2 HL2
    obtain ⟨k, cur, d, hk, rfl, rfl, hd, hl⟩ := hrel
    have HD := Lib.hid hd; have HL := Lib.hid hl
    by_cases hlt : k < l.length
    · have hw1 : IntKind.i64.wrap ((k : Int) + 1) = (k : Int) + 1 := IntWalk.i64_in _ (by have := HLB.out; omega)
      have t1 : decide ((k : Int) < (l.length : Int)) = true := by simp; omega
      have t1n : decide (k < l.length) = true := by simp; omega
      have hkI : (k : Int) < (l.length : Int) := by omega
      obtain ⟨ab, off, rfl, q0, q1, q2⟩ := HV.out.at k hlt
      have HTR : Hid (∀ W, Fr (fun _ => False) w W → ∀ i u, cellIn w.heap[ab]? i = some u → cellIn W.heap[ab]? i = some u) := Lib.hid (fun W f i u h => by
        rw [← cell?_mk] at h ⊢
        exact f.cell h)
      have HST : Hid ((encAll (l.take (k + 1))).length = (encAll (l.take k)).length + (encOne l[k]).length) := Lib.hid (by rw [List.take_succ_eq_append_getElem hlt, encAll_snoc, List.length_append])
      have hcb : l[k].key.length ≤ 1099511627776 ∧ l[k].val.length ≤ 1099511627776 := by
        have h1 : encN (l.take (k + 1)) = encN (l.take k) + (17 + l[k].key.length + l[k].val.length) := by rw [List.take_succ_eq_append_getElem hlt, encN_snoc]
        have h2 := encN_take l (k + 1); have h3 := HN.out
        omega
      have HEL : Hid ((encAll (l.take k)).length ≤ 549755813888) := Lib.hid (by have h1 := encAll_length (l.take k); have h2 := encN_take l k; have h3 := HN.out; omega)
      obtain ⟨oo, oc, hcur⟩ := hd.slice
      subst hcur
      generalize (encAll (l.take k)).length = E at *
      generalize l[k] = c at *
      have HCB := Lib.hid hcb
      have T1 : Hid (∀ W, Calls Try.prog 77 #[.slice none 0 0, str c.key] W (LenPost W (8 + c.key.length))) := Lib.hid (fun W => text77 c.key (by omega) W)
      have T2 : Hid (∀ W, Calls Try.prog 77 #[.slice none 0 0, str c.val] W (LenPost W (8 + c.val.length))) := Lib.hid (fun W => text77 c.val (by omega) W)
      unfold str at q0 q1 T1 T2
      generalize (⟨c.key.toArray⟩ : ByteArray) = S1 at *
      generalize (⟨c.val.toArray⟩ : ByteArray) = S2 at *
      have HQ := Lib.hid (And.intro q0 (And.intro q1 q2))
      have c0 := HTR.out wr hd.fr _ _ q0
      have c1 := HTR.out wr hd.fr _ _ q1
      have c2 := HTR.out wr hd.fr _ _ q2
      clear hcb hd hl q0 q1 q2
      have M1 : Hid True := Lib.hid trivial
      have hol : (encOne c).length = (8 + c.key.length) + 1 + (if c.gone then 0 else 8 + c.val.length) := by
        unfold encOne textOf boolOf
        cases c.gone <;> simp [be8_length] <;> omega
      have HOL := Lib.hid hol
      clear hol
      cases hg : c.gone with
      | true =>
        rw [hg] at c2 HOL HQ
        clear hg
        go_wp2_with (first
          | (go_at_call 77; clear M1; refine (T1.out _).mono ?_; rintro e w2 ⟨v2, d2, rfl, h2, hl2⟩; have HC2 := Lib.hid h2; have HL2 := Lib.hid hl2; have hfr := (HD.out.fr.trans h2.fr (fun _ h => h.elim)); have c0 := HTR.out w2 hfr _ _ HQ.out.1; have c1 := HTR.out w2 hfr _ _ HQ.out.2.1; have c2 := HTR.out w2 hfr _ _ HQ.out.2.2; obtain ⟨o2, q2, hv2⟩ := h2.slice; rw [hl2] at hv2; subst hv2; clear h2 hl2 hfr)
          | (refine wpList_append_bytes rfl (.tmp 14) (.tmp 20) rfl _ (d) rfl (HD.out.still HC2.out.fr).own _ d2 rfl HC2.out.own.bytes (Room.of_small' (by have h1 := HL.out; have h2 := HEL.out; have h3 := HCB.out; rw [HL2.out]; omega)) ?_; intro v3 w3 own3 fr3 fresh3; have HD3 := Lib.hid (HD.out.push HC2.out.fr own3 fr3 fresh3); have c0 := HTR.out w3 HD3.out.fr _ _ HQ.out.1; have c1 := HTR.out w3 HD3.out.fr _ _ HQ.out.2.1; have c2 := HTR.out w3 HD3.out.fr _ _ HQ.out.2.2; obtain ⟨o3, q3, hv3⟩ := own3.slice; obtain ⟨m3, hm3⟩ : ∃ m, m = (d ++ d2).length := ⟨_, rfl⟩; rw [← hm3] at hv3; subst hv3; have HM3 := Lib.hid hm3; clear own3 fr3 fresh3 hm3)
          | (go_at_call 78; refine (bool78 true _).mono ?_; rintro e w4 ⟨v4, d4, rfl, h4, hl4⟩; have HC4 := Lib.hid h4; have HL4 := Lib.hid hl4; have hfr := (HD3.out.fr.trans h4.fr (fun _ h => h.elim)); have c0 := HTR.out w4 hfr _ _ HQ.out.1; have c1 := HTR.out w4 hfr _ _ HQ.out.2.1; have c2 := HTR.out w4 hfr _ _ HQ.out.2.2; obtain ⟨o4, q4, hv4⟩ := h4.slice; rw [hl4] at hv4; subst hv4; clear h4 hl4 hfr)
          | (refine wpList_append_bytes rfl (.tmp 22) (.tmp 28) rfl _ (d ++ d2) rfl (HD3.out.still HC4.out.fr).own _ d4 rfl HC4.out.own.bytes (Room.of_small' (by have h1 := HL.out; have h2 := HEL.out; have h3 := HCB.out; rw [HL4.out, List.length_append, HL2.out]; omega)) ?_; intro v5 w5 own5 fr5 fresh5; have HD5 := Lib.hid (HD3.out.push HC4.out.fr own5 fr5 fresh5); have c0 := HTR.out w5 HD5.out.fr _ _ HQ.out.1; have c1 := HTR.out w5 HD5.out.fr _ _ HQ.out.2.1; have c2 := HTR.out w5 HD5.out.fr _ _ HQ.out.2.2; obtain ⟨o5, q5, hv5⟩ := own5.slice; obtain ⟨m5, hm5⟩ : ∃ m, m = (d ++ d2 ++ d4).length := ⟨_, rfl⟩; rw [← hm5] at hv5; subst hv5; have HM5 := Lib.hid hm5; clear own5 fr5 fresh5 hm5))
        exact ⟨⟨k + 1, _, _, by omega, by go_num, rfl, HD5.out, by rw [HST.out, HOL.out, List.length_append, List.length_append, HL2.out, HL4.out, HL.out]; simp; omega⟩, by simp [intOf]; omega⟩
      | false =>
        rw [hg] at c2 HOL HQ
        clear hg
        go_wp2_with (first
          | (go_at_call 77; clear M1; refine (T1.out _).mono ?_; rintro e w2 ⟨v2, d2, rfl, h2, hl2⟩; have HC2 := Lib.hid h2; have HL2 := Lib.hid hl2; have hfr := (HD.out.fr.trans h2.fr (fun _ h => h.elim)); have c0 := HTR.out w2 hfr _ _ HQ.out.1; have c1 := HTR.out w2 hfr _ _ HQ.out.2.1; have c2 := HTR.out w2 hfr _ _ HQ.out.2.2; obtain ⟨o2, q2, hv2⟩ := h2.slice; rw [hl2] at hv2; subst hv2; clear h2 hl2 hfr)
          | (refine wpList_append_bytes rfl (.tmp 14) (.tmp 20) rfl _ (d) rfl (HD.out.still HC2.out.fr).own _ d2 rfl HC2.out.own.bytes (Room.of_small' (by have h1 := HL.out; have h2 := HEL.out; have h3 := HCB.out; rw [HL2.out]; omega)) ?_; intro v3 w3 own3 fr3 fresh3; have HD3 := Lib.hid (HD.out.push HC2.out.fr own3 fr3 fresh3); have c0 := HTR.out w3 HD3.out.fr _ _ HQ.out.1; have c1 := HTR.out w3 HD3.out.fr _ _ HQ.out.2.1; have c2 := HTR.out w3 HD3.out.fr _ _ HQ.out.2.2; obtain ⟨o3, q3, hv3⟩ := own3.slice; obtain ⟨m3, hm3⟩ : ∃ m, m = (d ++ d2).length := ⟨_, rfl⟩; rw [← hm3] at hv3; subst hv3; have HM3 := Lib.hid hm3; clear own3 fr3 fresh3 hm3)
          | (go_at_call 78; refine (bool78 false _).mono ?_; rintro e w4 ⟨v4, d4, rfl, h4, hl4⟩; have HC4 := Lib.hid h4; have HL4 := Lib.hid hl4; have hfr := (HD3.out.fr.trans h4.fr (fun _ h => h.elim)); have c0 := HTR.out w4 hfr _ _ HQ.out.1; have c1 := HTR.out w4 hfr _ _ HQ.out.2.1; have c2 := HTR.out w4 hfr _ _ HQ.out.2.2; obtain ⟨o4, q4, hv4⟩ := h4.slice; rw [hl4] at hv4; subst hv4; clear h4 hl4 hfr)
          | (refine wpList_append_bytes rfl (.tmp 22) (.tmp 28) rfl _ (d ++ d2) rfl (HD3.out.still HC4.out.fr).own _ d4 rfl HC4.out.own.bytes (Room.of_small' (by have h1 := HL.out; have h2 := HEL.out; have h3 := HCB.out; rw [HL4.out, List.length_append, HL2.out]; omega)) ?_; intro v5 w5 own5 fr5 fresh5; have HD5 := Lib.hid (HD3.out.push HC4.out.fr own5 fr5 fresh5); have c0 := HTR.out w5 HD5.out.fr _ _ HQ.out.1; have c1 := HTR.out w5 HD5.out.fr _ _ HQ.out.2.1; have c2 := HTR.out w5 HD5.out.fr _ _ HQ.out.2.2; obtain ⟨o5, q5, hv5⟩ := own5.slice; obtain ⟨m5, hm5⟩ : ∃ m, m = (d ++ d2 ++ d4).length := ⟨_, rfl⟩; rw [← hm5] at hv5; subst hv5; have HM5 := Lib.hid hm5; clear own5 fr5 fresh5 hm5)
          | (go_at_call 77; refine (T2.out _).mono ?_; rintro e w6 ⟨v6, d6, rfl, h6, hl6⟩; have HC6 := Lib.hid h6; have HL6 := Lib.hid hl6; have hfr := (HD5.out.fr.trans h6.fr (fun _ h => h.elim)); have c0 := HTR.out w6 hfr _ _ HQ.out.1; have c1 := HTR.out w6 hfr _ _ HQ.out.2.1; have c2 := HTR.out w6 hfr _ _ HQ.out.2.2; obtain ⟨o6, q6, hv6⟩ := h6.slice; rw [hl6] at hv6; subst hv6; clear h6 hl6 hfr)
          | (refine wpList_append_bytes rfl (.tmp 36) (.tmp 42) rfl _ (d ++ d2 ++ d4) rfl (HD5.out.still HC6.out.fr).own _ d6 rfl HC6.out.own.bytes (Room.of_small' (by have h1 := HL.out; have h2 := HEL.out; have h3 := HCB.out; rw [HL6.out, List.length_append, List.length_append, HL2.out, HL4.out]; omega)) ?_; intro v7 w7 own7 fr7 fresh7; have HD7 := Lib.hid (HD5.out.push HC6.out.fr own7 fr7 fresh7); have c0 := HTR.out w7 HD7.out.fr _ _ HQ.out.1; have c1 := HTR.out w7 HD7.out.fr _ _ HQ.out.2.1; have c2 := HTR.out w7 HD7.out.fr _ _ HQ.out.2.2; obtain ⟨o7, q7, hv7⟩ := own7.slice; obtain ⟨m7, hm7⟩ : ∃ m, m = (d ++ d2 ++ d4 ++ d6).length := ⟨_, rfl⟩; rw [← hm7] at hv7; subst hv7; have HM7 := Lib.hid hm7; clear own7 fr7 fresh7 hm7))
        exact ⟨⟨k + 1, _, _, by omega, by go_num, rfl, HD7.out, by rw [HST.out, HOL.out, List.length_append, List.length_append, List.length_append, HL2.out, HL4.out, HL6.out, HL.out]; simp; omega⟩, by simp [intOf]; omega⟩
    · obtain rfl : k = l.length := by omega
      rw [List.take_length] at hl HL
      obtain ⟨oo, oc, hcur⟩ := hd.slice
      have he : Hid (d.length = (encBytes l).length) := Lib.hid (by unfold encBytes; rw [List.length_append, be8_length]; exact hl)
      subst hcur
      clear hd hl
      go_wp2
      go_ret
      refine ⟨oo, oc, ?_, HD.out.fr⟩
      rw [← he.out]; rfl
end Go.Proofs.Ytnpeeephkkmomaa
namespace Go.Proofs.Ytnpeeephkkmomaa
open Go.RowKit Go.Proofs.YtnpeeephkkmomaaW.PrintLast
set_option linter.unusedVariables false
set_option linter.unusedSimpArgs false
attribute [local go_sem] beq_self_eq_true bne_self_eq_false

theorem underOf_snoc (L : List Chg) (p : List UInt8) (c : Chg) : underOf (L ++ [c]) p = underOf L p ++ (if Lib.hasPrefix c.key p then [c] else []) := by
  unfold underOf
  rw [List.filter_append]
  congr 1
  cases h : Lib.hasPrefix c.key p <;> simp [h]
set_option maxRecDepth 100000 in
set_option maxHeartbeats 4000000 in
theorem runder45 (v : Value) (L : List Chg) (p : List UInt8) (w : World) (hv : IsChg w v L) (hl : L.length ≤ 274877906944) : Calls Try.prog 45 #[v, str p] w (RefPost w (underOf L p)) := by
  obtain ⟨ao, cap, rfl, k1, k2, _⟩ := hv.is
  have HV := Lib.hid hv; have HLB := Lib.hid hl; have HK := Lib.hid (And.intro k1 k2)
  clear hv hl k1 k2
  unfold str
  have hksz := size_str p
  obtain ⟨K, hKe⟩ : ∃ K : ByteArray, K = ⟨p.toArray⟩ := ⟨_, rfl⟩
  rw [← hKe] at hksz ⊢
  have HKE := Lib.hid hKe
  have hkd : K.data.toList = p := by rw [hKe]
  have HKD := Lib.hid hkd
  have HKSZ := Lib.hid hksz
  clear hKe hkd hksz
  go_enter Try.func45, Try.ntmps45
  go_wp2
  go_loopw [5, 6] (fun cu i wr => ∃ (k : Nat) (cur : Value), k ≤ L.length ∧ i = .int .i64 k ∧ cur = cu ∧ PrsAt w cur (underOf (L.take k) p) wr) (fun _ i _ => L.length - (intOf i).toNat)
  case atStart => exact ⟨0, _, Nat.zero_le _, rfl, rfl, OwnRef.nil _, by simp [Value.ownBlock], Fr.refl _ w⟩
  case round =>
    obtain ⟨k, cur, hk, rfl, rfl, hb⟩ := hrel
    have HB := Lib.hid hb
    by_cases hlt : k < L.length
    · have hw1 : IntKind.i64.wrap ((k : Int) + 1) = (k : Int) + 1 := IntWalk.i64_in _ (by have := HLB.out; omega)
      have t1 : decide ((k : Int) < (L.length : Int)) = true := by simp; omega
      have t1n : decide (k < L.length) = true := by simp; omega
      have hkI : (k : Int) < (L.length : Int) := by omega
      obtain ⟨ab, off, rfl, c0, c1, c2⟩ := (HV.out.fr hb.fr (fun _ _ h => h)).at k hlt
      have HTK : Hid (underOf (L.take (k + 1)) p = underOf (L.take k) p ++ (if Lib.hasPrefix L[k].key p then [L[k]] else [])) := Lib.hid (by rw [List.take_succ_eq_append_getElem hlt, underOf_snoc])
      have HXL : Hid ((underOf (L.take k) p).length ≤ 1099511627776) := Lib.hid (by
        have h1 : (underOf (L.take k) p).length ≤ (L.take k).length := List.length_filter_le _ _
        have h2 : (L.take k).length ≤ L.length := by rw [List.length_take]; omega
        have := HLB.out; omega)
      obtain ⟨oo, oc, rfl⟩ := hb.own.slice
      generalize L[k] = c at *
      generalize underOf (L.take k) p = xs at *
      have hcc : Hid (chCells c = [.string ⟨c.key.toArray⟩, .string ⟨c.val.toArray⟩, .bool c.gone]) := Lib.hid rfl
      have hssz := size_str c.key
      unfold str at c0 c1
      obtain ⟨S1, hS1⟩ : ∃ S : ByteArray, S = ⟨c.key.toArray⟩ := ⟨_, rfl⟩
      rw [← hS1] at c0 hcc hssz
      have hsd : S1.data.toList = c.key := by rw [hS1]
      have hpre : Lib.hasPrefix c.key p = (decide (K.size ≤ S1.size) && (List.take K.size S1.data.toList == K.data.toList)) := by
        rw [hsd, HKD.out, hssz, HKSZ.out]
        exact (Lib.hasPrefix_of_take c.key p).symm
      have HPRE := Lib.hid hpre
      clear hS1 hpre hsd hssz hb
      generalize (⟨c.val.toArray⟩ : ByteArray) = S2 at *
      cases hge : decide (K.size ≤ S1.size) with
      | false =>
        have hgI : ¬ ((K.size : Int) ≤ (S1.size : Int)) := by simp at hge; omega
        have hgn : ¬ (K.size ≤ S1.size) := by simpa using hge
        have HP : Hid (Lib.hasPrefix c.key p = false) := Lib.hid (by rw [HPRE.out, hge]; rfl)
        go_wp2
        exact ⟨⟨k + 1, _, by omega, by go_num, rfl, by rw [HTK.out, HP.out]; simpa using HB.out⟩, by simp [intOf]; omega⟩
      | true =>
        have hgI : (K.size : Int) ≤ (S1.size : Int) := by simp at hge; omega
        have hgn : K.size ≤ S1.size := by simpa using hge
        cases hte : (List.take K.size S1.data.toList == K.data.toList) with
        | false =>
          have HP : Hid (Lib.hasPrefix c.key p = false) := Lib.hid (by rw [HPRE.out, hge, hte]; rfl)
          go_wp2
          exact ⟨⟨k + 1, _, by omega, by go_num, rfl, by rw [HTK.out, HP.out]; simpa using HB.out⟩, by simp [intOf]; omega⟩
        | true =>
          have HP : Hid (Lib.hasPrefix c.key p = true) := Lib.hid (by rw [HPRE.out, hge, hte]; rfl)
          go_wp2_with (first
            | (refine wpList_append_ref rfl (.tmp 34) (.tmp 39) rfl _ xs rfl (HB.out.own.fr (F := fun _ => False) ((Fr.refl _ wr).alloc _) (fun _ _ h => h)) wr.heap.size 1 rfl c (by rw [hcc.out]; exact heap_alloc_at wr _) HXL.out ?_; intro v3 w3 own3 fr3 fresh3; have HD3 := Lib.hid (HB.out.push ((Fr.refl _ wr).alloc _) own3 fr3 fresh3); obtain ⟨o3, c3, hv3⟩ := own3.slice; rw [List.length_append, List.length_singleton] at hv3; subst hv3; clear own3 fr3 fresh3))
          exact ⟨⟨k + 1, _, by omega, by go_num, rfl, by rw [HTK.out, HP.out]; simpa using HD3.out⟩, by simp [intOf]; omega⟩
    · obtain rfl : k = L.length := by omega
      rw [List.take_length] at HB
      obtain ⟨oo, oc, hcur⟩ := HB.out.own.slice
      subst hcur
      clear hb
      go_wp2
      go_ret
      exact ⟨_, rfl, HB.out.own, HB.out.new, HB.out.fr⟩
end Go.Proofs.Ytnpeeephkkmomaa
namespace Go.Proofs.Ytnpeeephkkmomaa
open Go.RowKit Go.Proofs.YtnpeeephkkmomaaW.PrintLast
set_option linter.unusedVariables false
set_option linter.unusedSimpArgs false
attribute [local go_sem] beq_self_eq_true bne_self_eq_false

theorem ComTo.hasF {n : Nat} {S S' : StoV} {l : List Chg} (h : ComTo n S l 0 S') : S'.has = applyAll S.has l := by
  generalize he : (0 : Int) = er at h
  cases h with
  | app _ => exact (app_facts S l).2.2.2
  | snap _ _ => exact (snap_facts S l).2.2.2
  | full _ _ => exact absurd he (by decide)
def lastOf (L : List Chg) (k : List UInt8) : List UInt8 × Bool := L.foldl (fun a c => if c.key = k then (c.val, true) else a) ([], false)
theorem lastOf_any (k : List UInt8) (L : List Chg) : ∀ acc : List UInt8 × Bool, (∃ c ∈ L, c.key = k ∧ L.foldl (fun a c => if c.key = k then (c.val, true) else a) acc = (c.val, true)) ∨ ((∀ c ∈ L, c.key ≠ k) ∧ L.foldl (fun a c => if c.key = k then (c.val, true) else a) acc = acc) := by
  induction L with
  | nil => exact fun acc => .inr ⟨fun _ h => (by cases h), rfl⟩
  | cons c L ih =>
    intro acc
    rw [List.foldl_cons]
    by_cases hk : c.key = k
    · rw [if_pos hk]
      rcases ih (c.val, true) with ⟨x, hx, h1, h2⟩ | ⟨h1, h2⟩
      · exact .inl ⟨x, List.mem_cons_of_mem _ hx, h1, h2⟩
      · exact .inl ⟨c, List.mem_cons_self, hk, h2⟩
    · rw [if_neg hk]
      rcases ih acc with ⟨x, hx, h1, h2⟩ | ⟨h1, h2⟩
      · exact .inl ⟨x, List.mem_cons_of_mem _ hx, h1, h2⟩
      · refine .inr ⟨fun x hx => ?_, h2⟩
        rcases List.mem_cons.mp hx with rfl | hx
        · exact hk
        · exact h1 x hx
theorem lastOf_get {L : List Chg} (hr : Rising L) (k : List UInt8) : lastOf L k = getOf L k := by
  rcases lastOf_any k L ([], false) with ⟨c, hc, hk, h⟩ | ⟨h1, h⟩
  · have h2 := getOf_mem hr hc
    rw [hk] at h2
    rw [h2]; exact h
  · rw [getOf_none h1]; exact h
theorem lastOf_snoc (L : List Chg) (k : List UInt8) (c : Chg) : lastOf (L ++ [c]) k = if c.key = k then (c.val, true) else lastOf L k := by
  unfold lastOf
  rw [List.foldl_append]; rfl
def LastAt (L : List Chg) (key : List UInt8) (k : Nat) (SA : ByteArray) (sb : Bool) : Prop := SA = ⟨(lastOf (L.take k) key).1.toArray⟩ ∧ sb = (lastOf (L.take k) key).2
theorem LastAt.yes {L : List Chg} {key : List UInt8} {k : Nat} {SA : ByteArray} {sb : Bool} (h : LastAt L key k SA sb) (hk : k < L.length) (he : L[k].key = key) : LastAt L key (k + 1) ⟨L[k].val.toArray⟩ true := by
  unfold LastAt
  rw [List.take_succ_eq_append_getElem hk, lastOf_snoc, if_pos he]
  exact ⟨rfl, rfl⟩
theorem LastAt.no {L : List Chg} {key : List UInt8} {k : Nat} {SA : ByteArray} {sb : Bool} (h : LastAt L key k SA sb) (hk : k < L.length) (he : L[k].key ≠ key) : LastAt L key (k + 1) SA sb := by
  unfold LastAt
  rw [List.take_succ_eq_append_getElem hk, lastOf_snoc, if_neg he]
  exact h
theorem ComTo.big {S' : StoV} {l : List Chg} (h : ComTo 4000 S0 l 51 S') : 100000 < (encBytes l).length := by
  generalize he : (51 : Int) = er at h
  cases h with
  | app _ => exact absurd he (by decide)
  | snap _ _ => exact absurd he (by decide)
  | full h _ =>
    have e : S0.en = 0 := rfl
    have e2 : halfN 4000 * 64 = 127936 := by decide
    unfold Fits at h
    omega
theorem under_kept {L : List Chg} (hk : Kept L) (p : List UInt8) : Kept (underOf L p) := fun c hc => hk c (List.mem_filter.mp hc).1

set_option maxRecDepth 100000 in
set_option maxHeartbeats 8000000 in
theorem finds_walk (v : Value) (l : List Chg) (key pre : List UInt8) (w : World) (hv : IsChg w v l) (hl : encN l ≤ 549755813888) : Calls Try.prog 8 #[v, str key, str pre] w fun e w' => e = .returned (.bool true) ∧ Fr (fun _ => False) w w' := by
  obtain ⟨vo, vc, rfl, k1, k2, _⟩ := hv.is
  have HV := Lib.hid hv; have HL := Lib.hid hl
  have hlb : l.length ≤ 200000000000 := by have h1 := encAll_min l; have h2 := encAll_length l; omega
  have HLB := Lib.hid hlb
  clear hv hl k1 k2 hlb
  have HGT : Hid (∀ X W b s S, StH w W X 4000 b s S → Calls Try.prog 43 #[.pointer (some ⟨s, 0, none⟩), str key] W fun e w' => e = .returned (.tuple #[str (getOf S.has key).1, .bool (getOf S.has key).2]) ∧ StH w w' X 4000 b s S ∧ Fr (fun _ => False) W w') := Lib.hid (fun X W b s S h => h.get key)
  have HUN0 : Hid (∀ X W b s S, StH w W X 4000 b s S → Calls Try.prog 44 #[.pointer (some ⟨s, 0, none⟩), str pre] W (UnderPost w W X 4000 b s S pre)) := Lib.hid (fun X W b s S h => h.under pre)
  have HRU0 : Hid (∀ W v L, IsChg W v L → L.length ≤ 274877906944 → Calls Try.prog 45 #[v, str pre] W (RefPost W (underOf L pre))) := Lib.hid (fun W v L h h2 => runder45 v L pre W h h2)
  unfold str at HGT HUN0 HRU0 ⊢
  obtain ⟨K, hK⟩ : ∃ K : ByteArray, K = ⟨key.toArray⟩ := ⟨_, rfl⟩
  obtain ⟨P, hP⟩ : ∃ P : ByteArray, P = ⟨pre.toArray⟩ := ⟨_, rfl⟩
  rw [← hP] at HUN0 HRU0 ⊢
  rw [← hK] at HGT ⊢
  have HKD : Hid (K.data.toList = key) := Lib.hid (by rw [hK])
  clear hK hP
  cases t2 : decide (l.length ≤ 300) with
  | false =>
    go_enter Try.func8, Try.ntmps8
    go_wp2_with (first
      | (go_at_call 12; refine (st_new 4000 (by decide) w).mono ?_; rintro e w1 ⟨b, rfl, hd⟩; have HD := Lib.hid hd; clear hd)
      | (go_at_call 36; refine (open36 HD.out (by decide)).mono ?_; rintro e w2 ⟨s, rfl, hs, _⟩; have HS := Lib.hid hs; clear hs)
      | (go_at_call 37; refine (awake6 w2).mono ?_; rintro e w3 ⟨rfl, f3⟩; have HS3 := Lib.hid (HS.out.still f3); clear f3)
      | (go_at_call 38; refine (few38 _ l w3 (HV.out.fr HS3.out.own (fun _ _ h => h))).mono ?_; rw [t2]; rintro e w4 ⟨rfl, rfl⟩))
    go_ret
    exact ⟨rfl, HS3.out.own⟩
  | true =>
    go_enter Try.func8, Try.ntmps8
    go_wp2_with (first
      | (go_at_call 12; refine (st_new 4000 (by decide) w).mono ?_; rintro e w1 ⟨b, rfl, hd⟩; have HD := Lib.hid hd; clear hd)
      | (go_at_call 36; refine (open36 HD.out (by decide)).mono ?_; rintro e w2 ⟨s, rfl, hs, _⟩; have HS := Lib.hid hs; clear hs)
      | (go_at_call 37; refine (awake6 w2).mono ?_; rintro e w3 ⟨rfl, f3⟩; have HS3 := Lib.hid (HS.out.still f3); clear f3)
      | (go_at_call 38; refine (few38 _ l w3 (HV.out.fr HS3.out.own (fun _ _ h => h))).mono ?_; rw [t2]; rintro e w4 ⟨rfl, rfl⟩)
      | (go_at_call 40; go_loud (refine (batch40 _ l w3 (HV.out.fr HS3.out.own (fun _ _ h => h)) (by have := HLB.out; omega)).mono ?_; rintro e w5 ⟨v5, rfl, o5, n5, f5⟩; have HS5 := Lib.hid (HS3.out.still f5); have HO5 := Lib.hid o5; obtain ⟨o5', c5', rfl⟩ := o5.slice; clear o5 n5 f5)))
    refine (commit39 HS5.out (by decide) (by decide) _ l HO5.out.chg HL.out).mono ?_
    rintro e w6 ⟨er1, S1, rfl, hc1, h6, f6⟩
    have HS6 := Lib.hid h6
    rcases hc1.er with rfl | ⟨rfl, rfl⟩
    · obtain ⟨L, hLE⟩ : ∃ L, L = S1.has := ⟨_, rfl⟩
      have HHAS : Hid (L = applyAll [] l) := Lib.hid (by rw [hLE]; exact hc1.hasF)
      have HLL : Hid (L.length ≤ 2097152) := Lib.hid (by rw [hLE]; obtain ⟨cp, jp, lb, cl, sp, wv, hv, D, h⟩ := HS6.out; exact h.on.small.2.1)
      have HRK : Hid (Rising L ∧ Kept L) := Lib.hid (by rw [hLE]; exact hasOf_kept S1.fs)
      obtain ⟨GS, hGS⟩ : ∃ G : ByteArray, G = ⟨(getOf L key).1.toArray⟩ := ⟨_, rfl⟩
      obtain ⟨gb, hgb⟩ : ∃ g : Bool, g = (getOf L key).2 := ⟨_, rfl⟩
      obtain ⟨U, hU⟩ : ∃ U, U = underOf L pre := ⟨_, rfl⟩
      have HGET : Hid (∀ W, StH w W (fun _ => False) 4000 b s S1 → Calls Try.prog 43 #[.pointer (some ⟨s, 0, none⟩), .string K] W fun e w' => e = .returned (.tuple #[.string GS, .bool gb]) ∧ StH w w' (fun _ => False) 4000 b s S1 ∧ Fr (fun _ => False) W w') := Lib.hid (fun W h => by rw [hGS, hgb, hLE]; exact HGT.out _ W b s S1 h)
      have HUN : Hid (∀ W, StH w W (fun _ => False) 4000 b s S1 → Calls Try.prog 44 #[.pointer (some ⟨s, 0, none⟩), .string P] W fun e w' => ∃ v, e = .returned v ∧ OwnChg w' v U ∧ StH w w' (fun _ => False) 4000 b s S1 ∧ Fr (fun _ => False) W w') := Lib.hid (fun W h => by
        rw [hU, hLE]
        refine (HUN0.out _ W b s S1 h).mono ?_
        rintro e w' ⟨v, rfl, h1, _, h2, h3⟩
        exact ⟨v, rfl, h1, h2, h3⟩)
      have HRU : Hid (∀ W v, IsChg W v L → Calls Try.prog 45 #[v, .string P] W (RefPost W U)) := Lib.hid (fun W v h => by rw [hU]; exact HRU0.out W v L h (by have := HLL.out; omega))
      have HCN : Hid (∀ W, StH w W (fun _ => False) 4000 b s S1 → Calls Try.prog 46 #[.pointer (some ⟨s, 0, none⟩)] W fun e w' => e = .returned (.int .i64 (L.length : Nat)) ∧ W = w') := Lib.hid (fun W h => by rw [hLE]; exact h.count)
      have HAL : Hid (∀ W, IsChg W (.slice vo l.length vc) l → Calls Try.prog 42 #[.slice none 0 0, .slice vo l.length vc] W (AllPost W L)) := Lib.hid (fun W h => by rw [HHAS.out]; exact all42 _ l W h (by have := HLB.out; omega))
      have HGE : Hid (∀ SA sb, LastAt L key L.length SA sb → SA = GS ∧ sb = gb) := Lib.hid (fun SA sb h => by
        unfold LastAt at h
        rw [List.take_length, lastOf_get HRK.out.1] at h
        exact ⟨h.1.trans hGS.symm, h.2.trans hgb.symm⟩)
      have HUL : Hid (U.length ≤ 2097152) := Lib.hid (by rw [hU]; exact Nat.le_trans (List.length_filter_le _ _) HLL.out)
      have HUK : Hid (Kept U) := Lib.hid (by rw [hU]; exact under_kept HRK.out.2 pre)
      have HLA0 : Hid (LastAt L key 0 ⟨#[]⟩ false) := Lib.hid ⟨rfl, rfl⟩
      clear hc1 h6 f6 hLE hGS hgb hU HGT HUN0 HRU0
      go_wp2_with (first
        | (go_at_call 42; go_loud (refine (HAL.out w6 (HV.out.fr HS6.out.own (fun _ _ h => h))).mono ?_; rintro e w7 ⟨v7, rfl, o7, f7⟩; have HS7 := Lib.hid (HS6.out.still f7); have HO7 := Lib.hid o7; obtain ⟨o7', c7', rfl⟩ := o7.slice; clear o7 f7))
        | (go_at_call 43; go_loud (refine (HGET.out w7 HS7.out).mono ?_; rintro e w8 ⟨rfl, h8, f8⟩; have HS8 := Lib.hid h8; have HO8 := Lib.hid (HO7.out.fr f8 (fun _ _ h => h)); clear h8 f8)))
      go_loopw [12, 13, 14] (fun a h i wr => ∃ (k : Nat) (SA : ByteArray) (sb : Bool), k ≤ L.length ∧ i = .int .i64 k ∧ a = .string SA ∧ h = .bool sb ∧ LastAt L key k SA sb ∧ w8 = wr) (fun _ _ i _ => L.length - (intOf i).toNat)
      case atStart => exact ⟨0, _, _, Nat.zero_le _, rfl, rfl, rfl, HLA0.out, rfl⟩
      case round =>
        obtain ⟨k, SA, sb, hk, rfl, rfl, rfl, hla, rfl⟩ := hrel
        have HLA := Lib.hid hla
        clear hla
        by_cases hlt : k < L.length
        · have hw1 : IntKind.i64.wrap ((k : Int) + 1) = (k : Int) + 1 := IntWalk.i64_in _ (by have := HLL.out; omega)
          have t1 : decide ((k : Int) < (L.length : Int)) = true := by simp; omega
          have t1n : decide (k < L.length) = true := by simp; omega
          have hkI : (k : Int) < (L.length : Int) := by omega
          obtain ⟨ab, off, rfl, c0, c1, c2⟩ := HO8.out.at k hlt
          by_cases hke : L[k].key = key
          · have HN : Hid (LastAt L key (k + 1) ⟨L[k].val.toArray⟩ true) := Lib.hid (HLA.out.yes hlt hke)
            have teq : (L[k].key == key) = true := by simpa using hke
            generalize L[k] = c at *
            unfold str at c0 c1
            obtain ⟨S1', hS1⟩ : ∃ S : ByteArray, S = ⟨c.key.toArray⟩ := ⟨_, rfl⟩
            rw [← hS1] at c0
            have hsx : S1'.data.toList = c.key := by rw [hS1]
            have hsk : K.data.toList = key := HKD.out
            generalize (⟨c.val.toArray⟩ : ByteArray) = S2' at *
            clear hS1 hke
            go_wp2
            exact ⟨⟨k + 1, _, _, by omega, by go_num, rfl, rfl, HN.out, trivial⟩, by simp [intOf]; omega⟩
          · have HN : Hid (LastAt L key (k + 1) SA sb) := Lib.hid (HLA.out.no hlt hke)
            have teq : (L[k].key == key) = false := by simpa using hke
            generalize L[k] = c at *
            unfold str at c0 c1
            obtain ⟨S1', hS1⟩ : ∃ S : ByteArray, S = ⟨c.key.toArray⟩ := ⟨_, rfl⟩
            rw [← hS1] at c0
            have hsx : S1'.data.toList = c.key := by rw [hS1]
            have hsk : K.data.toList = key := HKD.out
            generalize (⟨c.val.toArray⟩ : ByteArray) = S2' at *
            clear hS1 hke
            go_wp2
            exact ⟨⟨k + 1, _, _, by omega, by go_num, rfl, rfl, HN.out, trivial⟩, by simp [intOf]; omega⟩
        · obtain rfl : k = L.length := by omega
          obtain ⟨rfl, rfl⟩ := HGE.out SA sb HLA.out
          have hnI : ¬ ((L.length : Int) < (L.length : Int)) := by omega
          go_wp2_with (first
            | (go_at_call 44; go_loud (refine (HUN.out w8 HS8.out).mono ?_; rintro e w9 ⟨v9, rfl, o9, h9, f9⟩; have HS9 := Lib.hid h9; have HO9 := Lib.hid o9.chg; have HA9 := Lib.hid (HO8.out.fr f9 (fun _ _ h => h)); obtain ⟨o9', c9', rfl⟩ := o9.slice; clear o9 h9 f9))
            | (go_at_call 45; go_loud (refine (HRU.out w9 _ HA9.out).mono ?_; rintro e w10 ⟨v10, rfl, o10, _, f10⟩; have HS10 := Lib.hid (HS9.out.still f10); have HO10 := Lib.hid (HO9.out.fr f10 (fun _ _ h => h)); have HR10 := Lib.hid o10.chg; obtain ⟨o10', c10', rfl⟩ := o10.slice; clear o10 f10))
            | (go_at_call 46; go_loud (refine (HCN.out w10 HS10.out).mono ?_; rintro e w11 ⟨rfl, rfl⟩)))
          go_loopw [17] (fun i wr => ∃ k : Nat, k ≤ U.length ∧ i = .int .i64 k ∧ Fr (fun _ => False) w10 wr) (fun i _ => U.length - (intOf i).toNat)
          case atStart => exact ⟨0, Nat.zero_le _, rfl, Fr.refl _ _⟩
          case round =>
            obtain ⟨k, hk, rfl, hf⟩ := hrel
            have HF := Lib.hid hf
            clear hf
            by_cases hlt : k < U.length
            · have hw1 : IntKind.i64.wrap ((k : Int) + 1) = (k : Int) + 1 := IntWalk.i64_in _ (by have := HUL.out; omega)
              have t1 : decide ((k : Int) < (U.length : Int)) = true := by simp; omega
              have t1n : decide (k < U.length) = true := by simp; omega
              have hkI : (k : Int) < (U.length : Int) := by omega
              obtain ⟨ab, off, rfl, c0, c1, c2⟩ := (HO10.out.fr HF.out (fun _ _ h => h)).at k hlt
              obtain ⟨gg, go, rfl, b0, b1, b2⟩ := (HR10.out.fr HF.out (fun _ _ h => h)).at k hlt
              rw [HUK.out _ (List.getElem_mem hlt)] at c2
              generalize U[k] = c at *
              unfold str at c0 c1 b0 b1
              generalize (⟨c.key.toArray⟩ : ByteArray) = S1' at *
              generalize (⟨c.val.toArray⟩ : ByteArray) = S2' at *
              have d0 : cellIn wr.drew.heap[ab]? (off + k * 3) = some (.string S1') := c0
              have d1 : cellIn wr.drew.heap[ab]? (off + k * 3 + 1) = some (.string S2') := c1
              have d2 : cellIn wr.drew.heap[ab]? (off + k * 3 + 2) = some (.bool false) := c2
              have d0' : cellIn wr.drew.heap[gg]? (go + k * 3) = some (.string S1') := b0
              have d1' : cellIn wr.drew.heap[gg]? (go + k * 3 + 1) = some (.string S2') := b1
              go_wp2
              refine start_ (n := 31) (S := fun w' => cellIn w'.heap[ab]? (off + k * 3) = some (.string S1') ∧ cellIn w'.heap[ab]? (off + k * 3 + 1) = some (.string S2') ∧ cellIn w'.heap[ab]? (off + k * 3 + 2) = some (.bool false) ∧ cellIn w'.heap[gg]? (go + k * 3) = some (.string S1') ∧ cellIn w'.heap[gg]? (go + k * 3 + 1) = some (.string S2')) (ds := []) #[false, false, false, false, false, false, false, false, false, false, false, false, false, false, false, false, false, false, false, false, false, false, false, false, false, false, false, false, false, false, false] (by kernel_rfl) rfl rfl ⟨d0, d1, d2, d0', d1'⟩ (fun hHeld => ?_)
              refine pure_ (i := 0) (N := some 105) (v := ?_) (a' := ?_) #[true, false, false, false, false, false, false, false, false, false, false, false, false, false, false, false, false, false, false, false, false, false, false, false, false, false, false, false, false, false, false] rfl rfl (by kernel_rfl) (fun _ _ _ h => h) (Or.inl ⟨by rfl, ?_⟩) ?_ ?_
              rotate_left
              · intro w'
                try simp only [List.getElem_toArray, List.getElem_cons_succ, List.getElem_cons_zero]
                go_simp
                with_reducible rfl
              rotate_left
              · simp only [Act.put, List.setIfInBounds_toArray, List.set_cons_zero, List.set_cons_succ, i64_w, i32_w]
                rfl
              refine pure_ (i := 1) (N := some 106) (v := ?_) (a' := ?_) #[true, true, false, false, false, false, false, false, false, false, false, false, false, false, false, false, false, false, false, false, false, false, false, false, false, false, false, false, false, false, false] rfl rfl (by kernel_rfl) (fun _ _ _ h => h) (Or.inl ⟨by rfl, ?_⟩) ?_ ?_
              rotate_left
              · intro w'
                try simp only [List.getElem_toArray, List.getElem_cons_succ, List.getElem_cons_zero]
                go_simp
                with_reducible rfl
              rotate_left
              · simp only [Act.put, List.setIfInBounds_toArray, List.set_cons_zero, List.set_cons_succ, i64_w, i32_w]
                rfl
              refine pure_ (i := 2) (N := some 107) (v := ?_) (a' := ?_) #[true, true, true, false, false, false, false, false, false, false, false, false, false, false, false, false, false, false, false, false, false, false, false, false, false, false, false, false, false, false, false] rfl rfl (by kernel_rfl) (fun _ _ _ h => h) (Or.inl ⟨by rfl, ?_⟩) ?_ ?_
              rotate_left
              · intro w'
                try simp only [List.getElem_toArray, List.getElem_cons_succ, List.getElem_cons_zero]
                go_simp
                with_reducible rfl
              rotate_left
              · simp only [Act.put, List.setIfInBounds_toArray, List.set_cons_zero, List.set_cons_succ, i64_w, i32_w]
                rfl
              refine pure_ (i := 3) (N := some 108) (v := ?_) (a' := ?_) #[true, true, true, true, false, false, false, false, false, false, false, false, false, false, false, false, false, false, false, false, false, false, false, false, false, false, false, false, false, false, false] rfl rfl (by kernel_rfl) (fun _ _ _ h => h) (Or.inl ⟨by rfl, ?_⟩) ?_ ?_
              rotate_left
              · intro w'
                try simp only [List.getElem_toArray, List.getElem_cons_succ, List.getElem_cons_zero]
                go_simp
                with_reducible rfl
              rotate_left
              · simp only [Act.put, List.setIfInBounds_toArray, List.set_cons_zero, List.set_cons_succ, i64_w, i32_w]
                rfl
              refine pure_ (i := 5) (N := some 110) (v := ?_) (a' := ?_) #[true, true, true, true, false, true, false, false, false, false, false, false, false, false, false, false, false, false, false, false, false, false, false, false, false, false, false, false, false, false, false] rfl rfl (by kernel_rfl) (fun _ _ _ h => h) (Or.inl ⟨by rfl, ?_⟩) ?_ ?_
              rotate_left
              · intro w'
                try simp only [List.getElem_toArray, List.getElem_cons_succ, List.getElem_cons_zero]
                go_simp
                with_reducible rfl
              rotate_left
              · simp only [Act.put, List.setIfInBounds_toArray, List.set_cons_zero, List.set_cons_succ, i64_w, i32_w]
                rfl
              refine pure_ (i := 6) (N := some 111) (v := ?_) (a' := ?_) #[true, true, true, true, false, true, true, false, false, false, false, false, false, false, false, false, false, false, false, false, false, false, false, false, false, false, false, false, false, false, false] rfl rfl (by kernel_rfl) (fun _ _ _ h => h) (Or.inl ⟨by rfl, ?_⟩) ?_ ?_
              rotate_left
              · intro w'
                try simp only [List.getElem_toArray, List.getElem_cons_succ, List.getElem_cons_zero]
                go_simp
                with_reducible rfl
              rotate_left
              · simp only [Act.put, List.setIfInBounds_toArray, List.set_cons_zero, List.set_cons_succ, i64_w, i32_w]
                rfl
              refine pure_ (i := 7) (N := some 112) (v := ?_) (a' := ?_) #[true, true, true, true, false, true, true, true, false, false, false, false, false, false, false, false, false, false, false, false, false, false, false, false, false, false, false, false, false, false, false] rfl rfl (by kernel_rfl) (fun _ _ _ h => h) (Or.inl ⟨by rfl, ?_⟩) ?_ ?_
              rotate_left
              · intro w'
                try simp only [List.getElem_toArray, List.getElem_cons_succ, List.getElem_cons_zero]
                go_simp
                with_reducible rfl
              rotate_left
              · simp only [Act.put, List.setIfInBounds_toArray, List.set_cons_zero, List.set_cons_succ, i64_w, i32_w]
                rfl
              refine pure_ (i := 8) (N := some 113) (v := ?_) (a' := ?_) #[true, true, true, true, false, true, true, true, true, false, false, false, false, false, false, false, false, false, false, false, false, false, false, false, false, false, false, false, false, false, false] rfl rfl (by kernel_rfl) (fun _ _ _ h => h) (Or.inl ⟨by rfl, ?_⟩) ?_ ?_
              rotate_left
              · intro w'
                try simp only [List.getElem_toArray, List.getElem_cons_succ, List.getElem_cons_zero]
                go_simp
                with_reducible rfl
              rotate_left
              · simp only [Act.put, List.setIfInBounds_toArray, List.set_cons_zero, List.set_cons_succ, i64_w, i32_w]
                rfl
              refine take_ (i := 4) (N := some 109) (v := ?_) (a' := ?_) #[true, true, true, true, true, true, true, true, true, false, false, false, false, false, false, false, false, false, false, false, false, false, false, false, false, false, false, false, false, false, false] rfl rfl (by kernel_rfl) (fun _ _ _ h => h) (Or.inl ⟨by rfl, ?_⟩) hHeld ?_ ?_
              rotate_left
              · rintro w' ⟨s0, s1, s2, s3, s4⟩
                try simp only [List.getElem_toArray, List.getElem_cons_succ, List.getElem_cons_zero]
                go_simp
                with_reducible rfl
              rotate_left
              · simp only [Act.put, List.setIfInBounds_toArray, List.set_cons_zero, List.set_cons_succ, i64_w, i32_w]
                rfl
              refine take_ (i := 9) (N := some 114) (v := ?_) (a' := ?_) #[true, true, true, true, true, true, true, true, true, true, false, false, false, false, false, false, false, false, false, false, false, false, false, false, false, false, false, false, false, false, false] rfl rfl (by kernel_rfl) (fun _ _ _ h => h) (Or.inl ⟨by rfl, ?_⟩) hHeld ?_ ?_
              rotate_left
              · rintro w' ⟨s0, s1, s2, s3, s4⟩
                try simp only [List.getElem_toArray, List.getElem_cons_succ, List.getElem_cons_zero]
                go_simp
                with_reducible rfl
              rotate_left
              · simp only [Act.put, List.setIfInBounds_toArray, List.set_cons_zero, List.set_cons_succ, i64_w, i32_w]
                rfl
              refine pure_ (i := 10) (N := some 115) (v := ?_) (a' := ?_) #[true, true, true, true, true, true, true, true, true, true, true, false, false, false, false, false, false, false, false, false, false, false, false, false, false, false, false, false, false, false, false] rfl rfl (by kernel_rfl) (fun _ _ _ h => h) (Or.inl ⟨by rfl, ?_⟩) ?_ ?_
              rotate_left
              · intro w'
                try simp only [List.getElem_toArray, List.getElem_cons_succ, List.getElem_cons_zero]
                go_simp
                with_reducible rfl
              rotate_left
              · simp only [Act.put, List.setIfInBounds_toArray, List.set_cons_zero, List.set_cons_succ, i64_w, i32_w]
                rfl
              refine pure_ (i := 11) (N := some 116) (v := ?_) (a' := ?_) #[true, true, true, true, true, true, true, true, true, true, true, true, false, false, false, false, false, false, false, false, false, false, false, false, false, false, false, false, false, false, false] rfl rfl (by kernel_rfl) (fun _ _ _ h => h) (Or.inl ⟨by rfl, ?_⟩) ?_ ?_
              rotate_left
              · intro w'
                try simp only [List.getElem_toArray, List.getElem_cons_succ, List.getElem_cons_zero]
                go_simp
                with_reducible rfl
              rotate_left
              · simp only [Act.put, List.setIfInBounds_toArray, List.set_cons_zero, List.set_cons_succ, i64_w, i32_w]
                rfl
              refine pure_ (i := 12) (N := some 117) (v := ?_) (a' := ?_) #[true, true, true, true, true, true, true, true, true, true, true, true, true, false, false, false, false, false, false, false, false, false, false, false, false, false, false, false, false, false, false] rfl rfl (by kernel_rfl) (fun _ _ _ h => h) (Or.inl ⟨by rfl, ?_⟩) ?_ ?_
              rotate_left
              · intro w'
                try simp only [List.getElem_toArray, List.getElem_cons_succ, List.getElem_cons_zero]
                go_simp
                with_reducible rfl
              rotate_left
              · simp only [Act.put, List.setIfInBounds_toArray, List.set_cons_zero, List.set_cons_succ, i64_w, i32_w]
                rfl
              refine pure_ (i := 13) (N := some 118) (v := ?_) (a' := ?_) #[true, true, true, true, true, true, true, true, true, true, true, true, true, true, false, false, false, false, false, false, false, false, false, false, false, false, false, false, false, false, false] rfl rfl (by kernel_rfl) (fun _ _ _ h => h) (Or.inl ⟨by rfl, ?_⟩) ?_ ?_
              rotate_left
              · intro w'
                try simp only [List.getElem_toArray, List.getElem_cons_succ, List.getElem_cons_zero]
                go_simp
                with_reducible rfl
              rotate_left
              · simp only [Act.put, List.setIfInBounds_toArray, List.set_cons_zero, List.set_cons_succ, i64_w, i32_w]
                rfl
              refine pure_ (i := 14) (N := some 119) (v := ?_) (a' := ?_) #[true, true, true, true, true, true, true, true, true, true, true, true, true, true, true, false, false, false, false, false, false, false, false, false, false, false, false, false, false, false, false] rfl rfl (by kernel_rfl) (fun _ _ _ h => h) (Or.inl ⟨by rfl, ?_⟩) ?_ ?_
              rotate_left
              · intro w'
                try simp only [List.getElem_toArray, List.getElem_cons_succ, List.getElem_cons_zero]
                go_simp
                with_reducible rfl
              rotate_left
              · simp only [Act.put, List.setIfInBounds_toArray, List.set_cons_zero, List.set_cons_succ, i64_w, i32_w]
                rfl
              refine pure_ (i := 15) (N := some 120) (v := ?_) (a' := ?_) #[true, true, true, true, true, true, true, true, true, true, true, true, true, true, true, true, false, false, false, false, false, false, false, false, false, false, false, false, false, false, false] rfl rfl (by kernel_rfl) (fun _ _ _ h => h) (Or.inl ⟨by rfl, ?_⟩) ?_ ?_
              rotate_left
              · intro w'
                try simp only [List.getElem_toArray, List.getElem_cons_succ, List.getElem_cons_zero]
                go_simp
                with_reducible rfl
              rotate_left
              · simp only [Act.put, List.setIfInBounds_toArray, List.set_cons_zero, List.set_cons_succ, i64_w, i32_w]
                rfl
              refine pure_ (i := 17) (N := some 122) (v := ?_) (a' := ?_) #[true, true, true, true, true, true, true, true, true, true, true, true, true, true, true, true, false, true, false, false, false, false, false, false, false, false, false, false, false, false, false] rfl rfl (by kernel_rfl) (fun _ _ _ h => h) (Or.inl ⟨by rfl, ?_⟩) ?_ ?_
              rotate_left
              · intro w'
                try simp only [List.getElem_toArray, List.getElem_cons_succ, List.getElem_cons_zero]
                go_simp
                with_reducible rfl
              rotate_left
              · simp only [Act.put, List.setIfInBounds_toArray, List.set_cons_zero, List.set_cons_succ, i64_w, i32_w]
                rfl
              refine pure_ (i := 18) (N := some 123) (v := ?_) (a' := ?_) #[true, true, true, true, true, true, true, true, true, true, true, true, true, true, true, true, false, true, true, false, false, false, false, false, false, false, false, false, false, false, false] rfl rfl (by kernel_rfl) (fun _ _ _ h => h) (Or.inl ⟨by rfl, ?_⟩) ?_ ?_
              rotate_left
              · intro w'
                try simp only [List.getElem_toArray, List.getElem_cons_succ, List.getElem_cons_zero]
                go_simp
                with_reducible rfl
              rotate_left
              · simp only [Act.put, List.setIfInBounds_toArray, List.set_cons_zero, List.set_cons_succ, i64_w, i32_w]
                rfl
              refine pure_ (i := 19) (N := some 124) (v := ?_) (a' := ?_) #[true, true, true, true, true, true, true, true, true, true, true, true, true, true, true, true, false, true, true, true, false, false, false, false, false, false, false, false, false, false, false] rfl rfl (by kernel_rfl) (fun _ _ _ h => h) (Or.inl ⟨by rfl, ?_⟩) ?_ ?_
              rotate_left
              · intro w'
                try simp only [List.getElem_toArray, List.getElem_cons_succ, List.getElem_cons_zero]
                go_simp
                with_reducible rfl
              rotate_left
              · simp only [Act.put, List.setIfInBounds_toArray, List.set_cons_zero, List.set_cons_succ, i64_w, i32_w]
                rfl
              refine pure_ (i := 20) (N := some 125) (v := ?_) (a' := ?_) #[true, true, true, true, true, true, true, true, true, true, true, true, true, true, true, true, false, true, true, true, true, false, false, false, false, false, false, false, false, false, false] rfl rfl (by kernel_rfl) (fun _ _ _ h => h) (Or.inl ⟨by rfl, ?_⟩) ?_ ?_
              rotate_left
              · intro w'
                try simp only [List.getElem_toArray, List.getElem_cons_succ, List.getElem_cons_zero]
                go_simp
                with_reducible rfl
              rotate_left
              · simp only [Act.put, List.setIfInBounds_toArray, List.set_cons_zero, List.set_cons_succ, i64_w, i32_w]
                rfl
              refine take_ (i := 16) (N := some 121) (v := ?_) (a' := ?_) #[true, true, true, true, true, true, true, true, true, true, true, true, true, true, true, true, true, true, true, true, true, false, false, false, false, false, false, false, false, false, false] rfl rfl (by kernel_rfl) (fun _ _ _ h => h) (Or.inl ⟨by rfl, ?_⟩) hHeld ?_ ?_
              rotate_left
              · rintro w' ⟨s0, s1, s2, s3, s4⟩
                try simp only [List.getElem_toArray, List.getElem_cons_succ, List.getElem_cons_zero]
                go_simp
                with_reducible rfl
              rotate_left
              · simp only [Act.put, List.setIfInBounds_toArray, List.set_cons_zero, List.set_cons_succ, i64_w, i32_w]
                rfl
              refine take_ (i := 21) (N := some 126) (v := ?_) (a' := ?_) #[true, true, true, true, true, true, true, true, true, true, true, true, true, true, true, true, true, true, true, true, true, true, false, false, false, false, false, false, false, false, false] rfl rfl (by kernel_rfl) (fun _ _ _ h => h) (Or.inl ⟨by rfl, ?_⟩) hHeld ?_ ?_
              rotate_left
              · rintro w' ⟨s0, s1, s2, s3, s4⟩
                try simp only [List.getElem_toArray, List.getElem_cons_succ, List.getElem_cons_zero]
                go_simp
                with_reducible rfl
              rotate_left
              · simp only [Act.put, List.setIfInBounds_toArray, List.set_cons_zero, List.set_cons_succ, i64_w, i32_w]
                rfl
              refine pure_ (i := 22) (N := some 127) (v := ?_) (a' := ?_) #[true, true, true, true, true, true, true, true, true, true, true, true, true, true, true, true, true, true, true, true, true, true, true, false, false, false, false, false, false, false, false] rfl rfl (by kernel_rfl) (fun _ _ _ h => h) (Or.inl ⟨by rfl, ?_⟩) ?_ ?_
              rotate_left
              · intro w'
                try simp only [List.getElem_toArray, List.getElem_cons_succ, List.getElem_cons_zero]
                go_simp
                with_reducible rfl
              rotate_left
              · simp only [Act.put, List.setIfInBounds_toArray, List.set_cons_zero, List.set_cons_succ, i64_w, i32_w]
                rfl
              refine pure_ (i := 23) (N := some 128) (v := ?_) (a' := ?_) #[true, true, true, true, true, true, true, true, true, true, true, true, true, true, true, true, true, true, true, true, true, true, true, true, false, false, false, false, false, false, false] rfl rfl (by kernel_rfl) (fun _ _ _ h => h) (Or.inl ⟨by rfl, ?_⟩) ?_ ?_
              rotate_left
              · intro w'
                try simp only [List.getElem_toArray, List.getElem_cons_succ, List.getElem_cons_zero]
                go_simp
                with_reducible rfl
              rotate_left
              · simp only [Act.put, List.setIfInBounds_toArray, List.set_cons_zero, List.set_cons_succ, i64_w, i32_w]
                rfl
              refine pure_ (i := 24) (N := some 129) (v := ?_) (a' := ?_) #[true, true, true, true, true, true, true, true, true, true, true, true, true, true, true, true, true, true, true, true, true, true, true, true, true, false, false, false, false, false, false] rfl rfl (by kernel_rfl) (fun _ _ _ h => h) (Or.inl ⟨by rfl, ?_⟩) ?_ ?_
              rotate_left
              · intro w'
                try simp only [List.getElem_toArray, List.getElem_cons_succ, List.getElem_cons_zero]
                go_simp
                with_reducible rfl
              rotate_left
              · simp only [Act.put, List.setIfInBounds_toArray, List.set_cons_zero, List.set_cons_succ, i64_w, i32_w]
                rfl
              refine pure_ (i := 25) (N := some 130) (v := ?_) (a' := ?_) #[true, true, true, true, true, true, true, true, true, true, true, true, true, true, true, true, true, true, true, true, true, true, true, true, true, true, false, false, false, false, false] rfl rfl (by kernel_rfl) (fun _ _ _ h => h) (Or.inl ⟨by rfl, ?_⟩) ?_ ?_
              rotate_left
              · intro w'
                try simp only [List.getElem_toArray, List.getElem_cons_succ, List.getElem_cons_zero]
                go_simp
                with_reducible rfl
              rotate_left
              · simp only [Act.put, List.setIfInBounds_toArray, List.set_cons_zero, List.set_cons_succ, i64_w, i32_w]
                rfl
              refine pure_ (i := 26) (N := some 131) (v := ?_) (a' := ?_) #[true, true, true, true, true, true, true, true, true, true, true, true, true, true, true, true, true, true, true, true, true, true, true, true, true, true, true, false, false, false, false] rfl rfl (by kernel_rfl) (fun _ _ _ h => h) (Or.inl ⟨by rfl, ?_⟩) ?_ ?_
              rotate_left
              · intro w'
                try simp only [List.getElem_toArray, List.getElem_cons_succ, List.getElem_cons_zero]
                go_simp
                with_reducible rfl
              rotate_left
              · simp only [Act.put, List.setIfInBounds_toArray, List.set_cons_zero, List.set_cons_succ, i64_w, i32_w]
                rfl
              refine pure_ (i := 27) (N := some 132) (v := ?_) (a' := ?_) #[true, true, true, true, true, true, true, true, true, true, true, true, true, true, true, true, true, true, true, true, true, true, true, true, true, true, true, true, false, false, false] rfl rfl (by kernel_rfl) (fun _ _ _ h => h) (Or.inl ⟨by rfl, ?_⟩) ?_ ?_
              rotate_left
              · intro w'
                try simp only [List.getElem_toArray, List.getElem_cons_succ, List.getElem_cons_zero]
                go_simp
                with_reducible rfl
              rotate_left
              · simp only [Act.put, List.setIfInBounds_toArray, List.set_cons_zero, List.set_cons_succ, i64_w, i32_w]
                rfl
              refine pure_ (i := 28) (N := some 133) (v := ?_) (a' := ?_) #[true, true, true, true, true, true, true, true, true, true, true, true, true, true, true, true, true, true, true, true, true, true, true, true, true, true, true, true, true, false, false] rfl rfl (by kernel_rfl) (fun _ _ _ h => h) (Or.inl ⟨by rfl, ?_⟩) ?_ ?_
              rotate_left
              · intro w'
                try simp only [List.getElem_toArray, List.getElem_cons_succ, List.getElem_cons_zero]
                go_simp
                with_reducible rfl
              rotate_left
              · simp only [Act.put, List.setIfInBounds_toArray, List.set_cons_zero, List.set_cons_succ, i64_w, i32_w]
                rfl
              refine take_ (i := 29) (N := some 134) (v := ?_) (a' := ?_) #[true, true, true, true, true, true, true, true, true, true, true, true, true, true, true, true, true, true, true, true, true, true, true, true, true, true, true, true, true, true, false] rfl rfl (by kernel_rfl) (fun _ _ _ h => h) (Or.inl ⟨by rfl, ?_⟩) hHeld ?_ ?_
              rotate_left
              · rintro w' ⟨s0, s1, s2, s3, s4⟩
                try simp only [List.getElem_toArray, List.getElem_cons_succ, List.getElem_cons_zero]
                go_simp
                with_reducible rfl
              rotate_left
              · simp only [Act.put, List.setIfInBounds_toArray, List.set_cons_zero, List.set_cons_succ, i64_w, i32_w]
                rfl
              refine pure_ (i := 30) (N := some 135) (v := ?_) (a' := ?_) #[true, true, true, true, true, true, true, true, true, true, true, true, true, true, true, true, true, true, true, true, true, true, true, true, true, true, true, true, true, true, true] rfl rfl (by kernel_rfl) (fun _ _ _ h => h) (Or.inl ⟨by rfl, ?_⟩) ?_ ?_
              rotate_left
              · intro w'
                try simp only [List.getElem_toArray, List.getElem_cons_succ, List.getElem_cons_zero]
                go_simp
                with_reducible rfl
              rotate_left
              · simp only [Act.put, List.setIfInBounds_toArray, List.set_cons_zero, List.set_cons_succ, i64_w, i32_w]
                rfl
              refine done_ (by kernel_rfl) ?_

              clear c0 c1 c2 b0 b1 b2
              go_wp2
              exact ⟨⟨k + 1, by omega, by go_num, HF.out.drew⟩, by simp [intOf]; omega⟩
            · obtain rfl : k = U.length := by omega
              have hnU : ¬ ((U.length : Int) < (U.length : Int)) := by omega
              go_wp2
              go_ret
              exact ⟨rfl, (HS10.out.still HF.out).own⟩
    · have HBG : Hid (100000 < (encBytes l).length) := Lib.hid hc1.big
      obtain ⟨M, hM⟩ : ∃ M, M = (encBytes l).length := ⟨_, rfl⟩
      have HBY : Hid (∀ W, IsChg W (.slice vo l.length vc) l → Calls Try.prog 41 #[.slice vo l.length vc] W (BytPost W M)) := Lib.hid (fun W h => by rw [hM]; exact bytes41 _ l W h HL.out)
      have hMI : (100000 : Int) < (M : Int) := by have := HBG.out; omega
      have hMd : decide ((100000 : Int) < (M : Int)) = true := by simpa using hMI
      have hMn : 100000 < M := by omega
      clear hc1 h6 f6 hM
      go_wp2_with (first
        | (go_at_call 41; go_loud (refine (HBY.out w6 (HV.out.fr HS6.out.own (fun _ _ h => h))).mono ?_; rintro e w7 ⟨a7, q7, rfl, f7⟩; have HS7 := Lib.hid (HS6.out.still f7); clear f7)))
      go_ret
      exact ⟨rfl, HS7.out.own⟩
theorem str_of (K : ByteArray) : str K.data.toList = .string K := by
  unfold str
  rw [Array.toArray_toList]
theorem finds_any (v : Value) (l : List Chg) (K P : ByteArray) (w : World) (hv : IsChg w v l) (hl : encN l ≤ 549755813888) : Calls Try.prog 8 #[v, .string K, .string P] w fun e w' => e = .returned (.bool true) ∧ Fr (fun _ => False) w w' := by
  have h := finds_walk v l K.data.toList P.data.toList w hv hl
  rwa [str_of, str_of] at h
end Go.Proofs.Ytnpeeephkkmomaa
