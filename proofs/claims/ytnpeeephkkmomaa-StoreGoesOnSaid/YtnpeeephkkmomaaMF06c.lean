/-
  The laws of the store: a new store; awake.
-/
import Derived.Test.YtnpeeephkkmomaaME
import Derived.ChangeKeysEq
namespace Go.Proofs.Ytnpeeephkkmomaa
open Go.RowKit Go.Proofs.YtnpeeephkkmomaaW.PrintLast
set_option linter.unusedVariables false
set_option linter.unusedSimpArgs false

def S0 : StoV := ⟨0, 0, []⟩
theorem newDk_on (n : Nat) (hn : 4 ≤ n ∧ n ≤ 65536) (D : Dk) (hD : D = newDk n) (ok : D.Ok) : OnDk D n S0 := by
  have hs : D.secs = List.replicate n (List.replicate 64 0) := by
    rw [hD]; simp only [newDk, zSecs]; congr 1; omega
  have hb : D.buf = [] := by rw [hD]; rfl
  have ht : ∀ i, i < 2 → D.told i = dblB [0, 0, 0, 0] := fun i hi => by
    rw [told_nil hb, hs, List.getD_eq_getElem?_getD, List.getElem?_replicate, if_pos (by omega)]; rfl
  have hz : ∀ u ∈ [(0 : Int), 0, 0, 0], in64 u := by
    intro u hu
    simp only [List.mem_cons, List.not_mem_nil, or_false, or_self] at hu
    subst hu; constructor <;> decide
  refine ⟨⟨ok, by rw [hs, List.length_replicate], hb, by rw [hD]; rfl, by rw [hD]; simp [newDk]⟩, by decide, ⟨fun _ => ⟨rfl, rfl, rfl⟩, (0, 0, 0, 0), ht 1 (by omega), ht 0 (by omega), hz, hz, .inr ⟨rfl, rfl⟩⟩, Good.nil _ _, Nat.zero_le _, fun f hf => by cases hf⟩
theorem st_new (n : Nat) (hn : 4 ≤ n ∧ n ≤ 65536) (W : World) : Calls Try.prog 12 #[.int .i64 n] W fun e w' => ∃ b : Nat, e = .returned (.pointer (some ⟨b, 0, none⟩)) ∧ DkH W w' (fun _ => False) n b S0 := by
  refine (new_any n W (by omega)).mono ?_
  rintro e w' ⟨b, lb, cl, sp, rfl, hd, fr, hb, hlb⟩
  refine ⟨b, rfl, lb, cl, sp, _, _, hd, newDk_on n hn _ rfl hd.ok, fr, fun j hj => ⟨?_, fun h => h⟩, fun j h => h.elim⟩
  rcases hj with h | h | h
  · subst h; exact hb
  · subst h; exact hlb
  · simp [Value.ownBlock] at h
theorem StH.lt {W w : World} {X : Nat → Prop} {n b s cp jp lb cl : Nat} {sp : Array Value} {wv hv : Value} {D : Dk} {S : StoV} (h : StM W w X n b s S cp jp lb cl sp wv hv D) (k : Nat) (hk : stFoot b lb cp jp s wv hv k) : k < w.heap.size := by
  rcases hk with hk | hk | hk | hk | hk
  · exact h.dk.lt k hk
  · rw [hk]; exact lt_of_block h.cell
  · rw [hk]; exact lt_of_block h.j
  · rw [hk]; exact lt_of_block h.st
  · exact h.has.lt k hk
/-- A step of others', at blocks aside or new. -/
theorem StH.frX {W w w' : World} {X : Nat → Prop} {n b s : Nat} {S : StoV} (h : StH W w X n b s S) {F : Nat → Prop} (hf : Fr F w w') (hF : ∀ j, F j → X j ∨ w.heap.size ≤ j) (hXW : ∀ j, X j → W.heap.size ≤ j) (X' : Nat → Prop) (hX : ∀ j, X' j → (X j ∨ w.heap.size ≤ j) ∧ j < w'.heap.size) : StH W w' X' n b s S := by
  obtain ⟨cp, jp, lb, cl, sp, wv, hv, D, h⟩ := h
  have hn : ∀ j, stFoot b lb cp jp s wv hv j → ¬ F j := fun j hj hf => by
    rcases hF j hf with h1 | h1
    · exact (h.foot j hj).2 h1
    · have := StH.lt h j hj; omega
  refine ⟨cp, jp, lb, cl, sp, wv, hv, D, h.dk.fr hf (fun j hj => hn j (.inl hj)), h.cell.fr hf (hn cp (.inr (.inl rfl))), h.j.fr hf (hn jp (.inr (.inr (.inl rfl)))), hf.at h.st (hn s (.inr (.inr (.inr (.inl rfl))))), h.has.fr hf (fun k hk => hn k (.inr (.inr (.inr (.inr hk))))), h.on, h.ncp, h.njp, h.ns, h.ne, h.nhv, h.own.trans hf (fun j hj => ?_), fun j hj => ⟨(h.foot j hj).1, fun hx => ?_⟩, fun j hj => (hX j hj).2⟩
  · rcases hF j hj with h1 | h1
    · exact .inr (hXW j h1)
    · exact .inr (Nat.le_trans h.own.size h1)
  · rcases (hX j hx).1 with h1 | h1
    · exact (h.foot j hj).2 h1
    · have := StH.lt h j hj; omega
theorem encBytes_le (l : List Chg) : (encBytes l).length ≤ encN l := by
  have := encAll_length l
  unfold encBytes; rw [List.length_append, be8_length]; omega
theorem IsChg.of_block {w : World} {g : Nat} {l : List Chg} {T : TypeId} (h : w.heap[g]? = some (.cells (l.flatMap chCells).toArray T (0, 0))) (n : Nat) (hn : n = l.length) (hl : l.length ≤ 1099511627776) : IsChg w (.slice (some ⟨g, 0, none⟩) n n) l := by
  subst hn
  refine ⟨some ⟨g, 0, none⟩, l.length, rfl, Nat.le_refl _, by omega, by simp, ?_⟩
  rintro a ha j u hu
  cases ha
  rw [Addr.add_mk, Nat.zero_add, cells_at h]
  simpa using hu
/-- A Commit that finds room in the area that is in use. -/
theorem StH.app {W w : World} {X : Nat → Prop} {n b s : Nat} {S : StoV} (h : StH W w X n b s S) (hn : 4 ≤ n) (ht : S.turn ≤ 4611686018427387000) (v : Value) (l : List Chg) (hv : IsChg w v l) (hl : encN l ≤ 1048576) (hf : S.en + encN l + 16 ≤ halfN n * 64) :
    Calls Try.prog 39 #[.pointer (some ⟨s, 0, none⟩), v] w fun e w' => e = .returned (.int .i64 0) ∧ StH W w' X n b s (S.app l) ∧ Fr (Aside W X) w w' := by
  refine (commit39 h hn ht v l hv (by omega)).mono ?_
  rintro e w' ⟨er, S', rfl, hc, h1, h2⟩
  have hle := encBytes_le l
  have hft : Fits n S.en (encBytes l).length := ⟨by omega, by omega⟩
  cases hc with
  | app _ => exact ⟨rfl, h1, h2⟩
  | snap hx _ => exact absurd hft hx
  | full hx _ => exact absurd hft hx

def lA1 : List Chg := [⟨[97], [49], false⟩, ⟨[98], [50], false⟩]
def lA2 : List Chg := [⟨[97], [], true⟩]
def lB : List Chg := [⟨[98], [50], false⟩]
theorem awake_room : (S0.app lA1).en + encN lA2 + 16 ≤ halfN 20 * 64 := by
  rw [(app_facts S0 lA1).2.1]
  have h1 := encBytes_le lA1
  have h2 : encN lA1 = 46 := by decide
  have h3 : encN lA2 = 26 := by decide
  have h4 : S0.en = 0 := rfl
  have h5 : halfN 20 = 9 := rfl
  omega
def SA : StoV := (S0.app lA1).app lA2
theorem SA_has : SA.has = lB := by
  unfold SA
  rw [(app_facts _ _).2.2.2, (app_facts _ _).2.2.2]; rfl
set_option maxRecDepth 100000 in
theorem eq75 (a b : ByteArray) (x : Bool) (w : World) : (Op.equalIn 10000 75 (.agg #[.string a, .string b, .bool x]) (.agg #[.string a, .string b, .bool x])).run Try.prog w = .ok true w := by
  have hu : Try.prog.underlying 75 = some (.struct (Try.prog.fieldsOf 75)) := by kernel_rfl
  have hp : Try.prog.stoodInHeld 75 = false := by kernel_rfl
  obtain ⟨fs, hfs⟩ : ∃ fs, fs = (Try.prog.fieldsOf 75).toList := ⟨_, rfl⟩
  have hk : (fs.map fun f => (f.name == "_", f.type, f.offset)) = [(false, 9, 0), (false, 9, 1), (false, 4, 2)] := by rw [hfs]; kernel_rfl
  rw [show (10000 : Nat) = 9999 + 1 from rfl, run_equalIn_struct w 9999 75 _ _ hu hp, ← hfs]
  obtain ⟨f0, f1, f2, rfl⟩ : ∃ f0 f1 f2, fs = [f0, f1, f2] := by
    match fs, hk with
    | [f0, f1, f2], _ => exact ⟨f0, f1, f2, rfl⟩
  simp only [List.map_cons, List.map_nil, List.cons.injEq, Prod.mk.injEq, and_true] at hk
  obtain ⟨⟨n0, t0, o0⟩, ⟨n1, t1, o1⟩, n2, t2, o2⟩ := hk
  have k9 : Try.prog.plainKey 9 = true := by kernel_rfl
  have k4 : Try.prog.plainKey 4 = true := by kernel_rfl
  have n0' : f0.name ≠ "_" := by simpa using n0
  have n1' : f1.name ≠ "_" := by simpa using n1
  have n2' : f2.name ≠ "_" := by simpa using n2
  have p0 : ∀ W, (part 9 #[.string a, .string b, .bool x] 0).run Try.prog W = .ok (.string a) W := fun W => run_part_plain W k9 rfl
  have p1 : ∀ W, (part 9 #[.string a, .string b, .bool x] 1).run Try.prog W = .ok (.string b) W := fun W => run_part_plain W k9 rfl
  have p2 : ∀ W, (part 4 #[.string a, .string b, .bool x] 2).run Try.prog W = .ok (.bool x) W := fun W => run_part_plain W k4 rfl
  have q9 : ∀ c W, (Op.equalIn 9999 9 (.string c) (.string c)).run Try.prog W = .ok true W := fun c W => by
    rw [show (9999 : Nat) = 9998 + 1 from rfl, run_equalIn_string W 9998 9 c c (by kernel_rfl)]; simp
  have q4 : ∀ c W, (Op.equalIn 9999 4 (.bool c) (.bool c)).run Try.prog W = .ok true W := fun c W => by
    rw [show (9999 : Nat) = 9998 + 1 from rfl, run_equalIn_bool' W 9998 4 c c (by kernel_rfl)]; simp
  simp [Op.eqFields, n0', n1', n2', t0, t1, t2, o0, o1, o2, p0, p1, p2, q9, q4]
set_option maxRecDepth 100000 in
set_option maxHeartbeats 2000000 in
theorem awake6 (w : World) : Calls Try.prog 37 #[] w fun e w' => e = .returned (.bool true) ∧ Fr (fun _ => False) w w' := by
  have M1 : Hid True := Lib.hid trivial
  have heq : (∀ a b x w, (Op.equalIn 10000 75 (.agg #[.string a, .string b, .bool x]) (.agg #[.string a, .string b, .bool x])).run Try.prog w = .ok true w) := eq75
  go_enter Try.func37, Try.ntmps37
  go_wp2_with (first
    | (go_at_call 12; refine (st_new 20 (by decide) w).mono ?_; rintro e w1 ⟨b, rfl, hd⟩; have HD := Lib.hid hd; clear hd)
    | (go_at_call 36; refine (open36 HD.out (by decide)).mono ?_; rintro e w2 ⟨s, rfl, hs, _⟩; have HS := Lib.hid hs; clear hs)
    | (go_at_call 39; clear M1; go_loud (refine ((HS.out.still ((Fr.refl (fun _ => False) w2).alloc _)).app (by decide) (by decide) _ lA1 (IsChg.of_block (heap_alloc_at w2 _) 2 rfl (by decide)) (by decide) (by decide)).mono ?_; rintro e w3 ⟨rfl, h3, f3⟩; have HS3 := Lib.hid h3; clear h3 f3))
    | (go_at_call 39; go_loud (refine ((HS3.out.still ((Fr.refl (fun _ => False) w3).alloc _)).app (by decide) (by decide) _ lA2 (IsChg.of_block (heap_alloc_at w3 _) 1 rfl (by decide)) (by decide) awake_room).mono ?_; rintro e w4 ⟨rfl, h4, f4⟩; have HS4 : Hid (StH w w4 (fun _ => False) 20 b s SA) := Lib.hid h4; clear h4 f4))
    | (go_at_call 44
       go_loud (
       refine (HS4.out.under []).mono ?_
       rintro e w5 ⟨v5, rfl, o5, n5, h5, f5⟩
       rw [SA_has] at o5
       have o6 : OwnChg w5 v5 lB := o5
       have HS5 := Lib.hid h5
       have HF5 := Lib.hid f5
       obtain ⟨vo, vc, hv5⟩ := o6.slice
       have hv6 : v5 = .slice vo 1 vc := hv5
       subst hv6
       obtain ⟨ab, off, rfl, c0, c1, c2⟩ := o6.chg.at 0 (by decide)
       have d0 : w5.cell? ⟨ab, off, none⟩ = some (.string ⟨#[98]⟩) := by rw [cell?_mk]; exact c0
       have d1 : w5.cell? ⟨ab, off + 1, none⟩ = some (.string ⟨#[50]⟩) := by rw [cell?_mk]; exact c1
       have d2 : w5.cell? ⟨ab, off + 2, none⟩ = some (.bool false) := by rw [cell?_mk]; exact c2
       clear o5 o6 n5 h5 f5 hv5 c0 c1 c2))
    | (go_at_call 43
       go_loud (
       refine (HS5.out.get [97]).mono ?_
       rw [show getOf SA.has [97] = ([], false) by rw [SA_has]; rfl]
       rintro e w6 ⟨rfl, h6, f6⟩
       have HS6 := Lib.hid h6
       have e0 := f6.cell d0
       have e1 := f6.cell d1
       have e2 := f6.cell d2
       rw [cell?_mk] at e0 e1 e2
       clear h6 f6 d0 d1 d2))
    | (go_at_call 46
       go_loud (
       refine HS6.out.count.mono ?_
       rw [show SA.has.length = 1 by rw [SA_has]; rfl]
       rintro e w7 ⟨rfl, rfl⟩)))
  go_ret
  exact ⟨rfl, HS6.out.own⟩
end Go.Proofs.Ytnpeeephkkmomaa
namespace Go.Proofs.Ytnpeeephkkmomaa
open Go.RowKit
set_option linter.unusedVariables false
set_option linter.unusedSimpArgs false

theorem Rising.inj {L : List Chg} (hr : Rising L) {i j : Nat} (hi : i < L.length) (hj : j < L.length) (he : L[i].key = L[j].key) : i = j := by
  rcases Nat.lt_trichotomy i j with h | h | h
  · have := hr i j hi hj h; rw [he, cb_refl] at this; exact absurd this (by decide)
  · exact h
  · have := hr j i hj hi h; rw [he, cb_refl] at this; exact absurd this (by decide)
theorem mem_applyOne {L : List Chg} (hr : Rising L) (c x : Chg) : x ∈ applyOne L c ↔ (x = c ∧ c.gone = false) ∨ (x ∈ L ∧ x.key ≠ c.key) := by
  have F := findAt_pos L c.key hr
  unfold applyOne
  cases hk : hasKey L c.key with
  | true =>
    rw [hk] at F
    obtain ⟨hp, hpk⟩ := F.is.1 rfl
    have hiff : ∀ i (h : i < L.length), L[i].key = c.key ↔ i = posOf L c.key := fun i h =>
      ⟨fun e => hr.inj h hp (by rw [e, hpk]), fun e => by subst e; exact hpk⟩
    cases hg : c.gone with
    | true =>
      simp only [if_true, Bool.true_eq_false, and_false, false_or]
      rw [List.mem_eraseIdx_iff_getElem]
      constructor
      · rintro ⟨i, hi, hne, rfl⟩
        exact ⟨List.getElem_mem hi, fun e => hne ((hiff i hi).1 e)⟩
      · rintro ⟨hx, hne⟩
        obtain ⟨i, hi, rfl⟩ := List.mem_iff_getElem.1 hx
        exact ⟨i, hi, fun e => hne ((hiff i hi).2 e), rfl⟩
    | false =>
      simp only [if_true, Bool.false_eq_true, if_false, and_true]
      constructor
      · intro hx
        obtain ⟨i, hi, rfl⟩ := List.mem_iff_getElem.1 hx
        rw [List.length_set] at hi
        rw [List.getElem_set]
        split
        · exact .inl rfl
        · rename_i hne
          exact .inr ⟨List.getElem_mem hi, fun e => hne ((hiff i hi).1 e).symm⟩
      · rintro (rfl | ⟨hx, hne⟩)
        · exact List.mem_iff_getElem.2 ⟨posOf L x.key, by rw [List.length_set]; exact hp, by rw [List.getElem_set_self]⟩
        · obtain ⟨i, hi, rfl⟩ := List.mem_iff_getElem.1 hx
          exact List.mem_iff_getElem.2 ⟨i, by rw [List.length_set]; exact hi, by rw [List.getElem_set_ne (fun e => hne ((hiff i hi).2 e.symm))]⟩
  | false =>
    have hno : ∀ x ∈ L, x.key ≠ c.key := fun x hx e => by
      unfold hasKey at hk
      rw [List.any_eq_false] at hk
      exact hk x hx (by simpa using e)
    cases hg : c.gone with
    | true => simp only [Bool.false_eq_true, if_false, if_true, Bool.true_eq_false, and_false, false_or]; exact ⟨fun h => ⟨h, hno x h⟩, fun h => h.1⟩
    | false =>
      simp only [Bool.false_eq_true, if_false, and_true]
      rw [List.mem_append, List.mem_cons]
      constructor
      · rintro (h | h | h)
        · exact .inr ⟨List.mem_of_mem_take h, hno x (List.mem_of_mem_take h)⟩
        · exact .inl h
        · exact .inr ⟨List.mem_of_mem_drop h, hno x (List.mem_of_mem_drop h)⟩
      · rintro (h | ⟨h, _⟩)
        · exact .inr (.inl h)
        · rw [← List.take_append_drop (posOf L c.key) L, List.mem_append] at h
          rcases h with h | h
          · exact .inl h
          · exact .inr (.inr h)
theorem getOf_mem {L : List Chg} (hr : Rising L) {c : Chg} (hc : c ∈ L) : getOf L c.key = (c.val, true) := by
  unfold getOf
  cases hf : L.find? (fun x => x.key == c.key) with
  | none =>
    rw [List.find?_eq_none] at hf
    exact absurd (beq_self_eq_true c.key) (hf c hc)
  | some d =>
    have h1 := List.mem_of_find?_eq_some hf
    have h2 := List.find?_some hf
    obtain ⟨i, hi, rfl⟩ := List.mem_iff_getElem.1 h1
    obtain ⟨j, hj, rfl⟩ := List.mem_iff_getElem.1 hc
    have h3 : L[i].key = L[j].key := by simpa using h2
    obtain rfl := hr.inj hi hj h3
    rfl
theorem getOf_none {L : List Chg} {k : List UInt8} (h : ∀ c ∈ L, c.key ≠ k) : getOf L k = ([], false) := by
  unfold getOf
  have : L.find? (fun x => x.key == k) = none := by
    rw [List.find?_eq_none]
    intro c hc he
    exact h c hc (by simpa using he)
  rw [this]
theorem getOf_cases {L : List Chg} (hr : Rising L) (k : List UInt8) : (∃ c ∈ L, c.key = k ∧ getOf L k = (c.val, true)) ∨ ((∀ c ∈ L, c.key ≠ k) ∧ getOf L k = ([], false)) := by
  by_cases h : ∃ c ∈ L, c.key = k
  · obtain ⟨c, hc, rfl⟩ := h
    exact .inl ⟨c, hc, rfl, getOf_mem hr hc⟩
  · have h' : ∀ c ∈ L, c.key ≠ k := fun c hc e => h ⟨c, hc, e⟩
    exact .inr ⟨h', getOf_none h'⟩
theorem getOf_put {L : List Chg} (hr : Rising L) (c : Chg) (hg : c.gone = false) (k : List UInt8) : getOf (applyOne L c) k = if k = c.key then (c.val, true) else getOf L k := by
  have hr' := hr.one c
  split
  · rename_i e
    subst e
    exact getOf_mem hr' ((mem_applyOne hr c c).2 (.inl ⟨rfl, hg⟩))
  · rename_i hne
    rcases getOf_cases hr k with ⟨d, hd, rfl, e⟩ | ⟨hno, e⟩
    · rw [e]
      exact getOf_mem hr' ((mem_applyOne hr c d).2 (.inr ⟨hd, hne⟩))
    · rw [e]
      refine getOf_none fun d hd he => ?_
      rcases (mem_applyOne hr c d).1 hd with ⟨rfl, _⟩ | ⟨h1, _⟩
      · exact hne he.symm
      · exact hno d h1 he

/-- Four keys at most. -/
def Four (L : List Chg) : Prop := ∀ c ∈ L, (∃ x : UInt8, c.key = [x] ∧ 97 ≤ x.toNat ∧ x.toNat ≤ 100) ∧ c.val.length ≤ 3
theorem Four.len {L : List Chg} (h : Four L) (hr : Rising L) : L.length ≤ 4 := by
  have key : ∀ i (hi : i < L.length), ∃ x : UInt8, L[i].key = [x] ∧ 97 + i ≤ x.toNat := by
    intro i
    induction i with
    | zero =>
      intro hi
      obtain ⟨⟨x, hx, h1, _⟩, _⟩ := h _ (List.getElem_mem hi)
      exact ⟨x, hx, by omega⟩
    | succ i ih =>
      intro hi
      obtain ⟨y, hy, hy2⟩ := ih (by omega)
      obtain ⟨⟨x, hx, h1, _⟩, _⟩ := h _ (List.getElem_mem hi)
      refine ⟨x, hx, ?_⟩
      have h2 := hr i (i + 1) (by omega) hi (by omega)
      rw [hx, hy, cb_cons] at h2
      split at h2
      · omega
      · split at h2
        · omega
        · simp [Lib.compareBytes] at h2
  rcases Nat.lt_or_ge 4 L.length with h4 | h4
  · obtain ⟨x, hx, hx2⟩ := key 4 h4
    obtain ⟨⟨y, hy, h1, h2⟩, _⟩ := h _ (List.getElem_mem h4)
    rw [hx] at hy
    cases hy
    omega
  · exact h4
theorem Four.encN {L : List Chg} (h : Four L) (hr : Rising L) : encN L ≤ 92 := by
  have h4 := h.len hr
  have : ∀ L : List Chg, Four L → Go.Proofs.Ytnpeeephkkmomaa.encN L ≤ 8 + 21 * L.length := by
    intro L
    induction L with
    | nil => intro _; simp [Go.Proofs.Ytnpeeephkkmomaa.encN]
    | cons c L ih =>
      intro hL
      have h1 := ih (fun x hx => hL x (by simp [hx]))
      obtain ⟨⟨x, hx, _⟩, h3⟩ := hL c (by simp)
      have h2 : c.key.length = 1 := by rw [hx]; rfl
      simp only [Go.Proofs.Ytnpeeephkkmomaa.encN, List.map_cons, List.sum_cons, List.length_cons] at *
      omega
  have := this L h
  omega
theorem Four.one {L : List Chg} (h : Four L) (hr : Rising L) (c : Chg) (hc : (∃ x : UInt8, c.key = [x] ∧ 97 ≤ x.toNat ∧ x.toNat ≤ 100) ∧ c.val.length ≤ 3) : Four (applyOne L c) := by
  intro d hd
  rcases (mem_applyOne hr c d).1 hd with ⟨rfl, _⟩ | ⟨h1, _⟩
  · exact hc
  · exact h d h1
end Go.Proofs.Ytnpeeephkkmomaa
namespace Go.Proofs.Ytnpeeephkkmomaa
open Go.RowKit Go.Proofs.YtnpeeephkkmomaaW.PrintLast
set_option linter.unusedVariables false
set_option linter.unusedSimpArgs false
attribute [local go_sem] beq_self_eq_true bne_self_eq_false

theorem IsBytes.at {w : World} {ao : Option Addr} {n cap : Nat} {l : List UInt8} (h : IsBytes w (.slice ao n cap) l) (k : Nat) (hk : k < l.length) :
    ∃ ab off, ao = some ⟨ab, off, none⟩ ∧ cellIn w.heap[ab]? (off + k) = some (.int .u8 l[k].toNat) := by
  obtain ⟨ao', cap', hv, h1, h2, h3, h4⟩ := h.is
  simp only [Value.slice.injEq] at hv
  obtain ⟨rfl, _, rfl⟩ := hv
  cases ao with
  | none => rw [h3 rfl] at hk; simp at hk
  | some a =>
    have q0 := h4 a rfl k _ (Bs_at l k hk)
    have z0 := h4 a rfl 0 _ (Bs_at l 0 (by omega))
    have hs := cell_spot z0 rfl
    obtain ⟨ab, off, sp⟩ := a
    simp only at hs
    subst hs
    rw [Addr.add_mk, cell?_mk] at q0
    exact ⟨ab, off, rfl, q0⟩
theorem StH.put1 {W w : World} {X : Nat → Prop} {b s : Nat} {S : StoV} (h : StH W w X 10 b s S) (hF : Four S.has) (ht : S.turn ≤ 4611686018427387000) (v : Value) (c : Chg) (hc : (∃ x : UInt8, c.key = [x] ∧ 97 ≤ x.toNat ∧ x.toNat ≤ 100) ∧ c.val.length ≤ 3) (hg : c.gone = false) (hv : IsChg w v [c]) :
    Calls Try.prog 39 #[.pointer (some ⟨s, 0, none⟩), v] w fun e w' => e = .returned (.int .i64 0) ∧ ∃ S', StH W w' X 10 b s S' ∧ S'.has = applyOne S.has c ∧ S'.turn = S.turn + 1 ∧ Fr (Aside W X) w w' := by
  have hr : Rising S.has := (hasOf_kept S.fs).1
  have hk2 : c.key.length = 1 := by obtain ⟨⟨x, hx, _⟩, _⟩ := hc; rw [hx]; rfl
  have hen : encN [c] ≤ 29 := by simp [encN]; omega
  have h1 := (hF.one hr c hc).encN (hr.one c)
  have h2 := encBytes_le (applyAll S.has [c])
  have e : applyAll S.has [c] = applyOne S.has c := rfl
  refine (commit39 h (by decide) ht v [c] hv (by omega)).mono ?_
  rintro e w' ⟨er, S', rfl, hcm, h3, h4⟩
  have hfit : Fits 10 0 (encBytes (applyAll S.has [c])).length := by
    rw [e] at h2 ⊢
    have h6 : halfN 10 = 4 := rfl
    exact ⟨by omega, by omega⟩
  cases hcm with
  | app _ => exact ⟨rfl, _, h3, (app_facts S [c]).2.2.2, rfl, h4⟩
  | snap _ _ => exact ⟨rfl, _, h3, (snap_facts S [c]).2.2.2, rfl, h4⟩
  | full _ hx => exact absurd hfit hx
def strRow (ms : List (List UInt8)) : Array Value := (ms.map str).toArray
def kOf (k : Nat) : UInt8 := UInt8.ofNat (97 + k)
theorem kOf_nat (k : Nat) (h : k < 4) : (kOf k).toNat = 97 + k := by unfold kOf; rw [UInt8.toNat_ofNat']; omega
theorem kOf_inj {i j : Nat} (hi : i < 4) (hj : j < 4) (h : kOf i = kOf j) : i = j := by
  have := congrArg UInt8.toNat h
  rw [kOf_nat i hi, kOf_nat j hj] at this; omega
structure GoIs (w : World) (b s hb i : Nat) (S : StoV) (ms : List (List UInt8)) (wr : World) : Prop where
  st : StH w wr (fun j => j = hb) 10 b s S
  turn : S.turn ≤ i
  four : Four S.has
  len : ms.length = 4
  row : wr.heap[hb]? = some (.cells (strRow ms) 77 (0, 0))
  get : ∀ k (h : k < ms.length), (getOf S.has [kOf k]).1 = ms[k]
  new : w.heap.size ≤ hb

theorem fr_drew_alloc (w : World) (o : Obj) : Fr (fun _ => False) w.drew (w.alloc o).drew := by
  have h := (Fr.refl (fun _ => False) w).alloc o
  exact ⟨h.os, h.tape, h.output, h.size, h.block⟩
theorem goes_begin {w w3 : World} {b s : Nat} (h : StH w w3 (fun _ => False) 10 b s S0) : GoIs w b s w3.heap.size 0 S0 [[], [], [], []] (w3.alloc (.cells #[.string ByteArray.empty, .string ByteArray.empty, .string ByteArray.empty, .string ByteArray.empty] 77 (0, 0))) := by
  refine ⟨h.frX (F := fun _ => False) ((Fr.refl _ w3).alloc _) (fun _ h => h.elim) (fun _ h => h.elim) _ (fun j hj => ⟨.inr (by omega), ?_⟩), Nat.le_refl _, fun c hc => (by cases hc), rfl, heap_alloc_at w3 _, fun k hk => ?_, h.own.size⟩
  · subst hj; simp
  · have e : getOf S0.has [kOf k] = ([], false) := rfl
    rw [e]
    have hk' : k < 4 := hk
    rcases (by omega : k = 0 ∨ k = 1 ∨ k = 2 ∨ k = 3) with rfl | rfl | rfl | rfl <;> rfl

set_option maxRecDepth 100000 in
set_option maxHeartbeats 4000000 in
theorem goes_walk (v : Value) (l : List UInt8) (w : World) (hv : IsBytes w v l) : Calls Try.prog 9 #[v] w fun e w' => e = .returned (.bool true) ∧ Fr (fun _ => False) w w' := by
  obtain ⟨vo, vc, rfl, k1, k2, _⟩ := hv.is
  have HV := Lib.hid hv; have HK := Lib.hid (And.intro k1 k2)
  clear hv k1 k2
  go_enter Try.func9, Try.ntmps9
  go_wp2_with (first
    | (go_at_call 12; refine (st_new 10 (by decide) w).mono ?_; rintro e w1 ⟨b, rfl, hd⟩; have HD := Lib.hid hd; clear hd)
    | (go_at_call 36; refine (open36 HD.out (by decide)).mono ?_; rintro e w2 ⟨s, rfl, hs, _⟩; have HS := Lib.hid hs; clear hs)
    | (go_at_call 37; refine (awake6 w2).mono ?_; rintro e w3 ⟨rfl, f3⟩; have HS3 := Lib.hid (HS.out.still f3); clear f3))
  obtain ⟨hb, hhb⟩ : ∃ hb, hb = w3.heap.size := ⟨_, rfl⟩
  have HG3 : Hid (GoIs w b s hb 0 S0 [[], [], [], []] (w3.alloc (.cells #[.string ByteArray.empty, .string ByteArray.empty, .string ByteArray.empty, .string ByteArray.empty] 77 (0, 0)))) := Lib.hid (by rw [hhb]; exact goes_begin HS3.out)
  rw [← hhb]
  clear hhb
  go_loopw [6] (fun i wr => ∃ (k : Nat) (S : StoV) (ms : List (List UInt8)), k ≤ l.length ∧ k ≤ 300 ∧ i = .int .i64 k ∧ GoIs w b s hb k S ms wr) (fun i _ => l.length - (intOf i).toNat)
  case atStart => exact ⟨0, S0, _, Nat.zero_le _, by omega, rfl, HG3.out⟩
  case round =>
    clear HG3
    obtain ⟨i, S, ms, hi, hi3, rfl, hg⟩ := hrel
    have HG := Lib.hid hg
    have hlen := hg.len
    have hrow := hg.row
    by_cases hlt : i < l.length ∧ i < 300
    · obtain ⟨hlt1, hlt2⟩ := hlt
      have hw1 : IntKind.i64.wrap ((i : Int) + 1) = (i : Int) + 1 := IntWalk.i64_in _ (by omega)
      have hiI : (i : Int) < (l.length : Int) := by omega
      have hi3I : (i : Int) < 300 := by omega
      have t1 : decide ((i : Int) < (l.length : Int)) = true := by simp; omega
      have t1n : decide (i < l.length) = true := by simp; omega
      have t2 : decide ((i : Int) < 300) = true := by simp; omega
      have t2n : decide (i < 300) = true := by simp; omega
      obtain ⟨ab, off, rfl, hc0⟩ := HV.out.at i hlt1
      have hcr : cellIn wr.heap[ab]? (off + i) = some (.int .u8 l[i].toNat) := by
        rw [← cell?_mk] at hc0 ⊢
        exact hg.st.own.cell hc0
      obtain ⟨x, hx⟩ : ∃ x, x = l[i].toNat := ⟨_, rfl⟩
      have hx256 : x < 256 := by rw [hx]; exact l[i].toNat_lt
      rw [← hx] at hcr
      have HX := Lib.hid hx
      obtain ⟨k, hk⟩ : ∃ k, k = x % 4 := ⟨_, rfl⟩
      obtain ⟨y1, hy1⟩ : ∃ y, y = 48 + x % 10 := ⟨_, rfl⟩
      obtain ⟨y2, hy2⟩ : ∃ y, y = 97 + x % 26 := ⟨_, rfl⟩
      have hk4 : k < 4 := by omega
      have hkI : (k : Int) < 4 := by omega
      have HKX := Lib.hid (And.intro hk (And.intro hy1 (And.intro hy2 hk4)))
      have hxk : (x : Int) % 4 = (k : Int) := by omega
      obtain ⟨z1, hz1⟩ : ∃ z, z = x % 10 := ⟨_, rfl⟩
      obtain ⟨z2, hz2⟩ : ∃ z, z = x % 26 := ⟨_, rfl⟩
      have hxz1 : (x : Int).tmod 10 = (z1 : Int) := by rw [Int.tmod_eq_emod_of_nonneg (by omega)]; omega
      have hxz2 : (x : Int).tmod 26 = (z2 : Int) := by rw [Int.tmod_eq_emod_of_nonneg (by omega)]; omega
      have hwz1 : IntKind.u8.wrap (48 + (z1 : Int)) = (y1 : Int) := by rw [IntKind.wrap_u8]; omega
      have hwz2 : IntKind.u8.wrap (97 + (z2 : Int)) = (y2 : Int) := by rw [IntKind.wrap_u8]; omega
      obtain ⟨c1, hc1⟩ : ∃ c : UInt8, c.toNat = y1 := ⟨UInt8.ofNat y1, by rw [UInt8.toNat_ofNat']; omega⟩
      obtain ⟨c2, hc2⟩ : ∃ c : UInt8, c.toNat = y2 := ⟨UInt8.ofNat y2, by rw [UInt8.toNat_ofNat']; omega⟩
      obtain ⟨V2, hV2⟩ : ∃ V : ByteArray, V = ⟨[c1, c2].toArray⟩ := ⟨_, rfl⟩
      obtain ⟨V3, hV3⟩ : ∃ V : ByteArray, V = ⟨[118, c1, c2].toArray⟩ := ⟨_, rfl⟩
      have hV2s : V2.size = 2 := by rw [hV2]; rfl
      have hcat : (⟨#[118]⟩ : ByteArray) ++ V2 = V3 := by rw [hV2, hV3]; rfl
      have HCV : Hid (∀ (g : Nat) (W : World), W.heap[g]? = some (.cells #[.int .u8 (y1 : Int), .int .u8 (y2 : Int)] 5 (0, 0)) → cvStr Try.prog 30 9 (.slice (some ⟨g, 0, none⟩) 2 2) W = .ok (.value (.string V2)) W) := Lib.hid (fun g W h => by
        have hb : IsBytes W (.slice (some ⟨g, 0, none⟩) 2 2) [c1, c2] := IsBytes.of_cells (l := [c1, c2]) (T := 5) (fr := (0, 0)) (by rw [h]; simp [Bs, hc1, hc2]) (by simp)
        rw [cv309 W _ _ hb, hV2]; rfl)
      have HV3 := Lib.hid hV3
      have hcrd : cellIn wr.drew.heap[ab]? (off + i) = some (.int .u8 x) := hcr
      have hsz : (strRow ms).size = 4 := by simp [strRow, hlen]
      clear hx hc0 hg hz1 hz2 hy1 hy2 hk hc1 hc2 hV2 hV3
      go_wp2
      refine start_ (n := 18) (S := fun w' => cellIn w'.heap[ab]? (off + i) = some (.int .u8 (x : Int))) (ds := [13, 14, 17]) #[false, false, false, false, false, false, false, false, false, false, false, false, false, false, false, false, false, false] (by kernel_rfl) rfl rfl (hcrd) (fun hHeld => ?_)
      refine pure_ (i := 0) (N := some 42) (v := ?_) (a' := ?_) #[true, false, false, false, false, false, false, false, false, false, false, false, false, false, false, false, false, false] rfl rfl (by kernel_rfl) (fun _ _ _ h => h) (Or.inl ⟨by rfl, ?_⟩) ?_ ?_
      rotate_left
      · intro w'
        try simp only [List.getElem_toArray, List.getElem_cons_succ, List.getElem_cons_zero]
        go_simp
        with_reducible rfl
      rotate_left
      · simp only [Act.put, List.setIfInBounds_toArray, List.set_cons_zero, List.set_cons_succ, i64_w, i32_w]
        rfl
      refine pure_ (i := 1) (N := some 43) (v := ?_) (a' := ?_) #[true, true, false, false, false, false, false, false, false, false, false, false, false, false, false, false, false, false] rfl rfl (by kernel_rfl) (fun _ _ _ h => h) (Or.inl ⟨by rfl, ?_⟩) ?_ ?_
      rotate_left
      · intro w'
        try simp only [List.getElem_toArray, List.getElem_cons_succ, List.getElem_cons_zero]
        go_simp
        with_reducible rfl
      rotate_left
      · simp only [Act.put, List.setIfInBounds_toArray, List.set_cons_zero, List.set_cons_succ, i64_w, i32_w]
        rfl
      refine pure_ (i := 2) (N := some 44) (v := ?_) (a' := ?_) #[true, true, true, false, false, false, false, false, false, false, false, false, false, false, false, false, false, false] rfl rfl (by kernel_rfl) (fun _ _ _ h => h) (Or.inl ⟨by rfl, ?_⟩) ?_ ?_
      rotate_left
      · intro w'
        try simp only [List.getElem_toArray, List.getElem_cons_succ, List.getElem_cons_zero]
        go_simp
        with_reducible rfl
      rotate_left
      · simp only [Act.put, List.setIfInBounds_toArray, List.set_cons_zero, List.set_cons_succ, i64_w, i32_w]
        rfl
      refine pure_ (i := 3) (N := some 45) (v := ?_) (a' := ?_) #[true, true, true, true, false, false, false, false, false, false, false, false, false, false, false, false, false, false] rfl rfl (by kernel_rfl) (fun _ _ _ h => h) (Or.inl ⟨by rfl, ?_⟩) ?_ ?_
      rotate_left
      · intro w'
        try simp only [List.getElem_toArray, List.getElem_cons_succ, List.getElem_cons_zero]
        go_simp
        with_reducible rfl
      rotate_left
      · simp only [Act.put, List.setIfInBounds_toArray, List.set_cons_zero, List.set_cons_succ, i64_w, i32_w]
        rfl
      refine pure_ (i := 7) (N := some 49) (v := ?_) (a' := ?_) #[true, true, true, true, false, false, false, true, false, false, false, false, false, false, false, false, false, false] rfl rfl (by kernel_rfl) (fun _ _ _ h => h) (Or.inl ⟨by rfl, ?_⟩) ?_ ?_
      rotate_left
      · intro w'
        try simp only [List.getElem_toArray, List.getElem_cons_succ, List.getElem_cons_zero]
        go_simp
        with_reducible rfl
      rotate_left
      · simp only [Act.put, List.setIfInBounds_toArray, List.set_cons_zero, List.set_cons_succ, i64_w, i32_w]
        rfl
      refine pure_ (i := 8) (N := some 50) (v := ?_) (a' := ?_) #[true, true, true, true, false, false, false, true, true, false, false, false, false, false, false, false, false, false] rfl rfl (by kernel_rfl) (fun _ _ _ h => h) (Or.inl ⟨by rfl, ?_⟩) ?_ ?_
      rotate_left
      · intro w'
        try simp only [List.getElem_toArray, List.getElem_cons_succ, List.getElem_cons_zero]
        go_simp
        with_reducible rfl
      rotate_left
      · simp only [Act.put, List.setIfInBounds_toArray, List.set_cons_zero, List.set_cons_succ, i64_w, i32_w]
        rfl
      refine pure_ (i := 9) (N := some 51) (v := ?_) (a' := ?_) #[true, true, true, true, false, false, false, true, true, true, false, false, false, false, false, false, false, false] rfl rfl (by kernel_rfl) (fun _ _ _ h => h) (Or.inl ⟨by rfl, ?_⟩) ?_ ?_
      rotate_left
      · intro w'
        try simp only [List.getElem_toArray, List.getElem_cons_succ, List.getElem_cons_zero]
        go_simp
        with_reducible rfl
      rotate_left
      · simp only [Act.put, List.setIfInBounds_toArray, List.set_cons_zero, List.set_cons_succ, i64_w, i32_w]
        rfl
      refine take_ (i := 4) (N := some 46) (v := ?_) (a' := ?_) #[true, true, true, true, true, false, false, true, true, true, false, false, false, false, false, false, false, false] rfl rfl (by kernel_rfl) (fun _ _ _ h => h) (Or.inl ⟨by rfl, ?_⟩) hHeld ?_ ?_
      rotate_left
      · intro w' s0
        try simp only [List.getElem_toArray, List.getElem_cons_succ, List.getElem_cons_zero]
        go_simp
        with_reducible rfl
      rotate_left
      · simp only [Act.put, List.setIfInBounds_toArray, List.set_cons_zero, List.set_cons_succ, i64_w, i32_w]
        rfl
      refine pure_ (i := 5) (N := some 47) (v := ?_) (a' := ?_) #[true, true, true, true, true, true, false, true, true, true, false, false, false, false, false, false, false, false] rfl rfl (by kernel_rfl) (fun _ _ _ h => h) (Or.inl ⟨by rfl, ?_⟩) ?_ ?_
      rotate_left
      · intro w'
        try simp only [List.getElem_toArray, List.getElem_cons_succ, List.getElem_cons_zero]
        go_simp
        with_reducible rfl
      rotate_left
      · simp only [Act.put, List.setIfInBounds_toArray, List.set_cons_zero, List.set_cons_succ, i64_w, i32_w]
        rfl
      refine pure_ (i := 6) (N := some 48) (v := ?_) (a' := ?_) #[true, true, true, true, true, true, true, true, true, true, false, false, false, false, false, false, false, false] rfl rfl (by kernel_rfl) (fun _ _ _ h => h) (Or.inl ⟨by rfl, ?_⟩) ?_ ?_
      rotate_left
      · intro w'
        try simp only [List.getElem_toArray, List.getElem_cons_succ, List.getElem_cons_zero]
        go_simp
        with_reducible rfl
      rotate_left
      · simp only [Act.put, List.setIfInBounds_toArray, List.set_cons_zero, List.set_cons_succ, i64_w, i32_w]
        rfl
      refine take_ (i := 10) (N := some 52) (v := ?_) (a' := ?_) #[true, true, true, true, true, true, true, true, true, true, true, false, false, false, false, false, false, false] rfl rfl (by kernel_rfl) (fun _ _ _ h => h) (Or.inl ⟨by rfl, ?_⟩) hHeld ?_ ?_
      rotate_left
      · intro w' s0
        try simp only [List.getElem_toArray, List.getElem_cons_succ, List.getElem_cons_zero]
        go_simp
        with_reducible rfl
      rotate_left
      · simp only [Act.put, List.setIfInBounds_toArray, List.set_cons_zero, List.set_cons_succ, i64_w, i32_w]
        rfl
      refine pure_ (i := 11) (N := some 53) (v := ?_) (a' := ?_) #[true, true, true, true, true, true, true, true, true, true, true, true, false, false, false, false, false, false] rfl rfl (by kernel_rfl) (fun _ _ _ h => h) (Or.inl ⟨by rfl, ?_⟩) ?_ ?_
      rotate_left
      · intro w'
        try simp only [List.getElem_toArray, List.getElem_cons_succ, List.getElem_cons_zero]
        go_simp
        with_reducible rfl
      rotate_left
      · simp only [Act.put, List.setIfInBounds_toArray, List.set_cons_zero, List.set_cons_succ, i64_w, i32_w]
        rfl
      refine pure_ (i := 12) (N := some 54) (v := ?_) (a' := ?_) #[true, true, true, true, true, true, true, true, true, true, true, true, true, false, false, false, false, false] rfl rfl (by kernel_rfl) (fun _ _ _ h => h) (Or.inl ⟨by rfl, ?_⟩) ?_ ?_
      rotate_left
      · intro w'
        try simp only [List.getElem_toArray, List.getElem_cons_succ, List.getElem_cons_zero]
        go_simp
        with_reducible rfl
      rotate_left
      · simp only [Act.put, List.setIfInBounds_toArray, List.set_cons_zero, List.set_cons_succ, i64_w, i32_w]
        rfl
      refine last_ (i := 13) (N := some 55) #[true, true, true, true, true, true, true, true, true, true, true, true, true, true, false, false, false, false] rfl rfl (by kernel_rfl) (by decide) (fun K hK => ?_)
      refine value_ (w1 := ?_) (v := ?_) (by rfl) rfl ?_ ?_
      rotate_left 2
      · try simp only [List.getElem_toArray, List.getElem_cons_succ, List.getElem_cons_zero]
        go_simp
        constructor
        · rfl
        · rfl
      refine hK.out _ _ ?_
      clear hK K
      refine norm_ (a' := ?_) ?_ ?_
      rotate_left
      · show Act.put _ (some 55) _ = _
        simp only [Act.put, List.setIfInBounds_toArray, List.set_cons_zero, List.set_cons_succ, i64_w, i32_w]
        rfl
      refine last_ (i := 14) (N := some 56) #[true, true, true, true, true, true, true, true, true, true, true, true, true, true, true, false, false, false] rfl rfl (by kernel_rfl) (by decide) (fun K hK => ?_)
      obtain ⟨g, hg9⟩ : ∃ g, g = wr.heap.size := ⟨_, rfl⟩
      obtain ⟨W1, hW1⟩ : ∃ W1, W1 = (wr.alloc (.cells #[.int .u8 (y1 : Int), .int .u8 (y2 : Int)] 5 (0, 0))).drew := ⟨_, rfl⟩
      have k9 := HCV.out g W1 (by rw [hW1, hg9]; exact heap_alloc_at wr _)
      have HF1 : Hid (Fr (fun _ => False) wr W1) := Lib.hid (by rw [hW1]; exact ((Fr.refl _ wr).alloc _).drew)
      have hrow1 := HF1.out.at hrow (fun h => h)
      rw [← hW1, ← hg9]
      clear hW1 hg9 hrow hcr hcrd
      refine value_ (w1 := ?_) (v := ?_) (by rfl) rfl ?_ ?_
      rotate_left 2
      · try simp only [List.getElem_toArray, List.getElem_cons_succ, List.getElem_cons_zero]
        go_simp
        constructor
        · rfl
        · rfl
      refine hK.out _ _ ?_
      clear hK K
      refine norm_ (a' := ?_) ?_ ?_
      rotate_left
      · show Act.put _ (some 56) _ = _
        simp only [Act.put, List.setIfInBounds_toArray, List.set_cons_zero, List.set_cons_succ, i64_w, i32_w]
        rfl
      refine pure_ (i := 15) (N := some 57) (v := ?_) (a' := ?_) #[true, true, true, true, true, true, true, true, true, true, true, true, true, true, true, true, false, false] rfl rfl (by kernel_rfl) (fun _ _ _ h => h) (Or.inl ⟨by rfl, ?_⟩) ?_ ?_
      rotate_left
      · intro w'
        try simp only [List.getElem_toArray, List.getElem_cons_succ, List.getElem_cons_zero]
        go_simp
        with_reducible rfl
      rotate_left
      · simp only [Act.put, List.setIfInBounds_toArray, List.set_cons_zero, List.set_cons_succ, i64_w, i32_w]
        rfl
      refine pure_ (i := 16) (N := some 58) (v := ?_) (a' := ?_) #[true, true, true, true, true, true, true, true, true, true, true, true, true, true, true, true, true, false] rfl rfl (by kernel_rfl) (fun _ _ _ h => h) (Or.inl ⟨by rfl, ?_⟩) ?_ ?_
      rotate_left
      · intro w'
        try simp only [List.getElem_toArray, List.getElem_cons_succ, List.getElem_cons_zero]
        go_simp
        with_reducible rfl
      rotate_left
      · simp only [Act.put, List.setIfInBounds_toArray, List.set_cons_zero, List.set_cons_succ, i64_w, i32_w]
        rfl
      refine last_ (i := 17) (N := none) #[true, true, true, true, true, true, true, true, true, true, true, true, true, true, true, true, true, true] rfl rfl (by kernel_rfl) (by decide) (fun K hK => ?_)
      refine skip_ (w1 := ?_) (by rfl) rfl ?_ ?_
      rotate_left
      · try simp only [List.getElem_toArray, List.getElem_cons_succ, List.getElem_cons_zero]
        go_simp
        rfl
      refine hK.out _ _ ?_
      clear hK K
      refine done_ (by kernel_rfl) ?_

      have hk4' : k < ms.length := by rw [hlen]; exact HKX.out.2.2.2
      obtain ⟨ms2, hms2⟩ : ∃ m, m = ms.set k [118, c1, c2] := ⟨_, rfl⟩
      obtain ⟨W2, hW2⟩ : ∃ W2, W2 = W1.setCell ⟨hb, k, none⟩ (.string V3) := ⟨_, rfl⟩
      have hrow2 : W2.heap[hb]? = some (.cells (strRow ms2) 77 (0, 0)) := by
        rw [hW2, heap_setCell_self, hrow1, putIn_some, hms2]
        congr 2
        apply Array.toList_inj.1
        rw [Array.toList_setIfInBounds]
        simp only [strRow]
        rw [List.map_set]
        congr 1
        unfold str; rw [HV3.out]
      have hfr2 : Fr (fun j => j = hb) wr W2 := by rw [hW2]; exact (HF1.out.wide).setCell _ (.inl rfl)
      have HS2 : Hid (StH w W2.drew (fun j => j = hb) 10 b s S) := Lib.hid ((HG.out.st.frX hfr2 (fun j hj => .inl hj) (fun j hj => by subst hj; exact HG.out.new) _ (fun j hj => ⟨.inl hj, by subst hj; exact lt_of_block hrow2⟩)).still (Fr.refl _ W2).drew)
      have hrow2d : W2.drew.heap[hb]? = some (.cells (strRow ms2) 77 (0, 0)) := hrow2
      have hR2k : (strRow ms2)[k]? = some (.string V3) := by
        rw [hms2]; unfold strRow str
        rw [HV3.out]
        simp [hk4']
      have hR2g : ∀ h : k < (strRow ms2).size, (strRow ms2)[k]'h = .string V3 := fun h => by
        rw [Array.getElem?_eq_getElem h] at hR2k
        exact Option.some.inj hR2k
      have hlen2 : ms2.length = 4 := by rw [hms2, List.length_set]; exact hlen
      have hsz2 : (strRow ms2).size = 4 := by simp [strRow, hlen2]
      have HMS := Lib.hid hms2
      first
        | rw [← hW2]
        | (go_wp2; rw [← hW2])
      clear hW2 hms2 hfr2 hrow1 hsz
      obtain ⟨yk, hyk⟩ : ∃ y, y = 97 + k := ⟨_, rfl⟩
      have hwk : IntKind.u8.wrap (k : Int) = (k : Int) := by rw [IntKind.wrap_u8]; omega
      have hwk97 : IntKind.u8.wrap (97 + (k : Int)) = (yk : Int) := by rw [IntKind.wrap_u8]; omega
      obtain ⟨K1, hK1⟩ : ∃ K : ByteArray, K = ⟨[kOf k].toArray⟩ := ⟨_, rfl⟩
      have HK1 : Hid (∀ (g : Nat) (W : World), W.heap[g]? = some (.cells #[.int .u8 (yk : Int)] 5 (0, 0)) → cvStr Try.prog 30 9 (.slice (some ⟨g, 0, none⟩) 1 1) W = .ok (.value (.string K1)) W) := Lib.hid (fun g W h => by
        have hb : IsBytes W (.slice (some ⟨g, 0, none⟩) 1 1) [kOf k] := IsBytes.of_cells (l := [kOf k]) (T := 5) (fr := (0, 0)) (by rw [h]; simp [Bs, kOf_nat k hk4, hyk]) (by simp)
        rw [cv309 W _ _ hb, hK1]; rfl)
      have HPUT : Hid (∀ (W : World) (g : Nat), StH w W (fun j => j = hb) 10 b s S → W.heap[g]? = some (.cells #[.string K1, .string V3, .bool false] 75 (0, 0)) → Calls Try.prog 39 #[.pointer (some ⟨s, 0, none⟩), .slice (some ⟨g, 0, none⟩) 1 1] W fun e w' => e = .returned (.int .i64 0) ∧ ∃ S', StH w w' (fun j => j = hb) 10 b s S' ∧ S'.has = applyOne S.has ⟨[kOf k], [118, c1, c2], false⟩ ∧ S'.turn = S.turn + 1 ∧ Fr (Aside w (fun j => j = hb)) W w') := Lib.hid (fun W g hs hg =>
        hs.put1 HG.out.four (by have := HG.out.turn; omega) _ ⟨[kOf k], [118, c1, c2], false⟩ ⟨⟨kOf k, rfl, by rw [kOf_nat k hk4]; omega, by rw [kOf_nat k hk4]; omega⟩, by simp⟩ rfl (IsChg.of_block (by rw [hg, hK1, HV3.out]; rfl) 1 rfl (by simp)))
      clear hyk hK1
      go_wp2
      refine start_ (n := 13) (S := fun w' => w'.heap[hb]? = some (.cells (strRow ms2) 77 (0, 0))) (ds := []) #[false, false, false, false, false, false, false, false, false, false, false, false, false] (by kernel_rfl) rfl rfl (hrow2d) (fun hHeld => ?_)
      refine pure_ (i := 0) (N := some 59) (v := ?_) (a' := ?_) #[true, false, false, false, false, false, false, false, false, false, false, false, false] rfl rfl (by kernel_rfl) (fun _ _ _ h => h) (Or.inl ⟨by rfl, ?_⟩) ?_ ?_
      rotate_left
      · intro w'
        try simp only [List.getElem_toArray, List.getElem_cons_succ, List.getElem_cons_zero]
        go_simp
        with_reducible rfl
      rotate_left
      · simp only [Act.put, List.setIfInBounds_toArray, List.set_cons_zero, List.set_cons_succ, i64_w, i32_w]
        rfl
      refine pure_ (i := 1) (N := some 60) (v := ?_) (a' := ?_) #[true, true, false, false, false, false, false, false, false, false, false, false, false] rfl rfl (by kernel_rfl) (fun _ _ _ h => h) (Or.inl ⟨by rfl, ?_⟩) ?_ ?_
      rotate_left
      · intro w'
        try simp only [List.getElem_toArray, List.getElem_cons_succ, List.getElem_cons_zero]
        go_simp
        with_reducible rfl
      rotate_left
      · simp only [Act.put, List.setIfInBounds_toArray, List.set_cons_zero, List.set_cons_succ, i64_w, i32_w]
        rfl
      refine pure_ (i := 2) (N := some 61) (v := ?_) (a' := ?_) #[true, true, true, false, false, false, false, false, false, false, false, false, false] rfl rfl (by kernel_rfl) (fun _ _ _ h => h) (Or.inl ⟨by rfl, ?_⟩) ?_ ?_
      rotate_left
      · intro w'
        try simp only [List.getElem_toArray, List.getElem_cons_succ, List.getElem_cons_zero]
        go_simp
        with_reducible rfl
      rotate_left
      · simp only [Act.put, List.setIfInBounds_toArray, List.set_cons_zero, List.set_cons_succ, i64_w, i32_w]
        rfl
      refine pure_ (i := 3) (N := some 62) (v := ?_) (a' := ?_) #[true, true, true, true, false, false, false, false, false, false, false, false, false] rfl rfl (by kernel_rfl) (fun _ _ _ h => h) (Or.inl ⟨by rfl, ?_⟩) ?_ ?_
      rotate_left
      · intro w'
        try simp only [List.getElem_toArray, List.getElem_cons_succ, List.getElem_cons_zero]
        go_simp
        with_reducible rfl
      rotate_left
      · simp only [Act.put, List.setIfInBounds_toArray, List.set_cons_zero, List.set_cons_succ, i64_w, i32_w]
        rfl
      refine pure_ (i := 6) (N := some 65) (v := ?_) (a' := ?_) #[true, true, true, true, false, false, true, false, false, false, false, false, false] rfl rfl (by kernel_rfl) (fun _ _ _ h => h) (Or.inl ⟨by rfl, ?_⟩) ?_ ?_
      rotate_left
      · intro w'
        try simp only [List.getElem_toArray, List.getElem_cons_succ, List.getElem_cons_zero]
        go_simp
        with_reducible rfl
      rotate_left
      · simp only [Act.put, List.setIfInBounds_toArray, List.set_cons_zero, List.set_cons_succ, i64_w, i32_w]
        rfl
      refine pure_ (i := 7) (N := some 66) (v := ?_) (a' := ?_) #[true, true, true, true, false, false, true, true, false, false, false, false, false] rfl rfl (by kernel_rfl) (fun _ _ _ h => h) (Or.inl ⟨by rfl, ?_⟩) ?_ ?_
      rotate_left
      · intro w'
        try simp only [List.getElem_toArray, List.getElem_cons_succ, List.getElem_cons_zero]
        go_simp
        with_reducible rfl
      rotate_left
      · simp only [Act.put, List.setIfInBounds_toArray, List.set_cons_zero, List.set_cons_succ, i64_w, i32_w]
        rfl
      refine take_ (i := 8) (N := some 67) (v := ?_) (a' := ?_) #[true, true, true, true, false, false, true, true, true, false, false, false, false] rfl rfl (by kernel_rfl) (fun _ _ _ h => h) (Or.inl ⟨by rfl, ?_⟩) hHeld ?_ ?_
      rotate_left
      · intro w' s0
        try simp only [List.getElem_toArray, List.getElem_cons_succ, List.getElem_cons_zero]
        go_simp
        with_reducible rfl
      rotate_left
      · simp only [Act.put, List.setIfInBounds_toArray, List.set_cons_zero, List.set_cons_succ, i64_w, i32_w]
        rfl
      refine one_ (i := 4) (N := some 63) #[true, true, true, true, true, false, true, true, true, false, false, false, false] rfl rfl (by kernel_rfl) (by decide) (fun K hK => ?_)
      refine value_ (w1 := ?_) (v := ?_) (by rfl) rfl ?_ ?_
      rotate_left 2
      · try simp only [List.getElem_toArray, List.getElem_cons_succ, List.getElem_cons_zero]
        go_simp
        constructor
        · rfl
        · rfl
      refine hK.out _ _ ((heap_alloc _ _ _ (lt_of_block hrow2)).trans hrow2) (fun hHeld => ?_)
      clear hK K
      refine norm_ (a' := ?_) ?_ ?_
      rotate_left
      · show Act.put _ (some 63) _ = _
        simp only [Act.put, List.setIfInBounds_toArray, List.set_cons_zero, List.set_cons_succ, i64_w, i32_w]
        rfl
      refine one_ (i := 5) (N := some 64) #[true, true, true, true, true, true, true, true, true, false, false, false, false] rfl rfl (by kernel_rfl) (by decide) (fun K hK => ?_)
      obtain ⟨g3, hg3⟩ : ∃ g, g = W2.heap.size := ⟨_, rfl⟩
      obtain ⟨W3, hW3⟩ : ∃ W3, W3 = (W2.alloc (.cells #[.int .u8 (yk : Int)] 5 (0, 0))).drew := ⟨_, rfl⟩
      have k9b := HK1.out g3 W3 (by rw [hW3, hg3]; exact heap_alloc_at W2 _)
      have HF3 : Hid (Fr (fun _ => False) W2.drew W3) := Lib.hid (by rw [hW3]; exact fr_drew_alloc _ _)
      have hrow3 := HF3.out.at hrow2d (fun h => h)
      rw [← hW3, ← hg3]
      clear hW3 hg3
      refine value_ (w1 := ?_) (v := ?_) (by rfl) rfl ?_ ?_
      rotate_left 2
      · try simp only [List.getElem_toArray, List.getElem_cons_succ, List.getElem_cons_zero]
        go_simp
        constructor
        · rfl
        · rfl
      refine hK.out _ _ (hrow3) (fun hHeld => ?_)
      clear hK K
      refine norm_ (a' := ?_) ?_ ?_
      rotate_left
      · show Act.put _ (some 64) _ = _
        simp only [Act.put, List.setIfInBounds_toArray, List.set_cons_zero, List.set_cons_succ, i64_w, i32_w]
        rfl
      refine pure_ (i := 9) (N := some 68) (v := ?_) (a' := ?_) #[true, true, true, true, true, true, true, true, true, true, false, false, false] rfl rfl (by kernel_rfl) (fun _ _ _ h => h) (Or.inl ⟨by rfl, ?_⟩) ?_ ?_
      rotate_left
      · intro w'
        try simp only [List.getElem_toArray, List.getElem_cons_succ, List.getElem_cons_zero]
        go_simp
        with_reducible rfl
      rotate_left
      · simp only [Act.put, List.setIfInBounds_toArray, List.set_cons_zero, List.set_cons_succ, i64_w, i32_w]
        rfl
      refine one_ (i := 10) (N := some 69) #[true, true, true, true, true, true, true, true, true, true, true, false, false] rfl rfl (by kernel_rfl) (by decide) (fun K hK => ?_)
      refine value_ (w1 := ?_) (v := ?_) (by rfl) rfl ?_ ?_
      rotate_left 2
      · try simp only [List.getElem_toArray, List.getElem_cons_succ, List.getElem_cons_zero]
        go_simp
        constructor
        · rfl
        · rfl
      refine hK.out _ _ ((heap_alloc _ _ _ (lt_of_block hrow3)).trans hrow3) (fun hHeld => ?_)
      clear hK K
      refine norm_ (a' := ?_) ?_ ?_
      rotate_left
      · show Act.put _ (some 69) _ = _
        simp only [Act.put, List.setIfInBounds_toArray, List.set_cons_zero, List.set_cons_succ, i64_w, i32_w]
        rfl
      refine one_ (i := 11) (N := some 70) #[true, true, true, true, true, true, true, true, true, true, true, true, false] rfl rfl (by kernel_rfl) (by decide) (fun K hK => ?_)
      refine goes_ Try.func39 (by kernel_rfl) rfl #[.pointer (some ⟨s, 0, none⟩), .slice (some ⟨W3.heap.size, 0, none⟩) 1 1] (by rfl) rfl rfl (by simp only [List.map_toArray, List.map_cons, List.map_nil]; rfl) ?_
      with_reducible refine (HPUT.out _ _ ((HS2.out.still HF3.out).still ((Fr.refl (fun _ => False) W3).alloc _)) (heap_alloc_at W3 _)).mono ?_
      rintro e w4 ⟨rfl, S2, hs4, hh4, ht4, fa4⟩
      refine ⟨_, rfl, ?_⟩
      have HS4 := Lib.hid hs4
      have HHT := Lib.hid (And.intro hh4 ht4)
      have hrow4 := fa4.at ((heap_alloc _ _ _ (lt_of_block hrow3)).trans hrow3) (fun h => h.2 rfl)
      clear hs4 hh4 ht4 fa4
      refine hK.out _ _ (hrow4) (fun hHeld => ?_)
      clear hK K
      refine norm_ (a' := ?_) ?_ ?_
      rotate_left
      · show Act.put _ (some 70) _ = _
        simp only [Act.put, List.setIfInBounds_toArray, List.set_cons_zero, List.set_cons_succ, i64_w, i32_w]
        rfl
      refine pure_ (i := 12) (N := some 71) (v := ?_) (a' := ?_) #[true, true, true, true, true, true, true, true, true, true, true, true, true] rfl rfl (by kernel_rfl) (fun _ _ _ h => h) (Or.inl ⟨by rfl, ?_⟩) ?_ ?_
      rotate_left
      · intro w'
        try simp only [List.getElem_toArray, List.getElem_cons_succ, List.getElem_cons_zero]
        go_simp
        with_reducible rfl
      rotate_left
      · simp only [Act.put, List.setIfInBounds_toArray, List.set_cons_zero, List.set_cons_succ, i64_w, i32_w]
        rfl
      refine done_ (by kernel_rfl) ?_

      have hr : Rising S.has := (hasOf_kept S.fs).1
      have HGET : Hid (∀ n (h : n < ms2.length), (getOf S2.has [kOf n]).1 = ms2[n]) := Lib.hid (fun n h => by
        rw [HHT.out.1, getOf_put hr _ rfl]
        have hn4 : n < 4 := by rw [hlen2] at h; exact h
        by_cases e : n = k
        · subst e
          rw [if_pos rfl]
          simp only [HMS.out, List.getElem_set_self]
        · rw [if_neg (fun h1 => e (kOf_inj hn4 hk4 (by simpa using h1)))]
          have h5 : n < ms.length := by rw [hlen]; exact hn4
          rw [HG.out.get n h5]
          simp only [HMS.out]
          rw [List.getElem_set_ne (fun e' => e e'.symm)])
      have HF4 : Hid (Four S2.has ∧ S2.turn ≤ i + 1) := Lib.hid (by
        refine ⟨?_, by have := HG.out.turn; have := HHT.out.2; omega⟩
        rw [HHT.out.1]
        exact HG.out.four.one hr _ ⟨⟨kOf k, rfl, by rw [kOf_nat k hk4]; omega, by rw [kOf_nat k hk4]; omega⟩, by simp⟩)
      have HNEW : Hid (w.heap.size ≤ hb) := Lib.hid HG.out.new
      have HI := Lib.hid hlt1
      clear hr k9 k9b hR2k hR2g hrow2 hrow2d hrow3 hxk hxz1 hxz2 hwz1 hwz2 hcat hwk hwk97 hV2s hkI
      go_wp2
      go_loopw [8] (fun i' wq => ∃ n : Nat, n ≤ 4 ∧ i' = .int .i64 n ∧ StH w wq (fun j => j = hb) 10 b s S2 ∧ wq.heap[hb]? = some (.cells (strRow ms2) 77 (0, 0))) (fun i' _ => 4 - (intOf i').toNat)
      case atStart => exact ⟨0, by omega, rfl, HS4.out, hrow4⟩
      case round =>
        clear hrow4
        obtain ⟨n, hn, rfl, hs5, hrow5⟩ := hrel
        have HS5 := Lib.hid hs5
        clear hs5
        by_cases hn4 : n < 4
        · have hw1 : IntKind.i64.wrap ((n : Int) + 1) = (n : Int) + 1 := IntWalk.i64_in _ (by omega)
          have t5 : decide ((n : Int) < 4) = true := by simp; omega
          have hnI : (n : Int) < 4 := by omega
          obtain ⟨yn, hyn⟩ : ∃ y, y = 97 + n := ⟨_, rfl⟩
          have hwn : IntKind.u8.wrap (n : Int) = (n : Int) := by rw [IntKind.wrap_u8]; omega
          have hwn97 : IntKind.u8.wrap (97 + (n : Int)) = (yn : Int) := by rw [IntKind.wrap_u8]; omega
          obtain ⟨Kn, hKn⟩ : ∃ K : ByteArray, K = ⟨[kOf n].toArray⟩ := ⟨_, rfl⟩
          have hn5 : n < ms2.length := by rw [hlen2]; exact hn4
          obtain ⟨Mn, hMn⟩ : ∃ K : ByteArray, K = ⟨(ms2[n]).toArray⟩ := ⟨_, rfl⟩
          have k9n : cvStr Try.prog 30 9 (.slice (some ⟨wr.heap.size, 0, none⟩) 1 1) (wr.alloc (.cells #[.int .u8 (yn : Int)] 5 (0, 0))) = .ok (.value (.string Kn)) (wr.alloc (.cells #[.int .u8 (yn : Int)] 5 (0, 0))) := by
            have hb' : IsBytes (wr.alloc (.cells #[.int .u8 (yn : Int)] 5 (0, 0))) (.slice (some ⟨wr.heap.size, 0, none⟩) 1 1) [kOf n] := IsBytes.of_cells (l := [kOf n]) (T := 5) (fr := (0, 0)) (by rw [heap_alloc_at]; simp [Bs, kOf_nat n hn4, hyn]) (by simp)
            rw [cv309 _ _ _ hb', hKn]; rfl
          have hRng : ∀ h : n < (strRow ms2).size, (strRow ms2)[n]'h = .string Mn := fun h => by
            simp only [strRow, List.getElem_toArray, List.getElem_map]
            rw [hMn]; rfl
          have HGT : Hid (∀ W, StH w W (fun j => j = hb) 10 b s S2 → Calls Try.prog 43 #[.pointer (some ⟨s, 0, none⟩), .string Kn] W fun e w' => ∃ fl : Bool, e = .returned (.tuple #[.string Mn, .bool fl]) ∧ StH w w' (fun j => j = hb) 10 b s S2 ∧ Fr (fun _ => False) W w') := Lib.hid (fun W h => by
            rw [hKn]
            refine (h.get [kOf n]).mono ?_
            rintro e w' ⟨rfl, h2, h3⟩
            refine ⟨(getOf S2.has [kOf n]).2, ?_, h2, h3⟩
            rw [HGET.out n hn5, hMn]; rfl)
          clear hKn hMn hyn
          go_wp2_with (go_at_call 43; go_loud (refine (HGT.out _ (HS5.out.still ((Fr.refl (fun _ => False) wr).alloc _))).mono ?_; rintro e w6 ⟨fl, rfl, h6, f6⟩; have HS6 := Lib.hid h6; have hrow6 := f6.at ((heap_alloc _ _ _ (lt_of_block hrow5)).trans hrow5) (fun h => h); clear h6 f6))
          exact ⟨⟨n + 1, by omega, by go_num, HS6.out, hrow6⟩, by simp [intOf]; omega⟩
        · obtain rfl : n = 4 := by omega
          go_wp2
          exact ⟨⟨i + 1, S2, ms2, by omega, by omega, by go_num, HS5.out, HF4.out.2, HF4.out.1, hlen2, hrow5, HGET.out, HNEW.out⟩, by simp [intOf]; omega⟩
    · have HOW := Lib.hid hg.st.own
      have hcond : (decide ((i : Int) < (l.length : Int)) = false ∧ decide (i < l.length) = false ∧ ¬ (i : Int) < (l.length : Int)) ∨ (decide ((i : Int) < (l.length : Int)) = true ∧ decide (i < l.length) = true ∧ (i : Int) < (l.length : Int) ∧ decide ((i : Int) < 300) = false ∧ decide (i < 300) = false ∧ ¬ (i : Int) < 300) := by simp; omega
      clear hlt
      rcases hcond with ⟨t1, t1n, t1p⟩ | ⟨t1, t1n, t1p, t2, t2n, t2p⟩
      all_goals
        go_wp2
        go_ret
        exact ⟨rfl, HOW.out⟩
end Go.Proofs.Ytnpeeephkkmomaa
