/-
  No cell of these rows narrows 'for every input' (looked for: loops, veiled, ifaces, maps, wideKeys, modest, calm, conditions, laid).
  DERIVED. THE GIVEN ROWS OF THIS SEAT. 9 by the template 'for every input the law returns true; each argument reads behind the call as it read before'; 0 by the template 'total and deterministic' (their statements: YtnpeeephkkmomaaTotals.lean).
  GIVEN WITH THE SEED: the statements are not yours to turn. If you find one false, say at which input.
  Laid BY PROGRAM, IN A SANDBOX (cutbox-rows.mjs): the forced cells as the released guide's own fill.sh prints them over the translation 27887bafa9b8382a… (all of the seat's roots in one cut). By AI agents, Wed Nov 11 2026. No macro, syntax, notation, axiom, sorry.
-/
import Derived.Test.YtnpeeephkkmomaaChecked
import GoSem.Claim
import GoSem.ClaimJoined
import GoSem.ClaimMapViews
import Derived.JoinedTies
import Derived.KernelRfl
namespace Go.Proofs.Ytnpeeephkkmomaa
/- THE CELL 'sum', in the pinned program and in every row, IS THE sha256 OF THE DUMP (.gsa) THAT YtnpeeephkkmomaaProg.lean LOADS. Nothing in Lean hashes anything: it is a label: what it is worth is what the hold of that sum in a sandbox is worth. -/
noncomputable def Try.pinned : Pinned := { name := "ytnpeeephkkmomaa", sum := "27887bafa9b8382a4ecba67a55d8f06134bb14a7fb86c24f7ca064981ff3a0a0", checked := Try.checked }
namespace Rows
def none {H : Type} : Left H := { results := [], args := [] }

/-- 'pavanelaw03.DiskArmed': WHATEVER THE INPUT: true; the input reads as it did. -/
def diskArmedSpec : ChangeSpec := { name := "diskArmed", fn := fun _ => fun
  | [d1, d2] => { results := [.lit (.bool true)], args := [d1, d2] }
  | _ => none }
def diskArmedRow : OpenClaim := { program := "ytnpeeephkkmomaa", sum := "27887bafa9b8382a4ecba67a55d8f06134bb14a7fb86c24f7ca064981ff3a0a0", func := "pavane/pavanelaw03.DiskArmed", spec := "diskArmed", apart := false }
def DiskArmedSaid : Prop := diskArmedRow.holds Try.pinned (OpenSpec.ofChange diskArmedSpec)

/-- ITS FALSE NEIGHBOUR: 'it returns false'. Refute it at one input. -/
def diskArmedWrong : ChangeSpec := { name := "diskArmed", fn := fun _ => fun
  | [d1, d2] => { results := [.lit (.bool false)], args := [d1, d2] }
  | _ => none }
def DiskArmedWrongFalsely : Prop := diskArmedRow.holds Try.pinned (OpenSpec.ofChange diskArmedWrong)

/-- 'pavanelaw03.DiskLasts': WHATEVER THE INPUT: true; the input reads as it did. -/
def diskLastsSpec : ChangeSpec := { name := "diskLasts", fn := fun _ => fun
  | [d1, d2] => { results := [.lit (.bool true)], args := [d1, d2] }
  | _ => none }
def diskLastsRow : OpenClaim := { program := "ytnpeeephkkmomaa", sum := "27887bafa9b8382a4ecba67a55d8f06134bb14a7fb86c24f7ca064981ff3a0a0", func := "pavane/pavanelaw03.DiskLasts", spec := "diskLasts", apart := false }
def DiskLastsSaid : Prop := diskLastsRow.holds Try.pinned (OpenSpec.ofChange diskLastsSpec)

/-- ITS FALSE NEIGHBOUR: 'it returns false'. Refute it at one input. -/
def diskLastsWrong : ChangeSpec := { name := "diskLasts", fn := fun _ => fun
  | [d1, d2] => { results := [.lit (.bool false)], args := [d1, d2] }
  | _ => none }
def DiskLastsWrongFalsely : Prop := diskLastsRow.holds Try.pinned (OpenSpec.ofChange diskLastsWrong)

/-- 'pavanelaw03.DiskKeeps': WHATEVER THE INPUT: true; the input reads as it did. -/
def diskKeepsSpec : ChangeSpec := { name := "diskKeeps", fn := fun _ => fun
  | [d] => { results := [.lit (.bool true)], args := [d] }
  | _ => none }
def diskKeepsRow : OpenClaim := { program := "ytnpeeephkkmomaa", sum := "27887bafa9b8382a4ecba67a55d8f06134bb14a7fb86c24f7ca064981ff3a0a0", func := "pavane/pavanelaw03.DiskKeeps", spec := "diskKeeps", apart := false }
def DiskKeepsSaid : Prop := diskKeepsRow.holds Try.pinned (OpenSpec.ofChange diskKeepsSpec)

/-- ITS FALSE NEIGHBOUR: 'it returns false'. Refute it at one input. -/
def diskKeepsWrong : ChangeSpec := { name := "diskKeeps", fn := fun _ => fun
  | [d] => { results := [.lit (.bool false)], args := [d] }
  | _ => none }
def DiskKeepsWrongFalsely : Prop := diskKeepsRow.holds Try.pinned (OpenSpec.ofChange diskKeepsWrong)

/-- 'pavanelaw03.DiskPlays': WHATEVER THE INPUT: true; the input reads as it did. -/
def diskPlaysSpec : ChangeSpec := { name := "diskPlays", fn := fun _ => fun
  | [d1, d2] => { results := [.lit (.bool true)], args := [d1, d2] }
  | _ => none }
def diskPlaysRow : OpenClaim := { program := "ytnpeeephkkmomaa", sum := "27887bafa9b8382a4ecba67a55d8f06134bb14a7fb86c24f7ca064981ff3a0a0", func := "pavane/pavanelaw03.DiskPlays", spec := "diskPlays", apart := false }
def DiskPlaysSaid : Prop := diskPlaysRow.holds Try.pinned (OpenSpec.ofChange diskPlaysSpec)

/-- ITS FALSE NEIGHBOUR: 'it returns false'. Refute it at one input. -/
def diskPlaysWrong : ChangeSpec := { name := "diskPlays", fn := fun _ => fun
  | [d1, d2] => { results := [.lit (.bool false)], args := [d1, d2] }
  | _ => none }
def DiskPlaysWrongFalsely : Prop := diskPlaysRow.holds Try.pinned (OpenSpec.ofChange diskPlaysWrong)

/-- 'pavanelaw05.JournalTorn': WHATEVER THE INPUT: true; the input reads as it did. -/
def journalTornSpec : ChangeSpec := { name := "journalTorn", fn := fun _ => fun
  | [d1, d2, d3] => { results := [.lit (.bool true)], args := [d1, d2, d3] }
  | _ => none }
def journalTornRow : OpenClaim := { program := "ytnpeeephkkmomaa", sum := "27887bafa9b8382a4ecba67a55d8f06134bb14a7fb86c24f7ca064981ff3a0a0", func := "pavane/pavanelaw05.JournalTorn", spec := "journalTorn", unfollowed := true, recurses := true, apart := false }
def JournalTornSaid : Prop := journalTornRow.holds Try.pinned (OpenSpec.ofChange journalTornSpec)

/-- ITS FALSE NEIGHBOUR: 'it returns false'. Refute it at one input. -/
def journalTornWrong : ChangeSpec := { name := "journalTorn", fn := fun _ => fun
  | [d1, d2, d3] => { results := [.lit (.bool false)], args := [d1, d2, d3] }
  | _ => none }
def JournalTornWrongFalsely : Prop := journalTornRow.holds Try.pinned (OpenSpec.ofChange journalTornWrong)

/-- 'pavanelaw06.StoreFinds': WHATEVER THE INPUT: true; the input reads as it did. -/
def storeFindsSpec : ChangeSpec := { name := "storeFinds", fn := fun _ => fun
  | [d1, d2, d3] => { results := [.lit (.bool true)], args := [d1, d2, d3] }
  | _ => none }
def storeFindsRow : OpenClaim := { program := "ytnpeeephkkmomaa", sum := "27887bafa9b8382a4ecba67a55d8f06134bb14a7fb86c24f7ca064981ff3a0a0", func := "pavane/pavanelaw06.StoreFinds", spec := "storeFinds", inPlace := ["internal/bytealg.abigen_runtime_cmpstring", "slices.overlaps[pavane/store.Change]"], unfollowed := true, recurses := true, apart := false }
def StoreFindsSaid : Prop := storeFindsRow.holds Try.pinned (OpenSpec.ofChange storeFindsSpec)

/-- ITS FALSE NEIGHBOUR: 'it returns false'. Refute it at one input. -/
def storeFindsWrong : ChangeSpec := { name := "storeFinds", fn := fun _ => fun
  | [d1, d2, d3] => { results := [.lit (.bool false)], args := [d1, d2, d3] }
  | _ => none }
def StoreFindsWrongFalsely : Prop := storeFindsRow.holds Try.pinned (OpenSpec.ofChange storeFindsWrong)

/-- 'pavanelaw06.StoreGoesOn': WHATEVER THE INPUT: true; the input reads as it did. -/
def storeGoesOnSpec : ChangeSpec := { name := "storeGoesOn", fn := fun _ => fun
  | [d] => { results := [.lit (.bool true)], args := [d] }
  | _ => none }
def storeGoesOnRow : OpenClaim := { program := "ytnpeeephkkmomaa", sum := "27887bafa9b8382a4ecba67a55d8f06134bb14a7fb86c24f7ca064981ff3a0a0", func := "pavane/pavanelaw06.StoreGoesOn", spec := "storeGoesOn", inPlace := ["internal/bytealg.abigen_runtime_cmpstring", "slices.overlaps[pavane/store.Change]"], unfollowed := true, recurses := true, apart := false }
def StoreGoesOnSaid : Prop := storeGoesOnRow.holds Try.pinned (OpenSpec.ofChange storeGoesOnSpec)

/-- ITS FALSE NEIGHBOUR: 'it returns false'. Refute it at one input. -/
def storeGoesOnWrong : ChangeSpec := { name := "storeGoesOn", fn := fun _ => fun
  | [d] => { results := [.lit (.bool false)], args := [d] }
  | _ => none }
def StoreGoesOnWrongFalsely : Prop := storeGoesOnRow.holds Try.pinned (OpenSpec.ofChange storeGoesOnWrong)

/-- 'pavanelaw06.StoreKeeps': WHATEVER THE INPUT: true; the input reads as it did. -/
def storeKeepsSpec : ChangeSpec := { name := "storeKeeps", fn := fun _ => fun
  | [d] => { results := [.lit (.bool true)], args := [d] }
  | _ => none }
def storeKeepsRow : OpenClaim := { program := "ytnpeeephkkmomaa", sum := "27887bafa9b8382a4ecba67a55d8f06134bb14a7fb86c24f7ca064981ff3a0a0", func := "pavane/pavanelaw06.StoreKeeps", spec := "storeKeeps", inPlace := ["internal/bytealg.abigen_runtime_cmpstring", "slices.overlaps[pavane/store.Change]"], unfollowed := true, recurses := true, apart := false }
def StoreKeepsSaid : Prop := storeKeepsRow.holds Try.pinned (OpenSpec.ofChange storeKeepsSpec)

/-- ITS FALSE NEIGHBOUR: 'it returns false'. Refute it at one input. -/
def storeKeepsWrong : ChangeSpec := { name := "storeKeeps", fn := fun _ => fun
  | [d] => { results := [.lit (.bool false)], args := [d] }
  | _ => none }
def StoreKeepsWrongFalsely : Prop := storeKeepsRow.holds Try.pinned (OpenSpec.ofChange storeKeepsWrong)

/-- 'pavanelaw06.StoreFull': WHATEVER THE INPUT: true; the input reads as it did. -/
def storeFullSpec : ChangeSpec := { name := "storeFull", fn := fun _ => fun
  | [d1, d2, d3] => { results := [.lit (.bool true)], args := [d1, d2, d3] }
  | _ => none }
def storeFullRow : OpenClaim := { program := "ytnpeeephkkmomaa", sum := "27887bafa9b8382a4ecba67a55d8f06134bb14a7fb86c24f7ca064981ff3a0a0", func := "pavane/pavanelaw06.StoreFull", spec := "storeFull", inPlace := ["internal/bytealg.abigen_runtime_cmpstring", "slices.overlaps[pavane/store.Change]"], unfollowed := true, recurses := true, apart := false }
def StoreFullSaid : Prop := storeFullRow.holds Try.pinned (OpenSpec.ofChange storeFullSpec)

/-- ITS FALSE NEIGHBOUR: 'it returns false'. Refute it at one input. -/
def storeFullWrong : ChangeSpec := { name := "storeFull", fn := fun _ => fun
  | [d1, d2, d3] => { results := [.lit (.bool false)], args := [d1, d2, d3] }
  | _ => none }
def StoreFullWrongFalsely : Prop := storeFullRow.holds Try.pinned (OpenSpec.ofChange storeFullWrong)

/- THE SECOND FORM. 'bulk': how many values and letters a reading holds, each counted each time it is reached (what is shared counts as often as it is met; a slice's spare places count too). A statement '..UptoSaid' is the law's where the arguments, and the package variables that the reading takes, are together of bulk at most 1048576: NARROWER than '..Said'. Prove '..Said' where nothing that the law and all that it calls make is longer than what came in: it says more and counts as full. Else prove '..UptoSaid'. A law counts once. -/
mutual
def uptoBulk {H : Type} : DataW H → Nat
  | .lit (.string bytes) => bytes.length + 1
  | .lit _ => 1
  | .nil => 1
  | .ptr d => uptoBulk d + 1
  | .slice elems spare => uptoBulkAll elems + uptoBulkAll spare + 1
  | .agg parts => uptoBulkAll parts + 1
  | .iface _ d => uptoBulk d + 1
  | .map entries => uptoBulkEntries entries + 1
  | .held _ => 1
def uptoBulkAll {H : Type} : List (DataW H) → Nat
  | [] => 0
  | d :: r => uptoBulk d + uptoBulkAll r
def uptoBulkEntries {H : Type} : List (Lit × DataW H) → Nat
  | [] => 0
  | x :: r => uptoBulkEntry x + uptoBulkEntries r
def uptoBulkEntry {H : Type} : Lit × DataW H → Nat
  | (.string bytes, d) => bytes.length + uptoBulk d + 1
  | (_, d) => uptoBulk d + 1
 end
def uptoSmall : (H : Type) → List (DataW H) → Bool := fun _ ds => decide (uptoBulkAll ds ≤ 1048576)
def OpenSpec.upto (s : _root_.Go.ChangeSpec) : _root_.Go.OpenSpec := { _root_.Go.OpenSpec.ofChange s with cond := some uptoSmall }

/-- 'pavanelaw03.DiskArmed', WHERE WHAT IT READS IS OF BULK AT MOST 1048576: true; the input reads as it did. -/
def diskArmedUptoRow : OpenClaim := { program := "ytnpeeephkkmomaa", sum := "27887bafa9b8382a4ecba67a55d8f06134bb14a7fb86c24f7ca064981ff3a0a0", func := "pavane/pavanelaw03.DiskArmed", spec := "diskArmed", apart := false, narrowed := true }
def DiskArmedUptoSaid : Prop := diskArmedUptoRow.holds Try.pinned (OpenSpec.upto diskArmedSpec)

/-- 'pavanelaw03.DiskLasts', WHERE WHAT IT READS IS OF BULK AT MOST 1048576: true; the input reads as it did. -/
def diskLastsUptoRow : OpenClaim := { program := "ytnpeeephkkmomaa", sum := "27887bafa9b8382a4ecba67a55d8f06134bb14a7fb86c24f7ca064981ff3a0a0", func := "pavane/pavanelaw03.DiskLasts", spec := "diskLasts", apart := false, narrowed := true }
def DiskLastsUptoSaid : Prop := diskLastsUptoRow.holds Try.pinned (OpenSpec.upto diskLastsSpec)

/-- 'pavanelaw03.DiskKeeps', WHERE WHAT IT READS IS OF BULK AT MOST 1048576: true; the input reads as it did. -/
def diskKeepsUptoRow : OpenClaim := { program := "ytnpeeephkkmomaa", sum := "27887bafa9b8382a4ecba67a55d8f06134bb14a7fb86c24f7ca064981ff3a0a0", func := "pavane/pavanelaw03.DiskKeeps", spec := "diskKeeps", apart := false, narrowed := true }
def DiskKeepsUptoSaid : Prop := diskKeepsUptoRow.holds Try.pinned (OpenSpec.upto diskKeepsSpec)

/-- 'pavanelaw03.DiskPlays', WHERE WHAT IT READS IS OF BULK AT MOST 1048576: true; the input reads as it did. -/
def diskPlaysUptoRow : OpenClaim := { program := "ytnpeeephkkmomaa", sum := "27887bafa9b8382a4ecba67a55d8f06134bb14a7fb86c24f7ca064981ff3a0a0", func := "pavane/pavanelaw03.DiskPlays", spec := "diskPlays", apart := false, narrowed := true }
def DiskPlaysUptoSaid : Prop := diskPlaysUptoRow.holds Try.pinned (OpenSpec.upto diskPlaysSpec)

/-- 'pavanelaw05.JournalTorn', WHERE WHAT IT READS IS OF BULK AT MOST 1048576: true; the input reads as it did. -/
def journalTornUptoRow : OpenClaim := { program := "ytnpeeephkkmomaa", sum := "27887bafa9b8382a4ecba67a55d8f06134bb14a7fb86c24f7ca064981ff3a0a0", func := "pavane/pavanelaw05.JournalTorn", spec := "journalTorn", unfollowed := true, recurses := true, apart := false, narrowed := true }
def JournalTornUptoSaid : Prop := journalTornUptoRow.holds Try.pinned (OpenSpec.upto journalTornSpec)

/-- 'pavanelaw06.StoreFinds', WHERE WHAT IT READS IS OF BULK AT MOST 1048576: true; the input reads as it did. -/
def storeFindsUptoRow : OpenClaim := { program := "ytnpeeephkkmomaa", sum := "27887bafa9b8382a4ecba67a55d8f06134bb14a7fb86c24f7ca064981ff3a0a0", func := "pavane/pavanelaw06.StoreFinds", spec := "storeFinds", inPlace := ["internal/bytealg.abigen_runtime_cmpstring", "slices.overlaps[pavane/store.Change]"], unfollowed := true, recurses := true, apart := false, narrowed := true }
def StoreFindsUptoSaid : Prop := storeFindsUptoRow.holds Try.pinned (OpenSpec.upto storeFindsSpec)

/-- 'pavanelaw06.StoreGoesOn', WHERE WHAT IT READS IS OF BULK AT MOST 1048576: true; the input reads as it did. -/
def storeGoesOnUptoRow : OpenClaim := { program := "ytnpeeephkkmomaa", sum := "27887bafa9b8382a4ecba67a55d8f06134bb14a7fb86c24f7ca064981ff3a0a0", func := "pavane/pavanelaw06.StoreGoesOn", spec := "storeGoesOn", inPlace := ["internal/bytealg.abigen_runtime_cmpstring", "slices.overlaps[pavane/store.Change]"], unfollowed := true, recurses := true, apart := false, narrowed := true }
def StoreGoesOnUptoSaid : Prop := storeGoesOnUptoRow.holds Try.pinned (OpenSpec.upto storeGoesOnSpec)

/-- 'pavanelaw06.StoreKeeps', WHERE WHAT IT READS IS OF BULK AT MOST 1048576: true; the input reads as it did. -/
def storeKeepsUptoRow : OpenClaim := { program := "ytnpeeephkkmomaa", sum := "27887bafa9b8382a4ecba67a55d8f06134bb14a7fb86c24f7ca064981ff3a0a0", func := "pavane/pavanelaw06.StoreKeeps", spec := "storeKeeps", inPlace := ["internal/bytealg.abigen_runtime_cmpstring", "slices.overlaps[pavane/store.Change]"], unfollowed := true, recurses := true, apart := false, narrowed := true }
def StoreKeepsUptoSaid : Prop := storeKeepsUptoRow.holds Try.pinned (OpenSpec.upto storeKeepsSpec)

/-- 'pavanelaw06.StoreFull', WHERE WHAT IT READS IS OF BULK AT MOST 1048576: true; the input reads as it did. -/
def storeFullUptoRow : OpenClaim := { program := "ytnpeeephkkmomaa", sum := "27887bafa9b8382a4ecba67a55d8f06134bb14a7fb86c24f7ca064981ff3a0a0", func := "pavane/pavanelaw06.StoreFull", spec := "storeFull", inPlace := ["internal/bytealg.abigen_runtime_cmpstring", "slices.overlaps[pavane/store.Change]"], unfollowed := true, recurses := true, apart := false, narrowed := true }
def StoreFullUptoSaid : Prop := storeFullUptoRow.holds Try.pinned (OpenSpec.upto storeFullSpec)

end Rows
end Go.Proofs.Ytnpeeephkkmomaa
