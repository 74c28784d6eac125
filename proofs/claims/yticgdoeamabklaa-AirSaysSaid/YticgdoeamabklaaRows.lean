/-
  No cell of these rows narrows 'for every input' (looked for: loops, veiled, ifaces, maps, wideKeys, modest, calm, conditions, laid).
  DERIVED. THE GIVEN ROWS OF THIS SEAT. 5 by the template 'for every input the law returns true; each argument reads behind the call as it read before'; 0 by the template 'total and deterministic' (their statements: YticgdoeamabklaaTotals.lean).
  GIVEN WITH THE SEED: the statements are not yours to turn. If you find one false, say at which input.
  Laid BY PROGRAM, IN A SANDBOX (cutbox-rows.mjs): the forced cells as the released guide's own fill.sh prints them over the translation ea6de0de20ed1f5e… (all of the seat's roots in one cut). By AI agents, Wed Nov 11 2026. No macro, syntax, notation, axiom, sorry.
-/
import Derived.Test.YticgdoeamabklaaChecked
import GoSem.Claim
import GoSem.ClaimJoined
import GoSem.ClaimMapViews
import Derived.JoinedTies
import Derived.KernelRfl
namespace Go.Proofs.Yticgdoeamabklaa
/- THE CELL 'sum', in the pinned program and in every row, IS THE sha256 OF THE DUMP (.gsa) THAT YticgdoeamabklaaProg.lean LOADS. Nothing in Lean hashes anything: it is a label: what it is worth is what the hold of that sum in a sandbox is worth. -/
noncomputable def Try.pinned : Pinned := { name := "yticgdoeamabklaa", sum := "ea6de0de20ed1f5e98de48affc03516d8776635fa9b0777ab41dc38c5bc34575", checked := Try.checked }
namespace Rows
def none {H : Type} : Left H := { results := [], args := [] }

/-- 'muezzinlaw9.AirLegacy': WHATEVER THE INPUT: true; the input reads as it did. -/
def airLegacySpec : ChangeSpec := { name := "airLegacy", fn := fun _ => fun
  | [d1, d2] => { results := [.lit (.bool true)], args := [d1, d2] }
  | _ => none }
def airLegacyRow : OpenClaim := { program := "yticgdoeamabklaa", sum := "ea6de0de20ed1f5e98de48affc03516d8776635fa9b0777ab41dc38c5bc34575", func := "muezzin/muezzinlaw9.AirLegacy", spec := "airLegacy", apart := false }
def AirLegacySaid : Prop := airLegacyRow.holds Try.pinned (OpenSpec.ofChange airLegacySpec)

/-- ITS FALSE NEIGHBOUR: 'it returns false'. Refute it at one input. -/
def airLegacyWrong : ChangeSpec := { name := "airLegacy", fn := fun _ => fun
  | [d1, d2] => { results := [.lit (.bool false)], args := [d1, d2] }
  | _ => none }
def AirLegacyWrongFalsely : Prop := airLegacyRow.holds Try.pinned (OpenSpec.ofChange airLegacyWrong)

/-- 'muezzinlaw9.AirSays': WHATEVER THE INPUT: true; the input reads as it did. -/
def airSaysSpec : ChangeSpec := { name := "airSays", fn := fun _ => fun
  | [d1, d2, d3] => { results := [.lit (.bool true)], args := [d1, d2, d3] }
  | _ => none }
def airSaysRow : OpenClaim := { program := "yticgdoeamabklaa", sum := "ea6de0de20ed1f5e98de48affc03516d8776635fa9b0777ab41dc38c5bc34575", func := "muezzin/muezzinlaw9.AirSays", spec := "airSays", apart := false }
def AirSaysSaid : Prop := airSaysRow.holds Try.pinned (OpenSpec.ofChange airSaysSpec)

/-- ITS FALSE NEIGHBOUR: 'it returns false'. Refute it at one input. -/
def airSaysWrong : ChangeSpec := { name := "airSays", fn := fun _ => fun
  | [d1, d2, d3] => { results := [.lit (.bool false)], args := [d1, d2, d3] }
  | _ => none }
def AirSaysWrongFalsely : Prop := airSaysRow.holds Try.pinned (OpenSpec.ofChange airSaysWrong)

/-- 'muezzinlaw9.AirFaster': WHATEVER THE INPUT: true; the input reads as it did. -/
def airFasterSpec : ChangeSpec := { name := "airFaster", fn := fun _ => fun
  | [d1, d2, d3, d4] => { results := [.lit (.bool true)], args := [d1, d2, d3, d4] }
  | _ => none }
def airFasterRow : OpenClaim := { program := "yticgdoeamabklaa", sum := "ea6de0de20ed1f5e98de48affc03516d8776635fa9b0777ab41dc38c5bc34575", func := "muezzin/muezzinlaw9.AirFaster", spec := "airFaster", apart := false }
def AirFasterSaid : Prop := airFasterRow.holds Try.pinned (OpenSpec.ofChange airFasterSpec)

/-- ITS FALSE NEIGHBOUR: 'it returns false'. Refute it at one input. -/
def airFasterWrong : ChangeSpec := { name := "airFaster", fn := fun _ => fun
  | [d1, d2, d3, d4] => { results := [.lit (.bool false)], args := [d1, d2, d3, d4] }
  | _ => none }
def AirFasterWrongFalsely : Prop := airFasterRow.holds Try.pinned (OpenSpec.ofChange airFasterWrong)

/-- 'muezzinlaw9.AirGrows': WHATEVER THE INPUT: true; the input reads as it did. -/
def airGrowsSpec : ChangeSpec := { name := "airGrows", fn := fun _ => fun
  | [d1, d2, d3, d4] => { results := [.lit (.bool true)], args := [d1, d2, d3, d4] }
  | _ => none }
def airGrowsRow : OpenClaim := { program := "yticgdoeamabklaa", sum := "ea6de0de20ed1f5e98de48affc03516d8776635fa9b0777ab41dc38c5bc34575", func := "muezzin/muezzinlaw9.AirGrows", spec := "airGrows", apart := false }
def AirGrowsSaid : Prop := airGrowsRow.holds Try.pinned (OpenSpec.ofChange airGrowsSpec)

/-- ITS FALSE NEIGHBOUR: 'it returns false'. Refute it at one input. -/
def airGrowsWrong : ChangeSpec := { name := "airGrows", fn := fun _ => fun
  | [d1, d2, d3, d4] => { results := [.lit (.bool false)], args := [d1, d2, d3, d4] }
  | _ => none }
def AirGrowsWrongFalsely : Prop := airGrowsRow.holds Try.pinned (OpenSpec.ofChange airGrowsWrong)

/-- 'muezzinlaw9.AirMost': WHATEVER THE INPUT: true; the input reads as it did. -/
def airMostSpec : ChangeSpec := { name := "airMost", fn := fun _ => fun
  | [d1, d2, d3, d4] => { results := [.lit (.bool true)], args := [d1, d2, d3, d4] }
  | _ => none }
def airMostRow : OpenClaim := { program := "yticgdoeamabklaa", sum := "ea6de0de20ed1f5e98de48affc03516d8776635fa9b0777ab41dc38c5bc34575", func := "muezzin/muezzinlaw9.AirMost", spec := "airMost", apart := false }
def AirMostSaid : Prop := airMostRow.holds Try.pinned (OpenSpec.ofChange airMostSpec)

/-- ITS FALSE NEIGHBOUR: 'it returns false'. Refute it at one input. -/
def airMostWrong : ChangeSpec := { name := "airMost", fn := fun _ => fun
  | [d1, d2, d3, d4] => { results := [.lit (.bool false)], args := [d1, d2, d3, d4] }
  | _ => none }
def AirMostWrongFalsely : Prop := airMostRow.holds Try.pinned (OpenSpec.ofChange airMostWrong)

/- THE SECOND FORM. 'bulk': how many values and letters a reading holds, each counted each time it is reached (what is shared counts as often as it is met; a slice's spare places count too). A statement '..UptoSaid' is the law's where the arguments, and the package variables that the reading takes, are together of bulk at most 1048576: NARROWER than '..Said'. Prove '..Said' where nothing that the law and all that it calls make is longer than what came in: it says more and counts as full. Else prove '..UptoSaid'. A law counts once. -/
mutual
def uptoBulk {H : Type} : DataW H → Nat
  | .lit (.string bytes) => bytes.length + 1
  | .lit _ => 1
  | .nil => 1
  | .ptr d => uptoBulk d + 1
  | .slice elems spare => uptoBulkAll elems + uptoBulkAll spare + 1
  | .agg parts => uptoBulkAll parts + 1
  | .iface _ d => uptoBulk d + 1
  | .map entries => uptoBulkEntries entries + 1
  | .held _ => 1
def uptoBulkAll {H : Type} : List (DataW H) → Nat
  | [] => 0
  | d :: r => uptoBulk d + uptoBulkAll r
def uptoBulkEntries {H : Type} : List (Lit × DataW H) → Nat
  | [] => 0
  | x :: r => uptoBulkEntry x + uptoBulkEntries r
def uptoBulkEntry {H : Type} : Lit × DataW H → Nat
  | (.string bytes, d) => bytes.length + uptoBulk d + 1
  | (_, d) => uptoBulk d + 1
 end
def uptoSmall : (H : Type) → List (DataW H) → Bool := fun _ ds => decide (uptoBulkAll ds ≤ 1048576)
def OpenSpec.upto (s : _root_.Go.ChangeSpec) : _root_.Go.OpenSpec := { _root_.Go.OpenSpec.ofChange s with cond := some uptoSmall }

/-- 'muezzinlaw9.AirLegacy', WHERE WHAT IT READS IS OF BULK AT MOST 1048576: true; the input reads as it did. -/
def airLegacyUptoRow : OpenClaim := { program := "yticgdoeamabklaa", sum := "ea6de0de20ed1f5e98de48affc03516d8776635fa9b0777ab41dc38c5bc34575", func := "muezzin/muezzinlaw9.AirLegacy", spec := "airLegacy", apart := false, narrowed := true }
def AirLegacyUptoSaid : Prop := airLegacyUptoRow.holds Try.pinned (OpenSpec.upto airLegacySpec)

/-- 'muezzinlaw9.AirSays', WHERE WHAT IT READS IS OF BULK AT MOST 1048576: true; the input reads as it did. -/
def airSaysUptoRow : OpenClaim := { program := "yticgdoeamabklaa", sum := "ea6de0de20ed1f5e98de48affc03516d8776635fa9b0777ab41dc38c5bc34575", func := "muezzin/muezzinlaw9.AirSays", spec := "airSays", apart := false, narrowed := true }
def AirSaysUptoSaid : Prop := airSaysUptoRow.holds Try.pinned (OpenSpec.upto airSaysSpec)

/-- 'muezzinlaw9.AirFaster', WHERE WHAT IT READS IS OF BULK AT MOST 1048576: true; the input reads as it did. -/
def airFasterUptoRow : OpenClaim := { program := "yticgdoeamabklaa", sum := "ea6de0de20ed1f5e98de48affc03516d8776635fa9b0777ab41dc38c5bc34575", func := "muezzin/muezzinlaw9.AirFaster", spec := "airFaster", apart := false, narrowed := true }
def AirFasterUptoSaid : Prop := airFasterUptoRow.holds Try.pinned (OpenSpec.upto airFasterSpec)

/-- 'muezzinlaw9.AirGrows', WHERE WHAT IT READS IS OF BULK AT MOST 1048576: true; the input reads as it did. -/
def airGrowsUptoRow : OpenClaim := { program := "yticgdoeamabklaa", sum := "ea6de0de20ed1f5e98de48affc03516d8776635fa9b0777ab41dc38c5bc34575", func := "muezzin/muezzinlaw9.AirGrows", spec := "airGrows", apart := false, narrowed := true }
def AirGrowsUptoSaid : Prop := airGrowsUptoRow.holds Try.pinned (OpenSpec.upto airGrowsSpec)

/-- 'muezzinlaw9.AirMost', WHERE WHAT IT READS IS OF BULK AT MOST 1048576: true; the input reads as it did. -/
def airMostUptoRow : OpenClaim := { program := "yticgdoeamabklaa", sum := "ea6de0de20ed1f5e98de48affc03516d8776635fa9b0777ab41dc38c5bc34575", func := "muezzin/muezzinlaw9.AirMost", spec := "airMost", apart := false, narrowed := true }
def AirMostUptoSaid : Prop := airMostUptoRow.holds Try.pinned (OpenSpec.upto airMostSpec)

end Rows
end Go.Proofs.Yticgdoeamabklaa
