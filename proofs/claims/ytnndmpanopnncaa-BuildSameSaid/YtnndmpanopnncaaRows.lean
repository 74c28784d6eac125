/-
  No cell of these rows narrows 'for every input' (looked for: loops, veiled, ifaces, maps, wideKeys, modest, calm, conditions, laid).
  DERIVED. THE GIVEN ROWS OF THIS SEAT. 4 by the template 'for every input the law returns true; each argument reads behind the call as it read before'; 0 by the template 'total and deterministic' (their statements: YtnndmpanopnncaaTotals.lean).
  GIVEN WITH THE SEED: the statements are not yours to turn. If you find one false, say at which input.
  Laid BY PROGRAM, IN A SANDBOX (cutbox-rows.mjs): the forced cells as the released guide's own fill.sh prints them over the translation ee2a16b0bb348fed… (all of the seat's roots in one cut). By AI agents, Wed Nov 11 2026. No macro, syntax, notation, axiom, sorry.
-/
import Derived.Test.YtnndmpanopnncaaChecked
import GoSem.Claim
import GoSem.ClaimJoined
import GoSem.ClaimMapViews
import Derived.JoinedTies
import Derived.KernelRfl
namespace Go.Proofs.Ytnndmpanopnncaa
/- THE CELL 'sum', in the pinned program and in every row, IS THE sha256 OF THE DUMP (.gsa) THAT YtnndmpanopnncaaProg.lean LOADS. Nothing in Lean hashes anything: it is a label: what it is worth is what the hold of that sum in a sandbox is worth. -/
noncomputable def Try.pinned : Pinned := { name := "ytnndmpanopnncaa", sum := "ee2a16b0bb348fed801986173ad130335ba466998c8c335277ae60155aef9208", checked := Try.checked }
namespace Rows
def none {H : Type} : Left H := { results := [], args := [] }

/-- 'muezzinlaw17.BuildSays': WHATEVER THE INPUT: true; the input reads as it did. -/
def buildSaysSpec : ChangeSpec := { name := "buildSays", fn := fun _ => fun
  | [d1, d2, d3] => { results := [.lit (.bool true)], args := [d1, d2, d3] }
  | _ => none }
def buildSaysRow : OpenClaim := { program := "ytnndmpanopnncaa", sum := "ee2a16b0bb348fed801986173ad130335ba466998c8c335277ae60155aef9208", func := "muezzin/muezzinlaw17.BuildSays", spec := "buildSays", unfollowed := true, recurses := true, apart := false }
def BuildSaysSaid : Prop := buildSaysRow.holds Try.pinned (OpenSpec.ofChange buildSaysSpec)

/-- ITS FALSE NEIGHBOUR: 'it returns false'. Refute it at one input. -/
def buildSaysWrong : ChangeSpec := { name := "buildSays", fn := fun _ => fun
  | [d1, d2, d3] => { results := [.lit (.bool false)], args := [d1, d2, d3] }
  | _ => none }
def BuildSaysWrongFalsely : Prop := buildSaysRow.holds Try.pinned (OpenSpec.ofChange buildSaysWrong)

/-- 'muezzinlaw17.BuildMost': WHATEVER THE INPUT: true; the input reads as it did. -/
def buildMostSpec : ChangeSpec := { name := "buildMost", fn := fun _ => fun
  | [d1, d2, d3, d4] => { results := [.lit (.bool true)], args := [d1, d2, d3, d4] }
  | _ => none }
def buildMostRow : OpenClaim := { program := "ytnndmpanopnncaa", sum := "ee2a16b0bb348fed801986173ad130335ba466998c8c335277ae60155aef9208", func := "muezzin/muezzinlaw17.BuildMost", spec := "buildMost", unfollowed := true, recurses := true, apart := false }
def BuildMostSaid : Prop := buildMostRow.holds Try.pinned (OpenSpec.ofChange buildMostSpec)

/-- ITS FALSE NEIGHBOUR: 'it returns false'. Refute it at one input. -/
def buildMostWrong : ChangeSpec := { name := "buildMost", fn := fun _ => fun
  | [d1, d2, d3, d4] => { results := [.lit (.bool false)], args := [d1, d2, d3, d4] }
  | _ => none }
def BuildMostWrongFalsely : Prop := buildMostRow.holds Try.pinned (OpenSpec.ofChange buildMostWrong)

/-- 'muezzinlaw17.BuildAlone': WHATEVER THE INPUT: true; the input reads as it did. -/
def buildAloneSpec : ChangeSpec := { name := "buildAlone", fn := fun _ => fun
  | [d1, d2, d3] => { results := [.lit (.bool true)], args := [d1, d2, d3] }
  | _ => none }
def buildAloneRow : OpenClaim := { program := "ytnndmpanopnncaa", sum := "ee2a16b0bb348fed801986173ad130335ba466998c8c335277ae60155aef9208", func := "muezzin/muezzinlaw17.BuildAlone", spec := "buildAlone", unfollowed := true, recurses := true, apart := false }
def BuildAloneSaid : Prop := buildAloneRow.holds Try.pinned (OpenSpec.ofChange buildAloneSpec)

/-- ITS FALSE NEIGHBOUR: 'it returns false'. Refute it at one input. -/
def buildAloneWrong : ChangeSpec := { name := "buildAlone", fn := fun _ => fun
  | [d1, d2, d3] => { results := [.lit (.bool false)], args := [d1, d2, d3] }
  | _ => none }
def BuildAloneWrongFalsely : Prop := buildAloneRow.holds Try.pinned (OpenSpec.ofChange buildAloneWrong)

/-- 'muezzinlaw17.BuildSame': WHATEVER THE INPUT: true; the input reads as it did. -/
def buildSameSpec : ChangeSpec := { name := "buildSame", fn := fun _ => fun
  | [d1, d2, d3, d4, d5] => { results := [.lit (.bool true)], args := [d1, d2, d3, d4, d5] }
  | _ => none }
def buildSameRow : OpenClaim := { program := "ytnndmpanopnncaa", sum := "ee2a16b0bb348fed801986173ad130335ba466998c8c335277ae60155aef9208", func := "muezzin/muezzinlaw17.BuildSame", spec := "buildSame", unfollowed := true, recurses := true, apart := false }
def BuildSameSaid : Prop := buildSameRow.holds Try.pinned (OpenSpec.ofChange buildSameSpec)

/-- ITS FALSE NEIGHBOUR: 'it returns false'. Refute it at one input. -/
def buildSameWrong : ChangeSpec := { name := "buildSame", fn := fun _ => fun
  | [d1, d2, d3, d4, d5] => { results := [.lit (.bool false)], args := [d1, d2, d3, d4, d5] }
  | _ => none }
def BuildSameWrongFalsely : Prop := buildSameRow.holds Try.pinned (OpenSpec.ofChange buildSameWrong)

/- THE SECOND FORM. 'bulk': how many values and letters a reading holds, each counted each time it is reached (what is shared counts as often as it is met; a slice's spare places count too). A statement '..UptoSaid' is the law's where the arguments, and the package variables that the reading takes, are together of bulk at most 1048576: NARROWER than '..Said'. Prove '..Said' where nothing that the law and all that it calls make is longer than what came in: it says more and counts as full. Else prove '..UptoSaid'. A law counts once. -/
mutual
def uptoBulk {H : Type} : DataW H → Nat
  | .lit (.string bytes) => bytes.length + 1
  | .lit _ => 1
  | .nil => 1
  | .ptr d => uptoBulk d + 1
  | .slice elems spare => uptoBulkAll elems + uptoBulkAll spare + 1
  | .agg parts => uptoBulkAll parts + 1
  | .iface _ d => uptoBulk d + 1
  | .map entries => uptoBulkEntries entries + 1
  | .held _ => 1
def uptoBulkAll {H : Type} : List (DataW H) → Nat
  | [] => 0
  | d :: r => uptoBulk d + uptoBulkAll r
def uptoBulkEntries {H : Type} : List (Lit × DataW H) → Nat
  | [] => 0
  | x :: r => uptoBulkEntry x + uptoBulkEntries r
def uptoBulkEntry {H : Type} : Lit × DataW H → Nat
  | (.string bytes, d) => bytes.length + uptoBulk d + 1
  | (_, d) => uptoBulk d + 1
 end
def uptoSmall : (H : Type) → List (DataW H) → Bool := fun _ ds => decide (uptoBulkAll ds ≤ 1048576)
def OpenSpec.upto (s : _root_.Go.ChangeSpec) : _root_.Go.OpenSpec := { _root_.Go.OpenSpec.ofChange s with cond := some uptoSmall }

/-- 'muezzinlaw17.BuildSays', WHERE WHAT IT READS IS OF BULK AT MOST 1048576: true; the input reads as it did. -/
def buildSaysUptoRow : OpenClaim := { program := "ytnndmpanopnncaa", sum := "ee2a16b0bb348fed801986173ad130335ba466998c8c335277ae60155aef9208", func := "muezzin/muezzinlaw17.BuildSays", spec := "buildSays", unfollowed := true, recurses := true, apart := false, narrowed := true }
def BuildSaysUptoSaid : Prop := buildSaysUptoRow.holds Try.pinned (OpenSpec.upto buildSaysSpec)

/-- 'muezzinlaw17.BuildMost', WHERE WHAT IT READS IS OF BULK AT MOST 1048576: true; the input reads as it did. -/
def buildMostUptoRow : OpenClaim := { program := "ytnndmpanopnncaa", sum := "ee2a16b0bb348fed801986173ad130335ba466998c8c335277ae60155aef9208", func := "muezzin/muezzinlaw17.BuildMost", spec := "buildMost", unfollowed := true, recurses := true, apart := false, narrowed := true }
def BuildMostUptoSaid : Prop := buildMostUptoRow.holds Try.pinned (OpenSpec.upto buildMostSpec)

/-- 'muezzinlaw17.BuildAlone', WHERE WHAT IT READS IS OF BULK AT MOST 1048576: true; the input reads as it did. -/
def buildAloneUptoRow : OpenClaim := { program := "ytnndmpanopnncaa", sum := "ee2a16b0bb348fed801986173ad130335ba466998c8c335277ae60155aef9208", func := "muezzin/muezzinlaw17.BuildAlone", spec := "buildAlone", unfollowed := true, recurses := true, apart := false, narrowed := true }
def BuildAloneUptoSaid : Prop := buildAloneUptoRow.holds Try.pinned (OpenSpec.upto buildAloneSpec)

/-- 'muezzinlaw17.BuildSame', WHERE WHAT IT READS IS OF BULK AT MOST 1048576: true; the input reads as it did. -/
def buildSameUptoRow : OpenClaim := { program := "ytnndmpanopnncaa", sum := "ee2a16b0bb348fed801986173ad130335ba466998c8c335277ae60155aef9208", func := "muezzin/muezzinlaw17.BuildSame", spec := "buildSame", unfollowed := true, recurses := true, apart := false, narrowed := true }
def BuildSameUptoSaid : Prop := buildSameUptoRow.holds Try.pinned (OpenSpec.upto buildSameSpec)

end Rows
end Go.Proofs.Ytnndmpanopnncaa
