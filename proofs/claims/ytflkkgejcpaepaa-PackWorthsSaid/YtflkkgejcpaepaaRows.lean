/-
  No cell of these rows narrows 'for every input' (looked for: loops, veiled, ifaces, maps, wideKeys, modest, calm, conditions, laid).
  DERIVED. THE GIVEN ROWS OF THIS SEAT. 4 by the template 'for every input the law returns true; each argument reads behind the call as it read before'; 0 by the template 'total and deterministic' (their statements: YtflkkgejcpaepaaTotals.lean).
  GIVEN WITH THE SEED: the statements are not yours to turn. If you find one false, say at which input.
  Laid BY PROGRAM, IN A SANDBOX (cutbox-rows.mjs): the forced cells as the released guide's own fill.sh prints them over the translation ab50d5d123c33bb4… (all of the seat's roots in one cut). By AI agents, Wed Nov 11 2026. No macro, syntax, notation, axiom, sorry.
-/
import Derived.Test.YtflkkgejcpaepaaChecked
import GoSem.Claim
import GoSem.ClaimJoined
import GoSem.ClaimMapViews
import Derived.JoinedTies
import Derived.KernelRfl
namespace Go.Proofs.Ytflkkgejcpaepaa
/- THE CELL 'sum', in the pinned program and in every row, IS THE sha256 OF THE DUMP (.gsa) THAT YtflkkgejcpaepaaProg.lean LOADS. Nothing in Lean hashes anything: it is a label: what it is worth is what the hold of that sum in a sandbox is worth. -/
noncomputable def Try.pinned : Pinned := { name := "ytflkkgejcpaepaa", sum := "ab50d5d123c33bb456f5b0c2e0dc58f7bff9ce7a4e01d79619ddba1993ed3171", checked := Try.checked }
namespace Rows
def none {H : Type} : Left H := { results := [], args := [] }

/-- 'punnetlaw02.PackJoins': WHATEVER THE INPUT: true; the input reads as it did. -/
def packJoinsSpec : ChangeSpec := { name := "packJoins", fn := fun _ => fun
  | [d1, d2, d3] => { results := [.lit (.bool true)], args := [d1, d2, d3] }
  | _ => none }
def packJoinsRow : OpenClaim := { program := "ytflkkgejcpaepaa", sum := "ab50d5d123c33bb456f5b0c2e0dc58f7bff9ce7a4e01d79619ddba1993ed3171", func := "punnet/punnetlaw02.PackJoins", spec := "packJoins", inPlace := ["math.archTrunc", "math.Float64bits", "math.Float64frombits"], apart := false }
def PackJoinsSaid : Prop := packJoinsRow.holds Try.pinned (OpenSpec.ofChange packJoinsSpec)

/-- ITS FALSE NEIGHBOUR: 'it returns false'. Refute it at one input. -/
def packJoinsWrong : ChangeSpec := { name := "packJoins", fn := fun _ => fun
  | [d1, d2, d3] => { results := [.lit (.bool false)], args := [d1, d2, d3] }
  | _ => none }
def PackJoinsWrongFalsely : Prop := packJoinsRow.holds Try.pinned (OpenSpec.ofChange packJoinsWrong)

/-- 'punnetlaw02.PackParts': WHATEVER THE INPUT: true; the input reads as it did. -/
def packPartsSpec : ChangeSpec := { name := "packParts", fn := fun _ => fun
  | [d1, d2] => { results := [.lit (.bool true)], args := [d1, d2] }
  | _ => none }
def packPartsRow : OpenClaim := { program := "ytflkkgejcpaepaa", sum := "ab50d5d123c33bb456f5b0c2e0dc58f7bff9ce7a4e01d79619ddba1993ed3171", func := "punnet/punnetlaw02.PackParts", spec := "packParts", inPlace := ["math.archTrunc", "math.Float64bits", "math.Float64frombits"], apart := false }
def PackPartsSaid : Prop := packPartsRow.holds Try.pinned (OpenSpec.ofChange packPartsSpec)

/-- ITS FALSE NEIGHBOUR: 'it returns false'. Refute it at one input. -/
def packPartsWrong : ChangeSpec := { name := "packParts", fn := fun _ => fun
  | [d1, d2] => { results := [.lit (.bool false)], args := [d1, d2] }
  | _ => none }
def PackPartsWrongFalsely : Prop := packPartsRow.holds Try.pinned (OpenSpec.ofChange packPartsWrong)

/-- 'punnetlaw02.PackAdds': WHATEVER THE INPUT: true; the input reads as it did. -/
def packAddsSpec : ChangeSpec := { name := "packAdds", fn := fun _ => fun
  | [d1, d2, d3, d4, d5] => { results := [.lit (.bool true)], args := [d1, d2, d3, d4, d5] }
  | _ => none }
def packAddsRow : OpenClaim := { program := "ytflkkgejcpaepaa", sum := "ab50d5d123c33bb456f5b0c2e0dc58f7bff9ce7a4e01d79619ddba1993ed3171", func := "punnet/punnetlaw02.PackAdds", spec := "packAdds", inPlace := ["math.archTrunc", "math.Float64bits", "math.Float64frombits"], apart := false }
def PackAddsSaid : Prop := packAddsRow.holds Try.pinned (OpenSpec.ofChange packAddsSpec)

/-- ITS FALSE NEIGHBOUR: 'it returns false'. Refute it at one input. -/
def packAddsWrong : ChangeSpec := { name := "packAdds", fn := fun _ => fun
  | [d1, d2, d3, d4, d5] => { results := [.lit (.bool false)], args := [d1, d2, d3, d4, d5] }
  | _ => none }
def PackAddsWrongFalsely : Prop := packAddsRow.holds Try.pinned (OpenSpec.ofChange packAddsWrong)

/-- 'punnetlaw02.PackWorths': WHATEVER THE INPUT: true; the input reads as it did. -/
def packWorthsSpec : ChangeSpec := { name := "packWorths", fn := fun _ => fun
  | [d1, d2] => { results := [.lit (.bool true)], args := [d1, d2] }
  | _ => none }
def packWorthsRow : OpenClaim := { program := "ytflkkgejcpaepaa", sum := "ab50d5d123c33bb456f5b0c2e0dc58f7bff9ce7a4e01d79619ddba1993ed3171", func := "punnet/punnetlaw02.PackWorths", spec := "packWorths", inPlace := ["math.archTrunc", "math.Float64bits", "math.Float64frombits"], apart := false }
def PackWorthsSaid : Prop := packWorthsRow.holds Try.pinned (OpenSpec.ofChange packWorthsSpec)

/-- ITS FALSE NEIGHBOUR: 'it returns false'. Refute it at one input. -/
def packWorthsWrong : ChangeSpec := { name := "packWorths", fn := fun _ => fun
  | [d1, d2] => { results := [.lit (.bool false)], args := [d1, d2] }
  | _ => none }
def PackWorthsWrongFalsely : Prop := packWorthsRow.holds Try.pinned (OpenSpec.ofChange packWorthsWrong)

/- THE SECOND FORM. 'bulk': how many values and letters a reading holds, each counted each time it is reached (what is shared counts as often as it is met; a slice's spare places count too). A statement '..UptoSaid' is the law's where the arguments, and the package variables that the reading takes, are together of bulk at most 1048576: NARROWER than '..Said'. Prove '..Said' where nothing that the law and all that it calls make is longer than what came in: it says more and counts as full. Else prove '..UptoSaid'. A law counts once. -/
mutual
def uptoBulk {H : Type} : DataW H → Nat
  | .lit (.string bytes) => bytes.length + 1
  | .lit _ => 1
  | .nil => 1
  | .ptr d => uptoBulk d + 1
  | .slice elems spare => uptoBulkAll elems + uptoBulkAll spare + 1
  | .agg parts => uptoBulkAll parts + 1
  | .iface _ d => uptoBulk d + 1
  | .map entries => uptoBulkEntries entries + 1
  | .held _ => 1
def uptoBulkAll {H : Type} : List (DataW H) → Nat
  | [] => 0
  | d :: r => uptoBulk d + uptoBulkAll r
def uptoBulkEntries {H : Type} : List (Lit × DataW H) → Nat
  | [] => 0
  | x :: r => uptoBulkEntry x + uptoBulkEntries r
def uptoBulkEntry {H : Type} : Lit × DataW H → Nat
  | (.string bytes, d) => bytes.length + uptoBulk d + 1
  | (_, d) => uptoBulk d + 1
 end
def uptoSmall : (H : Type) → List (DataW H) → Bool := fun _ ds => decide (uptoBulkAll ds ≤ 1048576)
def OpenSpec.upto (s : _root_.Go.ChangeSpec) : _root_.Go.OpenSpec := { _root_.Go.OpenSpec.ofChange s with cond := some uptoSmall }

/-- 'punnetlaw02.PackJoins', WHERE WHAT IT READS IS OF BULK AT MOST 1048576: true; the input reads as it did. -/
def packJoinsUptoRow : OpenClaim := { program := "ytflkkgejcpaepaa", sum := "ab50d5d123c33bb456f5b0c2e0dc58f7bff9ce7a4e01d79619ddba1993ed3171", func := "punnet/punnetlaw02.PackJoins", spec := "packJoins", inPlace := ["math.archTrunc", "math.Float64bits", "math.Float64frombits"], apart := false, narrowed := true }
def PackJoinsUptoSaid : Prop := packJoinsUptoRow.holds Try.pinned (OpenSpec.upto packJoinsSpec)

/-- 'punnetlaw02.PackParts', WHERE WHAT IT READS IS OF BULK AT MOST 1048576: true; the input reads as it did. -/
def packPartsUptoRow : OpenClaim := { program := "ytflkkgejcpaepaa", sum := "ab50d5d123c33bb456f5b0c2e0dc58f7bff9ce7a4e01d79619ddba1993ed3171", func := "punnet/punnetlaw02.PackParts", spec := "packParts", inPlace := ["math.archTrunc", "math.Float64bits", "math.Float64frombits"], apart := false, narrowed := true }
def PackPartsUptoSaid : Prop := packPartsUptoRow.holds Try.pinned (OpenSpec.upto packPartsSpec)

/-- 'punnetlaw02.PackAdds', WHERE WHAT IT READS IS OF BULK AT MOST 1048576: true; the input reads as it did. -/
def packAddsUptoRow : OpenClaim := { program := "ytflkkgejcpaepaa", sum := "ab50d5d123c33bb456f5b0c2e0dc58f7bff9ce7a4e01d79619ddba1993ed3171", func := "punnet/punnetlaw02.PackAdds", spec := "packAdds", inPlace := ["math.archTrunc", "math.Float64bits", "math.Float64frombits"], apart := false, narrowed := true }
def PackAddsUptoSaid : Prop := packAddsUptoRow.holds Try.pinned (OpenSpec.upto packAddsSpec)

/-- 'punnetlaw02.PackWorths', WHERE WHAT IT READS IS OF BULK AT MOST 1048576: true; the input reads as it did. -/
def packWorthsUptoRow : OpenClaim := { program := "ytflkkgejcpaepaa", sum := "ab50d5d123c33bb456f5b0c2e0dc58f7bff9ce7a4e01d79619ddba1993ed3171", func := "punnet/punnetlaw02.PackWorths", spec := "packWorths", inPlace := ["math.archTrunc", "math.Float64bits", "math.Float64frombits"], apart := false, narrowed := true }
def PackWorthsUptoSaid : Prop := packWorthsUptoRow.holds Try.pinned (OpenSpec.upto packWorthsSpec)

end Rows
end Go.Proofs.Ytflkkgejcpaepaa
