/-
  No cell of these rows narrows 'for every input' (looked for: loops, veiled, ifaces, maps, wideKeys, modest, calm, conditions, laid).
  DERIVED. THE GIVEN ROWS OF THIS SEAT. 2 by the template 'for every input the law returns true; each argument reads behind the call as it read before'; 0 by the template 'total and deterministic' (their statements: YtiflplmdehiomaaGreatTotals.lean).
  GIVEN WITH THE SEED: the statements are not yours to turn. If you find one false, say at which input.
  Laid BY PROGRAM, IN A SANDBOX (cutbox-rows.mjs): the forced cells as the released guide's own fill.sh prints them over the translation 2bd1957f0efed1d8… (all of the seat's roots in one cut). By AI agents, Wed Nov 11 2026. No macro, syntax, notation, axiom, sorry.
-/
import Derived.Test.YtiflplmdehiomaaGreatChecked
import GoSem.Claim
import GoSem.ClaimJoined
import GoSem.ClaimMapViews
import Derived.JoinedTies
import Derived.KernelRfl
namespace Go.Proofs.YtiflplmdehiomaaGreat
/- THE CELL 'sum', in the pinned program and in every row, IS THE sha256 OF THE DUMP (.gsa) THAT YtiflplmdehiomaaGreatProg.lean LOADS. Nothing in Lean hashes anything: it is a label: what it is worth is what the hold of that sum in a sandbox is worth. -/
noncomputable def Tryz.pinned : Pinned := { name := "ytiflplmdehiomaagreat", sum := "2bd1957f0efed1d8b89194d4c348d7925f3570af0f8e127826f782ec8c01c048", checked := Tryz.checked }
namespace Rows
def none {H : Type} : Left H := { results := [], args := [] }

/-- 'punnetlaw31.PeerNil': WHATEVER THE INPUT: true; the input reads as it did. -/
def peerNilSpec : ChangeSpec := { name := "peerNil", fn := fun _ => fun
  | [d1, d2] => { results := [.lit (.bool true)], args := [d1, d2] }
  | _ => none }
def peerNilRow : OpenClaim := { program := "ytiflplmdehiomaagreat", sum := "2bd1957f0efed1d8b89194d4c348d7925f3570af0f8e127826f782ec8c01c048", func := "punnet/punnetlaw31.PeerNil", spec := "peerNil", unfollowed := true, recurses := true, plainKeys := false, apart := false }
def PeerNilSaid : Prop := peerNilRow.holds Tryz.pinned (OpenSpec.ofChange peerNilSpec)

/-- ITS FALSE NEIGHBOUR: 'it returns false'. Refute it at one input. -/
def peerNilWrong : ChangeSpec := { name := "peerNil", fn := fun _ => fun
  | [d1, d2] => { results := [.lit (.bool false)], args := [d1, d2] }
  | _ => none }
def PeerNilWrongFalsely : Prop := peerNilRow.holds Tryz.pinned (OpenSpec.ofChange peerNilWrong)

/-- 'punnetlaw29.ShopNil': WHATEVER THE INPUT: true; the input reads as it did. -/
def shopNilSpec : ChangeSpec := { name := "shopNil", fn := fun _ => fun
  | [d1, d2] => { results := [.lit (.bool true)], args := [d1, d2] }
  | _ => none }
def shopNilRow : OpenClaim := { program := "ytiflplmdehiomaagreat", sum := "2bd1957f0efed1d8b89194d4c348d7925f3570af0f8e127826f782ec8c01c048", func := "punnet/punnetlaw29.ShopNil", spec := "shopNil", inPlace := ["math.archTrunc", "math.Float64bits", "math.Float64frombits"], unfollowed := true, recurses := true, plainKeys := false, apart := false }
def ShopNilSaid : Prop := shopNilRow.holds Tryz.pinned (OpenSpec.ofChange shopNilSpec)

/-- ITS FALSE NEIGHBOUR: 'it returns false'. Refute it at one input. -/
def shopNilWrong : ChangeSpec := { name := "shopNil", fn := fun _ => fun
  | [d1, d2] => { results := [.lit (.bool false)], args := [d1, d2] }
  | _ => none }
def ShopNilWrongFalsely : Prop := shopNilRow.holds Tryz.pinned (OpenSpec.ofChange shopNilWrong)

/- THE SECOND FORM. 'bulk': how many values and letters a reading holds, each counted each time it is reached (what is shared counts as often as it is met; a slice's spare places count too). A statement '..UptoSaid' is the law's where the arguments, and the package variables that the reading takes, are together of bulk at most 1048576: NARROWER than '..Said'. Prove '..Said' where nothing that the law and all that it calls make is longer than what came in: it says more and counts as full. Else prove '..UptoSaid'. A law counts once. -/
mutual
def uptoBulk {H : Type} : DataW H → Nat
  | .lit (.string bytes) => bytes.length + 1
  | .lit _ => 1
  | .nil => 1
  | .ptr d => uptoBulk d + 1
  | .slice elems spare => uptoBulkAll elems + uptoBulkAll spare + 1
  | .agg parts => uptoBulkAll parts + 1
  | .iface _ d => uptoBulk d + 1
  | .map entries => uptoBulkEntries entries + 1
  | .held _ => 1
def uptoBulkAll {H : Type} : List (DataW H) → Nat
  | [] => 0
  | d :: r => uptoBulk d + uptoBulkAll r
def uptoBulkEntries {H : Type} : List (Lit × DataW H) → Nat
  | [] => 0
  | x :: r => uptoBulkEntry x + uptoBulkEntries r
def uptoBulkEntry {H : Type} : Lit × DataW H → Nat
  | (.string bytes, d) => bytes.length + uptoBulk d + 1
  | (_, d) => uptoBulk d + 1
 end
def uptoSmall : (H : Type) → List (DataW H) → Bool := fun _ ds => decide (uptoBulkAll ds ≤ 1048576)
def OpenSpec.upto (s : _root_.Go.ChangeSpec) : _root_.Go.OpenSpec := { _root_.Go.OpenSpec.ofChange s with cond := some uptoSmall }

/-- 'punnetlaw31.PeerNil', WHERE WHAT IT READS IS OF BULK AT MOST 1048576: true; the input reads as it did. -/
def peerNilUptoRow : OpenClaim := { program := "ytiflplmdehiomaagreat", sum := "2bd1957f0efed1d8b89194d4c348d7925f3570af0f8e127826f782ec8c01c048", func := "punnet/punnetlaw31.PeerNil", spec := "peerNil", unfollowed := true, recurses := true, plainKeys := false, apart := false, narrowed := true }
def PeerNilUptoSaid : Prop := peerNilUptoRow.holds Tryz.pinned (OpenSpec.upto peerNilSpec)

/-- 'punnetlaw29.ShopNil', WHERE WHAT IT READS IS OF BULK AT MOST 1048576: true; the input reads as it did. -/
def shopNilUptoRow : OpenClaim := { program := "ytiflplmdehiomaagreat", sum := "2bd1957f0efed1d8b89194d4c348d7925f3570af0f8e127826f782ec8c01c048", func := "punnet/punnetlaw29.ShopNil", spec := "shopNil", inPlace := ["math.archTrunc", "math.Float64bits", "math.Float64frombits"], unfollowed := true, recurses := true, plainKeys := false, apart := false, narrowed := true }
def ShopNilUptoSaid : Prop := shopNilUptoRow.holds Tryz.pinned (OpenSpec.upto shopNilSpec)

end Rows
end Go.Proofs.YtiflplmdehiomaaGreat
