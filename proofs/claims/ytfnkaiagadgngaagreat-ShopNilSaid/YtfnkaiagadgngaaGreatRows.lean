/-
  No cell of these rows narrows 'for every input' (looked for: loops, veiled, ifaces, maps, wideKeys, modest, calm, conditions, laid).
  DERIVED. THE GIVEN ROWS OF THIS SEAT. 8 by the template 'for every input the law returns true; each argument reads behind the call as it read before'; 0 by the template 'total and deterministic' (their statements: YtfnkaiagadgngaaGreatTotals.lean).
  GIVEN WITH THE SEED: the statements are not yours to turn. If you find one false, say at which input.
  Laid BY PROGRAM, IN A SANDBOX (cutbox-rows.mjs): the forced cells as the released guide's own fill.sh prints them over the translation 9ca45faaf79d1760… (all of the seat's roots in one cut). By AI agents, Wed Nov 11 2026. No macro, syntax, notation, axiom, sorry.
-/
import Derived.Test.YtfnkaiagadgngaaGreatChecked
import GoSem.Claim
import GoSem.ClaimJoined
import GoSem.ClaimMapViews
import Derived.JoinedTies
import Derived.KernelRfl
namespace Go.Proofs.YtfnkaiagadgngaaGreat
/- THE CELL 'sum', in the pinned program and in every row, IS THE sha256 OF THE DUMP (.gsa) THAT YtfnkaiagadgngaaGreatProg.lean LOADS. Nothing in Lean hashes anything: it is a label: what it is worth is what the hold of that sum in a sandbox is worth. -/
noncomputable def Tryz.pinned : Pinned := { name := "ytfnkaiagadgngaagreat", sum := "9ca45faaf79d1760b4705b46d6ce2c72d057138ffce1f4a3cbc7c9dab80b44df", checked := Tryz.checked }
namespace Rows
def none {H : Type} : Left H := { results := [], args := [] }

/-- 'punnetlaw31.PeerHears': WHATEVER THE INPUT: true; the input reads as it did. -/
def peerHearsSpec : ChangeSpec := { name := "peerHears", fn := fun _ => fun
  | [d1, d2, d3] => { results := [.lit (.bool true)], args := [d1, d2, d3] }
  | _ => none }
def peerHearsRow : OpenClaim := { program := "ytfnkaiagadgngaagreat", sum := "9ca45faaf79d1760b4705b46d6ce2c72d057138ffce1f4a3cbc7c9dab80b44df", func := "punnet/punnetlaw31.PeerHears", spec := "peerHears", inPlace := ["math.archTrunc", "math.Float64bits", "math.Float64frombits"], unfollowed := true, recurses := true, plainKeys := false, apart := false }
def PeerHearsSaid : Prop := peerHearsRow.holds Tryz.pinned (OpenSpec.ofChange peerHearsSpec)

/-- ITS FALSE NEIGHBOUR: 'it returns false'. Refute it at one input. -/
def peerHearsWrong : ChangeSpec := { name := "peerHears", fn := fun _ => fun
  | [d1, d2, d3] => { results := [.lit (.bool false)], args := [d1, d2, d3] }
  | _ => none }
def PeerHearsWrongFalsely : Prop := peerHearsRow.holds Tryz.pinned (OpenSpec.ofChange peerHearsWrong)

/-- 'punnetlaw31.PeerTwice': WHATEVER THE INPUT: true; the input reads as it did. -/
def peerTwiceSpec : ChangeSpec := { name := "peerTwice", fn := fun _ => fun
  | [d1, d2] => { results := [.lit (.bool true)], args := [d1, d2] }
  | _ => none }
def peerTwiceRow : OpenClaim := { program := "ytfnkaiagadgngaagreat", sum := "9ca45faaf79d1760b4705b46d6ce2c72d057138ffce1f4a3cbc7c9dab80b44df", func := "punnet/punnetlaw31.PeerTwice", spec := "peerTwice", inPlace := ["math.archTrunc", "math.Float64bits", "math.Float64frombits"], unfollowed := true, recurses := true, plainKeys := false, apart := false }
def PeerTwiceSaid : Prop := peerTwiceRow.holds Tryz.pinned (OpenSpec.ofChange peerTwiceSpec)

/-- ITS FALSE NEIGHBOUR: 'it returns false'. Refute it at one input. -/
def peerTwiceWrong : ChangeSpec := { name := "peerTwice", fn := fun _ => fun
  | [d1, d2] => { results := [.lit (.bool false)], args := [d1, d2] }
  | _ => none }
def PeerTwiceWrongFalsely : Prop := peerTwiceRow.holds Tryz.pinned (OpenSpec.ofChange peerTwiceWrong)

/-- 'punnetlaw31.PeerPulls': WHATEVER THE INPUT: true; the input reads as it did. -/
def peerPullsSpec : ChangeSpec := { name := "peerPulls", fn := fun _ => fun
  | [d1, d2, d3, d4] => { results := [.lit (.bool true)], args := [d1, d2, d3, d4] }
  | _ => none }
def peerPullsRow : OpenClaim := { program := "ytfnkaiagadgngaagreat", sum := "9ca45faaf79d1760b4705b46d6ce2c72d057138ffce1f4a3cbc7c9dab80b44df", func := "punnet/punnetlaw31.PeerPulls", spec := "peerPulls", inPlace := ["math.archTrunc", "math.Float64bits", "math.Float64frombits"], unfollowed := true, recurses := true, plainKeys := false, apart := false }
def PeerPullsSaid : Prop := peerPullsRow.holds Tryz.pinned (OpenSpec.ofChange peerPullsSpec)

/-- ITS FALSE NEIGHBOUR: 'it returns false'. Refute it at one input. -/
def peerPullsWrong : ChangeSpec := { name := "peerPulls", fn := fun _ => fun
  | [d1, d2, d3, d4] => { results := [.lit (.bool false)], args := [d1, d2, d3, d4] }
  | _ => none }
def PeerPullsWrongFalsely : Prop := peerPullsRow.holds Tryz.pinned (OpenSpec.ofChange peerPullsWrong)

/-- 'punnetlaw31.PeerMeets': WHATEVER THE INPUT: true; the input reads as it did. -/
def peerMeetsSpec : ChangeSpec := { name := "peerMeets", fn := fun _ => fun
  | [d1, d2, d3, d4, d5, d6] => { results := [.lit (.bool true)], args := [d1, d2, d3, d4, d5, d6] }
  | _ => none }
def peerMeetsRow : OpenClaim := { program := "ytfnkaiagadgngaagreat", sum := "9ca45faaf79d1760b4705b46d6ce2c72d057138ffce1f4a3cbc7c9dab80b44df", func := "punnet/punnetlaw31.PeerMeets", spec := "peerMeets", inPlace := ["math.archTrunc", "math.Float64bits", "math.Float64frombits"], unfollowed := true, recurses := true, plainKeys := false, apart := false }
def PeerMeetsSaid : Prop := peerMeetsRow.holds Tryz.pinned (OpenSpec.ofChange peerMeetsSpec)

/-- ITS FALSE NEIGHBOUR: 'it returns false'. Refute it at one input. -/
def peerMeetsWrong : ChangeSpec := { name := "peerMeets", fn := fun _ => fun
  | [d1, d2, d3, d4, d5, d6] => { results := [.lit (.bool false)], args := [d1, d2, d3, d4, d5, d6] }
  | _ => none }
def PeerMeetsWrongFalsely : Prop := peerMeetsRow.holds Tryz.pinned (OpenSpec.ofChange peerMeetsWrong)

/-- 'punnetlaw29.ShopOpens': WHATEVER THE INPUT: true; the input reads as it did. -/
def shopOpensSpec : ChangeSpec := { name := "shopOpens", fn := fun _ => fun
  | [d1, d2] => { results := [.lit (.bool true)], args := [d1, d2] }
  | _ => none }
def shopOpensRow : OpenClaim := { program := "ytfnkaiagadgngaagreat", sum := "9ca45faaf79d1760b4705b46d6ce2c72d057138ffce1f4a3cbc7c9dab80b44df", func := "punnet/punnetlaw29.ShopOpens", spec := "shopOpens", inPlace := ["math.archTrunc", "math.Float64bits", "math.Float64frombits"], unfollowed := true, recurses := true, plainKeys := false, apart := false }
def ShopOpensSaid : Prop := shopOpensRow.holds Tryz.pinned (OpenSpec.ofChange shopOpensSpec)

/-- ITS FALSE NEIGHBOUR: 'it returns false'. Refute it at one input. -/
def shopOpensWrong : ChangeSpec := { name := "shopOpens", fn := fun _ => fun
  | [d1, d2] => { results := [.lit (.bool false)], args := [d1, d2] }
  | _ => none }
def ShopOpensWrongFalsely : Prop := shopOpensRow.holds Tryz.pinned (OpenSpec.ofChange shopOpensWrong)

/-- 'punnetlaw29.ShopKeeps': WHATEVER THE INPUT: true; the input reads as it did. -/
def shopKeepsSpec : ChangeSpec := { name := "shopKeeps", fn := fun _ => fun
  | [d1, d2] => { results := [.lit (.bool true)], args := [d1, d2] }
  | _ => none }
def shopKeepsRow : OpenClaim := { program := "ytfnkaiagadgngaagreat", sum := "9ca45faaf79d1760b4705b46d6ce2c72d057138ffce1f4a3cbc7c9dab80b44df", func := "punnet/punnetlaw29.ShopKeeps", spec := "shopKeeps", inPlace := ["math.archTrunc", "math.Float64bits", "math.Float64frombits"], unfollowed := true, recurses := true, plainKeys := false, apart := false }
def ShopKeepsSaid : Prop := shopKeepsRow.holds Tryz.pinned (OpenSpec.ofChange shopKeepsSpec)

/-- ITS FALSE NEIGHBOUR: 'it returns false'. Refute it at one input. -/
def shopKeepsWrong : ChangeSpec := { name := "shopKeeps", fn := fun _ => fun
  | [d1, d2] => { results := [.lit (.bool false)], args := [d1, d2] }
  | _ => none }
def ShopKeepsWrongFalsely : Prop := shopKeepsRow.holds Tryz.pinned (OpenSpec.ofChange shopKeepsWrong)

/-- 'punnetlaw29.ShopLasts': WHATEVER THE INPUT: true; the input reads as it did. -/
def shopLastsSpec : ChangeSpec := { name := "shopLasts", fn := fun _ => fun
  | [d1, d2, d3, d4, d5] => { results := [.lit (.bool true)], args := [d1, d2, d3, d4, d5] }
  | _ => none }
def shopLastsRow : OpenClaim := { program := "ytfnkaiagadgngaagreat", sum := "9ca45faaf79d1760b4705b46d6ce2c72d057138ffce1f4a3cbc7c9dab80b44df", func := "punnet/punnetlaw29.ShopLasts", spec := "shopLasts", inPlace := ["math.archTrunc", "math.Float64bits", "math.Float64frombits"], unfollowed := true, recurses := true, plainKeys := false, apart := false }
def ShopLastsSaid : Prop := shopLastsRow.holds Tryz.pinned (OpenSpec.ofChange shopLastsSpec)

/-- ITS FALSE NEIGHBOUR: 'it returns false'. Refute it at one input. -/
def shopLastsWrong : ChangeSpec := { name := "shopLasts", fn := fun _ => fun
  | [d1, d2, d3, d4, d5] => { results := [.lit (.bool false)], args := [d1, d2, d3, d4, d5] }
  | _ => none }
def ShopLastsWrongFalsely : Prop := shopLastsRow.holds Tryz.pinned (OpenSpec.ofChange shopLastsWrong)

/-- 'punnetlaw29.ShopNil': WHATEVER THE INPUT: true; the input reads as it did. -/
def shopNilSpec : ChangeSpec := { name := "shopNil", fn := fun _ => fun
  | [d1, d2] => { results := [.lit (.bool true)], args := [d1, d2] }
  | _ => none }
def shopNilRow : OpenClaim := { program := "ytfnkaiagadgngaagreat", sum := "9ca45faaf79d1760b4705b46d6ce2c72d057138ffce1f4a3cbc7c9dab80b44df", func := "punnet/punnetlaw29.ShopNil", spec := "shopNil", inPlace := ["math.archTrunc", "math.Float64bits", "math.Float64frombits"], unfollowed := true, recurses := true, plainKeys := false, apart := false }
def ShopNilSaid : Prop := shopNilRow.holds Tryz.pinned (OpenSpec.ofChange shopNilSpec)

/-- ITS FALSE NEIGHBOUR: 'it returns false'. Refute it at one input. -/
def shopNilWrong : ChangeSpec := { name := "shopNil", fn := fun _ => fun
  | [d1, d2] => { results := [.lit (.bool false)], args := [d1, d2] }
  | _ => none }
def ShopNilWrongFalsely : Prop := shopNilRow.holds Tryz.pinned (OpenSpec.ofChange shopNilWrong)

/- THE SECOND FORM. 'bulk': how many values and letters a reading holds, each counted each time it is reached (what is shared counts as often as it is met; a slice's spare places count too). A statement '..UptoSaid' is the law's where the arguments, and the package variables that the reading takes, are together of bulk at most 1048576: NARROWER than '..Said'. Prove '..Said' where nothing that the law and all that it calls make is longer than what came in: it says more and counts as full. Else prove '..UptoSaid'. A law counts once. -/
mutual
def uptoBulk {H : Type} : DataW H → Nat
  | .lit (.string bytes) => bytes.length + 1
  | .lit _ => 1
  | .nil => 1
  | .ptr d => uptoBulk d + 1
  | .slice elems spare => uptoBulkAll elems + uptoBulkAll spare + 1
  | .agg parts => uptoBulkAll parts + 1
  | .iface _ d => uptoBulk d + 1
  | .map entries => uptoBulkEntries entries + 1
  | .held _ => 1
def uptoBulkAll {H : Type} : List (DataW H) → Nat
  | [] => 0
  | d :: r => uptoBulk d + uptoBulkAll r
def uptoBulkEntries {H : Type} : List (Lit × DataW H) → Nat
  | [] => 0
  | x :: r => uptoBulkEntry x + uptoBulkEntries r
def uptoBulkEntry {H : Type} : Lit × DataW H → Nat
  | (.string bytes, d) => bytes.length + uptoBulk d + 1
  | (_, d) => uptoBulk d + 1
 end
def uptoSmall : (H : Type) → List (DataW H) → Bool := fun _ ds => decide (uptoBulkAll ds ≤ 1048576)
def OpenSpec.upto (s : _root_.Go.ChangeSpec) : _root_.Go.OpenSpec := { _root_.Go.OpenSpec.ofChange s with cond := some uptoSmall }

/-- 'punnetlaw31.PeerHears', WHERE WHAT IT READS IS OF BULK AT MOST 1048576: true; the input reads as it did. -/
def peerHearsUptoRow : OpenClaim := { program := "ytfnkaiagadgngaagreat", sum := "9ca45faaf79d1760b4705b46d6ce2c72d057138ffce1f4a3cbc7c9dab80b44df", func := "punnet/punnetlaw31.PeerHears", spec := "peerHears", inPlace := ["math.archTrunc", "math.Float64bits", "math.Float64frombits"], unfollowed := true, recurses := true, plainKeys := false, apart := false, narrowed := true }
def PeerHearsUptoSaid : Prop := peerHearsUptoRow.holds Tryz.pinned (OpenSpec.upto peerHearsSpec)

/-- 'punnetlaw31.PeerTwice', WHERE WHAT IT READS IS OF BULK AT MOST 1048576: true; the input reads as it did. -/
def peerTwiceUptoRow : OpenClaim := { program := "ytfnkaiagadgngaagreat", sum := "9ca45faaf79d1760b4705b46d6ce2c72d057138ffce1f4a3cbc7c9dab80b44df", func := "punnet/punnetlaw31.PeerTwice", spec := "peerTwice", inPlace := ["math.archTrunc", "math.Float64bits", "math.Float64frombits"], unfollowed := true, recurses := true, plainKeys := false, apart := false, narrowed := true }
def PeerTwiceUptoSaid : Prop := peerTwiceUptoRow.holds Tryz.pinned (OpenSpec.upto peerTwiceSpec)

/-- 'punnetlaw31.PeerPulls', WHERE WHAT IT READS IS OF BULK AT MOST 1048576: true; the input reads as it did. -/
def peerPullsUptoRow : OpenClaim := { program := "ytfnkaiagadgngaagreat", sum := "9ca45faaf79d1760b4705b46d6ce2c72d057138ffce1f4a3cbc7c9dab80b44df", func := "punnet/punnetlaw31.PeerPulls", spec := "peerPulls", inPlace := ["math.archTrunc", "math.Float64bits", "math.Float64frombits"], unfollowed := true, recurses := true, plainKeys := false, apart := false, narrowed := true }
def PeerPullsUptoSaid : Prop := peerPullsUptoRow.holds Tryz.pinned (OpenSpec.upto peerPullsSpec)

/-- 'punnetlaw31.PeerMeets', WHERE WHAT IT READS IS OF BULK AT MOST 1048576: true; the input reads as it did. -/
def peerMeetsUptoRow : OpenClaim := { program := "ytfnkaiagadgngaagreat", sum := "9ca45faaf79d1760b4705b46d6ce2c72d057138ffce1f4a3cbc7c9dab80b44df", func := "punnet/punnetlaw31.PeerMeets", spec := "peerMeets", inPlace := ["math.archTrunc", "math.Float64bits", "math.Float64frombits"], unfollowed := true, recurses := true, plainKeys := false, apart := false, narrowed := true }
def PeerMeetsUptoSaid : Prop := peerMeetsUptoRow.holds Tryz.pinned (OpenSpec.upto peerMeetsSpec)

/-- 'punnetlaw29.ShopOpens', WHERE WHAT IT READS IS OF BULK AT MOST 1048576: true; the input reads as it did. -/
def shopOpensUptoRow : OpenClaim := { program := "ytfnkaiagadgngaagreat", sum := "9ca45faaf79d1760b4705b46d6ce2c72d057138ffce1f4a3cbc7c9dab80b44df", func := "punnet/punnetlaw29.ShopOpens", spec := "shopOpens", inPlace := ["math.archTrunc", "math.Float64bits", "math.Float64frombits"], unfollowed := true, recurses := true, plainKeys := false, apart := false, narrowed := true }
def ShopOpensUptoSaid : Prop := shopOpensUptoRow.holds Tryz.pinned (OpenSpec.upto shopOpensSpec)

/-- 'punnetlaw29.ShopKeeps', WHERE WHAT IT READS IS OF BULK AT MOST 1048576: true; the input reads as it did. -/
def shopKeepsUptoRow : OpenClaim := { program := "ytfnkaiagadgngaagreat", sum := "9ca45faaf79d1760b4705b46d6ce2c72d057138ffce1f4a3cbc7c9dab80b44df", func := "punnet/punnetlaw29.ShopKeeps", spec := "shopKeeps", inPlace := ["math.archTrunc", "math.Float64bits", "math.Float64frombits"], unfollowed := true, recurses := true, plainKeys := false, apart := false, narrowed := true }
def ShopKeepsUptoSaid : Prop := shopKeepsUptoRow.holds Tryz.pinned (OpenSpec.upto shopKeepsSpec)

/-- 'punnetlaw29.ShopLasts', WHERE WHAT IT READS IS OF BULK AT MOST 1048576: true; the input reads as it did. -/
def shopLastsUptoRow : OpenClaim := { program := "ytfnkaiagadgngaagreat", sum := "9ca45faaf79d1760b4705b46d6ce2c72d057138ffce1f4a3cbc7c9dab80b44df", func := "punnet/punnetlaw29.ShopLasts", spec := "shopLasts", inPlace := ["math.archTrunc", "math.Float64bits", "math.Float64frombits"], unfollowed := true, recurses := true, plainKeys := false, apart := false, narrowed := true }
def ShopLastsUptoSaid : Prop := shopLastsUptoRow.holds Tryz.pinned (OpenSpec.upto shopLastsSpec)

/-- 'punnetlaw29.ShopNil', WHERE WHAT IT READS IS OF BULK AT MOST 1048576: true; the input reads as it did. -/
def shopNilUptoRow : OpenClaim := { program := "ytfnkaiagadgngaagreat", sum := "9ca45faaf79d1760b4705b46d6ce2c72d057138ffce1f4a3cbc7c9dab80b44df", func := "punnet/punnetlaw29.ShopNil", spec := "shopNil", inPlace := ["math.archTrunc", "math.Float64bits", "math.Float64frombits"], unfollowed := true, recurses := true, plainKeys := false, apart := false, narrowed := true }
def ShopNilUptoSaid : Prop := shopNilUptoRow.holds Tryz.pinned (OpenSpec.upto shopNilSpec)

end Rows
end Go.Proofs.YtfnkaiagadgngaaGreat
