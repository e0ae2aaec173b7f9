/- Any move is told by a line, and by it alone, or by none, up to 20 pairs a table and 200 bytes a text: the listed package-level variables hold what the program's text lays. -/
import Derived.Test.YtdfbohaohjaloaaGreatDoorRows
import Derived.Test.YtdfbohaohjaloaaGreatDoorScriptPrintsM8
import Derived.Test.YtdfbohaohjaloaaGreatDoorScriptPrintsFA
import Derived.Test.YtdfbohaohjaloaaGreatDoorScriptPrintsFB
import Derived.Test.YtdfbohaohjaloaaGreatDoorScriptPrintsFC
import Derived.WalkKit
import Derived.Below
import Derived.ProofKit
import Derived.OpenShut
import Derived.ShutString
import Derived.Laws.Cover2
import Derived.LaidMore
import Derived.Lay
import Derived.SevenTiedAt
import Derived.Test.YtdfbohaohjaloaaGreatDoorCards
import Derived.Test.YtdfbohaohjaloaaGreatDoorTie
namespace Go.Proofs.YtdfbohaohjaloaaGreatDoor.scriptPrints
open Go.ChangeShapes Go.WideShapes Go.ChangeAt Go.RowKit
open Go.ChangeMaps (open_string shut_string)
set_option linter.unusedVariables false

set_option maxRecDepth 100000 in
theorem lifted (os : Os) (started : os.Started) (H : Type) (enc : TypeId × Value → H) :
    ReturnsInHanded {} Tryz.checked os 6 .any (fun w args => (Rows.scriptPrintsSpec.pre enc Tryz.prog Tryz.f6 Rows.scriptPrintsRow.domain false w args ∧ laidMetH Tryz.prog Rows.scriptPrintsRow.laid w) ∧ sizedMet enc Tryz.prog Tryz.f6 (OpenSpec.ofChange Rows.scriptPrintsSpec) false w args)
      (Rows.scriptPrintsSpec.post enc Tryz.prog Tryz.f6 false true false false) := by
  refine returnsInHanded_of_change_and (C := Tryz.checked) (X := fun w _ => laidMetH Tryz.prog Rows.scriptPrintsRow.laid w) (fun _ _ _ hh h => h.of_heap hh) own started (by kernel_rfl) Tryz.func6
    (ChangeSpec.witness_shaped (enc := enc) (C := Tryz.checked) (os := os) (X := fun w _ => laidMetH Tryz.prog Rows.scriptPrintsRow.laid w) false (World.laidAll Tryz.prog os Rows.scriptPrintsRow.laid) #[.agg #[.int .i64 0, .int .i64 0, .int .i64 0, .int .i64 0, .int .i64 0, .int .i64 0, .int .i64 0, .int .i64 0, .string ByteArray.empty, .string ByteArray.empty, .int .i64 0, .string ByteArray.empty, .string ByteArray.empty, .int .i64 0, .string ByteArray.empty, .int .i64 0, .int .i64 0, .int .i64 0, .int .i64 0, .string ByteArray.empty, .string ByteArray.empty, .string ByteArray.empty, .string ByteArray.empty, .int .i64 0, .int .i64 0, .string ByteArray.empty, .string ByteArray.empty, .int .i64 0, .string ByteArray.empty, .slice none 0 0, .int .i64 0, .slice none 0 0, .slice none 0 0]] 8 (World.laidAll_os _ _ _)
      (World.shaped_of_ZipB (by kernel_rfl) (by kernel_rfl)) (by kernel_rfl) (by kernel_rfl) (by kernel_rfl)
      (by rw [MakeChecks.laidMetH_plain _ _ _ (by kernel_rfl)]; exact laidMet_laidAll _ (by kernel_rfl) (by kernel_rfl))) ?_
  intro W base args ds gs before hval0 hW hcnd _ hL _
  have hval : ∀ (j : Nat) t v, Tryz.f6.params[j]? = some t → args[j]? = some v → Value.okWide Tryz.prog W .any base t v := hval0
  have hW' := hW
  obtain ⟨p, q, hA0, hV, rfl, hfz, hnd⟩ := hW
  have hA : DataW.TrodAll enc Tryz.prog W 0 (fun _ => true) true Tryz.f6.params.toList args.toList ds p := hA0
  rw [Tryz.params6] at hA hval
  obtain ⟨v0, vs0, d0, ds0, p0, q0, hargs, rfl, rfl, h0, r0⟩ := trodAll_cons hA
  obtain ⟨rfl, rfl, rfl⟩ := trodAll_nil r0
  obtain rfl : args = #[v0] := by cases args; simp_all
  obtain ⟨rfl, rfl⟩ := trodVars_none hV
  obtain ⟨s0, rfl, z0⟩ := okWide_struct Tryz.underlying47 (hval 0 47 v0 rfl rfl)
  have R0 : Reads Tryz.prog W 47 s0.toList := Reads.one h0
  clear hA0 hval0
  refine (AtH s0 W R0 (AmR W hL)).mono fun e W' ⟨he, hg⟩ => ?_
  subst he
  exact ⟨_, rfl, Ap9 (kids_rows laid mapped) (fun {t e} => slices_full_of Tryz.prog full t e) (fun t ht => of_decide_eq_true (List.all_eq_true.1 known t ht)) rfl hW' (fun _ _ _ => trodAll_cons_mk (shut_bool Tryz.underlying4 _) trodAll_mk0) rfl rfl hg⟩

theorem and_mk {a b : Bool} (h1 : a = true) (h2 : b = true) : (a && b) = true := by rw [h1, h2]; rfl
set_option maxRecDepth 100000 in
theorem closed : joinedFacts Tryz.prog 6 Tryz.f6 Rows.scriptPrintsSpec Rows.scriptPrintsRow = true := (and_mk (and_mk (and_mk (and_mk (and_mk (and_mk (and_mk (and_mk (and_mk (and_mk (and_mk (and_mk (and_mk (and_mk (and_mk (and_mk (and_mk (and_mk (and_mk (and_mk (and_mk (and_mk (and_mk (and_mk (and_mk (and_mk (and_mk (and_mk (and_mk (and_mk (and_mk c0 laid) mapped) c3) c4) c5) c6) c7) c8) c9) c10) c11) c12) c13) c14) c15) c16) c17) c18) c19) c20) c21) c22) c23) c24) c25) c26) c27) c28) c29) c30) c31)

theorem over : Rows.scriptPrintsRow.holds Tryz.pinned (OpenSpec.ofChange Rows.scriptPrintsSpec) :=
  OpenClaim.holds_of_wide 6 Tryz.f6 rfl rfl rfl rfl rfl rfl rfl ⟨rfl, rfl, rfl, rfl, rfl⟩ rfl rfl rfl rfl rfl (by kernel_rfl) Tryz.func6 closed
    (of_decide_eq_true (by kernel_rfl)) (by unfold Func.isWrapper; first | (rw [if_pos (by decide +kernel)]; kernel_rfl) | (rw [if_neg (by decide +kernel)]; exact ⟨rfl, rfl⟩))
    (fun os started H enc _ => lifted os started H enc)

theorem goes_none {P : Program} (h : P.funcs.any Func.goes = false) {c : OpenClaim} (hs : c.start = .entering) : false = c.goesBy P := by
  have hall : ∀ fn ∈ P.funcs, fn.goes = false := fun fn hm => by
    have := Array.any_eq_false.1 h
    obtain ⟨i, hi, rfl⟩ := Array.mem_iff_getElem.1 hm
    simpa using this i hi
  have hP : ∀ f, P.goes f = false := fun f => by
    unfold Program.goes
    rw [h, Bool.and_false, Bool.or_false, List.any_eq_false]
    intro g _
    cases hg : P.funcs[g]? with
    | none => simp
    | some fn =>
      obtain ⟨hi, rfl⟩ := Array.getElem?_eq_some_iff.1 hg
      simp [hall _ (Array.getElem_mem hi)]
  unfold OpenClaim.goesBy Program.goesAt Program.goesFrom
  rw [hs]
  cases hf : P.funcNamed c.func with
  | none => rfl
  | some f => simp [hP f]
theorem qgoes : false = Rows.scriptPrintsRow.goesBy Tryz.prog := goes_none qgo rfl
theorem proved : Rows.ScriptPrintsCardSaid :=
  Claim7.holds_tied_plain_at .later [] [.data, .data, .data, .data, .data, .pinned] true (true, "a5e0bc949c5d0c838ce1e23d19f10df83379c060680ac6c6e9379ae861816d85") false over (fun _ h => by cases h) qwf (fun _ h => by cases h) scriptPrints_row_tie rfl ⟨rfl, rfl⟩ qmain rfl
    (fun f fn hf hfn => by
      obtain rfl : f = 6 := Option.some.inj (qfn.symm.trans hf) |>.symm
      obtain rfl : fn = Tryz.f6 := (Option.some.inj (Tryz.func6.symm.trans hfn)).symm
      exact ⟨qlooks, fun j t ht => by
        rw [Tryz.params6] at ht
        have hm : t ∈ [47] := by simpa using Array.mem_of_getElem? ht
        exact (show Tryz.prog.wantsStandIn t = false by simpa using List.all_eq_true.1 qins t hm)⟩)
    qgoes
end Go.Proofs.YtdfbohaohjaloaaGreatDoor.scriptPrints
