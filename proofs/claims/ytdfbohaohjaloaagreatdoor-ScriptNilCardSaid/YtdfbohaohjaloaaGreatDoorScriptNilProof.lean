/- A console that is not there, and one that is new, answer as the reference answers, whatever the line: the listed package-level variables hold what the program's text lays. -/
import Derived.Test.YtdfbohaohjaloaaGreatDoorRows
import Derived.Test.YtdfbohaohjaloaaGreatDoorScriptNilM8
import Derived.WalkKit
import Derived.Below
import Derived.ProofKit
import Derived.OpenShut
import Derived.ShutString
import Derived.Laws.Cover2
import Derived.LaidMore
import Derived.Lay
import Derived.SevenTiedAt
import Derived.Test.YtdfbohaohjaloaaGreatDoorCards
import Derived.Test.YtdfbohaohjaloaaGreatDoorTie
namespace Go.Proofs.YtdfbohaohjaloaaGreatDoor.scriptNil
open Go.ChangeShapes Go.WideShapes Go.ChangeAt Go.RowKit
open Go.ChangeMaps (open_string shut_string)
set_option linter.unusedVariables false

theorem own : ownKnob Tryz.prog.godebug = none := by kernel_rfl
theorem laid : laidOutB Tryz.prog = true := by kernel_rfl
theorem mapped : mapsRowed Tryz.prog = true := by kernel_rfl
theorem full : ((List.range Tryz.prog.types.size).all fun t => match Tryz.prog.underlying t with | some (.slice e) => decide (0 < Tryz.prog.cellsOf e) | _ => true) = true := by kernel_rfl
theorem known : (Tryz.f4.params.toList.all fun t => decide (t < Tryz.prog.types.size)) = true := by kernel_rfl

set_option maxRecDepth 100000 in
theorem lifted (os : Os) (started : os.Started) (H : Type) (enc : TypeId × Value → H) :
    ReturnsInHanded {} Tryz.checked os 4 .any (fun w args => (Rows.scriptNilSpec.pre enc Tryz.prog Tryz.f4 Rows.scriptNilRow.domain false w args ∧ laidMetH Tryz.prog Rows.scriptNilRow.laid w) ∧ sizedMet enc Tryz.prog Tryz.f4 (OpenSpec.ofChange Rows.scriptNilSpec) false w args)
      (Rows.scriptNilSpec.post enc Tryz.prog Tryz.f4 false true false false) := by
  refine returnsInHanded_of_change_and (C := Tryz.checked) (X := fun w _ => laidMetH Tryz.prog Rows.scriptNilRow.laid w) (fun _ _ _ hh h => h.of_heap hh) own started (by kernel_rfl) Tryz.func4
    (ChangeSpec.witness_shaped (enc := enc) (C := Tryz.checked) (os := os) (X := fun w _ => laidMetH Tryz.prog Rows.scriptNilRow.laid w) false (World.laidAll Tryz.prog os Rows.scriptNilRow.laid) #[.string ByteArray.empty] 8 (World.laidAll_os _ _ _)
      (World.shaped_of_ZipB (by kernel_rfl) (by kernel_rfl)) (by kernel_rfl) (by kernel_rfl) (by kernel_rfl)
      (by rw [MakeChecks.laidMetH_plain _ _ _ (by kernel_rfl)]; exact laidMet_laidAll _ (by kernel_rfl) (by kernel_rfl))) ?_
  intro W base args ds gs before hval0 hW hcnd _ hL _
  have hval : ∀ (j : Nat) t v, Tryz.f4.params[j]? = some t → args[j]? = some v → Value.okWide Tryz.prog W .any base t v := hval0
  have hW' := hW
  obtain ⟨p, q, hA0, hV, rfl, hfz, hnd⟩ := hW
  have hA : DataW.TrodAll enc Tryz.prog W 0 (fun _ => true) true Tryz.f4.params.toList args.toList ds p := hA0
  rw [Tryz.params4] at hA hval
  obtain ⟨v0, vs0, d0, ds0, p0, q0, hargs, rfl, rfl, h0, r0⟩ := trodAll_cons hA
  obtain ⟨rfl, rfl, rfl⟩ := trodAll_nil r0
  obtain rfl : args = #[v0] := by cases args; simp_all
  obtain ⟨rfl, rfl⟩ := trodVars_none hV
  obtain ⟨a0, rfl, _, _, w0⟩ := open_string Tryz.underlying9 (hval 0 9 v0 rfl rfl) h0
  clear hA0 hval0
  refine (scriptNil_walk a0 W w0 (scriptNil_globs W hL)).mono fun e W' ⟨he, hg⟩ => ?_
  subst he
  exact ⟨_, rfl, law_post (kids_rows laid mapped) (fun {t e} => slices_full_of Tryz.prog full t e) (fun t ht => of_decide_eq_true (List.all_eq_true.1 known t ht)) rfl hW' (fun _ _ _ => trodAll_cons_mk (shut_bool Tryz.underlying4 _) trodAll_mk0) rfl rfl hg⟩

theorem c0 : (Rows.scriptNilRow.wf (OpenSpec.ofChange Rows.scriptNilSpec)) = true := by kernel_rfl
theorem c3 : (Tryz.f4.params.all (Tryz.prog.readableRec ·)) = true := by kernel_rfl
theorem c4 : (namedTie Tryz.prog Rows.scriptNilRow.named Rows.scriptNilSpec.vars) = true := by kernel_rfl
theorem c5 : ((Rows.scriptNilRow.stops == [])) = true := by kernel_rfl
theorem c6 : ((Tryz.prog.stops == [])) = true := by kernel_rfl
theorem c7 : ((Rows.scriptNilRow.knobs == [])) = true := by kernel_rfl
theorem c8 : ((Tryz.prog.stopKnobs == [])) = true := by kernel_rfl
theorem c9 : ((Rows.scriptNilRow.inPlace == Tryz.prog.inPlace 4)) = true := by kernel_rfl
theorem c10 : ((Rows.scriptNilRow.unfollowed == Tryz.prog.unfollowed 4)) = true := by kernel_rfl
theorem c11 : ((Rows.scriptNilRow.recurses == Tryz.prog.recurses 4)) = true := by kernel_rfl
theorem c12 : ((Rows.scriptNilRow.named == Tryz.prog.varsNamed 4)) = true := by kernel_rfl
theorem c13 : ((Rows.scriptNilRow.maps == (Tryz.f4.params.toList ++ Rows.scriptNilSpec.plain.varTypes Tryz.prog).any (Tryz.prog.mapsRec ·))) = true := by kernel_rfl
theorem c14 : ((Rows.scriptNilRow.ifaces == (Tryz.f4.params.toList ++ Rows.scriptNilSpec.plain.varTypes Tryz.prog).any (Tryz.prog.ifacesRec ·))) = true := by kernel_rfl
theorem c15 : ((Rows.scriptNilRow.mapsOut == Tryz.prog.mapsAmong Tryz.f4.resultTypes.toList)) = true := by kernel_rfl
theorem c16 : ((Rows.scriptNilRow.loops == (Tryz.f4.params.toList ++ Rows.scriptNilSpec.plain.varTypes Tryz.prog).any (Tryz.prog.loopsFrom ·))) = true := by kernel_rfl
theorem c17 : ((Rows.scriptNilRow.wideKeys == (Tryz.f4.params.toList ++ Rows.scriptNilSpec.plain.varTypes Tryz.prog ++ Tryz.f4.resultTypes.toList).any (Tryz.prog.wideKeysFrom ·))) = true := by kernel_rfl
theorem c18 : (Rows.scriptNilSpec.vars.all (Tryz.prog.varReadable ·)) = true := by kernel_rfl
theorem c19 : (Tryz.f4.resultTypes.all (fun t => Tryz.prog.readableRec t && decide (t < Tryz.prog.types.size))) = true := by kernel_rfl
theorem c20 : ((Rows.scriptNilRow.ifacesOut == Tryz.f4.resultTypes.toList.any (Tryz.prog.ifacesRec ·))) = true := by kernel_rfl
theorem c21 : ((Rows.scriptNilRow.loopsOut == Tryz.f4.resultTypes.toList.any (Tryz.prog.loopsFrom ·))) = true := by kernel_rfl
theorem c22 : ((Rows.scriptNilRow.plainKeys == Tryz.prog.plainKeys)) = true := by kernel_rfl
theorem c23 : (Rows.scriptNilRow.shortTexts.isNone) = true := by kernel_rfl
theorem c24 : (Tryz.prog.stopsHeard) = true := by kernel_rfl
theorem c25 : (Tryz.prog.mayEnter) = true := by kernel_rfl
theorem c26 : ((Rows.scriptNilRow.lifted == Tryz.prog.liftsFinal)) = true := by kernel_rfl
theorem c27 : ((Tryz.prog.make == some Rows.scriptNilRow.make)) = true := by kernel_rfl
theorem c28 : ((Rows.scriptNilRow.kinds == (if Rows.scriptNilRow.domain.isEmpty then [] else Tryz.f4.params.toList.map fun t => match Tryz.prog.underlying t with | some (.int k) => some k | _ => none))) = true := by kernel_rfl
theorem c29 : ((Rows.scriptNilRow.pinned == Rows.scriptNilRow.pinnedBy)) = true := by kernel_rfl
theorem c30 : ((Rows.scriptNilRow.veiled == (Tryz.f4.params.toList ++ Rows.scriptNilSpec.plain.varTypes Tryz.prog ++ Tryz.f4.resultTypes.toList).any (Tryz.prog.veiledRec ·))) = true := by kernel_rfl
theorem c31 : (Rows.scriptNilRow.veiledFits Tryz.prog Tryz.f4.params.toList (Tryz.f4.params.toList ++ Rows.scriptNilSpec.plain.varTypes Tryz.prog ++ Tryz.f4.resultTypes.toList)) = true := by kernel_rfl
theorem and_mk {a b : Bool} (h1 : a = true) (h2 : b = true) : (a && b) = true := by rw [h1, h2]; rfl
set_option maxRecDepth 100000 in
theorem closed : joinedFacts Tryz.prog 4 Tryz.f4 Rows.scriptNilSpec Rows.scriptNilRow = true := (and_mk (and_mk (and_mk (and_mk (and_mk (and_mk (and_mk (and_mk (and_mk (and_mk (and_mk (and_mk (and_mk (and_mk (and_mk (and_mk (and_mk (and_mk (and_mk (and_mk (and_mk (and_mk (and_mk (and_mk (and_mk (and_mk (and_mk (and_mk (and_mk (and_mk (and_mk c0 laid) mapped) c3) c4) c5) c6) c7) c8) c9) c10) c11) c12) c13) c14) c15) c16) c17) c18) c19) c20) c21) c22) c23) c24) c25) c26) c27) c28) c29) c30) c31)

theorem over : Rows.scriptNilRow.holds Tryz.pinned (OpenSpec.ofChange Rows.scriptNilSpec) :=
  OpenClaim.holds_of_wide 4 Tryz.f4 rfl rfl rfl rfl rfl rfl rfl ⟨rfl, rfl, rfl, rfl, rfl⟩ rfl rfl rfl rfl rfl (by kernel_rfl) Tryz.func4 closed
    (of_decide_eq_true (by kernel_rfl)) (by unfold Func.isWrapper; first | (rw [if_pos (by decide +kernel)]; kernel_rfl) | (rw [if_neg (by decide +kernel)]; exact ⟨rfl, rfl⟩))
    (fun os started H enc _ => lifted os started H enc)

theorem qwf : Rows.scriptNilRow.wfByText (OpenSpec.ofChange Rows.scriptNilSpec) = true := by kernel_rfl
theorem qmain : Tryz.pinned.checked.prog.mainIs = some ((true, "a5e0bc949c5d0c838ce1e23d19f10df83379c060680ac6c6e9379ae861816d85").1, ((true, "a5e0bc949c5d0c838ce1e23d19f10df83379c060680ac6c6e9379ae861816d85") : Bool × String).2.toList) := by kernel_rfl
theorem qlooks : false = Tryz.prog.looks [] := by kernel_rfl
theorem goes_none {P : Program} (h : P.funcs.any Func.goes = false) {c : OpenClaim} (hs : c.start = .entering) : false = c.goesBy P := by
  have hall : ∀ fn ∈ P.funcs, fn.goes = false := fun fn hm => by
    have := Array.any_eq_false.1 h
    obtain ⟨i, hi, rfl⟩ := Array.mem_iff_getElem.1 hm
    simpa using this i hi
  have hP : ∀ f, P.goes f = false := fun f => by
    unfold Program.goes
    rw [h, Bool.and_false, Bool.or_false, List.any_eq_false]
    intro g _
    cases hg : P.funcs[g]? with
    | none => simp
    | some fn =>
      obtain ⟨hi, rfl⟩ := Array.getElem?_eq_some_iff.1 hg
      simp [hall _ (Array.getElem_mem hi)]
  unfold OpenClaim.goesBy Program.goesAt Program.goesFrom
  rw [hs]
  cases hf : P.funcNamed c.func with
  | none => rfl
  | some f => simp [hP f]
theorem qgo : Tryz.prog.funcs.any Func.goes = false := by kernel_rfl
theorem qgoes : false = Rows.scriptNilRow.goesBy Tryz.prog := goes_none qgo rfl
theorem qfn : Tryz.prog.funcNamed "punnet/punnetlaw34.ScriptNil" = some 4 := by kernel_rfl
theorem qins : ([9].all fun u => !Tryz.prog.wantsStandIn u) = true := by kernel_rfl

theorem proved : Rows.ScriptNilCardSaid :=
  Claim7.holds_tied_plain_at .later [] [.data, .data, .data, .data, .data, .pinned] true (true, "a5e0bc949c5d0c838ce1e23d19f10df83379c060680ac6c6e9379ae861816d85") false over (fun _ h => by cases h) qwf (fun _ h => by cases h) scriptNil_row_tie rfl ⟨rfl, rfl⟩ qmain rfl
    (fun f fn hf hfn => by
      obtain rfl : f = 4 := Option.some.inj (qfn.symm.trans hf) |>.symm
      obtain rfl : fn = Tryz.f4 := (Option.some.inj (Tryz.func4.symm.trans hfn)).symm
      exact ⟨qlooks, fun j t ht => by
        rw [Tryz.params4] at ht
        have hm : t ∈ [9] := by simpa using Array.mem_of_getElem? ht
        exact (show Tryz.prog.wantsStandIn t = false by simpa using List.all_eq_true.1 qins t hm)⟩)
    qgoes
end Go.Proofs.YtdfbohaohjaloaaGreatDoor.scriptNil
