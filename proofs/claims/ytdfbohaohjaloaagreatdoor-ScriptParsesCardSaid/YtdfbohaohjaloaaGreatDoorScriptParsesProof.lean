/- Any line of up to 400 bytes tells the same move, or none, in the program and in the document, and what it tells is printed as it was: the listed package-level variables hold what the program's text lays. -/
import Derived.Test.YtdfbohaohjaloaaGreatDoorRows
import Derived.Test.YtdfbohaohjaloaaGreatDoorScriptParsesM8
import Derived.WalkKit
import Derived.Below
import Derived.ProofKit
import Derived.OpenShut
import Derived.ShutString
import Derived.Laws.Cover2
import Derived.LaidMore
import Derived.Lay
import Derived.SevenTiedAt
import Derived.Test.YtdfbohaohjaloaaGreatDoorCards
import Derived.Test.YtdfbohaohjaloaaGreatDoorTie
namespace Go.Proofs.YtdfbohaohjaloaaGreatDoor.scriptParses
open Go.ChangeShapes Go.WideShapes Go.ChangeAt Go.RowKit
open Go.ChangeMaps (open_string shut_string)
set_option linter.unusedVariables false

theorem own : ownKnob Tryz.prog.godebug = none := by kernel_rfl
theorem laid : laidOutB Tryz.prog = true := by kernel_rfl
theorem mapped : mapsRowed Tryz.prog = true := by kernel_rfl
theorem full : ((List.range Tryz.prog.types.size).all fun t => match Tryz.prog.underlying t with | some (.slice e) => decide (0 < Tryz.prog.cellsOf e) | _ => true) = true := by kernel_rfl
theorem known : (Tryz.f5.params.toList.all fun t => decide (t < Tryz.prog.types.size)) = true := by kernel_rfl

set_option maxRecDepth 100000 in
theorem lifted (os : Os) (started : os.Started) (H : Type) (enc : TypeId × Value → H) :
    ReturnsInHanded {} Tryz.checked os 5 .any (fun w args => (Rows.scriptParsesSpec.pre enc Tryz.prog Tryz.f5 Rows.scriptParsesRow.domain false w args ∧ laidMetH Tryz.prog Rows.scriptParsesRow.laid w) ∧ sizedMet enc Tryz.prog Tryz.f5 (OpenSpec.ofChange Rows.scriptParsesSpec) false w args)
      (Rows.scriptParsesSpec.post enc Tryz.prog Tryz.f5 false true false false) := by
  refine returnsInHanded_of_change_and (C := Tryz.checked) (X := fun w _ => laidMetH Tryz.prog Rows.scriptParsesRow.laid w) (fun _ _ _ hh h => h.of_heap hh) own started (by kernel_rfl) Tryz.func5
    (ChangeSpec.witness_shaped (enc := enc) (C := Tryz.checked) (os := os) (X := fun w _ => laidMetH Tryz.prog Rows.scriptParsesRow.laid w) false (World.laidAll Tryz.prog os Rows.scriptParsesRow.laid) #[.string ByteArray.empty] 8 (World.laidAll_os _ _ _)
      (World.shaped_of_ZipB (by kernel_rfl) (by kernel_rfl)) (by kernel_rfl) (by kernel_rfl) (by kernel_rfl)
      (by rw [MakeChecks.laidMetH_plain _ _ _ (by kernel_rfl)]; exact laidMet_laidAll _ (by kernel_rfl) (by kernel_rfl))) ?_
  intro W base args ds gs before hval0 hW hcnd _ hL _
  have hval : ∀ (j : Nat) t v, Tryz.f5.params[j]? = some t → args[j]? = some v → Value.okWide Tryz.prog W .any base t v := hval0
  have hW' := hW
  obtain ⟨p, q, hA0, hV, rfl, hfz, hnd⟩ := hW
  have hA : DataW.TrodAll enc Tryz.prog W 0 (fun _ => true) true Tryz.f5.params.toList args.toList ds p := hA0
  rw [Tryz.params5] at hA hval
  obtain ⟨v0, vs0, d0, ds0, p0, q0, hargs, rfl, rfl, h0, r0⟩ := trodAll_cons hA
  obtain ⟨rfl, rfl, rfl⟩ := trodAll_nil r0
  obtain rfl : args = #[v0] := by cases args; simp_all
  obtain ⟨rfl, rfl⟩ := trodVars_none hV
  obtain ⟨a0, rfl, _, _, w0⟩ := open_string Tryz.underlying9 (hval 0 9 v0 rfl rfl) h0
  clear hA0 hval0
  refine (Zm a0 W w0 (Yv W hL)).mono fun e W' ⟨he, hg⟩ => ?_
  subst he
  exact ⟨_, rfl, law_post (kids_rows laid mapped) (fun {t e} => slices_full_of Tryz.prog full t e) (fun t ht => of_decide_eq_true (List.all_eq_true.1 known t ht)) rfl hW' (fun _ _ _ => trodAll_cons_mk (shut_bool Tryz.underlying4 _) trodAll_mk0) rfl rfl hg⟩

theorem c0 : (Rows.scriptParsesRow.wf (OpenSpec.ofChange Rows.scriptParsesSpec)) = true := by kernel_rfl
theorem c3 : (Tryz.f5.params.all (Tryz.prog.readableRec ·)) = true := by kernel_rfl
theorem c4 : (namedTie Tryz.prog Rows.scriptParsesRow.named Rows.scriptParsesSpec.vars) = true := by kernel_rfl
theorem c5 : ((Rows.scriptParsesRow.stops == [])) = true := by kernel_rfl
theorem c6 : ((Tryz.prog.stops == [])) = true := by kernel_rfl
theorem c7 : ((Rows.scriptParsesRow.knobs == [])) = true := by kernel_rfl
theorem c8 : ((Tryz.prog.stopKnobs == [])) = true := by kernel_rfl
theorem c9 : ((Rows.scriptParsesRow.inPlace == Tryz.prog.inPlace 5)) = true := by kernel_rfl
theorem c10 : ((Rows.scriptParsesRow.unfollowed == Tryz.prog.unfollowed 5)) = true := by kernel_rfl
theorem c11 : ((Rows.scriptParsesRow.recurses == Tryz.prog.recurses 5)) = true := by kernel_rfl
theorem c12 : ((Rows.scriptParsesRow.named == Tryz.prog.varsNamed 5)) = true := by kernel_rfl
theorem c13 : ((Rows.scriptParsesRow.maps == (Tryz.f5.params.toList ++ Rows.scriptParsesSpec.plain.varTypes Tryz.prog).any (Tryz.prog.mapsRec ·))) = true := by kernel_rfl
theorem c14 : ((Rows.scriptParsesRow.ifaces == (Tryz.f5.params.toList ++ Rows.scriptParsesSpec.plain.varTypes Tryz.prog).any (Tryz.prog.ifacesRec ·))) = true := by kernel_rfl
theorem c15 : ((Rows.scriptParsesRow.mapsOut == Tryz.prog.mapsAmong Tryz.f5.resultTypes.toList)) = true := by kernel_rfl
theorem c16 : ((Rows.scriptParsesRow.loops == (Tryz.f5.params.toList ++ Rows.scriptParsesSpec.plain.varTypes Tryz.prog).any (Tryz.prog.loopsFrom ·))) = true := by kernel_rfl
theorem c17 : ((Rows.scriptParsesRow.wideKeys == (Tryz.f5.params.toList ++ Rows.scriptParsesSpec.plain.varTypes Tryz.prog ++ Tryz.f5.resultTypes.toList).any (Tryz.prog.wideKeysFrom ·))) = true := by kernel_rfl
theorem c18 : (Rows.scriptParsesSpec.vars.all (Tryz.prog.varReadable ·)) = true := by kernel_rfl
theorem c19 : (Tryz.f5.resultTypes.all (fun t => Tryz.prog.readableRec t && decide (t < Tryz.prog.types.size))) = true := by kernel_rfl
theorem c20 : ((Rows.scriptParsesRow.ifacesOut == Tryz.f5.resultTypes.toList.any (Tryz.prog.ifacesRec ·))) = true := by kernel_rfl
theorem c21 : ((Rows.scriptParsesRow.loopsOut == Tryz.f5.resultTypes.toList.any (Tryz.prog.loopsFrom ·))) = true := by kernel_rfl
theorem c22 : ((Rows.scriptParsesRow.plainKeys == Tryz.prog.plainKeys)) = true := by kernel_rfl
theorem c23 : (Rows.scriptParsesRow.shortTexts.isNone) = true := by kernel_rfl
theorem c24 : (Tryz.prog.stopsHeard) = true := by kernel_rfl
theorem c25 : (Tryz.prog.mayEnter) = true := by kernel_rfl
theorem c26 : ((Rows.scriptParsesRow.lifted == Tryz.prog.liftsFinal)) = true := by kernel_rfl
theorem c27 : ((Tryz.prog.make == some Rows.scriptParsesRow.make)) = true := by kernel_rfl
theorem c28 : ((Rows.scriptParsesRow.kinds == (if Rows.scriptParsesRow.domain.isEmpty then [] else Tryz.f5.params.toList.map fun t => match Tryz.prog.underlying t with | some (.int k) => some k | _ => none))) = true := by kernel_rfl
theorem c29 : ((Rows.scriptParsesRow.pinned == Rows.scriptParsesRow.pinnedBy)) = true := by kernel_rfl
theorem c30 : ((Rows.scriptParsesRow.veiled == (Tryz.f5.params.toList ++ Rows.scriptParsesSpec.plain.varTypes Tryz.prog ++ Tryz.f5.resultTypes.toList).any (Tryz.prog.veiledRec ·))) = true := by kernel_rfl
theorem c31 : (Rows.scriptParsesRow.veiledFits Tryz.prog Tryz.f5.params.toList (Tryz.f5.params.toList ++ Rows.scriptParsesSpec.plain.varTypes Tryz.prog ++ Tryz.f5.resultTypes.toList)) = true := by kernel_rfl
theorem and_mk {a b : Bool} (h1 : a = true) (h2 : b = true) : (a && b) = true := by rw [h1, h2]; rfl
set_option maxRecDepth 100000 in
theorem closed : joinedFacts Tryz.prog 5 Tryz.f5 Rows.scriptParsesSpec Rows.scriptParsesRow = true := (and_mk (and_mk (and_mk (and_mk (and_mk (and_mk (and_mk (and_mk (and_mk (and_mk (and_mk (and_mk (and_mk (and_mk (and_mk (and_mk (and_mk (and_mk (and_mk (and_mk (and_mk (and_mk (and_mk (and_mk (and_mk (and_mk (and_mk (and_mk (and_mk (and_mk (and_mk c0 laid) mapped) c3) c4) c5) c6) c7) c8) c9) c10) c11) c12) c13) c14) c15) c16) c17) c18) c19) c20) c21) c22) c23) c24) c25) c26) c27) c28) c29) c30) c31)

theorem over : Rows.scriptParsesRow.holds Tryz.pinned (OpenSpec.ofChange Rows.scriptParsesSpec) :=
  OpenClaim.holds_of_wide 5 Tryz.f5 rfl rfl rfl rfl rfl rfl rfl ⟨rfl, rfl, rfl, rfl, rfl⟩ rfl rfl rfl rfl rfl (by kernel_rfl) Tryz.func5 closed
    (of_decide_eq_true (by kernel_rfl)) (by unfold Func.isWrapper; first | (rw [if_pos (by decide +kernel)]; kernel_rfl) | (rw [if_neg (by decide +kernel)]; exact ⟨rfl, rfl⟩))
    (fun os started H enc _ => lifted os started H enc)

theorem qwf : Rows.scriptParsesRow.wfByText (OpenSpec.ofChange Rows.scriptParsesSpec) = true := by kernel_rfl
theorem qmain : Tryz.pinned.checked.prog.mainIs = some ((true, "a5e0bc949c5d0c838ce1e23d19f10df83379c060680ac6c6e9379ae861816d85").1, ((true, "a5e0bc949c5d0c838ce1e23d19f10df83379c060680ac6c6e9379ae861816d85") : Bool × String).2.toList) := by kernel_rfl
theorem qlooks : false = Tryz.prog.looks [] := by kernel_rfl
theorem goes_none {P : Program} (h : P.funcs.any Func.goes = false) {c : OpenClaim} (hs : c.start = .entering) : false = c.goesBy P := by
  have hall : ∀ fn ∈ P.funcs, fn.goes = false := fun fn hm => by
    have := Array.any_eq_false.1 h
    obtain ⟨i, hi, rfl⟩ := Array.mem_iff_getElem.1 hm
    simpa using this i hi
  have hP : ∀ f, P.goes f = false := fun f => by
    unfold Program.goes
    rw [h, Bool.and_false, Bool.or_false, List.any_eq_false]
    intro g _
    cases hg : P.funcs[g]? with
    | none => simp
    | some fn =>
      obtain ⟨hi, rfl⟩ := Array.getElem?_eq_some_iff.1 hg
      simp [hall _ (Array.getElem_mem hi)]
  unfold OpenClaim.goesBy Program.goesAt Program.goesFrom
  rw [hs]
  cases hf : P.funcNamed c.func with
  | none => rfl
  | some f => simp [hP f]
theorem qgo : Tryz.prog.funcs.any Func.goes = false := by kernel_rfl
theorem qgoes : false = Rows.scriptParsesRow.goesBy Tryz.prog := goes_none qgo rfl
theorem qfn : Tryz.prog.funcNamed "punnet/punnetlaw34.ScriptParses" = some 5 := by kernel_rfl
theorem qins : ([9].all fun u => !Tryz.prog.wantsStandIn u) = true := by kernel_rfl

theorem proved : Rows.ScriptParsesCardSaid :=
  Claim7.holds_tied_plain_at .later [] [.data, .data, .data, .data, .data, .pinned] true (true, "a5e0bc949c5d0c838ce1e23d19f10df83379c060680ac6c6e9379ae861816d85") false over (fun _ h => by cases h) qwf (fun _ h => by cases h) scriptParses_row_tie rfl ⟨rfl, rfl⟩ qmain rfl
    (fun f fn hf hfn => by
      obtain rfl : f = 5 := Option.some.inj (qfn.symm.trans hf) |>.symm
      obtain rfl : fn = Tryz.f5 := (Option.some.inj (Tryz.func5.symm.trans hfn)).symm
      exact ⟨qlooks, fun j t ht => by
        rw [Tryz.params5] at ht
        have hm : t ∈ [9] := by simpa using Array.mem_of_getElem? ht
        exact (show Tryz.prog.wantsStandIn t = false by simpa using List.all_eq_true.1 qins t hm)⟩)
    qgoes
end Go.Proofs.YtdfbohaohjaloaaGreatDoor.scriptParses
