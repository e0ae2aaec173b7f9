/- Part 7 of what the proof of ScriptTags stands on: HmOrc, HmAwk34, FwT, ScT, LbP, TbP, ScCells, ScriptTagsWalk, LaidS, GtL. -/
import Derived.Lib.LaidTab
import Derived.Stop.LaidErr
import Derived.Below
import Derived.Test.YtdfbohaohjaloaaGreatDoorRows
import Derived.MakeChecks
import Derived.Test.YtdfbohaohjaloaaGreatDoorScriptTagsM6
set_option linter.unusedVariables false
set_option linter.unusedSimpArgs false
set_option maxHeartbeats 1000000
section
namespace Go.Vm
open Go.RowKit Go.Proofs Go.Proofs.YtdfbohaohjaloaaGreatDoor Punnet.Name Punnet.Num Punnet.Flt
set_option maxRecDepth 1000000
theorem read9000_c : Contract Go.Proofs.Tryz.prog 23 [.sc (.string ⟨#[57, 48, 48, 48]⟩)] [.d (.sc (.int .i64 9000)), .d (.sc (.int .i64 0))] := by
 have h := numRead_any ⟨#[57, 48, 48, 48]⟩ (by decide)
 rw [show numW (⟨#[57, 48, 48, 48]⟩ : ByteArray) = (9000, 0) from by kernel_rfl] at h
 exact h
theorem read2_c : Contract Go.Proofs.Tryz.prog 23 [.sc (.string ⟨#[50]⟩)] [.d (.sc (.int .i64 2)), .d (.sc (.int .i64 0))] := by
 have h := numRead_any ⟨#[50]⟩ (by decide)
 rw [show numW (⟨#[50]⟩ : ByteArray) = (2, 0) from by kernel_rfl] at h
 exact h
theorem read0_c : Contract Go.Proofs.Tryz.prog 23 [.sc (.string ⟨#[48]⟩)] [.d (.sc (.int .i64 0)), .d (.sc (.int .i64 0))] := by
 have h := numRead_any ⟨#[48]⟩ (by decide)
 rw [show numW (⟨#[48]⟩ : ByteArray) = (0, 0) from by kernel_rfl] at h
 exact h
theorem read1_c : Contract Go.Proofs.Tryz.prog 23 [.sc (.string ⟨#[49]⟩)] [.d (.sc (.int .i64 1)), .d (.sc (.int .i64 0))] := by
 have h := numRead_any ⟨#[49]⟩ (by decide)
 rw [show numW (⟨#[49]⟩ : ByteArray) = (1, 0) from by kernel_rfl] at h
 exact h
theorem read3_c : Contract Go.Proofs.Tryz.prog 23 [.sc (.string ⟨#[51]⟩)] [.d (.sc (.int .i64 3)), .d (.sc (.int .i64 0))] := by
 have h := numRead_any ⟨#[51]⟩ (by decide)
 rw [show numW (⟨#[51]⟩ : ByteArray) = (3, 0) from by kernel_rfl] at h
 exact h
theorem prin0_c : Contract Go.Proofs.Tryz.prog 24 [.sc (.int .i64 0)] [.d (.sc (.string ⟨#[48]⟩))] := by
 have h := numPrint_any 0 (by decide)
 rw [show printB 0 = ⟨#[48]⟩ from by kernel_rfl] at h
 exact h
theorem prin1_c : Contract Go.Proofs.Tryz.prog 24 [.sc (.int .i64 1)] [.d (.sc (.string ⟨#[49]⟩))] := by
 have h := numPrint_any 1 (by decide)
 rw [show printB 1 = ⟨#[49]⟩ from by kernel_rfl] at h
 exact h
theorem prin2_c : Contract Go.Proofs.Tryz.prog 24 [.sc (.int .i64 2)] [.d (.sc (.string ⟨#[50]⟩))] := by
 have h := numPrint_any 2 (by decide)
 rw [show printB 2 = ⟨#[50]⟩ from by kernel_rfl] at h
 exact h
theorem prin3_c : Contract Go.Proofs.Tryz.prog 24 [.sc (.int .i64 3)] [.d (.sc (.string ⟨#[51]⟩))] := by
 have h := numPrint_any 3 (by decide)
 rw [show printB 3 = ⟨#[51]⟩ from by kernel_rfl] at h
 exact h
theorem fread0_c : Contract Go.Proofs.Tryz.prog 141 [.sc (.string ⟨#[108, 105, 110, 101, 46, 113, 116, 121]⟩)] [.d (.agg [.sc (.int .i64 1), .sc (.string ⟨#[]⟩), .sc (.string ⟨#[113, 116, 121]⟩)]), .d (.sc (.int .i64 0))] := by
 have h := fieldRead_any ⟨#[108, 105, 110, 101, 46, 113, 116, 121]⟩ (by decide)
 rw [placeOf_some (r := (⟨1, ⟨#[]⟩, ⟨#[113, 116, 121]⟩⟩ : RefD)) (by kernel_rfl) (s := ⟨#[108, 105, 110, 101, 46, 113, 116, 121]⟩) (by kernel_rfl)] at h
 exact h
theorem fprin0_c : Contract Go.Proofs.Tryz.prog 134 [.agg [.sc (.int .i64 0), .sc (.string ⟨#[]⟩), .sc (.string ⟨#[99, 111, 117, 112, 111, 110]⟩)]] [.d (.sc (.string ⟨#[104, 101, 97, 100, 46, 99, 111, 117, 112, 111, 110]⟩))] := by
 have h := fieldPrint_any (⟨0, ⟨#[]⟩, ⟨#[99, 111, 117, 112, 111, 110]⟩⟩ : RefD)
 rw [show (if placeB (⟨0, ⟨#[]⟩, ⟨#[99, 111, 117, 112, 111, 110]⟩⟩ : RefD) = true then placeT (⟨0, ⟨#[]⟩, ⟨#[99, 111, 117, 112, 111, 110]⟩⟩ : RefD) else ⟨#[63]⟩) = (⟨#[104, 101, 97, 100, 46, 99, 111, 117, 112, 111, 110]⟩ : ByteArray) from by kernel_rfl] at h
 exact h
theorem fprin1_c : Contract Go.Proofs.Tryz.prog 134 [.agg [.sc (.int .i64 1), .sc (.string ⟨#[]⟩), .sc (.string ⟨#[110, 111, 116, 101]⟩)]] [.d (.sc (.string ⟨#[108, 105, 110, 101, 46, 110, 111, 116, 101]⟩))] := by
 have h := fieldPrint_any (⟨1, ⟨#[]⟩, ⟨#[110, 111, 116, 101]⟩⟩ : RefD)
 rw [show (if placeB (⟨1, ⟨#[]⟩, ⟨#[110, 111, 116, 101]⟩⟩ : RefD) = true then placeT (⟨1, ⟨#[]⟩, ⟨#[110, 111, 116, 101]⟩⟩ : RefD) else ⟨#[63]⟩) = (⟨#[108, 105, 110, 101, 46, 110, 111, 116, 101]⟩ : ByteArray) from by kernel_rfl] at h
 exact h
theorem fprin2_c : Contract Go.Proofs.Tryz.prog 134 [.agg [.sc (.int .i64 1), .sc (.string ⟨#[]⟩), .sc (.string ⟨#[113, 116, 121]⟩)]] [.d (.sc (.string ⟨#[108, 105, 110, 101, 46, 113, 116, 121]⟩))] := by
 have h := fieldPrint_any (⟨1, ⟨#[]⟩, ⟨#[113, 116, 121]⟩⟩ : RefD)
 rw [show (if placeB (⟨1, ⟨#[]⟩, ⟨#[113, 116, 121]⟩⟩ : RefD) = true then placeT (⟨1, ⟨#[]⟩, ⟨#[113, 116, 121]⟩⟩ : RefD) else ⟨#[63]⟩) = (⟨#[108, 105, 110, 101, 46, 113, 116, 121]⟩ : ByteArray) from by kernel_rfl] at h
 exact h
theorem fprin3_c : Contract Go.Proofs.Tryz.prog 134 [.agg [.sc (.int .i64 1), .sc (.string ⟨#[]⟩), .sc (.string ⟨#[115, 105, 122, 101]⟩)]] [.d (.sc (.string ⟨#[108, 105, 110, 101, 46, 115, 105, 122, 101]⟩))] := by
 have h := fieldPrint_any (⟨1, ⟨#[]⟩, ⟨#[115, 105, 122, 101]⟩⟩ : RefD)
 rw [show (if placeB (⟨1, ⟨#[]⟩, ⟨#[115, 105, 122, 101]⟩⟩ : RefD) = true then placeT (⟨1, ⟨#[]⟩, ⟨#[115, 105, 122, 101]⟩⟩ : RefD) else ⟨#[63]⟩) = (⟨#[108, 105, 110, 101, 46, 115, 105, 122, 101]⟩ : ByteArray) from by kernel_rfl] at h
 exact h
theorem fprin4_c : Contract Go.Proofs.Tryz.prog 134 [.agg [.sc (.int .i64 1), .sc (.string ⟨#[]⟩), .sc (.string ⟨#[116, 97, 103, 115]⟩)]] [.d (.sc (.string ⟨#[108, 105, 110, 101, 46, 116, 97, 103, 115]⟩))] := by
 have h := fieldPrint_any (⟨1, ⟨#[]⟩, ⟨#[116, 97, 103, 115]⟩⟩ : RefD)
 rw [show (if placeB (⟨1, ⟨#[]⟩, ⟨#[116, 97, 103, 115]⟩⟩ : RefD) = true then placeT (⟨1, ⟨#[]⟩, ⟨#[116, 97, 103, 115]⟩⟩ : RefD) else ⟨#[63]⟩) = (⟨#[108, 105, 110, 101, 46, 116, 97, 103, 115]⟩ : ByteArray) from by kernel_rfl] at h
 exact h
theorem c3 : cOf 3 0 = (4613937818241073152, 0) := by kernel_rfl
theorem isC3 : IsC (4613937818241073152, 0) 3 0 := by have := isC_of (n := 3) (m := 0) (by unfold okN; decide) (by unfold okN; decide); rwa [c3] at this
theorem pof0_c : Contract Go.Proofs.Tryz.prog 200 [.sc (.int .i64 0), .sc (.int .i64 0)] [.d (.sc (.complex .f64 0 0)), .d (.sc (.int .i64 0))] := by
 have h := planeOf_any 0 0
 rw [show cOf 0 0 = (0, 0) from by kernel_rfl] at h
 rw [show (ofR 0 0).2.2 = 0 from by kernel_rfl] at h
 exact h
theorem ppart0_c : Contract Go.Proofs.Tryz.prog 312 [.sc (.complex .f64 0 0)] [.d (.sc (.int .i64 0)), .d (.sc (.int .i64 0)), .d (.sc (.int .i64 0))] := by
 have h := planeParts_any (0, 0)
 rw [partsR_yes isC_zero] at h
 exact h
theorem pof3_c : Contract Go.Proofs.Tryz.prog 200 [.sc (.int .i64 3), .sc (.int .i64 0)] [.d (.sc (.complex .f64 4613937818241073152 0)), .d (.sc (.int .i64 0))] := by
 have h := planeOf_any 3 0
 rw [show cOf 3 0 = (4613937818241073152, 0) from by kernel_rfl] at h
 rw [show (ofR 3 0).2.2 = 0 from by kernel_rfl] at h
 exact h
theorem ppart3_c : Contract Go.Proofs.Tryz.prog 312 [.sc (.complex .f64 4613937818241073152 0)] [.d (.sc (.int .i64 3)), .d (.sc (.int .i64 0)), .d (.sc (.int .i64 0))] := by
 have h := planeParts_any (4613937818241073152, 0)
 rw [partsR_yes isC3] at h
 exact h
theorem pplus_c : Contract Go.Proofs.Tryz.prog 405 [.sc (.complex .f64 0 0), .sc (.complex .f64 4613937818241073152 0)] [.d (.sc (.complex .f64 4613937818241073152 0)), .d (.sc (.int .i64 0))] := by
 have h := planePlus_any (0, 0) (4613937818241073152, 0)
 rw [show plusR (0, 0) (4613937818241073152, 0) = (4613937818241073152, 0, 0) from by unfold plusR plusR.ofR'; rw [partsR_yes isC_zero, partsR_yes isC3]; kernel_rfl] at h
 exact h
theorem psmall_c : Contract Go.Proofs.Tryz.prog 201 [.sc (.complex .f64 0 0)] [.d (.sc (.bool true))] := by
 have h := old_one (us := [.complex .f64 0 0]) (r := .bool true) rfl (fun w => (small_any 0 0 w).mono (by rintro e w1 ⟨rfl, hb⟩; exact ⟨by rw [show (okB 0 33554432 && okB 0 33554432) = true from by kernel_rfl], hb⟩))
 exact h
end Go.Vm
namespace Go.Rn
open Go.RowKit
open Go.Vm (enters D C read9000_c read2_c read0_c read1_c read3_c prin0_c prin1_c prin2_c prin3_c fread0_c fprin0_c fprin1_c fprin2_c fprin3_c fprin4_c pof0_c ppart0_c pof3_c ppart3_c pplus_c psmall_c)
theorem read9000_r [Cx] (h : Hp) (n : Nat) : RCall Go.Proofs.Tryz.prog 23 [.sc (.string ⟨#[57, 48, 48, 48]⟩)] h n (.tup [.sc (.int .i64 9000), .sc (.int .i64 0)]) h n := orc_gen (ds := [.sc (.string ⟨#[57, 48, 48, 48]⟩)]) (cs := [.d (.sc (.int .i64 9000)), .d (.sc (.int .i64 0))]) (by kernel_rfl) (by kernel_rfl) read9000_c h n
theorem read2_r [Cx] (h : Hp) (n : Nat) : RCall Go.Proofs.Tryz.prog 23 [.sc (.string ⟨#[50]⟩)] h n (.tup [.sc (.int .i64 2), .sc (.int .i64 0)]) h n := orc_gen (ds := [.sc (.string ⟨#[50]⟩)]) (cs := [.d (.sc (.int .i64 2)), .d (.sc (.int .i64 0))]) (by kernel_rfl) (by kernel_rfl) read2_c h n
theorem read0_r [Cx] (h : Hp) (n : Nat) : RCall Go.Proofs.Tryz.prog 23 [.sc (.string ⟨#[48]⟩)] h n (.tup [.sc (.int .i64 0), .sc (.int .i64 0)]) h n := orc_gen (ds := [.sc (.string ⟨#[48]⟩)]) (cs := [.d (.sc (.int .i64 0)), .d (.sc (.int .i64 0))]) (by kernel_rfl) (by kernel_rfl) read0_c h n
theorem read1_r [Cx] (h : Hp) (n : Nat) : RCall Go.Proofs.Tryz.prog 23 [.sc (.string ⟨#[49]⟩)] h n (.tup [.sc (.int .i64 1), .sc (.int .i64 0)]) h n := orc_gen (ds := [.sc (.string ⟨#[49]⟩)]) (cs := [.d (.sc (.int .i64 1)), .d (.sc (.int .i64 0))]) (by kernel_rfl) (by kernel_rfl) read1_c h n
theorem read3_r [Cx] (h : Hp) (n : Nat) : RCall Go.Proofs.Tryz.prog 23 [.sc (.string ⟨#[51]⟩)] h n (.tup [.sc (.int .i64 3), .sc (.int .i64 0)]) h n := orc_gen (ds := [.sc (.string ⟨#[51]⟩)]) (cs := [.d (.sc (.int .i64 3)), .d (.sc (.int .i64 0))]) (by kernel_rfl) (by kernel_rfl) read3_c h n
theorem prin0_r [Cx] (h : Hp) (n : Nat) : RCall Go.Proofs.Tryz.prog 24 [.sc (.int .i64 0)] h n (.sc (.string ⟨#[48]⟩)) h n := orc_gen (ds := [.sc (.int .i64 0)]) (cs := [.d (.sc (.string ⟨#[48]⟩))]) (by kernel_rfl) (by kernel_rfl) prin0_c h n
theorem prin1_r [Cx] (h : Hp) (n : Nat) : RCall Go.Proofs.Tryz.prog 24 [.sc (.int .i64 1)] h n (.sc (.string ⟨#[49]⟩)) h n := orc_gen (ds := [.sc (.int .i64 1)]) (cs := [.d (.sc (.string ⟨#[49]⟩))]) (by kernel_rfl) (by kernel_rfl) prin1_c h n
theorem prin2_r [Cx] (h : Hp) (n : Nat) : RCall Go.Proofs.Tryz.prog 24 [.sc (.int .i64 2)] h n (.sc (.string ⟨#[50]⟩)) h n := orc_gen (ds := [.sc (.int .i64 2)]) (cs := [.d (.sc (.string ⟨#[50]⟩))]) (by kernel_rfl) (by kernel_rfl) prin2_c h n
theorem prin3_r [Cx] (h : Hp) (n : Nat) : RCall Go.Proofs.Tryz.prog 24 [.sc (.int .i64 3)] h n (.sc (.string ⟨#[51]⟩)) h n := orc_gen (ds := [.sc (.int .i64 3)]) (cs := [.d (.sc (.string ⟨#[51]⟩))]) (by kernel_rfl) (by kernel_rfl) prin3_c h n
theorem fread0_r [Cx] (h : Hp) (n : Nat) : RCall Go.Proofs.Tryz.prog 141 [.sc (.string ⟨#[108, 105, 110, 101, 46, 113, 116, 121]⟩)] h n (.tup [.agg [.sc (.int .i64 1), .sc (.string ⟨#[]⟩), .sc (.string ⟨#[113, 116, 121]⟩)], .sc (.int .i64 0)]) h n := orc_gen (ds := [.sc (.string ⟨#[108, 105, 110, 101, 46, 113, 116, 121]⟩)]) (cs := [.d (.agg [.sc (.int .i64 1), .sc (.string ⟨#[]⟩), .sc (.string ⟨#[113, 116, 121]⟩)]), .d (.sc (.int .i64 0))]) (by kernel_rfl) (by kernel_rfl) fread0_c h n
theorem fprin0_r [Cx] (h : Hp) (n : Nat) : RCall Go.Proofs.Tryz.prog 134 [.agg [.sc (.int .i64 0), .sc (.string ⟨#[]⟩), .sc (.string ⟨#[99, 111, 117, 112, 111, 110]⟩)]] h n (.sc (.string ⟨#[104, 101, 97, 100, 46, 99, 111, 117, 112, 111, 110]⟩)) h n := orc_gen (ds := [.agg [.sc (.int .i64 0), .sc (.string ⟨#[]⟩), .sc (.string ⟨#[99, 111, 117, 112, 111, 110]⟩)]]) (cs := [.d (.sc (.string ⟨#[104, 101, 97, 100, 46, 99, 111, 117, 112, 111, 110]⟩))]) (by kernel_rfl) (by kernel_rfl) fprin0_c h n
theorem fprin1_r [Cx] (h : Hp) (n : Nat) : RCall Go.Proofs.Tryz.prog 134 [.agg [.sc (.int .i64 1), .sc (.string ⟨#[]⟩), .sc (.string ⟨#[110, 111, 116, 101]⟩)]] h n (.sc (.string ⟨#[108, 105, 110, 101, 46, 110, 111, 116, 101]⟩)) h n := orc_gen (ds := [.agg [.sc (.int .i64 1), .sc (.string ⟨#[]⟩), .sc (.string ⟨#[110, 111, 116, 101]⟩)]]) (cs := [.d (.sc (.string ⟨#[108, 105, 110, 101, 46, 110, 111, 116, 101]⟩))]) (by kernel_rfl) (by kernel_rfl) fprin1_c h n
theorem fprin2_r [Cx] (h : Hp) (n : Nat) : RCall Go.Proofs.Tryz.prog 134 [.agg [.sc (.int .i64 1), .sc (.string ⟨#[]⟩), .sc (.string ⟨#[113, 116, 121]⟩)]] h n (.sc (.string ⟨#[108, 105, 110, 101, 46, 113, 116, 121]⟩)) h n := orc_gen (ds := [.agg [.sc (.int .i64 1), .sc (.string ⟨#[]⟩), .sc (.string ⟨#[113, 116, 121]⟩)]]) (cs := [.d (.sc (.string ⟨#[108, 105, 110, 101, 46, 113, 116, 121]⟩))]) (by kernel_rfl) (by kernel_rfl) fprin2_c h n
theorem fprin3_r [Cx] (h : Hp) (n : Nat) : RCall Go.Proofs.Tryz.prog 134 [.agg [.sc (.int .i64 1), .sc (.string ⟨#[]⟩), .sc (.string ⟨#[115, 105, 122, 101]⟩)]] h n (.sc (.string ⟨#[108, 105, 110, 101, 46, 115, 105, 122, 101]⟩)) h n := orc_gen (ds := [.agg [.sc (.int .i64 1), .sc (.string ⟨#[]⟩), .sc (.string ⟨#[115, 105, 122, 101]⟩)]]) (cs := [.d (.sc (.string ⟨#[108, 105, 110, 101, 46, 115, 105, 122, 101]⟩))]) (by kernel_rfl) (by kernel_rfl) fprin3_c h n
theorem fprin4_r [Cx] (h : Hp) (n : Nat) : RCall Go.Proofs.Tryz.prog 134 [.agg [.sc (.int .i64 1), .sc (.string ⟨#[]⟩), .sc (.string ⟨#[116, 97, 103, 115]⟩)]] h n (.sc (.string ⟨#[108, 105, 110, 101, 46, 116, 97, 103, 115]⟩)) h n := orc_gen (ds := [.agg [.sc (.int .i64 1), .sc (.string ⟨#[]⟩), .sc (.string ⟨#[116, 97, 103, 115]⟩)]]) (cs := [.d (.sc (.string ⟨#[108, 105, 110, 101, 46, 116, 97, 103, 115]⟩))]) (by kernel_rfl) (by kernel_rfl) fprin4_c h n
theorem pof0_r [Cx] (h : Hp) (n : Nat) : RCall Go.Proofs.Tryz.prog 200 [.sc (.int .i64 0), .sc (.int .i64 0)] h n (.tup [.sc (.complex .f64 0 0), .sc (.int .i64 0)]) h n := orc_gen (ds := [.sc (.int .i64 0), .sc (.int .i64 0)]) (cs := [.d (.sc (.complex .f64 0 0)), .d (.sc (.int .i64 0))]) (by kernel_rfl) (by kernel_rfl) pof0_c h n
theorem ppart0_r [Cx] (h : Hp) (n : Nat) : RCall Go.Proofs.Tryz.prog 312 [.sc (.complex .f64 0 0)] h n (.tup [.sc (.int .i64 0), .sc (.int .i64 0), .sc (.int .i64 0)]) h n := orc_gen (ds := [.sc (.complex .f64 0 0)]) (cs := [.d (.sc (.int .i64 0)), .d (.sc (.int .i64 0)), .d (.sc (.int .i64 0))]) (by kernel_rfl) (by kernel_rfl) ppart0_c h n
theorem pof3_r [Cx] (h : Hp) (n : Nat) : RCall Go.Proofs.Tryz.prog 200 [.sc (.int .i64 3), .sc (.int .i64 0)] h n (.tup [.sc (.complex .f64 4613937818241073152 0), .sc (.int .i64 0)]) h n := orc_gen (ds := [.sc (.int .i64 3), .sc (.int .i64 0)]) (cs := [.d (.sc (.complex .f64 4613937818241073152 0)), .d (.sc (.int .i64 0))]) (by kernel_rfl) (by kernel_rfl) pof3_c h n
theorem ppart3_r [Cx] (h : Hp) (n : Nat) : RCall Go.Proofs.Tryz.prog 312 [.sc (.complex .f64 4613937818241073152 0)] h n (.tup [.sc (.int .i64 3), .sc (.int .i64 0), .sc (.int .i64 0)]) h n := orc_gen (ds := [.sc (.complex .f64 4613937818241073152 0)]) (cs := [.d (.sc (.int .i64 3)), .d (.sc (.int .i64 0)), .d (.sc (.int .i64 0))]) (by kernel_rfl) (by kernel_rfl) ppart3_c h n
theorem pplus_r [Cx] (h : Hp) (n : Nat) : RCall Go.Proofs.Tryz.prog 405 [.sc (.complex .f64 0 0), .sc (.complex .f64 4613937818241073152 0)] h n (.tup [.sc (.complex .f64 4613937818241073152 0), .sc (.int .i64 0)]) h n := orc_gen (ds := [.sc (.complex .f64 0 0), .sc (.complex .f64 4613937818241073152 0)]) (cs := [.d (.sc (.complex .f64 4613937818241073152 0)), .d (.sc (.int .i64 0))]) (by kernel_rfl) (by kernel_rfl) pplus_c h n
theorem psmall_r [Cx] (h : Hp) (n : Nat) : RCall Go.Proofs.Tryz.prog 201 [.sc (.complex .f64 0 0)] h n (.sc (.bool true)) h n := orc_gen (ds := [.sc (.complex .f64 0 0)]) (cs := [.d (.sc (.bool true))]) (by kernel_rfl) (by kernel_rfl) psmall_c h n
abbrev orcP : Orc := (23, [.sc (.string ⟨#[57, 48, 48, 48]⟩)], .tup [.sc (.int .i64 9000), .sc (.int .i64 0)]) :: (23, [.sc (.string ⟨#[50]⟩)], .tup [.sc (.int .i64 2), .sc (.int .i64 0)]) :: (23, [.sc (.string ⟨#[48]⟩)], .tup [.sc (.int .i64 0), .sc (.int .i64 0)]) :: (23, [.sc (.string ⟨#[49]⟩)], .tup [.sc (.int .i64 1), .sc (.int .i64 0)]) :: (23, [.sc (.string ⟨#[51]⟩)], .tup [.sc (.int .i64 3), .sc (.int .i64 0)]) :: (24, [.sc (.int .i64 0)], .sc (.string ⟨#[48]⟩)) :: (24, [.sc (.int .i64 1)], .sc (.string ⟨#[49]⟩)) :: (24, [.sc (.int .i64 2)], .sc (.string ⟨#[50]⟩)) :: (24, [.sc (.int .i64 3)], .sc (.string ⟨#[51]⟩)) :: (141, [.sc (.string ⟨#[108, 105, 110, 101, 46, 113, 116, 121]⟩)], .tup [.agg [.sc (.int .i64 1), .sc (.string ⟨#[]⟩), .sc (.string ⟨#[113, 116, 121]⟩)], .sc (.int .i64 0)]) :: (134, [.agg [.sc (.int .i64 0), .sc (.string ⟨#[]⟩), .sc (.string ⟨#[99, 111, 117, 112, 111, 110]⟩)]], .sc (.string ⟨#[104, 101, 97, 100, 46, 99, 111, 117, 112, 111, 110]⟩)) :: (134, [.agg [.sc (.int .i64 1), .sc (.string ⟨#[]⟩), .sc (.string ⟨#[110, 111, 116, 101]⟩)]], .sc (.string ⟨#[108, 105, 110, 101, 46, 110, 111, 116, 101]⟩)) :: (134, [.agg [.sc (.int .i64 1), .sc (.string ⟨#[]⟩), .sc (.string ⟨#[113, 116, 121]⟩)]], .sc (.string ⟨#[108, 105, 110, 101, 46, 113, 116, 121]⟩)) :: (134, [.agg [.sc (.int .i64 1), .sc (.string ⟨#[]⟩), .sc (.string ⟨#[115, 105, 122, 101]⟩)]], .sc (.string ⟨#[108, 105, 110, 101, 46, 115, 105, 122, 101]⟩)) :: (134, [.agg [.sc (.int .i64 1), .sc (.string ⟨#[]⟩), .sc (.string ⟨#[116, 97, 103, 115]⟩)]], .sc (.string ⟨#[108, 105, 110, 101, 46, 116, 97, 103, 115]⟩)) :: (200, [.sc (.int .i64 0), .sc (.int .i64 0)], .tup [.sc (.complex .f64 0 0), .sc (.int .i64 0)]) :: (312, [.sc (.complex .f64 0 0)], .tup [.sc (.int .i64 0), .sc (.int .i64 0), .sc (.int .i64 0)]) :: (200, [.sc (.int .i64 3), .sc (.int .i64 0)], .tup [.sc (.complex .f64 4613937818241073152 0), .sc (.int .i64 0)]) :: (312, [.sc (.complex .f64 4613937818241073152 0)], .tup [.sc (.int .i64 3), .sc (.int .i64 0), .sc (.int .i64 0)]) :: (405, [.sc (.complex .f64 0 0), .sc (.complex .f64 4613937818241073152 0)], .tup [.sc (.complex .f64 4613937818241073152 0), .sc (.int .i64 0)]) :: (201, [.sc (.complex .f64 0 0)], .sc (.bool true)) :: orcS
theorem orcP_ok [Cx] : OrcOk Go.Proofs.Tryz.prog orcP := (orcOk_cons (by kernel_rfl) read9000_r (orcOk_cons (by kernel_rfl) read2_r (orcOk_cons (by kernel_rfl) read0_r (orcOk_cons (by kernel_rfl) read1_r (orcOk_cons (by kernel_rfl) read3_r (orcOk_cons (by kernel_rfl) prin0_r (orcOk_cons (by kernel_rfl) prin1_r (orcOk_cons (by kernel_rfl) prin2_r (orcOk_cons (by kernel_rfl) prin3_r (orcOk_cons (by kernel_rfl) fread0_r (orcOk_cons (by kernel_rfl) fprin0_r (orcOk_cons (by kernel_rfl) fprin1_r (orcOk_cons (by kernel_rfl) fprin2_r (orcOk_cons (by kernel_rfl) fprin3_r (orcOk_cons (by kernel_rfl) fprin4_r (orcOk_cons (by kernel_rfl) pof0_r (orcOk_cons (by kernel_rfl) ppart0_r (orcOk_cons (by kernel_rfl) pof3_r (orcOk_cons (by kernel_rfl) ppart3_r (orcOk_cons (by kernel_rfl) pplus_r (orcOk_cons (by kernel_rfl) psmall_r orcS_ok)))))))))))))))))))))
end Go.Rn
end
section
namespace Go.Rn
open Go.RowKit
open Go.Vm (enters)
set_option maxRecDepth 1000000
set_option maxHeartbeats 100000000 in
theorem awake34_run : Hold (run Go.Proofs.Tryz.prog ft orcP 1000000 1000 7 [] .leaf 0 (fun v _ _ => isV (.sc (.bool true)) v)) := ⟨of_eq_true (by kernel_rfl)⟩
theorem awake34_known : enters Go.Proofs.Tryz.prog 7 = true ∧ ∀ [Cx] h n, RCall Go.Proofs.Tryz.prog 7 [] h n (.sc (.bool true)) h n := closed_run (P := Go.Proofs.Tryz.prog) (F := ft) (l := orcP) (f := 7) (x := .sc (.bool true)) (u := .bool true) ft_ok (fun [Cx] => orcP_ok) awake34_run rfl rfl
end Go.Rn
end
section
namespace Go.Vm
open Go.RowKit Go.Proofs
set_option maxRecDepth 10000
open Go.Proofs Go.Proofs.YtdfbohaohjaloaaGreatDoor Punnet.Name Punnet.Num
theorem awake34_any : Contract Tryz.prog 7 [] [.d (.sc (.bool (true)))] := Go.Rn.contract_bool Go.Rn.awake34_known.2
set_option maxHeartbeats 16000000 in
theorem law34_ScriptTags_any (t : TagD) (s0 : ByteArray)  (r : Bool) (h : law34_ScriptTags t s0 = some r) : Contract Tryz.prog 3 [tD t, .sc (.string s0)] [.d (.sc (.bool r))] := by
 refine T.fn [] Tryz.func3 ?_
 unfold law34_ScriptTags at h
 refine x_call T.en_7 (awake34_any) ?_
 refine br (fun c1 => ?c1y) (fun c1 => ?c1n)
 case' c1y =>
  replace h := pos_of h (nf c1)
  obtain rfl := Option.some.inj h
 case' c1n =>
  replace h := neg_of h (fun k => k c1)
  refine x_len ?_
  refine br (fun c2 => ?c2y) (fun c2 => ?c2n)
  case' c2y =>
   replace h := pos_of h c2
   obtain rfl := Option.some.inj h
  case' c2n =>
   replace h := neg_of h c2
   refine grdG h fun g1 h => ?_
   refine x_call T.en_9 (scriptTag_any t g1) ?_
   refine grdG h fun g2 h => ?_
   refine x_call T.en_8 (scriptReadTag_any (tagT t) g2) ?_
   refine grdG h fun g3 h => ?_
   refine x_call T.en_8 (scriptReadTag_any s0 g3) ?_
   refine grdG h fun g4 h => ?_
   refine x_call T.en_10 (ref34ReadTag_any s0 g4) ?_
   refine And.intro ⟨T.mixed, by decide +kernel⟩ ?_
   refine grdG h fun g5 h => ?_
   refine x_call T.en_9 (scriptTag_any t g5) ?_
   refine grdG h fun g6 h => ?_
   refine x_call T.en_11 (ref34Tag_any t g6) ?_
   refine br (fun c3 => ?c3y) (fun c3 => ?c3n)
   case' c3y =>
    replace h := pos_of h c3
    refine xeq_23e ((tagOf (tagT t)).getD noTag) t ?_
    refine br (fun c4 => ?c4y) (fun c4 => ?c4n)
    case' c4y =>
     replace h := pos_of h c4
     refine br (fun c5 => ?c5y) (fun c5 => ?c5n)
     case' c5y =>
      replace h := pos_of h c5
      refine xeq_23e ((tagOf s0).getD noTag) ((tagOf s0).getD noTag) ?_
      refine br (fun c6 => ?c6y) (fun c6 => ?c6n)
      case' c6y =>
       replace h := pos_of h c6
       refine x_bin (pr_eqb Tryz.underlying4) rfl ?_
       refine br (fun c7 => ?c7y) (fun c7 => ?c7n)
       case' c7y =>
        replace h := pos_of h c7
        refine br (fun c8 => ?c8y) (fun c8 => ?c8n)
        case' c8y =>
         replace h := pos_of h c8
         refine brT ?_
         refine br (fun c9 => ?c9y) (fun c9 => ?c9n)
         case' c9y =>
          exact absurd c8 (nf c9)
         case' c9n =>
          replace h := neg_of h (fun k => k c9)
          refine grdG h fun g7 h => ?_
          refine x_call T.en_9 (scriptTag_any ((tagOf s0).getD noTag) g7) ?_
          obtain rfl := Option.some.inj h
        case' c8n =>
         replace h := neg_of h (nf c8)
         refine br (fun c10 => ?c10y) (fun c10 => ?c10n)
         case' c10y =>
          replace h := pos_of h c10
          refine br (fun c11 => ?c11y) (fun c11 => ?c11n)
          case' c11y =>
           replace h := pos_of h (nf c11)
           obtain rfl := Option.some.inj h
          case' c11n =>
           exact absurd c11 (nf c8)
         case' c10n =>
          replace h := neg_of h c10
          obtain rfl := Option.some.inj h
       case' c7n =>
        replace h := neg_of h (nf c7)
        refine brF ?_
        obtain rfl := Option.some.inj h
      case' c6n =>
       replace h := neg_of h c6
       refine brF ?_
       refine brF ?_
       obtain rfl := Option.some.inj h
     case' c5n =>
      replace h := neg_of h c5
      refine brF ?_
      refine brF ?_
      refine brF ?_
      obtain rfl := Option.some.inj h
    case' c4n =>
     replace h := neg_of h c4
     refine brF ?_
     refine brF ?_
     refine brF ?_
     refine brF ?_
     obtain rfl := Option.some.inj h
   case' c3n =>
    replace h := neg_of h c3
    refine brF ?_
    refine brF ?_
    refine brF ?_
    refine brF ?_
    refine brF ?_
    obtain rfl := Option.some.inj h
 all_goals (refine x_ret ?_; simp only [fitsL, fits, C.asD, and_true] <;> (first | exact rfl | trivial | exact ⟨rfl, rfl⟩ | exact ⟨rfl, rfl, rfl⟩ | (simp [*]; done) | (simp_all; done) | (simp only [schC] at *; simp_all; first | done | rfl)))
end Go.Vm
end
section
namespace Go.Vm
open Go.RowKit Go.Proofs Go.Proofs.YtdfbohaohjaloaaGreatDoor Punnet.Name Punnet.Num
theorem tagT_size {t : TagD} (h : tagIn t) : (tagT t).size ≤ 100 := by
  have h1 := print_size h.1
  have h2 := print_size h.2
  rw [← ba_len] at h1 h2 ⊢
  unfold printB at h1 h2
  unfold tagT
  rw [mkB_data, List.length_append, List.length_cons]
  simp only at h1 h2
  simp at h1 h2 ⊢
  omega
theorem scriptTags_true (t : TagD) (s : ByteArray) (h : tagIn t) : law34_ScriptTags t s = some true := by
  have e : tagOf (tagT t) = some t := tagOf_some h rfl
  have z := tagT_size h
  unfold law34_ScriptTags
  rw [if_neg (by decide)]
  by_cases h2 : 200 < ((s.size : Nat) : Int)
  · rw [if_pos h2]
  · rw [if_neg h2, grd_yes h, grd_yes (by omega), grd_yes (by omega), grd_yes (by omega), grd_yes h, grd_yes h, if_pos rfl, e]
    cases hs : tagOf s with
    | none => simp
    | some u =>
      obtain ⟨hu, hT⟩ := tagOf_inv hs
      simp [grd_yes hu, hT]
end Go.Vm
end
section
namespace Go.Vm
open Go.RowKit Go.Proofs
end Go.Vm
end
section
namespace Go.Vm
open Go.RowKit Go.Proofs
section
variable {b : List UInt8} {f : Int} {s : St}
def okIT (t : TagD) : Prop := inI64 t.r ∧ inI64 t.n
end
end Go.Vm
end
section
namespace Go.Vm
open Go.RowKit Go.Proofs
set_option maxRecDepth 10000
open Go.RowKit
section
variable {P : Program} {w : World}
theorem reps_cut {ro : Roles} {es : List Value} {o k : Nat} {c d : List D} (h1 : Reps ro w ((es.drop o).take k) c) (h2 : Reps ro w (es.drop (o + k)) d) : Reps ro w (es.drop o) (c ++ d) := by
 have h := h1.append h2
 rwa [← List.drop_drop, List.take_append_drop] at h
theorem reps_end {ro : Roles} {es : List Value} {o : Nat} (h : es.length = o) : Reps ro w (es.drop o) [] := by
 rw [List.drop_eq_nil_of_le (by omega)]; exact Reps.nil
theorem rep_ag1 {ro : Roles} {s : Array Value} {cs : List D} (h : Reps ro w s.toList cs) : Rep ro w (.agg s) (.agg cs) := .agg (by simpa using h.1) h.2.1 h.2.2
end
section
variable {P : Program} {w : World}
theorem cells_intI {t : TypeId} {cs : List Value} (ht : P.underlying t = some (.int .i64)) (h : Reads P w t cs) : ∃ n : Int, Reps allFrozen w cs [.sc (.int .i64 n)] ∧ inI64 n := by
 obtain ⟨n, rfl, hw⟩ := h.int ht
 refine ⟨n, ⟨rfl, by simp [Value.oneCell'], fun j u c hu hc => by cases j with | zero => simp at hu hc; subst hu hc; exact .sc rfl | succ j => simp at hu⟩, ?_⟩
 simp [Lit.wf, IntKind.min, IntKind.max, IntKind.signed, IntKind.bits] at hw
 exact ⟨by omega, by omega⟩
end
theorem tag_cellsI (w : World) : Cells Tryz.prog w 23 tD okIT := by
 intro es h
 obtain ⟨hl, hf⟩ := h.struct Tryz.underlying23
 rw [show Tryz.prog.cellsOf 23 = 2 from by kernel_rfl] at hl
 have h0 := hf _ (List.mem_cons_self ..)
 simp only [show Tryz.prog.cellsOf 3 = 1 from by kernel_rfl] at h0
 obtain ⟨v0, r0, o0⟩ := cells_intI Tryz.underlying3 h0
 have h1 := hf _ (List.mem_cons_of_mem _ (List.mem_cons_self ..))
 simp only [show Tryz.prog.cellsOf 3 = 1 from by kernel_rfl] at h1
 obtain ⟨v1, r1, o1⟩ := cells_intI Tryz.underlying3 h1
 exact ⟨⟨v0, v1⟩, reps_cut (o := 0) (k := 1) r0 (reps_cut (o := 1) (k := 1) r1 (reps_end hl)), ⟨o0, o1⟩⟩
end Go.Vm
end
section
namespace Go.Vm
open Go.RowKit Go.Proofs
set_option maxRecDepth 10000
end Go.Vm
namespace Go.Proofs.YtdfbohaohjaloaaGreatDoor
open Go.RowKit Go.Vm
theorem scriptTags_walk (s0 : Array Value) (a1 : ByteArray) (w : World) (r0 : Reads Tryz.prog w 23 s0.toList) (_w1 : a1.size ≤ maxLen) (hG : ∀ g cs, Go.gtab g = some cs → g < w.heap.size ∧ ∀ (j : Nat) (u : Value), cs[j]? = some u → w.cell? ⟨g, j, none⟩ = some u) :
  Calls Tryz.prog 3 #[.agg s0, .string a1] w fun e w' => e = .returned (.bool true) ∧ Below w.heap.size w w' := by
 obtain ⟨x0, hx0, o0⟩ := tag_cellsI w _ r0
 have hx0 := rep_ag1 hx0
 refine law_true (law34_ScriptTags_any x0 a1 true (scriptTags_true x0 a1 o0)) rfl ?_ (hG := fun g cs hg => ⟨(hG g cs hg).1, rfl, (hG g cs hg).2⟩)
 intro i v d hv hd
 match i, hv, hd with
 | 0, hv, hd => simp at hv hd; subst hv hd; exact hx0
 | 1, hv, hd => simp at hv hd; subst hv hd; exact Rep.sc rfl
 | i + 2, hv, _ => simp at hv
end Go.Proofs.YtdfbohaohjaloaaGreatDoor
namespace Go.Vm
end Go.Vm
end
section
namespace Go.Lib
def strTab {H : Type} (zs : List (List UInt8)) : DataW H := .agg (zs.map fun z => .lit (.string z))
theorem cells_of_strs {H : Type} {enc : TypeId × Value → H} {P : Program} {w : World} {base : Nat} {sp : Nat → Bool} {held : Bool} {fuel : Nat} {t e : TypeId} {n : Nat} {cs : List Value} {zs : List (List UInt8)} {p : List MemPlace}
    (ht : P.underlying t = some (.array n e)) (he : P.underlying e = some .string) (hce : P.cellsOf e = 1) (hct : P.cellsOf t = n)
    (h : DataW.trod enc P w base sp held fuel t cs = some (strTab zs, p)) : cs = zs.map fun z => Value.string ⟨z.toArray⟩ := by
  cases fuel with
  | zero => simp [DataW.trod] at h
  | succ fuel =>
    simp only [DataW.trod, ht, hce, hct, Nat.mul_one] at h
    split at h
    · rename_i hl
      obtain ⟨xs, hm, hx⟩ := Option.map_eq_some_iff.1 h
      have hxs : xs.map (·.1) = zs.map fun z => (DataW.lit (.string z) : DataW H) := by
        have := congrArg Prod.fst hx
        simpa [strTab] using this
      have hxl : xs.length = n := by simpa using mapM_length hm
      have hzl : zs.length = n := by
        have := congrArg List.length hxs
        simp at this
        omega
      apply List.ext_getElem?
      intro i
      by_cases hi : i < n
      · obtain ⟨b, hb, hf⟩ := mapM_at hm i i (by simp [hi])
        obtain ⟨s, hc, rfl, _⟩ := DataW.trod_string he hf
        have h1 : cs[i]? = some (.string s) := by
          have := congrArg (·[0]?) hc
          simpa [List.getElem?_take, List.getElem?_drop] using this
        have h2 : (xs.map (·.1))[i]? = some (DataW.lit (.string s.data.toList) : DataW H) := by simp [hb]
        rw [hxs] at h2
        simp only [List.getElem?_map, Option.map_eq_some_iff, DataW.lit.injEq, Lit.string.injEq] at h2
        obtain ⟨z', hz', e⟩ := h2
        have : s = ⟨z'.toArray⟩ := by rw [e]
        simp [h1, hz', this]
      · rw [List.getElem?_eq_none (by omega), List.getElem?_eq_none (by simp; omega)]
    · cases h
theorem strs_of_head {P : Program} {W : World} {name : String} {zs : List (List UInt8)} {rest : List (String × DataW Unit)} {g : Nat} {t e : TypeId} {n : Nat}
    (hg : P.globalNamed name = some g) (hty : (P.globals[g]?).map (·.type) = some t) (ht : P.underlying t = some (.array n e)) (he : P.underlying e = some .string) (hce : P.cellsOf e = 1) (hct : P.cellsOf t = n) (hz : zs ≠ [])
    (h : laidMet P ((name, strTab zs) :: rest) W) : g < W.heap.size ∧ ∀ (j : Nat) (u : Value), (zs.map fun z => Value.string ⟨z.toArray⟩)[j]? = some u → W.cell? ⟨g, j, none⟩ = some u := by
  obtain ⟨ps, ⟨g', t', cs, fuel, p, q, hg', ht', hvar, hd, _, _⟩, _⟩ := h
  obtain rfl := Option.some.inj (hg.symm.trans hg')
  obtain rfl := Option.some.inj (hty.symm.trans ht')
  have hcs := cells_of_strs ht he hce hct hd
  have hcell : ∀ (j : Nat) (u : Value), (zs.map fun z => Value.string ⟨z.toArray⟩)[j]? = some u → W.cell? ⟨g, j, none⟩ = some u := by
    intro j u hu
    have := World.var?_cell hg hvar j
    rw [← hcs] at hu
    rw [this]; simpa using hu
  refine ⟨?_, hcell⟩
  cases zs with
  | nil => exact absurd rfl hz
  | cons z zs => exact World.block_lt_of_cell? W ⟨g, 0, none⟩ (hcell 0 _ rfl)
end Go.Lib
end
section
namespace Go.Proofs.YtdfbohaohjaloaaGreatDoor
open Go.RowKit
set_option maxRecDepth 100000 in
theorem scriptTags_globs (W : World) (h : laidMetH Tryz.prog Rows.scriptTagsRow.laid W) : ∀ g cs, Go.gtab g = some cs → g < W.heap.size ∧ ∀ (j : Nat) (u : Value), cs[j]? = some u → W.cell? ⟨g, j, none⟩ = some u := by
 rw [MakeChecks.laidMetH_plain _ _ _ (by kernel_rfl)] at h
 have h0 := h.tail
 have k0 := Lib.strs_of_head (g := 0) (t := 97) (e := 9) (n := 13) (zs := [[], [97, 100, 100], [114, 101, 109, 111, 118, 101], [97, 100, 106, 117, 115, 116], [115, 101, 116], [112, 117, 116], [116, 97, 107, 101], [99, 108, 101, 97, 114], [112, 117, 98, 108, 105, 115, 104], [115, 119, 105, 116, 99, 104], [118, 105, 101, 119], [97, 116], [112, 114, 111, 106, 101, 99, 116]]) (by kernel_rfl) (by kernel_rfl) Tryz.underlying97 Tryz.underlying9 (by kernel_rfl) (by kernel_rfl) (by simp) h0
 have h1 := h0.tail
 have k1 := Lib.strs_of_head (g := 1) (t := 97) (e := 9) (n := 13) (zs := [[], [], [104, 101, 108, 108, 111], [100, 101, 108, 105, 118, 101, 114], [108, 111, 115, 101], [100, 111, 117, 98, 108, 101], [99, 117, 116], [102, 117, 115, 101], [99, 114, 97, 115, 104], [102, 111, 108, 100], [109, 101, 101, 116], [], []]) (by kernel_rfl) (by kernel_rfl) Tryz.underlying97 Tryz.underlying9 (by kernel_rfl) (by kernel_rfl) (by simp) h1
 have h2 := h1.tail
 have k2 := Lib.strs_of_head (g := 2) (t := 97) (e := 9) (n := 13) (zs := [[], [114, 101, 110, 97, 109, 101], [], [], [104, 111, 105, 115, 116], [112, 108, 117, 110, 103, 101], [115, 112, 108, 105, 116], [119, 114, 97, 112], [], [], [], [], []]) (by kernel_rfl) (by kernel_rfl) Tryz.underlying97 Tryz.underlying9 (by kernel_rfl) (by kernel_rfl) (by simp) h2
 have h3 := h2.tail
 have k3 := Lib.strs_of_head (g := 3) (t := 97) (e := 9) (n := 13) (zs := [[], [99, 111, 117, 110, 116, 101, 114], [116, 101, 120, 116], [], [108, 105, 115, 116], [], [], [], [], [], [], [], []]) (by kernel_rfl) (by kernel_rfl) Tryz.underlying97 Tryz.underlying9 (by kernel_rfl) (by kernel_rfl) (by simp) h3
 have h4 := h3.tail
 intro g cs hg
 match g, hg with
 | 0, hg => injection hg with hg; subst hg; exact k0
 | 1, hg => injection hg with hg; subst hg; exact k1
 | 2, hg => injection hg with hg; subst hg; exact k2
 | 3, hg => injection hg with hg; subst hg; exact k3
 | g + 4, hg => cases hg
end Go.Proofs.YtdfbohaohjaloaaGreatDoor
end
