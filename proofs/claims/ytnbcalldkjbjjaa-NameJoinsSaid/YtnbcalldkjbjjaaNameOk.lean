/- The walks of name.Name and of the reference's Name. Printed by gen_nameok.py. -/
import Derived.Test.YtnbcalldkjbjjaaNameSame
namespace Go.Proofs.Ytnbcalldkjbjjaa
open Go.RowKit Punnet.Name
set_option linter.unusedVariables false

/-- May a byte stand in a name at a place? -/
def okAt (c k : Nat) : Bool := decide (97 ≤ c ∧ c ≤ 122) || (decide (48 ≤ c ∧ c ≤ 57) && decide (k ≠ 0))
/-- May the bytes ahead of a place stand in a name? -/
def OkTo (s : ByteArray) (k : Nat) : Prop := ∀ j (h : j < s.size), j < k → okAt s[j].toNat j = true
/-- Is it a name? -/
def nameOk (s : ByteArray) : Bool := decide (1 ≤ s.size ∧ s.size ≤ 12) && (List.range s.size).all fun j => okAt (s.data.toList[j]?.getD 0).toNat j

theorem at_data {s : ByteArray} {j : Nat} (h : j < s.size) : s.data.toList[j]?.getD 0 = s[j] := by
  rw [List.getElem?_eq_getElem (by simpa using h), get_data s j h]; rfl
theorem ok_all {s : ByteArray} (h1 : 1 ≤ s.size) (h2 : s.size ≤ 12) (h : OkTo s s.size) : nameOk s = true := by
  unfold nameOk
  rw [Bool.and_eq_true, decide_eq_true_iff, List.all_eq_true]
  refine ⟨⟨h1, h2⟩, fun j hj => ?_⟩
  have hj := List.mem_range.1 hj
  rw [at_data hj]; exact h j hj hj
theorem ok_not {s : ByteArray} {j : Nat} (hj : j < s.size) (h : okAt s[j].toNat j = false) : nameOk s = false := by
  unfold nameOk
  rw [Bool.and_eq_false_iff]
  refine .inr (Bool.eq_false_iff.2 fun ha => ?_)
  have := List.all_eq_true.1 ha j (List.mem_range.2 hj)
  rw [at_data hj, h] at this; cases this
theorem ok_next {s : ByteArray} {k : Nat} (ho : OkTo s k) (hk : k < s.size) (h : okAt s[k].toNat k = true) : OkTo s (k + 1) := by
  intro j hj hjk
  by_cases e : j = k
  · subst e; exact h
  · exact ho j hj (by omega)


set_option maxHeartbeats 2000000 in
theorem name_any (s : ByteArray) (w : World) (hs : s.size ≤ 16777216) : Calls Try.prog 14 #[.string s] w fun e w' => e = .returned (.bool (nameOk s)) ∧ Below w.heap.size w w' := by
  have hml : s.size ≤ 9223372036854775807 := by omega
  by_cases h1 : s.size < 1
  · have h1' : (s.size : Int) < 1 := by omega
    have HE := Lib.hid (show nameOk s = false by unfold nameOk; simp; omega)
    go_enter Try.func14, Try.ntmps14
    go_wp2_with fail
    go_ret
    exact ⟨ret_bool HE.out.symm, Below.refl _ _⟩
  by_cases h2 : 12 < s.size
  · have h1' : ¬ (s.size : Int) < 1 := by omega
    have h2' : (12 : Int) < s.size := by omega
    have HE := Lib.hid (show nameOk s = false by unfold nameOk; simp; omega)
    go_enter Try.func14, Try.ntmps14
    go_wp2_with fail
    go_ret
    exact ⟨ret_bool HE.out.symm, Below.refl _ _⟩
  have h1' : ¬ (s.size : Int) < 1 := by omega
  have h2' : ¬ (12 : Int) < s.size := by omega
  go_enter Try.func14, Try.ntmps14
  go_wp2_with fail
  go_loop [16] (fun i => ∃ k : Nat, k ≤ s.size ∧ i = .int .i64 (k : Int) ∧ OkTo s k) (fun i => s.size - (intOf i).toNat)
  case atStart => exact ⟨0, by omega, rfl, fun j hj hh => absurd hh (by omega)⟩
  case round =>
    obtain ⟨k, hk, rfl, ho⟩ := hrel
    have HO := Lib.hid ho
    clear ho
    by_cases hlt : k < s.size
    · have hlt' : (k : Int) < s.size := by omega
      have hcl : (97 ≤ s[k].toNat ∧ s[k].toNat ≤ 122) ∨ 122 < s[k].toNat ∨ (57 < s[k].toNat ∧ s[k].toNat < 97) ∨ (48 ≤ s[k].toNat ∧ s[k].toNat ≤ 57 ∧ k = 0) ∨ (48 ≤ s[k].toNat ∧ s[k].toNat ≤ 57 ∧ k ≠ 0) ∨ s[k].toNat < 48 := by omega
      rcases hcl with hcl | hcl | hcl | hcl | hcl | hcl
      · have hh0 : 97 ≤ (s[k].toNat : Int) := by omega
        have hh1 : (s[k].toNat : Int) ≤ 122 := by omega
        have hh2 : 48 ≤ (s[k].toNat : Int) := by omega
        have hh3 : ¬ (s[k].toNat : Int) ≤ 57 := by omega
        have HO2 := Lib.hid (ok_next HO.out hlt (by simp only [okAt]; simp; omega))
        clear hcl
        go_wp2_with fail
        go_round
        case rel => exact ⟨k + 1, by omega, by go_num, HO2.out⟩
        case measure => simp [intOf]; omega
      · have hh0 : 97 ≤ (s[k].toNat : Int) := by omega
        have hh1 : ¬ (s[k].toNat : Int) ≤ 122 := by omega
        have hh2 : 48 ≤ (s[k].toNat : Int) := by omega
        have hh3 : ¬ (s[k].toNat : Int) ≤ 57 := by omega
        have HE := Lib.hid (show nameOk s = false from ok_not hlt (by simp only [okAt]; simp; omega))
        clear hcl
        go_wp2_with fail
        go_ret
        exact ⟨ret_bool HE.out.symm, Below.refl _ _⟩
      · have hh0 : ¬ 97 ≤ (s[k].toNat : Int) := by omega
        have hh1 : 48 ≤ (s[k].toNat : Int) := by omega
        have hh2 : ¬ (s[k].toNat : Int) ≤ 57 := by omega
        have HE := Lib.hid (show nameOk s = false from ok_not hlt (by simp only [okAt]; simp; omega))
        clear hcl
        go_wp2_with fail
        go_ret
        exact ⟨ret_bool HE.out.symm, Below.refl _ _⟩
      · have hh0 : ¬ 97 ≤ (s[k].toNat : Int) := by omega
        have hh1 : 48 ≤ (s[k].toNat : Int) := by omega
        have hh2 : (s[k].toNat : Int) ≤ 57 := by omega
        have hh3 : ((k : Int) == 0) = true := beq_iff_eq.2 (by omega)
        have HE := Lib.hid (show nameOk s = false from ok_not hlt (by simp only [okAt]; simp; omega))
        clear hcl
        go_wp2_with fail
        go_ret
        exact ⟨ret_bool HE.out.symm, Below.refl _ _⟩
      · have hh0 : ¬ 97 ≤ (s[k].toNat : Int) := by omega
        have hh1 : 48 ≤ (s[k].toNat : Int) := by omega
        have hh2 : (s[k].toNat : Int) ≤ 57 := by omega
        have hh3 : ((k : Int) == 0) = false := beq_eq_false_iff_ne.2 (by omega)
        have HO2 := Lib.hid (ok_next HO.out hlt (by simp only [okAt]; simp; omega))
        clear hcl
        go_wp2_with fail
        go_round
        case rel => exact ⟨k + 1, by omega, by go_num, HO2.out⟩
        case measure => simp [intOf]; omega
      · have hh0 : ¬ 97 ≤ (s[k].toNat : Int) := by omega
        have hh1 : ¬ 48 ≤ (s[k].toNat : Int) := by omega
        have HE := Lib.hid (show nameOk s = false from ok_not hlt (by simp only [okAt]; simp; omega))
        clear hcl
        go_wp2_with fail
        go_ret
        exact ⟨ret_bool HE.out.symm, Below.refl _ _⟩
    · have hlt' : ¬ (k : Int) < s.size := by omega
      have HE := Lib.hid (show nameOk s = true from ok_all (by omega) (by omega) (show OkTo s s.size by have := HO.out; rwa [show k = s.size by omega] at this))
      go_wp2_with fail
      go_ret
      exact ⟨ret_bool HE.out.symm, Below.refl _ _⟩


set_option maxHeartbeats 2000000 in
theorem refName_any (s : ByteArray) (w : World) (hs : s.size ≤ 16777216) : Calls Try.prog 11 #[.string s] w fun e w' => e = .returned (.bool (nameOk s)) ∧ Below w.heap.size w w' := by
  have hml : s.size ≤ 9223372036854775807 := by omega
  by_cases h1 : s.size < 1
  · have h1' : (s.size : Int) < 1 := by omega
    have HE := Lib.hid (show nameOk s = false by unfold nameOk; simp; omega)
    go_enter Try.func11, Try.ntmps11
    go_wp2_with fail
    go_ret
    exact ⟨ret_bool HE.out.symm, Below.refl _ _⟩
  by_cases h2 : 12 < s.size
  · have h1' : ¬ (s.size : Int) < 1 := by omega
    have h2' : (12 : Int) < s.size := by omega
    have HE := Lib.hid (show nameOk s = false by unfold nameOk; simp; omega)
    go_enter Try.func11, Try.ntmps11
    go_wp2_with fail
    go_ret
    exact ⟨ret_bool HE.out.symm, Below.refl _ _⟩
  have h1' : ¬ (s.size : Int) < 1 := by omega
  have h2' : ¬ (12 : Int) < s.size := by omega
  go_enter Try.func11, Try.ntmps11
  go_wp2_with fail
  go_loop [3] (fun i => ∃ k : Nat, k ≤ s.size ∧ i = .int .i64 (k : Int) ∧ OkTo s k) (fun i => s.size - (intOf i).toNat)
  case atStart => exact ⟨0, by omega, rfl, fun j hj hh => absurd hh (by omega)⟩
  case round =>
    obtain ⟨k, hk, rfl, ho⟩ := hrel
    have HO := Lib.hid ho
    clear ho
    by_cases hlt : k < s.size
    · have hlt' : (k : Int) < s.size := by omega
      have hcl : (97 ≤ s[k].toNat ∧ s[k].toNat ≤ 122) ∨ 122 < s[k].toNat ∨ (57 < s[k].toNat ∧ s[k].toNat < 97) ∨ (48 ≤ s[k].toNat ∧ s[k].toNat ≤ 57 ∧ k = 0) ∨ (48 ≤ s[k].toNat ∧ s[k].toNat ≤ 57 ∧ k ≠ 0) ∨ s[k].toNat < 48 := by omega
      rcases hcl with hcl | hcl | hcl | hcl | hcl | hcl
      · have hh0 : 97 ≤ (s[k].toNat : Int) := by omega
        have hh1 : (s[k].toNat : Int) ≤ 122 := by omega
        have hh2 : 48 ≤ (s[k].toNat : Int) := by omega
        have hh3 : ¬ (s[k].toNat : Int) ≤ 57 := by omega
        have HO2 := Lib.hid (ok_next HO.out hlt (by simp only [okAt]; simp; omega))
        clear hcl
        go_wp2_with fail
        go_round
        case rel => exact ⟨k + 1, by omega, by go_num, HO2.out⟩
        case measure => simp [intOf]; omega
      · have hh0 : 97 ≤ (s[k].toNat : Int) := by omega
        have hh1 : ¬ (s[k].toNat : Int) ≤ 122 := by omega
        have hh2 : 48 ≤ (s[k].toNat : Int) := by omega
        have hh3 : ¬ (s[k].toNat : Int) ≤ 57 := by omega
        have HE := Lib.hid (show nameOk s = false from ok_not hlt (by simp only [okAt]; simp; omega))
        clear hcl
        go_wp2_with fail
        go_ret
        exact ⟨ret_bool HE.out.symm, Below.refl _ _⟩
      · have hh0 : ¬ 97 ≤ (s[k].toNat : Int) := by omega
        have hh1 : 48 ≤ (s[k].toNat : Int) := by omega
        have hh2 : ¬ (s[k].toNat : Int) ≤ 57 := by omega
        have HE := Lib.hid (show nameOk s = false from ok_not hlt (by simp only [okAt]; simp; omega))
        clear hcl
        go_wp2_with fail
        go_ret
        exact ⟨ret_bool HE.out.symm, Below.refl _ _⟩
      · have hh0 : ¬ 97 ≤ (s[k].toNat : Int) := by omega
        have hh1 : 48 ≤ (s[k].toNat : Int) := by omega
        have hh2 : (s[k].toNat : Int) ≤ 57 := by omega
        have hh3 : ((k : Int) == 0) = true := beq_iff_eq.2 (by omega)
        have HE := Lib.hid (show nameOk s = false from ok_not hlt (by simp only [okAt]; simp; omega))
        clear hcl
        go_wp2_with fail
        go_ret
        exact ⟨ret_bool HE.out.symm, Below.refl _ _⟩
      · have hh0 : ¬ 97 ≤ (s[k].toNat : Int) := by omega
        have hh1 : 48 ≤ (s[k].toNat : Int) := by omega
        have hh2 : (s[k].toNat : Int) ≤ 57 := by omega
        have hh3 : ((k : Int) == 0) = false := beq_eq_false_iff_ne.2 (by omega)
        have HO2 := Lib.hid (ok_next HO.out hlt (by simp only [okAt]; simp; omega))
        clear hcl
        go_wp2_with fail
        go_round
        case rel => exact ⟨k + 1, by omega, by go_num, HO2.out⟩
        case measure => simp [intOf]; omega
      · have hh0 : ¬ 97 ≤ (s[k].toNat : Int) := by omega
        have hh1 : ¬ 48 ≤ (s[k].toNat : Int) := by omega
        have HE := Lib.hid (show nameOk s = false from ok_not hlt (by simp only [okAt]; simp; omega))
        clear hcl
        go_wp2_with fail
        go_ret
        exact ⟨ret_bool HE.out.symm, Below.refl _ _⟩
    · have hlt' : ¬ (k : Int) < s.size := by omega
      have HE := Lib.hid (show nameOk s = true from ok_all (by omega) (by omega) (show OkTo s s.size by have := HO.out; rwa [show k = s.size by omega] at this))
      go_wp2_with fail
      go_ret
      exact ⟨ret_bool HE.out.symm, Below.refl _ _⟩

end Go.Proofs.Ytnbcalldkjbjjaa
