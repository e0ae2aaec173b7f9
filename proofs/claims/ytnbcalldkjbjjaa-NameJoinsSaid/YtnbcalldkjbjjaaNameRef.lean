/- The walks of the reference's hex, Byte. -/
import Derived.Test.YtnbcalldkjbjjaaNameSplit
import Derived.Test.YtnbcalldkjbjjaaNameLaw
namespace Go.Proofs.Ytnbcalldkjbjjaa
open Go.RowKit Punnet.Name
set_option linter.unusedVariables false

theorem conv_byte (W : World) (d : UInt8) (z : Int) (hz : z = d.toNat) (t : TypeId) :
    (convert 40 9 (.slice (some ⟨W.heap.size, 0, none⟩) 1 1)).run Try.prog (W.alloc (.cells #[.int .u8 z] t)) = .ok (.string ⟨#[d]⟩) (W.alloc (.cells #[.int .u8 z] t)) := by
  subst hz
  refine run_convert_bytes_back _ 40 9 5 _ _ [d] Try.underlying40 Try.underlying5 Try.underlying9 fun j hj => ?_
  obtain rfl : j = 0 := by simpa using hj
  exact World.cell?_alloc_new _ _ _ _

theorem hex_any (n : Int) (h0 : 0 ≤ n) (h1 : n < 16) (w : World) : Calls Try.prog 24 #[.int .u8 n] w fun e w' => e = .returned (.string ⟨#[hexOf n.toNat]⟩) ∧ Below w.heap.size w w' := by
  by_cases h : n < 10
  · have hcv := fun W t => conv_byte W (hexOf n.toNat) (48 + n) (by unfold hexOf; rw [if_pos (by omega), UInt8.toNat_ofNat']; omega) t
    generalize hexOf n.toNat = d at *
    go_enter Try.func24, Try.ntmps24
    go_wp2
    go_ret
    exact ⟨rfl, (Below.refl _ _).alloc (Nat.le_refl _) _⟩
  · have hcv := fun W t => conv_byte W (hexOf n.toNat) (87 + n) (by unfold hexOf; rw [if_neg (by omega), UInt8.toNat_ofNat']; omega) t
    generalize hexOf n.toNat = d at *
    go_enter Try.func24, Try.ntmps24
    go_wp2
    go_ret
    exact ⟨rfl, (Below.refl _ _).alloc (Nat.le_refl _) _⟩

/-- What stands for a byte, as a text. -/
def byteB (c : UInt8) : ByteArray := ⟨(signOf c).toArray⟩
theorem byteB_data (c : UInt8) : (byteB c).data.toList = signOf c := by simp [byteB]
theorem byteB_size (c : UInt8) : (byteB c).size = (signOf c).length := by rw [← byteB_data]; simp

set_option maxHeartbeats 800000 in
theorem byte_any (c : UInt8) (w : World) : Calls Try.prog 21 #[.int .u8 (c.toNat : Int)] w fun e w' => e = .returned (.string (byteB c)) ∧ Below w.heap.size w w' := by
  have hc := c.toNat_lt
  have H := Lib.hid (show plainB c = (decide (32 ≤ c.toNat) && decide (c.toNat ≤ 126) && decide (c.toNat ≠ 34) && decide (c.toNat ≠ 92)) from rfl)
  cases hp : plainB c with
  | true =>
    have HB := Lib.hid (show byteB c = ⟨#[c]⟩ by unfold byteB signOf; rw [hp]; rfl)
    rw [H.out] at hp
    simp only [Bool.and_eq_true, decide_eq_true_iff] at hp
    obtain ⟨⟨⟨h1, h2⟩, h3⟩, h4⟩ := hp
    have b3 : ((c.toNat : Int) == 34) = false := beq_eq_false_iff_ne.2 (by omega)
    have b4 : ((c.toNat : Int) == 92) = false := beq_eq_false_iff_ne.2 (by omega)
    have hcv := fun W t => conv_byte W c (c.toNat : Int) rfl t
    clear H h3 h4
    go_enter Try.func21, Try.ntmps21
    go_wp2_with fail
    go_ret
    exact ⟨by rw [HB.out]; rfl, (Below.refl _ _).alloc (Nat.le_refl _) _⟩
  | false =>
    have HB := Lib.hid (show byteB c = ⟨#[92]⟩ ++ ⟨#[hexOf (c.toNat / 16)]⟩ ++ ⟨#[hexOf (c.toNat % 16)]⟩ by unfold byteB signOf; rw [hp]; rfl)
    have X1 := Lib.hid (hex_any ((c.toNat : Int) / 16) (by omega) (by omega))
    have X2 := Lib.hid (hex_any ((c.toNat : Int) % 16) (by omega) (by omega))
    rw [show ((c.toNat : Int) / 16).toNat = c.toNat / 16 by omega] at X1
    rw [show ((c.toNat : Int) % 16).toNat = c.toNat % 16 by omega] at X2
    have key : c.toNat < 32 ∨ (32 ≤ c.toNat ∧ 126 < c.toNat) ∨ (32 ≤ c.toNat ∧ c.toNat ≤ 126 ∧ ((c.toNat : Int) == 34) = true) ∨ (32 ≤ c.toNat ∧ c.toNat ≤ 126 ∧ ((c.toNat : Int) == 34) = false ∧ ((c.toNat : Int) == 92) = true) := by
      rw [H.out] at hp
      by_cases h1 : 32 ≤ c.toNat
      · by_cases h2 : c.toNat ≤ 126
        · by_cases h3 : c.toNat = 34
          · right; right; left; exact ⟨h1, h2, beq_iff_eq.2 (by omega)⟩
          · right; right; right
            refine ⟨h1, h2, beq_eq_false_iff_ne.2 (by omega), beq_iff_eq.2 ?_⟩
            by_cases h4 : c.toNat = 92
            · omega
            · simp [h1, h2, h3, h4] at hp
        · right; left; omega
      · left; omega
    clear H hp
    generalize hexOf (c.toNat / 16) = d1 at *
    generalize hexOf (c.toNat % 16) = d2 at *
    rcases key with h | ⟨h, h'⟩ | ⟨h, h', h''⟩ | ⟨h, h', h'', h3⟩
    all_goals
      go_enter Try.func21, Try.ntmps21
      go_wp2_with fail
      refine (X1.out _).mono ?_
      rintro e w1 ⟨rfl, hb1⟩
      go_wp2_with fail
      refine (X2.out _).mono ?_
      rintro e w2 ⟨rfl, hb2⟩
      go_wp2_with fail
      go_ret
      exact ⟨by rw [HB.out]; rfl, below_two hb1 hb2⟩

end Go.Proofs.Ytnbcalldkjbjjaa
