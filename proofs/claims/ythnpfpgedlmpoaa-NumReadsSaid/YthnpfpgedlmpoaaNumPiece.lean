/- The walks of num.piece, num.value, num.Scan, num.Read. -/
import Derived.Test.YthnpfpgedlmpoaaKit
import Derived.Test.YthnpfpgedlmpoaaNumPlain
namespace Go.Proofs.Ythnpfpgedlmpoaa
open Go.RowKit Punnet.Num

theorem get_list (s : ByteArray) (k : Nat) (h : k < s.size) : s.data.toList[k]'(by simpa using h) = s[k] := by simp; rfl
theorem ret_i64 {a b : Int} (h : a = b) : Ending.returned (.int .i64 a) = .returned (.int .i64 b) := by rw [h]

set_option maxHeartbeats 1000000 in
theorem piece_any (s : ByteArray) (w : World) (hs : s.size ≤ maxLen) :
    Calls Try.prog 13 #[.string s] w fun e w' => e = .returned (.int .i64 (pieceLen s.data.toList)) ∧ Below w.heap.size w w' := by
  unfold maxLen at hs
  go_enter Try.func13, Try.ntmps13
  go_wp2
  go_loopw [3, 4] (fun e d wr => ∃ k D E : Nat, wr = w.iter s k ∧ k ≤ s.size ∧ d = .int .i64 D ∧ e = .int .i64 E ∧ D ≤ k ∧ PieceInv s.data.toList k D E) (fun _ _ wr => s.size - wr.iterPos w.heap.size)
  case atStart => exact ⟨0, 0, 0, rfl, Nat.zero_le _, rfl, rfl, Nat.le_refl _, PieceInv.start _⟩
  case round =>
    obtain ⟨k, D, E, rfl, hk, rfl, rfl, hD, hi⟩ := hrel
    have HI := Lib.hid hi
    clear hi
    have hiter : ∀ p, Below w.heap.size w (w.iter s p) := fun p => (Below.refl _ _).alloc (Nat.le_refl _) _
    by_cases hlt : k < s.size
    · have hg := get_list s k hlt
      have hll : k < s.data.toList.length := by simpa using hlt
      by_cases hm : k = 0 ∧ s[k].toNat = 45
      · obtain ⟨rfl, hm⟩ := hm
        have HS := Lib.hid (PieceInv.skip HI.out hll (by rw [hg]; exact hm))
        have hnx := fun ty => run_next_ascii (P := Try.prog) w s 0 ty hlt (by omega)
        have hm' : ((s[0].toNat : Int) == 45) = true := by rw [hm]; rfl
        clear hm hg
        go_wp2
        go_roundw
        case rel => exact ⟨1, D, E, rfl, by omega, rfl, rfl, by omega, HS.out⟩
        case measure => simp; omega
      · by_cases hd : 48 ≤ s[k].toNat ∧ s[k].toNat ≤ 57
        · obtain ⟨hd1, hd2⟩ := hd
          have HS := Lib.hid (PieceInv.more HI.out hll (by rw [hg]; exact hd1) (by rw [hg]; exact hd2))
          have hnx := fun ty => run_next_ascii (P := Try.prog) w s k ty hlt (by omega)
          generalize s[k].toNat = b at *
          have hm' : ((b : Int) == 45) = false := by simp; omega
          clear hm hg
          by_cases hk0 : k = 0
          · subst hk0
            go_wp2
            go_roundw
            case rel => exact ⟨1, D + 1, 1, rfl, by omega, by go_num, rfl, by omega, HS.out⟩
            case measure => simp; omega
          · have hk0' : ((k : Int) == 0) = false := by simp; omega
            go_wp2
            go_roundw
            case rel => exact ⟨k + 1, D + 1, k + 1, rfl, by omega, by go_num, by go_num, by omega, HS.out⟩
            case measure => simp; omega
        · have HS := Lib.hid (PieceInv.stop HI.out (fun h => by rw [hg]; exact ⟨hd, hm⟩))
          obtain ⟨r, p, hnx, hr⟩ : ∃ (r : Int) (p : Nat), (∀ ty, (Instr.next (.pointer (some ⟨w.heap.size, 0, none⟩)) true ty).run Try.prog (w.iter s k) = .ok (.tuple #[.bool true, .int .i64 k, .int .i32 r]) (w.iter s p)) ∧ (r < 48 ∨ 57 < r) ∧ ¬ (k = 0 ∧ r = 45) := by
            by_cases ha : s[k].toNat < 128
            · exact ⟨_, _, fun ty => run_next_ascii (P := Try.prog) w s k ty hlt ha, by omega, by omega⟩
            · have := decode_high s k hlt (by omega)
              exact ⟨_, _, fun ty => run_next_any (P := Try.prog) w s k ty hlt, by omega, by omega⟩
          obtain ⟨hr, hr2⟩ := hr
          clear hg hd hm
          have key : (k = 0 ∧ (r == 45) = false) ∨ ((k : Int) == 0) = false := by
            by_cases hk0 : k = 0
            · exact .inl ⟨hk0, by simp; omega⟩
            · exact .inr (by simp; omega)
          by_cases hD0 : D = 0
          · subst hD0
            rcases key with ⟨rfl, hr45⟩ | hk0
            all_goals
              rcases hr with hr | hr
              all_goals
                go_wp2
                go_ret
                exact ⟨ret_i64 (by rw [HS.out]; rfl), hiter _⟩
          · have hD0' : ((D : Int) == 0) = false := by simp; omega
            rcases key with ⟨rfl, hr45⟩ | hk0
            · exact absurd hD (by omega)
            rcases hr with hr | hr
            all_goals
              go_wp2
              go_ret
              exact ⟨ret_i64 (by rw [HS.out, if_neg hD0]), hiter _⟩
    · have HS := Lib.hid (PieceInv.stop HI.out (fun h => absurd h (by simp; omega)))
      have hnx := fun ty => run_next_end (P := Try.prog) w s k ty hlt
      by_cases hD0 : D = 0
      · subst hD0
        go_wp2
        go_ret
        exact ⟨ret_i64 (by rw [HS.out]; rfl), hiter _⟩
      · have hD0' : ((D : Int) == 0) = false := by simp; omega
        go_wp2
        go_ret
        exact ⟨ret_i64 (by rw [HS.out, if_neg hD0]), hiter _⟩
end Go.Proofs.Ythnpfpgedlmpoaa
