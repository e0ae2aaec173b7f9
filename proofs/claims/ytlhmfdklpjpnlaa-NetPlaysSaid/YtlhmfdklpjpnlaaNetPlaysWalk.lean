/- The walk of the law NetPlays: the other ways, and all of them together. -/
import Derived.Test.YtlhmfdklpjpnlaaNetPlaysGo
namespace Go.Proofs.Ytlhmfdklpjpnlaa
open Go.RowKit Punnet.Flt
set_option linter.unusedVariables false

set_option maxRecDepth 100000 in
set_option maxHeartbeats 4000000 in
theorem plays_long {a0 a1 a2 : Option Addr} {n0 n1 n2 c0 c1 c2 : Nat} {a b : Int} {w : World} (h : 200 < n2 ∨ 100 < n0 ∨ 100 < n1) (h0 : n0 ≤ 9223372036854775807) (h1 : n1 ≤ 9223372036854775807) (h2 : n2 ≤ 9223372036854775807) :
    Calls Try.prog 5 #[.slice a0 n0 c0, .slice a1 n1 c1, .slice a2 n2 c2, .int .i64 a, .int .i64 b] w fun e w' => e = .returned (.bool true) ∧ Below w.heap.size w w' := by
  have key : ∀ b2 b0 b1 : Bool, decide ((200 : Int) < n2) = b2 → decide ((100 : Int) < n0) = b0 → decide ((100 : Int) < n1) = b1 → (b2 || b0 || b1) = true → Calls Try.prog 5 #[.slice a0 n0 c0, .slice a1 n1 c1, .slice a2 n2 c2, .int .i64 a, .int .i64 b] w fun e w' => e = .returned (.bool true) ∧ Below w.heap.size w w' := by
    intro b2 b0 b1 e2 e0 e1 hor
    go_enter Try.func5, Try.ntmps5
    go_wp2_with fail
    refine (netAwake_any _).mono ?_
    rintro e w1 ⟨rfl, hb1⟩
    cases b2 <;> cases b0 <;> cases b1 <;> first | (cases hor) | skip
    all_goals
      go_wp2_with fail
      go_ret
      exact ⟨rfl, hb1⟩
  refine key _ _ _ rfl rfl rfl ?_
  rcases h with h | h | h
  · rw [decide_eq_true (show (200 : Int) < n2 by omega)]; rfl
  · rw [decide_eq_true (show (100 : Int) < n0 by omega)]; simp
  · rw [decide_eq_true (show (100 : Int) < n1 by omega)]; simp

set_option maxRecDepth 100000 in
set_option maxHeartbeats 4000000 in
theorem plays_no {a0 a1 a2 : Option Addr} {c0 c1 n2 c2 : Nat} {rs is : List Int} {a b : Int} {w : World} (r0 : RowAt w (.slice a0 rs.length c0) (i64s rs)) (r1 : RowAt w (.slice a1 is.length c1) (i64s is)) (hl0 : rs.length ≤ 100) (hl1 : is.length ≤ 100) (hn : n2 ≤ 200) (hnew : newB rs is = false) :
    Calls Try.prog 5 #[.slice a0 rs.length c0, .slice a1 is.length c1, .slice a2 n2 c2, .int .i64 a, .int .i64 b] w fun e w' => e = .returned (.bool true) ∧ Below w.heap.size w w' := by
  have HN := Lib.hid hnew
  have t200 : ¬ (200 : Int) < n2 := by omega
  have t100 : ¬ (100 : Int) < rs.length := by omega
  have t101 : ¬ (100 : Int) < is.length := by omega
  have l0 : rs.length ≤ 9223372036854775807 := by omega
  have l1 : is.length ≤ 9223372036854775807 := by omega
  clear hnew
  go_enter Try.func5, Try.ntmps5
  go_wp2_with fail
  refine (netAwake_any _).mono ?_
  rintro e w1 ⟨rfl, hb1⟩
  go_wp2_with fail
  refine (new_any (r0.later hb1) (r1.later hb1) l0 l1).mono ?_
  rintro e w2 ⟨hb2, ⟨_, rfl⟩ | ⟨hx, _⟩⟩
  case inr => rw [HN.out] at hx; cases hx
  have B2 := below_two hb1 hb2
  clear hb1 hb2
  go_wp2_with fail
  refine (refNew_any (r0.later B2) (r1.later B2) l0 l1).mono ?_
  rintro e w3 ⟨hb3, ⟨_, rfl⟩ | ⟨hx, _⟩⟩
  case inr => rw [HN.out] at hx; cases hx
  have B3 := below_two B2 hb3
  clear B2 hb3
  go_wp2_with fail
  go_ret
  exact ⟨rfl, B3⟩

theorem netPlays_walk (a0 : Option Addr) (l0 c0 : Nat) (a1 : Option Addr) (l1 c1 : Nat) (a2 : Option Addr) (l2 c2 : Nat) (a3 : Int) (a4 : Int) (w : World) (r0 : Reads Try.prog w 22 [.slice a0 l0 c0]) (r1 : Reads Try.prog w 22 [.slice a1 l1 c1]) (r2 : Reads Try.prog w 32 [.slice a2 l2 c2]) (w3 : (Lit.int .i64 a3).wf = true) (w4 : (Lit.int .i64 a4).wf = true) :
    Calls Try.prog 5 #[.slice a0 l0 c0, .slice a1 l1 c1, .slice a2 l2 c2, .int .i64 a3, .int .i64 a4] w fun e w' => e = .returned (.bool true) ∧ Below w.heap.size w w' := by
  obtain ⟨rs, rfl, h1, z1, _⟩ := reads_i64s r0
  obtain ⟨is, rfl, h2, z2, _⟩ := reads_i64s r1
  have h3 := reads_acts r2
  by_cases hs : 200 < l2 ∨ 100 < rs.length ∨ 100 < is.length
  · exact plays_long hs z1 z2 (by rcases h3 with h3 | h3 <;> omega)
  simp only [not_or, Nat.not_lt] at hs
  obtain ⟨s2, s0, s1⟩ := hs
  cases hn : newB rs is with
  | false => exact plays_no h1 h2 s0 s1 s2 hn
  | true =>
    have R0 := h1
    have R1 := h2
    obtain ⟨hl, h4, h5⟩ := of_decide_eq_true (Bool.and_eq_true .. ▸ hn).1
    rcases h1 with ⟨h1, _⟩ | ⟨b1, o1, k1, h6, _, p1, q1⟩
    · have := congrArg List.length h1; rw [i64s_len, List.length_nil] at this; omega
    rcases h2 with ⟨h2, _⟩ | ⟨b2, o2, k2, h7, _, p2, q2⟩
    · have := congrArg List.length h2; rw [i64s_len, List.length_nil] at this; omega
    injection h6 with h6 _ h8
    injection h7 with h7 _ h9
    subst h6 h7
    refine plays_go R0 R1 p1 p2 (fun j hj => ?_) (fun j hj => ?_) s0 s1 s2 hn ?_
    · rw [q1 j (by rw [i64s_len]; exact hj), i64s_get]
    · rw [q2 j (by rw [i64s_len]; exact hj), i64s_get]
    · rcases h3 with h3 | ⟨_, h3⟩
      · exact .inl h3
      · exact .inr h3
end Go.Proofs.Ytlhmfdklpjpnlaa
