/- The walks of net.there and net.Post. -/
import Derived.Test.YtlhmfdklpjpnlaaNetOwn
import Derived.Deep.RegionLaw
namespace Go.Proofs.Ytlhmfdklpjpnlaa
open Go.RowKit
set_option linter.unusedVariables false

/-- A parcel: from, to, its bytes' slice, its bytes. -/
abbrev Par := Int × Int × Value × List UInt8
def parC (p : Par) : List Value := [.int .i64 p.1, .int .i64 p.2.1, p.2.2.1]
/-- Parcels in memory. -/
def PRow (w : World) (base : Nat) (pa : Value) (L : List Par) : Prop :=
  w.ownsRow base 45 3 pa L.length (L.flatMap parC) ∧ (∀ p ∈ L, w.ownsRow base 5 1 p.2.2.1 p.2.2.2.length (u8s p.2.2.2) ∧ p.2.2.2.length ≤ 61000) ∧ L.length ≤ 60
theorem parC_len (L : List Par) : (L.flatMap parC).length = L.length * 3 := by
  induction L with
  | nil => rfl
  | cons p L ih => rw [List.flatMap_cons, List.length_append, ih]; simp [parC]; omega

theorem PRow.later {w w' : World} {base : Nat} {pa : Value} {L : List Par} (h : PRow w base pa L) (hb : Below w.heap.size w w') : PRow w' base pa L :=
  ⟨own_later h.1 hb, fun p hp => ⟨own_later (h.2.1 p hp).1 hb, (h.2.1 p hp).2⟩, h.2.2⟩
theorem PRow.spares {S : Nat → Prop} {w w' : World} {base : Nat} {pa : Value} {L : List Par} (h : PRow w base pa L) (hb : Spares S w w') (h1 : ∀ g, pa.ownBlock = some g → ¬ S g) (h2 : ∀ k cur, S k → w.heap[k]? ≠ some (.cells cur 5 (0, 0))) : PRow w' base pa L :=
  ⟨own_spares h.1 hb h1, fun p hp => ⟨own_spares (h.2.1 p hp).1 hb fun g hg hs => by
    obtain ⟨_, cur, hc⟩ := own_block (h.2.1 p hp).1 hg
    exact h2 g cur hs hc, (h.2.1 p hp).2⟩, h.2.2⟩

theorem there_nil (i : Int) (w : World) : Calls Try.prog 32 #[.pointer none, .int .i64 i] w fun e w' => e = .returned (.int .i64 1) ∧ w = w' := by
  go_enter Try.func32, Try.ntmps32
  go_wp2_with fail
  go_ret
  exact ⟨rfl, rfl⟩
theorem there_no {w : World} {base g n : Nat} {ps : List (Int × Int)} {pa : Value} {cut : Bool} {x y off : Int} (hn : NetAt w base g ps pa cut x y off) (hp : ∃ a cap, pa = .slice a n cap) (hl : n ≤ 60) (i : Int) (h : i < 0 ∨ (n : Int) ≤ i) :
    Calls Try.prog 32 #[.pointer (some ⟨g, 0, none⟩), .int .i64 i] w fun e w' => e = .returned (.int .i64 6) ∧ w = w' := by
  obtain ⟨h1, ⟨v, h2, h3⟩, h4⟩ := hn
  obtain ⟨a, cap, rfl⟩ := hp
  have c1 : w.cell? ⟨g, 1, none⟩ = some (.slice a n cap) := by rw [cell_block h2]; rfl
  clear h2 h3 h4
  by_cases h0 : i < 0
  · go_enter Try.func32, Try.ntmps32
    go_wp2_with fail
    go_ret
    exact ⟨rfl, rfl⟩
  · have h' : (n : Int) ≤ i := by omega
    clear h
    go_enter Try.func32, Try.ntmps32
    go_wp2_with fail
    go_ret
    exact ⟨rfl, rfl⟩
theorem there_yes {w : World} {base g n : Nat} {ps : List (Int × Int)} {pa : Value} {cut : Bool} {x y off : Int} (hn : NetAt w base g ps pa cut x y off) (hp : ∃ a cap, pa = .slice a n cap) (hl : n ≤ 60) (i : Nat) (h : i < n) :
    Calls Try.prog 32 #[.pointer (some ⟨g, 0, none⟩), .int .i64 (i : Int)] w fun e w' => e = .returned (.int .i64 0) ∧ w = w' := by
  obtain ⟨h1, ⟨v, h2, h3⟩, h4⟩ := hn
  obtain ⟨a, cap, rfl⟩ := hp
  have c1 : w.cell? ⟨g, 1, none⟩ = some (.slice a n cap) := by rw [cell_block h2]; rfl
  clear h2 h3 h4
  have h0 : ¬ (i : Int) < 0 := by omega
  have h' : ¬ (n : Int) ≤ i := by omega
  go_enter Try.func32, Try.ntmps32
  go_wp2_with fail
  go_ret
  exact ⟨rfl, rfl⟩

/-- What may be posted. -/
def postCode (ps : List (Int × Int)) (n len : Nat) (f t : Int) : Int :=
  if repB ps f = false ∨ repB ps t = false ∨ f = t then 2 else if 60008 < len then 14 else if 60 ≤ n then 9 else 0

theorem post_nil (f t : Int) (v : Value) (w : World) : Calls Try.prog 14 #[.pointer none, .int .i64 f, .int .i64 t, v] w fun e w' => e = .returned (.int .i64 1) ∧ w = w' := by
  go_enter Try.func14, Try.ntmps14
  go_wp2_with fail
  go_ret
  exact ⟨rfl, rfl⟩

set_option maxHeartbeats 2000000 in
theorem post_no {w : World} {base g : Nat} {ps : List (Int × Int)} {pa : Value} {cut : Bool} {x y off : Int} {L : List Par} {v : Value} {bs : List UInt8} (hn : NetAt w base g ps pa cut x y off) (hp : PRow w base pa L) (hv : RowN 1 w v bs.length (u8s bs)) (hbl : bs.length ≤ 9223372036854775807) (f t : Int) {c : Int} (h : postCode ps L.length bs.length f t = c) (hc : c ≠ 0) :
    Calls Try.prog 14 #[.pointer (some ⟨g, 0, none⟩), .int .i64 f, .int .i64 t, v] w fun e w' => e = .returned (.int .i64 c) ∧ w = w' := by
  obtain ⟨a, cap, rfl⟩ := hv.len
  obtain ⟨a', cap', rfl⟩ := (RowN.of_own hp.1).len
  have R1 := Lib.hid (replica_any hn f)
  have R2 := Lib.hid (replica_any hn t)
  obtain ⟨h1, ⟨u, h2, h3⟩, h4⟩ := hn
  have c1 : w.cell? ⟨g, 1, none⟩ = some (.slice a' L.length cap') := by rw [cell_block h2]; rfl
  have hl := hp.2.2
  clear h2 h3 h4 hp hv
  unfold postCode at h
  cases r1 : repB ps f with
  | false =>
    rw [r1] at R1 h
    rw [if_pos (.inl rfl)] at h
    subst h
    clear r1
    go_enter Try.func14, Try.ntmps14
    go_wp2_with fail
    refine R1.out.mono ?_
    rintro e w1 ⟨rfl, rfl⟩
    go_wp2_with fail
    go_ret
    exact ⟨rfl, rfl⟩
  | true =>
    rw [r1] at R1 h
    clear r1
    cases r2 : repB ps t with
    | false =>
      rw [r2] at R2 h
      rw [if_pos (.inr (.inl rfl))] at h
      subst h
      clear r2
      go_enter Try.func14, Try.ntmps14
      go_wp2_with fail
      refine R1.out.mono ?_
      rintro e w1 ⟨rfl, rfl⟩
      go_wp2_with fail
      refine R2.out.mono ?_
      rintro e w1 ⟨rfl, rfl⟩
      go_wp2_with fail
      go_ret
      exact ⟨rfl, rfl⟩
    | true =>
      rw [r2] at R2 h
      clear r2
      have key : (f == t) = true ∧ c = 2 ∨ (f == t) = false ∧ (60008 : Int) < bs.length ∧ c = 14 ∨ (f == t) = false ∧ ¬ (60008 : Int) < bs.length ∧ (60 : Int) ≤ L.length ∧ c = 9 := by
        by_cases e : f = t
        · rw [if_pos (.inr (.inr e))] at h; exact .inl ⟨beq_iff_eq.2 e, h.symm⟩
        · rw [if_neg (by simp [e])] at h
          right
          have e' : (f == t) = false := beq_eq_false_iff_ne.2 e
          by_cases e2 : 60008 < bs.length
          · rw [if_pos e2] at h; exact .inl ⟨e', by omega, h.symm⟩
          · rw [if_neg e2] at h
            by_cases e3 : 60 ≤ L.length
            · rw [if_pos e3] at h; exact .inr ⟨e', by omega, by omega, h.symm⟩
            · rw [if_neg e3] at h; exact absurd h.symm hc
      clear h hc
      rcases key with ⟨k1, rfl⟩ | ⟨k1, k2, rfl⟩ | ⟨k1, k2, k3, rfl⟩
      all_goals
        go_enter Try.func14, Try.ntmps14
        go_wp2_with fail
        refine R1.out.mono ?_
        rintro e w1 ⟨rfl, rfl⟩
        go_wp2_with fail
        refine R2.out.mono ?_
        rintro e w1 ⟨rfl, rfl⟩
        go_wp2_with fail
        go_ret
        exact ⟨rfl, rfl⟩
end Go.Proofs.Ytlhmfdklpjpnlaa
