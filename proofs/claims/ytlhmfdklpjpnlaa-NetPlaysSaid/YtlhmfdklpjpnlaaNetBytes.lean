/- Rows of bytes, written while a net stays as it was. -/
import Derived.Test.YtlhmfdklpjpnlaaNetParcels
import Derived.Test.YtlhmfdklpjpnlaaNetRows
import Derived.Laws.BitsAllLaws
import Derived.Laws.IdiomStrings
import Derived.RegionTactic
import Derived.BigRegion
import Derived.ChangeAlike
import Derived.Deep.QuietTactic
import Derived.BigQuiet
import Derived.Outline
namespace Go.Proofs.Ytlhmfdklpjpnlaa
open Go.RowKit
set_option linter.unusedVariables false

theorem netPlaces_nil (w : World) : Calls Try.prog 12 #[.pointer none] w fun e w' => e = .returned (.slice none 0 0) ∧ w = w' := by
  go_enter Try.func12, Try.ntmps12
  go_wp2_with fail
  go_ret
  exact ⟨rfl, rfl⟩

theorem reads_u8s {w : World} {a0 : Option Addr} {l c : Nat} (h : Reads Try.prog w 40 [.slice a0 l c]) : ∃ bs : List UInt8, bs.length = l ∧ RowN 1 w (.slice a0 l c) l (u8s bs) ∧ l ≤ 9223372036854775807 := by
  rcases h.row1 Try.underlying40 (by kernel_rfl) with ⟨rfl, rfl, rfl⟩ | ⟨rfl, a, rfl⟩ | ⟨h0, hl, hm, b, off, rfl, hb, hc⟩
  · exact ⟨[], rfl, ⟨rfl, .inl ⟨rfl, _, _, rfl, fun _ => rfl⟩⟩, by omega⟩
  · exact ⟨[], rfl, ⟨rfl, .inl ⟨rfl, _, _, rfl, fun h => by cases h⟩⟩, by omega⟩
  · obtain ⟨bs, h1, h2⟩ := choose_list (Q := fun i (z : UInt8) => w.cell? ⟨b, off + i, none⟩ = some (.int .u8 (z.toNat : Int))) l (fun i hi => by
      obtain ⟨x, hx, hr⟩ := hc i hi
      obtain ⟨z, hz, hw⟩ := hr.int Try.underlying5
      obtain rfl : x = .int .u8 z := by injection hz
      have hw' : 0 ≤ z ∧ z ≤ 255 := by simpa [Lit.wf, IntKind.min, IntKind.max, IntKind.signed, IntKind.bits] using hw
      refine ⟨UInt8.ofNat z.toNat, ?_⟩
      rw [hx, UInt8.toNat_ofNat']
      congr 2
      omega)
    refine ⟨bs, h1, ⟨by rw [u8s_len, h1]; omega, .inr ⟨b, off, c, rfl, h0, hb, fun j u hj => ?_⟩⟩, by unfold maxLen at hm; omega⟩
    unfold u8s at hj
    rw [List.getElem?_map] at hj
    cases hb : bs[j]? with
    | none => rw [hb] at hj; cases hj
    | some z =>
      rw [hb] at hj
      injection hj with hj
      subst hj
      obtain ⟨hlt, rfl⟩ := List.getElem?_eq_some_iff.1 hb
      exact h2 j hlt

theorem NetAt.lower {w : World} {base base' g : Nat} {ps : List (Int × Int)} {pa : Value} {cut : Bool} {x y off : Int} (hn : NetAt w base g ps pa cut x y off) (hb : base' ≤ base) : NetAt w base' g ps pa cut x y off := by
  obtain ⟨h1, ⟨v, h2, h3⟩, h4⟩ := hn
  exact ⟨Nat.le_trans hb h1, ⟨v, h2, own_mono h3 hb⟩, h4⟩
/-- A net is as it was while a row of bytes is written. -/
theorem NetAt.bytes {w w' : World} {base g h : Nat} {ps : List (Int × Int)} {pa : Value} {cut : Bool} {x y off : Int} {cur : Array Value} (hn : NetAt w base g ps pa cut x y off) (hs : Spares (· = h) w w') (hh : w.heap[h]? = some (.cells cur 5 (0, 0))) : NetAt w' base g ps pa cut x y off := by
  obtain ⟨h1, ⟨v, h2, h3⟩, h4⟩ := hn
  refine ⟨h1, ⟨v, (hs.block g (block_lt h2) (ne_type h2 hh (by decide))).trans h2, own_spares h3 hs fun k hk e => ?_⟩, h4⟩
  obtain ⟨_, cur', hc⟩ := own_block h3 hk
  exact ne_type hc hh (by decide) e
theorem PRow.bytes {w w' : World} {base h : Nat} {pa : Value} {L : List Par} {cur : Array Value} (hp : PRow w base pa L) (hs : Spares (· = h) w w') (hh : w.heap[h]? = some (.cells cur 5 (0, 0))) (hne : ∀ p ∈ L, ∀ k, p.2.2.1.ownBlock = some k → k ≠ h) : PRow w' base pa L := by
  refine ⟨own_spares hp.1 hs fun k hk e => ?_, fun p hm => ⟨own_spares (hp.2.1 p hm).1 hs (hne p hm), (hp.2.1 p hm).2⟩, hp.2.2⟩
  obtain ⟨_, cur', hc⟩ := own_block hp.1 hk
  exact ne_type hc hh (by decide) e

/-- A row of bytes, read and written. -/
theorem bytes_at {w : World} {base n : Nat} {v : Value} {l : List UInt8} (h : w.ownsRow base 5 1 v n (u8s l)) {k : Nat} (hk : k < n) :
    ∃ b cap z, v = .slice (some ⟨b, 0, none⟩) n cap ∧ base ≤ b ∧ b < w.heap.size ∧ l[k]? = some z ∧ w.cell? ⟨b, k, none⟩ = some (.int .u8 (z.toNat : Int)) ∧ w.frozen? ⟨b, k, none⟩ = false ∧ ∃ cur, w.heap[b]? = some (.cells cur 5 (0, 0)) := by
  have hl : l.length = n := by have := h.1; rw [u8s_len] at this; omega
  obtain ⟨g, cap, e, hbg, hlt⟩ := h.form (by omega)
  subst e
  obtain ⟨_, cur, hc0⟩ := own_block h rfl
  obtain ⟨_, h2 | ⟨b, off, cap', e, _, _, hc⟩⟩ := RowN.of_own h
  · omega
  · injection e with e _ _; injection e with e; injection e with e1 e2 _
    subst e1 e2
    obtain ⟨z, hz⟩ : ∃ z, l[k]? = some z := ⟨_, List.getElem?_eq_getElem (by omega)⟩
    have := hc k (.int .u8 (z.toNat : Int)) (by unfold u8s; rw [List.getElem?_map, hz]; rfl)
    rw [Nat.zero_add] at this
    exact ⟨g, cap, z, rfl, hbg, hlt, hz, this, free_block hc0, cur, hc0⟩
theorem bytes_set {w : World} {base n b cap : Nat} {l : List UInt8} (h : w.ownsRow base 5 1 (.slice (some ⟨b, 0, none⟩) n cap) n (u8s l)) (k : Nat) (z : UInt8) :
    (w.setCell ⟨b, k, none⟩ (.int .u8 (z.toNat : Int))).ownsRow base 5 1 (.slice (some ⟨b, 0, none⟩) n cap) n (u8s (l.set k z)) := by
  have := (h.stored k (.int .u8 (z.toNat : Int))).1
  unfold u8s at *
  rw [List.map_set]; exact this
theorem xor_u8 (z : UInt8) (m : Nat) (hm : m < 256) : ∃ y : UInt8, bits .xor .u8 (z.toNat : Int) (m : Int) = (y.toNat : Int) := by
  have h := z.toNat_lt
  have hx : z.toNat ^^^ m < 256 := Nat.xor_lt_two_pow (n := 8) h hm
  refine ⟨UInt8.ofNat (z.toNat ^^^ m), ?_⟩
  rw [u8_xor_nat _ _ h hm, UInt8.toNat_ofNat', Nat.mod_eq_of_lt hx]

/-- What is known of the memory while bytes of one row are written: the row, and all else as it was. -/
def BRun (w0 : World) (base n : Nat) (v : Value) (wr : World) : Prop := (∃ l, wr.ownsRow base 5 1 v n (u8s l)) ∧ Spares (fun k => v.ownBlock = some k) w0 wr
theorem BRun.set {w0 wr : World} {base n b cap k : Nat} {z : UInt8} (h : BRun w0 base n (.slice (some ⟨b, 0, none⟩) n cap) wr) : BRun w0 base n (.slice (some ⟨b, 0, none⟩) n cap) (wr.setCell ⟨b, k, none⟩ (.int .u8 (z.toNat : Int))) := by
  obtain ⟨⟨l, h1⟩, h2⟩ := h
  exact ⟨⟨_, bytes_set h1 k z⟩, h2.setAt rfl⟩
theorem BRun.drew {w0 wr : World} {base n : Nat} {v : Value} (h : BRun w0 base n v wr) : BRun w0 base n v wr.drew := by
  obtain ⟨⟨l, h1⟩, h2⟩ := h
  exact ⟨⟨_, h1.drew⟩, h2.drew⟩
theorem BRun.net {w0 wr : World} {base base' n g : Nat} {v : Value} {ps : List (Int × Int)} {pa : Value} {cut : Bool} {x y off : Int} {l : List UInt8} (h : BRun w0 base' n v wr) (hr : w0.ownsRow base' 5 1 v n (u8s l)) (hn : NetAt w0 base g ps pa cut x y off) : NetAt wr base g ps pa cut x y off := by
  obtain ⟨h1, ⟨u, h2, h3⟩, h4⟩ := hn
  have key : ∀ {k : Nat} {cur : Array Value} {t : TypeId}, w0.heap[k]? = some (.cells cur t (0, 0)) → t ≠ 5 → ¬ v.ownBlock = some k := by
    intro k cur t hk ht e
    obtain ⟨_, c2, hc⟩ := own_block hr e
    exact ne_type hk hc ht rfl
  refine ⟨h1, ⟨u, (h.2.block g (block_lt h2) (key h2 (by decide))).trans h2, own_spares h3 h.2 fun k hk => ?_⟩, h4⟩
  obtain ⟨_, c2, hc⟩ := own_block h3 hk
  exact key hc (by decide)
theorem BRun.par {w0 wr : World} {base base' n : Nat} {v : Value} {pa : Value} {L : List Par} {l : List UInt8} (h : BRun w0 base' n v wr) (hr : w0.ownsRow base' 5 1 v n (u8s l)) (hp : PRow w0 base pa L) (hne : ∀ p ∈ L, ∀ k, p.2.2.1.ownBlock = some k → ¬ v.ownBlock = some k) : PRow wr base pa L := by
  refine ⟨own_spares hp.1 h.2 fun k hk e => ?_, fun p hm => ⟨own_spares (hp.2.1 p hm).1 h.2 (hne p hm), (hp.2.1 p hm).2⟩, hp.2.2⟩
  obtain ⟨_, c2, hc⟩ := own_block hp.1 hk
  obtain ⟨_, c3, hc'⟩ := own_block hr e
  exact ne_type hc hc' (by decide) rfl
theorem BRun.below {w0 wr : World} {base n : Nat} {v : Value} {l : List UInt8} (h : BRun w0 base n v wr) (hr : w0.ownsRow base 5 1 v n (u8s l)) (hb : base ≤ w0.heap.size) : Below base w0 wr :=
  h.2.below hb fun k hk => (own_block hr hk).1

/-- A row of bytes is as it was behind a net's own doings. -/
theorem bytes_spared {w w' : World} {base base' g n : Nat} {ps : List (Int × Int)} {pa v : Value} {cut : Bool} {x y off : Int} {L : List Par} {xs : List Value} (ho : w.ownsRow base' 5 1 v n xs) (hn : NetAt w base g ps pa cut x y off) (hp : PRow w base pa L) (hs : Spares (netS g pa) w w') : w'.ownsRow base' 5 1 v n xs := by
  refine own_spares ho hs fun k hk => ?_
  obtain ⟨_, cur, hc⟩ := own_block ho hk
  rintro (rfl | e)
  · obtain ⟨cs, hg⟩ := hn.blk
    exact ne_type hc hg (by decide) rfl
  · obtain ⟨_, c2, hc2⟩ := own_block hp.1 e
    exact ne_type hc hc2 (by decide) rfl
/-- What lies below the net's base is as it was behind its own doings. -/
theorem below_spared {w w' : World} {base g : Nat} {ps : List (Int × Int)} {pa : Value} {cut : Bool} {x y off : Int} {L : List Par} (hn : NetAt w base g ps pa cut x y off) (hp : PRow w base pa L) (hs : Spares (netS g pa) w w') (hb : base ≤ w.heap.size) : Below base w w' := by
  refine hs.below hb ?_
  rintro k (rfl | e)
  · exact hn.1
  · exact (own_block hp.1 e).1
theorem conv_u8s {w : World} {v : Value} {l : List UInt8} (h : RowN 1 w v l.length (u8s l)) : (convert 40 9 v).run Try.prog w = .ok (.string ⟨l.toArray⟩) w := by
  obtain ⟨hl, h⟩ := h
  rcases h with ⟨h0, a, cap, rfl, hn⟩ | ⟨b, off, cap, rfl, h0, hb, hc⟩
  · obtain rfl : l = [] := List.length_eq_zero_iff.1 h0
    cases a with
    | none =>
      obtain rfl := hn rfl
      rw [run_convert_bytes_string w 40 9 5 none 0 0 Try.underlying40 Try.underlying5 Try.underlying9]
      rfl
    | some a => exact run_convert_bytes_back w 40 9 5 a cap [] Try.underlying40 Try.underlying5 Try.underlying9 fun j hj => absurd hj (by simp)
  · refine run_convert_bytes_back w 40 9 5 _ cap l Try.underlying40 Try.underlying5 Try.underlying9 fun j hj => ?_
    rw [add_spot]
    exact hc j _ (by unfold u8s; rw [List.getElem?_map, List.getElem?_eq_getElem hj]; rfl)
end Go.Proofs.Ytlhmfdklpjpnlaa
