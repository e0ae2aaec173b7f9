/- The walk of net.Post where the parcel is sent on its way. -/
import Derived.Test.YtlhmfdklpjpnlaaNetPost
namespace Go.Proofs.Ytlhmfdklpjpnlaa
open Go.RowKit
set_option linter.unusedVariables false

/-- The net's own block, and that of its parcels. -/
def netS (g : Nat) (pa : Value) : Nat → Prop := fun k => k = g ∨ pa.ownBlock = some k

theorem ne_type {w : World} {g k : Nat} {c d : Array Value} {t u : TypeId} (h : w.heap[g]? = some (.cells c t (0, 0))) (h' : w.heap[k]? = some (.cells d u (0, 0))) (hne : t ≠ u) : g ≠ k := by
  intro e; rw [e, h'] at h; injection h with h; injection h with _ h _; exact hne h.symm

/-- One more parcel on its way. -/
def Sent (w : World) (base g : Nat) (ps : List (Int × Int)) (pa : Value) (cut : Bool) (x y off : Int) (L : List Par) (f t : Int) (bs : List UInt8) (e : Ending) (w' : World) : Prop :=
  e = .returned (.int .i64 0) ∧ ∃ pa' bv, NetAt w' base g ps pa' cut x y off ∧ PRow w' base pa' (L ++ [(f, t, bv, bs)]) ∧ Spares (netS g pa) w w' ∧ (pa'.ownBlock = pa.ownBlock ∨ ∃ k, pa'.ownBlock = some k ∧ w.heap.size ≤ k) ∧ ∀ k, bv.ownBlock = some k → w.heap.size ≤ k

theorem sent_close {w ws W w4 : World} {base g gg cap H : Nat} {ps : List (Int × Int)} {pa bv : Value} {cut : Bool} {x y off : Int} {L : List Par} {f t : Int} {bs : List UInt8}
    (hn : NetAt w base g ps pa cut x y off) (hp : PRow w base pa L) (hbase : base ≤ w.heap.size) (hL : L.length < 60) (hb : Below w.heap.size w ws) (ho : ws.ownsRow w.heap.size 5 1 bv bs.length (u8s bs)) (hbs : bs.length ≤ 61000)
    (hW : Below ws.heap.size ws W) (hg : W.grownBy w4 pa.ownBlock) (h4 : w4.ownsRow base 45 3 (.slice (some ⟨gg, 0, none⟩) (L.length + 1) cap) (L.length + 1) (L.flatMap parC ++ [.int .i64 f, .int .i64 t, bv])) (hat : pa.ownBlock = some gg ∨ gg = H) (hH : W.heap.size = H) :
    Sent w base g ps pa cut x y off L f t bs (.returned (.int .i64 0)) (w4.setCell ⟨g, 1, none⟩ (.slice (some ⟨gg, 0, none⟩) (L.length + 1) cap)) := by
  obtain ⟨n1, ⟨v, n2, n3⟩, n4⟩ := hn
  have hgt : W.grownBy w4 pa.ownBlock := hg
  have sp1 : Spares (netS g pa) W w4 := ⟨hg.os, hg.tape, hg.output, hg.size, fun k hk hs => hg.block k hk fun e => hs (.inr e.symm)⟩
  have hs1 : Spares (netS g pa) ws (w4.setCell ⟨g, 1, none⟩ (.slice (some ⟨gg, 0, none⟩) (L.length + 1) cap)) := ((hW.spares _).trans sp1).setAt (.inl rfl)
  have hs0 := (hb.spares (netS g pa)).trans hs1
  have ext : ∀ {k : Nat} {o : Obj}, w.heap[k]? = some o → W.heap[k]? = some o := by
    intro k o h
    have hk := block_lt h
    rw [hW.block k (Nat.lt_of_lt_of_le hk hb.size), hb.block k hk]; exact h
  have paG : pa.ownBlock ≠ some g := by
    intro e
    obtain ⟨_, cur, hc⟩ := own_block hp.1 e
    exact ne_type n2 hc (by decide) rfl
  have g4 : w4.heap[g]? = some (.cells #[v, pa, .bool cut, .complex .f64 (fl x) (fl y), .int .i64 off] 57 (0, 0)) := by
    rw [hg.block g (block_lt (ext n2)) (fun e => paG e.symm)]; exact ext n2
  have notS : ∀ {k : Nat} {cur : Array Value} {u : TypeId}, w.heap[k]? = some (.cells cur u (0, 0)) → u ≠ 57 → u ≠ 45 → ¬ netS g pa k := by
    rintro k cur u hk h1 h2 (rfl | e)
    · exact ne_type hk n2 h1 rfl
    · obtain ⟨_, cur', hc⟩ := own_block hp.1 e
      exact ne_type hk hc h2 rfl
  refine ⟨rfl, .slice (some ⟨gg, 0, none⟩) (L.length + 1) cap, bv, ⟨n1, ⟨v, by rw [block_setCell g4]; rfl, own_spares n3 hs0 fun k hk => ?_⟩, n4⟩, ⟨?_, ?_, by simp; omega⟩, hs0, ?_, ?_⟩
  · obtain ⟨_, cur, hc⟩ := own_block n3 hk
    exact notS hc (by decide) (by decide)
  · rw [List.length_append, List.length_singleton, List.flatMap_append]
    refine own_spares (S := (· = g)) h4 ((Spares.refl (· = g) w4).set1) fun k hk e => ?_
    obtain ⟨_, cur, hc⟩ := own_block h4 hk
    exact ne_type hc g4 (by decide) e
  · intro p hp'
    rw [List.mem_append] at hp'
    rcases hp' with hp' | hp'
    · refine ⟨own_spares (hp.2.1 p hp').1 hs0 fun k hk => ?_, (hp.2.1 p hp').2⟩
      obtain ⟨_, cur, hc⟩ := own_block (hp.2.1 p hp').1 hk
      exact notS hc (by decide) (by decide)
    · rw [List.mem_singleton] at hp'
      subst hp'
      refine ⟨own_mono (own_spares ho hs1 fun k hk => ?_) hbase, hbs⟩
      obtain ⟨hk', cur, hc⟩ := own_block ho hk
      rintro (rfl | e)
      · exact absurd (block_lt n2) (by omega)
      · obtain ⟨_, cur', hc'⟩ := own_block hp.1 e
        exact absurd (block_lt hc') (by omega)
  · rcases hat with e | e
    · exact .inl e.symm
    · exact .inr ⟨gg, rfl, by have := hW.size; have := hb.size; omega⟩
  · exact fun k hk => (own_block ho hk).1

theorem own_one {w : World} {base n size : Nat} {e : TypeId} {v : Value} {xs : List Value} (h : w.ownsRow base e size v n xs) : v.oneCell' = true := by
  rcases h.2 with ⟨rfl, _⟩ | ⟨g, cap, cur, rfl, _⟩ <;> rfl
theorem one3 {f t : Int} {bv : Value} (h : bv.oneCell' = true) : ∀ u ∈ [Value.int .i64 f, .int .i64 t, bv], u.oneCell' = true := by
  intro u hu
  simp only [List.mem_cons, List.not_mem_nil, or_false] at hu
  rcases hu with rfl | rfl | rfl
  · rfl
  · rfl
  · exact h

theorem par_info : (Try.prog.info? 45).map (fun i => (i.zero, i.size, i.bytes)) = some (some (.agg #[.int .i64 0, .int .i64 0, .slice none 0 0]), 3, 40) := by kernel_rfl

set_option maxRecDepth 100000 in
set_option maxHeartbeats 4000000 in
theorem post_yes {w : World} {base g : Nat} {ps : List (Int × Int)} {pa : Value} {cut : Bool} {x y off : Int} {L : List Par} {v : Value} {bs : List UInt8} (hn : NetAt w base g ps pa cut x y off) (hp : PRow w base pa L) (hbase : base ≤ w.heap.size) (hv : RowN 1 w v bs.length (u8s bs)) (f t : Int) (h : postCode ps L.length bs.length f t = 0) :
    Calls Try.prog 14 #[.pointer (some ⟨g, 0, none⟩), .int .i64 f, .int .i64 t, v] w (Sent w base g ps pa cut x y off L f t bs) := by
  obtain ⟨i0, hi0, hz0, hz1, hz2⟩ := info_parts par_info
  have R1 := Lib.hid (replica_any hn f)
  have R2 := Lib.hid (replica_any hn t)
  have HN := Lib.hid hn
  have HP := Lib.hid hp
  unfold postCode at h
  have key : repB ps f = true ∧ repB ps t = true ∧ (f == t) = false ∧ ¬ (60008 : Int) < bs.length ∧ ¬ (60 : Int) ≤ L.length := by
    by_cases e : repB ps f = false ∨ repB ps t = false ∨ f = t
    · rw [if_pos e] at h; exact absurd h (by decide)
    · rw [if_neg e] at h
      by_cases e2 : 60008 < bs.length
      · rw [if_pos e2] at h; exact absurd h (by decide)
      · rw [if_neg e2] at h
        by_cases e3 : 60 ≤ L.length
        · rw [if_pos e3] at h; exact absurd h (by decide)
        · simp only [not_or, Bool.not_eq_false] at e
          exact ⟨e.1, e.2.1, beq_eq_false_iff_ne.2 e.2.2, by omega, by omega⟩
  obtain ⟨k1, k2, k3, k4, k5⟩ := key
  rw [k1] at R1
  rw [k2] at R2
  obtain ⟨h1, ⟨u, h2, h3⟩, h4⟩ := hn
  have hpr := hp.1
  obtain ⟨a', cap', rfl⟩ := (RowN.of_own hpr).len
  obtain ⟨av, capv, rfl⟩ := hv.len
  have HV := Lib.hid hv
  have c1 : w.cell? ⟨g, 1, none⟩ = some (.slice a' L.length cap') := by rw [cell_block h2]; rfl
  have f1 : w.frozen? ⟨g, 1, none⟩ = false := free_block h2
  have hgl := block_lt h2
  have OW := Lib.hid (fun (W : World) (h : RowN 1 W (.slice av bs.length capv) bs.length (u8s bs)) => own_any f t h (by omega))
  have hL : L.length < 60 := by omega
  have hbl : bs.length ≤ 61000 := by omega
  have paG : (Value.slice a' L.length cap').ownBlock ≠ some g := by
    intro e
    obtain ⟨_, cur, hc⟩ := own_block hpr e
    exact ne_type h2 hc (by decide) rfl
  have H2 := Lib.hid h2
  have PG := Lib.hid paG
  clear h h2 h3 h4 hp hpr hv k1 k2 paG
  go_enter Try.func14, Try.ntmps14
  go_wp2_with fail
  refine R1.out.mono ?_
  rintro e w1 ⟨rfl, rfl⟩
  go_wp2_with fail
  refine R2.out.mono ?_
  rintro e w1 ⟨rfl, rfl⟩
  go_wp2_with fail
  go_region_law (first
    | (refine step_append_lies _ (by rfl) _ _ _ (by rfl) base 45 i0 _ 3 40 Try.underlying49 hi0 hz0 hz1 hz2 rfl (by omega) (.slice a' L.length cap') L.length (L.flatMap parC) (by rfl) ((own_later (own_later HP.out.1 (Below.refl _ w).drew) hb).alloc _) ⟨ws.heap.size, 0, none⟩ 1 1 [.int .i64 f, .int .i64 t, bv] (by rfl) (by rfl) (World.news_of_block (cs := #[.int .i64 f, .int .i64 t, bv]) (t := 45) (fr := (0, 0)) (heap_alloc_new ws _)) (one3 bvo) (by omega) (by simp only [maxLen]; omega) (by omega) (by simp; have := hb.size; simp at this; omega) (ws.heap.size + 1) (by simp) ?_; intro gg cap w4 hown4 hgrow hat hlt; have q4 := append_keeps ((hb.block g hgl).trans H2.out) (own_later (own_later HP.out.1 (Below.refl _ w).drew) hb) (by decide) hgrow; have z4 : w4.cell? ⟨g, 1, none⟩ = some (.slice a' L.length cap') := (cell_block q4); have y4 : w4.frozen? ⟨g, 1, none⟩ = false := free_block q4; clear q4)
    | (go_simp; go_at_call 30; refine (OW.out w.drew (HV.out.later (Below.refl _ _).drew)).mono ?_; rintro e ws ⟨bv, rfl, ho, hb⟩; have c1s : ws.cell? ⟨g, 1, none⟩ = some (.slice a' L.length cap') := (hb.cell (p := ⟨g, 1, none⟩) hgl).trans c1; have hgs : g < ws.heap.size := World.block_lt_of_cell? ws _ c1s; have HO := Lib.hid ho; have bvo : bv.oneCell' = true := own_one ho; clear ho))
  all_goals
    go_wp2_with fail
    go_ret
    exact sent_close HN.out HP.out hbase hL (⟨hb.os, hb.tape, hb.output, hb.size, hb.block⟩ : Below w.heap.size w ws) HO.out hbl ((Below.refl _ _).alloc (Nat.le_refl _) _) hgrow hown4 hat (by simp)
end Go.Proofs.Ytlhmfdklpjpnlaa
