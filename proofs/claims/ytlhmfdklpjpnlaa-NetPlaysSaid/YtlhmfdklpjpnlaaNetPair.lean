/- A net and the reference's net, side by side: each pair of calls answers the same, and leaves them side by side. -/
import Derived.Test.YtlhmfdklpjpnlaaNetSame
namespace Go.Proofs.Ytlhmfdklpjpnlaa
open Go.RowKit Punnet.Flt
set_option linter.unusedVariables false

/-- Both lines part the same. -/
def Agree (cut : Bool) (X Y O x y o : Int) : Prop := (cut = true ∧ X = x ∧ Y = y ∧ O = o) ∨ (cut = false ∧ x = 0 ∧ y = 0 ∧ o = 0)
theorem Agree.apart {cut : Bool} {X Y O x y o : Int} (h : Agree cut X Y O x y o) (ps : List (Int × Int)) (a b : Int) : apartB ps true x y o a b = apartB ps cut X Y O a b := by
  rcases h with ⟨rfl, rfl, rfl, rfl⟩ | ⟨rfl, rfl, rfl, rfl⟩
  · rfl
  · unfold apartB sideAt; simp

/-- Parcels that might be posted. -/
def Good (ps : List (Int × Int)) (L : List Par) : Prop := ∀ p ∈ L, repB ps p.1 = true ∧ repB ps p.2.1 = true ∧ p.1 ≠ p.2.1 ∧ p.2.2.2.length ≤ 60008
theorem good_less {ps : List (Int × Int)} {L : List Par} (h : Good ps L) (i : Nat) : Good ps (less L i) := fun p hp => h p (less_mem hp)
theorem good_snoc {ps : List (Int × Int)} {L : List Par} (h : Good ps L) {p : Par} (hp : repB ps p.1 = true ∧ repB ps p.2.1 = true ∧ p.1 ≠ p.2.1 ∧ p.2.2.2.length ≤ 60008) : Good ps (L ++ [p]) := fun q hq => by
  rcases List.mem_append.1 hq with hq | hq
  · exact h q hq
  · rw [List.mem_singleton] at hq; subst hq; exact hp
theorem good_post {ps : List (Int × Int)} {n len : Nat} {f t : Int} (h : postCode ps n len f t = 0) : repB ps f = true ∧ repB ps t = true ∧ f ≠ t ∧ len ≤ 60008 := by
  unfold postCode at h
  by_cases e : repB ps f = false ∨ repB ps t = false ∨ f = t
  · rw [if_pos e] at h; exact absurd h (by decide)
  · rw [if_neg e] at h
    by_cases e2 : 60008 < len
    · rw [if_pos e2] at h; exact absurd h (by decide)
    · simp only [not_or, Bool.not_eq_false] at e
      exact ⟨e.1, e.2.1, e.2.2, by omega⟩
theorem good_code {ps : List (Int × Int)} {n len : Nat} {f t : Int} (h : repB ps f = true ∧ repB ps t = true ∧ f ≠ t ∧ len ≤ 60008) : postCode ps n len f t = if 60 ≤ n then 9 else 0 := by
  unfold postCode
  rw [if_neg (by simp [h.1, h.2.1, h.2.2.1]), if_neg (by omega)]

/-- A net and the reference's, side by side. -/
def J (w0 : World) (v0 v1 : Value) (rs is : List Int) (g gm : Nat) (w : World) : Prop :=
  ∃ pa ml L M cut X Y O x y o, NetAt w w0.heap.size g (places rs is) pa cut X Y O ∧ PRow w w0.heap.size pa L ∧ RefAt w0 w gm v0 v1 ml rs is M x y o ∧ L.map dat = M.map dat ∧ Agree cut X Y O x y o ∧ (∀ k, pa.ownBlock = some k → ml.ownBlock ≠ some k) ∧ Good (places rs is) L
theorem J.later {w0 w w' : World} {v0 v1 : Value} {rs is : List Int} {g gm : Nat} (h : J w0 v0 v1 rs is g gm w) (hb : Below w.heap.size w w') : J w0 v0 v1 rs is g gm w' := by
  obtain ⟨pa, ml, L, M, cut, X, Y, O, x, y, o, h1, h2, h3, h4⟩ := h
  exact ⟨pa, ml, L, M, cut, X, Y, O, x, y, o, h1.later hb, h2.later hb, h3.later hb, h4⟩
theorem J.below {w0 w : World} {v0 v1 : Value} {rs is : List Int} {g gm : Nat} (h : J w0 v0 v1 rs is g gm w) : Below w0.heap.size w0 w := by
  obtain ⟨pa, ml, L, M, cut, X, Y, O, x, y, o, h1, h2, h3, h4⟩ := h
  exact h3.2.2.2.2.2.1

/-- Calls of the law stay as they were. -/
def Kept (w w' : World) : Prop := ∀ (k : Nat) (cur : Array Value), w.heap[k]? = some (.cells cur 42 (0, 0)) → w'.heap[k]? = some (.cells cur 42 (0, 0))
theorem Kept.refl (w : World) : Kept w w := fun _ _ h => h
theorem Kept.trans {a b c : World} (h : Kept a b) (k : Kept b c) : Kept a c := fun i cur hi => k i cur (h i cur hi)
theorem below_kept {w w' : World} (h : Below w.heap.size w w') : Kept w w' := fun k cur hk => (h.block k (block_lt hk)).trans hk
theorem spares_kept {S : Nat → Prop} {w w' : World} (h : Spares S w w') (hS : ∀ k, S k → ∃ cur u, w.heap[k]? = some (.cells cur u (0, 0)) ∧ u ≠ 42) : Kept w w' := fun k cur hk => (h.block k (block_lt hk) fun hs => by
  obtain ⟨c2, u, hu, hne⟩ := hS k hs
  exact ne_type hu hk hne rfl).trans hk
theorem net_kept {w w' : World} {base g : Nat} {ps : List (Int × Int)} {pa : Value} {cut : Bool} {x y off : Int} {L : List Par} (hn : NetAt w base g ps pa cut x y off) (hp : PRow w base pa L) (hs : Spares (netS g pa) w w') : Kept w w' := by
  refine spares_kept hs ?_
  rintro k (rfl | e)
  · obtain ⟨cs, h⟩ := hn.blk; exact ⟨cs, _, h, by decide⟩
  · obtain ⟨_, c2, h⟩ := own_block hp.1 e; exact ⟨c2, _, h, by decide⟩
theorem ref_kept {w0 w w' : World} {gm : Nat} {v0 v1 ml : Value} {rs is : List Int} {L : List Par} {x y off : Int} (hr : RefAt w0 w gm v0 v1 ml rs is L x y off) (hs : Spares (· = gm) w w') : Kept w w' := by
  refine spares_kept hs ?_
  rintro k rfl
  obtain ⟨cs, h⟩ := hr.blk; exact ⟨cs, _, h, by decide⟩

/-- The second call of a pair: it answers as the first, and both are side by side. -/
def Second (f : Nat) (args : Array Value) (w0 : World) (v0 v1 : Value) (rs is : List Int) (g gm : Nat) (c : Int) (w : World) : Prop :=
  Calls Try.prog f args w fun e w' => e = .returned (.int .i64 c) ∧ J w0 v0 v1 rs is g gm w' ∧ Kept w w'
/-- The first call of a pair. -/
def First (f : Nat) (args : Array Value) (w0 : World) (v0 v1 : Value) (rs is : List Int) (g gm : Nat) (w : World) (e : Ending) (w' : World) : Prop :=
  ∃ c, e = .returned (.int .i64 c) ∧ Kept w w' ∧ Second f args w0 v0 v1 rs is g gm c w'

/-- Neither changes. -/
theorem second_same {f : Nat} {args : Array Value} {w0 w : World} {v0 v1 : Value} {rs is : List Int} {g gm : Nat} {c : Int} (hj : J w0 v0 v1 rs is g gm w) (h : Calls Try.prog f args w fun e w' => e = .returned (.int .i64 c) ∧ w = w') : Second f args w0 v0 v1 rs is g gm c w :=
  h.mono fun e w' ⟨he, hw⟩ => by subst hw; exact ⟨he, hj, Kept.refl _⟩
/-- The reference's parcels move. -/
theorem second_move {f : Nat} {args : Array Value} {w0 w : World} {v0 v1 ml pa : Value} {rs is : List Int} {g gm : Nat} {L M M' : List Par} {cut : Bool} {X Y O x y o : Int} (hn : NetAt w w0.heap.size g (places rs is) pa cut X Y O) (hp : PRow w w0.heap.size pa L) (hr : RefAt w0 w gm v0 v1 ml rs is M x y o) (ha : Agree cut X Y O x y o) (hd : L.map dat = M'.map dat) (hgood : Good (places rs is) L)
    (h : Calls Try.prog f args w fun e w' => e = .returned (.int .i64 0) ∧ RefMove w0 w gm v0 v1 rs is M' x y o w') : Second f args w0 v0 v1 rs is g gm 0 w := by
  refine h.mono fun e w' ⟨he, ml', hr', hs, hf⟩ => ⟨he, ?_, ref_kept hr hs⟩
  obtain ⟨cs, hg⟩ := hr.blk
  refine ⟨pa, ml', L, M', cut, X, Y, O, x, y, o, hn.ref hs hg, hp.ref hs hg, hr', hd, ha, fun k hk e => ?_, hgood⟩
  obtain ⟨_, c2, hc⟩ := own_block hp.1 hk
  have := hf k e
  have := block_lt hc
  omega

theorem pairCut {w0 w : World} {v0 v1 : Value} {rs is : List Int} {g gm : Nat} (hj : J w0 v0 v1 rs is g gm w) (a b c : Int) (hc : -9223372036854775808 ≤ c ∧ c ≤ 9223372036854775807) :
    Calls Try.prog 9 #[.pointer (some ⟨g, 0, none⟩), .int .i64 a, .int .i64 b, .int .i64 c] w (First 13 #[.pointer (some ⟨gm, 0, none⟩), .int .i64 a, .int .i64 b, .int .i64 c] w0 v0 v1 rs is g gm w) := by
  cases hs : smallB a b with
  | false => exact (cut_no hs g c w).mono fun e w1 ⟨he, hb⟩ => ⟨5, he, below_kept hb, second_same (hj.later hb) (refCut_no hs gm c w1)⟩
  | true =>
    obtain ⟨pa, ml, L, M, cut, X, Y, O, x, y, o, h1, h2, h3, h4, h5, h6, h7⟩ := hj
    refine (cut_yes hs h1 c hc).mono fun e w1 ⟨he, hn, hsp⟩ => ⟨0, he, ?_, ?_⟩
    · exact net_kept h1 h2 (hsp.mono fun k _ e => .inl e)
    · have hsp' : Spares (netS g pa) w w1 := hsp.mono fun k _ e => .inl e
      have hr1 := h3.spares h1 h2 hsp' h6
      obtain ⟨cs, hg⟩ := h1.blk
      have hp1 : PRow w1 w0.heap.size pa L := h2.spares hsp (fun k hk e => by
        obtain ⟨_, c2, hc⟩ := own_block h2.1 hk
        exact ne_type hc hg (by decide) e) (fun k cur e hc => ne_type hc hg (by decide) e)
      refine (refCut_yes hs hr1 c hc).mono fun e w2 ⟨he, hr2, hs2⟩ => ⟨he, ?_, ref_kept hr1 hs2⟩
      obtain ⟨cs, hg⟩ := hr1.blk
      exact ⟨pa, ml, L, M, true, a, b, c, a, b, c, hn.ref hs2 hg, hp1.ref hs2 hg, hr2, h4, .inl ⟨rfl, rfl, rfl, rfl⟩, h6, h7⟩

theorem pa_next {w w' : World} {pa pa' ml : Value} {base base' n n' : Nat} {t t' : TypeId} {xs ys : List Value} (hm : w.ownsRow base t 3 ml n xs) (h : pa'.ownBlock = pa.ownBlock ∨ ∃ k, pa'.ownBlock = some k ∧ w.heap.size ≤ k) (hne : ∀ k, pa.ownBlock = some k → ml.ownBlock ≠ some k) : ∀ k, pa'.ownBlock = some k → ml.ownBlock ≠ some k := by
  intro k hk e
  rcases h with h | ⟨j, hj, hle⟩
  · exact hne k (h ▸ hk) e
  · rw [hj] at hk
    injection hk with hk; subst hk
    obtain ⟨_, c2, hc⟩ := own_block hm e
    have := block_lt hc
    omega

theorem pairPost {w0 w : World} {v0 v1 v : Value} {rs is : List Int} {g gm : Nat} {bs : List UInt8} (hj : J w0 v0 v1 rs is g gm w) (f t : Int) (hv : RowN 1 w0 v bs.length (u8s bs)) (hbl : bs.length ≤ 9223372036854775807) :
    Calls Try.prog 14 #[.pointer (some ⟨g, 0, none⟩), .int .i64 f, .int .i64 t, v] w (First 15 #[.pointer (some ⟨gm, 0, none⟩), .int .i64 f, .int .i64 t, v] w0 v0 v1 rs is g gm w) := by
  obtain ⟨pa, ml, L, M, cut, X, Y, O, x, y, o, h1, h2, h3, h4, h5, h6, h7⟩ := hj
  have hl : L.length = M.length := by have := congrArg List.length h4; simpa using this
  have hvw := hv.later h3.2.2.2.2.2.1
  by_cases hc : postCode (places rs is) L.length bs.length f t = 0
  · refine (post_yes h1 h2 h3.2.2.2.2.2.1.size hvw f t hc).mono fun e w1 ⟨he, pa', bv, n1, p1, s1, hpa, hbv⟩ => ⟨0, he, net_kept h1 h2 s1, ?_⟩
    have hr1 := h3.spares h1 h2 s1 h6
    refine second_move n1 p1 hr1 h5 ?_ (good_snoc h7 (good_post hc)) (refPost_yes hr1 hv f t (by rw [← hl]; exact hc))
    rw [List.map_append, List.map_append, h4]; rfl
  · refine (post_no h1 h2 hvw hbl f t rfl hc).mono fun e w1 ⟨he, hw⟩ => ⟨_, he, by subst hw; exact Kept.refl _, ?_⟩
    subst hw
    exact second_same ⟨pa, ml, L, M, cut, X, Y, O, x, y, o, h1, h2, h3, h4, h5, h6, h7⟩ (refPost_no h3 hv hbl f t (by rw [hl]) hc)

theorem less_dat {L M : List Par} (h : L.map dat = M.map dat) (i : Nat) : (less L i).map dat = (less M i).map dat := by
  unfold less
  rw [List.map_append, List.map_append, List.map_take, List.map_take, List.map_drop, List.map_drop, h]
theorem dat_at {L M : List Par} (h : L.map dat = M.map dat) {i : Nat} {f t : Int} {bv : Value} {bs : List UInt8} (hi : L[i]? = some (f, t, bv, bs)) : ∃ bv', M[i]? = some (f, t, bv', bs) := by
  have := congrArg (fun x => x[i]?) h
  simp only [List.getElem?_map, hi, Option.map_some] at this
  cases hM : M[i]? with
  | none => rw [hM] at this; cases this
  | some p =>
    obtain ⟨f', t', bv', bs'⟩ := p
    rw [hM] at this
    simp only [Option.map_some, dat] at this
    injection this with this
    injection this with e1 this; injection this with e2 e3
    subst e1 e2 e3
    exact ⟨bv', rfl⟩

theorem pairLose {w0 w : World} {v0 v1 : Value} {rs is : List Int} {g gm : Nat} (hj : J w0 v0 v1 rs is g gm w) (i : Int) :
    Calls Try.prog 19 #[.pointer (some ⟨g, 0, none⟩), .int .i64 i] w (First 20 #[.pointer (some ⟨gm, 0, none⟩), .int .i64 i] w0 v0 v1 rs is g gm w) := by
  have hj0 := hj
  obtain ⟨pa, ml, L, M, cut, X, Y, O, x, y, o, h1, h2, h3, h4, h5, h6, h7⟩ := hj
  have hl : L.length = M.length := by have := congrArg List.length h4; simpa using this
  by_cases hc : i < 0 ∨ (L.length : Int) ≤ i
  · refine (lose_no h1 h2 i hc).mono fun e w1 ⟨he, hw⟩ => ⟨6, he, by subst hw; exact Kept.refl _, ?_⟩
    subst hw
    exact second_same hj0 (refLose_no h3 i (by rw [← hl]; exact hc))
  · obtain ⟨k, rfl⟩ : ∃ k : Nat, i = k := ⟨i.toNat, by omega⟩
    refine (lose_yes h1 h2 (i := k) (by omega)).mono fun e w1 ⟨he, pa', n1, p1, s1, hpa⟩ => ⟨0, he, net_kept h1 h2 s1, ?_⟩
    have hr1 := h3.spares h1 h2 s1 h6
    exact second_move n1 p1 hr1 h5 (less_dat h4 k) (good_less h7 k) (refLose_yes hr1 (by omega))

theorem pairDouble {w0 w : World} {v0 v1 : Value} {rs is : List Int} {g gm : Nat} (hj : J w0 v0 v1 rs is g gm w) (i : Int) :
    Calls Try.prog 21 #[.pointer (some ⟨g, 0, none⟩), .int .i64 i] w (First 22 #[.pointer (some ⟨gm, 0, none⟩), .int .i64 i] w0 v0 v1 rs is g gm w) := by
  have hj0 := hj
  obtain ⟨pa, ml, L, M, cut, X, Y, O, x, y, o, h1, h2, h3, h4, h5, h6, h7⟩ := hj
  have hl : L.length = M.length := by have := congrArg List.length h4; simpa using this
  by_cases hc : i < 0 ∨ (L.length : Int) ≤ i
  · refine (double_no h1 h2 i hc).mono fun e w1 ⟨he, hw⟩ => ⟨6, he, by subst hw; exact Kept.refl _, ?_⟩
    subst hw
    exact second_same hj0 (refDouble_no h3 i (by rw [← hl]; exact hc))
  · obtain ⟨k, rfl⟩ : ∃ k : Nat, i = k := ⟨i.toNat, by omega⟩
    obtain ⟨⟨f, t, bv, bs⟩, hL⟩ : ∃ p, L[k]? = some p := ⟨_, List.getElem?_eq_getElem (by omega)⟩
    obtain ⟨bv', hM⟩ := dat_at h4 hL
    have hg := h7 _ (List.mem_of_getElem? hL)
    simp only at hg
    by_cases h60 : 60 ≤ L.length
    · refine (double_full h1 h2 k (by omega) h60).mono fun e w1 ⟨he, hw⟩ => ⟨9, he, by subst hw; exact Kept.refl _, ?_⟩
      subst hw
      have hr1 := h3.later ((Below.refl _ w).drew)
      have hv := (h3.2.2.2.1 _ (List.mem_of_getElem? hM)).1
      refine refDouble_any h3 hM ?_
      refine (refPost_no hr1 hv (by have := hg.2.2.2; simp only; omega) f t (c := 9) (by rw [good_code hg, if_pos (by omega)]) (by decide)).mono ?_
      rintro e w2 ⟨rfl, rfl⟩
      exact ⟨9, rfl, rfl, hj0.later ((Below.refl _ w).drew), below_kept (show Below w.heap.size w w.drew from (Below.refl _ w).drew)⟩
    · refine (double_yes h1 h2 h3.2.2.2.2.2.1.size hL (by omega)).mono fun e w1 ⟨he, pa', bv2, n1, p1, s1, hpa, hbv⟩ => ⟨0, he, net_kept h1 h2 s1, ?_⟩
      have hr0 := h3.spares h1 h2 s1 h6
      have hbd : Below w1.heap.size w1 w1.drew := (Below.refl _ w1).drew
      have hr1 := hr0.later hbd
      have hv := (h3.2.2.2.1 _ (List.mem_of_getElem? hM)).1
      have hsec := second_move (f := 15) (args := #[.pointer (some ⟨gm, 0, none⟩), .int .i64 f, .int .i64 t, bv']) (n1.later hbd) (p1.later hbd) hr1 h5 (M' := M ++ [(f, t, bv', bs)]) (by rw [List.map_append, List.map_append, h4]; rfl) (good_snoc h7 hg) (refPost_yes hr1 hv f t (by rw [good_code hg, if_neg (by omega)]))
      refine refDouble_any hr0 hM ?_
      refine hsec.mono ?_
      rintro e w2 ⟨rfl, hj2, hk2⟩
      exact ⟨0, rfl, rfl, hj2, (below_kept hbd).trans hk2⟩

/-- What both take, and that they are side by side. -/
def SecondTake (w0 : World) (v0 v1 : Value) (rs is : List Int) (g gm : Nat) (i : Int) (f t c : Int) (bs : List UInt8) (w : World) : Prop :=
  Calls Try.prog 17 #[.pointer (some ⟨gm, 0, none⟩), .int .i64 i] w fun e w' => ∃ bv, e = .returned (.tuple #[.agg #[.int .i64 f, .int .i64 t, bv], .int .i64 c]) ∧ RowN 1 w' bv bs.length (u8s bs) ∧ J w0 v0 v1 rs is g gm w' ∧ Kept w w' ∧ Spares (· = gm) w w'
def FirstTake (w0 : World) (v0 v1 : Value) (rs is : List Int) (g gm : Nat) (i : Int) (w : World) (e : Ending) (w' : World) : Prop :=
  ∃ (f t c : Int) (bv : Value) (bs : List UInt8) (n : Nat), e = .returned (.tuple #[.agg #[.int .i64 f, .int .i64 t, bv], .int .i64 c]) ∧ bs.length ≤ 61000 ∧ w'.ownsRow w0.heap.size 5 1 bv bs.length (u8s bs) ∧ Kept w w' ∧ (∃ cs, w'.heap[gm]? = some (.cells cs 53 (0, 0))) ∧ (∀ W, Below w'.heap.size w' W → SecondTake w0 v0 v1 rs is g gm i f t c bs W)

theorem pairTake {w0 w : World} {v0 v1 : Value} {rs is : List Int} {g gm : Nat} (hj : J w0 v0 v1 rs is g gm w) (i : Int) :
    Calls Try.prog 16 #[.pointer (some ⟨g, 0, none⟩), .int .i64 i] w (FirstTake w0 v0 v1 rs is g gm i w) := by
  have hj0 := hj
  obtain ⟨pa, ml, L, M, cut, X, Y, O, x, y, o, h1, h2, h3, h4, h5, h6, h7⟩ := hj
  have hl : L.length = M.length := by have := congrArg List.length h4; simpa using this
  have nil0 : ∀ (W : World), W.ownsRow w0.heap.size 5 1 (.slice none 0 0) ([] : List UInt8).length (u8s []) := fun W => ⟨rfl, .inl ⟨rfl, rfl⟩⟩
  have no : ∀ (c : Int), (∀ W, Below w.heap.size w W → Calls Try.prog 17 #[.pointer (some ⟨gm, 0, none⟩), .int .i64 i] W (NotTaken c W)) → Calls Try.prog 16 #[.pointer (some ⟨g, 0, none⟩), .int .i64 i] w (NotTaken c w) → Calls Try.prog 16 #[.pointer (some ⟨g, 0, none⟩), .int .i64 i] w (FirstTake w0 v0 v1 rs is g gm i w) := by
    intro c hm hn
    refine hn.mono fun e w1 ⟨he, hb⟩ => ⟨0, 0, c, .slice none 0 0, [], 0, he, by simp, nil0 _, below_kept hb, (h3.later hb).blk, fun W hW => ?_⟩
    refine (hm W (hb.trans (hW.mono hb.size))).mono fun e w2 ⟨he, hb2⟩ => ⟨_, he, RowN.of_own (nil0 _), (((hj0.later hb).later hW).later hb2), below_kept hb2, hb2.spares _⟩
  by_cases hc : i < 0 ∨ (L.length : Int) ≤ i
  · exact no 6 (fun W hW => refTake_no (h3.later hW) i (by rw [← hl]; exact hc)) (take_no h1 h2 i hc)
  · obtain ⟨k, rfl⟩ : ∃ k : Nat, i = k := ⟨i.toNat, by omega⟩
    obtain ⟨⟨f, t, bv, bs⟩, hL⟩ : ∃ p, L[k]? = some p := ⟨_, List.getElem?_eq_getElem (by omega)⟩
    obtain ⟨bv', hM⟩ := dat_at h4 hL
    cases ha : apartB (places rs is) cut X Y O f t with
    | true => exact no 17 (fun W hW => refTake_gap (h3.later hW) hM (by rw [h5.apart]; exact ha)) (take_gap h1 h2 hL ha)
    | false =>
      have hrow := h2.2.1 _ (List.mem_of_getElem? hL)
      simp only at hrow
      refine (take_yes h1 h2 hL ha).mono fun e w1 ⟨he, pa', n1, p1, s1, hpa⟩ => ⟨f, t, 0, bv, bs, 0, he, hrow.2, bytes_spared hrow.1 h1 h2 s1, net_kept h1 h2 s1, (h3.spares h1 h2 s1 h6).blk, fun W hW => ?_⟩
      have hr0 := h3.spares h1 h2 s1 h6
      have hr1 := hr0.later hW
      have hv := (h3.2.2.2.1 _ (List.mem_of_getElem? hM)).1
      simp only at hv
      refine (refTake_yes hr1 hM (by rw [h5.apart]; exact ha)).mono fun e w2 ⟨he, ml', hr2, hs2, hf⟩ => ⟨bv', he, hv.later hr2.2.2.2.2.2.1, ?_, ref_kept hr1 hs2, hs2⟩
      obtain ⟨cs, hg⟩ := hr1.blk
      refine ⟨pa', ml', less L k, less M k, cut, X, Y, O, x, y, o, (n1.later hW).ref hs2 hg, (p1.later hW).ref hs2 hg, hr2, less_dat h4 k, h5, fun j hj e => ?_, good_less h7 k⟩
      obtain ⟨_, c2, hc⟩ := own_block (p1.later hW).1 hj
      have := hf j e
      have := block_lt hc
      omega
end Go.Proofs.Ytlhmfdklpjpnlaa
