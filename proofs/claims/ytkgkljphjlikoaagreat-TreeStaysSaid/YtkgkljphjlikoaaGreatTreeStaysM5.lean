/- Part 5 of what the proof of TreeStays stands on: TrSortP, TrCmp, XgU, TrSort, TrEq, TrTags, TrAt, TrReads, TrRefP, TrEdge, TrRef, TrRef2, TrTagsOf, TrSettle, TrPut, TrMore, TrNodes, TrAwake, TrGrown, TrStaysP, TrLawPuts, TrLawStays, Bridge, LnCells, TreeStaysWalk. -/
import Derived.Test.YtkgkljphjlikoaaGreatTreeStaysM4
section
namespace Go.Vm
set_option linter.unusedVariables false
set_option linter.unusedSimpArgs false

theorem lessT_irrefl (a : TagD) : lessT a a = false := by simp [lessT]
theorem lessT_trans {a b c : TagD} (h : lessT a b = true) (k : lessT b c = true) : lessT a c = true := by
  obtain ⟨a1, a2⟩ := a; obtain ⟨b1, b2⟩ := b; obtain ⟨c1, c2⟩ := c
  simp only [lessT] at h k ⊢
  split at h <;> split at k <;> simp only [decide_eq_true_eq] at h k <;> split <;> simp only [decide_eq_true_eq] <;> omega
theorem lessT_total {a b : TagD} (h : lessT a b = false) (k : lessT b a = false) : a = b := by
  obtain ⟨a1, a2⟩ := a; obtain ⟨b1, b2⟩ := b
  simp only [lessT] at h k
  split at h <;> split at k <;> simp only [decide_eq_false_iff_not] at h k <;> simp only [TagD.mk.injEq] <;> omega
theorem lessT_asymm {a b : TagD} (h : lessT a b = true) : lessT b a = false := by
  cases k : lessT b a with
  | false => rfl
  | true => have := lessT_trans h k; rw [lessT_irrefl] at this; cases this
theorem lessT_ntrans {a b c : TagD} (h : lessT a b = false) (k : lessT b c = false) : lessT a c = false := by
  cases hx : lessT a c with
  | false => rfl
  | true =>
    cases h1 : lessT b a with
    | true => have := lessT_trans h1 hx; rw [k] at this; cases this
    | false => obtain rfl := lessT_total h h1; rw [k] at hx; cases hx
def leT (a b : TagD) : Bool := !lessT b a
theorem leT_trans (a b c : TagD) (h : leT a b = true) (k : leT b c = true) : leT a c = true := by
  simp only [leT, Bool.not_eq_true'] at *; exact lessT_ntrans k h
theorem leT_total (a b : TagD) : (leT a b || leT b a) = true := by
  simp only [leT]
  cases h : lessT b a with
  | false => rfl
  | true => rw [lessT_asymm h]; rfl
theorem leT_anti {a b : TagD} (h : leT a b = true) (k : leT b a = true) : a = b := by
  simp only [leT, Bool.not_eq_true'] at *; exact lessT_total k h
/-- Rising tags. -/
def sortT (l : List TagD) : List TagD := l.mergeSort leT
theorem sortT_rises (l : List TagD) : (sortT l).Pairwise fun a b => leT a b = true := List.pairwise_mergeSort leT_trans leT_total l
theorem sortT_perm (l : List TagD) : (sortT l).Perm l := List.mergeSort_perm l leT
theorem rises_one {l l' : List TagD} (h : l.Pairwise fun a b => leT a b = true) (k : l'.Pairwise fun a b => leT a b = true) (hp : l.Perm l') : l = l' :=
  List.Perm.eq_of_pairwise (fun _ _ _ _ h k => leT_anti h k) h k hp
theorem sortT_eq {l l' : List TagD} (h : l.Perm l') : sortT l = sortT l' := rises_one (sortT_rises l) (sortT_rises l') ((sortT_perm l).trans (h.trans (sortT_perm l').symm))
theorem sortT_len (l : List TagD) : (sortT l).length = l.length := (sortT_perm l).length_eq

/-- An edge put where it belongs. -/
def insE (e : EdgeD) : List EdgeD → List EdgeD
  | [] => [e]
  | x :: l => if lessT x.id e.id = true then x :: insE e l else e :: x :: l
def sortE (E : List EdgeD) : List EdgeD := E.foldl (fun l e => insE e l) []
theorem insE_perm (e : EdgeD) : ∀ l, (insE e l).Perm (e :: l)
  | [] => .refl _
  | x :: l => by
    unfold insE
    split
    · exact ((insE_perm e l).cons x).trans (List.Perm.swap e x l)
    · exact .refl _
abbrev risesE (l : List EdgeD) : Prop := l.Pairwise fun a b => leT a.id b.id = true
theorem insE_rises (e : EdgeD) : ∀ {l}, risesE l → risesE (insE e l)
  | [], _ => by simp [insE]
  | x :: l, h => by
    unfold insE
    obtain ⟨h1, h2⟩ := List.pairwise_cons.1 h
    split
    · rename_i hlt
      refine List.pairwise_cons.2 ⟨fun y hy => ?_, insE_rises e h2⟩
      rcases List.mem_cons.1 ((insE_perm e l).mem_iff.1 hy) with rfl | hy
      · simp only [leT]; rw [lessT_asymm hlt]; rfl
      · exact h1 y hy
    · rename_i hlt
      have hle : leT e.id x.id = true := by simp only [leT]; simpa using hlt
      refine List.pairwise_cons.2 ⟨fun y hy => ?_, h⟩
      rcases List.mem_cons.1 hy with rfl | hy
      · exact hle
      · exact leT_trans _ _ _ hle (h1 y hy)
theorem sortE_go (E : List EdgeD) : ∀ l, risesE l → risesE (E.foldl (fun l e => insE e l) l) ∧ (E.foldl (fun l e => insE e l) l).Perm (l ++ E) := by
  induction E with
  | nil => intro l h; exact ⟨h, by simp⟩
  | cons e E ih =>
    intro l h
    obtain ⟨h1, h2⟩ := ih (insE e l) (insE_rises e h)
    refine ⟨h1, h2.trans ?_⟩
    exact ((insE_perm e l).append_right E).trans (by rw [List.cons_append]; exact List.perm_middle.symm)
theorem sortE_rises (E : List EdgeD) : risesE (sortE E) := (sortE_go E [] .nil).1
theorem sortE_perm (E : List EdgeD) : (sortE E).Perm E := by unfold sortE; simpa using (sortE_go E [] .nil).2
theorem sort_keys (E : List EdgeD) : sortT (E.map (·.id)) = (sortE E).map (·.id) :=
  rises_one (sortT_rises _) (List.pairwise_map.2 (sortE_rises E)) ((sortT_perm _).trans ((sortE_perm E).symm.map _))
theorem sort_filter (E : List EdgeD) (p : EdgeD → Bool) : sortT ((E.filter p).map (·.id)) = ((sortE E).filter p).map (·.id) :=
  rises_one (sortT_rises _) (List.pairwise_map.2 ((sortE_rises E).filter p)) ((sortT_perm _).trans (((sortE_perm E).symm.filter p).map _))

/-! ### What is picked out of a map -/
def pick {β : Type} (p : NodeD → Bool) (f : TagD × NodeD → β) (l : List (TagD × NodeD)) (seen : List Nat) : List β := seen.filterMap fun i => (l[i]?).bind fun q => if p q.2 = true then some (f q) else none
theorem pick_yes {β : Type} {p : NodeD → Bool} {f : TagD × NodeD → β} {l : List (TagD × NodeD)} {seen : List Nat} {i : Nat} {q : TagD × NodeD} (hq : l[i]? = some q) (h : p q.2 = true) : pick p f l (seen ++ [i]) = pick p f l seen ++ [f q] := by
  simp [pick, hq, h]
theorem pick_no {β : Type} {p : NodeD → Bool} {f : TagD × NodeD → β} {l : List (TagD × NodeD)} {seen : List Nat} {i : Nat} {q : TagD × NodeD} (hq : l[i]? = some q) (h : ¬ p q.2 = true) : pick p f l (seen ++ [i]) = pick p f l seen := by
  simp [pick, hq, h]
theorem pick_range {β : Type} (p : NodeD → Bool) (f : TagD × NodeD → β) : ∀ (l : List (TagD × NodeD)), pick p f l (List.range l.length) = (l.filter fun q => p q.2).map f
  | [] => rfl
  | q :: l => by
    have ih := pick_range p f l
    simp only [pick] at ih ⊢
    rw [List.length_cons, List.range_succ_eq_map, List.filterMap_cons]
    simp only [List.getElem?_cons_zero, Option.bind_some, List.filterMap_map]
    have e : ((fun i => ((q :: l)[i]?).bind fun q => if p q.2 = true then some (f q) else none) ∘ Nat.succ) = fun i => (l[i]?).bind fun q => if p q.2 = true then some (f q) else none := by
      funext i; simp
    rw [e, ih]
    cases hp : p q.2 <;> simp [hp]
/-- Each entry once. -/
def Seen (n : Nat) (seen : List Nat) : Prop := seen.Nodup ∧ ∀ i ∈ seen, i < n
theorem Seen.next {n i : Nat} {seen : List Nat} (h : Seen n seen) (hi : i < n) (hn : i ∉ seen) : Seen n (seen ++ [i]) := by
  refine ⟨List.nodup_append.2 ⟨h.1, by simp, ?_⟩, fun j hj => ?_⟩
  · intro a ha b hb e
    rw [List.mem_singleton] at hb
    subst hb e; exact hn ha
  · rcases List.mem_append.1 hj with hj | hj
    · exact h.2 j hj
    · rw [List.mem_singleton.1 hj]; exact hi
theorem Seen.all {n : Nat} {seen : List Nat} (h : Seen n seen) (ha : ∀ i, i < n → i ∈ seen) : seen.Perm (List.range n) := by
  refine (List.perm_ext_iff_of_nodup h.1 List.nodup_range).2 fun i => ?_
  rw [List.mem_range]
  exact ⟨h.2 i, ha i⟩
theorem Seen.len {n : Nat} {seen : List Nat} (h : Seen n seen) : seen.length ≤ n := by
  have hp : seen.Perm ((List.range n).filter fun i => decide (i ∈ seen)) := (List.perm_ext_iff_of_nodup h.1 (List.nodup_range.filter _)).2 fun i => by
    rw [List.mem_filter, List.mem_range, decide_eq_true_eq]
    exact ⟨fun hi => ⟨h.2 i hi, hi⟩, fun hi => hi.2⟩
  have := List.length_filter_le (fun i => decide (i ∈ seen)) (List.range n)
  rw [hp.length_eq]
  simpa using this
theorem pick_len {β : Type} {p : NodeD → Bool} {f : TagD × NodeD → β} {l : List (TagD × NodeD)} {seen : List Nat} (h : Seen l.length seen) : (pick p f l seen).length ≤ l.length :=
  Nat.le_trans (List.length_filterMap_le _ _) h.len
theorem pick_all {β : Type} {p : NodeD → Bool} {f : TagD × NodeD → β} {l : List (TagD × NodeD)} {seen : List Nat} (h : Seen l.length seen) (ha : ∀ i, i < l.length → i ∈ seen) : (pick p f l seen).Perm ((l.filter fun q => p q.2).map f) := by
  rw [← pick_range]
  exact (h.all ha).filterMap _
/-- The rising tags of those nodes of which p holds. -/
def tagsOf (p : NodeD → Bool) (l : List (TagD × NodeD)) : List TagD := sortT ((l.filter fun q => p q.2).map (·.1))
theorem tags_pick {p : NodeD → Bool} {l : List (TagD × NodeD)} {seen : List Nat} (h : Seen l.length seen) (ha : ∀ i, i < l.length → i ∈ seen) : sortT (pick p (·.1) l seen) = tagsOf p l := sortT_eq (pick_all h ha)
theorem tagsOf_perm {p : NodeD → Bool} {l l' : List (TagD × NodeD)} (h : l.Perm l') : tagsOf p l = tagsOf p l' := sortT_eq ((h.filter _).map _)
theorem tagsOf_len {p : NodeD → Bool} {l : List (TagD × NodeD)} : (tagsOf p l).length ≤ l.length := by
  unfold tagsOf
  rw [sortT_len, List.length_map]
  exact List.length_filter_le _ _
/-- Of a map of edges: the edges in order. -/
def edgesOf (l : List (TagD × NodeD)) : List EdgeD := (tagsOf (fun _ => true) l).map fun k => ((findT k l).getD noNode).edge
theorem find_node {E : List EdgeD} (hu : E.Pairwise fun a b => ¬ a.id = b.id) : ∀ {e : EdgeD}, e ∈ E → ∀ (g : EdgeD → NodeD), findT e.id (E.map fun e => (e.id, g e)) = some (g e) := by
  induction E with
  | nil => intro e h; cases h
  | cons x E ih =>
    intro e he g
    obtain ⟨h1, h2⟩ := List.pairwise_cons.1 hu
    simp only [List.map_cons, findT]
    rcases List.mem_cons.1 he with rfl | he
    · rw [if_pos rfl]
    · rw [if_neg (fun h => h1 e he h.symm)]; exact ih h2 he g
theorem edgesOf_nodes {E : List EdgeD} (hu : E.Pairwise fun a b => ¬ a.id = b.id) : edgesOf (nodesOf E) = sortE E := by
  unfold edgesOf tagsOf nodesOf
  rw [List.filter_eq_self.2 (by intro a _; rfl), List.map_map]
  rw [show ((fun (q : TagD × NodeD) => q.1) ∘ fun e : EdgeD => (e.id, nodeOf E e)) = EdgeD.id from rfl, sort_keys, List.map_map]
  conv => rhs; rw [← List.map_id (sortE E)]
  refine List.map_congr_left fun e he => ?_
  simp only [Function.comp_apply, id]
  rw [find_node hu ((sortE_perm E).mem_iff.1 he) (nodeOf E)]
  rfl
theorem liveOf_nodes {E : List EdgeD} : tagsOf (fun n => decide (n.state = 2)) (nodesOf E) = ((sortE E).filter fun e => decide ((cameOf E e.id).1 = 2)).map (·.id) := by
  unfold tagsOf nodesOf
  rw [List.filter_map, List.map_map]
  exact sort_filter E fun e => decide ((cameOf E e.id).1 = 2)
/-! ### The same edges in another order -/
theorem edgeOf_perm {E F : List EdgeD} (hu : E.Pairwise fun a b => ¬ a.id = b.id) (hp : E.Perm F) (id : TagD) : edgeOf E id = edgeOf F id := by
  have hF : F.Pairwise fun a b => ¬ a.id = b.id := (hp.pairwise_iff (R := fun a b : EdgeD => ¬ a.id = b.id) (fun h e => h e.symm)).1 hu
  cases h : edgeOf E id with
  | some e =>
    obtain ⟨h1, rfl⟩ := edge_mem h
    exact (edge_of_mem hF (hp.mem_iff.1 h1)).symm
  | none =>
    cases k : edgeOf F id with
    | none => rfl
    | some e =>
      obtain ⟨h1, rfl⟩ := edge_mem k
      rw [edge_of_mem hu (hp.mem_iff.2 h1)] at h; cases h
theorem comes_perm {E F : List EdgeD} (hu : E.Pairwise fun a b => ¬ a.id = b.id) (hp : E.Perm F) : ∀ (n : Nat) (id : TagD), comes n E id = comes n F id
  | 0, _ => rfl
  | n + 1, id => by
    by_cases h0 : id = noTag
    · subst h0; rw [comes_root, comes_root]
    · have he := edgeOf_perm hu hp id
      cases h : edgeOf E id with
      | none => rw [comes_none h0 h, comes_none h0 (he ▸ h)]
      | some e => rw [comes_succ h0 h, comes_succ h0 (he ▸ h), comes_perm hu hp n e.parent]
theorem came_perm {E F : List EdgeD} (hu : E.Pairwise fun a b => ¬ a.id = b.id) (hp : E.Perm F) (id : TagD) : cameOf E id = cameOf F id := by
  unfold cameOf; rw [hp.length_eq]; exact comes_perm hu hp _ id
theorem nodes_perm {E F : List EdgeD} (hu : E.Pairwise fun a b => ¬ a.id = b.id) (hp : E.Perm F) : (nodesOf E).Perm (nodesOf F) := by
  have e : nodesOf F = F.map fun e => (e.id, nodeOf E e) := by
    unfold nodesOf
    refine List.map_congr_left fun e _ => ?_
    have := came_perm hu hp e.id
    unfold cameOf at this
    unfold nodeOf
    simp only [this]
  rw [e]
  exact hp.map _
theorem sortE_eq {E F : List EdgeD} (hu : E.Pairwise fun a b => ¬ a.id = b.id) (hp : E.Perm F) : sortE E = sortE F := by
  have hF : F.Pairwise fun a b => ¬ a.id = b.id := (hp.pairwise_iff (R := fun a b : EdgeD => ¬ a.id = b.id) (fun h e => h e.symm)).1 hu
  refine List.Perm.eq_of_pairwise (le := fun a b => leT a.id b.id = true) (fun a b ha hb h k => ?_) (sortE_rises E) (sortE_rises F) ((sortE_perm E).trans (hp.trans (sortE_perm F).symm))
  have he := leT_anti h k
  have h1 := edge_of_mem hu ((sortE_perm E).mem_iff.1 ha)
  have h2 := edge_of_mem hu (hp.mem_iff.2 ((sortE_perm F).mem_iff.1 hb))
  rw [he, h2] at h1
  exact (Option.some.inj h1).symm
end Go.Vm
end
section
namespace Go.Vm
open Go.RowKit Go.Proofs Go.Sort Go.Lib
set_option linter.unusedVariables false
set_option linter.unusedSimpArgs false

def encT (t : TagD) : List Value := [.int .i64 t.r, .int .i64 t.n]
def cfT (a b : TagD) : Int := if lessT a b = true then -1 else if lessT b a = true then 1 else 0
theorem cf_lt (a b : TagD) : ltOf cfT a b = lessT a b := by
  unfold ltOf cfT
  cases h : lessT a b with
  | true => simp
  | false => cases lessT b a <;> simp
theorem cf_ltF : ltOf cfT = lessT := by funext a b; exact cf_lt a b
theorem cf_le : (fun a b => !(ltOf cfT) b a) = leT := by rw [cf_ltF]; rfl
set_option maxHeartbeats 1000000 in
theorem less_kit (x y : TagD) (W : World) : Calls Tryz.prog 124 #[.agg #[.int .i64 x.r, .int .i64 x.n], .agg #[.int .i64 y.r, .int .i64 y.n]] W fun e w' => e = .returned (.bool (lessT x y)) ∧ ∃ q os', w' = grow (W.drewN q) os' := by
  have h0 : lessT x y = if x.r = y.r then decide (x.n < y.n) else decide (x.r < y.r) := rfl
  generalize lessT x y = R at h0 ⊢
  obtain ⟨xr, xn⟩ := x
  obtain ⟨yr, yn⟩ := y
  simp only at h0 ⊢
  go_enter Tryz.func124, Tryz.ntmps124
  go_wp2
  all_goals (go_ret; refine ⟨?_, 0, _, by rw [alloc_eq_grow, alloc_eq_grow, grow_grow]; rfl⟩)
  all_goals (subst h0; simp_all)
theorem drewN_grow (w : World) (os : Array Obj) (n : Nat) : (grow w os).drewN n = grow (w.drewN n) os := rfl
theorem cell_grown {w w' : World} {q : Nat} {os : Array Obj} {p : Addr} (h : w' = grow (w.drewN q) os) (hp : p.block < w.heap.size) : w'.cell? p = w.cell? p := by rw [h]; exact cell?_grow _ _ _ hp
theorem size_grown {w w' : World} {q : Nat} {os : Array Obj} (h : w' = grow (w.drewN q) os) : w.heap.size ≤ w'.heap.size := by rw [h, size_grow]; exact Nat.le_add_right _ _
theorem drewN_drewN (w : World) (a b : Nat) : (w.drewN a).drewN b = w.drewN (a + b) := by simp [World.drewN, Nat.add_assoc]
theorem one_grown {W w1 : World} {a b : Obj} {q1 : Nat} {os1 : Array Obj} (h1 : RowKit.Hid (w1 = grow (((W.alloc a).alloc b).drewN q1) os1)) : ∃ os, w1 = grow (W.drewN q1) os := by
  have e1 : w1 = _ := h1
  rw [e1, alloc_eq_grow, alloc_eq_grow, grow_grow, drewN_grow, grow_grow]
  exact ⟨_, rfl⟩
theorem two_grown {W w1 w2 : World} {a b : Obj} {q1 q2 : Nat} {os1 os2 : Array Obj} (h1 : RowKit.Hid (w1 = grow (((W.alloc a).alloc b).drewN q1) os1)) (h2 : RowKit.Hid (w2 = grow (w1.drewN q2) os2)) : ∃ os, w2 = grow (W.drewN (q1 + q2)) os := by
  have e1 : w1 = _ := h1
  have e2 : w2 = _ := h2
  rw [e2, e1, alloc_eq_grow, alloc_eq_grow, grow_grow, drewN_grow, grow_grow, drewN_grow, drewN_grow, drewN_drewN, grow_grow]
  exact ⟨_, rfl⟩
theorem less_kit2 : ∃ L : Int → Int → Int → Int → Bool, (∀ a b c d, L a b c d = lessT ⟨a, b⟩ ⟨c, d⟩) ∧ ∀ a b c d W, Calls Tryz.prog 124 #[.agg #[.int .i64 a, .int .i64 b], .agg #[.int .i64 c, .int .i64 d]] W fun e w' => e = .returned (.bool (L a b c d)) ∧ ∃ q os', w' = grow (W.drewN q) os' :=
  ⟨fun a b c d => lessT ⟨a, b⟩ ⟨c, d⟩, fun _ _ _ _ => rfl, fun a b c d W => less_kit ⟨a, b⟩ ⟨c, d⟩ W⟩
set_option maxHeartbeats 1000000 in
theorem cmp_any (x y : TagD) (W : World) : Calls Tryz.prog 123 #[.agg #[.int .i64 x.r, .int .i64 x.n], .agg #[.int .i64 y.r, .int .i64 y.n]] W fun e w' => e = .returned (.int .i64 (cfT x y)) ∧ ∃ q os', w' = grow (W.drewN q) os' := by
  obtain ⟨L, hL, c⟩ := less_kit2
  obtain ⟨xr, xn⟩ := x
  obtain ⟨yr, yn⟩ := y
  have h0 : cfT ⟨xr, xn⟩ ⟨yr, yn⟩ = if L xr xn yr yn = true then -1 else if L yr yn xr xn = true then 1 else 0 := by rw [hL, hL]; rfl
  clear hL
  generalize cfT ⟨xr, xn⟩ ⟨yr, yn⟩ = R at h0 ⊢
  have H0 := Lib.hid h0
  clear h0
  simp only
  cases h1 : L xr xn yr yn with
  | true =>
    go_enter Tryz.func123, Tryz.ntmps123
    go_wp2_with (go_at_call 124; refine (c _ _ _ _ _).mono ?_; rintro e w1 ⟨rfl, q1, os1, hw1⟩; have hc := fun (p : Addr) (hp : p.block < _) => cell_grown (p := p) hw1 hp; have HW1 := Lib.hid hw1; clear hw1)
    go_ret
    have h0 : R = _ := H0
    exact ⟨by rw [h0, h1]; rfl, q1, one_grown HW1⟩
  | false => cases h2 : L yr yn xr xn with
    | true =>
      go_enter Tryz.func123, Tryz.ntmps123
      go_wp2_with (first | (have z0 := q1; (go_at_call 124; refine (c _ _ _ _ _).mono ?_; rintro e w2 ⟨rfl, q2, os2, hw2⟩; have HW2 := Lib.hid hw2; clear hw2)) | (go_at_call 124; refine (c _ _ _ _ _).mono ?_; rintro e w1 ⟨rfl, q1, os1, hw1⟩; have hc := fun (p : Addr) (hp : p.block < _) => cell_grown (p := p) hw1 hp; have HW1 := Lib.hid hw1; clear hw1))
      go_ret
      have h0 : R = _ := H0
      exact ⟨by rw [h0, h1, h2]; rfl, q1 + q2, two_grown HW1 HW2⟩
    | false =>
      go_enter Tryz.func123, Tryz.ntmps123
      go_wp2_with (first | (have z0 := q1; (go_at_call 124; refine (c _ _ _ _ _).mono ?_; rintro e w2 ⟨rfl, q2, os2, hw2⟩; have HW2 := Lib.hid hw2; clear hw2)) | (go_at_call 124; refine (c _ _ _ _ _).mono ?_; rintro e w1 ⟨rfl, q1, os1, hw1⟩; have hc := fun (p : Addr) (hp : p.block < _) => cell_grown (p := p) hw1 hp; have HW1 := Lib.hid hw1; clear hw1))
      go_ret
      have h0 : R = _ := H0
      exact ⟨by rw [h0, h1, h2]; rfl, q1 + q2, two_grown HW1 HW2⟩
end Go.Vm
end
section
namespace Go.Vm
open Go.RowKit
set_option linter.unusedVariables false
set_option linter.unusedSimpArgs false

def dropGK (id : Nat) (s : S) (K : S → Prop) : Prop := match s with
  | .sref u sz n => match Nat.beq u id with
    | true => K .junk
    | false => K (.sref u sz n)
  | .gref u sz n => match Nat.beq u id with
    | true => K .junk
    | false => K (.gref u sz n)
  | .ref u off => match Nat.beq u id with
    | true => K .junk
    | false => K (.ref u off)
  | s => sK s K
theorem dropGK_spec {id : Nat} (s : S) (K : S → Prop) (h : dropGK id s K) : K (dropG id s) := by
  cases s with
  | sref u sz n =>
    simp only [dropGK] at h
    show K (if u = id then .junk else .sref u sz n)
    split at h
    · rename_i hb; rw [if_pos (Nat.eq_of_beq_eq_true hb)]; exact h
    · rename_i hb; rw [if_neg (fun e => by rw [e, Nat.beq_refl] at hb; cases hb)]; exact h
  | gref u sz n =>
    simp only [dropGK] at h
    show K (if u = id then .junk else .gref u sz n)
    split at h
    · rename_i hb; rw [if_pos (Nat.eq_of_beq_eq_true hb)]; exact h
    · rename_i hb; rw [if_neg (fun e => by rw [e, Nat.beq_refl] at hb; cases hb)]; exact h
  | ref u off =>
    simp only [dropGK] at h
    show K (if u = id then .junk else .ref u off)
    split at h
    · rename_i hb; rw [if_pos (Nat.eq_of_beq_eq_true hb)]; exact h
    · rename_i hb; rw [if_neg (fun e => by rw [e, Nat.beq_refl] at hb; cases hb)]; exact h
  | c x => cases x <;> exact h
  | _ => exact h
theorem nameS_dropG {id : Nat} (s : S) : dropG id (nameS s) = nameS s := by cases s <;> rfl
theorem envT_appG {t t1 t2 t3 : Tr} {h : Hp} {id d : Nat} {s g : S} (hd : d < NAM) (hid : id < NAM) (hdi : d ≠ id) (h1 : ∀ u, t1.get u = dropG id (t.get u)) (h2 : ∀ u, t2.get u = if u = id then g else t1.get u) (h3 : ∀ u, t3.get u = if u = d then s else t2.get u) : envT t3 h = appG (envT t h) id d s g := by
  funext u
  simp only [envT, appG, h3, h2, h1]
  by_cases e : u = d
  · subst e; simp [hd]
  · simp only [if_neg e]
    by_cases e2 : u = id
    · subst e2; simp [hid]
    · simp only [if_neg e2]
      split
      · rfl
      · exact (nameS_dropG _).symm
theorem envT_setG {t t2 t3 : Tr} {h : Hp} {id d : Nat} {s g : S} (hd : d < NAM) (hid : id < NAM) (h2 : ∀ u, t2.get u = if u = id then g else t.get u) (h3 : ∀ u, t3.get u = if u = d then s else t2.get u) : envT t3 h = setG (envT t h) id d s g := by
  funext u
  simp only [envT, setG, h3, h2]
  by_cases e : u = d
  · subst e; simp [hd]
  · simp only [if_neg e]
    by_cases e2 : u = id
    · subst e2; simp [hid]
    · simp only [if_neg e2]

section
variable {P : Program} {N : Nat} {t : Tr} {h : Hp} {o : Oper}
theorem at_row {id sz : Nat} {xs : List D} (hi : id < NAM) (hg : t.get id = .gbox sz xs) : envT t h id = .gbox sz xs := by rw [envT_lt hi, hg]
theorem x_appG {T e : TypeId} {sz bytes id n d m : Nat} {x y : Operand} {xs ys zs : List D} {K : Tr → Hp → Prop} (hT : elemFull P T = some (e, sz, bytes))
    (hx : vget (envT t h) x = .sref id sz n) (hg : t.get id = .gbox sz xs) (hy : vd (envT t h) y = some (.row ys)) (hn : xs.length = n) (hw : ∀ y ∈ ys, y.cells.length = sz) (h63 : n + ys.length ≤ maxLen) (hby : (n + ys.length) * bytes ≤ 140737488355328) (hz : xs ++ ys = zs) (hm : n + ys.length = m)
    (hk : mapK (dropGK id) t fun t1 => setK 20 t1 id (.gbox sz zs) fun t2 => setK 20 t2 d (.sref id sz m) fun t3 => K t3 h)
    (hop : o.op = .call { callee := .builtin .append, args := #[x, y], argTypes := #[T, T] } := by rfl) (hd : o.dst = some d := by rfl) (hdN : d < N := by exact Nat.le_of_ble_eq_true rfl) (hNB : N ≤ BIG := by exact Nat.le_of_ble_eq_true rfl) (hid : BIG ≤ id := by exact Nat.le_of_ble_eq_true rfl) (hid2 : id < NAM := by exact Nat.le_of_ble_eq_true rfl) :
    StepP P N o (envT t h) fun e => ∃ (t' : Tr) (h' : Hp), e = envT t' h' ∧ K t' h' := by
  refine stepP_of ?_
  subst hz hm
  obtain ⟨t1, k1, hk⟩ := mapK_spec (f := dropG id) rfl dropGK_spec hk
  obtain ⟨t2, k2, hk⟩ := setK_spec hk
  obtain ⟨t3, k3, hk⟩ := setK_spec hk
  have hdB : d < BIG := Nat.lt_of_lt_of_le hdN hNB
  exact ⟨t3, h, by rw [envT_appG (nam hdB) hid2 (by omega) k1 k2 k3]; exact s_appendG hop hT hx (at_row hid2 hg) hn hy hw h63 hby hd hdN hdB, hk⟩
theorem x_freezeG {sz id n d : Nat} {x : Operand} {xs : List D} {K : Tr → Hp → Prop} (hx : vget (envT t h) x = .sref id sz n) (hg : t.get id = .gbox sz xs) (hn : xs.length = n)
    (hk : mapK (dropGK id) t fun t1 => setK 20 t1 id (.gbox sz []) fun t2 => setK 20 t2 d (.c (.d (.row xs))) fun t3 => K t3 h)
    (hop : o.op = .move x ∨ o.op = .assign x := by first | exact .inl rfl | exact .inr rfl) (hd : o.dst = some d := by rfl) (hdN : d < N := by exact Nat.le_of_ble_eq_true rfl) (hNB : N ≤ BIG := by exact Nat.le_of_ble_eq_true rfl) (hid : BIG ≤ id := by exact Nat.le_of_ble_eq_true rfl) (hid2 : id < NAM := by exact Nat.le_of_ble_eq_true rfl) :
    StepP P N o (envT t h) fun e => ∃ (t' : Tr) (h' : Hp), e = envT t' h' ∧ K t' h' := by
  refine stepP_of ?_
  obtain ⟨t1, k1, hk⟩ := mapK_spec (f := dropG id) rfl dropGK_spec hk
  obtain ⟨t2, k2, hk⟩ := setK_spec hk
  obtain ⟨t3, k3, hk⟩ := setK_spec hk
  have hdB : d < BIG := Nat.lt_of_lt_of_le hdN hNB
  exact ⟨t3, h, by rw [envT_appG (nam hdB) hid2 (by omega) k1 k2 k3]; exact s_freezeG hop hx (at_row hid2 hg) hn hd hdN hdB, hk⟩
theorem x_turnG {f : FuncId} {ts : Array TypeId} {sz id n d : Nat} {x y : Operand} {xs xs' : List D} {dy : D} {K : Tr → Hp → Prop} (hf : enters P f = true) (hc : InPlace P f sz xs xs' dy) (hx : vget (envT t h) x = .sref id sz n) (hg : t.get id = .gbox sz xs) (hy : vd (envT t h) y = some dy) (hn : xs.length = n) (hl : xs'.length = xs.length) (hw : ∀ x ∈ xs', x.cells.length = sz)
    (hk : setK 20 t id (.gbox sz xs') fun t2 => setK 20 t2 d (.tup []) fun t3 => K t3 h)
    (hop : o.op = .call { callee := .value (.func f), args := #[x, y], argTypes := ts } := by rfl) (hd : o.dst = some d := by rfl) (hdN : d < N := by exact Nat.le_of_ble_eq_true rfl) (hNB : N ≤ BIG := by exact Nat.le_of_ble_eq_true rfl) (hid2 : id < NAM := by exact Nat.le_of_ble_eq_true rfl) :
    StepP P N o (envT t h) fun e => ∃ (t' : Tr) (h' : Hp), e = envT t' h' ∧ K t' h' := by
  refine stepP_of ?_
  obtain ⟨t2, k2, hk⟩ := setK_spec hk
  obtain ⟨t3, k3, hk⟩ := setK_spec hk
  have hdB : d < BIG := Nat.lt_of_lt_of_le hdN hNB
  exact ⟨t3, h, by rw [envT_setG (nam hdB) hid2 k2 k3]; exact s_callG hop hf hc hx (at_row hid2 hg) hn hl hw hy hd hdN hdB, hk⟩
theorem xnilG {c : Code} {Q : Exit → Env → Prop} (u id sz : Nat) (hu : t.get u = .c .nil) (hb : u < NAM) (hid2 : id < NAM) (hid : BIG ≤ id) (h0 : 0 < sz) (hk : setK 20 t id (.gbox sz []) fun t => setK 20 t u (.sref id sz 0) fun t => Leaf (VC P N c (envT t h) Q)) : Leaf (VC P N c (envT t h) Q) := by
  obtain ⟨t2, k2, hk⟩ := setK_spec hk
  obtain ⟨t3, k3, hk⟩ := setK_spec hk
  refine ⟨fun base w0 ro0 a w ⟨ro, blk, hs⟩ => hk.out base w0 ro0 a w ⟨ro, blk, ?_⟩⟩
  rw [envT_set hb k3, envT_set hid2 k2]
  by_cases e : u = id
  · subst e
    have h1 := hs.nilG (sz := sz) (u := u) (by rw [envT_lt hb]; exact hu) hid
    have e2 : upd (upd (envT t h) (some u) (.gbox sz [])) (some u) (.sref u sz 0) = upd (envT t h) (some u) (.sref u sz 0) := by
      funext v; simp only [upd]; split <;> rfl
    rw [e2]; exact h1
  · have h1 := hs.noneG (id := id) h0
    exact h1.nilG (by simp only [upd, if_neg e]; rw [envT_lt hb]; exact hu) hid
/-- What is moved, as a row that nobody appends to. -/
theorem y_frz {x : Operand} {r : D} {env : Env} (hop : o.op = .move x ∨ o.op = .assign x) (hx : vd env x = some r) {d : Nat} (hdst : o.dst = some d) (hd : d < N) : Yield P N o env (.c (.d r)) := by
  refine yield_of hdst hd fun env' he base w0 ro0 ro blk a w hs => ?_
  have h2 := hs.getD (x := x) (by rw [he.getD (by rcases hop with h | h <;> simp [h, Op.operands])]; exact hx)
  exact ⟨a.eval x, w, ro, by rcases hop with h | h <;> simp [execOp, h], Grow.refl hs.new, h2⟩
theorem x_frz {x : Operand} {r : List D} {d : Nat} {K : S → Hp → Prop} (hK : K (.c (.d (.row r))) h) (hop : o.op = .move x ∨ o.op = .assign x := by first | exact .inl rfl | exact .inr rfl) (hx : vd (envT t h) x = some (.row r) := by rfl) (hd : o.dst = some d := by rfl) (hdN : d < N := by exact Nat.le_of_ble_eq_true rfl) :
    ∃ (s : S) (h' : Hp), Step P N o (envT t h) (upd (envT t h') (some d) s) ∧ K s h' := x_fy (y_frz hop hx hd hdN) hK hd
/-- A function value that is called. -/
theorem y_callF {f : FuncId} {g : Operand} {xs : Array Operand} {ts : Array TypeId} {ds : List D} {res : List C} {env : Env} (hop : o.op = .call { callee := .value g, args := xs, argTypes := ts }) (hg : vd env g = some (.fn f [])) (hf : enters P f = true) (hx : vargs env xs.toList = some ds) (hc : Contract P f ds res) {d : Nat} (hdst : o.dst = some d) (hd : d < N) : Yield P N o env (resS (res.map (setTok d))) := by
  intro env' he base w0 ro0 a w ⟨ro, blk, hs⟩ K Q hK
  have hx' : vargs env' xs.toList = some ds := by
    rw [← hx]
    refine vargs_agree fun x hm => he.getD ?_
    simp only [hop, Op.operands, Call.operands]
    simp [Array.mem_toList_iff.1 hm]
  obtain ⟨h1, h2⟩ := vargs_rep hs hx'
  have hgr := hs.getD (x := g) (by rw [he.getD (by simp [hop, Op.operands, Call.operands])]; exact hg)
  have hgv : a.eval g = .func (.func f) #[] #[] := by
    generalize hz : a.eval g = z at hgr
    cases hgr with
    | @fn f cap cs hl _ => obtain rfl : cap = #[] := Array.eq_empty_of_size_eq_zero (by simpa using hl); rfl
  unfold Oper.wp
  have hrun : (execOp a.eval o).run P w = .ok (.enter f (xs.map a.eval)) w := by
    unfold enters at hf
    split at hf
    · rename_i fn hfn
      simp only [Bool.and_eq_true, bne_iff_ne, ne_eq] at hf
      cases hbody : fn.body with
      | none => rw [hbody] at hf; simp at hf
      | some c => simp [execOp, hop, resolve, hgv, Deferred.ofValue, invoke, callFunc, hfn, hf.1, hbody]
    · cases hf
  rw [hrun, Oper.upon_enter]
  refine (hc ro w (xs.map a.eval) d hs.new hs.uniq (by simpa using h1) (by simpa using h2)).mono ?_
  rintro e w' ⟨v, ro', rfl, hg, hsat⟩
  rw [hdst] at hK ⊢
  exact hK _ _ ⟨ro', blk, hs.put hg hd (sat_res hs.room hsat) (resS_free _)⟩
theorem x_callF {f : FuncId} {g : Operand} {xs : Array Operand} {ts : Array TypeId} {ds : List D} {res : List C} {d : Nat} {K : S → Hp → Prop} (hf : enters P f = true) (hc : Contract P f ds res) (hK : K (resS (res.map (setTok d))) h)
    (hop : o.op = .call { callee := .value g, args := xs, argTypes := ts } := by rfl) (hg : vd (envT t h) g = some (.fn f []) := by rfl) (hx : vargs (envT t h) xs.toList = some ds := by rfl) (hd : o.dst = some d := by rfl) (hdN : d < N := by exact Nat.le_of_ble_eq_true rfl) :
    ∃ (s : S) (h' : Hp), Step P N o (envT t h) (upd (envT t h') (some d) s) ∧ K s h' :=
  x_fy (y_callF hop hg hf hx hc hd hdN) hK hd
end
end Go.Vm
end
section
namespace Go.Vm
open Go.RowKit Go.Proofs Go.Sort Go.Lib
set_option linter.unusedVariables false
set_option linter.unusedSimpArgs false

instance : Inhabited TagD := ⟨noTag⟩
theorem flat_tags : ∀ (ts : List TagD), flat (ts.map tD) = (ts.flatMap encT).map D.sc
  | [] => rfl
  | t :: ts => by
    have := flat_tags ts
    simp only [flat] at this
    simp [flat, tD, D.cells, encT, this]
theorem plain_enc (ts : List TagD) : ∀ u ∈ ts.flatMap encT, plainV u = true := by
  intro u hu
  obtain ⟨t, _, h⟩ := List.mem_flatMap.1 hu
  simp [encT] at h
  rcases h with rfl | rfl <;> rfl
theorem reps_sc {ro : Roles} {w : World} {us vs : List Value} (h : Reps ro w us (vs.map D.sc)) : us = vs := by
  refine List.ext_getElem? fun j => ?_
  have hl : us.length = vs.length := by simpa using h.1
  cases hu : us[j]? with
  | none =>
    rw [List.getElem?_eq_none_iff] at hu
    exact (List.getElem?_eq_none (by omega)).symm
  | some u =>
    have hlt := (List.getElem?_eq_some_iff.1 hu).1
    have hv : vs[j]? = some vs[j] := List.getElem?_eq_getElem (by omega)
    have := h.2.2 j u (.sc vs[j]) hu (by rw [List.getElem?_map, hv]; rfl)
    rw [hv, (rep_sc this).1]
theorem sc_reps {ro : Roles} {w : World} {vs : List Value} (h : ∀ u ∈ vs, plainV u = true) : Reps ro w vs (vs.map D.sc) := by
  refine ⟨by simp, fun u hu => plainV_one (h u hu), fun j u c hu hc => ?_⟩
  rw [List.getElem?_map, hu] at hc
  injection hc with hc
  subst hc
  exact .sc (h u (List.mem_of_getElem? hu))
theorem flat_enc_len (ts : List TagD) : (ts.flatMap encT).length = ts.length * 2 := by
  induction ts with
  | nil => rfl
  | cons t ts ih => rw [List.flatMap_cons, List.length_append, ih, List.length_cons, Nat.add_mul]; simp [encT]; omega
theorem flat_enc_at : ∀ (ts : List TagD) (t : Nat), t < ts.length * 2 → (ts.flatMap encT)[t]? = some ((encT ts[t / 2]!)[t % 2]!)
  | [], t, h => by simp at h
  | x :: ts, 0, _ => rfl
  | x :: ts, 1, _ => rfl
  | x :: ts, t + 2, h => by
    rw [List.flatMap_cons, List.getElem?_append_right (by simp [encT])]
    have e : t + 2 - (encT x).length = t := by simp [encT]
    rw [e, flat_enc_at ts t (by rw [List.length_cons] at h; omega)]
    rw [show (t + 2) / 2 = t / 2 + 1 by omega, show (t + 2) % 2 = t % 2 by omega]
    simp
theorem flatK_eq (ts : List TagD) : flatK encT 2 ts.toArray = (ts.flatMap encT).toArray := by
  refine Array.ext (by rw [size_flatK, List.size_toArray, List.size_toArray, flat_enc_len]) fun t h1 h2 => ?_
  have hlt : t < ts.length * 2 := by simpa using h1
  have h3 := get_flatK encT 2 ts.toArray t (by simpa using hlt)
  rw [getElem!_pos _ t h1] at h3
  rw [h3]
  have h4 := flat_enc_at ts t hlt
  have h5 : (ts.flatMap encT).toArray[t]? = (ts.flatMap encT)[t]? := by simp
  rw [Array.getElem?_eq_getElem h2, h4] at h5
  injection h5 with h5
  rw [h5]; simp
theorem cf_swo : SWO (ltOf cfT) := by
  rw [cf_ltF]
  exact ⟨lessT_irrefl, fun _ _ _ h k => lessT_trans h k, fun _ _ _ h k => lessT_ntrans h k⟩
theorem cf_parts : ∀ x y, (ltOf cfT) x y = false → (ltOf cfT) y x = false → x = y := by
  rw [cf_ltF]
  exact fun _ _ h k => lessT_total h k
theorem rep_fn {ro : Roles} {w : World} {v : Value} {f : FuncId} (h : Rep ro w v (.fn f [])) : v = .func (.func f) #[] #[] := by
  cases h with
  | @fn f cap cs hl _ => obtain rfl : cap = #[] := Array.eq_empty_of_size_eq_zero (by simpa using hl); rfl
theorem tags_sort (ts : List TagD) (hn : ts.length ≤ 1000000) : InPlace Tryz.prog 122 2 (ts.map tD) ((sortT ts).map tD) (.fn 123 []) := by
  intro ro w fv hfv
  obtain rfl := rep_fn hfv
  refine ⟨fun _ => AnyF.slices_SortFunc_none Tryz.sortTag none 0 _ w, fun b cap arr e hh hcap hm hsz hr => ?_⟩
  rw [List.length_map] at hcap hr ⊢
  rw [flat_tags] at hr
  have hus := reps_sc hr
  have hlt := block_lt hh
  have hle : ts.length * 2 ≤ arr.size := by rw [hsz]; exact Nat.mul_le_mul_right _ hcap
  have hcell : ∀ j, w.cell? ⟨b, j, none⟩ = arr[j]? := fun j => by
    have := cell_of_row w b j arr e (0, 0) hh
    simpa using this
  have hget : ∀ j, j < ts.length * 2 → arr[j]? = some ((ts.flatMap encT).toArray[j]!) := by
    intro j hj
    have h1 : (arr.toList.take (ts.length * 2))[j]? = (ts.flatMap encT)[j]? := by rw [hus]
    rw [List.getElem?_take, if_pos hj] at h1
    have h2 : j < (ts.flatMap encT).length := by rw [flat_enc_len]; exact hj
    rw [getElem!_pos _ j (by simpa using h2)]
    rw [List.getElem?_eq_getElem h2] at h1
    simpa using h1
  have hH : HoldsK encT 2 w b 0 ts.toArray := by
    unfold HoldsK
    rw [flatK_eq]
    intro j hj
    have hj2 : j < ts.length * 2 := by rw [List.size_toArray, flat_enc_len] at hj; exact hj
    rw [Nat.zero_add]
    refine ⟨by rw [hcell, hget j hj2]; rfl, ?_⟩
    simp [World.frozen?, hh]
  have hcon := AnyQ.slices_SortFunc_total Tryz.sortTag 2 Tryz.isAgg23 Tryz.sizeOf23 encT (fun _ => rfl) (fun x v hv => by simp [encT] at hv; rcases hv with rfl | rfl <;> rfl) cfT cf_swo 123 #[] b 0 cap ts.toArray w (enters_of Tryz.func123 (by kernel_rfl) rfl) (fun _ _ _ _ x y => cmp_any x y _) hH hlt (by simp; omega) cf_parts
  rw [cf_le] at hcon
  refine hcon.mono ?_
  rintro e' w' ⟨rfl, n, os, rfl⟩
  have hsl := sortT_len ts
  have hfk : flatK encT 2 (List.mergeSort ts.toArray.toList leT).toArray = ((sortT ts).flatMap encT).toArray := flatK_eq (sortT ts)
  have hb2 : (mapBlock (Sort.ahead w n) b (putCells id 0 (flatK encT 2 (List.mergeSort ts.toArray.toList leT).toArray))).heap.size = w.heap.size := by simp [mapBlock, Sort.ahead]
  have hat : ∀ k, k < w.heap.size → (sortWorldK encT 2 w b 0 n (List.mergeSort ts.toArray.toList leT).toArray os).heap[k]? = if b = k then some (.cells (putCells id 0 ((sortT ts).flatMap encT).toArray arr) e (0, 0)) else w.heap[k]? := by
    intro k hk
    unfold sortWorldK putRowK putRow
    rw [hfk]
    have h1 : (grow (mapBlock (Sort.ahead w n) b (putCells id 0 ((sortT ts).flatMap encT).toArray)) os).heap[k]? = (mapBlock (Sort.ahead w n) b (putCells id 0 ((sortT ts).flatMap encT).toArray)).heap[k]? := by
      unfold grow
      exact Array.getElem?_append_left (by simpa [mapBlock, Sort.ahead] using hk)
    rw [h1]
    show (w.heap.modify b (onCells _))[k]? = _
    rw [Array.getElem?_modify]
    split
    · rename_i e2; subst e2; rw [hh]; rfl
    · rfl
  refine ⟨rfl, rfl, rfl, rfl, size_sortWorldK_c encT 2 w b 0 n _ os, fun k hk hne => ?_, putCells id 0 ((sortT ts).flatMap encT).toArray arr, ?_, ?_, ?_⟩
  · rw [hat k hk, if_neg (fun e2 => hne e2.symm)]
  · rw [hat b hlt, if_pos rfl]
  · simp [putCells]
  · have e2 : (putCells id 0 ((sortT ts).flatMap encT).toArray arr).toList.take (ts.length * 2) = (sortT ts).flatMap encT := by
      refine List.ext_getElem? fun j => ?_
      rw [List.getElem?_take]
      have hfl := flat_enc_len (sortT ts)
      split
      · rename_i hj
        have hj2 : j < arr.size := by omega
        have hj3 : j < ((sortT ts).flatMap encT).length := by omega
        generalize (sortT ts).flatMap encT = F at hj3 ⊢
        simp [putCells, hj2, hj3]
      · rename_i hj
        exact (List.getElem?_eq_none (by omega)).symm
    rw [e2, flat_tags]
    exact sc_reps (plain_enc _)
end Go.Vm
end
section
namespace Go.Vm
open Go.RowKit Go.Proofs
set_option linter.unusedVariables false
set_option linter.unusedSimpArgs false
set_option maxRecDepth 10000
theorem v_23 (x : TagD) : conc (tD x) = some (.agg #[.int .i64 x.r, .int .i64 x.n]) := rfl
theorem rune_23 (r s : TagD) (x y : Operand) (w : World) : (do eqGuard .eql 23 x y (.agg #[.int .i64 r.r, .int .i64 r.n]) (.agg #[.int .i64 s.r, .int .i64 s.n]); binOp .eql 23 (.agg #[.int .i64 r.r, .int .i64 r.n]) (.agg #[.int .i64 s.r, .int .i64 s.n]) : Sem Value).run Tryz.prog w = .ok (.bool (decide (r = s))) w := by
  obtain ⟨a, b⟩ := r
  obtain ⟨a', b'⟩ := s
  simp [go_sem, eq_strs]
  repeat (first | (split <;> simp_all; done) | split)
  all_goals simp_all
theorem xeq_23e {x y : Operand} {K : Value → Prop} (r s : TagD) (hK : K (.bool (decide (r = s)))) : ∃ u v r', (conc (tD r) = some u ∧ conc (tD s) = some v) ∧ (∀ w, (do eqGuard .eql 23 x y u v; binOp .eql 23 u v : Sem Value).run Tryz.prog w = .ok r' w) ∧ plainV r' = true ∧ K r' := x_eqS (v_23 r) (v_23 s) (fun w => rune_23 r s x y w) rfl hK
theorem runn_23 (r s : TagD) (x y : Operand) (w : World) : (do eqGuard .neq 23 x y (.agg #[.int .i64 r.r, .int .i64 r.n]) (.agg #[.int .i64 s.r, .int .i64 s.n]); binOp .neq 23 (.agg #[.int .i64 r.r, .int .i64 r.n]) (.agg #[.int .i64 s.r, .int .i64 s.n]) : Sem Value).run Tryz.prog w = .ok (.bool (!decide (r = s))) w := by
  obtain ⟨a, b⟩ := r
  obtain ⟨a', b'⟩ := s
  simp [go_sem, eq_strs]
  repeat (first | (split <;> simp_all; done) | split)
  all_goals simp_all
theorem xeq_23n {x y : Operand} {K : Value → Prop} (r s : TagD) (hK : K (.bool (!decide (r = s)))) : ∃ u v r', (conc (tD r) = some u ∧ conc (tD s) = some v) ∧ (∀ w, (do eqGuard .neq 23 x y u v; binOp .neq 23 u v : Sem Value).run Tryz.prog w = .ok r' w) ∧ plainV r' = true ∧ K r' := x_eqS (v_23 r) (v_23 s) (fun w => runn_23 r s x y w) rfl hK
theorem tag_rep {ro : Roles} {w : World} {v : Value} {t : TagD} (h : Rep ro w v (tD t)) : v = .agg #[.int .i64 t.r, .int .i64 t.n] := rep_conc h (v_23 t)
theorem tag_check (b : Bool) (t : TagD) (w : World) : (Instr.checkKey b 10000 23 (.agg #[.int .i64 t.r, .int .i64 t.n])).run Tryz.prog w = .ok () w := pureRun_run (by rfl) w
theorem tag_eql (r s : TagD) (w : World) : (binOp .eql 23 (.agg #[.int .i64 r.r, .int .i64 r.n]) (.agg #[.int .i64 s.r, .int .i64 s.n])).run Tryz.prog w = .ok (.bool (decide (r = s))) w := by
  obtain ⟨a, b⟩ := r
  obtain ⟨a', b'⟩ := s
  simp [go_sem]
  repeat (first | (split <;> simp_all; done) | split)
  all_goals simp_all
theorem tag_equal (r s : TagD) (w : World) : (Op.equal 23 (.agg #[.int .i64 r.r, .int .i64 r.n]) (.agg #[.int .i64 s.r, .int .i64 s.n])).run Tryz.prog w = .ok (decide (r = s)) w := by
  have h := tag_eql r s w
  change (Op.equal 23 _ _ >>= fun r => pure (Value.bool r)).run Tryz.prog w = _ at h
  rw [Sem.run_bind] at h
  cases hq : (Op.equal 23 (.agg #[.int .i64 r.r, .int .i64 r.n]) (.agg #[.int .i64 s.r, .int .i64 s.n])).run Tryz.prog w with
  | ok b w1 =>
    rw [hq] at h
    simp only [Result.andThen_ok, Sem.run_pure, Result.ok.injEq, Value.bool.injEq] at h
    rw [h.1, h.2]
  | halt e w1 => rw [hq] at h; cases h
theorem tagKey : KeyOk Tryz.prog 23 (fun d => ∃ t : TagD, d = tD t) where
  kind := ⟨_, Tryz.underlying23⟩
  check := by rintro ro w v d b ⟨t, rfl⟩ h; rw [tag_rep h]; exact tag_check b t w
  same := by
    rintro ro w v u d e ⟨t, rfl⟩ ⟨s, rfl⟩ h k
    rw [tag_rep h, tag_rep k]
    exact ⟨_, tag_equal t s w, by rw [decide_eq_true_eq]; exact ⟨fun e => by rw [e], tD_inj⟩⟩
  bits := by rintro ro w v u d ⟨t, rfl⟩ h k; rw [tag_rep h, tag_rep k]; simp [Instr.sameBits]
theorem zeroNode : zeroD Tryz.prog 106 = some (nD noNode) := by kernel_rfl

end Go.Vm
end
section
namespace Go.Vm
open Go.RowKit Go.Proofs
set_option linter.unusedVariables false
set_option linter.unusedSimpArgs false
set_option maxRecDepth 10000

set_option maxHeartbeats 1000000 in
theorem tag_any (t : TagD) : Contract Tryz.prog 44 [tD t] [.d (.sc (.bool (tagB t)))] := by
 refine T.fn [] Tryz.func44 ?_
 refine br (fun hg1 => ?y1) (fun hg1 => ?n1)
 case' y1 =>
  refine br (fun hg2 => ?y2) (fun hg2 => ?n2)
  case' y2 =>
   refine br (fun hg3 => ?y3) (fun hg3 => ?n3)
  case' n2 =>
   refine brF ?_
 case' n1 =>
  refine brF ?_
  refine brF ?_
 all_goals (refine x_ret ?_; simp only [fitsL, fits, C.asD, and_true] <;> (refine scb ?_; unfold tagB; first | (simp_all; done) | (simp_all; omega) | (rw [Bool.eq_iff_iff]; simp_all <;> omega)))

set_option maxHeartbeats 1000000 in
theorem refTag_any (t : TagD) : Contract Tryz.prog 47 [tD t] [.d (.sc (.bool (tagB t)))] := by
 refine T.fn [] Tryz.func47 ?_
 refine br (fun hg1 => ?y1) (fun hg1 => ?n1)
 case' y1 =>
  refine br (fun hg2 => ?y2) (fun hg2 => ?n2)
  case' y2 =>
   refine br (fun hg3 => ?y3) (fun hg3 => ?n3)
  case' n2 =>
   refine brF ?_
 case' n1 =>
  refine brF ?_
  refine brF ?_
 all_goals (refine x_ret ?_; simp only [fitsL, fits, C.asD, and_true] <;> (refine scb ?_; unfold tagB; first | (simp_all; done) | (simp_all; omega) | (rw [Bool.eq_iff_iff]; simp_all <;> omega)))

set_option maxHeartbeats 1000000 in
theorem less_tag (a b : TagD) : Contract Tryz.prog 124 [tD a, tD b] [.d (.sc (.bool (lessT a b)))] := by
 refine T.fn [] Tryz.func124 ?_
 refine br (fun hc1 => ?y1) (fun hc1 => ?n1)
 all_goals (refine x_ret ?_; simp only [fitsL, fits, C.asD, and_true] <;> (refine scb ?_; unfold lessT; first | (simp_all; done) | (rw [Bool.eq_iff_iff]; (split <;> simp_all) <;> omega) | (simp_all <;> omega)))

set_option maxHeartbeats 1000000 in
theorem refLess_tag (a b : TagD) : Contract Tryz.prog 69 [tD a, tD b] [.d (.sc (.bool (lessT a b)))] := by
 refine T.fn [] Tryz.func69 ?_
 refine br (fun hg1 => ?y1) (fun hg1 => ?n1)
 case' n1 =>
  refine br (fun hg2 => ?y2) (fun hg2 => ?n2)
 all_goals (refine x_ret ?_; simp only [fitsL, fits, C.asD, and_true] <;> (refine scb ?_; unfold lessT; first | (simp_all; done) | (rw [Bool.eq_iff_iff]; (split <;> simp_all) <;> omega) | (simp_all <;> omega)))

set_option maxHeartbeats 1000000 in
theorem root_any  : Contract Tryz.prog 45 [] [.d (tD noTag)] := by
 refine T.fn [] Tryz.func45 ?_
 all_goals (refine x_ret ?_; simp only [fitsL, fits, C.asD, and_true] <;> (rfl))
end Go.Vm
end
section
namespace Go.Vm
open Go.RowKit Go.Proofs
set_option linter.unusedVariables false
set_option linter.unusedSimpArgs false
set_option maxRecDepth 10000

set_option maxHeartbeats 1000000 in
theorem schemaRoot_any  : Contract Tryz.prog 118 [] [.d (.row (rootS.map fD))] := by
 refine T.fn [] Tryz.func118 ?_
 all_goals (refine x_ret ?_; simp only [fitsL, fits, C.asD, and_true] <;> (rfl))

set_option maxHeartbeats 1000000 in
theorem at_any (t m : Nat) (ht : NAM ≤ t) (hm : NAM ≤ m) (htm : ¬ t = m) (l : List (TagD × NodeD)) (id : TagD) : ContractH Tryz.prog 63 [.ptr t 0, tD id] [(t, .obj [.mp m]), (m, .mapo (ents l))] [.d (nD (atT l id))] [(t, .obj [.mp m]), (m, .mapo (ents l))] := by
 refine T.fnH [15] Tryz.func63 ?_ (by simp only [List.forall_mem_cons, List.not_mem_nil, false_implies, implies_true, and_true]; exact ⟨ht, hm⟩) (by simp [thing]) (by simp [thing])
 have hmt : ¬ m = t := fun e => htm e.symm
 refine And.intro ⟨T.mixed, by decide +kernel⟩ ?_
 refine x_call T.en_45 (root_any) ?_
 first | refine xeq_23e _ _ ?_ | refine xeq_23e _ noTag ?_ | refine xeq_23e noTag _ ?_
 refine br (fun hc1 => ?y1) (fun hc1 => ?n1)
 case' y1 =>
  refine x_call T.en_118 (schemaRoot_any) ?_
 case' n1 =>
  refine And.intro ⟨T.mixed, by decide +kernel⟩ ?_
  refine x_obj ht (by first | rfl | (simp only [hOf, hset, hpost, htm, hmt, if_true, if_false, not_false_eq_true]; first | done | rfl)) ?_
  refine q_look ?_ ⟨hm, (by first | rfl | (simp only [hOf, hset, hpost, htm, hmt, if_true, if_false, not_false_eq_true]; first | done | rfl))⟩ tagKey ⟨_, rfl⟩ (ents_keys _) Tryz.underlying111 zeroNode (look_node _ _)
 all_goals (refine ⟨?_, ⟨⟨ht, (by first | rfl | (simp only [hOf, hset, hpost, htm, hmt, if_true, if_false, not_false_eq_true]; first | done | rfl))⟩, ⟨hm, (by first | rfl | (simp only [hOf, hset, hpost, htm, hmt, if_true, if_false, not_false_eq_true]; first | done | rfl))⟩, trivial⟩⟩; simp only [fitsL, fits, C.asD, and_true] <;> (first | (rw [at_root (by assumption)]; rfl) | (rw [at_other (by assumption)]; rfl)))
end Go.Vm
end
section
namespace Go.Vm
open Go.RowKit Go.Proofs
set_option linter.unusedVariables false
set_option linter.unusedSimpArgs false
set_option maxRecDepth 10000

set_option maxHeartbeats 1000000 in
theorem state_any (t m : Nat) (ht : NAM ≤ t) (hm : NAM ≤ m) (htm : ¬ t = m) (l : List (TagD × NodeD)) (id : TagD) : ContractH Tryz.prog 26 [.ptr t 0, tD id] [(t, .obj [.mp m]), (m, .mapo (ents l))] [.d (.sc (.int .i64 (atT l id).state))] [(t, .obj [.mp m]), (m, .mapo (ents l))] := by
 refine T.fnH [9] Tryz.func26 ?_ (by simp only [List.forall_mem_cons, List.not_mem_nil, false_implies, implies_true, and_true]; exact ⟨ht, hm⟩) (by simp [thing]) (by simp [thing])
 have hmt : ¬ m = t := fun e => htm e.symm
 first | refine And.intro ⟨_, Tryz.underlying53⟩ ?_ | refine x_bin rfl rfl ?_
 refine brF ?_
 refine x_callR T.en_63 (at_any t m ht hm htm l id) ?_ ⟨⟨ht, (by first | rfl | (simp only [hOf, hset, hpost, htm, hmt, if_true, if_false, not_false_eq_true]; first | done | rfl))⟩, ⟨hm, (by first | rfl | (simp only [hOf, hset, hpost, htm, hmt, if_true, if_false, not_false_eq_true]; first | done | rfl))⟩, trivial⟩
 refine x_field Tryz.underlying106 rfl (T.k_3).1 ?_
 all_goals (refine ⟨?_, ⟨⟨ht, (by first | rfl | (simp only [hOf, hset, hpost, htm, hmt, if_true, if_false, not_false_eq_true]; first | done | rfl))⟩, ⟨hm, (by first | rfl | (simp only [hOf, hset, hpost, htm, hmt, if_true, if_false, not_false_eq_true]; first | done | rfl))⟩, trivial⟩⟩; simp only [fitsL, fits, C.asD, and_true] <;> (rfl))

set_option maxHeartbeats 1000000 in
theorem depth_any (t m : Nat) (ht : NAM ≤ t) (hm : NAM ≤ m) (htm : ¬ t = m) (l : List (TagD × NodeD)) (id : TagD) : ContractH Tryz.prog 28 [.ptr t 0, tD id] [(t, .obj [.mp m]), (m, .mapo (ents l))] [.d (.sc (.int .i64 (if (atT l id).state = 2 then (atT l id).depth else -1)))] [(t, .obj [.mp m]), (m, .mapo (ents l))] := by
 refine T.fnH [10] Tryz.func28 ?_ (by simp only [List.forall_mem_cons, List.not_mem_nil, false_implies, implies_true, and_true]; exact ⟨ht, hm⟩) (by simp [thing]) (by simp [thing])
 have hmt : ¬ m = t := fun e => htm e.symm
 first | refine And.intro ⟨_, Tryz.underlying53⟩ ?_ | refine x_bin rfl rfl ?_
 refine brF ?_
 refine x_callR T.en_63 (at_any t m ht hm htm l id) ?_ ⟨⟨ht, (by first | rfl | (simp only [hOf, hset, hpost, htm, hmt, if_true, if_false, not_false_eq_true]; first | done | rfl))⟩, ⟨hm, (by first | rfl | (simp only [hOf, hset, hpost, htm, hmt, if_true, if_false, not_false_eq_true]; first | done | rfl))⟩, trivial⟩
 refine br (fun hc2 => ?y2) (fun hc2 => ?n2)
 all_goals (refine ⟨?_, ⟨⟨ht, (by first | rfl | (simp only [hOf, hset, hpost, htm, hmt, if_true, if_false, not_false_eq_true]; first | done | rfl))⟩, ⟨hm, (by first | rfl | (simp only [hOf, hset, hpost, htm, hmt, if_true, if_false, not_false_eq_true]; first | done | rfl))⟩, trivial⟩⟩; simp only [fitsL, fits, C.asD, and_true] <;> (first | (rw [if_pos (by assumption)]; done) | (rw [if_neg (by assumption)]; done) | simp_all))

set_option maxHeartbeats 1000000 in
theorem schema_any (t m : Nat) (ht : NAM ≤ t) (hm : NAM ≤ m) (htm : ¬ t = m) (l : List (TagD × NodeD)) (id : TagD) (ho : okL (atT l id).schema) : ContractH Tryz.prog 23 [.ptr t 0, tD id] [(t, .obj [.mp m]), (m, .mapo (ents l))] [.d (.row ((if (atT l id).state = 2 then (atT l id).schema else []).map fD)), .d (.sc (.int .i64 (if (atT l id).state = 2 then 0 else if (atT l id).state = 3 then 16 else 13)))] [(t, .obj [.mp m]), (m, .mapo (ents l))] := by
 refine T.fnH [11] Tryz.func23 ?_ (by simp only [List.forall_mem_cons, List.not_mem_nil, false_implies, implies_true, and_true]; exact ⟨ht, hm⟩) (by simp [thing]) (by simp [thing])
 have hmt : ¬ m = t := fun e => htm e.symm
 first | refine And.intro ⟨_, Tryz.underlying53⟩ ?_ | refine x_bin rfl rfl ?_
 refine brF ?_
 refine x_callR T.en_63 (at_any t m ht hm htm l id) ?_ ⟨⟨ht, (by first | rfl | (simp only [hOf, hset, hpost, htm, hmt, if_true, if_false, not_false_eq_true]; first | done | rfl))⟩, ⟨hm, (by first | rfl | (simp only [hOf, hset, hpost, htm, hmt, if_true, if_false, not_false_eq_true]; first | done | rfl))⟩, trivial⟩
 refine br (fun hc2 => ?y2) (fun hc2 => ?n2)
 case' y2 =>
  refine x_call T.en_64 (schemaOwn_any _ ho) ?_
 case' n2 =>
  refine br (fun hc3 => ?y3) (fun hc3 => ?n3)
 all_goals (refine ⟨?_, ⟨⟨ht, (by first | rfl | (simp only [hOf, hset, hpost, htm, hmt, if_true, if_false, not_false_eq_true]; first | done | rfl))⟩, ⟨hm, (by first | rfl | (simp only [hOf, hset, hpost, htm, hmt, if_true, if_false, not_false_eq_true]; first | done | rfl))⟩, trivial⟩⟩; simp only [fitsL, fits, C.asD, and_true] <;> (simp_all))
end Go.Vm
end
section
namespace Go.Vm
set_option linter.unusedVariables false
set_option linter.unusedSimpArgs false

/-- The number of a tag's edge, or -1. -/
def atN (id : TagD) : Nat → List EdgeD → Int
  | _, [] => -1
  | k, e :: l => if e.id = id then (k : Int) else atN id (k + 1) l
def atE (E : List EdgeD) (id : TagD) : Int := atN id 0 E
theorem drop_atE {α : Type} {l : List α} {k : Nat} {x : α} (h : l[k]? = some x) : l.drop k = x :: l.drop (k + 1) := by
  obtain ⟨h1, h2⟩ := List.getElem?_eq_some_iff.1 h
  rw [List.drop_eq_getElem_cons h1, h2]
theorem atN_yes {id : TagD} {E : List EdgeD} {k : Nat} {e : EdgeD} (h : E[k]? = some e) (he : e.id = id) : atN id k (E.drop k) = k := by rw [drop_atE h, atN, if_pos he]
theorem atN_no {id : TagD} {E : List EdgeD} {k : Nat} {e : EdgeD} (h : E[k]? = some e) (he : ¬ e.id = id) : atN id k (E.drop k) = atN id (k + 1) (E.drop (k + 1)) := by rw [drop_atE h, atN, if_neg he]
theorem atN_end {id : TagD} {E : List EdgeD} {k : Nat} (h : E.length ≤ k) : atN id k (E.drop k) = -1 := by rw [List.drop_eq_nil_of_le h]; rfl
theorem atN_cases (id : TagD) : ∀ (k : Nat) (E : List EdgeD), (E.find? (fun e => decide (e.id = id)) = none ∧ atN id k E = -1) ∨ ∃ j e, E[j]? = some e ∧ E.find? (fun e => decide (e.id = id)) = some e ∧ atN id k E = ((k + j : Nat) : Int)
  | _, [] => .inl ⟨rfl, rfl⟩
  | k, e :: E => by
    by_cases h : e.id = id
    · refine .inr ⟨0, e, rfl, by simp [h], ?_⟩
      rw [atN, if_pos h]; simp
    · rcases atN_cases id (k + 1) E with ⟨h1, h2⟩ | ⟨j, x, h1, h2, h3⟩
      · exact .inl ⟨by simp [h]; simpa using h1, by rw [atN, if_neg h]; exact h2⟩
      · refine .inr ⟨j + 1, x, by simpa using h1, ?_, by rw [atN, if_neg h, h3]; congr 1; omega⟩
        rw [List.find?_cons_of_neg (by simpa using h)]; exact h2
theorem atE_cases (E : List EdgeD) (id : TagD) : (edgeOf E id = none ∧ atE E id = -1) ∨ ∃ (j : Nat) (e : EdgeD), E[j]? = some e ∧ edgeOf E id = some e ∧ atE E id = (j : Int) := by
  rcases atN_cases id 0 E with h | ⟨j, e, h1, h2, h3⟩
  · exact .inl h
  · exact .inr ⟨j, e, h1, h2, by unfold atE; simpa using h3⟩
theorem atE_miss {E : List EdgeD} {id : TagD} (h : atE E id < 0) : edgeOf E id = none := by
  rcases atE_cases E id with h1 | ⟨j, e, h1, h2, h3⟩
  · exact h1.1
  · omega
theorem atE_hit {E : List EdgeD} {id : TagD} (h : ¬ atE E id < 0) : ∃ (j : Nat) (e : EdgeD), E[j]? = some e ∧ edgeOf E id = some e ∧ atE E id = (j : Int) := by
  rcases atE_cases E id with h1 | h1
  · omega
  · exact h1

/-! ### Ways -/
def wayN : Nat → List EdgeD → TagD → Option (List EdgeD)
  | 0, _, _ => none
  | n + 1, E, id => if id = noTag then some [] else match edgeOf E id with
    | none => none
    | some e => (wayN n E e.parent).map (· ++ [e])
def wayOf (E : List EdgeD) (id : TagD) : Option (List EdgeD) := wayN (E.length + 1) E id
theorem way_root {n : Nat} {E : List EdgeD} {id : TagD} (h : id = noTag) : wayN (n + 1) E id = some [] := by simp [wayN, h]
theorem way_none {n : Nat} {E : List EdgeD} {id : TagD} (h : ¬ id = noTag) (he : edgeOf E id = none) : wayN (n + 1) E id = none := by simp [wayN, h, he]
theorem way_some {n : Nat} {E : List EdgeD} {id : TagD} {e : EdgeD} (h : ¬ id = noTag) (he : edgeOf E id = some e) : wayN (n + 1) E id = (wayN n E e.parent).map (· ++ [e]) := by simp [wayN, h, he]
/-- What comes of a way. -/
def foldW (w : List EdgeD) : Came := w.foldl (fun r e => stepC r e.lens) (2, rootS, 0)
theorem way_comes : ∀ (n : Nat) (E : List EdgeD) (id : TagD), match wayN n E id with
    | some w => comes n E id = foldW w
    | none => (comes n E id).1 = 0 ∨ (comes n E id).1 = 1
  | 0, E, id => .inr rfl
  | n + 1, E, id => by
    by_cases h0 : id = noTag
    · rw [way_root h0]; subst h0; rw [comes_root]; rfl
    · cases he : edgeOf E id with
      | none => rw [way_none h0 he, comes_none h0 he]; exact .inl rfl
      | some e =>
        rw [way_some h0 he, comes_succ h0 he]
        have ih := way_comes n E e.parent
        cases hw : wayN n E e.parent with
        | some w =>
          rw [hw] at ih
          simp only [Option.map_some] at ih ⊢
          rw [ih]; simp [foldW]
        | none =>
          rw [hw] at ih
          simp only [Option.map_none] at ih ⊢
          refine .inr ?_
          unfold stepC
          rw [if_neg (by omega), if_neg (by omega)]
theorem fold_done (w : List EdgeD) : doneB (foldW w) = true := by
  suffices h : ∀ (r : Came), doneB r = true → doneB (w.foldl (fun r e => stepC r e.lens) r) = true from h _ rfl
  induction w with
  | nil => intro r h; exact h
  | cons e w ih => intro r h; exact ih _ (step_of_done h)
/-- What the document's answer says of a tag: its state, and its schema. -/
theorem state_none {E : List EdgeD} {id : TagD} (h0 : ¬ id = noTag) (h : edgeOf E id = none) : (cameOf E id).1 = 0 ∧ (cameOf E id).2.1 = [] := by rw [came_none h0 h]; exact ⟨rfl, rfl⟩
theorem state_way {E : List EdgeD} {id : TagD} (h : id = noTag ∨ ¬ edgeOf E id = none) (hw : wayOf E id = none) : (cameOf E id).1 = 1 ∧ (cameOf E id).2.1 = [] := by
  by_cases h0 : id = noTag
  · subst h0; simp [wayOf, way_root] at hw
  · cases he : edgeOf E id with
    | none => exact absurd he (h.resolve_left h0)
    | some e =>
      have := way_comes (E.length + 1) E id
      unfold wayOf at hw
      rw [hw, comes_succ h0 he] at this
      simp only at this
      unfold cameOf
      rw [comes_succ h0 he]
      unfold stepC at this ⊢
      split at this
      · split at this <;> simp at this
      · rename_i h2
        rw [if_neg h2] at ⊢
        split at this
        · simp at this
        · rename_i h3; rw [if_neg h3]; exact ⟨rfl, rfl⟩
theorem state_some {E : List EdgeD} {id : TagD} {w : List EdgeD} (hw : wayOf E id = some w) : cameOf E id = foldW w := by
  have := way_comes (E.length + 1) E id
  unfold wayOf at hw
  rw [hw] at this
  exact this
theorem fold3 (r : Came) (h : r.1 = 3) : ∀ (w : List EdgeD), (w.foldl (fun r e => stepC r e.lens) r).1 = 3 ∧ (w = [] ∨ (w.foldl (fun r e => stepC r e.lens) r).2.1 = [])
  | [] => ⟨h, .inl rfl⟩
  | e :: w => by
    have hs : stepC r e.lens = (3, [], 0) := by unfold stepC; rw [if_neg (by omega), if_pos h]
    simp only [List.foldl_cons, hs]
    have h3 := fold3 (3, [], 0) rfl w
    refine ⟨h3.1, .inr ?_⟩
    rcases h3.2 with rfl | h4
    · rfl
    · exact h4
theorem fold_take {w : List EdgeD} {k : Nat} {e : EdgeD} (h : w[k]? = some e) : foldW (w.take (k + 1)) = stepC (foldW (w.take k)) e.lens := by
  unfold foldW
  rw [List.take_add_one, h, List.foldl_append]; rfl
theorem fold_stop {w : List EdgeD} {k : Nat} {e : EdgeD} {s : List FieldD} {d : Int} (h : w[k]? = some e) (hr : foldW (w.take k) = (2, s, d)) (hs : ¬ (applyS s e.lens).2 = 0) : (foldW w).1 = 3 ∧ (foldW w).2.1 = [] := by
  have h1 : foldW (w.take (k + 1)) = (3, [], 0) := by rw [fold_take h, hr]; unfold stepC; rw [if_pos rfl, if_neg hs]
  have h2 : foldW w = (w.drop (k + 1)).foldl (fun r e => stepC r e.lens) (3, [], 0) := by
    rw [← h1]; unfold foldW
    conv => lhs; rw [← List.take_append_drop (k + 1) w, List.foldl_append]
  rw [h2]
  have h3 := fold3 (3, [], 0) rfl (w.drop (k + 1))
  refine ⟨h3.1, ?_⟩
  rcases h3.2 with h4 | h4
  · rw [h4]; rfl
  · exact h4
theorem fold_go {w : List EdgeD} {k : Nat} {e : EdgeD} {s : List FieldD} {d : Int} (h : w[k]? = some e) (hr : foldW (w.take k) = (2, s, d)) (hs : (applyS s e.lens).2 = 0) : foldW (w.take (k + 1)) = (2, (applyS s e.lens).1, d + 1) := by
  rw [fold_take h, hr]; unfold stepC; rw [if_pos rfl, if_pos hs]
theorem fold_okL {w : List EdgeD} (hok : ∀ e ∈ w, okX e.lens) : okL (foldW w).2.1 := by
  suffices h : ∀ (r : Came), okL r.2.1 → okL (w.foldl (fun r e => stepC r e.lens) r).2.1 from h _ okL_root
  induction w with
  | nil => intro r h; exact h
  | cons e w ih =>
    intro r h
    refine ih (fun x hx => hok x (List.mem_cons_of_mem _ hx)) _ ?_
    show okL (stepC r e.lens).2.1
    unfold stepC
    split
    · split
      · exact okL_apply h (hok e (List.mem_cons_self ..))
      · exact okL_nil
    · split <;> exact okL_nil
theorem fold_depth : ∀ (w : List EdgeD) (r : Came), r.1 = 2 → (w.foldl (fun r e => stepC r e.lens) r).1 = 2 → (w.foldl (fun r e => stepC r e.lens) r).2.2 = r.2.2 + w.length
  | [], r, _, _ => by simp
  | e :: w, r, h, h2 => by
    simp only [List.foldl_cons] at h2 ⊢
    by_cases hs : (applyS r.2.1 e.lens).2 = 0
    · have e1 : stepC r e.lens = (2, (applyS r.2.1 e.lens).1, r.2.2 + 1) := by unfold stepC; rw [if_pos h, if_pos hs]
      rw [e1] at h2 ⊢
      rw [fold_depth w _ rfl h2]; simp; omega
    · have e1 : stepC r e.lens = (3, [], 0) := by unfold stepC; rw [if_pos h, if_neg hs]
      rw [e1] at h2
      have := (fold3 (3, [], 0) rfl w).1
      omega
/-- A live tag's way, and how deep it is. -/
theorem live_way {E : List EdgeD} {id : TagD} (h : (cameOf E id).1 = 2) : ∃ w, wayOf E id = some w ∧ (cameOf E id).2.2 = (w.length : Int) := by
  cases hw : wayOf E id with
  | some w =>
    refine ⟨w, rfl, ?_⟩
    have e := state_some hw
    rw [e] at h ⊢
    have := fold_depth w (2, rootS, 0) rfl h
    unfold foldW; rw [this]; simp
  | none =>
    have := way_comes (E.length + 1) E id
    unfold wayOf at hw
    rw [hw] at this
    unfold cameOf at h
    simp only at this
    omega
theorem way_mem : ∀ {n : Nat} {E : List EdgeD} {id : TagD} {w : List EdgeD}, wayN n E id = some w → ∀ e ∈ w, e ∈ E
  | 0, _, _, _, h => by cases h
  | n + 1, E, id, w, h => by
    by_cases h0 : id = noTag
    · rw [way_root h0] at h; injection h with h; subst h; simp
    · cases he : edgeOf E id with
      | none => rw [way_none h0 he] at h; cases h
      | some x =>
        rw [way_some h0 he] at h
        obtain ⟨v, hv, rfl⟩ := Option.map_eq_some_iff.1 h
        intro e hm
        rcases List.mem_append.1 hm with hm | hm
        · exact way_mem hv e hm
        · rw [List.mem_singleton.1 hm]; exact (edge_mem he).1
theorem way_len : ∀ {n : Nat} {E : List EdgeD} {id : TagD} {w : List EdgeD}, wayN n E id = some w → w.length < n
  | 0, _, _, _, h => by cases h
  | n + 1, E, id, w, h => by
    by_cases h0 : id = noTag
    · rw [way_root h0] at h; injection h with h; subst h; simp
    · cases he : edgeOf E id with
      | none => rw [way_none h0 he] at h; cases h
      | some x =>
        rw [way_some h0 he] at h
        obtain ⟨v, hv, rfl⟩ := Option.map_eq_some_iff.1 h
        have := way_len hv
        simp; omega

/-! ### Sorting as the document's answer does it -/
theorem insE_at (e : EdgeD) : ∀ (l : List EdgeD) (j : Nat), j ≤ l.length → (∀ i x, i < j → l[i]? = some x → lessT x.id e.id = true) → (∀ x, l[j]? = some x → lessT x.id e.id = false) → l.take j ++ e :: l.drop j = insE e l
  | [], j, hj, _, _ => by
    obtain rfl : j = 0 := by simpa using hj
    rfl
  | x :: l, 0, _, _, h2 => by
    have := h2 x rfl
    simp [insE, this]
  | x :: l, j + 1, hj, h1, h2 => by
    have hx := h1 0 x (by omega) rfl
    simp only [List.take_succ_cons, List.drop_succ_cons, List.cons_append, insE, hx, if_true]
    rw [insE_at e l j (by simpa using hj) (fun i y hi hy => h1 (i + 1) y (by omega) (by simpa using hy)) (fun y hy => h2 y (by simpa using hy))]
theorem sortE_take {E : List EdgeD} {k : Nat} {e : EdgeD} (h : E[k]? = some e) : sortE (E.take (k + 1)) = insE e (sortE (E.take k)) := by
  unfold sortE
  rw [List.take_add_one, h, List.foldl_append]; rfl
theorem sortE_len (E : List EdgeD) : (sortE E).length = E.length := (sortE_perm E).length_eq
/-- The edges that are taken, one behind the other. -/
def growE (l : List EdgeD) : List EdgeD := l.foldl (fun E e => (putE E e).1) []
theorem growE_take {l : List EdgeD} {k : Nat} {e : EdgeD} (h : l[k]? = some e) : growE (l.take (k + 1)) = (putE (growE (l.take k)) e).1 := by
  unfold growE
  rw [List.take_add_one, h, List.foldl_append]; rfl
theorem put_len {E : List EdgeD} {e : EdgeD} (h : E.length ≤ 40) : (putE E e).1.length ≤ 40 := by
  unfold putE
  split
  · exact h
  · split
    · split <;> exact h
    · split
      · exact h
      · simp; omega
theorem good_empty : Good [] := ⟨by simp, by simp, .nil⟩
theorem grow_good {l : List EdgeD} (hok : ∀ e ∈ l, okX e.lens) : Good (growE l) ∧ (growE l).length ≤ 40 := by
  suffices h : ∀ E, Good E → E.length ≤ 40 → Good (l.foldl (fun E e => (putE E e).1) E) ∧ (l.foldl (fun E e => (putE E e).1) E).length ≤ 40 from h [] good_empty (by simp)
  induction l with
  | nil => intro E h1 h2; exact ⟨h1, h2⟩
  | cons e l ih =>
    intro E h1 h2
    exact ih (fun x hx => hok x (List.mem_cons_of_mem _ hx)) _ (h1.put (hok e (List.mem_cons_self ..))) (put_len h2)
theorem rightL_kind {x : LensD} (h : rightL x = true) : 1 ≤ x.kind := by
  unfold rightL at h
  split at h
  · omega
  · simp only [Bool.and_eq_true] at h
    have h := h.2
    split at h
    · omega
    · simp only [Bool.and_eq_true] at h
      have h := h.2
      split at h
      · omega
      · simp only [Bool.and_eq_true] at h
        have h := h.2
        split at h
        · omega
        · simp only [Bool.and_eq_true] at h
          have h := h.2
          split at h
          · omega
          · split at h
            · omega
            · split at h
              · omega
              · cases h
theorem edgeB_ref (e : EdgeD) : edgeB e = (tagB e.id && (decide (e.parent = noTag) || tagB e.parent) && !decide (e.id = e.parent) && rightL e.lens && decide (e.lens.kind < 9)) := by
  unfold edgeB
  cases h1 : tagB e.id with
  | false => rfl
  | true =>
    have hr := tag_real h1
    cases h2 : rightL e.lens with
    | false => simp
    | true =>
      have hk := rightL_kind h2
      by_cases h3 : e.parent = noTag
      · have h5 : ¬ e.id = e.parent := by rw [h3]; exact hr
        rw [decide_eq_true h3, decide_eq_false h5]
        rw [Bool.eq_iff_iff]; simp only [Bool.true_and, Bool.true_or, Bool.and_true, Bool.not_false, Bool.and_eq_true, decide_eq_true_eq]; omega
      · rw [decide_eq_false h3]
        by_cases h4 : e.id = e.parent
        · rw [decide_eq_true h4, decide_eq_true h4.symm]; simp
        · have h5 : ¬ e.parent = e.id := fun h => h4 h.symm
          rw [decide_eq_false h4, decide_eq_false h5]
          cases tagB e.parent <;> (rw [Bool.eq_iff_iff]; simp only [Bool.true_and, Bool.false_or, Bool.and_true, Bool.not_false, Bool.and_eq_true, decide_eq_true_eq, Bool.false_and, Bool.and_false, Bool.false_eq_true, false_and, and_false]; try omega)
end Go.Vm
end
section
namespace Go.Vm
open Go.RowKit Go.Proofs
set_option linter.unusedVariables false
set_option linter.unusedSimpArgs false
set_option maxRecDepth 10000

set_option maxHeartbeats 1000000 in
theorem edge_any (e : EdgeD) (he : okX e.lens) : Contract Tryz.prog 9 [eD e] [.d (.sc (.bool (edgeB e)))] := by
 refine T.fn [] Tryz.func9 ?_
 refine x_call T.en_44 (tag_any _) ?_
 refine br (fun hc1 => ?y1) (fun hc1 => ?n1)
 case' n1 =>
  refine And.intro ⟨T.mixed, by decide +kernel⟩ ?_
  refine x_call T.en_45 (root_any) ?_
  first | refine xeq_23n _ _ ?_ | refine xeq_23n _ noTag ?_ | refine xeq_23n noTag _ ?_
  refine br (fun hg2 => ?y2) (fun hg2 => ?n2)
  case' y2 =>
   refine x_call T.en_44 (tag_any _) ?_
   refine br (fun hg3 => ?y3) (fun hg3 => ?n3)
   case' y3 =>
    refine brT ?_
   case' n3 =>
    first | refine xeq_23e _ _ ?_ | refine xeq_23e _ noTag ?_ | refine xeq_23e noTag _ ?_
    refine br (fun hc5 => ?y5) (fun hc5 => ?n5)
    case' n5 =>
     refine br (fun hg6 => ?y6) (fun hg6 => ?n6)
     case' y6 =>
      refine br (fun hg7 => ?y7) (fun hg7 => ?n7)
      case' y7 =>
       refine x_call T.en_46 (lensRight_any _ he) ?_
     case' n6 =>
      refine brF ?_
  case' n2 =>
   refine brF ?_
   refine br (fun hg10 => ?y10) (fun hg10 => ?n10)
   case' y10 =>
    refine br (fun hg11 => ?y11) (fun hg11 => ?n11)
    case' y11 =>
     refine x_call T.en_46 (lensRight_any _ he) ?_
   case' n10 =>
    refine brF ?_
 all_goals (refine x_ret ?_; simp only [fitsL, fits, C.asD, and_true] <;> (refine scb ?_; unfold edgeB; first | (simp_all; done) | (rw [Bool.eq_iff_iff]; simp_all <;> omega)))

set_option maxHeartbeats 1000000 in
theorem same_any (e f : EdgeD) (he : okX e.lens) : Contract Tryz.prog 11 [eD e, eD f] [.d (.sc (.bool (decide (e = f))))] := by
 refine T.fn [] Tryz.func11 ?_
 first | refine xeq_23e _ _ ?_ | refine xeq_23e _ noTag ?_ | refine xeq_23e noTag _ ?_
 refine br (fun hg1 => ?y1) (fun hg1 => ?n1)
 case' y1 =>
  first | refine xeq_23e _ _ ?_ | refine xeq_23e _ noTag ?_ | refine xeq_23e noTag _ ?_
  refine br (fun hg2 => ?y2) (fun hg2 => ?n2)
  case' y2 =>
   refine x_call T.en_49 (lensSame_any _ _ he) ?_
 case' n1 =>
  refine brF ?_
 all_goals (refine x_ret ?_; simp only [fitsL, fits, C.asD, and_true] <;> (refine scb ?_; clear he; cases e; cases f; simp_all))

set_option maxHeartbeats 1000000 in
theorem own_any (e : EdgeD) (he : okX e.lens) : Contract Tryz.prog 66 [eD e] [.d (eD e)] := by
 refine T.fn [] Tryz.func66 ?_
 refine And.intro ⟨T.mixed, by decide +kernel⟩ ?_
 refine x_call T.en_121 (lensOwn_any _ he) ?_
 all_goals (refine x_ret ?_; simp only [fitsL, fits, C.asD, and_true] <;> (rfl))
end Go.Vm
end
section
namespace Go.Vm
open Go.RowKit Go.Proofs
set_option linter.unusedVariables false
set_option linter.unusedSimpArgs false
set_option maxRecDepth 10000

theorem eD_wide {e : EdgeD} : ∀ x ∈ [eD e], x.cells.length = 20 := by intro x hx; rw [List.mem_singleton.1 hx]; rfl
theorem eDs_wide (E : List EdgeD) : ∀ x ∈ E.map eD, x.cells.length = 20 := by intro x hx; obtain ⟨e, _, rfl⟩ := List.mem_map.1 hx; rfl
theorem tD_wide {e : TagD} : ∀ x ∈ [tD e], x.cells.length = 2 := by intro x hx; rw [List.mem_singleton.1 hx]; rfl
theorem tDs_wide (E : List TagD) : ∀ x ∈ E.map tD, x.cells.length = 2 := by intro x hx; obtain ⟨e, _, rfl⟩ := List.mem_map.1 hx; rfl
theorem at_ix {E : List EdgeD} {j : Nat} {p : EdgeD} {a : Int} (hp : E[j]? = some p) (ha : a = (j : Int)) : (E.map eD)[a.toNat]? = some (eD p) := by rw [ha, Int.toNat_natCast]; exact mapAt hp
theorem slice_drop {α : Type} {f : α → D} {l : List α} {j : Nat} : ((l.map f).take (l.map f).length).drop j = (l.drop j).map f := by rw [List.take_of_length_le (by simp), List.map_drop]
def heavyE (m : Nat) (E : List EdgeD) : Bool := decide (m < E.length) || E.any fun e => heavyL e.lens
theorem heavyE_ok {m : Nat} {E : List EdgeD} (h : heavyE m E = false) : E.length ≤ m ∧ ∀ e ∈ E, okX e.lens := by
  unfold heavyE at h
  simp only [Bool.or_eq_false_iff, decide_eq_false_iff_not] at h
  refine ⟨by omega, fun e he => ?_⟩
  have := List.any_eq_false.1 h.2 e he
  exact heavyL_ok (by simpa using this)
theorem live_take {E : List EdgeD} {q : EdgeD → Bool} {k : Nat} {p : EdgeD} (hp : E[k]? = some p) : noTag :: ((E.take (k + 1)).filter q).map (·.id) = (noTag :: ((E.take k).filter q).map (·.id)) ++ (if q p = true then [p.id] else []) := by
  rw [take_next hp, List.filter_append, List.map_append]
  cases h : q p <;> simp [h]
def liveE (E : List EdgeD) : List TagD := noTag :: ((sortE E).filter fun e => decide ((cameOf E e.id).1 = 2)).map (·.id)

set_option maxHeartbeats 1000000 in
theorem refEdge_any (e : EdgeD) (he : okX e.lens) : Contract Tryz.prog 10 [eD e] [.d (.sc (.bool (edgeB e)))] := by
 refine T.fn [] Tryz.func10 ?_
 refine x_call T.en_47 (refTag_any _) ?_
 refine br (fun hg1 => ?y1) (fun hg1 => ?n1)
 case' y1 =>
  first | refine xeq_23e _ _ ?_ | refine xeq_23e _ noTag ?_ | refine xeq_23e noTag _ ?_
  refine br (fun hg2 => ?y2) (fun hg2 => ?n2)
  case' y2 =>
   refine brT ?_
   first | refine xeq_23n _ _ ?_ | refine xeq_23n _ noTag ?_ | refine xeq_23n noTag _ ?_
   refine br (fun hg4 => ?y4) (fun hg4 => ?n4)
   case' y4 =>
    refine x_call T.en_48 (refLensRight_any _ he) ?_
    refine br (fun hg5 => ?y5) (fun hg5 => ?n5)
   case' n4 =>
    refine brF ?_
  case' n2 =>
   refine x_call T.en_47 (refTag_any _) ?_
   refine br (fun hg7 => ?y7) (fun hg7 => ?n7)
   case' y7 =>
    first | refine xeq_23n _ _ ?_ | refine xeq_23n _ noTag ?_ | refine xeq_23n noTag _ ?_
    refine br (fun hg8 => ?y8) (fun hg8 => ?n8)
    case' y8 =>
     refine x_call T.en_48 (refLensRight_any _ he) ?_
     refine br (fun hg9 => ?y9) (fun hg9 => ?n9)
    case' n8 =>
     refine brF ?_
   case' n7 =>
    refine brF ?_
    refine brF ?_
 case' n1 =>
  refine brF ?_
  refine brF ?_
  refine brF ?_
 all_goals (refine x_ret ?_; simp only [fitsL, fits, C.asD, and_true] <;> (refine scb ?_; rw [edgeB_ref]; first | (simp_all; done) | (rw [Bool.eq_iff_iff]; simp_all <;> omega)))

set_option maxHeartbeats 1000000 in
theorem refSame_any (e f : EdgeD) (he : okX e.lens) : Contract Tryz.prog 15 [eD e, eD f] [.d (.sc (.bool (decide (e = f))))] := by
 refine T.fn [] Tryz.func15 ?_
 first | refine xeq_23e _ _ ?_ | refine xeq_23e _ noTag ?_ | refine xeq_23e noTag _ ?_
 refine br (fun hg1 => ?y1) (fun hg1 => ?n1)
 case' y1 =>
  first | refine xeq_23e _ _ ?_ | refine xeq_23e _ noTag ?_ | refine xeq_23e noTag _ ?_
  refine br (fun hg2 => ?y2) (fun hg2 => ?n2)
  case' y2 =>
   refine x_call T.en_57 (refLensSame_any _ _ he) ?_
 case' n1 =>
  refine brF ?_
 all_goals (refine x_ret ?_; simp only [fitsL, fits, C.asD, and_true] <;> (refine scb ?_; clear he; cases e; cases f; simp_all))

set_option maxHeartbeats 1000000 in
theorem refAt_any (E : List EdgeD) (id : TagD) (hE : E.length ≤ 1000) : Contract Tryz.prog 30 [.row (E.map eD), tD id] [.d (.sc (.int .i64 (atE E id)))] := by
 refine T.fn [] Tryz.func30 ?_
 refine xloopR (fb := []) T.ok (Nat.le_of_ble_eq_true rfl) [0, 3] (fun (k : Nat) => [(5, .c (.d (.sc (.int .i64 (k : Nat)))))]) (fun k => k ≤ E.length ∧ atE E id = atN id k (E.drop k)) (fun k => E.length - k) 0 ⟨Nat.zero_le _, rfl⟩ (x_ent (by first | rfl | (simp only [Tr.get]; simp; done)) trivial) ?_
 rintro k ⟨hk, hi⟩
 refine x_len ?_
 refine br (fun hc1 => ?y1) (fun hc1 => ?n1)
 case' y1 =>
  obtain ⟨p, hp⟩ := elem_at hc1
  have hkl := lt_len hp
  refine And.intro ⟨T.mixed, by decide +kernel⟩ ?_
  first | refine x_ix (by exact mapAt hp) ?_ | refine x_ixI (by exact mapAt hp) ?_
  first | refine xeq_23e _ _ ?_ | refine xeq_23e _ noTag ?_ | refine xeq_23e noTag _ ?_
  refine br (fun hc2 => ?y2) (fun hc2 => ?n2)
  case' n2 =>
   first | refine x_inc ?_ | refine x_add ?_ | refine x_bin rfl rfl ?_
   refine x_rnd (k + 1) ⟨lt_len hp, hi.trans (atN_no hp (by assumption))⟩ (by (try dsimp only); have := lt_len hp; omega) rfl (x_ent (by first | rfl | (simp only [Tr.get]; simp; done)) trivial) rfl
 all_goals (refine x_ret ?_; simp only [fitsL, fits, C.asD, and_true] <;> (first | (rw [hi, atN_yes hp (by assumption)]) | (rw [hi, atN_end (past_end (by assumption))])))

set_option maxHeartbeats 1000000 in
theorem refHeavy_any (E : List EdgeD) (m : Nat) (hm : m ≤ 1000) : Contract Tryz.prog 20 [.row (E.map eD), .sc (.int .i64 (m : Nat))] [.d (.sc (.bool (heavyE m E)))] := by
 refine T.fn [] Tryz.func20 ?_
 refine x_len ?_
 refine br (fun hc1 => ?y1) (fun hc1 => ?n1)
 case' n1 =>
  have h40 : E.length ≤ m := by omega
  refine xloopR (fb := []) T.ok (Nat.le_of_ble_eq_true rfl) [0] (fun (k : Nat) => [(5, .c (.d (.sc (.int .i64 (k : Nat)))))]) (fun k => k ≤ E.length ∧ (E.take k).any (fun e => heavyL e.lens) = false ∧ E.length ≤ m) (fun k => E.length - k) 0 ⟨Nat.zero_le _, ⟨rfl, h40⟩⟩ (x_ent (by first | rfl | (simp only [Tr.get]; simp; done)) trivial) ?_
  rintro k ⟨hk, hi⟩
  refine x_len ?_
  refine br (fun hc2 => ?y2) (fun hc2 => ?n2)
  case' y2 =>
   obtain ⟨p, hp⟩ := elem_at hc2
   have hkl := lt_len hp
   first | refine x_ix (by exact mapAt hp) ?_ | refine x_ixI (by exact mapAt hp) ?_
   refine x_call T.en_7 (refLensHeavy_any _) ?_
   refine br (fun hc3 => ?y3) (fun hc3 => ?n3)
   case' n3 =>
    first | refine x_inc ?_ | refine x_add ?_ | refine x_bin rfl rfl ?_
    refine x_rnd (k + 1) ⟨lt_len hp, any_next hp hi.1 (by simp_all), hi.2⟩ (by (try dsimp only); have := lt_len hp; omega) rfl (x_ent (by first | rfl | (simp only [Tr.get]; simp; done)) trivial) rfl
 all_goals (refine x_ret ?_; simp only [fitsL, fits, C.asD, and_true] <;> (refine scb ?_; first | (have hh := any_hit (f := fun e : EdgeD => heavyL e.lens) hp ‹heavyL p.lens = true›; unfold heavyE; rw [hh, Bool.or_true]; done) | (have hh := any_end (past_end (by assumption)) hi.1; unfold heavyE; rw [hh, Bool.or_false]; symm; simp only [decide_eq_true_eq, decide_eq_false_iff_not, Bool.not_eq_true', Bool.not_eq_false', Bool.and_eq_true, Bool.or_eq_true, Bool.or_eq_false_iff, Bool.and_eq_false_iff, beq_iff_eq, beq_eq_false_iff_ne, ne_eq, Bool.not_true, Bool.not_false, Bool.false_eq_true, Bool.true_eq_false] at * <;> omega) | (symm; unfold heavyE; simp only [decide_eq_true_eq, decide_eq_false_iff_not, Bool.not_eq_true', Bool.not_eq_false', Bool.and_eq_true, Bool.or_eq_true, Bool.or_eq_false_iff, Bool.and_eq_false_iff, beq_iff_eq, beq_eq_false_iff_ne, ne_eq, Bool.not_true, Bool.not_false, Bool.false_eq_true, Bool.true_eq_false] at * <;> omega)))

set_option maxHeartbeats 1000000 in
theorem refWay_any (E : List EdgeD) (id : TagD) (hE : E.length ≤ 1000) : Contract Tryz.prog 25 [.row (E.map eD), tD id] [.d (.row (((wayOf E id).getD []).map eD)), .d (.sc (.bool ((wayOf E id).isSome)))] := by
 refine T.fn [6] Tryz.func25 ?_
 refine x_frz ?_
 refine xloopR (fb := [6]) T.ok (Nat.le_of_ble_eq_true rfl) [0] (fun (s : Nat × TagD × List EdgeD) => [(7, .c (.d (.sc (.int .i64 ((s.1 : Nat) : Int))))), (3, .box [.sc (.int .i64 s.2.1.r), .sc (.int .i64 s.2.1.n)]), (6, .c (.d (.row (s.2.2.map eD))))]) (fun s => s.1 ≤ E.length + 1 ∧ wayOf E id = (wayN (E.length + 1 - s.1) E s.2.1).map (· ++ s.2.2) ∧ s.2.2.length = s.1) (fun s => E.length + 1 - s.1) (0, id, []) ⟨by simp, by simp [wayOf], rfl⟩ (x_ent (by first | rfl | (simp only [Tr.get]; simp; done)) (x_ent (by first | rfl | (simp only [Tr.get]; simp; done)) (x_ent (by first | rfl | (simp only [Tr.get]; simp; done)) trivial))) ?_
 rintro s ⟨hk, hi, hl⟩
 have hAl : s.2.2.length ≤ 1001 := by omega
 refine x_len ?_
 refine br (fun hc1 => ?y1) (fun hc1 => ?n1)
 case' y1 =>
  obtain ⟨m, hm⟩ : ∃ m, E.length + 1 - s.1 = m + 1 := ⟨E.length - s.1, by omega⟩
  rw [hm] at hi
  first | refine xeq_23e _ _ ?_ | refine xeq_23e _ noTag ?_ | refine xeq_23e noTag _ ?_
  refine br (fun hc2 => ?y2) (fun hc2 => ?n2)
  case' y2 =>
   have hw : wayOf E id = some s.2.2 := by rw [hi, way_root hc2]; rfl
  case' n2 =>
   have hne : ¬ s.2.1 = noTag := hc2
   refine x_call T.en_30 (refAt_any E _ hE) ?_
   refine br (fun hc3 => ?y3) (fun hc3 => ?n3)
   case' y3 =>
    have hw : wayOf E id = none := by rw [hi, way_none hne (atE_miss hc3)]; rfl
   case' n3 =>
    obtain ⟨j, p, hp, hpe, hpa⟩ := atE_hit hc3
    have hkl := lt_len hp
    have ha0 : 0 ≤ atE E s.2.1 := by omega
    first | refine x_ix (by first | exact mapAt hp | exact at_ix hp hpa) ?_ | refine x_ixI (by first | exact mapAt hp | exact at_ix hp hpa) ?_
    first | refine x_app ?_ (by first | exact eDs_wide _ | exact eD_wide | exact tDs_wide _ | exact tD_wide | (simp [D.cells])) (hz := by first | exact snoc_map | exact one_map | exact List.map_take.symm | exact slice_drop | exact rfl | rfl) | refine x_appN ?_ (by first | exact eDs_wide _ | exact eD_wide | exact tDs_wide _ | exact tD_wide | (simp [D.cells]))
    refine x_frz ?_
    first | refine x_ix (by first | exact mapAt hp | exact at_ix hp hpa) ?_ | refine x_ixI (by first | exact mapAt hp | exact at_ix hp hpa) ?_
    first | refine x_inc ?_ | refine x_add ?_ | refine x_bin rfl rfl ?_
    refine x_rnd (s.1 + 1, p.parent, p :: s.2.2) ⟨by (try dsimp only); omega, by rw [hi, way_some hne hpe, show E.length + 1 - (s.1 + 1) = m by omega, Option.map_map]; congr 1; funext w; simp, by simp [hl]⟩ (by (try dsimp only); omega) rfl (x_ent (by first | rfl | (simp only [Tr.get]; simp; done)) (x_ent (by first | rfl | (simp only [Tr.get]; simp; done)) (x_ent (by first | rfl | (simp only [Tr.get]; simp; done)) trivial))) rfl
 case' n1 =>
  have hw : wayOf E id = none := by rw [hi, show E.length + 1 - s.1 = 0 by omega]; rfl
 all_goals (refine x_ret ?_; simp only [fitsL, fits, C.asD, and_true] <;> (first | (rw [hw]; exact ⟨rfl, rfl⟩)))

set_option maxHeartbeats 1000000 in
theorem refSchemaRoot_any  : Contract Tryz.prog 61 [] [.d (.row (rootS.map fD))] := by
 refine T.fn [] Tryz.func61 ?_
 first | refine x_app ?_ (by first | exact wides | (simp [D.cells])) | refine x_appN ?_ (by first | exact wides | (simp [D.cells]))
 first | refine x_app ?_ (by first | exact wides | (simp [D.cells])) | refine x_appN ?_ (by first | exact wides | (simp [D.cells]))
 first | refine x_app ?_ (by first | exact wides | (simp [D.cells])) | refine x_appN ?_ (by first | exact wides | (simp [D.cells]))
 first | refine x_app ?_ (by first | exact wides | (simp [D.cells])) | refine x_appN ?_ (by first | exact wides | (simp [D.cells]))
 first | refine x_app ?_ (by first | exact wides | (simp [D.cells])) | refine x_appN ?_ (by first | exact wides | (simp [D.cells]))
 all_goals (refine x_ret ?_; simp only [fitsL, fits, C.asD, and_true] <;> (rfl))

set_option maxHeartbeats 1000000 in
theorem refState_any (E : List EdgeD) (id : TagD) (hE : E.length ≤ 1000) (hok : ∀ e ∈ E, okX e.lens) : Contract Tryz.prog 22 [.row (E.map eD), tD id] [.d (.sc (.int .i64 (cameOf E id).1)), .d (.row ((cameOf E id).2.1.map fD))] := by
 refine T.fn [] Tryz.func22 ?_
 first | refine xeq_23n _ _ ?_ | refine xeq_23n _ noTag ?_ | refine xeq_23n noTag _ ?_
 refine br (fun hg1 => ?y1) (fun hg1 => ?n1)
 case' y1 =>
  have hne : ¬ id = noTag := by simpa using hg1
  refine x_call T.en_30 (refAt_any E _ hE) ?_
  refine br (fun hc2 => ?y2) (fun hc2 => ?n2)
  case' y2 =>
   have hst := state_none hne (atE_miss hc2)
  case' n2 =>
   have hx : id = noTag ∨ ¬ edgeOf E id = none := .inr (by obtain ⟨j, e, h1, h2, h3⟩ := atE_hit hc2; rw [h2]; simp)
   refine x_call T.en_25 (refWay_any E id hE) ?_
   refine br (fun hc3 => ?y3) (fun hc3 => ?n3)
   case' y3 =>
    have hst := state_way hx (by simpa using hc3)
   case' n3 =>
    have hw : wayOf E id = some ((wayOf E id).getD []) := by cases hq : wayOf E id with | none => (rw [hq] at hc3; simp at hc3) | some w => rfl
    have hwm : ∀ e ∈ ((wayOf E id).getD []), e ∈ E := way_mem hw
    have hwl : ((wayOf E id).getD []).length ≤ 1001 := by have := way_len hw; omega
    have hws := state_some hw
    refine x_call T.en_61 (refSchemaRoot_any) ?_
    refine xloopR (fb := []) T.ok (Nat.le_of_ble_eq_true rfl) [6] (fun (s : Nat × List FieldD) => [(9, .c (.d (.sc (.int .i64 ((s.1 : Nat) : Int))))), (8, .c (.d (.row (s.2.map fD))))]) (fun s => s.1 ≤ ((wayOf E id).getD []).length ∧ foldW (((wayOf E id).getD []).take s.1) = (2, s.2, (s.1 : Int))) (fun s => ((wayOf E id).getD []).length - s.1) (0, rootS) ⟨Nat.zero_le _, rfl⟩ (x_ent (by first | rfl | (simp only [Tr.get]; simp; done)) (x_ent (by first | rfl | (simp only [Tr.get]; simp; done)) trivial)) ?_
    rintro s ⟨hk, hi⟩
    refine x_len ?_
    refine br (fun hc4 => ?y4) (fun hc4 => ?n4)
    case' y4 =>
     obtain ⟨p, hp⟩ := elem_at hc4
     have hkl := lt_len hp
     have hoX := hok p (hwm p (List.mem_of_getElem? hp))
     have hoL : okL s.2 := by have h := fold_okL (w := ((wayOf E id).getD []).take s.1) (fun e he => hok e (hwm e (List.mem_of_mem_take he))); rw [hi] at h; exact h
     first | refine x_ix (by exact mapAt hp) ?_ | refine x_ixI (by exact mapAt hp) ?_
     refine x_call T.en_62 (refApply_any _ _ hoL hoX) ?_
     refine br (fun hc5 => ?y5) (fun hc5 => ?n5)
     case' y5 =>
      have hst := fold_stop hp hi (by simpa using hc5)
      rw [← hws] at hst
     case' n5 =>
      have hgo := hc5
      first | refine x_inc ?_ | refine x_add ?_ | refine x_bin rfl rfl ?_
      refine x_rnd (s.1 + 1, (applyS s.2 p.lens).1) ⟨lt_len hp, by rw [fold_go hp hi (by simpa using hgo)]; simp⟩ (by (try dsimp only); have := lt_len hp; (try dsimp only); omega) rfl (x_ent (by first | rfl | (simp only [Tr.get]; simp; done)) (x_ent (by first | rfl | (simp only [Tr.get]; simp; done)) trivial)) rfl
    case' n4 =>
     have hst : cameOf E id = (2, s.2, (s.1 : Int)) := by rw [hws, ← hi, List.take_of_length_le (past_end hc4)]
 case' n1 =>
  have hx : id = noTag ∨ ¬ edgeOf E id = none := .inl (by simpa using hg1)
  refine brF ?_
  refine x_call T.en_25 (refWay_any E id hE) ?_
  refine br (fun hc7 => ?y7) (fun hc7 => ?n7)
  case' y7 =>
   have hst := state_way hx (by simpa using hc7)
  case' n7 =>
   have hw : wayOf E id = some ((wayOf E id).getD []) := by cases hq : wayOf E id with | none => (rw [hq] at hc7; simp at hc7) | some w => rfl
   have hwm : ∀ e ∈ ((wayOf E id).getD []), e ∈ E := way_mem hw
   have hwl : ((wayOf E id).getD []).length ≤ 1001 := by have := way_len hw; omega
   have hws := state_some hw
   refine x_call T.en_61 (refSchemaRoot_any) ?_
   refine xloopR (fb := []) T.ok (Nat.le_of_ble_eq_true rfl) [6] (fun (s : Nat × List FieldD) => [(9, .c (.d (.sc (.int .i64 ((s.1 : Nat) : Int))))), (8, .c (.d (.row (s.2.map fD))))]) (fun s => s.1 ≤ ((wayOf E id).getD []).length ∧ foldW (((wayOf E id).getD []).take s.1) = (2, s.2, (s.1 : Int))) (fun s => ((wayOf E id).getD []).length - s.1) (0, rootS) ⟨Nat.zero_le _, rfl⟩ (x_ent (by first | rfl | (simp only [Tr.get]; simp; done)) (x_ent (by first | rfl | (simp only [Tr.get]; simp; done)) trivial)) ?_
   rintro s ⟨hk, hi⟩
   refine x_len ?_
   refine br (fun hc8 => ?y8) (fun hc8 => ?n8)
   case' y8 =>
    obtain ⟨p, hp⟩ := elem_at hc8
    have hkl := lt_len hp
    have hoX := hok p (hwm p (List.mem_of_getElem? hp))
    have hoL : okL s.2 := by have h := fold_okL (w := ((wayOf E id).getD []).take s.1) (fun e he => hok e (hwm e (List.mem_of_mem_take he))); rw [hi] at h; exact h
    first | refine x_ix (by exact mapAt hp) ?_ | refine x_ixI (by exact mapAt hp) ?_
    refine x_call T.en_62 (refApply_any _ _ hoL hoX) ?_
    refine br (fun hc9 => ?y9) (fun hc9 => ?n9)
    case' y9 =>
     have hst := fold_stop hp hi (by simpa using hc9)
     rw [← hws] at hst
    case' n9 =>
     have hgo := hc9
     first | refine x_inc ?_ | refine x_add ?_ | refine x_bin rfl rfl ?_
     refine x_rnd (s.1 + 1, (applyS s.2 p.lens).1) ⟨lt_len hp, by rw [fold_go hp hi (by simpa using hgo)]; simp⟩ (by (try dsimp only); have := lt_len hp; (try dsimp only); omega) rfl (x_ent (by first | rfl | (simp only [Tr.get]; simp; done)) (x_ent (by first | rfl | (simp only [Tr.get]; simp; done)) trivial)) rfl
   case' n8 =>
    have hst : cameOf E id = (2, s.2, (s.1 : Int)) := by rw [hws, ← hi, List.take_of_length_le (past_end hc8)]
 all_goals (refine x_ret ?_; simp only [fitsL, fits, C.asD, and_true] <;> (first | (rw [hst.1, hst.2]; exact ⟨rfl, rfl⟩) | (rw [hst]; exact ⟨rfl, rfl⟩)))

set_option maxHeartbeats 1000000 in
theorem refSchema_any (E : List EdgeD) (id : TagD) (hE : E.length ≤ 1000) (hok : ∀ e ∈ E, okX e.lens) : Contract Tryz.prog 24 [.row (E.map eD), tD id] [.d (.row ((if (cameOf E id).1 = 2 then (cameOf E id).2.1 else []).map fD)), .d (.sc (.int .i64 (if (cameOf E id).1 = 2 then 0 else if (cameOf E id).1 = 3 then 16 else 13)))] := by
 refine T.fn [] Tryz.func24 ?_
 refine x_call T.en_22 (refState_any E _ hE hok) ?_
 refine br (fun hc1 => ?y1) (fun hc1 => ?n1)
 case' n1 =>
  refine br (fun hc2 => ?y2) (fun hc2 => ?n2)
 all_goals (refine x_ret ?_; simp only [fitsL, fits, C.asD, and_true] <;> (simp_all))
end Go.Vm
end
section
namespace Go.Vm
open Go.RowKit Go.Proofs
set_option linter.unusedVariables false
set_option linter.unusedSimpArgs false
set_option maxRecDepth 10000
theorem first_rfl {α : Type} {a : α} : a = a := rfl

set_option maxHeartbeats 1000000 in
theorem refSorted_any (E : List EdgeD) (hE : E.length ≤ 1000) : Contract Tryz.prog 33 [.row (E.map eD)] [.d (.row ((sortE E).map eD))] := by
 refine T.fn [3] Tryz.func33 ?_
 refine x_frz ?_
 refine xloopR (fb := [3]) T.ok (Nat.le_of_ble_eq_true rfl) [0] (fun (s : Nat × List EdgeD) => [(4, .c (.d (.sc (.int .i64 ((s.1 : Nat) : Int))))), (3, .c (.d (.row (s.2.map eD))))]) (fun s => s.1 ≤ E.length ∧ s.2 = sortE (E.take s.1)) (fun s => E.length - s.1) (0, []) ⟨Nat.zero_le _, rfl⟩ (x_ent (by first | rfl | (simp only [Tr.get]; simp; done)) (x_ent (by first | rfl | (simp only [Tr.get]; simp; done)) trivial)) ?_
 rintro s ⟨hk, hA⟩
 have hAl : s.2.length ≤ 1000 := by rw [hA, sortE_len, List.length_take]; omega
 refine x_len ?_
 refine br (fun hc1 => ?y1) (fun hc1 => ?n1)
 case' y1 =>
  obtain ⟨p, hp⟩ := elem_at hc1
  have hkl := lt_len hp
  refine xloopR (fb := [3]) T.ok (Nat.le_of_ble_eq_true rfl) [0, 3, 4] (fun (j : Nat) => [(5, .c (.d (.sc (.int .i64 ((j : Nat) : Int)))))]) (fun j => j ≤ s.2.length ∧ ∀ i x, i < j → s.2[i]? = some x → lessT x.id p.id = true) (fun j => s.2.length - j) 0 ⟨Nat.zero_le _, fun i x hi => absurd hi (Nat.not_lt_zero _)⟩ (x_ent (by first | rfl | (simp only [Tr.get]; simp; done)) trivial) ?_
  rintro j hj
  refine And.intro ⟨T.mixed, by decide +kernel⟩ ?_
  refine x_len ?_
  refine br (fun hg2 => ?y2) (fun hg2 => ?n2)
  case' y2 =>
   have hql : j < s.2.length := by omega
   have hq := List.getElem?_eq_getElem hql
   first | refine x_ix (by first | exact mapAt hq | exact mapAt hp) ?_ | refine x_ixI (by first | exact mapAt hq | exact mapAt hp) ?_
   first | refine x_ix (by first | exact mapAt hq | exact mapAt hp) ?_ | refine x_ixI (by first | exact mapAt hq | exact mapAt hp) ?_
   refine x_call T.en_69 (refLess_tag _ _) ?_
   refine br (fun hc3 => ?y3) (fun hc3 => ?n3)
   case' y3 =>
    have hle := hc3
    first | refine x_inc ?_ | refine x_add ?_ | refine x_bin rfl rfl ?_
    refine x_rnd (j + 1) ⟨lt_len hq, fun i x hi hx => (Nat.lt_succ_iff_lt_or_eq.1 hi).elim (fun h => hj.2 i x h hx) (fun e => by subst e; rw [hq] at hx; injection hx with hx; subst hx; exact hle)⟩ (by (try dsimp only); have := lt_len hq; omega) rfl (x_ent (by first | rfl | (simp only [Tr.get]; simp; done)) trivial) rfl
   case' n3 =>
    have hjq : ∀ x, s.2[j]? = some x → lessT x.id p.id = false := fun x hx => by rw [hq] at hx; injection hx with hx; subst hx; simpa using hc3
    first | refine x_bnd ?_ | refine x_bndI ?_
    refine x_row ?_ (by first | exact eDs_wide _ | exact eD_wide | exact tDs_wide _ | exact tD_wide | (simp [D.cells])) (hy := by first | exact snoc_map | exact one_map | exact List.map_take.symm | exact slice_drop | exact rfl | rfl)
    first | refine x_app ?_ (by first | exact eDs_wide _ | exact eD_wide | exact tDs_wide _ | exact tD_wide | (simp [D.cells])) (hz := by first | exact snoc_map | exact one_map | exact List.map_take.symm | exact slice_drop | exact rfl | rfl) | refine x_appN ?_ (by first | exact eDs_wide _ | exact eD_wide | exact tDs_wide _ | exact tD_wide | (simp [D.cells]))
    first | refine x_ix (by first | exact mapAt hq | exact mapAt hp) ?_ | refine x_ixI (by first | exact mapAt hq | exact mapAt hp) ?_
    first | refine x_app ?_ (by first | exact eDs_wide _ | exact eD_wide | exact tDs_wide _ | exact tD_wide | (simp [D.cells])) (hz := by first | exact snoc_map | exact one_map | exact List.map_take.symm | exact slice_drop | exact rfl | rfl) | refine x_appN ?_ (by first | exact eDs_wide _ | exact eD_wide | exact tDs_wide _ | exact tD_wide | (simp [D.cells]))
    first | refine x_bnd ?_ | refine x_bndI ?_
    refine x_row ?_ (by first | exact eDs_wide _ | exact eD_wide | exact tDs_wide _ | exact tD_wide | (simp [D.cells])) (hy := by first | exact snoc_map | exact one_map | exact List.map_take.symm | exact slice_drop | exact rfl | rfl)
    first | refine x_app ?_ (by first | exact eDs_wide _ | exact eD_wide | exact tDs_wide _ | exact tD_wide | (simp [D.cells])) (hz := by first | exact snoc_map | exact one_map | exact List.map_take.symm | exact slice_drop | exact rfl | rfl) | refine x_appN ?_ (by first | exact eDs_wide _ | exact eD_wide | exact tDs_wide _ | exact tD_wide | (simp [D.cells]))
    refine x_frz ?_
    first | refine x_inc ?_ | refine x_add ?_ | refine x_bin rfl rfl ?_
    refine x_rnd (s.1 + 1, insE p s.2) ⟨lt_len hp, by rw [sortE_take hp, hA]⟩ (by (try dsimp only); have := lt_len hp; (try dsimp only); omega) rfl (x_ent (by first | rfl | (simp only [Tr.get]; simp; done)) (x_ent (by have hins := insE_at p s.2 j hj.1 hj.2 hjq; simp only [Tr.get]; rw [← hins]; simp) trivial)) rfl
  case' n2 =>
   have hjq : ∀ x, s.2[j]? = some x → lessT x.id p.id = false := fun x hx => by have := lt_len hx; omega
   refine brF ?_
   first | refine x_bnd ?_ | refine x_bndI ?_
   refine x_row ?_ (by first | exact eDs_wide _ | exact eD_wide | exact tDs_wide _ | exact tD_wide | (simp [D.cells])) (hy := by first | exact snoc_map | exact one_map | exact List.map_take.symm | exact slice_drop | exact rfl | rfl)
   first | refine x_app ?_ (by first | exact eDs_wide _ | exact eD_wide | exact tDs_wide _ | exact tD_wide | (simp [D.cells])) (hz := by first | exact snoc_map | exact one_map | exact List.map_take.symm | exact slice_drop | exact rfl | rfl) | refine x_appN ?_ (by first | exact eDs_wide _ | exact eD_wide | exact tDs_wide _ | exact tD_wide | (simp [D.cells]))
   first | refine x_ix (by first | exact mapAt hq | exact mapAt hp) ?_ | refine x_ixI (by first | exact mapAt hq | exact mapAt hp) ?_
   first | refine x_app ?_ (by first | exact eDs_wide _ | exact eD_wide | exact tDs_wide _ | exact tD_wide | (simp [D.cells])) (hz := by first | exact snoc_map | exact one_map | exact List.map_take.symm | exact slice_drop | exact rfl | rfl) | refine x_appN ?_ (by first | exact eDs_wide _ | exact eD_wide | exact tDs_wide _ | exact tD_wide | (simp [D.cells]))
   first | refine x_bnd ?_ | refine x_bndI ?_
   refine x_row ?_ (by first | exact eDs_wide _ | exact eD_wide | exact tDs_wide _ | exact tD_wide | (simp [D.cells])) (hy := by first | exact snoc_map | exact one_map | exact List.map_take.symm | exact slice_drop | exact rfl | rfl)
   first | refine x_app ?_ (by first | exact eDs_wide _ | exact eD_wide | exact tDs_wide _ | exact tD_wide | (simp [D.cells])) (hz := by first | exact snoc_map | exact one_map | exact List.map_take.symm | exact slice_drop | exact rfl | rfl) | refine x_appN ?_ (by first | exact eDs_wide _ | exact eD_wide | exact tDs_wide _ | exact tD_wide | (simp [D.cells]))
   refine x_frz ?_
   first | refine x_inc ?_ | refine x_add ?_ | refine x_bin rfl rfl ?_
   refine x_rnd (s.1 + 1, insE p s.2) ⟨lt_len hp, by rw [sortE_take hp, hA]⟩ (by (try dsimp only); have := lt_len hp; (try dsimp only); omega) rfl (x_ent (by first | rfl | (simp only [Tr.get]; simp; done)) (x_ent (by have hins := insE_at p s.2 j hj.1 hj.2 hjq; simp only [Tr.get]; rw [← hins]; simp) trivial)) rfl
 all_goals (refine x_ret ?_; simp only [fitsL, fits, C.asD, and_true] <;> (refine row_inj ?_; rw [hA, List.take_of_length_le (past_end (by assumption))]))

set_option maxHeartbeats 1000000 in
theorem refLive_any (E : List EdgeD) (hE : E.length ≤ 1000) (hok : ∀ e ∈ E, okX e.lens) : Contract Tryz.prog 36 [.row (E.map eD)] [.d (.row ((liveE E).map tD))] := by
 refine T.fn [] Tryz.func36 ?_
 refine x_call T.en_33 (refSorted_any E hE) ?_
 refine xloopR (fb := []) T.ok (Nat.le_of_ble_eq_true rfl) [0, 4] (fun (s : Nat × List TagD) => [(5, .c (.d (.sc (.int .i64 ((s.1 : Nat) : Int))))), (3, .c (.own 9 23 (s.2.map tD)))]) (fun s => s.1 ≤ (sortE E).length ∧ s.2 = noTag :: (((sortE E).take s.1).filter fun e => decide ((cameOf E e.id).1 = 2)).map (·.id)) (fun s => (sortE E).length - s.1) (0, [noTag]) ⟨Nat.zero_le _, rfl⟩ (x_ent (by first | rfl | (simp only [Tr.get]; simp; done)) (x_ent (by first | rfl | (simp only [Tr.get]; simp; done)) trivial)) ?_
 rintro s ⟨hk, hA⟩
 have hsl := sortE_len E
 have hAl : s.2.length ≤ 1001 := by rw [hA, List.length_cons, List.length_map]; have := List.length_filter_le (fun e => decide ((cameOf E e.id).1 = 2)) ((sortE E).take s.1); rw [List.length_take] at this; omega
 refine x_len ?_
 refine br (fun hc1 => ?y1) (fun hc1 => ?n1)
 case' y1 =>
  obtain ⟨p, hp⟩ := elem_at hc1
  have hkl := lt_len hp
  first | refine x_ix (by exact mapAt hp) ?_ | refine x_ixI (by exact mapAt hp) ?_
  refine x_call T.en_22 (refState_any E _ hE hok) ?_
  refine br (fun hc2 => ?y2) (fun hc2 => ?n2)
  case' y2 =>
   have hst := hc2
   first | refine x_ix (by exact mapAt hp) ?_ | refine x_ixI (by exact mapAt hp) ?_
   first | refine x_app ?_ (by first | exact eDs_wide _ | exact eD_wide | exact tDs_wide _ | exact tD_wide | (simp [D.cells])) (hz := by first | exact snoc_map | exact one_map | exact List.map_take.symm | exact slice_drop | exact rfl | rfl) | refine x_appN ?_ (by first | exact eDs_wide _ | exact eD_wide | exact tDs_wide _ | exact tD_wide | (simp [D.cells]))
   first | refine x_inc ?_ | refine x_add ?_ | refine x_bin rfl rfl ?_
   refine x_rnd (s.1 + 1, s.2 ++ [p.id]) ⟨lt_len hp, by rw [live_take hp, if_pos (by simpa using hst), hA]⟩ (by (try dsimp only); have := lt_len hp; (try dsimp only); omega) rfl (x_ent (by first | rfl | (simp only [Tr.get]; simp; done)) (x_ent (by first | rfl | (simp only [Tr.get]; simp; done)) trivial)) rfl
  case' n2 =>
   have hst := hc2
   first | refine x_inc ?_ | refine x_add ?_ | refine x_bin rfl rfl ?_
   refine x_rnd (s.1 + 1, s.2) ⟨lt_len hp, by rw [live_take hp, if_neg (by simpa using hst), hA, List.append_nil]⟩ (by (try dsimp only); have := lt_len hp; (try dsimp only); omega) rfl (x_ent (by first | rfl | (simp only [Tr.get]; simp; done)) (x_ent (by first | rfl | (simp only [Tr.get]; simp; done)) trivial)) rfl
 all_goals (refine x_ret ?_; simp only [fitsL, fits, C.asD, and_true] <;> (refine row_inj ?_; rw [hA, List.take_of_length_le (past_end (by assumption))]; rfl))

set_option maxHeartbeats 1000000 in
theorem refSameEdges_any (E F : List EdgeD) (hE : E.length ≤ 1000) (hok : ∀ e ∈ E, okX e.lens) : Contract Tryz.prog 31 [.row (E.map eD), .row (F.map eD)] [.d (.sc (.bool (decide (E = F))))] := by
 refine T.fn [] Tryz.func31 ?_
 refine x_len ?_
 refine x_len ?_
 refine br (fun hc1 => ?y1) (fun hc1 => ?n1)
 case' n1 =>
  have hlen : E.length = F.length := by omega
  refine xloopR (fb := []) T.ok (Nat.le_of_ble_eq_true rfl) [0, 1] (fun (k : Nat) => [(5, .c (.d (.sc (.int .i64 (k : Nat)))))]) (fun k => k ≤ E.length ∧ E.take k = F.take k) (fun k => E.length - k) 0 ⟨Nat.zero_le _, rfl⟩ (x_ent (by first | rfl | (simp only [Tr.get]; simp; done)) trivial) ?_
  rintro k ⟨hk, hi⟩
  refine x_len ?_
  refine br (fun hc2 => ?y2) (fun hc2 => ?n2)
  case' y2 =>
   obtain ⟨p, hp⟩ := elem_at hc2
   have hkl := lt_len hp
   obtain ⟨q, hq⟩ := elem_too hp hlen
   have hoX := hok p (List.mem_of_getElem? hp)
   refine And.intro ⟨T.mixed, by decide +kernel⟩ ?_
   first | refine x_ix (by first | exact mapAt hp | exact mapAt hq) ?_ | refine x_ixI (by first | exact mapAt hp | exact mapAt hq) ?_
   first | refine x_ix (by first | exact mapAt hp | exact mapAt hq) ?_ | refine x_ixI (by first | exact mapAt hp | exact mapAt hq) ?_
   refine x_call T.en_15 (refSame_any p q hoX) ?_
   refine br (fun hc3 => ?y3) (fun hc3 => ?n3)
   case' n3 =>
    first | refine x_inc ?_ | refine x_add ?_ | refine x_bin rfl rfl ?_
    refine x_rnd (k + 1) ⟨lt_len hp, take_eq_next hp hq hi (by simp_all)⟩ (by (try dsimp only); have := lt_len hp; omega) rfl (x_ent (by first | rfl | (simp only [Tr.get]; simp; done)) trivial) rfl
 all_goals (refine x_ret ?_; simp only [fitsL, fits, C.asD, and_true] <;> (refine scb ?_; first | exact (decide_eq_false (fun e => by simp_all)).symm | exact (decide_eq_false (ne_at hp hq (fun e => by simp_all))).symm | exact (decide_eq_true (take_eq_end hlen (past_end (by assumption)) hi)).symm))

set_option maxHeartbeats 1000000 in
theorem refSameTags_any (E F : List TagD) (hE : E.length ≤ 1001) : Contract Tryz.prog 34 [.row (E.map tD), .row (F.map tD)] [.d (.sc (.bool (decide (E = F))))] := by
 refine T.fn [] Tryz.func34 ?_
 refine x_len ?_
 refine x_len ?_
 refine br (fun hc1 => ?y1) (fun hc1 => ?n1)
 case' n1 =>
  have hlen : E.length = F.length := by omega
  refine xloopR (fb := []) T.ok (Nat.le_of_ble_eq_true rfl) [0, 1] (fun (k : Nat) => [(5, .c (.d (.sc (.int .i64 (k : Nat)))))]) (fun k => k ≤ E.length ∧ E.take k = F.take k) (fun k => E.length - k) 0 ⟨Nat.zero_le _, rfl⟩ (x_ent (by first | rfl | (simp only [Tr.get]; simp; done)) trivial) ?_
  rintro k ⟨hk, hi⟩
  refine x_len ?_
  refine br (fun hc2 => ?y2) (fun hc2 => ?n2)
  case' y2 =>
   obtain ⟨p, hp⟩ := elem_at hc2
   have hkl := lt_len hp
   obtain ⟨q, hq⟩ := elem_too hp hlen
   refine And.intro ⟨T.mixed, by decide +kernel⟩ ?_
   first | refine x_ix (by first | exact mapAt hp | exact mapAt hq) ?_ | refine x_ixI (by first | exact mapAt hp | exact mapAt hq) ?_
   first | refine x_ix (by first | exact mapAt hp | exact mapAt hq) ?_ | refine x_ixI (by first | exact mapAt hp | exact mapAt hq) ?_
   first | refine xeq_23n _ _ ?_ | refine xeq_23n _ noTag ?_ | refine xeq_23n noTag _ ?_
   refine br (fun hc3 => ?y3) (fun hc3 => ?n3)
   case' n3 =>
    first | refine x_inc ?_ | refine x_add ?_ | refine x_bin rfl rfl ?_
    refine x_rnd (k + 1) ⟨lt_len hp, take_eq_next hp hq hi (by simp_all)⟩ (by (try dsimp only); have := lt_len hp; omega) rfl (x_ent (by first | rfl | (simp only [Tr.get]; simp; done)) trivial) rfl
 all_goals (refine x_ret ?_; simp only [fitsL, fits, C.asD, and_true] <;> (refine scb ?_; first | exact (decide_eq_false (fun e => by simp_all)).symm | exact (decide_eq_false (ne_at hp hq (fun e => by simp_all))).symm | exact (decide_eq_true (take_eq_end hlen (past_end (by assumption)) hi)).symm))

set_option maxHeartbeats 1000000 in
theorem refTreePut_any (E : List EdgeD) (e : EdgeD) (hE : E.length ≤ 1000) (hok : ∀ e ∈ E, okX e.lens) (he : okX e.lens) : Contract Tryz.prog 60 [.row (E.map eD), eD e] [.d (.row ((putE E e).1.map eD)), .d (.sc (.int .i64 (putE E e).2))] := by
 refine T.fn [] Tryz.func60 ?_
 refine x_call T.en_10 (refEdge_any _ (by assumption)) ?_
 refine br (fun hc1 => ?y1) (fun hc1 => ?n1)
 case' y1 =>
  have hpu := put_e5 (E := E) (e := e) (by simpa using hc1)
 case' n1 =>
  have hb : edgeB e = true := by simpa using hc1
  refine x_call T.en_30 (refAt_any E e.id hE) ?_
  refine And.intro ⟨T.mixed, by decide +kernel⟩ ?_
  refine br (fun hg2 => ?y2) (fun hg2 => ?n2)
  case' y2 =>
   obtain ⟨j, p, hp, hpe, hpa⟩ := atE_hit (E := E) (id := e.id) (by omega)
   have hkl := lt_len hp
   have ha0 : 0 ≤ atE E e.id := by omega
   have hpX := hok p (List.mem_of_getElem? hp)
   first | refine x_ix (by first | exact mapAt hp | exact at_ix hp hpa) ?_ | refine x_ixI (by first | exact mapAt hp | exact at_ix hp hpa) ?_
   refine x_call T.en_15 (refSame_any p e hpX) ?_
   refine br (fun hc3 => ?y3) (fun hc3 => ?n3)
   case' y3 =>
    have hpu := put_e7 hb hpe hc3
   case' n3 =>
    have hpn := hc3
    refine br (fun hc4 => ?y4) (fun hc4 => ?n4)
    case' y4 =>
     have hpu : putE E e = (E, 15) := by first | exact put_e15 hb hpe (by simpa using hpn) | (exfalso; omega)
    case' n4 =>
     have hmi := atE_miss (E := E) (id := e.id) (by omega)
     refine x_len ?_
     refine br (fun hc5 => ?y5) (fun hc5 => ?n5)
     case' y5 =>
      have hpu := put_e9 hb hmi (by omega)
     case' n5 =>
      have hpu := put_e0 hb hmi (by omega)
      first | refine x_app ?_ (by first | exact eDs_wide _ | exact eD_wide | exact tDs_wide _ | exact tD_wide | (simp [D.cells])) (hz := by first | exact snoc_map | exact one_map | exact List.map_take.symm | exact slice_drop | exact rfl | rfl) | refine x_appN ?_ (by first | exact eDs_wide _ | exact eD_wide | exact tDs_wide _ | exact tD_wide | (simp [D.cells]))
      first | refine x_app ?_ (by first | exact eDs_wide _ | exact eD_wide | exact tDs_wide _ | exact tD_wide | (simp [D.cells])) (hz := by first | exact snoc_map | exact one_map | exact List.map_take.symm | exact slice_drop | exact rfl | rfl) | refine x_appN ?_ (by first | exact eDs_wide _ | exact eD_wide | exact tDs_wide _ | exact tD_wide | (simp [D.cells]))
  case' n2 =>
   have hmi := atE_miss (E := E) (id := e.id) (by omega)
   refine brF ?_
   refine br (fun hc7 => ?y7) (fun hc7 => ?n7)
   case' y7 =>
    have hpu : putE E e = (E, 15) := by first | exact put_e15 hb hpe (by simpa using hpn) | (exfalso; omega)
   case' n7 =>
    have hmi := atE_miss (E := E) (id := e.id) (by omega)
    refine x_len ?_
    refine br (fun hc8 => ?y8) (fun hc8 => ?n8)
    case' y8 =>
     have hpu := put_e9 hb hmi (by omega)
    case' n8 =>
     have hpu := put_e0 hb hmi (by omega)
     first | refine x_app ?_ (by first | exact eDs_wide _ | exact eD_wide | exact tDs_wide _ | exact tD_wide | (simp [D.cells])) (hz := by first | exact snoc_map | exact one_map | exact List.map_take.symm | exact slice_drop | exact rfl | rfl) | refine x_appN ?_ (by first | exact eDs_wide _ | exact eD_wide | exact tDs_wide _ | exact tD_wide | (simp [D.cells]))
     first | refine x_app ?_ (by first | exact eDs_wide _ | exact eD_wide | exact tDs_wide _ | exact tD_wide | (simp [D.cells])) (hz := by first | exact snoc_map | exact one_map | exact List.map_take.symm | exact slice_drop | exact rfl | rfl) | refine x_appN ?_ (by first | exact eDs_wide _ | exact eD_wide | exact tDs_wide _ | exact tD_wide | (simp [D.cells]))
 all_goals (refine x_ret ?_; simp only [fitsL, fits, C.asD, and_true] <;> (rw [hpu]; exact ⟨first_rfl, rfl⟩))
end Go.Vm
end
section
namespace Go.Vm
open Go.RowKit Go.Proofs
set_option linter.unusedVariables false
set_option linter.unusedSimpArgs false
set_option maxRecDepth 10000

set_option maxHeartbeats 1000000 in
theorem tags_any (t m : Nat) (ht : NAM ≤ t) (hm : NAM ≤ m) (htm : ¬ t = m) (l : List (TagD × NodeD)) (hl : l.length ≤ 1000) (f : FuncId) (p : NodeD → Bool) (hf : enters Tryz.prog f = true) (hp : ∀ n, Contract Tryz.prog f [nD n] [.d (.sc (.bool (p n)))]) : ContractH Tryz.prog 67 [.ptr t 0, .fn f []] [(t, .obj [.mp m]), (m, .mapo (ents l))] [.d (.row ((tagsOf p l).map tD))] [(t, .obj [.mp m]), (m, .mapo (ents l))] := by
 refine T.fnH [12, 15, 20, 2024, 2026, 2027] Tryz.func67 ?_ (by simp only [List.forall_mem_cons, List.not_mem_nil, false_implies, implies_true, and_true]; exact ⟨ht, hm⟩) (by simp [thing]) (by simp [thing])
 have hmt : ¬ m = t := fun e => htm e.symm
 refine x_obj ht (by first | rfl | (simp only [hOf, hset, hpost, htm, hmt, if_true, if_false, not_false_eq_true]; first | done | rfl)) ?_
 refine x_range ?_ ⟨hm, (by first | rfl | (simp only [hOf, hset, hpost, htm, hmt, if_true, if_false, not_false_eq_true]; first | done | rfl))⟩ Tryz.underlying111 (ents_len _)
 refine xnilG 5 500005 2 rfl (by decide) (by decide) (by decide) (by decide) ?_
 refine xloopR (fb := [12, 15, 20, 2024, 2026, 2027]) T.ok (Nat.le_of_ble_eq_true rfl) [1] (fun (s : List Nat × List TagD) => [(12, .iter m l.length s.1), (5, .sref 500005 2 s.2.length), (500005, .gbox 2 (s.2.map tD))]) (fun s => Seen l.length s.1 ∧ s.2 = pick p (·.1) l s.1) (fun s => unseen l.length s.1) ([], []) ⟨⟨List.nodup_nil, by simp⟩, rfl⟩ (x_ent (by first | rfl | (simp only [Tr.get]; simp; done)) (x_ent (by first | rfl | (simp only [Tr.get]; simp; done)) (x_ent (by first | rfl | (simp only [Tr.get]; simp; done)) trivial))) ?_
 rintro s ⟨hse, hA⟩
 have hAl : s.2.length ≤ 1000 := by rw [hA]; exact Nat.le_trans (pick_len hse) hl
 refine Exists.intro _ (And.intro ⟨hm, (by first | rfl | (simp only [hOf, hset, hpost, htm, hmt, if_true, if_false, not_false_eq_true]; first | done | rfl)), ents_len _⟩ (And.intro (fun hd1 => ?d1) (fun iq pq hpq hiq => ?g1)))
 case' d1 =>
  have hall := hd1
  refine brF ?_
  refine x_turnG (n := s.2.length) (id := 500005) T.en_122 (tags_sort s.2 (by omega)) rfl rfl rfl (by simp) (by simp [sortT_len]) (tDs_wide _) ?_
  refine x_freezeG (n := s.2.length) (id := 500005) (sz := 2) (xs := (sortT s.2).map tD) rfl rfl (by simp [sortT_len]) ?_
 case' g1 =>
  obtain ⟨q, hqi, rfl⟩ := ents_at hpq
  have hlt1 := (List.getElem?_eq_some_iff.1 hqi).1
  refine brT ?_
  refine x_entry ?_ ⟨hm, (by first | rfl | (simp only [hOf, hset, hpost, htm, hmt, if_true, if_false, not_false_eq_true]; first | done | rfl))⟩ (ents_len _) hpq
  refine x_callF hf (hp _) ?_
  refine br (fun hc4 => ?y4) (fun hc4 => ?n4)
  case' y4 =>
   have hpy : p q.2 = true := hc4
   refine x_appG (id := 500005) (n := s.2.length) (xs := s.2.map tD) (ys := [tD q.1]) (zs := (s.2 ++ [q.1]).map tD) (m := (s.2 ++ [q.1]).length) (T.ok 56 _ rfl).2.1 rfl rfl rfl (by simp) tD_wide (by simp only [List.length_cons, List.length_nil, maxLen]; omega) (by simp only [List.length_cons, List.length_nil]; omega) (by simp) (by simp) ?_
   refine x_rnd (s.1 ++ [iq], (s.2 ++ [q.1])) ⟨hse.next hlt1 hiq, by rw [pick_yes hqi hpy, hA]⟩ (by (try dsimp only); exact unseen_next hlt1 hiq) rfl (x_ent (by first | rfl | (simp only [Tr.get]; simp; done)) (x_ent (by first | rfl | (simp only [Tr.get]; simp; done)) (x_ent (by first | rfl | (simp only [Tr.get]; simp; done)) trivial))) rfl
  case' n4 =>
   have hpn : ¬ p q.2 = true := by simpa using hc4
   refine x_rnd (s.1 ++ [iq], s.2) ⟨hse.next hlt1 hiq, by rw [pick_no hqi hpn, hA]⟩ (by (try dsimp only); exact unseen_next hlt1 hiq) rfl (x_ent (by first | rfl | (simp only [Tr.get]; simp; done)) (x_ent (by first | rfl | (simp only [Tr.get]; simp; done)) (x_ent (by first | rfl | (simp only [Tr.get]; simp; done)) trivial))) rfl
 all_goals (refine ⟨?_, ⟨⟨ht, (by first | rfl | (simp only [hOf, hset, hpost, htm, hmt, if_true, if_false, not_false_eq_true]; first | done | rfl))⟩, ⟨hm, (by first | rfl | (simp only [hOf, hset, hpost, htm, hmt, if_true, if_false, not_false_eq_true]; first | done | rfl))⟩, trivial⟩⟩; simp only [fitsL, fits, C.asD, and_true] <;> (refine row_inj ?_; rw [hA, tags_pick hse hall]))
end Go.Vm
end
section
namespace Go.Vm
open Go.RowKit Go.Proofs
set_option linter.unusedVariables false
set_option linter.unusedSimpArgs false
set_option maxRecDepth 10000

set_option maxHeartbeats 1000000 in
theorem settle_any (t m : Nat) (ht : NAM ≤ t) (hm : NAM ≤ m) (htm : ¬ t = m) (E : List EdgeD) (l : List (TagD × NodeD)) (hE : E.length ≤ 1000) (hg : Good E) (hl : Half E l) : ContractH Tryz.prog 71 [.ptr t 0] [(t, .obj [.mp m]), (m, .mapo (ents l))] [] [(t, .obj [.mp m]), (m, .mapo (ents (nodesOf E)))] := by
 refine T.fnH [11, 14, 24] Tryz.func71 ?_ (by simp only [List.forall_mem_cons, List.not_mem_nil, false_implies, implies_true, and_true]; exact ⟨ht, hm⟩) (by simp [thing]) (by simp [thing])
 have hmt : ¬ m = t := fun e => htm e.symm
 refine xscope (fb := [11, 14, 24]) T.ok (Nat.le_of_ble_eq_true rfl) [0] (fun (l2 : List (TagD × NodeD)) => 0) (fun _ => [0]) (fun (l2 : List (TagD × NodeD)) => []) (fun (l2 : List (TagD × NodeD)) => (hset (hOf [(t, .obj [.mp m]), (m, .mapo (ents l))]) m (.mapo (ents l2)))) (fun (l2 : List (TagD × NodeD)) => Half E l2) (fun (l2 : List (TagD × NodeD)) => pends l2) (fun z _ => by rfl) (by repeat (first | exact trivial | refine And.intro (fun _ => rfl) ?_)) (fun z _ => by (repeat (first | exact trivial | refine And.intro (fun _ => rfl) ?_))) ?p1 ?f1
 case' p1 =>
  rintro l2 hl2
  refine x_obj ht (by first | rfl | (simp only [hOf, hset, hpost, htm, hmt, if_true, if_false, not_false_eq_true]; first | done | rfl)) ?_
  refine x_range ?_ ⟨hm, (by first | rfl | (simp only [hOf, hset, hpost, htm, hmt, if_true, if_false, not_false_eq_true]; first | done | rfl))⟩ Tryz.underlying111 (ents_len _)
  refine xloopR (fb := [11, 14, 24]) T.ok (Nat.le_of_ble_eq_true rfl) [0] (fun (seen : List Nat) => [(11, .iter m l2.length seen)]) (fun seen => ∀ j ∈ seen, quiet l2 j) (fun seen => unseen l2.length seen) [] (by simp) (x_ent (by first | rfl | (simp only [Tr.get]; simp; done)) trivial) ?_
  rintro seen hq
  refine Exists.intro _ (And.intro ⟨hm, (by first | rfl | (simp only [hOf, hset, hpost, htm, hmt, if_true, if_false, not_false_eq_true]; first | done | rfl)), ents_len _⟩ (And.intro (fun hd1 => ?d1) (fun iq pq hpq hiq => ?g1)))
  case' d1 =>
   have hfin := hl2.over hg (fun j hj => hq j (hd1 j hj))
   refine brF ?_
  case' g1 =>
   obtain ⟨q, hqi, rfl⟩ := ents_at hpq
   have hm1 := List.mem_of_getElem? hqi
   have hlt1 := (List.getElem?_eq_some_iff.1 hqi).1
   refine brT ?_
   refine x_entry ?_ ⟨hm, (by first | rfl | (simp only [hOf, hset, hpost, htm, hmt, if_true, if_false, not_false_eq_true]; first | done | rfl))⟩ (ents_len _) hpq
   refine br (fun hc4 => ?y4) (fun hc4 => ?n4)
   case' y4 =>
    have hqt : quiet l2 iq := fun p hp => by rw [hqi] at hp; injection hp with hp; subst hp; exact .inl hc4
    refine x_rnd (seen ++ [iq]) (by intro j hj; rcases List.mem_append.1 hj with hj | hj; exact hq j hj; rw [List.mem_singleton.1 hj]; exact hqt) (by (try dsimp only); exact unseen_next hlt1 hiq) rfl (x_ent (by first | rfl | (simp only [Tr.get]; simp; done)) trivial) rfl
   case' n4 =>
    have hst := hc4
    obtain ⟨hpe, hpk, hpm⟩ := hl2.pend hg hm1 hst
    refine x_callR T.en_63 (at_any t m ht hm htm l2 q.2.edge.parent) ?_ ⟨⟨ht, (by first | rfl | (simp only [hOf, hset, hpost, htm, hmt, if_true, if_false, not_false_eq_true]; first | done | rfl))⟩, ⟨hm, (by first | rfl | (simp only [hOf, hset, hpost, htm, hmt, if_true, if_false, not_false_eq_true]; first | done | rfl))⟩, trivial⟩
    refine br (fun hg5 => ?y5) (fun hg5 => ?n5)
    case' y5 =>
     refine br (fun hc6 => ?y6) (fun hc6 => ?n6)
     case' y6 =>
      have hqt : quiet l2 iq := fun p hp => by rw [hqi] at hp; injection hp with hp; subst hp; exact .inr (by omega)
      refine x_rnd (seen ++ [iq]) (by intro j hj; rcases List.mem_append.1 hj with hj | hj; exact hq j hj; rw [List.mem_singleton.1 hj]; exact hqt) (by (try dsimp only); exact unseen_next hlt1 hiq) rfl (x_ent (by first | rfl | (simp only [Tr.get]; simp; done)) trivial) rfl
     case' n6 =>
      refine br (fun hc7 => ?y7) (fun hc7 => ?n7)
      case' y7 =>
       exfalso; omega
      case' n7 =>
       have hv := hl2.dead hg hpm hpe (by omega)
       refine And.intro ⟨T.mixed, by decide +kernel⟩ ?_
       have hput := hl2.put hg hqi
       have hns : ¬ (nodeOf E q.2.edge).state = 1 := by rw [hv]; simp
       refine x_obj ht (by first | rfl | (simp only [hOf, hset, hpost, htm, hmt, if_true, if_false, not_false_eq_true]; first | done | rfl)) ?_
       refine x_put (es' := ents (putT q.1 (nodeOf E q.2.edge) l2)) ?_ ⟨hm, (by first | rfl | (simp only [hOf, hset, hpost, htm, hmt, if_true, if_false, not_false_eq_true]; first | done | rfl))⟩ tagKey ⟨_, rfl⟩ (ents_keys _) Tryz.underlying111 (by rw [hv]; exact ents_put l2 q.1 _)
       refine x_jmp (putT q.1 (nodeOf E q.2.edge) l2) hput.2 rfl (by (try dsimp only [jlt, Sum.elim_inl, Sum.elim_inr]); rw [hput.1]; exact pends_put hqi hst hns) rfl trivial (by first | rfl | exact (hset_hset _ _ _ _).symm | exact hset_self (by first | rfl | (simp only [hOf, hset, hpost, htm, hmt, if_true, if_false, not_false_eq_true]; first | done | rfl)))
    case' n5 =>
     refine brF ?_
     refine br (fun hc9 => ?y9) (fun hc9 => ?n9)
     case' y9 =>
      have hat := hl2.at (id := q.2.edge.parent) (.inl hc9)
      have hup := hc9
      have hoX := hg.ok _ hpm
      have hoS : okL (atT l2 q.2.edge.parent).schema := by rw [hat.2.1]; exact okL_comes hg.ok _ _
      have hdp : 0 ≤ (atT l2 q.2.edge.parent).depth ∧ (atT l2 q.2.edge.parent).depth ≤ ((E.length + 1 : Nat) : Int) := by rw [hat.2.2]; exact depth_le _ _
      refine x_call T.en_125 (apply_any _ _ hoS hoX) ?_
      refine br (fun hc10 => ?y10) (fun hc10 => ?n10)
      case' y10 =>
       have hv := hl2.live hg hpm hup hc10
       refine And.intro ⟨T.mixed, by decide +kernel⟩ ?_
       first | refine x_inc ?_ | refine x_add ?_ | refine x_bin rfl rfl ?_
       refine And.intro ⟨T.mixed, by decide +kernel⟩ ?_
       have hput := hl2.put hg hqi
       have hns : ¬ (nodeOf E q.2.edge).state = 1 := by rw [hv]; simp
       refine x_obj ht (by first | rfl | (simp only [hOf, hset, hpost, htm, hmt, if_true, if_false, not_false_eq_true]; first | done | rfl)) ?_
       refine x_put (es' := ents (putT q.1 (nodeOf E q.2.edge) l2)) ?_ ⟨hm, (by first | rfl | (simp only [hOf, hset, hpost, htm, hmt, if_true, if_false, not_false_eq_true]; first | done | rfl))⟩ tagKey ⟨_, rfl⟩ (ents_keys _) Tryz.underlying111 (by rw [hv]; exact ents_put l2 q.1 _)
       refine x_jmp (putT q.1 (nodeOf E q.2.edge) l2) hput.2 rfl (by (try dsimp only [jlt, Sum.elim_inl, Sum.elim_inr]); rw [hput.1]; exact pends_put hqi hst hns) rfl trivial (by first | rfl | exact (hset_hset _ _ _ _).symm | exact hset_self (by first | rfl | (simp only [hOf, hset, hpost, htm, hmt, if_true, if_false, not_false_eq_true]; first | done | rfl)))
      case' n10 =>
       have hv := hl2.unfit hg hpm hpe hup hc10
       refine And.intro ⟨T.mixed, by decide +kernel⟩ ?_
       have hput := hl2.put hg hqi
       have hns : ¬ (nodeOf E q.2.edge).state = 1 := by rw [hv]; simp
       refine x_obj ht (by first | rfl | (simp only [hOf, hset, hpost, htm, hmt, if_true, if_false, not_false_eq_true]; first | done | rfl)) ?_
       refine x_put (es' := ents (putT q.1 (nodeOf E q.2.edge) l2)) ?_ ⟨hm, (by first | rfl | (simp only [hOf, hset, hpost, htm, hmt, if_true, if_false, not_false_eq_true]; first | done | rfl))⟩ tagKey ⟨_, rfl⟩ (ents_keys _) Tryz.underlying111 (by rw [hv]; exact ents_put l2 q.1 _)
       refine x_jmp (putT q.1 (nodeOf E q.2.edge) l2) hput.2 rfl (by (try dsimp only [jlt, Sum.elim_inl, Sum.elim_inr]); rw [hput.1]; exact pends_put hqi hst hns) rfl trivial (by first | rfl | exact (hset_hset _ _ _ _).symm | exact hset_self (by first | rfl | (simp only [hOf, hset, hpost, htm, hmt, if_true, if_false, not_false_eq_true]; first | done | rfl)))
     case' n9 =>
      exfalso; omega
 case' f1 =>
  skip
  refine x_jmp l hl rfl trivial rfl trivial (by first | rfl | exact (hset_hset _ _ _ _).symm | exact hset_self (by first | rfl | (simp only [hOf, hset, hpost, htm, hmt, if_true, if_false, not_false_eq_true]; first | done | rfl)))
 all_goals (refine ⟨?_, ⟨⟨ht, (by first | rfl | (simp only [hOf, hset, hpost, htm, hmt, if_true, if_false, not_false_eq_true]; first | done | rfl))⟩, ⟨hm, by rw [← hfin]; exact (by first | rfl | (simp only [hOf, hset, hpost, htm, hmt, if_true, if_false, not_false_eq_true]; first | done | rfl))⟩, trivial⟩⟩; simp only [fitsL, fits, C.asD, and_true] <;> (trivial))
end Go.Vm
end
section
namespace Go.Vm
open Go.RowKit Go.Proofs
set_option linter.unusedVariables false
set_option linter.unusedSimpArgs false
set_option maxRecDepth 10000

set_option maxHeartbeats 1000000 in
theorem new_any (t m : Nat) (ht : NAM ≤ t) (hm : NAM ≤ m) (htm : ¬ t = m) : ContractH Tryz.prog 39 [] [(t, .free), (m, .free)] [.d (.ptr t 0)] [(t, .obj [.mp m]), (m, .mapo (ents (nodesOf [])))] := by
 refine T.fnH [1, 3] Tryz.func39 ?_ (by simp only [List.forall_mem_cons, List.not_mem_nil, false_implies, implies_true, and_true]; exact ⟨ht, hm⟩) (by simp [thing]) (by simp [thing])
 have hmt : ¬ m = t := fun e => htm e.symm
 refine x_mkmap m ?_ ⟨hm, (by first | rfl | (simp only [hOf, hset, hpost, htm, hmt, if_true, if_false, not_false_eq_true]; first | done | rfl))⟩
 refine x_newbox t ?_ ⟨ht, (by first | rfl | (simp only [hOf, hset, hpost, htm, hmt, if_true, if_false, not_false_eq_true]; first | done | rfl))⟩
 all_goals (refine ⟨?_, ⟨⟨ht, (by first | rfl | (simp only [hOf, hset, hpost, htm, hmt, if_true, if_false, not_false_eq_true]; first | done | rfl))⟩, ⟨hm, (by first | rfl | (simp only [hOf, hset, hpost, htm, hmt, if_true, if_false, not_false_eq_true]; first | done | rfl))⟩, trivial⟩⟩; simp only [fitsL, fits, C.asD, and_true] <;> (trivial))

set_option maxHeartbeats 1000000 in
theorem put_any (t m : Nat) (ht : NAM ≤ t) (hm : NAM ≤ m) (htm : ¬ t = m) (E : List EdgeD) (e : EdgeD) (hE : E.length ≤ 900) (hg : Good E) (he : okX e.lens) : ContractH Tryz.prog 38 [.ptr t 0, eD e] [(t, .obj [.mp m]), (m, .mapo (ents (nodesOf E)))] [.d (.sc (.int .i64 (putE E e).2))] [(t, .obj [.mp m]), (m, .mapo (ents (nodesOf (putE E e).1)))] := by
 refine T.fnH [19, 31, 52] Tryz.func38 ?_ (by simp only [List.forall_mem_cons, List.not_mem_nil, false_implies, implies_true, and_true]; exact ⟨ht, hm⟩) (by simp [thing]) (by simp [thing])
 have hmt : ¬ m = t := fun e => htm e.symm
 first | refine And.intro ⟨_, Tryz.underlying53⟩ ?_ | refine x_bin rfl rfl ?_
 refine brF ?_
 refine x_call T.en_9 (edge_any e he) ?_
 refine br (fun hc2 => ?y2) (fun hc2 => ?n2)
 case' y2 =>
  have hpu := put_e5 (E := E) hc2
 case' n2 =>
  have hb : edgeB e = true := hc2
  refine And.intro ⟨T.mixed, by decide +kernel⟩ ?_
  refine x_obj ht (by first | rfl | (simp only [hOf, hset, hpost, htm, hmt, if_true, if_false, not_false_eq_true]; first | done | rfl)) ?_
  refine q_look2 ?_ ⟨hm, (by first | rfl | (simp only [hOf, hset, hpost, htm, hmt, if_true, if_false, not_false_eq_true]; first | done | rfl))⟩ tagKey ⟨_, rfl⟩ (ents_keys _) Tryz.underlying111 zeroNode (look_node _ _) (look_found _ _)
  refine br (fun hc3 => ?y3) (fun hc3 => ?n3)
  case' y3 =>
   obtain ⟨f, hf, hnd, hfm⟩ := find_some hc3
   refine x_call T.en_11 (same_any ((findT e.id (nodesOf E)).getD noNode).edge e (by rw [hnd]; exact hg.ok _ hfm)) ?_
   refine br (fun hc4 => ?y4) (fun hc4 => ?n4)
   case' y4 =>
    have hpu := put_e7 hb hf (by rw [hnd] at hc4; exact hc4)
   case' n4 =>
    have hpu := put_e15 hb hf (by rw [hnd] at hc4; exact hc4)
  case' n3 =>
   obtain ⟨hf, hf2⟩ := find_miss hc3
   refine x_obj ht (by first | rfl | (simp only [hOf, hset, hpost, htm, hmt, if_true, if_false, not_false_eq_true]; first | done | rfl)) ?_
   refine x_lenm ?_ ⟨hm, (by first | rfl | (simp only [hOf, hset, hpost, htm, hmt, if_true, if_false, not_false_eq_true]; first | done | rfl))⟩ Tryz.underlying111 nodes_len
   refine br (fun hc5 => ?y5) (fun hc5 => ?n5)
   case' y5 =>
    have hpu := put_e9 hb hf (by omega)
   case' n5 =>
    have hpu := put_e0 hb hf (by omega)
    have hgm := hg.more he hb hf
    refine x_obj ht (by first | rfl | (simp only [hOf, hset, hpost, htm, hmt, if_true, if_false, not_false_eq_true]; first | done | rfl)) ?_
    first | refine And.intro ⟨_, _, Tryz.underlying111⟩ ?_ | refine x_bin rfl rfl ?_
    refine brF ?_
    refine And.intro ⟨T.mixed, by decide +kernel⟩ ?_
    refine x_obj ht (by first | rfl | (simp only [hOf, hset, hpost, htm, hmt, if_true, if_false, not_false_eq_true]; first | done | rfl)) ?_
    refine x_call T.en_66 (own_any e he) ?_
    refine x_put (es' := ents (nodesOf E ++ [(e.id, pend e)])) ?_ ⟨hm, (by first | rfl | (simp only [hOf, hset, hpost, htm, hmt, if_true, if_false, not_false_eq_true]; first | done | rfl))⟩ tagKey ⟨_, rfl⟩ (ents_keys _) Tryz.underlying111 (by rw [← putT_new hf2]; exact ents_put (nodesOf E) e.id (pend e))
    refine x_callH T.en_71 (settle_any t m ht hm htm (E ++ [e]) (nodesOf E ++ [(e.id, pend e)]) (by rw [List.length_append]; simp; omega) hgm (nodes_half hgm)) ?_ ⟨⟨ht, (by first | rfl | (simp only [hOf, hset, hpost, htm, hmt, if_true, if_false, not_false_eq_true]; first | done | rfl))⟩, ⟨hm, (by first | rfl | (simp only [hOf, hset, hpost, htm, hmt, if_true, if_false, not_false_eq_true]; first | done | rfl))⟩, trivial⟩
 all_goals (refine ⟨?_, ⟨⟨ht, (by first | rfl | (simp only [hOf, hset, hpost, htm, hmt, if_true, if_false, not_false_eq_true]; first | done | rfl))⟩, ⟨hm, by rw [hpu]; exact (by first | rfl | (simp only [hOf, hset, hpost, htm, hmt, if_true, if_false, not_false_eq_true]; first | done | rfl))⟩, trivial⟩⟩; simp only [fitsL, fits, C.asD, and_true] <;> (rw [hpu]))
end Go.Vm
end
section
namespace Go.Vm
open Go.RowKit Go.Proofs
set_option linter.unusedVariables false
set_option linter.unusedSimpArgs false
set_option maxRecDepth 10000

theorem copy_all {l l2 : List (TagD × NodeD)} {seen : List Nat} (h : Seen l.length seen) (hA : l2 = pick (fun _ => true) (fun q => q) l seen) (ha : ∀ i, i < l.length → i ∈ seen) : l2.Perm l := by
  rw [hA]
  have := pick_all (p := fun _ => true) (f := fun q => q) h ha
  rw [List.map_id', List.filter_eq_self.2 (by intro a _; rfl)] at this
  exact this
theorem copy_heap {h : Hp} {c d : Nat} (hcd : ¬ c = d) : hset (hset (hset h d (.mapo [])) c (.obj [.mp d])) d (.mapo (ents [])) = hpost h [(c, .obj [.mp d]), (d, .mapo (ents []))] := by
  funext u
  simp only [hpost, hset]
  by_cases h1 : u = d
  · subst h1; have : ¬ u = c := fun e => hcd e.symm; simp [this]
  · by_cases h2 : u = c
    · subst h2; simp [h1]
    · simp [h1, h2]
theorem pick_mem {l : List (TagD × NodeD)} {seen : List Nat} {x : TagD × NodeD} (h : x ∈ pick (fun _ => true) (fun q => q) l seen) : ∃ i, i ∈ seen ∧ l[i]? = some x := by
  obtain ⟨i, hi, he⟩ := List.mem_filterMap.1 h
  refine ⟨i, hi, ?_⟩
  cases hq : l[i]? with
  | none => rw [hq] at he; cases he
  | some q => rw [hq] at he; simpa using he
theorem putT_fresh {β : Type} {k : TagD} {v : β} : ∀ {l : List (TagD × β)}, (∀ p ∈ l, ¬ p.1 = k) → putT k v l = l ++ [(k, v)]
  | [], _ => rfl
  | p :: l, h => by
    rw [putT, if_neg (fun e => h p (List.mem_cons_self ..) e.symm), putT_fresh fun q hq => h q (List.mem_cons_of_mem _ hq)]; rfl
theorem copy_put {l : List (TagD × NodeD)} {seen : List Nat} {i : Nat} {q : TagD × NodeD} (hu : l.Pairwise fun a b => ¬ a.1 = b.1) (h : Seen l.length seen) (hq : l[i]? = some q) (hi : i ∉ seen) : putD (tD q.1) (nD q.2) (ents (pick (fun _ => true) (fun q => q) l seen)) = ents (pick (fun _ => true) (fun q => q) l seen ++ [q]) := by
  rw [ents_put, putT_fresh]
  intro p hp e
  obtain ⟨j, hj, hp2⟩ := pick_mem hp
  have hne : i ≠ j := fun e2 => hi (e2 ▸ hj)
  obtain ⟨h1, h2⟩ := List.getElem?_eq_some_iff.1 hq
  obtain ⟨h3, h4⟩ := List.getElem?_eq_some_iff.1 hp2
  rw [List.pairwise_iff_getElem] at hu
  rcases Nat.lt_or_gt_of_ne hne with hlt | hlt
  · have := hu i j h1 h3 hlt; rw [h2, h4] at this; exact this e.symm
  · have := hu j i h3 h1 hlt; rw [h2, h4] at this; exact this e

set_option maxHeartbeats 1000000 in
theorem edges1_any (n : NodeD) : Contract Tryz.prog 68 [nD n] [.d (.sc (.bool (true)))] := by
 refine T.fn [] Tryz.func68 ?_
 all_goals (refine x_ret ?_; simp only [fitsL, fits, C.asD, and_true] <;> (rfl))

set_option maxHeartbeats 1000000 in
theorem live1_any (n : NodeD) : Contract Tryz.prog 70 [nD n] [.d (.sc (.bool (decide (n.state = 2))))] := by
 refine T.fn [] Tryz.func70 ?_
 all_goals (refine x_ret ?_; simp only [fitsL, fits, C.asD, and_true] <;> (rfl))

set_option maxHeartbeats 1000000 in
theorem edges_any (t m : Nat) (ht : NAM ≤ t) (hm : NAM ≤ m) (htm : ¬ t = m) (l : List (TagD × NodeD)) (hl : l.length ≤ 1000) (hx : ∀ k, okX ((findT k l).getD noNode).edge.lens) : ContractH Tryz.prog 32 [.ptr t 0] [(t, .obj [.mp m]), (m, .mapo (ents l))] [.d (.row ((edgesOf l).map eD))] [(t, .obj [.mp m]), (m, .mapo (ents l))] := by
 refine T.fnH [9, 21, 1025] Tryz.func32 ?_ (by simp only [List.forall_mem_cons, List.not_mem_nil, false_implies, implies_true, and_true]; exact ⟨ht, hm⟩) (by simp [thing]) (by simp [thing])
 have hmt : ¬ m = t := fun e => htm e.symm
 first | refine And.intro ⟨_, Tryz.underlying53⟩ ?_ | refine x_bin rfl rfl ?_
 refine brF ?_
 refine x_callR T.en_67 (tags_any t m ht hm htm l hl 68 (fun _ => true) (by kernel_rfl) edges1_any) ?_ ⟨⟨ht, (by first | rfl | (simp only [hOf, hset, hpost, htm, hmt, if_true, if_false, not_false_eq_true]; first | done | rfl))⟩, ⟨hm, (by first | rfl | (simp only [hOf, hset, hpost, htm, hmt, if_true, if_false, not_false_eq_true]; first | done | rfl))⟩, trivial⟩
 refine x_len ?_
 refine xnil 3 500003 33 rfl (by decide) (by decide +kernel) ?_
 refine xloopR (fb := [9, 21, 1025]) T.ok (Nat.le_of_ble_eq_true rfl) [0, 9, 10] (fun (s : Nat × List EdgeD) => [(11, .c (.d (.sc (.int .i64 ((s.1 : Nat) : Int))))), (3, .c (.own 500003 33 (s.2.map eD)))]) (fun s => s.1 ≤ (tagsOf (fun _ => true) l).length ∧ s.2 = ((tagsOf (fun _ => true) l).take s.1).map fun k => ((findT k l).getD noNode).edge) (fun s => (tagsOf (fun _ => true) l).length - s.1) (0, []) ⟨Nat.zero_le _, rfl⟩ (x_ent (by first | rfl | (simp only [Tr.get]; simp; done)) (x_ent (by first | rfl | (simp only [Tr.get]; simp; done)) trivial)) ?_
 rintro s ⟨hk, hA⟩
 have hil : (tagsOf (fun _ => true) l).length ≤ 1000 := Nat.le_trans tagsOf_len hl
 have hAl : s.2.length ≤ 1000 := by rw [hA, List.length_map, List.length_take]; omega
 refine br (fun hc2 => ?y2) (fun hc2 => ?n2)
 case' y2 =>
  obtain ⟨p, hp⟩ := elem_at hc2
  have hkl := lt_len hp
  have hoX := hx p
  first | refine x_ix (by exact mapAt hp) ?_ | refine x_ixI (by exact mapAt hp) ?_
  refine And.intro ⟨T.mixed, by decide +kernel⟩ ?_
  refine x_obj ht (by first | rfl | (simp only [hOf, hset, hpost, htm, hmt, if_true, if_false, not_false_eq_true]; first | done | rfl)) ?_
  refine q_look ?_ ⟨hm, (by first | rfl | (simp only [hOf, hset, hpost, htm, hmt, if_true, if_false, not_false_eq_true]; first | done | rfl))⟩ tagKey ⟨_, rfl⟩ (ents_keys _) Tryz.underlying111 zeroNode (look_node _ _)
  refine x_field Tryz.underlying106 rfl (T.k_33).1 ?_
  refine x_call T.en_66 (own_any _ hoX) ?_
  first | refine x_app ?_ (by first | exact eDs_wide _ | exact eD_wide | exact tDs_wide _ | exact tD_wide | (simp [D.cells])) (hz := by first | exact snoc_map | exact one_map | exact List.map_take.symm | exact slice_drop | exact rfl | rfl) | refine x_appN ?_ (by first | exact eDs_wide _ | exact eD_wide | exact tDs_wide _ | exact tD_wide | (simp [D.cells]))
  first | refine x_inc ?_ | refine x_add ?_ | refine x_bin rfl rfl ?_
  refine x_rnd (s.1 + 1, s.2 ++ [((findT p l).getD noNode).edge]) ⟨lt_len hp, by rw [take_next hp, hA]; simp⟩ (by (try dsimp only); have := lt_len hp; (try dsimp only); omega) rfl (x_ent (by first | rfl | (simp only [Tr.get]; simp; done)) (x_ent (by first | rfl | (simp only [Tr.get]; simp; done)) trivial)) rfl
 all_goals (refine ⟨?_, ⟨⟨ht, (by first | rfl | (simp only [hOf, hset, hpost, htm, hmt, if_true, if_false, not_false_eq_true]; first | done | rfl))⟩, ⟨hm, (by first | rfl | (simp only [hOf, hset, hpost, htm, hmt, if_true, if_false, not_false_eq_true]; first | done | rfl))⟩, trivial⟩⟩; simp only [fitsL, fits, C.asD, and_true] <;> (refine row_inj ?_; rw [hA, List.take_of_length_le (past_end (by assumption))]; rfl))

set_option maxHeartbeats 1000000 in
theorem live_any (t m : Nat) (ht : NAM ≤ t) (hm : NAM ≤ m) (htm : ¬ t = m) (l : List (TagD × NodeD)) (hl : l.length ≤ 1000) : ContractH Tryz.prog 35 [.ptr t 0] [(t, .obj [.mp m]), (m, .mapo (ents l))] [.d (.row ((noTag :: tagsOf (fun n => decide (n.state = 2)) l).map tD))] [(t, .obj [.mp m]), (m, .mapo (ents l))] := by
 refine T.fnH [7] Tryz.func35 ?_ (by simp only [List.forall_mem_cons, List.not_mem_nil, false_implies, implies_true, and_true]; exact ⟨ht, hm⟩) (by simp [thing]) (by simp [thing])
 have hmt : ¬ m = t := fun e => htm e.symm
 have hil : (tagsOf (fun n => decide (n.state = 2)) l).length ≤ 1000 := Nat.le_trans tagsOf_len hl
 first | refine And.intro ⟨_, Tryz.underlying53⟩ ?_ | refine x_bin rfl rfl ?_
 refine brF ?_
 refine x_callR T.en_67 (tags_any t m ht hm htm l hl 70 (fun n => decide (n.state = 2)) (by kernel_rfl) live1_any) ?_ ⟨⟨ht, (by first | rfl | (simp only [hOf, hset, hpost, htm, hmt, if_true, if_false, not_false_eq_true]; first | done | rfl))⟩, ⟨hm, (by first | rfl | (simp only [hOf, hset, hpost, htm, hmt, if_true, if_false, not_false_eq_true]; first | done | rfl))⟩, trivial⟩
 refine x_call T.en_45 (root_any) ?_
 first | refine x_app ?_ (by first | exact eDs_wide _ | exact eD_wide | exact tDs_wide _ | exact tD_wide | (simp [D.cells])) (hz := by first | exact snoc_map | exact one_map | exact List.map_take.symm | exact slice_drop | exact rfl | rfl) | refine x_appN ?_ (by first | exact eDs_wide _ | exact eD_wide | exact tDs_wide _ | exact tD_wide | (simp [D.cells]))
 all_goals (refine ⟨?_, ⟨⟨ht, (by first | rfl | (simp only [hOf, hset, hpost, htm, hmt, if_true, if_false, not_false_eq_true]; first | done | rfl))⟩, ⟨hm, (by first | rfl | (simp only [hOf, hset, hpost, htm, hmt, if_true, if_false, not_false_eq_true]; first | done | rfl))⟩, trivial⟩⟩; simp only [fitsL, fits, C.asD, and_true] <;> (rfl))

set_option maxHeartbeats 1000000 in
theorem find_any (t m : Nat) (ht : NAM ≤ t) (hm : NAM ≤ m) (htm : ¬ t = m) (l : List (TagD × NodeD)) (id : TagD) (hx : okX ((findT id l).getD noNode).edge.lens) : ContractH Tryz.prog 29 [.ptr t 0, tD id] [(t, .obj [.mp m]), (m, .mapo (ents l))] [.d (eD (if (findT id l).isSome = true then ((findT id l).getD noNode).edge else noEdge)), .d (.sc (.int .i64 (if (findT id l).isSome = true then 0 else 6)))] [(t, .obj [.mp m]), (m, .mapo (ents l))] := by
 refine T.fnH [17] Tryz.func29 ?_ (by simp only [List.forall_mem_cons, List.not_mem_nil, false_implies, implies_true, and_true]; exact ⟨ht, hm⟩) (by simp [thing]) (by simp [thing])
 have hmt : ¬ m = t := fun e => htm e.symm
 first | refine And.intro ⟨_, Tryz.underlying53⟩ ?_ | refine x_bin rfl rfl ?_
 refine brF ?_
 refine And.intro ⟨T.mixed, by decide +kernel⟩ ?_
 refine x_obj ht (by first | rfl | (simp only [hOf, hset, hpost, htm, hmt, if_true, if_false, not_false_eq_true]; first | done | rfl)) ?_
 refine q_look2 ?_ ⟨hm, (by first | rfl | (simp only [hOf, hset, hpost, htm, hmt, if_true, if_false, not_false_eq_true]; first | done | rfl))⟩ tagKey ⟨_, rfl⟩ (ents_keys _) Tryz.underlying111 zeroNode (look_node _ _) (look_found _ _)
 refine br (fun hc2 => ?y2) (fun hc2 => ?n2)
 case' y2 =>
  have hf : (findT id l).isSome = false := by simpa using hc2
 case' n2 =>
  have hf : (findT id l).isSome = true := by simpa using hc2
  refine x_call T.en_66 (own_any _ hx) ?_
 all_goals (refine ⟨?_, ⟨⟨ht, (by first | rfl | (simp only [hOf, hset, hpost, htm, hmt, if_true, if_false, not_false_eq_true]; first | done | rfl))⟩, ⟨hm, (by first | rfl | (simp only [hOf, hset, hpost, htm, hmt, if_true, if_false, not_false_eq_true]; first | done | rfl))⟩, trivial⟩⟩; simp only [fitsL, fits, C.asD, and_true] <;> (rw [hf]; exact ⟨rfl, rfl⟩))

set_option maxHeartbeats 1000000 in
theorem copy_any (t m c d : Nat) (ht : NAM ≤ t) (hm : NAM ≤ m) (hc : NAM ≤ c) (hd : NAM ≤ d) (htm : ¬ t = m) (htc : ¬ t = c) (htd : ¬ t = d) (hmc : ¬ m = c) (hmd : ¬ m = d) (hcd : ¬ c = d) (l : List (TagD × NodeD)) (hu : l.Pairwise fun a b => ¬ a.1 = b.1) : ContractE Tryz.prog 37 [.ptr t 0] [(t, .obj [.mp m]), (m, .mapo (ents l)), (c, .free), (d, .free)] (fun (l2 : List (TagD × NodeD)) => l2.Perm l) (fun (l2 : List (TagD × NodeD)) => [.d (.ptr c 0)]) (fun (l2 : List (TagD × NodeD)) => [(t, .obj [.mp m]), (m, .mapo (ents l)), (c, .obj [.mp d]), (d, .mapo (ents l2))]) := by
 refine T.fnE [8, 13, 16] Tryz.func37 ?_ (by simp only [List.forall_mem_cons, List.not_mem_nil, false_implies, implies_true, and_true]; exact ⟨ht, hm, hc, hd⟩) (by simp [thing]) (by simp [thing])
 have hmt : ¬ m = t := fun e => htm e.symm
 have hct : ¬ c = t := fun e => htc e.symm
 have hdt : ¬ d = t := fun e => htd e.symm
 have hcm : ¬ c = m := fun e => hmc e.symm
 have hdm : ¬ d = m := fun e => hmd e.symm
 have hdc : ¬ d = c := fun e => hcd e.symm
 first | refine And.intro ⟨_, Tryz.underlying53⟩ ?_ | refine x_bin rfl rfl ?_
 refine brF ?_
 refine x_callH T.en_39 (new_any c d hc hd hcd) ?_ ⟨⟨hc, (by first | rfl | (simp only [hOf, hset, hpost, htm, htc, htd, hmc, hmd, hcd, hmt, hct, hdt, hcm, hdm, hdc, if_true, if_false, not_false_eq_true]; first | done | rfl))⟩, ⟨hd, (by first | rfl | (simp only [hOf, hset, hpost, htm, htc, htd, hmc, hmd, hcd, hmt, hct, hdt, hcm, hdm, hdc, if_true, if_false, not_false_eq_true]; first | done | rfl))⟩, trivial⟩
 refine x_obj ht (by first | rfl | (simp only [hOf, hset, hpost, htm, htc, htd, hmc, hmd, hcd, hmt, hct, hdt, hcm, hdm, hdc, if_true, if_false, not_false_eq_true]; first | done | rfl)) ?_
 refine x_range ?_ ⟨hm, (by first | rfl | (simp only [hOf, hset, hpost, htm, htc, htd, hmc, hmd, hcd, hmt, hct, hdt, hcm, hdm, hdc, if_true, if_false, not_false_eq_true]; first | done | rfl))⟩ Tryz.underlying111 (ents_len _)
 refine xloop (fb := [8, 13, 16]) T.ok (Nat.le_of_ble_eq_true rfl) [3] (fun (s : List Nat × List (TagD × NodeD)) => [(13, .iter m l.length s.1)]) (fun s => (hset (hset (hset (hOf [(t, .obj [.mp m]), (m, .mapo (ents l)), (c, .free), (d, .free)]) d (.mapo [])) c (.obj [.mp d])) d (.mapo (ents s.2)))) (fun s => Seen l.length s.1 ∧ s.2 = pick (fun _ => true) (fun q => q) l s.1) (fun s => unseen l.length s.1) ([], []) ⟨⟨List.nodup_nil, by simp⟩, rfl⟩ (x_ent (by first | rfl | (simp only [Tr.get]; simp; done)) trivial) (by first | rfl | exact copy_heap hcd) ?_
 rintro s ⟨hse, hA⟩
 refine Exists.intro _ (And.intro ⟨hm, (by first | rfl | (simp only [hOf, hset, hpost, htm, htc, htd, hmc, hmd, hcd, hmt, hct, hdt, hcm, hdm, hdc, if_true, if_false, not_false_eq_true]; first | done | rfl)), ents_len _⟩ (And.intro (fun hd2 => ?d2) (fun iq pq hpq hiq => ?g2)))
 case' d2 =>
  have hfin := copy_all hse hA hd2
  refine brF ?_
 case' g2 =>
  obtain ⟨q, hqi, rfl⟩ := ents_at hpq
  have hlt1 := (List.getElem?_eq_some_iff.1 hqi).1
  refine brT ?_
  refine x_entry ?_ ⟨hm, (by first | rfl | (simp only [hOf, hset, hpost, htm, htc, htd, hmc, hmd, hcd, hmt, hct, hdt, hcm, hdm, hdc, if_true, if_false, not_false_eq_true]; first | done | rfl))⟩ (ents_len _) hpq
  refine And.intro ⟨T.mixed, by decide +kernel⟩ ?_
  refine x_obj hc (by first | rfl | (simp only [hOf, hset, hpost, htm, htc, htd, hmc, hmd, hcd, hmt, hct, hdt, hcm, hdm, hdc, if_true, if_false, not_false_eq_true]; first | done | rfl)) ?_
  refine x_put (es' := ents (s.2 ++ [q])) ?_ ⟨hd, (by first | rfl | (simp only [hOf, hset, hpost, htm, htc, htd, hmc, hmd, hcd, hmt, hct, hdt, hcm, hdm, hdc, if_true, if_false, not_false_eq_true]; first | done | rfl))⟩ tagKey ⟨_, rfl⟩ (ents_keys _) Tryz.underlying111 (by rw [hA]; exact copy_put hu hse hqi hiq)
  refine x_rnd (s.1 ++ [iq], s.2 ++ [q]) ⟨hse.next hlt1 hiq, by rw [pick_yes hqi rfl, hA]⟩ (by (try dsimp only); exact unseen_next hlt1 hiq) rfl (x_ent (by first | rfl | (simp only [Tr.get]; simp; done)) trivial) (by first | rfl | exact (hset_hset _ _ _ _).symm)
 all_goals (refine ⟨s.2, hfin, ?_, ⟨⟨ht, (by first | rfl | (simp only [hOf, hset, hpost, htm, htc, htd, hmc, hmd, hcd, hmt, hct, hdt, hcm, hdm, hdc, if_true, if_false, not_false_eq_true]; first | done | rfl))⟩, ⟨hm, (by first | rfl | (simp only [hOf, hset, hpost, htm, htc, htd, hmc, hmd, hcd, hmt, hct, hdt, hcm, hdm, hdc, if_true, if_false, not_false_eq_true]; first | done | rfl))⟩, ⟨hc, (by first | rfl | (simp only [hOf, hset, hpost, htm, htc, htd, hmc, hmd, hcd, hmt, hct, hdt, hcm, hdm, hdc, if_true, if_false, not_false_eq_true]; first | done | rfl))⟩, ⟨hd, (by first | rfl | (simp only [hOf, hset, hpost, htm, htc, htd, hmc, hmd, hcd, hmt, hct, hdt, hcm, hdm, hdc, if_true, if_false, not_false_eq_true]; first | done | rfl))⟩, trivial⟩⟩; simp only [fitsL, fits, C.asD, and_true] <;> (rfl))
end Go.Vm
end
section
namespace Go.Vm
open Go.RowKit Go.Proofs
set_option linter.unusedVariables false
set_option linter.unusedSimpArgs false
set_option maxRecDepth 10000

theorem find_perm {β : Type} {k : TagD} {l l' : List (TagD × β)} (hp : l.Perm l') : l.Pairwise (fun a b => ¬ a.1 = b.1) → findT k l = findT k l' := by
  induction hp with
  | nil => intro _; rfl
  | cons x _ ih =>
    intro h
    simp only [findT]
    rw [ih (List.pairwise_cons.1 h).2]
  | swap x y l =>
    intro h
    simp only [findT]
    have h1 := (List.pairwise_cons.1 h).1 x (List.mem_cons_self ..)
    by_cases e1 : k = y.1
    · rw [if_pos e1, if_neg (fun e2 => h1 (e1.symm.trans e2)), if_pos e1]
    · rw [if_neg e1, if_neg e1]
  | trans h1 _ ih1 ih2 =>
    intro h
    exact (ih1 h).trans (ih2 ((h1.pairwise_iff (R := fun a b : TagD × β => ¬ a.1 = b.1) (fun h e => h e.symm)).1 h))
theorem nodes_uniq {E : List EdgeD} (hg : Good E) : (nodesOf E).Pairwise fun a b => ¬ a.1 = b.1 := by
  unfold nodesOf
  exact List.pairwise_map.2 hg.uniq
theorem perm_uniq {E : List EdgeD} {l : List (TagD × NodeD)} (hg : Good E) (hl : l.Perm (nodesOf E)) : l.Pairwise fun a b => ¬ a.1 = b.1 := (hl.pairwise_iff (R := fun a b : TagD × NodeD => ¬ a.1 = b.1) (fun h e => h e.symm)).2 (nodes_uniq hg)
theorem perm_find {E : List EdgeD} {l : List (TagD × NodeD)} (hg : Good E) (hl : l.Perm (nodesOf E)) (k : TagD) : findT k l = (edgeOf E k).map (nodeOf E) := by
  rw [find_perm hl (perm_uniq hg hl), find_nodes]
theorem perm_at {E : List EdgeD} {l : List (TagD × NodeD)} (hg : Good E) (hl : l.Perm (nodesOf E)) (k : TagD) : (atT l k).state = (cameOf E k).1 ∧ (atT l k).schema = (cameOf E k).2.1 ∧ (atT l k).depth = (cameOf E k).2.2 := by
  by_cases h0 : k = noTag
  · subst h0; rw [at_root rfl, came_root]; exact ⟨rfl, rfl, rfl⟩
  · rw [at_other h0, perm_find hg hl]
    cases h : edgeOf E k with
    | none => rw [came_none h0 h]; exact ⟨rfl, rfl, rfl⟩
    | some e =>
      obtain ⟨_, rfl⟩ := edge_mem h
      exact ⟨rfl, rfl, rfl⟩
theorem perm_len {E : List EdgeD} {l : List (TagD × NodeD)} (hl : l.Perm (nodesOf E)) : l.length = E.length := by rw [hl.length_eq]; simp [nodesOf]
theorem okX_none : okX noEdge.lens := ⟨by decide, by decide, by decide⟩
theorem perm_okX {E : List EdgeD} {l : List (TagD × NodeD)} (hg : Good E) (hl : l.Perm (nodesOf E)) (k : TagD) : okX ((findT k l).getD noNode).edge.lens := by
  rw [perm_find hg hl]
  cases h : edgeOf E k with
  | none => exact okX_none
  | some e => exact hg.ok e (edge_mem h).1
theorem edge_okX {E : List EdgeD} (hg : Good E) (k : TagD) : okX ((edgeOf E k).getD noEdge).lens := by
  cases h : edgeOf E k with
  | none => exact okX_none
  | some e => exact hg.ok e (edge_mem h).1
theorem came_same {E : List EdgeD} {k : TagD} : (if (cameOf E k).1 = 2 then (cameOf E k).2.1 else []) = (cameOf E k).2.1 := by
  split
  · rfl
  · rename_i h
    by_cases h0 : k = noTag
    · subst h0; rw [came_root] at h; exact absurd rfl h
    · cases he : edgeOf E k with
      | none => rw [came_none h0 he]
      | some e =>
        rw [came_step h0 he] at h ⊢
        unfold stepC at h ⊢
        split
        · rename_i h2; rw [if_pos h2] at h
          split
          · rename_i h3; rw [if_pos h3] at h; exact absurd rfl h
          · rfl
        · split <;> rfl
theorem perm_edges {E : List EdgeD} {l : List (TagD × NodeD)} (hg : Good E) (hl : l.Perm (nodesOf E)) : edgesOf l = sortE E := by
  rw [← edgesOf_nodes hg.uniq]
  unfold edgesOf
  rw [tagsOf_perm hl]
  refine List.map_congr_left fun k _ => ?_
  rw [find_perm hl (perm_uniq hg hl)]
theorem perm_live {E : List EdgeD} {l : List (TagD × NodeD)} (hl : l.Perm (nodesOf E)) : noTag :: tagsOf (fun n => decide (n.state = 2)) l = liveE E := by
  rw [tagsOf_perm hl, liveOf_nodes]; rfl
theorem okL_came {E : List EdgeD} (hg : Good E) (k : TagD) : okL (cameOf E k).2.1 := okL_comes hg.ok _ k
theorem stateL (t m : Nat) (ht : NAM ≤ t) (hm : NAM ≤ m) (htm : ¬ t = m) (E : List EdgeD) (hg : Good E) (hE : E.length ≤ 1000) (l : List (TagD × NodeD)) (hl : l.Perm (nodesOf E)) (id : TagD) : ContractH Tryz.prog 26 [.ptr t 0, tD id] [(t, .obj [.mp m]), (m, .mapo (ents l))] [.d (.sc (.int .i64 (cameOf E id).1))] [(t, .obj [.mp m]), (m, .mapo (ents l))] := by
  have h := state_any t m ht hm htm l id
  rwa [(perm_at hg hl id).1] at h
theorem depthL (t m : Nat) (ht : NAM ≤ t) (hm : NAM ≤ m) (htm : ¬ t = m) (E : List EdgeD) (hg : Good E) (hE : E.length ≤ 1000) (l : List (TagD × NodeD)) (hl : l.Perm (nodesOf E)) (id : TagD) : ContractH Tryz.prog 28 [.ptr t 0, tD id] [(t, .obj [.mp m]), (m, .mapo (ents l))] [.d (.sc (.int .i64 (if (cameOf E id).1 = 2 then (cameOf E id).2.2 else -1)))] [(t, .obj [.mp m]), (m, .mapo (ents l))] := by
  have h := depth_any t m ht hm htm l id
  rwa [(perm_at hg hl id).1, (perm_at hg hl id).2.2] at h
theorem schemaL (t m : Nat) (ht : NAM ≤ t) (hm : NAM ≤ m) (htm : ¬ t = m) (E : List EdgeD) (hg : Good E) (hE : E.length ≤ 1000) (l : List (TagD × NodeD)) (hl : l.Perm (nodesOf E)) (id : TagD) : ContractH Tryz.prog 23 [.ptr t 0, tD id] [(t, .obj [.mp m]), (m, .mapo (ents l))] [.d (.row ((if (cameOf E id).1 = 2 then (cameOf E id).2.1 else []).map fD)), .d (.sc (.int .i64 (if (cameOf E id).1 = 2 then 0 else if (cameOf E id).1 = 3 then 16 else 13)))] [(t, .obj [.mp m]), (m, .mapo (ents l))] := by
  have h := schema_any t m ht hm htm l id (by rw [(perm_at hg hl id).2.1]; exact okL_came hg id)
  rwa [(perm_at hg hl id).1, (perm_at hg hl id).2.1] at h
theorem findL (t m : Nat) (ht : NAM ≤ t) (hm : NAM ≤ m) (htm : ¬ t = m) (E : List EdgeD) (hg : Good E) (hE : E.length ≤ 1000) (l : List (TagD × NodeD)) (hl : l.Perm (nodesOf E)) (id : TagD) : ContractH Tryz.prog 29 [.ptr t 0, tD id] [(t, .obj [.mp m]), (m, .mapo (ents l))] [.d (eD ((edgeOf E id).getD noEdge)), .d (.sc (.int .i64 (if (edgeOf E id).isSome = true then 0 else 6)))] [(t, .obj [.mp m]), (m, .mapo (ents l))] := by
  have h := find_any t m ht hm htm l id (perm_okX hg hl id)
  rw [perm_find hg hl] at h
  have e : (if ((edgeOf E id).map (nodeOf E)).isSome = true then (((edgeOf E id).map (nodeOf E)).getD noNode).edge else noEdge) = (edgeOf E id).getD noEdge := by cases edgeOf E id <;> rfl
  rw [e] at h
  rwa [show ((edgeOf E id).map (nodeOf E)).isSome = (edgeOf E id).isSome by cases edgeOf E id <;> rfl] at h
theorem edgesL (t m : Nat) (ht : NAM ≤ t) (hm : NAM ≤ m) (htm : ¬ t = m) (E : List EdgeD) (hg : Good E) (hE : E.length ≤ 1000) (l : List (TagD × NodeD)) (hl : l.Perm (nodesOf E)) : ContractH Tryz.prog 32 [.ptr t 0] [(t, .obj [.mp m]), (m, .mapo (ents l))] [.d (.row ((sortE E).map eD))] [(t, .obj [.mp m]), (m, .mapo (ents l))] := by
  have h := edges_any t m ht hm htm l (by rw [perm_len hl]; exact hE) (perm_okX hg hl)
  rwa [perm_edges hg hl] at h
theorem liveL (t m : Nat) (ht : NAM ≤ t) (hm : NAM ≤ m) (htm : ¬ t = m) (E : List EdgeD) (hg : Good E) (hE : E.length ≤ 1000) (l : List (TagD × NodeD)) (hl : l.Perm (nodesOf E)) : ContractH Tryz.prog 35 [.ptr t 0] [(t, .obj [.mp m]), (m, .mapo (ents l))] [.d (.row ((liveE E).map tD))] [(t, .obj [.mp m]), (m, .mapo (ents l))] := by
  have h := live_any t m ht hm htm l (by rw [perm_len hl]; exact hE)
  rwa [perm_live hl] at h

end Go.Vm
end
section
namespace Go.Vm
open Go.RowKit Go.Proofs
set_option linter.unusedVariables false
set_option linter.unusedSimpArgs false
set_option maxRecDepth 10000

def exA : EdgeD := ⟨⟨1, 1⟩, noTag, ⟨2, noRef, noB, noB, 0, ⟨⟨0, noB, ⟨#[120]⟩⟩, 4, noB, [], 0⟩, [], []⟩⟩
def exB : EdgeD := ⟨⟨2, 1⟩, ⟨1, 1⟩, ⟨1, ⟨0, noB, ⟨#[120]⟩⟩, ⟨#[121]⟩, noB, 0, noField, [], []⟩⟩
theorem ex1 : putE [] exB = ([exB], 0) := by kernel_rfl
theorem ex2 : putE [exB] exA = ([exB, exA], 0) := by kernel_rfl
theorem ex3 : (atT (nodesOf [exB]) exB.id).state = 1 := by kernel_rfl
theorem ex4 : (atT (nodesOf [exB, exA]) exB.id).state = 2 := by kernel_rfl
theorem ex5 : (atT (nodesOf [exB, exA]) exB.id).depth = 2 := by kernel_rfl
theorem good_nil : Good [] := ⟨by simp, by simp, .nil⟩
theorem okA : okX exA.lens := ⟨by decide, by decide, by decide⟩
theorem okB : okX exB.lens := ⟨by decide, by decide, by decide⟩
theorem good1 : Good [exB] := by have := good_nil.put okB; rwa [ex1] at this
theorem exPut1 (t m : Nat) (ht : NAM ≤ t) (hm : NAM ≤ m) (htm : ¬ t = m) : ContractH Tryz.prog 38 [.ptr t 0, eD exB] [(t, .obj [.mp m]), (m, .mapo (ents (nodesOf [])))] [.d (.sc (.int .i64 0))] [(t, .obj [.mp m]), (m, .mapo (ents (nodesOf [exB])))] := by
  have := put_any t m ht hm htm [] exB (by simp) good_nil okB
  rwa [ex1] at this
theorem exPut2 (t m : Nat) (ht : NAM ≤ t) (hm : NAM ≤ m) (htm : ¬ t = m) : ContractH Tryz.prog 38 [.ptr t 0, eD exA] [(t, .obj [.mp m]), (m, .mapo (ents (nodesOf [exB])))] [.d (.sc (.int .i64 0))] [(t, .obj [.mp m]), (m, .mapo (ents (nodesOf [exB, exA])))] := by
  have := put_any t m ht hm htm [exB] exA (by simp) good1 okA
  rwa [ex2] at this
theorem exState1 (t m : Nat) (ht : NAM ≤ t) (hm : NAM ≤ m) (htm : ¬ t = m) : ContractH Tryz.prog 26 [.ptr t 0, tD exB.id] [(t, .obj [.mp m]), (m, .mapo (ents (nodesOf [exB])))] [.d (.sc (.int .i64 1))] [(t, .obj [.mp m]), (m, .mapo (ents (nodesOf [exB])))] := by
  have := state_any t m ht hm htm (nodesOf [exB]) exB.id
  rwa [ex3] at this
theorem exState2 (t m : Nat) (ht : NAM ≤ t) (hm : NAM ≤ m) (htm : ¬ t = m) : ContractH Tryz.prog 26 [.ptr t 0, tD exB.id] [(t, .obj [.mp m]), (m, .mapo (ents (nodesOf [exB, exA])))] [.d (.sc (.int .i64 2))] [(t, .obj [.mp m]), (m, .mapo (ents (nodesOf [exB, exA])))] := by
  have := state_any t m ht hm htm (nodesOf [exB, exA]) exB.id
  rwa [ex4] at this
theorem exDepth (t m : Nat) (ht : NAM ≤ t) (hm : NAM ≤ m) (htm : ¬ t = m) : ContractH Tryz.prog 28 [.ptr t 0, tD exB.id] [(t, .obj [.mp m]), (m, .mapo (ents (nodesOf [exB, exA])))] [.d (.sc (.int .i64 2))] [(t, .obj [.mp m]), (m, .mapo (ents (nodesOf [exB, exA])))] := by
  have := depth_any t m ht hm htm (nodesOf [exB, exA]) exB.id
  rwa [ex4, ex5, if_pos rfl] at this

set_option maxHeartbeats 1000000 in
theorem awake_any (t m : Nat) (ht : NAM ≤ t) (hm : NAM ≤ m) (htm : ¬ t = m) : ContractH Tryz.prog 6 [] [(t, .free), (m, .free)] [.d (.sc (.bool (true)))] [(t, .obj [.mp m]), (m, .mapo (ents (nodesOf [exB, exA])))] := by
 refine T.fnH [7, 21, 25, 28, 43, 50] Tryz.func6 ?_ (by simp only [List.forall_mem_cons, List.not_mem_nil, false_implies, implies_true, and_true]; exact ⟨ht, hm⟩) (by simp [thing]) (by simp [thing])
 have hmt : ¬ m = t := fun e => htm e.symm
 refine x_callH T.en_39 (new_any t m ht hm htm) ?_ ⟨⟨ht, (by first | rfl | (simp only [hOf, hset, hpost, htm, hmt, if_true, if_false, not_false_eq_true]; first | done | rfl))⟩, ⟨hm, (by first | rfl | (simp only [hOf, hset, hpost, htm, hmt, if_true, if_false, not_false_eq_true]; first | done | rfl))⟩, trivial⟩
 refine x_callH T.en_38 (exPut1 t m ht hm htm) ?_ ⟨⟨ht, (by first | rfl | (simp only [hOf, hset, hpost, htm, hmt, if_true, if_false, not_false_eq_true]; first | done | rfl))⟩, ⟨hm, (by first | rfl | (simp only [hOf, hset, hpost, htm, hmt, if_true, if_false, not_false_eq_true]; first | done | rfl))⟩, trivial⟩
 refine x_callR T.en_26 (exState1 t m ht hm htm) ?_ ⟨⟨ht, (by first | rfl | (simp only [hOf, hset, hpost, htm, hmt, if_true, if_false, not_false_eq_true]; first | done | rfl))⟩, ⟨hm, (by first | rfl | (simp only [hOf, hset, hpost, htm, hmt, if_true, if_false, not_false_eq_true]; first | done | rfl))⟩, trivial⟩
 refine x_callH T.en_38 (exPut2 t m ht hm htm) ?_ ⟨⟨ht, (by first | rfl | (simp only [hOf, hset, hpost, htm, hmt, if_true, if_false, not_false_eq_true]; first | done | rfl))⟩, ⟨hm, (by first | rfl | (simp only [hOf, hset, hpost, htm, hmt, if_true, if_false, not_false_eq_true]; first | done | rfl))⟩, trivial⟩
 refine br (fun hg1 => ?y1) (fun hg1 => ?n1)
 case' y1 =>
  refine br (fun hg2 => ?y2) (fun hg2 => ?n2)
  case' y2 =>
   refine br (fun hg3 => ?y3) (fun hg3 => ?n3)
   case' y3 =>
    refine x_callR T.en_26 (exState2 t m ht hm htm) ?_ ⟨⟨ht, (by first | rfl | (simp only [hOf, hset, hpost, htm, hmt, if_true, if_false, not_false_eq_true]; first | done | rfl))⟩, ⟨hm, (by first | rfl | (simp only [hOf, hset, hpost, htm, hmt, if_true, if_false, not_false_eq_true]; first | done | rfl))⟩, trivial⟩
    refine br (fun hg4 => ?y4) (fun hg4 => ?n4)
    case' y4 =>
     refine x_callR T.en_28 (exDepth t m ht hm htm) ?_ ⟨⟨ht, (by first | rfl | (simp only [hOf, hset, hpost, htm, hmt, if_true, if_false, not_false_eq_true]; first | done | rfl))⟩, ⟨hm, (by first | rfl | (simp only [hOf, hset, hpost, htm, hmt, if_true, if_false, not_false_eq_true]; first | done | rfl))⟩, trivial⟩
   case' n3 =>
    refine brF ?_
  case' n2 =>
   refine brF ?_
   refine brF ?_
 case' n1 =>
  refine brF ?_
  refine brF ?_
  refine brF ?_
 all_goals (refine ⟨?_, ⟨⟨ht, (by first | rfl | (simp only [hOf, hset, hpost, htm, hmt, if_true, if_false, not_false_eq_true]; first | done | rfl))⟩, ⟨hm, (by first | rfl | (simp only [hOf, hset, hpost, htm, hmt, if_true, if_false, not_false_eq_true]; first | done | rfl))⟩, trivial⟩⟩; simp only [fitsL, fits, C.asD, and_true] <;> (first | rfl | (exfalso; simp_all; done)))
end Go.Vm
end
section
namespace Go.Vm
open Go.RowKit Go.Proofs
set_option linter.unusedVariables false
set_option linter.unusedSimpArgs false
set_option maxRecDepth 10000

theorem grown_heap {h : Hp} {t m : Nat} {a b x : S} (htm : ¬ t = m) : hset (hset (hpost h [(t, a), (m, b)]) m x) m x = hset (hpost h [(t, a), (m, b)]) m x := hset_hset _ _ _ _
theorem grown_next {h : Hp} {t m : Nat} {a b x y : S} (htm : ¬ t = m) : hset (hpost h [(t, a), (m, b)]) m y = hpost (hset (hpost h [(t, a), (m, b)]) m x) [(t, a), (m, y)] := by
  funext u
  simp only [hpost, hset]
  by_cases h1 : u = m
  · subst h1; have : ¬ u = t := fun e => htm e.symm; simp [this]
  · by_cases h2 : u = t
    · subst h2; simp [h1]
    · simp [h1, h2]
theorem grown_first {h : Hp} {t m : Nat} {a b : S} (htm : ¬ t = m) : hset (hpost h [(t, a), (m, b)]) m b = hpost h [(t, a), (m, b)] := by
  refine hset_self ?_
  simp only [hpost, hset]
  have : ¬ m = t := fun e => htm e.symm
  simp [this]

set_option maxHeartbeats 1000000 in
theorem grown_any (t m : Nat) (ht : NAM ≤ t) (hm : NAM ≤ m) (htm : ¬ t = m) (l : List EdgeD) (hl : l.length ≤ 1000) (hok : ∀ e ∈ l, okX e.lens) : ContractH Tryz.prog 21 [.row (l.map eD)] [(t, .free), (m, .free)] [.d (.ptr t 0), .d (.row ((growE l).map eD)), .d (.sc (.bool (true)))] [(t, .obj [.mp m]), (m, .mapo (ents (nodesOf (growE l))))] := by
 refine T.fnH [6, 10, 32] Tryz.func21 ?_ (by simp only [List.forall_mem_cons, List.not_mem_nil, false_implies, implies_true, and_true]; exact ⟨ht, hm⟩) (by simp [thing]) (by simp [thing])
 have hmt : ¬ m = t := fun e => htm e.symm
 refine x_callH T.en_39 (new_any t m ht hm htm) ?_ ⟨⟨ht, (by first | rfl | (simp only [hOf, hset, hpost, htm, hmt, if_true, if_false, not_false_eq_true]; first | done | rfl))⟩, ⟨hm, (by first | rfl | (simp only [hOf, hset, hpost, htm, hmt, if_true, if_false, not_false_eq_true]; first | done | rfl))⟩, trivial⟩
 refine x_frz ?_
 refine xloop (fb := [6, 10, 32]) T.ok (Nat.le_of_ble_eq_true rfl) [0, 5] (fun (k : Nat) => [(7, .c (.d (.sc (.int .i64 (k : Nat))))), (6, .c (.d (.row ((growE (l.take k)).map eD))))]) (fun k => (hset (hpost (hOf [(t, .free), (m, .free)]) [(t, .obj [.mp m]), (m, .mapo (ents (nodesOf [])))]) m (.mapo (ents (nodesOf (growE (l.take k))))))) (fun k => k ≤ l.length) (fun k => l.length - k) 0 (Nat.zero_le _) (x_ent (by first | rfl | (simp only [Tr.get]; simp; done)) (x_ent (by first | rfl | (simp only [Tr.get]; simp; done)) trivial)) (by first | rfl | exact grown_first htm) ?_
 rintro k hk
 have hgg := grow_good (l := l.take k) (fun e he => hok e (List.mem_of_mem_take he))
 have hg := hgg.1
 have hE := hgg.2
 refine x_len ?_
 refine br (fun hc1 => ?y1) (fun hc1 => ?n1)
 case' y1 =>
  obtain ⟨p, hp⟩ := elem_at hc1
  have hkl := lt_len hp
  have hoX := hok p (List.mem_of_getElem? hp)
  first | refine x_ix (by exact mapAt hp) ?_ | refine x_ixI (by exact mapAt hp) ?_
  refine x_call T.en_60 (refTreePut_any (growE (l.take k)) p (by omega) hg.ok hoX) ?_
  first | refine x_ix (by exact mapAt hp) ?_ | refine x_ixI (by exact mapAt hp) ?_
  refine x_callH T.en_38 (put_any t m ht hm htm (growE (l.take k)) p (by omega) hg hoX) ?_ ⟨⟨ht, (by first | rfl | (simp only [hOf, hset, hpost, htm, hmt, if_true, if_false, not_false_eq_true]; first | done | rfl))⟩, ⟨hm, (by first | rfl | (simp only [hOf, hset, hpost, htm, hmt, if_true, if_false, not_false_eq_true]; first | done | rfl))⟩, trivial⟩
  refine br (fun hc2 => ?y2) (fun hc2 => ?n2)
  case' y2 =>
   exact absurd rfl hc2
  case' n2 =>
   refine x_frz ?_
   first | refine x_inc ?_ | refine x_add ?_ | refine x_bin rfl rfl ?_
   refine x_rnd (k + 1) (lt_len hp) (by (try dsimp only); have := lt_len hp; omega) rfl (x_ent (by first | rfl | (simp only [Tr.get]; simp; done)) (x_ent (by simp only [Tr.get]; rw [growE_take hp]) trivial)) (by rw [growE_take hp]; exact grown_next htm)
 case' n1 =>
  have hend : growE (l.take k) = growE l := by rw [List.take_of_length_le (past_end hc1)]
 all_goals (refine ⟨?_, ⟨⟨ht, (by first | rfl | (simp only [hOf, hset, hpost, htm, hmt, if_true, if_false, not_false_eq_true]; first | done | rfl))⟩, ⟨hm, by rw [← hend]; exact (by first | rfl | (simp only [hOf, hset, hpost, htm, hmt, if_true, if_false, not_false_eq_true]; first | done | rfl))⟩, trivial⟩⟩; simp only [fitsL, fits, C.asD, and_true] <;> (rw [hend]; first | exact ⟨rfl, rfl, rfl⟩ | exact ⟨trivial, rfl, trivial⟩ | simp))
end Go.Vm
end
section
namespace Go.Vm
set_option linter.unusedVariables false
set_option linter.unusedSimpArgs false

/-- Edges that come to a tree, one behind the other. -/
def growF (E l : List EdgeD) : List EdgeD := l.foldl (fun E e => (putE E e).1) E
theorem growF_take {E l : List EdgeD} {k : Nat} {e : EdgeD} (h : l[k]? = some e) : growF E (l.take (k + 1)) = (putE (growF E (l.take k)) e).1 := by
  unfold growF
  rw [List.take_add_one, h, List.foldl_append]; rfl
theorem growF_good : ∀ {l E : List EdgeD}, Good E → E.length ≤ 40 → (∀ e ∈ l, okX e.lens) → Good (growF E l) ∧ (growF E l).length ≤ 40
  | [], E, h1, h2, _ => ⟨h1, h2⟩
  | e :: l, E, h1, h2, h3 => growF_good (l := l) (h1.put (h3 e (List.mem_cons_self ..))) (put_len h2) (fun x hx => h3 x (List.mem_cons_of_mem _ hx))
theorem edgeOf_more {E : List EdgeD} {e x : EdgeD} {id : TagD} (h : edgeOf E id = some x) : edgeOf (E ++ [e]) id = some x := by
  unfold edgeOf at h ⊢
  rw [List.find?_append, h]; rfl
theorem comes_stays {E : List EdgeD} {e : EdgeD} : ∀ (n : Nat) (id : TagD), doneB (comes n E id) = true → comes n (E ++ [e]) id = comes n E id
  | 0, _, _ => rfl
  | n + 1, id, h => by
    by_cases h0 : id = noTag
    · subst h0; rw [comes_root, comes_root]
    · cases he : edgeOf E id with
      | none => rw [comes_none h0 he] at h; simp [doneB] at h
      | some x =>
        rw [comes_succ h0 he] at h
        rw [comes_succ h0 he, comes_succ h0 (edgeOf_more he), comes_stays n x.parent (step_done h)]
theorem came_stays {E : List EdgeD} {e : EdgeD} {id : TagD} (h : doneB (cameOf E id) = true) : cameOf (E ++ [e]) id = cameOf E id := by
  have h1 := comes_stays (e := e) (E.length + 1) id h
  unfold cameOf at h ⊢
  rw [← h1] at h
  rw [comes_full h, h1]
theorem put_stays {E : List EdgeD} {e : EdgeD} {id : TagD} (h : doneB (cameOf E id) = true) : cameOf (putE E e).1 id = cameOf E id := by
  unfold putE
  split
  · rfl
  · split
    · split <;> rfl
    · split
      · rfl
      · exact came_stays h
theorem growF_stays : ∀ {l E : List EdgeD} {id : TagD}, doneB (cameOf E id) = true → cameOf (growF E l) id = cameOf E id
  | [], _, _, _ => rfl
  | e :: l, E, id, h => by
    have h1 := put_stays (e := e) h
    have h2 := growF_stays (l := l) (E := (putE E e).1) (id := id) (by rw [h1]; exact h)
    exact h2.trans h1
theorem put_more {E : List EdgeD} {e : EdgeD} : E.length ≤ (putE E e).1.length := by
  unfold putE
  split
  · exact Nat.le_refl _
  · split
    · split <;> exact Nat.le_refl _
    · split
      · exact Nat.le_refl _
      · simp
theorem growF_more : ∀ {l E : List EdgeD}, E.length ≤ (growF E l).length
  | [], _ => Nat.le_refl _
  | e :: l, E => Nat.le_trans put_more (growF_more (l := l) (E := (putE E e).1))
theorem live_state {E : List EdgeD} {id : TagD} (h : id ∈ noTag :: ((sortE E).filter fun e => decide ((cameOf E e.id).1 = 2)).map (·.id)) : (cameOf E id).1 = 2 := by
  rcases List.mem_cons.1 h with rfl | h
  · rw [came_root]
  · obtain ⟨e, he, rfl⟩ := List.mem_map.1 h
    simpa using (List.mem_filter.1 he).2
theorem live_done {r : Came} (h : r.1 = 2) : doneB r = true := by simp [doneB, h]
end Go.Vm
end
section
namespace Go.Vm
open Go.RowKit Go.Proofs
set_option linter.unusedVariables false
set_option linter.unusedSimpArgs false
set_option maxRecDepth 10000

theorem live_len {E : List EdgeD} (h : E.length ≤ 1000) : (liveE E).length ≤ 1001 := by
  unfold liveE
  rw [List.length_cons, List.length_map]
  have := List.length_filter_le (fun e => decide ((cameOf E e.id).1 = 2)) (sortE E)
  rw [sortE_len] at this
  omega

set_option maxHeartbeats 1000000 in
theorem treePuts_any (t m c d : Nat) (ht : NAM ≤ t) (hm : NAM ≤ m) (hc : NAM ≤ c) (hd : NAM ≤ d) (htm : ¬ t = m) (htc : ¬ t = c) (htd : ¬ t = d) (hmc : ¬ m = c) (hmd : ¬ m = d) (hcd : ¬ c = d) (l : List EdgeD) (look : TagD) : ContractH Tryz.prog 4 [.row (l.map eD), tD look] [(t, .free), (m, .free), (c, .free), (d, .free)] [.d (.sc (.bool (true)))] [] := by
 refine T.fnH [23, 29, 73, 103, 123, 133, 172, 178] Tryz.func4 ?_ (by simp only [List.forall_mem_cons, List.not_mem_nil, false_implies, implies_true, and_true]; exact ⟨ht, hm, hc, hd⟩) (by simp [thing]) (by simp [thing])
 have hmt : ¬ m = t := fun e => htm e.symm
 have hct : ¬ c = t := fun e => htc e.symm
 have hdt : ¬ d = t := fun e => htd e.symm
 have hcm : ¬ c = m := fun e => hmc e.symm
 have hdm : ¬ d = m := fun e => hmd e.symm
 have hdc : ¬ d = c := fun e => hcd e.symm
 refine x_callH T.en_6 (awake_any t m ht hm htm) ?_ ⟨⟨ht, (by first | rfl | (simp only [hOf, hset, hpost, htm, htc, htd, hmc, hmd, hcd, hmt, hct, hdt, hcm, hdm, hdc, if_true, if_false, not_false_eq_true]; first | done | rfl))⟩, ⟨hm, (by first | rfl | (simp only [hOf, hset, hpost, htm, htc, htd, hmc, hmd, hcd, hmt, hct, hdt, hcm, hdm, hdc, if_true, if_false, not_false_eq_true]; first | done | rfl))⟩, trivial⟩
 refine brF ?_
 refine x_call T.en_20 (refHeavy_any l 60 (by decide)) ?_
 refine br (fun hc2 => ?y2) (fun hc2 => ?n2)
 case' n2 =>
  obtain ⟨hl60, hok⟩ := heavyE_ok (m := 60) (by simpa using hc2)
  have hgg := grow_good hok
  have hg := hgg.1
  have hE40 := hgg.2
  have hE := hgg.2
  refine x_callH T.en_21 (grown_any c d hc hd hcd l (by omega) hok) ?_ ⟨⟨hc, (by first | rfl | (simp only [hOf, hset, hpost, htm, htc, htd, hmc, hmd, hcd, hmt, hct, hdt, hcm, hdm, hdc, if_true, if_false, not_false_eq_true]; first | done | rfl))⟩, ⟨hd, (by first | rfl | (simp only [hOf, hset, hpost, htm, htc, htd, hmc, hmd, hcd, hmt, hct, hdt, hcm, hdm, hdc, if_true, if_false, not_false_eq_true]; first | done | rfl))⟩, trivial⟩
  refine brF ?_
  refine xloopR (fb := [23, 29, 73, 103, 123, 133, 172, 178]) T.ok (Nat.le_of_ble_eq_true rfl) [5, 6] (fun (s : Nat × List TagD) => [(9, .c (.d (.sc (.int .i64 ((s.1 : Nat) : Int))))), (8, .c (.own 37 23 (s.2.map tD)))]) (fun s => s.1 ≤ (growE l).length ∧ s.2.length = s.1 + 2) (fun s => (growE l).length - s.1) (0, [look, noTag]) ⟨Nat.zero_le _, rfl⟩ (x_ent (by first | rfl | (simp only [Tr.get]; simp; done)) (x_ent (by first | rfl | (simp only [Tr.get]; simp; done)) trivial)) ?_
  rintro s ⟨hk, hA⟩
  refine x_len ?_
  refine br (fun hc4 => ?y4) (fun hc4 => ?n4)
  case' y4 =>
   obtain ⟨p, hp⟩ := elem_at hc4
   have hkl := lt_len hp
   first | refine x_ix (by first | exact mapAt hp | exact at_ix hq hqa) ?_ | refine x_ixI (by first | exact mapAt hp | exact at_ix hq hqa) ?_
   first | refine x_app ?_ (by first | exact eDs_wide _ | exact eD_wide | exact tDs_wide _ | exact tD_wide | (simp [D.cells])) (hz := by first | exact snoc_map | exact one_map | exact List.map_take.symm | exact slice_drop | exact rfl | rfl) | refine x_appN ?_ (by first | exact eDs_wide _ | exact eD_wide | exact tDs_wide _ | exact tD_wide | (simp [D.cells]))
   first | refine x_inc ?_ | refine x_add ?_ | refine x_bin rfl rfl ?_
   refine x_rnd (s.1 + 1, s.2 ++ [p.id]) ⟨lt_len hp, by simp [hA]⟩ (by (try dsimp only); have := lt_len hp; (try dsimp only); omega) rfl (x_ent (by first | rfl | (simp only [Tr.get]; simp; done)) (x_ent (by first | rfl | (simp only [Tr.get]; simp; done)) trivial)) rfl
  case' n4 =>
   refine xloopR (fb := [23, 29, 73, 103, 123, 133, 172, 178]) T.ok (Nat.le_of_ble_eq_true rfl) [5, 6, 8] (fun (k : Nat) => [(10, .c (.d (.sc (.int .i64 (k : Nat)))))]) (fun k => k ≤ s.2.length) (fun k => s.2.length - k) 0 (Nat.zero_le _) (x_ent (by first | rfl | (simp only [Tr.get]; simp; done)) trivial) ?_
   rintro k hk2
   refine x_len ?_
   refine br (fun hc5 => ?y5) (fun hc5 => ?n5)
   case' y5 =>
    obtain ⟨p, hp⟩ := elem_at hc5
    have hkl := lt_len hp
    first | refine x_ix (by first | exact mapAt hp | exact at_ix hq hqa) ?_ | refine x_ixI (by first | exact mapAt hp | exact at_ix hq hqa) ?_
    refine x_call T.en_22 (refState_any (growE l) p (by omega) hg.ok) ?_
    first | refine x_ix (by first | exact mapAt hp | exact at_ix hq hqa) ?_ | refine x_ixI (by first | exact mapAt hp | exact at_ix hq hqa) ?_
    refine x_callR T.en_23 (schemaL c d hc hd hcd (growE l) hg (by omega) (nodesOf (growE l)) (.refl _) p) ?_ ⟨⟨hc, (by first | rfl | (simp only [hOf, hset, hpost, htm, htc, htd, hmc, hmd, hcd, hmt, hct, hdt, hcm, hdm, hdc, if_true, if_false, not_false_eq_true]; first | done | rfl))⟩, ⟨hd, (by first | rfl | (simp only [hOf, hset, hpost, htm, htc, htd, hmc, hmd, hcd, hmt, hct, hdt, hcm, hdm, hdc, if_true, if_false, not_false_eq_true]; first | done | rfl))⟩, trivial⟩
    first | refine x_ix (by first | exact mapAt hp | exact at_ix hq hqa) ?_ | refine x_ixI (by first | exact mapAt hp | exact at_ix hq hqa) ?_
    refine x_call T.en_24 (refSchema_any (growE l) p (by omega) hg.ok) ?_
    first | refine x_ix (by first | exact mapAt hp | exact at_ix hq hqa) ?_ | refine x_ixI (by first | exact mapAt hp | exact at_ix hq hqa) ?_
    refine x_call T.en_25 (refWay_any (growE l) p (by omega)) ?_
    refine x_len ?_
    refine br (fun hc6 => ?y6) (fun hc6 => ?n6)
    case' y6 =>
     have hs2 := hc6
     have hde : (if (cameOf (growE l) p).1 = 2 then (cameOf (growE l) p).2.2 else -1) = -1 := if_neg hs2
     first | refine x_ix (by first | exact mapAt hp | exact at_ix hq hqa) ?_ | refine x_ixI (by first | exact mapAt hp | exact at_ix hq hqa) ?_
     refine x_callR T.en_26 (stateL c d hc hd hcd (growE l) hg (by omega) (nodesOf (growE l)) (.refl _) p) ?_ ⟨⟨hc, (by first | rfl | (simp only [hOf, hset, hpost, htm, htc, htd, hmc, hmd, hcd, hmt, hct, hdt, hcm, hdm, hdc, if_true, if_false, not_false_eq_true]; first | done | rfl))⟩, ⟨hd, (by first | rfl | (simp only [hOf, hset, hpost, htm, htc, htd, hmc, hmd, hcd, hmt, hct, hdt, hcm, hdm, hdc, if_true, if_false, not_false_eq_true]; first | done | rfl))⟩, trivial⟩
     refine br (fun hg7 => ?y7) (fun hg7 => ?n7)
     case' y7 =>
      exact absurd rfl hg7
     case' n7 =>
      refine br (fun hg8 => ?y8) (fun hg8 => ?n8)
      case' y8 =>
       exact absurd rfl hg8
      case' n8 =>
       refine x_call T.en_27 (refSchemaSame_any _ _ (by rw [came_same]; exact okL_came hg p)) ?_
       refine br (fun hg9 => ?y9) (fun hg9 => ?n9)
       case' y9 =>
        exact absurd came_same (by simpa using hg9)
       case' n9 =>
        first | refine x_ix (by first | exact mapAt hp | exact at_ix hq hqa) ?_ | refine x_ixI (by first | exact mapAt hp | exact at_ix hq hqa) ?_
        refine x_callR T.en_28 (depthL c d hc hd hcd (growE l) hg (by omega) (nodesOf (growE l)) (.refl _) p) ?_ ⟨⟨hc, (by first | rfl | (simp only [hOf, hset, hpost, htm, htc, htd, hmc, hmd, hcd, hmt, hct, hdt, hcm, hdm, hdc, if_true, if_false, not_false_eq_true]; first | done | rfl))⟩, ⟨hd, (by first | rfl | (simp only [hOf, hset, hpost, htm, htc, htd, hmc, hmd, hcd, hmt, hct, hdt, hcm, hdm, hdc, if_true, if_false, not_false_eq_true]; first | done | rfl))⟩, trivial⟩
        refine br (fun hc10 => ?y10) (fun hc10 => ?n10)
        case' y10 =>
         exact absurd hde (by simpa using hc10)
        case' n10 =>
         first | refine x_ix (by first | exact mapAt hp | exact at_ix hq hqa) ?_ | refine x_ixI (by first | exact mapAt hp | exact at_ix hq hqa) ?_
         refine x_callR T.en_29 (findL c d hc hd hcd (growE l) hg (by omega) (nodesOf (growE l)) (.refl _) p) ?_ ⟨⟨hc, (by first | rfl | (simp only [hOf, hset, hpost, htm, htc, htd, hmc, hmd, hcd, hmt, hct, hdt, hcm, hdm, hdc, if_true, if_false, not_false_eq_true]; first | done | rfl))⟩, ⟨hd, (by first | rfl | (simp only [hOf, hset, hpost, htm, htc, htd, hmc, hmd, hcd, hmt, hct, hdt, hcm, hdm, hdc, if_true, if_false, not_false_eq_true]; first | done | rfl))⟩, trivial⟩
         first | refine x_ix (by first | exact mapAt hp | exact at_ix hq hqa) ?_ | refine x_ixI (by first | exact mapAt hp | exact at_ix hq hqa) ?_
         refine x_call T.en_30 (refAt_any (growE l) p (by omega)) ?_
         refine And.intro ⟨T.mixed, by decide +kernel⟩ ?_
         refine br (fun hg11 => ?y11) (fun hg11 => ?n11)
         case' y11 =>
          have hmi := atE_miss hg11
          refine br (fun hg12 => ?y12) (fun hg12 => ?n12)
          case' y12 =>
           exact absurd (by rw [hmi]; rfl) hg12
          case' n12 =>
           refine x_call T.en_15 (by first | exact refSame_any _ noEdge (edge_okX hg p) | exact refSame_any _ q (edge_okX hg p)) ?_
           refine br (fun hg13 => ?y13) (fun hg13 => ?n13)
           case' y13 =>
            exact absurd (show (edgeOf (growE l) p).getD noEdge = noEdge by rw [hmi]; rfl) (by simpa using hg13)
           case' n13 =>
            refine br (fun hg14 => ?y14) (fun hg14 => ?n14)
            case' y14 =>
             have ha0 : 0 ≤ atE (growE l) p := hg14
             obtain ⟨j, q, hq, hqe, hqa⟩ := atE_hit (E := (growE l)) (id := p) (by omega)
             have hql := lt_len hq
             have hqX := hg.ok q (List.mem_of_getElem? hq)
             refine br (fun hg15 => ?y15) (fun hg15 => ?n15)
             case' y15 =>
              exact absurd (by rw [hqe]; rfl) hg15
             case' n15 =>
              first | refine x_ix (by first | exact mapAt hp | exact at_ix hq hqa) ?_ | refine x_ixI (by first | exact mapAt hp | exact at_ix hq hqa) ?_
              refine x_call T.en_15 (by first | exact refSame_any _ noEdge (edge_okX hg p) | exact refSame_any _ q (edge_okX hg p)) ?_
              refine br (fun hc16 => ?y16) (fun hc16 => ?n16)
              case' y16 =>
               first | (exfalso; omega) | exact absurd (show (edgeOf (growE l) p).getD noEdge = q by rw [hqe]; rfl) (by simpa using hc16)
              case' n16 =>
               first | refine x_inc ?_ | refine x_add ?_ | refine x_bin rfl rfl ?_
               refine x_rnd (k + 1) (lt_len hp) (by (try dsimp only); have := lt_len hp; omega) rfl (x_ent (by first | rfl | (simp only [Tr.get]; simp; done)) trivial) rfl
            case' n14 =>
             refine brF ?_
             first | refine x_inc ?_ | refine x_add ?_ | refine x_bin rfl rfl ?_
             refine x_rnd (k + 1) (lt_len hp) (by (try dsimp only); have := lt_len hp; omega) rfl (x_ent (by first | rfl | (simp only [Tr.get]; simp; done)) trivial) rfl
         case' n11 =>
          refine brF ?_
          refine br (fun hg19 => ?y19) (fun hg19 => ?n19)
          case' y19 =>
           have ha0 : 0 ≤ atE (growE l) p := hg19
           obtain ⟨j, q, hq, hqe, hqa⟩ := atE_hit (E := (growE l)) (id := p) (by omega)
           have hql := lt_len hq
           have hqX := hg.ok q (List.mem_of_getElem? hq)
           refine br (fun hg20 => ?y20) (fun hg20 => ?n20)
           case' y20 =>
            exact absurd (by rw [hqe]; rfl) hg20
           case' n20 =>
            first | refine x_ix (by first | exact mapAt hp | exact at_ix hq hqa) ?_ | refine x_ixI (by first | exact mapAt hp | exact at_ix hq hqa) ?_
            refine x_call T.en_15 (by first | exact refSame_any _ noEdge (edge_okX hg p) | exact refSame_any _ q (edge_okX hg p)) ?_
            refine br (fun hc21 => ?y21) (fun hc21 => ?n21)
            case' y21 =>
             first | (exfalso; omega) | exact absurd (show (edgeOf (growE l) p).getD noEdge = q by rw [hqe]; rfl) (by simpa using hc21)
            case' n21 =>
             first | refine x_inc ?_ | refine x_add ?_ | refine x_bin rfl rfl ?_
             refine x_rnd (k + 1) (lt_len hp) (by (try dsimp only); have := lt_len hp; omega) rfl (x_ent (by first | rfl | (simp only [Tr.get]; simp; done)) trivial) rfl
          case' n19 =>
           refine brF ?_
           first | refine x_inc ?_ | refine x_add ?_ | refine x_bin rfl rfl ?_
           refine x_rnd (k + 1) (lt_len hp) (by (try dsimp only); have := lt_len hp; omega) rfl (x_ent (by first | rfl | (simp only [Tr.get]; simp; done)) trivial) rfl
    case' n6 =>
     have hs2 : (cameOf (growE l) p).1 = 2 := by simpa using hc6
     have hde : (if (cameOf (growE l) p).1 = 2 then (cameOf (growE l) p).2.2 else -1) = ((((wayOf (growE l) p).getD []).length : Nat) : Int) := by rw [if_pos hs2]; obtain ⟨w, h1, h2⟩ := live_way hs2; rw [h2, h1]; rfl
     first | refine x_ix (by first | exact mapAt hp | exact at_ix hq hqa) ?_ | refine x_ixI (by first | exact mapAt hp | exact at_ix hq hqa) ?_
     refine x_callR T.en_26 (stateL c d hc hd hcd (growE l) hg (by omega) (nodesOf (growE l)) (.refl _) p) ?_ ⟨⟨hc, (by first | rfl | (simp only [hOf, hset, hpost, htm, htc, htd, hmc, hmd, hcd, hmt, hct, hdt, hcm, hdm, hdc, if_true, if_false, not_false_eq_true]; first | done | rfl))⟩, ⟨hd, (by first | rfl | (simp only [hOf, hset, hpost, htm, htc, htd, hmc, hmd, hcd, hmt, hct, hdt, hcm, hdm, hdc, if_true, if_false, not_false_eq_true]; first | done | rfl))⟩, trivial⟩
     refine br (fun hg23 => ?y23) (fun hg23 => ?n23)
     case' y23 =>
      exact absurd rfl hg23
     case' n23 =>
      refine br (fun hg24 => ?y24) (fun hg24 => ?n24)
      case' y24 =>
       exact absurd rfl hg24
      case' n24 =>
       refine x_call T.en_27 (refSchemaSame_any _ _ (by rw [came_same]; exact okL_came hg p)) ?_
       refine br (fun hg25 => ?y25) (fun hg25 => ?n25)
       case' y25 =>
        exact absurd came_same (by simpa using hg25)
       case' n25 =>
        first | refine x_ix (by first | exact mapAt hp | exact at_ix hq hqa) ?_ | refine x_ixI (by first | exact mapAt hp | exact at_ix hq hqa) ?_
        refine x_callR T.en_28 (depthL c d hc hd hcd (growE l) hg (by omega) (nodesOf (growE l)) (.refl _) p) ?_ ⟨⟨hc, (by first | rfl | (simp only [hOf, hset, hpost, htm, htc, htd, hmc, hmd, hcd, hmt, hct, hdt, hcm, hdm, hdc, if_true, if_false, not_false_eq_true]; first | done | rfl))⟩, ⟨hd, (by first | rfl | (simp only [hOf, hset, hpost, htm, htc, htd, hmc, hmd, hcd, hmt, hct, hdt, hcm, hdm, hdc, if_true, if_false, not_false_eq_true]; first | done | rfl))⟩, trivial⟩
        refine br (fun hc26 => ?y26) (fun hc26 => ?n26)
        case' y26 =>
         exact absurd hde (by simpa using hc26)
        case' n26 =>
         first | refine x_ix (by first | exact mapAt hp | exact at_ix hq hqa) ?_ | refine x_ixI (by first | exact mapAt hp | exact at_ix hq hqa) ?_
         refine x_callR T.en_29 (findL c d hc hd hcd (growE l) hg (by omega) (nodesOf (growE l)) (.refl _) p) ?_ ⟨⟨hc, (by first | rfl | (simp only [hOf, hset, hpost, htm, htc, htd, hmc, hmd, hcd, hmt, hct, hdt, hcm, hdm, hdc, if_true, if_false, not_false_eq_true]; first | done | rfl))⟩, ⟨hd, (by first | rfl | (simp only [hOf, hset, hpost, htm, htc, htd, hmc, hmd, hcd, hmt, hct, hdt, hcm, hdm, hdc, if_true, if_false, not_false_eq_true]; first | done | rfl))⟩, trivial⟩
         first | refine x_ix (by first | exact mapAt hp | exact at_ix hq hqa) ?_ | refine x_ixI (by first | exact mapAt hp | exact at_ix hq hqa) ?_
         refine x_call T.en_30 (refAt_any (growE l) p (by omega)) ?_
         refine And.intro ⟨T.mixed, by decide +kernel⟩ ?_
         refine br (fun hg27 => ?y27) (fun hg27 => ?n27)
         case' y27 =>
          have hmi := atE_miss hg27
          refine br (fun hg28 => ?y28) (fun hg28 => ?n28)
          case' y28 =>
           exact absurd (by rw [hmi]; rfl) hg28
          case' n28 =>
           refine x_call T.en_15 (by first | exact refSame_any _ noEdge (edge_okX hg p) | exact refSame_any _ q (edge_okX hg p)) ?_
           refine br (fun hg29 => ?y29) (fun hg29 => ?n29)
           case' y29 =>
            exact absurd (show (edgeOf (growE l) p).getD noEdge = noEdge by rw [hmi]; rfl) (by simpa using hg29)
           case' n29 =>
            refine br (fun hg30 => ?y30) (fun hg30 => ?n30)
            case' y30 =>
             have ha0 : 0 ≤ atE (growE l) p := hg30
             obtain ⟨j, q, hq, hqe, hqa⟩ := atE_hit (E := (growE l)) (id := p) (by omega)
             have hql := lt_len hq
             have hqX := hg.ok q (List.mem_of_getElem? hq)
             refine br (fun hg31 => ?y31) (fun hg31 => ?n31)
             case' y31 =>
              exact absurd (by rw [hqe]; rfl) hg31
             case' n31 =>
              first | refine x_ix (by first | exact mapAt hp | exact at_ix hq hqa) ?_ | refine x_ixI (by first | exact mapAt hp | exact at_ix hq hqa) ?_
              refine x_call T.en_15 (by first | exact refSame_any _ noEdge (edge_okX hg p) | exact refSame_any _ q (edge_okX hg p)) ?_
              refine br (fun hc32 => ?y32) (fun hc32 => ?n32)
              case' y32 =>
               first | (exfalso; omega) | exact absurd (show (edgeOf (growE l) p).getD noEdge = q by rw [hqe]; rfl) (by simpa using hc32)
              case' n32 =>
               first | refine x_inc ?_ | refine x_add ?_ | refine x_bin rfl rfl ?_
               refine x_rnd (k + 1) (lt_len hp) (by (try dsimp only); have := lt_len hp; omega) rfl (x_ent (by first | rfl | (simp only [Tr.get]; simp; done)) trivial) rfl
            case' n30 =>
             refine brF ?_
             first | refine x_inc ?_ | refine x_add ?_ | refine x_bin rfl rfl ?_
             refine x_rnd (k + 1) (lt_len hp) (by (try dsimp only); have := lt_len hp; omega) rfl (x_ent (by first | rfl | (simp only [Tr.get]; simp; done)) trivial) rfl
         case' n27 =>
          refine brF ?_
          refine br (fun hg35 => ?y35) (fun hg35 => ?n35)
          case' y35 =>
           have ha0 : 0 ≤ atE (growE l) p := hg35
           obtain ⟨j, q, hq, hqe, hqa⟩ := atE_hit (E := (growE l)) (id := p) (by omega)
           have hql := lt_len hq
           have hqX := hg.ok q (List.mem_of_getElem? hq)
           refine br (fun hg36 => ?y36) (fun hg36 => ?n36)
           case' y36 =>
            exact absurd (by rw [hqe]; rfl) hg36
           case' n36 =>
            first | refine x_ix (by first | exact mapAt hp | exact at_ix hq hqa) ?_ | refine x_ixI (by first | exact mapAt hp | exact at_ix hq hqa) ?_
            refine x_call T.en_15 (by first | exact refSame_any _ noEdge (edge_okX hg p) | exact refSame_any _ q (edge_okX hg p)) ?_
            refine br (fun hc37 => ?y37) (fun hc37 => ?n37)
            case' y37 =>
             first | (exfalso; omega) | exact absurd (show (edgeOf (growE l) p).getD noEdge = q by rw [hqe]; rfl) (by simpa using hc37)
            case' n37 =>
             first | refine x_inc ?_ | refine x_add ?_ | refine x_bin rfl rfl ?_
             refine x_rnd (k + 1) (lt_len hp) (by (try dsimp only); have := lt_len hp; omega) rfl (x_ent (by first | rfl | (simp only [Tr.get]; simp; done)) trivial) rfl
          case' n35 =>
           refine brF ?_
           first | refine x_inc ?_ | refine x_add ?_ | refine x_bin rfl rfl ?_
           refine x_rnd (k + 1) (lt_len hp) (by (try dsimp only); have := lt_len hp; omega) rfl (x_ent (by first | rfl | (simp only [Tr.get]; simp; done)) trivial) rfl
   case' n5 =>
    refine x_callR T.en_32 (edgesL c d hc hd hcd (growE l) hg (by omega) (nodesOf (growE l)) (.refl _)) ?_ ⟨⟨hc, (by first | rfl | (simp only [hOf, hset, hpost, htm, htc, htd, hmc, hmd, hcd, hmt, hct, hdt, hcm, hdm, hdc, if_true, if_false, not_false_eq_true]; first | done | rfl))⟩, ⟨hd, (by first | rfl | (simp only [hOf, hset, hpost, htm, htc, htd, hmc, hmd, hcd, hmt, hct, hdt, hcm, hdm, hdc, if_true, if_false, not_false_eq_true]; first | done | rfl))⟩, trivial⟩
    refine x_call T.en_33 (refSorted_any (growE l) (by omega)) ?_
    refine x_call T.en_31 (refSameEdges_any _ _ (by rw [sortE_len]; omega) (fun e he => hg.ok e ((sortE_perm _).mem_iff.1 he))) ?_
    refine br (fun hg39 => ?y39) (fun hg39 => ?n39)
    case' y39 =>
     refine x_callR T.en_35 (liveL c d hc hd hcd (growE l) hg (by omega) (nodesOf (growE l)) (.refl _)) ?_ ⟨⟨hc, (by first | rfl | (simp only [hOf, hset, hpost, htm, htc, htd, hmc, hmd, hcd, hmt, hct, hdt, hcm, hdm, hdc, if_true, if_false, not_false_eq_true]; first | done | rfl))⟩, ⟨hd, (by first | rfl | (simp only [hOf, hset, hpost, htm, htc, htd, hmc, hmd, hcd, hmt, hct, hdt, hcm, hdm, hdc, if_true, if_false, not_false_eq_true]; first | done | rfl))⟩, trivial⟩
     refine x_call T.en_36 (refLive_any (growE l) (by omega) hg.ok) ?_
     refine x_call T.en_34 (refSameTags_any _ _ (live_len (by omega))) ?_
    case' n39 =>
     exact absurd rfl hg39
 all_goals (refine ⟨?_, trivial⟩; simp only [fitsL, fits, C.asD, and_true] <;> (first | rfl | (exact scb (decide_eq_true rfl).symm) | (refine scb ?_; simp)))
end Go.Vm
end
section
namespace Go.Vm
open Go.RowKit Go.Proofs
set_option linter.unusedVariables false
set_option linter.unusedSimpArgs false
set_option maxRecDepth 10000

theorem put_next {h : Hp} {t m : Nat} {a x y : S} (htm : ¬ t = m) (ha : h t = a) : hset h m y = hpost (hset h m x) [(t, a), (m, y)] := by
  funext u
  simp only [hpost, hset]
  by_cases h1 : u = m
  · subst h1; have : ¬ u = t := fun e => htm e.symm; simp [this]
  · by_cases h2 : u = t
    · subst h2; simp [h1, ha]
    · simp [h1, h2]

set_option maxHeartbeats 1000000 in
theorem treeStays_any (l more : List EdgeD) : ContractH Tryz.prog 5 [.row (l.map eD), .row (more.map eD)] [(1000000, .free), (1000001, .free), (1000002, .free), (1000003, .free), (1000004, .free), (1000005, .free)] [.d (.sc (.bool (true)))] [] := by
 refine T.fnH [17, 27, 36, 38, 50, 63, 72, 88, 93, 2034] Tryz.func5 ?_ (by simp only [List.forall_mem_cons, List.not_mem_nil, false_implies, implies_true, and_true]; decide) (by simp [thing]) (by simp [thing])
 refine x_callH T.en_6 (awake_any 1000000 1000001 (by decide) (by decide) (by decide)) ?_ ⟨⟨by decide, rfl⟩, ⟨by decide, rfl⟩, trivial⟩
 refine brF ?_
 refine x_call T.en_20 (refHeavy_any l 60 (by decide)) ?_
 refine br (fun hg2 => ?y2) (fun hg2 => ?n2)
 case' y2 =>
  refine brT ?_
 case' n2 =>
  have hh1 : heavyE 60 l = false := by simpa using hg2
  refine x_call T.en_20 (refHeavy_any more 60 (by decide)) ?_
  refine br (fun hc4 => ?y4) (fun hc4 => ?n4)
  case' n4 =>
   have hh2 : heavyE 60 more = false := by simpa using hc4
   obtain ⟨hl60, hok⟩ := heavyE_ok (m := 60) hh1
   obtain ⟨hm60, hom⟩ := heavyE_ok (m := 60) hh2
   have hgg := grow_good hok
   have hg := hgg.1
   have hE40 := hgg.2
   refine x_callH T.en_21 (grown_any 1000002 1000003 (by decide) (by decide) (by decide) l (by omega) hok) ?_ ⟨⟨by decide, rfl⟩, ⟨by decide, rfl⟩, trivial⟩
   refine brF ?_
   refine x_callE T.en_37 (copy_any 1000002 1000003 1000004 1000005 (by decide) (by decide) (by decide) (by decide) (by decide) (by decide) (by decide) (by decide) (by decide) (by decide) (nodesOf (growE l)) (nodes_uniq hg)) ?_ ⟨⟨by decide, rfl⟩, ⟨by decide, rfl⟩, ⟨by decide, rfl⟩, ⟨by decide, rfl⟩, trivial⟩
   rintro l2 hl2
   refine x_callR T.en_35 (liveL 1000002 1000003 (by decide) (by decide) (by decide) (growE l) hg (by omega) (nodesOf (growE l)) (.refl _)) ?_ ⟨⟨by decide, rfl⟩, ⟨by decide, rfl⟩, trivial⟩
   refine x_callR T.en_32 (edgesL 1000002 1000003 (by decide) (by decide) (by decide) (growE l) hg (by omega) (nodesOf (growE l)) (.refl _)) ?_ ⟨⟨by decide, rfl⟩, ⟨by decide, rfl⟩, trivial⟩
   refine xloop (fb := [17, 27, 36, 38, 50, 63, 72, 88, 93, 2034]) T.ok (Nat.le_of_ble_eq_true rfl) [1, 5, 8, 9, 10] (fun (k : Nat) => [(11, .c (.d (.sc (.int .i64 (k : Nat)))))]) (fun k => hset (hpost (hpost (hpost (hOf [(1000000, .free), (1000001, .free), (1000002, .free), (1000003, .free), (1000004, .free), (1000005, .free)]) [(1000000, .obj [.mp 1000001]), (1000001, .mapo (ents (nodesOf [exB, exA])))]) [(1000002, .obj [.mp 1000003]), (1000003, .mapo (ents (nodesOf (growE l))))]) [(1000002, .obj [.mp 1000003]), (1000003, .mapo (ents (nodesOf (growE l)))), (1000004, .obj [.mp 1000005]), (1000005, .mapo (ents l2))]) 1000003 (.mapo (ents (nodesOf (growF (growE l) (more.take k)))))) (fun k => k ≤ more.length) (fun k => more.length - k) 0 (Nat.zero_le _) (x_ent (by first | rfl | (simp only [Tr.get]; simp; done)) trivial) (hset_self rfl) ?_
   rintro k hk
   have hggN := growF_good (l := more.take k) hg hE40 (fun e he => hom e (List.mem_of_mem_take he))
   have hgN := hggN.1
   have hEN := hggN.2
   refine x_len ?_
   refine br (fun hc6 => ?y6) (fun hc6 => ?n6)
   case' y6 =>
    obtain ⟨p, hp⟩ := elem_at hc6
    have hkl := lt_len hp
    have hoX := hom p (List.mem_of_getElem? hp)
    first | refine x_ix (by exact mapAt hp) ?_ | refine x_ixI (by exact mapAt hp) ?_
    refine x_callH T.en_38 (put_any 1000002 1000003 (by decide) (by decide) (by decide) (growF (growE l) (more.take k)) p (by omega) hgN hoX) ?_ ⟨⟨by decide, rfl⟩, ⟨by decide, rfl⟩, trivial⟩
    first | refine x_inc ?_ | refine x_add ?_ | refine x_bin rfl rfl ?_
    refine x_rnd (k + 1) (lt_len hp) (by (try dsimp only); have := lt_len hp; omega) rfl (x_ent (by first | rfl | (simp only [Tr.get]; simp; done)) trivial) (by rw [growF_take hp]; exact put_next (by decide) rfl)
   case' n6 =>
    refine xloopR (fb := [17, 27, 36, 38, 50, 63, 72, 88, 93, 2034]) T.ok (Nat.le_of_ble_eq_true rfl) [5, 8, 9, 10] (fun (j : Nat) => [(12, .c (.d (.sc (.int .i64 (j : Nat)))))]) (fun j => j ≤ (liveE (growE l)).length) (fun j => (liveE (growE l)).length - j) 0 (Nat.zero_le _) (x_ent (by first | rfl | (simp only [Tr.get]; simp; done)) trivial) ?_
    rintro j hj
    have hll := live_len (E := (growE l)) (by omega)
    refine x_len ?_
    refine br (fun hc7 => ?y7) (fun hc7 => ?n7)
    case' y7 =>
     obtain ⟨p, hp⟩ := elem_at hc7
     have hkl := lt_len hp
     have h2 : (cameOf (growE l) p).1 = 2 := live_state (List.mem_of_getElem? hp)
     have hst : cameOf (growF (growE l) (more.take k)) p = cameOf (growE l) p := growF_stays (live_done h2)
     have h2N : (cameOf (growF (growE l) (more.take k)) p).1 = 2 := by rw [hst]; exact h2
     first | refine x_ix (by exact mapAt hp) ?_ | refine x_ixI (by exact mapAt hp) ?_
     refine x_callR T.en_23 (schemaL 1000002 1000003 (by decide) (by decide) (by decide) (growF (growE l) (more.take k)) hgN (by omega) (nodesOf (growF (growE l) (more.take k))) (.refl _) p) ?_ ⟨⟨by decide, rfl⟩, ⟨by decide, rfl⟩, trivial⟩
     first | refine x_ix (by exact mapAt hp) ?_ | refine x_ixI (by exact mapAt hp) ?_
     refine x_callR T.en_23 (schemaL 1000004 1000005 (by decide) (by decide) (by decide) (growE l) hg (by omega) l2 hl2 p) ?_ ⟨⟨by decide, rfl⟩, ⟨by decide, rfl⟩, trivial⟩
     refine br (fun hg8 => ?y8) (fun hg8 => ?n8)
     case' y8 =>
      exact absurd (by rw [if_pos h2N]) hg8
     case' n8 =>
      refine br (fun hg9 => ?y9) (fun hg9 => ?n9)
      case' y9 =>
       exact absurd (by rw [if_pos h2]) hg9
      case' n9 =>
       refine x_call T.en_27 (refSchemaSame_any _ _ (by rw [came_same]; exact okL_came hgN p)) ?_
       refine br (fun hc10 => ?y10) (fun hc10 => ?n10)
       case' y10 =>
        exact absurd (show (if (cameOf (growF (growE l) (more.take k)) p).1 = 2 then (cameOf (growF (growE l) (more.take k)) p).2.1 else []) = (if (cameOf (growE l) p).1 = 2 then (cameOf (growE l) p).2.1 else []) by rw [hst]) hc10
       case' n10 =>
        first | refine x_inc ?_ | refine x_add ?_ | refine x_bin rfl rfl ?_
        refine x_rnd (j + 1) (lt_len hp) (by (try dsimp only); have := lt_len hp; omega) rfl (x_ent (by first | rfl | (simp only [Tr.get]; simp; done)) trivial) rfl
    case' n7 =>
     refine x_callR T.en_32 (edgesL 1000004 1000005 (by decide) (by decide) (by decide) (growE l) hg (by omega) l2 hl2) ?_ ⟨⟨by decide, rfl⟩, ⟨by decide, rfl⟩, trivial⟩
     refine x_call T.en_31 (refSameEdges_any _ _ (by rw [sortE_len]; omega) (fun e he => hg.ok e ((sortE_perm _).mem_iff.1 he))) ?_
     refine br (fun hg11 => ?y11) (fun hg11 => ?n11)
     case' y11 =>
      refine x_callR T.en_32 (edgesL 1000002 1000003 (by decide) (by decide) (by decide) (growF (growE l) (more.take k)) hgN (by omega) (nodesOf (growF (growE l) (more.take k))) (.refl _)) ?_ ⟨⟨by decide, rfl⟩, ⟨by decide, rfl⟩, trivial⟩
      refine x_len ?_
      refine x_len ?_
     case' n11 =>
      exact absurd rfl hg11
 all_goals (refine ⟨?_, trivial⟩; simp only [fitsL, fits, C.asD, and_true] <;> (first | rfl | (have hgm := growF_more (l := more.take k) (E := (growE l)); refine scb ?_; simp only [sortE_len]; symm; first | (rw [decide_eq_true_eq]; omega) | simp; omega)))
end Go.Vm
end
section
namespace Go.Vm
open Go.RowKit
set_option linter.unusedVariables false
set_option linter.unusedSimpArgs false

def allFrozen : Roles := fun _ => .frozen
theorem okFrozen (b off : Nat) : okAt allFrozen b off := trivial

section
variable {P : Program} {w : World}

/-- What reads as cells of a type is a value's of a kind. -/
def Cells (P : Program) (w : World) (t : TypeId) {α : Type} (enc : α → D) (ok : α → Prop) : Prop := ∀ es, Reads P w t es → ∃ x : α, Reps allFrozen w es (enc x).cells ∧ ok x

theorem cells_at : ∀ {ess : List (List Value)} {b off sz : Nat}, (∀ (i : Nat) (es : List Value), ess[i]? = some es → es.length = sz ∧ ∀ (j : Nat) (u : Value), es[j]? = some u → w.cell? ⟨b, off + i * sz + j, none⟩ = some u) →
    ess.flatten.length = ess.length * sz ∧ ∀ (j : Nat) (u : Value), ess.flatten[j]? = some u → w.cell? ⟨b, off + j, none⟩ = some u
  | [], b, off, sz, _ => ⟨by simp, by simp⟩
  | es :: ess, b, off, sz, h => by
    obtain ⟨h0, h1⟩ := h 0 es rfl
    obtain ⟨k0, k1⟩ := cells_at (ess := ess) (b := b) (off := off + sz) (sz := sz) (fun i es' hes => by
      obtain ⟨g0, g1⟩ := h (i + 1) es' (by simpa using hes)
      refine ⟨g0, fun j u hu => ?_⟩
      have := g1 j u hu
      rw [Nat.add_mul, Nat.one_mul] at this
      rw [show off + sz + i * sz + j = off + (i * sz + sz) + j by omega]; exact this)
    refine ⟨by rw [List.flatten_cons, List.length_append, k0, h0, List.length_cons, Nat.add_mul, Nat.one_mul, Nat.add_comm], fun j u hu => ?_⟩
    rw [List.flatten_cons] at hu
    by_cases hj : j < es.length
    · rw [List.getElem?_append_left hj] at hu
      have := h1 j u hu
      simpa using this
    · rw [List.getElem?_append_right (by omega)] at hu
      have := k1 (j - es.length) u hu
      rw [h0] at this
      rw [show off + j = off + sz + (j - sz) by omega]; exact this

theorem reps_flat {α : Type} {enc : α → D} : ∀ {ps : List (List Value × α)}, (∀ p ∈ ps, Reps allFrozen w p.1 (enc p.2).cells) → Reps allFrozen w (ps.map (·.1)).flatten (flat ((ps.map (·.2)).map enc))
  | [], _ => by simpa [flat] using Reps.nil
  | p :: ps, h => by
    have h1 := h p (List.mem_cons_self ..)
    have h2 := reps_flat (ps := ps) fun q hq => h q (List.mem_cons_of_mem _ hq)
    simp only [List.map_cons, List.flatten_cons, flat, List.flatMap_cons] at h2 ⊢
    exact h1.append h2

/-- A slice that is handed in. -/
theorem row_of {t e : TypeId} {sz : Nat} {α : Type} {enc : α → D} {ok : α → Prop} (ht : P.underlying t = some (.slice e)) (hsz : P.cellsOf e = sz) (h0 : 0 < sz) (hw : ∀ x, (enc x).cells.length = sz) (hel : Cells P w e enc ok) {a : Option Addr} {l c : Nat} (h : Reads P w t [.slice a l c]) :
    ∃ xs : List α, Rep allFrozen w (.slice a l c) (.row (xs.map enc)) ∧ ∀ x ∈ xs, ok x := by
  rcases h.slice ht with h | ⟨ad, len, cap, h, h1, h2, h3⟩
  · injection h with h; injection h with h4 h5 h6
    subst h4 h5 h6
    exact ⟨[], .nil (by simp [maxLen]), by simp⟩
  · injection h with h; injection h with h4 h5 h6
    subst h4 h5 h6
    rw [hsz] at h3
    obtain ⟨ps, hl, hp⟩ := choose_list (Q := fun i (p : List Value × α) => p.1.length = sz ∧ (∀ j (hj : j < p.1.length), w.cell? ((ad.add (i * sz)).add j) = some p.1[j]) ∧ Reps allFrozen w p.1 (enc p.2).cells ∧ ok p.2) l (fun i hi => by
      obtain ⟨es, q1, q2, q3⟩ := h3 i hi
      obtain ⟨x, hx, hok⟩ := hel es q3
      exact ⟨(es, x), q1, q2, hx, hok⟩)
    by_cases hz : l = 0
    · subst hz
      obtain rfl : ps = [] := List.length_eq_zero_iff.1 hl
      exact ⟨[], .nil h2, by simp⟩
    · have hlt : 0 < ps.length := by omega
      have had : ad = ⟨ad.block, ad.off, none⟩ := by
        obtain ⟨q1, q2, _⟩ := hp 0 hlt
        have := q2 0 (by omega)
        have e0 : (ad.add (0 * sz)).add 0 = ad := by simp [Addr.add]
        rw [e0] at this
        exact addr_of_cell this
      have hcells := cells_at (w := w) (ess := ps.map (·.1)) (b := ad.block) (off := ad.off) (sz := sz) (fun i es hes => by
        rw [List.getElem?_map] at hes
        cases hpi : ps[i]? with
        | none => rw [hpi] at hes; cases hes
        | some p =>
          rw [hpi] at hes
          simp only [Option.map_some, Option.some.injEq] at hes
          subst hes
          obtain ⟨hi, rfl⟩ := List.getElem?_eq_some_iff.1 hpi
          obtain ⟨q1, q2, _⟩ := hp i hi
          refine ⟨q1, fun j u hu => ?_⟩
          obtain ⟨hj, rfl⟩ := List.getElem?_eq_some_iff.1 hu
          have := q2 j hj
          rw [had, add_spot, add_spot] at this
          exact this)
      have hmem : ∀ p ∈ ps, Reps allFrozen w p.1 (enc p.2).cells ∧ ok p.2 := by
        intro p hpm
        obtain ⟨i, hi, rfl⟩ := List.getElem_of_mem hpm
        exact (hp i hi).2.2
      have hr := reps_flat (enc := enc) (fun p hpm => (hmem p hpm).1)
      refine ⟨ps.map (·.2), ?_, fun x hx => ?_⟩
      · have hlen : ((ps.map (·.2)).map enc).length = l := by simp [hl]
        rw [had]
        have := Rep.row (ro := allFrozen) (w := w) (b := ad.block) (off := ad.off) (cap := c) (sz := sz) (xs := (ps.map (·.2)).map enc) (ps.map (·.1)).flatten h0 (by rw [hlen]; exact h1) h2 (by rw [hcells.1, hlen]; simp [hl]) (fun x hx => by obtain ⟨y, _, rfl⟩ := List.mem_map.1 hx; exact hw y) hr.2.1 (fun j u hu => ⟨hcells.2 j u hu, okFrozen _ _⟩) hr.2.2
        rw [hlen] at this
        exact this
      · obtain ⟨p, hpm, rfl⟩ := List.mem_map.1 hx
        exact (hmem p hpm).2

/-- Behind a function that answers true. -/
theorem law_true {f : FuncId} {args : List D} {vs : Array Value} (hc : Contract P f args [.d (.sc (.bool true))]) (hl : vs.size = args.length) (hr : ∀ (i : Nat) (v : Value) (d : D), vs.toList[i]? = some v → args[i]? = some d → Rep allFrozen w v d) :
    Calls P f vs w fun e w' => e = .returned (.bool true) ∧ Below w.heap.size w w' := by
  refine (hc allFrozen w vs 0 (fun _ _ => rfl) (fun _ _ _ _ _ h => by cases h) hl hr).mono ?_
  rintro e w' ⟨v, ro', rfl, hg, hs⟩
  have : v = .bool true := (rep_sc (show Rep ro' w' v (.sc (.bool true)) from hs)).1
  exact ⟨by rw [this], hg.below⟩
/-- The same, of a function that makes things with names. -/
theorem law_trueH {f : FuncId} {args : List D} {vs : Array Value} {pre post : List (Nat × S)} (hc : ContractH P f args pre [.d (.sc (.bool true))] post) (hp : ∀ p ∈ pre, p.2 = .free) (hl : vs.size = args.length) (hr : ∀ (i : Nat) (v : Value) (d : D), vs.toList[i]? = some v → args[i]? = some d → Rep allFrozen w v d) :
    Calls P f vs w fun e w' => e = .returned (.bool true) ∧ Below w.heap.size w w' := by
  refine (hc allFrozen w vs 0 (fun _ _ => rfl) (fun _ _ _ _ _ h => by cases h) hl hr (fun p hm => by rw [hp p hm]; intro b k h; cases h)).mono ?_
  rintro e w' ⟨v, ro', rfl, hg, hs, _⟩
  have : v = .bool true := (rep_sc (show Rep ro' w' v (.sc (.bool true)) from hs)).1
  exact ⟨by rw [this], hg.os, hg.tape, hg.output, hg.size, fun k hk => hg.block k hk fun id m h => by cases h⟩
end
end Go.Vm
end
section
namespace Go.Vm
open Go.RowKit Go.Proofs
set_option linter.unusedVariables false
set_option linter.unusedSimpArgs false
set_option maxRecDepth 10000

open Go.RowKit

section
variable {P : Program} {w : World}
theorem reps_cut {ro : Roles} {es : List Value} {o k : Nat} {c d : List D} (h1 : Reps ro w ((es.drop o).take k) c) (h2 : Reps ro w (es.drop (o + k)) d) : Reps ro w (es.drop o) (c ++ d) := by
  have h := h1.append h2
  rwa [← List.drop_drop, List.take_append_drop] at h
theorem reps_end {ro : Roles} {es : List Value} {o : Nat} (h : es.length = o) : Reps ro w (es.drop o) [] := by
  rw [List.drop_eq_nil_of_le (by omega)]; exact Reps.nil
theorem cells_int {t : TypeId} {cs : List Value} (ht : P.underlying t = some (.int .i64)) (h : Reads P w t cs) : ∃ n : Int, Reps allFrozen w cs [.sc (.int .i64 n)] := by
  obtain ⟨n, rfl, _⟩ := h.int ht
  exact ⟨n, rfl, by simp [Value.oneCell'], fun j u c hu hc => by cases j with | zero => simp at hu hc; subst hu hc; exact .sc rfl | succ j => simp at hu⟩
theorem cells_str {t : TypeId} {cs : List Value} (ht : P.underlying t = some .string) (h : Reads P w t cs) : ∃ s : ByteArray, Reps allFrozen w cs [.sc (.string s)] := by
  obtain ⟨s, rfl, _⟩ := h.string ht
  exact ⟨s, rfl, by simp [Value.oneCell'], fun j u c hu hc => by cases j with | zero => simp at hu hc; subst hu hc; exact .sc rfl | succ j => simp at hu⟩
theorem cells_row {t e : TypeId} {sz : Nat} {α : Type} {enc : α → D} {cs : List Value} (ht : P.underlying t = some (.slice e)) (hsz : P.cellsOf e = sz) (h0 : 0 < sz) (hw : ∀ x, (enc x).cells.length = sz) (hel : Cells P w e enc (fun _ => True)) (h : Reads P w t cs) : ∃ xs : List α, Reps allFrozen w cs [.row (xs.map enc)] := by
  have hc : ∃ a l c, cs = [.slice a l c] := by
    rcases h.slice ht with rfl | ⟨a, l, c, rfl, _⟩
    · exact ⟨_, _, _, rfl⟩
    · exact ⟨_, _, _, rfl⟩
  obtain ⟨a, l, c, rfl⟩ := hc
  obtain ⟨xs, hx, _⟩ := row_of ht hsz h0 hw hel h
  exact ⟨xs, rfl, by simp [Value.oneCell'], fun j u c hu hc => by cases j with | zero => simp at hu hc; subst hu hc; exact hx | succ j => simp at hu⟩
theorem rep_agg {ro : Roles} {s : Array Value} {cs : List D} (h : Reps ro w s.toList cs) : Rep ro w (.agg s) (.agg cs) := .agg (by simpa using h.1) h.2.1 h.2.2
end
theorem str_cells (w : World) : Cells Tryz.prog w 9 strD (fun _ => True) := by
  intro es h
  obtain ⟨s, hs⟩ := cells_str Tryz.underlying9 h
  exact ⟨s, hs, trivial⟩

theorem ref_cells (w : World) : Cells Tryz.prog w 25 rD (fun _ => True) := by
  intro es h
  obtain ⟨hl, hf⟩ := h.struct Tryz.underlying25
  rw [show Tryz.prog.cellsOf 25 = 3 from by kernel_rfl] at hl
  have h0 := hf _ (List.mem_cons_self ..)
  simp only [show Tryz.prog.cellsOf 3 = 1 from by kernel_rfl] at h0
  obtain ⟨v0, r0⟩ := cells_int Tryz.underlying3 h0
  have h1 := hf _ (List.mem_cons_of_mem _ (List.mem_cons_self ..))
  simp only [show Tryz.prog.cellsOf 9 = 1 from by kernel_rfl] at h1
  obtain ⟨v1, r1⟩ := cells_str Tryz.underlying9 h1
  have h2 := hf _ (List.mem_cons_of_mem _ (List.mem_cons_of_mem _ (List.mem_cons_self ..)))
  simp only [show Tryz.prog.cellsOf 9 = 1 from by kernel_rfl] at h2
  obtain ⟨v2, r2⟩ := cells_str Tryz.underlying9 h2
  exact ⟨⟨v0, v1, v2⟩, reps_cut (o := 0) (k := 1) r0 (reps_cut (o := 1) (k := 1) r1 (reps_cut (o := 2) (k := 1) r2 (reps_end hl))), trivial⟩
theorem pair_cells (w : World) : Cells Tryz.prog w 119 pairD (fun _ => True) := by
  intro es h
  obtain ⟨hl, hf⟩ := h.struct Tryz.underlying119
  rw [show Tryz.prog.cellsOf 119 = 2 from by kernel_rfl] at hl
  have h0 := hf _ (List.mem_cons_self ..)
  simp only [show Tryz.prog.cellsOf 9 = 1 from by kernel_rfl] at h0
  obtain ⟨v0, r0⟩ := cells_str Tryz.underlying9 h0
  have h1 := hf _ (List.mem_cons_of_mem _ (List.mem_cons_self ..))
  simp only [show Tryz.prog.cellsOf 9 = 1 from by kernel_rfl] at h1
  obtain ⟨v1, r1⟩ := cells_str Tryz.underlying9 h1
  exact ⟨(v0, v1), reps_cut (o := 0) (k := 1) r0 (reps_cut (o := 1) (k := 1) r1 (reps_end hl)), trivial⟩
theorem field_cells (w : World) : Cells Tryz.prog w 28 fD (fun _ => True) := by
  intro es h
  obtain ⟨hl, hf⟩ := h.struct Tryz.underlying28
  rw [show Tryz.prog.cellsOf 28 = 7 from by kernel_rfl] at hl
  have h0 := hf _ (List.mem_cons_self ..)
  simp only [show Tryz.prog.cellsOf 25 = 3 from by kernel_rfl] at h0
  obtain ⟨v0, r0, _⟩ := ref_cells w _ h0
  have h1 := hf _ (List.mem_cons_of_mem _ (List.mem_cons_self ..))
  simp only [show Tryz.prog.cellsOf 3 = 1 from by kernel_rfl] at h1
  obtain ⟨v1, r1⟩ := cells_int Tryz.underlying3 h1
  have h2 := hf _ (List.mem_cons_of_mem _ (List.mem_cons_of_mem _ (List.mem_cons_self ..)))
  simp only [show Tryz.prog.cellsOf 9 = 1 from by kernel_rfl] at h2
  obtain ⟨v2, r2⟩ := cells_str Tryz.underlying9 h2
  have h3 := hf _ (List.mem_cons_of_mem _ (List.mem_cons_of_mem _ (List.mem_cons_of_mem _ (List.mem_cons_self ..))))
  simp only [show Tryz.prog.cellsOf 26 = 1 from by kernel_rfl] at h3
  obtain ⟨v3, r3⟩ := cells_row Tryz.underlying26 (show Tryz.prog.cellsOf 9 = 1 from by kernel_rfl) (by omega) (fun _ => rfl) (str_cells w) h3
  have h4 := hf _ (List.mem_cons_of_mem _ (List.mem_cons_of_mem _ (List.mem_cons_of_mem _ (List.mem_cons_of_mem _ (List.mem_cons_self ..)))))
  simp only [show Tryz.prog.cellsOf 2 = 1 from by kernel_rfl] at h4
  obtain ⟨v4, r4⟩ := cells_int Tryz.underlying2 h4
  exact ⟨⟨v0, v1, v2, v3, v4⟩, reps_cut (o := 0) (k := 3) r0 (reps_cut (o := 3) (k := 1) r1 (reps_cut (o := 4) (k := 1) r2 (reps_cut (o := 5) (k := 1) r3 (reps_cut (o := 6) (k := 1) r4 (reps_end hl))))), trivial⟩
theorem lens_cells (w : World) : Cells Tryz.prog w 31 lD (fun _ => True) := by
  intro es h
  obtain ⟨hl, hf⟩ := h.struct Tryz.underlying31
  rw [show Tryz.prog.cellsOf 31 = 16 from by kernel_rfl] at hl
  have h0 := hf _ (List.mem_cons_self ..)
  simp only [show Tryz.prog.cellsOf 3 = 1 from by kernel_rfl] at h0
  obtain ⟨v0, r0⟩ := cells_int Tryz.underlying3 h0
  have h1 := hf _ (List.mem_cons_of_mem _ (List.mem_cons_self ..))
  simp only [show Tryz.prog.cellsOf 25 = 3 from by kernel_rfl] at h1
  obtain ⟨v1, r1, _⟩ := ref_cells w _ h1
  have h2 := hf _ (List.mem_cons_of_mem _ (List.mem_cons_of_mem _ (List.mem_cons_self ..)))
  simp only [show Tryz.prog.cellsOf 9 = 1 from by kernel_rfl] at h2
  obtain ⟨v2, r2⟩ := cells_str Tryz.underlying9 h2
  have h3 := hf _ (List.mem_cons_of_mem _ (List.mem_cons_of_mem _ (List.mem_cons_of_mem _ (List.mem_cons_self ..))))
  simp only [show Tryz.prog.cellsOf 9 = 1 from by kernel_rfl] at h3
  obtain ⟨v3, r3⟩ := cells_str Tryz.underlying9 h3
  have h4 := hf _ (List.mem_cons_of_mem _ (List.mem_cons_of_mem _ (List.mem_cons_of_mem _ (List.mem_cons_of_mem _ (List.mem_cons_self ..)))))
  simp only [show Tryz.prog.cellsOf 2 = 1 from by kernel_rfl] at h4
  obtain ⟨v4, r4⟩ := cells_int Tryz.underlying2 h4
  have h5 := hf _ (List.mem_cons_of_mem _ (List.mem_cons_of_mem _ (List.mem_cons_of_mem _ (List.mem_cons_of_mem _ (List.mem_cons_of_mem _ (List.mem_cons_self ..))))))
  simp only [show Tryz.prog.cellsOf 28 = 7 from by kernel_rfl] at h5
  obtain ⟨v5, r5, _⟩ := field_cells w _ h5
  have h6 := hf _ (List.mem_cons_of_mem _ (List.mem_cons_of_mem _ (List.mem_cons_of_mem _ (List.mem_cons_of_mem _ (List.mem_cons_of_mem _ (List.mem_cons_of_mem _ (List.mem_cons_self ..)))))))
  simp only [show Tryz.prog.cellsOf 29 = 1 from by kernel_rfl] at h6
  obtain ⟨v6, r6⟩ := cells_row Tryz.underlying29 (show Tryz.prog.cellsOf 119 = 2 from by kernel_rfl) (by omega) (fun _ => rfl) (pair_cells w) h6
  have h7 := hf _ (List.mem_cons_of_mem _ (List.mem_cons_of_mem _ (List.mem_cons_of_mem _ (List.mem_cons_of_mem _ (List.mem_cons_of_mem _ (List.mem_cons_of_mem _ (List.mem_cons_of_mem _ (List.mem_cons_self ..))))))))
  simp only [show Tryz.prog.cellsOf 29 = 1 from by kernel_rfl] at h7
  obtain ⟨v7, r7⟩ := cells_row Tryz.underlying29 (show Tryz.prog.cellsOf 119 = 2 from by kernel_rfl) (by omega) (fun _ => rfl) (pair_cells w) h7
  exact ⟨⟨v0, v1, v2, v3, v4, v5, v6, v7⟩, reps_cut (o := 0) (k := 1) r0 (reps_cut (o := 1) (k := 3) r1 (reps_cut (o := 4) (k := 1) r2 (reps_cut (o := 5) (k := 1) r3 (reps_cut (o := 6) (k := 1) r4 (reps_cut (o := 7) (k := 7) r5 (reps_cut (o := 14) (k := 1) r6 (reps_cut (o := 15) (k := 1) r7 (reps_end hl)))))))), trivial⟩
theorem tag_cells (w : World) : Cells Tryz.prog w 23 tD (fun _ => True) := by
  intro es h
  obtain ⟨hl, hf⟩ := h.struct Tryz.underlying23
  rw [show Tryz.prog.cellsOf 23 = 2 from by kernel_rfl] at hl
  have h0 := hf _ (List.mem_cons_self ..)
  simp only [show Tryz.prog.cellsOf 3 = 1 from by kernel_rfl] at h0
  obtain ⟨v0, r0⟩ := cells_int Tryz.underlying3 h0
  have h1 := hf _ (List.mem_cons_of_mem _ (List.mem_cons_self ..))
  simp only [show Tryz.prog.cellsOf 3 = 1 from by kernel_rfl] at h1
  obtain ⟨v1, r1⟩ := cells_int Tryz.underlying3 h1
  exact ⟨⟨v0, v1⟩, reps_cut (o := 0) (k := 1) r0 (reps_cut (o := 1) (k := 1) r1 (reps_end hl)), trivial⟩
theorem edge_cells (w : World) : Cells Tryz.prog w 33 eD (fun _ => True) := by
  intro es h
  obtain ⟨hl, hf⟩ := h.struct Tryz.underlying33
  rw [show Tryz.prog.cellsOf 33 = 20 from by kernel_rfl] at hl
  have h0 := hf _ (List.mem_cons_self ..)
  simp only [show Tryz.prog.cellsOf 23 = 2 from by kernel_rfl] at h0
  obtain ⟨v0, r0, _⟩ := tag_cells w _ h0
  have h1 := hf _ (List.mem_cons_of_mem _ (List.mem_cons_self ..))
  simp only [show Tryz.prog.cellsOf 23 = 2 from by kernel_rfl] at h1
  obtain ⟨v1, r1, _⟩ := tag_cells w _ h1
  have h2 := hf _ (List.mem_cons_of_mem _ (List.mem_cons_of_mem _ (List.mem_cons_self ..)))
  simp only [show Tryz.prog.cellsOf 31 = 16 from by kernel_rfl] at h2
  obtain ⟨v2, r2, _⟩ := lens_cells w _ h2
  exact ⟨⟨v0, v1, v2⟩, reps_cut (o := 0) (k := 2) r0 (reps_cut (o := 2) (k := 2) r1 (reps_cut (o := 4) (k := 16) r2 (reps_end hl))), trivial⟩

end Go.Vm
end
section
namespace Go.Vm
open Go.RowKit Go.Proofs
set_option linter.unusedVariables false
set_option linter.unusedSimpArgs false
set_option maxRecDepth 10000

end Go.Vm
namespace Go.Proofs.YtkgkljphjlikoaaGreat
open Go.RowKit Go.Vm
theorem treeStays_walk (a0 : Option Addr) (l0 c0 : Nat) (a1 : Option Addr) (l1 c1 : Nat) (w : World) (r0 : Reads Tryz.prog w 51 [.slice a0 l0 c0]) (r1 : Reads Tryz.prog w 51 [.slice a1 l1 c1]) :
    Calls Tryz.prog 5 #[.slice a0 l0 c0, .slice a1 l1 c1] w fun e w' => e = .returned (.bool true) ∧ Below w.heap.size w w' := by
  obtain ⟨x0, hx0, _⟩ := row_of Tryz.underlying51 (show Tryz.prog.cellsOf 33 = 20 from by kernel_rfl) (by omega) (fun _ => rfl) (edge_cells w) r0
  obtain ⟨x1, hx1, _⟩ := row_of Tryz.underlying51 (show Tryz.prog.cellsOf 33 = 20 from by kernel_rfl) (by omega) (fun _ => rfl) (edge_cells w) r1
  refine law_trueH (treeStays_any x0 x1) (by simp) rfl ?_
  intro i v d hv hd
  match i, hv, hd with
  | 0, hv, hd => simp at hv hd; subst hv hd; exact hx0
  | 1, hv, hd => simp at hv hd; subst hv hd; exact hx1
  | i + 2, hv, _ => simp at hv
end Go.Proofs.YtkgkljphjlikoaaGreat
namespace Go.Vm

end Go.Vm
end
