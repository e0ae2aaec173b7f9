/- What a law's arguments are, whatever their types: cells that read as a value of a type; and they read so behind a call that leaves all that was there. -/
import Derived.Test.YthkgbmekiclgmaaKit
import Derived.Below
import Derived.ChangeStays
import Derived.ReadAgain
import Derived.ChangeSame
import Derived.ProofKit
import Derived.OpenShut
namespace Go.RowKit
open Go.ChangeShapes Go.WideShapes
set_option linter.unusedVariables false

/-- Cells that read as a value of a type. -/
def Reads (P : Program) (w : World) (t : TypeId) (cs : List Value) : Prop :=
  ∃ (H : Type) (enc : TypeId × Value → H) (fuel : Nat) (x : DataW H × List MemPlace), DataW.trod enc P w 0 (fun _ => true) true fuel t cs = some x

section
variable {P : Program} {w : World} {t e : TypeId} {cs : List Value}

theorem Reads.int {k : IntKind} (ht : P.underlying t = some (.int k)) (h : Reads P w t cs) : ∃ n, cs = [.int k n] ∧ (Lit.int k n).wf = true := by
  obtain ⟨H, enc, fuel, x, hf⟩ := h
  obtain ⟨n, h1, h2, h3⟩ := DataW.trod_int ht hf
  exact ⟨n, h1, h3⟩
theorem Reads.bool (ht : P.underlying t = some .bool) (h : Reads P w t cs) : ∃ b, cs = [.bool b] := by
  obtain ⟨H, enc, fuel, x, hf⟩ := h
  cases fuel with
  | zero => simp [DataW.trod] at hf
  | succ n => simp only [DataW.trod, ht] at hf; split at hf <;> first | (exact ⟨_, rfl⟩) | (simp at *)
theorem Reads.string (ht : P.underlying t = some .string) (h : Reads P w t cs) : ∃ s : ByteArray, cs = [.string s] ∧ s.size ≤ maxLen := by
  obtain ⟨H, enc, fuel, x, hf⟩ := h
  cases fuel with
  | zero => simp [DataW.trod] at hf
  | succ n =>
    simp only [DataW.trod, ht] at hf
    split at hf <;> first | (rename_i s _; split at hf; (· exact ⟨_, rfl, by assumption⟩); (· cases hf)) | (simp at *)
theorem Reads.struct {fs : Array Field} (ht : P.underlying t = some (.struct fs)) (h : Reads P w t cs) : cs.length = P.cellsOf t ∧ ∀ f ∈ fs.toList, Reads P w f.type ((cs.drop f.offset).take (P.cellsOf f.type)) := by
  obtain ⟨H, enc, fuel, x, hf⟩ := h
  cases fuel with
  | zero => simp [DataW.trod] at hf
  | succ n =>
    have hf' : (if cs.length = P.cellsOf t then (fs.toList.mapM fun f => DataW.trod enc P w 0 (fun _ => true) true n f.type ((cs.drop f.offset).take (P.cellsOf f.type))).map fun xs => (DataW.agg (xs.map (·.1)), xs.flatMap (·.2)) else none) = some x := by
      rw [← hf]; simp only [DataW.trod, ht]
    split at hf'
    · rename_i hl
      refine ⟨hl, fun f hm => ?_⟩
      rw [Option.map_eq_some_iff] at hf'
      obtain ⟨r, hr, _⟩ := hf'
      have key : ∀ (l : List Field) (r : List (DataW H × List MemPlace)), l.mapM (fun f => DataW.trod enc P w 0 (fun _ => true) true n f.type ((cs.drop f.offset).take (P.cellsOf f.type))) = some r → f ∈ l → ∃ y, DataW.trod enc P w 0 (fun _ => true) true n f.type ((cs.drop f.offset).take (P.cellsOf f.type)) = some y := by
        intro l
        induction l with
        | nil => intro r _ h; cases h
        | cons a l ih =>
          intro r hr hm
          rw [List.mapM_cons] at hr
          cases ha : DataW.trod enc P w 0 (fun _ => true) true n a.type ((cs.drop a.offset).take (P.cellsOf a.type)) with
          | none => rw [ha] at hr; cases hr
          | some y =>
            rw [ha] at hr
            cases hl : l.mapM (fun f => DataW.trod enc P w 0 (fun _ => true) true n f.type ((cs.drop f.offset).take (P.cellsOf f.type))) with
            | none => rw [hl] at hr; cases hr
            | some r' =>
              rcases List.mem_cons.1 hm with rfl | hm
              · exact ⟨y, ha⟩
              · exact ih r' hl hm
      obtain ⟨y, hy⟩ := key _ _ hr hm
      exact ⟨H, enc, n, y, hy⟩
    · cases hf'

theorem cells_get {a : Addr} {n : Nat} {es : List Value} (h : w.cells? 0 a n = some es) : es.length = n ∧ ∀ j (hj : j < es.length), w.cell? (a.add j) = some es[j] := by
  unfold World.cells? at h
  rw [if_pos (Nat.zero_le _)] at h
  have key : ∀ (l : List Nat) (r : List Value), l.mapM (fun i => w.cell? (a.add i)) = some r → r.length = l.length ∧ ∀ j (hj : j < r.length) (hl : j < l.length), w.cell? (a.add l[j]) = some r[j] := by
    intro l
    induction l with
    | nil => intro r hr; simp at hr; subst hr; exact ⟨rfl, fun j hj => absurd hj (by simp)⟩
    | cons b l ih =>
      intro r hr
      rw [List.mapM_cons] at hr
      cases hb : w.cell? (a.add b) with
      | none => rw [hb] at hr; cases hr
      | some y =>
        rw [hb] at hr
        cases hl : l.mapM (fun i => w.cell? (a.add i)) with
        | none => rw [hl] at hr; cases hr
        | some r' =>
          rw [hl] at hr
          obtain rfl : r = y :: r' := by injection hr with hr; exact hr.symm
          obtain ⟨h1, h2⟩ := ih r' hl
          refine ⟨by simp [h1], fun j hj hl' => ?_⟩
          cases j with
          | zero => exact hb
          | succ j => exact h2 j (by simpa using hj) (by simpa using hl')
  obtain ⟨h1, h2⟩ := key _ _ h
  rw [List.length_range] at h1
  refine ⟨h1, fun j hj => ?_⟩
  have := h2 j hj (by simpa using (by omega : j < n))
  simpa using this

theorem Reads.slice (ht : P.underlying t = some (.slice e)) (h : Reads P w t cs) : cs = [.slice none 0 0] ∨ ∃ (a : Addr) (len cap : Nat), cs = [.slice (some a) len cap] ∧ len ≤ cap ∧ cap ≤ maxLen ∧
    ∀ i < len, ∃ es, es.length = P.cellsOf e ∧ (∀ j (hj : j < es.length), w.cell? ((a.add (i * P.cellsOf e)).add j) = some es[j]) ∧ Reads P w e es := by
  obtain ⟨H, enc, fuel, x, hf⟩ := h
  rcases DataW.trod_slice ht hf with h0 | ⟨a, len, cap, elems, rest, n, _, rfl, rfl, hb, hl, hm, hlen, hel, hsp, hns⟩
  · exact .inl h0.1
  · refine .inr ⟨a, len, cap, rfl, hl, hm, fun i hi => ?_⟩
    have h1 := hel i hi
    have hlt : i < elems.length := by omega
    rw [List.getElem?_eq_getElem hlt] at h1
    rw [Option.bind_eq_some_iff] at h1
    obtain ⟨es, h2, h3⟩ := h1
    obtain ⟨h4, h5⟩ := cells_get h2
    exact ⟨es, h4, h5, H, enc, n, _, h3⟩

/-- One cell. -/
theorem Reads.one {v : Value} {H : Type} {enc : TypeId × Value → H} {d : DataW H} {ps : List MemPlace} (h : DataW.Trod enc P w 0 (fun _ => true) true t v d ps) : Reads P w t v.cells.toList := by
  obtain ⟨fuel, hf⟩ := h
  exact ⟨H, enc, fuel, _, hf⟩
end

section
variable {H : Type} {enc : TypeId × Value → H} {P : Program}
/-- The arguments read as they did behind a call that leaves all that was there. -/
theorem args_stay (K : Kids P (· < P.types.size)) (hz : ∀ {t e : TypeId}, t < P.types.size → P.underlying t = some (.slice e) → 0 < P.cellsOf e) {W W' : World} (hb : Below W.heap.size W W') (sp : Nat → Bool) :
    ∀ {ts : List TypeId} {vs : List Value} {ds : List (DataW H)} {ps : List MemPlace}, (∀ t ∈ ts, t < P.types.size) → DataW.TrodAll enc P W 0 (fun _ => true) true ts vs ds ps → (∀ p ∈ ps, sp p.block = true) → DataW.TrodAll enc P W' 0 sp true ts vs ds ps := by
  intro ts
  induction ts with
  | nil => intro vs ds ps _ h _; obtain ⟨rfl, rfl, rfl⟩ := trodAll_nil h; exact trodAll_mk0
  | cons t ts ih =>
    intro vs ds ps ht h hs
    have hlt := h.lt
    obtain ⟨v, vs', d, ds', p, q, rfl, rfl, rfl, ⟨fuel, h0⟩, r⟩ := trodAll_cons h
    refine ⟨p, q, ⟨fuel, DataW.trod_stays K hz (fun h => by cases h) (ht t (List.mem_cons_self ..)) h0 ?_ ?_⟩, ih (fun t h => ht t (List.mem_cons_of_mem _ h)) r (fun p hp => hs p (List.mem_append_right _ hp)), rfl⟩
    · intro p hp
      have := hlt p (List.mem_append_left _ hp)
      cases p with
      | cell b off => exact hb.cell (p := ⟨b, off, none⟩) this
      | map b => exact hb.block b this
    · exact fun p hp => hs p (List.mem_append_left _ hp)

/-- What is left of a call that only makes memory, and returns a bool. -/
theorem law_post {f : Func} {s : ChangeSpec} {apart fresh handsOn : Bool} (K : Kids P (· < P.types.size)) (hz : ∀ {t e : TypeId}, t < P.types.size → P.underlying t = some (.slice e) → 0 < P.cellsOf e) (hts : ∀ t ∈ f.params.toList, t < P.types.size)
    {W W' : World} {args : Array Value} {v : Value} {ds : List (DataW H)} {before : List MemPlace}
    (hv : s.vars = [])
    (hW : DataW.Whole enc P f.params.toList s.vars apart W args.toList ds [] before)
    (hres : ∀ (b : Nat) (sp : Nat → Bool) (hd : Bool), DataW.TrodAll enc P W' b sp hd f.resultTypes.toList (v.resultList f.resultTypes.size) (s.fn H (ds ++ [])).results [])
    (hargs : (s.fn H (ds ++ [])).args = ds) (hvars : (s.fn H (ds ++ [])).vars = [])
    (hb : Below W.heap.size W W') : s.post enc P f apart fresh handsOn false W args v W' := by
  have hlt : ∀ p ∈ before, p.block < W.heap.size := fun p hp => hW.lt p hp
  have hW' := hW
  obtain ⟨p, q, hA, hV, rfl, hfz, hnd⟩ := hW
  rw [hv] at hV
  obtain ⟨_, rfl⟩ := trodVars_none hV
  refine ⟨ds, [], p ++ [], [], p, [], hW', hres _ _ _, ?_, ?_, hb.frame _, fun h => by cases h⟩
  · rw [hargs]
    refine args_stay K hz hb _ hts hA fun x hx => ?_
    simpa using hlt x (List.mem_append_left _ hx)
  · rw [hvars, hv]; rfl
end
end Go.RowKit
namespace Go.RowKit
theorem choose_list {α : Type} {Q : Nat → α → Prop} : ∀ (n : Nat), (∀ i < n, ∃ x, Q i x) → ∃ l : List α, l.length = n ∧ ∀ i (hi : i < l.length), Q i l[i] := by
  intro n
  induction n with
  | zero => intro _; exact ⟨[], rfl, fun i hi => absurd hi (by simp)⟩
  | succ n ih =>
    intro h
    obtain ⟨l, h1, h2⟩ := ih fun i hi => h i (by omega)
    obtain ⟨x, hx⟩ := h n (by omega)
    refine ⟨l ++ [x], by simp [h1], fun i hi => ?_⟩
    by_cases hl : i < l.length
    · rw [List.getElem_append_left hl]; exact h2 i hl
    · have : i = n := by simp at hi; omega
      subst this
      rw [List.getElem_append_right (by omega)]; simpa [h1] using hx
theorem addr_of_cell {w : World} {a : Addr} {v : Value} (h : w.cell? a = some v) : a = ⟨a.block, a.off, none⟩ := by
  obtain ⟨b, o, s⟩ := a
  cases s with
  | none => rfl
  | some k => unfold World.cell? at h; split at h <;> simp at h
theorem add_spot (b o j : Nat) : (⟨b, o, none⟩ : Addr).add j = ⟨b, o + j, none⟩ := by
  unfold Addr.add; split <;> simp_all
/-- A slice whose elements are of one cell. -/
theorem Reads.row1 {P : Program} {w : World} {t e : TypeId} {a0 : Option Addr} {len cap : Nat} (ht : P.underlying t = some (.slice e)) (hc : P.cellsOf e = 1) (h : Reads P w t [.slice a0 len cap]) :
    (a0 = none ∧ len = 0 ∧ cap = 0) ∨ (len = 0 ∧ ∃ a, a0 = some a) ∨ (0 < len ∧ len ≤ cap ∧ cap ≤ maxLen ∧ ∃ b off, a0 = some ⟨b, off, none⟩ ∧ b < w.heap.size ∧ ∀ i < len, ∃ x, w.cell? ⟨b, off + i, none⟩ = some x ∧ Reads P w e [x]) := by
  rcases h.slice ht with h | ⟨a, l, c, h, h1, h2, h3⟩
  · injection h with h; injection h with h4 h5 h6; exact .inl ⟨h4, h5, h6⟩
  · injection h with h; injection h with h4 h5 h6
    subst h4 h5 h6
    by_cases hl : len = 0
    · exact .inr (.inl ⟨hl, a, rfl⟩)
    · right; right
      obtain ⟨es, q1, q2, q3⟩ := h3 0 (by omega)
      rw [hc] at q1
      have c0 := q2 0 (by omega)
      have e0 : (a.add (0 * P.cellsOf e)).add 0 = a := by simp [Addr.add]
      rw [e0] at c0
      have ea := addr_of_cell c0
      have hlt := World.block_lt_of_cell? w _ c0
      refine ⟨by omega, h1, h2, a.block, a.off, by rw [← ea], hlt, fun i hi => ?_⟩
      obtain ⟨es, q1, q2, q3⟩ := h3 i hi
      rw [hc] at q1 q2
      match es, q1, q2, q3 with
      | [x], _, q2, q3 =>
        refine ⟨x, ?_, q3⟩
        have := q2 0 (by simp)
        rw [ea, Nat.mul_one, add_spot, add_spot] at this
        exact this
end Go.RowKit
