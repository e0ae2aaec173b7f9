/- The walk of slices.Delete of one parcel. -/
import Derived.Test.YtlhmfdklpjpnlaaNetDouble
import Derived.Lib.SliceRun
namespace Go.RowKit
set_option linter.unusedVariables false
/-- Cells laid over an array from a place on. -/
def putA (cur : Array Value) (o : Nat) : List Value → Array Value
  | [] => cur
  | v :: r => putA (cur.setIfInBounds o v) (o + 1) r
theorem block_setCells {b : Nat} {t : TypeId} {fr : Nat × Nat} : ∀ (vs : List Value) (o : Nat) (w : World) (cur : Array Value), w.heap[b]? = some (.cells cur t fr) → (w.setCells b o vs).heap[b]? = some (.cells (putA cur o vs) t fr) := by
  intro vs
  induction vs with
  | nil => intro o w cur h; exact h
  | cons v r ih => intro o w cur h; exact ih (o + 1) _ _ (block_setCell h)
theorem putA_list : ∀ (vs : List Value) (o : Nat) (cur : Array Value), o + vs.length ≤ cur.size → (putA cur o vs).toList = cur.toList.take o ++ vs ++ cur.toList.drop (o + vs.length) := by
  intro vs
  induction vs with
  | nil => intro o cur h; simp [putA]
  | cons v r ih =>
    intro o cur h
    rw [List.length_cons] at h
    unfold putA
    rw [ih (o + 1) _ (by simp; omega), Array.toList_setIfInBounds]
    have ho : o < cur.toList.length := by simp; omega
    rw [List.take_set, List.drop_set_of_lt (by omega), List.length_cons]
    have : (cur.toList.take (o + 1)).set o v = cur.toList.take o ++ [v] := by
      have hm : (cur.toList.take o).length = o := by rw [List.length_take]; omega
      rw [List.take_succ_eq_append_getElem ho, List.set_append_right _ _ (by omega), hm, Nat.sub_self]; rfl
    rw [this, show o + 1 + r.length = o + (r.length + 1) by omega]
    simp
theorem putA_size : ∀ (vs : List Value) (o : Nat) (cur : Array Value), (putA cur o vs).size = cur.size := by
  intro vs
  induction vs with
  | nil => intro o cur; rfl
  | cons v r ih => intro o cur; unfold putA; rw [ih]; simp
theorem Spares.setMany {S : Nat → Prop} {b : Nat} (hb : S b) : ∀ (vs : List Value) (o : Nat) {w w' : World}, Spares S w w' → Spares S w (w'.setCells b o vs) := by
  intro vs
  induction vs with
  | nil => intro o w w' h; exact h
  | cons v r ih => intro o w w' h; exact ih (o + 1) (h.setAt hb)
end Go.RowKit
namespace Go.Proofs.Ytlhmfdklpjpnlaa
open Go.RowKit
set_option linter.unusedVariables false

theorem clear3 (w : World) (ty : TypeId) (b o c : Nat) (h0 : (w.cell? ⟨b, o, none⟩).isSome = true) (h1 : (w.cell? ⟨b, o + 1, none⟩).isSome = true) (h2 : (w.cell? ⟨b, o + 2, none⟩).isSome = true) (f0 : w.frozen? ⟨b, o, none⟩ = false) (f1 : w.frozen? ⟨b, o + 1, none⟩ = false) (f2 : w.frozen? ⟨b, o + 2, none⟩ = false) :
    (Builtin.clear_ #[49] ty #[.slice (some ⟨b, o, none⟩) 1 c]).run Try.prog w = .ok (.tuple #[]) (w.setCells b o [.int .i64 0, .int .i64 0, .slice none 0 0]) := by
  have hv : ∀ w, (zeroValue 45).run Try.prog w = .ok (.agg #[.int .i64 0, .int .i64 0, .slice none 0 0]) w := fun w => by kernel_rfl
  have hzc : (Builtin.zeroCells (Value.agg #[.int .i64 0, .int .i64 0, .slice none 0 0]).cells 1).toList = [.int .i64 0, .int .i64 0, .slice none 0 0] := by kernel_rfl
  have hst := run_storeCells_cells (P := Try.prog) b o [.int .i64 0, .int .i64 0, .slice none 0 0] 0 w
    (by intro j hj; match j, hj with
        | 0, _ => simpa using h0
        | 1, _ => simpa using h1
        | 2, _ => simpa using h2)
    (by intro j hj; match j, hj with
        | 0, _ => simpa using f0
        | 1, _ => simpa using f1
        | 2, _ => simpa using f2)
    (by intro v hv'; simp only [List.mem_cons, List.not_mem_nil, or_false] at hv'; rcases hv' with rfl | rfl | rfl <;> rfl)
  simp only [Nat.add_zero] at hst
  simp [Builtin.clear_, run_underlying Try.underlying49, hv, hzc, hst]

/-- One element less. -/
def DelPost (w : World) (base b n cap i : Nat) (cs : List Value) (e : Ending) (w' : World) : Prop :=
  e = .returned (.slice (some ⟨b, 0, none⟩) (n - 1) cap) ∧ w'.ownsRow base 45 3 (.slice (some ⟨b, 0, none⟩) (n - 1) cap) (n - 1) (cs.take (i * 3) ++ cs.drop (i * 3 + 3)) ∧ Spares (· = b) w w'

set_option maxHeartbeats 2000000 in
theorem delete_any {w : World} {base b n cap i : Nat} {cs : List Value} (h : w.ownsRow base 45 3 (.slice (some ⟨b, 0, none⟩) n cap) n cs) (h1 : ∀ u ∈ cs, u.oneCell' = true) (hi : i < n) (hn : n ≤ 60) :
    Calls Try.prog 33 #[.slice (some ⟨b, 0, none⟩) n cap, .int .i64 (i : Int), .int .i64 ((i : Int) + 1)] w (DelPost w base b n cap i cs) := by
  obtain ⟨i0, hi0, hz0, hz1, hz2⟩ := info_parts par_info
  obtain ⟨hl, h⟩ := h
  rcases h with ⟨h, _⟩ | ⟨g, cap', cur, he, hbg, hg, hnc, hcm, hcs, htk⟩
  · cases h
  injection he with he _ he3
  injection he with he; injection he with he _ _
  subst he he3
  unfold maxLen at hcm
  obtain ⟨news, hnews⟩ : ∃ news, news = cs.drop (i * 3 + 3) := ⟨_, rfl⟩
  have hlen : news.length = (n - (i + 1)) * 3 := by rw [hnews, List.length_drop, hl]; omega
  have curL : cur.toList.length = cap * 3 := by simpa using hcs
  have hcell : ∀ j, j < cap * 3 → (w.cell? ⟨b, j, none⟩).isSome = true := by
    intro j hj; rw [cell_block hg]; simp; omega
  have hget : ∀ t u, news[t]? = some u → w.cell? ⟨b, (i + 1) * 3 + t, none⟩ = some u := by
    intro t u hu
    rw [cell_block hg]
    have ht := (List.getElem?_eq_some_iff.1 hu).1
    rw [hnews, List.getElem?_drop, ← htk, List.getElem?_take, if_pos (by omega)] at hu
    rw [← Array.getElem?_toList, show (i + 1) * 3 + t = i * 3 + 3 + t by omega]
    exact hu
  obtain ⟨A, hA, hsrc⟩ : ∃ A : Addr, (if cap = i + 1 then some (⟨b, 0, none⟩ : Addr) else some ⟨b, (i + 1) * 3, none⟩) = some A ∧ Hid (∀ t u, news[t]? = some u → w.drew.cell? (A.add t) = some u) := by
    by_cases hx : cap = i + 1
    · refine ⟨⟨b, 0, none⟩, by simp [hx], fun t u hu => ?_⟩
      have h0 : news.length = 0 := by rw [hlen]; omega
      rw [List.length_eq_zero_iff.1 h0] at hu
      simp at hu
    · refine ⟨⟨b, (i + 1) * 3, none⟩, by simp [hx], fun t u hu => ?_⟩
      rw [add_spot]
      exact hget t u hu
  have s2 : Hid (∀ u ∈ news, u.oneCell' = true) := by
    intro u hu
    rw [hnews] at hu
    exact h1 u (List.mem_of_mem_drop hu)
  have s3 : Hid (∀ t, t < news.length → (w.drew.cell? ⟨b, 0 + i * 3 + t, none⟩).isSome = true ∧ w.drew.frozen? ⟨b, 0 + i * 3 + t, none⟩ = false) := by
    intro t ht
    rw [hlen] at ht
    exact ⟨hcell _ (by omega), free_block hg⟩
  obtain ⟨W1, hW1⟩ : ∃ W1, W1 = w.drew.setCells b (0 + i * 3) news := ⟨_, rfl⟩
  have g1 : W1.heap[b]? = some (.cells (putA cur (0 + i * 3) news) 45 (0, 0)) := by rw [hW1]; exact block_setCells _ _ _ _ hg
  have hsome : ∀ j, j < cap * 3 → (W1.cell? ⟨b, j, none⟩).isSome = true := by
    intro j hj; rw [cell_block g1]; simp [putA_size]; omega
  have hcl : ∀ ty, (Builtin.clear_ #[49] ty #[.slice (some ⟨b, (n - 1) * 3, none⟩) 1 (cap - (n - 1))]).run Try.prog W1 = .ok (.tuple #[]) (W1.setCells b ((n - 1) * 3) [.int .i64 0, .int .i64 0, .slice none 0 0]) :=
    fun ty => clear3 W1 ty b _ _ (hsome _ (by omega)) (hsome _ (by omega)) (hsome _ (by omega)) (free_block g1) (free_block g1) (free_block g1)
  have hcl2 : ∀ ty, (Builtin.clear_ #[49] ty #[.slice (some ⟨b, (i + (n - (i + 1))) * 3, none⟩) (n - (i + (n - (i + 1)))) (cap - (i + (n - (i + 1))))]).run Try.prog W1 = .ok (.tuple #[]) (W1.setCells b ((n - 1) * 3) [.int .i64 0, .int .i64 0, .slice none 0 0]) := by
    intro ty
    have e1 : i + (n - (i + 1)) = n - 1 := by omega
    have e2 : n - (n - 1) = 1 := by omega
    rw [e1, e2]; exact hcl ty
  have hlo : i + (n - (i + 1)) ≤ n := by omega
  have hne2 : ¬ cap = i + (n - (i + 1)) := by omega
  have hW : Hid (W1 = w.drew.setCells b (0 + i * 3) news) := hW1
  have HLEN := Lib.hid hlen
  have hij : (i : Int) + 1 ≤ n := by omega
  have hic : (i : Int) + 1 ≤ cap := by omega
  have hic1 : i ≤ cap := by omega
  have hi01 : (0 : Int) ≤ (i : Int) + 1 := by omega
  have hjc1 : i + 1 ≤ cap := by omega
  have hjn1 : i + 1 ≤ n := by omega
  have hne : ((i : Int) == (i : Int) + 1) = false := beq_eq_false_iff_ne.2 (by omega)
  have HA := Lib.hid hA
  have HG := Lib.hid hg
  have HG1 := Lib.hid g1
  have HN := Lib.hid hnews
  have HT := Lib.hid htk
  have HL := Lib.hid hl
  have HCS := Lib.hid hcs
  clear hcl hW1 g1 hsome hget hnews hlen hcell htk hl hcs curL hg
  go_enter Try.func33, Try.ntmps33
  go_wp2_with fail
  go_region_law (refine step_append_room rfl (.tmp 22) (.tmp 25) 49 rfl 45 i0 3 Try.underlying49 hi0 hz1 b 0 i cap (by simp [Act.eval, Act.put]) A (n - (i + 1)) (cap - (i + 1)) news (by simp [Act.eval, Act.put]) HLEN.out hsrc.out s2.out (by omega) s3.out ?_; rw [← hW.out])
  go_wp2_with fail
  go_ret
  refine ⟨?_, ⟨?_, .inr ⟨b, cap, putA (putA cur (0 + i * 3) news) ((n - 1) * 3) [.int .i64 0, .int .i64 0, .slice none 0 0], rfl, hbg, block_setCells _ _ _ _ HG1.out, by omega, by unfold maxLen; omega, by rw [putA_size, putA_size]; exact HCS.out, ?_⟩⟩, ?_⟩
  · show Ending.returned (.slice _ (i + (n - (i + 1))) _) = _
    rw [show i + (n - (i + 1)) = n - 1 by omega]
  · rw [List.length_append, List.length_take, List.length_drop, HL.out]; omega
  · have hl1 := HLEN.out
    have hcs := HCS.out
    have hsz : (putA cur (0 + i * 3) news).size = cap * 3 := by rw [putA_size]; exact hcs
    have ha : (cur.toList.take (i * 3)).length = i * 3 := by rw [List.length_take]; simp; omega
    have hsl : (putA cur (0 + i * 3) news).toList.length = cap * 3 := by rw [Array.length_toList]; exact hsz
    rw [putA_list _ _ _ (by rw [hsz]; show _ + 3 ≤ _; omega), List.append_assoc, List.take_append_of_le_length (by rw [List.length_take, hsl]; omega), List.take_take, Nat.min_self, putA_list _ _ _ (by omega), Nat.zero_add, List.take_append_of_le_length (by rw [List.length_append, ha]; omega), List.take_of_length_le (by rw [List.length_append, ha]; omega), HN.out, ← HT.out, List.take_take, Nat.min_eq_left (by omega)]
  · rw [hW.out]
    exact Spares.setMany (S := (· = b)) (b := b) rfl _ _ (Spares.setMany (S := (· = b)) (b := b) rfl _ _ ((Spares.refl (· = b) w).drew))

end Go.Proofs.Ytlhmfdklpjpnlaa
