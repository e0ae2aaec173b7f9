/- Part 4 of what the proof of ScriptTags stands on: SkB, SkC, SkLay, Bridge, OldC, SkStr, SkW1, NumPiece, NumValue, NumRd, NumPrint, NumRefA, NumRefRd, SkOld, SkW4, SkW5, SkW2, SkW3, ScP, FmS1, FmS3, FmT, XgV, XgG, VmH, FgW, ScC, ScD, FwS1, FwS3, Hm1, HmG, Hm2, Hm3, Hm4, Hm5, Hm6. -/
import Derived.Shelf.Strings.OnBuilder
import Derived.Room.Shelf.Join48
import Derived.Shelf.Strings.Split
import Derived.Shelf.Strings.Search2
import Derived.Ground.NamesProg
import Derived.Test.YtdfbohaohjaloaaGreatDoorProg
import Derived.Lib.IndexBytes
import Derived.Test.YtdfbohaohjaloaaGreatDoorScriptTagsM3
set_option linter.unusedVariables false
set_option linter.unusedSimpArgs false
set_option maxHeartbeats 1000000
section
namespace Go.Vm
open Go.Proofs.YtdfbohaohjaloaaGreatDoor Punnet.Name Punnet.Num
-- places
def placeL (r : RefD) : List UInt8 := (if r.scope = 1 then [108, 105, 110, 101] else [104, 101, 97, 100]) ++ ((if r.group = noB then [] else 46 :: r.group.data.toList) ++ 46 :: r.name.data.toList)
def placeT (r : RefD) : ByteArray := mkB (placeL r)
def scopeB (r : RefD) : ByteArray := if r.scope = 1 then (⟨#[108, 105, 110, 101]⟩ : ByteArray) else (⟨#[104, 101, 97, 100]⟩ : ByteArray)
theorem placeB_parts {r : RefD} (h : placeB r = true) : (r.scope = 0 ∨ r.scope = 1) ∧ nameB r.name = true ∧ (r.group = noB ∨ nameB r.group = true) := by
  unfold placeB at h
  simp only [Bool.and_eq_true, Bool.or_eq_true, decide_eq_true_eq] at h
  exact ⟨h.1.1, h.1.2, h.2⟩
theorem place_split {r : RefD} (h : placeB r = true) : splitW 46 (placeT r) = scopeB r :: (if r.group = noB then [r.name] else [r.group, r.name]) := by
  obtain ⟨h0, h1, h2⟩ := placeB_parts h
  have hn : (46 : UInt8) ∉ r.name.data.toList := nameB_free h1 (by decide)
  unfold splitW placeT placeL scopeB
  rw [mkB_data]
  by_cases hg : r.group = noB
  · rw [if_pos hg, if_pos hg, List.nil_append]
    split
    · rw [splitC_app _ (by decide), splitC_free hn]; simp [mkB_of]
    · rw [splitC_app _ (by decide), splitC_free hn]; simp [mkB_of]
  · have hgf : (46 : UInt8) ∉ r.group.data.toList := nameB_free (h2.resolve_left hg) (by decide)
    rw [if_neg hg, if_neg hg, List.cons_append]
    split
    · rw [splitC_app _ (by decide), splitC_app _ hgf, splitC_free hn]; simp [mkB_of]
    · rw [splitC_app _ (by decide), splitC_app _ hgf, splitC_free hn]; simp [mkB_of]
def candR (l : List ByteArray) : RefD := ⟨if l.getD 0 noB = (⟨#[108, 105, 110, 101]⟩ : ByteArray) then 1 else 0, if l.length = 3 then l.getD 1 noB else noB, if l.length = 2 then l.getD 1 noB else if l.length = 3 then l.getD 2 noB else noB⟩
theorem cand_place {r : RefD} (h : placeB r = true) : candR (splitW 46 (placeT r)) = r := by
  obtain ⟨h0, h1, h2⟩ := placeB_parts h
  rw [place_split h]
  obtain ⟨sc, g, n⟩ := r
  unfold candR scopeB
  by_cases hg : g = noB
  · subst hg
    rcases h0 with h0 | h0
    · simp only at h0; subst h0; rfl
    · simp only at h0; subst h0; rfl
  · rcases h0 with h0 | h0
    · simp only at h0; subst h0; simp only [if_neg hg]; rfl
    · simp only at h0; subst h0; simp only [if_neg hg]; rfl
theorem place_inj {r q : RefD} (h : placeB r = true) (k : placeB q = true) (e : placeT r = placeT q) : r = q := by
  rw [← cand_place h, ← cand_place k, e]
open Classical in
noncomputable def placeOf (s : ByteArray) : Option RefD := if h : ∃ r, placeB r = true ∧ placeT r = s then some h.choose else none
theorem placeOf_some {r : RefD} {s : ByteArray} (h : placeB r = true) (e : placeT r = s) : placeOf s = some r := by
  have hx : ∃ r, placeB r = true ∧ placeT r = s := ⟨r, h, e⟩
  unfold placeOf
  rw [dif_pos hx]
  exact congrArg some (place_inj hx.choose_spec.1 h (hx.choose_spec.2.trans e.symm))
theorem placeOf_inv {r : RefD} {s : ByteArray} (h : placeOf s = some r) : placeB r = true ∧ placeT r = s := by
  unfold placeOf at h
  split at h
  · rename_i hx; injection h with h; subst h; exact hx.choose_spec
  · cases h
theorem placeOf_none {s : ByteArray} (h : ∀ r, placeB r = true → placeT r = s → False) : placeOf s = none := by
  cases e : placeOf s with
  | none => rfl
  | some r => exact absurd (placeOf_inv e).2 (fun k => h r (placeOf_inv e).1 k)
theorem scopeB_two (r : RefD) : scopeB r = (⟨#[104, 101, 97, 100]⟩ : ByteArray) ∨ scopeB r = (⟨#[108, 105, 110, 101]⟩ : ByteArray) := by unfold scopeB; split; exact .inr rfl; exact .inl rfl
theorem place_no1 {s : ByteArray} (h : ¬ (splitW 46 s).getD 0 noB = (⟨#[104, 101, 97, 100]⟩ : ByteArray)) (h2 : ¬ (splitW 46 s).getD 0 noB = (⟨#[108, 105, 110, 101]⟩ : ByteArray)) : placeOf s = none := placeOf_none fun r hr e => by
  rw [← e, place_split hr] at h h2
  rcases scopeB_two r with k | k
  · exact h k
  · exact h2 k
theorem place_no2 {s : ByteArray} (h : placeB (candR (splitW 46 s)) = false) : placeOf s = none := placeOf_none fun r hr e => by
  rw [← e, cand_place hr, hr] at h; cases h
theorem place_no3 {s : ByteArray} (h : ¬ placeT (candR (splitW 46 s)) = s) : placeOf s = none := placeOf_none fun r hr e => by
  rw [← e, cand_place hr] at h; exact h rfl
theorem ext_data (s : ByteArray) (a b : Nat) : (s.extract a b).data.toList = (s.data.toList.take b).drop a := by
  rw [Lib.extract_data, List.drop_take]
theorem get_data' (s : ByteArray) (k : Nat) : s[k]? = s.data.toList[k]? := by
  by_cases h : k < s.size
  · rw [getElem?_pos s k h, List.getElem?_eq_getElem (by exact h)]; rfl
  · rw [List.getElem?_eq_none (by have := ba_len s; omega)]
    exact getElem?_neg s k h
-- tags
def tagT (t : TagD) : ByteArray := mkB (print t.r ++ 46 :: print t.n)
def tagIn (t : TagD) : Prop := inI64 t.r ∧ inI64 t.n
theorem print_free (n : Int) {c : UInt8} (hc : c.toNat < 45 ∨ (45 < c.toNat ∧ c.toNat < 48) ∨ 57 < c.toNat) : c ∉ print n := by
  have hd := digs_digits n.natAbs
  unfold print
  intro k
  split at k
  · rcases List.mem_cons.1 k with k | k
    · rw [k] at hc; revert hc; decide
    · have := hd c k; omega
  · have := hd c k; omega
theorem tag_cut (t : TagD) : cutC 46 (tagT t).data.toList = (print t.r, print t.n, true) := by
  unfold tagT; rw [mkB_data]; exact cutC_hit (print_free _ (by decide))
theorem tagT_inj {t u : TagD} (h : tagIn t) (k : tagIn u) (e : tagT t = tagT u) : t = u := by
  have h1 := tag_cut t
  rw [e, tag_cut u] at h1
  injection h1 with h1 h2
  injection h2 with h2 _
  have q1 := print_read (n := t.r) (by have := h.1; omega) (by have := h.1; omega)
  have q2 := print_read (n := u.r) (by have := k.1; omega) (by have := k.1; omega)
  have q3 := print_read (n := t.n) (by have := h.2; omega) (by have := h.2; omega)
  have q4 := print_read (n := u.n) (by have := k.2; omega) (by have := k.2; omega)
  rw [← h1, q2] at q1
  rw [← h2, q4] at q3
  obtain ⟨a, b⟩ := t
  obtain ⟨a', b'⟩ := u
  injection q1 with q1 _
  injection q3 with q3 _
  simp only at q1 q3
  rw [q1, q3]
open Classical in
noncomputable def tagOf (s : ByteArray) : Option TagD := if h : ∃ t, tagIn t ∧ tagT t = s then some h.choose else none
theorem tagOf_some {t : TagD} {s : ByteArray} (h : tagIn t) (e : tagT t = s) : tagOf s = some t := by
  have hx : ∃ t, tagIn t ∧ tagT t = s := ⟨t, h, e⟩
  unfold tagOf
  rw [dif_pos hx]
  exact congrArg some (tagT_inj hx.choose_spec.1 h (hx.choose_spec.2.trans e.symm))
theorem tagOf_inv {t : TagD} {s : ByteArray} (h : tagOf s = some t) : tagIn t ∧ tagT t = s := by
  unfold tagOf at h
  split at h
  · rename_i hx; injection h with h; subst h; exact hx.choose_spec
  · cases h
theorem tagOf_none {s : ByteArray} (h : ∀ t, tagIn t → tagT t = s → False) : tagOf s = none := by
  cases e : tagOf s with
  | none => rfl
  | some r => exact absurd (tagOf_inv e).2 (fun k => h r (tagOf_inv e).1 k)
theorem tag_cutC {s : ByteArray} {a b : List UInt8} {f : Bool} (h : cutC 46 s.data.toList = (a, b, f)) (h1 : (readOf a).2 = 0) (h2 : (readOf b).2 = 0) : tagOf s = some ⟨(readOf a).1, (readOf b).1⟩ := by
  obtain ⟨p1, p2, p3⟩ := read_print h1
  obtain ⟨q1, q2, q3⟩ := read_print h2
  refine tagOf_some (t := ⟨(readOf a).1, (readOf b).1⟩) ⟨⟨by omega, by show (readOf a).1 < _; omega⟩, ⟨by omega, by show (readOf b).1 < _; omega⟩⟩ ?_
  by_cases hc : (46 : UInt8) ∈ s.data.toList
  · obtain ⟨x, r, e, hx⟩ := mem_split hc
    rw [e, cutC_hit hx] at h
    injection h with e1 h
    injection h with e2 _
    apply ba_ext
    unfold tagT
    rw [mkB_data, e, p1, q1, e1, e2]
  · rw [cutC_miss hc] at h
    injection h with e1 h
    injection h with e2 _
    rw [← e2] at h2
    exact absurd h2 (by decide)
theorem tag_cutC_no {s : ByteArray} {a b : List UInt8} {f : Bool} (h : cutC 46 s.data.toList = (a, b, f)) (h1 : ¬ ((readOf a).2 = 0 ∧ (readOf b).2 = 0)) : tagOf s = none := tagOf_none fun t ht e => by
  rw [← e, tag_cut t] at h
  injection h with e1 h
  injection h with e2 _
  apply h1
  rw [← e1, ← e2, print_read (by have := ht.1; omega) (by have := ht.1; omega), print_read (by have := ht.2; omega) (by have := ht.2; omega)]
  exact ⟨rfl, rfl⟩
end Go.Vm
end
section
namespace Go.Vm
open Go.Proofs.YtdfbohaohjaloaaGreatDoor Punnet.Name Punnet.Num
-- what is told is split as it was
def whole (w : ByteArray) : Prop := ((32 : UInt8) ∉ w.data.toList ∧ (34 : UInt8) ∉ w.data.toList) ∨ ∃ t : List UInt8, w.data.toList = quoteL t
inductive RF : FieldD → Prop
 | counter (r : RefD) (n : Int) (hp : placeB r = true) (hn : inI64 n) : RF ⟨r, 1, noB, [], n⟩
 | register (r : RefD) (d : ByteArray) (hp : placeB r = true) (hd : d.size ≤ 40) : RF ⟨r, 2, d, [], 0⟩
 | enum (r : RefD) (d : ByteArray) (l : List ByteArray) (hp : placeB r = true) (hl : casesB l = true) (hd : d ∈ l) : RF ⟨r, 3, d, l, 0⟩
 | list (r : RefD) (hp : placeB r = true) : RF ⟨r, 4, noB, [], 0⟩
inductive RL : LensD → Prop
 | add (f : FieldD) (h : rightF f = true) : RL ⟨2, noRef, noB, noB, 0, f, [], []⟩
 | remove (f : FieldD) (h : rightF f = true) : RL ⟨3, noRef, noB, noB, 0, f, [], []⟩
 | convert (r : RefD) (n o : ByteArray) (a b : List (ByteArray × ByteArray)) (hp : placeB r = true) (hn : nameB n = true) (ho : nameB o = true) (h1 : rightT a b = true) (h2 : rightT b a = true) : RL ⟨8, r, n, o, 0, noField, a, b⟩
 | split (r : RefD) (n o : ByteArray) (k : Int) (hp : placeB r = true) (hn : nameB n = true) (ho : nameB o = true) (hk : inI64 k) : RL ⟨6, r, n, o, k, noField, [], []⟩
 | merge (r : RefD) (n o : ByteArray) (k : Int) (hp : placeB r = true) (hn : nameB n = true) (ho : nameB o = true) (hk : inI64 k) : RL ⟨9, r, n, o, k, noField, [], []⟩
 | wrap (r : RefD) (o : ByteArray) (hp : placeB r = true) (ho : o.size ≤ 40) : RL ⟨7, r, noB, o, 0, noField, [], []⟩
 | unwrap (r : RefD) (o : ByteArray) (hp : placeB r = true) (ho : o.size ≤ 40) : RL ⟨10, r, noB, o, 0, noField, [], []⟩
 | rename (r : RefD) (n : ByteArray) (hp : placeB r = true) (hn : nameB n = true) : RL ⟨1, r, n, noB, 0, noField, [], []⟩
 | hoist (r : RefD) (hp : placeB r = true) : RL ⟨4, r, noB, noB, 0, noField, [], []⟩
 | plunge (r : RefD) (n : ByteArray) (hp : placeB r = true) (hn : nameB n = true) : RL ⟨5, r, n, noB, 0, noField, [], []⟩
-- what the words tell
abbrev wd (w : List ByteArray) (i : Nat) : ByteArray := w.getD i noB
abbrev numW (s : ByteArray) : Int × Int := readOf s.data.toList
-- what is read of a text
section
variable {α : Type}
end
end Go.Vm
end
section
namespace Go.Proofs
open Go.Shelf
def Tryz.laysSplit_ren : Go.Shelf.Ren := ⟨fun | 146 => 222 | 221 => 313 | 268 => 383 | 138 => 384 | 143 => 385 | 195 => 416 | 197 => 417 | 218 => 418 | 219 => 96 | 260 => 439 | 217 => 150 | 225 => 151 | 224 => 152 | 267 => 153 | 266 => 226 | 314 => 227 | n => n, fun | 9 => 9 | 31 => 34 | 3 => 3 | 4 => 4 | 0 => 0 | 105 => 492 | 21 => 21 | 5 => 5 | 46 => 252 | 119 => 514 | 139 => 517 | 138 => 516 | 146 => 321 | 51 => 132 | n => n, fun | 1 => 4 | 3 => 6 | 4 => 7 | n => n⟩
theorem Tryz.laysSplit : Go.Proofs.Lays.n146 Tryz.prog Tryz.laysSplit_ren := {
 mixed := by kernel_rfl
 f138 := Tryz.func384.trans (congrArg some (by kernel_rfl))
 f143 := Tryz.func385.trans (congrArg some (by kernel_rfl))
 f146 := Tryz.func222.trans (congrArg some (by kernel_rfl))
 f195 := Tryz.func416.trans (congrArg some (by kernel_rfl))
 f197 := Tryz.func417.trans (congrArg some (by kernel_rfl))
 f217 := Tryz.func150.trans (congrArg some (by kernel_rfl))
 f218 := Tryz.func418.trans (congrArg some (by kernel_rfl))
 f219 := Tryz.func96.trans (congrArg some (by kernel_rfl))
 f221 := Tryz.func313.trans (congrArg some (by kernel_rfl))
 f224 := Tryz.func152.trans (congrArg some (by kernel_rfl))
 f225 := Tryz.func151.trans (congrArg some (by kernel_rfl))
 f260 := Tryz.func439.trans (congrArg some (by kernel_rfl))
 f266 := Tryz.func226.trans (congrArg some (by kernel_rfl))
 f267 := Tryz.func153.trans (congrArg some (by kernel_rfl))
 f268 := Tryz.func383.trans (congrArg some (by kernel_rfl))
 f314 := Tryz.func227.trans (congrArg some (by kernel_rfl))
 t0 := Tryz.underlying0
 a0 := Tryz.isAgg0
 z0 := Tryz.sizeOf0
 v0 := Tryz.zeroValue0
 t3 := Tryz.underlying3
 a3 := Tryz.isAgg3
 z3 := Tryz.sizeOf3
 v3 := Tryz.zeroValue3
 t4 := Tryz.underlying4
 a4 := Tryz.isAgg4
 z4 := Tryz.sizeOf4
 v4 := Tryz.zeroValue4
 t5 := Tryz.underlying5
 a5 := Tryz.isAgg5
 z5 := Tryz.sizeOf5
 v5 := Tryz.zeroValue5
 t9 := Tryz.underlying9
 a9 := Tryz.isAgg9
 z9 := Tryz.sizeOf9
 v9 := Tryz.zeroValue9
 t21 := Tryz.underlying21
 a21 := Tryz.isAgg21
 z21 := Tryz.sizeOf21
 v21 := Tryz.zeroValue21
 t31 := Tryz.underlying34
 a31 := Tryz.isAgg34
 z31 := Tryz.sizeOf34
 v31 := Tryz.zeroValue34
 t46 := Tryz.underlying252
 a46 := Tryz.isAgg252
 z46 := Tryz.sizeOf252
 v46 := Tryz.zeroValue252
 t51 := Tryz.underlying132
 a51 := Tryz.isAgg132
 z51 := Tryz.sizeOf132
 v51 := Tryz.zeroValue132
 t105 := Tryz.underlying492
 a105 := Tryz.isAgg492
 z105 := Tryz.sizeOf492
 v105 := Tryz.zeroValue492
 t119 := Tryz.underlying514
 a119 := Tryz.isAgg514
 z119 := Tryz.sizeOf514
 t138 := Tryz.underlying516
 a138 := Tryz.isAgg516
 z138 := Tryz.sizeOf516
 v138 := Tryz.zeroValue516
 t139 := Tryz.underlying517
 a139 := Tryz.isAgg517
 z139 := Tryz.sizeOf517
 v139 := Tryz.zeroValue517
 t146 := Tryz.underlying321
 a146 := Tryz.isAgg321
 z146 := Tryz.sizeOf321
 v146 := Tryz.zeroValue321
 g1 := by kernel_rfl
 g3 := by kernel_rfl
 g4 := by kernel_rfl }
def Tryz.laysIndex_ren : Go.Shelf.Ren := ⟨fun | 219 => 96 | 217 => 150 | 225 => 151 | 224 => 152 | 267 => 153 | 266 => 226 | 314 => 227 | n => n, fun | 9 => 9 | 3 => 3 | 4 => 4 | 5 => 5 | 46 => 252 | 146 => 321 | 51 => 132 | n => n, fun | 1 => 4 | n => n⟩
theorem Tryz.laysIndex : Go.Proofs.Lays.n219 Tryz.prog Tryz.laysIndex_ren := {
 mixed := by kernel_rfl
 f217 := Tryz.func150.trans (congrArg some (by kernel_rfl))
 f219 := Tryz.func96.trans (congrArg some (by kernel_rfl))
 f224 := Tryz.func152.trans (congrArg some (by kernel_rfl))
 f225 := Tryz.func151.trans (congrArg some (by kernel_rfl))
 f266 := Tryz.func226.trans (congrArg some (by kernel_rfl))
 f267 := Tryz.func153.trans (congrArg some (by kernel_rfl))
 f314 := Tryz.func227.trans (congrArg some (by kernel_rfl))
 t3 := Tryz.underlying3
 a3 := Tryz.isAgg3
 z3 := Tryz.sizeOf3
 v3 := Tryz.zeroValue3
 t4 := Tryz.underlying4
 a4 := Tryz.isAgg4
 z4 := Tryz.sizeOf4
 v4 := Tryz.zeroValue4
 t5 := Tryz.underlying5
 a5 := Tryz.isAgg5
 z5 := Tryz.sizeOf5
 v5 := Tryz.zeroValue5
 t9 := Tryz.underlying9
 a9 := Tryz.isAgg9
 z9 := Tryz.sizeOf9
 v9 := Tryz.zeroValue9
 t46 := Tryz.underlying252
 a46 := Tryz.isAgg252
 z46 := Tryz.sizeOf252
 v46 := Tryz.zeroValue252
 t51 := Tryz.underlying132
 a51 := Tryz.isAgg132
 z51 := Tryz.sizeOf132
 v51 := Tryz.zeroValue132
 t146 := Tryz.underlying321
 a146 := Tryz.isAgg321
 z146 := Tryz.sizeOf321
 v146 := Tryz.zeroValue321
 g1 := by kernel_rfl }
end Go.Proofs
end
section
namespace Go.Vm
open Go.RowKit
def allFrozen : Roles := fun _ => .frozen
section
variable {P : Program} {w : World}
def Cells (P : Program) (w : World) (t : TypeId) {α : Type} (enc : α → D) (ok : α → Prop) : Prop := ∀ es, Reads P w t es → ∃ x : α, Reps allFrozen w es (enc x).cells ∧ ok x
theorem law_true {f : FuncId} {args : List D} {vs : Array Value} (hc : Contract P f args [.d (.sc (.bool true))]) (hl : vs.size = args.length) (hr : ∀ (i : Nat) (v : Value) (d : D), vs.toList[i]? = some v → args[i]? = some d → Rep allFrozen w v d) (hG : GlobW allFrozen w := by intro g cs h; cases h) :
  Calls P f vs w fun e w' => e = .returned (.bool true) ∧ Below w.heap.size w w' := by
 refine (hc allFrozen w vs 0 ⟨fun _ _ => rfl, hG⟩ (fun _ _ _ _ _ h => by cases h) hl hr).mono ?_
 rintro e w' ⟨v, ro', rfl, hg, hs⟩
 have : v = .bool true := (rep_sc (show Rep ro' w' v (.sc (.bool true)) from hs)).1
 exact ⟨by rw [this], hg.below⟩
end
end Go.Vm
end
section
namespace Go.Vm
open Go.RowKit
section
variable {P : Program} {f : FuncId} {ro : Roles} {w w' : World}
theorem grow_below (hn : ∀ b, w.heap.size ≤ b → ro b = .frozen) (h : Below w.heap.size w w') : Grow ro ro w w' :=
  ⟨h, fun _ _ => rfl, fun b hb => hn b (Nat.le_trans h.size hb), fun b id k hb hr => by rw [hn b hb] at hr; cases hr⟩
theorem args_sc {vs : Array Value} {us : List Value} (hl : vs.size = (us.map D.sc).length) (h : ∀ (i : Nat) (v : Value) (d : D), vs.toList[i]? = some v → (us.map D.sc)[i]? = some d → Rep ro w v d) : vs = us.toArray := by
  have hl' : vs.size = us.length := by simpa using hl
  apply Array.ext
  · simpa using hl'
  · intro i h1 h2
    have hu : i < us.length := by omega
    have := h i vs[i] (.sc us[i]) (by simp [h1]) (by simp [hu])
    simpa using (rep_sc this).1
theorem old_one {us : List Value} {r : Value} (hp : plainV r = true) (h : ∀ w, Calls P f us.toArray w fun e w' => e = .returned r ∧ Below w.heap.size w w') : Contract P f (us.map D.sc) [.d (.sc r)] := by
  intro ro w vs τ h1 h2 h3 h4
  rw [args_sc h3 h4]
  refine (h w).mono ?_
  rintro e w' ⟨rfl, hb⟩
  exact ⟨r, ro, rfl, grow_below h1.new hb, .sc hp⟩
theorem old_tup {us : List Value} {r1 r2 : Value} {rs : List Value} (hp : ∀ r ∈ r1 :: r2 :: rs, plainV r = true) (h : ∀ w, Calls P f us.toArray w fun e w' => e = .returned (.tuple (r1 :: r2 :: rs).toArray) ∧ Below w.heap.size w w') :
    Contract P f (us.map D.sc) ((r1 :: r2 :: rs).map fun r => C.d (.sc r)) := by
  intro ro w vs τ h1 h2 h3 h4
  rw [args_sc h3 h4]
  refine (h w).mono ?_
  rintro e w' ⟨rfl, hb⟩
  refine ⟨_, ro, rfl, grow_below h1.new hb, ?_⟩
  have e1 : resS (((r1 :: r2 :: rs).map fun r => C.d (.sc r)).map (setTok τ)) = .tup ((r1 :: r2 :: rs).map fun r => C.d (.sc r)) := by
    simp only [List.map_cons, resS, setTok]
    congr 1
    simp only [List.map_map]
    congr 2
  rw [e1]
  refine ⟨_, rfl, by simp, fun i u c hu hc => ?_⟩
  simp only [List.toList_toArray] at hu
  rw [List.getElem?_map, hu] at hc
  simp only [Option.map_some, Option.some.injEq] at hc
  subst hc
  exact .sc (hp u (List.mem_of_getElem? hu))
theorem flat_strs (l : List ByteArray) : flat (l.map strD) = l.map strD := by
  unfold flat
  induction l with
  | nil => rfl
  | cons a l ih => rw [List.map_cons, List.flatMap_cons, ih]; rfl
theorem rep_strs {l : List ByteArray} {T : TypeId} {base : Nat} {v : Value} (hn : ∀ b, base ≤ b → ro b = .frozen) (ho : w.ownsRow base T 1 v l.length (l.map Value.string)) : Rep ro w v (.row (l.map strD)) := by
  obtain ⟨hl, h | ⟨g, cap, cur, rfl, hg, hh, hc, hm, hs, ht⟩⟩ := ho
  · obtain ⟨rfl, h0⟩ := h
    rw [List.length_eq_zero_iff.1 h0]
    exact .nil (by simp [maxLen])
  · have hlen : l.length = (l.map strD).length := by simp
    rw [hlen]
    refine .row (sz := 1) (l.map Value.string) (by omega) (by simpa using hc) hm (by simp) ?_ ?_ ?_ ?_
    · intro x hx
      obtain ⟨a, _, rfl⟩ := List.mem_map.1 hx
      rfl
    · intro u hu
      obtain ⟨a, _, rfl⟩ := List.mem_map.1 hu
      rfl
    · intro j u hu
      refine ⟨?_, by unfold okAt; rw [hn g hg]; trivial⟩
      have := World.ownsRow.cells (w := w) (base := base) (e := T) (size := 1) (v := .slice (some ⟨g, 0, none⟩) l.length cap) (n := l.length) (xs := l.map Value.string) ⟨hl, .inr ⟨g, cap, cur, rfl, hg, hh, hc, hm, hs, ht⟩⟩ (g := g) rfl j u hu
      have e : (⟨g, 0, none⟩ : Addr).add j = ⟨g, 0 + j, none⟩ := by
        unfold Addr.add
        by_cases hj : j = 0 <;> simp [hj]
      rw [e] at this
      exact this
    · intro j u c hu hc
      rw [flat_strs, List.getElem?_map] at hc
      rw [List.getElem?_map] at hu
      cases ha : l[j]? with
      | none => rw [ha] at hc; cases hc
      | some a =>
        rw [ha] at hu hc
        simp only [Option.map_some, Option.some.injEq] at hu hc
        subst hu hc
        exact .sc rfl
theorem old_strs {us : List Value} {l : List ByteArray} {T : TypeId} (h : ∀ w, Calls P f us.toArray w fun e w' => ∃ v, e = .returned v ∧ w'.ownsRow w.heap.size T 1 v l.length (l.map Value.string) ∧ Below w.heap.size w w') : Contract P f (us.map D.sc) [.d (.row (l.map strD))] := by
  intro ro w vs τ h1 h2 h3 h4
  rw [args_sc h3 h4]
  refine (h w).mono ?_
  rintro e w' ⟨v, rfl, ho, hb⟩
  exact ⟨v, ro, rfl, grow_below h1.new hb, rep_strs h1.new ho⟩
end
end Go.Vm
end
section
namespace Go.Proofs
open Go.Shelf Go.RowKit Go.Lib
variable {P : Program} {ρ : Ren}
theorem index_byte (c : UInt8) : ∀ l : List UInt8, Lib.index l [c] = Lib.indexByte l c
  | [] => rfl
  | b :: l => by
    have ih := index_byte c l
    unfold Lib.index Lib.indexByte
    rw [ih]
    by_cases e : b = c
    · subst e; simp
    · have e' : ¬ c = b := fun k => e k.symm
      simp [List.isPrefixOf, e, e']
theorem split_byte (L : Lays.n146 P ρ) (hi9 : (P.info? (ρ.t 9)).map (fun i => (i.zero, i.size, i.bytes)) = some (some (.string ByteArray.empty), 1, 16)) (s : ByteArray) (c : UInt8) (w : World) (hs : s.size < 4294967281) :
    Calls P (ρ.f 146) #[.string s, .string ⟨#[c]⟩] w fun e w' =>
      e = .returned (.slice (some ⟨w.heap.size, 0, none⟩) (Lib.countB s ⟨#[c]⟩ + 1) (Lib.countB s ⟨#[c]⟩ + 1)) ∧ w' = w.alloc (.cells ((Lib.splitB ⟨#[c]⟩ 0 (Lib.countB s ⟨#[c]⟩) s).map Value.string).toArray (ρ.t 9)) := by
  have h1 : 1 ≤ (⟨#[c]⟩ : ByteArray).size := Nat.le_refl 1
  have hle := Lib.countB_le ⟨#[c]⟩ h1 s.size s (Nat.le_refl _)
  have hlen := Lib.splitB_all ⟨#[c]⟩ h1 0 _ s rfl
  have core := Any.strings_genSplit_core { L with } hi9 s ⟨#[c]⟩ 0 (-1) (Lib.countB s ⟨#[c]⟩ + 1) w hs h1 (Nat.zero_le _)
    (fun x a hx => (Any.strings_Index_one { L with } x c _).mono (by rintro e w' ⟨rfl, rfl⟩; exact ⟨by rw [← index_byte], rfl⟩))
    ((Any.strings_Count_one { L with } s c w).mono (by rintro e w' ⟨rfl, rfl⟩; exact ⟨by rw [show Lib.countB s ⟨#[c]⟩ = s.data.toList.count c from Lib.count_one c _]; rfl, rfl⟩))
    (by decide) (by decide) (by rw [if_pos (by decide)]; omega)
  rw [Nat.add_sub_cancel, hlen] at core
  have e2 : Lib.cellsOf (Lib.splitB ⟨#[c]⟩ 0 (Lib.countB s ⟨#[c]⟩) s) (Lib.countB s ⟨#[c]⟩ + 1) = ((Lib.splitB ⟨#[c]⟩ 0 (Lib.countB s ⟨#[c]⟩) s).map Value.string).toArray := by rw [← hlen]; exact Lib.cellsOf_full _
  rw [e2] at core
  have t3 := L.t3; have t9 := L.t9; have t31 := L.t31
  have a3 := L.a3; have a9 := L.a9; have a31 := L.a31
  have z3 := L.z3; have v3 := L.v3; have z9 := L.z9; have v9 := L.v9; have z31 := L.z31; have v31 := L.v31
  have e221 : ∀ args w, (callFunc (ρ.f 221) args).run P w = .ok (.enter (ρ.f 221) args) w := enters_of L.f221 (by kernel_rfl) rfl
  go_enter L.f146, Body.n146_ntmps ρ
  go_wp2_with (go_at_fn (ρ.f 221); refine core.mono ?_; rintro e w' ⟨rfl, hw⟩; rw [hw])
  go_ret
  exact ⟨rfl, rfl⟩
end Go.Proofs
namespace Go.Vm
open Go.RowKit Go.Proofs
theorem split1_any (c : UInt8) (s : ByteArray) (hs : s.size ≤ 1000000) : Contract Tryz.prog 222 [.sc (.string s), .sc (.string ⟨#[c]⟩)] [.d (.row ((splitW c s).map strD))] := by
  refine old_strs (us := [.string s, .string ⟨#[c]⟩]) (T := 9) (fun w => ?_)
  refine (split_byte Tryz.laysSplit (by kernel_rfl) s c w (by omega)).mono ?_
  rintro e w' ⟨rfl, rfl⟩
  have hl := Lib.splitB_all ⟨#[c]⟩ (Nat.le_refl 1) 0 _ s rfl
  have hle := Lib.countB_le ⟨#[c]⟩ (Nat.le_refl 1) s.size s (Nat.le_refl _)
  rw [splitW_lib] at hl ⊢
  refine ⟨_, rfl, ?_, ?_⟩
  · have := World.ownsRow_lit (base := w.heap.size) (e := 9) (size := 1) w ((splitW c s).map Value.string).toArray (splitW c s).length (Nat.le_refl _) (by unfold maxLen; omega) (by simp)
    have e : ((splitW c s).map Value.string).toArray.toList = (splitW c s).map Value.string := by simp
    rw [e] at this
    rw [← hl]
    exact this
  · exact (Below.refl _ _).alloc (Nat.le_refl _) _
theorem index1_any (c : UInt8) (s : ByteArray) : Contract Tryz.prog 96 [.sc (.string s), .sc (.string ⟨#[c]⟩)] [.d (.sc (.int .i64 (Lib.index s.data.toList [c])))] := by
  refine old_one (us := [.string s, .string ⟨#[c]⟩]) rfl (fun w => ?_)
  refine (Any.stringslite_Index_one Tryz.laysIndex s c w).mono ?_
  rintro e w' ⟨rfl, rfl⟩
  exact ⟨by rw [index_byte], Below.refl _ _⟩
end Go.Vm
end
section
namespace Go.Vm
open Go.RowKit Go.Proofs
set_option maxRecDepth 10000
open Go.Proofs.YtdfbohaohjaloaaGreatDoor Punnet.Name Punnet.Num
theorem lit_size (l : Array UInt8) : (⟨l⟩ : ByteArray).size = l.size := rfl
theorem sct {a b : ByteArray} (h : a = b) : D.sc (.string a) = D.sc (.string b) := by rw [h]
theorem wd_ix {w : List ByteArray} {n : Int} {i : Nat} (e : n.toNat = i) (h : i < w.length) : (w.map strD)[n.toNat]? = some (strD (wd w i)) := by
  rw [e, List.getElem?_map, List.getElem?_eq_getElem h]
  simp [wd, h]
theorem splitW_pos {c : UInt8} {s : ByteArray} : 0 < (splitW c s).length := List.length_pos_iff.2 (splitW_ne s)
theorem place_sizes {r : RefD} (h : placeB r = true) : r.group.size ≤ 12 ∧ r.name.size ≤ 12 := ⟨(placeB_size h).2.1, (placeB_size h).2.2⟩
theorem fieldPrint_any (r : RefD) : Contract Tryz.prog 134 [rD r] [.d (.sc (.string (if placeB r = true then placeT r else ⟨#[63]⟩)))] := by
 refine T.fn [] Tryz.func134 ?_
 refine x_call T.en_219 (place_any r) ?_
 refine br (fun hc1 => ?y1) (fun hc1 => ?n1)
 case' y1 =>
  have hp : placeB r = false := hc1
 case' n1 =>
  have hp : placeB r = true := hc1
  have hsz := place_sizes hp
  refine br (fun hc2 => ?y2) (fun hc2 => ?n2)
  case' y2 =>
   refine br (fun hc3 => ?y3) (fun hc3 => ?n3)
   case' y3 =>
    refine x_cat ?_ (h := by ((simp only [ByteArray.size_append, lit_size, List.size_toArray, List.length_cons, List.length_nil]; omega)))
    refine x_cat ?_ (h := by ((simp only [ByteArray.size_append, lit_size, List.size_toArray, List.length_cons, List.length_nil]; omega)))
    refine x_cat ?_ (h := by ((simp only [ByteArray.size_append, lit_size, List.size_toArray, List.length_cons, List.length_nil]; omega)))
    refine x_cat ?_ (h := by ((simp only [ByteArray.size_append, lit_size, List.size_toArray, List.length_cons, List.length_nil]; omega)))
   case' n3 =>
    refine x_cat ?_ (h := by ((simp only [ByteArray.size_append, lit_size, List.size_toArray, List.length_cons, List.length_nil]; omega)))
    refine x_cat ?_ (h := by ((simp only [ByteArray.size_append, lit_size, List.size_toArray, List.length_cons, List.length_nil]; omega)))
  case' n2 =>
   refine br (fun hc4 => ?y4) (fun hc4 => ?n4)
   case' y4 =>
    refine x_cat ?_ (h := by ((simp only [ByteArray.size_append, lit_size, List.size_toArray, List.length_cons, List.length_nil]; omega)))
    refine x_cat ?_ (h := by ((simp only [ByteArray.size_append, lit_size, List.size_toArray, List.length_cons, List.length_nil]; omega)))
    refine x_cat ?_ (h := by ((simp only [ByteArray.size_append, lit_size, List.size_toArray, List.length_cons, List.length_nil]; omega)))
    refine x_cat ?_ (h := by ((simp only [ByteArray.size_append, lit_size, List.size_toArray, List.length_cons, List.length_nil]; omega)))
   case' n4 =>
    refine x_cat ?_ (h := by ((simp only [ByteArray.size_append, lit_size, List.size_toArray, List.length_cons, List.length_nil]; omega)))
    refine x_cat ?_ (h := by ((simp only [ByteArray.size_append, lit_size, List.size_toArray, List.length_cons, List.length_nil]; omega)))
 all_goals (refine x_ret ?_; simp only [fitsL, fits, C.asD, and_true] <;> (first | (rw [if_neg (by rw [hp]; decide)]; done) | (rw [if_pos hp]; first | rfl | (refine sct (ba_ext ?_); simp_all [ba_app, placeT, placeL, tagT, printB]; done))))
end Go.Vm
end
section
namespace Go.Proofs.YtdfbohaohjaloaaGreatDoor
set_option maxRecDepth 10000
open Go.RowKit Punnet.Num
theorem piece_any (s : ByteArray) (w : World) (hs : s.size ≤ maxLen) :
    Calls Tryz.prog 51 #[.string s] w fun e w' => e = .returned (.int .i64 (pieceLen s.data.toList)) ∧ Below w.heap.size w w' := by
  unfold maxLen at hs
  go_enter Tryz.func51, Tryz.ntmps51
  go_wp2
  go_loopw [3, 4] (fun e d wr => ∃ k D E : Nat, wr = w.iter s k ∧ k ≤ s.size ∧ d = .int .i64 D ∧ e = .int .i64 E ∧ D ≤ k ∧ PieceInv s.data.toList k D E) (fun _ _ wr => s.size - wr.iterPos w.heap.size)
  case atStart => exact ⟨0, 0, 0, rfl, Nat.zero_le _, rfl, rfl, Nat.le_refl _, PieceInv.start _⟩
  case round =>
    obtain ⟨k, D, E, rfl, hk, rfl, rfl, hD, hi⟩ := hrel
    have HI := Lib.hid hi
    clear hi
    have hiter : ∀ p, Below w.heap.size w (w.iter s p) := fun p => (Below.refl _ _).alloc (Nat.le_refl _) _
    by_cases hlt : k < s.size
    · have hg := get_list s k hlt
      have hll : k < s.data.toList.length := by simpa using hlt
      by_cases hm : k = 0 ∧ s[k].toNat = 45
      · obtain ⟨rfl, hm⟩ := hm
        have HS := Lib.hid (PieceInv.skip HI.out hll (by rw [hg]; exact hm))
        have hnx := fun ty => run_next_ascii (P := Tryz.prog) w s 0 ty hlt (by omega)
        have hm' : ((s[0].toNat : Int) == 45) = true := by rw [hm]; rfl
        clear hm hg
        go_wp2
        go_roundw
        case rel => exact ⟨1, D, E, rfl, by omega, rfl, rfl, by omega, HS.out⟩
        case measure => simp; omega
      · by_cases hd : 48 ≤ s[k].toNat ∧ s[k].toNat ≤ 57
        · obtain ⟨hd1, hd2⟩ := hd
          have HS := Lib.hid (PieceInv.more HI.out hll (by rw [hg]; exact hd1) (by rw [hg]; exact hd2))
          have hnx := fun ty => run_next_ascii (P := Tryz.prog) w s k ty hlt (by omega)
          generalize s[k].toNat = b at *
          have hm' : ((b : Int) == 45) = false := by simp; omega
          clear hm hg
          by_cases hk0 : k = 0
          · subst hk0
            go_wp2
            go_roundw
            case rel => exact ⟨1, D + 1, 1, rfl, by omega, by go_num, rfl, by omega, HS.out⟩
            case measure => simp; omega
          · have hk0' : ((k : Int) == 0) = false := by simp; omega
            go_wp2
            go_roundw
            case rel => exact ⟨k + 1, D + 1, k + 1, rfl, by omega, by go_num, by go_num, by omega, HS.out⟩
            case measure => simp; omega
        · have HS := Lib.hid (PieceInv.stop HI.out (fun h => by rw [hg]; exact ⟨hd, hm⟩))
          obtain ⟨r, p, hnx, hr⟩ : ∃ (r : Int) (p : Nat), (∀ ty, (Instr.next (.pointer (some ⟨w.heap.size, 0, none⟩)) true ty).run Tryz.prog (w.iter s k) = .ok (.tuple #[.bool true, .int .i64 k, .int .i32 r]) (w.iter s p)) ∧ (r < 48 ∨ 57 < r) ∧ ¬ (k = 0 ∧ r = 45) := by
            by_cases ha : s[k].toNat < 128
            · exact ⟨_, _, fun ty => run_next_ascii (P := Tryz.prog) w s k ty hlt ha, by omega, by omega⟩
            · have := decode_high s k hlt (by omega)
              exact ⟨_, _, fun ty => run_next_any (P := Tryz.prog) w s k ty hlt, by omega, by omega⟩
          obtain ⟨hr, hr2⟩ := hr
          clear hg hd hm
          have key : (k = 0 ∧ (r == 45) = false) ∨ ((k : Int) == 0) = false := by
            by_cases hk0 : k = 0
            · exact .inl ⟨hk0, by simp; omega⟩
            · exact .inr (by simp; omega)
          by_cases hD0 : D = 0
          · subst hD0
            rcases key with ⟨rfl, hr45⟩ | hk0
            all_goals
              rcases hr with hr | hr
              all_goals
                go_wp2
                go_ret
                exact ⟨ret_i64 (by rw [HS.out]; rfl), hiter _⟩
          · have hD0' : ((D : Int) == 0) = false := by simp; omega
            rcases key with ⟨rfl, hr45⟩ | hk0
            · exact absurd hD (by omega)
            rcases hr with hr | hr
            all_goals
              go_wp2
              go_ret
              exact ⟨ret_i64 (by rw [HS.out, if_neg hD0]), hiter _⟩
    · have HS := Lib.hid (PieceInv.stop HI.out (fun h => absurd h (by simp; omega)))
      have hnx := fun ty => run_next_end (P := Tryz.prog) w s k ty hlt
      by_cases hD0 : D = 0
      · subst hD0
        go_wp2
        go_ret
        exact ⟨ret_i64 (by rw [HS.out]; rfl), hiter _⟩
      · have hD0' : ((D : Int) == 0) = false := by simp; omega
        go_wp2
        go_ret
        exact ⟨ret_i64 (by rw [HS.out, if_neg hD0]), hiter _⟩
end Go.Proofs.YtdfbohaohjaloaaGreatDoor
end
section
namespace Go.Proofs.YtdfbohaohjaloaaGreatDoor
set_option maxRecDepth 10000
open Go.RowKit Punnet.Num
theorem valueOf_pos {s : ByteArray} (h0 : 0 < s.size) (hb : s[0].toNat ≠ 45) : valueOf s.data.toList = if s[0].toNat = 48 ∧ 1 < s.size then (0, 4) else if 9223372036854775807 < natOf s.data.toList then (0, 3) else ((natOf s.data.toList : Int), 0) := by
  have hl : 0 < s.data.toList.length := by simpa using h0
  have hn : neg s.data.toList = 0 := neg_of_dig hl (by rw [get_list s 0 h0]; exact hb)
  have hh : s.data.toList.head? = some s[0] := by
    rw [List.head?_eq_getElem?, List.getElem?_eq_getElem hl, get_list s 0 h0]
  have e : (s[0] = 48) ↔ s[0].toNat = 48 := by rw [← UInt8.toNat_inj]; rfl
  have hsz : s.data.toList.length = s.size := by simp
  simp only [valueOf, hn, List.drop_zero, hh, Option.some.injEq, e, hsz, Nat.zero_ne_one, false_or, if_false]
theorem valueOf_neg {s : ByteArray} (h0 : 1 < s.size) (hb : s[0].toNat = 45) : valueOf s.data.toList = if s[1].toNat = 48 then (0, 4) else if 9223372036854775808 < natOf (s.extract 1 s.size).data.toList then (0, 3) else (-(natOf (s.extract 1 s.size).data.toList : Int), 0) := by
  have hl : 1 < s.data.toList.length := by simpa using h0
  have hn : neg s.data.toList = 1 := neg_of_minus (by omega) (by rw [get_list s 0 (by omega)]; exact hb)
  have hd : (s.extract 1 s.size).data.toList = s.data.toList.drop 1 := Lib.extract_to_end s 1
  have hh : (s.data.toList.drop 1).head? = some s[1] := by
    rw [List.head?_eq_getElem?, List.getElem?_drop, List.getElem?_eq_getElem hl, get_list s 1 h0]
  have e : (s[1] = 48) ↔ s[1].toNat = 48 := by rw [← UInt8.toNat_inj]; rfl
  simp only [valueOf, hn, hd, hh, Option.some.injEq, e, true_or, and_true, if_true]
theorem neg_sum (S : Nat) (h : S ≤ 9223372036854775808) : wrap64 (wrap64 (-wrap64 (IntKind.u64.wrap ((S : Int) - 1))) - 1) = -(S : Int) := by
  simp only [wrap64, IntKind.wrap_u64]
  omega
theorem value_pos (s : ByteArray) (w : World) (hs : s.size ≤ maxLen) (h0 : 0 < s.size) (hd : ∀ k (h : k < s.size), 48 ≤ s[k].toNat ∧ s[k].toNat ≤ 57) :
    Calls Tryz.prog 52 #[.string s] w fun e w' => e = .returned (.tuple #[.int .i64 (valueOf s.data.toList).1, .int .i64 (valueOf s.data.toList).2]) ∧ Below w.heap.size w w' := by
  unfold maxLen at hs
  have H0 := hd 0 h0
  have HV := Lib.hid (valueOf_pos h0 (by omega))
  have b45 : ((s[0].toNat : Int) == 45) = false := by simp; omega
  have HD := Lib.hid hd
  clear hd
  have h0' : (0 : Int) < s.size := by omega
  by_cases hz : s[0].toNat = 48 ∧ 1 < s.size
  · have HV' := Lib.hid (HV.out.trans (if_pos hz))
    obtain ⟨hz, h1⟩ := hz
    have b48 : ((s[0].toNat : Int) == 48) = true := by simp; omega
    have h1' : (1 : Int) < s.size := by omega
    clear hz
    go_enter Tryz.func52, Tryz.ntmps52
    go_wp2
    go_ret2
    exact ⟨ret2_i64 (by rw [HV'.out]), Below.refl _ _⟩
  · have HV' := Lib.hid (HV.out.trans (if_neg hz))
    have key : ((s[0].toNat : Int) == 48) = false ∨ (((s[0].toNat : Int) == 48) = true ∧ (s.size : Int) ≤ 1) := by
      by_cases e : s[0].toNat = 48
      · exact .inr ⟨by simp; omega, by omega⟩
      · exact .inl (by simp; omega)
    clear hz HV
    have hiter : ∀ p, Below w.heap.size w (w.iter s p) := fun p => (Below.refl _ _).alloc (Nat.le_refl _) _
    rcases key with b48 | ⟨b48, h1⟩
    all_goals
      go_enter Tryz.func52, Tryz.ntmps52
      go_wp2
      go_loopw [7] (fun v wr => ∃ k S : Nat, wr = w.iter s k ∧ k ≤ s.size ∧ v = .int .u64 S ∧ S ≤ 9223372036854775807 ∧ S = natOf (s.data.toList.take k)) (fun _ wr => s.size - wr.iterPos w.heap.size)
      case atStart => exact ⟨0, 0, rfl, Nat.zero_le _, rfl, by omega, rfl⟩
      case round =>
        obtain ⟨k, S, rfl, hk, rfl, hS, hn⟩ := hrel
        by_cases hlt : k < s.size
        · have hg := get_list s k hlt
          have hll : k < s.data.toList.length := by simpa using hlt
          have HT := Lib.hid (natOf_take_succ hll)
          have hdk := HD.out k hlt
          have hnx := fun ty => run_next_ascii (P := Tryz.prog) w s k ty hlt (by omega)
          rw [hg, ← hn] at HT
          have HN := Lib.hid hn
          clear hg hn
          generalize s[k].toNat = b at *
          by_cases hov : 10 * S + (b - 48) ≤ 9223372036854775807
          · have hov' : (S : Int) ≤ (9223372036854775807 - ((b : Int) - 48)) / 10 := by omega
            go_wp2
            go_roundw
            case rel => exact ⟨k + 1, 10 * S + (b - 48), rfl, by omega, by go_num, by omega, HT.out.symm⟩
            case measure => simp; omega
          · have hov' : (9223372036854775807 - ((b : Int) - 48)) / 10 < (S : Int) := by omega
            have HV2 := Lib.hid (HV'.out.trans (if_pos (by have := natOf_take_le s.data.toList (k + 1); have := HT.out; omega)))
            go_wp2
            go_ret2
            exact ⟨ret2_i64 (by rw [HV2.out]), hiter _⟩
        · have HN := Lib.hid hn
          have HV2 := Lib.hid (HV'.out.trans (if_neg (by rw [hn] at hS; rw [List.take_of_length_le (by simp; omega)] at hS; omega)))
          clear hn
          have hnx := fun ty => run_next_end (P := Tryz.prog) w s k ty hlt
          go_wp2
          go_ret2
          exact ⟨ret2_i64 (by rw [HV2.out, HN.out, List.take_of_length_le (by simp; omega)]), hiter _⟩
theorem value_neg (s : ByteArray) (w : World) (hs : s.size ≤ maxLen) (h0 : 1 < s.size) (hb : s[0].toNat = 45) (hd : ∀ k (h : k < s.size), 0 < k → 48 ≤ s[k].toNat ∧ s[k].toNat ≤ 57) :
    Calls Tryz.prog 52 #[.string s] w fun e w' => e = .returned (.tuple #[.int .i64 (valueOf s.data.toList).1, .int .i64 (valueOf s.data.toList).2]) ∧ Below w.heap.size w w' := by
  unfold maxLen at hs
  have hv := valueOf_neg h0 hb
  have b45 : ((s[0].toNat : Int) == 45) = true := by simp; omega
  obtain ⟨t, ht⟩ : ∃ t, s.extract 1 s.size = t := ⟨_, rfl⟩
  have hts : t.size = s.size - 1 := by rw [← ht]; simp
  have htg : ∀ k (h : k < t.size), t[k] = s[1 + k] := by subst ht; intro k h; rw [ByteArray.getElem_extract]
  rw [ht] at hv
  have t0 : 0 < t.size := by omega
  rw [← htg 0 t0] at hv
  have HV := Lib.hid hv
  have hdt : ∀ k (h : k < t.size), 48 ≤ t[k].toNat ∧ t[k].toNat ≤ 57 := fun k h => by rw [htg k h]; exact hd _ _ (by omega)
  have HD := Lib.hid hdt
  have h0' : (0 : Int) < s.size := by omega
  have h1' : (1 : Int) ≤ s.size := by omega
  have t0' : (0 : Int) < t.size := by omega
  have tm : t.size ≤ 9223372036854775807 := by omega
  clear hd hb hv hts htg hdt
  by_cases hz : t[0].toNat = 48
  · have HV' := Lib.hid (HV.out.trans (if_pos hz))
    have b48 : ((t[0].toNat : Int) == 48) = true := by simp; omega
    clear hz
    go_enter Tryz.func52, Tryz.ntmps52
    go_wp2
    go_ret2
    exact ⟨ret2_i64 (by rw [HV'.out]), Below.refl _ _⟩
  · have HV' := Lib.hid (HV.out.trans (if_neg hz))
    have b48 : ((t[0].toNat : Int) == 48) = false := by simp; omega
    clear hz HV
    have hiter : ∀ p, Below w.heap.size w (w.iter t p) := fun p => (Below.refl _ _).alloc (Nat.le_refl _) _
    go_enter Tryz.func52, Tryz.ntmps52
    go_wp2
    go_loopw [7] (fun v wr => ∃ k S : Nat, wr = w.iter t k ∧ k ≤ t.size ∧ v = .int .u64 S ∧ S ≤ 9223372036854775808 ∧ S = natOf (t.data.toList.take k)) (fun _ wr => t.size - wr.iterPos w.heap.size)
    case atStart => exact ⟨0, 0, rfl, Nat.zero_le _, rfl, by omega, rfl⟩
    case round =>
      obtain ⟨k, S, rfl, hk, rfl, hS, hn⟩ := hrel
      by_cases hlt : k < t.size
      · have hg := get_list t k hlt
        have hll : k < t.data.toList.length := by simpa using hlt
        have HT := Lib.hid (natOf_take_succ hll)
        have hdk := HD.out k hlt
        have hnx := fun ty => run_next_ascii (P := Tryz.prog) w t k ty hlt (by omega)
        rw [hg, ← hn] at HT
        have HN := Lib.hid hn
        clear hg hn ht
        generalize t[k].toNat = b at *
        by_cases hov : 10 * S + (b - 48) ≤ 9223372036854775808
        · have hov' : (S : Int) ≤ (9223372036854775808 - ((b : Int) - 48)) / 10 := by omega
          go_wp2
          go_roundw
          case rel => exact ⟨k + 1, 10 * S + (b - 48), rfl, by omega, by go_num, by omega, HT.out.symm⟩
          case measure => simp; omega
        · have hov' : (9223372036854775808 - ((b : Int) - 48)) / 10 < (S : Int) := by omega
          have HV2 := Lib.hid (HV'.out.trans (if_pos (by have := natOf_take_le t.data.toList (k + 1); have := HT.out; omega)))
          go_wp2
          go_ret2
          exact ⟨ret2_i64 (by rw [HV2.out]), hiter _⟩
      · have HN := Lib.hid hn
        have HV2 := Lib.hid (HV'.out.trans (if_neg (by rw [hn] at hS; rw [List.take_of_length_le (by simp; omega)] at hS; omega)))
        clear hn ht
        have hnx := fun ty => run_next_end (P := Tryz.prog) w t k ty hlt
        go_wp2
        go_ret2
        refine ⟨ret2_i64 ?_, hiter _⟩
        rw [HV2.out, ← List.take_of_length_le (l := t.data.toList) (i := k) (by simp; omega), ← HN.out]
        rw [neg_sum S hS]
theorem piece_whole {s : ByteArray} (h0 : 0 < s.size) (hp : pieceLen s.data.toList = s.size) :
    (s[0].toNat ≠ 45 ∧ ∀ k (h : k < s.size), 48 ≤ s[k].toNat ∧ s[k].toNat ≤ 57) ∨ (s[0].toNat = 45 ∧ 1 < s.size ∧ ∀ k (h : k < s.size), 0 < k → 48 ≤ s[k].toNat ∧ s[k].toNat ≤ 57) := by
  have hl : 0 < s.data.toList.length := by simpa using h0
  have hall : ∀ k (h : k < s.size), neg s.data.toList ≤ k → 48 ≤ s[k].toNat ∧ s[k].toNat ≤ 57 := by
    intro k h hk
    have := piece_digs (l := s.data.toList) (by simpa using hp) hl k (by simpa using h) hk
    rw [get_list s k h] at this
    simpa [dig] using this
  by_cases hb : s[0].toNat = 45
  · have hn : neg s.data.toList = 1 := neg_of_minus hl (by rw [get_list s 0 h0]; exact hb)
    refine .inr ⟨hb, ?_, fun k h hk => hall k h (by omega)⟩
    have := piece_gt (l := s.data.toList) (by simpa using hp) hl
    rw [hn] at this
    simpa using this
  · have hn : neg s.data.toList = 0 := neg_of_dig hl (by rw [get_list s 0 h0]; exact hb)
    exact .inl ⟨hb, fun k h => hall k h (by omega)⟩
theorem value_any (s : ByteArray) (w : World) (hs : s.size ≤ maxLen) (h0 : 0 < s.size) (hp : pieceLen s.data.toList = s.size) :
    Calls Tryz.prog 52 #[.string s] w fun e w' => e = .returned (.tuple #[.int .i64 (valueOf s.data.toList).1, .int .i64 (valueOf s.data.toList).2]) ∧ Below w.heap.size w w' := by
  rcases piece_whole h0 hp with ⟨_, hd⟩ | ⟨hb, h1, hd⟩
  · exact value_pos s w hs h0 hd
  · exact value_neg s w hs h1 hb hd
end Go.Proofs.YtdfbohaohjaloaaGreatDoor
end
section
namespace Go.Proofs.YtdfbohaohjaloaaGreatDoor
set_option maxRecDepth 10000
open Go.RowKit Punnet.Num
set_option maxHeartbeats 400000 in
theorem read_any (s : ByteArray) (w : World) (hs : s.size ≤ maxLen) :
    Calls Tryz.prog 23 #[.string s] w fun e w' => e = .returned (.tuple #[.int .i64 (readOf s.data.toList).1, .int .i64 (readOf s.data.toList).2]) ∧ Below w.heap.size w w' := by
  have hlen : s.data.toList.length = s.size := by simp
  have HP := Lib.hid (piece_any s w hs)
  have HR := Lib.hid (show readOf s.data.toList = if pieceLen s.data.toList = 0 ∨ pieceLen s.data.toList ≠ s.size then (0, 4) else valueOf s.data.toList by rw [readOf, hlen])
  have HA := Lib.hid (fun w1 => value_any s w1 hs)
  have hm : s.size ≤ 9223372036854775807 := by unfold maxLen at hs; omega
  have hle : pieceLen s.data.toList ≤ s.size := by rw [← hlen]; exact pieceLen_le _
  clear hlen hs
  generalize readOf s.data.toList = R at *
  generalize hv : valueOf s.data.toList = v at *
  have HV := Lib.hid hv
  clear hv
  generalize hp : pieceLen s.data.toList = p at *
  have HPE := Lib.hid hp
  clear hp
  by_cases h0 : p = 0
  · have HR' := Lib.hid (HR.out.trans (if_pos (.inl h0)))
    subst h0
    go_enter Tryz.func23, Tryz.ntmps23
    go_wp2_with (go_at_call 51; refine HP.out.mono ?_; rintro e w1 ⟨rfl, hb1⟩)
    go_ret2
    exact ⟨ret2_i64 (by rw [HR'.out]), hb1⟩
  · have b0 : ((p : Int) == 0) = false := by simp; omega
    by_cases h1 : p = s.size
    · have HR' := Lib.hid (HR.out.trans (if_neg (by omega)))
      have b1 : ((p : Int) != (s.size : Int)) = false := by simp; omega
      have H0 : 0 < s.size := by omega
      have HA' := Lib.hid (fun w1 => HA.out w1 H0 h1)
      clear h1 HA
      go_enter Tryz.func23, Tryz.ntmps23
      go_wp2_with (first | (go_at_call 51; refine HP.out.mono ?_; rintro e w1 ⟨rfl, hb1⟩) | (go_at_call 52; refine (HA'.out _).mono ?_; rintro e w2 ⟨rfl, hb2⟩))
      go_ret2
      exact ⟨ret2_i64 (by rw [HR'.out]), below_two hb1 hb2⟩
    · have HR' := Lib.hid (HR.out.trans (if_pos (.inr h1)))
      have b1 : ((p : Int) != (s.size : Int)) = true := by simp; omega
      clear h1
      go_enter Tryz.func23, Tryz.ntmps23
      go_wp2_with (go_at_call 51; refine HP.out.mono ?_; rintro e w1 ⟨rfl, hb1⟩)
      go_ret2
      exact ⟨ret2_i64 (by rw [HR'.out]), hb1⟩
end Go.Proofs.YtdfbohaohjaloaaGreatDoor
end
section
namespace Go.Proofs.YtdfbohaohjaloaaGreatDoor
set_option maxRecDepth 10000
open Go.RowKit Punnet.Num
def PrintJ (n : Int) (m : Nat) (w : World) (a' : Act) (w' : World) : Prop :=
  ∃ (left k : Nat) (tail : List UInt8) (A : Array Value) (u6 u7 u8 u9 u10 u11 u12 u13 u14 u15 u16 u17 u18 u19 u20 u21 u22 u23 : Value),
    a' = { tmps := #[.int .i64 n, undef, .string ⟨#[]⟩, .pointer (some ⟨w.heap.size, 0, none⟩), .int .i64 ((k : Int) + 1 + 1), .int .u64 (left : Int), u6, u7, u8, u9, u10, u11, u12, u13, u14, u15, u16, u17, u18, u19, u20, u21, u22, u23, undef, undef, undef, undef, undef, undef, undef, undef, undef], defers := [] } ∧
    w' = w.alloc (.cells A 107) ∧ A.size = 20 ∧ k + 2 + tail.length = 20 ∧ (∀ j (h : j < tail.length), A[k + 2 + j]? = some (.int .u8 (tail[j].toNat : Int))) ∧
    left < 10 ^ (k + 1) ∧ left < 18446744073709551616 ∧ digs m = digs left ++ tail
theorem tail_step {A : Array Value} {tail : List UInt8} {k : Nat} (hA : A.size = 20) (hk : k + 1 + tail.length = 20) (hc : ∀ j (h : j < tail.length), A[k + 1 + j]? = some (.int .u8 (tail[j].toNat : Int)))
    (d : UInt8) (n : Int) (hn : n = d.toNat) :
    ∀ j (h : j < (d :: tail).length), (A.setIfInBounds k (.int .u8 n))[k + j]? = some (.int .u8 ((d :: tail)[j].toNat : Int)) := by
  intro j h
  cases j with
  | zero =>
    have : k < A.size := by omega
    simp [hn, this]
  | succ j =>
    have h' : j < tail.length := by simpa using h
    rw [Array.getElem?_setIfInBounds, if_neg (by omega), show k + (j + 1) = k + 1 + j by omega, hc j h']
    rfl
theorem digit_nat (m : Nat) : (48 + (m : Int) % 10) = ((UInt8.ofNat (48 + m % 10)).toNat : Int) := by
  rw [UInt8.toNat_ofNat']
  omega
theorem slice_text (b : Nat) (W : World) (z : Int) (k : Nat) (hz : z = k) (hk : k < 20) (n : Nat) (hn : n = 20 - k) :
    (Instr.sliceAt 107 (.pointer (some ⟨b, 0, none⟩)) (some (.int .i64 z)) none none).run Tryz.prog W = .ok (.slice (some ⟨b, k, none⟩) n n) W := by
  subst hz hn
  have h : Tryz.prog.arrayLen 107 = 20 := by kernel_rfl
  have hs : ∀ w, (Go.sizeOf (Tryz.prog.elem 107)).run Tryz.prog w = .ok 1 w := fun _ => by kernel_rfl
  have ht : Tryz.prog.underlying 107 = some (.array (Tryz.prog.arrayLen 107) (Tryz.prog.elem 107)) := by kernel_rfl
  rw [run_sliceAt_array_l W _ _ ht .i64 k (by omega) (by omega), hs, h]
  have e : (⟨b, 0, none⟩ : Addr).add k = ⟨b, k, none⟩ := by unfold Addr.add; split <;> simp_all
  simp only [Result.andThen_ok, slicedAt, Int.toNat_natCast, Nat.mul_one, e]
  rw [if_neg (by omega)]
theorem conv_text (w : World) (A : Array Value) (l : List UInt8) (k n : Nat) (hn : n = l.length) (hc : ∀ j (h : j < l.length), A[k + j]? = some (.int .u8 (l[j].toNat : Int))) :
    (convert 109 9 (.slice (some ⟨w.heap.size, k, none⟩) n n)).run Tryz.prog (w.alloc (.cells A 107)) = .ok (.string ⟨l.toArray⟩) (w.alloc (.cells A 107)) := by
  subst hn
  refine run_convert_bytes_back _ 109 9 5 _ _ l Tryz.underlying109 Tryz.underlying5 Tryz.underlying9 fun j hj => ?_
  have e : (⟨w.heap.size, k, none⟩ : Addr).add j = ⟨w.heap.size, k + j, none⟩ := by unfold Addr.add; split <;> simp_all
  rw [← hc j hj, e, World.cell?_alloc_new]
theorem print_next {n : Int} {m left k : Nat} {tail : List UInt8} {A : Array Value} (w : World) (hl64 : left < 18446744073709551616) (h10 : ¬ left < 10) (hA : A.size = 20) (hk : k + 2 + tail.length = 20)
    (hc : ∀ j (h : j < (UInt8.ofNat (48 + left % 10) :: tail).length), (A.setIfInBounds (k + 1) (.int .u8 (48 + (left : Int) % 10)))[k + 1 + j]? = some (.int .u8 ((UInt8.ofNat (48 + left % 10) :: tail)[j].toNat : Int)))
    (hl : left < 10 ^ (k + 1)) (hd : digs m = digs left ++ tail) {u6 u7 u8 u9 u10 u11 u12 u13 u14 u15 u16 u17 u18 u19 u20 u21 u22 u23 : Value} :
    PrintJ n m w { tmps := #[.int .i64 n, undef, .string ⟨#[]⟩, .pointer (some ⟨w.heap.size, 0, none⟩), .int .i64 ((k : Int) + 1), .int .u64 ((left : Int) / 10), u6, u7, u8, u9, u10, u11, u12, u13, u14, u15, u16, u17, u18, u19, u20, u21, u22, u23, undef, undef, undef, undef, undef, undef, undef, undef, undef], defers := [] } (w.alloc (.cells (A.setIfInBounds (k + 1) (.int .u8 (48 + (left : Int) % 10))) 107)) := by
  have hk1 : 1 ≤ k := by
    rcases Nat.eq_zero_or_pos k with rfl | h
    · simp at hl; omega
    · exact h
  obtain ⟨j, rfl⟩ : ∃ j, k = j + 1 := ⟨k - 1, by omega⟩
  refine ⟨left / 10, j, UInt8.ofNat (48 + left % 10) :: tail, _, u6, u7, u8, u9, u10, u11, u12, u13, u14, u15, u16, u17, u18, u19, u20, u21, u22, u23, rfl, rfl, by simpa using hA, by simp; omega, hc, ?_, by omega, ?_⟩
  · rw [Nat.div_lt_iff_lt_mul (by omega)]; exact hl
  · rw [hd, digs_step h10]; simp
set_option maxHeartbeats 400000 in
theorem print_neg (n : Int) (w : World) (h0 : n < 0) (h1 : -9223372036854775808 ≤ n) :
    Calls Tryz.prog 24 #[.int .i64 n] w fun e w' => e = .returned (.string ⟨(print n).toArray⟩) ∧ Below w.heap.size w w' := by
  have hwr : IntKind.u64.wrap (-IntKind.u64.wrap n) = (n.natAbs : Int) := by simp only [IntKind.wrap_u64]; omega
  go_enter Tryz.func24, Tryz.ntmps24
  go_wp2
  refine wp_scope_falls 0 (PrintJ n n.natAbs w) (fun a' _ => (intOf (a'.tmps.getD 5 undef)).toNat) rfl ?_ ?_
  · rintro a' w' ⟨left, k, tail, A, u6, u7, u8, u9, u10, u11, u12, u13, u14, u15, u16, u17, u18, u19, u20, u21, u22, u23, rfl, rfl, hA, hk, hc, hl, hl64, hd⟩
    clear hwr
    have hk20 : k < 19 := by omega
    have hts := tail_step (k := k + 1) hA hk hc (UInt8.ofNat (48 + left % 10)) _ (digit_nat left)
    obtain ⟨v0, hv0⟩ : ∃ v, A[k + 1]? = some v := ⟨_, Array.getElem?_eq_getElem (by omega)⟩
    by_cases h10 : left < 10
    · have h10' : (left : Int) / 10 = 0 := by omega
      obtain ⟨v1, hv1⟩ : ∃ v, (A.setIfInBounds (k + 1) (Value.int IntKind.u8 (48 + ↑left % 10)))[k]? = some v := ⟨_, Array.getElem?_eq_getElem (by simp; omega)⟩
      have hts2 := tail_step (k := k) (A := A.setIfInBounds (k + 1) (Value.int IntKind.u8 (48 + ↑left % 10))) (by simp [hA]) (by simp; omega) hts 45 45 rfl
      obtain ⟨N, hN⟩ : ∃ N, N = 20 - k := ⟨_, rfl⟩
      have hsl := fun b W => slice_text b W k k rfl (by omega) N hN
      have hcv := conv_text w _ _ k N (by simp; omega) hts2
      clear hN
      have HD := Lib.hid (show print n = 45 :: UInt8.ofNat (48 + left % 10) :: tail by
        rw [print, if_pos h0, hd, digs_small h10, Nat.mod_eq_of_lt h10]; rfl)
      clear hA hk hc hl hd hts hts2
      generalize (45 :: UInt8.ofNat (48 + left % 10) :: tail) = L at hcv HD
      go_wp2
      simp only [Exit.jump]
      go_ret
      refine ⟨by rw [HD.out]; rfl, (Below.refl _ _).alloc (Nat.le_refl _) _⟩
    · have h10' : 0 < (left : Int) / 10 := by omega
      have HA := Lib.hid hA
      have HK := Lib.hid hk
      have HC := Lib.hid hts
      have HLE := Lib.hid hl
      have HD := Lib.hid hd
      clear hA hk hc hl hd hts
      go_wp2
      go_step3
      refine ⟨rfl, ?_, ?_⟩
      · exact print_next w (by omega) h10 HA.out HK.out HC.out HLE.out HD.out
      · simp [intOf]
        omega
  intro HL
  go_wp2
  go_step3
  refine (‹∀ (a : Act) (w : World), Code.wp _ _ _ a w → _› : _) _ _ (HL.out _ _ ?_)
  have hdv : (n.natAbs) < 10 ^ 19 := by
    have : n.natAbs ≤ 9223372036854775808 := by omega
    exact Nat.lt_of_le_of_lt this (by decide)
  exact ⟨n.natAbs, 18, [], _, _, _, _, _, _, _, _, _, _, _, _, _, _, _, _, _, _, _, rfl, rfl, rfl, rfl, fun j h => absurd h (by simp), hdv, by omega, by simp⟩
set_option maxHeartbeats 400000 in
theorem print_pos (n : Int) (w : World) (h0 : ¬ n < 0) (h1 : n ≤ 9223372036854775807) :
    Calls Tryz.prog 24 #[.int .i64 n] w fun e w' => e = .returned (.string ⟨(print n).toArray⟩) ∧ Below w.heap.size w w' := by
  have hwr : IntKind.u64.wrap n = (n.natAbs : Int) := by simp only [IntKind.wrap_u64]; omega
  go_enter Tryz.func24, Tryz.ntmps24
  go_wp2
  refine wp_scope_falls 0 (PrintJ n n.natAbs w) (fun a' _ => (intOf (a'.tmps.getD 5 undef)).toNat) rfl ?_ ?_
  · rintro a' w' ⟨left, k, tail, A, u6, u7, u8, u9, u10, u11, u12, u13, u14, u15, u16, u17, u18, u19, u20, u21, u22, u23, rfl, rfl, hA, hk, hc, hl, hl64, hd⟩
    clear hwr
    have hk20 : k < 19 := by omega
    have hts := tail_step (k := k + 1) hA hk hc (UInt8.ofNat (48 + left % 10)) _ (digit_nat left)
    obtain ⟨v0, hv0⟩ : ∃ v, A[k + 1]? = some v := ⟨_, Array.getElem?_eq_getElem (by omega)⟩
    by_cases h10 : left < 10
    · have h10' : (left : Int) / 10 = 0 := by omega
      obtain ⟨N, hN⟩ : ∃ N, N = 20 - (k + 1) := ⟨_, rfl⟩
      have hsl := fun b W => slice_text b W ((k : Int) + 1) (k + 1) rfl (by omega) N hN
      have hcv := conv_text w _ _ (k + 1) N (by simp; omega) hts
      clear hN
      have HD := Lib.hid (show print n = UInt8.ofNat (48 + left % 10) :: tail by
        rw [print, if_neg (by omega), hd, digs_small h10, Nat.mod_eq_of_lt h10]; rfl)
      clear hA hk hc hl hd hts
      generalize (UInt8.ofNat (48 + left % 10) :: tail) = L at hcv HD
      go_wp2
      simp only [Exit.jump]
      go_ret
      refine ⟨by rw [HD.out]; rfl, (Below.refl _ _).alloc (Nat.le_refl _) _⟩
    · have h10' : 0 < (left : Int) / 10 := by omega
      have HA := Lib.hid hA
      have HK := Lib.hid hk
      have HC := Lib.hid hts
      have HLE := Lib.hid hl
      have HD := Lib.hid hd
      clear hA hk hc hl hd hts
      go_wp2
      go_step3
      refine ⟨rfl, ?_, ?_⟩
      · exact print_next w (by omega) h10 HA.out HK.out HC.out HLE.out HD.out
      · simp [intOf]
        omega
  intro HL
  go_wp2
  go_step3
  refine (‹∀ (a : Act) (w : World), Code.wp _ _ _ a w → _› : _) _ _ (HL.out _ _ ?_)
  have hdv : (n.natAbs) < 10 ^ 19 := by
    have : n.natAbs ≤ 9223372036854775808 := by omega
    exact Nat.lt_of_le_of_lt this (by decide)
  exact ⟨n.natAbs, 18, [], _, _, _, _, _, _, _, _, _, _, _, _, _, _, _, _, _, _, _, rfl, rfl, rfl, rfl, fun j h => absurd h (by simp), hdv, by omega, by simp⟩
theorem print_any (n : Int) (w : World) (h0 : -9223372036854775808 ≤ n) (h1 : n ≤ 9223372036854775807) :
    Calls Tryz.prog 24 #[.int .i64 n] w fun e w' => e = .returned (.string (printB n)) ∧ Below w.heap.size w w' := by
  by_cases h : n < 0
  · exact print_neg n w h h0
  · exact print_pos n w h h1
end Go.Proofs.YtdfbohaohjaloaaGreatDoor
end
section
namespace Go.Proofs.YtdfbohaohjaloaaGreatDoor
set_option maxRecDepth 10000
open Go.RowKit Punnet.Num
theorem conv_one (W : World) (d : UInt8) (z : Int) (hz : z = d.toNat) (t : TypeId) :
    (convert 109 9 (.slice (some ⟨W.heap.size, 0, none⟩) 1 1)).run Tryz.prog (W.alloc (.cells #[.int .u8 z] t)) = .ok (.string ⟨#[d]⟩) (W.alloc (.cells #[.int .u8 z] t)) := by
  subst hz
  refine run_convert_bytes_back _ 109 9 5 _ _ [d] Tryz.underlying109 Tryz.underlying5 Tryz.underlying9 fun j hj => ?_
  obtain rfl : j = 0 := by simpa using hj
  exact World.cell?_alloc_new _ _ _ _
theorem digit_nat' (m : Nat) : (48 + (m : Int) % 10) = ((UInt8.ofNat (48 + m % 10)).toNat : Int) := by
  rw [UInt8.toNat_ofNat']
  omega
theorem abs_lt {n : Int} (h0 : -9223372036854775808 ≤ n) (h1 : n ≤ 9223372036854775807) : n.natAbs < 10 ^ 19 := by
  have : n.natAbs ≤ 9223372036854775808 := by omega
  exact Nat.lt_of_le_of_lt this (by decide)
theorem refPrint_zero (w : World) : Calls Tryz.prog 26 #[.int .i64 0] w fun e w' => e = .returned (.string (printB 0)) ∧ Below w.heap.size w w' := by
  have HZ := Lib.hid (show printB 0 = ⟨#[48]⟩ by rw [printB, print]; simp [digs_small])
  go_enter Tryz.func26, Tryz.ntmps26
  go_wp2
  go_ret
  exact ⟨by rw [HZ.out]; rfl, Below.refl _ _⟩
set_option maxHeartbeats 400000 in
theorem refPrint_pos (n : Int) (w : World) (h0 : 0 < n) (h1 : n ≤ 9223372036854775807) :
    Calls Tryz.prog 26 #[.int .i64 n] w fun e w' => e = .returned (.string (printB n)) ∧ Below w.heap.size w w' := by
  have hn0 : (n == 0) = false := by simp; omega
  go_enter Tryz.func26, Tryz.ntmps26
  go_wp2
  go_loopw [3, 4] (fun s l wr => ∃ (L : Nat) (tail : List UInt8), l = .int .i64 L ∧ s = .string ⟨tail.toArray⟩ ∧ L ≤ 9223372036854775807 ∧ LeftOf n.natAbs L tail ∧ Below w.heap.size w wr) (fun _ l _ => (intOf l).toNat)
  case atStart => exact ⟨n.natAbs, [], by rw [show ((n.natAbs : Nat) : Int) = n by omega], rfl, by omega, LeftOf.start (by omega), Below.refl _ _⟩
  case round =>
    obtain ⟨L, tail, rfl, rfl, hL, hd, hb⟩ := hrel
    have htl := hd.len (abs_lt (by omega) h1) (by omega)
    have htl' : ¬ 9223372036854775807 < 1 + tail.length := by omega
    by_cases hz : L = 0
    · subst hz
      have HD := Lib.hid hd.done
      clear hd
      go_wp2
      go_ret
      refine ⟨?_, hb⟩
      rw [printB, print, if_neg (by omega), HD.out]
      rfl
    · have hz' : ((L : Int) != 0) = true := by simp; omega
      have hcv := fun W t => conv_one W (UInt8.ofNat (48 + L % 10)) (48 + (L : Int) % 10) (digit_nat' L) t
      have HD := Lib.hid (hd.next hz)
      have hm : 0 ≤ (L : Int) % 10 := by omega
      clear hd
      generalize UInt8.ofNat (48 + L % 10) = d at *
      go_wp2
      go_roundw
      case rel => exact ⟨L / 10, d :: tail, by go_num, rfl, by omega, HD.out, hb.alloc hb.size _⟩
      case measure => simp [intOf]; omega
theorem neg_digit (L : Nat) (h : L ≤ 9223372036854775808) : wrap64 ((-(L : Int)).tmod 10) = -((L % 10 : Nat) : Int) := by
  rw [Int.neg_tmod, show (L : Int).tmod 10 = ((L % 10 : Nat) : Int) from rfl]
  simp only [wrap64]
  omega
theorem neg_rest (L : Nat) (h : L ≤ 9223372036854775808) : wrap64 ((-(L : Int)).tdiv 10) = -((L / 10 : Nat) : Int) := by
  rw [Int.neg_tdiv, show (L : Int).tdiv 10 = ((L / 10 : Nat) : Int) from rfl]
  simp only [wrap64]
  omega
set_option maxHeartbeats 400000 in
theorem refPrint_neg (n : Int) (w : World) (h0 : n < 0) (h1 : -9223372036854775808 ≤ n) :
    Calls Tryz.prog 26 #[.int .i64 n] w fun e w' => e = .returned (.string (printB n)) ∧ Below w.heap.size w w' := by
  have hn0 : (n == 0) = false := by simp; omega
  go_enter Tryz.func26, Tryz.ntmps26
  go_wp2
  go_loopw [3, 4] (fun s l wr => ∃ (L : Nat) (tail : List UInt8), l = .int .i64 (-(L : Int)) ∧ s = .string ⟨tail.toArray⟩ ∧ L ≤ 9223372036854775808 ∧ LeftOf n.natAbs L tail ∧ Below w.heap.size w wr) (fun _ l _ => (-intOf l).toNat)
  case atStart => exact ⟨n.natAbs, [], by rw [show -((n.natAbs : Nat) : Int) = n by omega], rfl, by omega, LeftOf.start (by omega), Below.refl _ _⟩
  case round =>
    obtain ⟨L, tail, rfl, rfl, hL, hd, hb⟩ := hrel
    have htl := hd.len (abs_lt h1 (by omega)) (by omega)
    have htl' : ¬ 9223372036854775807 < 1 + tail.length := by omega
    by_cases hz : L = 0
    · subst hz
      have HD := Lib.hid hd.done
      clear hd
      go_wp2
      go_ret
      refine ⟨?_, hb⟩
      rw [printB, print, if_pos (by omega), HD.out]
      rfl
    · have hz' : (-(L : Int) != 0) = true := by simp; omega
      have hcv := fun W t => conv_one W (UInt8.ofNat (48 + L % 10)) (48 + (L : Int) % 10) (digit_nat' L) t
      have hcv2 : (L : Int) % 10 ≤ 0 → ∀ (W : World) (t : TypeId), (convert 109 9 (.slice (some ⟨W.heap.size, 0, none⟩) 1 1)).run Tryz.prog (W.alloc (.cells #[.int .u8 (48 + -((L : Int) % 10))] t)) = .ok (.string ⟨#[UInt8.ofNat (48 + L % 10)]⟩) (W.alloc (.cells #[.int .u8 (48 + -((L : Int) % 10))] t)) :=
        fun h W t => conv_one W (UInt8.ofNat (48 + L % 10)) (48 + -((L : Int) % 10)) (by rw [← digit_nat']; omega) t
      have HD := Lib.hid (hd.next hz)
      have hm : 0 ≤ (L : Int) % 10 := by omega
      have e1 := neg_digit L hL
      have e2 := neg_rest L hL
      clear hd
      generalize UInt8.ofNat (48 + L % 10) = d at *
      by_cases h10 : 0 < (L : Int) % 10
      · clear hcv2
        go_wp2
        go_roundw
        case rel => exact ⟨L / 10, d :: tail, by go_num, rfl, by omega, HD.out, hb.alloc hb.size _⟩
        case measure => simp [intOf]; omega
      · have hcv2 := hcv2 (by omega)
        clear hcv
        go_wp2
        go_roundw
        case rel => exact ⟨L / 10, d :: tail, by go_num, rfl, by omega, HD.out, hb.alloc hb.size _⟩
        case measure => simp [intOf]; omega
theorem refPrint_any (n : Int) (w : World) (h0 : -9223372036854775808 ≤ n) (h1 : n ≤ 9223372036854775807) :
    Calls Tryz.prog 26 #[.int .i64 n] w fun e w' => e = .returned (.string (printB n)) ∧ Below w.heap.size w w' := by
  rcases Int.lt_trichotomy n 0 with h | rfl | h
  · exact refPrint_neg n w h h0
  · exact refPrint_zero w
  · exact refPrint_pos n w h h1
theorem all_dig (s : ByteArray) (h : ∀ j (hj : j < s.size), 48 ≤ s[j].toNat ∧ s[j].toNat ≤ 57) : s.data.toList.all dig = true := by
  rw [List.all_eq_true]
  intro b hb
  obtain ⟨j, hj, rfl⟩ := List.getElem_of_mem hb
  rw [get_list s j (by simpa using hj), dig, decide_eq_true_iff]
  exact h j _
theorem not_all_dig (s : ByteArray) (j : Nat) (hj : j < s.size) (h : ¬ (48 ≤ s[j].toNat ∧ s[j].toNat ≤ 57)) : s.data.toList.all dig = false := by
  rw [Bool.eq_false_iff]
  intro ha
  rw [List.all_eq_true] at ha
  have := ha (s.data.toList[j]'(by simpa using hj)) (List.getElem_mem _)
  rw [get_list s j hj, dig, decide_eq_true_iff] at this
  exact h this
theorem wordOf_pos {s : ByteArray} (h0 : 0 < s.size) (hb : s[0].toNat ≠ 45) : wordOf s.data.toList = (s.data.toList.all dig && !(decide (s[0].toNat = 48) && !(s.toList == [48]))) := by
  have hl : 0 < s.data.toList.length := by simpa using h0
  have hn : neg s.data.toList = 0 := neg_of_dig hl (by rw [get_list s 0 h0]; exact hb)
  have hh : s.data.toList.head? = some s[0] := by
    rw [List.head?_eq_getElem?, List.getElem?_eq_getElem hl, get_list s 0 h0]
  have e : (s[0] = 48) ↔ s[0].toNat = 48 := by rw [← UInt8.toNat_inj]; rfl
  have e2 : decide (s.data.toList ≠ [48]) = !(s.toList == [48]) := by
    rw [Lib.toList_data]
    by_cases h : s.data.toList = [48] <;> simp [h]
  simp only [wordOf, hn, List.drop_zero, hh, Option.some.injEq, e, e2, decide_eq_true hl, Bool.true_and]
theorem wordOf_neg {s : ByteArray} (h0 : 0 < s.size) (hb : s[0].toNat = 45) : wordOf s.data.toList = (decide (0 < (s.extract 1 s.size).size) && (s.extract 1 s.size).data.toList.all dig && !(decide ((s.extract 1 s.size).data.toList.head? = some 48))) := by
  have hl : 0 < s.data.toList.length := by simpa using h0
  have hn : neg s.data.toList = 1 := neg_of_minus hl (by rw [get_list s 0 h0]; exact hb)
  have hd : (s.extract 1 s.size).data.toList = s.data.toList.drop 1 := Lib.extract_to_end s 1
  have hsz : decide (1 < s.data.toList.length) = decide (0 < (s.extract 1 s.size).size) := by
    rw [decide_eq_decide]; simp; omega
  have e2 : decide (s.data.toList ≠ [48]) = true := by
    rw [decide_eq_true_iff]
    intro h
    have h1 := get_list s 0 h0
    simp only [h] at h1
    rw [← h1] at hb
    exact absurd (show (48 : UInt8).toNat = 45 from hb) (by decide)
  simp only [wordOf, hn, hd, hsz, e2, Bool.and_true]
set_option maxHeartbeats 400000 in
theorem word_empty (w : World) : Calls Tryz.prog 97 #[.string ⟨#[]⟩] w fun e w' => e = .returned (.bool false) ∧ w = w' := by
  go_enter Tryz.func97, Tryz.ntmps97
  go_wp2
  go_ret
  exact ⟨rfl, rfl⟩
set_option maxHeartbeats 800000 in
theorem word_pos (s : ByteArray) (w : World) (hs : s.size ≤ maxLen) (h0 : 0 < s.size) (hb : s[0].toNat ≠ 45) :
    Calls Tryz.prog 97 #[.string s] w fun e w' => e = .returned (.bool (wordOf s.data.toList)) ∧ w = w' := by
  unfold maxLen at hs
  have HW := Lib.hid (wordOf_pos h0 hb)
  have h0' : (0 : Int) < s.size := by omega
  have hsz : ((s.size : Int) == 0) = false := beq_eq_false_iff_ne.2 (by omega)
  have b45 : ((s[0].toNat : Int) == 45) = false := beq_eq_false_iff_ne.2 (by omega)
  clear hb
  by_cases hz : s[0].toNat = 48 ∧ (!(s.toList == [48])) = true
  · obtain ⟨hz, h48⟩ := hz
    have HV := Lib.hid (show wordOf s.data.toList = false by rw [HW.out, decide_eq_true hz, h48]; simp)
    have b48 : ((s[0].toNat : Int) == 48) = true := beq_iff_eq.2 (by omega)
    clear hz HW
    go_enter Tryz.func97, Tryz.ntmps97
    go_wp2
    go_ret
    exact ⟨ret_bool HV.out.symm, rfl⟩
  · have HV := Lib.hid (show wordOf s.data.toList = s.data.toList.all dig by
      rw [HW.out]
      by_cases e : s[0].toNat = 48
      · have : (!(s.toList == [48])) = false := by
          rw [Bool.eq_false_iff]; exact fun h => hz ⟨e, h⟩
        rw [this]; simp
      · rw [decide_eq_false e]; simp)
    have key : ((s[0].toNat : Int) == 48) = false ∨ (((s[0].toNat : Int) == 48) = true ∧ (!(s.toList == [48])) = false) := by
      by_cases e : s[0].toNat = 48
      · exact .inr ⟨beq_iff_eq.2 (by omega), by rw [Bool.eq_false_iff]; exact fun h => hz ⟨e, h⟩⟩
      · exact .inl (beq_eq_false_iff_ne.2 (by omega))
    clear hz HW
    rcases key with b48 | ⟨b48, h48⟩
    all_goals
      go_enter Tryz.func97, Tryz.ntmps97
      go_wp2
      go_loop [4] (fun i => ∃ k : Nat, k ≤ s.size ∧ i = .int .i64 k ∧ ∀ j (h : j < s.size), j < k → 48 ≤ s[j].toNat ∧ s[j].toNat ≤ 57) (fun i => s.size - (intOf i).toNat)
      case atStart => exact ⟨0, Nat.zero_le _, rfl, fun _ _ h => absurd h (by omega)⟩
      case round =>
        obtain ⟨k, hk, rfl, hd⟩ := hrel
        have HD := Lib.hid hd
        clear hd
        by_cases hlt : k < s.size
        · by_cases hdk : 48 ≤ s[k].toNat ∧ s[k].toNat ≤ 57
          · obtain ⟨hd1, hd2⟩ := hdk
            have HD2 := Lib.hid (show ∀ j (h : j < s.size), j < k + 1 → 48 ≤ s[j].toNat ∧ s[j].toNat ≤ 57 from fun j h hj => by
              by_cases e : j = k
              · subst e; exact ⟨hd1, hd2⟩
              · exact HD.out j h (by omega))
            go_wp2
            go_round
            case rel => exact ⟨k + 1, by omega, by go_num, HD2.out⟩
            case measure => simp [intOf]; omega
          · have HV2 := Lib.hid (HV.out.trans (not_all_dig s k hlt hdk))
            have hdk' : s[k].toNat < 48 ∨ 57 < s[k].toNat := by omega
            clear hdk
            rcases hdk' with hdk | hdk
            all_goals
              go_wp2
              go_ret
              exact ⟨ret_bool HV2.out.symm, rfl⟩
        · have HV2 := Lib.hid (HV.out.trans (all_dig s fun j h => HD.out j h (by omega)))
          go_wp2
          go_ret
          exact ⟨ret_bool HV2.out.symm, rfl⟩
set_option maxHeartbeats 800000 in
theorem word_neg (s : ByteArray) (w : World) (hs : s.size ≤ maxLen) (h0 : 0 < s.size) (hb : s[0].toNat = 45) :
    Calls Tryz.prog 97 #[.string s] w fun e w' => e = .returned (.bool (wordOf s.data.toList)) ∧ w = w' := by
  unfold maxLen at hs
  have hw := wordOf_neg h0 hb
  have h0' : (0 : Int) < s.size := by omega
  have h1' : (1 : Int) ≤ s.size := by omega
  have b45 : ((s[0].toNat : Int) == 45) = true := beq_iff_eq.2 (by omega)
  obtain ⟨t, ht⟩ : ∃ t, s.extract 1 s.size = t := ⟨_, rfl⟩
  have hts : t.size = s.size - 1 := by rw [← ht]; simp
  rw [ht] at hw
  have ts : t.size ≤ 9223372036854775807 := by omega
  clear hb
  by_cases hz : t.size = 0
  · have HV := Lib.hid (show wordOf s.data.toList = false by rw [hw, hz]; simp)
    have bz : ((t.size : Int) == 0) = true := beq_iff_eq.2 (by omega)
    clear hz hw hts
    go_enter Tryz.func97, Tryz.ntmps97
    go_wp2
    go_ret
    exact ⟨ret_bool HV.out.symm, rfl⟩
  · have bz : ((t.size : Int) == 0) = false := beq_eq_false_iff_ne.2 (by omega)
    have t0 : 0 < t.size := by omega
    have t0' : (0 : Int) < t.size := by omega
    have hh : t.data.toList.head? = some t[0] := by
      rw [List.head?_eq_getElem?, List.getElem?_eq_getElem (by simpa using t0), get_list t 0 t0]
    have e : (t[0] = 48) ↔ t[0].toNat = 48 := by rw [← UInt8.toNat_inj]; rfl
    have h48 : (!(s.toList == [48])) = true := by
      rw [Lib.toList_data]
      by_cases h : s.data.toList = [48]
      · have h1 := get_list s 0 h0
        simp only [h] at h1
        rw [← h1] at b45
        exact absurd (show (((48 : UInt8).toNat : Int) == 45) = true from b45) (by decide)
      · simp [h]
    simp only [hh, Option.some.injEq, e, decide_eq_true t0, Bool.true_and] at hw
    clear hz hts hh e
    by_cases h8 : t[0].toNat = 48
    · have HV := Lib.hid (show wordOf s.data.toList = false by rw [hw, decide_eq_true h8]; simp)
      have b48 : ((t[0].toNat : Int) == 48) = true := beq_iff_eq.2 (by omega)
      clear h8 hw
      go_enter Tryz.func97, Tryz.ntmps97
      go_wp2
      go_ret
      exact ⟨ret_bool HV.out.symm, rfl⟩
    · have HV := Lib.hid (show wordOf s.data.toList = t.data.toList.all dig by rw [hw, decide_eq_false h8]; simp)
      have b48 : ((t[0].toNat : Int) == 48) = false := beq_eq_false_iff_ne.2 (by omega)
      clear h8 hw
      go_enter Tryz.func97, Tryz.ntmps97
      go_wp2
      go_loop [4] (fun i => ∃ k : Nat, k ≤ t.size ∧ i = .int .i64 k ∧ ∀ j (h : j < t.size), j < k → 48 ≤ t[j].toNat ∧ t[j].toNat ≤ 57) (fun i => t.size - (intOf i).toNat)
      case atStart => exact ⟨0, Nat.zero_le _, rfl, fun _ _ h => absurd h (by omega)⟩
      case round =>
        obtain ⟨k, hk, rfl, hd⟩ := hrel
        have HD := Lib.hid hd
        clear hd
        by_cases hlt : k < t.size
        · by_cases hdk : 48 ≤ t[k].toNat ∧ t[k].toNat ≤ 57
          · obtain ⟨hd1, hd2⟩ := hdk
            have HD2 := Lib.hid (show ∀ j (h : j < t.size), j < k + 1 → 48 ≤ t[j].toNat ∧ t[j].toNat ≤ 57 from fun j h hj => by
              by_cases e : j = k
              · subst e; exact ⟨hd1, hd2⟩
              · exact HD.out j h (by omega))
            go_wp2
            go_round
            case rel => exact ⟨k + 1, by omega, by go_num, HD2.out⟩
            case measure => simp [intOf]; omega
          · have HV2 := Lib.hid (HV.out.trans (not_all_dig t k hlt hdk))
            have hdk' : t[k].toNat < 48 ∨ 57 < t[k].toNat := by omega
            clear hdk
            rcases hdk' with hdk | hdk
            all_goals
              go_wp2
              go_ret
              exact ⟨ret_bool HV2.out.symm, rfl⟩
        · have HV2 := Lib.hid (HV.out.trans (all_dig t fun j h => HD.out j h (by omega)))
          go_wp2
          go_ret
          exact ⟨ret_bool HV2.out.symm, rfl⟩
theorem word_any (s : ByteArray) (w : World) (hs : s.size ≤ maxLen) :
    Calls Tryz.prog 97 #[.string s] w fun e w' => e = .returned (.bool (wordOf s.data.toList)) ∧ w = w' := by
  by_cases h0 : 0 < s.size
  · by_cases hb : s[0].toNat = 45
    · exact word_neg s w hs h0 hb
    · exact word_pos s w hs h0 hb
  · obtain ⟨⟨l⟩⟩ := s
    have : l = [] := by
      have : l.length = 0 := by simpa [ByteArray.size] using h0
      exact List.length_eq_zero_iff.1 this
    subst this
    exact word_empty w
theorem less_any (a b : ByteArray) (w : World) (ha : a.size ≤ maxLen) (hb : b.size ≤ maxLen) :
    Calls Tryz.prog 98 #[.string a, .string b] w fun e w' => e = .returned (.bool (decide (a.size < b.size) || (decide (a.size = b.size) && (Op.bytesLess a.data.toList b.data.toList || a.data.toList == b.data.toList)))) ∧ w = w' := by
  unfold maxLen at ha hb
  rcases Nat.lt_trichotomy a.size b.size with h | h | h
  · have h' : (a.size : Int) < b.size := by omega
    have HV := Lib.hid (decide_eq_true h)
    go_enter Tryz.func98, Tryz.ntmps98
    go_wp2
    go_ret
    exact ⟨ret_bool (by simp [h]), rfl⟩
  · have h' : ¬ (a.size : Int) < b.size := by omega
    have h2 : ((a.size : Int) == b.size) = true := beq_iff_eq.2 (by omega)
    have HV := Lib.hid h
    clear h
    go_enter Tryz.func98, Tryz.ntmps98
    go_wp2
    go_ret
    exact ⟨ret_bool (by simp [HV.out, Lib.toList_data]), rfl⟩
  · have h' : ¬ (a.size : Int) < b.size := by omega
    have h2 : ((a.size : Int) == b.size) = false := beq_eq_false_iff_ne.2 (by omega)
    go_enter Tryz.func98, Tryz.ntmps98
    go_wp2
    go_ret
    exact ⟨ret_bool (by simp; omega), rfl⟩
end Go.Proofs.YtdfbohaohjaloaaGreatDoor
end
section
namespace Go.Proofs.YtdfbohaohjaloaaGreatDoor
set_option maxRecDepth 10000
open Go.RowKit Punnet.Num
theorem less_any' (a b : ByteArray) (w : World) (ha : a.size ≤ maxLen) (hb : b.size ≤ maxLen) :
    Calls Tryz.prog 98 #[.string a, .string b] w fun e w' => e = .returned (.bool (lessB a.data.toList b.data.toList)) ∧ w = w' := by
  have h := less_any a b w ha hb
  have h1 : a.size = a.data.toList.length := by simp
  have h2 : b.size = b.data.toList.length := by simp
  rw [h1, h2] at h
  exact h
def mostB : ByteArray := ⟨#[57, 50, 50, 51, 51, 55, 50, 48, 51, 54, 56, 53, 52, 55, 55, 53, 56, 48, 56]⟩
def maxB : ByteArray := ⟨#[57, 50, 50, 51, 51, 55, 50, 48, 51, 54, 56, 53, 52, 55, 55, 53, 56, 48, 55]⟩
theorem refRead_neg (s : ByteArray) (w : World) (hs : s.size ≤ maxLen) (h0 : 0 < s.size) (hb : s[0].toNat = 45) (hw : wordOf s.data.toList = true) :
    Calls Tryz.prog 53 #[.string s] w fun e w' => e = .returned (.tuple #[.int .i64 (readOf s.data.toList).1, .int .i64 (readOf s.data.toList).2]) ∧ w = w' := by
  have HW := Lib.hid (word_any s w hs)
  rw [hw] at HW
  have hl : 0 < s.data.toList.length := by simpa using h0
  have hlen : s.data.toList.length = s.size := by simp
  have hn : neg s.data.toList = 1 := neg_of_minus hl (by rw [get_list s 0 h0]; exact hb)
  have iw := isWord hw
  have HR := Lib.hid iw.read
  have hless := iw.less_most
  have hd : (s.extract 1 s.size).data.toList = s.data.toList.drop (neg s.data.toList) := by rw [hn]; exact Lib.extract_to_end s 1
  have HL := Lib.hid (less_any' (s.extract 1 s.size) mostB w (by simp; unfold maxLen at *; omega) (by decide))
  rw [hd] at HL
  rw [show mostB.data.toList = [57, 50, 50, 51, 51, 55, 50, 48, 51, 54, 56, 53, 52, 55, 55, 53, 56, 48, 56] from rfl, hless] at HL
  rw [mostB] at HL
  unfold maxLen at hs
  have h0' : (0 : Int) < s.size := by omega
  have h1' : (1 : Int) ≤ s.size := by omega
  have b45 : ((s[0].toNat : Int) == 45) = true := beq_iff_eq.2 (by omega)
  have b45' : ((s[0].toNat : Int) != 45) = false := by rw [bne, b45]; rfl
  have hdig : ∀ k (h : k < s.size), 0 < k → 48 ≤ s[k].toNat ∧ s[k].toNat ≤ 57 := by
    intro k h hk
    rw [← get_list s k h]
    have := iw.digits (s.data.toList[k]'(by omega)) (by
      rw [hn]
      have e : s.data.toList[k]'(by omega) = (s.data.toList.drop 1)[k - 1]'(by rw [List.length_drop]; omega) := by
        rw [List.getElem_drop]; congr 1; omega
      rw [e]; exact List.getElem_mem _)
    exact this
  have HD := Lib.hid hdig
  by_cases hov : 9223372036854775808 < natOf (s.data.toList.drop (neg s.data.toList))
  · have HV := Lib.hid (show readOf s.data.toList = (0, 3) by rw [HR.out, if_pos hn, if_pos hov])
    rw [decide_eq_false (by omega)] at HL
    clear hb hw hlen hn iw HR hless hd hdig hov HD
    go_enter Tryz.func53, Tryz.ntmps53
    go_wp2_with (first | (go_at_call 97; refine HW.out.mono ?_; rintro e w1 ⟨rfl, rfl⟩) | (go_at_call 98; refine HL.out.mono ?_; rintro e w1 ⟨rfl, rfl⟩))
    go_ret2
    exact ⟨ret2_i64 (by rw [HV.out]), rfl⟩
  · have HV := Lib.hid (show readOf s.data.toList = (-(natOf (s.data.toList.drop (neg s.data.toList)) : Int), 0) by rw [HR.out, if_pos hn, if_neg hov])
    rw [decide_eq_true (by omega)] at HL
    have HO := Lib.hid hov
    have HN := Lib.hid hn
    have hl1 : s.data.toList.length ≤ s.size := by omega
    have hl2 : s.size ≤ s.data.toList.length := by omega
    clear hb hw hlen hn iw HR hless hd hdig hov
    go_enter Tryz.func53, Tryz.ntmps53
    go_wp2_with (first | (go_at_call 97; refine HW.out.mono ?_; rintro e w1 ⟨rfl, rfl⟩) | (go_at_call 98; refine HL.out.mono ?_; rintro e w1 ⟨rfl, rfl⟩))
    go_loop [4, 5] (fun n i => ∃ k S : Nat, k ≤ s.size ∧ i = .int .i64 k ∧ n = .int .i64 (-(S : Int)) ∧ S = pref s.data.toList k) (fun _ i => s.size - (intOf i).toNat)
    case atStart => exact ⟨0, 0, Nat.zero_le _, rfl, rfl, (pref_zero _).symm⟩
    case round =>
      obtain ⟨k, S, hk, rfl, rfl, hS⟩ := hrel
      by_cases hlt : k < s.size
      · have hle := pref_le s.data.toList (k + 1)
        have HO' := HO.out
        by_cases hk0 : k = 0
        · subst hk0
          have HS := Lib.hid hS
          have HP := pref_zero s.data.toList
          clear hS
          have HP1 := Lib.hid (pref_one HN.out)
          rw [HP] at HS
          have HS0 := HS.out
          subst HS0
          clear hle HP HO'
          go_wp2
          go_round
          case rel => exact ⟨1, 0, by omega, rfl, rfl, HP1.out.symm⟩
          case measure => simp [intOf]; omega
        · obtain ⟨d1, d2⟩ := HD.out k hlt (by omega)
          have hst := pref_step (l := s.data.toList) (k := k) (by omega) (by have := HN.out; omega)
          rw [get_list s k hlt, ← hS] at hst
          have HST := Lib.hid hst
          have hbd : 10 * S + (s[k].toNat - 48) ≤ 9223372036854775808 := by omega
          clear hS hst hle HO'
          have hne : ((s[k].toNat : Int) != 45) = true := by rw [bne_iff_ne]; omega
          go_wp2
          go_round
          case rel => exact ⟨k + 1, 10 * S + (s[k].toNat - 48), by omega, by go_num, by go_num, HST.out.symm⟩
          case measure => simp [intOf]; omega
      · have HE := Lib.hid (hS.trans (pref_end (by omega)))
        clear hS
        go_wp2
        go_ret2
        exact ⟨ret2_i64 (by rw [HV.out, HE.out]), rfl⟩
theorem refRead_pos (s : ByteArray) (w : World) (hs : s.size ≤ maxLen) (h0 : 0 < s.size) (hb : s[0].toNat ≠ 45) (hw : wordOf s.data.toList = true) :
    Calls Tryz.prog 53 #[.string s] w fun e w' => e = .returned (.tuple #[.int .i64 (readOf s.data.toList).1, .int .i64 (readOf s.data.toList).2]) ∧ w = w' := by
  have HW := Lib.hid (word_any s w hs)
  rw [hw] at HW
  have hl : 0 < s.data.toList.length := by simpa using h0
  have hlen : s.data.toList.length = s.size := by simp
  have hn : neg s.data.toList = 0 := neg_of_dig hl (by rw [get_list s 0 h0]; exact hb)
  have iw := isWord hw
  have HR := Lib.hid iw.read
  have hless : lessB s.data.toList [57, 50, 50, 51, 51, 55, 50, 48, 51, 54, 56, 53, 52, 55, 55, 53, 56, 48, 55] = decide (natOf (s.data.toList.drop (neg s.data.toList)) ≤ 9223372036854775807) := by
    rw [← iw.less_max]
    rw [hn]; rfl
  have hd : s.data.toList = s.data.toList.drop (neg s.data.toList) := by rw [hn]; rfl
  have HL := Lib.hid (less_any' s maxB w hs (by decide))
  rw [show maxB.data.toList = [57, 50, 50, 51, 51, 55, 50, 48, 51, 54, 56, 53, 52, 55, 55, 53, 56, 48, 55] from rfl, hless] at HL
  rw [maxB] at HL
  unfold maxLen at hs
  have h0' : (0 : Int) < s.size := by omega
  have h1' : (1 : Int) ≤ s.size := by omega
  have b45 : ((s[0].toNat : Int) == 45) = false := beq_eq_false_iff_ne.2 (by omega)
  have b45' : ((s[0].toNat : Int) != 45) = true := by rw [bne, b45]; rfl
  have hdig : ∀ k (h : k < s.size), 48 ≤ s[k].toNat ∧ s[k].toNat ≤ 57 := by
    intro k h
    rw [← get_list s k h]
    have := iw.digits (s.data.toList[k]'(by omega)) (by
      rw [← hd]; exact List.getElem_mem _)
    exact this
  have HD := Lib.hid hdig
  by_cases hov : 9223372036854775807 < natOf (s.data.toList.drop (neg s.data.toList))
  · have HV := Lib.hid (show readOf s.data.toList = (0, 3) by rw [HR.out, if_neg (by omega), if_pos hov])
    rw [decide_eq_false (by omega)] at HL
    clear hb hw hlen hn iw HR hless hd hdig hov HD
    go_enter Tryz.func53, Tryz.ntmps53
    go_wp2_with (first | (go_at_call 97; refine HW.out.mono ?_; rintro e w1 ⟨rfl, rfl⟩) | (go_at_call 98; refine HL.out.mono ?_; rintro e w1 ⟨rfl, rfl⟩))
    go_ret2
    exact ⟨ret2_i64 (by rw [HV.out]), rfl⟩
  · have HV := Lib.hid (show readOf s.data.toList = ((natOf (s.data.toList.drop (neg s.data.toList)) : Int), 0) by rw [HR.out, if_neg (by omega), if_neg hov])
    rw [decide_eq_true (by omega)] at HL
    have HO := Lib.hid hov
    have HN := Lib.hid hn
    have hl1 : s.data.toList.length ≤ s.size := by omega
    have hl2 : s.size ≤ s.data.toList.length := by omega
    clear hb hw hlen hn iw HR hless hd hdig hov
    go_enter Tryz.func53, Tryz.ntmps53
    go_wp2_with (first | (go_at_call 97; refine HW.out.mono ?_; rintro e w1 ⟨rfl, rfl⟩) | (go_at_call 98; refine HL.out.mono ?_; rintro e w1 ⟨rfl, rfl⟩))
    go_loop [4, 5] (fun n i => ∃ k S : Nat, k ≤ s.size ∧ i = .int .i64 k ∧ n = .int .i64 (-(S : Int)) ∧ S = pref s.data.toList k) (fun _ i => s.size - (intOf i).toNat)
    case atStart => exact ⟨0, 0, Nat.zero_le _, rfl, rfl, (pref_zero _).symm⟩
    case round =>
      obtain ⟨k, S, hk, rfl, rfl, hS⟩ := hrel
      by_cases hlt : k < s.size
      · have hle := pref_le s.data.toList (k + 1)
        have HO' := HO.out
        obtain ⟨d1, d2⟩ := HD.out k hlt
        have hst := pref_step (l := s.data.toList) (k := k) (by omega) (by have := HN.out; omega)
        rw [get_list s k hlt, ← hS] at hst
        have HST := Lib.hid hst
        have hbd : 10 * S + (s[k].toNat - 48) ≤ 9223372036854775807 := by omega
        clear hS hst hle HO'
        have hne : ((s[k].toNat : Int) != 45) = true := by rw [bne_iff_ne]; omega
        go_wp2
        go_round
        case rel => exact ⟨k + 1, 10 * S + (s[k].toNat - 48), by omega, by go_num, by go_num, HST.out.symm⟩
        case measure => simp [intOf]; omega
      · have HE := Lib.hid (hS.trans (pref_end (by omega)))
        have hSb : S ≤ 9223372036854775807 := by have h1 := HE.out; have h2 := HO.out; omega
        clear hS
        go_wp2
        go_ret2
        exact ⟨ret2_i64 (by rw [HV.out, HE.out]), rfl⟩
set_option maxHeartbeats 400000 in
theorem refRead_no (s : ByteArray) (w : World) (hs : s.size ≤ maxLen) (hw : wordOf s.data.toList = false) :
    Calls Tryz.prog 53 #[.string s] w fun e w' => e = .returned (.tuple #[.int .i64 0, .int .i64 4]) ∧ w = w' := by
  have HW := Lib.hid (word_any s w hs)
  rw [hw] at HW
  clear hw
  go_enter Tryz.func53, Tryz.ntmps53
  go_wp2_with (go_at_call 97; refine HW.out.mono ?_; rintro e w1 ⟨rfl, rfl⟩)
  go_ret2
  exact ⟨rfl, rfl⟩
theorem refRead_any (s : ByteArray) (w : World) (hs : s.size ≤ maxLen) :
    Calls Tryz.prog 53 #[.string s] w fun e w' => e = .returned (.tuple #[.int .i64 (readOf s.data.toList).1, .int .i64 (readOf s.data.toList).2]) ∧ w = w' := by
  cases hw : wordOf s.data.toList with
  | false => rw [read_no_word hw]; exact refRead_no s w hs hw
  | true =>
    have h0 : 0 < s.size := by
      have := (isWord hw).some_
      have h2 : s.data.toList.length = s.size := by simp
      omega
    by_cases hb : s[0].toNat = 45
    · exact refRead_neg s w hs h0 hb hw
    · exact refRead_pos s w hs h0 hb hw
end Go.Proofs.YtdfbohaohjaloaaGreatDoor
end
section
namespace Go.Vm
open Go.RowKit Go.Proofs Go.Proofs.YtdfbohaohjaloaaGreatDoor Punnet.Name Punnet.Num
theorem numPrint_any (n : Int) (h : inI64 n) : Contract Tryz.prog 24 [.sc (.int .i64 n)] [.d (.sc (.string (printB n)))] :=
 old_one (us := [.int .i64 n]) rfl fun w => print_any n w (by omega) (by omega)
theorem refPrint_c (n : Int) (h : inI64 n) : Contract Tryz.prog 26 [.sc (.int .i64 n)] [.d (.sc (.string (printB n)))] :=
 old_one (us := [.int .i64 n]) rfl fun w => refPrint_any n w (by omega) (by omega)
theorem numRead_any (s : ByteArray) (h : s.size ≤ 1000000) : Contract Tryz.prog 23 [.sc (.string s)] [.d (.sc (.int .i64 (numW s).1)), .d (.sc (.int .i64 (numW s).2))] :=
 old_tup (us := [.string s]) (rs := []) (by simp [plainV]) fun w => read_any s w (by unfold maxLen; omega)
theorem refNumRead_any (s : ByteArray) (h : s.size ≤ 1000000) : Contract Tryz.prog 53 [.sc (.string s)] [.d (.sc (.int .i64 (numW s).1)), .d (.sc (.int .i64 (numW s).2))] :=
 old_tup (us := [.string s]) (rs := []) (by simp [plainV]) fun w => (refRead_any s w (by unfold maxLen; omega)).mono (by rintro e w' ⟨rfl, rfl⟩; exact ⟨rfl, Below.refl _ _⟩)
end Go.Vm
end
section
namespace Go.Vm
open Go.RowKit Go.Proofs
set_option maxRecDepth 10000
open Go.Proofs.YtdfbohaohjaloaaGreatDoor Punnet.Name Punnet.Num
theorem cut_yes {c : UInt8} {s : ByteArray} {a r : List UInt8} (hd : s.data.toList = a ++ c :: r) (hc : c ∉ a) : mkB (cutC c s.data.toList).1 = s.extract 0 a.length ∧ mkB (cutC c s.data.toList).2.1 = s.extract (a.length + 1) s.size ∧ (cutC c s.data.toList).2.2 = true := by
  rw [hd, cutC_hit hc]
  refine ⟨ba_ext ?_, ba_ext ?_, rfl⟩
  · rw [mkB_data, ext_data, hd, List.drop_zero, List.take_left]
  · rw [mkB_data, ext_data, ← ba_len, List.take_length, hd, ← List.drop_drop, List.drop_left]; rfl
theorem cut_cases (c : UInt8) (s : ByteArray) : (Lib.index s.data.toList [c] = -1 ∧ c ∉ s.data.toList) ∨ ∃ a r, s.data.toList = a ++ c :: r ∧ c ∉ a ∧ Lib.index s.data.toList [c] = (a.length : Int) := idx_cases _
theorem liteCut_any (c : UInt8) (s : ByteArray) (hs : s.size ≤ 1000000) : Contract Tryz.prog 50 [.sc (.string (s)), .sc (.string (⟨#[c]⟩))] [.d (.sc (.string (mkB (cutC c s.data.toList).1))), .d (.sc (.string (mkB (cutC c s.data.toList).2.1))), .d (.sc (.bool ((cutC c s.data.toList).2.2)))] := by
 refine T.fn [] Tryz.func50 ?_
 have hcc := cut_cases c s
 refine x_call T.en_96 (index1_any c s) ?_
 refine br (fun hc1 => ?y1) (fun hc1 => ?n1)
 case' y1 =>
  obtain ⟨a, r, hd, hc, hi⟩ := hcc.resolve_left (fun k => by rw [k.1] at hc1; exact absurd hc1 (by decide))
  have h9 : s.size = a.length + (1 + r.length) := by rw [← ba_len, hd, List.length_append, List.length_cons]; omega
  have hq := cut_yes hd hc
  refine And.intro ⟨T.mixed, by decide +kernel⟩ ?_
  first | refine x_bnd ?_ | refine x_bndI ?_
  refine x_str ?_ (h1 := by (first | omega | (rw [hi, h9]; simp [lit_size]; omega) | (simp [lit_size]; omega))) (h2 := by (first | omega | (rw [hi, h9]; simp [lit_size]; omega) | (simp [lit_size]; omega)))
  refine x_len ?_
  first | refine x_inc ?_ (h := by (first | omega | (rw [hi, h9]; simp [lit_size]; omega) | (simp [lit_size]; omega))) | refine x_add ?_ (h := by first | exact IntWalk.i64_in _ (by (first | omega | (rw [hi, h9]; simp [lit_size]; omega) | (simp [lit_size]; omega))) | rfl) | refine x_bin rfl rfl ?_
  first | refine x_bnd ?_ | refine x_bndI ?_
  refine x_str ?_ (h1 := by (first | omega | (rw [hi, h9]; simp [lit_size]; omega) | (simp [lit_size]; omega))) (h2 := by (first | omega | (rw [hi, h9]; simp [lit_size]; omega) | (simp [lit_size]; omega)))
 case' n1 =>
  obtain ⟨hi, hc⟩ := hcc.resolve_right (fun ⟨a, r, _, _, k⟩ => by rw [k] at hc1; exact hc1 (by omega))
 all_goals (refine x_ret ?_; simp only [fitsL, fits, C.asD, and_true] <;> (first | (rw [cutC_miss hc]; exact ⟨sct (mkB_of s).symm, rfl, rfl⟩) | (rw [hq.2.2, hq.1, hq.2.1, hi]; exact ⟨rfl, rfl, rfl⟩)))
end Go.Vm
end
section
namespace Go.Vm
open Go.RowKit Go.Proofs
set_option maxRecDepth 10000
open Go.Proofs.YtdfbohaohjaloaaGreatDoor Punnet.Name Punnet.Num
theorem cut_sizes (c : UInt8) (s : ByteArray) : (mkB (cutC c s.data.toList).1).size ≤ s.size ∧ (mkB (cutC c s.data.toList).2.1).size ≤ s.size := by
  rcases cut_cases c s with ⟨_, h⟩ | ⟨a, r, hd, hc, _⟩
  · rw [cutC_miss h, mkB_of]; exact ⟨Nat.le_refl _, Nat.zero_le _⟩
  · have hl : s.size = a.length + (1 + r.length) := by rw [← ba_len, hd, List.length_append, List.length_cons]; omega
    rw [hd, cutC_hit hc]
    have q1 : (mkB a).size = a.length := by rw [← ba_len, mkB_data]
    have q2 : (mkB r).size = r.length := by rw [← ba_len, mkB_data]
    exact ⟨by show (mkB a).size ≤ _; omega, by show (mkB r).size ≤ _; omega⟩
theorem print_size {n : Int} (h : inI64 n) : (printB n).size ≤ 30 := by
  rw [printB_size, print_len]
  have := digs_len (m := n.natAbs) (k := 19) (by have := h.1; have := h.2; omega) (by decide)
  split <;> omega
def CutI (c : UInt8) (s : ByteArray) (i fr : Nat) (out : List ByteArray) : Prop := fr ≤ i ∧ i ≤ s.size ∧ splitW c s = out ++ (splitC c (s.data.toList.drop fr)).map mkB ∧ c ∉ (s.data.toList.take i).drop fr ∧ out.length ≤ i
theorem CutI.start (c : UInt8) (s : ByteArray) : CutI c s 0 0 [] := ⟨Nat.le_refl _, Nat.zero_le _, by rw [List.drop_zero]; rfl, by simp, Nat.le_refl _⟩
theorem CutI.hit {c : UInt8} {s : ByteArray} {i fr : Nat} {out : List ByteArray} (h : CutI c s i fr out) (hb : s[i]? = some c) : CutI c s (i + 1) (i + 1) (out ++ [s.extract fr i]) := by
  obtain ⟨h1, h2, h3, h4, h5⟩ := h
  rw [get_data'] at hb
  have hl := (List.getElem?_eq_some_iff.1 hb).1
  have hd : s.data.toList.drop fr = (s.data.toList.take i).drop fr ++ c :: s.data.toList.drop (i + 1) := by
    have e : s.data.toList = s.data.toList.take i ++ c :: s.data.toList.drop (i + 1) := by
      conv => lhs; rw [← List.take_append_drop i s.data.toList]
      rw [List.drop_eq_getElem_cons hl, (List.getElem?_eq_some_iff.1 hb).2]
    conv => lhs; rw [e]
    rw [List.drop_append_of_le_length (by rw [List.length_take]; omega)]
  rw [ba_len] at hl
  refine ⟨Nat.le_refl _, by omega, ?_, ?_, by rw [List.length_append, List.length_singleton]; omega⟩
  · rw [h3, hd, splitC_app _ h4, List.map_cons, List.append_assoc]
    congr 1
    rw [List.singleton_append]
    congr 1
    apply ba_ext
    rw [mkB_data, ext_data]
  · rw [List.drop_of_length_le (by rw [List.length_take]; omega)]; simp
theorem CutI.done {c : UInt8} {s : ByteArray} {fr : Nat} {out : List ByteArray} (h : CutI c s s.size fr out) : splitW c s = out ++ [s.extract fr s.size] := by
  obtain ⟨h1, h2, h3, h4, h5⟩ := h
  rw [← ba_len, List.take_length] at h4
  rw [h3, splitC_free h4]
  congr 1
  rw [List.map_cons, List.map_nil]
  congr 1
  apply ba_ext
  rw [mkB_data, ext_data, ← ba_len, List.take_length]
theorem str_ix {s : ByteArray} {k : Nat} {c : UInt8} (h : s[k]? = some c) : s[((k : Nat) : Int).toNat]? = some c := by rw [Int.toNat_natCast]; exact h
theorem cut1_any (c : UInt8) (s : ByteArray) (hs : s.size ≤ 1000000) : Contract Tryz.prog 22 [.sc (.string (s)), .sc (.string (⟨#[c]⟩))] [.d (.sc (.string (mkB (cutC c s.data.toList).1))), .d (.sc (.string (mkB (cutC c s.data.toList).2.1))), .d (.sc (.bool ((cutC c s.data.toList).2.2)))] := by
 refine T.fn [] Tryz.func22 ?_
 refine x_call T.en_50 (liteCut_any c s hs) ?_
 all_goals (refine x_ret ?_; simp only [fitsL, fits, C.asD, and_true] <;> (exact ⟨rfl, rfl, rfl⟩))
theorem scriptTag_any (t : TagD) (h : tagIn t) : Contract Tryz.prog 9 [tD t] [.d (.sc (.string (tagT t)))] := by
 refine T.fn [] Tryz.func9 ?_
 have z1 := print_size h.1
 have z2 := print_size h.2
 refine And.intro ⟨T.mixed, by decide +kernel⟩ ?_
 refine x_call T.en_24 (numPrint_any t.r h.1) ?_
 refine x_cat ?_ (h := by ((simp only [ByteArray.size_append, lit_size, List.size_toArray, List.length_cons, List.length_nil]; omega)))
 refine x_call T.en_24 (numPrint_any t.n h.2) ?_
 refine x_cat ?_ (h := by ((simp only [ByteArray.size_append, lit_size, List.size_toArray, List.length_cons, List.length_nil]; omega)))
 all_goals (refine x_ret ?_; simp only [fitsL, fits, C.asD, and_true] <;> (refine sct (ba_ext ?_); simp [ba_app, tagT, printB]))
theorem ref34Tag_any (t : TagD) (h : tagIn t) : Contract Tryz.prog 11 [tD t] [.d (.sc (.string (tagT t)))] := by
 refine T.fn [] Tryz.func11 ?_
 have z1 := print_size h.1
 have z2 := print_size h.2
 refine And.intro ⟨T.mixed, by decide +kernel⟩ ?_
 refine x_call T.en_26 (refPrint_c t.r h.1) ?_
 refine x_cat ?_ (h := by ((simp only [ByteArray.size_append, lit_size, List.size_toArray, List.length_cons, List.length_nil]; omega)))
 refine x_call T.en_26 (refPrint_c t.n h.2) ?_
 refine x_cat ?_ (h := by ((simp only [ByteArray.size_append, lit_size, List.size_toArray, List.length_cons, List.length_nil]; omega)))
 all_goals (refine x_ret ?_; simp only [fitsL, fits, C.asD, and_true] <;> (refine sct (ba_ext ?_); simp [ba_app, tagT, printB]))
theorem scriptReadTag_any (s : ByteArray) (hs : s.size ≤ 1000000) : Contract Tryz.prog 8 [.sc (.string (s))] [.d (tD ((tagOf s).getD noTag)), .d (.sc (.int .i64 ((if (tagOf s).isSome = true then 0 else 4))))] := by
 refine T.fn [] Tryz.func8 ?_
 have hcs := cut_sizes 46 s
 refine x_call T.en_22 (cut1_any 46 s hs) ?_
 refine x_call T.en_23 (numRead_any (mkB (cutC 46 s.data.toList).1) (by omega)) ?_
 refine x_call T.en_23 (numRead_any (mkB (cutC 46 s.data.toList).2.1) (by omega)) ?_
 refine br (fun hg1 => ?y1) (fun hg1 => ?n1)
 case' y1 =>
  have hN := tag_cutC_no (s := s) (a := (cutC 46 s.data.toList).1) (b := (cutC 46 s.data.toList).2.1) (f := (cutC 46 s.data.toList).2.2) rfl (fun k => hg1 (by rw [show (numW (mkB (cutC 46 s.data.toList).1)).2 = (readOf (cutC 46 s.data.toList).1).2 by rw [show numW (mkB (cutC 46 s.data.toList).1) = readOf (mkB (cutC 46 s.data.toList).1).data.toList from rfl, mkB_data]]; exact k.1))
  refine brT ?_
 case' n1 =>
  refine br (fun hc3 => ?y3) (fun hc3 => ?n3)
  case' y3 =>
   have hN := tag_cutC_no (s := s) (a := (cutC 46 s.data.toList).1) (b := (cutC 46 s.data.toList).2.1) (f := (cutC 46 s.data.toList).2.2) rfl (fun k => hc3 (by rw [show (numW (mkB (cutC 46 s.data.toList).2.1)).2 = (readOf (cutC 46 s.data.toList).2.1).2 by rw [show numW (mkB (cutC 46 s.data.toList).2.1) = readOf (mkB (cutC 46 s.data.toList).2.1).data.toList from rfl, mkB_data]]; exact k.2))
  case' n3 =>
   have e1 : numW (mkB (cutC 46 s.data.toList).1) = readOf (cutC 46 s.data.toList).1 := by rw [show numW (mkB (cutC 46 s.data.toList).1) = readOf (mkB (cutC 46 s.data.toList).1).data.toList from rfl, mkB_data]
   have e2 : numW (mkB (cutC 46 s.data.toList).2.1) = readOf (cutC 46 s.data.toList).2.1 := by rw [show numW (mkB (cutC 46 s.data.toList).2.1) = readOf (mkB (cutC 46 s.data.toList).2.1).data.toList from rfl, mkB_data]
   have hY := tag_cutC (s := s) (a := (cutC 46 s.data.toList).1) (b := (cutC 46 s.data.toList).2.1) (f := (cutC 46 s.data.toList).2.2) rfl (by rw [← e1]; simp_all) (by rw [← e2]; simp_all)
 all_goals (refine x_ret ?_; simp only [fitsL, fits, C.asD, and_true] <;> (first | (rw [hN]; exact ⟨rfl, rfl⟩) | (rw [hY, e1, e2]; exact ⟨rfl, rfl⟩)))
theorem ref34Number_any (s : ByteArray) (hs : s.size ≤ 1000000) : Contract Tryz.prog 25 [.sc (.string (s))] [.d (.sc (.int .i64 ((numW s).1))), .d (.sc (.bool (decide ((numW s).2 = 0))))] := by
 refine T.fn [] Tryz.func25 ?_
 refine x_call T.en_53 (refNumRead_any s hs) ?_
 all_goals (refine x_ret ?_; simp only [fitsL, fits, C.asD, and_true] <;> (first | exact ⟨rfl, rfl⟩ | simp))
end Go.Vm
end
section
namespace Go.Vm
open Go.RowKit Go.Proofs
set_option maxRecDepth 10000
open Go.Proofs.YtdfbohaohjaloaaGreatDoor Punnet.Name Punnet.Num
theorem fieldRead_any (s : ByteArray) (hs : s.size ≤ 1000000) : Contract Tryz.prog 141 [.sc (.string (s))] [.d (rD ((placeOf s).getD noRef)), .d (.sc (.int .i64 ((if (placeOf s).isSome = true then 0 else 4))))] := by
 refine T.fn [] Tryz.func141 ?_
 refine x_call T.en_222 (split1_any 46 s hs) ?_
 first | refine x_ix (by first | exact wd_ix (i := 0) rfl (by first | exact splitW_pos | omega) | exact wd_ix (i := 1) rfl (by first | exact splitW_pos | omega) | exact wd_ix (i := 2) rfl (by first | exact splitW_pos | omega) | exact wd_ix (i := 3) rfl (by first | exact splitW_pos | omega) | exact wd_ix (i := 4) rfl (by first | exact splitW_pos | omega) | exact wd_ix (i := 5) rfl (by first | exact splitW_pos | omega)) ?_ | refine x_ixI (by first | exact wd_ix (i := 0) rfl (by first | exact splitW_pos | omega) | exact wd_ix (i := 1) rfl (by first | exact splitW_pos | omega) | exact wd_ix (i := 2) rfl (by first | exact splitW_pos | omega) | exact wd_ix (i := 3) rfl (by first | exact splitW_pos | omega) | exact wd_ix (i := 4) rfl (by first | exact splitW_pos | omega) | exact wd_ix (i := 5) rfl (by first | exact splitW_pos | omega)) ?_
 refine br (fun hc1 => ?y1) (fun hc1 => ?n1)
 case' y1 =>
  have hsc : wd (splitW 46 s) 0 = ⟨#[104, 101, 97, 100]⟩ := hc1
  refine x_len ?_
  refine br (fun hc2 => ?y2) (fun hc2 => ?n2)
  case' y2 =>
   have hl2 : (splitW 46 s).length = 2 := by omega
   have hcd : candR (splitW 46 s) = ⟨0, noB, wd (splitW 46 s) 1⟩ := by unfold candR; simp_all
   first | refine x_ix (by first | exact wd_ix (i := 0) rfl (by first | exact splitW_pos | omega) | exact wd_ix (i := 1) rfl (by first | exact splitW_pos | omega) | exact wd_ix (i := 2) rfl (by first | exact splitW_pos | omega) | exact wd_ix (i := 3) rfl (by first | exact splitW_pos | omega) | exact wd_ix (i := 4) rfl (by first | exact splitW_pos | omega) | exact wd_ix (i := 5) rfl (by first | exact splitW_pos | omega)) ?_ | refine x_ixI (by first | exact wd_ix (i := 0) rfl (by first | exact splitW_pos | omega) | exact wd_ix (i := 1) rfl (by first | exact splitW_pos | omega) | exact wd_ix (i := 2) rfl (by first | exact splitW_pos | omega) | exact wd_ix (i := 3) rfl (by first | exact splitW_pos | omega) | exact wd_ix (i := 4) rfl (by first | exact splitW_pos | omega) | exact wd_ix (i := 5) rfl (by first | exact splitW_pos | omega)) ?_
   refine x_call T.en_219 (by first | exact place_any ⟨0, noB, wd (splitW 46 s) 1⟩ | exact place_any ⟨0, wd (splitW 46 s) 1, wd (splitW 46 s) 2⟩ | exact place_any ⟨0, noB, noB⟩ | exact place_any ⟨1, noB, wd (splitW 46 s) 1⟩ | exact place_any ⟨1, wd (splitW 46 s) 1, wd (splitW 46 s) 2⟩ | exact place_any ⟨1, noB, noB⟩) ?_
   refine br (fun hg3 => ?y3) (fun hg3 => ?n3)
   case' y3 =>
    have hN := place_no2 (s := s) (by rw [hcd]; exact hg3)
    refine brT ?_
   case' n3 =>
    have hpb : placeB (candR (splitW 46 s)) = true := by rw [hcd]; exact hg3
    refine x_call T.en_134 (by first | exact fieldPrint_any ⟨0, noB, wd (splitW 46 s) 1⟩ | exact fieldPrint_any ⟨0, wd (splitW 46 s) 1, wd (splitW 46 s) 2⟩ | exact fieldPrint_any ⟨0, noB, noB⟩ | exact fieldPrint_any ⟨1, noB, wd (splitW 46 s) 1⟩ | exact fieldPrint_any ⟨1, wd (splitW 46 s) 1, wd (splitW 46 s) 2⟩ | exact fieldPrint_any ⟨1, noB, noB⟩) ?_
    refine br (fun hc5 => ?y5) (fun hc5 => ?n5)
    case' y5 =>
     have hN := place_no3 (s := s) (by rw [hcd]; intro e; apply hc5; rw [if_pos (by rw [← hcd]; exact hpb)]; exact e)
    case' n5 =>
     have hY := placeOf_some hpb (s := s) (by rw [hcd]; have h9 := hc5; rw [if_pos (by rw [← hcd]; exact hpb)] at h9; exact h9)
     rw [hcd] at hY
  case' n2 =>
   refine br (fun hc6 => ?y6) (fun hc6 => ?n6)
   case' y6 =>
    have hl3 : (splitW 46 s).length = 3 := by omega
    have hcd : candR (splitW 46 s) = ⟨0, wd (splitW 46 s) 1, wd (splitW 46 s) 2⟩ := by unfold candR; simp_all
    refine And.intro ⟨T.mixed, by decide +kernel⟩ ?_
    first | refine x_ix (by first | exact wd_ix (i := 0) rfl (by first | exact splitW_pos | omega) | exact wd_ix (i := 1) rfl (by first | exact splitW_pos | omega) | exact wd_ix (i := 2) rfl (by first | exact splitW_pos | omega) | exact wd_ix (i := 3) rfl (by first | exact splitW_pos | omega) | exact wd_ix (i := 4) rfl (by first | exact splitW_pos | omega) | exact wd_ix (i := 5) rfl (by first | exact splitW_pos | omega)) ?_ | refine x_ixI (by first | exact wd_ix (i := 0) rfl (by first | exact splitW_pos | omega) | exact wd_ix (i := 1) rfl (by first | exact splitW_pos | omega) | exact wd_ix (i := 2) rfl (by first | exact splitW_pos | omega) | exact wd_ix (i := 3) rfl (by first | exact splitW_pos | omega) | exact wd_ix (i := 4) rfl (by first | exact splitW_pos | omega) | exact wd_ix (i := 5) rfl (by first | exact splitW_pos | omega)) ?_
    first | refine x_ix (by first | exact wd_ix (i := 0) rfl (by first | exact splitW_pos | omega) | exact wd_ix (i := 1) rfl (by first | exact splitW_pos | omega) | exact wd_ix (i := 2) rfl (by first | exact splitW_pos | omega) | exact wd_ix (i := 3) rfl (by first | exact splitW_pos | omega) | exact wd_ix (i := 4) rfl (by first | exact splitW_pos | omega) | exact wd_ix (i := 5) rfl (by first | exact splitW_pos | omega)) ?_ | refine x_ixI (by first | exact wd_ix (i := 0) rfl (by first | exact splitW_pos | omega) | exact wd_ix (i := 1) rfl (by first | exact splitW_pos | omega) | exact wd_ix (i := 2) rfl (by first | exact splitW_pos | omega) | exact wd_ix (i := 3) rfl (by first | exact splitW_pos | omega) | exact wd_ix (i := 4) rfl (by first | exact splitW_pos | omega) | exact wd_ix (i := 5) rfl (by first | exact splitW_pos | omega)) ?_
    refine x_call T.en_219 (by first | exact place_any ⟨0, noB, wd (splitW 46 s) 1⟩ | exact place_any ⟨0, wd (splitW 46 s) 1, wd (splitW 46 s) 2⟩ | exact place_any ⟨0, noB, noB⟩ | exact place_any ⟨1, noB, wd (splitW 46 s) 1⟩ | exact place_any ⟨1, wd (splitW 46 s) 1, wd (splitW 46 s) 2⟩ | exact place_any ⟨1, noB, noB⟩) ?_
    refine br (fun hg7 => ?y7) (fun hg7 => ?n7)
    case' y7 =>
     have hN := place_no2 (s := s) (by rw [hcd]; exact hg7)
     refine brT ?_
    case' n7 =>
     have hpb : placeB (candR (splitW 46 s)) = true := by rw [hcd]; exact hg7
     refine x_call T.en_134 (by first | exact fieldPrint_any ⟨0, noB, wd (splitW 46 s) 1⟩ | exact fieldPrint_any ⟨0, wd (splitW 46 s) 1, wd (splitW 46 s) 2⟩ | exact fieldPrint_any ⟨0, noB, noB⟩ | exact fieldPrint_any ⟨1, noB, wd (splitW 46 s) 1⟩ | exact fieldPrint_any ⟨1, wd (splitW 46 s) 1, wd (splitW 46 s) 2⟩ | exact fieldPrint_any ⟨1, noB, noB⟩) ?_
     refine br (fun hc9 => ?y9) (fun hc9 => ?n9)
     case' y9 =>
      have hN := place_no3 (s := s) (by rw [hcd]; intro e; apply hc9; rw [if_pos (by rw [← hcd]; exact hpb)]; exact e)
     case' n9 =>
      have hY := placeOf_some hpb (s := s) (by rw [hcd]; have h9 := hc9; rw [if_pos (by rw [← hcd]; exact hpb)] at h9; exact h9)
      rw [hcd] at hY
   case' n6 =>
    have hl2 : ¬ (splitW 46 s).length = 2 := by omega
    have hl3 : ¬ (splitW 46 s).length = 3 := by omega
    have hcd : candR (splitW 46 s) = ⟨0, noB, noB⟩ := by unfold candR; simp_all
    refine x_call T.en_219 (by first | exact place_any ⟨0, noB, wd (splitW 46 s) 1⟩ | exact place_any ⟨0, wd (splitW 46 s) 1, wd (splitW 46 s) 2⟩ | exact place_any ⟨0, noB, noB⟩ | exact place_any ⟨1, noB, wd (splitW 46 s) 1⟩ | exact place_any ⟨1, wd (splitW 46 s) 1, wd (splitW 46 s) 2⟩ | exact place_any ⟨1, noB, noB⟩) ?_
    refine br (fun hg10 => ?y10) (fun hg10 => ?n10)
    case' y10 =>
     have hN := place_no2 (s := s) (by rw [hcd]; exact hg10)
     refine brT ?_
    case' n10 =>
     have hpb : placeB (candR (splitW 46 s)) = true := by rw [hcd]; exact hg10
     refine x_call T.en_134 (by first | exact fieldPrint_any ⟨0, noB, wd (splitW 46 s) 1⟩ | exact fieldPrint_any ⟨0, wd (splitW 46 s) 1, wd (splitW 46 s) 2⟩ | exact fieldPrint_any ⟨0, noB, noB⟩ | exact fieldPrint_any ⟨1, noB, wd (splitW 46 s) 1⟩ | exact fieldPrint_any ⟨1, wd (splitW 46 s) 1, wd (splitW 46 s) 2⟩ | exact fieldPrint_any ⟨1, noB, noB⟩) ?_
     refine br (fun hc12 => ?y12) (fun hc12 => ?n12)
     case' y12 =>
      have hN := place_no3 (s := s) (by rw [hcd]; intro e; apply hc12; rw [if_pos (by rw [← hcd]; exact hpb)]; exact e)
     case' n12 =>
      have hY := placeOf_some hpb (s := s) (by rw [hcd]; have h9 := hc12; rw [if_pos (by rw [← hcd]; exact hpb)] at h9; exact h9)
      rw [hcd] at hY
 case' n1 =>
  refine br (fun hc13 => ?y13) (fun hc13 => ?n13)
  case' y13 =>
   have hsc : wd (splitW 46 s) 0 = ⟨#[108, 105, 110, 101]⟩ := hc13
   refine x_len ?_
   refine br (fun hc14 => ?y14) (fun hc14 => ?n14)
   case' y14 =>
    have hl2 : (splitW 46 s).length = 2 := by omega
    have hcd : candR (splitW 46 s) = ⟨1, noB, wd (splitW 46 s) 1⟩ := by unfold candR; simp_all
    first | refine x_ix (by first | exact wd_ix (i := 0) rfl (by first | exact splitW_pos | omega) | exact wd_ix (i := 1) rfl (by first | exact splitW_pos | omega) | exact wd_ix (i := 2) rfl (by first | exact splitW_pos | omega) | exact wd_ix (i := 3) rfl (by first | exact splitW_pos | omega) | exact wd_ix (i := 4) rfl (by first | exact splitW_pos | omega) | exact wd_ix (i := 5) rfl (by first | exact splitW_pos | omega)) ?_ | refine x_ixI (by first | exact wd_ix (i := 0) rfl (by first | exact splitW_pos | omega) | exact wd_ix (i := 1) rfl (by first | exact splitW_pos | omega) | exact wd_ix (i := 2) rfl (by first | exact splitW_pos | omega) | exact wd_ix (i := 3) rfl (by first | exact splitW_pos | omega) | exact wd_ix (i := 4) rfl (by first | exact splitW_pos | omega) | exact wd_ix (i := 5) rfl (by first | exact splitW_pos | omega)) ?_
    refine x_call T.en_219 (by first | exact place_any ⟨0, noB, wd (splitW 46 s) 1⟩ | exact place_any ⟨0, wd (splitW 46 s) 1, wd (splitW 46 s) 2⟩ | exact place_any ⟨0, noB, noB⟩ | exact place_any ⟨1, noB, wd (splitW 46 s) 1⟩ | exact place_any ⟨1, wd (splitW 46 s) 1, wd (splitW 46 s) 2⟩ | exact place_any ⟨1, noB, noB⟩) ?_
    refine br (fun hg15 => ?y15) (fun hg15 => ?n15)
    case' y15 =>
     have hN := place_no2 (s := s) (by rw [hcd]; exact hg15)
     refine brT ?_
    case' n15 =>
     have hpb : placeB (candR (splitW 46 s)) = true := by rw [hcd]; exact hg15
     refine x_call T.en_134 (by first | exact fieldPrint_any ⟨0, noB, wd (splitW 46 s) 1⟩ | exact fieldPrint_any ⟨0, wd (splitW 46 s) 1, wd (splitW 46 s) 2⟩ | exact fieldPrint_any ⟨0, noB, noB⟩ | exact fieldPrint_any ⟨1, noB, wd (splitW 46 s) 1⟩ | exact fieldPrint_any ⟨1, wd (splitW 46 s) 1, wd (splitW 46 s) 2⟩ | exact fieldPrint_any ⟨1, noB, noB⟩) ?_
     refine br (fun hc17 => ?y17) (fun hc17 => ?n17)
     case' y17 =>
      have hN := place_no3 (s := s) (by rw [hcd]; intro e; apply hc17; rw [if_pos (by rw [← hcd]; exact hpb)]; exact e)
     case' n17 =>
      have hY := placeOf_some hpb (s := s) (by rw [hcd]; have h9 := hc17; rw [if_pos (by rw [← hcd]; exact hpb)] at h9; exact h9)
      rw [hcd] at hY
   case' n14 =>
    refine br (fun hc18 => ?y18) (fun hc18 => ?n18)
    case' y18 =>
     have hl3 : (splitW 46 s).length = 3 := by omega
     have hcd : candR (splitW 46 s) = ⟨1, wd (splitW 46 s) 1, wd (splitW 46 s) 2⟩ := by unfold candR; simp_all
     refine And.intro ⟨T.mixed, by decide +kernel⟩ ?_
     first | refine x_ix (by first | exact wd_ix (i := 0) rfl (by first | exact splitW_pos | omega) | exact wd_ix (i := 1) rfl (by first | exact splitW_pos | omega) | exact wd_ix (i := 2) rfl (by first | exact splitW_pos | omega) | exact wd_ix (i := 3) rfl (by first | exact splitW_pos | omega) | exact wd_ix (i := 4) rfl (by first | exact splitW_pos | omega) | exact wd_ix (i := 5) rfl (by first | exact splitW_pos | omega)) ?_ | refine x_ixI (by first | exact wd_ix (i := 0) rfl (by first | exact splitW_pos | omega) | exact wd_ix (i := 1) rfl (by first | exact splitW_pos | omega) | exact wd_ix (i := 2) rfl (by first | exact splitW_pos | omega) | exact wd_ix (i := 3) rfl (by first | exact splitW_pos | omega) | exact wd_ix (i := 4) rfl (by first | exact splitW_pos | omega) | exact wd_ix (i := 5) rfl (by first | exact splitW_pos | omega)) ?_
     first | refine x_ix (by first | exact wd_ix (i := 0) rfl (by first | exact splitW_pos | omega) | exact wd_ix (i := 1) rfl (by first | exact splitW_pos | omega) | exact wd_ix (i := 2) rfl (by first | exact splitW_pos | omega) | exact wd_ix (i := 3) rfl (by first | exact splitW_pos | omega) | exact wd_ix (i := 4) rfl (by first | exact splitW_pos | omega) | exact wd_ix (i := 5) rfl (by first | exact splitW_pos | omega)) ?_ | refine x_ixI (by first | exact wd_ix (i := 0) rfl (by first | exact splitW_pos | omega) | exact wd_ix (i := 1) rfl (by first | exact splitW_pos | omega) | exact wd_ix (i := 2) rfl (by first | exact splitW_pos | omega) | exact wd_ix (i := 3) rfl (by first | exact splitW_pos | omega) | exact wd_ix (i := 4) rfl (by first | exact splitW_pos | omega) | exact wd_ix (i := 5) rfl (by first | exact splitW_pos | omega)) ?_
     refine x_call T.en_219 (by first | exact place_any ⟨0, noB, wd (splitW 46 s) 1⟩ | exact place_any ⟨0, wd (splitW 46 s) 1, wd (splitW 46 s) 2⟩ | exact place_any ⟨0, noB, noB⟩ | exact place_any ⟨1, noB, wd (splitW 46 s) 1⟩ | exact place_any ⟨1, wd (splitW 46 s) 1, wd (splitW 46 s) 2⟩ | exact place_any ⟨1, noB, noB⟩) ?_
     refine br (fun hg19 => ?y19) (fun hg19 => ?n19)
     case' y19 =>
      have hN := place_no2 (s := s) (by rw [hcd]; exact hg19)
      refine brT ?_
     case' n19 =>
      have hpb : placeB (candR (splitW 46 s)) = true := by rw [hcd]; exact hg19
      refine x_call T.en_134 (by first | exact fieldPrint_any ⟨0, noB, wd (splitW 46 s) 1⟩ | exact fieldPrint_any ⟨0, wd (splitW 46 s) 1, wd (splitW 46 s) 2⟩ | exact fieldPrint_any ⟨0, noB, noB⟩ | exact fieldPrint_any ⟨1, noB, wd (splitW 46 s) 1⟩ | exact fieldPrint_any ⟨1, wd (splitW 46 s) 1, wd (splitW 46 s) 2⟩ | exact fieldPrint_any ⟨1, noB, noB⟩) ?_
      refine br (fun hc21 => ?y21) (fun hc21 => ?n21)
      case' y21 =>
       have hN := place_no3 (s := s) (by rw [hcd]; intro e; apply hc21; rw [if_pos (by rw [← hcd]; exact hpb)]; exact e)
      case' n21 =>
       have hY := placeOf_some hpb (s := s) (by rw [hcd]; have h9 := hc21; rw [if_pos (by rw [← hcd]; exact hpb)] at h9; exact h9)
       rw [hcd] at hY
    case' n18 =>
     have hl2 : ¬ (splitW 46 s).length = 2 := by omega
     have hl3 : ¬ (splitW 46 s).length = 3 := by omega
     have hcd : candR (splitW 46 s) = ⟨1, noB, noB⟩ := by unfold candR; simp_all
     refine x_call T.en_219 (by first | exact place_any ⟨0, noB, wd (splitW 46 s) 1⟩ | exact place_any ⟨0, wd (splitW 46 s) 1, wd (splitW 46 s) 2⟩ | exact place_any ⟨0, noB, noB⟩ | exact place_any ⟨1, noB, wd (splitW 46 s) 1⟩ | exact place_any ⟨1, wd (splitW 46 s) 1, wd (splitW 46 s) 2⟩ | exact place_any ⟨1, noB, noB⟩) ?_
     refine br (fun hg22 => ?y22) (fun hg22 => ?n22)
     case' y22 =>
      have hN := place_no2 (s := s) (by rw [hcd]; exact hg22)
      refine brT ?_
     case' n22 =>
      have hpb : placeB (candR (splitW 46 s)) = true := by rw [hcd]; exact hg22
      refine x_call T.en_134 (by first | exact fieldPrint_any ⟨0, noB, wd (splitW 46 s) 1⟩ | exact fieldPrint_any ⟨0, wd (splitW 46 s) 1, wd (splitW 46 s) 2⟩ | exact fieldPrint_any ⟨0, noB, noB⟩ | exact fieldPrint_any ⟨1, noB, wd (splitW 46 s) 1⟩ | exact fieldPrint_any ⟨1, wd (splitW 46 s) 1, wd (splitW 46 s) 2⟩ | exact fieldPrint_any ⟨1, noB, noB⟩) ?_
      refine br (fun hc24 => ?y24) (fun hc24 => ?n24)
      case' y24 =>
       have hN := place_no3 (s := s) (by rw [hcd]; intro e; apply hc24; rw [if_pos (by rw [← hcd]; exact hpb)]; exact e)
      case' n24 =>
       have hY := placeOf_some hpb (s := s) (by rw [hcd]; have h9 := hc24; rw [if_pos (by rw [← hcd]; exact hpb)] at h9; exact h9)
       rw [hcd] at hY
  case' n13 =>
   have hN := place_no1 (s := s) (by assumption) (by assumption)
 all_goals (refine x_ret ?_; simp only [fitsL, fits, C.asD, and_true] <;> (first | (rw [hN]; exact ⟨rfl, rfl⟩) | (rw [hY]; exact ⟨rfl, rfl⟩)))
end Go.Vm
end
section
namespace Go.Vm
open Go.RowKit Go.Proofs
set_option maxRecDepth 10000
open Go.Proofs.YtdfbohaohjaloaaGreatDoor Punnet.Name Punnet.Num
end Go.Vm
end
section
namespace Go.Vm
open Go.RowKit Go.Proofs Go.Proofs.YtdfbohaohjaloaaGreatDoor Punnet.Name Punnet.Num
end Go.Vm
end
section
namespace Go.Vm
open Go.Proofs Go.Proofs.YtdfbohaohjaloaaGreatDoor Punnet.Name Punnet.Num
structure Vec13D where
 e0 : ByteArray
 e1 : ByteArray
 e2 : ByteArray
 e3 : ByteArray
 e4 : ByteArray
 e5 : ByteArray
 e6 : ByteArray
 e7 : ByteArray
 e8 : ByteArray
 e9 : ByteArray
 e10 : ByteArray
 e11 : ByteArray
 e12 : ByteArray
 deriving DecidableEq
structure ReaderD where
 words : (List ByteArray)
 bad : Bool
 deriving DecidableEq
structure MoveD where
 kind : Int
 who : Int
 to_ : Int
 n : Int
 re : Int
 im : Int
 off : Int
 deed : DeedD
 deriving DecidableEq
end Go.Vm
end
section
namespace Go.Vm
open Go.Proofs Go.Proofs.YtdfbohaohjaloaaGreatDoor Punnet.Name Punnet.Num
structure FormD where
 verb : ByteArray
 words : ByteArray
 deriving DecidableEq
structure GotD where
 n : (List Int)
 t : (List TagD)
 s : (List ByteArray)
 p : (List RefD)
 q : (List ByteArray)
 deriving DecidableEq
end Go.Vm
end
section
namespace Go.Vm
open Go.Proofs Go.Proofs.YtdfbohaohjaloaaGreatDoor Punnet.Name Punnet.Num
noncomputable def law34_ScriptTags  (t : TagD) (s0 : ByteArray) : Option Bool := if ¬ ((true) = true) then (some false) else (if 200 < ((s0.size : Nat) : Int) then (some true) else (grd (tagIn t) (grd ((tagT t).size ≤ 1000000) (grd (s0.size ≤ 1000000) (grd (s0.size ≤ 1000000) (grd (tagIn t) (grd (tagIn t) (if (tagT t) = (tagT t) then (if ((tagOf (tagT t)).getD noTag) = t then (if (if (tagOf (tagT t)).isSome = true then 0 else 4 : Int) = 0 then (if ((tagOf s0).getD noTag) = ((tagOf s0).getD noTag) then (if ((((tagOf s0).isSome)) == (decide ((if (tagOf s0).isSome = true then 0 else 4 : Int) = 0))) = true then (if ((tagOf s0).isSome) = true then (if ¬ (((tagOf s0).isSome) = true) then (some true) else (grd (tagIn ((tagOf s0).getD noTag)) (some (decide ((tagT ((tagOf s0).getD noTag)) = s0))))) else (if (if (tagOf s0).isSome = true then 0 else 4 : Int) = 4 then (if ¬ (((tagOf s0).isSome) = true) then (some true) else (grd (tagIn ((tagOf s0).getD noTag)) (some (decide ((tagT ((tagOf s0).getD noTag)) = s0))))) else (some false))) else (some false)) else (some false)) else (some false)) else (some false)) else (some false)))))))))
end Go.Vm
end
section
namespace Go.Vm
open Go.RowKit
section
variable {P : Program} {N : Nat} {t : Tr} {h : Hp} {o : Oper}
end
end Go.Vm
end
section
namespace Go.Vm
open Go.RowKit
section
variable {P : Program} {N : Nat} {o : Oper} {env : Env}
end
section
variable {P : Program} {N : Nat} {t : Tr} {h : Hp} {o : Oper}
end
end Go.Vm
end
section
namespace Go.Vm
open Go.RowKit
mutual
def D.no (t : Nat) : D → Bool
 | .sc _ => true
 | .agg cs => D.noL t cs
 | .row xs => D.noL t xs
 | .ptr id _ => !Nat.beq id t
 | .mp id => !Nat.beq id t
 | .fn _ cs => D.noL t cs
 | .rr _ _ _ => true
 | .stale => true
def D.noL (t : Nat) : List D → Bool
 | [] => true
 | c :: cs => D.no t c && D.noL t cs
end
def C.no (t : Nat) : C → Bool
 | .d x => D.no t x
 | .own _ _ xs => D.noL t xs
 | .nil => true
def S.no (t : Nat) : S → Prop
 | .obj cs => D.noL t cs = true
 | .mapo es => ∀ p ∈ es, D.no t p.1 = true ∧ D.no t p.2 = true
 | .pack cs rows => D.noL t cs = true ∧ ∀ r ∈ rows, D.noL t r.2.2 = true
 | _ => True
variable {ro ro' : Roles} {t : Nat} {b : Nat} {P : Program} {w w' : World} {v : Value} {base : Nat}
end Go.Vm
end
section
namespace Go.Vm
open Go.RowKit
section
variable {P : Program} {T : TypeId} {x y : Operand}
end
section
variable {α : Type} {f : α → D} {R z A B : List α} {sz bytes : Nat} {lo hi : Int} {K : List D → Prop}
end
section
variable {P : Program} {N : Nat} {t : Tr} {h : Hp} {o : Oper}
end
end Go.Vm
end
section
namespace Go.Vm
open Go.RowKit Go.Proofs
set_option maxRecDepth 10000
theorem v_23 (x : TagD) : conc (tD x) = some (.agg #[.int .i64 x.r, .int .i64 x.n]) := rfl
theorem rune_23 (r s : TagD) (x y : Operand) (w : World) : (do eqGuard .eql 23 x y (.agg #[.int .i64 r.r, .int .i64 r.n]) (.agg #[.int .i64 s.r, .int .i64 s.n]); binOp .eql 23 (.agg #[.int .i64 r.r, .int .i64 r.n]) (.agg #[.int .i64 s.r, .int .i64 s.n]) : Sem Value).run Tryz.prog w = .ok (.bool (decide (r = s))) w := by
 obtain ⟨a, b⟩ := r
 obtain ⟨a', b'⟩ := s
 simp [go_sem, eq_strs]
 repeat (first | (split <;> simp_all; done) | split)
 all_goals simp_all
theorem xeq_23e {x y : Operand} {K : Value → Prop} (r s : TagD) (hK : K (.bool (decide (r = s)))) : ∃ u v r', (conc (tD r) = some u ∧ conc (tD s) = some v) ∧ (∀ w, (do eqGuard .eql 23 x y u v; binOp .eql 23 u v : Sem Value).run Tryz.prog w = .ok r' w) ∧ plainV r' = true ∧ K r' := x_eqS (v_23 r) (v_23 s) (fun w => rune_23 r s x y w) rfl hK
end Go.Vm
end
section
namespace Go.Vm
open Go.RowKit Go.Proofs
set_option maxRecDepth 10000
open Go.Proofs.YtdfbohaohjaloaaGreatDoor Punnet.Name Punnet.Num
theorem cut_at {s : ByteArray} {k : Nat} (hi : (46 : UInt8) ∉ s.data.toList.take k) (hc : s[k]? = some 46) : cutC 46 s.data.toList = (s.data.toList.take k, s.data.toList.drop (k + 1), true) := by
  rw [get_data'] at hc
  have hl := (List.getElem?_eq_some_iff.1 hc).1
  have e : s.data.toList = s.data.toList.take k ++ 46 :: s.data.toList.drop (k + 1) := by
    conv => lhs; rw [← List.take_append_drop k s.data.toList]
    rw [List.drop_eq_getElem_cons hl, (List.getElem?_eq_some_iff.1 hc).2]
  conv => lhs; rw [e]
  exact cutC_hit hi
theorem not_next {s : ByteArray} {k : Nat} {c : UInt8} (hi : (46 : UInt8) ∉ s.data.toList.take k) (hc : s[k]? = some c) (hn : ¬ c = 46) : (46 : UInt8) ∉ s.data.toList.take (k + 1) := by
  rw [get_data'] at hc
  rw [List.take_add_one, hc]
  intro q
  rcases List.mem_append.1 q with q | q
  · exact hi q
  · simp at q; exact hn q.symm
theorem tag_none_of {s : ByteArray} (h : (46 : UInt8) ∉ s.data.toList) : tagOf s = none := tag_cutC_no (cutC_miss h) fun q => absurd q.2 (by decide)
theorem tag_none_at {s : ByteArray} {k : Nat} (h : k = s.size) (hi : (46 : UInt8) ∉ s.data.toList.take k) : tagOf s = none := tag_none_of (by rw [h, ← ba_len, List.take_length] at hi; exact hi)
theorem ref34ReadTag_any (s : ByteArray) (hs : s.size ≤ 1000000) : Contract Tryz.prog 10 [.sc (.string (s))] [.d (tD ((tagOf s).getD noTag)), .d (.sc (.bool ((tagOf s).isSome)))] := by
 refine T.fn [] Tryz.func10 ?_
 refine xloopR (fb := []) T.ok (Nat.le_of_ble_eq_true rfl) [0, 2] (fun (k : Nat) => [(4, .c (.d (.sc (.int .i64 (k : Nat)))))]) (fun k => k ≤ s.size ∧ (46 : UInt8) ∉ s.data.toList.take k) (fun k => s.size - k) 0 ⟨Nat.zero_le _, by simp⟩ (x_ent (by first | rfl | (simp only [Tr.get]; simp; done)) trivial) ?_
 rintro k ⟨hk, hi⟩
 refine x_len ?_
 refine br (fun hc1 => ?y1) (fun hc1 => ?n1)
 case' y1 =>
  obtain ⟨c, hc⟩ : ∃ c, s[k]? = some c := ⟨_, getElem?_pos s k (by omega)⟩
  first | refine x_ch (by exact str_ix hc) ?_ | refine x_chI (by exact str_ix hc) ?_
  refine br (fun hc2 => ?y2) (fun hc2 => ?n2)
  case' y2 =>
   have hcm : ¬ c = 46 := by rintro rfl; exact hc2 rfl
   first | refine x_inc ?_ (h := by (first | omega | (simp; omega))) | refine x_add ?_ (h := by first | exact IntWalk.i64_in _ (by (first | omega | (simp; omega))) | rfl) | refine x_bin rfl rfl ?_
   refine x_rnd (k + 1) ⟨by omega, not_next hi hc hcm⟩ (by (try dsimp only); omega) rfl (x_ent (by first | rfl | (simp only [Tr.get]; simp; done)) trivial) (by first | rfl | (funext u; simp only [hdrop, hset, hpost, hOf]; (repeat' split) <;> rfl))
  case' n2 =>
   have hc46 : c = 46 := by rw [← UInt8.toNat_inj]; show c.toNat = 46; omega
   have hcut := cut_at hi (by rw [← hc46]; exact hc)
   have e1 : numW (s.extract 0 k) = readOf (s.data.toList.take k) := by show readOf _ = _; rw [ext_data, List.drop_zero]
   have e2 : numW (s.extract (k + 1) s.size) = readOf (s.data.toList.drop (k + 1)) := by show readOf _ = _; rw [ext_data, ← ba_len, List.take_length]
   have hz1 : (s.extract 0 k).size ≤ 1000000 := by rw [ByteArray.size_extract]; omega
   have hz2 : (s.extract (k + 1) s.size).size ≤ 1000000 := by rw [ByteArray.size_extract]; omega
   first | refine x_bnd ?_ | refine x_bndI ?_
   refine x_str ?_ (h1 := by (first | omega | (simp; omega))) (h2 := by (first | omega | (simp; omega)))
   refine x_call T.en_25 (by first | exact ref34Number_any (s.extract 0 k) hz1 | exact ref34Number_any (s.extract (k + 1) s.size) hz2) ?_
   first | refine x_inc ?_ (h := by (first | omega | (simp; omega))) | refine x_add ?_ (h := by first | exact IntWalk.i64_in _ (by (first | omega | (simp; omega))) | rfl) | refine x_bin rfl rfl ?_
   first | refine x_bnd ?_ | refine x_bndI ?_
   refine x_str ?_ (h1 := by (first | omega | (simp; omega))) (h2 := by (first | omega | (simp; omega)))
   refine x_call T.en_25 (by first | exact ref34Number_any (s.extract 0 k) hz1 | exact ref34Number_any (s.extract (k + 1) s.size) hz2) ?_
   refine br (fun hg3 => ?y3) (fun hg3 => ?n3)
   case' y3 =>
    have h1 := hg3
    refine br (fun hc4 => ?y4) (fun hc4 => ?n4)
    case' y4 =>
     have hY := tag_cutC hcut (by rw [← e1]; exact h1) (by rw [← e2]; exact hc4)
    case' n4 =>
     have hN := tag_cutC_no hcut (fun q => hc4 (by rw [e2]; exact q.2))
   case' n3 =>
    have hN := tag_cutC_no hcut (fun q => hg3 (by rw [e1]; exact q.1))
    refine brF ?_
 case' n1 =>
  have hN := tag_none_at (s := s) (k := k) (by omega) hi
 all_goals (refine x_ret ?_; simp only [fitsL, fits, C.asD, and_true] <;> (first | (rw [hN]; (first | rfl | (constructor <;> rfl))) | (rw [hY, e1, e2]; (first | rfl | (constructor <;> rfl)))))
end Go.Vm
end
section
namespace Go.Vm
open Go.RowKit Go.Proofs
set_option maxRecDepth 10000
open Go.Proofs Go.Proofs.YtdfbohaohjaloaaGreatDoor Punnet.Name Punnet.Num
end Go.Vm
end
section
namespace Go.Vm
open Go.RowKit Go.Proofs
set_option maxRecDepth 10000
open Go.Proofs Go.Proofs.YtdfbohaohjaloaaGreatDoor Punnet.Name Punnet.Num
end Go.Vm
end
section
namespace Go.Rn
open Go.RowKit
inductive V where
  | sc (v : Value)
  | agg (cs : List V)
  | tup (cs : List V)
  | ptr (id off : Nat)
  | sl (id off sz n : Nat) (cap : Option Nat)
  | mp (id : Nat)
  | it (id : Nat)
  | fn (f : FuncId) (cs : List V)
  | opq (k : Nat)
instance : Inhabited V := ⟨.tup []⟩
inductive Blk where
  | cells (cs : List V)
  | ro (cs : List V)
  | map (es : List (V × V))
  | iter (m : Option Nat) (n k : Nat)
structure Pl where
  b : Nat
  base : Nat
  room : Nat
  sz : Nat
structure Pi where
  pl : Nat → Option Pl
  op : Nat → Value
  fl : List (Nat × Obj) := []
def Pi.sub (π π' : Pi) : Prop := (∀ id p, π.pl id = some p → π'.pl id = some p) ∧ π'.op = π.op
def Pi.le (π π' : Pi) : Prop := (∀ id p, π.pl id = some p → π'.pl id = some p) ∧ π'.op = π.op ∧ π'.fl = π.fl
theorem Pi.le.sub {π π' : Pi} (h : π.le π') : π.sub π' := ⟨h.1, h.2.1⟩
theorem Pi.le_refl (π : Pi) : π.le π := ⟨fun _ _ h => h, rfl, rfl⟩
theorem Pi.le_trans {a b c : Pi} (h : a.le b) (k : b.le c) : a.le c := ⟨fun id p e => k.1 id p (h.1 id p e), k.2.1.trans h.2.1, k.2.2.trans h.2.2⟩
theorem Pi.sub_trans {a b c : Pi} (h : a.sub b) (k : b.sub c) : a.sub c := ⟨fun id p e => k.1 id p (h.1 id p e), k.2.trans h.2⟩
def V.one : V → Bool
  | .agg _ => false
  | .tup _ => false
  | _ => true
def V.cells : V → List V
  | .agg cs => cs
  | v => [v]
def capOf (p : Pl) (off : Nat) (c : Option Nat) : Nat := match c with
  | some k => k
  | none => (p.room - off) / p.sz
mutual
def conc (π : Pi) : V → Option Value
  | .sc v => if v.oneCell' then some v else none
  | .agg cs => if cs.all V.one then (concL π cs).map fun us => .agg us.toArray else none
  | .tup cs => (concL π cs).map fun us => .tuple us.toArray
  | .ptr id off => match π.pl id with
    | some p => some (.pointer (some ⟨p.b, p.base + off, none⟩))
    | none => none
  | .sl id off sz n c => match π.pl id with
    | some p => if p.sz = sz ∧ n ≤ capOf p off c ∧ off + capOf p off c * p.sz ≤ p.room ∧ capOf p off c ≤ maxLen then some (.slice (some ⟨p.b, p.base + off, none⟩) n (capOf p off c)) else none
    | none => none
  | .mp id => match π.pl id with
    | some p => some (.map (some p.b))
    | none => none
  | .it id => match π.pl id with
    | some p => some (.pointer (some ⟨p.b, 0, none⟩))
    | none => none
  | .fn f cs => (concL π cs).map fun us => .func (.func f) #[] us.toArray
  | .opq k => if (π.op k).oneCell' then some (π.op k) else none
def concL (π : Pi) : List V → Option (List Value)
  | [] => some []
  | c :: cs => match conc π c, concL π cs with
    | some u, some us => some (u :: us)
    | _, _ => none
end
theorem concL_cons {π : Pi} {c : V} {cs : List V} {us : List Value} (h : concL π (c :: cs) = some us) : ∃ u us', conc π c = some u ∧ concL π cs = some us' ∧ us = u :: us' := by
  rw [concL] at h
  split at h
  · rename_i u us' h1 h2
    injection h with h
    exact ⟨u, us', h1, h2, h.symm⟩
  · cases h
theorem concL_len {π : Pi} : ∀ {cs : List V} {us : List Value}, concL π cs = some us → us.length = cs.length
  | [], us, h => by rw [concL] at h; injection h with h; subst h; rfl
  | c :: cs, us, h => by
    obtain ⟨u, us', _, h2, rfl⟩ := concL_cons h
    simp [concL_len h2]
theorem concL_at {π : Pi} : ∀ {cs : List V} {us : List Value} {i : Nat} {c : V}, concL π cs = some us → cs[i]? = some c → ∃ u, us[i]? = some u ∧ conc π c = some u
  | [], us, i, c, _, hc => by simp at hc
  | d :: cs, us, 0, c, h, hc => by
    obtain ⟨u, us', h1, h2, rfl⟩ := concL_cons h
    simp at hc; subst hc
    exact ⟨u, rfl, h1⟩
  | d :: cs, us, i + 1, c, h, hc => by
    obtain ⟨u, us', h1, h2, rfl⟩ := concL_cons h
    obtain ⟨x, hx, hy⟩ := concL_at h2 (i := i) (by simpa using hc)
    exact ⟨x, by simpa using hx, hy⟩
theorem concL_mk {π : Pi} : ∀ {cs : List V} {us : List Value}, us.length = cs.length → (∀ (i : Nat) (u : Value) (c : V), us[i]? = some u → cs[i]? = some c → conc π c = some u) → concL π cs = some us
  | [], us, hl, _ => by
    have e : us = [] := List.length_eq_zero_iff.1 (by simpa using hl)
    subst e; rw [concL]
  | c :: cs, [], hl, _ => by simp at hl
  | c :: cs, u :: us, hl, h => by
    rw [concL, h 0 u c rfl rfl, concL_mk (us := us) (by simpa using hl) (fun i u c h1 h2 => h (i + 1) u c (by simpa using h1) (by simpa using h2))]
theorem concL_append {π : Pi} : ∀ {cs ds : List V} {us vs : List Value}, concL π cs = some us → concL π ds = some vs → concL π (cs ++ ds) = some (us ++ vs)
  | [], ds, us, vs, h, k => by rw [concL] at h; injection h with h; subst h; exact k
  | c :: cs, ds, us, vs, h, k => by
    obtain ⟨u, us', h1, h2, rfl⟩ := concL_cons h
    rw [List.cons_append, concL, h1, concL_append h2 k]; rfl
theorem concL_take {π : Pi} (n : Nat) {cs : List V} {us : List Value} (h : concL π cs = some us) : concL π (cs.take n) = some (us.take n) := by
  have hl := concL_len h
  refine concL_mk (by simp [hl]) fun i u c h1 h2 => ?_
  rw [List.getElem?_take] at h1 h2
  split at h1
  · rw [if_pos (by assumption)] at h2
    obtain ⟨u', h3, h4⟩ := concL_at h h2
    rw [h1] at h3; injection h3 with h3; subst h3; exact h4
  · cases h1
theorem concL_drop {π : Pi} (n : Nat) {cs : List V} {us : List Value} (h : concL π cs = some us) : concL π (cs.drop n) = some (us.drop n) := by
  have hl := concL_len h
  refine concL_mk (by simp [hl]) fun i u c h1 h2 => ?_
  rw [List.getElem?_drop] at h1 h2
  obtain ⟨u', h3, h4⟩ := concL_at h h2
  rw [h1] at h3; injection h3 with h3; subst h3; exact h4
mutual
theorem conc_sub {π π' : Pi} (hl : π.sub π') : ∀ {v : V} {u : Value}, conc π v = some u → conc π' v = some u
  | .sc v, u, h => by rw [conc] at h ⊢; exact h
  | .agg cs, u, h => by
    rw [conc] at h ⊢
    split at h
    · rename_i ho
      rw [if_pos ho]
      obtain ⟨us, h1, h2⟩ := Option.map_eq_some_iff.1 h
      rw [concL_sub hl h1, ← h2]; rfl
    · cases h
  | .tup cs, u, h => by
    rw [conc] at h ⊢
    obtain ⟨us, h1, h2⟩ := Option.map_eq_some_iff.1 h
    rw [concL_sub hl h1, ← h2]; rfl
  | .ptr id off, u, h => by
    rw [conc] at h ⊢
    split at h
    · rename_i p hp; rw [hl.1 id p hp]; exact h
    · cases h
  | .sl id off sz n c, u, h => by
    rw [conc] at h ⊢
    split at h
    · rename_i p hp; rw [hl.1 id p hp]; exact h
    · cases h
  | .mp id, u, h => by
    rw [conc] at h ⊢
    split at h
    · rename_i p hp; rw [hl.1 id p hp]; exact h
    · cases h
  | .it id, u, h => by
    rw [conc] at h ⊢
    split at h
    · rename_i p hp; rw [hl.1 id p hp]; exact h
    · cases h
  | .fn f cs, u, h => by
    rw [conc] at h ⊢
    obtain ⟨us, h1, h2⟩ := Option.map_eq_some_iff.1 h
    rw [concL_sub hl h1, ← h2]; rfl
  | .opq k, u, h => by rw [conc] at h ⊢; rw [hl.2]; exact h
theorem concL_sub {π π' : Pi} (hl : π.sub π') : ∀ {cs : List V} {us : List Value}, concL π cs = some us → concL π' cs = some us
  | [], us, h => by rw [concL] at h ⊢; exact h
  | c :: cs, us, h => by
    obtain ⟨u, us', h1, h2, rfl⟩ := concL_cons h
    rw [concL, conc_sub hl h1, concL_sub hl h2]
end
theorem conc_le {π π' : Pi} (hl : π.le π') {v : V} {u : Value} (h : conc π v = some u) : conc π' v = some u := conc_sub hl.sub h
theorem concL_le {π π' : Pi} (hl : π.le π') {cs : List V} {us : List Value} (h : concL π cs = some us) : concL π' cs = some us := concL_sub hl.sub h
theorem conc_one {π : Pi} {v : V} {u : Value} (h : conc π v = some u) (ho : v.one = true) : u.oneCell' = true := by
  cases v with
  | sc x => rw [conc] at h; split at h <;> first | (injection h with h; subst h; assumption) | cases h
  | agg cs => cases ho
  | tup cs => cases ho
  | ptr id off => rw [conc] at h; split at h <;> first | (injection h with h; subst h; rfl) | cases h
  | sl id off sz n c =>
    rw [conc] at h
    split at h
    · split at h <;> first | (injection h with h; subst h; rfl) | cases h
    · cases h
  | mp id => rw [conc] at h; split at h <;> first | (injection h with h; subst h; rfl) | cases h
  | it id => rw [conc] at h; split at h <;> first | (injection h with h; subst h; rfl) | cases h
  | fn f cs => rw [conc] at h; obtain ⟨us, _, rfl⟩ := Option.map_eq_some_iff.1 h; rfl
  | opq k => rw [conc] at h; split at h <;> first | (injection h with h; subst h; assumption) | cases h
theorem cells_one {u : Value} (h : u.oneCell' = true) : u.cells = #[u] := by cases u <;> simp_all [Value.cells, Value.oneCell']
theorem conc_cells {π : Pi} {v : V} {u : Value} (h : conc π v = some u) (hn : ∀ cs, v ≠ .tup cs) : concL π v.cells = some u.cells.toList ∧ ∀ x ∈ u.cells.toList, x.oneCell' = true := by
  by_cases ho : v.one = true
  · have h1 := conc_one h ho
    rw [cells_one h1]
    have e : v.cells = [v] := by cases v <;> first | rfl | cases ho
    rw [e, concL, h, concL]
    exact ⟨rfl, fun x hx => by simp at hx; rw [hx]; exact h1⟩
  · cases v with
    | agg cs =>
      rw [conc] at h
      split at h
      · rename_i hall
        obtain ⟨us, h1, rfl⟩ := Option.map_eq_some_iff.1 h
        refine ⟨by simpa [V.cells, Value.cells] using h1, fun x hx => ?_⟩
        have hx : x ∈ us := by simpa [Value.cells] using hx
        obtain ⟨i, hi, rfl⟩ := List.getElem_of_mem hx
        have hl := concL_len h1
        obtain ⟨u', h3, h4⟩ := concL_at h1 (List.getElem?_eq_getElem (show i < cs.length by omega))
        rw [List.getElem?_eq_getElem hi] at h3; injection h3 with h3
        rw [h3]
        exact conc_one h4 (List.all_eq_true.1 hall _ (List.getElem_mem ..))
      · cases h
    | tup cs => exact absurd rfl (hn cs)
    | _ => exact absurd rfl ho
end Go.Rn
end
section
namespace Go.Rn
abbrev gtab : Nat → Option (List Value) := Go.gtab
end Go.Rn
end
section
namespace Go.Rn
open Go.RowKit
def Blk.rw : Blk → Bool
  | .ro _ => false
  | _ => true
abbrev Hp := Nat → Option Blk
def hset (h : Hp) (id : Nat) (b : Option Blk) : Hp := fun k => if k = id then b else h k
def Pi.put (π : Pi) (id : Nat) (p : Pl) : Pi := ⟨fun k => if k = id then some p else π.pl k, π.op, π.fl⟩
theorem Pi.le_put {π : Pi} {id : Nat} {p : Pl} (h : π.pl id = none) : π.le (π.put id p) := ⟨fun k q e => by
  show (if k = id then some p else π.pl k) = some q
  rw [if_neg (by rintro rfl; rw [h] at e; cases e)]
  exact e, rfl, rfl⟩
theorem Pi.put_self (π : Pi) (id : Nat) (p : Pl) : (π.put id p).pl id = some p := if_pos rfl
theorem Pi.put_ne {π : Pi} {id k : Nat} {p : Pl} (h : k ≠ id) : (π.put id p).pl k = π.pl k := if_neg h
def mapIs (π : Pi) (es : List (V × V)) (arr : Array MapEntry) : Prop :=
  arr.size = es.length ∧ ∀ (i : Nat) (e : MapEntry), arr.toList[i]? = some e → e.born = i ∧ ∃ kv : V × V, es[i]? = some kv ∧ conc π kv.1 = some e.key ∧ conc π kv.2 = some e.val
def BlkAt (π : Pi) (w : World) (p : Pl) : Blk → Prop
  | .cells cs => ∃ (arr : Array Value) (e : TypeId) (us : List Value), w.heap[p.b]? = some (.cells arr e (0, 0)) ∧ arr.size = p.base + p.room ∧ concL π cs = some us ∧ (∀ u ∈ us, u.oneCell' = true) ∧ cs.length ≤ p.room ∧ ∀ (j : Nat) (u : Value), us[j]? = some u → arr.toList[p.base + j]? = some u
  | .ro cs => ∃ us : List Value, concL π cs = some us ∧ (∀ u ∈ us, u.oneCell' = true) ∧ ∀ (j : Nat) (u : Value), us[j]? = some u → w.cell? ⟨p.b, p.base + j, none⟩ = some u
  | .map es => ∃ arr : Array MapEntry, w.heap[p.b]? = some (.map arr es.length) ∧ mapIs π es arr
  | .iter m n k => match m with
    | none => w.heap[p.b]? = some (.mapIter none 0 #[] 0)
    | some id => ∃ q : Pl, π.pl id = some q ∧ k ≤ n ∧ n ≤ 1 ∧ w.heap[p.b]? = some (.mapIter (some q.b) n (if k = 0 then #[] else #[0]) n)
theorem mapIs_sub {π π' : Pi} (hl : π.sub π') {es : List (V × V)} {arr : Array MapEntry} (h : mapIs π es arr) : mapIs π' es arr :=
  ⟨h.1, fun i e he => by
    obtain ⟨h1, kv, h2, h3, h4⟩ := h.2 i e he
    exact ⟨h1, kv, h2, conc_sub hl h3, conc_sub hl h4⟩⟩
theorem BlkAt.sub {π π' : Pi} (hl : π.sub π') {w : World} {p : Pl} {b : Blk} (h : BlkAt π w p b) : BlkAt π' w p b := by
  cases b with
  | cells cs =>
    obtain ⟨arr, e, us, h1, h2, h3, h4⟩ := h
    exact ⟨arr, e, us, h1, h2, concL_sub hl h3, h4⟩
  | ro cs =>
    obtain ⟨us, h3, h4⟩ := h
    exact ⟨us, concL_sub hl h3, h4⟩
  | map es =>
    obtain ⟨arr, h1, h2⟩ := h
    exact ⟨arr, h1, mapIs_sub hl h2⟩
  | iter m n k =>
    cases m with
    | none => exact h
    | some id =>
      obtain ⟨q, h1, h2⟩ := h
      exact ⟨q, hl.1 id q h1, h2⟩
theorem BlkAt.le {π π' : Pi} (hl : π.le π') {w : World} {p : Pl} {b : Blk} (h : BlkAt π w p b) : BlkAt π' w p b := BlkAt.sub hl.sub h
theorem BlkAt.keep {π : Pi} {w w' : World} {p : Pl} {b : Blk} (h : BlkAt π w p b) (e : w'.heap[p.b]? = w.heap[p.b]?) : BlkAt π w' p b := by
  cases b with
  | cells cs =>
    obtain ⟨arr, ee, us, h1, h2⟩ := h
    exact ⟨arr, ee, us, by rw [e]; exact h1, h2⟩
  | ro cs =>
    obtain ⟨us, h3, h4, h5⟩ := h
    exact ⟨us, h3, h4, fun j u hj => by rw [← h5 j u hj]; exact World.cell?_of_block (w := w) e⟩
  | map es =>
    obtain ⟨arr, h1, h2⟩ := h
    exact ⟨arr, by rw [e]; exact h1, h2⟩
  | iter m n k =>
    cases m with
    | none => exact e.trans h
    | some id =>
      obtain ⟨q, h1, h2, h3, h4⟩ := h
      exact ⟨q, h1, h2, h3, e.trans h4⟩
set_option linter.unusedSectionVars false
def GlobOk (base : Nat) (w0 : World) : Prop := ∀ g cs, gtab g = some cs → g < base ∧ ∀ (j : Nat) (u : Value), cs[j]? = some u → w0.cell? ⟨g, j, none⟩ = some u
class Cx where
  p : Nat → World → (Nat → Value) → Prop
  g : ∀ base w0 op, p base w0 op → GlobOk base w0
variable [Cx]
structure Mem (base : Nat) (w0 : World) (π : Pi) (h : Hp) (n : Nat) (w : World) : Prop where
  place : ∀ id b, h id = some b → ∃ p, π.pl id = some p ∧ BlkAt π w p b ∧ (b.rw = true → base ≤ p.b) ∧ (b.rw = false → p.b < base)
  sep : ∀ id id' b b' p p', h id = some b → h id' = some b' → b.rw = true → b'.rw = true → π.pl id = some p → π.pl id' = some p' → p.b = p'.b → id = id'
  fresh : ∀ id, n ≤ id → π.pl id = none
  lt : ∀ id p, π.pl id = some p → p.b < w.heap.size
  below : Below base w0 w
  size : base ≤ w.heap.size
  ctx : Cx.p base w0 π.op
  fl : ∀ x ∈ π.fl, base ≤ x.1 ∧ w.heap[x.1]? = some x.2 ∧ ∀ id p, π.pl id = some p → p.b ≠ x.1
section
variable {base n : Nat} {w0 w w' : World} {π : Pi} {h : Hp}
theorem Mem.update (hm : Mem base w0 π h n w) {id : Nat} {b b' : Blk} {p : Pl} (hb : h id = some b) (hr : b.rw = true) (hp : π.pl id = some p) (ho : ∀ k, k ≠ p.b → w'.heap[k]? = w.heap[k]?) (hs : w'.heap.size = w.heap.size) (hbl : Below base w w') (hat : BlkAt π w' p b') (hr' : b'.rw = true) : Mem base w0 π (hset h id (some b')) n w' := by
  obtain ⟨p0, hp0, _, hbase, _⟩ := hm.place id b hb
  rw [hp] at hp0; injection hp0 with hp0; subst hp0
  refine ⟨fun k c hk => ?_, fun k k' c c' q q' hk hk' hc hc' hq hq' e => ?_, hm.fresh, fun k q hq => by rw [hs]; exact hm.lt k q hq, hm.below.trans hbl, by rw [hs]; exact hm.size, hm.ctx, fun x hx => ?_⟩
  rotate_left 2
  · obtain ⟨x1, x2, x3⟩ := hm.fl x hx
    exact ⟨x1, by rw [ho _ (fun e => x3 id p hp e.symm)]; exact x2, x3⟩
  · unfold hset at hk
    split at hk
    · rename_i e; subst e; injection hk with hk; subst hk
      exact ⟨p, hp, hat, fun _ => hbase hr, fun h0 => by rw [hr'] at h0; cases h0⟩
    · rename_i hne
      obtain ⟨q, h1, h2, h3, h4⟩ := hm.place k c hk
      refine ⟨q, h1, h2.keep (ho _ ?_), h3, h4⟩
      intro e
      cases hc : c.rw with
      | true => exact hne (hm.sep k id c b q p hk hb hc hr h1 hp e)
      | false => have := h4 hc; have := hbase hr; omega
  · unfold hset at hk hk'
    split at hk <;> split at hk'
    · rename_i e1 e2; rw [e1, e2]
    · rename_i e1 e2; subst e1; exact hm.sep k k' b c' q q' hb hk' hr hc' hq hq' e
    · rename_i e1 e2; subst e2; exact hm.sep k k' c b q q' hk hb hc hr hq hq' e
    · exact hm.sep k k' c c' q q' hk hk' hc hc' hq hq' e
theorem GlobOk.keep {base b' : Nat} {w0 w : World} (h : GlobOk base w0) (hb : Below base w0 w) (hle : base ≤ b') : GlobOk b' w := fun g cs hg => by
  obtain ⟨h1, h3⟩ := h g cs hg
  exact ⟨by omega, fun j u hj => by rw [← h3 j u hj]; exact World.cell?_of_block (w := w0) (hb.block g h1)⟩
theorem Mem.glob (hm : Mem base w0 π h n w) : GlobOk base w := (Cx.g _ _ _ hm.ctx).keep hm.below (Nat.le_refl _)
theorem Mem.kill (hm : Mem base w0 π h n w) (id : Nat) : Mem base w0 π (hset h id none) n w := by
  refine ⟨fun k c hk => ?_, fun k k' c c' q q' hk hk' => ?_, hm.fresh, hm.lt, hm.below, hm.size, hm.ctx, hm.fl⟩
  · unfold hset at hk; split at hk
    · cases hk
    · exact hm.place k c hk
  · unfold hset at hk hk'; split at hk
    · cases hk
    · split at hk'
      · cases hk'
      · exact hm.sep k k' c c' q q' hk hk'
theorem Mem.keep (hm : Mem base w0 π h n w) (hb : Below w.heap.size w w') : Mem base w0 π h n w' := by
  refine ⟨fun k c hk => ?_, hm.sep, hm.fresh, fun k q hq => Nat.lt_of_lt_of_le (hm.lt k q hq) hb.size, hm.below.trans (hb.mono hm.size), Nat.le_trans hm.size hb.size, hm.ctx, fun x hx => ?_⟩
  rotate_left
  · obtain ⟨x1, x2, x3⟩ := hm.fl x hx
    exact ⟨x1, by rw [hb.block _ (Array.getElem?_eq_some_iff.1 x2).1]; exact x2, x3⟩
  obtain ⟨q, h1, h2, h3⟩ := hm.place k c hk
  exact ⟨q, h1, h2.keep (hb.block _ (hm.lt k q h1)), h3⟩
theorem Mem.new (hm : Mem base w0 π h n w) {o : Obj} {b : Blk} {p : Pl} (hpb : p.b = w.heap.size) (hat : BlkAt (π.put n p) (w.alloc o) p b) (hr : b.rw = true) : Mem base w0 (π.put n p) (hset h n (some b)) (n + 1) (w.alloc o) := by
  have hle := Pi.le_put (p := p) (hm.fresh n (Nat.le_refl _))
  have hbl : Below w.heap.size w (w.alloc o) := (Below.refl _ w).alloc (Nat.le_refl _) o
  have hk := hm.keep hbl
  have hsz : (w.alloc o).heap.size = w.heap.size + 1 := by show (w.heap.push o).size = _; exact Array.size_push ..
  have hne : ∀ k c, h k = some c → k ≠ n := by
    rintro k c h0 rfl
    obtain ⟨q, h1, _⟩ := hm.place k c h0
    rw [hm.fresh k (Nat.le_refl _)] at h1; cases h1
  refine ⟨fun k c hc => ?_, fun k k' c c' q q' hc hc' r r' hq hq' e => ?_, fun k hk => ?_, fun k q hq => ?_, hk.below, hk.size, hm.ctx, fun x hx => ?_⟩
  rotate_left 4
  · obtain ⟨x1, x2, x3⟩ := hk.fl x hx
    have hxl := (Array.getElem?_eq_some_iff.1 (hm.fl x hx).2.1).1
    refine ⟨x1, x2, fun id r hr => ?_⟩
    by_cases e : id = n
    · subst e
      rw [Pi.put_self] at hr; injection hr with hr; subst hr
      rw [hpb]; omega
    · rw [Pi.put_ne e] at hr
      exact x3 id r hr
  · unfold hset at hc
    split at hc
    · rename_i e; subst e; injection hc with hc; subst hc
      exact ⟨p, Pi.put_self .., hat, fun _ => by rw [hpb]; exact hm.size, fun h0 => by rw [hr] at h0; cases h0⟩
    · rename_i e
      obtain ⟨q, h1, h2, h3⟩ := hk.place k c hc
      exact ⟨q, by rw [Pi.put_ne e]; exact h1, h2.le hle, h3⟩
  · unfold hset at hc hc'
    split at hc <;> split at hc'
    · rename_i e1 e2; rw [e1, e2]
    · rename_i e1 e2
      subst e1
      rw [Pi.put_self] at hq; injection hq with hq; subst hq
      rw [Pi.put_ne e2] at hq'
      have := hm.lt _ _ hq'
      omega
    · rename_i e1 e2
      subst e2
      rw [Pi.put_self] at hq'; injection hq' with hq'; subst hq'
      rw [Pi.put_ne e1] at hq
      have := hm.lt _ _ hq
      omega
    · rename_i e1 e2
      rw [Pi.put_ne e1] at hq
      rw [Pi.put_ne e2] at hq'
      exact hm.sep k k' c c' q q' hc hc' r r' hq hq' e
  · rw [Pi.put_ne (by omega)]; exact hm.fresh k (by omega)
  · by_cases e : k = n
    · subst e
      rw [Pi.put_self] at hq; injection hq with hq; subst hq
      rw [hsz, hpb]; omega
    · rw [Pi.put_ne e] at hq
      have := hm.lt _ _ hq
      rw [hsz]; omega
theorem Mem.regrow (hm : Mem base w0 π h n w) {id : Nat} {b b' : Blk} {p q : Pl} (hb : h id = some b) (hr : b.rw = true) (hp : π.pl id = some p) (hq : q.b = p.b) (ho : ∀ k, k ≠ p.b → w'.heap[k]? = w.heap[k]?) (hs : w'.heap.size = w.heap.size) (hbl : Below base w w') (hat : BlkAt (π.put n q) w' q b') (hr' : b'.rw = true) : Mem base w0 (π.put n q) (hset (hset h id none) n (some b')) (n + 1) w' := by
  have hle := Pi.le_put (p := q) (hm.fresh n (Nat.le_refl _))
  obtain ⟨p0, hp0, _, hbase, _⟩ := hm.place id b hb
  rw [hp] at hp0; injection hp0 with hp0; subst hp0
  refine ⟨fun k c hc => ?_, fun k k' c c' s s' hc hc' r r' hq1 hq2 e => ?_, fun k hk => ?_, fun k s hq1 => ?_, hm.below.trans hbl, by rw [hs]; exact hm.size, hm.ctx, fun x hx => ?_⟩
  rotate_left 4
  · obtain ⟨x1, x2, x3⟩ := hm.fl x hx
    refine ⟨x1, by rw [ho _ (fun e => x3 id p hp e.symm)]; exact x2, fun k r hr => ?_⟩
    by_cases e : k = n
    · subst e
      rw [Pi.put_self] at hr; injection hr with hr; subst hr
      rw [hq]; exact x3 id p hp
    · rw [Pi.put_ne e] at hr
      exact x3 k r hr
  · unfold hset at hc
    split at hc
    · rename_i e; subst e; injection hc with hc; subst hc
      exact ⟨q, Pi.put_self .., hat, fun _ => by rw [hq]; exact hbase hr, fun h0 => by rw [hr'] at h0; cases h0⟩
    · rename_i e
      split at hc
      · cases hc
      · rename_i e2
        obtain ⟨s, h1, h2, h3, h4⟩ := hm.place k c hc
        refine ⟨s, by rw [Pi.put_ne e]; exact h1, (h2.keep (ho _ ?_)).le hle, h3, h4⟩
        intro e3
        cases hc1 : c.rw with
        | true => exact e2 (hm.sep k id c b s p hc hb hc1 hr h1 hp e3)
        | false => have := h4 hc1; have := hbase hr; omega
  · have key : ∀ k c s, k ≠ n → (if k = id then none else h k) = some c → c.rw = true → π.pl k = some s → s.b ≠ p.b := by
      intro k c s hkn hc r hs e
      split at hc
      · cases hc
      · rename_i e2
        exact e2 (hm.sep k id c b s p hc hb r hr hs hp e)
    unfold hset at hc hc'
    split at hc <;> split at hc'
    · rename_i e1 e2; rw [e1, e2]
    · rename_i e1 e2
      subst e1
      rw [Pi.put_self] at hq1; injection hq1 with hq1; subst hq1
      rw [Pi.put_ne e2] at hq2
      exact absurd (by rw [← e, hq]) (key k' c' s' e2 hc' r' hq2)
    · rename_i e1 e2
      subst e2
      rw [Pi.put_self] at hq2; injection hq2 with hq2; subst hq2
      rw [Pi.put_ne e1] at hq1
      exact absurd (by rw [e, hq]) (key k c s e1 hc r hq1)
    · rename_i e1 e2
      rw [Pi.put_ne e1] at hq1
      rw [Pi.put_ne e2] at hq2
      split at hc
      · cases hc
      · split at hc'
        · cases hc'
        · exact hm.sep k k' c c' s s' hc hc' r r' hq1 hq2 e
  · rw [Pi.put_ne (by omega)]; exact hm.fresh k (by omega)
  · by_cases e : k = n
    · subst e
      rw [Pi.put_self] at hq1; injection hq1 with hq1; subst hq1
      rw [hs, hq]; exact hm.lt _ _ hp
    · rw [Pi.put_ne e] at hq1
      rw [hs]; exact hm.lt _ _ hq1
end
end Go.Rn
end
section
namespace Go.Rn
open Go.RowKit
open Go.Vm (pureRun pureRun_run fieldOff run_fieldAt)
set_option linter.unusedSectionVars false
variable [Cx]
structure St where
  t : Nat → Option V
  h : Hp
  n : Nat
def St.put (s : St) (d : Option Nat) (v : V) : St := match d with
  | none => s
  | some d => { s with t := fun u => if u = d then some v else s.t u }
structure Rel (base N : Nat) (w0 : World) (π : Pi) (s : St) (a : Act) (w : World) : Prop where
  mem : Mem base w0 π s.h s.n w
  tsz : a.tmps.size = N
  defs : a.defers = []
  slot : ∀ i v, s.t i = some v → ∃ u, a.tmps[i]? = some u ∧ conc π v = some u
def ofV (v : Value) : Option V := if v.oneCell' then some (.sc v) else match v with
  | .agg cs => if cs.toList.all (·.oneCell') then some (.agg (cs.toList.map .sc)) else none
  | _ => none
theorem concL_scs {π : Pi} : ∀ {l : List Value}, (l.all (·.oneCell')) = true → concL π (l.map .sc) = some l
  | [], _ => by rw [List.map_nil, concL]
  | v :: l, h => by
    rw [List.all_cons, Bool.and_eq_true] at h
    rw [List.map_cons, concL, conc, if_pos h.1, concL_scs h.2]
theorem ofV_conc {π : Pi} {v : Value} {x : V} (h : ofV v = some x) : conc π x = some v := by
  unfold ofV at h
  split at h
  · rename_i h1; injection h with h; subst h; rw [conc, if_pos h1]
  · split at h
    · rename_i cs
      split at h
      · rename_i h2; injection h with h; subst h
        rw [conc, if_pos (by rw [List.all_map]; exact List.all_eq_true.2 fun _ _ => rfl), concL_scs h2]
        rfl
      · cases h
    · cases h
def scL : List V → Option (List Value)
  | [] => some []
  | .sc v :: l => (scL l).map (v :: ·)
  | _ => none
def toV : V → Option Value
  | .sc v => some v
  | .agg cs => (scL cs).map fun vs => .agg vs.toArray
  | _ => none
theorem scL_conc {π : Pi} : ∀ {cs : List V} {vs us : List Value}, scL cs = some vs → concL π cs = some us → us = vs
  | [], vs, us, h, k => by rw [scL] at h; rw [concL] at k; injection h with h; injection k with k; rw [← h, ← k]
  | .sc v :: l, vs, us, h, k => by
    rw [scL] at h
    obtain ⟨vs', h1, rfl⟩ := Option.map_eq_some_iff.1 h
    obtain ⟨u, us', h2, h3, rfl⟩ := concL_cons k
    rw [conc] at h2; split at h2
    · injection h2 with h2; rw [h2, scL_conc h1 h3]
    · cases h2
  | .agg _ :: _, _, _, h, _ => by simp [scL] at h
  | .tup _ :: _, _, _, h, _ => by simp [scL] at h
  | .ptr _ _ :: _, _, _, h, _ => by simp [scL] at h
  | .sl _ _ _ _ _ :: _, _, _, h, _ => by simp [scL] at h
  | .mp _ :: _, _, _, h, _ => by simp [scL] at h
  | .it _ :: _, _, _, h, _ => by simp [scL] at h
  | .fn _ _ :: _, _, _, h, _ => by simp [scL] at h
  | .opq _ :: _, _, _, h, _ => by simp [scL] at h
theorem toV_conc {π : Pi} {x : V} {v u : Value} (h : toV x = some v) (k : conc π x = some u) : u = v := by
  cases x with
  | sc y => rw [toV] at h; injection h with h; subst h; rw [conc] at k; split at k <;> first | (injection k with k; exact k.symm) | cases k
  | agg cs =>
    rw [toV] at h
    obtain ⟨vs, h1, rfl⟩ := Option.map_eq_some_iff.1 h
    rw [conc] at k
    split at k
    · obtain ⟨us, h2, rfl⟩ := Option.map_eq_some_iff.1 k
      rw [scL_conc h1 h2]
    · cases k
  | _ => simp [toV] at h
def vget (s : St) : Operand → Option V
  | .tmp t => s.t t
  | .const v => ofV v
  | .func f => some (.fn f [])
  | .global _ => none
section
variable {P : Program} {N base n : Nat} {w0 w w' : World} {π π' : Pi} {s s' : St} {a : Act} {o : Oper}
theorem Rel.get (hr : Rel base N w0 π s a w) {x : Operand} {v : V} (h : vget s x = some v) : conc π v = some (a.eval x) := by
  cases x with
  | tmp t =>
    obtain ⟨u, h1, h2⟩ := hr.slot t v h
    rw [h2]
    simp [Act.eval, Array.getD_eq_getD_getElem?, h1]
  | const c => exact ofV_conc h
  | func f =>
    rw [vget] at h; injection h with h; subst h
    rw [conc, concL]; rfl
  | global g => cases h
theorem Rel.getV (hr : Rel base N w0 π s a w) {x : Operand} {v : V} {u : Value} (h : vget s x = some v) (hu : toV v = some u) : a.eval x = u := toV_conc hu (hr.get h)
theorem Rel.put (hr : Rel base N w0 π s a w) (hl : π.le π') {h' : Hp} {n' : Nat} (hm : Mem base w0 π' h' n' w') {d : Nat} (hd : d < N) {v : V} {u : Value} (hv : conc π' v = some u) : Rel base N w0 π' { (s.put (some d) v) with h := h', n := n' } (a.put (some d) u) w' := by
  refine ⟨hm, by simp [Act.put, hr.tsz], hr.defs, fun i x hi => ?_⟩
  simp only [St.put] at hi
  split at hi
  · rename_i e; subst e; injection hi with hi; subst hi
    exact ⟨u, by simp [Act.put, hr.tsz, hd], hv⟩
  · rename_i e
    obtain ⟨y, h1, h2⟩ := hr.slot i x hi
    refine ⟨y, ?_, conc_le hl h2⟩
    rw [← h1]
    simp [Act.put, Array.getElem?_setIfInBounds_ne (fun q => e q.symm)]
def Step (P : Program) (N : Nat) (o : Oper) (s s' : St) : Prop :=
  ∀ base w0 π a w, Rel base N w0 π s a w → ∀ (K : Act → World → Prop) (Q : Exit → Act → World → Prop), (∀ π' a' w', π.le π' → Rel base N w0 π' s' a' w' → K a' w') → o.wp P a w K Q
theorem step_mem {d : Nat} {v : V} {h' : Hp} {n' : Nat} (hdst : o.dst = some d) (hd : d < N)
    (hx : ∀ base w0 π a w, Rel base N w0 π s a w → ∃ u w' π', (execOp a.eval o).run P w = .ok (.value u) w' ∧ π.le π' ∧ Mem base w0 π' h' n' w' ∧ conc π' v = some u) : Step P N o s { (s.put (some d) v) with h := h', n := n' } := by
  intro base w0 π a w hr K Q hK
  obtain ⟨u, w', π', h1, h2, h3, h4⟩ := hx base w0 π a w hr
  unfold Oper.wp
  rw [h1, Oper.upon_value, hdst]
  exact hK π' _ w' h2 (hr.put h2 h3 hd h4)
theorem step_pure {d : Nat} {v : V} (hdst : o.dst = some d) (hd : d < N)
    (hx : ∀ base w0 π a w, Rel base N w0 π s a w → ∃ u, (execOp a.eval o).run P w = .ok (.value u) w ∧ conc π v = some u) : Step P N o s (s.put (some d) v) := by
  refine step_mem (h' := s.h) (n' := s.n) hdst hd fun base w0 π a w hr => ?_
  obtain ⟨u, h1, h2⟩ := hx base w0 π a w hr
  exact ⟨u, w, π, h1, π.le_refl, hr.mem, h2⟩
theorem r_move {x : Operand} {v : V} (hop : o.op = .move x ∨ o.op = .assign x) (hx : vget s x = some v) {d : Nat} (hdst : o.dst = some d) (hd : d < N) : Step P N o s (s.put (some d) v) :=
  step_pure hdst hd fun base w0 π a w hr => ⟨a.eval x, by rcases hop with h | h <;> simp [execOp, h], hr.get hx⟩
theorem r_pick {c x y : Operand} {b : Bool} {v : V} (hop : o.op = .pick c x y) (hc : vget s c = some (.sc (.bool b))) (hx : vget s (if b then x else y) = some v) {d : Nat} (hdst : o.dst = some d) (hd : d < N) : Step P N o s (s.put (some d) v) :=
  step_pure hdst hd fun base w0 π a w hr => ⟨a.eval (if b then x else y), by
    have := hr.getV hc rfl
    cases b <;> simp [execOp, hop, this, asBool], hr.get hx⟩
theorem r_nil {x : Operand} {v : V} (hop : o.op = .nilCheck x) (hx : vget s x = some v) (hv : (∃ id off, v = .ptr id off) ∨ ∃ f cs, v = .fn f cs) {d : Nat} (hdst : o.dst = some d) (hd : d < N) : Step P N o s (s.put (some d) v) :=
  step_pure hdst hd fun base w0 π a w hr => ⟨a.eval x, by
    have h := hr.get hx
    rcases hv with ⟨id, off, rfl⟩ | ⟨f, cs, rfl⟩
    · rw [conc] at h; split at h
      · injection h with h; simp [execOp, hop, ← h]
      · cases h
    · rw [conc] at h; obtain ⟨us, _, h⟩ := Option.map_eq_some_iff.1 h
      simp [execOp, hop, ← h], hr.get hx⟩
theorem r_bin {op : BinOp} {T T' : TypeId} {x y : Operand} {v1 v2 : V} {u1 u2 r : Value} (hop : o.op = .binOp op T x y T') (hx : vget s x = some v1) (hy : vget s y = some v2) (h1 : toV v1 = some u1) (h2 : toV v2 = some u2)
    (hr : pureRun P (do eqGuard op T x y u1 u2; binOp op T u1 u2 : Sem Value) = some r) (ho : r.oneCell' = true) {d : Nat} (hdst : o.dst = some d) (hd : d < N) : Step P N o s (s.put (some d) (.sc r)) :=
  step_pure hdst hd fun base w0 π a w hrel => ⟨r, by
    have e1 := hrel.getV hx h1
    have e2 := hrel.getV hy h2
    have h3 := pureRun_run hr w
    simp only [execOp, hop, e1, e2, Sem.run_bind, Sem.run_pure] at h3 ⊢
    rw [h3]; rfl, by rw [conc, if_pos ho]⟩
theorem r_un {op : UnOp} {T : TypeId} {x : Operand} {v1 : V} {u1 r : Value} (hop : o.op = .unOp op T x) (hx : vget s x = some v1) (h1 : toV v1 = some u1)
    (hr : pureRun P (Op.unary op u1) = some r) (ho : r.oneCell' = true) {d : Nat} (hdst : o.dst = some d) (hd : d < N) : Step P N o s (s.put (some d) (.sc r)) :=
  step_pure hdst hd fun base w0 π a w hrel => ⟨r, by
    have e1 := hrel.getV hx h1
    have h3 := pureRun_run hr w
    simp only [execOp, hop, e1, Sem.run_bind, Sem.run_pure] at h3 ⊢
    rw [h3]; rfl, by rw [conc, if_pos ho]⟩
theorem r_conv {T T' : TypeId} {x : Operand} {v1 : V} {u1 r : Value} (hop : o.op = .convert T T' x) (hx : vget s x = some v1) (h1 : toV v1 = some u1)
    (hr : pureRun P (convert T T' u1) = some r) (ho : r.oneCell' = true) {d : Nat} (hdst : o.dst = some d) (hd : d < N) : Step P N o s (s.put (some d) (.sc r)) :=
  step_pure hdst hd fun base w0 π a w hrel => ⟨r, by
    have e1 := hrel.getV hx h1
    have h3 := pureRun_run hr w
    simp only [execOp, hop, e1, Sem.run_bind, Sem.run_pure] at h3 ⊢
    rw [h3]; rfl, by rw [conc, if_pos ho]⟩
def notNil : V → Value → Bool
  | .ptr _ _, .pointer none => true
  | .mp _, .map none => true
  | .sl _ _ _ _ _, .slice none _ _ => true
  | .fn _ _, .nilFunc => true
  | _, _ => false
theorem Rel.getL (hr : Rel base N w0 π s a w) : ∀ {xs : List Operand} {vs : List V}, xs.mapM (vget s) = some vs → concL π vs = some (xs.map a.eval)
  | [], vs, h => by simp at h; subst h; rw [concL]; rfl
  | x :: xs, vs, h => by
    simp only [List.mapM_cons, Option.bind_eq_bind, Option.pure_def, Option.bind_eq_some_iff, Option.some.injEq] at h
    obtain ⟨v, h1, vs', h2, rfl⟩ := h
    rw [concL, hr.get h1, hr.getL h2]; rfl
theorem r_func {f : FuncId} {caps : Array Operand} {vs : List V} (hop : o.op = .makeFunc (.func f) #[] caps) (hx : caps.toList.mapM (vget s) = some vs) {d : Nat} (hdst : o.dst = some d) (hd : d < N) : Step P N o s (s.put (some d) (.fn f vs)) :=
  step_pure hdst hd fun base w0 π a w hr => ⟨.func (.func f) #[] (caps.map a.eval), by simp [execOp, hop, Instr.makeFunc], by
    have h := hr.getL hx
    rw [conc, h]
    simp only [Option.map_some, Option.some.injEq, Value.func.injEq, true_and]
    apply Array.ext'
    simp⟩
theorem r_extract {x : Operand} {cs : List V} {i : Nat} {v : V} (hop : o.op = .extract x i) (hx : vget s x = some (.tup cs)) (hi : cs[i]? = some v) {d : Nat} (hdst : o.dst = some d) (hd : d < N) : Step P N o s (s.put (some d) v) :=
  step_pure hdst hd fun base w0 π a w hr => by
    have h := hr.get hx
    rw [conc] at h
    obtain ⟨us, h1, h2⟩ := Option.map_eq_some_iff.1 h
    obtain ⟨u, h3, h4⟩ := concL_at h1 hi
    exact ⟨u, by simp [execOp, hop, ← h2, Instr.extract, h3], h4⟩
theorem r_fieldA {T : TypeId} {x : Operand} {id off f k : Nat} (hop : o.op = .fieldAddr T x f) (hx : vget s x = some (.ptr id off)) (hf : fieldOff P T f = some k) {d : Nat} (hdst : o.dst = some d) (hd : d < N) : Step P N o s (s.put (some d) (.ptr id (off + k))) :=
  step_pure hdst hd fun base w0 π a w hr => by
    have h := hr.get hx
    rw [conc] at h
    split at h
    · rename_i p hp
      injection h with h
      refine ⟨.pointer (some ⟨p.b, p.base + off + k, none⟩), ?_, by rw [conc, hp, Nat.add_assoc]⟩
      simp only [execOp, hop, ← h, Sem.run_bind, run_fieldAt hf]; rfl
    · cases h
end
end Go.Rn
end
section
namespace Go.Rn
open Go.RowKit
open Go.Vm (pureRun pureRun_run fieldOff run_fieldAt tshape tshape_parts isAggD run_isAgg elemSize elemSize_parts elemFull elemFull_parts arrShape fill_one)
set_option linter.unusedSectionVars false
variable [Cx]
theorem one_conc {π : Pi} {v : V} {u : Value} (h : conc π v = some u) (ho : u.oneCell' = true) : v.one = true := by
  cases v with
  | agg cs =>
    rw [conc] at h
    split at h
    · obtain ⟨us, _, rfl⟩ := Option.map_eq_some_iff.1 h; cases ho
    · cases h
  | tup cs =>
    rw [conc] at h
    obtain ⟨us, _, rfl⟩ := Option.map_eq_some_iff.1 h; cases ho
  | _ => rfl
theorem all_one {π : Pi} {cs : List V} {us : List Value} (h : concL π cs = some us) (ho : ∀ u ∈ us, u.oneCell' = true) : cs.all V.one = true := by
  refine List.all_eq_true.2 fun c hc => ?_
  obtain ⟨i, hi, rfl⟩ := List.getElem_of_mem hc
  obtain ⟨u, h1, h2⟩ := concL_at h (List.getElem?_eq_getElem hi)
  exact one_conc h2 (ho u (List.mem_of_getElem? h1))
theorem conc_sl {π : Pi} {id off sz n : Nat} {c : Option Nat} {p : Pl} (hp : π.pl id = some p) (h : p.sz = sz ∧ n ≤ capOf p off c ∧ off + capOf p off c * p.sz ≤ p.room ∧ capOf p off c ≤ maxLen) : conc π (.sl id off sz n c) = some (.slice (some ⟨p.b, p.base + off, none⟩) n (capOf p off c)) := by
  rw [conc, hp]; exact if_pos h
theorem sl_conc {π : Pi} {id off sz n : Nat} {c : Option Nat} {u : Value} (h : conc π (.sl id off sz n c) = some u) : ∃ p, π.pl id = some p ∧ p.sz = sz ∧ n ≤ capOf p off c ∧ off + capOf p off c * p.sz ≤ p.room ∧ capOf p off c ≤ maxLen ∧ u = .slice (some ⟨p.b, p.base + off, none⟩) n (capOf p off c) := by
  rw [conc] at h
  split at h
  · rename_i p hp
    split at h
    · rename_i hc; injection h with h; exact ⟨p, hp, hc.1, hc.2.1, hc.2.2.1, hc.2.2.2, h.symm⟩
    · cases h
  · cases h
def partV (sh : Bool × Nat) (cs : List V) (off : Nat) : Option V :=
  if sh.1 then (if off + sh.2 ≤ cs.length then some (.agg ((cs.drop off).take sh.2)) else none) else cs[off]?
def patchV (cs : List V) (off : Nat) (ds : List V) : List V := cs.take off ++ ds ++ cs.drop (off + ds.length)
theorem concL_patch {π : Pi} {cs ds : List V} {us vs : List Value} (h : concL π cs = some us) (k : concL π ds = some vs) (off : Nat) : concL π (patchV cs off ds) = some (us.take off ++ vs ++ us.drop (off + vs.length)) := by
  unfold patchV
  rw [concL_len k]
  exact concL_append (concL_append (concL_take off h) k) (concL_drop _ h)
theorem part_conc {π : Pi} {cs : List V} {us : List Value} {sh : Bool × Nat} {off : Nat} {v : V} (h : concL π cs = some us) (ho : ∀ u ∈ us, u.oneCell' = true) (hp : partV sh cs off = some v) :
    (sh.1 = true ∧ off + sh.2 ≤ us.length ∧ conc π v = some (.agg ((us.drop off).take sh.2).toArray)) ∨ (sh.1 = false ∧ ∃ u, us[off]? = some u ∧ conc π v = some u) := by
  unfold partV at hp
  have hl := concL_len h
  split at hp
  · rename_i hb
    split at hp
    · injection hp with hp; subst hp
      have h1 := concL_take sh.2 (concL_drop off h)
      refine .inl ⟨hb, by omega, ?_⟩
      rw [conc, if_pos (all_one h1 fun u hu => ho u (List.mem_of_mem_drop (List.mem_of_mem_take hu))), h1]; rfl
    · cases hp
  · rename_i hb
    obtain ⟨u, h1, h2⟩ := concL_at h hp
    exact .inr ⟨by simpa using hb, u, h1, h2⟩
theorem run_loadV {P : Program} {π : Pi} {w : World} {T : TypeId} {b o off : Nat} {us : List Value} {cs : List V} {sh : Bool × Nat} {v : V} (hsh : tshape P T = some sh) (h : concL π cs = some us) (ho : ∀ u ∈ us, u.oneCell' = true)
    (hc : ∀ (j : Nat) (u : Value), us[j]? = some u → w.cell? ⟨b, o + j, none⟩ = some u) (hp : partV sh cs off = some v) : ∃ u, (loadVar T ⟨b, o + off, none⟩).run P w = .ok u w ∧ conc π v = some u := by
  obtain ⟨ag, n⟩ := sh
  obtain ⟨i, dd, h1, h2, h3, h4⟩ := tshape_parts hsh
  have hagg := run_isAgg (w := w) h2
  rw [h3] at hagg
  rcases part_conc h ho hp with ⟨e, hle, hv⟩ | ⟨e, u, hu, hv⟩
  · simp only at e hle hv; subst e
    refine ⟨_, ?_, hv⟩
    have hlen : ((us.drop off).take n).length = n := by rw [List.length_take, List.length_drop]; omega
    have hl := run_loadCells_list (P := P) w ⟨b, o + off, none⟩ ((us.drop off).take n) (fun j v hv => by
      rw [List.getElem?_take] at hv
      split at hv
      · rw [List.getElem?_drop] at hv
        rw [add_spot, Nat.add_assoc]; exact hc _ _ hv
      · cases hv)
    rw [hlen] at hl
    simp [loadVar, Sem.run_bind, hagg, sizeOf, typeInfo, h1, h4, hl]
  · simp only at e; subst e
    refine ⟨u, ?_, hv⟩
    have hcu := hc off _ hu
    simp [loadVar, Sem.run_bind, hagg, run_load, hcu, Result.andThen]
def Blk.cs : Blk → Option (List V)
  | .cells cs => some cs
  | .ro cs => some cs
  | _ => none
theorem BlkAt.cells {π : Pi} {w : World} {p : Pl} {b : Blk} {cs : List V} (h : BlkAt π w p b) (hc : b.cs = some cs) : ∃ us, concL π cs = some us ∧ (∀ u ∈ us, u.oneCell' = true) ∧ ∀ (j : Nat) (u : Value), us[j]? = some u → w.cell? ⟨p.b, p.base + j, none⟩ = some u := by
  cases b with
  | cells ds =>
    injection hc with hc; subst hc
    obtain ⟨arr, e, us, h1, h2, h3, h4, h5, h6⟩ := h
    refine ⟨us, h3, h4, fun j u hj => ?_⟩
    rw [cell_of_row w p.b _ arr e (0, 0) h1]
    have := h6 j u hj
    simpa using this
  | ro ds =>
    injection hc with hc; subst hc
    exact h
  | map es => cases hc
  | iter m n k => cases hc
section
variable {P : Program} {N base n : Nat} {w0 w w' : World} {π π' : Pi} {s s' : St} {a : Act} {o : Oper}
theorem Rel.at (hr : Rel base N w0 π s a w) {id : Nat} {b : Blk} (h : s.h id = some b) : ∃ p, π.pl id = some p ∧ BlkAt π w p b := by
  obtain ⟨p, h1, h2, _⟩ := hr.mem.place id b h
  exact ⟨p, h1, h2⟩
theorem Rel.ptr (hr : Rel base N w0 π s a w) {x : Operand} {id off : Nat} (h : vget s x = some (.ptr id off)) {p : Pl} (hp : π.pl id = some p) : a.eval x = .pointer (some ⟨p.b, p.base + off, none⟩) := by
  have := hr.get h
  rw [conc, hp] at this
  injection this with this; exact this.symm
theorem r_load {T : TypeId} {x : Operand} {id off : Nat} {b : Blk} {cs : List V} {sh : Bool × Nat} {v : V} (hop : o.op = .load T x) (hx : vget s x = some (.ptr id off)) (hb : s.h id = some b) (hc : b.cs = some cs) (hsh : tshape P T = some sh) (hp : partV sh cs off = some v) {d : Nat} (hdst : o.dst = some d) (hd : d < N) : Step P N o s (s.put (some d) v) :=
  step_pure hdst hd fun base w0 π a w hr => by
    obtain ⟨p, h1, h2⟩ := hr.at hb
    obtain ⟨us, h3, h4, h5⟩ := h2.cells hc
    obtain ⟨u, h6, h7⟩ := run_loadV (P := P) hsh h3 h4 h5 hp
    refine ⟨u, ?_, h7⟩
    simp only [execOp, hop, Instr.loadAt, hr.ptr hx h1, Instr.sureAddr, Sem.run_bind, Sem.run_pure, Result.andThen_ok, h6]
theorem r_loadG {T : TypeId} {g : Nat} {cs : List Value} {sh : Bool × Nat} {v : V} (hop : o.op = .load T (.global g)) (hg : gtab g = some cs) (ho : cs.all (·.oneCell') = true) (hsh : tshape P T = some sh) (hp : partV sh (cs.map .sc) 0 = some v) {d : Nat} (hdst : o.dst = some d) (hd : d < N) : Step P N o s (s.put (some d) v) :=
  step_pure hdst hd fun base w0 π a w hr => by
    obtain ⟨h1, h3⟩ := hr.mem.glob g cs hg
    have h2 := List.all_eq_true.1 ho
    obtain ⟨u, h6, h7⟩ := run_loadV (P := P) (π := π) (w := w) (b := g) (o := 0) (off := 0) hsh (concL_scs (List.all_eq_true.2 h2)) h2 (fun j u hj => by simpa using h3 j u hj) hp
    refine ⟨u, ?_, h7⟩
    have e : a.eval (.global g) = .pointer (some ⟨g, 0, none⟩) := rfl
    simp only [execOp, hop, Instr.loadAt, e, Instr.sureAddr, Sem.run_bind, Sem.run_pure, Result.andThen_ok]
    rw [show (0 : Nat) = 0 + 0 from rfl, h6]; rfl
theorem step_new {d : Nat} {cs : List V} {v : V} {sz : Nat} (hdst : o.dst = some d) (hd : d < N)
    (hx : ∀ base w0 π a w, Rel base N w0 π s a w → ∃ (u : Value) (arr : Array Value) (e : TypeId) (us : List Value), (execOp a.eval o).run P w = .ok (.value u) (w.alloc (.cells arr e)) ∧ concL π cs = some us ∧ (∀ u ∈ us, u.oneCell' = true) ∧ us = arr.toList ∧
      conc (π.put s.n ⟨w.heap.size, 0, arr.size, sz⟩) v = some u) : Step P N o s { (s.put (some d) v) with h := hset s.h s.n (some (.cells cs)), n := s.n + 1 } :=
  step_mem hdst hd fun base w0 π a w hr => by
    obtain ⟨u, arr, e, us, h1, h2, h3, h4, h5⟩ := hx base w0 π a w hr
    have hle := Pi.le_put (p := ⟨w.heap.size, 0, arr.size, sz⟩) (hr.mem.fresh s.n (Nat.le_refl _))
    refine ⟨u, _, _, h1, hle, hr.mem.new rfl ⟨arr, e, us, heap_alloc_new w _, by simp, concL_le hle h2, h3, ?_, fun j u hj => ?_⟩ rfl, h5⟩
    · have := concL_len h2; rw [h4] at this; simp at this ⊢; omega
    · rw [h4] at hj; simpa using hj
theorem r_box {T : TypeId} {x : Operand} {v : V} (hop : o.op = .box T x) (hx : vget s x = some v) (hn : ∀ cs, v ≠ .tup cs) {d : Nat} (hdst : o.dst = some d) (hd : d < N) : Step P N o s { (s.put (some d) (.ptr s.n 0)) with h := hset s.h s.n (some (.cells v.cells)), n := s.n + 1 } :=
  step_new (sz := 1) hdst hd fun base w0 π a w hr => by
    obtain ⟨h1, h2⟩ := conc_cells (hr.get hx) hn
    exact ⟨.pointer (some ⟨w.heap.size, 0, none⟩), (a.eval x).cells, T, _, by simp [execOp, hop, Instr.box, newVar, newRow], h1, h2, rfl, by rw [conc, Pi.put_self]⟩
def zeroV (P : Program) (t : TypeId) : Option (List V) := match P.info? t with
  | some i => match i.zero with
    | some z => if z.cells.toList.all (·.oneCell') then some (z.cells.toList.map .sc) else none
    | none => none
  | none => none
theorem zeroV_parts {T : TypeId} {cs : List V} (h : zeroV P T = some cs) : ∃ i z, P.info? T = some i ∧ i.zero = some z ∧ cs = z.cells.toList.map .sc ∧ ∀ u ∈ z.cells.toList, u.oneCell' = true := by
  unfold zeroV at h
  split at h
  · rename_i i hi
    split at h
    · rename_i z hz
      split at h
      · rename_i ho; injection h with h; exact ⟨i, z, hi, hz, h.symm, List.all_eq_true.1 ho⟩
      · cases h
    · cases h
  · cases h
theorem r_alloc {T : TypeId} {cs : List V} (hop : o.op = .alloc T) (hz : zeroV P T = some cs) {d : Nat} (hdst : o.dst = some d) (hd : d < N) : Step P N o s { (s.put (some d) (.ptr s.n 0)) with h := hset s.h s.n (some (.cells cs)), n := s.n + 1 } :=
  step_new (sz := 1) hdst hd fun base w0 π a w hr => by
    obtain ⟨i, z, hi, hzz, rfl, ho⟩ := zeroV_parts hz
    exact ⟨.pointer (some ⟨w.heap.size, 0, none⟩), z.cells, T, _, by simp [execOp, hop, Instr.alloc, zeroValue, typeInfo, hi, hzz, newVar, newRow], concL_scs (List.all_eq_true.2 ho), ho, rfl, by rw [conc, Pi.put_self]⟩
theorem r_store {T : TypeId} {x y : Operand} {id off : Nat} {cs : List V} {v : V} {sh : Bool × Nat} (hop : o.op = .store T x y) (hx : vget s x = some (.ptr id off)) (hb : s.h id = some (.cells cs)) (hy : vget s y = some v) (hn : ∀ cs, v ≠ .tup cs) (hsh : tshape P T = some sh) (hl : v.cells.length = sh.2) (hoff : off + v.cells.length ≤ cs.length) (hdst : o.dst = none) :
    Step P N o s { s with h := hset s.h id (some (.cells (patchV cs off v.cells))) } := by
  intro base w0 π a w hr K Q hK
  obtain ⟨p, hp, hat⟩ := hr.at hb
  obtain ⟨arr, e, us, h1, h2, h3, h4, h5, h6⟩ := hat
  obtain ⟨k1, k2⟩ := conc_cells (hr.get hy) hn
  obtain ⟨ag, n⟩ := sh
  obtain ⟨i, dd, q1, q2, q3, q4⟩ := tshape_parts hsh
  have hus := concL_len h3
  have hvl := concL_len k1
  have hvs : (a.eval y).cells.size = i.size := by simp at hvl; omega
  have hst := run_storeCells_at P p.b (p.base + off) e (a.eval y).cells.toList 0 arr w h1 (by rw [hvl, h2]; omega) k2
  simp only [Nat.add_zero] at hst
  have hrun : (execOp a.eval o).run P w = .ok .skip (w.setRow p.b (arr.toList.take (p.base + off) ++ (a.eval y).cells.toList ++ arr.toList.drop (p.base + off + (a.eval y).cells.toList.length)).toArray) := by
    simp only [execOp, hop, Instr.storeAt, hr.ptr hx hp, Instr.sureAddr, storeVar, sizeOf, typeInfo, Sem.run_bind, Sem.run_pure, Result.andThen_ok]
    simp [q1, hvs, hst]
  unfold Oper.wp
  rw [hrun, Oper.upon_skip, hdst]
  have hoth : ∀ k, k ≠ p.b → (w.setRow p.b (arr.toList.take (p.base + off) ++ (a.eval y).cells.toList ++ arr.toList.drop (p.base + off + (a.eval y).cells.toList.length)).toArray).heap[k]? = w.heap[k]? := fun k hk => setRow_other w _ k _ hk
  obtain ⟨p', hp', _, hbase, _⟩ := hr.mem.place id _ hb
  rw [hp] at hp'; injection hp' with hp'; subst hp'
  refine hK π _ _ π.le_refl ⟨hr.mem.update hb rfl hp hoth (by simp) ⟨rfl, rfl, rfl, by simp, fun k hk => hoth k (by have := hbase rfl; omega)⟩ ?_ rfl, by simpa [Act.put] using hr.tsz, by simpa [Act.put] using hr.defs, fun i v hi => by simpa [Act.put] using hr.slot i v hi⟩
  refine ⟨_, e, _, setRow_heap w _ arr _ e _ h1, ?_, concL_patch h3 k1 off, fun u hu => ?_, ?_, fun j u hj => ?_⟩
  · simp only [List.size_toArray, List.length_append, List.length_take, List.length_drop, Array.length_toList]
    simp only [Array.length_toList] at hvl
    rw [h2]; omega
  · rcases List.mem_append.1 hu with hu | hu
    · rcases List.mem_append.1 hu with hu | hu
      · exact h4 u (List.mem_of_mem_take hu)
      · exact k2 u hu
    · exact h4 u (List.mem_of_mem_drop hu)
  · simp only [patchV, List.length_append, List.length_take, List.length_drop]; omega
  · rw [List.toList_toArray]
    have hal : arr.toList.length = p.base + p.room := by simpa using h2
    have hul : us.length = cs.length := hus
    by_cases c1 : j < off
    · rw [List.append_assoc, List.getElem?_append_left (by rw [List.length_take]; omega), List.getElem?_take, if_pos c1] at hj
      rw [List.append_assoc, List.getElem?_append_left (by rw [List.length_take]; omega), List.getElem?_take, if_pos (by omega)]
      exact h6 j u hj
    · by_cases c2 : j < off + (a.eval y).cells.toList.length
      · rw [List.append_assoc, List.getElem?_append_right (by rw [List.length_take]; omega), List.getElem?_append_left (by rw [List.length_take]; omega)] at hj
        rw [List.append_assoc, List.getElem?_append_right (by rw [List.length_take]; omega), List.getElem?_append_left (by rw [List.length_take]; omega)]
        rw [← hj]; congr 1
        rw [List.length_take, List.length_take]; omega
      · rw [List.getElem?_append_right (by rw [List.length_append, List.length_take]; omega), List.getElem?_drop] at hj
        rw [List.getElem?_append_right (by rw [List.length_append, List.length_take]; omega), List.getElem?_drop]
        have := h6 _ u hj
        rw [← this]; congr 1
        rw [List.length_append, List.length_append, List.length_take, List.length_take]; omega
end
end Go.Rn
end
section
namespace Go.Rn
open Go.RowKit
open Go.Vm (pureRun pureRun_run fieldOff run_fieldAt tshape tshape_parts isAggD run_isAgg elemSize elemSize_parts elemFull elemFull_parts arrShape fill_one run_bound)
set_option linter.unusedSectionVars false
variable [Cx]
def V.noTup : V → Bool
  | .tup _ => false
  | _ => true
theorem noTup_spec {v : V} (h : v.noTup = true) : ∀ cs, v ≠ .tup cs := by rintro cs rfl; cases h
def fillV (place : Nat → Option (Nat × Nat)) (cells : List V) : List (Nat × V) → Option (List V)
  | [] => some cells
  | (i, d) :: rest => match place i with
    | none => none
    | some (off, size) => if d.cells.length = size ∧ off + d.cells.length ≤ cells.length ∧ d.noTup = true then fillV place (patchV cells off d.cells) rest else none
def builtV (P : Program) (t : TypeId) (parts : List (Nat × V)) : Option (List V) :=
  match P.underlying t, zeroV P t with
  | some (.array _ e), some zs => match P.info? e with
    | some ie => fillV (fun i => some (i * ie.size, ie.size)) zs parts
    | none => none
  | some (.struct fields), some zs => match fields.toList.mapM (fun f => (P.info? f.type).map fun i => (f.offset, i.size)) with
    | some places => fillV (places.toArray[·]?) zs parts
    | none => none
  | _, _ => none
def vparts (s : St) : List (Nat × Operand) → Option (List (Nat × V))
  | [] => some []
  | (i, x) :: l => match vget s x, vparts s l with
    | some d, some ds => some ((i, d) :: ds)
    | _, _ => none
theorem fill_conc {π : Pi} {place : Nat → Option (Nat × Nat)} : ∀ {parts : List (Nat × Value)} {ds : List (Nat × V)} {cells : Array Value} {cs cs' : List V}, concL π cs = some cells.toList → (∀ u ∈ cells.toList, u.oneCell' = true) → parts.length = ds.length →
    (∀ (j : Nat) (p : Nat × Value) (q : Nat × V), parts[j]? = some p → ds[j]? = some q → p.1 = q.1 ∧ conc π q.2 = some p.2) → fillV place cs ds = some cs' → ∃ cells', Instr.fill place cells parts = some cells' ∧ concL π cs' = some cells'.toList ∧ ∀ u ∈ cells'.toList, u.oneCell' = true
  | [], [], cells, cs, cs', h, ho, _, _, hf => by
    simp [fillV] at hf; subst hf; exact ⟨cells, by simp [Instr.fill], h, ho⟩
  | [], _ :: _, _, _, _, _, _, hl, _, _ => by simp at hl
  | _ :: _, [], _, _, _, _, _, hl, _, _ => by simp at hl
  | (i, v) :: parts, (i', d) :: ds, cells, cs, cs', h, ho, hl, hp, hf => by
    obtain ⟨e1, hv⟩ := hp 0 (i, v) (i', d) rfl rfl
    simp only at e1 hv; subst e1
    unfold fillV at hf
    split at hf
    · cases hf
    · rename_i off size hpl
      split at hf
      · rename_i hc
        obtain ⟨hcl, hone⟩ := conc_cells hv (noTup_spec hc.2.2)
        have e2 : v.cells.size = d.cells.length := by have := concL_len hcl; simpa using this
        have e3 : cells.size = cs.length := by have := concL_len h; simpa using this
        have hle : off + v.cells.size ≤ cells.size := by omega
        have hfo := fill_one off v.cells cells hle
        have hk := concL_patch h hcl off
        simp only [Array.length_toList] at hk
        rw [← hfo] at hk
        obtain ⟨cells', h1, h2, h3⟩ := fill_conc (parts := parts) (ds := ds) hk (by
          intro u hu
          rw [hfo] at hu
          rcases List.mem_append.1 hu with hu | hu
          · rcases List.mem_append.1 hu with hu | hu
            · exact ho u (List.mem_of_mem_take hu)
            · exact hone u hu
          · exact ho u (List.mem_of_mem_drop hu)) (by simpa using hl) (fun j p q hj hq => hp (j + 1) p q (by simpa using hj) (by simpa using hq)) hf
        refine ⟨cells', ?_, h2, h3⟩
        unfold Instr.fill
        rw [hpl]
        simp only
        rw [if_neg (by simp only [ne_eq, Bool.or_eq_true, decide_eq_true_eq]; omega)]
        exact h1
      · cases hf
theorem built_conc {P : Program} {π : Pi} {t : TypeId} {parts : List (Nat × Value)} {ds : List (Nat × V)} {cs : List V} (hl : parts.length = ds.length)
    (hp : ∀ (j : Nat) (p : Nat × Value) (q : Nat × V), parts[j]? = some p → ds[j]? = some q → p.1 = q.1 ∧ conc π q.2 = some p.2) (h : builtV P t ds = some cs) : ∃ cells, P.built t parts = some cells ∧ concL π cs = some cells.toList ∧ ∀ u ∈ cells.toList, u.oneCell' = true := by
  unfold builtV at h
  unfold Program.built
  split at h
  · rename_i n e zs hu hz
    obtain ⟨i, z, h1, h2, rfl, ho⟩ := zeroV_parts hz
    split at h
    · rename_i ie hie
      simp only [h1, hu, h2, hie]
      exact fill_conc (concL_scs (List.all_eq_true.2 ho)) ho hl hp h
    · cases h
  · rename_i fields zs hu hz
    obtain ⟨i, z, h1, h2, rfl, ho⟩ := zeroV_parts hz
    split at h
    · rename_i places hpl
      simp only [h1, hu, h2, hpl]
      exact fill_conc (concL_scs (List.all_eq_true.2 ho)) ho hl hp h
    · cases h
  · cases h
section
variable {P : Program} {N base n : Nat} {w0 w w' : World} {π π' : Pi} {s s' : St} {a : Act} {o : Oper}
theorem Rel.parts (hr : Rel base N w0 π s a w) : ∀ {parts : List (Nat × Operand)} {ds : List (Nat × V)}, vparts s parts = some ds → (parts.map fun (i, x) => (i, a.eval x)).length = ds.length ∧
    ∀ (j : Nat) (p : Nat × Value) (q : Nat × V), (parts.map fun (i, x) => (i, a.eval x))[j]? = some p → ds[j]? = some q → p.1 = q.1 ∧ conc π q.2 = some p.2
  | [], ds, h => by simp [vparts] at h; subst h; simp
  | (i, x) :: l, ds, h => by
    unfold vparts at h
    split at h
    · rename_i d ds' h1 h2
      injection h with h; subst h
      obtain ⟨k1, k2⟩ := hr.parts h2
      refine ⟨by simpa using k1, fun j p q hj hq => ?_⟩
      cases j with
      | zero =>
        simp at hj hq; subst hj hq
        exact ⟨rfl, hr.get h1⟩
      | succ j => exact k2 j p q (by simpa using hj) (by simpa using hq)
    · cases h
theorem r_build {T : TypeId} {parts : Array (Nat × Operand)} {ds : List (Nat × V)} {cs : List V} (hop : o.op = .build T parts) (hx : vparts s parts.toList = some ds) (hb : builtV P T ds = some cs) {d : Nat} (hdst : o.dst = some d) (hd : d < N) : Step P N o s (s.put (some d) (.agg cs)) :=
  step_pure hdst hd fun base w0 π a w hr => by
    obtain ⟨h1, h2⟩ := hr.parts hx
    obtain ⟨cells, h3, h4, h5⟩ := built_conc (P := P) h1 h2 hb
    refine ⟨.agg cells, ?_, by rw [conc, if_pos (all_one h4 h5), h4]; rfl⟩
    have hr := run_build (P := P) w T (parts.map fun (i, x) => (i, a.eval x)) cells (by rw [Array.toList_map]; exact h3)
    simp only [execOp, hop, Sem.run_bind, hr, Result.andThen_ok]
    rfl
def litV (P : Program) (e : TypeId) (sz len : Nat) (ds : List (Nat × V)) : Option (List V) := match zeroV P e with
  | some zs => fillV (fun i => some (i * sz, sz)) ((List.range (len * sz)).map fun j => zs.getD (j % zs.length) default) ds
  | none => none
theorem made_conc {π : Pi} {z : Array Value} (ho : ∀ u ∈ z.toList, u.oneCell' = true) {m : Nat} (hm : 0 < m → 0 < z.size) : concL π ((List.range m).map fun j => (z.toList.map V.sc).getD (j % (z.toList.map V.sc).length) default) = some (madeCells z m).toList ∧ ∀ u ∈ (madeCells z m).toList, u.oneCell' = true := by
  have key : ∀ j, j < m → ∃ u, z.toList[j % z.size]? = some u ∧ z[j % z.size]! = u ∧ u.oneCell' = true := fun j hj => by
    have hlt : j % z.size < z.size := Nat.mod_lt _ (hm (by omega))
    exact ⟨z[j % z.size], by simp [hlt], by rw [getElem!_pos z _ hlt], ho _ (by simp)⟩
  refine ⟨concL_mk (by simp [madeCells]) fun i u c h1 h2 => ?_, fun u hu => ?_⟩
  · simp only [madeCells, Array.toList_map, Array.toList_range, List.getElem?_map] at h1 h2
    cases hj : (List.range m)[i]? with
    | none => rw [hj] at h1; cases h1
    | some j =>
      rw [hj] at h1 h2
      simp only [Option.map_some, Option.some.injEq] at h1 h2
      have hjm : j < m := by have := List.mem_of_getElem? hj; simpa using this
      obtain ⟨v, e1, e2, e3⟩ := key j hjm
      rw [e2] at h1
      subst h1 h2
      rw [List.getD_eq_getElem?_getD, List.length_map, Array.length_toList, List.getElem?_map, e1]
      simp only [Option.map_some, Option.getD_some]
      rw [conc, if_pos e3]
  · simp only [madeCells, Array.toList_map, Array.toList_range, List.mem_map] at hu
    obtain ⟨j, hj, rfl⟩ := hu
    obtain ⟨v, e1, e2, e3⟩ := key j (by simpa using hj)
    rw [e2]; exact e3
theorem r_lit {T e : TypeId} {sz bytes len : Nat} {parts : Array (Nat × Operand)} {ds : List (Nat × V)} {cs : List V} (hop : o.op = .buildSlice T len parts) (hT : elemFull P T = some (e, sz, bytes)) (hx : vparts s parts.toList = some ds) (hb : litV P e sz len ds = some cs) (hs : len * sz ≤ 16777216) {d : Nat} (hdst : o.dst = some d) (hd : d < N) :
    Step P N o s { (s.put (some d) (.sl s.n 0 sz len (some len))) with h := hset s.h s.n (some (.cells cs)), n := s.n + 1 } :=
  step_new (sz := sz) hdst hd fun base w0 π a w hr => by
    obtain ⟨i, z, h1, h2, h3, h4, h5, h6, h7, h8⟩ := elemFull_parts hT
    subst h4
    unfold litV at hb
    split at hb
    · rename_i zs hz
      obtain ⟨i', z', q1, q2, rfl, ho⟩ := zeroV_parts hz
      rw [h2] at q1; injection q1 with q1; subst q1
      rw [h3] at q2; injection q2 with q2; subst q2
      obtain ⟨k1, k2⟩ := hr.parts hx
      obtain ⟨m1, m2⟩ := made_conc (π := π) ho (m := len * i.size) (fun _ => by rw [h6]; exact h7)
      obtain ⟨cells, f1, f2, f3⟩ := fill_conc m1 m2 k1 k2 hb
      have hlen : cells.size = len * i.size := by
        have e1 := concL_len f2
        have : ∀ {parts : List (Nat × Value)} {cells cells' : Array Value}, Instr.fill (fun j => some (j * i.size, i.size)) cells parts = some cells' → cells'.size = cells.size := by
          intro parts
          induction parts with
          | nil => intro cells cells' h; simp [Instr.fill] at h; rw [h]
          | cons p rest ih =>
            intro cells cells' h
            obtain ⟨j, v⟩ := p
            unfold Instr.fill at h
            simp only at h
            split at h
            · cases h
            · have := ih h
              rw [this]
              have hfold : ∀ (l : List (Value × Nat)) (off : Nat) (c : Array Value), (l.foldl (fun cs x => cs.setIfInBounds (off + x.2) x.1) c).size = c.size := by
                intro l
                induction l with
                | nil => intro off c; rfl
                | cons y l ih2 => intro off c; rw [List.foldl_cons, ih2]; simp
              rw [← Array.foldl_toList]
              exact hfold _ _ _
        rw [this f1]; simp [madeCells]
      have hmx : len ≤ maxLen := by
        have : len ≤ len * i.size := Nat.le_mul_of_pos_right _ h7
        unfold maxLen; omega
      refine ⟨.slice (some ⟨w.heap.size, 0, none⟩) len len, cells, e, _, ?_, f2, f3, rfl, ?_⟩
      · by_cases hpos : len * i.size = 0
        · have hl0 : len = 0 := by
            rcases Nat.mul_eq_zero.1 hpos with h | h
            · exact h
            · omega
          subst hl0
          have hc0 : cells = #[] := Array.eq_empty_of_size_eq_zero (by simpa using hlen)
          subst hc0
          have hpv : Instr.fill (fun j => some (j * i.size, i.size)) #[] (parts.toList.map fun (i, x) => (i, a.eval x)) = some #[] := by simpa [madeCells, show Array.range 0 = #[] from rfl] using f1
          have hr0 : Array.range 0 = #[] := rfl
          simp [execOp, hop, Instr.buildSlice, run_underlying h1, sizeOf, typeInfo, h2, newRow, hr0, hpv]
        · have hr2 := run_buildSlice (P := P) w T e len (parts.map fun (i, x) => (i, a.eval x)) cells i z h1 h2 h3 (by omega) hpos (by rw [Array.toList_map]; exact f1)
          simp only [execOp, hop, Sem.run_bind, hr2, Result.andThen_ok]
          rfl
      · exact conc_sl (c := some len) (Pi.put_self ..) ⟨rfl, Nat.le_refl _, by show 0 + len * i.size ≤ cells.size; omega, hmx⟩
    · cases hb
theorem r_make {T e : TypeId} {sz bytes l c : Nat} {x y : Operand} {kl kc : IntKind} {zs : List V} (hop : o.op = .makeSlice T x y) (hT : elemFull P T = some (e, sz, bytes)) (hx : vget s x = some (.sc (.int kl (l : Int)))) (hy : vget s y = some (.sc (.int kc (c : Int)))) (hz : zeroV P e = some zs) (hlc : l ≤ c) (hb : bytes * c ≤ 281474976710656) (hm : c ≤ maxLen) {d : Nat} (hdst : o.dst = some d) (hd : d < N) :
    Step P N o s { (s.put (some d) (.sl s.n 0 sz l (some c))) with h := hset s.h s.n (some (.cells ((List.range (c * sz)).map fun j => zs.getD (j % zs.length) default))), n := s.n + 1 } :=
  step_new (sz := sz) hdst hd fun base w0 π a w hr => by
    obtain ⟨i, z, h1, h2, h3, h4, h5, h6, h7, h8⟩ := elemFull_parts hT
    subst h4 h5
    obtain ⟨i', z', q1, q2, rfl, ho⟩ := zeroV_parts hz
    rw [h2] at q1; injection q1 with q1; subst q1
    rw [h3] at q2; injection q2 with q2; subst q2
    obtain ⟨m1, m2⟩ := made_conc (π := π) ho (m := c * i.size) (fun _ => by rw [h6]; exact h7)
    have e1 := hr.getV hx rfl
    have e2 := hr.getV hy rfl
    have hbi : (i.bytes : Int) * (c : Int) ≤ 281474976710656 := by
      have h : ((i.bytes * c : Nat) : Int) ≤ 281474976710656 := by omega
      rwa [Int.natCast_mul] at h
    have hrun := run_make (P := P) w T e i z h1 h2 h3 kl kc (l : Int) (c : Int) (by omega) (by omega) hbi (by simp [maxLen] at hm; omega)
    simp only [Int.toNat_natCast] at hrun
    refine ⟨.slice (some ⟨w.heap.size, 0, none⟩) l c, madeCells z.cells (c * i.size), e, _, by simp [execOp, hop, e1, e2, hrun], m1, m2, rfl, ?_⟩
    exact conc_sl (c := some c) (Pi.put_self ..) ⟨rfl, hlc, by show 0 + c * i.size ≤ (madeCells z.cells (c * i.size)).size; rw [size_madeCells]; omega, hm⟩
theorem r_map {T : TypeId} (hop : o.op = .makeMap T none) {d : Nat} (hdst : o.dst = some d) (hd : d < N) : Step P N o s { (s.put (some d) (.mp s.n)) with h := hset s.h s.n (some (.map [])), n := s.n + 1 } :=
  step_mem hdst hd fun base w0 π a w hr => by
    have hle := Pi.le_put (p := ⟨w.heap.size, 0, 0, 1⟩) (hr.mem.fresh s.n (Nat.le_refl _))
    refine ⟨.map (some w.heap.size), w.alloc (.map #[] 0), π.put s.n ⟨w.heap.size, 0, 0, 1⟩, by simp [execOp, hop, Instr.makeMap], hle, hr.mem.new rfl ⟨#[], heap_alloc_new w _, rfl, by simp⟩ rfl, by rw [conc, Pi.put_self]⟩
end
end Go.Rn
end
section
namespace Go.Rn
open Go.RowKit
open Go.Vm (elemFull elemFull_parts)
set_option linter.unusedSectionVars false
variable [Cx]
theorem BlkAt.write {π : Pi} {w : World} {p : Pl} {cs ds : List V} {vs : List Value} {off : Nat} (h : BlkAt π w p (.cells cs)) (k : concL π ds = some vs) (ho : ∀ u ∈ vs, u.oneCell' = true) (h1 : off ≤ cs.length) (h2 : off + vs.length ≤ p.room) :
    ∃ (arr : Array Value) (e : TypeId), w.heap[p.b]? = some (.cells arr e (0, 0)) ∧ arr.size = p.base + p.room ∧
      BlkAt π (w.setRow p.b (arr.toList.take (p.base + off) ++ vs ++ arr.toList.drop (p.base + off + vs.length)).toArray) p (.cells (patchV cs off ds)) := by
  obtain ⟨arr, e, us, g1, g2, g3, g4, g5, g6⟩ := h
  have hul := concL_len g3
  have hvl := concL_len k
  refine ⟨arr, e, g1, g2, _, e, _, setRow_heap w _ arr _ e _ g1, ?_, concL_patch g3 k off, fun u hu => ?_, ?_, fun j u hj => ?_⟩
  · simp only [List.size_toArray, List.length_append, List.length_take, List.length_drop, Array.length_toList]
    rw [g2]; omega
  · rcases List.mem_append.1 hu with hu | hu
    · rcases List.mem_append.1 hu with hu | hu
      · exact g4 u (List.mem_of_mem_take hu)
      · exact ho u hu
    · exact g4 u (List.mem_of_mem_drop hu)
  · simp only [patchV, List.length_append, List.length_take, List.length_drop]; omega
  · rw [List.toList_toArray]
    have hal : arr.toList.length = p.base + p.room := by simpa using g2
    by_cases c1 : j < off
    · rw [List.append_assoc, List.getElem?_append_left (by rw [List.length_take]; omega), List.getElem?_take, if_pos c1] at hj
      rw [List.append_assoc, List.getElem?_append_left (by rw [List.length_take]; omega), List.getElem?_take, if_pos (by omega)]
      exact g6 j u hj
    · by_cases c2 : j < off + vs.length
      · rw [List.append_assoc, List.getElem?_append_right (by rw [List.length_take]; omega), List.getElem?_append_left (by rw [List.length_take]; omega)] at hj
        rw [List.append_assoc, List.getElem?_append_right (by rw [List.length_take]; omega), List.getElem?_append_left (by rw [List.length_take]; omega)]
        rw [← hj]; congr 1
        rw [List.length_take, List.length_take]; omega
      · rw [List.getElem?_append_right (by rw [List.length_append, List.length_take]; omega), List.getElem?_drop] at hj
        rw [List.getElem?_append_right (by rw [List.length_append, List.length_take]; omega), List.getElem?_drop]
        have := g6 _ u hj
        rw [← this]; congr 1
        rw [List.length_append, List.length_append, List.length_take, List.length_take]; omega
theorem run_append_off {P : Program} {w : World} {T tx ty e e' : TypeId} {i : TypeInfo} (ht : P.underlying T = some (.slice e)) (hi : P.info? e = some i) {g o sLen sCap : Nat} {cur : Array Value} (hg : w.heap[g]? = some (.cells cur e' (0, 0))) {x : Value} {n : Nat} {news : List Value} (hs : Src P i.size tx x n news w)
    (hroom : sLen + n ≤ sCap) (hfit : o + sLen * i.size + news.length ≤ cur.size) :
    (Builtin.append_ #[T, tx] ty #[.slice (some ⟨g, o, none⟩) sLen sCap, x]).run P w = .ok (.slice (some ⟨g, o, none⟩) (sLen + n) sCap) (w.setRow g (cur.toList.take (o + sLen * i.size) ++ news ++ cur.toList.drop (o + sLen * i.size + news.length)).toArray) := by
  have hst := run_storeCells_at P g (o + sLen * i.size) e' news 0 cur w hg (by simpa using hfit) hs.one
  simp only [Nat.add_zero] at hst
  rcases hs.kind with ⟨e', hk⟩ | hk <;> simp [Builtin.append_, run_underlying ht, run_underlying hk, sizeOf, typeInfo, hi, hs.len, hroom, hs.cells, add_spot, hst]
def strV (s : ByteArray) : List V := s.data.toList.map fun b => .sc (.int .u8 b.toNat)
def srcV (h : Hp) (sz : Nat) : V → Option (Nat × List V)
  | .sc (.string s) => if sz = 1 then some (s.size, strV s) else none
  | .sc (.slice none 0 0) => some (0, [])
  | .sl id off sz' n _ => if sz' = sz then (if n = 0 then some (0, []) else match h id with
    | some b => match b.cs with
      | some cs => if off + n * sz ≤ cs.length then some (n, (cs.drop off).take (n * sz)) else none
      | none => none
    | none => none) else none
  | _ => none
def srcKind (P : Program) (tx : TypeId) : V → Prop
  | .sc (.string _) => P.underlying tx = some .string
  | _ => ∃ e', P.underlying tx = some (.slice e')
section
variable {P : Program} {N base n : Nat} {w0 w w' : World} {π π' : Pi} {s s' : St} {a : Act} {o : Oper}
theorem Rel.src (hr : Rel base N w0 π s a w) {y : Operand} {v : V} {sz m : Nat} {ds : List V} {tx : TypeId} (hy : vget s y = some v) (hk : srcKind P tx v) (hs : srcV s.h sz v = some (m, ds)) : ∃ news, Src P sz tx (a.eval y) m news w ∧ concL π ds = some news := by
  have hc := hr.get hy
  unfold srcV at hs
  split at hs
  · rename_i st
    split at hs
    · rename_i h1
      subst h1
      injection hs with hs; injection hs with e1 e2; subst e1 e2
      have e := toV_conc (v := .string st) rfl hc
      rw [e]
      refine ⟨_, Src.ofString (P := P) w hk st, ?_⟩
      unfold strV byteCells
      have : ∀ l : List UInt8, concL π (l.map fun b => V.sc (.int .u8 b.toNat)) = some (l.map fun b => Value.int .u8 b.toNat) := by
        intro l
        induction l with
        | nil => rw [List.map_nil, concL]; rfl
        | cons b l ih => rw [List.map_cons, concL, ih, conc, if_pos (by rfl)]; rfl
      exact this _
    · cases hs
  · injection hs with hs; injection hs with e1 e2; subst e1 e2
    have e := toV_conc (v := .slice none 0 0) rfl hc
    rw [e]
    obtain ⟨e', hk⟩ := hk
    exact ⟨[], Src.ofNil w hk 0, by rw [concL]⟩
  · rename_i id off sz' k c
    obtain ⟨e', hk⟩ := hk
    obtain ⟨p, hp, q1, q2, q3, q4, q5⟩ := sl_conc hc
    rw [q5]
    split at hs
    · rename_i h1
      subst h1
      split at hs
      · rename_i h0
        injection hs with hs; injection hs with e1 e2; subst e1 e2 h0
        exact ⟨[], Src.ofSlice w hk _ 0 _ [] (by simp) (by simp) (by simp), by rw [concL]⟩
      · split at hs
        · rename_i b hb
          split at hs
          · rename_i cs hcs
            split at hs
            · rename_i hle
              injection hs with hs; injection hs with e1 e2; subst e1 e2
              obtain ⟨p', hp', hat⟩ := hr.at hb
              rw [hp] at hp'; injection hp' with hp'; subst hp'
              obtain ⟨us, f1, f2, f3⟩ := hat.cells hcs
              have hul := concL_len f1
              have hg := concL_take (k * sz') (concL_drop off f1)
              refine ⟨_, Src.ofSlice w hk ⟨p.b, p.base + off, none⟩ k _ ((us.drop off).take (k * sz')) (by rw [List.length_take, List.length_drop]; omega) (fun j u hu => ?_) (fun u hu => f2 u (List.mem_of_mem_drop (List.mem_of_mem_take hu))), hg⟩
              rw [List.getElem?_take] at hu
              split at hu
              · rw [List.getElem?_drop] at hu
                rw [add_spot, Nat.add_assoc]
                exact f3 _ u hu
              · cases hu
            · cases hs
          · cases hs
        · cases hs
    · cases hs
  · cases hs
theorem append_wp {x y : Operand} {T tx : TypeId} (hop : o.op = .call { callee := .builtin .append, args := #[x, y], argTypes := #[T, tx] }) {v : Value} {w' : World} (h : (Builtin.append_ #[T, tx] o.type #[a.eval x, a.eval y]).run P w = .ok v w') : (execOp a.eval o).run P w = .ok (.value v) w' := by
  simp only [execOp, hop, resolve, invoke, builtin, Sem.run_bind, Sem.run_pure, Result.andThen_ok, List.map_toArray, List.map_cons, List.map_nil, h]
theorem r_app0 {T tx e : TypeId} {sz bytes : Nat} {x y : Operand} {v vy : V} (hop : o.op = .call { callee := .builtin .append, args := #[x, y], argTypes := #[T, tx] }) (hT : elemFull P T = some (e, sz, bytes)) (hx : vget s x = some v) (hv : (∃ id off n c, v = .sl id off sz n c) ∨ v = .sc (.slice none 0 0)) (hy : vget s y = some vy) (hk : srcKind P tx vy) (hs : srcV s.h sz vy = some (0, []))
    (hb : ∀ id off n c, v = .sl id off sz n c → ∃ cs, s.h id = some (.cells cs) ∧ off + n * sz ≤ cs.length) {d : Nat} (hdst : o.dst = some d) (hd : d < N) : Step P N o s (s.put (some d) v) :=
  step_pure hdst hd fun base w0 π a w hr => by
    obtain ⟨i, z, h1, h2, h3, h4, h5, h6, h7, h8⟩ := elemFull_parts hT
    subst h4
    obtain ⟨news, k1, k2⟩ := hr.src hy hk hs
    rw [concL] at k2; injection k2 with k2; subst k2
    refine ⟨a.eval x, append_wp hop ?_, hr.get hx⟩
    have hl0 := k1.len w
    have hc0 := k1.cells
    rcases hv with ⟨id, off, n, c, rfl⟩ | rfl
    · obtain ⟨cs, hcs, hle⟩ := hb id off n c rfl
      obtain ⟨p, hp, q1, q2, q3, q4, q5⟩ := sl_conc (hr.get hx)
      obtain ⟨p', hp', hat⟩ := hr.at hcs
      rw [hp] at hp'; injection hp' with hp'; subst hp'
      obtain ⟨arr, e', us, g1, g2, g3, g4, g5, g6⟩ := hat
      rw [q5]
      have hrun := run_append_off (P := P) (ty := o.type) (o := p.base + off) h1 h2 g1 k1 (sLen := n) (sCap := capOf p off c) (by omega) (by rw [g2]; simp only [List.length_nil]; omega)
      rw [hrun]
      simp only [List.append_nil, List.length_nil, Nat.add_zero, List.take_append_drop, Array.toArray_toList]
      rw [setRow_self w p.b arr e' (0, 0) g1]
    · have e0 := hr.getV hx rfl
      rw [e0]
      rcases k1.kind with ⟨e', hk⟩ | hk <;> simp [Builtin.append_, run_underlying h1, run_underlying hk, sizeOf, typeInfo, h2, hl0, hc0]
theorem r_appR {T tx e : TypeId} {sz bytes id off n c m : Nat} {x y : Operand} {vy : V} {cs ds : List V} (hop : o.op = .call { callee := .builtin .append, args := #[x, y], argTypes := #[T, tx] }) (hT : elemFull P T = some (e, sz, bytes)) (hx : vget s x = some (.sl id off sz n (some c))) (hy : vget s y = some vy) (hk : srcKind P tx vy) (hs : srcV s.h sz vy = some (m, ds))
    (hb : s.h id = some (.cells cs)) (hle : off + n * sz ≤ cs.length) (hroom : n + m ≤ c) {d : Nat} (hdst : o.dst = some d) (hd : d < N) : Step P N o s { (s.put (some d) (.sl id off sz (n + m) (some c))) with h := hset s.h id (some (.cells (patchV cs (off + n * sz) ds))), n := s.n } :=
  step_mem hdst hd fun base w0 π a w hr => by
    obtain ⟨i, z, h1, h2, h3, h4, h5, h6, h7, h8⟩ := elemFull_parts hT
    subst h4
    obtain ⟨news, k1, k2⟩ := hr.src hy hk hs
    obtain ⟨p, hp, q1, q2, q3, q4, q5⟩ := sl_conc (hr.get hx)
    obtain ⟨p', hp', hat, hbase, _⟩ := hr.mem.place id _ hb
    rw [hp] at hp'; injection hp' with hp'; subst hp'
    have hnl := k1.newsLen
    have hcap : capOf p off (some c) = c := rfl
    rw [hcap, q1] at q3
    have hmul : (n + m) * i.size ≤ c * i.size := Nat.mul_le_mul_right _ hroom
    rw [Nat.add_mul] at hmul
    obtain ⟨arr, e', g1, g2, g3⟩ := hat.write (off := off + n * i.size) k2 k1.one hle (by rw [hnl]; omega)
    have hrun := run_append_off (P := P) (ty := o.type) (o := p.base + off) h1 h2 g1 k1 (sLen := n) (sCap := c) hroom (by rw [g2, hnl]; omega)
    rw [Nat.add_assoc p.base] at hrun
    have hoth : ∀ k, k ≠ p.b → (w.setRow p.b (arr.toList.take (p.base + (off + n * i.size)) ++ news ++ arr.toList.drop (p.base + (off + n * i.size) + news.length)).toArray).heap[k]? = w.heap[k]? := fun k hk => setRow_other w _ k _ hk
    refine ⟨.slice (some ⟨p.b, p.base + off, none⟩) (n + m) c, _, π, append_wp hop (by rw [q5, hcap]; exact hrun), π.le_refl, hr.mem.update hb rfl hp hoth (by simp) ⟨rfl, rfl, rfl, by simp, fun k hk => hoth k (by have := hbase rfl; omega)⟩ g3 rfl, ?_⟩
    exact conc_sl (c := some c) hp ⟨q1, hroom, by rw [hcap, q1]; exact q3, q4⟩
theorem grow_run (hr : Rel base N w0 π s a w) {T tx e : TypeId} {sz bytes n m cap : Nat} {x y : Operand} {vy : V} {olds : List V} {ds : List V} {ad : Option Addr} {us : List Value} (hT : elemFull P T = some (e, sz, bytes)) (hx : a.eval x = .slice ad n cap) (hold : (Builtin.firstCells sz n (.slice ad n cap)).run P w.drew = .ok us.toArray w.drew) (hus : concL π olds = some us) (huo : ∀ u ∈ us, u.oneCell' = true) (hul : us.length = n * sz)
    (hy : vget s y = some vy) (hk : srcKind P tx vy) (hs : srcV s.h sz vy = some (m, ds)) (hgt : cap < n + m) (hm : n + m ≤ maxLen) (hby : (n + m) * bytes ≤ 140737488355328) (ty : TypeId) :
    ∃ v w' q, (Builtin.append_ #[T, tx] ty #[a.eval x, a.eval y]).run P w = .ok v w' ∧ π.le (π.put s.n q) ∧ Mem base w0 (π.put s.n q) (hset s.h s.n (some (.cells (olds ++ ds)))) (s.n + 1) w' ∧ conc (π.put s.n q) (.sl s.n 0 sz (n + m) none) = some v := by
  obtain ⟨i, z, h1, h2, h3, h4, h5, h6, h7, h8⟩ := elemFull_parts hT
  subst h4
  obtain ⟨news, k1, k2⟩ := hr.src hy hk hs
  have hnl := k1.newsLen
  have hrun := run_append_grow_src (P := P) w T tx ty e i z h1 h2 h3 ad n cap us hold (a.eval y) m news k1 hgt (by simp only [maxLen] at hm; omega) (growslice_fits hgt (by rw [h5]; exact hby))
  rw [← hx] at hrun
  have hge := grownCap_ge w (n + m) cap e
  have hcm := grownCap_le_maxLen w (n + m) cap e hm
  have hsz : ((us ++ news).toArray ++ Builtin.zeroCells z.cells (grownCap w (n + m) cap e - (n + m))).size = grownCap w (n + m) cap e * i.size := by
    simp only [Array.size_append, List.size_toArray, size_zeroCells, h6, List.length_append]
    rw [hul, hnl, ← Nat.add_mul, ← Nat.add_mul]
    congr 1; omega
  have hmd := hr.mem.keep (w' := w.drew) (Below.refl _ _).drew
  have hle := Pi.le_put (p := ⟨w.heap.size, 0, grownCap w (n + m) cap e * i.size, i.size⟩) (hr.mem.fresh s.n (Nat.le_refl _))
  have hcc := concL_append hus k2
  refine ⟨_, _, ⟨w.heap.size, 0, grownCap w (n + m) cap e * i.size, i.size⟩, hrun, hle, hmd.new rfl ⟨_, e, us ++ news, heap_alloc_new w.drew _, by rw [hsz]; simp, concL_le hle hcc, fun u hu => ?_, ?_, fun j u hj => ?_⟩ rfl, ?_⟩
  · rcases List.mem_append.1 hu with hu | hu
    · exact huo u hu
    · exact k1.one u hu
  · have := concL_len hcc
    rw [← this, List.length_append, hul, hnl, ← Nat.add_mul]
    exact Nat.mul_le_mul_right _ hge
  · simp only [Array.toList_append, Nat.zero_add]
    rw [List.getElem?_append_left (by simpa using (List.getElem?_eq_some_iff.1 hj).1)]
    simpa using hj
  · have hcap : capOf ⟨w.heap.size, 0, grownCap w (n + m) cap e * i.size, i.size⟩ 0 none = grownCap w (n + m) cap e := by
      show (grownCap w (n + m) cap e * i.size - 0) / i.size = _
      rw [Nat.sub_zero, Nat.mul_div_cancel _ h7]
    rw [conc_sl (c := none) (Pi.put_self ..) ⟨rfl, by rw [hcap]; exact hge, by rw [hcap]; show 0 + grownCap w (n + m) cap e * i.size ≤ grownCap w (n + m) cap e * i.size; omega, by rw [hcap]; exact hcm⟩, hcap]
theorem r_appN {T tx e : TypeId} {sz bytes m : Nat} {x y : Operand} {vy : V} {ds : List V} (hop : o.op = .call { callee := .builtin .append, args := #[x, y], argTypes := #[T, tx] }) (hT : elemFull P T = some (e, sz, bytes)) (hx : vget s x = some (.sc (.slice none 0 0))) (hy : vget s y = some vy) (hk : srcKind P tx vy) (hs : srcV s.h sz vy = some (m, ds))
    (hpos : 0 < m) (hm : m ≤ maxLen) (hby : m * bytes ≤ 140737488355328) {d : Nat} (hdst : o.dst = some d) (hd : d < N) : Step P N o s { (s.put (some d) (.sl s.n 0 sz m none)) with h := hset s.h s.n (some (.cells ds)), n := s.n + 1 } :=
  step_mem hdst hd fun base w0 π a w hr => by
    obtain ⟨v, w', q, r1, r2, r3, r4⟩ := grow_run (P := P) hr (olds := []) (us := []) (n := 0) (cap := 0) hT (hr.getV hx rfl) (run_firstCells_none (P := P) w.drew sz 0 0 0) (by rw [concL]) (by simp) (by simp) hy hk hs (by omega) (by omega) (by rw [Nat.zero_add]; exact hby) o.type
    rw [Nat.zero_add] at r4
    exact ⟨v, w', _, append_wp hop r1, r2, r3, r4⟩
theorem r_appG {T tx e : TypeId} {sz bytes id off n c m : Nat} {x y : Operand} {vy : V} {b : Blk} {cs ds : List V} (hop : o.op = .call { callee := .builtin .append, args := #[x, y], argTypes := #[T, tx] }) (hT : elemFull P T = some (e, sz, bytes)) (hx : vget s x = some (.sl id off sz n (some c))) (hy : vget s y = some vy) (hk : srcKind P tx vy) (hs : srcV s.h sz vy = some (m, ds))
    (hb : s.h id = some b) (hbc : b.cs = some cs) (hle : off + n * sz ≤ cs.length) (hgt : c < n + m) (hm : n + m ≤ maxLen) (hby : (n + m) * bytes ≤ 140737488355328) {d : Nat} (hdst : o.dst = some d) (hd : d < N) :
    Step P N o s { (s.put (some d) (.sl s.n 0 sz (n + m) none)) with h := hset s.h s.n (some (.cells ((cs.drop off).take (n * sz) ++ ds))), n := s.n + 1 } :=
  step_mem hdst hd fun base w0 π a w hr => by
    obtain ⟨p, hp, q1, q2, q3, q4, q5⟩ := sl_conc (hr.get hx)
    obtain ⟨p', hp', hat⟩ := hr.at hb
    rw [hp] at hp'; injection hp' with hp'; subst hp'
    obtain ⟨us, f1, f2, f3⟩ := hat.cells hbc
    have hul := concL_len f1
    have hl : ((us.drop off).take (n * sz)).length = n * sz := by rw [List.length_take, List.length_drop]; omega
    obtain ⟨v, w', q, r1, r2, r3, r4⟩ := grow_run (P := P) hr (us := (us.drop off).take (n * sz)) hT q5 (run_firstCells_some (P := P) w.drew sz n ⟨p.b, p.base + off, none⟩ n _ _ hl (fun j u hu => by
      rw [List.getElem?_take] at hu
      split at hu
      · rw [List.getElem?_drop] at hu
        rw [add_spot, Nat.add_assoc]
        exact f3 _ u hu
      · cases hu)) (concL_take _ (concL_drop _ f1)) (fun u hu => f2 u (List.mem_of_mem_drop (List.mem_of_mem_take hu))) hl hy hk hs hgt hm hby o.type
    exact ⟨v, w', _, append_wp hop r1, r2, r3, r4⟩
theorem r_appU {T tx e : TypeId} {sz bytes id off n m : Nat} {x y : Operand} {vy : V} {cs ds : List V} (hop : o.op = .call { callee := .builtin .append, args := #[x, y], argTypes := #[T, tx] }) (hT : elemFull P T = some (e, sz, bytes)) (hx : vget s x = some (.sl id off sz n none)) (hy : vget s y = some vy) (hk : srcKind P tx vy) (hs : srcV s.h sz vy = some (m, ds))
    (hb : s.h id = some (.cells cs)) (hle : off + n * sz ≤ cs.length) (hm : n + m ≤ maxLen) (hby : (n + m) * bytes ≤ 140737488355328) {d : Nat} (hdst : o.dst = some d) (hd : d < N) :
    Step P N o s { (s.put (some d) (.sl s.n 0 sz (n + m) none)) with h := hset (hset s.h id none) s.n (some (.cells ((cs.drop off).take (n * sz) ++ ds))), n := s.n + 1 } :=
  step_mem hdst hd fun base w0 π a w hr => by
    obtain ⟨p, hp, q1, q2, q3, q4, q5⟩ := sl_conc (hr.get hx)
    obtain ⟨p', hp', hat, hbase, _⟩ := hr.mem.place id _ hb
    rw [hp] at hp'; injection hp' with hp'; subst hp'
    obtain ⟨us, f1, f2, f3⟩ := hat.cells (cs := cs) rfl
    have hul := concL_len f1
    have hl : ((us.drop off).take (n * sz)).length = n * sz := by rw [List.length_take, List.length_drop]; omega
    by_cases hroom : n + m ≤ capOf p off none
    · obtain ⟨i, z, h1, h2, h3, h4, h5, h6, h7, h8⟩ := elemFull_parts hT
      subst h4
      obtain ⟨news, k1, k2⟩ := hr.src hy hk hs
      have hnl := k1.newsLen
      rw [q1] at q3
      have hmul : (n + m) * i.size ≤ capOf p off none * i.size := Nat.mul_le_mul_right _ hroom
      rw [Nat.add_mul] at hmul
      obtain ⟨arr, e', g1, g2, g3⟩ := hat.write (off := off + n * i.size) k2 k1.one hle (by rw [hnl]; omega)
      have hrun := run_append_off (P := P) (ty := o.type) (o := p.base + off) h1 h2 g1 k1 (sLen := n) (sCap := capOf p off none) hroom (by rw [g2, hnl]; omega)
      rw [Nat.add_assoc p.base] at hrun
      have hoth : ∀ k, k ≠ p.b → (w.setRow p.b (arr.toList.take (p.base + (off + n * i.size)) ++ news ++ arr.toList.drop (p.base + (off + n * i.size) + news.length)).toArray).heap[k]? = w.heap[k]? := fun k hk => setRow_other w _ k _ hk
      have hfr := hr.mem.fresh s.n (Nat.le_refl _)
      have hle2 := Pi.le_put (p := ⟨p.b, p.base + off, p.room - off, i.size⟩) hfr
      have hcap : capOf ⟨p.b, p.base + off, p.room - off, i.size⟩ 0 none = capOf p off none := by
        show (p.room - off - 0) / i.size = (p.room - off) / p.sz
        rw [Nat.sub_zero, q1]
      obtain ⟨arr2, e2, us2, m1, m2, m3, m4, m5, m6⟩ := g3
      refine ⟨.slice (some ⟨p.b, p.base + off, none⟩) (n + m) (capOf p off none), _, π.put s.n ⟨p.b, p.base + off, p.room - off, i.size⟩, append_wp hop (by rw [q5]; exact hrun), hle2, hr.mem.regrow hb rfl hp rfl hoth (by simp) ⟨rfl, rfl, rfl, by simp, fun k hk => hoth k (by have := hbase rfl; omega)⟩ ?_ rfl, ?_⟩
      · have hcc := concL_append (concL_take (n * i.size) (concL_drop off f1)) k2
        refine ⟨arr2, e2, _, m1, by rw [m2]; show _ = p.base + off + (p.room - off); omega, concL_le hle2 hcc, fun u hu => ?_, ?_, fun j u hj => ?_⟩
        · rcases List.mem_append.1 hu with hu | hu
          · exact f2 u (List.mem_of_mem_drop (List.mem_of_mem_take hu))
          · exact k1.one u hu
        · have := concL_len hcc
          rw [← this, List.length_append, hl, hnl]
          show _ ≤ p.room - off
          omega
        · have hp2 := concL_patch f1 k2 (off + n * i.size)
          rw [hp2] at m3; injection m3 with m3
          have : us2[off + j]? = some u := by
            rw [← m3]
            by_cases c1 : j < n * i.size
            · rw [List.getElem?_append_left (by rw [hl]; exact c1), List.getElem?_take, if_pos c1, List.getElem?_drop] at hj
              rw [List.append_assoc, List.getElem?_append_left (by rw [List.length_take]; omega), List.getElem?_take, if_pos (by omega)]
              exact hj
            · have hj2 := (List.getElem?_eq_some_iff.1 hj).1
              rw [List.length_append, hl] at hj2
              rw [List.getElem?_append_right (by rw [hl]; omega), hl] at hj
              rw [List.append_assoc, List.getElem?_append_right (by rw [List.length_take]; omega), List.getElem?_append_left (by rw [List.length_take]; omega)]
              rw [← hj]; congr 1
              rw [List.length_take]; omega
          have := m6 _ u this
          rw [← Nat.add_assoc] at this
          exact this
      · rw [conc_sl (c := none) (Pi.put_self ..) ⟨rfl, by rw [hcap]; exact hroom, by rw [hcap]; show 0 + _ ≤ p.room - off; show 0 + capOf p off none * i.size ≤ p.room - off; omega, by rw [hcap]; exact q4⟩, hcap]
        rfl
    · obtain ⟨v, w', q, r1, r2, r3, r4⟩ := grow_run (P := P) hr (us := (us.drop off).take (n * sz)) hT q5 (run_firstCells_some (P := P) w.drew sz n ⟨p.b, p.base + off, none⟩ n _ _ hl (fun j u hu => by
        rw [List.getElem?_take] at hu
        split at hu
        · rw [List.getElem?_drop] at hu
          rw [add_spot, Nat.add_assoc]
          exact f3 _ u hu
        · cases hu)) (concL_take _ (concL_drop _ f1)) (fun u hu => f2 u (List.mem_of_mem_drop (List.mem_of_mem_take hu))) hl hy hk hs (by omega) hm hby o.type
      refine ⟨v, w', _, append_wp hop r1, r2, ?_, r4⟩
      have hne : id ≠ s.n := by
        rintro rfl
        rw [hr.mem.fresh s.n (Nat.le_refl _)] at hp; cases hp
      have hk2 := r3.kill id
      have : hset (hset s.h s.n (some (.cells ((cs.drop off).take (n * sz) ++ ds)))) id none = hset (hset s.h id none) s.n (some (.cells ((cs.drop off).take (n * sz) ++ ds))) := by
        funext k
        unfold hset
        by_cases e1 : k = id
        · subst e1; rw [if_pos rfl, if_neg hne, if_pos rfl]
        · by_cases e2 : k = s.n
          · subst e2; rw [if_neg e1, if_pos rfl, if_pos rfl]
          · rw [if_neg e1, if_neg e2, if_neg e2, if_neg e1]
      rw [this] at hk2
      exact hk2
end
end Go.Rn
end
