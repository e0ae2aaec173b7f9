/- Part 3 of what the proof of LensRight stands on: XgU, XgV, XgW, LnPlain, Tt, LnName, LnPlace, LnEq, LnTexts, LnField, LnSchemaP, LnLensP, LnSchema, LnSchema2, LnSchema3, LnHeavy, LnKeepP, LnLens2P, LnTables, LnLensS, LnLens, LnLens2, LnLens3, LnMerged, LnArr, LnApply, LnApplyR. -/
import Derived.Laws.StructEq
import Derived.KernelRfl
import Derived.Test.YtdhhmbbhhnendaaLensRightM2
set_option linter.unusedVariables false
set_option linter.unusedSimpArgs false
set_option maxHeartbeats 1000000
section
namespace Go.Vm
open Go.RowKit
def udropK (id : Nat) : List D → (List D → Prop) → Prop
  | [], K => K []
  | .rr a b c :: l, K => match Nat.beq a id with
    | true => udropK id l fun l' => K (.stale :: l')
    | false => udropK id l fun l' => K (.rr a b c :: l')
  | x :: l, K => udropK id l fun l' => K (x :: l')
theorem udropK_spec {id : Nat} : ∀ {l : List D} {K : List D → Prop}, udropK id l K → K (l.map (dropC id))
  | [], K, h => h
  | d :: l, K, h => by
    cases d with
    | rr a b c =>
      simp only [udropK] at h
      split at h
      · rename_i hb
        have := udropK_spec (K := fun l' => K (.stale :: l')) h
        simp only [List.map_cons, dropC, if_pos (Nat.eq_of_beq_eq_true hb)]; exact this
      · rename_i hb
        have := udropK_spec (K := fun l' => K (.rr a b c :: l')) h
        have hne : ¬ a = id := fun e => by rw [e, Nat.beq_refl] at hb; cases hb
        simp only [List.map_cons, dropC, if_neg hne]; exact this
    | _ => exact udropK_spec (K := fun l' => K (_ :: l')) h
def dropGK (id : Nat) (s : S) (K : S → Prop) : Prop := match s with
  | .sref u sz n => match Nat.beq u id with
    | true => K .junk
    | false => K (.sref u sz n)
  | .gref u sz n => match Nat.beq u id with
    | true => K .junk
    | false => K (.gref u sz n)
  | .ref u off => match Nat.beq u id with
    | true => K .junk
    | false => K (.ref u off)
  | .ubox cs => udropK id cs fun cs' => K (.ubox cs')
  | .uagg cs => udropK id cs fun cs' => K (.uagg cs')
  | s => sK s K
theorem dropGK_spec {id : Nat} (s : S) (K : S → Prop) (h : dropGK id s K) : K (dropG id s) := by
  cases s with
  | sref u sz n =>
    simp only [dropGK] at h
    show K (if u = id then .junk else .sref u sz n)
    split at h
    · rename_i hb; rw [if_pos (Nat.eq_of_beq_eq_true hb)]; exact h
    · rename_i hb; rw [if_neg (fun e => by rw [e, Nat.beq_refl] at hb; cases hb)]; exact h
  | gref u sz n =>
    simp only [dropGK] at h
    show K (if u = id then .junk else .gref u sz n)
    split at h
    · rename_i hb; rw [if_pos (Nat.eq_of_beq_eq_true hb)]; exact h
    · rename_i hb; rw [if_neg (fun e => by rw [e, Nat.beq_refl] at hb; cases hb)]; exact h
  | ref u off =>
    simp only [dropGK] at h
    show K (if u = id then .junk else .ref u off)
    split at h
    · rename_i hb; rw [if_pos (Nat.eq_of_beq_eq_true hb)]; exact h
    · rename_i hb; rw [if_neg (fun e => by rw [e, Nat.beq_refl] at hb; cases hb)]; exact h
  | ubox cs => exact udropK_spec (K := fun cs' => K (.ubox cs')) h
  | uagg cs => exact udropK_spec (K := fun cs' => K (.uagg cs')) h
  | c x => cases x <;> exact h
  | _ => exact h
theorem nameS_dropG {id : Nat} (s : S) : dropG id (nameS s) = nameS s := by cases s <;> rfl
theorem envT_appG {t t1 t2 t3 : Tr} {h : Hp} {id d : Nat} {s g : S} (hd : d < NAM) (hid : id < NAM) (hdi : d ≠ id) (h1 : ∀ u, t1.get u = dropG id (t.get u)) (h2 : ∀ u, t2.get u = if u = id then g else t1.get u) (h3 : ∀ u, t3.get u = if u = d then s else t2.get u) : envT t3 h = appG (envT t h) id d s g := by
  funext u
  simp only [envT, appG, h3, h2, h1]
  by_cases e : u = d
  · subst e; simp [hd]
  · simp only [if_neg e]
    by_cases e2 : u = id
    · subst e2; simp [hid]
    · simp only [if_neg e2]
      split
      · rfl
      · exact (nameS_dropG _).symm
section
variable {P : Program} {N : Nat} {t : Tr} {h : Hp} {o : Oper}
theorem at_row {id sz : Nat} {xs : List D} (hi : id < NAM) (hg : t.get id = .gbox sz xs) : envT t h id = .gbox sz xs := by rw [envT_lt hi, hg]
end
section
variable {P : Program} {N : Nat} {env : Env} {t : Tr} {h : Hp} {o : Oper}
end
end Go.Vm
end
section
namespace Go.Vm
open Go.RowKit
def allocK : List (Nat × Nat × Nat) → Tr → (Tr → Prop) → Prop
  | [], t, K => K t
  | q :: l, t, K => allocK l t fun t => setK 20 t q.2.1 (.gbox q.2.2 []) K
theorem allocK_spec : ∀ {ps : List (Nat × Nat × Nat)} {t : Tr} {K : Tr → Prop}, allocK ps t K → ∃ t', (∀ u, t'.get u = match ps.find? fun q => q.2.1 == u with
    | some q => .gbox q.2.2 []
    | none => t.get u) ∧ K t'
  | [], t, K, h => ⟨t, fun _ => rfl, h⟩
  | q :: l, t, K, h => by
    obtain ⟨t1, h1, h2⟩ := allocK_spec (ps := l) h
    obtain ⟨t2, h3, h4⟩ := setK_spec h2
    refine ⟨t2, fun u => ?_, h4⟩
    rw [h3, h1, List.find?_cons]
    by_cases e : u = q.2.1
    · subst e; simp
    · have : (q.2.1 == u) = false := by simpa using fun e2 => e e2.symm
      simp [this, e]
section
variable {P : Program} {N : Nat} {t : Tr} {h : Hp} {o : Oper}
theorem x_allocU {T d : Nat} {zs : List D} (ps : List (Nat × Nat × Nat)) {K : Tr → Hp → Prop} (hz : zeroOf P T = some zs) (hps : ∀ q ∈ ps, zs[q.1]? = some (.row []) ∧ BIG ≤ q.2.1 ∧ 0 < q.2.2) (hlo : ∀ q ∈ ps, q.2.1 < NAM)
    (hk : mapK (unrefK d) t fun t1 => setK 20 t1 d (.ubox (ucells zs ps)) fun t2 => allocK ps t2 fun t3 => K t3 h)
    (hop : o.op = .alloc T := by rfl) (hd : o.dst = some d := by rfl) (hdN : d < N := by exact Nat.le_of_ble_eq_true rfl) (hNB : N ≤ BIG := by exact Nat.le_of_ble_eq_true rfl) :
    StepP P N o (envT t h) fun e => ∃ (t' : Tr) (h' : Hp), e = envT t' h' ∧ K t' h' := by
  refine stepP_of ?_
  have hdB : d < BIG := Nat.lt_of_lt_of_le hdN hNB
  obtain ⟨t1, k1, hk⟩ := mapK_spec (f := unref d) rfl unrefK_spec hk
  obtain ⟨t2, k2, hk⟩ := setK_spec hk
  obtain ⟨t3, k3, hk⟩ := allocK_spec hk
  refine ⟨t3, h, ?_, hk⟩
  have e : envT t3 h = envG ps (upd (boxEnv (envT t h) d zs) (some d) (.ubox (ucells zs ps))) := by
    funext u
    unfold envG
    by_cases hu : u < NAM
    · rw [envT_lt hu, k3]
      cases hf : ps.find? fun q => q.2.1 == u with
      | some q => rfl
      | none =>
        simp only
        rw [k2, k1]
        simp only [upd, boxEnv]
        by_cases ed : u = d
        · simp [ed]
        · simp only [if_neg ed]; rw [envT_lt hu]
    · have hf : (ps.find? fun q => q.2.1 == u) = none := by
        rw [List.find?_eq_none]
        intro q hq
        have := hlo q hq
        simp only [beq_iff_eq]; omega
      rw [hf]
      have hne : ¬ u = d := by have := nam hdB; omega
      simp only [upd, boxEnv, if_neg hne]
      simp only [envT, if_neg hu]
      exact (nameS_unref _).symm
  rw [e]
  exact s_allocU hop hz hps hd hdN hdB
end
end Go.Vm
end
section
namespace Go.Vm
open Go.RowKit
section
variable {P : Program} {N : Nat} {t : Tr} {h : Hp} {o : Oper}
theorem x_toU (tv : Nat) {cs : List D} {F : Env → Prop} (htv : t.get tv = .box cs) (hk : setK 20 t tv (.ubox cs) fun t1 => StepP P N o (envT t1 h) F) (htB : tv < NAM := by exact Nat.le_of_ble_eq_true rfl) : StepP P N o (envT t h) F := by
  obtain ⟨t1, k1, hk⟩ := setK_spec hk
  intro base w0 ro0 a w ⟨ro, blk, hs⟩ K' Q hK'
  refine hk base w0 ro0 a w ⟨ro, blk, ?_⟩ K' Q hK'
  rw [envT_set htB k1]
  exact hs.toU (by rw [envT_lt htB]; exact htv)
theorem x_appU {T e : TypeId} {sz bytes d m : Nat} {y : Operand} {ys : List D} {K : Tr → Hp → Prop} (id : Nat) (hT : elemFull P T = some (e, sz, bytes)) (hy : vd (envT t h) y = some (.row ys)) (hw : ∀ y ∈ ys, y.cells.length = sz) (h63 : ys.length ≤ maxLen) (hby : ys.length * bytes ≤ 140737488355328) (hm : ys.length = m)
    (hk : mapK (dropGK id) t fun t1 => setK 20 t1 id (.gbox sz ys) fun t2 => setK 20 t2 d (.sref id sz m) fun t3 => K t3 h)
    (hop : o.op = .call { callee := .builtin .append, args := #[.const (.slice none 0 0), y], argTypes := #[T, T] } := by rfl) (hyi : ∀ t, y = .tmp t → t ≠ id := by intro t e; cases e; decide) (hd : o.dst = some d := by rfl) (hdN : d < N := by exact Nat.le_of_ble_eq_true rfl) (hNB : N ≤ BIG := by exact Nat.le_of_ble_eq_true rfl) (hid : BIG ≤ id := by exact Nat.le_of_ble_eq_true rfl) (hid2 : id < NAM := by exact Nat.le_of_ble_eq_true rfl) :
    StepP P N o (envT t h) fun e => ∃ (t' : Tr) (h' : Hp), e = envT t' h' ∧ K t' h' := by
  refine stepP_of ?_
  subst hm
  obtain ⟨t1, k1, hk⟩ := mapK_spec (f := dropG id) rfl dropGK_spec hk
  obtain ⟨t2, k2, hk⟩ := setK_spec hk
  obtain ⟨t3, k3, hk⟩ := setK_spec hk
  have hdB : d < BIG := Nat.lt_of_lt_of_le hdN hNB
  exact ⟨t3, h, by rw [envT_appG (nam hdB) hid2 (by omega) k1 k2 k3]; exact s_appendN hop hT hid hy hyi hw h63 hby hd hdN hdB, hk⟩
theorem x_loadA {T : TypeId} {x : Operand} {tv off m d : Nat} {cs ys : List D} {K : S → Hp → Prop} (hx : vget (envT t h) x = .ref tv off) (hb : t.get tv = .ubox cs) (hsh : tshape P T = some (true, m)) (hle : off + m ≤ cs.length) (hys : (cs.drop off).take m = ys) (hK : K (.uagg ys) h)
    (hop : o.op = .load T x := by rfl) (htB : tv < NAM := by exact Nat.le_of_ble_eq_true rfl) (hd : o.dst = some d := by rfl) (hdN : d < N := by exact Nat.le_of_ble_eq_true rfl) : ∃ (s : S) (h' : Hp), Step P N o (envT t h) (upd (envT t h') (some d) s) ∧ K s h' := by
  subst hys
  exact x_fy (y_loadA hop hx (by rw [envT_lt htB]; exact hb) hsh hle hd hdN) hK hd
theorem x_lenG {T e : TypeId} {x : Operand} {id sz n d : Nat} {K : S → Hp → Prop} (hT : P.underlying T = some (.slice e)) (hx : vget (envT t h) x = .sref id sz n) (hK : K (.c (.d (.sc (.int .i64 n)))) h)
    (hop : o.op = .call { callee := .builtin .len, args := #[x], argTypes := #[T] } := by rfl) (hd : o.dst = some d := by rfl) (hdN : d < N := by exact Nat.le_of_ble_eq_true rfl) : ∃ (s : S) (h' : Hp), Step P N o (envT t h) (upd (envT t h') (some d) s) ∧ K s h' :=
  x_fy (y_lenG hop hT hx hd hdN) hK hd
theorem x_indexG {T : TypeId} {x ix : Operand} {k : IntKind} {i id sz n d : Nat} {K : S → Hp → Prop} (hx : vget (envT t h) x = .sref id sz n) (hi : vd (envT t h) ix = some (.sc (.int k (i : Int)))) (hT : elemSize P T = some sz) (hlt : i < n) (hK : K (.gref id sz (i * sz)) h)
    (hop : o.op = .indexAddr T x ix := by rfl) (hd : o.dst = some d := by rfl) (hdN : d < N := by exact Nat.le_of_ble_eq_true rfl) : ∃ (s : S) (h' : Hp), Step P N o (envT t h) (upd (envT t h') (some d) s) ∧ K s h' :=
  x_fy (y_indexG hop hx hi hT hlt hd hdN) hK hd
theorem x_fieldG {T : TypeId} {x : Operand} {f id sz off k d : Nat} {K : S → Hp → Prop} (hx : vget (envT t h) x = .gref id sz off) (hf : fieldOff P T f = some k) (hK : K (.gref id sz (off + k)) h)
    (hop : o.op = .fieldAddr T x f := by rfl) (hd : o.dst = some d := by rfl) (hdN : d < N := by exact Nat.le_of_ble_eq_true rfl) : ∃ (s : S) (h' : Hp), Step P N o (envT t h) (upd (envT t h') (some d) s) ∧ K s h' :=
  x_fy (y_fieldG hop hx hf hd hdN) hK hd
theorem x_callP {f : FuncId} {x y : Operand} {ts : Array TypeId} {cs cs' xs : List D} {id sz d : Nat} {dy : D} {v : Value} {K : S → Hp → Prop} (hf : enters P f = true) (hc : Contract P f [.agg cs', dy] [.d (.sc v)]) (hx : vget (envT t h) x = .uagg cs) (hg : t.get id = .gbox sz xs) (hcs : cs.map (frzC id xs) = cs') (hp : cs'.all plainD = true) (hy : vd (envT t h) y = some dy) (hK : K (.c (.d (.sc v))) h)
    (hop : o.op = .call { callee := .value (.func f), args := #[x, y], argTypes := ts } := by rfl) (hid2 : id < NAM := by exact Nat.le_of_ble_eq_true rfl) (hd : o.dst = some d := by rfl) (hdN : d < N := by exact Nat.le_of_ble_eq_true rfl) : ∃ (s : S) (h' : Hp), Step P N o (envT t h) (upd (envT t h') (some d) s) ∧ K s h' :=
  ⟨_, h, s_callP hop hf hc hx (at_row hid2 hg) hcs hp hy hd hdN, hK⟩
theorem x_callU {f : FuncId} {xs : Array Operand} {ts : Array TypeId} {ds ys cs : List D} {sz d : Nat} {K : Tr → Hp → Prop} (id : Nat) (hf : enters P f = true) (hc : ContractU P f ds id sz ys cs) (hrr : ∀ i sz' n, .rr i sz' n ∈ cs → i = id)
    (hk : mapK (dropGK id) t fun t1 => setK 20 t1 id (.gbox sz ys) fun t2 => setK 20 t2 d (.uagg cs) fun t3 => K t3 h)
    (hop : o.op = .call { callee := .value (.func f), args := xs, argTypes := ts } := by rfl) (hx : vargs (envT t h) xs.toList = some ds := by rfl) (hd : o.dst = some d := by rfl) (hdN : d < N := by exact Nat.le_of_ble_eq_true rfl) (hNB : N ≤ BIG := by exact Nat.le_of_ble_eq_true rfl) (hid : BIG ≤ id := by exact Nat.le_of_ble_eq_true rfl) (hid2 : id < NAM := by exact Nat.le_of_ble_eq_true rfl) :
    StepP P N o (envT t h) fun e => ∃ (t' : Tr) (h' : Hp), e = envT t' h' ∧ K t' h' := by
  refine stepP_of ?_
  obtain ⟨t1, k1, hk⟩ := mapK_spec (f := dropG id) rfl dropGK_spec hk
  obtain ⟨t2, k2, hk⟩ := setK_spec hk
  obtain ⟨t3, k3, hk⟩ := setK_spec hk
  have hdB : d < BIG := Nat.lt_of_lt_of_le hdN hNB
  exact ⟨t3, h, by rw [envT_appG (nam hdB) hid2 (by omega) k1 k2 k3]; exact s_callU hop hf hx hc hrr hid hd hdN hdB, hk⟩
theorem x_stG {id sz off : Nat} {rc : List D} (xs zs : List D) {K : Tr → Prop} (hb : Nat.ble 1000000 id = false) (hid : t.get id = .gbox sz xs) (h1 : off + rc.length ≤ xs.length * sz) (h2 : xs ≠ []) (h3 : flat zs = patch (flat xs) off rc) (h4 : zs.length = xs.length) (h5 : ∀ z ∈ zs, z.cells.length = sz) (hk : setK 20 t id (.gbox sz zs) K) :
    ∃ xs zs, (Nat.ble 1000000 id = false ∧ t.get id = .gbox sz xs ∧ off + rc.length ≤ xs.length * sz ∧ xs ≠ [] ∧ flat zs = patch (flat xs) off rc ∧ zs.length = xs.length ∧ ∀ z ∈ zs, z.cells.length = sz) ∧ setK 20 t id (.gbox sz zs) K := ⟨xs, zs, ⟨hb, hid, h1, h2, h3, h4, h5⟩, hk⟩
def finU (r id sz : Nat) (xs cs : List D) : Exit → Tr → Hp → Prop
  | .normal, t, h => Leaf (t.get r = .ubox cs ∧ t.get id = .gbox sz xs)
  | .ret, t, h => Leaf (t.get r = .ubox cs ∧ t.get id = .gbox sz xs)
  | _, _, _ => False
theorem xfnU {tt : TT} (htt : TTok P tt) {f : FuncId} {fn : Func} {c : Code} {args : List D} {id sz r : Nat} {T : TypeId} {xs cs : List D} (fb : List Nat) (hf : P.funcs[f]? = some fn) (hrr : ∀ i sz' n, .rr i sz' n ∈ cs → i = id) (hsh : tshape P T = some (true, cs.length))
    (hk : argsT 0 args .leaf fun t => xcode P tt N fb c t (fun _ => .junk) (finU r id sz xs cs)) (hb : fn.body = some c := by rfl) (hN : fn.ntmps = N := by rfl) (hargs : args.length ≤ N := by exact Nat.le_of_ble_eq_true rfl) (hNB : N ≤ BIG := by exact Nat.le_of_ble_eq_true rfl) (hres : fn.results = #[.cell r T] := by rfl) (hr : r < NAM := by exact Nat.le_of_ble_eq_true rfl) (hid2 : id < NAM := by exact Nat.le_of_ble_eq_true rfl) : ContractU P f args id sz xs cs := by
  refine contractU_of hf hb hN hargs hres hsh hrr ?_
  obtain ⟨t, h1, h2⟩ := argsT_spec hk
  have e : envOf args = envT t (fun _ => .junk) := by
    funext u
    unfold envOf
    by_cases hu : u < NAM
    · rw [envT_lt hu, h1]
      simp only [Nat.not_lt_zero, if_false, Nat.sub_zero]
      cases args[u]? with
      | some d => rfl
      | none => rfl
    · have hbn : BIG ≤ NAM := by decide
      rw [envT_at (by omega), List.getElem?_eq_none (by omega)]
      rfl
  rw [e]
  refine vc_mono (xcode_sound htt hNB h2) ?_
  rintro e env ⟨t', h', rfl, hk⟩
  cases e with
  | normal => exact ⟨.inl rfl, by rw [envT_lt hr]; exact hk.out.1, by rw [envT_lt hid2]; exact hk.out.2⟩
  | ret => exact ⟨.inr rfl, by rw [envT_lt hr]; exact hk.out.1, by rw [envT_lt hid2]; exact hk.out.2⟩
  | _ => exact hk.elim
end
end Go.Vm
end
section
namespace Go.Vm
instance lawfulBytes : LawfulBEq ByteArray where
  eq_of_beq := by intro a b h; rw [beq_toListBytes, eq_strs] at h; exact of_decide_eq_true h
  rfl := by intro a; rw [beq_toListBytes, eq_strs]; simp
structure RefD where
  scope : Int
  group : ByteArray
  name : ByteArray
  deriving DecidableEq
structure FieldD where
  at_ : RefD
  kind : Int
  deft : ByteArray
  cases : List ByteArray
  worth : Int
  deriving DecidableEq
structure LensD where
  kind : Int
  at_ : RefD
  name : ByteArray
  other : ByteArray
  factor : Int
  field : FieldD
  forth : List (ByteArray × ByteArray)
  back : List (ByteArray × ByteArray)
  deriving DecidableEq
abbrev noB : ByteArray := ⟨#[]⟩
def noRef : RefD := ⟨0, noB, noB⟩
def noField : FieldD := ⟨noRef, 0, noB, [], 0⟩
def noLens : LensD := ⟨0, noRef, noB, noB, 0, noField, [], []⟩
def pairD (p : ByteArray × ByteArray) : D := .agg [.sc (.string p.1), .sc (.string p.2)]
def rD (r : RefD) : D := .agg [.sc (.int .i64 r.scope), .sc (.string r.group), .sc (.string r.name)]
def fD (f : FieldD) : D := .agg [.sc (.int .i64 f.at_.scope), .sc (.string f.at_.group), .sc (.string f.at_.name), .sc (.int .i64 f.kind), .sc (.string f.deft), .row (f.cases.map strD), .sc (.int .i64 f.worth)]
def lD (x : LensD) : D := .agg [.sc (.int .i64 x.kind), .sc (.int .i64 x.at_.scope), .sc (.string x.at_.group), .sc (.string x.at_.name), .sc (.string x.name), .sc (.string x.other), .sc (.int .i64 x.factor),
  .sc (.int .i64 x.field.at_.scope), .sc (.string x.field.at_.group), .sc (.string x.field.at_.name), .sc (.int .i64 x.field.kind), .sc (.string x.field.deft), .row (x.field.cases.map strD), .sc (.int .i64 x.field.worth), .row (x.forth.map pairD), .row (x.back.map pairD)]
def charB (c : Int) (j : Nat) : Bool := (decide (97 ≤ c) && decide (c ≤ 122)) || (decide (48 ≤ c) && decide (c ≤ 57) && !decide (j = 0))
def okTo (s : ByteArray) (k : Nat) : Prop := ∀ j (b : UInt8), j < k → s[j]? = some b → charB b.toNat j = true
def nameB (s : ByteArray) : Bool := decide (1 ≤ s.size ∧ s.size ≤ 12) && (List.range s.size).all fun j => match s[j]? with
  | some b => charB b.toNat j
  | none => true
theorem name_yes {s : ByteArray} {k : Nat} (h1 : 1 ≤ s.size) (h2 : s.size ≤ 12) (hk : s.size ≤ k) (h : okTo s k) : nameB s = true := by
  unfold nameB
  rw [decide_eq_true (show 1 ≤ s.size ∧ s.size ≤ 12 from ⟨h1, h2⟩), Bool.true_and, List.all_eq_true]
  intro j hj
  split
  · rename_i b hb; exact h j b (by have := List.mem_range.1 hj; omega) hb
  · rfl
theorem name_no {s : ByteArray} {j : Nat} {b : UInt8} (hj : j < s.size) (hb : s[j]? = some b) (h : charB b.toNat j = false) : nameB s = false := by
  unfold nameB
  rw [Bool.and_eq_false_iff]
  right
  rw [List.all_eq_false]
  exact ⟨j, List.mem_range.2 hj, by rw [hb]; simp [h]⟩
theorem name_short {s : ByteArray} (h : s.size < 1) : nameB s = false := by unfold nameB; rw [decide_eq_false (fun k => by omega)]; rfl
theorem name_long {s : ByteArray} (h : 12 < s.size) : nameB s = false := by unfold nameB; rw [decide_eq_false (fun k => by omega)]; rfl
theorem okTo_zero (s : ByteArray) : okTo s 0 := fun j b hj => by omega
theorem okTo_next {s : ByteArray} {k : Nat} {b : UInt8} (h : okTo s k) (hb : s[k]? = some b) (hc : charB b.toNat k = true) : okTo s (k + 1) := by
  intro j b' hj hb'
  by_cases e : j = k
  · subst e; rw [hb] at hb'; injection hb' with e; subst e; exact hc
  · exact h j b' (by omega) hb'
theorem char_lt {s : ByteArray} {k : Nat} {b : UInt8} (h : s[k]? = some b) : k < s.size := by
  rcases Nat.lt_or_ge k s.size with h1 | h1
  · exact h1
  · simp [show ¬ k < s.size by omega] at h
def placeB (r : RefD) : Bool := (decide (r.scope = 0) || decide (r.scope = 1)) && nameB r.name && (decide (r.group = noB) || nameB r.group)
def ltB (a b : ByteArray) : Bool := Op.bytesLess a.toList b.toList
def lessB (a b : RefD) : Bool := if a.scope ≠ b.scope then decide (a.scope < b.scope) else if a.group ≠ b.group then ltB a.group b.group else ltB a.name b.name
def okC (l : List ByteArray) (k : Nat) : Bool := (List.range k).all fun j => match l[j]? with
  | some c => nameB c && !decide (c ∈ l.take j)
  | none => true
def casesB (l : List ByteArray) : Bool := decide (1 ≤ l.length) && decide (l.length ≤ 6) && okC l l.length
theorem okC_zero (l : List ByteArray) : okC l 0 = true := rfl
theorem okC_next {l : List ByteArray} {k : Nat} {p : ByteArray} (hp : l[k]? = some p) (h : okC l k = true) (h1 : nameB p = true) (h2 : ¬ p ∈ l.take k) : okC l (k + 1) = true := by
  unfold okC at *
  rw [List.range_succ, List.all_append, h]
  simp [hp, h1, h2]
theorem cases_no {l : List ByteArray} {k : Nat} {p : ByteArray} (hp : l[k]? = some p) (h : (nameB p && !decide (p ∈ l.take k)) = false) : casesB l = false := by
  unfold casesB
  rw [Bool.and_eq_false_iff]
  right
  unfold okC
  rw [List.all_eq_false]
  exact ⟨k, List.mem_range.2 (List.getElem?_eq_some_iff.1 hp).1, by simp only [hp, h]; simp⟩
theorem cases_yes {l : List ByteArray} {k : Nat} (h1 : 1 ≤ l.length) (h2 : l.length ≤ 6) (hk : l.length ≤ k) (h : okC l k = true) : casesB l = true := by
  unfold casesB
  rw [decide_eq_true h1, decide_eq_true h2, Bool.true_and, Bool.true_and]
  unfold okC at *
  rw [List.all_eq_true] at *
  intro j hj
  exact h j (List.mem_range.2 (by have := List.mem_range.1 hj; omega))
theorem okC_end {l : List ByteArray} {k : Nat} (hk : l.length ≤ k) (h : okC l k = true) : okC l l.length = true := by
  unfold okC at *
  rw [List.all_eq_true] at *
  intro j hj
  exact h j (List.mem_range.2 (by have := List.mem_range.1 hj; omega))
theorem cases_short {l : List ByteArray} (h : l.length < 1) : casesB l = false := by unfold casesB; rw [decide_eq_false (by omega)]; rfl
theorem cases_long {l : List ByteArray} (h : 6 < l.length) : casesB l = false := by unfold casesB; rw [decide_eq_false (show ¬ l.length ≤ 6 by omega), Bool.and_false]; rfl
def rightF (f : FieldD) : Bool := placeB f.at_ &&
  (if f.kind = 1 then decide (f.deft = noB) && decide (f.cases.length = 0) && decide (1 ≤ f.worth) && decide (f.worth ≤ 1048576)
   else if f.kind = 2 then decide (f.deft.size ≤ 40) && decide (f.cases.length = 0) && decide (f.worth = 0)
   else if f.kind = 3 then casesB f.cases && decide (f.deft ∈ f.cases) && decide (f.worth = 0)
   else if f.kind = 4 then decide (f.deft = noB) && decide (f.cases.length = 0) && decide (f.worth = 0)
   else false)
theorem rightF_bare {f : FieldD} (h1 : ¬ f.kind = 1) (h3 : ¬ f.kind = 3) (hc : 0 < f.cases.length) : rightF f = false := by
  unfold rightF
  rw [Bool.and_eq_false_iff]
  right
  rw [if_neg h1]
  have h0 : decide (f.cases.length = 0) = false := decide_eq_false (by omega)
  by_cases h2 : f.kind = 2
  · rw [if_pos h2, h0, Bool.and_false, Bool.false_and]
  · rw [if_neg h2, if_neg h3]
    by_cases h4 : f.kind = 4
    · rw [if_pos h4, h0, Bool.and_false, Bool.false_and]
    · rw [if_neg h4]
end Go.Vm
end
section
namespace Go.Vm.T
open Go.RowKit
theorem k_1 : tyOk Go.Proofs.Try.prog 1 (.one [.sc .nilFunc]) := ⟨by kernel_rfl, by kernel_rfl⟩
theorem k_2 : tyOk Go.Proofs.Try.prog 2 (.one [.sc (.int .i64 0)]) := ⟨by kernel_rfl, by kernel_rfl⟩
theorem k_3 : tyOk Go.Proofs.Try.prog 3 (.one [.sc (.int .i64 0)]) := ⟨by kernel_rfl, by kernel_rfl⟩
theorem k_4 : tyOk Go.Proofs.Try.prog 4 (.one [.sc (.bool false)]) := ⟨by kernel_rfl, by kernel_rfl⟩
theorem k_5 : tyOk Go.Proofs.Try.prog 5 (.one [.sc (.int .u8 0)]) := ⟨by kernel_rfl, by kernel_rfl⟩
theorem k_6 : tyOk Go.Proofs.Try.prog 6 (.one [.sc (.int .u8 0)]) := ⟨by kernel_rfl, by kernel_rfl⟩
theorem k_7 : tyOk Go.Proofs.Try.prog 7 (.agg [(0, 1), (1, 1), (2, 1), (3, 1)] [.sc (.int .i64 0), .sc (.int .i64 0), .sc (.bool false), .sc (.int .u8 0)]) := ⟨by kernel_rfl, by kernel_rfl, by kernel_rfl⟩
theorem k_8 : tyOk Go.Proofs.Try.prog 8 (.agg [(0, 1), (1, 1), (2, 1), (3, 1)] [.sc (.int .i64 0), .sc (.int .i64 0), .sc (.bool false), .sc (.int .u8 0)]) := ⟨by kernel_rfl, by kernel_rfl, by kernel_rfl⟩
theorem k_9 : tyOk Go.Proofs.Try.prog 9 (.str) := ⟨by kernel_rfl, by kernel_rfl, by kernel_rfl⟩
theorem k_10 : tyOk Go.Proofs.Try.prog 10 (.str) := ⟨by kernel_rfl, by kernel_rfl, by kernel_rfl⟩
theorem k_11 : tyOk Go.Proofs.Try.prog 11 (.str) := ⟨by kernel_rfl, by kernel_rfl, by kernel_rfl⟩
theorem k_12 : tyOk Go.Proofs.Try.prog 12 (.one [.sc (.int .u64 0)]) := ⟨by kernel_rfl, by kernel_rfl⟩
theorem k_13 : tyOk Go.Proofs.Try.prog 13 (.agg [(0, 1), (1, 1)] [.sc (.string ⟨#[]⟩), .sc (.int .u64 0)]) := ⟨by kernel_rfl, by kernel_rfl, by kernel_rfl⟩
theorem k_14 : tyOk Go.Proofs.Try.prog 14 (.agg [(0, 1), (1, 1)] [.sc (.string ⟨#[]⟩), .sc (.int .u64 0)]) := ⟨by kernel_rfl, by kernel_rfl, by kernel_rfl⟩
theorem k_15 : tyOk Go.Proofs.Try.prog 15 (.one [.sc (.pointer none)]) := ⟨by kernel_rfl, by kernel_rfl⟩
theorem k_16 : tyOk Go.Proofs.Try.prog 16 (.one [.sc (.pointer none)]) := ⟨by kernel_rfl, by kernel_rfl⟩
theorem k_17 : tyOk Go.Proofs.Try.prog 17 (.one [.sc (.pointer none)]) := ⟨by kernel_rfl, by kernel_rfl⟩
theorem k_18 : tyOk Go.Proofs.Try.prog 18 (.agg [(0, 1)] [.sc (.pointer none)]) := ⟨by kernel_rfl, by kernel_rfl, by kernel_rfl⟩
theorem k_19 : tyOk Go.Proofs.Try.prog 19 (.agg [(0, 1)] [.sc (.pointer none)]) := ⟨by kernel_rfl, by kernel_rfl, by kernel_rfl⟩
theorem k_21 : tyOk Go.Proofs.Try.prog 21 (.one [.sc (.int .i32 0)]) := ⟨by kernel_rfl, by kernel_rfl⟩
theorem k_22 : tyOk Go.Proofs.Try.prog 22 (.agg [(0, 1), (1, 1), (2, 1)] [.sc (.int .i64 0), .sc (.string ⟨#[]⟩), .sc (.string ⟨#[]⟩)]) := ⟨by kernel_rfl, by kernel_rfl, by kernel_rfl⟩
theorem k_23 : tyOk Go.Proofs.Try.prog 23 (.agg [(0, 1), (1, 1), (2, 1)] [.sc (.int .i64 0), .sc (.string ⟨#[]⟩), .sc (.string ⟨#[]⟩)]) := ⟨by kernel_rfl, by kernel_rfl, by kernel_rfl⟩
theorem k_24 : tyOk Go.Proofs.Try.prog 24 (.slice 9 1 16) := ⟨by kernel_rfl, by kernel_rfl, by kernel_rfl, by kernel_rfl⟩
theorem k_25 : tyOk Go.Proofs.Try.prog 25 (.agg [(0, 3), (3, 1), (4, 1), (5, 1), (6, 1)] [.sc (.int .i64 0), .sc (.string ⟨#[]⟩), .sc (.string ⟨#[]⟩), .sc (.int .i64 0), .sc (.string ⟨#[]⟩), .row [], .sc (.int .i64 0)]) := ⟨by kernel_rfl, by kernel_rfl, by kernel_rfl⟩
theorem k_26 : tyOk Go.Proofs.Try.prog 26 (.agg [(0, 3), (3, 1), (4, 1), (5, 1), (6, 1)] [.sc (.int .i64 0), .sc (.string ⟨#[]⟩), .sc (.string ⟨#[]⟩), .sc (.int .i64 0), .sc (.string ⟨#[]⟩), .row [], .sc (.int .i64 0)]) := ⟨by kernel_rfl, by kernel_rfl, by kernel_rfl⟩
theorem k_27 : tyOk Go.Proofs.Try.prog 27 (.slice 38 2 32) := ⟨by kernel_rfl, by kernel_rfl, by kernel_rfl, by kernel_rfl⟩
theorem k_28 : tyOk Go.Proofs.Try.prog 28 (.agg [(0, 1), (1, 3), (4, 1), (5, 1), (6, 1), (7, 7), (14, 1), (15, 1)] [.sc (.int .i64 0), .sc (.int .i64 0), .sc (.string ⟨#[]⟩), .sc (.string ⟨#[]⟩), .sc (.string ⟨#[]⟩), .sc (.string ⟨#[]⟩), .sc (.int .i64 0), .sc (.int .i64 0), .sc (.string ⟨#[]⟩), .sc (.string ⟨#[]⟩), .sc (.int .i64 0), .sc (.string ⟨#[]⟩), .row [], .sc (.int .i64 0), .row [], .row []]) := ⟨by kernel_rfl, by kernel_rfl, by kernel_rfl⟩
theorem k_29 : tyOk Go.Proofs.Try.prog 29 (.agg [(0, 1), (1, 3), (4, 1), (5, 1), (6, 1), (7, 7), (14, 1), (15, 1)] [.sc (.int .i64 0), .sc (.int .i64 0), .sc (.string ⟨#[]⟩), .sc (.string ⟨#[]⟩), .sc (.string ⟨#[]⟩), .sc (.string ⟨#[]⟩), .sc (.int .i64 0), .sc (.int .i64 0), .sc (.string ⟨#[]⟩), .sc (.string ⟨#[]⟩), .sc (.int .i64 0), .sc (.string ⟨#[]⟩), .row [], .sc (.int .i64 0), .row [], .row []]) := ⟨by kernel_rfl, by kernel_rfl, by kernel_rfl⟩
theorem k_30 : tyOk Go.Proofs.Try.prog 30 (.one [.sc .nilFunc]) := ⟨by kernel_rfl, by kernel_rfl⟩
theorem k_31 : tyOk Go.Proofs.Try.prog 31 (.one [.sc .nilFunc]) := ⟨by kernel_rfl, by kernel_rfl⟩
theorem k_32 : tyOk Go.Proofs.Try.prog 32 (.one [.sc .nilFunc]) := ⟨by kernel_rfl, by kernel_rfl⟩
theorem k_33 : tyOk Go.Proofs.Try.prog 33 (.slice 23 3 40) := ⟨by kernel_rfl, by kernel_rfl, by kernel_rfl, by kernel_rfl⟩
theorem k_34 : tyOk Go.Proofs.Try.prog 34 (.one [.sc .nilFunc]) := ⟨by kernel_rfl, by kernel_rfl⟩
theorem k_35 : tyOk Go.Proofs.Try.prog 35 (.one [.sc .nilFunc]) := ⟨by kernel_rfl, by kernel_rfl⟩
theorem k_36 : tyOk Go.Proofs.Try.prog 36 (.one [.sc .nilFunc]) := ⟨by kernel_rfl, by kernel_rfl⟩
theorem k_37 : tyOk Go.Proofs.Try.prog 37 (.agg [(0, 1), (1, 1)] [.sc (.string ⟨#[]⟩), .sc (.string ⟨#[]⟩)]) := ⟨by kernel_rfl, by kernel_rfl, by kernel_rfl⟩
theorem k_38 : tyOk Go.Proofs.Try.prog 38 (.agg [(0, 1), (1, 1)] [.sc (.string ⟨#[]⟩), .sc (.string ⟨#[]⟩)]) := ⟨by kernel_rfl, by kernel_rfl, by kernel_rfl⟩
theorem k_39 : tyOk Go.Proofs.Try.prog 39 (.slice 26 7 96) := ⟨by kernel_rfl, by kernel_rfl, by kernel_rfl, by kernel_rfl⟩
theorem k_40 : tyOk Go.Proofs.Try.prog 40 (.one [.sc (.int .i64 0)]) := ⟨by kernel_rfl, by kernel_rfl⟩
theorem k_42 : tyOk Go.Proofs.Try.prog 42 (.one [.sc .nilFunc]) := ⟨by kernel_rfl, by kernel_rfl⟩
theorem k_43 : tyOk Go.Proofs.Try.prog 43 (.one [.sc .nilFunc]) := ⟨by kernel_rfl, by kernel_rfl⟩
theorem k_45 : tyOk Go.Proofs.Try.prog 45 (.one [.sc .nilFunc]) := ⟨by kernel_rfl, by kernel_rfl⟩
theorem k_46 : tyOk Go.Proofs.Try.prog 46 (.one [.sc .nilFunc]) := ⟨by kernel_rfl, by kernel_rfl⟩
theorem k_47 : tyOk Go.Proofs.Try.prog 47 (.one [.sc .nilFunc]) := ⟨by kernel_rfl, by kernel_rfl⟩
theorem k_48 : tyOk Go.Proofs.Try.prog 48 (.one [.sc .nilFunc]) := ⟨by kernel_rfl, by kernel_rfl⟩
theorem k_50 : tyOk Go.Proofs.Try.prog 50 (.one [.sc .nilFunc]) := ⟨by kernel_rfl, by kernel_rfl⟩
theorem k_51 : tyOk Go.Proofs.Try.prog 51 (.one [.sc .nilFunc]) := ⟨by kernel_rfl, by kernel_rfl⟩
theorem k_52 : tyOk Go.Proofs.Try.prog 52 (.one [.sc .nilFunc]) := ⟨by kernel_rfl, by kernel_rfl⟩
theorem k_54 : tyOk Go.Proofs.Try.prog 54 (.one [.sc .nilFunc]) := ⟨by kernel_rfl, by kernel_rfl⟩
theorem k_55 : tyOk Go.Proofs.Try.prog 55 (.one [.sc .nilFunc]) := ⟨by kernel_rfl, by kernel_rfl⟩
theorem k_56 : tyOk Go.Proofs.Try.prog 56 (.one [.sc .nilFunc]) := ⟨by kernel_rfl, by kernel_rfl⟩
theorem k_57 : tyOk Go.Proofs.Try.prog 57 (.one [.sc .nilFunc]) := ⟨by kernel_rfl, by kernel_rfl⟩
theorem k_58 : tyOk Go.Proofs.Try.prog 58 (.one [.sc .nilFunc]) := ⟨by kernel_rfl, by kernel_rfl⟩
theorem k_59 : tyOk Go.Proofs.Try.prog 59 (.one [.sc .nilFunc]) := ⟨by kernel_rfl, by kernel_rfl⟩
theorem k_61 : tyOk Go.Proofs.Try.prog 61 (.one [.sc .nilFunc]) := ⟨by kernel_rfl, by kernel_rfl⟩
theorem k_62 : tyOk Go.Proofs.Try.prog 62 (.one [.sc .nilFunc]) := ⟨by kernel_rfl, by kernel_rfl⟩
theorem k_63 : tyOk Go.Proofs.Try.prog 63 (.one [.sc .nilFunc]) := ⟨by kernel_rfl, by kernel_rfl⟩
theorem k_64 : tyOk Go.Proofs.Try.prog 64 (.one [.sc .nilFunc]) := ⟨by kernel_rfl, by kernel_rfl⟩
theorem k_65 : tyOk Go.Proofs.Try.prog 65 (.one [.sc .nilFunc]) := ⟨by kernel_rfl, by kernel_rfl⟩
theorem k_66 : tyOk Go.Proofs.Try.prog 66 (.one [.sc .nilFunc]) := ⟨by kernel_rfl, by kernel_rfl⟩
theorem k_67 : tyOk Go.Proofs.Try.prog 67 (.one [.sc .nilFunc]) := ⟨by kernel_rfl, by kernel_rfl⟩
theorem k_68 : tyOk Go.Proofs.Try.prog 68 (.one [.sc .nilFunc]) := ⟨by kernel_rfl, by kernel_rfl⟩
theorem k_69 : tyOk Go.Proofs.Try.prog 69 (.one [.sc .nilFunc]) := ⟨by kernel_rfl, by kernel_rfl⟩
theorem k_70 : tyOk Go.Proofs.Try.prog 70 (.one [.sc .nilFunc]) := ⟨by kernel_rfl, by kernel_rfl⟩
theorem k_71 : tyOk Go.Proofs.Try.prog 71 (.one [.sc .nilFunc]) := ⟨by kernel_rfl, by kernel_rfl⟩
theorem k_72 : tyOk Go.Proofs.Try.prog 72 (.one [.sc .nilFunc]) := ⟨by kernel_rfl, by kernel_rfl⟩
theorem k_73 : tyOk Go.Proofs.Try.prog 73 (.agg [(0, 1), (1, 1), (2, 1), (3, 1)] [.sc (.pointer none), .sc (.pointer none), .sc (.pointer none), .sc (.string ⟨#[]⟩)]) := ⟨by kernel_rfl, by kernel_rfl, by kernel_rfl⟩
theorem k_74 : tyOk Go.Proofs.Try.prog 74 (.agg [(0, 1), (1, 1), (2, 1), (3, 1)] [.sc (.pointer none), .sc (.pointer none), .sc (.pointer none), .sc (.string ⟨#[]⟩)]) := ⟨by kernel_rfl, by kernel_rfl, by kernel_rfl⟩
theorem k_75 : tyOk Go.Proofs.Try.prog 75 (.arr 0 16 1 []) := ⟨by kernel_rfl, by kernel_rfl, by kernel_rfl⟩
theorem k_76 : tyOk Go.Proofs.Try.prog 76 (.agg [(0, 0)] []) := ⟨by kernel_rfl, by kernel_rfl, by kernel_rfl⟩
theorem k_77 : tyOk Go.Proofs.Try.prog 77 (.agg [(0, 0)] []) := ⟨by kernel_rfl, by kernel_rfl, by kernel_rfl⟩
theorem k_78 : tyOk Go.Proofs.Try.prog 78 (.one [.sc .nilFunc]) := ⟨by kernel_rfl, by kernel_rfl⟩
theorem k_79 : tyOk Go.Proofs.Try.prog 79 (.one [.sc (.int .u32 0)]) := ⟨by kernel_rfl, by kernel_rfl⟩
theorem k_80 : tyOk Go.Proofs.Try.prog 80 (.one [.sc (.int .u8 0)]) := ⟨by kernel_rfl, by kernel_rfl⟩
theorem k_81 : tyOk Go.Proofs.Try.prog 81 (.one [.sc (.int .u8 0)]) := ⟨by kernel_rfl, by kernel_rfl⟩
theorem k_82 : tyOk Go.Proofs.Try.prog 82 (.one [.sc .nilFunc]) := ⟨by kernel_rfl, by kernel_rfl⟩
theorem k_83 : tyOk Go.Proofs.Try.prog 83 (.one [.sc (.pointer none)]) := ⟨by kernel_rfl, by kernel_rfl⟩
theorem k_84 : tyOk Go.Proofs.Try.prog 84 (.one [.sc (.int .i32 0)]) := ⟨by kernel_rfl, by kernel_rfl⟩
theorem k_85 : tyOk Go.Proofs.Try.prog 85 (.one [.sc (.int .i32 0)]) := ⟨by kernel_rfl, by kernel_rfl⟩
theorem k_86 : tyOk Go.Proofs.Try.prog 86 (.agg [(0, 1), (1, 1), (2, 1), (3, 1), (4, 1), (5, 1), (6, 1), (7, 1), (8, 1), (9, 1), (10, 1)] [.sc (.int .u64 0), .sc (.int .u64 0), .sc (.int .u32 0), .sc (.int .u8 0), .sc (.int .u8 0), .sc (.int .u8 0), .sc (.int .u8 0), .sc .nilFunc, .sc (.pointer none), .sc (.int .i32 0), .sc (.int .i32 0)]) := ⟨by kernel_rfl, by kernel_rfl, by kernel_rfl⟩
theorem k_87 : tyOk Go.Proofs.Try.prog 87 (.agg [(0, 1), (1, 1), (2, 1), (3, 1), (4, 1), (5, 1), (6, 1), (7, 1), (8, 1), (9, 1), (10, 1)] [.sc (.int .u64 0), .sc (.int .u64 0), .sc (.int .u32 0), .sc (.int .u8 0), .sc (.int .u8 0), .sc (.int .u8 0), .sc (.int .u8 0), .sc .nilFunc, .sc (.pointer none), .sc (.int .i32 0), .sc (.int .i32 0)]) := ⟨by kernel_rfl, by kernel_rfl, by kernel_rfl⟩
theorem sm {p : TyI → Prop} {a : TyI} (h : p a) : ∀ i, some a = some i → p i := fun i e => by injection e with e; subst e; exact h
theorem nn {p : TyI → Prop} : ∀ i, (none : Option TyI) = some i → p i := fun i e => by cases e
def tt : TT := .node (none) (.node (some (.one [.sc .nilFunc])) (.node (some (.one [.sc (.int .i64 0)])) (.node (some (.agg [(0, 1), (1, 1), (2, 1), (3, 1)] [.sc (.int .i64 0), .sc (.int .i64 0), .sc (.bool false), .sc (.int .u8 0)])) (.node (some (.one [.sc (.pointer none)])) (.node (some (.one [.sc .nilFunc])) (.node (some (.one [.sc .nilFunc])) (.leaf) (.leaf)) (.leaf)) (.node (some (.one [.sc .nilFunc])) (.node (some (.one [.sc (.int .u32 0)])) (.leaf) (.leaf)) (.leaf))) (.node (some (.agg [(0, 1), (1, 1), (2, 1)] [.sc (.int .i64 0), .sc (.string ⟨#[]⟩), .sc (.string ⟨#[]⟩)])) (.node (some (.slice 26 7 96)) (.node (some (.one [.sc .nilFunc])) (.leaf) (.leaf)) (.leaf)) (.node (some (.one [.sc .nilFunc])) (.node (some (.agg [(0, 1), (1, 1), (2, 1), (3, 1), (4, 1), (5, 1), (6, 1), (7, 1), (8, 1), (9, 1), (10, 1)] [.sc (.int .u64 0), .sc (.int .u64 0), .sc (.int .u32 0), .sc (.int .u8 0), .sc (.int .u8 0), .sc (.int .u8 0), .sc (.int .u8 0), .sc .nilFunc, .sc (.pointer none), .sc (.int .i32 0), .sc (.int .i32 0)])) (.leaf) (.leaf)) (.leaf)))) (.node (some (.str)) (.node (some (.agg [(0, 1)] [.sc (.pointer none)])) (.node (some (.one [.sc .nilFunc])) (.node (some (.one [.sc .nilFunc])) (.leaf) (.leaf)) (.leaf)) (.node (some (.one [.sc .nilFunc])) (.node (some (.one [.sc (.pointer none)])) (.leaf) (.leaf)) (.leaf))) (.node (some (.slice 38 2 32)) (.node (some (.one [.sc .nilFunc])) (.node (some (.arr 0 16 1 [])) (.leaf) (.leaf)) (.leaf)) (.node (some (.one [.sc .nilFunc])) (.leaf) (.leaf))))) (.node (some (.one [.sc (.int .u8 0)])) (.node (some (.str)) (.node (some (.one [.sc (.pointer none)])) (.node (some (.slice 23 3 40)) (.node (some (.one [.sc .nilFunc])) (.leaf) (.leaf)) (.leaf)) (.node (none) (.node (some (.one [.sc (.int .u8 0)])) (.leaf) (.leaf)) (.leaf))) (.node (some (.agg [(0, 3), (3, 1), (4, 1), (5, 1), (6, 1)] [.sc (.int .i64 0), .sc (.string ⟨#[]⟩), .sc (.string ⟨#[]⟩), .sc (.int .i64 0), .sc (.string ⟨#[]⟩), .row [], .sc (.int .i64 0)])) (.node (none) (.node (some (.agg [(0, 1), (1, 1), (2, 1), (3, 1)] [.sc (.pointer none), .sc (.pointer none), .sc (.pointer none), .sc (.string ⟨#[]⟩)])) (.leaf) (.leaf)) (.leaf)) (.node (some (.one [.sc .nilFunc])) (.leaf) (.leaf)))) (.node (some (.agg [(0, 1), (1, 1)] [.sc (.string ⟨#[]⟩), .sc (.int .u64 0)])) (.node (some (.one [.sc (.int .i32 0)])) (.node (some (.agg [(0, 1), (1, 1)] [.sc (.string ⟨#[]⟩), .sc (.string ⟨#[]⟩)])) (.node (some (.one [.sc .nilFunc])) (.leaf) (.leaf)) (.leaf)) (.node (none) (.node (some (.one [.sc (.int .i32 0)])) (.leaf) (.leaf)) (.leaf))) (.node (some (.agg [(0, 1), (1, 3), (4, 1), (5, 1), (6, 1), (7, 7), (14, 1), (15, 1)] [.sc (.int .i64 0), .sc (.int .i64 0), .sc (.string ⟨#[]⟩), .sc (.string ⟨#[]⟩), .sc (.string ⟨#[]⟩), .sc (.string ⟨#[]⟩), .sc (.int .i64 0), .sc (.int .i64 0), .sc (.string ⟨#[]⟩), .sc (.string ⟨#[]⟩), .sc (.int .i64 0), .sc (.string ⟨#[]⟩), .row [], .sc (.int .i64 0), .row [], .row []])) (.node (some (.one [.sc .nilFunc])) (.node (some (.agg [(0, 0)] [])) (.leaf) (.leaf)) (.leaf)) (.node (some (.one [.sc .nilFunc])) (.leaf) (.leaf)))))) (.node (some (.one [.sc (.int .i64 0)])) (.node (some (.one [.sc (.bool false)])) (.node (some (.agg [(0, 1), (1, 1), (2, 1), (3, 1)] [.sc (.int .i64 0), .sc (.int .i64 0), .sc (.bool false), .sc (.int .u8 0)])) (.node (some (.one [.sc (.pointer none)])) (.node (some (.one [.sc .nilFunc])) (.node (some (.one [.sc .nilFunc])) (.leaf) (.leaf)) (.leaf)) (.node (some (.one [.sc .nilFunc])) (.node (some (.one [.sc (.int .u8 0)])) (.leaf) (.leaf)) (.leaf))) (.node (some (.slice 9 1 16)) (.node (some (.one [.sc (.int .i64 0)])) (.node (some (.one [.sc .nilFunc])) (.leaf) (.leaf)) (.leaf)) (.node (some (.one [.sc .nilFunc])) (.leaf) (.leaf)))) (.node (some (.one [.sc (.int .u64 0)])) (.node (none) (.node (some (.one [.sc .nilFunc])) (.node (some (.one [.sc .nilFunc])) (.leaf) (.leaf)) (.leaf)) (.node (some (.one [.sc .nilFunc])) (.node (some (.one [.sc (.int .i32 0)])) (.leaf) (.leaf)) (.leaf))) (.node (some (.agg [(0, 1), (1, 3), (4, 1), (5, 1), (6, 1), (7, 7), (14, 1), (15, 1)] [.sc (.int .i64 0), .sc (.int .i64 0), .sc (.string ⟨#[]⟩), .sc (.string ⟨#[]⟩), .sc (.string ⟨#[]⟩), .sc (.string ⟨#[]⟩), .sc (.int .i64 0), .sc (.int .i64 0), .sc (.string ⟨#[]⟩), .sc (.string ⟨#[]⟩), .sc (.int .i64 0), .sc (.string ⟨#[]⟩), .row [], .sc (.int .i64 0), .row [], .row []])) (.node (none) (.node (some (.agg [(0, 0)] [])) (.leaf) (.leaf)) (.leaf)) (.leaf)))) (.node (some (.one [.sc (.int .u8 0)])) (.node (some (.str)) (.node (some (.agg [(0, 1)] [.sc (.pointer none)])) (.node (some (.one [.sc .nilFunc])) (.node (some (.one [.sc .nilFunc])) (.leaf) (.leaf)) (.leaf)) (.node (some (.one [.sc .nilFunc])) (.node (some (.one [.sc .nilFunc])) (.leaf) (.leaf)) (.leaf))) (.node (some (.agg [(0, 3), (3, 1), (4, 1), (5, 1), (6, 1)] [.sc (.int .i64 0), .sc (.string ⟨#[]⟩), .sc (.string ⟨#[]⟩), .sc (.int .i64 0), .sc (.string ⟨#[]⟩), .row [], .sc (.int .i64 0)])) (.node (some (.one [.sc .nilFunc])) (.node (some (.agg [(0, 1), (1, 1), (2, 1), (3, 1)] [.sc (.pointer none), .sc (.pointer none), .sc (.pointer none), .sc (.string ⟨#[]⟩)])) (.leaf) (.leaf)) (.leaf)) (.node (some (.one [.sc .nilFunc])) (.leaf) (.leaf)))) (.node (some (.agg [(0, 1), (1, 1)] [.sc (.string ⟨#[]⟩), .sc (.int .u64 0)])) (.node (some (.agg [(0, 1), (1, 1), (2, 1)] [.sc (.int .i64 0), .sc (.string ⟨#[]⟩), .sc (.string ⟨#[]⟩)])) (.node (some (.agg [(0, 1), (1, 1)] [.sc (.string ⟨#[]⟩), .sc (.string ⟨#[]⟩)])) (.node (some (.one [.sc .nilFunc])) (.leaf) (.leaf)) (.leaf)) (.node (some (.one [.sc .nilFunc])) (.node (some (.agg [(0, 1), (1, 1), (2, 1), (3, 1), (4, 1), (5, 1), (6, 1), (7, 1), (8, 1), (9, 1), (10, 1)] [.sc (.int .u64 0), .sc (.int .u64 0), .sc (.int .u32 0), .sc (.int .u8 0), .sc (.int .u8 0), .sc (.int .u8 0), .sc (.int .u8 0), .sc .nilFunc, .sc (.pointer none), .sc (.int .i32 0), .sc (.int .i32 0)])) (.leaf) (.leaf)) (.leaf))) (.node (some (.one [.sc .nilFunc])) (.node (some (.one [.sc .nilFunc])) (.node (some (.one [.sc .nilFunc])) (.leaf) (.leaf)) (.leaf)) (.node (some (.one [.sc .nilFunc])) (.leaf) (.leaf))))))
theorem all : tt.all (tyOk Go.Proofs.Try.prog) := (TT.mk nn (TT.mk (sm k_1) (TT.mk (sm k_3) (TT.mk (sm k_7) (TT.mk (sm k_15) (TT.mk (sm k_31) (TT.mk (sm k_63) trivial trivial) trivial) (TT.mk (sm k_47) (TT.mk (sm k_79) trivial trivial) trivial)) (TT.mk (sm k_23) (TT.mk (sm k_39) (TT.mk (sm k_71) trivial trivial) trivial) (TT.mk (sm k_55) (TT.mk (sm k_87) trivial trivial) trivial))) (TT.mk (sm k_11) (TT.mk (sm k_19) (TT.mk (sm k_35) (TT.mk (sm k_67) trivial trivial) trivial) (TT.mk (sm k_51) (TT.mk (sm k_83) trivial trivial) trivial)) (TT.mk (sm k_27) (TT.mk (sm k_43) (TT.mk (sm k_75) trivial trivial) trivial) (TT.mk (sm k_59) trivial trivial)))) (TT.mk (sm k_5) (TT.mk (sm k_9) (TT.mk (sm k_17) (TT.mk (sm k_33) (TT.mk (sm k_65) trivial trivial) trivial) (TT.mk nn (TT.mk (sm k_81) trivial trivial) trivial)) (TT.mk (sm k_25) (TT.mk nn (TT.mk (sm k_73) trivial trivial) trivial) (TT.mk (sm k_57) trivial trivial))) (TT.mk (sm k_13) (TT.mk (sm k_21) (TT.mk (sm k_37) (TT.mk (sm k_69) trivial trivial) trivial) (TT.mk nn (TT.mk (sm k_85) trivial trivial) trivial)) (TT.mk (sm k_29) (TT.mk (sm k_45) (TT.mk (sm k_77) trivial trivial) trivial) (TT.mk (sm k_61) trivial trivial))))) (TT.mk (sm k_2) (TT.mk (sm k_4) (TT.mk (sm k_8) (TT.mk (sm k_16) (TT.mk (sm k_32) (TT.mk (sm k_64) trivial trivial) trivial) (TT.mk (sm k_48) (TT.mk (sm k_80) trivial trivial) trivial)) (TT.mk (sm k_24) (TT.mk (sm k_40) (TT.mk (sm k_72) trivial trivial) trivial) (TT.mk (sm k_56) trivial trivial))) (TT.mk (sm k_12) (TT.mk nn (TT.mk (sm k_36) (TT.mk (sm k_68) trivial trivial) trivial) (TT.mk (sm k_52) (TT.mk (sm k_84) trivial trivial) trivial)) (TT.mk (sm k_28) (TT.mk nn (TT.mk (sm k_76) trivial trivial) trivial) trivial))) (TT.mk (sm k_6) (TT.mk (sm k_10) (TT.mk (sm k_18) (TT.mk (sm k_34) (TT.mk (sm k_66) trivial trivial) trivial) (TT.mk (sm k_50) (TT.mk (sm k_82) trivial trivial) trivial)) (TT.mk (sm k_26) (TT.mk (sm k_42) (TT.mk (sm k_74) trivial trivial) trivial) (TT.mk (sm k_58) trivial trivial))) (TT.mk (sm k_14) (TT.mk (sm k_22) (TT.mk (sm k_38) (TT.mk (sm k_70) trivial trivial) trivial) (TT.mk (sm k_54) (TT.mk (sm k_86) trivial trivial) trivial)) (TT.mk (sm k_30) (TT.mk (sm k_46) (TT.mk (sm k_78) trivial trivial) trivial) (TT.mk (sm k_62) trivial trivial))))))
theorem ok : TTok Go.Proofs.Try.prog tt := fun t i h => TT.all_get all t i h
theorem en_4 : enters Go.Proofs.Try.prog 4 = true := by kernel_rfl
theorem en_5 : enters Go.Proofs.Try.prog 5 = true := by kernel_rfl
theorem en_6 : enters Go.Proofs.Try.prog 6 = true := by kernel_rfl
theorem en_7 : enters Go.Proofs.Try.prog 7 = true := by kernel_rfl
theorem en_8 : enters Go.Proofs.Try.prog 8 = true := by kernel_rfl
theorem en_9 : enters Go.Proofs.Try.prog 9 = true := by kernel_rfl
theorem en_10 : enters Go.Proofs.Try.prog 10 = true := by kernel_rfl
theorem en_11 : enters Go.Proofs.Try.prog 11 = true := by kernel_rfl
theorem en_12 : enters Go.Proofs.Try.prog 12 = true := by kernel_rfl
theorem en_13 : enters Go.Proofs.Try.prog 13 = true := by kernel_rfl
theorem en_14 : enters Go.Proofs.Try.prog 14 = true := by kernel_rfl
theorem en_15 : enters Go.Proofs.Try.prog 15 = true := by kernel_rfl
theorem en_16 : enters Go.Proofs.Try.prog 16 = true := by kernel_rfl
theorem en_17 : enters Go.Proofs.Try.prog 17 = true := by kernel_rfl
theorem en_18 : enters Go.Proofs.Try.prog 18 = true := by kernel_rfl
theorem en_19 : enters Go.Proofs.Try.prog 19 = true := by kernel_rfl
theorem en_20 : enters Go.Proofs.Try.prog 20 = true := by kernel_rfl
theorem en_21 : enters Go.Proofs.Try.prog 21 = true := by kernel_rfl
theorem en_22 : enters Go.Proofs.Try.prog 22 = true := by kernel_rfl
theorem en_23 : enters Go.Proofs.Try.prog 23 = true := by kernel_rfl
theorem en_24 : enters Go.Proofs.Try.prog 24 = true := by kernel_rfl
theorem en_25 : enters Go.Proofs.Try.prog 25 = true := by kernel_rfl
theorem en_26 : enters Go.Proofs.Try.prog 26 = true := by kernel_rfl
theorem en_27 : enters Go.Proofs.Try.prog 27 = true := by kernel_rfl
theorem en_28 : enters Go.Proofs.Try.prog 28 = true := by kernel_rfl
theorem en_29 : enters Go.Proofs.Try.prog 29 = true := by kernel_rfl
theorem en_30 : enters Go.Proofs.Try.prog 30 = true := by kernel_rfl
theorem en_31 : enters Go.Proofs.Try.prog 31 = true := by kernel_rfl
theorem en_32 : enters Go.Proofs.Try.prog 32 = true := by kernel_rfl
theorem en_33 : enters Go.Proofs.Try.prog 33 = true := by kernel_rfl
theorem en_34 : enters Go.Proofs.Try.prog 34 = true := by kernel_rfl
theorem en_35 : enters Go.Proofs.Try.prog 35 = true := by kernel_rfl
theorem en_36 : enters Go.Proofs.Try.prog 36 = true := by kernel_rfl
theorem en_37 : enters Go.Proofs.Try.prog 37 = true := by kernel_rfl
theorem en_38 : enters Go.Proofs.Try.prog 38 = true := by kernel_rfl
theorem en_39 : enters Go.Proofs.Try.prog 39 = true := by kernel_rfl
theorem en_40 : enters Go.Proofs.Try.prog 40 = true := by kernel_rfl
theorem en_41 : enters Go.Proofs.Try.prog 41 = true := by kernel_rfl
theorem en_42 : enters Go.Proofs.Try.prog 42 = true := by kernel_rfl
theorem en_43 : enters Go.Proofs.Try.prog 43 = true := by kernel_rfl
theorem en_44 : enters Go.Proofs.Try.prog 44 = true := by kernel_rfl
theorem en_45 : enters Go.Proofs.Try.prog 45 = true := by kernel_rfl
theorem en_46 : enters Go.Proofs.Try.prog 46 = true := by kernel_rfl
theorem en_47 : enters Go.Proofs.Try.prog 47 = true := by kernel_rfl
theorem en_48 : enters Go.Proofs.Try.prog 48 = true := by kernel_rfl
theorem en_49 : enters Go.Proofs.Try.prog 49 = true := by kernel_rfl
theorem en_50 : enters Go.Proofs.Try.prog 50 = true := by kernel_rfl
theorem en_51 : enters Go.Proofs.Try.prog 51 = true := by kernel_rfl
theorem en_52 : enters Go.Proofs.Try.prog 52 = true := by kernel_rfl
theorem en_53 : enters Go.Proofs.Try.prog 53 = true := by kernel_rfl
theorem en_54 : enters Go.Proofs.Try.prog 54 = true := by kernel_rfl
theorem en_55 : enters Go.Proofs.Try.prog 55 = true := by kernel_rfl
theorem en_56 : enters Go.Proofs.Try.prog 56 = true := by kernel_rfl
theorem en_57 : enters Go.Proofs.Try.prog 57 = true := by kernel_rfl
theorem en_58 : enters Go.Proofs.Try.prog 58 = true := by kernel_rfl
theorem en_59 : enters Go.Proofs.Try.prog 59 = true := by kernel_rfl
theorem en_60 : enters Go.Proofs.Try.prog 60 = true := by kernel_rfl
theorem mixed : Go.Proofs.Try.prog.follows .mixedOrders = true := by kernel_rfl
theorem fn {N : Nat} {f : FuncId} {fn : Func} {c : Code} {args : List D} {res : List C} {rs : List ResultVar} (fb : List Nat) (hf : Go.Proofs.Try.prog.funcs[f]? = some fn) (hk : argsT 0 args .leaf fun t => xcode Go.Proofs.Try.prog tt N fb c t (fun _ => .junk) (finK Go.Proofs.Try.prog tt rs res []))
  (hb : fn.body = some c := by rfl) (hN : fn.ntmps = N := by rfl) (hrs : fn.results.toList = rs := by rfl) (hargs : args.length ≤ N := by exact Nat.le_of_ble_eq_true rfl) (hNB : N ≤ BIG := by exact Nat.le_of_ble_eq_true rfl) : Contract Go.Proofs.Try.prog f args res := xfn ok fb hf hb hN hrs hargs hNB hk
end Go.Vm.T
end
section
namespace Go.Vm
open Go.RowKit Go.Proofs
set_option maxRecDepth 10000
theorem emp : ByteArray.empty = noB := rfl
theorem scb {a b : Bool} (h : a = b) : D.sc (.bool a) = D.sc (.bool b) := by rw [h]
theorem elem_at {α : Type} {l : List α} {k : Nat} (h : (k : Int) < (l.length : Int)) : ∃ p, l[k]? = some p := by
  have : k < l.length := by omega
  exact ⟨_, List.getElem?_eq_getElem this⟩
theorem charAt {s : ByteArray} {k : Nat} (h : (k : Int) < (s.size : Int)) : ∃ b, s[k]? = some b := ⟨s[k]'(by omega), by rw [getElem?_pos]⟩
theorem mapAt {α : Type} {f : α → D} {l : List α} {k : Nat} {x : α} (h : l[k]? = some x) : (l.map f)[k]? = some (f x) := by
  rw [List.getElem?_map, h]; rfl
theorem name_any (s : ByteArray) : Contract Try.prog 31 [.sc (.string s)] [.d (.sc (.bool (nameB s)))] := by
 refine T.fn [] Try.func31 ?_
 refine x_len ?_
 refine br (fun hg1 => ?y1) (fun hg1 => ?n1)
 case' y1 =>
  refine brT ?_
 case' n1 =>
  refine x_len ?_
  refine br (fun hc3 => ?y3) (fun hc3 => ?n3)
  case' n3 =>
   have hlo : 1 ≤ s.size := by omega
   have hhi : s.size ≤ 12 := by omega
   refine x_len ?_
   refine xloopR (fb := []) T.ok (Nat.le_of_ble_eq_true rfl) [0, 15] (fun (k : Nat) => [(16, .c (.d (.sc (.int .i64 (k : Nat)))))]) (fun k => k ≤ s.size ∧ okTo s k ∧ 1 ≤ s.size ∧ s.size ≤ 12) (fun k => s.size - k) 0 ⟨Nat.zero_le _, okTo_zero s, hlo, hhi⟩ (x_ent (by first | rfl | (simp only [Tr.get]; simp; done)) trivial) ?_
   rintro k ⟨hk, hok, hlo, hhi⟩
   refine br (fun hc4 => ?y4) (fun hc4 => ?n4)
   case' y4 =>
    obtain ⟨b, hb⟩ := charAt hc4
    first | refine x_ch (by exact hb) ?_ | refine x_chI (by exact hb) ?_
    refine br (fun hg5 => ?y5) (fun hg5 => ?n5)
    case' y5 =>
     first | refine x_ch (by exact hb) ?_ | refine x_chI (by exact hb) ?_
     first | refine x_ch (by exact hb) ?_ | refine x_chI (by exact hb) ?_
     refine br (fun hg6 => ?y6) (fun hg6 => ?n6)
     case' y6 =>
      first | refine x_ch (by exact hb) ?_ | refine x_chI (by exact hb) ?_
      refine br (fun hg7 => ?y7) (fun hg7 => ?n7)
      case' y7 =>
       refine br (fun hg8 => ?y8) (fun hg8 => ?n8)
       case' y8 =>
        refine brT ?_
       case' n8 =>
        refine br (fun hc10 => ?y10) (fun hc10 => ?n10)
        case' n10 =>
         first | refine x_inc ?_ | refine x_add ?_ | refine x_bin rfl rfl ?_
         refine x_rnd (k + 1) ⟨char_lt hb, okTo_next hok hb (by (simp only [charB, decide_eq_true_eq, decide_eq_false_iff_not, Bool.not_eq_true', Bool.not_eq_false', Bool.and_eq_true, Bool.or_eq_true, Bool.or_eq_false_iff, Bool.and_eq_false_iff, beq_iff_eq, beq_eq_false_iff_ne, ne_eq, Bool.not_true, Bool.not_false, Bool.false_eq_true, Bool.true_eq_false] at * <;> omega)), hlo, hhi⟩ (by (try dsimp only); have := char_lt hb; omega) rfl (x_ent (by first | rfl | (simp only [Tr.get]; simp; done)) trivial) rfl
      case' n7 =>
       refine brF ?_
       first | refine x_inc ?_ | refine x_add ?_ | refine x_bin rfl rfl ?_
       refine x_rnd (k + 1) ⟨char_lt hb, okTo_next hok hb (by (simp only [charB, decide_eq_true_eq, decide_eq_false_iff_not, Bool.not_eq_true', Bool.not_eq_false', Bool.and_eq_true, Bool.or_eq_true, Bool.or_eq_false_iff, Bool.and_eq_false_iff, beq_iff_eq, beq_eq_false_iff_ne, ne_eq, Bool.not_true, Bool.not_false, Bool.false_eq_true, Bool.true_eq_false] at * <;> omega)), hlo, hhi⟩ (by (try dsimp only); have := char_lt hb; omega) rfl (x_ent (by first | rfl | (simp only [Tr.get]; simp; done)) trivial) rfl
     case' n6 =>
      refine br (fun hg12 => ?y12) (fun hg12 => ?n12)
      case' y12 =>
       refine brT ?_
       refine brT ?_
      case' n12 =>
       refine brF ?_
       first | refine x_inc ?_ | refine x_add ?_ | refine x_bin rfl rfl ?_
       refine x_rnd (k + 1) ⟨char_lt hb, okTo_next hok hb (by (simp only [charB, decide_eq_true_eq, decide_eq_false_iff_not, Bool.not_eq_true', Bool.not_eq_false', Bool.and_eq_true, Bool.or_eq_true, Bool.or_eq_false_iff, Bool.and_eq_false_iff, beq_iff_eq, beq_eq_false_iff_ne, ne_eq, Bool.not_true, Bool.not_false, Bool.false_eq_true, Bool.true_eq_false] at * <;> omega)), hlo, hhi⟩ (by (try dsimp only); have := char_lt hb; omega) rfl (x_ent (by first | rfl | (simp only [Tr.get]; simp; done)) trivial) rfl
    case' n5 =>
     first | refine x_ch (by exact hb) ?_ | refine x_chI (by exact hb) ?_
     refine br (fun hg16 => ?y16) (fun hg16 => ?n16)
     case' y16 =>
      first | refine x_ch (by exact hb) ?_ | refine x_chI (by exact hb) ?_
      refine brT ?_
      refine br (fun hg18 => ?y18) (fun hg18 => ?n18)
      case' y18 =>
       refine brT ?_
      case' n18 =>
       refine br (fun hc20 => ?y20) (fun hc20 => ?n20)
       case' n20 =>
        first | refine x_inc ?_ | refine x_add ?_ | refine x_bin rfl rfl ?_
        refine x_rnd (k + 1) ⟨char_lt hb, okTo_next hok hb (by (simp only [charB, decide_eq_true_eq, decide_eq_false_iff_not, Bool.not_eq_true', Bool.not_eq_false', Bool.and_eq_true, Bool.or_eq_true, Bool.or_eq_false_iff, Bool.and_eq_false_iff, beq_iff_eq, beq_eq_false_iff_ne, ne_eq, Bool.not_true, Bool.not_false, Bool.false_eq_true, Bool.true_eq_false] at * <;> omega)), hlo, hhi⟩ (by (try dsimp only); have := char_lt hb; omega) rfl (x_ent (by first | rfl | (simp only [Tr.get]; simp; done)) trivial) rfl
     case' n16 =>
      refine brT ?_
      refine brT ?_
      refine brT ?_
 all_goals (refine x_ret ?_; simp only [fitsL, fits, C.asD, and_true] <;> (refine scb ?_; first | (refine (name_short ?_).symm; omega; done) | (refine (name_long ?_).symm; omega; done) | (refine (name_no (char_lt hb) hb ?_).symm; (simp only [charB, decide_eq_true_eq, decide_eq_false_iff_not, Bool.not_eq_true', Bool.not_eq_false', Bool.and_eq_true, Bool.or_eq_true, Bool.or_eq_false_iff, Bool.and_eq_false_iff, beq_iff_eq, beq_eq_false_iff_ne, ne_eq, Bool.not_true, Bool.not_false, Bool.false_eq_true, Bool.true_eq_false] at * <;> omega); done) | (refine (name_yes hlo hhi ?_ hok).symm; omega; done)))
theorem refName_any (s : ByteArray) : Contract Try.prog 27 [.sc (.string s)] [.d (.sc (.bool (nameB s)))] := by
 refine T.fn [] Try.func27 ?_
 refine x_len ?_
 refine br (fun hg1 => ?y1) (fun hg1 => ?n1)
 case' y1 =>
  refine brT ?_
 case' n1 =>
  refine x_len ?_
  refine br (fun hc3 => ?y3) (fun hc3 => ?n3)
  case' n3 =>
   have hlo : 1 ≤ s.size := by omega
   have hhi : s.size ≤ 12 := by omega
   refine xloopR (fb := []) T.ok (Nat.le_of_ble_eq_true rfl) [0] (fun (k : Nat) => [(3, .c (.d (.sc (.int .i64 (k : Nat)))))]) (fun k => k ≤ s.size ∧ okTo s k ∧ 1 ≤ s.size ∧ s.size ≤ 12) (fun k => s.size - k) 0 ⟨Nat.zero_le _, okTo_zero s, hlo, hhi⟩ (x_ent (by first | rfl | (simp only [Tr.get]; simp; done)) trivial) ?_
   rintro k ⟨hk, hok, hlo, hhi⟩
   refine x_len ?_
   refine br (fun hc4 => ?y4) (fun hc4 => ?n4)
   case' y4 =>
    obtain ⟨b, hb⟩ := charAt hc4
    first | refine x_ch (by exact hb) ?_ | refine x_chI (by exact hb) ?_
    refine br (fun hg5 => ?y5) (fun hg5 => ?n5)
    case' y5 =>
     first | refine x_ch (by exact hb) ?_ | refine x_chI (by exact hb) ?_
     first | refine x_ch (by exact hb) ?_ | refine x_chI (by exact hb) ?_
     refine br (fun hg6 => ?y6) (fun hg6 => ?n6)
     case' y6 =>
      first | refine x_ch (by exact hb) ?_ | refine x_chI (by exact hb) ?_
      refine br (fun hg7 => ?y7) (fun hg7 => ?n7)
      case' y7 =>
       refine br (fun hg8 => ?y8) (fun hg8 => ?n8)
       case' y8 =>
        refine brT ?_
       case' n8 =>
        refine br (fun hc10 => ?y10) (fun hc10 => ?n10)
        case' n10 =>
         first | refine x_inc ?_ | refine x_add ?_ | refine x_bin rfl rfl ?_
         refine x_rnd (k + 1) ⟨char_lt hb, okTo_next hok hb (by (simp only [charB, decide_eq_true_eq, decide_eq_false_iff_not, Bool.not_eq_true', Bool.not_eq_false', Bool.and_eq_true, Bool.or_eq_true, Bool.or_eq_false_iff, Bool.and_eq_false_iff, beq_iff_eq, beq_eq_false_iff_ne, ne_eq, Bool.not_true, Bool.not_false, Bool.false_eq_true, Bool.true_eq_false] at * <;> omega)), hlo, hhi⟩ (by (try dsimp only); have := char_lt hb; omega) rfl (x_ent (by first | rfl | (simp only [Tr.get]; simp; done)) trivial) rfl
      case' n7 =>
       refine brF ?_
       first | refine x_inc ?_ | refine x_add ?_ | refine x_bin rfl rfl ?_
       refine x_rnd (k + 1) ⟨char_lt hb, okTo_next hok hb (by (simp only [charB, decide_eq_true_eq, decide_eq_false_iff_not, Bool.not_eq_true', Bool.not_eq_false', Bool.and_eq_true, Bool.or_eq_true, Bool.or_eq_false_iff, Bool.and_eq_false_iff, beq_iff_eq, beq_eq_false_iff_ne, ne_eq, Bool.not_true, Bool.not_false, Bool.false_eq_true, Bool.true_eq_false] at * <;> omega)), hlo, hhi⟩ (by (try dsimp only); have := char_lt hb; omega) rfl (x_ent (by first | rfl | (simp only [Tr.get]; simp; done)) trivial) rfl
     case' n6 =>
      refine br (fun hg12 => ?y12) (fun hg12 => ?n12)
      case' y12 =>
       refine brT ?_
       refine brT ?_
      case' n12 =>
       refine brF ?_
       first | refine x_inc ?_ | refine x_add ?_ | refine x_bin rfl rfl ?_
       refine x_rnd (k + 1) ⟨char_lt hb, okTo_next hok hb (by (simp only [charB, decide_eq_true_eq, decide_eq_false_iff_not, Bool.not_eq_true', Bool.not_eq_false', Bool.and_eq_true, Bool.or_eq_true, Bool.or_eq_false_iff, Bool.and_eq_false_iff, beq_iff_eq, beq_eq_false_iff_ne, ne_eq, Bool.not_true, Bool.not_false, Bool.false_eq_true, Bool.true_eq_false] at * <;> omega)), hlo, hhi⟩ (by (try dsimp only); have := char_lt hb; omega) rfl (x_ent (by first | rfl | (simp only [Tr.get]; simp; done)) trivial) rfl
    case' n5 =>
     first | refine x_ch (by exact hb) ?_ | refine x_chI (by exact hb) ?_
     refine br (fun hg16 => ?y16) (fun hg16 => ?n16)
     case' y16 =>
      first | refine x_ch (by exact hb) ?_ | refine x_chI (by exact hb) ?_
      refine brT ?_
      refine br (fun hg18 => ?y18) (fun hg18 => ?n18)
      case' y18 =>
       refine brT ?_
      case' n18 =>
       refine br (fun hc20 => ?y20) (fun hc20 => ?n20)
       case' n20 =>
        first | refine x_inc ?_ | refine x_add ?_ | refine x_bin rfl rfl ?_
        refine x_rnd (k + 1) ⟨char_lt hb, okTo_next hok hb (by (simp only [charB, decide_eq_true_eq, decide_eq_false_iff_not, Bool.not_eq_true', Bool.not_eq_false', Bool.and_eq_true, Bool.or_eq_true, Bool.or_eq_false_iff, Bool.and_eq_false_iff, beq_iff_eq, beq_eq_false_iff_ne, ne_eq, Bool.not_true, Bool.not_false, Bool.false_eq_true, Bool.true_eq_false] at * <;> omega)), hlo, hhi⟩ (by (try dsimp only); have := char_lt hb; omega) rfl (x_ent (by first | rfl | (simp only [Tr.get]; simp; done)) trivial) rfl
     case' n16 =>
      refine brT ?_
      refine brT ?_
      refine brT ?_
 all_goals (refine x_ret ?_; simp only [fitsL, fits, C.asD, and_true] <;> (refine scb ?_; first | (refine (name_short ?_).symm; omega; done) | (refine (name_long ?_).symm; omega; done) | (refine (name_no (char_lt hb) hb ?_).symm; (simp only [charB, decide_eq_true_eq, decide_eq_false_iff_not, Bool.not_eq_true', Bool.not_eq_false', Bool.and_eq_true, Bool.or_eq_true, Bool.or_eq_false_iff, Bool.and_eq_false_iff, beq_iff_eq, beq_eq_false_iff_ne, ne_eq, Bool.not_true, Bool.not_false, Bool.false_eq_true, Bool.true_eq_false] at * <;> omega); done) | (refine (name_yes hlo hhi ?_ hok).symm; omega; done)))
theorem text_any (s : ByteArray) : Contract Try.prog 33 [.sc (.string s)] [.d (.sc (.bool (decide (s.size ≤ 40))))] := by
 refine T.fn [] Try.func33 ?_
 refine x_len ?_
 all_goals (refine x_ret ?_; simp only [fitsL, fits, C.asD, and_true] <;> (refine scb ?_; simp; omega))
theorem factor_any (n : Int) : Contract Try.prog 32 [.sc (.int .i64 n)] [.d (.sc (.bool (decide (2 ≤ n) && decide (n ≤ 1000))))] := by
 refine T.fn [] Try.func32 ?_
 refine br (fun hg1 => ?y1) (fun hg1 => ?n1)
 all_goals (refine x_ret ?_; simp only [fitsL, fits, C.asD, and_true] <;> (refine scb ?_; first | (simp_all; done) | (simp_all <;> (intros; omega))))
end Go.Vm
end
section
namespace Go.Vm
open Go.RowKit Go.Proofs
set_option maxRecDepth 10000
theorem less_any (a b : RefD) : Contract Try.prog 56 [rD a, rD b] [.d (.sc (.bool (lessB a b)))] := by
 refine T.fn [] Try.func56 ?_
 refine br (fun hc1 => ?y1) (fun hc1 => ?n1)
 case' n1 =>
  refine br (fun hc2 => ?y2) (fun hc2 => ?n2)
 all_goals (refine x_ret ?_; simp only [fitsL, fits, C.asD, and_true] <;> (refine scb ?_; simp_all [lessB, ltB]))
theorem place_any (r : RefD) : Contract Try.prog 30 [rD r] [.d (.sc (.bool (placeB r)))] := by
 refine T.fn [] Try.func30 ?_
 refine br (fun hg1 => ?y1) (fun hg1 => ?n1)
 case' y1 =>
  refine br (fun hc2 => ?y2) (fun hc2 => ?n2)
  case' n2 =>
   refine x_call T.en_31 (name_any _) ?_
   refine br (fun hg3 => ?y3) (fun hg3 => ?n3)
   case' y3 =>
    refine br (fun hg4 => ?y4) (fun hg4 => ?n4)
    case' n4 =>
     refine x_call T.en_31 (name_any _) ?_
 case' n1 =>
  refine brF ?_
  refine x_call T.en_31 (name_any _) ?_
  refine br (fun hg6 => ?y6) (fun hg6 => ?n6)
  case' y6 =>
   refine br (fun hg7 => ?y7) (fun hg7 => ?n7)
   case' n7 =>
    refine x_call T.en_31 (name_any _) ?_
 all_goals (refine x_ret ?_; simp only [fitsL, fits, C.asD, and_true] <;> (refine scb ?_; rcases (show r.scope = 0 ∨ r.scope = 1 ∨ (r.scope ≠ 0 ∧ r.scope ≠ 1) by omega) with h | h | h <;> simp_all [placeB, emp] <;> omega))
theorem refPlace_any (r : RefD) : Contract Try.prog 23 [rD r] [.d (.sc (.bool (placeB r)))] := by
 refine T.fn [] Try.func23 ?_
 refine br (fun hg1 => ?y1) (fun hg1 => ?n1)
 case' y1 =>
  refine br (fun hg2 => ?y2) (fun hg2 => ?n2)
  case' y2 =>
   refine x_call T.en_27 (refName_any _) ?_
   refine br (fun hg3 => ?y3) (fun hg3 => ?n3)
   case' y3 =>
    refine x_len ?_
    refine br (fun hg4 => ?y4) (fun hg4 => ?n4)
    case' n4 =>
     refine x_call T.en_27 (refName_any _) ?_
  case' n2 =>
   refine brF ?_
 case' n1 =>
  refine brF ?_
  refine brF ?_
 all_goals (refine x_ret ?_; simp only [fitsL, fits, C.asD, and_true] <;> (refine scb ?_; rcases (show r.scope = 0 ∨ r.scope = 1 ∨ (r.scope ≠ 0 ∧ r.scope ≠ 1) by omega) with h | h | h <;> simp_all [placeB, emp] <;> omega))
end Go.Vm
end
section
namespace Go.Vm
open Go.RowKit Go.Proofs
set_option maxRecDepth 10000
theorem v_23 (x : RefD) : conc (rD x) = some (.agg #[.int .i64 x.scope, .string x.group, .string x.name]) := rfl
theorem rune_23 (r s : RefD) (x y : Operand) (w : World) : (do eqGuard .eql 23 x y (.agg #[.int .i64 r.scope, .string r.group, .string r.name]) (.agg #[.int .i64 s.scope, .string s.group, .string s.name]); binOp .eql 23 (.agg #[.int .i64 r.scope, .string r.group, .string r.name]) (.agg #[.int .i64 s.scope, .string s.group, .string s.name]) : Sem Value).run Try.prog w = .ok (.bool (decide (r = s))) w := by
 obtain ⟨a, b, c⟩ := r
 obtain ⟨a', b', c'⟩ := s
 simp [go_sem, eq_strs]
 repeat (first | (split <;> simp_all; done) | split)
 all_goals simp_all
theorem xeq_23e {x y : Operand} {K : Value → Prop} (r s : RefD) (hK : K (.bool (decide (r = s)))) : ∃ u v r', (conc (rD r) = some u ∧ conc (rD s) = some v) ∧ (∀ w, (do eqGuard .eql 23 x y u v; binOp .eql 23 u v : Sem Value).run Try.prog w = .ok r' w) ∧ plainV r' = true ∧ K r' := x_eqS (v_23 r) (v_23 s) (fun w => rune_23 r s x y w) rfl hK
theorem runn_23 (r s : RefD) (x y : Operand) (w : World) : (do eqGuard .neq 23 x y (.agg #[.int .i64 r.scope, .string r.group, .string r.name]) (.agg #[.int .i64 s.scope, .string s.group, .string s.name]); binOp .neq 23 (.agg #[.int .i64 r.scope, .string r.group, .string r.name]) (.agg #[.int .i64 s.scope, .string s.group, .string s.name]) : Sem Value).run Try.prog w = .ok (.bool (!decide (r = s))) w := by
 obtain ⟨a, b, c⟩ := r
 obtain ⟨a', b', c'⟩ := s
 simp [go_sem, eq_strs]
 repeat (first | (split <;> simp_all; done) | split)
 all_goals simp_all
theorem xeq_23n {x y : Operand} {K : Value → Prop} (r s : RefD) (hK : K (.bool (!decide (r = s)))) : ∃ u v r', (conc (rD r) = some u ∧ conc (rD s) = some v) ∧ (∀ w, (do eqGuard .neq 23 x y u v; binOp .neq 23 u v : Sem Value).run Try.prog w = .ok r' w) ∧ plainV r' = true ∧ K r' := x_eqS (v_23 r) (v_23 s) (fun w => runn_23 r s x y w) rfl hK
theorem v_38 (x : (ByteArray × ByteArray)) : conc (pairD x) = some (.agg #[.string x.1, .string x.2]) := rfl
theorem runn_38 (r s : (ByteArray × ByteArray)) (x y : Operand) (w : World) : (do eqGuard .neq 38 x y (.agg #[.string r.1, .string r.2]) (.agg #[.string s.1, .string s.2]); binOp .neq 38 (.agg #[.string r.1, .string r.2]) (.agg #[.string s.1, .string s.2]) : Sem Value).run Try.prog w = .ok (.bool (!decide (r = s))) w := by
 obtain ⟨a, b⟩ := r
 obtain ⟨a', b'⟩ := s
 simp [go_sem, eq_strs]
 repeat (first | (split <;> simp_all; done) | split)
 all_goals simp_all
theorem xeq_38n {x y : Operand} {K : Value → Prop} (r s : (ByteArray × ByteArray)) (hK : K (.bool (!decide (r = s)))) : ∃ u v r', (conc (pairD r) = some u ∧ conc (pairD s) = some v) ∧ (∀ w, (do eqGuard .neq 38 x y u v; binOp .neq 38 u v : Sem Value).run Try.prog w = .ok r' w) ∧ plainV r' = true ∧ K r' := x_eqS (v_38 r) (v_38 s) (fun w => runn_38 r s x y w) rfl hK
end Go.Vm
end
section
namespace Go.Vm
open Go.RowKit Go.Proofs
set_option maxRecDepth 10000
theorem past_end {α : Type} {l : List α} {k : Nat} (h : ¬ (k : Int) < (l.length : Int)) : l.length ≤ k := by omega
theorem lt_len {α : Type} {l : List α} {k : Nat} {p : α} (hp : l[k]? = some p) : k < l.length := (List.getElem?_eq_some_iff.1 hp).1
theorem not_mem_next {α : Type} {l : List α} {s p : α} {k : Nat} (hp : l[k]? = some p) (h : s ∉ l.take k) (hn : ¬ s = p) : s ∉ l.take (k + 1) := by
  rw [List.take_add_one, hp]; simp [h, hn]
theorem not_mem_end {α : Type} {l : List α} {s : α} {k : Nat} (hk : l.length ≤ k) (h : s ∉ l.take k) : s ∉ l := by rwa [List.take_of_length_le hk] at h
theorem take_eq_next {α : Type} {l m : List α} {p q : α} {k : Nat} (hp : l[k]? = some p) (hq : m[k]? = some q) (h : l.take k = m.take k) (hn : p = q) : l.take (k + 1) = m.take (k + 1) := by
  rw [List.take_add_one, List.take_add_one, hp, hq, h, hn]
theorem take_eq_end {α : Type} {l m : List α} {k : Nat} (hl : l.length = m.length) (hk : l.length ≤ k) (h : l.take k = m.take k) : l = m := by
  rwa [List.take_of_length_le hk, List.take_of_length_le (by omega)] at h
theorem ne_at {α : Type} {l m : List α} {p q : α} {k : Nat} (hp : l[k]? = some p) (hq : m[k]? = some q) (hn : ¬ p = q) : ¬ l = m := by
  rintro rfl; rw [hp] at hq; injection hq with hq; exact hn hq
theorem elem_too {α β : Type} {l : List α} {m : List β} {k : Nat} {p : α} (hp : l[k]? = some p) (hl : l.length = m.length) : ∃ q, m[k]? = some q := ⟨_, List.getElem?_eq_getElem (by have := lt_len hp; omega)⟩
def idxB (s : ByteArray) (l : List ByteArray) : Int := if s ∈ l then ((l.findIdx (fun x => decide (x = s)) : Nat) : Int) else -1
theorem idx_hit {l : List ByteArray} {s p : ByteArray} {k : Nat} (hp : l[k]? = some p) (h : s ∉ l.take k) (hn : s = p) : idxB s l = (k : Int) := by
  subst hn
  obtain ⟨hlt, hpe⟩ := List.getElem?_eq_some_iff.1 hp
  have e : l.findIdx (fun x => decide (x = s)) = k := by
    rw [List.findIdx_eq hlt]
    refine ⟨by simp [hpe], fun j hj => ?_⟩
    simp only [decide_eq_false_iff_not]
    intro e
    exact h (List.mem_take_iff_getElem.2 ⟨j, by omega, e⟩)
  unfold idxB
  rw [if_pos (List.mem_of_getElem? hp), e]
theorem idx_miss {l : List ByteArray} {s : ByteArray} {k : Nat} (hk : l.length ≤ k) (h : s ∉ l.take k) : idxB s l = -1 := if_neg (not_mem_end hk h)
theorem idx_iff {l : List ByteArray} {s : ByteArray} : decide (0 ≤ idxB s l) = decide (s ∈ l) := by
  unfold idxB
  by_cases h : s ∈ l
  · rw [if_pos h]; simp [h]
  · rw [if_neg h]; simp [h]
theorem refHas_any (l : List ByteArray) (s : ByteArray) (hl : l.length ≤ 1000000) : Contract Try.prog 48 [.row (l.map strD), .sc (.string s)] [.d (.sc (.bool (decide (s ∈ l))))] := by
 refine T.fn [] Try.func48 ?_
 refine xloopR (fb := []) T.ok (Nat.le_of_ble_eq_true rfl) [0, 1] (fun (k : Nat) => [(5, .c (.d (.sc (.int .i64 (k : Nat)))))]) (fun k => k ≤ l.length ∧ s ∉ l.take k) (fun k => l.length - k) 0 ⟨Nat.zero_le _, by simp⟩ (x_ent (by first | rfl | (simp only [Tr.get]; simp; done)) trivial) ?_
 rintro k ⟨hk, hi⟩
 refine x_len ?_
 refine br (fun hc1 => ?y1) (fun hc1 => ?n1)
 case' y1 =>
  obtain ⟨p, hp⟩ := elem_at hc1
  first | refine x_ix (by exact mapAt hp) ?_ | refine x_ixI (by exact mapAt hp) ?_
  refine br (fun hc2 => ?y2) (fun hc2 => ?n2)
  case' n2 =>
   first | refine x_inc ?_ | refine x_add ?_ | refine x_bin rfl rfl ?_
   refine x_rnd (k + 1) ⟨lt_len hp, not_mem_next hp hi (fun e => by simp_all)⟩ (by (try dsimp only); have := lt_len hp; omega) rfl (x_ent (by first | rfl | (simp only [Tr.get]; simp; done)) trivial) rfl
 all_goals (refine x_ret ?_; simp only [fitsL, fits, C.asD, and_true] <;> (refine scb ?_; first | (refine (decide_eq_true (?_ : s ∈ l)).symm; have h := ‹p = s›; rw [← h]; exact List.mem_of_getElem? hp) | (refine (decide_eq_true (?_ : s ∈ l)).symm; have h := ‹s = p›; rw [h]; exact List.mem_of_getElem? hp) | exact (decide_eq_false (not_mem_end (past_end (by assumption)) hi)).symm))
theorem index_any (l : List ByteArray) (s : ByteArray) (hl : l.length ≤ 1000000) : Contract Try.prog 59 [.row (l.map strD), .sc (.string s)] [.d (.sc (.int .i64 (idxB s l)))] := by
 refine T.fn [] Try.func59 ?_
 refine x_len ?_
 refine xloopR (fb := []) T.ok (Nat.le_of_ble_eq_true rfl) [0, 1, 7] (fun (k : Nat) => [(8, .c (.d (.sc (.int .i64 (k : Nat)))))]) (fun k => k ≤ l.length ∧ s ∉ l.take k) (fun k => l.length - k) 0 ⟨Nat.zero_le _, by simp⟩ (x_ent (by first | rfl | (simp only [Tr.get]; simp; done)) trivial) ?_
 rintro k ⟨hk, hi⟩
 refine br (fun hc1 => ?y1) (fun hc1 => ?n1)
 case' y1 =>
  obtain ⟨p, hp⟩ := elem_at hc1
  first | refine x_ix (by exact mapAt hp) ?_ | refine x_ixI (by exact mapAt hp) ?_
  refine br (fun hc2 => ?y2) (fun hc2 => ?n2)
  case' n2 =>
   first | refine x_inc ?_ | refine x_add ?_ | refine x_bin rfl rfl ?_
   refine x_rnd (k + 1) ⟨lt_len hp, not_mem_next hp hi (fun e => by simp_all)⟩ (by (try dsimp only); have := lt_len hp; omega) rfl (x_ent (by first | rfl | (simp only [Tr.get]; simp; done)) trivial) rfl
 all_goals (refine x_ret ?_; simp only [fitsL, fits, C.asD, and_true] <;> (first | (rw [idx_hit hp hi ‹s = p›]) | (rw [idx_miss (past_end (by assumption)) hi])))
theorem contains_any (l : List ByteArray) (s : ByteArray) (hl : l.length ≤ 1000000) : Contract Try.prog 51 [.row (l.map strD), .sc (.string s)] [.d (.sc (.bool (decide (s ∈ l))))] := by
 refine T.fn [] Try.func51 ?_
 refine x_call T.en_59 (index_any _ _ (by assumption)) ?_
 all_goals (refine x_ret ?_; simp only [fitsL, fits, C.asD, and_true] <;> (refine scb ?_; exact idx_iff))
theorem equal_any (l m : List ByteArray) (hl : l.length ≤ 1000000) : Contract Try.prog 54 [.row (l.map strD), .row (m.map strD)] [.d (.sc (.bool (decide (l = m))))] := by
 refine T.fn [] Try.func54 ?_
 refine x_len ?_
 refine x_len ?_
 refine br (fun hc1 => ?y1) (fun hc1 => ?n1)
 case' n1 =>
  have hlen : l.length = m.length := by omega
  refine x_len ?_
  refine xloopR (fb := []) T.ok (Nat.le_of_ble_eq_true rfl) [0, 1, 12] (fun (k : Nat) => [(13, .c (.d (.sc (.int .i64 (k : Nat)))))]) (fun k => k ≤ l.length ∧ l.take k = m.take k) (fun k => l.length - k) 0 ⟨Nat.zero_le _, rfl⟩ (x_ent (by first | rfl | (simp only [Tr.get]; simp; done)) trivial) ?_
  rintro k ⟨hk, hi⟩
  refine br (fun hc2 => ?y2) (fun hc2 => ?n2)
  case' y2 =>
   obtain ⟨p, hp⟩ := elem_at hc2
   obtain ⟨q, hq⟩ := elem_too hp hlen
   refine And.intro ⟨T.mixed, by decide +kernel⟩ ?_
   first | refine x_ix (by first | exact mapAt hp | exact mapAt hq) ?_ | refine x_ixI (by first | exact mapAt hp | exact mapAt hq) ?_
   first | refine x_ix (by first | exact mapAt hp | exact mapAt hq) ?_ | refine x_ixI (by first | exact mapAt hp | exact mapAt hq) ?_
   refine br (fun hc3 => ?y3) (fun hc3 => ?n3)
   case' n3 =>
    first | refine x_inc ?_ | refine x_add ?_ | refine x_bin rfl rfl ?_
    refine x_rnd (k + 1) ⟨lt_len hp, take_eq_next hp hq hi (by simp_all)⟩ (by (try dsimp only); have := lt_len hp; omega) rfl (x_ent (by first | rfl | (simp only [Tr.get]; simp; done)) trivial) rfl
 all_goals (refine x_ret ?_; simp only [fitsL, fits, C.asD, and_true] <;> (refine scb ?_; first | exact (decide_eq_false (fun e => by simp_all)).symm | exact (decide_eq_false (ne_at hp hq (fun e => by simp_all))).symm | exact (decide_eq_true (take_eq_end hlen (past_end (by assumption)) hi)).symm))
theorem refSames_any (l m : List ByteArray) (hl : l.length ≤ 1000000) : Contract Try.prog 60 [.row (l.map strD), .row (m.map strD)] [.d (.sc (.bool (decide (l = m))))] := by
 refine T.fn [] Try.func60 ?_
 refine x_len ?_
 refine x_len ?_
 refine br (fun hc1 => ?y1) (fun hc1 => ?n1)
 case' n1 =>
  have hlen : l.length = m.length := by omega
  refine xloopR (fb := []) T.ok (Nat.le_of_ble_eq_true rfl) [0, 1] (fun (k : Nat) => [(5, .c (.d (.sc (.int .i64 (k : Nat)))))]) (fun k => k ≤ l.length ∧ l.take k = m.take k) (fun k => l.length - k) 0 ⟨Nat.zero_le _, rfl⟩ (x_ent (by first | rfl | (simp only [Tr.get]; simp; done)) trivial) ?_
  rintro k ⟨hk, hi⟩
  refine x_len ?_
  refine br (fun hc2 => ?y2) (fun hc2 => ?n2)
  case' y2 =>
   obtain ⟨p, hp⟩ := elem_at hc2
   obtain ⟨q, hq⟩ := elem_too hp hlen
   refine And.intro ⟨T.mixed, by decide +kernel⟩ ?_
   first | refine x_ix (by first | exact mapAt hp | exact mapAt hq) ?_ | refine x_ixI (by first | exact mapAt hp | exact mapAt hq) ?_
   first | refine x_ix (by first | exact mapAt hp | exact mapAt hq) ?_ | refine x_ixI (by first | exact mapAt hp | exact mapAt hq) ?_
   refine br (fun hc3 => ?y3) (fun hc3 => ?n3)
   case' n3 =>
    first | refine x_inc ?_ | refine x_add ?_ | refine x_bin rfl rfl ?_
    refine x_rnd (k + 1) ⟨lt_len hp, take_eq_next hp hq hi (by simp_all)⟩ (by (try dsimp only); have := lt_len hp; omega) rfl (x_ent (by first | rfl | (simp only [Tr.get]; simp; done)) trivial) rfl
 all_goals (refine x_ret ?_; simp only [fitsL, fits, C.asD, and_true] <;> (refine scb ?_; first | exact (decide_eq_false (fun e => by simp_all)).symm | exact (decide_eq_false (ne_at hp hq (fun e => by simp_all))).symm | exact (decide_eq_true (take_eq_end hlen (past_end (by assumption)) hi)).symm))
end Go.Vm
end
section
namespace Go.Vm
open Go.RowKit Go.Proofs
set_option maxRecDepth 10000
theorem take_fold {α : Type} {f : α → D} {l : List α} {k : Nat} : List.drop 0 (List.take k (l.map f)) = (l.take k).map f := by rw [List.drop_zero, List.map_take]
theorem strs_wide {l : List ByteArray} : ∀ x ∈ l.map strD, x.cells.length = 1 := by
  intro x hx; obtain ⟨y, _, rfl⟩ := List.mem_map.1 hx; rfl
theorem take_short {α : Type} {l : List α} {k n : Nat} (h : l.length ≤ n) : (l.take k).length ≤ n := by rw [List.length_take]; omega
theorem cases_any (l : List ByteArray) (hl : l.length ≤ 1000000) : Contract Try.prog 50 [.row (l.map strD)] [.d (.sc (.bool (casesB l)))] := by
 refine T.fn [] Try.func50 ?_
 refine x_len ?_
 refine br (fun hg1 => ?y1) (fun hg1 => ?n1)
 case' y1 =>
  refine brT ?_
 case' n1 =>
  refine x_len ?_
  refine br (fun hc3 => ?y3) (fun hc3 => ?n3)
  case' n3 =>
   have hlo : 1 ≤ l.length := by omega
   have hhi : l.length ≤ 6 := by omega
   refine x_len ?_
   refine xloopR (fb := []) T.ok (Nat.le_of_ble_eq_true rfl) [0, 13, 14] (fun (k : Nat) => [(15, .c (.d (.sc (.int .i64 (k : Nat)))))]) (fun k => k ≤ l.length ∧ okC l k = true ∧ 1 ≤ l.length ∧ l.length ≤ 6) (fun k => l.length - k) 0 ⟨Nat.zero_le _, ⟨okC_zero l, hlo, hhi⟩⟩ (x_ent (by first | rfl | (simp only [Tr.get]; simp; done)) trivial) ?_
   rintro k ⟨hk, hi⟩
   refine br (fun hc4 => ?y4) (fun hc4 => ?n4)
   case' y4 =>
    obtain ⟨p, hp⟩ := elem_at hc4
    have hkl := lt_len hp
    have htk := take_short (k := k) hl
    first | refine x_ix (by exact mapAt hp) ?_ | refine x_ixI (by exact mapAt hp) ?_
    refine x_call T.en_31 (name_any _) ?_
    refine br (fun hg5 => ?y5) (fun hg5 => ?n5)
    case' y5 =>
     refine brT ?_
    case' n5 =>
     first | refine x_bnd ?_ | refine x_bndI ?_
     refine x_row ?_ (by exact strs_wide) (hy := by first | exact take_fold | rfl)
     refine x_call T.en_51 (contains_any _ _ (by assumption)) ?_
     refine br (fun hc7 => ?y7) (fun hc7 => ?n7)
     case' n7 =>
      first | refine x_inc ?_ | refine x_add ?_ | refine x_bin rfl rfl ?_
      refine x_rnd (k + 1) ⟨lt_len hp, okC_next hp hi.1 (by simp_all) (by simp_all), hi.2⟩ (by (try dsimp only); have := lt_len hp; omega) rfl (x_ent (by first | rfl | (simp only [Tr.get]; simp; done)) trivial) rfl
 all_goals (refine x_ret ?_; simp only [fitsL, fits, C.asD, and_true] <;> (refine scb ?_; first | (refine (cases_short ?_).symm; omega; done) | (refine (cases_long ?_).symm; omega; done) | (refine (cases_no hp ?_).symm; simp_all; done) | exact (cases_yes hi.2.1 hi.2.2 (past_end (by assumption)) hi.1).symm))
theorem fieldRight_any (f : FieldD) (hl : f.cases.length ≤ 1000000) : Contract Try.prog 29 [fD f] [.d (.sc (.bool (rightF f)))] := by
 refine T.fn [] Try.func29 ?_
 refine x_call T.en_30 (place_any f.at_) ?_
 refine br (fun hc1 => ?y1) (fun hc1 => ?n1)
 case' n1 =>
  refine x_len ?_
  refine br (fun hc2 => ?y2) (fun hc2 => ?n2)
  case' y2 =>
   refine br (fun hg3 => ?y3) (fun hg3 => ?n3)
   case' y3 =>
    refine br (fun hg4 => ?y4) (fun hg4 => ?n4)
    case' y4 =>
     refine br (fun hg5 => ?y5) (fun hg5 => ?n5)
    case' n4 =>
     refine brF ?_
   case' n3 =>
    refine brF ?_
    refine brF ?_
  case' n2 =>
   refine br (fun hc9 => ?y9) (fun hc9 => ?n9)
   case' y9 =>
    refine x_call T.en_33 (text_any _) ?_
    refine br (fun hg10 => ?y10) (fun hg10 => ?n10)
    case' y10 =>
     refine br (fun hg11 => ?y11) (fun hg11 => ?n11)
    case' n10 =>
     refine brF ?_
   case' n9 =>
    refine br (fun hc13 => ?y13) (fun hc13 => ?n13)
    case' y13 =>
     refine x_call T.en_50 (cases_any _ (by assumption)) ?_
     refine br (fun hg14 => ?y14) (fun hg14 => ?n14)
     case' y14 =>
      refine x_call T.en_51 (contains_any _ _ (by assumption)) ?_
      refine br (fun hg15 => ?y15) (fun hg15 => ?n15)
     case' n14 =>
      refine brF ?_
    case' n13 =>
     refine br (fun hc17 => ?y17) (fun hc17 => ?n17)
     case' y17 =>
      refine br (fun hg18 => ?y18) (fun hg18 => ?n18)
      case' y18 =>
       refine br (fun hg19 => ?y19) (fun hg19 => ?n19)
      case' n18 =>
       refine brF ?_
 all_goals (refine x_ret ?_; simp only [fitsL, fits, C.asD, and_true] <;> (refine scb ?_; first | (simp_all [rightF]; done) | (simp_all [rightF] <;> (intros; omega))))
theorem fieldSame_any (f g : FieldD) (hl : f.cases.length ≤ 1000000) : Contract Try.prog 35 [fD f, fD g] [.d (.sc (.bool (decide (f = g))))] := by
 refine T.fn [] Try.func35 ?_
 first | refine xeq_23e _ _ ?_ | refine xeq_23e _ noRef ?_ | refine xeq_23e noRef _ ?_
 refine br (fun hg1 => ?y1) (fun hg1 => ?n1)
 case' y1 =>
  refine br (fun hg2 => ?y2) (fun hg2 => ?n2)
  case' y2 =>
   refine br (fun hg3 => ?y3) (fun hg3 => ?n3)
   case' y3 =>
    refine x_call T.en_54 (equal_any _ _ (by assumption)) ?_
    refine br (fun hg4 => ?y4) (fun hg4 => ?n4)
   case' n3 =>
    refine brF ?_
  case' n2 =>
   refine brF ?_
   refine brF ?_
 case' n1 =>
  refine brF ?_
  refine brF ?_
  refine brF ?_
 all_goals (refine x_ret ?_; simp only [fitsL, fits, C.asD, and_true] <;> (refine scb ?_; cases f; cases g; simp_all))
theorem sameTexts_any (l m : List ByteArray) (hl : l.length ≤ 1000000) : Contract Try.prog 55 [.row (l.map strD), .row (m.map strD)] [.d (.sc (.bool (decide (l = m))))] := by
 refine T.fn [] Try.func55 ?_
 refine x_call T.en_60 (refSames_any _ _ (by assumption)) ?_
 all_goals (refine x_ret ?_; simp only [fitsL, fits, C.asD, and_true] <;> (first | rfl | trivial))
theorem refFieldSame_any (f g : FieldD) (hl : f.cases.length ≤ 1000000) : Contract Try.prog 37 [fD f, fD g] [.d (.sc (.bool (decide (f = g))))] := by
 refine T.fn [] Try.func37 ?_
 first | refine xeq_23e _ _ ?_ | refine xeq_23e _ noRef ?_ | refine xeq_23e noRef _ ?_
 refine br (fun hg1 => ?y1) (fun hg1 => ?n1)
 case' y1 =>
  refine br (fun hg2 => ?y2) (fun hg2 => ?n2)
  case' y2 =>
   refine br (fun hg3 => ?y3) (fun hg3 => ?n3)
   case' y3 =>
    refine br (fun hg4 => ?y4) (fun hg4 => ?n4)
    case' y4 =>
     refine x_call T.en_55 (sameTexts_any _ _ (by assumption)) ?_
   case' n3 =>
    refine brF ?_
  case' n2 =>
   refine brF ?_
   refine brF ?_
 case' n1 =>
  refine brF ?_
  refine brF ?_
  refine brF ?_
 all_goals (refine x_ret ?_; simp only [fitsL, fits, C.asD, and_true] <;> (refine scb ?_; cases f; cases g; simp_all))
theorem fieldOwn_any (f : FieldD) (hl : f.cases.length ≤ 1000000) : Contract Try.prog 41 [fD f] [.d (fD f)] := by
 refine T.fn [] Try.func41 ?_
 first | refine x_app ?_ (by exact strs_wide) | refine x_appN ?_ (by exact strs_wide)
 all_goals (refine x_ret ?_; simp only [fitsL, fits, C.asD, and_true] <;> (rfl))
theorem refFieldRight_any (f : FieldD) (hl : f.cases.length ≤ 1000000) : Contract Try.prog 22 [fD f] [.d (.sc (.bool (rightF f)))] := by
 refine T.fn [] Try.func22 ?_
 refine x_call T.en_23 (refPlace_any _) ?_
 refine br (fun hc1 => ?y1) (fun hc1 => ?n1)
 case' n1 =>
  refine br (fun hc2 => ?y2) (fun hc2 => ?n2)
  case' y2 =>
   refine br (fun hg3 => ?y3) (fun hg3 => ?n3)
   case' y3 =>
    refine x_len ?_
    refine br (fun hg4 => ?y4) (fun hg4 => ?n4)
    case' y4 =>
     refine br (fun hg5 => ?y5) (fun hg5 => ?n5)
    case' n4 =>
     refine brF ?_
   case' n3 =>
    refine brF ?_
    refine brF ?_
  case' n2 =>
   refine br (fun hc9 => ?y9) (fun hc9 => ?n9)
   case' n9 =>
    refine br (fun hc10 => ?y10) (fun hc10 => ?n10)
    case' y10 =>
     refine xloopR (fb := []) T.ok (Nat.le_of_ble_eq_true rfl) [1] (fun (k : Nat) => [(3, .c (.d (.sc (.int .i64 (k : Nat)))))]) (fun k => k ≤ f.cases.length ∧ okC f.cases k = true) (fun k => f.cases.length - k) 0 ⟨Nat.zero_le _, okC_zero _⟩ (x_ent (by first | rfl | (simp only [Tr.get]; simp; done)) trivial) ?_
     rintro k ⟨hk, hi⟩
     refine x_len ?_
     refine br (fun hc11 => ?y11) (fun hc11 => ?n11)
     case' y11 =>
      obtain ⟨p, hp⟩ := elem_at hc11
      have hkl := lt_len hp
      have htk := take_short (k := k) hl
      refine And.intro ⟨T.mixed, by decide +kernel⟩ ?_
      first | refine x_ix (by exact mapAt hp) ?_ | refine x_ixI (by exact mapAt hp) ?_
      refine x_call T.en_27 (refName_any _) ?_
      refine br (fun hg12 => ?y12) (fun hg12 => ?n12)
      case' y12 =>
       refine brT ?_
      case' n12 =>
       first | refine x_bnd ?_ | refine x_bndI ?_
       refine x_row ?_ (by exact strs_wide) (hy := by first | exact take_fold | rfl)
       first | refine x_ix (by exact mapAt hp) ?_ | refine x_ixI (by exact mapAt hp) ?_
       refine x_call T.en_48 (refHas_any _ _ (by assumption)) ?_
       refine br (fun hc14 => ?y14) (fun hc14 => ?n14)
       case' n14 =>
        first | refine x_inc ?_ | refine x_add ?_ | refine x_bin rfl rfl ?_
        refine x_rnd (k + 1) ⟨lt_len hp, okC_next hp hi (by simp_all) (by simp_all)⟩ (by (try dsimp only); have := lt_len hp; omega) rfl (x_ent (by first | rfl | (simp only [Tr.get]; simp; done)) trivial) rfl
     case' n11 =>
      refine x_len ?_
      refine br (fun hg15 => ?y15) (fun hg15 => ?n15)
      case' y15 =>
       refine x_call T.en_48 (refHas_any _ _ (by assumption)) ?_
    case' n10 =>
     refine x_len ?_
     refine br (fun hc16 => ?y16) (fun hc16 => ?n16)
     case' n16 =>
      refine br (fun hg17 => ?y17) (fun hg17 => ?n17)
      case' y17 =>
       refine x_len ?_
       refine br (fun hg18 => ?y18) (fun hg18 => ?n18)
       case' n18 =>
        refine br (fun hg19 => ?y19) (fun hg19 => ?n19)
        case' y19 =>
         exfalso; omega
      case' n17 =>
       refine brF ?_
       refine br (fun hg21 => ?y21) (fun hg21 => ?n21)
 all_goals (refine x_ret ?_; simp only [fitsL, fits, C.asD, and_true] <;> (refine scb ?_; first | (refine (rightF_bare ?_ ?_ ?_).symm <;> omega; done) | (have hno := cases_no hp (by simp_all); simp_all [rightF]; done) | (have hC := okC_end (past_end (by assumption)) hi; clear hi; have h1 : f.deft ∈ f.cases → 0 < f.cases.length := List.length_pos_of_mem; by_cases hm : f.deft ∈ f.cases <;> simp_all [rightF, casesB] <;> omega) | (simp_all [rightF]; done) | (rw [Bool.eq_iff_iff]; simp_all [rightF, emp] <;> omega) | (rcases (show f.kind = 1 ∨ f.kind = 2 ∨ f.kind = 3 ∨ f.kind = 4 ∨ (f.kind ≠ 1 ∧ f.kind ≠ 2 ∧ f.kind ≠ 3 ∧ f.kind ≠ 4) by omega) with h | h | h | h | h <;> simp_all [rightF, emp] <;> (intros; omega)) | (simp_all [rightF, emp] <;> (intros; omega))))
end Go.Vm
end
section
namespace Go.Vm
theorem bl_irrefl : ∀ a : List UInt8, Op.bytesLess a a = false
  | [] => rfl
  | x :: l => by simp [Op.bytesLess, bl_irrefl l, UInt8.lt_irrefl]
theorem bl_trans : ∀ a b c : List UInt8, Op.bytesLess a b = true → Op.bytesLess b c = true → Op.bytesLess a c = true
  | [], _, [], h, h2 => by cases ‹List UInt8› <;> simp [Op.bytesLess] at h h2
  | [], _, _ :: _, _, _ => rfl
  | _ :: _, [], _, h, _ => by simp [Op.bytesLess] at h
  | _ :: _, _ :: _, [], _, h => by simp [Op.bytesLess] at h
  | x :: a, y :: b, z :: c, h, h2 => by
    simp only [Op.bytesLess, Bool.or_eq_true, Bool.and_eq_true, decide_eq_true_eq, beq_iff_eq] at h h2 ⊢
    rcases h with h | ⟨rfl, h⟩
    · rcases h2 with h2 | ⟨rfl, h2⟩
      · exact .inl (UInt8.lt_trans h h2)
      · exact .inl h
    · rcases h2 with h2 | ⟨rfl, h2⟩
      · exact .inl h2
      · exact .inr ⟨rfl, bl_trans a b c h h2⟩
theorem ltB_irrefl (a : ByteArray) : ltB a a = false := bl_irrefl _
theorem ltB_trans {a b c : ByteArray} (h : ltB a b = true) (h2 : ltB b c = true) : ltB a c = true := bl_trans _ _ _ h h2
theorem lessB_irrefl (r : RefD) : lessB r r = false := by simp [lessB, ltB_irrefl]
theorem lessB_iff {a b : RefD} : lessB a b = true ↔ a.scope < b.scope ∨ a.scope = b.scope ∧ (ltB a.group b.group = true ∨ a.group = b.group ∧ ltB a.name b.name = true) := by
  unfold lessB
  by_cases e1 : a.scope = b.scope
  · rw [if_neg (by simpa using e1)]
    by_cases e2 : a.group = b.group
    · rw [if_neg (by simpa using e2), e2, ltB_irrefl]; simp [e1]
    · rw [if_pos e2]; simp [e1, e2]
  · rw [if_pos e1]; simp [e1]
theorem lessB_trans {a b c : RefD} (h : lessB a b = true) (h2 : lessB b c = true) : lessB a c = true := by
  rw [lessB_iff] at *
  rcases h with h | ⟨e, h⟩
  · rcases h2 with h2 | ⟨e2, h2⟩
    · left; omega
    · left; omega
  · rcases h2 with h2 | ⟨e2, h2⟩
    · left; omega
    · right
      refine ⟨by omega, ?_⟩
      rcases h with h | ⟨g, h⟩
      · rcases h2 with h2 | ⟨g2, h2⟩
        · exact .inl (ltB_trans h h2)
        · exact .inl (g2 ▸ h)
      · rcases h2 with h2 | ⟨g2, h2⟩
        · exact .inl (g ▸ h2)
        · exact .inr ⟨g.trans g2, ltB_trans h h2⟩
def okL (l : List FieldD) : Prop := l.length ≤ 1000 ∧ ∀ f ∈ l, f.cases.length ≤ 1000000
theorem okL.at {l : List FieldD} {k : Nat} {p : FieldD} (h : okL l) (hp : l[k]? = some p) : p.cases.length ≤ 1000000 := h.2 p (List.mem_of_getElem? hp)
def okSk (l : List FieldD) (k : Nat) : Bool := (List.range k).all fun j => match l[j]? with
  | some f => rightF f && (match l[j - 1]? with | some g => decide (j = 0) || lessB g.at_ f.at_ | none => true)
  | none => true
def rightS (l : List FieldD) : Bool := decide (l.length ≤ 16) && okSk l l.length
theorem okSk_zero (l : List FieldD) : okSk l 0 = true := rfl
theorem okSk_first {l : List FieldD} {p : FieldD} (hp : l[0]? = some p) (h : okSk l 0 = true) (h1 : rightF p = true) : okSk l (0 + 1) = true := by
  unfold okSk at *
  rw [List.range_succ, List.all_append, h]
  simp [hp, h1]
theorem okSk_next {l : List FieldD} {k : Nat} {p q : FieldD} (hp : l[k]? = some p) (hq : l[k - 1]? = some q) (h : okSk l k = true) (h1 : rightF p = true) (h2 : lessB q.at_ p.at_ = true) : okSk l (k + 1) = true := by
  unfold okSk at *
  rw [List.range_succ, List.all_append, h]
  simp [hp, hq, h1, h2]
theorem rightS_no {l : List FieldD} {k : Nat} {p : FieldD} (hp : l[k]? = some p) (h : rightF p = false) : rightS l = false := by
  unfold rightS okSk
  rw [Bool.and_eq_false_iff]
  right
  rw [List.all_eq_false]
  exact ⟨k, List.mem_range.2 (lt_len hp), by simp [hp, h]⟩
theorem rightS_un {l : List FieldD} {k : Nat} {p q : FieldD} (hp : l[k]? = some p) (hq : l[k - 1]? = some q) (h0 : ¬ k = 0) (h : lessB q.at_ p.at_ = false) : rightS l = false := by
  unfold rightS okSk
  rw [Bool.and_eq_false_iff]
  right
  rw [List.all_eq_false]
  exact ⟨k, List.mem_range.2 (lt_len hp), by simp [hp, hq, h, h0]⟩
theorem rightS_yes {l : List FieldD} {k : Nat} (h1 : l.length ≤ 16) (hk : l.length ≤ k) (h : okSk l k = true) : rightS l = true := by
  unfold rightS
  rw [decide_eq_true h1, Bool.true_and]
  unfold okSk at *
  rw [List.all_eq_true] at *
  intro j hj
  exact h j (List.mem_range.2 (by have := List.mem_range.1 hj; omega))
theorem rightS_long {l : List FieldD} (h : 16 < l.length) : rightS l = false := by unfold rightS; rw [decide_eq_false (by omega)]; rfl
theorem prev_at {α : Type} {l : List α} {k : Nat} {p : α} (hp : l[k]? = some p) : ∃ q, l[k - 1]? = some q := ⟨_, List.getElem?_eq_getElem (by have := lt_len hp; omega)⟩
theorem map_prev' {α : Type} {f : α → D} {l : List α} {k : Nat} {q : α} (h : l[k - 1]? = some q) (h0 : 0 < k) : (l.map f)[(((k : Nat) : Int) - 1).toNat]? = some (f q) := by
  rw [show (((k : Nat) : Int) - 1).toNat = k - 1 by omega, List.getElem?_map, h]; rfl
theorem rightS_len {l : List FieldD} (h : rightS l = true) : l.length ≤ 16 := by
  unfold rightS at h; simp only [Bool.and_eq_true, decide_eq_true_eq] at h; exact h.1
theorem rightS_at {l : List FieldD} {k : Nat} {p : FieldD} (h : rightS l = true) (hp : l[k]? = some p) : rightF p = true := by
  unfold rightS okSk at h
  simp only [Bool.and_eq_true, decide_eq_true_eq, List.all_eq_true] at h
  have := h.2 k (List.mem_range.2 (lt_len hp))
  rw [hp] at this
  simp only [Bool.and_eq_true] at this
  exact this.1
theorem rightS_adj {l : List FieldD} {k : Nat} {p q : FieldD} (h : rightS l = true) (hp : l[k]? = some p) (hq : l[k + 1]? = some q) : lessB p.at_ q.at_ = true := by
  unfold rightS okSk at h
  simp only [Bool.and_eq_true, decide_eq_true_eq, List.all_eq_true] at h
  have := h.2 (k + 1) (List.mem_range.2 (lt_len hq))
  rw [hq] at this
  simp only [Bool.and_eq_true, Nat.add_sub_cancel, hp, Nat.add_eq_zero_iff, Nat.one_ne_zero, and_false, decide_false, Bool.false_or] at this
  exact this.2
theorem rightS_lt {l : List FieldD} (h : rightS l = true) : ∀ (d i : Nat) {p q : FieldD}, l[i]? = some p → l[i + d + 1]? = some q → lessB p.at_ q.at_ = true
  | 0, i, p, q, hp, hq => rightS_adj h hp hq
  | d + 1, i, p, q, hp, hq => by
    have hlt := lt_len hq
    obtain ⟨r, hr⟩ : ∃ r, l[i + d + 1]? = some r := ⟨_, List.getElem?_eq_getElem (by omega)⟩
    exact lessB_trans (rightS_lt h d i hp hr) (rightS_adj h hr (by rw [show i + d + 1 + 1 = i + (d + 1) + 1 by omega]; exact hq))
theorem rightS_uniq {l : List FieldD} (h : rightS l = true) {i j : Nat} {p q : FieldD} (hp : l[i]? = some p) (hq : l[j]? = some q) (e : p.at_ = q.at_) : i = j := by
  rcases Nat.lt_trichotomy i j with hlt | rfl | hlt
  · have := rightS_lt h (j - i - 1) i hp (by rw [show i + (j - i - 1) + 1 = j by omega]; exact hq)
    rw [e, lessB_irrefl] at this; cases this
  · rfl
  · have := rightS_lt h (i - j - 1) j hq (by rw [show j + (i - j - 1) + 1 = i by omega]; exact hp)
    rw [e, lessB_irrefl] at this; cases this
def indexS (l : List FieldD) (r : RefD) : Int := if (l.findIdx fun f => decide (f.at_ = r)) < l.length then ((l.findIdx fun f => decide (f.at_ = r) : Nat) : Int) else -1
theorem indexS_hit {l : List FieldD} {r : RefD} {k : Nat} {p : FieldD} (hp : l[k]? = some p) (h : ∀ j q, j < k → l[j]? = some q → ¬ q.at_ = r) (hn : p.at_ = r) : indexS l r = (k : Int) := by
  obtain ⟨hlt, hpe⟩ := List.getElem?_eq_some_iff.1 hp
  have e : l.findIdx (fun f => decide (f.at_ = r)) = k := by
    rw [List.findIdx_eq hlt]
    refine ⟨by simp [hpe, hn], fun j hj => ?_⟩
    simp only [decide_eq_false_iff_not]
    exact h j _ hj (List.getElem?_eq_getElem (by omega))
  unfold indexS
  rw [e, if_pos hlt]
theorem indexS_miss {l : List FieldD} {r : RefD} {k : Nat} (hk : l.length ≤ k) (h : ∀ j q, j < k → l[j]? = some q → ¬ q.at_ = r) : indexS l r = -1 := by
  unfold indexS
  rw [if_neg]
  intro hlt
  have h1 := List.findIdx_getElem (w := hlt)
  exact h _ _ (by omega) (List.getElem?_eq_getElem hlt) (of_decide_eq_true h1)
theorem none_next {l : List FieldD} {r : RefD} {k : Nat} {p : FieldD} (hp : l[k]? = some p) (h : ∀ j q, j < k → l[j]? = some q → ¬ q.at_ = r) (hn : ¬ p.at_ = r) : ∀ j q, j < k + 1 → l[j]? = some q → ¬ q.at_ = r := by
  intro j q hj hq
  by_cases e : j = k
  · subst e; rw [hp] at hq; injection hq with hq; subst hq; exact hn
  · exact h j q (by omega) hq
theorem indexS_cases (l : List FieldD) (r : RefD) : (indexS l r = -1 ∧ ∀ (j : Nat) (q : FieldD), l[j]? = some q → ¬ q.at_ = r) ∨ ∃ (k : Nat) (p : FieldD), indexS l r = (k : Int) ∧ l[k]? = some p ∧ p.at_ = r ∧ ∀ (j : Nat) (q : FieldD), j < k → l[j]? = some q → ¬ q.at_ = r := by
  unfold indexS
  by_cases h : (l.findIdx fun f => decide (f.at_ = r)) < l.length
  · right
    rw [if_pos h]
    refine ⟨_, _, rfl, List.getElem?_eq_getElem h, of_decide_eq_true (List.findIdx_getElem (w := h)), fun j q hj hq => ?_⟩
    have := List.not_of_lt_findIdx hj
    obtain ⟨hlt, rfl⟩ := List.getElem?_eq_some_iff.1 hq
    simpa using this
  · left
    rw [if_neg h]
    refine ⟨rfl, fun j q hq e => h ?_⟩
    obtain ⟨hlt, rfl⟩ := List.getElem?_eq_some_iff.1 hq
    exact List.findIdx_lt_length_of_exists ⟨_, List.getElem_mem hlt, by simpa using e⟩
def fieldAt (l : List FieldD) (r : RefD) : FieldD := match l[(indexS l r).toNat]? with
  | some f => f
  | none => noField
def findS (l : List FieldD) (r : RefD) : FieldD × Int := if indexS l r < 0 then (noField, 6) else (fieldAt l r, 0)
def insF (l : List FieldD) (f : FieldD) : List FieldD := (l.takeWhile fun g => lessB g.at_ f.at_) ++ f :: (l.dropWhile fun g => lessB g.at_ f.at_)
def withS (l : List FieldD) (f : FieldD) : List FieldD × Int :=
  if (rightS l && rightF f) = false then ([], 5) else if 0 ≤ indexS l f.at_ then ([], 7) else if 16 ≤ l.length then ([], 14) else (insF l f, 0)
def delF (l : List FieldD) (r : RefD) : List FieldD := l.filter fun f => !decide (f.at_ = r)
def withoutS (l : List FieldD) (r : RefD) : List FieldD × Int := if rightS l = false then ([], 5) else if indexS l r < 0 then ([], 6) else (delF l r, 0)
theorem ins_at {l : List FieldD} {f : FieldD} {k : Nat} (h1 : ∀ j q, j < k → l[j]? = some q → lessB q.at_ f.at_ = true) (h2 : l.length ≤ k ∨ ∃ q, l[k]? = some q ∧ lessB q.at_ f.at_ = false) : insF l f = l.take k ++ f :: l.drop k := by
  have key : ∀ (l : List FieldD) (k : Nat), (∀ j q, j < k → l[j]? = some q → lessB q.at_ f.at_ = true) → (l.length ≤ k ∨ ∃ q, l[k]? = some q ∧ lessB q.at_ f.at_ = false) → (l.takeWhile fun g => lessB g.at_ f.at_) = l.take k ∧ (l.dropWhile fun g => lessB g.at_ f.at_) = l.drop k := by
    intro l
    induction l with
    | nil => intro k _ _; simp
    | cons x l ih =>
      intro k h1 h2
      cases k with
      | zero =>
        rcases h2 with h2 | ⟨q, hq, h2⟩
        · simp at h2
        · simp at hq; subst hq; simp [h2]
      | succ k =>
        have hx := h1 0 x (by omega) rfl
        obtain ⟨e1, e2⟩ := ih k (fun j q hj hq => h1 (j + 1) q (by omega) (by simpa using hq)) (by
          rcases h2 with h2 | ⟨q, hq, h2⟩
          · left; simp at h2; omega
          · right; exact ⟨q, by simpa using hq, h2⟩)
        simp [hx, e1, e2]
  unfold insF
  rw [(key l k h1 h2).1, (key l k h1 h2).2]
end Go.Vm
end
section
namespace Go.Vm
theorem rightS_iff {l : List FieldD} : rightS l = true ↔ l.length ≤ 16 ∧ (∀ f ∈ l, rightF f = true) ∧ l.Pairwise fun a b => lessB a.at_ b.at_ = true := by
  constructor
  · intro h
    refine ⟨rightS_len h, fun f hf => ?_, ?_⟩
    · obtain ⟨i, hi, rfl⟩ := List.getElem_of_mem hf
      exact rightS_at h (List.getElem?_eq_getElem hi)
    · rw [List.pairwise_iff_getElem]
      intro i j hi hj hij
      exact rightS_lt h (j - i - 1) i (List.getElem?_eq_getElem hi) (by rw [show i + (j - i - 1) + 1 = j by omega]; exact List.getElem?_eq_getElem hj)
  · rintro ⟨h1, h2, h3⟩
    refine rightS_yes h1 (Nat.le_refl _) ?_
    unfold okSk
    rw [List.all_eq_true]
    intro j hj
    have hj := List.mem_range.1 hj
    rw [List.getElem?_eq_getElem hj, List.getElem?_eq_getElem (show j - 1 < l.length by omega)]
    simp only [Bool.and_eq_true]
    refine ⟨h2 _ (List.getElem_mem hj), ?_⟩
    by_cases e : j = 0
    · simp [e]
    · rw [List.pairwise_iff_getElem] at h3
      rw [h3 (j - 1) j (by omega) hj (by omega), Bool.or_true]
theorem rightS_del {l : List FieldD} (h : rightS l = true) (r : RefD) : rightS (delF l r) = true := by
  rw [rightS_iff] at *
  exact ⟨Nat.le_trans (List.length_filter_le ..) h.1, fun f hf => h.2.1 f (List.mem_filter.1 hf).1, h.2.2.filter _⟩
theorem mem_insF {l : List FieldD} {f g : FieldD} : g ∈ insF l f ↔ g = f ∨ g ∈ l := by
  have e : l.takeWhile (fun g => lessB g.at_ f.at_) ++ l.dropWhile (fun g => lessB g.at_ f.at_) = l := List.takeWhile_append_dropWhile
  unfold insF
  rw [List.mem_append, List.mem_cons]
  conv => rhs; rw [← e, List.mem_append]
  constructor <;> rintro (h | h | h) <;> simp [h]
theorem length_insF {l : List FieldD} {f : FieldD} : (insF l f).length = l.length + 1 := by
  have e : (l.takeWhile (fun g => lessB g.at_ f.at_) ++ l.dropWhile (fun g => lessB g.at_ f.at_)).length = l.length := by rw [List.takeWhile_append_dropWhile]
  unfold insF
  rw [List.length_append] at e ⊢
  rw [List.length_cons]; omega
theorem index_neg {l : List FieldD} {r : RefD} : indexS l r < 0 ↔ ∀ f ∈ l, f.at_ ≠ r := by
  rcases indexS_cases l r with ⟨h, h2⟩ | ⟨k, p, h, hp, e, _⟩
  · refine ⟨fun _ f hf => ?_, fun _ => by omega⟩
    obtain ⟨i, hi, rfl⟩ := List.getElem_of_mem hf
    exact h2 i _ (List.getElem?_eq_getElem hi)
  · exact ⟨fun h' => by omega, fun h' => absurd e (h' p (List.mem_of_getElem? hp))⟩
theorem index_pos {l : List FieldD} {r : RefD} : 0 ≤ indexS l r ↔ ∃ f ∈ l, f.at_ = r := by
  have := @index_neg l r
  constructor
  · intro h
    rcases indexS_cases l r with ⟨h', _⟩ | ⟨k, p, _, hp, e, _⟩
    · omega
    · exact ⟨p, List.mem_of_getElem? hp, e⟩
  · rintro ⟨f, hf, e⟩
    by_cases hn : indexS l r < 0
    · exact absurd e (this.1 hn f hf)
    · omega
theorem fieldAt_spec {l : List FieldD} {r : RefD} (h : ¬ indexS l r < 0) : fieldAt l r ∈ l ∧ (fieldAt l r).at_ = r := by
  rcases indexS_cases l r with ⟨h', _⟩ | ⟨k, p, h', hp, e, _⟩
  · omega
  · unfold fieldAt; rw [h', Int.toNat_natCast, hp]; exact ⟨List.mem_of_getElem? hp, e⟩
def caseT (t : List (ByteArray × ByteArray)) (s : ByteArray) : ByteArray × Bool := match t.find? fun p => decide (p.1 = s) with
  | some p => (p.2, true)
  | none => (noB, false)
def froms (t : List (ByteArray × ByteArray)) : List ByteArray := t.map (·.1)
theorem caseT_some {t : List (ByteArray × ByteArray)} {s : ByteArray} : (caseT t s).2 = decide (s ∈ froms t) := by
  unfold caseT froms
  cases h : t.find? fun p => decide (p.1 = s) with
  | none =>
    rw [List.find?_eq_none] at h
    symm
    simp only [decide_eq_false_iff_not, List.mem_map, not_exists, not_and]
    intro p hp e
    exact h p hp (by simpa using e)
  | some p =>
    have h1 := List.find?_some h
    have h2 := List.mem_of_find?_eq_some h
    symm
    simp only [decide_eq_true_eq] at h1
    rw [decide_eq_true_eq, ← h1]
    exact List.mem_map.2 ⟨p, h2, rfl⟩
def okT (t o : List (ByteArray × ByteArray)) (k : Nat) : Bool := (List.range k).all fun j => match t[j]? with
  | some p => nameB p.1 && !decide (p.1 ∈ froms (t.take j)) && decide (p.2 ∈ froms o)
  | none => true
def rightT (t o : List (ByteArray × ByteArray)) : Bool := decide (1 ≤ t.length) && decide (t.length ≤ 6) && okT t o t.length
theorem okT_zero (t o : List (ByteArray × ByteArray)) : okT t o 0 = true := rfl
theorem okT_next {t o : List (ByteArray × ByteArray)} {k : Nat} {p : ByteArray × ByteArray} (hp : t[k]? = some p) (h : okT t o k = true) (h1 : nameB p.1 = true) (h2 : ¬ p.1 ∈ froms (t.take k)) (h3 : p.2 ∈ froms o) : okT t o (k + 1) = true := by
  unfold okT at *
  rw [List.range_succ, List.all_append, h]
  simp [hp, h1, h2, h3]
theorem rightT_no {t o : List (ByteArray × ByteArray)} {k : Nat} {p : ByteArray × ByteArray} (hp : t[k]? = some p) (h : (nameB p.1 && !decide (p.1 ∈ froms (t.take k)) && decide (p.2 ∈ froms o)) = false) : rightT t o = false := by
  unfold rightT okT
  rw [Bool.and_eq_false_iff]
  right
  rw [List.all_eq_false]
  exact ⟨k, List.mem_range.2 (lt_len hp), by simp only [hp, h]; simp⟩
theorem rightT_yes {t o : List (ByteArray × ByteArray)} {k : Nat} (h1 : 1 ≤ t.length) (h2 : t.length ≤ 6) (hk : t.length ≤ k) (h : okT t o k = true) : rightT t o = true := by
  unfold rightT
  rw [decide_eq_true h1, decide_eq_true h2, Bool.true_and, Bool.true_and]
  unfold okT at *
  rw [List.all_eq_true] at *
  intro j hj
  exact h j (List.mem_range.2 (by have := List.mem_range.1 hj; omega))
theorem rightT_short {t o : List (ByteArray × ByteArray)} (h : t.length < 1) : rightT t o = false := by unfold rightT; rw [decide_eq_false (by omega)]; rfl
theorem rightT_long {t o : List (ByteArray × ByteArray)} (h : 6 < t.length) : rightT t o = false := by unfold rightT; rw [decide_eq_false (show ¬ t.length ≤ 6 by omega), Bool.and_false]; rfl
theorem rightT_name {t o : List (ByteArray × ByteArray)} {s : ByteArray} (h : rightT t o = true) (hs : (caseT t s).2 = true) : nameB s = true := by
  rw [caseT_some, decide_eq_true_eq] at hs
  obtain ⟨p, hp, rfl⟩ := List.mem_map.1 hs
  obtain ⟨i, hi, rfl⟩ := List.getElem_of_mem hp
  unfold rightT okT at h
  simp only [Bool.and_eq_true, List.all_eq_true] at h
  have := h.2 i (List.mem_range.2 hi)
  rw [List.getElem?_eq_getElem hi] at this
  simp only [Bool.and_eq_true] at this
  exact this.1.1
def rightL (x : LensD) : Bool :=
  if x.kind = 2 ∨ x.kind = 3 then decide (x.at_ = noRef) && decide (x.name = noB) && decide (x.other = noB) && decide (x.factor = 0) && decide (x.forth.length = 0) && decide (x.back.length = 0) && rightF x.field
  else placeB x.at_ && decide (x.field = noField) &&
    (if x.kind = 8 then decide (x.factor = 0) && rightT x.forth x.back && rightT x.back x.forth && decide (caseT x.forth x.name = (x.other, true)) && decide (caseT x.back x.other = (x.name, true))
     else decide (x.forth.length = 0) && decide (x.back.length = 0) &&
      (if x.kind = 6 ∨ x.kind = 9 then nameB x.name && nameB x.other && !decide (x.name = x.other) && decide (2 ≤ x.factor) && decide (x.factor ≤ 1000)
       else decide (x.factor = 0) &&
        (if x.kind = 7 ∨ x.kind = 10 then decide (x.name = noB) && decide (x.other.size ≤ 40)
         else decide (x.other = noB) && (if x.kind = 1 then nameB x.name else if x.kind = 4 then decide (x.name = noB) && !decide (x.at_.group = noB) else if x.kind = 5 then decide (x.at_.group = noB) && nameB x.name else false))))
def named (r : RefD) (s : ByteArray) : RefD := ⟨r.scope, r.group, s⟩
def goesL (x : LensD) : List RefD := if x.kind = 2 then [] else if x.kind = 3 then [x.field.at_] else if x.kind = 9 then [named x.at_ x.name, named x.at_ x.other] else [x.at_]
def comesL (x : LensD) : List RefD := if x.kind = 2 then [x.field.at_] else if x.kind = 3 then [] else if x.kind = 6 then [named x.at_ x.name, named x.at_ x.other] else if x.kind = 1 then [named x.at_ x.name]
  else if x.kind = 4 then [⟨x.at_.scope, noB, x.at_.name⟩] else if x.kind = 5 then [⟨x.at_.scope, x.name, x.at_.name⟩] else [x.at_]
def newsL (l : List FieldD) (x : LensD) : Option (List FieldD) :=
  if x.kind = 2 then some [x.field]
  else if x.kind = 3 then (if fieldAt l x.field.at_ = x.field then some [] else none)
  else if x.kind = 9 then (if (fieldAt l (named x.at_ x.name)).kind = 1 ∧ (fieldAt l (named x.at_ x.other)).kind = 1 ∧ (fieldAt l (named x.at_ x.other)).worth = (fieldAt l (named x.at_ x.name)).worth * x.factor then some [⟨x.at_, 1, noB, [], (fieldAt l (named x.at_ x.name)).worth⟩] else none)
  else if x.kind = 6 then (if (fieldAt l x.at_).kind = 1 then some [⟨named x.at_ x.name, 1, noB, [], (fieldAt l x.at_).worth⟩, ⟨named x.at_ x.other, 1, noB, [], (fieldAt l x.at_).worth * x.factor⟩] else none)
  else if x.kind = 7 then (if (fieldAt l x.at_).kind = 2 ∧ (fieldAt l x.at_).deft = x.other then some [⟨x.at_, 4, noB, [], 0⟩] else none)
  else if x.kind = 10 then (if (fieldAt l x.at_).kind = 4 then some [⟨x.at_, 2, x.other, [], 0⟩] else none)
  else if x.kind = 8 then (if fieldAt l x.at_ = ⟨x.at_, 3, x.name, froms x.forth, 0⟩ then some [⟨x.at_, 3, x.other, froms x.back, 0⟩] else none)
  else some (match comesL x with | [] => [] | c :: _ => [⟨c, (fieldAt l x.at_).kind, (fieldAt l x.at_).deft, (fieldAt l x.at_).cases, (fieldAt l x.at_).worth⟩])
def withAll : List FieldD → List FieldD → List FieldD × Int
  | l, [] => (l, 0)
  | l, f :: fs => if (withS l f).2 = 0 then withAll (withS l f).1 fs else ([], 16)
def delAll (l : List FieldD) (rs : List RefD) : List FieldD := rs.foldl delF l
def applyS (l : List FieldD) (x : LensD) : List FieldD × Int :=
  if (rightS l && rightL x) = false then ([], 5)
  else if (goesL x).any (fun g => decide (indexS l g < 0)) then ([], 16)
  else match newsL l x with
    | none => ([], 16)
    | some fs => withAll (delAll l (goesL x)) fs
end Go.Vm
end
section
namespace Go.Vm
open Go.RowKit Go.Proofs
set_option maxRecDepth 10000
theorem take_next {α : Type} {l : List α} {k : Nat} {p : α} (hp : l[k]? = some p) : l.take (k + 1) = l.take k ++ [p] := by rw [List.take_add_one, hp]; rfl
theorem snoc_map {α β : Type} {g : α → β} {A : List α} {x : α} : A.map g ++ [g x] = (A ++ [x]).map g := by simp
theorem one_map {α β : Type} {g : α → β} {x : α} : [g x] = [x].map g := rfl
theorem fD_wide {f : FieldD} : ∀ x ∈ [fD f], x.cells.length = 7 := by intro x hx; rw [List.mem_singleton.1 hx]; rfl
theorem filter_next {l : List FieldD} {r : RefD} {k : Nat} {p : FieldD} (hp : l[k]? = some p) : delF (l.take (k + 1)) r = delF (l.take k) r ++ (if p.at_ = r then [] else [p]) := by
  unfold delF
  rw [take_next hp, List.filter_append]
  by_cases e : p.at_ = r <;> simp [e]
theorem length_take_le {α : Type} {l : List α} {k n : Nat} (h : l.length ≤ n) : (l.take k).length ≤ n := by rw [List.length_take]; omega
theorem length_del_le {l : List FieldD} {r : RefD} {k n : Nat} (h : l.length ≤ n) : (delF (l.take k) r).length ≤ n := by
  have := List.length_filter_le (fun f => !decide (f.at_ = r)) (l.take k)
  have h2 := length_take_le (k := k) h
  unfold delF; omega
theorem find_no {l : List FieldD} {r : RefD} (h : indexS l r < 0) : findS l r = (noField, 6) := by unfold findS; rw [if_pos h]
theorem find_yes {l : List FieldD} {r : RefD} (h : ¬ indexS l r < 0) : findS l r = (fieldAt l r, 0) := by unfold findS; rw [if_neg h]
theorem fieldAt_ix {l : List FieldD} {r : RefD} (h : ¬ indexS l r < 0) : (l.map fD)[(indexS l r).toNat]? = some (fD (fieldAt l r)) := by
  rcases indexS_cases l r with ⟨h', _⟩ | ⟨k, p, h', hp, e, _⟩
  · omega
  · unfold fieldAt; rw [h', Int.toNat_natCast, hp, List.getElem?_map, hp]; rfl
theorem fieldAt_ok {l : List FieldD} {r : RefD} (ho : okL l) (h : ¬ indexS l r < 0) : (fieldAt l r).cases.length ≤ 1000000 := ho.2 _ (fieldAt_spec h).1
theorem index_bound {l : List FieldD} {r : RefD} : indexS l r < l.length := by
  rcases indexS_cases l r with ⟨h', _⟩ | ⟨k, p, h', hp, e, _⟩
  · omega
  · have := lt_len hp; omega
theorem pr_add1 {P : Program} {t : TypeId} {x y : Operand} {n : Nat} (h : n + 1 ≤ 9223372036854775807) : pureRun P (do eqGuard .add t x y (.int .i64 (n : Int)) (.int .i64 1); binOp .add t (.int .i64 (n : Int)) (.int .i64 1) : Sem Value) = some (.int .i64 ((n + 1 : Nat) : Int)) := pr_add (wrap64 _ (by omega))
theorem pr_sub1 {P : Program} {t : TypeId} {x y : Operand} {n : Nat} (h : 1 ≤ n) (h2 : n ≤ 9223372036854775807) : pureRun P (do eqGuard .sub t x y (.int .i64 (n : Int)) (.int .i64 1); binOp .sub t (.int .i64 (n : Int)) (.int .i64 1) : Sem Value) = some (.int .i64 ((n - 1 : Nat) : Int)) := pr_sub (by rw [wrap64 _ (by omega)]; omega)
theorem gone_iff {l : List FieldD} {r : RefD} (hr : rightS l = true) (h : ¬ indexS l r < 0) {k : Nat} {p : FieldD} (hp : l[k]? = some p) : (((k : Nat) : Int) = indexS l r) ↔ p.at_ = r := by
  rcases indexS_cases l r with ⟨h', _⟩ | ⟨j, q, h', hq, e, _⟩
  · omega
  · rw [h']
    constructor
    · intro h; obtain rfl : k = j := by omega
      rw [hp] at hq; injection hq with hq; rw [hq]; exact e
    · intro h; have := rightS_uniq hr hp hq (h.trans e.symm); omega
theorem row_inj {a b : List D} (h : a = b) : D.row a = D.row b := by rw [h]
theorem schemaRight_any (l : List FieldD) (ho : okL l) : Contract Try.prog 42 [.row (l.map fD)] [.d (.sc (.bool (rightS l)))] := by
 refine T.fn [] Try.func42 ?_
 refine x_len ?_
 refine br (fun hc1 => ?y1) (fun hc1 => ?n1)
 case' n1 =>
  have h16 : l.length ≤ 16 := by omega
  refine x_len ?_
  refine xloopR (fb := []) T.ok (Nat.le_of_ble_eq_true rfl) [0, 8, 9] (fun (k : Nat) => [(10, .c (.d (.sc (.int .i64 (k : Nat)))))]) (fun k => k ≤ l.length ∧ okSk l k = true ∧ l.length ≤ 16) (fun k => l.length - k) 0 ⟨Nat.zero_le _, ⟨okSk_zero l, h16⟩⟩ (x_ent (by first | rfl | (simp only [Tr.get]; simp; done)) trivial) ?_
  rintro k ⟨hk, hi⟩
  refine br (fun hc2 => ?y2) (fun hc2 => ?n2)
  case' y2 =>
   obtain ⟨p, hp⟩ := elem_at hc2
   have hkl := lt_len hp
   obtain ⟨q, hq⟩ := prev_at hp
   have hok := ho.at hp
   first | refine x_ix (by first | exact mapAt hp | exact map_prev' hq (by omega)) ?_ | refine x_ixI (by first | exact mapAt hp | exact map_prev' hq (by omega)) ?_
   refine x_call T.en_29 (fieldRight_any p hok) ?_
   refine br (fun hc3 => ?y3) (fun hc3 => ?n3)
   case' n3 =>
    refine And.intro ⟨T.mixed, by decide +kernel⟩ ?_
    refine br (fun hg4 => ?y4) (fun hg4 => ?n4)
    case' y4 =>
     have hk0 : 0 < k := by omega
     first | refine x_sub ?_ | refine x_bin rfl rfl ?_
     first | refine x_ix (by first | exact mapAt hp | exact map_prev' hq (by omega)) ?_ | refine x_ixI (by first | exact mapAt hp | exact map_prev' hq (by omega)) ?_
     refine x_call T.en_56 (less_any _ _) ?_
     refine br (fun hc5 => ?y5) (fun hc5 => ?n5)
     case' n5 =>
      first | refine x_inc ?_ | refine x_add ?_ | refine x_bin rfl rfl ?_
      refine x_rnd (k + 1) ⟨lt_len hp, (by first | (refine okSk_next hp hq hi.1 ?_ ?_ <;> simp_all; done) | (have h0 : k = 0 := (by omega); subst h0; exact okSk_first hp hi.1 (by simp_all))), hi.2⟩ (by (try dsimp only); have := lt_len hp; omega) rfl (x_ent (by first | rfl | (simp only [Tr.get]; simp; done)) trivial) rfl
    case' n4 =>
     refine brF ?_
     first | refine x_inc ?_ | refine x_add ?_ | refine x_bin rfl rfl ?_
     refine x_rnd (k + 1) ⟨lt_len hp, (by first | (refine okSk_next hp hq hi.1 ?_ ?_ <;> simp_all; done) | (have h0 : k = 0 := (by omega); subst h0; exact okSk_first hp hi.1 (by simp_all))), hi.2⟩ (by (try dsimp only); have := lt_len hp; omega) rfl (x_ent (by first | rfl | (simp only [Tr.get]; simp; done)) trivial) rfl
 all_goals (refine x_ret ?_; simp only [fitsL, fits, C.asD, and_true] <;> (refine scb ?_; first | (refine (rightS_long ?_).symm; omega; done) | (refine (rightS_no hp ?_).symm; simp_all; done) | (refine (rightS_un hp hq ?_ ?_).symm <;> first | omega | (simp_all; done)) | exact (rightS_yes hi.2 (past_end (by assumption)) hi.1).symm))
theorem schemaIndex_any (l : List FieldD) (r : RefD) (hl : l.length ≤ 1000) : Contract Try.prog 47 [.row (l.map fD), rD r] [.d (.sc (.int .i64 (indexS l r)))] := by
 refine T.fn [] Try.func47 ?_
 refine x_len ?_
 refine xloopR (fb := []) T.ok (Nat.le_of_ble_eq_true rfl) [3, 7, 8] (fun (k : Nat) => [(9, .c (.d (.sc (.int .i64 (k : Nat)))))]) (fun k => k ≤ l.length ∧ ∀ j q, j < k → l[j]? = some q → ¬ q.at_ = r) (fun k => l.length - k) 0 ⟨Nat.zero_le _, fun j q hj => absurd hj (Nat.not_lt_zero _)⟩ (x_ent (by first | rfl | (simp only [Tr.get]; simp; done)) trivial) ?_
 rintro k ⟨hk, hi⟩
 refine br (fun hc1 => ?y1) (fun hc1 => ?n1)
 case' y1 =>
  obtain ⟨p, hp⟩ := elem_at hc1
  have hkl := lt_len hp
  first | refine x_ix (by exact mapAt hp) ?_ | refine x_ixI (by exact mapAt hp) ?_
  first | refine xeq_23e _ _ ?_ | refine xeq_23e _ noRef ?_ | refine xeq_23e noRef _ ?_
  refine br (fun hc2 => ?y2) (fun hc2 => ?n2)
  case' n2 =>
   first | refine x_inc ?_ | refine x_add ?_ | refine x_bin rfl rfl ?_
   refine x_rnd (k + 1) ⟨lt_len hp, none_next hp hi (by assumption)⟩ (by (try dsimp only); have := lt_len hp; omega) rfl (x_ent (by first | rfl | (simp only [Tr.get]; simp; done)) trivial) rfl
 all_goals (refine x_ret ?_; simp only [fitsL, fits, C.asD, and_true] <;> (first | (rw [indexS_hit hp hi (by assumption)]) | (rw [indexS_miss (past_end (by assumption)) hi])))
end Go.Vm
end
section
namespace Go.Vm
open Go.RowKit Go.Proofs
set_option maxRecDepth 10000
theorem schemaOwn_any (l : List FieldD) (ho : okL l) : Contract Try.prog 44 [.row (l.map fD)] [.d (.row (l.map fD))] := by
 refine T.fn [] Try.func44 ?_
 have hl0 := ho.1
 refine x_len ?_
 refine x_make ?_
 refine x_len ?_
 refine xloopR (fb := []) T.ok (Nat.le_of_ble_eq_true rfl) [9, 10] (fun (s : Nat × Nat × List FieldD) => [(11, .c (.d (.sc (.int .i64 ((s.1 : Nat) : Int))))), (3, .c (.own 8 26 (s.2.2.map fD)))]) (fun s => s.1 ≤ l.length ∧ s.2.2 = l.take s.1 ∧ True) (fun s => l.length - s.1) (0, 8, []) ⟨Nat.zero_le _, rfl, trivial⟩ (x_ent (by first | rfl | (simp only [Tr.get]; simp; done)) (x_ent (by first | rfl | (simp only [Tr.get]; simp; done)) trivial)) ?_
 rintro s ⟨hk, hA, hi⟩
 have hAl : s.2.2.length ≤ 1000 := by rw [hA]; exact length_take_le ho.1
 refine br (fun hc1 => ?y1) (fun hc1 => ?n1)
 case' y1 =>
  obtain ⟨p, hp⟩ := elem_at hc1
  have hkl := lt_len hp
  have hok := ho.at hp
  first | refine x_ix (by exact mapAt hp) ?_ | refine x_ixI (by exact mapAt hp) ?_
  refine x_call T.en_41 (fieldOwn_any _ (by assumption)) ?_
  first | refine x_app ?_ (by first | exact strs_wide | exact fD_wide | (simp [D.cells])) (hz := by first | exact snoc_map | exact one_map | rfl) | refine x_appN ?_ (by first | exact strs_wide | exact fD_wide | (simp [D.cells]))
  first | refine x_bin (pr_add1 (by omega)) rfl ?_ | refine x_inc ?_ | refine x_add ?_ | refine x_bin rfl rfl ?_
  refine x_rnd (s.1 + 1, 0, s.2.2 ++ [p]) ⟨lt_len hp, by rw [hA]; exact (take_next hp).symm, trivial⟩ (by (try dsimp only); have := lt_len hp; (try dsimp only); omega) rfl (x_ent (by first | rfl | (simp only [Tr.get]; simp; done)) (x_ent (by first | rfl | (simp only [Tr.get]; simp; done)) trivial)) rfl
 all_goals (refine x_ret ?_; simp only [fitsL, fits, C.asD, and_true] <;> (refine row_inj ?_; rw [hA, List.take_of_length_le (past_end (by assumption))]))
theorem schemaFind_any (l : List FieldD) (r : RefD) (ho : okL l) : Contract Try.prog 18 [.row (l.map fD), rD r] [.d (fD (findS l r).1), .d (.sc (.int .i64 (findS l r).2))] := by
 refine T.fn [] Try.func18 ?_
 refine x_call T.en_47 (schemaIndex_any _ _ (by first | assumption | exact ho.1)) ?_
 refine br (fun hc1 => ?y1) (fun hc1 => ?n1)
 case' y1 =>
  have hy := hc1
 case' n1 =>
  have hn := hc1
  have hib := index_bound (l := l) (r := r)
  have hi0 : 0 ≤ indexS l r := by omega
  first | refine x_ix (by exact fieldAt_ix (by assumption)) ?_ | refine x_ixI (by exact fieldAt_ix (by assumption)) ?_
  refine x_call T.en_41 (fieldOwn_any (fieldAt l r) (fieldAt_ok ho hn)) ?_
 all_goals (refine x_ret ?_; simp only [fitsL, fits, C.asD, and_true] <;> (first | (rw [find_no hy]; exact ⟨rfl, rfl⟩) | (rw [find_yes hn]; exact ⟨rfl, rfl⟩)))
theorem schemaWithout_any (l : List FieldD) (r : RefD) (ho : okL l) : Contract Try.prog 45 [.row (l.map fD), rD r] [.d (.row ((withoutS l r).1.map fD)), .d (.sc (.int .i64 (withoutS l r).2))] := by
 refine T.fn [] Try.func45 ?_
 have hl0 := ho.1
 refine x_call T.en_42 (schemaRight_any _ (by assumption)) ?_
 refine br (fun hc1 => ?y1) (fun hc1 => ?n1)
 case' y1 =>
  have hr0 : rightS l = false := by simpa using hc1
 case' n1 =>
  have hr : rightS l = true := by simpa using hc1
  refine x_call T.en_47 (schemaIndex_any _ _ (by first | assumption | exact ho.1)) ?_
  refine br (fun hc2 => ?y2) (fun hc2 => ?n2)
  case' y2 =>
   have hy := hc2
  case' n2 =>
   have hn := hc2
   have hib := index_bound (l := l) (r := r)
   refine x_len ?_
   first | refine x_bin (pr_add1 (by omega)) rfl ?_ | refine x_bin (pr_sub1 (by omega) (by omega)) rfl ?_ | refine x_sub ?_ | refine x_bin rfl rfl ?_
   refine x_make ?_
   refine x_len ?_
   refine xloopR (fb := []) T.ok (Nat.le_of_ble_eq_true rfl) [6, 22, 23] (fun (s : Nat × Nat × List FieldD) => [(24, .c (.d (.sc (.int .i64 ((s.1 : Nat) : Int))))), (7, .c (.own 21 26 (s.2.2.map fD)))]) (fun s => s.1 ≤ l.length ∧ s.2.2 = delF (l.take s.1) r ∧ True) (fun s => l.length - s.1) (0, 21, []) ⟨Nat.zero_le _, rfl, trivial⟩ (x_ent (by first | rfl | (simp only [Tr.get]; simp; done)) (x_ent (by first | rfl | (simp only [Tr.get]; simp; done)) trivial)) ?_
   rintro s ⟨hk, hA, hi⟩
   have hAl : s.2.2.length ≤ 1000 := by rw [hA]; exact length_del_le ho.1
   refine br (fun hc3 => ?y3) (fun hc3 => ?n3)
   case' y3 =>
    obtain ⟨p, hp⟩ := elem_at hc3
    have hkl := lt_len hp
    have hok := ho.at hp
    first | refine x_ix (by exact mapAt hp) ?_ | refine x_ixI (by exact mapAt hp) ?_
    refine br (fun hc4 => ?y4) (fun hc4 => ?n4)
    case' y4 =>
     have hd : ¬ p.at_ = r := fun e => hc4 ((gone_iff hr hn hp).2 e)
     refine x_call T.en_41 (fieldOwn_any _ (by assumption)) ?_
     first | refine x_app ?_ (by first | exact strs_wide | exact fD_wide | (simp [D.cells])) (hz := by first | exact snoc_map | exact one_map | rfl) | refine x_appN ?_ (by first | exact strs_wide | exact fD_wide | (simp [D.cells]))
     first | refine x_bin (pr_add1 (by omega)) rfl ?_ | refine x_bin (pr_sub1 (by omega) (by omega)) rfl ?_ | refine x_inc ?_ | refine x_add ?_ | refine x_bin rfl rfl ?_
     refine x_rnd (s.1 + 1, 0, s.2.2 ++ [p]) ⟨lt_len hp, by rw [hA, filter_next hp, if_neg hd], trivial⟩ (by (try dsimp only); have := lt_len hp; (try dsimp only); omega) rfl (x_ent (by first | rfl | (simp only [Tr.get]; simp; done)) (x_ent (by first | rfl | (simp only [Tr.get]; simp; done)) trivial)) rfl
    case' n4 =>
     have hd : p.at_ = r := (gone_iff hr hn hp).1 hc4
     first | refine x_bin (pr_add1 (by omega)) rfl ?_ | refine x_bin (pr_sub1 (by omega) (by omega)) rfl ?_ | refine x_inc ?_ | refine x_add ?_ | refine x_bin rfl rfl ?_
     refine x_rnd (s.1 + 1, s.2.1, s.2.2) ⟨lt_len hp, by rw [hA, filter_next hp, if_pos hd, List.append_nil], trivial⟩ (by (try dsimp only); have := lt_len hp; (try dsimp only); omega) rfl (x_ent (by first | rfl | (simp only [Tr.get]; simp; done)) (x_ent (by first | rfl | (simp only [Tr.get]; simp; done)) trivial)) rfl
 all_goals (refine x_ret ?_; simp only [fitsL, fits, C.asD, and_true] <;> (first | (rw [show withoutS l r = ([], 5) from if_pos hr0]; exact ⟨rfl, rfl⟩) | (rw [show withoutS l r = ([], 6) by unfold withoutS; rw [hr, if_neg (by simp), if_pos hy]]; exact ⟨rfl, rfl⟩) | (rw [show withoutS l r = (delF l r, 0) by unfold withoutS; rw [hr, if_neg (by simp), if_neg hn]]; exact ⟨row_inj (by rw [hA, List.take_of_length_le (past_end (by assumption))]), rfl⟩)))
end Go.Vm
end
section
namespace Go.Vm
open Go.RowKit Go.Proofs
set_option maxRecDepth 10000
theorem ins_next {l : List FieldD} {f p : FieldD} {i k : Nat} (h : i ≤ k) (hp : l[k]? = some p) : (l.take i ++ f :: (l.drop i).take (k - i)) ++ [p] = l.take i ++ f :: (l.drop i).take (k + 1 - i) := by
  have : (l.drop i)[k - i]? = some p := by rw [List.getElem?_drop, show i + (k - i) = k by omega]; exact hp
  rw [show k + 1 - i = (k - i) + 1 by omega, take_next this]; simp
theorem ins_end {l : List FieldD} {f : FieldD} {i k : Nat} (hk : l.length ≤ k) : l.take i ++ f :: (l.drop i).take (k - i) = l.take i ++ f :: l.drop i := by
  rw [List.take_of_length_le (show (l.drop i).length ≤ k - i by rw [List.length_drop]; omega)]
theorem ins_len {l : List FieldD} {f : FieldD} {i m n : Nat} (h : l.length ≤ n) : (l.take i ++ f :: (l.drop i).take m).length ≤ n + 1 := by
  rw [List.length_append, List.length_cons, List.length_take, List.length_take, List.length_drop]; omega
theorem with_5 {l : List FieldD} {f : FieldD} (h : (rightS l && rightF f) = false) : withS l f = ([], 5) := if_pos h
theorem with_7 {l : List FieldD} {f : FieldD} (h : rightS l = true ∧ rightF f = true) (h1 : 0 ≤ indexS l f.at_) : withS l f = ([], 7) := by unfold withS; rw [h.1, h.2, if_neg (by simp), if_pos h1]
theorem with_14 {l : List FieldD} {f : FieldD} (h : rightS l = true ∧ rightF f = true) (h1 : ¬ 0 ≤ indexS l f.at_) (h2 : 16 ≤ l.length) : withS l f = ([], 14) := by unfold withS; rw [h.1, h.2, if_neg (by simp), if_neg h1, if_pos h2]
theorem with_0 {l : List FieldD} {f : FieldD} (h : rightS l = true ∧ rightF f = true) (h1 : ¬ 0 ≤ indexS l f.at_) (h2 : l.length < 16) : withS l f = (insF l f, 0) := by unfold withS; rw [h.1, h.2, if_neg (by simp), if_neg h1, if_neg (by omega)]
theorem schemaWith_any (l : List FieldD) (f : FieldD) (ho : okL l) (hf : f.cases.length ≤ 1000000) : Contract Try.prog 46 [.row (l.map fD), fD f] [.d (.row ((withS l f).1.map fD)), .d (.sc (.int .i64 (withS l f).2))] := by
 refine T.fn [] Try.func46 ?_
 have hl0 := ho.1
 refine xscopeR (fb := []) T.ok (Nat.le_of_ble_eq_true rfl) [0, 1] (Sum.elim (fun (s : Nat × Nat × List FieldD) => 0) (fun (s : Nat × Nat × List FieldD) => 1)) (fun l => match Nat.beq l 0 with | true => [0, 3] | false => [0]) (Sum.elim (fun (s : Nat × Nat × List FieldD) => [(7, .c (.d (.sc (.int .i64 ((s.1 : Nat) : Int))))), (6, .c (.own 27 26 (s.2.2.map fD)))]) (fun (s : Nat × Nat × List FieldD) => [(7, .c (.d (.sc (.int .i64 ((s.1 : Nat) : Int))))), (6, .c (.own 27 26 (s.2.2.map fD)))])) (Sum.elim (fun (s : Nat × Nat × List FieldD) => s.1 ≤ l.length ∧ s.2.2 = l.take s.1 ∧ (∀ (j : Nat) (q : FieldD), j < s.1 → l[j]? = some q → lessB q.at_ f.at_ = true) ∧ (rightS l = true ∧ rightF f = true) ∧ ¬ 0 ≤ indexS l f.at_ ∧ l.length < 16) (fun (s : Nat × Nat × List FieldD) => s.1 ≤ l.length ∧ (∃ i, i ≤ s.1 ∧ s.2.2 = l.take i ++ f :: (l.drop i).take (s.1 - i) ∧ insF l f = l.take i ++ f :: l.drop i) ∧ (rightS l = true ∧ rightF f = true) ∧ ¬ 0 ≤ indexS l f.at_ ∧ l.length < 16)) (Sum.elim (fun (s : Nat × Nat × List FieldD) => l.length - s.1 + 1) (fun (s : Nat × Nat × List FieldD) => l.length - s.1)) (fun z _ => by rcases z with _ | _ <;> rfl) (by repeat (first | exact trivial | refine And.intro (fun _ => rfl) ?_)) (fun z _ => by rcases z with _ | _ <;> (repeat (first | exact trivial | refine And.intro (fun _ => rfl) ?_))) ?p1 ?f1
 case' p1 =>
  rintro (s | s)
  case' inl =>
   rintro ⟨hk, hA, hlt, hg⟩
   have hg3 := hg.2.2
   have hAl : s.2.2.length ≤ 16 := by rw [hA]; exact length_take_le (by omega)
   refine And.intro ⟨T.mixed, by decide +kernel⟩ ?_
   refine x_len ?_
   refine br (fun hg1 => ?y1) (fun hg1 => ?n1)
   case' y1 =>
    obtain ⟨p, hp⟩ := elem_at hg1
    have hkl := lt_len hp
    have hok := ho.at hp
    first | refine x_ix (by exact mapAt hp) ?_ | refine x_ixI (by exact mapAt hp) ?_
    refine x_call T.en_56 (less_any _ _) ?_
    refine br (fun hc2 => ?y2) (fun hc2 => ?n2)
    case' y2 =>
     first | refine x_ix (by exact mapAt hp) ?_ | refine x_ixI (by exact mapAt hp) ?_
     refine x_call T.en_41 (fieldOwn_any _ (by assumption)) ?_
     first | refine x_app ?_ (by first | exact strs_wide | exact fD_wide | (simp [D.cells])) (hz := by first | exact snoc_map | exact one_map | rfl) | refine x_appN ?_ (by first | exact strs_wide | exact fD_wide | (simp [D.cells]))
     first | refine x_bin (pr_add1 (by omega)) rfl ?_ | refine x_inc ?_ | refine x_add ?_ | refine x_bin rfl rfl ?_
     refine x_jmp (Sum.inl (s.1 + 1, 0, s.2.2 ++ [p])) ⟨lt_len hp, by rw [hA]; exact (take_next hp).symm, (fun j q hj hq => (Nat.lt_succ_iff_lt_or_eq.1 hj).elim (fun h => hlt j q h hq) (fun e => by subst e; rw [hp] at hq; injection hq with hq; subst hq; assumption)), hg⟩ rfl (by (try dsimp only [jlt, Sum.elim_inl, Sum.elim_inr]); have := lt_len hp; (try dsimp only); omega) rfl (x_ent (by first | rfl | (simp only [Tr.get]; simp; done)) (x_ent (by first | rfl | (simp only [Tr.get]; simp; done)) trivial)) rfl
    case' n2 =>
     refine x_call T.en_41 (fieldOwn_any _ (by assumption)) ?_
     first | refine x_app ?_ (by first | exact strs_wide | exact fD_wide | (simp [D.cells])) (hz := by first | exact snoc_map | exact one_map | rfl) | refine x_appN ?_ (by first | exact strs_wide | exact fD_wide | (simp [D.cells]))
     refine x_jmp (Sum.inr (s.1, 0, s.2.2 ++ [f])) ⟨hk, ⟨s.1, Nat.le_refl _, by rw [hA]; simp, (by first | exact ins_at hlt (.inl (past_end (by assumption))) | exact ins_at hlt (.inr ⟨p, hp, by simp_all⟩))⟩, hg⟩ rfl (by (try dsimp only [jlt, Sum.elim_inl, Sum.elim_inr]); (try dsimp only); omega) rfl (x_ent (by first | rfl | (simp only [Tr.get]; simp; done)) (x_ent (by first | rfl | (simp only [Tr.get]; simp; done)) trivial)) rfl
   case' n1 =>
    refine brF ?_
    refine x_call T.en_41 (fieldOwn_any _ (by assumption)) ?_
    first | refine x_app ?_ (by first | exact strs_wide | exact fD_wide | (simp [D.cells])) (hz := by first | exact snoc_map | exact one_map | rfl) | refine x_appN ?_ (by first | exact strs_wide | exact fD_wide | (simp [D.cells]))
    refine x_jmp (Sum.inr (s.1, 0, s.2.2 ++ [f])) ⟨hk, ⟨s.1, Nat.le_refl _, by rw [hA]; simp, (by first | exact ins_at hlt (.inl (past_end (by assumption))) | exact ins_at hlt (.inr ⟨p, hp, by simp_all⟩))⟩, hg⟩ rfl (by (try dsimp only [jlt, Sum.elim_inl, Sum.elim_inr]); (try dsimp only); omega) rfl (x_ent (by first | rfl | (simp only [Tr.get]; simp; done)) (x_ent (by first | rfl | (simp only [Tr.get]; simp; done)) trivial)) rfl
  case' inr =>
   rintro ⟨hk, ⟨i, hik, hA, hins⟩, hg⟩
   have hg3 := hg.2.2
   have hAl : s.2.2.length ≤ 17 := by rw [hA]; exact ins_len (n := 16) (by omega)
   refine x_len ?_
   refine br (fun hc4 => ?y4) (fun hc4 => ?n4)
   case' y4 =>
    obtain ⟨p, hp⟩ := elem_at hc4
    have hkl := lt_len hp
    have hok := ho.at hp
    first | refine x_ix (by exact mapAt hp) ?_ | refine x_ixI (by exact mapAt hp) ?_
    refine x_call T.en_41 (fieldOwn_any _ (by assumption)) ?_
    first | refine x_app ?_ (by first | exact strs_wide | exact fD_wide | (simp [D.cells])) (hz := by first | exact snoc_map | exact one_map | rfl) | refine x_appN ?_ (by first | exact strs_wide | exact fD_wide | (simp [D.cells]))
    first | refine x_bin (pr_add1 (by omega)) rfl ?_ | refine x_inc ?_ | refine x_add ?_ | refine x_bin rfl rfl ?_
    refine x_jmp (Sum.inr (s.1 + 1, 0, s.2.2 ++ [p])) ⟨lt_len hp, ⟨i, by (try dsimp only); omega, by rw [hA]; exact ins_next hik hp, hins⟩, hg⟩ rfl (by (try dsimp only [jlt, Sum.elim_inl, Sum.elim_inr]); have := lt_len hp; (try dsimp only); omega) rfl (x_ent (by first | rfl | (simp only [Tr.get]; simp; done)) (x_ent (by first | rfl | (simp only [Tr.get]; simp; done)) trivial)) rfl
 case' f1 =>
  skip
  refine x_call T.en_42 (schemaRight_any _ (by assumption)) ?_
  refine br (fun hg5 => ?y5) (fun hg5 => ?n5)
  case' y5 =>
   refine brT ?_
   have h5 : (rightS l && rightF f) = false := by simp_all
  case' n5 =>
   refine x_call T.en_29 (fieldRight_any _ (by assumption)) ?_
   refine br (fun hc7 => ?y7) (fun hc7 => ?n7)
   case' y7 =>
    have h5 : (rightS l && rightF f) = false := by simp_all
   case' n7 =>
    have hg1 : rightS l = true ∧ rightF f = true := by simp_all
    refine x_call T.en_47 (schemaIndex_any _ _ ho.1) ?_
    refine br (fun hc8 => ?y8) (fun hc8 => ?n8)
    case' y8 =>
     have h7 := hc8
    case' n8 =>
     have hg2 : ¬ 0 ≤ indexS l f.at_ := hc8
     refine x_len ?_
     refine br (fun hc9 => ?y9) (fun hc9 => ?n9)
     case' y9 =>
      have h14 : 16 ≤ l.length := by omega
     case' n9 =>
      have hg3 : l.length < 16 := by omega
      have hg : (rightS l = true ∧ rightF f = true) ∧ ¬ 0 ≤ indexS l f.at_ ∧ l.length < 16 := ⟨hg1, hg2, hg3⟩
      refine x_len ?_
      first | refine x_bin (pr_add1 (by omega)) rfl ?_ | refine x_inc ?_ | refine x_add ?_ | refine x_bin rfl rfl ?_
      refine x_make ?_
      refine x_jmp (Sum.inl (0, 27, [])) ⟨Nat.zero_le _, rfl, fun j q hj => absurd hj (Nat.not_lt_zero _), hg⟩ rfl trivial rfl (x_ent (by first | rfl | (simp only [Tr.get]; simp; done)) (x_ent (by first | rfl | (simp only [Tr.get]; simp; done)) trivial)) rfl
 all_goals (refine x_ret ?_; simp only [fitsL, fits, C.asD, and_true] <;> (first | (rw [with_5 h5]; exact ⟨rfl, rfl⟩) | (rw [with_7 hg1 h7]; exact ⟨rfl, rfl⟩) | (rw [with_14 hg1 hg2 h14]; exact ⟨rfl, rfl⟩) | (rw [with_0 hg.1 hg.2.1 hg.2.2]; exact ⟨row_inj (by rw [hA, ins_end (past_end (by assumption)), hins]), rfl⟩)))
end Go.Vm
end
section
namespace Go.Vm
open Go.RowKit Go.Proofs
set_option maxRecDepth 10000
def heavyF (f : FieldD) : Bool := decide (200 < f.at_.group.size) || decide (200 < f.at_.name.size) || decide (200 < f.deft.size) || decide (20 < f.cases.length) || f.cases.any (fun c => decide (200 < c.size))
theorem any_hit {α : Type} {l : List α} {f : α → Bool} {k : Nat} {p : α} (hp : l[k]? = some p) (h : f p = true) : l.any f = true := List.any_eq_true.2 ⟨p, List.mem_of_getElem? hp, h⟩
theorem any_next {α : Type} {l : List α} {f : α → Bool} {k : Nat} {p : α} (hp : l[k]? = some p) (h : (l.take k).any f = false) (hn : f p = false) : (l.take (k + 1)).any f = false := by
  rw [take_next hp, List.any_append, h]; simp [hn]
theorem any_end {α : Type} {l : List α} {f : α → Bool} {k : Nat} (hk : l.length ≤ k) (h : (l.take k).any f = false) : l.any f = false := by rwa [List.take_of_length_le hk] at h
theorem heavyF_ok {f : FieldD} (h : heavyF f = false) : f.cases.length ≤ 20 := by
  unfold heavyF at h; simp only [Bool.or_eq_false_iff, decide_eq_false_iff_not] at h; omega
theorem refFieldHeavy_any (f : FieldD) : Contract Try.prog 19 [fD f] [.d (.sc (.bool (heavyF f)))] := by
 refine T.fn [] Try.func19 ?_
 refine x_len ?_
 refine br (fun hg1 => ?y1) (fun hg1 => ?n1)
 case' y1 =>
  refine brT ?_
  refine brT ?_
  refine brT ?_
 case' n1 =>
  refine x_len ?_
  refine br (fun hg5 => ?y5) (fun hg5 => ?n5)
  case' y5 =>
   refine brT ?_
   refine brT ?_
  case' n5 =>
   refine x_len ?_
   refine br (fun hg8 => ?y8) (fun hg8 => ?n8)
   case' y8 =>
    refine brT ?_
   case' n8 =>
    refine x_len ?_
    refine br (fun hc10 => ?y10) (fun hc10 => ?n10)
    case' n10 =>
     have h20 : f.cases.length ≤ 20 := by omega
     refine xloopR (fb := []) T.ok (Nat.le_of_ble_eq_true rfl) [1] (fun (k : Nat) => [(3, .c (.d (.sc (.int .i64 (k : Nat)))))]) (fun k => k ≤ f.cases.length ∧ (f.cases.take k).any (fun c => decide (200 < c.size)) = false ∧ f.cases.length ≤ 20) (fun k => f.cases.length - k) 0 ⟨Nat.zero_le _, ⟨rfl, h20⟩⟩ (x_ent (by first | rfl | (simp only [Tr.get]; simp; done)) trivial) ?_
     rintro k ⟨hk, hi⟩
     refine x_len ?_
     refine br (fun hc11 => ?y11) (fun hc11 => ?n11)
     case' y11 =>
      obtain ⟨p, hp⟩ := elem_at hc11
      have hkl := lt_len hp
      first | refine x_ix (by exact mapAt hp) ?_ | refine x_ixI (by exact mapAt hp) ?_
      refine x_len ?_
      refine br (fun hc12 => ?y12) (fun hc12 => ?n12)
      case' n12 =>
       first | refine x_inc ?_ | refine x_add ?_ | refine x_bin rfl rfl ?_
       refine x_rnd (k + 1) ⟨lt_len hp, any_next hp hi.1 (by simp; omega), hi.2⟩ (by (try dsimp only); have := lt_len hp; omega) rfl (x_ent (by first | rfl | (simp only [Tr.get]; simp; done)) trivial) rfl
 all_goals (refine x_ret ?_; simp only [fitsL, fits, C.asD, and_true] <;> (refine scb ?_; first | (have hh := any_hit (f := fun c : ByteArray => decide (200 < c.size)) hp (by simp; omega); unfold heavyF; rw [hh, Bool.or_true]; done) | (have hh := any_end (past_end (by assumption)) hi.1; unfold heavyF; rw [hh, Bool.or_false]; symm; simp only [decide_eq_true_eq, decide_eq_false_iff_not, Bool.not_eq_true', Bool.not_eq_false', Bool.and_eq_true, Bool.or_eq_true, Bool.or_eq_false_iff, Bool.and_eq_false_iff, beq_iff_eq, beq_eq_false_iff_ne, ne_eq, Bool.not_true, Bool.not_false, Bool.false_eq_true, Bool.true_eq_false] at * <;> omega) | (symm; unfold heavyF; simp only [decide_eq_true_eq, decide_eq_false_iff_not, Bool.not_eq_true', Bool.not_eq_false', Bool.and_eq_true, Bool.or_eq_true, Bool.or_eq_false_iff, Bool.and_eq_false_iff, beq_iff_eq, beq_eq_false_iff_ne, ne_eq, Bool.not_true, Bool.not_false, Bool.false_eq_true, Bool.true_eq_false] at * <;> omega)))
end Go.Vm
end
section
namespace Go.Vm
theorem mem_delF {l : List FieldD} {r : RefD} {f : FieldD} : f ∈ delF l r ↔ f ∈ l ∧ f.at_ ≠ r := by
  unfold delF; rw [List.mem_filter]; simp
theorem goes_nodup {x : LensD} (h : rightL x = true) : (goesL x).Nodup := by
  unfold goesL
  split
  · simp
  split
  · simp
  split
  · rename_i h2 h3 h9
    unfold rightL at h
    rw [if_neg (by omega), if_neg (show ¬ x.kind = 8 by omega), if_pos (show x.kind = 6 ∨ x.kind = 9 from .inr h9)] at h
    simp only [Bool.and_eq_true, Bool.not_eq_true', decide_eq_false_iff_not] at h
    have hne := h.2.2.1.1.2
    refine List.nodup_cons.2 ⟨?_, by simp⟩
    simp only [List.mem_singleton, named]
    intro e
    injection e with _ _ e
    exact hne e
  · simp
end Go.Vm
end
section
namespace Go.Vm
def okX (x : LensD) : Prop := x.field.cases.length ≤ 1000000 ∧ x.forth.length ≤ 1000 ∧ x.back.length ≤ 1000
def partsL (x : LensD) : LensD × Bool :=
  if x.kind = 1 ∨ x.kind = 5 then (⟨x.kind, x.at_, x.name, noB, 0, noField, [], []⟩, true)
  else if x.kind = 2 ∨ x.kind = 3 then (⟨x.kind, noRef, noB, noB, 0, x.field, [], []⟩, true)
  else if x.kind = 4 then (⟨x.kind, x.at_, noB, noB, 0, noField, [], []⟩, true)
  else if x.kind = 6 ∨ x.kind = 9 then (⟨x.kind, x.at_, x.name, x.other, x.factor, noField, [], []⟩, true)
  else if x.kind = 7 ∨ x.kind = 10 then (⟨x.kind, x.at_, noB, x.other, 0, noField, [], []⟩, true)
  else if x.kind = 8 then (⟨x.kind, x.at_, x.name, x.other, 0, noField, x.forth, x.back⟩, true)
  else (noLens, false)
def rightTb (x : LensD) : Bool := nameB x.name && rightT x.forth x.back && rightT x.back x.forth && decide (caseT x.forth x.name = (x.other, true)) && decide (caseT x.back x.other = (x.name, true))
def rightLp (x : LensD) : Bool :=
  if (partsL x).2 = false then false else if ¬ x = (partsL x).1 then false
  else if x.kind = 2 ∨ x.kind = 3 then rightF x.field
  else if placeB x.at_ = false then false
  else if x.kind = 1 then nameB x.name
  else if x.kind = 4 then !decide (x.at_.group = noB)
  else if x.kind = 5 then decide (x.at_.group = noB) && nameB x.name
  else if x.kind = 6 ∨ x.kind = 9 then nameB x.name && nameB x.other && !decide (x.name = x.other) && decide (2 ≤ x.factor) && decide (x.factor ≤ 1000)
  else if x.kind = 7 ∨ x.kind = 10 then decide (x.other.size ≤ 40)
  else rightTb x
def rightLq (b2 b1 : Bool) (x : LensD) : Bool :=
  if b2 = false then false else if b1 = false then false
  else if x.kind = 2 ∨ x.kind = 3 then rightF x.field
  else if placeB x.at_ = false then false
  else if x.kind = 1 then nameB x.name
  else if x.kind = 4 then !decide (x.at_.group = noB)
  else if x.kind = 5 then decide (x.at_.group = noB) && nameB x.name
  else if x.kind = 6 ∨ x.kind = 9 then nameB x.name && nameB x.other && !decide (x.name = x.other) && decide (2 ≤ x.factor) && decide (x.factor ≤ 1000)
  else if x.kind = 7 ∨ x.kind = 10 then decide (x.other.size ≤ 40)
  else rightTb x
theorem rightLp_q (x : LensD) : rightLp x = rightLq (partsL x).2 (decide (x = (partsL x).1)) x := by
  unfold rightLp rightLq
  by_cases h : x = (partsL x).1
  · rw [if_neg (not_not_intro h), decide_eq_true h, if_neg (show ¬ (true = false) by simp)]
  · rw [if_pos h, decide_eq_false h, if_pos (show false = false from rfl)]
theorem rightTb_eq (x : LensD) : rightTb x = (rightT x.forth x.back && rightT x.back x.forth && decide (caseT x.forth x.name = (x.other, true)) && decide (caseT x.back x.other = (x.name, true))) := by
  unfold rightTb
  by_cases h : rightT x.forth x.back = true
  · by_cases h2 : caseT x.forth x.name = (x.other, true)
    · rw [rightT_name h (by rw [h2])]; rfl
    · simp [h2]
  · simp [h]
theorem rightLp_eq (x : LensD) : rightLp x = rightL x := by
  have hp := rightTb_eq x
  obtain ⟨k, ⟨s, g, n⟩, nm, ot, fa, f, fo, ba⟩ := x
  unfold rightLp rightL partsL
  simp only at *
  rw [hp]
  by_cases h2 : k = 2
  · subst h2; simp [noRef]; by_cases hh : rightF f = true <;> simp [hh] <;> grind
  by_cases h3 : k = 3
  · subst h3; simp [noRef]; by_cases hh : rightF f = true <;> simp [hh] <;> grind
  by_cases h1 : k = 1
  · subst h1; simp [noRef]; grind
  by_cases h4 : k = 4
  · subst h4; simp [noRef]; grind
  by_cases h5 : k = 5
  · subst h5; simp [noRef]; grind
  by_cases h6 : k = 6
  · subst h6; simp [noRef]; grind
  by_cases h9 : k = 9
  · subst h9; simp [noRef]; grind
  by_cases h7 : k = 7
  · subst h7; simp [noRef]; grind
  by_cases h10 : k = 10
  · subst h10; simp [noRef]; grind
  by_cases h8 : k = 8
  · subst h8; simp [noRef]; grind
  · simp [h1, h2, h3, h4, h5, h6, h7, h8, h9, h10]
def comeL (x : LensD) : RefD := match comesL x with
  | [] => noRef
  | c :: _ => c
def mergedS (l : List FieldD) (x : LensD) : List FieldD × Bool :=
  if ¬ (findS l (named x.at_ x.name)).2 = 0 ∨ ¬ (findS l (named x.at_ x.name)).1.kind = 1 then ([], false)
  else if ¬ (findS l (named x.at_ x.other)).2 = 0 ∨ ¬ (findS l (named x.at_ x.other)).1.kind = 1 ∨ ¬ (findS l (named x.at_ x.other)).1.worth = (findS l (named x.at_ x.name)).1.worth * x.factor then ([], false)
  else ([⟨x.at_, 1, noB, [], (findS l (named x.at_ x.name)).1.worth⟩], true)
def arrS (l : List FieldD) (x : LensD) : List FieldD × Bool :=
  if x.kind = 2 then ([x.field], true)
  else if x.kind = 3 then ([], decide ((findS l x.field.at_).2 = 0) && decide ((findS l x.field.at_).1 = x.field))
  else if x.kind = 9 then mergedS l x
  else if ¬ (findS l x.at_).2 = 0 then ([], false)
  else if x.kind = 6 then ([⟨named x.at_ x.name, 1, noB, [], (findS l x.at_).1.worth⟩, ⟨named x.at_ x.other, 1, noB, [], (findS l x.at_).1.worth * x.factor⟩], decide ((findS l x.at_).1.kind = 1))
  else if x.kind = 7 then ([⟨x.at_, 4, noB, [], 0⟩], decide ((findS l x.at_).1.kind = 2) && decide ((findS l x.at_).1.deft = x.other))
  else if x.kind = 10 then ([⟨x.at_, 2, x.other, [], 0⟩], decide ((findS l x.at_).1.kind = 4))
  else if x.kind = 8 then ([⟨x.at_, 3, x.other, froms x.back, 0⟩], decide ((findS l x.at_).1 = ⟨x.at_, 3, x.name, froms x.forth, 0⟩))
  else ([⟨comeL x, (findS l x.at_).1.kind, (findS l x.at_).1.deft, (findS l x.at_).1.cases, (findS l x.at_).1.worth⟩], true)
def delLoop : List FieldD → List RefD → List FieldD × Int
  | l, [] => (l, 0)
  | l, r :: rs => if (withoutS l r).2 = 0 then delLoop (withoutS l r).1 rs else ([], 16)
def applyP (l : List FieldD) (x : LensD) : List FieldD × Int :=
  if (rightS l && rightL x) = false then ([], 5)
  else if (arrS l x).2 = false then ([], 16)
  else if ¬ (delLoop l (goesL x)).2 = 0 then ([], 16)
  else withAll (delLoop l (goesL x)).1 (arrS l x).1
theorem without_ok {l : List FieldD} {r : RefD} (h : rightS l = true) (h0 : ¬ indexS l r < 0) : withoutS l r = (delF l r, 0) := by
  unfold withoutS; rw [h, if_neg (by simp), if_neg h0]
theorem delLoop_ok {rs : List RefD} : ∀ {l : List FieldD}, rightS l = true → rs.Nodup → (∀ r ∈ rs, ¬ indexS l r < 0) → delLoop l rs = (delAll l rs, 0) := by
  induction rs with
  | nil => intro l _ _ _; rfl
  | cons r rs ih =>
    intro l h hnd hall
    obtain ⟨hr, hnd⟩ := List.nodup_cons.1 hnd
    have e := without_ok h (hall r (List.mem_cons_self ..))
    unfold delLoop
    rw [e, if_pos rfl]
    refine ih (rightS_del h r) hnd (fun s hs => ?_)
    have h1 := hall s (List.mem_cons_of_mem _ hs)
    have h2 : 0 ≤ indexS l s := by omega
    obtain ⟨f, hf, e2⟩ := index_pos.1 h2
    have : 0 ≤ indexS (delF l r) s := index_pos.2 ⟨f, mem_delF.2 ⟨hf, by rw [e2]; rintro rfl; exact hr hs⟩, e2⟩
    show ¬ indexS (delF l r) s < 0
    omega
theorem find_neg {l : List FieldD} {r : RefD} (h : indexS l r < 0) : findS l r = (noField, 6) := by unfold findS; rw [if_pos h]
theorem find_pos {l : List FieldD} {r : RefD} (h : ¬ indexS l r < 0) : findS l r = (fieldAt l r, 0) := by unfold findS; rw [if_neg h]
theorem find_nn {l : List FieldD} {r : RefD} (h : 0 ≤ indexS l r) : findS l r = (fieldAt l r, 0) := find_pos (by omega)
theorem arr_missing {l : List FieldD} {x : LensD} (h : (goesL x).any (fun g => decide (indexS l g < 0)) = true) : (arrS l x).2 = false := by
  unfold goesL at h
  unfold arrS mergedS
  by_cases h2 : x.kind = 2
  · simp [h2] at h
  by_cases h3 : x.kind = 3
  · simp [h3] at h; simp [h3, find_neg h]
  by_cases h9 : x.kind = 9
  · simp [h9] at h
    simp only [h2, h3, h9, if_true, if_false]
    rcases h with h | h
    · simp [find_neg h]
    · by_cases h' : indexS l (named x.at_ x.name) < 0
      · simp [find_neg h']
      · by_cases hk : (fieldAt l (named x.at_ x.name)).kind = 1 <;> simp [find_neg h, find_pos h', hk]
  · simp [h2, h3, h9] at h; simp [h2, h3, h9, find_neg h]
theorem arr_news {l : List FieldD} {x : LensD} (h : ∀ g ∈ goesL x, ¬ indexS l g < 0) : match newsL l x with
    | none => (arrS l x).2 = false
    | some fs => arrS l x = (fs, true) := by
  unfold goesL at h
  unfold newsL arrS mergedS comeL
  by_cases h2 : x.kind = 2
  · simp [h2]
  by_cases h3 : x.kind = 3
  · simp [h3] at h; simp only [h2, h3, if_true, if_false, find_nn h]; by_cases e : fieldAt l x.field.at_ = x.field <;> simp [e]
  by_cases h9 : x.kind = 9
  · simp [h9] at h
    simp only [h2, h3, h9, if_true, if_false, find_nn h.1, find_nn h.2]
    by_cases e1 : (fieldAt l (named x.at_ x.name)).kind = 1 <;> by_cases e2 : (fieldAt l (named x.at_ x.other)).kind = 1 <;> by_cases e3 : (fieldAt l (named x.at_ x.other)).worth = (fieldAt l (named x.at_ x.name)).worth * x.factor <;> simp [e1, e2, e3]
  simp [h2, h3, h9] at h
  simp only [h2, h3, h9, if_false, find_nn h]
  by_cases h6 : x.kind = 6
  · by_cases e : (fieldAt l x.at_).kind = 1 <;> simp [h6, e]
  by_cases h7 : x.kind = 7
  · by_cases e : (fieldAt l x.at_).kind = 2 <;> by_cases e2 : (fieldAt l x.at_).deft = x.other <;> simp [h7, e, e2]
  by_cases h10 : x.kind = 10
  · by_cases e : (fieldAt l x.at_).kind = 4 <;> simp [h10, e]
  by_cases h8 : x.kind = 8
  · by_cases e : fieldAt l x.at_ = ⟨x.at_, 3, x.name, froms x.forth, 0⟩ <;> simp [h8, e]
  · simp only [h6, h7, h10, h8, if_false]
    have : comesL x ≠ [] := by unfold comesL; simp only [h2, h3, h6, if_false]; (repeat' split) <;> simp
    cases hc : comesL x with
    | nil => exact absurd hc this
    | cons c cs => simp
theorem applyP_eq (l : List FieldD) (x : LensD) : applyP l x = applyS l x := by
  unfold applyP applyS
  by_cases h : (rightS l && rightL x) = false
  · rw [if_pos h, if_pos h]
  rw [if_neg h, if_neg h]
  obtain ⟨hl, hx⟩ : rightS l = true ∧ rightL x = true := by simpa using h
  by_cases hg : (goesL x).any (fun g => decide (indexS l g < 0)) = true
  · rw [if_pos hg, if_pos (arr_missing hg)]
  · rw [if_neg hg]
    have hall : ∀ g ∈ goesL x, ¬ indexS l g < 0 := by simpa using hg
    rw [delLoop_ok hl (goes_nodup hx) hall]
    have h4 := arr_news hall
    cases hn : newsL l x with
    | none => rw [hn] at h4; rw [if_pos h4]
    | some fs => rw [hn] at h4; simp only at h4; rw [h4]; simp
theorem rightF_worth {f : FieldD} (h : rightF f = true) : 0 ≤ f.worth ∧ f.worth ≤ 1048576 := by
  unfold rightF at h
  simp only [Bool.and_eq_true] at h
  have h := h.2
  split at h
  · simp only [Bool.and_eq_true, decide_eq_true_eq] at h; omega
  split at h
  · simp only [Bool.and_eq_true, decide_eq_true_eq] at h; omega
  split at h
  · simp only [Bool.and_eq_true, decide_eq_true_eq] at h; omega
  split at h
  · simp only [Bool.and_eq_true, decide_eq_true_eq] at h; omega
  · cases h
theorem rightS_mem {l : List FieldD} {f : FieldD} (h : rightS l = true) (hf : f ∈ l) : rightF f = true := (rightS_iff.1 h).2.1 f hf
end Go.Vm
end
section
namespace Go.Vm
open Go.RowKit Go.Proofs
set_option maxRecDepth 10000
theorem pairs_wide {l : List (ByteArray × ByteArray)} : ∀ x ∈ l.map pairD, x.cells.length = 2 := by
  intro x hx; obtain ⟨y, _, rfl⟩ := List.mem_map.1 hx; rfl
theorem rs_wide {l : List RefD} : ∀ x ∈ l.map rD, x.cells.length = 3 := by
  intro x hx; obtain ⟨y, _, rfl⟩ := List.mem_map.1 hx; rfl
theorem find_none {l : List (ByteArray × ByteArray)} {s : ByteArray} {k : Nat} {p : ByteArray × ByteArray} (hp : l[k]? = some p) (h : (l.take k).find? (fun p => decide (p.1 = s)) = none) (hn : ¬ p.1 = s) : (l.take (k + 1)).find? (fun p => decide (p.1 = s)) = none := by
  rw [List.take_add_one, hp, List.find?_append, h]; simp [hn]
theorem case_hit {l : List (ByteArray × ByteArray)} {s : ByteArray} {k : Nat} {p : ByteArray × ByteArray} (hp : l[k]? = some p) (h : (l.take k).find? (fun p => decide (p.1 = s)) = none) (hn : p.1 = s) : caseT l s = (p.2, true) := by
  obtain ⟨hlt, hpe⟩ := List.getElem?_eq_some_iff.1 hp
  have e : l = l.take k ++ p :: l.drop (k + 1) := by rw [← hpe, ← List.drop_eq_getElem_cons hlt, List.take_append_drop]
  unfold caseT
  rw [e, List.find?_append, h]; simp [hn]
theorem case_miss {l : List (ByteArray × ByteArray)} {s : ByteArray} {k : Nat} (hk : l.length ≤ k) (h : (l.take k).find? (fun p => decide (p.1 = s)) = none) : caseT l s = (noB, false) := by
  rw [List.take_of_length_le hk] at h
  unfold caseT; rw [h]
theorem froms_next {l : List (ByteArray × ByteArray)} {k : Nat} {p : ByteArray × ByteArray} (hp : l[k]? = some p) : froms (l.take (k + 1)) = froms (l.take k) ++ [p.1] := by
  unfold froms; rw [take_next hp]; simp
theorem froms_len {l : List (ByteArray × ByteArray)} {k n : Nat} (h : l.length ≤ n) : (froms (l.take k)).length ≤ n := by unfold froms; rw [List.length_map]; exact length_take_le h
theorem take_length {α : Type} {l : List α} {k : Nat} (h : k < l.length) : (l.take k).length = k := by rw [List.length_take]; omega
def heavyP (l : List (ByteArray × ByteArray)) : Bool := decide (20 < l.length) || l.any (fun p => decide (200 < p.1.size) || decide (200 < p.2.size))
theorem heavyP_ok {l : List (ByteArray × ByteArray)} (h : heavyP l = false) : l.length ≤ 20 := by unfold heavyP at h; simp only [Bool.or_eq_false_iff, decide_eq_false_iff_not] at h; omega
def heavyL (x : LensD) : Bool := decide (200 < x.at_.group.size) || decide (200 < x.at_.name.size) || decide (200 < x.name.size) || decide (200 < x.other.size) || heavyF x.field || heavyP x.forth || heavyP x.back
theorem heavyL_ok {x : LensD} (h : heavyL x = false) : okX x := by
  unfold heavyL at h; simp only [Bool.or_eq_false_iff] at h
  have h1 := heavyF_ok h.1.1.2
  have h2 := heavyP_ok h.1.2
  have h3 := heavyP_ok h.2
  exact ⟨by omega, by omega, by omega⟩
theorem froms_no {l : List (ByteArray × ByteArray)} {s : ByteArray} {j : Nat} {q : ByteArray × ByteArray} (hq : l[j]? = some q) (h : s ∉ froms (l.take j)) (hn : ¬ q.1 = s) : s ∉ froms (l.take (j + 1)) := by
  rw [froms_next hq, List.mem_append, List.mem_singleton]
  rintro (k | k)
  · exact h k
  · exact hn k.symm
theorem froms_mem {l : List (ByteArray × ByteArray)} {s : ByteArray} {j : Nat} {q : ByteArray × ByteArray} (hq : l[j]? = some q) (h : q.1 = s) : s ∈ froms l := by
  rw [← h]; exact List.mem_map.2 ⟨q, List.mem_of_getElem? hq, rfl⟩
theorem case_any (l : (List (ByteArray × ByteArray))) (s : ByteArray) (hl : l.length ≤ 1000) : Contract Try.prog 53 [.row (l.map pairD), .sc (.string s)] [.d (.sc (.string (caseT l s).1)), .d (.sc (.bool (caseT l s).2))] := by
 refine T.fn [] Try.func53 ?_
 refine x_len ?_
 refine xloopR (fb := []) T.ok (Nat.le_of_ble_eq_true rfl) [1, 8, 9] (fun (k : Nat) => [(10, .c (.d (.sc (.int .i64 (k : Nat)))))]) (fun k => k ≤ l.length ∧ (l.take k).find? (fun p => decide (p.1 = s)) = none) (fun k => l.length - k) 0 ⟨Nat.zero_le _, rfl⟩ (x_ent (by first | rfl | (simp only [Tr.get]; simp; done)) trivial) ?_
 rintro k ⟨hk, hi⟩
 refine br (fun hc1 => ?y1) (fun hc1 => ?n1)
 case' y1 =>
  obtain ⟨p, hp⟩ := elem_at hc1
  have hkl := lt_len hp
  first | refine x_ix (by exact mapAt hp) ?_ | refine x_ixI (by exact mapAt hp) ?_
  refine br (fun hc2 => ?y2) (fun hc2 => ?n2)
  case' n2 =>
   first | refine x_inc ?_ | refine x_add ?_ | refine x_bin rfl rfl ?_
   refine x_rnd (k + 1) ⟨lt_len hp, find_none hp hi (by assumption)⟩ (by (try dsimp only); have := lt_len hp; omega) rfl (x_ent (by first | rfl | (simp only [Tr.get]; simp; done)) trivial) rfl
 all_goals (refine x_ret ?_; simp only [fitsL, fits, C.asD, and_true] <;> (first | (rw [case_hit hp hi (by assumption)]; exact ⟨rfl, rfl⟩) | (rw [case_miss (past_end (by assumption)) hi]; exact ⟨rfl, rfl⟩)))
theorem refCase_any (l : (List (ByteArray × ByteArray))) (s : ByteArray) (hl : l.length ≤ 1000) : Contract Try.prog 25 [.row (l.map pairD), .sc (.string s)] [.d (.sc (.string (caseT l s).1)), .d (.sc (.bool (caseT l s).2))] := by
 refine T.fn [] Try.func25 ?_
 refine xloopR (fb := []) T.ok (Nat.le_of_ble_eq_true rfl) [0, 1] (fun (k : Nat) => [(6, .c (.d (.sc (.int .i64 (k : Nat)))))]) (fun k => k ≤ l.length ∧ (l.take k).find? (fun p => decide (p.1 = s)) = none) (fun k => l.length - k) 0 ⟨Nat.zero_le _, rfl⟩ (x_ent (by first | rfl | (simp only [Tr.get]; simp; done)) trivial) ?_
 rintro k ⟨hk, hi⟩
 refine x_len ?_
 refine br (fun hc1 => ?y1) (fun hc1 => ?n1)
 case' y1 =>
  obtain ⟨p, hp⟩ := elem_at hc1
  have hkl := lt_len hp
  first | refine x_ix (by exact mapAt hp) ?_ | refine x_ixI (by exact mapAt hp) ?_
  refine br (fun hc2 => ?y2) (fun hc2 => ?n2)
  case' y2 =>
   first | refine x_ix (by exact mapAt hp) ?_ | refine x_ixI (by exact mapAt hp) ?_
  case' n2 =>
   first | refine x_inc ?_ | refine x_add ?_ | refine x_bin rfl rfl ?_
   refine x_rnd (k + 1) ⟨lt_len hp, find_none hp hi (by assumption)⟩ (by (try dsimp only); have := lt_len hp; omega) rfl (x_ent (by first | rfl | (simp only [Tr.get]; simp; done)) trivial) rfl
 all_goals (refine x_ret ?_; simp only [fitsL, fits, C.asD, and_true] <;> (first | (rw [case_hit hp hi (by assumption)]; exact ⟨rfl, rfl⟩) | (rw [case_miss (past_end (by assumption)) hi]; exact ⟨rfl, rfl⟩)))
theorem samePairs_any (l m : (List (ByteArray × ByteArray))) (hl : l.length ≤ 1000) : Contract Try.prog 36 [.row (l.map pairD), .row (m.map pairD)] [.d (.sc (.bool (decide (l = m))))] := by
 refine T.fn [] Try.func36 ?_
 refine x_len ?_
 refine x_len ?_
 refine br (fun hc1 => ?y1) (fun hc1 => ?n1)
 case' n1 =>
  have hlen : l.length = m.length := by omega
  refine x_len ?_
  refine xloopR (fb := []) T.ok (Nat.le_of_ble_eq_true rfl) [0, 1, 12] (fun (k : Nat) => [(13, .c (.d (.sc (.int .i64 (k : Nat)))))]) (fun k => k ≤ l.length ∧ l.take k = m.take k) (fun k => l.length - k) 0 ⟨Nat.zero_le _, rfl⟩ (x_ent (by first | rfl | (simp only [Tr.get]; simp; done)) trivial) ?_
  rintro k ⟨hk, hi⟩
  refine br (fun hc2 => ?y2) (fun hc2 => ?n2)
  case' y2 =>
   obtain ⟨p, hp⟩ := elem_at hc2
   have hkl := lt_len hp
   obtain ⟨q, hq⟩ := elem_too hp hlen
   refine And.intro ⟨T.mixed, by decide +kernel⟩ ?_
   first | refine x_ix (by first | exact mapAt hp | exact mapAt hq) ?_ | refine x_ixI (by first | exact mapAt hp | exact mapAt hq) ?_
   first | refine x_ix (by first | exact mapAt hp | exact mapAt hq) ?_ | refine x_ixI (by first | exact mapAt hp | exact mapAt hq) ?_
   refine xeq_38n _ _ ?_
   refine br (fun hc3 => ?y3) (fun hc3 => ?n3)
   case' n3 =>
    first | refine x_inc ?_ | refine x_add ?_ | refine x_bin rfl rfl ?_
    refine x_rnd (k + 1) ⟨lt_len hp, take_eq_next hp hq hi (by simp_all)⟩ (by (try dsimp only); have := lt_len hp; omega) rfl (x_ent (by first | rfl | (simp only [Tr.get]; simp; done)) trivial) rfl
 all_goals (refine x_ret ?_; simp only [fitsL, fits, C.asD, and_true] <;> (refine scb ?_; first | exact (decide_eq_false (fun e => by simp_all)).symm | exact (decide_eq_false (ne_at hp hq (fun e => by simp_all))).symm | exact (decide_eq_true (take_eq_end hlen (past_end (by assumption)) hi)).symm))
theorem refSamePairs_any (l m : (List (ByteArray × ByteArray))) (hl : l.length ≤ 1000) : Contract Try.prog 38 [.row (l.map pairD), .row (m.map pairD)] [.d (.sc (.bool (decide (l = m))))] := by
 refine T.fn [] Try.func38 ?_
 refine x_len ?_
 refine x_len ?_
 refine br (fun hc1 => ?y1) (fun hc1 => ?n1)
 case' n1 =>
  have hlen : l.length = m.length := by omega
  refine xloopR (fb := []) T.ok (Nat.le_of_ble_eq_true rfl) [0, 1] (fun (k : Nat) => [(5, .c (.d (.sc (.int .i64 (k : Nat)))))]) (fun k => k ≤ l.length ∧ l.take k = m.take k) (fun k => l.length - k) 0 ⟨Nat.zero_le _, rfl⟩ (x_ent (by first | rfl | (simp only [Tr.get]; simp; done)) trivial) ?_
  rintro k ⟨hk, hi⟩
  refine x_len ?_
  refine br (fun hc2 => ?y2) (fun hc2 => ?n2)
  case' y2 =>
   obtain ⟨p, hp⟩ := elem_at hc2
   have hkl := lt_len hp
   obtain ⟨q, hq⟩ := elem_too hp hlen
   refine And.intro ⟨T.mixed, by decide +kernel⟩ ?_
   first | refine x_ix (by first | exact mapAt hp | exact mapAt hq) ?_ | refine x_ixI (by first | exact mapAt hp | exact mapAt hq) ?_
   first | refine x_ix (by first | exact mapAt hp | exact mapAt hq) ?_ | refine x_ixI (by first | exact mapAt hp | exact mapAt hq) ?_
   refine xeq_38n _ _ ?_
   refine br (fun hc3 => ?y3) (fun hc3 => ?n3)
   case' n3 =>
    first | refine x_inc ?_ | refine x_add ?_ | refine x_bin rfl rfl ?_
    refine x_rnd (k + 1) ⟨lt_len hp, take_eq_next hp hq hi (by simp_all)⟩ (by (try dsimp only); have := lt_len hp; omega) rfl (x_ent (by first | rfl | (simp only [Tr.get]; simp; done)) trivial) rfl
 all_goals (refine x_ret ?_; simp only [fitsL, fits, C.asD, and_true] <;> (refine scb ?_; first | exact (decide_eq_false (fun e => by simp_all)).symm | exact (decide_eq_false (ne_at hp hq (fun e => by simp_all))).symm | exact (decide_eq_true (take_eq_end hlen (past_end (by assumption)) hi)).symm))
theorem froms_any (l : (List (ByteArray × ByteArray))) (hl : l.length ≤ 1000) : Contract Try.prog 58 [.row (l.map pairD)] [.d (.row ((froms l).map strD))] := by
 refine T.fn [] Try.func58 ?_
 refine x_len ?_
 refine x_make ?_
 refine x_len ?_
 refine xloopR (fb := []) T.ok (Nat.le_of_ble_eq_true rfl) [9, 10] (fun (s : Nat × Nat × List ByteArray) => [(11, .c (.d (.sc (.int .i64 ((s.1 : Nat) : Int))))), (3, .c (.own 8 9 (s.2.2.map strD)))]) (fun s => s.1 ≤ l.length ∧ s.2.2 = froms (l.take s.1)) (fun s => l.length - s.1) (0, 8, []) ⟨Nat.zero_le _, rfl⟩ (x_ent (by first | rfl | (simp only [Tr.get]; simp; done)) (x_ent (by first | rfl | (simp only [Tr.get]; simp; done)) trivial)) ?_
 rintro s ⟨hk, hA⟩
 have hAl : s.2.2.length ≤ 1000 := by rw [hA]; exact froms_len hl
 refine br (fun hc1 => ?y1) (fun hc1 => ?n1)
 case' y1 =>
  obtain ⟨p, hp⟩ := elem_at hc1
  have hkl := lt_len hp
  first | refine x_ix (by exact mapAt hp) ?_ | refine x_ixI (by exact mapAt hp) ?_
  first | refine x_app ?_ (by first | exact strs_wide | exact pairs_wide | exact rs_wide | exact fD_wide | (simp [D.cells])) (hz := by first | exact snoc_map (g := strD) | exact one_map (g := strD) | rfl) | refine x_appN ?_ (by first | exact strs_wide | exact pairs_wide | exact rs_wide | exact fD_wide | (simp [D.cells]))
  first | refine x_bin (pr_add1 (by omega)) rfl ?_ | refine x_inc ?_ | refine x_add ?_ | refine x_bin rfl rfl ?_
  refine x_rnd (s.1 + 1, 0, s.2.2 ++ [p.1]) ⟨lt_len hp, by rw [hA]; exact (froms_next hp).symm⟩ (by (try dsimp only); have := lt_len hp; (try dsimp only); omega) rfl (x_ent (by first | rfl | (simp only [Tr.get]; simp; done)) (x_ent (by first | rfl | (simp only [Tr.get]; simp; done)) trivial)) rfl
 all_goals (refine x_ret ?_; simp only [fitsL, fits, C.asD, and_true] <;> (refine row_inj ?_; rw [hA, List.take_of_length_le (past_end (by assumption))]))
theorem refFroms_any (l : (List (ByteArray × ByteArray))) (hl : l.length ≤ 1000) : Contract Try.prog 49 [.row (l.map pairD)] [.d (.row ((froms l).map strD))] := by
 refine T.fn [] Try.func49 ?_
 refine xloopR (fb := []) T.ok (Nat.le_of_ble_eq_true rfl) [0] (fun (s : Nat × Nat × List ByteArray) => [(4, .c (.d (.sc (.int .i64 ((s.1 : Nat) : Int))))), (3, .c (.own 5 9 (s.2.2.map strD)))]) (fun s => s.1 ≤ l.length ∧ s.2.2 = froms (l.take s.1)) (fun s => l.length - s.1) (0, 5, []) ⟨Nat.zero_le _, rfl⟩ (x_ent (by first | rfl | (simp only [Tr.get]; simp; done)) (x_ent (by first | rfl | (simp only [Tr.get]; simp; done)) trivial)) ?_
 rintro s ⟨hk, hA⟩
 have hAl : s.2.2.length ≤ 1000 := by rw [hA]; exact froms_len hl
 refine x_len ?_
 refine br (fun hc1 => ?y1) (fun hc1 => ?n1)
 case' y1 =>
  obtain ⟨p, hp⟩ := elem_at hc1
  have hkl := lt_len hp
  first | refine x_ix (by exact mapAt hp) ?_ | refine x_ixI (by exact mapAt hp) ?_
  first | refine x_app ?_ (by first | exact strs_wide | exact pairs_wide | exact rs_wide | exact fD_wide | (simp [D.cells])) (hz := by first | exact snoc_map (g := strD) | exact one_map (g := strD) | rfl) | refine x_appN ?_ (by first | exact strs_wide | exact pairs_wide | exact rs_wide | exact fD_wide | (simp [D.cells]))
  first | refine x_bin (pr_add1 (by omega)) rfl ?_ | refine x_inc ?_ | refine x_add ?_ | refine x_bin rfl rfl ?_
  refine x_rnd (s.1 + 1, 0, s.2.2 ++ [p.1]) ⟨lt_len hp, by rw [hA]; exact (froms_next hp).symm⟩ (by (try dsimp only); have := lt_len hp; (try dsimp only); omega) rfl (x_ent (by first | rfl | (simp only [Tr.get]; simp; done)) (x_ent (by first | rfl | (simp only [Tr.get]; simp; done)) trivial)) rfl
 all_goals (refine x_ret ?_; simp only [fitsL, fits, C.asD, and_true] <;> (refine row_inj ?_; rw [hA, List.take_of_length_le (past_end (by assumption))]))
theorem heavyPairs_any (l : (List (ByteArray × ByteArray))) : Contract Try.prog 20 [.row (l.map pairD)] [.d (.sc (.bool (heavyP l)))] := by
 refine T.fn [] Try.func20 ?_
 refine x_len ?_
 refine br (fun hc1 => ?y1) (fun hc1 => ?n1)
 case' n1 =>
  have h20 : l.length ≤ 20 := by omega
  refine xloopR (fb := []) T.ok (Nat.le_of_ble_eq_true rfl) [0] (fun (k : Nat) => [(3, .c (.d (.sc (.int .i64 (k : Nat)))))]) (fun k => k ≤ l.length ∧ (l.take k).any (fun p => decide (200 < p.1.size) || decide (200 < p.2.size)) = false ∧ l.length ≤ 20) (fun k => l.length - k) 0 ⟨Nat.zero_le _, ⟨rfl, h20⟩⟩ (x_ent (by first | rfl | (simp only [Tr.get]; simp; done)) trivial) ?_
  rintro k ⟨hk, hi⟩
  refine x_len ?_
  refine br (fun hc2 => ?y2) (fun hc2 => ?n2)
  case' y2 =>
   obtain ⟨p, hp⟩ := elem_at hc2
   have hkl := lt_len hp
   first | refine x_ix (by exact mapAt hp) ?_ | refine x_ixI (by exact mapAt hp) ?_
   refine x_len ?_
   refine br (fun hg3 => ?y3) (fun hg3 => ?n3)
   case' y3 =>
    refine brT ?_
   case' n3 =>
    first | refine x_ix (by exact mapAt hp) ?_ | refine x_ixI (by exact mapAt hp) ?_
    refine x_len ?_
    refine br (fun hc5 => ?y5) (fun hc5 => ?n5)
    case' n5 =>
     first | refine x_inc ?_ | refine x_add ?_ | refine x_bin rfl rfl ?_
     refine x_rnd (k + 1) ⟨lt_len hp, any_next hp hi.1 (by simp; omega), hi.2⟩ (by (try dsimp only); have := lt_len hp; omega) rfl (x_ent (by first | rfl | (simp only [Tr.get]; simp; done)) trivial) rfl
 all_goals (refine x_ret ?_; simp only [fitsL, fits, C.asD, and_true] <;> (refine scb ?_; first | (have hh := any_hit (f := fun p : ByteArray × ByteArray => decide (200 < p.1.size) || decide (200 < p.2.size)) hp (by simp; omega); unfold heavyP; rw [hh, Bool.or_true]; done) | (have hh := any_end (past_end (by assumption)) hi.1; unfold heavyP; rw [hh, Bool.or_false]; symm; simp only [decide_eq_true_eq, decide_eq_false_iff_not, Bool.not_eq_true', Bool.not_eq_false', Bool.and_eq_true, Bool.or_eq_true, Bool.or_eq_false_iff, Bool.and_eq_false_iff, beq_iff_eq, beq_eq_false_iff_ne, ne_eq, Bool.not_true, Bool.not_false, Bool.false_eq_true, Bool.true_eq_false] at * <;> omega) | (symm; unfold heavyP; simp only [decide_eq_true_eq, decide_eq_false_iff_not, Bool.not_eq_true', Bool.not_eq_false', Bool.and_eq_true, Bool.or_eq_true, Bool.or_eq_false_iff, Bool.and_eq_false_iff, beq_iff_eq, beq_eq_false_iff_ne, ne_eq, Bool.not_true, Bool.not_false, Bool.false_eq_true, Bool.true_eq_false] at * <;> omega)))
theorem refTable_any (l m : (List (ByteArray × ByteArray))) (hl : l.length ≤ 1000) (hm : m.length ≤ 1000) : Contract Try.prog 26 [.row (l.map pairD), .row (m.map pairD)] [.d (.sc (.bool (rightT l m)))] := by
 refine T.fn [] Try.func26 ?_
 refine x_len ?_
 refine br (fun hg1 => ?y1) (fun hg1 => ?n1)
 case' y1 =>
  refine brT ?_
 case' n1 =>
  refine x_len ?_
  refine br (fun hc3 => ?y3) (fun hc3 => ?n3)
  case' n3 =>
   have hlo : 1 ≤ l.length := by omega
   have hhi : l.length ≤ 6 := by omega
   refine xloopR (fb := []) T.ok (Nat.le_of_ble_eq_true rfl) [0, 1] (fun (k : Nat) => [(5, .c (.d (.sc (.int .i64 (k : Nat)))))]) (fun k => k ≤ l.length ∧ okT l m k = true ∧ 1 ≤ l.length ∧ l.length ≤ 6) (fun k => l.length - k) 0 ⟨Nat.zero_le _, ⟨okT_zero l m, hlo, hhi⟩⟩ (x_ent (by first | rfl | (simp only [Tr.get]; simp; done)) trivial) ?_
   rintro k ⟨hk, hi⟩
   refine x_len ?_
   refine br (fun hc4 => ?y4) (fun hc4 => ?n4)
   case' y4 =>
    obtain ⟨p, hp⟩ := elem_at hc4
    have hkl := lt_len hp
    refine And.intro ⟨T.mixed, by decide +kernel⟩ ?_
    first | refine x_ix (by exact mapAt hp) ?_ | refine x_ixI (by exact mapAt hp) ?_
    refine x_call T.en_27 (refName_any _) ?_
    refine br (fun hg5 => ?y5) (fun hg5 => ?n5)
    case' y5 =>
     refine brT ?_
     refine brT ?_
    case' n5 =>
     first | refine x_bnd ?_ | refine x_bndI ?_
     refine x_row ?_ (by first | exact strs_wide | exact pairs_wide | exact rs_wide | exact fD_wide | (simp [D.cells])) (hy := by first | exact take_fold | rfl)
     refine x_call T.en_49 (refFroms_any _ (by first | assumption | exact hx0.2.1 | exact hx0.2.2 | (rw [List.length_take]; omega))) ?_
     first | refine x_ix (by exact mapAt hp) ?_ | refine x_ixI (by exact mapAt hp) ?_
     refine x_call T.en_48 (refHas_any _ _ (by first | (have := froms_len (k := k) hl; omega) | (have : (froms m).length ≤ 1000 := by unfold froms; rw [List.length_map]; exact hm); omega)) ?_
     refine br (fun hg8 => ?y8) (fun hg8 => ?n8)
     case' y8 =>
      refine brT ?_
     case' n8 =>
      refine x_call T.en_49 (refFroms_any _ (by first | assumption | exact hx0.2.1 | exact hx0.2.2 | (rw [List.length_take]; omega))) ?_
      first | refine x_ix (by exact mapAt hp) ?_ | refine x_ixI (by exact mapAt hp) ?_
      refine x_call T.en_48 (refHas_any _ _ (by first | (have := froms_len (k := k) hl; omega) | (have : (froms m).length ≤ 1000 := by unfold froms; rw [List.length_map]; exact hm); omega)) ?_
      refine br (fun hc10 => ?y10) (fun hc10 => ?n10)
      case' n10 =>
       first | refine x_inc ?_ | refine x_add ?_ | refine x_bin rfl rfl ?_
       refine x_rnd (k + 1) ⟨lt_len hp, okT_next hp hi.1 (by simp_all) (by simp_all) (by simp_all), hi.2⟩ (by (try dsimp only); have := lt_len hp; omega) rfl (x_ent (by first | rfl | (simp only [Tr.get]; simp; done)) trivial) rfl
 all_goals (refine x_ret ?_; simp only [fitsL, fits, C.asD, and_true] <;> (refine scb ?_; first | (refine (rightT_short ?_).symm; omega; done) | (refine (rightT_long ?_).symm; omega; done) | exact (rightT_yes hi.2.1 hi.2.2 (past_end (by assumption)) hi.1).symm | (refine (rightT_no hp ?_).symm; simp_all; done)))
theorem rightTable_any (l m : (List (ByteArray × ByteArray))) (hl : l.length ≤ 1000) (hm : m.length ≤ 1000) : Contract Try.prog 52 [.row (l.map pairD), .row (m.map pairD)] [.d (.sc (.bool (rightT l m)))] := by
 refine T.fn [] Try.func52 ?_
 refine x_len ?_
 refine br (fun hg1 => ?y1) (fun hg1 => ?n1)
 case' y1 =>
  refine brT ?_
 case' n1 =>
  refine x_len ?_
  refine br (fun hc3 => ?y3) (fun hc3 => ?n3)
  case' n3 =>
   have hlo : 1 ≤ l.length := by omega
   have hhi : l.length ≤ 6 := by omega
   refine x_len ?_
   refine xloopR (fb := []) T.ok (Nat.le_of_ble_eq_true rfl) [0, 1, 19, 20] (fun (k : Nat) => [(21, .c (.d (.sc (.int .i64 (k : Nat)))))]) (fun k => k ≤ l.length ∧ okT l m k = true ∧ 1 ≤ l.length ∧ l.length ≤ 6) (fun k => l.length - k) 0 ⟨Nat.zero_le _, ⟨okT_zero l m, hlo, hhi⟩⟩ (x_ent (by first | rfl | (simp only [Tr.get]; simp; done)) trivial) ?_
   rintro k ⟨hk, hi⟩
   refine br (fun hc4 => ?y4) (fun hc4 => ?n4)
   case' y4 =>
    obtain ⟨p, hp⟩ := elem_at hc4
    have hkl := lt_len hp
    first | refine x_ix (by first | exact mapAt hp | exact mapAt hq) ?_ | refine x_ixI (by first | exact mapAt hp | exact mapAt hq) ?_
    refine x_call T.en_31 (name_any _) ?_
    refine br (fun hc5 => ?y5) (fun hc5 => ?n5)
    case' n5 =>
     first | refine x_bnd ?_ | refine x_bndI ?_
     refine x_row ?_ (by first | exact strs_wide | exact pairs_wide | exact rs_wide | exact fD_wide | (simp [D.cells])) (hy := by first | exact take_fold | rfl)
     refine x_len ?_
     refine xloopR (fb := []) T.ok (Nat.le_of_ble_eq_true rfl) [0, 1, 6, 19, 20, 21, 32, 33] (fun (j : Nat) => [(34, .c (.d (.sc (.int .i64 (j : Nat)))))]) (fun j => j ≤ (l.take k).length ∧ p.1 ∉ froms ((l.take k).take j)) (fun j => (l.take k).length - j) 0 ⟨Nat.zero_le _, by simp [froms]⟩ (x_ent (by first | rfl | (simp only [Tr.get]; simp; done)) trivial) ?_
     rintro j ⟨hjk, hj⟩
     have htl : (l.take k).length ≤ 6 := by rw [List.length_take]; omega
     refine br (fun hc6 => ?y6) (fun hc6 => ?n6)
     case' y6 =>
      obtain ⟨q, hq⟩ := elem_at hc6
      have hkl2 := lt_len hq
      first | refine x_ix (by first | exact mapAt hp | exact mapAt hq) ?_ | refine x_ixI (by first | exact mapAt hp | exact mapAt hq) ?_
      refine br (fun hc7 => ?y7) (fun hc7 => ?n7)
      case' n7 =>
       first | refine x_inc ?_ | refine x_add ?_ | refine x_bin rfl rfl ?_
       refine x_rnd (j + 1) ⟨lt_len hq, froms_no hq hj (by assumption)⟩ (by (try dsimp only); have := lt_len hq; omega) rfl (x_ent (by first | rfl | (simp only [Tr.get]; simp; done)) trivial) rfl
     case' n6 =>
      have hjn : ¬ p.1 ∈ froms (l.take k) := by have h0 := past_end hc6; rw [List.take_of_length_le h0] at hj; exact hj
      refine x_call T.en_53 (case_any _ _ hm) ?_
      refine br (fun hc8 => ?y8) (fun hc8 => ?n8)
      case' n8 =>
       first | refine x_inc ?_ | refine x_add ?_ | refine x_bin rfl rfl ?_
       refine x_rnd (k + 1) ⟨lt_len hp, okT_next hp hi.1 (by simp_all) hjn (by have := caseT_some (t := m) (s := p.2); simp_all), hi.2⟩ (by (try dsimp only); have := lt_len hp; omega) rfl (x_ent (by first | rfl | (simp only [Tr.get]; simp; done)) trivial) rfl
 all_goals (refine x_ret ?_; simp only [fitsL, fits, C.asD, and_true] <;> (refine scb ?_; first | (refine (rightT_short ?_).symm; omega; done) | (refine (rightT_long ?_).symm; omega; done) | exact (rightT_yes hi.2.1 hi.2.2 (past_end (by assumption)) hi.1).symm | (refine (rightT_no hp ?_).symm; have hm1 := froms_mem hq (by assumption); simp [hm1]; done) | (refine (rightT_no hp ?_).symm; have := caseT_some (t := m) (s := p.2); simp_all; done)))
end Go.Vm
end
section
namespace Go.Vm
open Go.RowKit Go.Proofs
set_option maxRecDepth 10000
theorem lensSame_any (x y : LensD) (hx0 : okX x) : Contract Try.prog 8 [lD x, lD y] [.d (.sc (.bool (decide (x = y))))] := by
 refine T.fn [] Try.func8 ?_
 refine br (fun hg1 => ?y1) (fun hg1 => ?n1)
 case' y1 =>
  first | refine xeq_23e _ _ ?_ | refine xeq_23e _ noRef ?_ | refine xeq_23e noRef _ ?_
  refine br (fun hg2 => ?y2) (fun hg2 => ?n2)
  case' y2 =>
   refine br (fun hg3 => ?y3) (fun hg3 => ?n3)
   case' y3 =>
    refine br (fun hg4 => ?y4) (fun hg4 => ?n4)
    case' y4 =>
     refine br (fun hg5 => ?y5) (fun hg5 => ?n5)
     case' y5 =>
      refine x_call T.en_35 (fieldSame_any _ _ (by first | assumption | exact hx0.1)) ?_
      refine br (fun hg6 => ?y6) (fun hg6 => ?n6)
      case' y6 =>
       refine x_call T.en_36 (samePairs_any _ _ (by first | assumption | exact hx0.2.1 | exact hx0.2.2)) ?_
       refine br (fun hg7 => ?y7) (fun hg7 => ?n7)
       case' y7 =>
        refine x_call T.en_36 (samePairs_any _ _ (by first | assumption | exact hx0.2.1 | exact hx0.2.2)) ?_
      case' n6 =>
       refine brF ?_
     case' n5 =>
      refine brF ?_
      refine brF ?_
    case' n4 =>
     refine brF ?_
     refine brF ?_
     refine brF ?_
   case' n3 =>
    refine brF ?_
    refine brF ?_
    refine brF ?_
    refine brF ?_
  case' n2 =>
   refine brF ?_
   refine brF ?_
   refine brF ?_
   refine brF ?_
   refine brF ?_
 case' n1 =>
  refine brF ?_
  refine brF ?_
  refine brF ?_
  refine brF ?_
  refine brF ?_
  refine brF ?_
 all_goals (refine x_ret ?_; simp only [fitsL, fits, C.asD, and_true] <;> (refine scb ?_; clear hx0; cases x; cases y; simp_all))
theorem refLensSame_any (x y : LensD) (hx0 : okX x) : Contract Try.prog 9 [lD x, lD y] [.d (.sc (.bool (decide (x = y))))] := by
 refine T.fn [] Try.func9 ?_
 refine br (fun hg1 => ?y1) (fun hg1 => ?n1)
 case' y1 =>
  first | refine xeq_23e _ _ ?_ | refine xeq_23e _ noRef ?_ | refine xeq_23e noRef _ ?_
  refine br (fun hg2 => ?y2) (fun hg2 => ?n2)
  case' y2 =>
   refine br (fun hg3 => ?y3) (fun hg3 => ?n3)
   case' y3 =>
    refine br (fun hg4 => ?y4) (fun hg4 => ?n4)
    case' y4 =>
     refine br (fun hg5 => ?y5) (fun hg5 => ?n5)
     case' y5 =>
      refine x_call T.en_37 (refFieldSame_any _ _ (by first | assumption | exact hx0.1)) ?_
      refine br (fun hg6 => ?y6) (fun hg6 => ?n6)
      case' y6 =>
       refine x_call T.en_38 (refSamePairs_any _ _ (by first | assumption | exact hx0.2.1 | exact hx0.2.2)) ?_
       refine br (fun hg7 => ?y7) (fun hg7 => ?n7)
       case' y7 =>
        refine x_call T.en_38 (refSamePairs_any _ _ (by first | assumption | exact hx0.2.1 | exact hx0.2.2)) ?_
      case' n6 =>
       refine brF ?_
     case' n5 =>
      refine brF ?_
      refine brF ?_
    case' n4 =>
     refine brF ?_
     refine brF ?_
     refine brF ?_
   case' n3 =>
    refine brF ?_
    refine brF ?_
    refine brF ?_
    refine brF ?_
  case' n2 =>
   refine brF ?_
   refine brF ?_
   refine brF ?_
   refine brF ?_
   refine brF ?_
 case' n1 =>
  refine brF ?_
  refine brF ?_
  refine brF ?_
  refine brF ?_
  refine brF ?_
  refine brF ?_
 all_goals (refine x_ret ?_; simp only [fitsL, fits, C.asD, and_true] <;> (refine scb ?_; clear hx0; cases x; cases y; simp_all))
end Go.Vm
end
section
namespace Go.Vm
open Go.RowKit Go.Proofs
set_option maxRecDepth 10000
theorem parts_a {x : LensD} (h : x.kind = 1 ∨ x.kind = 5) : partsL x = (⟨x.kind, x.at_, x.name, noB, 0, noField, [], []⟩, true) := by unfold partsL; rw [if_pos h]
theorem parts_b {x : LensD} (h : x.kind = 2 ∨ x.kind = 3) : partsL x = (⟨x.kind, noRef, noB, noB, 0, x.field, [], []⟩, true) := by unfold partsL; rw [if_neg (by omega), if_pos h]
theorem parts_c {x : LensD} (h : x.kind = 4) : partsL x = (⟨x.kind, x.at_, noB, noB, 0, noField, [], []⟩, true) := by unfold partsL; rw [if_neg (by omega), if_neg (by omega), if_pos h]
theorem parts_d {x : LensD} (h : x.kind = 6 ∨ x.kind = 9) : partsL x = (⟨x.kind, x.at_, x.name, x.other, x.factor, noField, [], []⟩, true) := by unfold partsL; rw [if_neg (by omega), if_neg (by omega), if_neg (by omega), if_pos h]
theorem parts_e {x : LensD} (h : x.kind = 7 ∨ x.kind = 10) : partsL x = (⟨x.kind, x.at_, noB, x.other, 0, noField, [], []⟩, true) := by unfold partsL; rw [if_neg (by omega), if_neg (by omega), if_neg (by omega), if_neg (by omega), if_pos h]
theorem parts_f {x : LensD} (h : x.kind = 8) : partsL x = (⟨x.kind, x.at_, x.name, x.other, 0, noField, x.forth, x.back⟩, true) := by unfold partsL; rw [if_neg (by omega), if_neg (by omega), if_neg (by omega), if_neg (by omega), if_neg (by omega), if_pos h]
theorem parts_g {x : LensD} (h : ¬ x.kind = 1 ∧ ¬ x.kind = 2 ∧ ¬ x.kind = 3 ∧ ¬ x.kind = 4 ∧ ¬ x.kind = 5 ∧ ¬ x.kind = 6 ∧ ¬ x.kind = 7 ∧ ¬ x.kind = 8 ∧ ¬ x.kind = 9 ∧ ¬ x.kind = 10) : partsL x = (noLens, false) := by unfold partsL; rw [if_neg (by omega), if_neg (by omega), if_neg (by omega), if_neg (by omega), if_neg (by omega), if_neg (by omega)]
theorem refLensHeavy_any (x : LensD) : Contract Try.prog 5 [lD x] [.d (.sc (.bool (heavyL x)))] := by
 refine T.fn [] Try.func5 ?_
 refine x_len ?_
 refine br (fun hg1 => ?y1) (fun hg1 => ?n1)
 case' y1 =>
  refine brT ?_
  refine brT ?_
  refine brT ?_
  refine brT ?_
  refine brT ?_
 case' n1 =>
  refine x_len ?_
  refine br (fun hg7 => ?y7) (fun hg7 => ?n7)
  case' y7 =>
   refine brT ?_
   refine brT ?_
   refine brT ?_
   refine brT ?_
  case' n7 =>
   refine x_len ?_
   refine br (fun hg12 => ?y12) (fun hg12 => ?n12)
   case' y12 =>
    refine brT ?_
    refine brT ?_
    refine brT ?_
   case' n12 =>
    refine x_len ?_
    refine br (fun hg16 => ?y16) (fun hg16 => ?n16)
    case' y16 =>
     refine brT ?_
     refine brT ?_
    case' n16 =>
     refine x_call T.en_19 (refFieldHeavy_any _) ?_
     refine br (fun hg19 => ?y19) (fun hg19 => ?n19)
     case' y19 =>
      refine brT ?_
     case' n19 =>
      refine x_call T.en_20 (heavyPairs_any _) ?_
      refine br (fun hg21 => ?y21) (fun hg21 => ?n21)
      case' n21 =>
       refine x_call T.en_20 (heavyPairs_any _) ?_
 all_goals (refine x_ret ?_; simp only [fitsL, fits, C.asD, and_true] <;> (refine scb ?_; symm; unfold heavyL; first | (simp_all; done) | (simp_all <;> omega)))
theorem parts_any (x : LensD) (hx0 : okX x) : Contract Try.prog 28 [lD x] [.d (lD (partsL x).1), .d (.sc (.bool ((partsL x).2)))] := by
 refine T.fn [] Try.func28 ?_
 refine br (fun hc1 => ?y1) (fun hc1 => ?n1)
 case' y1 =>
  have hkkind_1 := hc1
  refine brT ?_
  refine And.intro ⟨T.mixed, by decide +kernel⟩ ?_
 case' n1 =>
  have hnkind_1 := hc1
  refine br (fun hc3 => ?y3) (fun hc3 => ?n3)
  case' y3 =>
   have hkkind_5 := hc3
   refine And.intro ⟨T.mixed, by decide +kernel⟩ ?_
  case' n3 =>
   have hnkind_5 := hc3
   refine br (fun hc4 => ?y4) (fun hc4 => ?n4)
   case' y4 =>
    have hkkind_2 := hc4
    refine brT ?_
   case' n4 =>
    have hnkind_2 := hc4
    refine br (fun hc6 => ?y6) (fun hc6 => ?n6)
    case' y6 =>
     have hkkind_3 := hc6
    case' n6 =>
     have hnkind_3 := hc6
     refine br (fun hc7 => ?y7) (fun hc7 => ?n7)
     case' y7 =>
      have hkkind_4 := hc7
     case' n7 =>
      have hnkind_4 := hc7
      refine br (fun hc8 => ?y8) (fun hc8 => ?n8)
      case' y8 =>
       have hkkind_6 := hc8
       refine brT ?_
       refine And.intro ⟨T.mixed, by decide +kernel⟩ ?_
      case' n8 =>
       have hnkind_6 := hc8
       refine br (fun hc10 => ?y10) (fun hc10 => ?n10)
       case' y10 =>
        have hkkind_9 := hc10
        refine And.intro ⟨T.mixed, by decide +kernel⟩ ?_
       case' n10 =>
        have hnkind_9 := hc10
        refine br (fun hc11 => ?y11) (fun hc11 => ?n11)
        case' y11 =>
         have hkkind_7 := hc11
         refine brT ?_
         refine And.intro ⟨T.mixed, by decide +kernel⟩ ?_
        case' n11 =>
         have hnkind_7 := hc11
         refine br (fun hc13 => ?y13) (fun hc13 => ?n13)
         case' y13 =>
          have hkkind_10 := hc13
          refine And.intro ⟨T.mixed, by decide +kernel⟩ ?_
         case' n13 =>
          have hnkind_10 := hc13
          refine br (fun hc14 => ?y14) (fun hc14 => ?n14)
          case' y14 =>
           have hkkind_8 := hc14
           refine And.intro ⟨T.mixed, by decide +kernel⟩ ?_
           refine And.intro ⟨T.mixed, by decide +kernel⟩ ?_
          case' n14 =>
           have hnkind_8 := hc14
 all_goals (refine x_ret ?_; simp only [fitsL, fits, C.asD, and_true] <;> (first | (rw [parts_a (by omega)]; exact ⟨by kernel_rfl, by kernel_rfl⟩) | (rw [parts_b (by omega)]; exact ⟨by kernel_rfl, by kernel_rfl⟩) | (rw [parts_c (by omega)]; exact ⟨by kernel_rfl, by kernel_rfl⟩) | (rw [parts_d (by omega)]; exact ⟨by kernel_rfl, by kernel_rfl⟩) | (rw [parts_e (by omega)]; exact ⟨by kernel_rfl, by kernel_rfl⟩) | (rw [parts_f (by omega)]; exact ⟨by kernel_rfl, by kernel_rfl⟩) | (rw [parts_g (by omega)]; exact ⟨by kernel_rfl, by kernel_rfl⟩)))
theorem rightTables_any (x : LensD) (hx0 : okX x) : Contract Try.prog 34 [lD x] [.d (.sc (.bool (rightTb x)))] := by
 refine T.fn [] Try.func34 ?_
 refine x_call T.en_31 (name_any _) ?_
 refine br (fun hg1 => ?y1) (fun hg1 => ?n1)
 case' y1 =>
  refine brT ?_
  refine brT ?_
 case' n1 =>
  refine x_call T.en_52 (rightTable_any _ _ (by first | exact hx0.2.1 | exact hx0.2.2) (by first | exact hx0.2.1 | exact hx0.2.2)) ?_
  refine br (fun hg4 => ?y4) (fun hg4 => ?n4)
  case' y4 =>
   refine brT ?_
  case' n4 =>
   refine x_call T.en_52 (rightTable_any _ _ (by first | exact hx0.2.1 | exact hx0.2.2) (by first | exact hx0.2.1 | exact hx0.2.2)) ?_
   refine br (fun hc6 => ?y6) (fun hc6 => ?n6)
   case' n6 =>
    refine x_call T.en_53 (case_any _ _ (by first | assumption | exact hx0.2.1 | exact hx0.2.2)) ?_
    refine br (fun hg7 => ?y7) (fun hg7 => ?n7)
    case' y7 =>
     refine brT ?_
    case' n7 =>
     refine br (fun hc9 => ?y9) (fun hc9 => ?n9)
     case' n9 =>
      refine x_call T.en_53 (case_any _ _ (by first | assumption | exact hx0.2.1 | exact hx0.2.2)) ?_
      refine br (fun hg10 => ?y10) (fun hg10 => ?n10)
 all_goals (refine x_ret ?_; simp only [fitsL, fits, C.asD, and_true] <;> (refine scb ?_; unfold rightTb; first | (simp_all; done) | (rcases hcf : caseT x.forth x.name with ⟨a, b⟩; rcases hcb : caseT x.back x.other with ⟨c, d⟩; simp_all; done)))
end Go.Vm
end
section
namespace Go.Vm
open Go.RowKit Go.Proofs
set_option maxRecDepth 10000
theorem lensRight_any (x : LensD) (hx0 : okX x) : Contract Try.prog 7 [lD x] [.d (.sc (.bool (rightL x)))] := by
 refine T.fn [] Try.func7 ?_
 refine x_call T.en_28 (parts_any _ hx0) ?_
 refine And.intro (fun hg1 => ?y1) (fun hg1 => ?n1)
 case' y1 =>
  refine brT ?_
 case' n1 =>
  refine x_call T.en_8 (lensSame_any _ _ (by first | assumption | exact hx0)) ?_
  refine And.intro (fun hc3 => ?y3) (fun hc3 => ?n3)
  case' n3 =>
   refine And.intro (fun hg4 => ?y4) (fun hg4 => ?n4)
   case' y4 =>
    have hkkind_2 := hg4
    refine brT ?_
    refine x_call T.en_29 (fieldRight_any _ (by first | assumption | exact hx0.1)) ?_
   case' n4 =>
    have hnkind_2 := hg4
    refine And.intro (fun hc6 => ?y6) (fun hc6 => ?n6)
    case' y6 =>
     have hkkind_3 := hc6
     refine x_call T.en_29 (fieldRight_any _ (by first | assumption | exact hx0.1)) ?_
    case' n6 =>
     have hnkind_3 := hc6
     refine x_call T.en_30 (place_any _) ?_
     refine And.intro (fun hc7 => ?y7) (fun hc7 => ?n7)
     case' n7 =>
      refine And.intro (fun hc8 => ?y8) (fun hc8 => ?n8)
      case' y8 =>
       have hkkind_1 := hc8
       refine x_call T.en_31 (name_any _) ?_
      case' n8 =>
       have hnkind_1 := hc8
       refine And.intro (fun hc9 => ?y9) (fun hc9 => ?n9)
       case' y9 =>
        have hkkind_4 := hc9
       case' n9 =>
        have hnkind_4 := hc9
        refine And.intro (fun hc10 => ?y10) (fun hc10 => ?n10)
        case' y10 =>
         have hkkind_5 := hc10
         refine And.intro (fun hg11 => ?y11) (fun hg11 => ?n11)
         case' y11 =>
          refine x_call T.en_31 (name_any _) ?_
        case' n10 =>
         have hnkind_5 := hc10
         refine And.intro (fun hc12 => ?y12) (fun hc12 => ?n12)
         case' y12 =>
          have hkkind_6 := hc12
          refine brT ?_
          refine x_call T.en_31 (name_any _) ?_
          refine And.intro (fun hg14 => ?y14) (fun hg14 => ?n14)
          case' y14 =>
           refine x_call T.en_31 (name_any _) ?_
           refine And.intro (fun hg15 => ?y15) (fun hg15 => ?n15)
           case' y15 =>
            refine And.intro (fun hg16 => ?y16) (fun hg16 => ?n16)
            case' y16 =>
             refine x_call T.en_32 (factor_any _) ?_
           case' n15 =>
            refine brF ?_
          case' n14 =>
           refine brF ?_
           refine brF ?_
         case' n12 =>
          have hnkind_6 := hc12
          refine And.intro (fun hc20 => ?y20) (fun hc20 => ?n20)
          case' y20 =>
           have hkkind_9 := hc20
           refine x_call T.en_31 (name_any _) ?_
           refine And.intro (fun hg21 => ?y21) (fun hg21 => ?n21)
           case' y21 =>
            refine x_call T.en_31 (name_any _) ?_
            refine And.intro (fun hg22 => ?y22) (fun hg22 => ?n22)
            case' y22 =>
             refine And.intro (fun hg23 => ?y23) (fun hg23 => ?n23)
             case' y23 =>
              refine x_call T.en_32 (factor_any _) ?_
            case' n22 =>
             refine brF ?_
           case' n21 =>
            refine brF ?_
            refine brF ?_
          case' n20 =>
           have hnkind_9 := hc20
           refine And.intro (fun hc27 => ?y27) (fun hc27 => ?n27)
           case' y27 =>
            have hkkind_7 := hc27
            refine brT ?_
            refine x_call T.en_33 (text_any _) ?_
           case' n27 =>
            have hnkind_7 := hc27
            refine And.intro (fun hc29 => ?y29) (fun hc29 => ?n29)
            case' y29 =>
             have hkkind_10 := hc29
             refine x_call T.en_33 (text_any _) ?_
            case' n29 =>
             have hnkind_10 := hc29
             refine x_call T.en_34 (rightTables_any _ hx0) ?_
 all_goals (refine x_ret ?_; simp only [fitsL, fits, C.asD, and_true] <;> (refine scb ?_; rw [← rightLp_eq, rightLp_q]; generalize (partsL x).2 = b2 at *; generalize decide (x = (partsL x).1) = b1 at *; unfold rightLq; first | (simp_all; done) | (simp_all [emp]; done) | grind))
theorem tables_any (x : LensD) : Contract Try.prog 21 [lD x] [.d (.sc (.bool (!(decide (x.forth.length = 0) && decide (x.back.length = 0)))))] := by
 refine T.fn [] Try.func21 ?_
 refine x_len ?_
 refine br (fun hg1 => ?y1) (fun hg1 => ?n1)
 case' n1 =>
  refine x_len ?_
 all_goals (refine x_ret ?_; simp only [fitsL, fits, C.asD, and_true] <;> (refine scb ?_; first | (symm; simp only [decide_eq_true_eq, decide_eq_false_iff_not, Bool.not_eq_true', Bool.not_eq_false', Bool.and_eq_true, Bool.or_eq_true, Bool.or_eq_false_iff, Bool.and_eq_false_iff, beq_iff_eq, beq_eq_false_iff_ne, ne_eq, Bool.not_true, Bool.not_false, Bool.false_eq_true, Bool.true_eq_false] at * <;> omega) | (rw [Bool.eq_iff_iff]; simp only [decide_eq_true_eq, decide_eq_false_iff_not, Bool.not_eq_true', Bool.not_eq_false', Bool.and_eq_true, Bool.or_eq_true, Bool.or_eq_false_iff, Bool.and_eq_false_iff, beq_iff_eq, beq_eq_false_iff_ne, ne_eq, Bool.not_true, Bool.not_false, Bool.false_eq_true, Bool.true_eq_false] at * <;> omega)))
theorem none_any (x : LensD) (hx0 : okX x) : Contract Try.prog 24 [lD x] [.d (.sc (.bool (decide (x.field = noField))))] := by
 refine T.fn [] Try.func24 ?_
 refine x_call T.en_37 (refFieldSame_any x.field noField hx0.1) ?_
 all_goals (refine x_ret ?_; simp only [fitsL, fits, C.asD, and_true] <;> (rfl))
theorem refLensRight_any (x : LensD) (hx0 : okX x) : Contract Try.prog 6 [lD x] [.d (.sc (.bool (rightL x)))] := by
 refine T.fn [] Try.func6 ?_
 refine br (fun hg1 => ?y1) (fun hg1 => ?n1)
 case' y1 =>
  have hkkind_2 := hg1
  refine brT ?_
  first | refine xeq_23e _ _ ?_ | refine xeq_23e _ noRef ?_ | refine xeq_23e noRef _ ?_
  refine br (fun hg3 => ?y3) (fun hg3 => ?n3)
  case' y3 =>
   refine br (fun hg4 => ?y4) (fun hg4 => ?n4)
   case' y4 =>
    refine br (fun hg5 => ?y5) (fun hg5 => ?n5)
    case' y5 =>
     refine br (fun hg6 => ?y6) (fun hg6 => ?n6)
     case' y6 =>
      refine x_call T.en_21 (tables_any _) ?_
      refine br (fun hg7 => ?y7) (fun hg7 => ?n7)
      case' y7 =>
       refine x_call T.en_22 (refFieldRight_any _ (by first | assumption | exact hx0.1)) ?_
     case' n6 =>
      refine brF ?_
    case' n5 =>
     refine brF ?_
     refine brF ?_
   case' n4 =>
    refine brF ?_
    refine brF ?_
    refine brF ?_
  case' n3 =>
   refine brF ?_
   refine brF ?_
   refine brF ?_
   refine brF ?_
 case' n1 =>
  have hnkind_2 := hg1
  refine br (fun hc18 => ?y18) (fun hc18 => ?n18)
  case' y18 =>
   have hkkind_3 := hc18
   first | refine xeq_23e _ _ ?_ | refine xeq_23e _ noRef ?_ | refine xeq_23e noRef _ ?_
   refine br (fun hg19 => ?y19) (fun hg19 => ?n19)
   case' y19 =>
    refine br (fun hg20 => ?y20) (fun hg20 => ?n20)
    case' y20 =>
     refine br (fun hg21 => ?y21) (fun hg21 => ?n21)
     case' y21 =>
      refine br (fun hg22 => ?y22) (fun hg22 => ?n22)
      case' y22 =>
       refine x_call T.en_21 (tables_any _) ?_
       refine br (fun hg23 => ?y23) (fun hg23 => ?n23)
       case' y23 =>
        refine x_call T.en_22 (refFieldRight_any _ (by first | assumption | exact hx0.1)) ?_
      case' n22 =>
       refine brF ?_
     case' n21 =>
      refine brF ?_
      refine brF ?_
    case' n20 =>
     refine brF ?_
     refine brF ?_
     refine brF ?_
   case' n19 =>
    refine brF ?_
    refine brF ?_
    refine brF ?_
    refine brF ?_
  case' n18 =>
   have hnkind_3 := hc18
   refine x_call T.en_23 (refPlace_any _) ?_
   refine br (fun hg34 => ?y34) (fun hg34 => ?n34)
   case' y34 =>
    refine brT ?_
   case' n34 =>
    refine x_call T.en_24 (none_any _ hx0) ?_
    refine br (fun hc36 => ?y36) (fun hc36 => ?n36)
    case' n36 =>
     refine br (fun hc37 => ?y37) (fun hc37 => ?n37)
     case' y37 =>
      have hkkind_8 := hc37
      refine x_call T.en_25 (refCase_any _ _ (by first | assumption | exact hx0.2.1 | exact hx0.2.2)) ?_
      refine x_call T.en_25 (refCase_any _ _ (by first | assumption | exact hx0.2.1 | exact hx0.2.2)) ?_
      refine br (fun hg38 => ?y38) (fun hg38 => ?n38)
      case' y38 =>
       refine x_call T.en_26 (refTable_any _ _ (by first | exact hx0.2.1 | exact hx0.2.2) (by first | exact hx0.2.1 | exact hx0.2.2)) ?_
       refine br (fun hg39 => ?y39) (fun hg39 => ?n39)
       case' y39 =>
        refine x_call T.en_26 (refTable_any _ _ (by first | exact hx0.2.1 | exact hx0.2.2) (by first | exact hx0.2.1 | exact hx0.2.2)) ?_
        refine br (fun hg40 => ?y40) (fun hg40 => ?n40)
        case' y40 =>
         refine br (fun hg41 => ?y41) (fun hg41 => ?n41)
         case' y41 =>
          refine br (fun hg42 => ?y42) (fun hg42 => ?n42)
          case' y42 =>
           refine br (fun hg43 => ?y43) (fun hg43 => ?n43)
          case' n42 =>
           refine brF ?_
         case' n41 =>
          refine brF ?_
          refine brF ?_
        case' n40 =>
         refine brF ?_
         refine brF ?_
         refine brF ?_
       case' n39 =>
        refine brF ?_
        refine brF ?_
        refine brF ?_
        refine brF ?_
      case' n38 =>
       refine brF ?_
       refine brF ?_
       refine brF ?_
       refine brF ?_
       refine brF ?_
     case' n37 =>
      have hnkind_8 := hc37
      refine x_call T.en_21 (tables_any _) ?_
      refine br (fun hc59 => ?y59) (fun hc59 => ?n59)
      case' n59 =>
       refine br (fun hg60 => ?y60) (fun hg60 => ?n60)
       case' y60 =>
        have hkkind_6 := hg60
        refine brT ?_
        refine x_call T.en_27 (refName_any _) ?_
        refine br (fun hg62 => ?y62) (fun hg62 => ?n62)
        case' y62 =>
         refine x_call T.en_27 (refName_any _) ?_
         refine br (fun hg63 => ?y63) (fun hg63 => ?n63)
         case' y63 =>
          refine br (fun hg64 => ?y64) (fun hg64 => ?n64)
          case' y64 =>
           refine br (fun hg65 => ?y65) (fun hg65 => ?n65)
          case' n64 =>
           refine brF ?_
         case' n63 =>
          refine brF ?_
          refine brF ?_
        case' n62 =>
         refine brF ?_
         refine brF ?_
         refine brF ?_
       case' n60 =>
        have hnkind_6 := hg60
        refine br (fun hc72 => ?y72) (fun hc72 => ?n72)
        case' y72 =>
         have hkkind_9 := hc72
         refine x_call T.en_27 (refName_any _) ?_
         refine br (fun hg73 => ?y73) (fun hg73 => ?n73)
         case' y73 =>
          refine x_call T.en_27 (refName_any _) ?_
          refine br (fun hg74 => ?y74) (fun hg74 => ?n74)
          case' y74 =>
           refine br (fun hg75 => ?y75) (fun hg75 => ?n75)
           case' y75 =>
            refine br (fun hg76 => ?y76) (fun hg76 => ?n76)
           case' n75 =>
            refine brF ?_
          case' n74 =>
           refine brF ?_
           refine brF ?_
         case' n73 =>
          refine brF ?_
          refine brF ?_
          refine brF ?_
        case' n72 =>
         have hnkind_9 := hc72
         refine br (fun hc83 => ?y83) (fun hc83 => ?n83)
         case' n83 =>
          refine br (fun hg84 => ?y84) (fun hg84 => ?n84)
          case' y84 =>
           have hkkind_7 := hg84
           refine brT ?_
           refine br (fun hg86 => ?y86) (fun hg86 => ?n86)
           case' y86 =>
            refine x_len ?_
          case' n84 =>
           have hnkind_7 := hg84
           refine br (fun hc87 => ?y87) (fun hc87 => ?n87)
           case' y87 =>
            have hkkind_10 := hc87
            refine br (fun hg88 => ?y88) (fun hg88 => ?n88)
            case' y88 =>
             refine x_len ?_
           case' n87 =>
            have hnkind_10 := hc87
            refine br (fun hc89 => ?y89) (fun hc89 => ?n89)
            case' n89 =>
             refine br (fun hc90 => ?y90) (fun hc90 => ?n90)
             case' y90 =>
              have hkkind_1 := hc90
              refine x_call T.en_27 (refName_any _) ?_
             case' n90 =>
              have hnkind_1 := hc90
              refine br (fun hc91 => ?y91) (fun hc91 => ?n91)
              case' y91 =>
               have hkkind_4 := hc91
               refine br (fun hg92 => ?y92) (fun hg92 => ?n92)
              case' n91 =>
               have hnkind_4 := hc91
               refine br (fun hg93 => ?y93) (fun hg93 => ?n93)
               case' y93 =>
                have hkkind_5 := hg93
                refine br (fun hg94 => ?y94) (fun hg94 => ?n94)
                case' y94 =>
                 refine x_call T.en_27 (refName_any _) ?_
               case' n93 =>
                have hnkind_5 := hg93
                refine brF ?_
 all_goals (refine x_ret ?_; simp only [fitsL, fits, C.asD, and_true] <;> (refine scb ?_; unfold rightL; first | (simp_all; done) | (simp_all [emp]; done) | (rcases hcf : caseT x.forth x.name with ⟨a, b⟩; rcases hcb : caseT x.back x.other with ⟨c, d⟩; simp_all; done) | grind))
end Go.Vm
end
section
namespace Go.Vm
open Go.RowKit Go.Proofs
set_option maxRecDepth 10000
theorem goes_2 {x : LensD} (h : x.kind = 2) : goesL x = [] := by simp [goesL, h]
theorem goes_3 {x : LensD} (h : x.kind = 3) : goesL x = [x.field.at_] := by simp [goesL, h]
theorem goes_9 {x : LensD} (h : x.kind = 9) : goesL x = [named x.at_ x.name, named x.at_ x.other] := by simp [goesL, h]
theorem goes_o {x : LensD} (h2 : ¬ x.kind = 2) (h3 : ¬ x.kind = 3) (h9 : ¬ x.kind = 9) : goesL x = [x.at_] := by simp [goesL, h2, h3, h9]
theorem comes_2 {x : LensD} (h : x.kind = 2) : comesL x = [x.field.at_] := by simp [comesL, h]
theorem comes_3 {x : LensD} (h : x.kind = 3) : comesL x = [] := by simp [comesL, h]
theorem comes_6 {x : LensD} (h : x.kind = 6) : comesL x = [named x.at_ x.name, named x.at_ x.other] := by simp [comesL, h]
theorem comes_1 {x : LensD} (h : x.kind = 1) : comesL x = [named x.at_ x.name] := by simp [comesL, h]
theorem comes_4 {x : LensD} (h : x.kind = 4) : comesL x = [⟨x.at_.scope, noB, x.at_.name⟩] := by simp [comesL, h]
theorem comes_5 {x : LensD} (h : x.kind = 5) : comesL x = [⟨x.at_.scope, x.name, x.at_.name⟩] := by simp [comesL, h]
theorem comes_o {x : LensD} (h1 : ¬ x.kind = 1) (h2 : ¬ x.kind = 2) (h3 : ¬ x.kind = 3) (h4 : ¬ x.kind = 4) (h5 : ¬ x.kind = 5) (h6 : ¬ x.kind = 6) : comesL x = [x.at_] := by simp [comesL, h1, h2, h3, h4, h5, h6]
theorem named_any (r : RefD) (s : ByteArray) : Contract Try.prog 40 [rD r, .sc (.string s)] [.d (rD (named r s))] := by
 refine T.fn [] Try.func40 ?_
 all_goals (refine x_ret ?_; simp only [fitsL, fits, C.asD, and_true] <;> (rfl))
theorem beside_any (r : RefD) (s : ByteArray) : Contract Try.prog 39 [rD r, .sc (.string s)] [.d (rD (named r s))] := by
 refine T.fn [] Try.func39 ?_
 all_goals (refine x_ret ?_; simp only [fitsL, fits, C.asD, and_true] <;> (rfl))
theorem lensGoes_any (x : LensD) (hx0 : okX x) : Contract Try.prog 10 [lD x] [.d (.row ((if rightL x = true then goesL x else []).map rD))] := by
 refine T.fn [] Try.func10 ?_
 refine x_call T.en_7 (lensRight_any _ hx0) ?_
 refine br (fun hc1 => ?y1) (fun hc1 => ?n1)
 case' y1 =>
  have hr0 : ¬ rightL x = true := by simpa using hc1
 case' n1 =>
  have hr1 : rightL x = true := by simpa using hc1
  refine br (fun hc2 => ?y2) (fun hc2 => ?n2)
  case' y2 =>
   have hkkind_2 := hc2
  case' n2 =>
   have hnkind_2 := hc2
   refine br (fun hc3 => ?y3) (fun hc3 => ?n3)
   case' y3 =>
    have hkkind_3 := hc3
   case' n3 =>
    have hnkind_3 := hc3
    refine br (fun hc4 => ?y4) (fun hc4 => ?n4)
    case' y4 =>
     have hkkind_9 := hc4
     refine And.intro ⟨T.mixed, by decide +kernel⟩ ?_
     refine x_call T.en_39 (beside_any _ _) ?_
     refine x_call T.en_39 (beside_any _ _) ?_
    case' n4 =>
     have hnkind_9 := hc4
 all_goals (refine x_ret ?_; simp only [fitsL, fits, C.asD, and_true] <;> (first | (rw [if_neg hr0]; rfl) | (rw [if_pos hr1, goes_2 hkkind_2]; rfl) | (rw [if_pos hr1, goes_3 hkkind_3]; rfl) | (rw [if_pos hr1, goes_9 hkkind_9]; rfl) | (rw [if_pos hr1, goes_o hnkind_2 hnkind_3 hnkind_9]; rfl)))
theorem lensComes_any (x : LensD) (hx0 : okX x) : Contract Try.prog 11 [lD x] [.d (.row ((if rightL x = true then comesL x else []).map rD))] := by
 refine T.fn [] Try.func11 ?_
 refine x_call T.en_7 (lensRight_any _ hx0) ?_
 refine br (fun hc1 => ?y1) (fun hc1 => ?n1)
 case' y1 =>
  have hr0 : ¬ rightL x = true := by simpa using hc1
 case' n1 =>
  have hr1 : rightL x = true := by simpa using hc1
  refine br (fun hc2 => ?y2) (fun hc2 => ?n2)
  case' y2 =>
   have hkkind_1 := hc2
   refine x_call T.en_39 (beside_any _ _) ?_
  case' n2 =>
   have hnkind_1 := hc2
   refine br (fun hc3 => ?y3) (fun hc3 => ?n3)
   case' y3 =>
    have hkkind_2 := hc3
   case' n3 =>
    have hnkind_2 := hc3
    refine br (fun hc4 => ?y4) (fun hc4 => ?n4)
    case' y4 =>
     have hkkind_3 := hc4
    case' n4 =>
     have hnkind_3 := hc4
     refine br (fun hc5 => ?y5) (fun hc5 => ?n5)
     case' y5 =>
      have hkkind_4 := hc5
     case' n5 =>
      have hnkind_4 := hc5
      refine br (fun hc6 => ?y6) (fun hc6 => ?n6)
      case' y6 =>
       have hkkind_5 := hc6
      case' n6 =>
       have hnkind_5 := hc6
       refine br (fun hc7 => ?y7) (fun hc7 => ?n7)
       case' y7 =>
        have hkkind_6 := hc7
        refine And.intro ⟨T.mixed, by decide +kernel⟩ ?_
        refine x_call T.en_39 (beside_any _ _) ?_
        refine x_call T.en_39 (beside_any _ _) ?_
       case' n7 =>
        have hnkind_6 := hc7
 all_goals (refine x_ret ?_; simp only [fitsL, fits, C.asD, and_true] <;> (first | (rw [if_neg hr0]; rfl) | (rw [if_pos hr1, comes_2 hkkind_2]; rfl) | (rw [if_pos hr1, comes_3 hkkind_3]; rfl) | (rw [if_pos hr1, comes_6 hkkind_6]; rfl) | (rw [if_pos hr1, comes_1 hkkind_1]; rfl) | (rw [if_pos hr1, comes_4 hkkind_4]; rfl) | (rw [if_pos hr1, comes_5 hkkind_5]; rfl) | (rw [if_pos hr1, comes_o hnkind_1 hnkind_2 hnkind_3 hnkind_4 hnkind_5 hnkind_6]; rfl)))
theorem refGoes_any (x : LensD) : Contract Try.prog 13 [lD x] [.d (.row ((goesL x).map rD))] := by
 refine T.fn [] Try.func13 ?_
 refine br (fun hc1 => ?y1) (fun hc1 => ?n1)
 case' y1 =>
  have hkkind_2 := hc1
 case' n1 =>
  have hnkind_2 := hc1
  refine br (fun hc2 => ?y2) (fun hc2 => ?n2)
  case' y2 =>
   have hkkind_3 := hc2
  case' n2 =>
   have hnkind_3 := hc2
   refine br (fun hc3 => ?y3) (fun hc3 => ?n3)
   case' y3 =>
    have hkkind_9 := hc3
    refine And.intro ⟨T.mixed, by decide +kernel⟩ ?_
    refine x_call T.en_40 (named_any _ _) ?_
    refine x_call T.en_40 (named_any _ _) ?_
   case' n3 =>
    have hnkind_9 := hc3
 all_goals (refine x_ret ?_; simp only [fitsL, fits, C.asD, and_true] <;> (first | (rw [goes_2 hkkind_2]; rfl) | (rw [goes_3 hkkind_3]; rfl) | (rw [goes_9 hkkind_9]; rfl) | (rw [goes_o hnkind_2 hnkind_3 hnkind_9]; rfl)))
theorem refComes_any (x : LensD) : Contract Try.prog 14 [lD x] [.d (.row ((comesL x).map rD))] := by
 refine T.fn [] Try.func14 ?_
 refine br (fun hc1 => ?y1) (fun hc1 => ?n1)
 case' y1 =>
  have hkkind_2 := hc1
 case' n1 =>
  have hnkind_2 := hc1
  refine br (fun hc2 => ?y2) (fun hc2 => ?n2)
  case' y2 =>
   have hkkind_3 := hc2
  case' n2 =>
   have hnkind_3 := hc2
   refine br (fun hc3 => ?y3) (fun hc3 => ?n3)
   case' y3 =>
    have hkkind_6 := hc3
    refine And.intro ⟨T.mixed, by decide +kernel⟩ ?_
    refine x_call T.en_40 (named_any _ _) ?_
    refine x_call T.en_40 (named_any _ _) ?_
   case' n3 =>
    have hnkind_6 := hc3
    refine br (fun hc4 => ?y4) (fun hc4 => ?n4)
    case' y4 =>
     have hkkind_1 := hc4
     refine x_call T.en_40 (named_any _ _) ?_
    case' n4 =>
     have hnkind_1 := hc4
     refine br (fun hc5 => ?y5) (fun hc5 => ?n5)
     case' y5 =>
      have hkkind_4 := hc5
      refine br (fun hc6 => ?y6) (fun hc6 => ?n6)
      case' y6 =>
       exfalso; omega
      case' n6 =>
       have hnkind_5 := hc6
     case' n5 =>
      have hnkind_4 := hc5
      refine br (fun hc7 => ?y7) (fun hc7 => ?n7)
      case' y7 =>
       have hkkind_5 := hc7
      case' n7 =>
       have hnkind_5 := hc7
 all_goals (refine x_ret ?_; simp only [fitsL, fits, C.asD, and_true] <;> (first | (rw [comes_2 hkkind_2]; rfl) | (rw [comes_3 hkkind_3]; rfl) | (rw [comes_6 hkkind_6]; rfl) | (rw [comes_1 hkkind_1]; rfl) | (rw [comes_4 hkkind_4]; rfl) | (rw [comes_5 hkkind_5]; rfl) | (rw [comes_o hnkind_1 hnkind_2 hnkind_3 hnkind_4 hnkind_5 hnkind_6]; rfl)))
end Go.Vm
end
section
namespace Go.Vm
open Go.RowKit Go.Proofs
set_option maxRecDepth 10000
theorem lensGoes_at (x : LensD) (hx0 : okX x) (hx : rightL x = true) : Contract Try.prog 10 [lD x] [.d (.row ((goesL x).map rD))] := by have h := lensGoes_any x hx0; rwa [if_pos hx] at h
theorem lensComes_at (x : LensD) (hx0 : okX x) (hx : rightL x = true) : Contract Try.prog 11 [lD x] [.d (.row ((comesL x).map rD))] := by have h := lensComes_any x hx0; rwa [if_pos hx] at h
theorem go9_0 {x : LensD} (h : x.kind = 9) : ((goesL x).map rD)[(0 : Int).toNat]? = some (rD (named x.at_ x.name)) := by rw [goes_9 h]; rfl
theorem go9_1 {x : LensD} (h : x.kind = 9) : ((goesL x).map rD)[(1 : Int).toNat]? = some (rD (named x.at_ x.other)) := by rw [goes_9 h]; rfl
theorem co6_0 {x : LensD} (h : x.kind = 6) : ((comesL x).map rD)[(0 : Int).toNat]? = some (rD (named x.at_ x.name)) := by rw [comes_6 h]; rfl
theorem co6_1 {x : LensD} (h : x.kind = 6) : ((comesL x).map rD)[(1 : Int).toNat]? = some (rD (named x.at_ x.other)) := by rw [comes_6 h]; rfl
theorem comes_ne {x : LensD} (h : ¬ x.kind = 3) : comesL x ≠ [] := by
  unfold comesL; simp only [h, if_false]; (repeat' split) <;> simp
theorem co_0 {x : LensD} (h : ¬ x.kind = 3) : ((comesL x).map rD)[(0 : Int).toNat]? = some (rD (comeL x)) := by
  have := comes_ne h
  unfold comeL
  cases hc : comesL x with
  | nil => exact absurd hc this
  | cons c cs => rfl
theorem mul_bound {a b : Int} (h : 0 ≤ a ∧ a ≤ 1048576) (h2 : 0 ≤ b ∧ b ≤ 1000) : -9223372036854775808 ≤ a * b ∧ a * b ≤ 9223372036854775807 := by
  have h3 := Int.mul_nonneg h.1 h2.1
  have h4 : a * b ≤ 1048576 * 1000 := Int.mul_le_mul h.2 h2.2 h2.1 (by omega)
  omega
theorem factor_ok {x : LensD} (hx : rightL x = true) (h : x.kind = 6 ∨ x.kind = 9) : 0 ≤ x.factor ∧ x.factor ≤ 1000 := by
  unfold rightL at hx
  rw [if_neg (by omega), if_neg (show ¬ x.kind = 8 by omega), if_pos h] at hx
  simp only [Bool.and_eq_true, decide_eq_true_eq] at hx
  omega
theorem find_in {l : List FieldD} {r : RefD} (h : (findS l r).2 = 0) : ¬ indexS l r < 0 := by
  intro h'; rw [find_neg h'] at h; simp at h
theorem find_worth {l : List FieldD} {r : RefD} (hl : rightS l = true) (h : (findS l r).2 = 0) : 0 ≤ (findS l r).1.worth ∧ (findS l r).1.worth ≤ 1048576 := by
  have h' := find_in h
  rw [find_pos h']
  exact rightF_worth (rightS_mem hl (fieldAt_spec h').1)
theorem find_ok {l : List FieldD} {r : RefD} (ho : okL l) : (findS l r).1.cases.length ≤ 1000000 := by
  by_cases h : indexS l r < 0
  · rw [find_neg h]; simp [noField]
  · rw [find_pos h]; exact ho.2 _ (fieldAt_spec h).1
theorem arr_2 {l : List FieldD} {x : LensD} (h : x.kind = 2) : arrS l x = ([x.field], true) := by unfold arrS; rw [if_pos h]
theorem arr_3 {l : List FieldD} {x : LensD} (h : x.kind = 3) : arrS l x = ([], decide ((findS l x.field.at_).2 = 0) && decide ((findS l x.field.at_).1 = x.field)) := by unfold arrS; rw [if_neg (by omega), if_pos h]
theorem arr_9 {l : List FieldD} {x : LensD} (h : x.kind = 9) : arrS l x = mergedS l x := by unfold arrS; rw [if_neg (by omega), if_neg (by omega), if_pos h]
theorem arr_no {l : List FieldD} {x : LensD} (h2 : ¬ x.kind = 2) (h3 : ¬ x.kind = 3) (h9 : ¬ x.kind = 9) (hf : ¬ (findS l x.at_).2 = 0) : arrS l x = ([], false) := by unfold arrS; rw [if_neg h2, if_neg h3, if_neg h9, if_pos hf]
theorem arr_6 {l : List FieldD} {x : LensD} (h : x.kind = 6) (hf : (findS l x.at_).2 = 0) : arrS l x = ([⟨named x.at_ x.name, 1, noB, [], (findS l x.at_).1.worth⟩, ⟨named x.at_ x.other, 1, noB, [], (findS l x.at_).1.worth * x.factor⟩], decide ((findS l x.at_).1.kind = 1)) := by
  unfold arrS; rw [if_neg (by omega), if_neg (by omega), if_neg (by omega), if_neg (by omega), if_pos h]
theorem arr_7 {l : List FieldD} {x : LensD} (h : x.kind = 7) (hf : (findS l x.at_).2 = 0) : arrS l x = ([⟨x.at_, 4, noB, [], 0⟩], decide ((findS l x.at_).1.kind = 2) && decide ((findS l x.at_).1.deft = x.other)) := by
  unfold arrS; rw [if_neg (by omega), if_neg (by omega), if_neg (by omega), if_neg (by omega), if_neg (by omega), if_pos h]
theorem arr_10 {l : List FieldD} {x : LensD} (h : x.kind = 10) (hf : (findS l x.at_).2 = 0) : arrS l x = ([⟨x.at_, 2, x.other, [], 0⟩], decide ((findS l x.at_).1.kind = 4)) := by
  unfold arrS; rw [if_neg (by omega), if_neg (by omega), if_neg (by omega), if_neg (by omega), if_neg (by omega), if_neg (by omega), if_pos h]
theorem arr_8 {l : List FieldD} {x : LensD} (h : x.kind = 8) (hf : (findS l x.at_).2 = 0) : arrS l x = ([⟨x.at_, 3, x.other, froms x.back, 0⟩], decide ((findS l x.at_).1 = ⟨x.at_, 3, x.name, froms x.forth, 0⟩)) := by
  unfold arrS; rw [if_neg (by omega), if_neg (by omega), if_neg (by omega), if_neg (by omega), if_neg (by omega), if_neg (by omega), if_neg (by omega), if_pos h]
theorem arr_o {l : List FieldD} {x : LensD} (h : ¬ x.kind = 2 ∧ ¬ x.kind = 3 ∧ ¬ x.kind = 9 ∧ ¬ x.kind = 6 ∧ ¬ x.kind = 7 ∧ ¬ x.kind = 10 ∧ ¬ x.kind = 8) (hf : (findS l x.at_).2 = 0) : arrS l x = ([⟨comeL x, (findS l x.at_).1.kind, (findS l x.at_).1.deft, (findS l x.at_).1.cases, (findS l x.at_).1.worth⟩], true) := by
  unfold arrS; rw [if_neg (by omega), if_neg (by omega), if_neg (by omega), if_neg (by omega), if_neg (by omega), if_neg (by omega), if_neg (by omega), if_neg (by omega)]
theorem pair_and {A : Prop} {a b : Bool} (h1 : A) (h : a = b) : A ∧ D.sc (.bool a) = D.sc (.bool b) := ⟨h1, scb h⟩
theorem merged_any (l : List FieldD) (x : LensD) (ho : okL l) (hx0 : okX x) (hl : rightS l = true) (hx : rightL x = true) (hk : x.kind = 9) : Contract Try.prog 57 [.row (l.map fD), lD x] [.d (.row ((mergedS l x).1.map fD)), .d (.sc (.bool ((mergedS l x).2)))] := by
 refine T.fn [] Try.func57 ?_
 refine x_call T.en_10 (lensGoes_at _ hx0 hx) ?_
 first | refine x_ix (by first | exact go9_0 (by omega) | exact go9_1 (by omega) | exact co6_0 (by omega) | exact co6_1 (by omega) | exact co_0 (by omega)) ?_ | refine x_ixI (by first | exact go9_0 (by omega) | exact go9_1 (by omega) | exact co6_0 (by omega) | exact co6_1 (by omega) | exact co_0 (by omega)) ?_
 refine x_call T.en_18 (schemaFind_any _ _ ho) ?_
 refine br (fun hg1 => ?y1) (fun hg1 => ?n1)
 case' y1 =>
  refine brT ?_
 case' n1 =>
  have hu0 : (findS l (named x.at_ x.name)).2 = 0 := by simpa using hg1
  refine br (fun hc3 => ?y3) (fun hc3 => ?n3)
  case' n3 =>
   first | refine x_ix (by first | exact go9_0 (by omega) | exact go9_1 (by omega) | exact co6_0 (by omega) | exact co6_1 (by omega) | exact co_0 (by omega)) ?_ | refine x_ixI (by first | exact go9_0 (by omega) | exact go9_1 (by omega) | exact co6_0 (by omega) | exact co6_1 (by omega) | exact co_0 (by omega)) ?_
   refine x_call T.en_18 (schemaFind_any _ _ ho) ?_
   refine br (fun hg4 => ?y4) (fun hg4 => ?n4)
   case' y4 =>
    refine brT ?_
    refine brT ?_
   case' n4 =>
    refine br (fun hg7 => ?y7) (fun hg7 => ?n7)
    case' y7 =>
     refine brT ?_
    case' n7 =>
     first | refine x_bin (pr_mul (wrap64 _ (mul_bound (find_worth hl hu0) (factor_ok hx (.inr hk))))) rfl ?_ | refine x_mul ?_ | refine x_bin rfl rfl ?_
     refine br (fun hc9 => ?y9) (fun hc9 => ?n9)
 all_goals (refine x_ret ?_; simp only [fitsL, fits, C.asD, and_true] <;> (first | (unfold mergedS; simp_all; done) | (have hm : mergedS l x = ([⟨x.at_, 1, noB, [], (findS l (named x.at_ x.name)).1.worth⟩], true) := (by unfold mergedS; simp_all; done); rw [hm]; exact ⟨rfl, rfl⟩)))
end Go.Vm
end
section
namespace Go.Vm
open Go.RowKit Go.Proofs
set_option maxRecDepth 10000
theorem arrivals_any (l : List FieldD) (x : LensD) (ho : okL l) (hx0 : okX x) (hl : rightS l = true) (hx : rightL x = true) : Contract Try.prog 43 [.row (l.map fD), lD x] [.d (.row ((arrS l x).1.map fD)), .d (.sc (.bool ((arrS l x).2)))] := by
 refine T.fn [] Try.func43 ?_
 refine br (fun hc1 => ?y1) (fun hc1 => ?n1)
 case' y1 =>
  have hkkind_2 := hc1
  refine x_call T.en_41 (fieldOwn_any _ hx0.1) ?_
 case' n1 =>
  have hnkind_2 := hc1
  refine br (fun hc2 => ?y2) (fun hc2 => ?n2)
  case' y2 =>
   have hkkind_3 := hc2
   refine x_call T.en_18 (schemaFind_any _ _ ho) ?_
   refine br (fun hg3 => ?y3) (fun hg3 => ?n3)
   case' y3 =>
    refine x_call T.en_35 (by first | exact fieldSame_any _ x.field (find_ok ho) | exact fieldSame_any _ ⟨x.at_, 3, x.name, froms x.forth, 0⟩ (find_ok ho)) ?_
  case' n2 =>
   have hnkind_3 := hc2
   refine br (fun hc4 => ?y4) (fun hc4 => ?n4)
   case' y4 =>
    have hkkind_9 := hc4
    refine x_call T.en_57 (merged_any _ _ ho hx0 hl hx (by omega)) ?_
   case' n4 =>
    have hnkind_9 := hc4
    refine x_call T.en_18 (schemaFind_any _ _ ho) ?_
    refine br (fun hc5 => ?y5) (fun hc5 => ?n5)
    case' y5 =>
     have hf1 : ¬ (findS l x.at_).2 = 0 := by simpa using hc5
    case' n5 =>
     have hf0 : (findS l x.at_).2 = 0 := by simpa using hc5
     refine x_call T.en_11 (lensComes_at _ hx0 hx) ?_
     refine br (fun hc6 => ?y6) (fun hc6 => ?n6)
     case' y6 =>
      have hkkind_6 := hc6
      refine And.intro ⟨T.mixed, by decide +kernel⟩ ?_
      first | refine x_ix (by first | exact go9_0 (by omega) | exact go9_1 (by omega) | exact co6_0 (by omega) | exact co6_1 (by omega) | exact co_0 (by omega)) ?_ | refine x_ixI (by first | exact go9_0 (by omega) | exact go9_1 (by omega) | exact co6_0 (by omega) | exact co6_1 (by omega) | exact co_0 (by omega)) ?_
      refine And.intro ⟨T.mixed, by decide +kernel⟩ ?_
      first | refine x_ix (by first | exact go9_0 (by omega) | exact go9_1 (by omega) | exact co6_0 (by omega) | exact co6_1 (by omega) | exact co_0 (by omega)) ?_ | refine x_ixI (by first | exact go9_0 (by omega) | exact go9_1 (by omega) | exact co6_0 (by omega) | exact co6_1 (by omega) | exact co_0 (by omega)) ?_
      first | refine x_bin (pr_mul (wrap64 _ (mul_bound (find_worth hl hf0) (factor_ok hx (by omega))))) rfl ?_ | refine x_mul ?_ | refine x_bin rfl rfl ?_
      refine And.intro ⟨T.mixed, by decide +kernel⟩ ?_
     case' n6 =>
      have hnkind_6 := hc6
      refine br (fun hc7 => ?y7) (fun hc7 => ?n7)
      case' y7 =>
       have hkkind_7 := hc7
       refine And.intro ⟨T.mixed, by decide +kernel⟩ ?_
       refine br (fun hg8 => ?y8) (fun hg8 => ?n8)
      case' n7 =>
       have hnkind_7 := hc7
       refine br (fun hc9 => ?y9) (fun hc9 => ?n9)
       case' y9 =>
        have hkkind_10 := hc9
        refine And.intro ⟨T.mixed, by decide +kernel⟩ ?_
       case' n9 =>
        have hnkind_10 := hc9
        refine br (fun hc10 => ?y10) (fun hc10 => ?n10)
        case' y10 =>
         have hkkind_8 := hc10
         refine And.intro ⟨T.mixed, by decide +kernel⟩ ?_
         refine x_call T.en_58 (froms_any _ (by first | exact hx0.2.1 | exact hx0.2.2)) ?_
         refine And.intro ⟨T.mixed, by decide +kernel⟩ ?_
         refine x_call T.en_58 (froms_any _ (by first | exact hx0.2.1 | exact hx0.2.2)) ?_
         refine And.intro ⟨T.mixed, by decide +kernel⟩ ?_
         refine x_call T.en_35 (by first | exact fieldSame_any _ x.field (find_ok ho) | exact fieldSame_any _ ⟨x.at_, 3, x.name, froms x.forth, 0⟩ (find_ok ho)) ?_
        case' n10 =>
         have hnkind_8 := hc10
         first | refine x_ix (by first | exact go9_0 (by omega) | exact go9_1 (by omega) | exact co6_0 (by omega) | exact co6_1 (by omega) | exact co_0 (by omega)) ?_ | refine x_ixI (by first | exact go9_0 (by omega) | exact go9_1 (by omega) | exact co6_0 (by omega) | exact co6_1 (by omega) | exact co_0 (by omega)) ?_
 all_goals (refine x_ret ?_; simp only [fitsL, fits, C.asD, and_true] <;> (first | (rw [arr_2 hkkind_2]; exact ⟨rfl, rfl⟩) | (rw [arr_3 hkkind_3]; refine pair_and rfl ?_; simp_all; done) | (rw [arr_9 hkkind_9]; exact ⟨rfl, rfl⟩) | (rw [arr_no hnkind_2 hnkind_3 hnkind_9 hf1]; exact ⟨rfl, rfl⟩) | (rw [arr_6 hkkind_6 hf0]; exact ⟨rfl, rfl⟩) | (rw [arr_7 hkkind_7 hf0]; refine pair_and rfl ?_; simp_all; done) | (rw [arr_10 hkkind_10 hf0]; exact ⟨rfl, rfl⟩) | (rw [arr_8 hkkind_8 hf0]; exact ⟨rfl, rfl⟩) | (rw [arr_o (by omega) hf0]; exact ⟨rfl, rfl⟩)))
end Go.Vm
end
section
namespace Go.Vm
open Go.RowKit Go.Proofs
set_option maxRecDepth 10000
theorem okL_sub {l m : List FieldD} (ho : okL l) (h : m.length ≤ 1000) (hs : ∀ f ∈ m, f ∈ l) : okL m := ⟨h, fun f hf => ho.2 f (hs f hf)⟩
theorem okL_del {l : List FieldD} {r : RefD} (ho : okL l) : okL (delF l r) := okL_sub ho (by have := ho.1; have h := List.length_filter_le (fun f => !decide (f.at_ = r)) l; unfold delF; omega) (fun f hf => (mem_delF.1 hf).1)
theorem okL_nil : okL [] := ⟨by simp, by simp⟩
theorem okL_without {l : List FieldD} {r : RefD} (ho : okL l) : okL (withoutS l r).1 := by
  unfold withoutS
  split
  · exact okL_nil
  split
  · exact okL_nil
  · exact okL_del ho
theorem okL_with {l : List FieldD} {f : FieldD} (ho : okL l) (hf : f.cases.length ≤ 1000000) : okL (withS l f).1 := by
  unfold withS
  split
  · exact okL_nil
  split
  · exact okL_nil
  split
  · exact okL_nil
  · refine ⟨by show (insF l f).length ≤ 1000; rw [length_insF]; omega, fun g hg => ?_⟩
    rcases mem_insF.1 hg with rfl | hg
    · exact hf
    · exact ho.2 g hg
theorem froms_ok {t : List (ByteArray × ByteArray)} (h : t.length ≤ 1000) : (froms t).length ≤ 1000000 := by unfold froms; rw [List.length_map]; omega
theorem news_ok {l : List FieldD} {x : LensD} {fs : List FieldD} (ho : okL l) (hx0 : okX x) (hat : ∀ g ∈ goesL x, ¬ indexS l g < 0) (h : newsL l x = some fs) : ∀ f ∈ fs, f.cases.length ≤ 1000000 := by
  have h1 := hx0.1
  have h2 := froms_ok hx0.2.2
  unfold newsL at h
  split at h
  · injection h with h; subst h; simpa using h1
  split at h
  · split at h
    · injection h with h; subst h; simp
    · cases h
  split at h
  · split at h
    · injection h with h; subst h; simp
    · cases h
  split at h
  · split at h
    · injection h with h; subst h; simp
    · cases h
  split at h
  · split at h
    · injection h with h; subst h; simp
    · cases h
  split at h
  · split at h
    · injection h with h; subst h; simp
    · cases h
  split at h
  · split at h
    · injection h with h; subst h; simpa using h2
    · cases h
  · rename_i q2 q3 q9 q6 q7 q10 q8
    injection h with h; subst h
    have hfa : (fieldAt l x.at_).cases.length ≤ 1000000 := ho.2 _ (fieldAt_spec (hat x.at_ (by rw [goes_o q2 q3 q9]; exact List.mem_singleton.2 rfl))).1
    cases comesL x with
    | nil => simp
    | cons c cs => simpa using hfa
theorem arr_ok {l : List FieldD} {x : LensD} (ho : okL l) (hx0 : okX x) (h : (arrS l x).2 = true) : ∀ f ∈ (arrS l x).1, f.cases.length ≤ 1000000 := by
  have hat : ∀ g ∈ goesL x, ¬ indexS l g < 0 := by
    intro g hg hn
    have := arr_missing (l := l) (x := x) (List.any_eq_true.2 ⟨g, hg, by simpa using hn⟩)
    rw [h] at this; cases this
  have h4 := arr_news hat
  cases hn : newsL l x with
  | none => rw [hn] at h4; simp only at h4; rw [h] at h4; cases h4
  | some fs => rw [hn] at h4; simp only at h4; rw [h4]; exact news_ok ho hx0 hat hn
theorem drop_at {α : Type} {l : List α} {k : Nat} {p : α} (hp : l[k]? = some p) : l.drop k = p :: l.drop (k + 1) := by
  obtain ⟨hlt, rfl⟩ := List.getElem?_eq_some_iff.1 hp
  exact List.drop_eq_getElem_cons hlt
theorem goes_len (x : LensD) : (goesL x).length ≤ 2 := by unfold goesL; (repeat' split) <;> simp
theorem app_5 {l : List FieldD} {x : LensD} (h : (rightS l && rightL x) = false) : applyS l x = ([], 5) := by unfold applyS; rw [if_pos h]
theorem app_arr {l : List FieldD} {x : LensD} (hl : rightS l = true) (hx : rightL x = true) (h : (arrS l x).2 = false) : applyS l x = ([], 16) := by rw [← applyP_eq]; unfold applyP; rw [hl, hx, if_neg (by simp), if_pos h]
theorem app_del {l : List FieldD} {x : LensD} (hl : rightS l = true) (hx : rightL x = true) (h : (arrS l x).2 = true) (hd : delLoop l (goesL x) = ([], 16)) : applyS l x = ([], 16) := by rw [← applyP_eq]; unfold applyP; rw [hl, hx, if_neg (by simp), h, if_neg (by simp), hd, if_pos (by simp)]
theorem app_with {l m : List FieldD} {x : LensD} (hl : rightS l = true) (hx : rightL x = true) (h : (arrS l x).2 = true) (hd : delLoop l (goesL x) = (m, 0)) : applyS l x = withAll m (arrS l x).1 := by rw [← applyP_eq]; unfold applyP; rw [hl, hx, if_neg (by simp), h, if_neg (by simp), hd, if_neg (by simp)]
theorem delLoop_hit {l : List FieldD} {r : RefD} {rs : List RefD} (h : ¬ (withoutS l r).2 = 0) : delLoop l (r :: rs) = ([], 16) := by unfold delLoop; rw [if_neg h]
theorem delLoop_next {l : List FieldD} {r : RefD} {rs : List RefD} (h : (withoutS l r).2 = 0) : delLoop l (r :: rs) = delLoop (withoutS l r).1 rs := by rw [delLoop, if_pos h]
theorem withAll_hit {l : List FieldD} {f : FieldD} {fs : List FieldD} (h : ¬ (withS l f).2 = 0) : withAll l (f :: fs) = ([], 16) := by rw [withAll, if_neg h]
theorem withAll_next {l : List FieldD} {f : FieldD} {fs : List FieldD} (h : (withS l f).2 = 0) : withAll l (f :: fs) = withAll (withS l f).1 fs := by rw [withAll, if_pos h]
theorem del_end {l m : List FieldD} {rs : List RefD} {k : Nat} (hk : rs.length ≤ k) (h : delLoop l rs = delLoop m (rs.drop k)) : delLoop l rs = (m, 0) := by rw [h, List.drop_eq_nil_of_le hk]; rfl
theorem with_end {l m fs : List FieldD} {k : Nat} (hk : fs.length ≤ k) (h : withAll l fs = withAll m (fs.drop k)) : withAll l fs = (m, 0) := by rw [h, List.drop_eq_nil_of_le hk]; rfl
theorem arr_len (l : List FieldD) (x : LensD) : (arrS l x).1.length ≤ 2 := by unfold arrS mergedS; (repeat' split) <;> simp
theorem apply_any (l : List FieldD) (x : LensD) (ho : okL l) (hx0 : okX x) : Contract Try.prog 16 [.row (l.map fD), lD x] [.d (.row ((applyS l x).1.map fD)), .d (.sc (.int .i64 (applyS l x).2))] := by
 refine T.fn [] Try.func16 ?_
 have hl0 := ho.1
 refine x_call T.en_42 (schemaRight_any _ ho) ?_
 refine br (fun hg1 => ?y1) (fun hg1 => ?n1)
 case' y1 =>
  refine brT ?_
  have h5 : (rightS l && rightL x) = false := by simp_all
 case' n1 =>
  refine x_call T.en_7 (lensRight_any _ hx0) ?_
  refine br (fun hc3 => ?y3) (fun hc3 => ?n3)
  case' y3 =>
   have h5 : (rightS l && rightL x) = false := by simp_all
  case' n3 =>
   have hg1 : rightS l = true ∧ rightL x = true := by simp_all
   have hl := hg1.1
   have hx := hg1.2
   refine x_call T.en_43 (arrivals_any _ _ ho hx0 hl hx) ?_
   refine br (fun hc4 => ?y4) (fun hc4 => ?n4)
   case' y4 =>
    have har : (arrS l x).2 = false := by simpa using hc4
   case' n4 =>
    have har : (arrS l x).2 = true := by simpa using hc4
    have haok := arr_ok ho hx0 har
    have hgl := goes_len x
    have hal := arr_len l x
    refine x_call T.en_44 (schemaOwn_any _ ho) ?_
    refine x_call T.en_10 (lensGoes_at _ hx0 hx) ?_
    refine x_len ?_
    refine xloopR (fb := []) T.ok (Nat.le_of_ble_eq_true rfl) [6, 33, 34] (fun (s : Nat × List FieldD) => [(35, .c (.d (.sc (.int .i64 ((s.1 : Nat) : Int))))), (8, .c (.d (.row (s.2.map fD))))]) (fun s => s.1 ≤ (goesL x).length ∧ okL s.2 ∧ delLoop l (goesL x) = delLoop s.2 ((goesL x).drop s.1)) (fun s => (goesL x).length - s.1) (0, l) ⟨Nat.zero_le _, ho, rfl⟩ (x_ent (by first | rfl | (simp only [Tr.get]; simp; done)) (x_ent (by first | rfl | (simp only [Tr.get]; simp; done)) trivial)) ?_
    rintro s ⟨hk, hok, hi⟩
    refine br (fun hc5 => ?y5) (fun hc5 => ?n5)
    case' y5 =>
     obtain ⟨p, hp⟩ := elem_at hc5
     have hkl := lt_len hp
     first | refine x_ix (by first | exact mapAt hp | exact mapAt hq) ?_ | refine x_ixI (by first | exact mapAt hp | exact mapAt hq) ?_
     refine x_call T.en_45 (schemaWithout_any _ _ hok) ?_
     refine br (fun hc6 => ?y6) (fun hc6 => ?n6)
     case' y6 =>
      have hc0 : ¬ (withoutS s.2 p).2 = 0 := by simpa using hc6
      have hD : delLoop l (goesL x) = ([], 16) := by rw [hi, drop_at hp]; exact delLoop_hit hc0
     case' n6 =>
      have hc0 : (withoutS s.2 p).2 = 0 := by simpa using hc6
      first | refine x_bin (pr_add1 (by omega)) rfl ?_ | refine x_inc ?_ | refine x_add ?_ | refine x_bin rfl rfl ?_
      refine x_rnd (s.1 + 1, (withoutS s.2 p).1) ⟨lt_len hp, okL_without hok, by rw [hi, drop_at hp]; exact delLoop_next hc0⟩ (by (try dsimp only); have := lt_len hp; (try dsimp only); omega) rfl (x_ent (by first | rfl | (simp only [Tr.get]; simp; done)) (x_ent (by first | rfl | (simp only [Tr.get]; simp; done)) trivial)) rfl
    case' n5 =>
     have hD : delLoop l (goesL x) = (s.2, 0) := del_end (past_end hc5) hi
     refine x_len ?_
     refine xloopR (fb := []) T.ok (Nat.le_of_ble_eq_true rfl) [48, 49] (fun (u : Nat × List FieldD) => [(50, .c (.d (.sc (.int .i64 ((u.1 : Nat) : Int))))), (8, .c (.d (.row (u.2.map fD))))]) (fun u => u.1 ≤ (arrS l x).1.length ∧ okL u.2 ∧ withAll s.2 (arrS l x).1 = withAll u.2 ((arrS l x).1.drop u.1)) (fun u => (arrS l x).1.length - u.1) (0, s.2) ⟨Nat.zero_le _, hok, rfl⟩ (x_ent (by first | rfl | (simp only [Tr.get]; simp; done)) (x_ent (by first | rfl | (simp only [Tr.get]; simp; done)) trivial)) ?_
     rintro u ⟨hk2, hok, hv⟩
     refine br (fun hc7 => ?y7) (fun hc7 => ?n7)
     case' y7 =>
      obtain ⟨q, hq⟩ := elem_at hc7
      have hkl2 := lt_len hq
      first | refine x_ix (by first | exact mapAt hp | exact mapAt hq) ?_ | refine x_ixI (by first | exact mapAt hp | exact mapAt hq) ?_
      refine x_call T.en_46 (schemaWith_any _ _ hok (haok _ (List.mem_of_getElem? hq))) ?_
      refine br (fun hc8 => ?y8) (fun hc8 => ?n8)
      case' y8 =>
       have hw0 : ¬ (withS u.2 q).2 = 0 := by simpa using hc8
       have hW : withAll s.2 (arrS l x).1 = ([], 16) := by rw [hv, drop_at hq]; exact withAll_hit hw0
      case' n8 =>
       have hw0 : (withS u.2 q).2 = 0 := by simpa using hc8
       first | refine x_bin (pr_add1 (by omega)) rfl ?_ | refine x_inc ?_ | refine x_add ?_ | refine x_bin rfl rfl ?_
       refine x_rnd (u.1 + 1, (withS u.2 q).1) ⟨lt_len hq, okL_with hok (haok _ (List.mem_of_getElem? hq)), by rw [hv, drop_at hq]; exact withAll_next hw0⟩ (by (try dsimp only); have := lt_len hq; (try dsimp only); omega) rfl (x_ent (by first | rfl | (simp only [Tr.get]; simp; done)) (x_ent (by first | rfl | (simp only [Tr.get]; simp; done)) trivial)) rfl
     case' n7 =>
      have hW : withAll s.2 (arrS l x).1 = (u.2, 0) := with_end (past_end hc7) hv
 all_goals (refine x_ret ?_; simp only [fitsL, fits, C.asD, and_true] <;> (first | (rw [app_5 h5]; exact ⟨rfl, rfl⟩) | (rw [app_arr hl hx har]; exact ⟨rfl, rfl⟩) | (rw [app_with hl hx har hD, hW]; exact ⟨rfl, rfl⟩) | (rw [app_del hl hx har hD]; exact ⟨rfl, rfl⟩)))
end Go.Vm
end
section
namespace Go.Vm
open Go.RowKit Go.Proofs
set_option maxRecDepth 10000
end Go.Vm
end
