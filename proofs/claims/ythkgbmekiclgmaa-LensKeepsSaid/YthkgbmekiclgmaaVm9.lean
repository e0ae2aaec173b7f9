/- The plain reading: what the walk's printer (vgen.py) uses. -/
import Derived.Test.YthkgbmekiclgmaaVm8
import Derived.IntWalk
namespace Go.Vm
open Go.RowKit
set_option linter.unusedVariables false
set_option linter.unusedSimpArgs false

/-- A text. -/
def strD (s : ByteArray) : D := .sc (.string s)

theorem upd_get (env : Env) (d : Nat) (s : S) (t : Nat) : upd env (some d) s t = if t = d then s else env t := rfl
theorem boxEnv_get (env : Env) (d : Nat) (cs : List D) (t : Nat) : boxEnv env d cs t = if t = d then .box cs else unref d (env t) := rfl
theorem spend_get (env : Env) (τ t : Nat) : spend env τ t = demote τ (env t) := rfl
theorem noEnv_get (t : Nat) : noEnv t = .junk := rfl

/-- Who knows less. -/
def Sub (e env : Env) : Prop := ∀ t, e t = env t ∨ e t = .junk
theorem sub_no (env : Env) : Sub noEnv env := fun t => .inr rfl
theorem sub_upd {e env : Env} {d : Nat} {s : S} (h : env d = s) (h' : Sub e env) : Sub (upd e (some d) s) env := by
  intro t
  by_cases et : t = d
  · subst et; left; simp [upd, h]
  · rw [upd_get, if_neg et]; exact h' t

/-- What is known of these slots. -/
def keep : List Nat → Env → Env
  | [], _ => noEnv
  | a :: L, E => upd (keep L E) (some a) (E a)
theorem keep_get (a : Nat) (L : List Nat) (E : Env) (t : Nat) : keep (a :: L) E t = if t = a then E a else keep L E t := rfl
theorem keep_none (E : Env) (t : Nat) : keep [] E t = .junk := rfl
theorem sub_keep {L : List Nat} {a : Nat} {E env : Env} (h : env a = E a) (h' : Sub (keep L E) env) : Sub (keep (a :: L) E) env := sub_upd h h'
theorem sub_keep_nil {E env : Env} : Sub (keep [] E) env := sub_no env

section
variable {P : Program} {N base : Nat} {w0 w w' : World} {ro0 ro ro' : Roles} {blk blk' : Nat → Nat} {env env' e : Env} {a : Act} {o : Oper} {ops : Array Oper} {Q : Exit → Env → Prop}

theorem vc_sub {c : Code} (he : Sub e env) (h : VC P N c e Q) : VC P N c env Q := vc_weaken he h
theorem vl_sub {l : List Oper} {K : Env → Prop} (he : Sub e env) (h : VL P N ops l e K) : VL P N ops l env K := fun base w0 ro0 a w hs => h base w0 ro0 a w (hs.weaken he)

theorem vc_loopK {c : Code} (L : List Nat) {σ : Type} (M : σ → Env → Env) (I : σ → Prop) (μ : σ → Nat) (s0 : σ) (h0 : I s0) (hst : Sub (M s0 (keep L env)) env)
    (round : ∀ s, I s → VC P N c (M s (keep L env)) (roundQ (fun n env' => ∃ s', I s' ∧ n = μ s' ∧ Sub (M s' (keep L env)) env') (μ s) Q)) : VC P N (.loop c) env Q := by
  refine vc_loop (fun n env' => ∃ s', I s' ∧ n = μ s' ∧ Sub (M s' (keep L env)) env') (n := μ s0) ⟨s0, h0, rfl, hst⟩ ?_
  rintro n env' ⟨s', h1, rfl, h2⟩
  exact vc_sub h2 (round s' h1)

theorem vl_bool {l : List Oper} {K : Env → Prop} (t : Nat) {b : Bool} (hb : env t = .c (.d (.sc (.bool b)))) (h1 : b = true → VL P N ops l (upd env (some t) (.c (.d (.sc (.bool true))))) K) (h0 : b = false → VL P N ops l (upd env (some t) (.c (.d (.sc (.bool false))))) K) : VL P N ops l env K := by
  have hself : upd env (some t) (.c (.d (.sc (.bool b)))) = env := by
    funext u
    by_cases eu : u = t
    · subst eu; simp [upd, hb]
    · simp [upd, eu]
  cases b
  · have := h0 rfl; rwa [hself] at this
  · have := h1 rfl; rwa [hself] at this
theorem vq_bool {l : List Oper} {K : Env → Prop} (t : Nat) {b : Bool} (hb : env t = .c (.d (.sc (.bool b)))) (h1 : b = true → VQ P N ops K l (upd env (some t) (.c (.d (.sc (.bool true)))))) (h0 : b = false → VQ P N ops K l (upd env (some t) (.c (.d (.sc (.bool false)))))) : VQ P N ops K l env := by
  have hself : upd env (some t) (.c (.d (.sc (.bool b)))) = env := by
    funext u
    by_cases eu : u = t
    · subst eu; simp [upd, hb]
    · simp [upd, eu]
  cases b
  · have := h0 rfl; rwa [hself] at this
  · have := h1 rfl; rwa [hself] at this

/-- An address that is yielded is one that was handed in. -/
def refOk (o : Oper) (env : Env) : S → Bool
  | .ref d _ => o.op.operands.toList.any fun x => match vget env x with
    | .ref d' _ => d' == d
    | _ => false
  | _ => true
def derefOk (ops : Array Oper) (o : Oper) (env : Env) : Bool := match addrOf o with
  | some x => match vget env x with
    | .ref t _ => contL ops o == some t
    | _ => true
  | none => true
theorem refOk_spec {s : S} (h : refOk o env s = true) : ∀ d off, s = .ref d off → ∃ x ∈ o.op.operands, ∃ off', vget env x = .ref d off' := by
  intro d off e
  subst e
  simp only [refOk, List.any_eq_true] at h
  obtain ⟨x, hx, h1⟩ := h
  split at h1
  · rename_i d' off' hv
    have : d' = d := by simpa using h1
    subst this
    exact ⟨x, by simpa using hx, off', hv⟩
  · cases h1
theorem derefOk_spec (h : derefOk ops o env = true) : ∀ x t off, addrOf o = some x → vget env x = .ref t off → contL ops o = some t := by
  intro x t off ha hv
  simp only [derefOk, ha, hv, beq_iff_eq] at h
  exact h
theorem dg_yield {s : S} (hg : guardOk ops o env = some true) (hy : Yield P N o env s) (hnb : nb s = true) (hr : refOk o env s = true) (hd : derefOk ops o env = true) : DG P N ops o env (.slot o.dst s) :=
  ⟨⟨rfl, hnb, refOk_spec hr⟩, derefOk_spec hd, .inl ⟨hg, fun env' he _ => hy env' he⟩⟩
theorem dg_skip (hg : guardOk ops o env = some false) (hd : derefOk ops o env = true) : DG P N ops o env (.slot o.dst (.tup [])) :=
  ⟨⟨rfl, rfl, fun d off e => by cases e⟩, derefOk_spec hd, .inr ⟨hg, rfl⟩⟩
theorem dg_store {T : TypeId} {x y : Operand} {t off : Nat} {cs : List D} {r : D} {sh : Bool × Nat} (hg : guardOk ops o env = some true) (hop : o.op = .store T x y) (hx : vget env x = .ref t off) (hb : env t = .box cs) (hy : vd env y = some r) (hsh : tshape P T = some sh) (hn : r.cells.length = sh.2) (hoff : off + r.cells.length ≤ cs.length) (hdst : o.dst = none) (hd : derefOk ops o env = true) :
    DG P N ops o env (.cont t (patch cs off r.cells)) := by
  have ha : addrOf o = some x := by simp [addrOf, hop]
  refine ⟨⟨?_, hdst, cs, hb⟩, derefOk_spec hd, .inl ⟨hg, fun env' he _ => ?_⟩⟩
  · have := derefOk_spec hd x t off ha hx
    simp [contW, hop, isStore, this]
  · exact s_store hop (by rw [he.get (by simp [hop, Op.operands])]; exact hx) (he.2 x t off cs ha hx hb) (by rw [he.getD (by simp [hop, Op.operands])]; exact hy) hsh hn hoff hdst
theorem box_upd {d : Nat} {cs : List D} (h : NoRef d env) : boxEnv env d cs = upd env (some d) (.box cs) := by
  funext t
  simp only [boxEnv, upd]
  split
  · rfl
  · cases ht : env t with
    | ref t' off =>
      simp only [unref]
      split
      · rename_i e; subst e; exact absurd ht (h t off)
      · rfl
    | _ => rfl
theorem dg_alloc {T : TypeId} {cs : List D} (hg : guardOk ops o env = some true) (hop : o.op = .alloc T) (hz : zeroOf P T = some cs) {d : Nat} (hdst : o.dst = some d) (hd : d < N) : DG P N ops o env (.new d cs) := by
  refine ⟨⟨hdst, by simp [hop, isNew]⟩, fun x t off ha _ => by simp [addrOf, hop] at ha, .inl ⟨hg, fun env' he hn => ?_⟩⟩
  have := s_alloc (P := P) (N := N) (env := env') hop hz hdst hd
  rwa [box_upd (hn d (by simp [hop, isNew]) hdst)] at this
theorem dg_box {T : TypeId} {x : Operand} {r : D} (hg : guardOk ops o env = some true) (hop : o.op = .box T x) (hx : vd env x = some r) {d : Nat} (hdst : o.dst = some d) (hd : d < N) : DG P N ops o env (.new d r.cells) := by
  refine ⟨⟨hdst, by simp [hop, isNew]⟩, fun x t off ha _ => by simp [addrOf, hop] at ha, .inl ⟨hg, fun env' he hn => ?_⟩⟩
  have := s_box (P := P) (N := N) (env := env') (r := r) hop (by rw [he.getD (by simp [hop, Op.operands])]; exact hx) hdst hd
  rwa [box_upd (hn d (by simp [hop, isNew]) hdst)] at this
theorem freshen_none {l : List Oper} (h : news l = []) : freshen l env = env := by
  funext t
  unfold freshen fresh1
  rw [h]
  cases env t <;> simp
theorem vc_drawn0 {id : Nat} {l : List Oper} (hm : P.follows .mixedOrders = true) (h : VQ P N l.toArray (Q .normal) l env) (hB : drawnOk l.toArray = true := by decide +kernel) (hn : news l = [] := by rfl) : VC P N (.region id l.toArray true) env Q :=
  vc_drawn hm hB (by rw [freshen_none hn]; exact h)
def freshOf (ds : List Nat) (env : Env) : Env := fun t => fresh1 ds t (env t)
theorem vc_drawnN {id : Nat} {l : List Oper} (ds : List Nat) (hm : P.follows .mixedOrders = true) (h : VQ P N l.toArray (Q .normal) l (freshOf ds env)) (hB : drawnOk l.toArray = true := by decide +kernel) (hn : news l = ds := by rfl) : VC P N (.region id l.toArray true) env Q :=
  vc_drawn hm hB (by unfold freshen; rw [hn]; exact h)
theorem freshOf_get (ds : List Nat) (env : Env) (t : Nat) : freshOf ds env t = fresh1 ds t (env t) := rfl
theorem fresh1_c (ds : List Nat) (t : Nat) (x : C) : fresh1 ds t (.c x) = .c x := rfl
theorem fresh1_at (ds : List Nat) (t : Nat) (cs : List D) (off : Nat) : fresh1 ds t (.at_ cs off) = .at_ cs off := rfl
theorem fresh1_tup (ds : List Nat) (t : Nat) (cs : List C) : fresh1 ds t (.tup cs) = .tup cs := rfl
theorem fresh1_junk (ds : List Nat) (t : Nat) : fresh1 ds t .junk = .junk := rfl
theorem fresh1_box (ds : List Nat) (t : Nat) (cs : List D) (h : ds.contains t = false) : fresh1 ds t (.box cs) = .box cs := by simp only [fresh1, h]; rfl
theorem fresh1_ref (ds : List Nat) (t d off : Nat) (h : ds.contains d = false) : fresh1 ds t (.ref d off) = .ref d off := by simp only [fresh1, h]; rfl

theorem y_callS {f : FuncId} {xs : Array Operand} {ts : Array TypeId} {ds : List D} {res : List C} {s : S} {d : Nat} (hop : o.op = .call { callee := .value (.func f), args := xs, argTypes := ts }) (hf : enters P f = true) (hx : vargs env xs.toList = some ds) (hc : Contract P f ds res) (hs : resS (res.map (setTok d)) = s) (hdst : o.dst = some d) (hd : d < N) : Yield P N o env s := hs ▸ y_call hop hf hx hc hdst hd
theorem patch_all {cs ds : List D} (h : cs.length = ds.length) : patch cs 0 ds = ds := by
  simp [patch, ← h]
theorem s_storeS {T : TypeId} {x y : Operand} {t off : Nat} {cs cs' : List D} {r : D} {sh : Bool × Nat} (hop : o.op = .store T x y) (hx : vget env x = .ref t off) (hb : env t = .box cs) (hy : vd env y = some r) (hsh : tshape P T = some sh) (hn : r.cells.length = sh.2) (hoff : off + r.cells.length ≤ cs.length) (hp : patch cs off r.cells = cs') (hdst : o.dst = none) :
    Step P N o env (upd env (some t) (.box cs')) := hp ▸ s_store hop hx hb hy hsh hn hoff hdst
theorem y_indexI {T : TypeId} {x ix : Operand} {k : IntKind} {i : Int} {xs cs : List D} {y : D} {sz : Nat} (hop : o.op = .indexAddr T x ix) (hx : vd env x = some (.row xs)) (hi : vd env ix = some (.sc (.int k i))) (hT : elemSize P T = some sz) (h0 : 0 ≤ i) (hy : xs[i.toNat]? = some y) (hcs : y.cells = cs) (hsz : cs.length = sz) {d : Nat} (hdst : o.dst = some d) (hd : d < N) : Yield P N o env (.at_ cs 0) := by
  subst hcs
  exact y_index hop hx (by rw [Int.toNat_of_nonneg h0]; exact hi) hT hy hsz hdst hd
theorem y_charI {T : TypeId} {x ix : Operand} {k : IntKind} {i : Int} {s : ByteArray} {b : UInt8} (hop : o.op = .index T x ix) (hx : vd env x = some (.sc (.string s))) (hi : vd env ix = some (.sc (.int k i))) (hT : P.underlying T = some .string) (h0 : 0 ≤ i) (hb : s[i.toNat]? = some b) {d : Nat} (hdst : o.dst = some d) (hd : d < N) : Yield P N o env (.c (.d (.sc (.int .u8 b.toNat)))) :=
  y_char hop hx (by rw [Int.toNat_of_nonneg h0]; exact hi) hT hb hdst hd
theorem y_lenI {T : TypeId} {x : Operand} {xs : List D} {sz : Nat} {n : Nat} (hop : o.op = .call { callee := .builtin .len, args := #[x], argTypes := #[T] }) (hx : vd env x = some (.row xs)) (hT : elemSize P T = some sz) (hn : xs.length = n) {d : Nat} (hdst : o.dst = some d) (hd : d < N) : Yield P N o env (.c (.d (.sc (.int .i64 n)))) := hn ▸ y_len (ts := #[]) hop hx hT hdst hd
theorem y_buildS {T : TypeId} {parts : Array (Nat × Operand)} {ds : List (Nat × D)} {cs : List D} {r : D} (hop : o.op = .build T parts) (hx : vparts env parts.toList = some ds) (hb : builtD P T ds = some cs) (hr : D.agg cs = r) {d : Nat} (hdst : o.dst = some d) (hd : d < N) : Yield P N o env (.c (.d r)) := hr ▸ y_build hop hx hb hdst hd
end

section
variable {P : Program} {t : TypeId} {x y : Operand}
theorem pr_lss {k : IntKind} {a b : Int} : pureRun P (do eqGuard .lss t x y (.int k a) (.int k b); binOp .lss t (.int k a) (.int k b) : Sem Value) = some (.bool (decide (a < b))) := by cases k <;> rfl
theorem pr_leq {k : IntKind} {a b : Int} : pureRun P (do eqGuard .leq t x y (.int k a) (.int k b); binOp .leq t (.int k a) (.int k b) : Sem Value) = some (.bool (decide (a ≤ b))) := by cases k <;> rfl
theorem pr_gtr {k : IntKind} {a b : Int} : pureRun P (do eqGuard .gtr t x y (.int k a) (.int k b); binOp .gtr t (.int k a) (.int k b) : Sem Value) = some (.bool (decide (b < a))) := by cases k <;> rfl
theorem pr_geq {k : IntKind} {a b : Int} : pureRun P (do eqGuard .geq t x y (.int k a) (.int k b); binOp .geq t (.int k a) (.int k b) : Sem Value) = some (.bool (decide (b ≤ a))) := by cases k <;> rfl
theorem pr_eql {k : IntKind} {a b : Int} : pureRun P (do eqGuard .eql t x y (.int k a) (.int k b); binOp .eql t (.int k a) (.int k b) : Sem Value) = some (.bool (decide (a = b))) := by cases k <;> rfl
theorem pr_neq {k : IntKind} {a b : Int} : pureRun P (do eqGuard .neq t x y (.int k a) (.int k b); binOp .neq t (.int k a) (.int k b) : Sem Value) = some (.bool (!decide (a = b))) := by cases k <;> rfl
theorem pr_add {k : IntKind} {a b c : Int} (h : k.wrap (a + b) = c) : pureRun P (do eqGuard .add t x y (.int k a) (.int k b); binOp .add t (.int k a) (.int k b) : Sem Value) = some (.int k c) := by subst h; cases k <;> rfl
theorem pr_sub {k : IntKind} {a b c : Int} (h : k.wrap (a - b) = c) : pureRun P (do eqGuard .sub t x y (.int k a) (.int k b); binOp .sub t (.int k a) (.int k b) : Sem Value) = some (.int k c) := by subst h; cases k <;> rfl
theorem pr_mul {k : IntKind} {a b c : Int} (h : k.wrap (a * b) = c) : pureRun P (do eqGuard .mul t x y (.int k a) (.int k b); binOp .mul t (.int k a) (.int k b) : Sem Value) = some (.int k c) := by subst h; cases k <;> rfl
theorem eq_strs (a b : ByteArray) : (a.toList == b.toList) = decide (a = b) := by
  by_cases h : a = b
  · subst h; simp
  · rw [decide_eq_false h, beq_eq_false_iff_ne, ne_eq, ByteArray.toList_eq, ByteArray.toList_eq]
    intro e
    exact h (ByteArray.ext (Array.toList_inj.1 e))
theorem pr_eqs {a b : ByteArray} : pureRun P (do eqGuard .eql t x y (.string a) (.string b); binOp .eql t (.string a) (.string b) : Sem Value) = some (.bool (decide (a = b))) := by rw [← eq_strs]; rfl
theorem pr_nes {a b : ByteArray} : pureRun P (do eqGuard .neq t x y (.string a) (.string b); binOp .neq t (.string a) (.string b) : Sem Value) = some (.bool (!decide (a = b))) := by rw [← eq_strs]; rfl
theorem pr_lts {a b : ByteArray} : pureRun P (do eqGuard .lss t x y (.string a) (.string b); binOp .lss t (.string a) (.string b) : Sem Value) = some (.bool (Op.bytesLess a.toList b.toList)) := rfl
theorem pr_cat {a b : ByteArray} (h : a.size + b.size ≤ 9223372036854775807) : pureRun P (do eqGuard .add t x y (.string a) (.string b); binOp .add t (.string a) (.string b) : Sem Value) = some (.string (a ++ b)) := by
  have h1 : ¬ (((a.size + b.size : Nat) : Int) > IntKind.i64.max) := by
    have : IntKind.i64.max = 9223372036854775807 := rfl
    omega
  show pureRun P (Op.stringOp .add a b) = _
  unfold Op.stringOp
  simp only [if_neg h1]
  rfl
theorem pureRun_bind {α β : Type} : ∀ (s : Sem α) (f : α → Sem β), pureRun P (s >>= f) = (pureRun P s).bind fun a => pureRun P (f a)
  | .pure a, f => rfl
  | .program k, f => pureRun_bind (k P) f
  | .mark m k, f => pureRun_bind k f
  | .load .., _ => rfl
  | .store .., _ => rfl
  | .new .., _ => rfl
  | .shape .., _ => rfl
  | .freeze .., _ => rfl
  | .frozen .., _ => rfl
  | .getObj .., _ => rfl
  | .setObj .., _ => rfl
  | .choose .., _ => rfl
  | .sys .., _ => rfl
  | .halt .., _ => rfl
theorem pureRun_under {d : TypeDesc} (h : P.underlying t = some d) : pureRun P (underlying t) = some d := by
  show pureRun P (match P.underlying t with | some d => pure d | none => stuck "no such type") = some d
  rw [h]; rfl
theorem pureRun_pure {α : Type} (a : α) : pureRun P (pure a : Sem α) = some a := rfl
theorem equalIn_bool {n : Nat} {a b : Bool} (h : P.underlying t = some .bool) : pureRun P (Op.equalIn (n + 1) t (.bool a) (.bool b)) = some (a == b) := by
  rw [Op.equalIn, pureRun_bind, pureRun_under h]; rfl
theorem pr_eqb {a b : Bool} (h : P.underlying t = some .bool) : pureRun P (do eqGuard .eql t x y (.bool a) (.bool b); binOp .eql t (.bool a) (.bool b) : Sem Value) = some (.bool (a == b)) := by
  show pureRun P (do pure (Value.bool (← Op.equalIn (9999 + 1) t (.bool a) (.bool b)))) = _
  rw [pureRun_bind, equalIn_bool h]; rfl
theorem pr_neb {a b : Bool} (h : P.underlying t = some .bool) : pureRun P (do eqGuard .neq t x y (.bool a) (.bool b); binOp .neq t (.bool a) (.bool b) : Sem Value) = some (.bool (!(a == b))) := by
  show pureRun P (do pure (Value.bool (!(← Op.equalIn (9999 + 1) t (.bool a) (.bool b))))) = _
  rw [pureRun_bind, equalIn_bool h]; rfl
theorem pr_not {b : Bool} : pureRun P (Op.unary .not (.bool b)) = some (.bool (!b)) := rfl
end
theorem wrap64 (n : Int) (h : -9223372036854775808 ≤ n ∧ n ≤ 9223372036854775807) : IntKind.i64.wrap n = n := IntWalk.i64_in _ (by omega)
end Go.Vm
