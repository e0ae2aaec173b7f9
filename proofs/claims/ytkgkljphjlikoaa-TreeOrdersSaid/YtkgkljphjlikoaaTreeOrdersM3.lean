/- Part 3 of what the proof of TreeOrders stands on: Xg7, Xg8, LnPlain, Tt, LnName, LnPlace, LnEq, LnTexts, LnField, LnSchemaP, LnLensP, LnSchema, LnSchema2, LnSchema3, LnHeavy, LnKeepP, LnLens2P. -/
import Derived.IntWalk
import Derived.Laws.StructEq
import Derived.KernelRfl
import Derived.Test.YtkgkljphjlikoaaTreeOrdersM2
section
namespace Go.Vm
open Go.RowKit
set_option linter.unusedVariables false
set_option linter.unusedSimpArgs false

/-- Code that stops at these labels ahead. -/
def spineB (P : Program) (tt : TT) (N : Nat) (fb stop : List Nat) (a : Code) (b : XC) : XC := fun t h K => match a with
  | .label l => match memN l stop with
    | true => K (.goto l) t h
    | false => b t h K
  | a => xseq (xcode P tt N fb a) b t h K
def xspine (P : Program) (tt : TT) (N : Nat) (fb stop : List Nat) (c : Code) : XC := @Code.rec (fun _ => XC)
  (fun t h K => K .normal t h)
  (fun _ ops draw => xregion P tt N fb ops draw)
  (fun a _ _ b => spineB P tt N fb stop a b)
  (fun c a b _ _ => xcond c (xcode P tt N fb a) (xcode P tt N fb b))
  (fun id b _ => xblock id (xcode P tt N fb b))
  (fun b _ => xleaf P N (.loop b))
  (fun f ps a b _ _ => xleaf P N (.rangeFunc f ps a b))
  (fun id t h K => K (.exit id) t h)
  (fun b _ => xleaf P N (.scope b))
  (fun _ t h K => K .normal t h)
  (fun l t h K => K (.goto l) t h)
  (fun t h K => K .ret t h)
  (fun why => xleaf P N (.refuse why))
  c
def spineP (lb : Nat → Code) (stop : List Nat) : Code → Prop
  | .seq a b => match a with
    | .label l => (memN l stop = true → lb l = b) ∧ spineP lb stop b
    | _ => spineP lb stop b
  | _ => True
section
variable {P : Program} {tt : TT} {N : Nat} {fb stop : List Nat} {t : Tr} {h : Hp} {K : Exit → Tr → Hp → Prop}

theorem xspine_sound (htt : TTok P tt) (hNB : N ≤ BIG) {lb : Nat → Code} {Q : Exit → Env → Prop} (hQ : ∀ e t h, K e t h → Q e (envT t h)) (hfall : ∀ l t h, memN l stop = true → K (.goto l) t h → VC P N (lb l) (envT t h) Q) :
    ∀ {c : Code} {t : Tr} {h : Hp}, spineP lb stop c → xspine P tt N fb stop c t h K → VC P N c (envT t h) Q := by
  intro c
  have plain : ∀ {c : Code} {t : Tr} {h : Hp}, xcode P tt N fb c t h K → VC P N c (envT t h) Q := fun hk => vc_mono (xcode_sound htt hNB hk) (by rintro e env ⟨t', h', rfl, hk⟩; exact hQ e t' h' hk)
  induction c with
  | seq a b iha ihb =>
    intro t h hs hk
    have gen : spineP lb stop b → (xcode P tt N fb a t h fun e t h => match e with
      | .normal => xspine P tt N fb stop b t h K
      | .ret => K .ret t h
      | .exit id => K (.exit id) t h
      | .goto l => K (.goto l) t h
      | .panic c => K (.panic c) t h
      | .outgrown => K .outgrown t h) → VC P N (.seq a b) (envT t h) Q := by
      intro hs hk
      refine vc_then (vc_mono (xcode_sound htt hNB hk) ?_)
      rintro e env ⟨t', h', rfl, hk'⟩
      cases e with
      | normal => exact ihb hs hk'
      | _ => exact hQ _ t' h' hk'
    cases a with
    | label l =>
      obtain ⟨h1, h2⟩ := hs
      change (match memN l stop with | true => K (.goto l) t h | false => xspine P tt N fb stop b t h K) at hk
      refine vc_fall_label ?_
      split at hk
      · rename_i hm
        rw [← h1 hm]
        exact hfall l t h hm hk
      · exact ihb h2 hk
    | _ => exact gen hs hk
  | _ => intro t h hs hk; exact plain hk

def jlt : Option Nat → Nat → Prop
  | none, _ => True
  | some m, n => n < m
/-- What a jump must bring about. -/
def jmpK {σ : Type} (lab : σ → Nat) (L : Nat → List Nat) (F : σ → List (Nat × S)) (G : σ → Hp) (I : σ → Prop) (μ : σ → Nat) (t0 : Tr) (m : Option Nat) (K : Exit → Tr → Hp → Prop) : Exit → Tr → Hp → Prop
  | .goto l, t, h => ∃ s, I s ∧ lab s = l ∧ jlt m (μ s) ∧ (L l).map t.get = (L l).map t0.get ∧ ent t (F s) ∧ G s = h
  | e, t, h => K e t h
theorem xscope (htt : TTok P tt) (hNB : N ≤ BIG) {c : Code} (stop : List Nat) {σ : Type} (lab : σ → Nat) (L : Nat → List Nat) (F : σ → List (Nat × S)) (G : σ → Hp) (I : σ → Prop) (μ : σ → Nat)
    (hfind : ∀ s, I s → findLabel c (lab s) = some (.seq .skip (labelBody c (lab s)))) (hsp : spineP (labelBody c) stop c) (hsp2 : ∀ s, I s → spineP (labelBody c) stop (labelBody c (lab s)))
    (pass : ∀ s, I s → startK (L (lab s)) (F s) t fun t1 => xspine P tt N fb stop (labelBody c (lab s)) t1 (G s) (jmpK lab L F G I μ t (some (μ s)) K))
    (first : xspine P tt N fb stop c t h (jmpK lab L F G I μ t none K)) : Leaf (VC P N (.scope c) (envT t h) fun e env => ∃ t h, env = envT t h ∧ K e t h) := by
  refine ⟨vc_goto_scope (fun l n env => ∃ s t', I s ∧ lab s = l ∧ n = μ s ∧ (L l).map t'.get = (L l).map t.get ∧ ent t' (F s) ∧ env = envT t' (G s)) ?_ ?_ ?_⟩
  · rintro l n env ⟨s, t', h1, rfl, _⟩; exact hfind s h1
  · rintro l n env ⟨s, t', h1, rfl, rfl, h2, h3, rfl⟩ ih
    obtain ⟨t1, h4, h5⟩ := start_sub (h := G s) (pass s h1) h2 h3
    refine vc_weaken h4 (xspine_sound htt hNB (lb := labelBody c) ?_ ?_ (hsp2 s h1) h5)
    · intro e t2 h2 hk
      cases e with
      | goto l =>
        obtain ⟨s', k1, k2, k3, k4, k5, k6⟩ := hk
        exact ⟨_, k3, s', t2, k1, k2, rfl, k4, k5, by rw [k6]⟩
      | _ => exact ⟨t2, h2, rfl, hk⟩
    · rintro l t2 h2 hm ⟨s', k1, k2, k3, k4, k5, k6⟩
      exact ih l (μ s') (envT t2 h2) k3 ⟨s', t2, k1, k2, rfl, k4, k5, by rw [k6]⟩
  · intro ih
    refine xspine_sound htt hNB (lb := labelBody c) ?_ ?_ hsp first
    · intro e t2 h2 hk
      cases e with
      | goto l =>
        obtain ⟨s', k1, k2, k3, k4, k5, k6⟩ := hk
        exact ⟨_, s', t2, k1, k2, rfl, k4, k5, by rw [k6]⟩
      | _ => exact ⟨t2, h2, rfl, hk⟩
    · rintro l t2 h2 hm ⟨s', k1, k2, k3, k4, k5, k6⟩
      exact ih l (μ s') (envT t2 h2) ⟨s', t2, k1, k2, rfl, k4, k5, by rw [k6]⟩

/-! ### Functions -/
def argsT : Nat → List D → Tr → (Tr → Prop) → Prop
  | _, [], t, K => K t
  | k, d :: l, t, K => setK 20 t k (.c (.d d)) fun t => argsT (Nat.succ k) l t K
theorem argsT_spec : ∀ {l : List D} {k : Nat} {t : Tr} {K : Tr → Prop}, argsT k l t K → ∃ t', (∀ u, t'.get u = if u < k then t.get u else match l[u - k]? with | some d => .c (.d d) | none => t.get u) ∧ K t'
  | [], k, t, K, h => ⟨t, by simp, h⟩
  | d :: l, k, t, K, h => by
    obtain ⟨t1, h1, h2⟩ := setK_spec h
    obtain ⟨t2, h3, h4⟩ := argsT_spec h2
    refine ⟨t2, fun u => ?_, h4⟩
    rw [h3, h1]
    rcases Nat.lt_trichotomy u k with e | e | e
    · rw [if_pos (show u < Nat.succ k by omega), if_neg (by omega), if_pos e]
    · subst e; rw [if_pos (show u < Nat.succ u by omega), if_pos rfl, if_neg (by omega), Nat.sub_self]; rfl
    · rw [if_neg (show ¬ u < Nat.succ k by omega), if_neg (show ¬ u = k by omega), if_neg (show ¬ u < k by omega), show u - k = (u - Nat.succ k) + 1 by omega, List.getElem?_cons_succ]
def resvK (tt : TT) (t : Tr) : List ResultVar → (List C → Prop) → Prop
  | [], K => K []
  | .tmp u :: l, K => match Nat.ble 1000000 u, t.get u with
    | false, .c (.d x) => resvK tt t l fun cs => K (.d x :: cs)
    | false, .c (.own τ e xs) => resvK tt t l fun cs => K (.own τ e xs :: cs)
    | false, .c .nil => resvK tt t l fun cs => K (.nil :: cs)
    | _, _ => False
  | .cell u T :: l, K => match Nat.ble 1000000 u, t.get u, tt.get T with
    | false, .box cs, some i => partK (shI i) cs 0 fun d => resvK tt t l fun cs => K (.d d :: cs)
    | _, _, _ => False
theorem resvK_spec (htt : TTok P tt) : ∀ {l : List ResultVar} {K : List C → Prop}, resvK tt t l K → ∃ cs, vres P (envT t h) l = some cs ∧ K cs
  | [], K, hk => ⟨[], rfl, hk⟩
  | .tmp u :: l, K, hk => by
    simp only [resvK] at hk
    split at hk
    all_goals first | exact hk.elim | skip
    all_goals
      rename_i hb hs
      obtain ⟨cs, h1, h2⟩ := resvK_spec htt hk
      refine ⟨_ :: cs, ?_, h2⟩
      simp only [vres, vres1, envT_lt (ble_lt hb), hs, h1]
  | .cell u T :: l, K, hk => by
    simp only [resvK] at hk
    split at hk
    · rename_i cs i hb hs hi
      obtain ⟨d, h1, h2⟩ := partK_spec hk
      obtain ⟨cs', h3, h4⟩ := resvK_spec htt h2
      exact ⟨_, by simp only [vres, vres1, envT_lt (ble_lt hb), hs, shI_ok (htt _ _ hi), h1, h3, Option.map_some], h4⟩
    · exact hk.elim
/-- What stands at names behind a call. -/
def postL (h : Hp) : List (Nat × S) → Prop
  | [] => True
  | (n, s) :: l => (NAM ≤ n ∧ h n = s) ∧ postL h l
theorem postL_spec {post : List (Nat × S)} (h1 : postL h post) (h2 : ∀ p ∈ post, thing p.2 = true) : ∀ p ∈ post, envT t h p.1 = p.2 := by
  induction post with
  | nil => intro p hp; cases hp
  | cons q l ih =>
    obtain ⟨n, s⟩ := q
    intro p hp
    rcases List.mem_cons.1 hp with rfl | hp
    · have ht := h2 (n, s) (List.mem_cons_self ..)
      simp only [envT_at h1.1.1, h1.1.2]
      cases s <;> first | rfl | cases ht
    · exact ih h1.2 (fun q hq => h2 q (List.mem_cons_of_mem _ hq)) p hp
def finK (P : Program) (tt : TT) (rs : List ResultVar) (res : List C) (post : List (Nat × S)) : Exit → Tr → Hp → Prop
  | .normal, t, h => resvK tt t rs fun cs => Leaf (fitsL P cs res ∧ postL h post)
  | .ret, t, h => resvK tt t rs fun cs => Leaf (fitsL P cs res ∧ postL h post)
  | _, _, _ => False
def hOf : List (Nat × S) → Hp
  | [] => fun _ => .junk
  | (n, s) :: l => hset (hOf l) n s
theorem hOf_find : ∀ (l : List (Nat × S)) (u : Nat), hOf l u = match l.find? fun p => p.1 == u with | some p => p.2 | none => .junk
  | [], u => rfl
  | (n, s) :: l, u => by
    simp only [hOf, hset, List.find?_cons]
    by_cases e : u = n
    · subst e; simp
    · have : (n == u) = false := by simpa using fun h => e h.symm
      simp only [if_neg e, this]; exact hOf_find l u
theorem xfnH (htt : TTok P tt) {f : FuncId} {fn : Func} {c : Code} {args : List D} {res : List C} {pre post : List (Nat × S)} {rs : List ResultVar} (fb : List Nat) (hf : P.funcs[f]? = some fn) (hb : fn.body = some c) (hN : fn.ntmps = N) (hrs : fn.results.toList = rs) (hargs : args.length ≤ N) (hNB : N ≤ BIG)
    (hbig : ∀ p ∈ pre, NAM ≤ p.1) (hp : ∀ p ∈ pre, thing p.2 = true) (hq : ∀ p ∈ post, thing p.2 = true) (hk : argsT 0 args .leaf fun t => xcode P tt N fb c t (hOf pre) (finK P tt rs res post)) : ContractH P f args pre res post := by
  subst hrs
  refine contractH_of hf hb hN hargs hp hq ?_
  obtain ⟨t, h1, h2⟩ := argsT_spec hk
  have e : envH args pre = envT t (hOf pre) := by
    funext u
    unfold envH
    by_cases hu : u < NAM
    · rw [envT_lt hu, h1]
      simp only [Nat.not_lt_zero, if_false, Nat.sub_zero]
      cases args[u]? with
      | some d => rfl
      | none =>
        have : (pre.find? fun p => p.1 == u) = none := by
          rw [List.find?_eq_none]
          intro p hm
          have := hbig p hm
          simp only [beq_iff_eq]; omega
        simp only [this]; rfl
    · have hge : NAM ≤ u := by omega
      have hbn : BIG ≤ NAM := by decide
      rw [envT_at hge, hOf_find, List.getElem?_eq_none (by omega)]
      cases hfd : pre.find? fun p => p.1 == u with
      | none => rfl
      | some p =>
        have := hp p (List.mem_of_find?_eq_some hfd)
        simp only
        cases hs : p.2 <;> rw [hs] at this <;> first | rfl | cases this
  rw [e]
  refine vc_mono (xcode_sound htt hNB h2) ?_
  rintro e env ⟨t', h', rfl, hk⟩
  have key : (resvK tt t' fn.results.toList fun cs => Leaf (fitsL P cs res ∧ postL h' post)) → (∃ cs, vres P (envT t' h') fn.results.toList = some cs ∧ fitsL P cs res) ∧ ∀ p ∈ post, envT t' h' p.1 = p.2 := by
    intro hk
    obtain ⟨cs, h1, ⟨h2, h3⟩⟩ := resvK_spec (h := h') htt hk
    exact ⟨⟨cs, h1, h2⟩, postL_spec h3 hq⟩
  cases e with
  | normal => exact ⟨.inl rfl, key hk⟩
  | ret => exact ⟨.inr rfl, key hk⟩
  | _ => exact hk.elim
def finE {α : Type} (P : Program) (tt : TT) (rs : List ResultVar) (R : α → Prop) (res : α → List C) (post : α → List (Nat × S)) : Exit → Tr → Hp → Prop
  | .normal, t, h => resvK tt t rs fun cs => Leaf (∃ x, R x ∧ fitsL P cs (res x) ∧ postL h (post x))
  | .ret, t, h => resvK tt t rs fun cs => Leaf (∃ x, R x ∧ fitsL P cs (res x) ∧ postL h (post x))
  | _, _, _ => False
theorem xfnE {α : Type} {R : α → Prop} (htt : TTok P tt) {f : FuncId} {fn : Func} {c : Code} {args : List D} {res : α → List C} {pre : List (Nat × S)} {post : α → List (Nat × S)} {rs : List ResultVar} (fb : List Nat) (hf : P.funcs[f]? = some fn) (hb : fn.body = some c) (hN : fn.ntmps = N) (hrs : fn.results.toList = rs) (hargs : args.length ≤ N) (hNB : N ≤ BIG)
    (hbig : ∀ p ∈ pre, NAM ≤ p.1) (hp : ∀ p ∈ pre, thing p.2 = true) (hq : ∀ x, R x → ∀ p ∈ post x, thing p.2 = true) (hk : argsT 0 args .leaf fun t => xcode P tt N fb c t (hOf pre) (finE P tt rs R res post)) : ContractE P f args pre R res post := by
  subst hrs
  refine contractE_of hf hb hN hargs hp hq ?_
  obtain ⟨t, h1, h2⟩ := argsT_spec hk
  have e : envH args pre = envT t (hOf pre) := by
    funext u
    unfold envH
    by_cases hu : u < NAM
    · rw [envT_lt hu, h1]
      simp only [Nat.not_lt_zero, if_false, Nat.sub_zero]
      cases args[u]? with
      | some d => rfl
      | none =>
        have : (pre.find? fun p => p.1 == u) = none := by
          rw [List.find?_eq_none]
          intro p hm
          have := hbig p hm
          simp only [beq_iff_eq]; omega
        simp only [this]; rfl
    · have hge : NAM ≤ u := by omega
      have hbn : BIG ≤ NAM := by decide
      rw [envT_at hge, hOf_find, List.getElem?_eq_none (by omega)]
      cases hfd : pre.find? fun p => p.1 == u with
      | none => rfl
      | some p =>
        have := hp p (List.mem_of_find?_eq_some hfd)
        simp only
        cases hs : p.2 <;> rw [hs] at this <;> first | rfl | cases this
  rw [e]
  refine vc_mono (xcode_sound htt hNB h2) ?_
  rintro e env ⟨t', h', rfl, hk⟩
  have key : (resvK tt t' fn.results.toList fun cs => Leaf (∃ x, R x ∧ fitsL P cs (res x) ∧ postL h' (post x))) → ∃ x, R x ∧ (∃ cs, vres P (envT t' h') fn.results.toList = some cs ∧ fitsL P cs (res x)) ∧ ∀ p ∈ post x, envT t' h' p.1 = p.2 := by
    intro hk
    obtain ⟨cs, h1, ⟨x, hx, h2, h3⟩⟩ := resvK_spec (h := h') htt hk
    exact ⟨x, hx, ⟨cs, h1, h2⟩, postL_spec h3 (hq x hx)⟩
  cases e with
  | normal => exact ⟨.inl rfl, key hk⟩
  | ret => exact ⟨.inr rfl, key hk⟩
  | _ => exact hk.elim
theorem xfn (htt : TTok P tt) {f : FuncId} {fn : Func} {c : Code} {args : List D} {res : List C} {rs : List ResultVar} (fb : List Nat) (hf : P.funcs[f]? = some fn) (hb : fn.body = some c) (hN : fn.ntmps = N) (hrs : fn.results.toList = rs) (hargs : args.length ≤ N) (hNB : N ≤ BIG)
    (hk : argsT 0 args .leaf fun t => xcode P tt N fb c t (fun _ => .junk) (finK P tt rs res [])) : Contract P f args res := by
  have hc := xfnH (pre := []) (post := []) htt fb hf hb hN hrs hargs hNB (by simp) (by simp) (by simp) hk
  intro ro w vs τ h1 h2 h3 h4
  refine (hc ro w vs τ h1 h2 h3 h4 (by simp)).mono ?_
  rintro e w' ⟨v, ro', rfl, hg, hs, _⟩
  exact ⟨v, ro', rfl, hg.plain, hs⟩
end
end Go.Vm
end
section
namespace Go.Vm
open Go.RowKit
set_option linter.unusedVariables false
set_option linter.unusedSimpArgs false

section
variable {P : Program} {T : TypeId} {x y : Operand}
theorem x_bin {op : BinOp} {u v r : Value} {K : Value → Prop} (h : pureRun P (do eqGuard op T x y u v; binOp op T u v : Sem Value) = some r) (hp : plainV r = true) (hK : K r) : ∃ r, pureRun P (do eqGuard op T x y u v; binOp op T u v : Sem Value) = some r ∧ plainV r = true ∧ K r := ⟨r, h, hp, hK⟩
theorem x_add {k : IntKind} {a b c : Int} {K : Value → Prop} (hK : K (.int k c)) (h : k.wrap (a + b) = c := by first | exact IntWalk.i64_in _ (by first | omega | (simp only [List.length_map, List.length_append, List.length_nil, List.length_cons, List.length_take, List.length_drop]; omega)) | rfl) : ∃ r, pureRun P (do eqGuard .add T x y (.int k a) (.int k b); binOp .add T (.int k a) (.int k b) : Sem Value) = some r ∧ plainV r = true ∧ K r := ⟨_, pr_add h, rfl, hK⟩
theorem x_sub {k : IntKind} {a b c : Int} {K : Value → Prop} (hK : K (.int k c)) (h : k.wrap (a - b) = c := by first | exact IntWalk.i64_in _ (by first | omega | (simp only [List.length_map, List.length_append, List.length_nil, List.length_cons, List.length_take, List.length_drop]; omega)) | rfl) : ∃ r, pureRun P (do eqGuard .sub T x y (.int k a) (.int k b); binOp .sub T (.int k a) (.int k b) : Sem Value) = some r ∧ plainV r = true ∧ K r := ⟨_, pr_sub h, rfl, hK⟩
theorem x_mul {k : IntKind} {a b c : Int} {K : Value → Prop} (hK : K (.int k c)) (h : k.wrap (a * b) = c := by first | exact IntWalk.i64_in _ (by first | omega | (simp only [List.length_map, List.length_append, List.length_nil, List.length_cons, List.length_take, List.length_drop]; omega)) | rfl) : ∃ r, pureRun P (do eqGuard .mul T x y (.int k a) (.int k b); binOp .mul T (.int k a) (.int k b) : Sem Value) = some r ∧ plainV r = true ∧ K r := ⟨_, pr_mul h, rfl, hK⟩
theorem x_inc {n : Nat} {K : Value → Prop} (hK : K (.int .i64 ((n + 1 : Nat) : Int))) (h : n + 1 ≤ 9223372036854775807 := by first | omega | (simp only [List.length_map, List.length_append, List.length_nil, List.length_cons, List.length_take, List.length_drop]; omega)) : ∃ r, pureRun P (do eqGuard .add T x y (.int .i64 (n : Int)) (.int .i64 1); binOp .add T (.int .i64 (n : Int)) (.int .i64 1) : Sem Value) = some r ∧ plainV r = true ∧ K r := ⟨_, pr_add (IntWalk.i64_in _ (by omega)), rfl, hK⟩
theorem x_conv {t t' : TypeId} {u r : Value} {K : Value → Prop} (h : pureRun P (convert t t' u) = some r) (hp : plainV r = true) (hK : K r) : ∃ r, pureRun P (convert t t' u) = some r ∧ plainV r = true ∧ K r := ⟨r, h, hp, hK⟩
theorem x_eqS {op : BinOp} {du dv : D} {u v r : Value} {K : Value → Prop} (hu : conc du = some u) (hv : conc dv = some v) (h : ∀ w, (do eqGuard op T x y u v; binOp op T u v : Sem Value).run P w = .ok r w) (hp : plainV r = true) (hK : K r) :
    ∃ u v r, (conc du = some u ∧ conc dv = some v) ∧ (∀ w, (do eqGuard op T x y u v; binOp op T u v : Sem Value).run P w = .ok r w) ∧ plainV r = true ∧ K r := ⟨u, v, r, ⟨hu, hv⟩, h, hp, hK⟩
end
theorem x_ix {xs : List D} {j : Nat} {y : D} {i : Int} {K : Nat → D → Prop} (hy : xs[j]? = some y) (hK : K j y) (hi : i = (j : Int) := by rfl) : ∃ (j : Nat) (y : D), i = (j : Int) ∧ xs[j]? = some y ∧ K j y := ⟨j, y, hi, hy, hK⟩
theorem x_ixI {xs : List D} {y : D} {i : Int} {K : Nat → D → Prop} (hy : xs[i.toNat]? = some y) (hK : K i.toNat y) (h0 : 0 ≤ i := by omega) : ∃ (j : Nat) (y : D), i = (j : Int) ∧ xs[j]? = some y ∧ K j y := ⟨i.toNat, y, (Int.toNat_of_nonneg h0).symm, hy, hK⟩
theorem x_ch {s : ByteArray} {j : Nat} {y : UInt8} {i : Int} {K : Nat → UInt8 → Prop} (hy : s[j]? = some y) (hK : K j y) (hi : i = (j : Int) := by rfl) : ∃ (j : Nat) (y : UInt8), i = (j : Int) ∧ s[j]? = some y ∧ K j y := ⟨j, y, hi, hy, hK⟩
theorem x_chI {s : ByteArray} {y : UInt8} {i : Int} {K : Nat → UInt8 → Prop} (hy : s[i.toNat]? = some y) (hK : K i.toNat y) (h0 : 0 ≤ i := by omega) : ∃ (j : Nat) (y : UInt8), i = (j : Int) ∧ s[j]? = some y ∧ K j y := ⟨i.toNat, y, (Int.toNat_of_nonneg h0).symm, hy, hK⟩
theorem x_bnd {i : Int} {j : Nat} {K : Nat → Prop} (hK : K j) (hi : i = (j : Int) := by rfl) : ∃ j : Nat, i = (j : Int) ∧ K j := ⟨j, hi, hK⟩
theorem x_bndI {i : Int} {K : Nat → Prop} (hK : K i.toNat) (h0 : 0 ≤ i := by omega) : ∃ j : Nat, i = (j : Int) ∧ K j := ⟨i.toNat, (Int.toNat_of_nonneg h0).symm, hK⟩
theorem x_len {α : Type} {a n : α} {K : α → Prop} (hK : K n) (h : a = n := by first | exact List.length_map .. | rfl) : ∃ n, a = n ∧ K n := ⟨n, h, hK⟩
theorem x_make {i : Int} {n b : Nat} {K : Nat → Prop} (hK : K n) (hi : i = (n : Int) := by rfl) (h1 : b * n ≤ 281474976710656 := by first | omega | (simp only [List.length_map, List.length_append, List.length_nil, List.length_cons, List.length_take, List.length_drop]; omega)) (h2 : n ≤ maxLen := by unfold maxLen; (first | omega | (simp only [List.length_map, List.length_append, List.length_nil, List.length_cons, List.length_take, List.length_drop]; omega))) : ∃ n : Nat, i = (n : Int) ∧ (b * n ≤ 281474976710656 ∧ n ≤ maxLen) ∧ K n := ⟨n, hi, ⟨h1, h2⟩, hK⟩
theorem x_row {xs ys : List D} {sz l hh : Nat} {K : List D → Prop} (hK : K ys) (hw : ∀ x ∈ xs, x.cells.length = sz) (h1 : l ≤ hh := by first | omega | (simp only [List.length_map, List.length_append, List.length_nil, List.length_cons, List.length_take, List.length_drop]; omega)) (h2 : hh ≤ xs.length := by first | omega | (simp only [List.length_map, List.length_append, List.length_nil, List.length_cons, List.length_take, List.length_drop]; omega)) (hy : (xs.take hh).drop l = ys := by rfl) : (∀ x ∈ xs, x.cells.length = sz) ∧ l ≤ hh ∧ hh ≤ xs.length ∧ ∃ ys, (xs.take hh).drop l = ys ∧ K ys := ⟨hw, h1, h2, ys, hy, hK⟩
theorem x_str {s s' : ByteArray} {l hh : Nat} {K : ByteArray → Prop} (hK : K s') (h1 : l ≤ hh := by first | omega | (simp only [List.length_map, List.length_append, List.length_nil, List.length_cons, List.length_take, List.length_drop]; omega)) (h2 : hh ≤ s.size := by first | omega | (simp only [List.length_map, List.length_append, List.length_nil, List.length_cons, List.length_take, List.length_drop]; omega)) (hy : s.extract l hh = s' := by rfl) : l ≤ hh ∧ hh ≤ s.size ∧ ∃ s', s.extract l hh = s' ∧ K s' := ⟨h1, h2, s', hy, hK⟩
theorem x_app {xs ys zs : List D} {sz bytes : Nat} {K : List D → Prop} (hK : K zs) (hw : ∀ y ∈ ys, y.cells.length = sz) (hz : xs ++ ys = zs := by rfl) (h1 : xs.length + ys.length ≤ maxLen := by unfold maxLen; (first | omega | (simp only [List.length_map, List.length_append, List.length_nil, List.length_cons, List.length_take, List.length_drop]; omega))) (h2 : (xs.length + ys.length) * bytes ≤ 140737488355328 := by first | omega | (simp only [List.length_map, List.length_append, List.length_nil, List.length_cons, List.length_take, List.length_drop]; omega)) : ((∀ y ∈ ys, y.cells.length = sz) ∧ xs.length + ys.length ≤ maxLen ∧ (xs.length + ys.length) * bytes ≤ 140737488355328) ∧ ∃ z, xs ++ ys = z ∧ K z := ⟨⟨hw, h1, h2⟩, zs, hz, hK⟩
theorem x_appN {ys : List D} {sz bytes : Nat} {K : Prop} (hK : K) (hw : ∀ y ∈ ys, y.cells.length = sz) (h1 : ys.length ≤ maxLen := by unfold maxLen; (first | omega | (simp only [List.length_map, List.length_append, List.length_nil, List.length_cons, List.length_take, List.length_drop]; omega))) (h2 : ys.length * bytes ≤ 140737488355328 := by first | omega | (simp only [List.length_map, List.length_append, List.length_nil, List.length_cons, List.length_take, List.length_drop]; omega)) : ((∀ y ∈ ys, y.cells.length = sz) ∧ ys.length ≤ maxLen ∧ ys.length * bytes ≤ 140737488355328) ∧ K := ⟨⟨hw, h1, h2⟩, hK⟩
theorem x_appS {xs zs : List D} {s : ByteArray} {bytes : Nat} {K : List D → Prop} (hK : K zs) (hz : xs ++ bytesD s = zs := by rfl) (h1 : xs.length + s.size ≤ maxLen := by unfold maxLen; (first | omega | (simp only [List.length_map, List.length_append, List.length_nil, List.length_cons, List.length_take, List.length_drop]; omega))) (h2 : (xs.length + s.size) * bytes ≤ 140737488355328 := by first | omega | (simp only [List.length_map, List.length_append, List.length_nil, List.length_cons, List.length_take, List.length_drop]; omega)) : (xs.length + s.size ≤ maxLen ∧ (xs.length + s.size) * bytes ≤ 140737488355328) ∧ ∃ z, xs ++ bytesD s = z ∧ K z := ⟨⟨h1, h2⟩, zs, hz, hK⟩
theorem x_cat {a b : ByteArray} {K : Prop} (hK : K) (h : a.size + b.size ≤ 9223372036854775807 := by first | omega | (simp only [List.length_map, List.length_append, List.length_nil, List.length_cons, List.length_take, List.length_drop]; omega)) : a.size + b.size ≤ 9223372036854775807 ∧ K := ⟨h, hK⟩
theorem x_call {P : Program} {f : FuncId} {ds : List D} {res : List C} {K : List C → Prop} (he : enters P f = true) (hc : Contract P f ds res) (hK : K res) : ∃ res, (enters P f = true ∧ Contract P f ds res) ∧ K res := ⟨res, ⟨he, hc⟩, hK⟩
theorem x_fy {P : Program} {N d : Nat} {o : Oper} {t : Tr} {h : Hp} {s : S} {K : S → Hp → Prop} (hy : Yield P N o (envT t h) s) (hK : K s h) (hd : o.dst = some d := by rfl) : ∃ (s : S) (h' : Hp), Step P N o (envT t h) (upd (envT t h') (some d) s) ∧ K s h' := ⟨s, h, by have := hy.step; rwa [hd] at this, hK⟩
theorem x_field {P : Program} {T : TypeId} {f : Nat} {fs : Array Field} {g : Field} {sh : Bool × Nat} {K : Nat → Bool × Nat → Prop} (hu : P.underlying T = some (.struct fs)) (hg : fs[f]? = some g) (hs : tshape P g.type = some sh) (hK : K g.offset sh) : ∃ off sh, FieldOk P T f off sh ∧ K off sh := ⟨_, _, ⟨fs, g, hu, hg, hs, rfl⟩, hK⟩
theorem x_obj {h : Hp} {id : Nat} {cs : List D} {K : List D → Prop} (hb : NAM ≤ id) (hh : h id = .obj cs) (hK : K cs) : ∃ cs, (NAM ≤ id ∧ h id = .obj cs) ∧ K cs := ⟨cs, ⟨hb, hh⟩, hK⟩
/-- Nil is a row of the call's own, too. -/
theorem Sim.nil_own {P : Program} {N base : Nat} {w0 : World} {ro0 : Start} {env : Env} {a : Act} {w : World} (h : Sim P N base w0 ro0 env a w) {u : Nat} {τ e : Nat} (hu : env u = .c .nil) (he : 0 < P.cellsOf e) : Sim P N base w0 ro0 (upd env (some u) (.c (.own τ e []))) a w := by
  obtain ⟨ro, blk, h⟩ := h
  refine ⟨ro, blk, h.below, h.room, h.nodef, h.size, h.old, h.new, h.uniq, h.given, fun t ht => ?_, fun t => ?_⟩
  · by_cases et : t = u
    · subst et; simp [upd] at ht
    · simp only [upd, if_neg et] at ht; exact h.left t ht
  · have hs := h.sat t
    by_cases et : t = u
    · subst et
      rw [hu] at hs
      simp only [upd, if_true]
      have hv : a.tmps.getD t undef = .slice none 0 0 := hs
      exact ⟨P.cellsOf e, [], he, rfl, by rw [hv]; exact World.ownsRow_nil w base e _, by simp, by simpa [flat] using Reps.nil, fun g hg => by rw [hv] at hg; simp [Value.ownBlock] at hg⟩
    · simp only [upd, if_neg et]; exact hs
theorem xnil {P : Program} {N : Nat} {c : Code} {t : Tr} {h : Hp} {Q : Exit → Env → Prop} (u τ e : Nat) (hu : t.get u = .c .nil) (hb : u < NAM) (he : 0 < P.cellsOf e) (hk : setK 20 t u (.c (.own τ e [])) fun t => Leaf (VC P N c (envT t h) Q)) : Leaf (VC P N c (envT t h) Q) := by
  obtain ⟨t', h1, ⟨h2⟩⟩ := setK_spec hk
  refine ⟨fun base w0 ro0 a w hs => h2 base w0 ro0 a w ?_⟩
  rw [envT_set hb h1]
  exact hs.nil_own (by rw [envT_lt hb]; exact hu) he
theorem xscopeR {P : Program} {tt : TT} {N : Nat} {fb : List Nat} {t : Tr} {h : Hp} {K : Exit → Tr → Hp → Prop} (htt : TTok P tt) (hNB : N ≤ BIG) {c : Code} (stop : List Nat) {σ : Type} (lab : σ → Nat) (L : Nat → List Nat) (F : σ → List (Nat × S)) (I : σ → Prop) (μ : σ → Nat)
    (hfind : ∀ s, I s → findLabel c (lab s) = some (.seq .skip (labelBody c (lab s)))) (hsp : spineP (labelBody c) stop c) (hsp2 : ∀ s, I s → spineP (labelBody c) stop (labelBody c (lab s)))
    (pass : ∀ s, I s → startK (L (lab s)) (F s) t fun t1 => xspine P tt N fb stop (labelBody c (lab s)) t1 h (jmpK lab L F (fun _ => h) I μ t (some (μ s)) K))
    (first : xspine P tt N fb stop c t h (jmpK lab L F (fun _ => h) I μ t none K)) : Leaf (VC P N (.scope c) (envT t h) fun e env => ∃ t h, env = envT t h ∧ K e t h) :=
  xscope htt hNB stop lab L F (fun _ => h) I μ hfind hsp hsp2 pass first
theorem x_rnd {σ : Type} {L : List Nat} {F : σ → List (Nat × S)} {G : σ → Hp} {I : σ → Prop} {μ : σ → Nat} {t0 t : Tr} {h : Hp} {m : Nat} (s : σ) (hI : I s) (hm : μ s < m) (hL : L.map t.get = L.map t0.get) (hE : ent t (F s)) (hG : G s = h) : ∃ s, I s ∧ μ s < m ∧ L.map t.get = L.map t0.get ∧ ent t (F s) ∧ G s = h := ⟨s, hI, hm, hL, hE, hG⟩
theorem x_jmp {σ : Type} {lab : σ → Nat} {L : List Nat} {F : σ → List (Nat × S)} {G : σ → Hp} {I : σ → Prop} {μ : σ → Nat} {t0 t : Tr} {h : Hp} {l : Nat} {m : Option Nat} (s : σ) (hI : I s) (hl : lab s = l) (hm : jlt m (μ s)) (hL : L.map t.get = L.map t0.get) (hE : ent t (F s)) (hG : G s = h) :
    ∃ s, I s ∧ lab s = l ∧ jlt m (μ s) ∧ L.map t.get = L.map t0.get ∧ ent t (F s) ∧ G s = h := ⟨s, hI, hl, hm, hL, hE, hG⟩
theorem x_ent {t : Tr} {a : Nat} {s : S} {F : List (Nat × S)} (h : t.get a = s) (h' : ent t F) : ent t ((a, s) :: F) := ⟨h, h'⟩
theorem x_ret {P : Program} {cs res : List C} {h : Hp} (hf : fitsL P cs res) : Leaf (fitsL P cs res ∧ postL h []) := ⟨hf, trivial⟩
/-- What a test's two answers say. -/
class BP (b : Bool) (p q : outParam Prop) : Prop where
  yes : b = true → p
  no : b = false → q
instance bp_dec (p : Prop) [d : Decidable p] : BP (@decide p d) p (¬ p) := ⟨of_decide_eq_true, of_decide_eq_false⟩
instance bp_not (b : Bool) (p q : Prop) [h : BP b p q] : BP (!b) q p := ⟨fun e => h.no (by cases b <;> simp_all), fun e => h.yes (by cases b <;> simp_all)⟩
instance (priority := low) bp_any (b : Bool) : BP b (b = true) (b = false) := ⟨id, id⟩
theorem br {b : Bool} {p q A B : Prop} [h : BP b p q] (hA : p → A) (hB : q → B) : (b = true → A) ∧ (b = false → B) := ⟨fun e => hA (h.yes e), fun e => hB (h.no e)⟩
theorem brT {A B : Prop} (hA : A) : (true = true → A) ∧ (true = false → B) := ⟨fun _ => hA, fun h => nomatch h⟩
theorem brF {A B : Prop} (hB : B) : (false = true → A) ∧ (false = false → B) := ⟨(fun h => nomatch h), fun _ => hB⟩
end Go.Vm
end
section
namespace Go.Vm
set_option linter.unusedVariables false
set_option linter.unusedSimpArgs false

instance lawfulBytes : LawfulBEq ByteArray where
  eq_of_beq := by intro a b h; rw [beq_toListBytes, eq_strs] at h; exact of_decide_eq_true h
  rfl := by intro a; rw [beq_toListBytes, eq_strs]; simp

structure RefD where
  scope : Int
  group : ByteArray
  name : ByteArray
  deriving DecidableEq
structure FieldD where
  at_ : RefD
  kind : Int
  deft : ByteArray
  cases : List ByteArray
  worth : Int
  deriving DecidableEq
structure LensD where
  kind : Int
  at_ : RefD
  name : ByteArray
  other : ByteArray
  factor : Int
  field : FieldD
  forth : List (ByteArray × ByteArray)
  back : List (ByteArray × ByteArray)
  deriving DecidableEq
abbrev noB : ByteArray := ⟨#[]⟩
def noRef : RefD := ⟨0, noB, noB⟩
def noField : FieldD := ⟨noRef, 0, noB, [], 0⟩
def noLens : LensD := ⟨0, noRef, noB, noB, 0, noField, [], []⟩

def pairD (p : ByteArray × ByteArray) : D := .agg [.sc (.string p.1), .sc (.string p.2)]
def rD (r : RefD) : D := .agg [.sc (.int .i64 r.scope), .sc (.string r.group), .sc (.string r.name)]
def fD (f : FieldD) : D := .agg [.sc (.int .i64 f.at_.scope), .sc (.string f.at_.group), .sc (.string f.at_.name), .sc (.int .i64 f.kind), .sc (.string f.deft), .row (f.cases.map strD), .sc (.int .i64 f.worth)]
def lD (x : LensD) : D := .agg [.sc (.int .i64 x.kind), .sc (.int .i64 x.at_.scope), .sc (.string x.at_.group), .sc (.string x.at_.name), .sc (.string x.name), .sc (.string x.other), .sc (.int .i64 x.factor),
  .sc (.int .i64 x.field.at_.scope), .sc (.string x.field.at_.group), .sc (.string x.field.at_.name), .sc (.int .i64 x.field.kind), .sc (.string x.field.deft), .row (x.field.cases.map strD), .sc (.int .i64 x.field.worth), .row (x.forth.map pairD), .row (x.back.map pairD)]

/-! ### Parts -/
theorem pd_fr (f : FieldD) : partD (true, 3) (fD f).cells 0 = some (rD f.at_) := rfl
theorem pd_f (f : FieldD) : partD (true, 7) (fD f).cells 0 = some (fD f) := rfl
theorem pd_r (r : RefD) : partD (true, 3) (rD r).cells 0 = some (rD r) := rfl
theorem pd_l (x : LensD) : partD (true, 16) (lD x).cells 0 = some (lD x) := rfl
theorem pd_lr (x : LensD) : partD (true, 3) (lD x).cells 1 = some (rD x.at_) := rfl
theorem pd_lf (x : LensD) : partD (true, 7) (lD x).cells 7 = some (fD x.field) := rfl
theorem pd_lfr (x : LensD) : partD (true, 3) (lD x).cells 7 = some (rD x.field.at_) := rfl
theorem pd_p (p : ByteArray × ByteArray) : partD (true, 2) (pairD p).cells 0 = some (pairD p) := rfl

/-! ### Names -/
/-- May this byte stand there in a name? -/
def charB (c : Int) (j : Nat) : Bool := (decide (97 ≤ c) && decide (c ≤ 122)) || (decide (48 ≤ c) && decide (c ≤ 57) && !decide (j = 0))
def okTo (s : ByteArray) (k : Nat) : Prop := ∀ j (b : UInt8), j < k → s[j]? = some b → charB b.toNat j = true
/-- Is it a name? -/
def nameB (s : ByteArray) : Bool := decide (1 ≤ s.size ∧ s.size ≤ 12) && (List.range s.size).all fun j => match s[j]? with
  | some b => charB b.toNat j
  | none => true
theorem name_yes {s : ByteArray} {k : Nat} (h1 : 1 ≤ s.size) (h2 : s.size ≤ 12) (hk : s.size ≤ k) (h : okTo s k) : nameB s = true := by
  unfold nameB
  rw [decide_eq_true (show 1 ≤ s.size ∧ s.size ≤ 12 from ⟨h1, h2⟩), Bool.true_and, List.all_eq_true]
  intro j hj
  split
  · rename_i b hb; exact h j b (by have := List.mem_range.1 hj; omega) hb
  · rfl
theorem name_no {s : ByteArray} {j : Nat} {b : UInt8} (hj : j < s.size) (hb : s[j]? = some b) (h : charB b.toNat j = false) : nameB s = false := by
  unfold nameB
  rw [Bool.and_eq_false_iff]
  right
  rw [List.all_eq_false]
  exact ⟨j, List.mem_range.2 hj, by rw [hb]; simp [h]⟩
theorem name_short {s : ByteArray} (h : s.size < 1) : nameB s = false := by unfold nameB; rw [decide_eq_false (fun k => by omega)]; rfl
theorem name_long {s : ByteArray} (h : 12 < s.size) : nameB s = false := by unfold nameB; rw [decide_eq_false (fun k => by omega)]; rfl
theorem okTo_zero (s : ByteArray) : okTo s 0 := fun j b hj => by omega
theorem okTo_next {s : ByteArray} {k : Nat} {b : UInt8} (h : okTo s k) (hb : s[k]? = some b) (hc : charB b.toNat k = true) : okTo s (k + 1) := by
  intro j b' hj hb'
  by_cases e : j = k
  · subst e; rw [hb] at hb'; injection hb' with e; subst e; exact hc
  · exact h j b' (by omega) hb'
theorem char_at {s : ByteArray} {k : Nat} (h : decide ((k : Int) < (s.size : Int)) = true) : ∃ b, s[k]? = some b := by
  have : k < s.size := by have := of_decide_eq_true h; omega
  exact ⟨s[k], by simp [this]⟩
theorem char_lt {s : ByteArray} {k : Nat} {b : UInt8} (h : s[k]? = some b) : k < s.size := by
  rcases Nat.lt_or_ge k s.size with h1 | h1
  · exact h1
  · simp [show ¬ k < s.size by omega] at h
theorem char_ix {s : ByteArray} {k : Nat} {b : UInt8} (h : s[k]? = some b) : s[((k : Nat) : Int).toNat]? = some b := by rw [Int.toNat_natCast]; exact h

/-! ### Places -/
def placeB (r : RefD) : Bool := (decide (r.scope = 0) || decide (r.scope = 1)) && nameB r.name && (decide (r.group = noB) || nameB r.group)
def ltB (a b : ByteArray) : Bool := Op.bytesLess a.toList b.toList
def lessB (a b : RefD) : Bool := if a.scope ≠ b.scope then decide (a.scope < b.scope) else if a.group ≠ b.group then ltB a.group b.group else ltB a.name b.name

/-! ### Fields -/
def okC (l : List ByteArray) (k : Nat) : Bool := (List.range k).all fun j => match l[j]? with
  | some c => nameB c && !decide (c ∈ l.take j)
  | none => true
/-- May these be an enum's cases? -/
def casesB (l : List ByteArray) : Bool := decide (1 ≤ l.length) && decide (l.length ≤ 6) && okC l l.length
theorem okC_zero (l : List ByteArray) : okC l 0 = true := rfl
theorem okC_next {l : List ByteArray} {k : Nat} {p : ByteArray} (hp : l[k]? = some p) (h : okC l k = true) (h1 : nameB p = true) (h2 : ¬ p ∈ l.take k) : okC l (k + 1) = true := by
  unfold okC at *
  rw [List.range_succ, List.all_append, h]
  simp [hp, h1, h2]
theorem cases_no {l : List ByteArray} {k : Nat} {p : ByteArray} (hp : l[k]? = some p) (h : (nameB p && !decide (p ∈ l.take k)) = false) : casesB l = false := by
  unfold casesB
  rw [Bool.and_eq_false_iff]
  right
  unfold okC
  rw [List.all_eq_false]
  exact ⟨k, List.mem_range.2 (List.getElem?_eq_some_iff.1 hp).1, by simp only [hp, h]; simp⟩
theorem cases_yes {l : List ByteArray} {k : Nat} (h1 : 1 ≤ l.length) (h2 : l.length ≤ 6) (hk : l.length ≤ k) (h : okC l k = true) : casesB l = true := by
  unfold casesB
  rw [decide_eq_true h1, decide_eq_true h2, Bool.true_and, Bool.true_and]
  unfold okC at *
  rw [List.all_eq_true] at *
  intro j hj
  exact h j (List.mem_range.2 (by have := List.mem_range.1 hj; omega))
theorem okC_end {l : List ByteArray} {k : Nat} (hk : l.length ≤ k) (h : okC l k = true) : okC l l.length = true := by
  unfold okC at *
  rw [List.all_eq_true] at *
  intro j hj
  exact h j (List.mem_range.2 (by have := List.mem_range.1 hj; omega))
theorem cases_short {l : List ByteArray} (h : l.length < 1) : casesB l = false := by unfold casesB; rw [decide_eq_false (by omega)]; rfl
theorem cases_long {l : List ByteArray} (h : 6 < l.length) : casesB l = false := by unfold casesB; rw [decide_eq_false (show ¬ l.length ≤ 6 by omega), Bool.and_false]; rfl
/-- Is a field right? -/
def rightF (f : FieldD) : Bool := placeB f.at_ &&
  (if f.kind = 1 then decide (f.deft = noB) && decide (f.cases.length = 0) && decide (1 ≤ f.worth) && decide (f.worth ≤ 1048576)
   else if f.kind = 2 then decide (f.deft.size ≤ 40) && decide (f.cases.length = 0) && decide (f.worth = 0)
   else if f.kind = 3 then casesB f.cases && decide (f.deft ∈ f.cases) && decide (f.worth = 0)
   else if f.kind = 4 then decide (f.deft = noB) && decide (f.cases.length = 0) && decide (f.worth = 0)
   else false)
theorem rightF_bare {f : FieldD} (h1 : ¬ f.kind = 1) (h3 : ¬ f.kind = 3) (hc : 0 < f.cases.length) : rightF f = false := by
  unfold rightF
  rw [Bool.and_eq_false_iff]
  right
  rw [if_neg h1]
  have h0 : decide (f.cases.length = 0) = false := decide_eq_false (by omega)
  by_cases h2 : f.kind = 2
  · rw [if_pos h2, h0, Bool.and_false, Bool.false_and]
  · rw [if_neg h2, if_neg h3]
    by_cases h4 : f.kind = 4
    · rw [if_pos h4, h0, Bool.and_false, Bool.false_and]
    · rw [if_neg h4]
end Go.Vm
end
section
namespace Go.Vm.T
open Go.RowKit
set_option linter.unusedVariables false
theorem k_1 : tyOk Go.Proofs.Try.prog 1 (.one [.sc .nilFunc]) := ⟨by kernel_rfl, by kernel_rfl⟩
theorem k_2 : tyOk Go.Proofs.Try.prog 2 (.one [.sc (.int .i64 0)]) := ⟨by kernel_rfl, by kernel_rfl⟩
theorem k_3 : tyOk Go.Proofs.Try.prog 3 (.one [.sc (.int .i64 0)]) := ⟨by kernel_rfl, by kernel_rfl⟩
theorem k_4 : tyOk Go.Proofs.Try.prog 4 (.one [.sc (.bool false)]) := ⟨by kernel_rfl, by kernel_rfl⟩
theorem k_5 : tyOk Go.Proofs.Try.prog 5 (.one [.sc (.int .u8 0)]) := ⟨by kernel_rfl, by kernel_rfl⟩
theorem k_6 : tyOk Go.Proofs.Try.prog 6 (.one [.sc (.int .u8 0)]) := ⟨by kernel_rfl, by kernel_rfl⟩
theorem k_7 : tyOk Go.Proofs.Try.prog 7 (.agg [(0, 1), (1, 1), (2, 1), (3, 1)] [.sc (.int .i64 0), .sc (.int .i64 0), .sc (.bool false), .sc (.int .u8 0)]) := ⟨by kernel_rfl, by kernel_rfl, by kernel_rfl⟩
theorem k_8 : tyOk Go.Proofs.Try.prog 8 (.agg [(0, 1), (1, 1), (2, 1), (3, 1)] [.sc (.int .i64 0), .sc (.int .i64 0), .sc (.bool false), .sc (.int .u8 0)]) := ⟨by kernel_rfl, by kernel_rfl, by kernel_rfl⟩
theorem k_9 : tyOk Go.Proofs.Try.prog 9 (.str) := ⟨by kernel_rfl, by kernel_rfl, by kernel_rfl⟩
theorem k_10 : tyOk Go.Proofs.Try.prog 10 (.str) := ⟨by kernel_rfl, by kernel_rfl, by kernel_rfl⟩
theorem k_11 : tyOk Go.Proofs.Try.prog 11 (.str) := ⟨by kernel_rfl, by kernel_rfl, by kernel_rfl⟩
theorem k_12 : tyOk Go.Proofs.Try.prog 12 (.one [.sc (.int .u64 0)]) := ⟨by kernel_rfl, by kernel_rfl⟩
theorem k_13 : tyOk Go.Proofs.Try.prog 13 (.agg [(0, 1), (1, 1)] [.sc (.string ⟨#[]⟩), .sc (.int .u64 0)]) := ⟨by kernel_rfl, by kernel_rfl, by kernel_rfl⟩
theorem k_14 : tyOk Go.Proofs.Try.prog 14 (.agg [(0, 1), (1, 1)] [.sc (.string ⟨#[]⟩), .sc (.int .u64 0)]) := ⟨by kernel_rfl, by kernel_rfl, by kernel_rfl⟩
theorem k_15 : tyOk Go.Proofs.Try.prog 15 (.one [.sc (.pointer none)]) := ⟨by kernel_rfl, by kernel_rfl⟩
theorem k_16 : tyOk Go.Proofs.Try.prog 16 (.one [.sc (.pointer none)]) := ⟨by kernel_rfl, by kernel_rfl⟩
theorem k_17 : tyOk Go.Proofs.Try.prog 17 (.one [.sc (.pointer none)]) := ⟨by kernel_rfl, by kernel_rfl⟩
theorem k_18 : tyOk Go.Proofs.Try.prog 18 (.agg [(0, 1)] [.sc (.pointer none)]) := ⟨by kernel_rfl, by kernel_rfl, by kernel_rfl⟩
theorem k_19 : tyOk Go.Proofs.Try.prog 19 (.agg [(0, 1)] [.sc (.pointer none)]) := ⟨by kernel_rfl, by kernel_rfl, by kernel_rfl⟩
theorem k_21 : tyOk Go.Proofs.Try.prog 21 (.one [.sc (.int .i32 0)]) := ⟨by kernel_rfl, by kernel_rfl⟩
theorem k_22 : tyOk Go.Proofs.Try.prog 22 (.agg [(0, 1), (1, 1), (2, 1)] [.sc (.int .i64 0), .sc (.string ⟨#[]⟩), .sc (.string ⟨#[]⟩)]) := ⟨by kernel_rfl, by kernel_rfl, by kernel_rfl⟩
theorem k_23 : tyOk Go.Proofs.Try.prog 23 (.agg [(0, 1), (1, 1), (2, 1)] [.sc (.int .i64 0), .sc (.string ⟨#[]⟩), .sc (.string ⟨#[]⟩)]) := ⟨by kernel_rfl, by kernel_rfl, by kernel_rfl⟩
theorem k_24 : tyOk Go.Proofs.Try.prog 24 (.slice 9 1 16) := ⟨by kernel_rfl, by kernel_rfl, by kernel_rfl, by kernel_rfl⟩
theorem k_25 : tyOk Go.Proofs.Try.prog 25 (.agg [(0, 3), (3, 1), (4, 1), (5, 1), (6, 1)] [.sc (.int .i64 0), .sc (.string ⟨#[]⟩), .sc (.string ⟨#[]⟩), .sc (.int .i64 0), .sc (.string ⟨#[]⟩), .row [], .sc (.int .i64 0)]) := ⟨by kernel_rfl, by kernel_rfl, by kernel_rfl⟩
theorem k_26 : tyOk Go.Proofs.Try.prog 26 (.agg [(0, 3), (3, 1), (4, 1), (5, 1), (6, 1)] [.sc (.int .i64 0), .sc (.string ⟨#[]⟩), .sc (.string ⟨#[]⟩), .sc (.int .i64 0), .sc (.string ⟨#[]⟩), .row [], .sc (.int .i64 0)]) := ⟨by kernel_rfl, by kernel_rfl, by kernel_rfl⟩
theorem k_27 : tyOk Go.Proofs.Try.prog 27 (.slice 38 2 32) := ⟨by kernel_rfl, by kernel_rfl, by kernel_rfl, by kernel_rfl⟩
theorem k_28 : tyOk Go.Proofs.Try.prog 28 (.agg [(0, 1), (1, 3), (4, 1), (5, 1), (6, 1), (7, 7), (14, 1), (15, 1)] [.sc (.int .i64 0), .sc (.int .i64 0), .sc (.string ⟨#[]⟩), .sc (.string ⟨#[]⟩), .sc (.string ⟨#[]⟩), .sc (.string ⟨#[]⟩), .sc (.int .i64 0), .sc (.int .i64 0), .sc (.string ⟨#[]⟩), .sc (.string ⟨#[]⟩), .sc (.int .i64 0), .sc (.string ⟨#[]⟩), .row [], .sc (.int .i64 0), .row [], .row []]) := ⟨by kernel_rfl, by kernel_rfl, by kernel_rfl⟩
theorem k_29 : tyOk Go.Proofs.Try.prog 29 (.agg [(0, 1), (1, 3), (4, 1), (5, 1), (6, 1), (7, 7), (14, 1), (15, 1)] [.sc (.int .i64 0), .sc (.int .i64 0), .sc (.string ⟨#[]⟩), .sc (.string ⟨#[]⟩), .sc (.string ⟨#[]⟩), .sc (.string ⟨#[]⟩), .sc (.int .i64 0), .sc (.int .i64 0), .sc (.string ⟨#[]⟩), .sc (.string ⟨#[]⟩), .sc (.int .i64 0), .sc (.string ⟨#[]⟩), .row [], .sc (.int .i64 0), .row [], .row []]) := ⟨by kernel_rfl, by kernel_rfl, by kernel_rfl⟩
theorem k_30 : tyOk Go.Proofs.Try.prog 30 (.one [.sc .nilFunc]) := ⟨by kernel_rfl, by kernel_rfl⟩
theorem k_31 : tyOk Go.Proofs.Try.prog 31 (.one [.sc .nilFunc]) := ⟨by kernel_rfl, by kernel_rfl⟩
theorem k_32 : tyOk Go.Proofs.Try.prog 32 (.one [.sc .nilFunc]) := ⟨by kernel_rfl, by kernel_rfl⟩
theorem k_33 : tyOk Go.Proofs.Try.prog 33 (.slice 23 3 40) := ⟨by kernel_rfl, by kernel_rfl, by kernel_rfl, by kernel_rfl⟩
theorem k_34 : tyOk Go.Proofs.Try.prog 34 (.one [.sc .nilFunc]) := ⟨by kernel_rfl, by kernel_rfl⟩
theorem k_35 : tyOk Go.Proofs.Try.prog 35 (.one [.sc .nilFunc]) := ⟨by kernel_rfl, by kernel_rfl⟩
theorem k_36 : tyOk Go.Proofs.Try.prog 36 (.one [.sc .nilFunc]) := ⟨by kernel_rfl, by kernel_rfl⟩
theorem k_37 : tyOk Go.Proofs.Try.prog 37 (.agg [(0, 1), (1, 1)] [.sc (.string ⟨#[]⟩), .sc (.string ⟨#[]⟩)]) := ⟨by kernel_rfl, by kernel_rfl, by kernel_rfl⟩
theorem k_38 : tyOk Go.Proofs.Try.prog 38 (.agg [(0, 1), (1, 1)] [.sc (.string ⟨#[]⟩), .sc (.string ⟨#[]⟩)]) := ⟨by kernel_rfl, by kernel_rfl, by kernel_rfl⟩
theorem k_39 : tyOk Go.Proofs.Try.prog 39 (.slice 5 1 1) := ⟨by kernel_rfl, by kernel_rfl, by kernel_rfl, by kernel_rfl⟩
theorem k_40 : tyOk Go.Proofs.Try.prog 40 (.one [.sc .nilFunc]) := ⟨by kernel_rfl, by kernel_rfl⟩
theorem k_41 : tyOk Go.Proofs.Try.prog 41 (.one [.sc .nilFunc]) := ⟨by kernel_rfl, by kernel_rfl⟩
theorem k_42 : tyOk Go.Proofs.Try.prog 42 (.one [.sc (.pointer none)]) := ⟨by kernel_rfl, by kernel_rfl⟩
theorem k_43 : tyOk Go.Proofs.Try.prog 43 (.one [.sc .nilFunc]) := ⟨by kernel_rfl, by kernel_rfl⟩
theorem k_44 : tyOk Go.Proofs.Try.prog 44 (.one [.sc .nilFunc]) := ⟨by kernel_rfl, by kernel_rfl⟩
theorem k_45 : tyOk Go.Proofs.Try.prog 45 (.one [.sc (.int .i64 0)]) := ⟨by kernel_rfl, by kernel_rfl⟩
theorem k_46 : tyOk Go.Proofs.Try.prog 46 (.one [.sc .nilFunc]) := ⟨by kernel_rfl, by kernel_rfl⟩
theorem k_47 : tyOk Go.Proofs.Try.prog 47 (.slice 39 1 24) := ⟨by kernel_rfl, by kernel_rfl, by kernel_rfl, by kernel_rfl⟩
theorem k_49 : tyOk Go.Proofs.Try.prog 49 (.one [.sc .nilFunc]) := ⟨by kernel_rfl, by kernel_rfl⟩
theorem k_50 : tyOk Go.Proofs.Try.prog 50 (.one [.sc .nilFunc]) := ⟨by kernel_rfl, by kernel_rfl⟩
theorem k_51 : tyOk Go.Proofs.Try.prog 51 (.one [.sc .nilFunc]) := ⟨by kernel_rfl, by kernel_rfl⟩
theorem k_52 : tyOk Go.Proofs.Try.prog 52 (.slice 58 20 264) := ⟨by kernel_rfl, by kernel_rfl, by kernel_rfl, by kernel_rfl⟩
theorem k_53 : tyOk Go.Proofs.Try.prog 53 (.one [.sc .nilFunc]) := ⟨by kernel_rfl, by kernel_rfl⟩
theorem k_54 : tyOk Go.Proofs.Try.prog 54 (.one [.sc .nilFunc]) := ⟨by kernel_rfl, by kernel_rfl⟩
theorem k_55 : tyOk Go.Proofs.Try.prog 55 (.agg [(0, 1), (1, 1)] [.sc (.int .i64 0), .sc (.int .i64 0)]) := ⟨by kernel_rfl, by kernel_rfl, by kernel_rfl⟩
theorem k_56 : tyOk Go.Proofs.Try.prog 56 (.agg [(0, 1), (1, 1)] [.sc (.int .i64 0), .sc (.int .i64 0)]) := ⟨by kernel_rfl, by kernel_rfl, by kernel_rfl⟩
theorem k_57 : tyOk Go.Proofs.Try.prog 57 (.agg [(0, 2), (2, 2), (4, 16)] [.sc (.int .i64 0), .sc (.int .i64 0), .sc (.int .i64 0), .sc (.int .i64 0), .sc (.int .i64 0), .sc (.int .i64 0), .sc (.string ⟨#[]⟩), .sc (.string ⟨#[]⟩), .sc (.string ⟨#[]⟩), .sc (.string ⟨#[]⟩), .sc (.int .i64 0), .sc (.int .i64 0), .sc (.string ⟨#[]⟩), .sc (.string ⟨#[]⟩), .sc (.int .i64 0), .sc (.string ⟨#[]⟩), .row [], .sc (.int .i64 0), .row [], .row []]) := ⟨by kernel_rfl, by kernel_rfl, by kernel_rfl⟩
theorem k_58 : tyOk Go.Proofs.Try.prog 58 (.agg [(0, 2), (2, 2), (4, 16)] [.sc (.int .i64 0), .sc (.int .i64 0), .sc (.int .i64 0), .sc (.int .i64 0), .sc (.int .i64 0), .sc (.int .i64 0), .sc (.string ⟨#[]⟩), .sc (.string ⟨#[]⟩), .sc (.string ⟨#[]⟩), .sc (.string ⟨#[]⟩), .sc (.int .i64 0), .sc (.int .i64 0), .sc (.string ⟨#[]⟩), .sc (.string ⟨#[]⟩), .sc (.int .i64 0), .sc (.string ⟨#[]⟩), .row [], .sc (.int .i64 0), .row [], .row []]) := ⟨by kernel_rfl, by kernel_rfl, by kernel_rfl⟩
theorem k_59 : tyOk Go.Proofs.Try.prog 59 (.one [.sc (.pointer none)]) := ⟨by kernel_rfl, by kernel_rfl⟩
theorem k_60 : tyOk Go.Proofs.Try.prog 60 (.one [.sc .nilFunc]) := ⟨by kernel_rfl, by kernel_rfl⟩
theorem k_61 : tyOk Go.Proofs.Try.prog 61 (.one [.sc .nilFunc]) := ⟨by kernel_rfl, by kernel_rfl⟩
theorem k_62 : tyOk Go.Proofs.Try.prog 62 (.one [.sc .nilFunc]) := ⟨by kernel_rfl, by kernel_rfl⟩
theorem k_63 : tyOk Go.Proofs.Try.prog 63 (.one [.sc .nilFunc]) := ⟨by kernel_rfl, by kernel_rfl⟩
theorem k_64 : tyOk Go.Proofs.Try.prog 64 (.one [.sc .nilFunc]) := ⟨by kernel_rfl, by kernel_rfl⟩
theorem k_65 : tyOk Go.Proofs.Try.prog 65 (.slice 56 2 16) := ⟨by kernel_rfl, by kernel_rfl, by kernel_rfl, by kernel_rfl⟩
theorem k_66 : tyOk Go.Proofs.Try.prog 66 (.one [.sc .nilFunc]) := ⟨by kernel_rfl, by kernel_rfl⟩
theorem k_67 : tyOk Go.Proofs.Try.prog 67 (.slice 26 7 96) := ⟨by kernel_rfl, by kernel_rfl, by kernel_rfl, by kernel_rfl⟩
theorem k_69 : tyOk Go.Proofs.Try.prog 69 (.one [.sc .nilFunc]) := ⟨by kernel_rfl, by kernel_rfl⟩
theorem k_70 : tyOk Go.Proofs.Try.prog 70 (.one [.sc .nilFunc]) := ⟨by kernel_rfl, by kernel_rfl⟩
theorem k_71 : tyOk Go.Proofs.Try.prog 71 (.one [.sc .nilFunc]) := ⟨by kernel_rfl, by kernel_rfl⟩
theorem k_72 : tyOk Go.Proofs.Try.prog 72 (.one [.sc .nilFunc]) := ⟨by kernel_rfl, by kernel_rfl⟩
theorem k_73 : tyOk Go.Proofs.Try.prog 73 (.one [.sc .nilFunc]) := ⟨by kernel_rfl, by kernel_rfl⟩
theorem k_75 : tyOk Go.Proofs.Try.prog 75 (.one [.sc .nilFunc]) := ⟨by kernel_rfl, by kernel_rfl⟩
theorem k_76 : tyOk Go.Proofs.Try.prog 76 (.one [.sc .nilFunc]) := ⟨by kernel_rfl, by kernel_rfl⟩
theorem k_77 : tyOk Go.Proofs.Try.prog 77 (.one [.sc .nilFunc]) := ⟨by kernel_rfl, by kernel_rfl⟩
theorem k_78 : tyOk Go.Proofs.Try.prog 78 (.one [.sc .nilFunc]) := ⟨by kernel_rfl, by kernel_rfl⟩
theorem k_80 : tyOk Go.Proofs.Try.prog 80 (.one [.sc .nilFunc]) := ⟨by kernel_rfl, by kernel_rfl⟩
theorem k_81 : tyOk Go.Proofs.Try.prog 81 (.one [.sc .nilFunc]) := ⟨by kernel_rfl, by kernel_rfl⟩
theorem k_82 : tyOk Go.Proofs.Try.prog 82 (.one [.sc .nilFunc]) := ⟨by kernel_rfl, by kernel_rfl⟩
theorem k_84 : tyOk Go.Proofs.Try.prog 84 (.one [.sc .nilFunc]) := ⟨by kernel_rfl, by kernel_rfl⟩
theorem k_85 : tyOk Go.Proofs.Try.prog 85 (.one [.sc .nilFunc]) := ⟨by kernel_rfl, by kernel_rfl⟩
theorem k_86 : tyOk Go.Proofs.Try.prog 86 (.one [.sc .nilFunc]) := ⟨by kernel_rfl, by kernel_rfl⟩
theorem k_87 : tyOk Go.Proofs.Try.prog 87 (.one [.sc .nilFunc]) := ⟨by kernel_rfl, by kernel_rfl⟩
theorem k_88 : tyOk Go.Proofs.Try.prog 88 (.one [.sc .nilFunc]) := ⟨by kernel_rfl, by kernel_rfl⟩
theorem k_89 : tyOk Go.Proofs.Try.prog 89 (.one [.sc .nilFunc]) := ⟨by kernel_rfl, by kernel_rfl⟩
theorem k_90 : tyOk Go.Proofs.Try.prog 90 (.one [.sc .nilFunc]) := ⟨by kernel_rfl, by kernel_rfl⟩
theorem k_91 : tyOk Go.Proofs.Try.prog 91 (.one [.sc .nilFunc]) := ⟨by kernel_rfl, by kernel_rfl⟩
theorem k_92 : tyOk Go.Proofs.Try.prog 92 (.one [.sc .nilFunc]) := ⟨by kernel_rfl, by kernel_rfl⟩
theorem k_93 : tyOk Go.Proofs.Try.prog 93 (.one [.sc .nilFunc]) := ⟨by kernel_rfl, by kernel_rfl⟩
theorem k_94 : tyOk Go.Proofs.Try.prog 94 (.one [.sc .nilFunc]) := ⟨by kernel_rfl, by kernel_rfl⟩
theorem k_95 : tyOk Go.Proofs.Try.prog 95 (.one [.sc .nilFunc]) := ⟨by kernel_rfl, by kernel_rfl⟩
theorem k_96 : tyOk Go.Proofs.Try.prog 96 (.one [.sc .nilFunc]) := ⟨by kernel_rfl, by kernel_rfl⟩
theorem k_97 : tyOk Go.Proofs.Try.prog 97 (.one [.sc .nilFunc]) := ⟨by kernel_rfl, by kernel_rfl⟩
theorem k_98 : tyOk Go.Proofs.Try.prog 98 (.one [.sc .nilFunc]) := ⟨by kernel_rfl, by kernel_rfl⟩
theorem k_99 : tyOk Go.Proofs.Try.prog 99 (.one [.sc .nilFunc]) := ⟨by kernel_rfl, by kernel_rfl⟩
theorem k_100 : tyOk Go.Proofs.Try.prog 100 (.one [.sc .nilFunc]) := ⟨by kernel_rfl, by kernel_rfl⟩
theorem k_101 : tyOk Go.Proofs.Try.prog 101 (.agg [(0, 1), (1, 1), (2, 1), (3, 1)] [.row [], .sc (.int .i64 0), .sc (.int .i64 0), .sc (.bool false)]) := ⟨by kernel_rfl, by kernel_rfl, by kernel_rfl⟩
theorem k_102 : tyOk Go.Proofs.Try.prog 102 (.agg [(0, 1), (1, 1), (2, 1), (3, 1)] [.row [], .sc (.int .i64 0), .sc (.int .i64 0), .sc (.bool false)]) := ⟨by kernel_rfl, by kernel_rfl, by kernel_rfl⟩
theorem k_103 : tyOk Go.Proofs.Try.prog 103 (.one [.sc .nilFunc]) := ⟨by kernel_rfl, by kernel_rfl⟩
theorem k_104 : tyOk Go.Proofs.Try.prog 104 (.one [.sc .nilFunc]) := ⟨by kernel_rfl, by kernel_rfl⟩
theorem k_105 : tyOk Go.Proofs.Try.prog 105 (.arr 6 3 1 [.sc (.int .i64 0), .sc (.int .i64 0), .sc (.int .i64 0), .sc (.int .i64 0), .sc (.int .i64 0), .sc (.int .i64 0)]) := ⟨by kernel_rfl, by kernel_rfl, by kernel_rfl⟩
theorem k_106 : tyOk Go.Proofs.Try.prog 106 (.arr 6 3 1 [.sc (.int .i64 0), .sc (.int .i64 0), .sc (.int .i64 0), .sc (.int .i64 0), .sc (.int .i64 0), .sc (.int .i64 0)]) := ⟨by kernel_rfl, by kernel_rfl, by kernel_rfl⟩
theorem k_107 : tyOk Go.Proofs.Try.prog 107 (.agg [(0, 1), (1, 1), (2, 1), (3, 1), (4, 2), (6, 6), (12, 3), (15, 1)] [.sc (.int .i64 0), .sc (.int .i64 0), .sc (.string ⟨#[]⟩), .sc (.bool false), .sc (.int .i64 0), .sc (.int .i64 0), .sc (.int .i64 0), .sc (.int .i64 0), .sc (.int .i64 0), .sc (.int .i64 0), .sc (.int .i64 0), .sc (.int .i64 0), .sc (.int .i64 0), .sc (.string ⟨#[]⟩), .sc (.string ⟨#[]⟩), .sc (.int .i64 0)]) := ⟨by kernel_rfl, by kernel_rfl, by kernel_rfl⟩
theorem k_108 : tyOk Go.Proofs.Try.prog 108 (.agg [(0, 1), (1, 1), (2, 1), (3, 1), (4, 2), (6, 6), (12, 3), (15, 1)] [.sc (.int .i64 0), .sc (.int .i64 0), .sc (.string ⟨#[]⟩), .sc (.bool false), .sc (.int .i64 0), .sc (.int .i64 0), .sc (.int .i64 0), .sc (.int .i64 0), .sc (.int .i64 0), .sc (.int .i64 0), .sc (.int .i64 0), .sc (.int .i64 0), .sc (.int .i64 0), .sc (.string ⟨#[]⟩), .sc (.string ⟨#[]⟩), .sc (.int .i64 0)]) := ⟨by kernel_rfl, by kernel_rfl, by kernel_rfl⟩
theorem k_109 : tyOk Go.Proofs.Try.prog 109 (.one [.sc .nilFunc]) := ⟨by kernel_rfl, by kernel_rfl⟩
theorem k_110 : tyOk Go.Proofs.Try.prog 110 (.one [.sc .nilFunc]) := ⟨by kernel_rfl, by kernel_rfl⟩
theorem k_111 : tyOk Go.Proofs.Try.prog 111 (.one [.sc .nilFunc]) := ⟨by kernel_rfl, by kernel_rfl⟩
theorem k_113 : tyOk Go.Proofs.Try.prog 113 (.one [.sc .nilFunc]) := ⟨by kernel_rfl, by kernel_rfl⟩
theorem k_115 : tyOk Go.Proofs.Try.prog 115 (.one [.sc .nilFunc]) := ⟨by kernel_rfl, by kernel_rfl⟩
theorem k_117 : tyOk Go.Proofs.Try.prog 117 (.one [.sc .nilFunc]) := ⟨by kernel_rfl, by kernel_rfl⟩
theorem k_118 : tyOk Go.Proofs.Try.prog 118 (.one [.sc (.map none)]) := ⟨by kernel_rfl, by kernel_rfl⟩
theorem k_119 : tyOk Go.Proofs.Try.prog 119 (.agg [(0, 1)] [.sc (.map none)]) := ⟨by kernel_rfl, by kernel_rfl, by kernel_rfl⟩
theorem k_120 : tyOk Go.Proofs.Try.prog 120 (.agg [(0, 1)] [.sc (.map none)]) := ⟨by kernel_rfl, by kernel_rfl, by kernel_rfl⟩
theorem k_121 : tyOk Go.Proofs.Try.prog 121 (.one [.sc .nilFunc]) := ⟨by kernel_rfl, by kernel_rfl⟩
theorem k_122 : tyOk Go.Proofs.Try.prog 122 (.agg [(0, 20), (20, 1), (21, 1), (22, 1)] [.sc (.int .i64 0), .sc (.int .i64 0), .sc (.int .i64 0), .sc (.int .i64 0), .sc (.int .i64 0), .sc (.int .i64 0), .sc (.string ⟨#[]⟩), .sc (.string ⟨#[]⟩), .sc (.string ⟨#[]⟩), .sc (.string ⟨#[]⟩), .sc (.int .i64 0), .sc (.int .i64 0), .sc (.string ⟨#[]⟩), .sc (.string ⟨#[]⟩), .sc (.int .i64 0), .sc (.string ⟨#[]⟩), .row [], .sc (.int .i64 0), .row [], .row [], .sc (.int .i64 0), .row [], .sc (.int .i64 0)]) := ⟨by kernel_rfl, by kernel_rfl, by kernel_rfl⟩
theorem k_123 : tyOk Go.Proofs.Try.prog 123 (.agg [(0, 20), (20, 1), (21, 1), (22, 1)] [.sc (.int .i64 0), .sc (.int .i64 0), .sc (.int .i64 0), .sc (.int .i64 0), .sc (.int .i64 0), .sc (.int .i64 0), .sc (.string ⟨#[]⟩), .sc (.string ⟨#[]⟩), .sc (.string ⟨#[]⟩), .sc (.string ⟨#[]⟩), .sc (.int .i64 0), .sc (.int .i64 0), .sc (.string ⟨#[]⟩), .sc (.string ⟨#[]⟩), .sc (.int .i64 0), .sc (.string ⟨#[]⟩), .row [], .sc (.int .i64 0), .row [], .row [], .sc (.int .i64 0), .row [], .sc (.int .i64 0)]) := ⟨by kernel_rfl, by kernel_rfl, by kernel_rfl⟩
theorem k_125 : tyOk Go.Proofs.Try.prog 125 (.one [.sc .nilFunc]) := ⟨by kernel_rfl, by kernel_rfl⟩
theorem k_126 : tyOk Go.Proofs.Try.prog 126 (.one [.sc .nilFunc]) := ⟨by kernel_rfl, by kernel_rfl⟩
theorem k_127 : tyOk Go.Proofs.Try.prog 127 (.one [.sc .nilFunc]) := ⟨by kernel_rfl, by kernel_rfl⟩
theorem k_128 : tyOk Go.Proofs.Try.prog 128 (.one [.sc .nilFunc]) := ⟨by kernel_rfl, by kernel_rfl⟩
theorem k_129 : tyOk Go.Proofs.Try.prog 129 (.one [.sc .nilFunc]) := ⟨by kernel_rfl, by kernel_rfl⟩
theorem k_130 : tyOk Go.Proofs.Try.prog 130 (.one [.sc .nilFunc]) := ⟨by kernel_rfl, by kernel_rfl⟩
theorem k_131 : tyOk Go.Proofs.Try.prog 131 (.one [.sc .nilFunc]) := ⟨by kernel_rfl, by kernel_rfl⟩
theorem k_132 : tyOk Go.Proofs.Try.prog 132 (.one [.sc .nilFunc]) := ⟨by kernel_rfl, by kernel_rfl⟩
theorem k_134 : tyOk Go.Proofs.Try.prog 134 (.one [.sc .nilFunc]) := ⟨by kernel_rfl, by kernel_rfl⟩
theorem k_135 : tyOk Go.Proofs.Try.prog 135 (.one [.sc .nilFunc]) := ⟨by kernel_rfl, by kernel_rfl⟩
theorem k_136 : tyOk Go.Proofs.Try.prog 136 (.one [.sc .nilFunc]) := ⟨by kernel_rfl, by kernel_rfl⟩
theorem k_137 : tyOk Go.Proofs.Try.prog 137 (.one [.sc .nilFunc]) := ⟨by kernel_rfl, by kernel_rfl⟩
theorem k_138 : tyOk Go.Proofs.Try.prog 138 (.one [.sc .nilFunc]) := ⟨by kernel_rfl, by kernel_rfl⟩
theorem k_139 : tyOk Go.Proofs.Try.prog 139 (.one [.sc .nilFunc]) := ⟨by kernel_rfl, by kernel_rfl⟩
theorem k_140 : tyOk Go.Proofs.Try.prog 140 (.one [.sc .nilFunc]) := ⟨by kernel_rfl, by kernel_rfl⟩
theorem k_141 : tyOk Go.Proofs.Try.prog 141 (.one [.sc .nilFunc]) := ⟨by kernel_rfl, by kernel_rfl⟩
theorem k_143 : tyOk Go.Proofs.Try.prog 143 (.one [.sc .nilFunc]) := ⟨by kernel_rfl, by kernel_rfl⟩
theorem k_144 : tyOk Go.Proofs.Try.prog 144 (.one [.sc .nilFunc]) := ⟨by kernel_rfl, by kernel_rfl⟩
theorem k_145 : tyOk Go.Proofs.Try.prog 145 (.one [.sc (.int .u64 0)]) := ⟨by kernel_rfl, by kernel_rfl⟩
theorem k_146 : tyOk Go.Proofs.Try.prog 146 (.one [.sc .nilFunc]) := ⟨by kernel_rfl, by kernel_rfl⟩
theorem k_148 : tyOk Go.Proofs.Try.prog 148 (.one [.sc .nilFunc]) := ⟨by kernel_rfl, by kernel_rfl⟩
theorem k_149 : tyOk Go.Proofs.Try.prog 149 (.one [.sc .nilFunc]) := ⟨by kernel_rfl, by kernel_rfl⟩
theorem k_150 : tyOk Go.Proofs.Try.prog 150 (.one [.sc .nilFunc]) := ⟨by kernel_rfl, by kernel_rfl⟩
theorem k_151 : tyOk Go.Proofs.Try.prog 151 (.one [.sc .nilFunc]) := ⟨by kernel_rfl, by kernel_rfl⟩
theorem k_152 : tyOk Go.Proofs.Try.prog 152 (.one [.sc .nilFunc]) := ⟨by kernel_rfl, by kernel_rfl⟩
theorem k_153 : tyOk Go.Proofs.Try.prog 153 (.one [.sc .nilFunc]) := ⟨by kernel_rfl, by kernel_rfl⟩
theorem k_154 : tyOk Go.Proofs.Try.prog 154 (.one [.sc .nilFunc]) := ⟨by kernel_rfl, by kernel_rfl⟩
theorem k_155 : tyOk Go.Proofs.Try.prog 155 (.one [.sc .nilFunc]) := ⟨by kernel_rfl, by kernel_rfl⟩
theorem k_156 : tyOk Go.Proofs.Try.prog 156 (.one [.sc (.int .u64 0)]) := ⟨by kernel_rfl, by kernel_rfl⟩
theorem k_157 : tyOk Go.Proofs.Try.prog 157 (.one [.sc .nilFunc]) := ⟨by kernel_rfl, by kernel_rfl⟩
theorem k_158 : tyOk Go.Proofs.Try.prog 158 (.one [.sc .nilFunc]) := ⟨by kernel_rfl, by kernel_rfl⟩
theorem k_159 : tyOk Go.Proofs.Try.prog 159 (.one [.sc .nilFunc]) := ⟨by kernel_rfl, by kernel_rfl⟩
theorem k_160 : tyOk Go.Proofs.Try.prog 160 (.one [.sc .nilFunc]) := ⟨by kernel_rfl, by kernel_rfl⟩
theorem k_161 : tyOk Go.Proofs.Try.prog 161 (.one [.sc .nilFunc]) := ⟨by kernel_rfl, by kernel_rfl⟩
theorem k_162 : tyOk Go.Proofs.Try.prog 162 (.one [.sc (.int .i64 0)]) := ⟨by kernel_rfl, by kernel_rfl⟩
theorem k_164 : tyOk Go.Proofs.Try.prog 164 (.one [.sc .nilFunc]) := ⟨by kernel_rfl, by kernel_rfl⟩
theorem k_165 : tyOk Go.Proofs.Try.prog 165 (.one [.sc .nilFunc]) := ⟨by kernel_rfl, by kernel_rfl⟩
theorem k_166 : tyOk Go.Proofs.Try.prog 166 (.one [.sc .nilFunc]) := ⟨by kernel_rfl, by kernel_rfl⟩
theorem k_168 : tyOk Go.Proofs.Try.prog 168 (.one [.sc .nilFunc]) := ⟨by kernel_rfl, by kernel_rfl⟩
theorem k_169 : tyOk Go.Proofs.Try.prog 169 (.one [.sc .nilFunc]) := ⟨by kernel_rfl, by kernel_rfl⟩
theorem k_170 : tyOk Go.Proofs.Try.prog 170 (.one [.sc (.int .u32 0)]) := ⟨by kernel_rfl, by kernel_rfl⟩
theorem k_171 : tyOk Go.Proofs.Try.prog 171 (.one [.sc .nilFunc]) := ⟨by kernel_rfl, by kernel_rfl⟩
theorem k_172 : tyOk Go.Proofs.Try.prog 172 (.one [.sc (.int .u64 0)]) := ⟨by kernel_rfl, by kernel_rfl⟩
theorem k_173 : tyOk Go.Proofs.Try.prog 173 (.one [.sc .nilFunc]) := ⟨by kernel_rfl, by kernel_rfl⟩
theorem k_174 : tyOk Go.Proofs.Try.prog 174 (.one [.sc .nilFunc]) := ⟨by kernel_rfl, by kernel_rfl⟩
theorem k_175 : tyOk Go.Proofs.Try.prog 175 (.one [.sc .nilFunc]) := ⟨by kernel_rfl, by kernel_rfl⟩
theorem k_176 : tyOk Go.Proofs.Try.prog 176 (.one [.sc (.pointer none)]) := ⟨by kernel_rfl, by kernel_rfl⟩
theorem k_177 : tyOk Go.Proofs.Try.prog 177 (.one [.sc .nilFunc]) := ⟨by kernel_rfl, by kernel_rfl⟩
theorem k_178 : tyOk Go.Proofs.Try.prog 178 (.one [.sc (.pointer none)]) := ⟨by kernel_rfl, by kernel_rfl⟩
theorem k_180 : tyOk Go.Proofs.Try.prog 180 (.one [.sc .nilFunc]) := ⟨by kernel_rfl, by kernel_rfl⟩
theorem k_181 : tyOk Go.Proofs.Try.prog 181 (.one [.sc .nilFunc]) := ⟨by kernel_rfl, by kernel_rfl⟩
theorem k_182 : tyOk Go.Proofs.Try.prog 182 (.agg [(0, 1), (1, 1), (2, 1), (3, 1)] [.sc (.pointer none), .sc (.pointer none), .sc (.pointer none), .sc (.string ⟨#[]⟩)]) := ⟨by kernel_rfl, by kernel_rfl, by kernel_rfl⟩
theorem k_183 : tyOk Go.Proofs.Try.prog 183 (.agg [(0, 1), (1, 1), (2, 1), (3, 1)] [.sc (.pointer none), .sc (.pointer none), .sc (.pointer none), .sc (.string ⟨#[]⟩)]) := ⟨by kernel_rfl, by kernel_rfl, by kernel_rfl⟩
theorem k_184 : tyOk Go.Proofs.Try.prog 184 (.arr 0 16 1 []) := ⟨by kernel_rfl, by kernel_rfl, by kernel_rfl⟩
theorem k_185 : tyOk Go.Proofs.Try.prog 185 (.agg [(0, 0)] []) := ⟨by kernel_rfl, by kernel_rfl, by kernel_rfl⟩
theorem k_186 : tyOk Go.Proofs.Try.prog 186 (.agg [(0, 0)] []) := ⟨by kernel_rfl, by kernel_rfl, by kernel_rfl⟩
theorem k_187 : tyOk Go.Proofs.Try.prog 187 (.one [.sc (.int .u8 0)]) := ⟨by kernel_rfl, by kernel_rfl⟩
theorem k_188 : tyOk Go.Proofs.Try.prog 188 (.one [.sc (.int .u8 0)]) := ⟨by kernel_rfl, by kernel_rfl⟩
theorem k_189 : tyOk Go.Proofs.Try.prog 189 (.one [.sc .nilFunc]) := ⟨by kernel_rfl, by kernel_rfl⟩
theorem k_190 : tyOk Go.Proofs.Try.prog 190 (.one [.sc (.pointer none)]) := ⟨by kernel_rfl, by kernel_rfl⟩
theorem k_191 : tyOk Go.Proofs.Try.prog 191 (.one [.sc (.int .i32 0)]) := ⟨by kernel_rfl, by kernel_rfl⟩
theorem k_192 : tyOk Go.Proofs.Try.prog 192 (.one [.sc (.int .i32 0)]) := ⟨by kernel_rfl, by kernel_rfl⟩
theorem k_193 : tyOk Go.Proofs.Try.prog 193 (.agg [(0, 1), (1, 1), (2, 1), (3, 1), (4, 1), (5, 1), (6, 1), (7, 1), (8, 1), (9, 1), (10, 1)] [.sc (.int .u64 0), .sc (.int .u64 0), .sc (.int .u32 0), .sc (.int .u8 0), .sc (.int .u8 0), .sc (.int .u8 0), .sc (.int .u8 0), .sc .nilFunc, .sc (.pointer none), .sc (.int .i32 0), .sc (.int .i32 0)]) := ⟨by kernel_rfl, by kernel_rfl, by kernel_rfl⟩
theorem k_194 : tyOk Go.Proofs.Try.prog 194 (.agg [(0, 1), (1, 1), (2, 1), (3, 1), (4, 1), (5, 1), (6, 1), (7, 1), (8, 1), (9, 1), (10, 1)] [.sc (.int .u64 0), .sc (.int .u64 0), .sc (.int .u32 0), .sc (.int .u8 0), .sc (.int .u8 0), .sc (.int .u8 0), .sc (.int .u8 0), .sc .nilFunc, .sc (.pointer none), .sc (.int .i32 0), .sc (.int .i32 0)]) := ⟨by kernel_rfl, by kernel_rfl, by kernel_rfl⟩
def tt : TT := .node (none) (.node (some (.one [.sc .nilFunc])) (.node (some (.one [.sc (.int .i64 0)])) (.node (some (.agg [(0, 1), (1, 1), (2, 1), (3, 1)] [.sc (.int .i64 0), .sc (.int .i64 0), .sc (.bool false), .sc (.int .u8 0)])) (.node (some (.one [.sc (.pointer none)])) (.node (some (.one [.sc .nilFunc])) (.node (some (.one [.sc .nilFunc])) (.node (some (.one [.sc .nilFunc])) (.leaf) (.leaf)) (.node (some (.one [.sc (.int .i32 0)])) (.leaf) (.leaf))) (.node (some (.one [.sc .nilFunc])) (.node (some (.one [.sc .nilFunc])) (.leaf) (.leaf)) (.leaf))) (.node (some (.slice 39 1 24)) (.node (none) (.node (some (.one [.sc .nilFunc])) (.leaf) (.leaf)) (.leaf)) (.node (some (.one [.sc .nilFunc])) (.node (some (.one [.sc .nilFunc])) (.leaf) (.leaf)) (.leaf)))) (.node (some (.agg [(0, 1), (1, 1), (2, 1)] [.sc (.int .i64 0), .sc (.string ⟨#[]⟩), .sc (.string ⟨#[]⟩)])) (.node (some (.slice 5 1 1)) (.node (some (.one [.sc .nilFunc])) (.node (some (.one [.sc .nilFunc])) (.leaf) (.leaf)) (.leaf)) (.node (some (.one [.sc .nilFunc])) (.leaf) (.leaf))) (.node (some (.agg [(0, 1), (1, 1)] [.sc (.int .i64 0), .sc (.int .i64 0)])) (.node (some (.one [.sc .nilFunc])) (.node (some (.one [.sc .nilFunc])) (.leaf) (.leaf)) (.leaf)) (.node (some (.agg [(0, 1)] [.sc (.map none)])) (.node (some (.agg [(0, 1), (1, 1), (2, 1), (3, 1)] [.sc (.pointer none), .sc (.pointer none), .sc (.pointer none), .sc (.string ⟨#[]⟩)])) (.leaf) (.leaf)) (.leaf))))) (.node (some (.str)) (.node (some (.agg [(0, 1)] [.sc (.pointer none)])) (.node (some (.one [.sc .nilFunc])) (.node (some (.slice 26 7 96)) (.node (some (.one [.sc .nilFunc])) (.leaf) (.leaf)) (.leaf)) (.node (some (.one [.sc .nilFunc])) (.leaf) (.leaf))) (.node (some (.one [.sc .nilFunc])) (.leaf) (.node (some (.one [.sc .nilFunc])) (.leaf) (.leaf)))) (.node (some (.slice 38 2 32)) (.node (some (.one [.sc .nilFunc])) (.node (some (.one [.sc .nilFunc])) (.node (some (.one [.sc .nilFunc])) (.leaf) (.leaf)) (.leaf)) (.node (some (.agg [(0, 1), (1, 1), (2, 1), (3, 1), (4, 2), (6, 6), (12, 3), (15, 1)] [.sc (.int .i64 0), .sc (.int .i64 0), .sc (.string ⟨#[]⟩), .sc (.bool false), .sc (.int .i64 0), .sc (.int .i64 0), .sc (.int .i64 0), .sc (.int .i64 0), .sc (.int .i64 0), .sc (.int .i64 0), .sc (.int .i64 0), .sc (.int .i64 0), .sc (.int .i64 0), .sc (.string ⟨#[]⟩), .sc (.string ⟨#[]⟩), .sc (.int .i64 0)])) (.node (some (.one [.sc .nilFunc])) (.leaf) (.leaf)) (.leaf))) (.node (some (.one [.sc (.pointer none)])) (.node (some (.one [.sc .nilFunc])) (.node (some (.one [.sc .nilFunc])) (.leaf) (.leaf)) (.leaf)) (.node (some (.agg [(0, 20), (20, 1), (21, 1), (22, 1)] [.sc (.int .i64 0), .sc (.int .i64 0), .sc (.int .i64 0), .sc (.int .i64 0), .sc (.int .i64 0), .sc (.int .i64 0), .sc (.string ⟨#[]⟩), .sc (.string ⟨#[]⟩), .sc (.string ⟨#[]⟩), .sc (.string ⟨#[]⟩), .sc (.int .i64 0), .sc (.int .i64 0), .sc (.string ⟨#[]⟩), .sc (.string ⟨#[]⟩), .sc (.int .i64 0), .sc (.string ⟨#[]⟩), .row [], .sc (.int .i64 0), .row [], .row [], .sc (.int .i64 0), .row [], .sc (.int .i64 0)])) (.node (some (.one [.sc (.int .u8 0)])) (.leaf) (.leaf)) (.leaf)))))) (.node (some (.one [.sc (.int .u8 0)])) (.node (some (.str)) (.node (some (.one [.sc (.pointer none)])) (.node (some (.slice 23 3 40)) (.node (some (.slice 56 2 16)) (.node (some (.one [.sc .nilFunc])) (.leaf) (.leaf)) (.node (some (.agg [(0, 1), (1, 1), (2, 1), (3, 1), (4, 1), (5, 1), (6, 1), (7, 1), (8, 1), (9, 1), (10, 1)] [.sc (.int .u64 0), .sc (.int .u64 0), .sc (.int .u32 0), .sc (.int .u8 0), .sc (.int .u8 0), .sc (.int .u8 0), .sc (.int .u8 0), .sc .nilFunc, .sc (.pointer none), .sc (.int .i32 0), .sc (.int .i32 0)])) (.leaf) (.leaf))) (.node (some (.one [.sc .nilFunc])) (.node (some (.one [.sc .nilFunc])) (.leaf) (.leaf)) (.leaf))) (.node (some (.one [.sc .nilFunc])) (.node (some (.one [.sc .nilFunc])) (.node (some (.one [.sc (.int .u64 0)])) (.leaf) (.leaf)) (.leaf)) (.node (some (.one [.sc .nilFunc])) (.node (some (.one [.sc .nilFunc])) (.leaf) (.leaf)) (.leaf)))) (.node (some (.agg [(0, 3), (3, 1), (4, 1), (5, 1), (6, 1)] [.sc (.int .i64 0), .sc (.string ⟨#[]⟩), .sc (.string ⟨#[]⟩), .sc (.int .i64 0), .sc (.string ⟨#[]⟩), .row [], .sc (.int .i64 0)])) (.node (some (.one [.sc .nilFunc])) (.node (some (.one [.sc .nilFunc])) (.node (some (.one [.sc .nilFunc])) (.leaf) (.leaf)) (.leaf)) (.node (some (.arr 6 3 1 [.sc (.int .i64 0), .sc (.int .i64 0), .sc (.int .i64 0), .sc (.int .i64 0), .sc (.int .i64 0), .sc (.int .i64 0)])) (.node (some (.one [.sc .nilFunc])) (.leaf) (.leaf)) (.leaf))) (.node (some (.agg [(0, 2), (2, 2), (4, 16)] [.sc (.int .i64 0), .sc (.int .i64 0), .sc (.int .i64 0), .sc (.int .i64 0), .sc (.int .i64 0), .sc (.int .i64 0), .sc (.string ⟨#[]⟩), .sc (.string ⟨#[]⟩), .sc (.string ⟨#[]⟩), .sc (.string ⟨#[]⟩), .sc (.int .i64 0), .sc (.int .i64 0), .sc (.string ⟨#[]⟩), .sc (.string ⟨#[]⟩), .sc (.int .i64 0), .sc (.string ⟨#[]⟩), .row [], .sc (.int .i64 0), .row [], .row []])) (.node (some (.one [.sc .nilFunc])) (.node (some (.one [.sc .nilFunc])) (.leaf) (.leaf)) (.leaf)) (.node (some (.one [.sc .nilFunc])) (.node (some (.agg [(0, 0)] [])) (.leaf) (.leaf)) (.leaf))))) (.node (some (.agg [(0, 1), (1, 1)] [.sc (.string ⟨#[]⟩), .sc (.int .u64 0)])) (.node (some (.one [.sc (.int .i32 0)])) (.node (some (.agg [(0, 1), (1, 1)] [.sc (.string ⟨#[]⟩), .sc (.string ⟨#[]⟩)])) (.node (some (.one [.sc .nilFunc])) (.leaf) (.leaf)) (.node (some (.agg [(0, 1), (1, 1), (2, 1), (3, 1)] [.row [], .sc (.int .i64 0), .sc (.int .i64 0), .sc (.bool false)])) (.node (some (.one [.sc .nilFunc])) (.leaf) (.leaf)) (.leaf))) (.node (some (.one [.sc .nilFunc])) (.node (some (.one [.sc .nilFunc])) (.node (some (.one [.sc .nilFunc])) (.leaf) (.leaf)) (.leaf)) (.node (some (.one [.sc .nilFunc])) (.node (some (.one [.sc .nilFunc])) (.leaf) (.leaf)) (.leaf)))) (.node (some (.agg [(0, 1), (1, 3), (4, 1), (5, 1), (6, 1), (7, 7), (14, 1), (15, 1)] [.sc (.int .i64 0), .sc (.int .i64 0), .sc (.string ⟨#[]⟩), .sc (.string ⟨#[]⟩), .sc (.string ⟨#[]⟩), .sc (.string ⟨#[]⟩), .sc (.int .i64 0), .sc (.int .i64 0), .sc (.string ⟨#[]⟩), .sc (.string ⟨#[]⟩), .sc (.int .i64 0), .sc (.string ⟨#[]⟩), .row [], .sc (.int .i64 0), .row [], .row []])) (.node (some (.one [.sc (.int .i64 0)])) (.node (some (.one [.sc .nilFunc])) (.node (some (.one [.sc .nilFunc])) (.leaf) (.leaf)) (.leaf)) (.node (some (.one [.sc .nilFunc])) (.node (some (.one [.sc .nilFunc])) (.leaf) (.leaf)) (.leaf))) (.node (some (.one [.sc .nilFunc])) (.node (some (.one [.sc .nilFunc])) (.node (some (.one [.sc .nilFunc])) (.leaf) (.leaf)) (.leaf)) (.node (some (.one [.sc .nilFunc])) (.node (some (.one [.sc .nilFunc])) (.leaf) (.leaf)) (.leaf))))))) (.node (some (.one [.sc (.int .i64 0)])) (.node (some (.one [.sc (.bool false)])) (.node (some (.agg [(0, 1), (1, 1), (2, 1), (3, 1)] [.sc (.int .i64 0), .sc (.int .i64 0), .sc (.bool false), .sc (.int .u8 0)])) (.node (some (.one [.sc (.pointer none)])) (.node (some (.one [.sc .nilFunc])) (.node (some (.one [.sc .nilFunc])) (.node (some (.one [.sc .nilFunc])) (.leaf) (.leaf)) (.node (some (.one [.sc (.int .i32 0)])) (.leaf) (.leaf))) (.node (some (.one [.sc .nilFunc])) (.node (some (.one [.sc .nilFunc])) (.leaf) (.leaf)) (.leaf))) (.node (none) (.node (some (.one [.sc .nilFunc])) (.node (some (.one [.sc .nilFunc])) (.leaf) (.leaf)) (.leaf)) (.node (none) (.node (some (.one [.sc (.pointer none)])) (.leaf) (.leaf)) (.leaf)))) (.node (some (.slice 9 1 16)) (.node (some (.one [.sc .nilFunc])) (.node (some (.one [.sc .nilFunc])) (.node (some (.one [.sc .nilFunc])) (.leaf) (.leaf)) (.leaf)) (.node (some (.one [.sc .nilFunc])) (.node (some (.one [.sc .nilFunc])) (.leaf) (.leaf)) (.leaf))) (.node (some (.agg [(0, 1), (1, 1)] [.sc (.int .i64 0), .sc (.int .i64 0)])) (.node (some (.one [.sc .nilFunc])) (.node (some (.one [.sc .nilFunc])) (.leaf) (.leaf)) (.leaf)) (.node (some (.agg [(0, 1)] [.sc (.map none)])) (.node (some (.arr 0 16 1 [])) (.leaf) (.leaf)) (.leaf))))) (.node (some (.one [.sc (.int .u64 0)])) (.node (none) (.node (some (.one [.sc .nilFunc])) (.node (none) (.node (some (.one [.sc .nilFunc])) (.leaf) (.leaf)) (.leaf)) (.node (some (.one [.sc .nilFunc])) (.node (some (.one [.sc .nilFunc])) (.leaf) (.leaf)) (.leaf))) (.node (some (.slice 58 20 264)) (.node (some (.one [.sc .nilFunc])) (.node (some (.one [.sc .nilFunc])) (.leaf) (.leaf)) (.leaf)) (.node (none) (.node (some (.one [.sc .nilFunc])) (.leaf) (.leaf)) (.leaf)))) (.node (some (.agg [(0, 1), (1, 3), (4, 1), (5, 1), (6, 1), (7, 7), (14, 1), (15, 1)] [.sc (.int .i64 0), .sc (.int .i64 0), .sc (.string ⟨#[]⟩), .sc (.string ⟨#[]⟩), .sc (.string ⟨#[]⟩), .sc (.string ⟨#[]⟩), .sc (.int .i64 0), .sc (.int .i64 0), .sc (.string ⟨#[]⟩), .sc (.string ⟨#[]⟩), .sc (.int .i64 0), .sc (.string ⟨#[]⟩), .row [], .sc (.int .i64 0), .row [], .row []])) (.node (some (.one [.sc .nilFunc])) (.node (some (.one [.sc .nilFunc])) (.node (some (.one [.sc .nilFunc])) (.leaf) (.leaf)) (.leaf)) (.node (some (.agg [(0, 1), (1, 1), (2, 1), (3, 1), (4, 2), (6, 6), (12, 3), (15, 1)] [.sc (.int .i64 0), .sc (.int .i64 0), .sc (.string ⟨#[]⟩), .sc (.bool false), .sc (.int .i64 0), .sc (.int .i64 0), .sc (.int .i64 0), .sc (.int .i64 0), .sc (.int .i64 0), .sc (.int .i64 0), .sc (.int .i64 0), .sc (.int .i64 0), .sc (.int .i64 0), .sc (.string ⟨#[]⟩), .sc (.string ⟨#[]⟩), .sc (.int .i64 0)])) (.node (some (.one [.sc (.int .u64 0)])) (.leaf) (.leaf)) (.leaf))) (.node (some (.one [.sc .nilFunc])) (.node (some (.one [.sc .nilFunc])) (.node (some (.one [.sc (.int .u64 0)])) (.leaf) (.leaf)) (.leaf)) (.node (none) (.node (some (.one [.sc (.int .u8 0)])) (.leaf) (.leaf)) (.leaf)))))) (.node (some (.one [.sc (.int .u8 0)])) (.node (some (.str)) (.node (some (.agg [(0, 1)] [.sc (.pointer none)])) (.node (some (.one [.sc .nilFunc])) (.node (some (.one [.sc .nilFunc])) (.node (some (.one [.sc .nilFunc])) (.leaf) (.leaf)) (.node (some (.agg [(0, 1), (1, 1), (2, 1), (3, 1), (4, 1), (5, 1), (6, 1), (7, 1), (8, 1), (9, 1), (10, 1)] [.sc (.int .u64 0), .sc (.int .u64 0), .sc (.int .u32 0), .sc (.int .u8 0), .sc (.int .u8 0), .sc (.int .u8 0), .sc (.int .u8 0), .sc .nilFunc, .sc (.pointer none), .sc (.int .i32 0), .sc (.int .i32 0)])) (.leaf) (.leaf))) (.node (some (.one [.sc .nilFunc])) (.node (some (.one [.sc (.int .i64 0)])) (.leaf) (.leaf)) (.leaf))) (.node (some (.one [.sc .nilFunc])) (.node (some (.one [.sc .nilFunc])) (.node (some (.one [.sc .nilFunc])) (.leaf) (.leaf)) (.leaf)) (.node (none) (.node (some (.one [.sc (.pointer none)])) (.leaf) (.leaf)) (.leaf)))) (.node (some (.agg [(0, 3), (3, 1), (4, 1), (5, 1), (6, 1)] [.sc (.int .i64 0), .sc (.string ⟨#[]⟩), .sc (.string ⟨#[]⟩), .sc (.int .i64 0), .sc (.string ⟨#[]⟩), .row [], .sc (.int .i64 0)])) (.node (some (.one [.sc (.pointer none)])) (.node (none) (.node (some (.one [.sc .nilFunc])) (.leaf) (.leaf)) (.leaf)) (.node (some (.arr 6 3 1 [.sc (.int .i64 0), .sc (.int .i64 0), .sc (.int .i64 0), .sc (.int .i64 0), .sc (.int .i64 0), .sc (.int .i64 0)])) (.node (some (.one [.sc (.int .u32 0)])) (.leaf) (.leaf)) (.leaf))) (.node (some (.agg [(0, 2), (2, 2), (4, 16)] [.sc (.int .i64 0), .sc (.int .i64 0), .sc (.int .i64 0), .sc (.int .i64 0), .sc (.int .i64 0), .sc (.int .i64 0), .sc (.string ⟨#[]⟩), .sc (.string ⟨#[]⟩), .sc (.string ⟨#[]⟩), .sc (.string ⟨#[]⟩), .sc (.int .i64 0), .sc (.int .i64 0), .sc (.string ⟨#[]⟩), .sc (.string ⟨#[]⟩), .sc (.int .i64 0), .sc (.string ⟨#[]⟩), .row [], .sc (.int .i64 0), .row [], .row []])) (.node (some (.one [.sc .nilFunc])) (.node (some (.one [.sc .nilFunc])) (.leaf) (.leaf)) (.leaf)) (.node (some (.agg [(0, 20), (20, 1), (21, 1), (22, 1)] [.sc (.int .i64 0), .sc (.int .i64 0), .sc (.int .i64 0), .sc (.int .i64 0), .sc (.int .i64 0), .sc (.int .i64 0), .sc (.string ⟨#[]⟩), .sc (.string ⟨#[]⟩), .sc (.string ⟨#[]⟩), .sc (.string ⟨#[]⟩), .sc (.int .i64 0), .sc (.int .i64 0), .sc (.string ⟨#[]⟩), .sc (.string ⟨#[]⟩), .sc (.int .i64 0), .sc (.string ⟨#[]⟩), .row [], .sc (.int .i64 0), .row [], .row [], .sc (.int .i64 0), .row [], .sc (.int .i64 0)])) (.node (some (.agg [(0, 0)] [])) (.leaf) (.leaf)) (.leaf))))) (.node (some (.agg [(0, 1), (1, 1)] [.sc (.string ⟨#[]⟩), .sc (.int .u64 0)])) (.node (some (.agg [(0, 1), (1, 1), (2, 1)] [.sc (.int .i64 0), .sc (.string ⟨#[]⟩), .sc (.string ⟨#[]⟩)])) (.node (some (.agg [(0, 1), (1, 1)] [.sc (.string ⟨#[]⟩), .sc (.string ⟨#[]⟩)])) (.node (some (.one [.sc .nilFunc])) (.node (some (.one [.sc .nilFunc])) (.leaf) (.leaf)) (.leaf)) (.node (some (.agg [(0, 1), (1, 1), (2, 1), (3, 1)] [.row [], .sc (.int .i64 0), .sc (.int .i64 0), .sc (.bool false)])) (.node (some (.one [.sc .nilFunc])) (.leaf) (.leaf)) (.leaf))) (.node (some (.one [.sc .nilFunc])) (.node (some (.one [.sc .nilFunc])) (.node (some (.one [.sc .nilFunc])) (.leaf) (.leaf)) (.leaf)) (.node (some (.one [.sc (.map none)])) (.node (some (.agg [(0, 1), (1, 1), (2, 1), (3, 1)] [.sc (.pointer none), .sc (.pointer none), .sc (.pointer none), .sc (.string ⟨#[]⟩)])) (.leaf) (.leaf)) (.leaf)))) (.node (some (.one [.sc .nilFunc])) (.node (some (.one [.sc .nilFunc])) (.node (some (.one [.sc .nilFunc])) (.leaf) (.leaf)) (.node (some (.one [.sc .nilFunc])) (.node (some (.one [.sc .nilFunc])) (.leaf) (.leaf)) (.leaf))) (.node (some (.one [.sc .nilFunc])) (.node (some (.one [.sc .nilFunc])) (.node (some (.one [.sc .nilFunc])) (.leaf) (.leaf)) (.leaf)) (.node (some (.one [.sc .nilFunc])) (.node (some (.one [.sc (.pointer none)])) (.leaf) (.leaf)) (.leaf)))))))
theorem all : tt.all (tyOk Go.Proofs.Try.prog) := (TT.mk (fun i h => by cases h) (TT.mk (fun i h => by injection h with h; subst h; exact k_1) (TT.mk (fun i h => by injection h with h; subst h; exact k_3) (TT.mk (fun i h => by injection h with h; subst h; exact k_7) (TT.mk (fun i h => by injection h with h; subst h; exact k_15) (TT.mk (fun i h => by injection h with h; subst h; exact k_31) (TT.mk (fun i h => by injection h with h; subst h; exact k_63) (TT.mk (fun i h => by injection h with h; subst h; exact k_127) trivial trivial) (TT.mk (fun i h => by injection h with h; subst h; exact k_191) trivial trivial)) (TT.mk (fun i h => by injection h with h; subst h; exact k_95) (TT.mk (fun i h => by injection h with h; subst h; exact k_159) trivial trivial) trivial)) (TT.mk (fun i h => by injection h with h; subst h; exact k_47) (TT.mk (fun i h => by cases h) (TT.mk (fun i h => by injection h with h; subst h; exact k_143) trivial trivial) trivial) (TT.mk (fun i h => by injection h with h; subst h; exact k_111) (TT.mk (fun i h => by injection h with h; subst h; exact k_175) trivial trivial) trivial))) (TT.mk (fun i h => by injection h with h; subst h; exact k_23) (TT.mk (fun i h => by injection h with h; subst h; exact k_39) (TT.mk (fun i h => by injection h with h; subst h; exact k_71) (TT.mk (fun i h => by injection h with h; subst h; exact k_135) trivial trivial) trivial) (TT.mk (fun i h => by injection h with h; subst h; exact k_103) trivial trivial)) (TT.mk (fun i h => by injection h with h; subst h; exact k_55) (TT.mk (fun i h => by injection h with h; subst h; exact k_87) (TT.mk (fun i h => by injection h with h; subst h; exact k_151) trivial trivial) trivial) (TT.mk (fun i h => by injection h with h; subst h; exact k_119) (TT.mk (fun i h => by injection h with h; subst h; exact k_183) trivial trivial) trivial)))) (TT.mk (fun i h => by injection h with h; subst h; exact k_11) (TT.mk (fun i h => by injection h with h; subst h; exact k_19) (TT.mk (fun i h => by injection h with h; subst h; exact k_35) (TT.mk (fun i h => by injection h with h; subst h; exact k_67) (TT.mk (fun i h => by injection h with h; subst h; exact k_131) trivial trivial) trivial) (TT.mk (fun i h => by injection h with h; subst h; exact k_99) trivial trivial)) (TT.mk (fun i h => by injection h with h; subst h; exact k_51) trivial (TT.mk (fun i h => by injection h with h; subst h; exact k_115) trivial trivial))) (TT.mk (fun i h => by injection h with h; subst h; exact k_27) (TT.mk (fun i h => by injection h with h; subst h; exact k_43) (TT.mk (fun i h => by injection h with h; subst h; exact k_75) (TT.mk (fun i h => by injection h with h; subst h; exact k_139) trivial trivial) trivial) (TT.mk (fun i h => by injection h with h; subst h; exact k_107) (TT.mk (fun i h => by injection h with h; subst h; exact k_171) trivial trivial) trivial)) (TT.mk (fun i h => by injection h with h; subst h; exact k_59) (TT.mk (fun i h => by injection h with h; subst h; exact k_91) (TT.mk (fun i h => by injection h with h; subst h; exact k_155) trivial trivial) trivial) (TT.mk (fun i h => by injection h with h; subst h; exact k_123) (TT.mk (fun i h => by injection h with h; subst h; exact k_187) trivial trivial) trivial))))) (TT.mk (fun i h => by injection h with h; subst h; exact k_5) (TT.mk (fun i h => by injection h with h; subst h; exact k_9) (TT.mk (fun i h => by injection h with h; subst h; exact k_17) (TT.mk (fun i h => by injection h with h; subst h; exact k_33) (TT.mk (fun i h => by injection h with h; subst h; exact k_65) (TT.mk (fun i h => by injection h with h; subst h; exact k_129) trivial trivial) (TT.mk (fun i h => by injection h with h; subst h; exact k_193) trivial trivial)) (TT.mk (fun i h => by injection h with h; subst h; exact k_97) (TT.mk (fun i h => by injection h with h; subst h; exact k_161) trivial trivial) trivial)) (TT.mk (fun i h => by injection h with h; subst h; exact k_49) (TT.mk (fun i h => by injection h with h; subst h; exact k_81) (TT.mk (fun i h => by injection h with h; subst h; exact k_145) trivial trivial) trivial) (TT.mk (fun i h => by injection h with h; subst h; exact k_113) (TT.mk (fun i h => by injection h with h; subst h; exact k_177) trivial trivial) trivial))) (TT.mk (fun i h => by injection h with h; subst h; exact k_25) (TT.mk (fun i h => by injection h with h; subst h; exact k_41) (TT.mk (fun i h => by injection h with h; subst h; exact k_73) (TT.mk (fun i h => by injection h with h; subst h; exact k_137) trivial trivial) trivial) (TT.mk (fun i h => by injection h with h; subst h; exact k_105) (TT.mk (fun i h => by injection h with h; subst h; exact k_169) trivial trivial) trivial)) (TT.mk (fun i h => by injection h with h; subst h; exact k_57) (TT.mk (fun i h => by injection h with h; subst h; exact k_89) (TT.mk (fun i h => by injection h with h; subst h; exact k_153) trivial trivial) trivial) (TT.mk (fun i h => by injection h with h; subst h; exact k_121) (TT.mk (fun i h => by injection h with h; subst h; exact k_185) trivial trivial) trivial)))) (TT.mk (fun i h => by injection h with h; subst h; exact k_13) (TT.mk (fun i h => by injection h with h; subst h; exact k_21) (TT.mk (fun i h => by injection h with h; subst h; exact k_37) (TT.mk (fun i h => by injection h with h; subst h; exact k_69) trivial trivial) (TT.mk (fun i h => by injection h with h; subst h; exact k_101) (TT.mk (fun i h => by injection h with h; subst h; exact k_165) trivial trivial) trivial)) (TT.mk (fun i h => by injection h with h; subst h; exact k_53) (TT.mk (fun i h => by injection h with h; subst h; exact k_85) (TT.mk (fun i h => by injection h with h; subst h; exact k_149) trivial trivial) trivial) (TT.mk (fun i h => by injection h with h; subst h; exact k_117) (TT.mk (fun i h => by injection h with h; subst h; exact k_181) trivial trivial) trivial))) (TT.mk (fun i h => by injection h with h; subst h; exact k_29) (TT.mk (fun i h => by injection h with h; subst h; exact k_45) (TT.mk (fun i h => by injection h with h; subst h; exact k_77) (TT.mk (fun i h => by injection h with h; subst h; exact k_141) trivial trivial) trivial) (TT.mk (fun i h => by injection h with h; subst h; exact k_109) (TT.mk (fun i h => by injection h with h; subst h; exact k_173) trivial trivial) trivial)) (TT.mk (fun i h => by injection h with h; subst h; exact k_61) (TT.mk (fun i h => by injection h with h; subst h; exact k_93) (TT.mk (fun i h => by injection h with h; subst h; exact k_157) trivial trivial) trivial) (TT.mk (fun i h => by injection h with h; subst h; exact k_125) (TT.mk (fun i h => by injection h with h; subst h; exact k_189) trivial trivial) trivial)))))) (TT.mk (fun i h => by injection h with h; subst h; exact k_2) (TT.mk (fun i h => by injection h with h; subst h; exact k_4) (TT.mk (fun i h => by injection h with h; subst h; exact k_8) (TT.mk (fun i h => by injection h with h; subst h; exact k_16) (TT.mk (fun i h => by injection h with h; subst h; exact k_32) (TT.mk (fun i h => by injection h with h; subst h; exact k_64) (TT.mk (fun i h => by injection h with h; subst h; exact k_128) trivial trivial) (TT.mk (fun i h => by injection h with h; subst h; exact k_192) trivial trivial)) (TT.mk (fun i h => by injection h with h; subst h; exact k_96) (TT.mk (fun i h => by injection h with h; subst h; exact k_160) trivial trivial) trivial)) (TT.mk (fun i h => by cases h) (TT.mk (fun i h => by injection h with h; subst h; exact k_80) (TT.mk (fun i h => by injection h with h; subst h; exact k_144) trivial trivial) trivial) (TT.mk (fun i h => by cases h) (TT.mk (fun i h => by injection h with h; subst h; exact k_176) trivial trivial) trivial))) (TT.mk (fun i h => by injection h with h; subst h; exact k_24) (TT.mk (fun i h => by injection h with h; subst h; exact k_40) (TT.mk (fun i h => by injection h with h; subst h; exact k_72) (TT.mk (fun i h => by injection h with h; subst h; exact k_136) trivial trivial) trivial) (TT.mk (fun i h => by injection h with h; subst h; exact k_104) (TT.mk (fun i h => by injection h with h; subst h; exact k_168) trivial trivial) trivial)) (TT.mk (fun i h => by injection h with h; subst h; exact k_56) (TT.mk (fun i h => by injection h with h; subst h; exact k_88) (TT.mk (fun i h => by injection h with h; subst h; exact k_152) trivial trivial) trivial) (TT.mk (fun i h => by injection h with h; subst h; exact k_120) (TT.mk (fun i h => by injection h with h; subst h; exact k_184) trivial trivial) trivial)))) (TT.mk (fun i h => by injection h with h; subst h; exact k_12) (TT.mk (fun i h => by cases h) (TT.mk (fun i h => by injection h with h; subst h; exact k_36) (TT.mk (fun i h => by cases h) (TT.mk (fun i h => by injection h with h; subst h; exact k_132) trivial trivial) trivial) (TT.mk (fun i h => by injection h with h; subst h; exact k_100) (TT.mk (fun i h => by injection h with h; subst h; exact k_164) trivial trivial) trivial)) (TT.mk (fun i h => by injection h with h; subst h; exact k_52) (TT.mk (fun i h => by injection h with h; subst h; exact k_84) (TT.mk (fun i h => by injection h with h; subst h; exact k_148) trivial trivial) trivial) (TT.mk (fun i h => by cases h) (TT.mk (fun i h => by injection h with h; subst h; exact k_180) trivial trivial) trivial))) (TT.mk (fun i h => by injection h with h; subst h; exact k_28) (TT.mk (fun i h => by injection h with h; subst h; exact k_44) (TT.mk (fun i h => by injection h with h; subst h; exact k_76) (TT.mk (fun i h => by injection h with h; subst h; exact k_140) trivial trivial) trivial) (TT.mk (fun i h => by injection h with h; subst h; exact k_108) (TT.mk (fun i h => by injection h with h; subst h; exact k_172) trivial trivial) trivial)) (TT.mk (fun i h => by injection h with h; subst h; exact k_60) (TT.mk (fun i h => by injection h with h; subst h; exact k_92) (TT.mk (fun i h => by injection h with h; subst h; exact k_156) trivial trivial) trivial) (TT.mk (fun i h => by cases h) (TT.mk (fun i h => by injection h with h; subst h; exact k_188) trivial trivial) trivial))))) (TT.mk (fun i h => by injection h with h; subst h; exact k_6) (TT.mk (fun i h => by injection h with h; subst h; exact k_10) (TT.mk (fun i h => by injection h with h; subst h; exact k_18) (TT.mk (fun i h => by injection h with h; subst h; exact k_34) (TT.mk (fun i h => by injection h with h; subst h; exact k_66) (TT.mk (fun i h => by injection h with h; subst h; exact k_130) trivial trivial) (TT.mk (fun i h => by injection h with h; subst h; exact k_194) trivial trivial)) (TT.mk (fun i h => by injection h with h; subst h; exact k_98) (TT.mk (fun i h => by injection h with h; subst h; exact k_162) trivial trivial) trivial)) (TT.mk (fun i h => by injection h with h; subst h; exact k_50) (TT.mk (fun i h => by injection h with h; subst h; exact k_82) (TT.mk (fun i h => by injection h with h; subst h; exact k_146) trivial trivial) trivial) (TT.mk (fun i h => by cases h) (TT.mk (fun i h => by injection h with h; subst h; exact k_178) trivial trivial) trivial))) (TT.mk (fun i h => by injection h with h; subst h; exact k_26) (TT.mk (fun i h => by injection h with h; subst h; exact k_42) (TT.mk (fun i h => by cases h) (TT.mk (fun i h => by injection h with h; subst h; exact k_138) trivial trivial) trivial) (TT.mk (fun i h => by injection h with h; subst h; exact k_106) (TT.mk (fun i h => by injection h with h; subst h; exact k_170) trivial trivial) trivial)) (TT.mk (fun i h => by injection h with h; subst h; exact k_58) (TT.mk (fun i h => by injection h with h; subst h; exact k_90) (TT.mk (fun i h => by injection h with h; subst h; exact k_154) trivial trivial) trivial) (TT.mk (fun i h => by injection h with h; subst h; exact k_122) (TT.mk (fun i h => by injection h with h; subst h; exact k_186) trivial trivial) trivial)))) (TT.mk (fun i h => by injection h with h; subst h; exact k_14) (TT.mk (fun i h => by injection h with h; subst h; exact k_22) (TT.mk (fun i h => by injection h with h; subst h; exact k_38) (TT.mk (fun i h => by injection h with h; subst h; exact k_70) (TT.mk (fun i h => by injection h with h; subst h; exact k_134) trivial trivial) trivial) (TT.mk (fun i h => by injection h with h; subst h; exact k_102) (TT.mk (fun i h => by injection h with h; subst h; exact k_166) trivial trivial) trivial)) (TT.mk (fun i h => by injection h with h; subst h; exact k_54) (TT.mk (fun i h => by injection h with h; subst h; exact k_86) (TT.mk (fun i h => by injection h with h; subst h; exact k_150) trivial trivial) trivial) (TT.mk (fun i h => by injection h with h; subst h; exact k_118) (TT.mk (fun i h => by injection h with h; subst h; exact k_182) trivial trivial) trivial))) (TT.mk (fun i h => by injection h with h; subst h; exact k_30) (TT.mk (fun i h => by injection h with h; subst h; exact k_46) (TT.mk (fun i h => by injection h with h; subst h; exact k_78) trivial trivial) (TT.mk (fun i h => by injection h with h; subst h; exact k_110) (TT.mk (fun i h => by injection h with h; subst h; exact k_174) trivial trivial) trivial)) (TT.mk (fun i h => by injection h with h; subst h; exact k_62) (TT.mk (fun i h => by injection h with h; subst h; exact k_94) (TT.mk (fun i h => by injection h with h; subst h; exact k_158) trivial trivial) trivial) (TT.mk (fun i h => by injection h with h; subst h; exact k_126) (TT.mk (fun i h => by injection h with h; subst h; exact k_190) trivial trivial) trivial)))))))
theorem ok : TTok Go.Proofs.Try.prog tt := fun t i h => TT.all_get all t i h
theorem en_6 : enters Go.Proofs.Try.prog 6 = true := by kernel_rfl
theorem en_7 : enters Go.Proofs.Try.prog 7 = true := by kernel_rfl
theorem en_8 : enters Go.Proofs.Try.prog 8 = true := by kernel_rfl
theorem en_9 : enters Go.Proofs.Try.prog 9 = true := by kernel_rfl
theorem en_10 : enters Go.Proofs.Try.prog 10 = true := by kernel_rfl
theorem en_11 : enters Go.Proofs.Try.prog 11 = true := by kernel_rfl
theorem en_12 : enters Go.Proofs.Try.prog 12 = true := by kernel_rfl
theorem en_13 : enters Go.Proofs.Try.prog 13 = true := by kernel_rfl
theorem en_14 : enters Go.Proofs.Try.prog 14 = true := by kernel_rfl
theorem en_15 : enters Go.Proofs.Try.prog 15 = true := by kernel_rfl
theorem en_16 : enters Go.Proofs.Try.prog 16 = true := by kernel_rfl
theorem en_17 : enters Go.Proofs.Try.prog 17 = true := by kernel_rfl
theorem en_18 : enters Go.Proofs.Try.prog 18 = true := by kernel_rfl
theorem en_19 : enters Go.Proofs.Try.prog 19 = true := by kernel_rfl
theorem en_20 : enters Go.Proofs.Try.prog 20 = true := by kernel_rfl
theorem en_21 : enters Go.Proofs.Try.prog 21 = true := by kernel_rfl
theorem en_22 : enters Go.Proofs.Try.prog 22 = true := by kernel_rfl
theorem en_23 : enters Go.Proofs.Try.prog 23 = true := by kernel_rfl
theorem en_24 : enters Go.Proofs.Try.prog 24 = true := by kernel_rfl
theorem en_25 : enters Go.Proofs.Try.prog 25 = true := by kernel_rfl
theorem en_26 : enters Go.Proofs.Try.prog 26 = true := by kernel_rfl
theorem en_27 : enters Go.Proofs.Try.prog 27 = true := by kernel_rfl
theorem en_28 : enters Go.Proofs.Try.prog 28 = true := by kernel_rfl
theorem en_29 : enters Go.Proofs.Try.prog 29 = true := by kernel_rfl
theorem en_30 : enters Go.Proofs.Try.prog 30 = true := by kernel_rfl
theorem en_31 : enters Go.Proofs.Try.prog 31 = true := by kernel_rfl
theorem en_32 : enters Go.Proofs.Try.prog 32 = true := by kernel_rfl
theorem en_33 : enters Go.Proofs.Try.prog 33 = true := by kernel_rfl
theorem en_34 : enters Go.Proofs.Try.prog 34 = true := by kernel_rfl
theorem en_35 : enters Go.Proofs.Try.prog 35 = true := by kernel_rfl
theorem en_36 : enters Go.Proofs.Try.prog 36 = true := by kernel_rfl
theorem en_37 : enters Go.Proofs.Try.prog 37 = true := by kernel_rfl
theorem en_38 : enters Go.Proofs.Try.prog 38 = true := by kernel_rfl
theorem en_39 : enters Go.Proofs.Try.prog 39 = true := by kernel_rfl
theorem en_40 : enters Go.Proofs.Try.prog 40 = true := by kernel_rfl
theorem en_41 : enters Go.Proofs.Try.prog 41 = true := by kernel_rfl
theorem en_42 : enters Go.Proofs.Try.prog 42 = true := by kernel_rfl
theorem en_43 : enters Go.Proofs.Try.prog 43 = true := by kernel_rfl
theorem en_44 : enters Go.Proofs.Try.prog 44 = true := by kernel_rfl
theorem en_45 : enters Go.Proofs.Try.prog 45 = true := by kernel_rfl
theorem en_46 : enters Go.Proofs.Try.prog 46 = true := by kernel_rfl
theorem en_47 : enters Go.Proofs.Try.prog 47 = true := by kernel_rfl
theorem en_48 : enters Go.Proofs.Try.prog 48 = true := by kernel_rfl
theorem en_49 : enters Go.Proofs.Try.prog 49 = true := by kernel_rfl
theorem en_50 : enters Go.Proofs.Try.prog 50 = true := by kernel_rfl
theorem en_51 : enters Go.Proofs.Try.prog 51 = true := by kernel_rfl
theorem en_52 : enters Go.Proofs.Try.prog 52 = true := by kernel_rfl
theorem en_53 : enters Go.Proofs.Try.prog 53 = true := by kernel_rfl
theorem en_54 : enters Go.Proofs.Try.prog 54 = true := by kernel_rfl
theorem en_55 : enters Go.Proofs.Try.prog 55 = true := by kernel_rfl
theorem en_56 : enters Go.Proofs.Try.prog 56 = true := by kernel_rfl
theorem en_57 : enters Go.Proofs.Try.prog 57 = true := by kernel_rfl
theorem en_58 : enters Go.Proofs.Try.prog 58 = true := by kernel_rfl
theorem en_59 : enters Go.Proofs.Try.prog 59 = true := by kernel_rfl
theorem en_60 : enters Go.Proofs.Try.prog 60 = true := by kernel_rfl
theorem en_61 : enters Go.Proofs.Try.prog 61 = true := by kernel_rfl
theorem en_62 : enters Go.Proofs.Try.prog 62 = true := by kernel_rfl
theorem en_63 : enters Go.Proofs.Try.prog 63 = true := by kernel_rfl
theorem en_64 : enters Go.Proofs.Try.prog 64 = true := by kernel_rfl
theorem en_65 : enters Go.Proofs.Try.prog 65 = true := by kernel_rfl
theorem en_66 : enters Go.Proofs.Try.prog 66 = true := by kernel_rfl
theorem en_67 : enters Go.Proofs.Try.prog 67 = true := by kernel_rfl
theorem en_68 : enters Go.Proofs.Try.prog 68 = true := by kernel_rfl
theorem en_69 : enters Go.Proofs.Try.prog 69 = true := by kernel_rfl
theorem en_70 : enters Go.Proofs.Try.prog 70 = true := by kernel_rfl
theorem en_71 : enters Go.Proofs.Try.prog 71 = true := by kernel_rfl
theorem en_72 : enters Go.Proofs.Try.prog 72 = true := by kernel_rfl
theorem en_73 : enters Go.Proofs.Try.prog 73 = true := by kernel_rfl
theorem en_74 : enters Go.Proofs.Try.prog 74 = true := by kernel_rfl
theorem en_75 : enters Go.Proofs.Try.prog 75 = true := by kernel_rfl
theorem en_76 : enters Go.Proofs.Try.prog 76 = true := by kernel_rfl
theorem en_77 : enters Go.Proofs.Try.prog 77 = true := by kernel_rfl
theorem en_78 : enters Go.Proofs.Try.prog 78 = true := by kernel_rfl
theorem en_79 : enters Go.Proofs.Try.prog 79 = true := by kernel_rfl
theorem en_80 : enters Go.Proofs.Try.prog 80 = true := by kernel_rfl
theorem en_81 : enters Go.Proofs.Try.prog 81 = true := by kernel_rfl
theorem en_82 : enters Go.Proofs.Try.prog 82 = true := by kernel_rfl
theorem en_83 : enters Go.Proofs.Try.prog 83 = true := by kernel_rfl
theorem en_84 : enters Go.Proofs.Try.prog 84 = true := by kernel_rfl
theorem en_85 : enters Go.Proofs.Try.prog 85 = true := by kernel_rfl
theorem en_86 : enters Go.Proofs.Try.prog 86 = true := by kernel_rfl
theorem en_87 : enters Go.Proofs.Try.prog 87 = true := by kernel_rfl
theorem en_88 : enters Go.Proofs.Try.prog 88 = true := by kernel_rfl
theorem en_89 : enters Go.Proofs.Try.prog 89 = true := by kernel_rfl
theorem en_90 : enters Go.Proofs.Try.prog 90 = true := by kernel_rfl
theorem en_91 : enters Go.Proofs.Try.prog 91 = true := by kernel_rfl
theorem en_92 : enters Go.Proofs.Try.prog 92 = true := by kernel_rfl
theorem en_95 : enters Go.Proofs.Try.prog 95 = true := by kernel_rfl
theorem en_96 : enters Go.Proofs.Try.prog 96 = true := by kernel_rfl
theorem en_97 : enters Go.Proofs.Try.prog 97 = true := by kernel_rfl
theorem en_98 : enters Go.Proofs.Try.prog 98 = true := by kernel_rfl
theorem en_99 : enters Go.Proofs.Try.prog 99 = true := by kernel_rfl
theorem en_100 : enters Go.Proofs.Try.prog 100 = true := by kernel_rfl
theorem en_101 : enters Go.Proofs.Try.prog 101 = true := by kernel_rfl
theorem en_102 : enters Go.Proofs.Try.prog 102 = true := by kernel_rfl
theorem en_103 : enters Go.Proofs.Try.prog 103 = true := by kernel_rfl
theorem en_104 : enters Go.Proofs.Try.prog 104 = true := by kernel_rfl
theorem en_105 : enters Go.Proofs.Try.prog 105 = true := by kernel_rfl
theorem en_106 : enters Go.Proofs.Try.prog 106 = true := by kernel_rfl
theorem en_107 : enters Go.Proofs.Try.prog 107 = true := by kernel_rfl
theorem en_108 : enters Go.Proofs.Try.prog 108 = true := by kernel_rfl
theorem en_109 : enters Go.Proofs.Try.prog 109 = true := by kernel_rfl
theorem en_110 : enters Go.Proofs.Try.prog 110 = true := by kernel_rfl
theorem en_111 : enters Go.Proofs.Try.prog 111 = true := by kernel_rfl
theorem en_112 : enters Go.Proofs.Try.prog 112 = true := by kernel_rfl
theorem en_113 : enters Go.Proofs.Try.prog 113 = true := by kernel_rfl
theorem en_114 : enters Go.Proofs.Try.prog 114 = true := by kernel_rfl
theorem en_115 : enters Go.Proofs.Try.prog 115 = true := by kernel_rfl
theorem en_116 : enters Go.Proofs.Try.prog 116 = true := by kernel_rfl
theorem en_117 : enters Go.Proofs.Try.prog 117 = true := by kernel_rfl
theorem en_118 : enters Go.Proofs.Try.prog 118 = true := by kernel_rfl
theorem en_119 : enters Go.Proofs.Try.prog 119 = true := by kernel_rfl
theorem en_120 : enters Go.Proofs.Try.prog 120 = true := by kernel_rfl
theorem en_122 : enters Go.Proofs.Try.prog 122 = true := by kernel_rfl
theorem en_123 : enters Go.Proofs.Try.prog 123 = true := by kernel_rfl
theorem en_124 : enters Go.Proofs.Try.prog 124 = true := by kernel_rfl
theorem en_125 : enters Go.Proofs.Try.prog 125 = true := by kernel_rfl
theorem en_126 : enters Go.Proofs.Try.prog 126 = true := by kernel_rfl
theorem en_127 : enters Go.Proofs.Try.prog 127 = true := by kernel_rfl
theorem en_128 : enters Go.Proofs.Try.prog 128 = true := by kernel_rfl
theorem en_129 : enters Go.Proofs.Try.prog 129 = true := by kernel_rfl
theorem en_130 : enters Go.Proofs.Try.prog 130 = true := by kernel_rfl
theorem en_131 : enters Go.Proofs.Try.prog 131 = true := by kernel_rfl
theorem en_132 : enters Go.Proofs.Try.prog 132 = true := by kernel_rfl
theorem en_133 : enters Go.Proofs.Try.prog 133 = true := by kernel_rfl
theorem en_134 : enters Go.Proofs.Try.prog 134 = true := by kernel_rfl
theorem en_135 : enters Go.Proofs.Try.prog 135 = true := by kernel_rfl
theorem en_136 : enters Go.Proofs.Try.prog 136 = true := by kernel_rfl
theorem en_137 : enters Go.Proofs.Try.prog 137 = true := by kernel_rfl
theorem en_138 : enters Go.Proofs.Try.prog 138 = true := by kernel_rfl
theorem en_139 : enters Go.Proofs.Try.prog 139 = true := by kernel_rfl
theorem en_140 : enters Go.Proofs.Try.prog 140 = true := by kernel_rfl
theorem en_141 : enters Go.Proofs.Try.prog 141 = true := by kernel_rfl
theorem en_142 : enters Go.Proofs.Try.prog 142 = true := by kernel_rfl
theorem en_143 : enters Go.Proofs.Try.prog 143 = true := by kernel_rfl
theorem en_144 : enters Go.Proofs.Try.prog 144 = true := by kernel_rfl
theorem en_145 : enters Go.Proofs.Try.prog 145 = true := by kernel_rfl
theorem en_146 : enters Go.Proofs.Try.prog 146 = true := by kernel_rfl
theorem en_147 : enters Go.Proofs.Try.prog 147 = true := by kernel_rfl
theorem en_148 : enters Go.Proofs.Try.prog 148 = true := by kernel_rfl
theorem en_149 : enters Go.Proofs.Try.prog 149 = true := by kernel_rfl
theorem en_150 : enters Go.Proofs.Try.prog 150 = true := by kernel_rfl
theorem en_151 : enters Go.Proofs.Try.prog 151 = true := by kernel_rfl
theorem en_152 : enters Go.Proofs.Try.prog 152 = true := by kernel_rfl
theorem mixed : Go.Proofs.Try.prog.follows .mixedOrders = true := by kernel_rfl
theorem fn {N : Nat} {f : FuncId} {fn : Func} {c : Code} {args : List D} {res : List C} {rs : List ResultVar} (fb : List Nat) (hf : Go.Proofs.Try.prog.funcs[f]? = some fn) (hk : argsT 0 args .leaf fun t => xcode Go.Proofs.Try.prog tt N fb c t (fun _ => .junk) (finK Go.Proofs.Try.prog tt rs res []))
    (hb : fn.body = some c := by rfl) (hN : fn.ntmps = N := by rfl) (hrs : fn.results.toList = rs := by rfl) (hargs : args.length ≤ N := by exact Nat.le_of_ble_eq_true rfl) (hNB : N ≤ BIG := by exact Nat.le_of_ble_eq_true rfl) : Contract Go.Proofs.Try.prog f args res := xfn ok fb hf hb hN hrs hargs hNB hk
theorem fnH {N : Nat} {f : FuncId} {fn : Func} {c : Code} {args : List D} {res : List C} {pre post : List (Nat × S)} {rs : List ResultVar} (fb : List Nat) (hf : Go.Proofs.Try.prog.funcs[f]? = some fn) (hk : argsT 0 args .leaf fun t => xcode Go.Proofs.Try.prog tt N fb c t (hOf pre) (finK Go.Proofs.Try.prog tt rs res post))
    (hbig : ∀ p ∈ pre, NAM ≤ p.1) (hp : ∀ p ∈ pre, thing p.2 = true) (hq : ∀ p ∈ post, thing p.2 = true) (hb : fn.body = some c := by rfl) (hN : fn.ntmps = N := by rfl) (hrs : fn.results.toList = rs := by rfl) (hargs : args.length ≤ N := by exact Nat.le_of_ble_eq_true rfl) (hNB : N ≤ BIG := by exact Nat.le_of_ble_eq_true rfl) : ContractH Go.Proofs.Try.prog f args pre res post := xfnH ok fb hf hb hN hrs hargs hNB hbig hp hq hk
theorem fnE {α : Type} {R : α → Prop} {N : Nat} {f : FuncId} {fn : Func} {c : Code} {args : List D} {res : α → List C} {pre : List (Nat × S)} {post : α → List (Nat × S)} {rs : List ResultVar} (fb : List Nat) (hf : Go.Proofs.Try.prog.funcs[f]? = some fn) (hk : argsT 0 args .leaf fun t => xcode Go.Proofs.Try.prog tt N fb c t (hOf pre) (finE Go.Proofs.Try.prog tt rs R res post))
    (hbig : ∀ p ∈ pre, NAM ≤ p.1) (hp : ∀ p ∈ pre, thing p.2 = true) (hq : ∀ x, R x → ∀ p ∈ post x, thing p.2 = true) (hb : fn.body = some c := by rfl) (hN : fn.ntmps = N := by rfl) (hrs : fn.results.toList = rs := by rfl) (hargs : args.length ≤ N := by exact Nat.le_of_ble_eq_true rfl) (hNB : N ≤ BIG := by exact Nat.le_of_ble_eq_true rfl) : ContractE Go.Proofs.Try.prog f args pre R res post := xfnE ok fb hf hb hN hrs hargs hNB hbig hp hq hk
end Go.Vm.T
end
section
namespace Go.Vm
open Go.RowKit Go.Proofs
set_option linter.unusedVariables false
set_option linter.unusedSimpArgs false
set_option maxRecDepth 10000

theorem emp : ByteArray.empty = noB := rfl
theorem scb {a b : Bool} (h : a = b) : D.sc (.bool a) = D.sc (.bool b) := by rw [h]
theorem elem_at {α : Type} {l : List α} {k : Nat} (h : (k : Int) < (l.length : Int)) : ∃ p, l[k]? = some p := by
  have : k < l.length := by omega
  exact ⟨_, List.getElem?_eq_getElem this⟩
theorem charAt {s : ByteArray} {k : Nat} (h : (k : Int) < (s.size : Int)) : ∃ b, s[k]? = some b := ⟨s[k]'(by omega), by rw [getElem?_pos]⟩
theorem mapAt {α : Type} {f : α → D} {l : List α} {k : Nat} {x : α} (h : l[k]? = some x) : (l.map f)[k]? = some (f x) := by
  rw [List.getElem?_map, h]; rfl

set_option maxHeartbeats 1000000 in
theorem name_any (s : ByteArray) : Contract Try.prog 54 [.sc (.string s)] [.d (.sc (.bool (nameB s)))] := by
 refine T.fn [] Try.func54 ?_
 refine x_len ?_
 refine br (fun hg1 => ?y1) (fun hg1 => ?n1)
 case' y1 =>
  refine brT ?_
 case' n1 =>
  refine x_len ?_
  refine br (fun hc3 => ?y3) (fun hc3 => ?n3)
  case' n3 =>
   have hlo : 1 ≤ s.size := by omega
   have hhi : s.size ≤ 12 := by omega
   refine x_len ?_
   refine xloopR (fb := []) T.ok (Nat.le_of_ble_eq_true rfl) [0, 15] (fun (k : Nat) => [(16, .c (.d (.sc (.int .i64 (k : Nat)))))]) (fun k => k ≤ s.size ∧ okTo s k ∧ 1 ≤ s.size ∧ s.size ≤ 12) (fun k => s.size - k) 0 ⟨Nat.zero_le _, okTo_zero s, hlo, hhi⟩ (x_ent (by first | rfl | (simp only [Tr.get]; simp; done)) trivial) ?_
   rintro k ⟨hk, hok, hlo, hhi⟩
   refine br (fun hc4 => ?y4) (fun hc4 => ?n4)
   case' y4 =>
    obtain ⟨b, hb⟩ := charAt hc4
    first | refine x_ch (by exact hb) ?_ | refine x_chI (by exact hb) ?_
    refine br (fun hg5 => ?y5) (fun hg5 => ?n5)
    case' y5 =>
     first | refine x_ch (by exact hb) ?_ | refine x_chI (by exact hb) ?_
     first | refine x_ch (by exact hb) ?_ | refine x_chI (by exact hb) ?_
     refine br (fun hg6 => ?y6) (fun hg6 => ?n6)
     case' y6 =>
      first | refine x_ch (by exact hb) ?_ | refine x_chI (by exact hb) ?_
      refine br (fun hg7 => ?y7) (fun hg7 => ?n7)
      case' y7 =>
       refine br (fun hg8 => ?y8) (fun hg8 => ?n8)
       case' y8 =>
        refine brT ?_
       case' n8 =>
        refine br (fun hc10 => ?y10) (fun hc10 => ?n10)
        case' n10 =>
         first | refine x_inc ?_ | refine x_add ?_ | refine x_bin rfl rfl ?_
         refine x_rnd (k + 1) ⟨char_lt hb, okTo_next hok hb (by (simp only [charB, decide_eq_true_eq, decide_eq_false_iff_not, Bool.not_eq_true', Bool.not_eq_false', Bool.and_eq_true, Bool.or_eq_true, Bool.or_eq_false_iff, Bool.and_eq_false_iff, beq_iff_eq, beq_eq_false_iff_ne, ne_eq, Bool.not_true, Bool.not_false, Bool.false_eq_true, Bool.true_eq_false] at * <;> omega)), hlo, hhi⟩ (by (try dsimp only); have := char_lt hb; omega) rfl (x_ent (by first | rfl | (simp only [Tr.get]; simp; done)) trivial) rfl
      case' n7 =>
       refine brF ?_
       first | refine x_inc ?_ | refine x_add ?_ | refine x_bin rfl rfl ?_
       refine x_rnd (k + 1) ⟨char_lt hb, okTo_next hok hb (by (simp only [charB, decide_eq_true_eq, decide_eq_false_iff_not, Bool.not_eq_true', Bool.not_eq_false', Bool.and_eq_true, Bool.or_eq_true, Bool.or_eq_false_iff, Bool.and_eq_false_iff, beq_iff_eq, beq_eq_false_iff_ne, ne_eq, Bool.not_true, Bool.not_false, Bool.false_eq_true, Bool.true_eq_false] at * <;> omega)), hlo, hhi⟩ (by (try dsimp only); have := char_lt hb; omega) rfl (x_ent (by first | rfl | (simp only [Tr.get]; simp; done)) trivial) rfl
     case' n6 =>
      refine br (fun hg12 => ?y12) (fun hg12 => ?n12)
      case' y12 =>
       refine brT ?_
       refine brT ?_
      case' n12 =>
       refine brF ?_
       first | refine x_inc ?_ | refine x_add ?_ | refine x_bin rfl rfl ?_
       refine x_rnd (k + 1) ⟨char_lt hb, okTo_next hok hb (by (simp only [charB, decide_eq_true_eq, decide_eq_false_iff_not, Bool.not_eq_true', Bool.not_eq_false', Bool.and_eq_true, Bool.or_eq_true, Bool.or_eq_false_iff, Bool.and_eq_false_iff, beq_iff_eq, beq_eq_false_iff_ne, ne_eq, Bool.not_true, Bool.not_false, Bool.false_eq_true, Bool.true_eq_false] at * <;> omega)), hlo, hhi⟩ (by (try dsimp only); have := char_lt hb; omega) rfl (x_ent (by first | rfl | (simp only [Tr.get]; simp; done)) trivial) rfl
    case' n5 =>
     first | refine x_ch (by exact hb) ?_ | refine x_chI (by exact hb) ?_
     refine br (fun hg16 => ?y16) (fun hg16 => ?n16)
     case' y16 =>
      first | refine x_ch (by exact hb) ?_ | refine x_chI (by exact hb) ?_
      refine brT ?_
      refine br (fun hg18 => ?y18) (fun hg18 => ?n18)
      case' y18 =>
       refine brT ?_
      case' n18 =>
       refine br (fun hc20 => ?y20) (fun hc20 => ?n20)
       case' n20 =>
        first | refine x_inc ?_ | refine x_add ?_ | refine x_bin rfl rfl ?_
        refine x_rnd (k + 1) ⟨char_lt hb, okTo_next hok hb (by (simp only [charB, decide_eq_true_eq, decide_eq_false_iff_not, Bool.not_eq_true', Bool.not_eq_false', Bool.and_eq_true, Bool.or_eq_true, Bool.or_eq_false_iff, Bool.and_eq_false_iff, beq_iff_eq, beq_eq_false_iff_ne, ne_eq, Bool.not_true, Bool.not_false, Bool.false_eq_true, Bool.true_eq_false] at * <;> omega)), hlo, hhi⟩ (by (try dsimp only); have := char_lt hb; omega) rfl (x_ent (by first | rfl | (simp only [Tr.get]; simp; done)) trivial) rfl
     case' n16 =>
      refine brT ?_
      refine brT ?_
      refine brT ?_
 all_goals (refine x_ret ?_; simp only [fitsL, fits, C.asD, and_true] <;> (refine scb ?_; first | (refine (name_short ?_).symm; omega; done) | (refine (name_long ?_).symm; omega; done) | (refine (name_no (char_lt hb) hb ?_).symm; (simp only [charB, decide_eq_true_eq, decide_eq_false_iff_not, Bool.not_eq_true', Bool.not_eq_false', Bool.and_eq_true, Bool.or_eq_true, Bool.or_eq_false_iff, Bool.and_eq_false_iff, beq_iff_eq, beq_eq_false_iff_ne, ne_eq, Bool.not_true, Bool.not_false, Bool.false_eq_true, Bool.true_eq_false] at * <;> omega); done) | (refine (name_yes hlo hhi ?_ hok).symm; omega; done)))

set_option maxHeartbeats 1000000 in
theorem refName_any (s : ByteArray) : Contract Try.prog 50 [.sc (.string s)] [.d (.sc (.bool (nameB s)))] := by
 refine T.fn [] Try.func50 ?_
 refine x_len ?_
 refine br (fun hg1 => ?y1) (fun hg1 => ?n1)
 case' y1 =>
  refine brT ?_
 case' n1 =>
  refine x_len ?_
  refine br (fun hc3 => ?y3) (fun hc3 => ?n3)
  case' n3 =>
   have hlo : 1 ≤ s.size := by omega
   have hhi : s.size ≤ 12 := by omega
   refine xloopR (fb := []) T.ok (Nat.le_of_ble_eq_true rfl) [0] (fun (k : Nat) => [(3, .c (.d (.sc (.int .i64 (k : Nat)))))]) (fun k => k ≤ s.size ∧ okTo s k ∧ 1 ≤ s.size ∧ s.size ≤ 12) (fun k => s.size - k) 0 ⟨Nat.zero_le _, okTo_zero s, hlo, hhi⟩ (x_ent (by first | rfl | (simp only [Tr.get]; simp; done)) trivial) ?_
   rintro k ⟨hk, hok, hlo, hhi⟩
   refine x_len ?_
   refine br (fun hc4 => ?y4) (fun hc4 => ?n4)
   case' y4 =>
    obtain ⟨b, hb⟩ := charAt hc4
    first | refine x_ch (by exact hb) ?_ | refine x_chI (by exact hb) ?_
    refine br (fun hg5 => ?y5) (fun hg5 => ?n5)
    case' y5 =>
     first | refine x_ch (by exact hb) ?_ | refine x_chI (by exact hb) ?_
     first | refine x_ch (by exact hb) ?_ | refine x_chI (by exact hb) ?_
     refine br (fun hg6 => ?y6) (fun hg6 => ?n6)
     case' y6 =>
      first | refine x_ch (by exact hb) ?_ | refine x_chI (by exact hb) ?_
      refine br (fun hg7 => ?y7) (fun hg7 => ?n7)
      case' y7 =>
       refine br (fun hg8 => ?y8) (fun hg8 => ?n8)
       case' y8 =>
        refine brT ?_
       case' n8 =>
        refine br (fun hc10 => ?y10) (fun hc10 => ?n10)
        case' n10 =>
         first | refine x_inc ?_ | refine x_add ?_ | refine x_bin rfl rfl ?_
         refine x_rnd (k + 1) ⟨char_lt hb, okTo_next hok hb (by (simp only [charB, decide_eq_true_eq, decide_eq_false_iff_not, Bool.not_eq_true', Bool.not_eq_false', Bool.and_eq_true, Bool.or_eq_true, Bool.or_eq_false_iff, Bool.and_eq_false_iff, beq_iff_eq, beq_eq_false_iff_ne, ne_eq, Bool.not_true, Bool.not_false, Bool.false_eq_true, Bool.true_eq_false] at * <;> omega)), hlo, hhi⟩ (by (try dsimp only); have := char_lt hb; omega) rfl (x_ent (by first | rfl | (simp only [Tr.get]; simp; done)) trivial) rfl
      case' n7 =>
       refine brF ?_
       first | refine x_inc ?_ | refine x_add ?_ | refine x_bin rfl rfl ?_
       refine x_rnd (k + 1) ⟨char_lt hb, okTo_next hok hb (by (simp only [charB, decide_eq_true_eq, decide_eq_false_iff_not, Bool.not_eq_true', Bool.not_eq_false', Bool.and_eq_true, Bool.or_eq_true, Bool.or_eq_false_iff, Bool.and_eq_false_iff, beq_iff_eq, beq_eq_false_iff_ne, ne_eq, Bool.not_true, Bool.not_false, Bool.false_eq_true, Bool.true_eq_false] at * <;> omega)), hlo, hhi⟩ (by (try dsimp only); have := char_lt hb; omega) rfl (x_ent (by first | rfl | (simp only [Tr.get]; simp; done)) trivial) rfl
     case' n6 =>
      refine br (fun hg12 => ?y12) (fun hg12 => ?n12)
      case' y12 =>
       refine brT ?_
       refine brT ?_
      case' n12 =>
       refine brF ?_
       first | refine x_inc ?_ | refine x_add ?_ | refine x_bin rfl rfl ?_
       refine x_rnd (k + 1) ⟨char_lt hb, okTo_next hok hb (by (simp only [charB, decide_eq_true_eq, decide_eq_false_iff_not, Bool.not_eq_true', Bool.not_eq_false', Bool.and_eq_true, Bool.or_eq_true, Bool.or_eq_false_iff, Bool.and_eq_false_iff, beq_iff_eq, beq_eq_false_iff_ne, ne_eq, Bool.not_true, Bool.not_false, Bool.false_eq_true, Bool.true_eq_false] at * <;> omega)), hlo, hhi⟩ (by (try dsimp only); have := char_lt hb; omega) rfl (x_ent (by first | rfl | (simp only [Tr.get]; simp; done)) trivial) rfl
    case' n5 =>
     first | refine x_ch (by exact hb) ?_ | refine x_chI (by exact hb) ?_
     refine br (fun hg16 => ?y16) (fun hg16 => ?n16)
     case' y16 =>
      first | refine x_ch (by exact hb) ?_ | refine x_chI (by exact hb) ?_
      refine brT ?_
      refine br (fun hg18 => ?y18) (fun hg18 => ?n18)
      case' y18 =>
       refine brT ?_
      case' n18 =>
       refine br (fun hc20 => ?y20) (fun hc20 => ?n20)
       case' n20 =>
        first | refine x_inc ?_ | refine x_add ?_ | refine x_bin rfl rfl ?_
        refine x_rnd (k + 1) ⟨char_lt hb, okTo_next hok hb (by (simp only [charB, decide_eq_true_eq, decide_eq_false_iff_not, Bool.not_eq_true', Bool.not_eq_false', Bool.and_eq_true, Bool.or_eq_true, Bool.or_eq_false_iff, Bool.and_eq_false_iff, beq_iff_eq, beq_eq_false_iff_ne, ne_eq, Bool.not_true, Bool.not_false, Bool.false_eq_true, Bool.true_eq_false] at * <;> omega)), hlo, hhi⟩ (by (try dsimp only); have := char_lt hb; omega) rfl (x_ent (by first | rfl | (simp only [Tr.get]; simp; done)) trivial) rfl
     case' n16 =>
      refine brT ?_
      refine brT ?_
      refine brT ?_
 all_goals (refine x_ret ?_; simp only [fitsL, fits, C.asD, and_true] <;> (refine scb ?_; first | (refine (name_short ?_).symm; omega; done) | (refine (name_long ?_).symm; omega; done) | (refine (name_no (char_lt hb) hb ?_).symm; (simp only [charB, decide_eq_true_eq, decide_eq_false_iff_not, Bool.not_eq_true', Bool.not_eq_false', Bool.and_eq_true, Bool.or_eq_true, Bool.or_eq_false_iff, Bool.and_eq_false_iff, beq_iff_eq, beq_eq_false_iff_ne, ne_eq, Bool.not_true, Bool.not_false, Bool.false_eq_true, Bool.true_eq_false] at * <;> omega); done) | (refine (name_yes hlo hhi ?_ hok).symm; omega; done)))

set_option maxHeartbeats 1000000 in
theorem text_any (s : ByteArray) : Contract Try.prog 56 [.sc (.string s)] [.d (.sc (.bool (decide (s.size ≤ 40))))] := by
 refine T.fn [] Try.func56 ?_
 refine x_len ?_
 all_goals (refine x_ret ?_; simp only [fitsL, fits, C.asD, and_true] <;> (refine scb ?_; simp; omega))

set_option maxHeartbeats 1000000 in
theorem factor_any (n : Int) : Contract Try.prog 55 [.sc (.int .i64 n)] [.d (.sc (.bool (decide (2 ≤ n) && decide (n ≤ 1000))))] := by
 refine T.fn [] Try.func55 ?_
 refine br (fun hg1 => ?y1) (fun hg1 => ?n1)
 all_goals (refine x_ret ?_; simp only [fitsL, fits, C.asD, and_true] <;> (refine scb ?_; first | (simp_all; done) | (simp_all <;> (intros; omega))))
end Go.Vm
end
section
namespace Go.Vm
open Go.RowKit Go.Proofs
set_option linter.unusedVariables false
set_option linter.unusedSimpArgs false
set_option maxRecDepth 10000

set_option maxHeartbeats 1000000 in
theorem less_any (a b : RefD) : Contract Try.prog 124 [rD a, rD b] [.d (.sc (.bool (lessB a b)))] := by
 refine T.fn [] Try.func124 ?_
 refine br (fun hc1 => ?y1) (fun hc1 => ?n1)
 case' n1 =>
  refine br (fun hc2 => ?y2) (fun hc2 => ?n2)
 all_goals (refine x_ret ?_; simp only [fitsL, fits, C.asD, and_true] <;> (refine scb ?_; simp_all [lessB, ltB]))

set_option maxHeartbeats 1000000 in
theorem place_any (r : RefD) : Contract Try.prog 53 [rD r] [.d (.sc (.bool (placeB r)))] := by
 refine T.fn [] Try.func53 ?_
 refine br (fun hg1 => ?y1) (fun hg1 => ?n1)
 case' y1 =>
  refine br (fun hc2 => ?y2) (fun hc2 => ?n2)
  case' n2 =>
   refine x_call T.en_54 (name_any _) ?_
   refine br (fun hg3 => ?y3) (fun hg3 => ?n3)
   case' y3 =>
    refine br (fun hg4 => ?y4) (fun hg4 => ?n4)
    case' n4 =>
     refine x_call T.en_54 (name_any _) ?_
 case' n1 =>
  refine brF ?_
  refine x_call T.en_54 (name_any _) ?_
  refine br (fun hg6 => ?y6) (fun hg6 => ?n6)
  case' y6 =>
   refine br (fun hg7 => ?y7) (fun hg7 => ?n7)
   case' n7 =>
    refine x_call T.en_54 (name_any _) ?_
 all_goals (refine x_ret ?_; simp only [fitsL, fits, C.asD, and_true] <;> (refine scb ?_; rcases (show r.scope = 0 ∨ r.scope = 1 ∨ (r.scope ≠ 0 ∧ r.scope ≠ 1) by omega) with h | h | h <;> simp_all [placeB, emp] <;> omega))

set_option maxHeartbeats 1000000 in
theorem refPlace_any (r : RefD) : Contract Try.prog 46 [rD r] [.d (.sc (.bool (placeB r)))] := by
 refine T.fn [] Try.func46 ?_
 refine br (fun hg1 => ?y1) (fun hg1 => ?n1)
 case' y1 =>
  refine br (fun hg2 => ?y2) (fun hg2 => ?n2)
  case' y2 =>
   refine x_call T.en_50 (refName_any _) ?_
   refine br (fun hg3 => ?y3) (fun hg3 => ?n3)
   case' y3 =>
    refine x_len ?_
    refine br (fun hg4 => ?y4) (fun hg4 => ?n4)
    case' n4 =>
     refine x_call T.en_50 (refName_any _) ?_
  case' n2 =>
   refine brF ?_
 case' n1 =>
  refine brF ?_
  refine brF ?_
 all_goals (refine x_ret ?_; simp only [fitsL, fits, C.asD, and_true] <;> (refine scb ?_; rcases (show r.scope = 0 ∨ r.scope = 1 ∨ (r.scope ≠ 0 ∧ r.scope ≠ 1) by omega) with h | h | h <;> simp_all [placeB, emp] <;> omega))
end Go.Vm
end
section
namespace Go.Vm
open Go.RowKit Go.Proofs
set_option linter.unusedVariables false
set_option linter.unusedSimpArgs false
set_option maxRecDepth 10000
theorem v_23 (x : RefD) : conc (rD x) = some (.agg #[.int .i64 x.scope, .string x.group, .string x.name]) := rfl
theorem rune_23 (r s : RefD) (x y : Operand) (w : World) : (do eqGuard .eql 23 x y (.agg #[.int .i64 r.scope, .string r.group, .string r.name]) (.agg #[.int .i64 s.scope, .string s.group, .string s.name]); binOp .eql 23 (.agg #[.int .i64 r.scope, .string r.group, .string r.name]) (.agg #[.int .i64 s.scope, .string s.group, .string s.name]) : Sem Value).run Try.prog w = .ok (.bool (decide (r = s))) w := by
  obtain ⟨a, b, c⟩ := r
  obtain ⟨a', b', c'⟩ := s
  simp [go_sem, eq_strs]
  repeat (first | (split <;> simp_all; done) | split)
  all_goals simp_all
theorem xeq_23e {x y : Operand} {K : Value → Prop} (r s : RefD) (hK : K (.bool (decide (r = s)))) : ∃ u v r', (conc (rD r) = some u ∧ conc (rD s) = some v) ∧ (∀ w, (do eqGuard .eql 23 x y u v; binOp .eql 23 u v : Sem Value).run Try.prog w = .ok r' w) ∧ plainV r' = true ∧ K r' := x_eqS (v_23 r) (v_23 s) (fun w => rune_23 r s x y w) rfl hK
theorem runn_23 (r s : RefD) (x y : Operand) (w : World) : (do eqGuard .neq 23 x y (.agg #[.int .i64 r.scope, .string r.group, .string r.name]) (.agg #[.int .i64 s.scope, .string s.group, .string s.name]); binOp .neq 23 (.agg #[.int .i64 r.scope, .string r.group, .string r.name]) (.agg #[.int .i64 s.scope, .string s.group, .string s.name]) : Sem Value).run Try.prog w = .ok (.bool (!decide (r = s))) w := by
  obtain ⟨a, b, c⟩ := r
  obtain ⟨a', b', c'⟩ := s
  simp [go_sem, eq_strs]
  repeat (first | (split <;> simp_all; done) | split)
  all_goals simp_all
theorem xeq_23n {x y : Operand} {K : Value → Prop} (r s : RefD) (hK : K (.bool (!decide (r = s)))) : ∃ u v r', (conc (rD r) = some u ∧ conc (rD s) = some v) ∧ (∀ w, (do eqGuard .neq 23 x y u v; binOp .neq 23 u v : Sem Value).run Try.prog w = .ok r' w) ∧ plainV r' = true ∧ K r' := x_eqS (v_23 r) (v_23 s) (fun w => runn_23 r s x y w) rfl hK
theorem v_38 (x : (ByteArray × ByteArray)) : conc (pairD x) = some (.agg #[.string x.1, .string x.2]) := rfl
theorem rune_38 (r s : (ByteArray × ByteArray)) (x y : Operand) (w : World) : (do eqGuard .eql 38 x y (.agg #[.string r.1, .string r.2]) (.agg #[.string s.1, .string s.2]); binOp .eql 38 (.agg #[.string r.1, .string r.2]) (.agg #[.string s.1, .string s.2]) : Sem Value).run Try.prog w = .ok (.bool (decide (r = s))) w := by
  obtain ⟨a, b⟩ := r
  obtain ⟨a', b'⟩ := s
  simp [go_sem, eq_strs]
  repeat (first | (split <;> simp_all; done) | split)
  all_goals simp_all
theorem xeq_38e {x y : Operand} {K : Value → Prop} (r s : (ByteArray × ByteArray)) (hK : K (.bool (decide (r = s)))) : ∃ u v r', (conc (pairD r) = some u ∧ conc (pairD s) = some v) ∧ (∀ w, (do eqGuard .eql 38 x y u v; binOp .eql 38 u v : Sem Value).run Try.prog w = .ok r' w) ∧ plainV r' = true ∧ K r' := x_eqS (v_38 r) (v_38 s) (fun w => rune_38 r s x y w) rfl hK
theorem runn_38 (r s : (ByteArray × ByteArray)) (x y : Operand) (w : World) : (do eqGuard .neq 38 x y (.agg #[.string r.1, .string r.2]) (.agg #[.string s.1, .string s.2]); binOp .neq 38 (.agg #[.string r.1, .string r.2]) (.agg #[.string s.1, .string s.2]) : Sem Value).run Try.prog w = .ok (.bool (!decide (r = s))) w := by
  obtain ⟨a, b⟩ := r
  obtain ⟨a', b'⟩ := s
  simp [go_sem, eq_strs]
  repeat (first | (split <;> simp_all; done) | split)
  all_goals simp_all
theorem xeq_38n {x y : Operand} {K : Value → Prop} (r s : (ByteArray × ByteArray)) (hK : K (.bool (!decide (r = s)))) : ∃ u v r', (conc (pairD r) = some u ∧ conc (pairD s) = some v) ∧ (∀ w, (do eqGuard .neq 38 x y u v; binOp .neq 38 u v : Sem Value).run Try.prog w = .ok r' w) ∧ plainV r' = true ∧ K r' := x_eqS (v_38 r) (v_38 s) (fun w => runn_38 r s x y w) rfl hK

end Go.Vm
end
section
namespace Go.Vm
open Go.RowKit Go.Proofs
set_option linter.unusedVariables false
set_option linter.unusedSimpArgs false
set_option maxRecDepth 10000

theorem past_end {α : Type} {l : List α} {k : Nat} (h : ¬ (k : Int) < (l.length : Int)) : l.length ≤ k := by omega
theorem lt_len {α : Type} {l : List α} {k : Nat} {p : α} (hp : l[k]? = some p) : k < l.length := (List.getElem?_eq_some_iff.1 hp).1
theorem not_mem_next {α : Type} {l : List α} {s p : α} {k : Nat} (hp : l[k]? = some p) (h : s ∉ l.take k) (hn : ¬ s = p) : s ∉ l.take (k + 1) := by
  rw [List.take_add_one, hp]; simp [h, hn]
theorem not_mem_end {α : Type} {l : List α} {s : α} {k : Nat} (hk : l.length ≤ k) (h : s ∉ l.take k) : s ∉ l := by rwa [List.take_of_length_le hk] at h
theorem take_eq_next {α : Type} {l m : List α} {p q : α} {k : Nat} (hp : l[k]? = some p) (hq : m[k]? = some q) (h : l.take k = m.take k) (hn : p = q) : l.take (k + 1) = m.take (k + 1) := by
  rw [List.take_add_one, List.take_add_one, hp, hq, h, hn]
theorem take_eq_end {α : Type} {l m : List α} {k : Nat} (hl : l.length = m.length) (hk : l.length ≤ k) (h : l.take k = m.take k) : l = m := by
  rwa [List.take_of_length_le hk, List.take_of_length_le (by omega)] at h
theorem ne_at {α : Type} {l m : List α} {p q : α} {k : Nat} (hp : l[k]? = some p) (hq : m[k]? = some q) (hn : ¬ p = q) : ¬ l = m := by
  rintro rfl; rw [hp] at hq; injection hq with hq; exact hn hq
theorem elem_too {α β : Type} {l : List α} {m : List β} {k : Nat} {p : α} (hp : l[k]? = some p) (hl : l.length = m.length) : ∃ q, m[k]? = some q := ⟨_, List.getElem?_eq_getElem (by have := lt_len hp; omega)⟩
def idxB (s : ByteArray) (l : List ByteArray) : Int := if s ∈ l then ((l.findIdx (fun x => decide (x = s)) : Nat) : Int) else -1
theorem idx_hit {l : List ByteArray} {s p : ByteArray} {k : Nat} (hp : l[k]? = some p) (h : s ∉ l.take k) (hn : s = p) : idxB s l = (k : Int) := by
  subst hn
  obtain ⟨hlt, hpe⟩ := List.getElem?_eq_some_iff.1 hp
  have e : l.findIdx (fun x => decide (x = s)) = k := by
    rw [List.findIdx_eq hlt]
    refine ⟨by simp [hpe], fun j hj => ?_⟩
    simp only [decide_eq_false_iff_not]
    intro e
    exact h (List.mem_take_iff_getElem.2 ⟨j, by omega, e⟩)
  unfold idxB
  rw [if_pos (List.mem_of_getElem? hp), e]
theorem idx_miss {l : List ByteArray} {s : ByteArray} {k : Nat} (hk : l.length ≤ k) (h : s ∉ l.take k) : idxB s l = -1 := if_neg (not_mem_end hk h)
theorem idx_iff {l : List ByteArray} {s : ByteArray} : decide (0 ≤ idxB s l) = decide (s ∈ l) := by
  unfold idxB
  by_cases h : s ∈ l
  · rw [if_pos h]; simp [h]
  · rw [if_neg h]; simp [h]
theorem scb' {a b : Bool} (h : a = b) : D.sc (.bool a) = D.sc (.bool b) := by rw [h]

set_option maxHeartbeats 1000000 in
theorem refHas_any (l : List ByteArray) (s : ByteArray) (hl : l.length ≤ 1000000) : Contract Try.prog 103 [.row (l.map strD), .sc (.string s)] [.d (.sc (.bool (decide (s ∈ l))))] := by
 refine T.fn [] Try.func103 ?_
 refine xloopR (fb := []) T.ok (Nat.le_of_ble_eq_true rfl) [0, 1] (fun (k : Nat) => [(5, .c (.d (.sc (.int .i64 (k : Nat)))))]) (fun k => k ≤ l.length ∧ s ∉ l.take k) (fun k => l.length - k) 0 ⟨Nat.zero_le _, by simp⟩ (x_ent (by first | rfl | (simp only [Tr.get]; simp; done)) trivial) ?_
 rintro k ⟨hk, hi⟩
 refine x_len ?_
 refine br (fun hc1 => ?y1) (fun hc1 => ?n1)
 case' y1 =>
  obtain ⟨p, hp⟩ := elem_at hc1
  first | refine x_ix (by exact mapAt hp) ?_ | refine x_ixI (by exact mapAt hp) ?_
  refine br (fun hc2 => ?y2) (fun hc2 => ?n2)
  case' n2 =>
   first | refine x_inc ?_ | refine x_add ?_ | refine x_bin rfl rfl ?_
   refine x_rnd (k + 1) ⟨lt_len hp, not_mem_next hp hi (fun e => by simp_all)⟩ (by (try dsimp only); have := lt_len hp; omega) rfl (x_ent (by first | rfl | (simp only [Tr.get]; simp; done)) trivial) rfl
 all_goals (refine x_ret ?_; simp only [fitsL, fits, C.asD, and_true] <;> (refine scb ?_; first | (refine (decide_eq_true (?_ : s ∈ l)).symm; have h := ‹p = s›; rw [← h]; exact List.mem_of_getElem? hp) | (refine (decide_eq_true (?_ : s ∈ l)).symm; have h := ‹s = p›; rw [h]; exact List.mem_of_getElem? hp) | exact (decide_eq_false (not_mem_end (past_end (by assumption)) hi)).symm))

set_option maxHeartbeats 1000000 in
theorem index_any (l : List ByteArray) (s : ByteArray) (hl : l.length ≤ 1000000) : Contract Try.prog 127 [.row (l.map strD), .sc (.string s)] [.d (.sc (.int .i64 (idxB s l)))] := by
 refine T.fn [] Try.func127 ?_
 refine x_len ?_
 refine xloopR (fb := []) T.ok (Nat.le_of_ble_eq_true rfl) [0, 1, 7] (fun (k : Nat) => [(8, .c (.d (.sc (.int .i64 (k : Nat)))))]) (fun k => k ≤ l.length ∧ s ∉ l.take k) (fun k => l.length - k) 0 ⟨Nat.zero_le _, by simp⟩ (x_ent (by first | rfl | (simp only [Tr.get]; simp; done)) trivial) ?_
 rintro k ⟨hk, hi⟩
 refine br (fun hc1 => ?y1) (fun hc1 => ?n1)
 case' y1 =>
  obtain ⟨p, hp⟩ := elem_at hc1
  first | refine x_ix (by exact mapAt hp) ?_ | refine x_ixI (by exact mapAt hp) ?_
  refine br (fun hc2 => ?y2) (fun hc2 => ?n2)
  case' n2 =>
   first | refine x_inc ?_ | refine x_add ?_ | refine x_bin rfl rfl ?_
   refine x_rnd (k + 1) ⟨lt_len hp, not_mem_next hp hi (fun e => by simp_all)⟩ (by (try dsimp only); have := lt_len hp; omega) rfl (x_ent (by first | rfl | (simp only [Tr.get]; simp; done)) trivial) rfl
 all_goals (refine x_ret ?_; simp only [fitsL, fits, C.asD, and_true] <;> (first | (rw [idx_hit hp hi ‹s = p›]) | (rw [idx_miss (past_end (by assumption)) hi])))

set_option maxHeartbeats 1000000 in
theorem contains_any (l : List ByteArray) (s : ByteArray) (hl : l.length ≤ 1000000) : Contract Try.prog 106 [.row (l.map strD), .sc (.string s)] [.d (.sc (.bool (decide (s ∈ l))))] := by
 refine T.fn [] Try.func106 ?_
 refine x_call T.en_127 (index_any _ _ (by assumption)) ?_
 all_goals (refine x_ret ?_; simp only [fitsL, fits, C.asD, and_true] <;> (refine scb ?_; exact idx_iff))

set_option maxHeartbeats 1000000 in
theorem equal_any (l m : List ByteArray) (hl : l.length ≤ 1000000) : Contract Try.prog 109 [.row (l.map strD), .row (m.map strD)] [.d (.sc (.bool (decide (l = m))))] := by
 refine T.fn [] Try.func109 ?_
 refine x_len ?_
 refine x_len ?_
 refine br (fun hc1 => ?y1) (fun hc1 => ?n1)
 case' n1 =>
  have hlen : l.length = m.length := by omega
  refine x_len ?_
  refine xloopR (fb := []) T.ok (Nat.le_of_ble_eq_true rfl) [0, 1, 12] (fun (k : Nat) => [(13, .c (.d (.sc (.int .i64 (k : Nat)))))]) (fun k => k ≤ l.length ∧ l.take k = m.take k) (fun k => l.length - k) 0 ⟨Nat.zero_le _, rfl⟩ (x_ent (by first | rfl | (simp only [Tr.get]; simp; done)) trivial) ?_
  rintro k ⟨hk, hi⟩
  refine br (fun hc2 => ?y2) (fun hc2 => ?n2)
  case' y2 =>
   obtain ⟨p, hp⟩ := elem_at hc2
   obtain ⟨q, hq⟩ := elem_too hp hlen
   refine And.intro ⟨T.mixed, by decide +kernel⟩ ?_
   first | refine x_ix (by first | exact mapAt hp | exact mapAt hq) ?_ | refine x_ixI (by first | exact mapAt hp | exact mapAt hq) ?_
   first | refine x_ix (by first | exact mapAt hp | exact mapAt hq) ?_ | refine x_ixI (by first | exact mapAt hp | exact mapAt hq) ?_
   refine br (fun hc3 => ?y3) (fun hc3 => ?n3)
   case' n3 =>
    first | refine x_inc ?_ | refine x_add ?_ | refine x_bin rfl rfl ?_
    refine x_rnd (k + 1) ⟨lt_len hp, take_eq_next hp hq hi (by simp_all)⟩ (by (try dsimp only); have := lt_len hp; omega) rfl (x_ent (by first | rfl | (simp only [Tr.get]; simp; done)) trivial) rfl
 all_goals (refine x_ret ?_; simp only [fitsL, fits, C.asD, and_true] <;> (refine scb ?_; first | exact (decide_eq_false (fun e => by simp_all)).symm | exact (decide_eq_false (ne_at hp hq (fun e => by simp_all))).symm | exact (decide_eq_true (take_eq_end hlen (past_end (by assumption)) hi)).symm))

set_option maxHeartbeats 1000000 in
theorem refSames_any (l m : List ByteArray) (hl : l.length ≤ 1000000) : Contract Try.prog 128 [.row (l.map strD), .row (m.map strD)] [.d (.sc (.bool (decide (l = m))))] := by
 refine T.fn [] Try.func128 ?_
 refine x_len ?_
 refine x_len ?_
 refine br (fun hc1 => ?y1) (fun hc1 => ?n1)
 case' n1 =>
  have hlen : l.length = m.length := by omega
  refine xloopR (fb := []) T.ok (Nat.le_of_ble_eq_true rfl) [0, 1] (fun (k : Nat) => [(5, .c (.d (.sc (.int .i64 (k : Nat)))))]) (fun k => k ≤ l.length ∧ l.take k = m.take k) (fun k => l.length - k) 0 ⟨Nat.zero_le _, rfl⟩ (x_ent (by first | rfl | (simp only [Tr.get]; simp; done)) trivial) ?_
  rintro k ⟨hk, hi⟩
  refine x_len ?_
  refine br (fun hc2 => ?y2) (fun hc2 => ?n2)
  case' y2 =>
   obtain ⟨p, hp⟩ := elem_at hc2
   obtain ⟨q, hq⟩ := elem_too hp hlen
   refine And.intro ⟨T.mixed, by decide +kernel⟩ ?_
   first | refine x_ix (by first | exact mapAt hp | exact mapAt hq) ?_ | refine x_ixI (by first | exact mapAt hp | exact mapAt hq) ?_
   first | refine x_ix (by first | exact mapAt hp | exact mapAt hq) ?_ | refine x_ixI (by first | exact mapAt hp | exact mapAt hq) ?_
   refine br (fun hc3 => ?y3) (fun hc3 => ?n3)
   case' n3 =>
    first | refine x_inc ?_ | refine x_add ?_ | refine x_bin rfl rfl ?_
    refine x_rnd (k + 1) ⟨lt_len hp, take_eq_next hp hq hi (by simp_all)⟩ (by (try dsimp only); have := lt_len hp; omega) rfl (x_ent (by first | rfl | (simp only [Tr.get]; simp; done)) trivial) rfl
 all_goals (refine x_ret ?_; simp only [fitsL, fits, C.asD, and_true] <;> (refine scb ?_; first | exact (decide_eq_false (fun e => by simp_all)).symm | exact (decide_eq_false (ne_at hp hq (fun e => by simp_all))).symm | exact (decide_eq_true (take_eq_end hlen (past_end (by assumption)) hi)).symm))
end Go.Vm
end
section
namespace Go.Vm
open Go.RowKit Go.Proofs
set_option linter.unusedVariables false
set_option linter.unusedSimpArgs false
set_option maxRecDepth 10000

theorem take_fold {α : Type} {f : α → D} {l : List α} {k : Nat} : List.drop 0 (List.take k (l.map f)) = (l.take k).map f := by rw [List.drop_zero, List.map_take]
theorem strs_wide {l : List ByteArray} : ∀ x ∈ l.map strD, x.cells.length = 1 := by
  intro x hx; obtain ⟨y, _, rfl⟩ := List.mem_map.1 hx; rfl
theorem take_short {α : Type} {l : List α} {k n : Nat} (h : l.length ≤ n) : (l.take k).length ≤ n := by rw [List.length_take]; omega

set_option maxHeartbeats 1000000 in
theorem cases_any (l : List ByteArray) (hl : l.length ≤ 1000000) : Contract Try.prog 105 [.row (l.map strD)] [.d (.sc (.bool (casesB l)))] := by
 refine T.fn [] Try.func105 ?_
 refine x_len ?_
 refine br (fun hg1 => ?y1) (fun hg1 => ?n1)
 case' y1 =>
  refine brT ?_
 case' n1 =>
  refine x_len ?_
  refine br (fun hc3 => ?y3) (fun hc3 => ?n3)
  case' n3 =>
   have hlo : 1 ≤ l.length := by omega
   have hhi : l.length ≤ 6 := by omega
   refine x_len ?_
   refine xloopR (fb := []) T.ok (Nat.le_of_ble_eq_true rfl) [0, 13, 14] (fun (k : Nat) => [(15, .c (.d (.sc (.int .i64 (k : Nat)))))]) (fun k => k ≤ l.length ∧ okC l k = true ∧ 1 ≤ l.length ∧ l.length ≤ 6) (fun k => l.length - k) 0 ⟨Nat.zero_le _, ⟨okC_zero l, hlo, hhi⟩⟩ (x_ent (by first | rfl | (simp only [Tr.get]; simp; done)) trivial) ?_
   rintro k ⟨hk, hi⟩
   refine br (fun hc4 => ?y4) (fun hc4 => ?n4)
   case' y4 =>
    obtain ⟨p, hp⟩ := elem_at hc4
    have hkl := lt_len hp
    have htk := take_short (k := k) hl
    first | refine x_ix (by exact mapAt hp) ?_ | refine x_ixI (by exact mapAt hp) ?_
    refine x_call T.en_54 (name_any _) ?_
    refine br (fun hg5 => ?y5) (fun hg5 => ?n5)
    case' y5 =>
     refine brT ?_
    case' n5 =>
     first | refine x_bnd ?_ | refine x_bndI ?_
     refine x_row ?_ (by exact strs_wide) (hy := by first | exact take_fold | rfl)
     refine x_call T.en_106 (contains_any _ _ (by assumption)) ?_
     refine br (fun hc7 => ?y7) (fun hc7 => ?n7)
     case' n7 =>
      first | refine x_inc ?_ | refine x_add ?_ | refine x_bin rfl rfl ?_
      refine x_rnd (k + 1) ⟨lt_len hp, okC_next hp hi.1 (by simp_all) (by simp_all), hi.2⟩ (by (try dsimp only); have := lt_len hp; omega) rfl (x_ent (by first | rfl | (simp only [Tr.get]; simp; done)) trivial) rfl
 all_goals (refine x_ret ?_; simp only [fitsL, fits, C.asD, and_true] <;> (refine scb ?_; first | (refine (cases_short ?_).symm; omega; done) | (refine (cases_long ?_).symm; omega; done) | (refine (cases_no hp ?_).symm; simp_all; done) | exact (cases_yes hi.2.1 hi.2.2 (past_end (by assumption)) hi.1).symm))

set_option maxHeartbeats 1000000 in
theorem fieldRight_any (f : FieldD) (hl : f.cases.length ≤ 1000000) : Contract Try.prog 52 [fD f] [.d (.sc (.bool (rightF f)))] := by
 refine T.fn [] Try.func52 ?_
 refine x_call T.en_53 (place_any f.at_) ?_
 refine br (fun hc1 => ?y1) (fun hc1 => ?n1)
 case' n1 =>
  refine x_len ?_
  refine br (fun hc2 => ?y2) (fun hc2 => ?n2)
  case' y2 =>
   refine br (fun hg3 => ?y3) (fun hg3 => ?n3)
   case' y3 =>
    refine br (fun hg4 => ?y4) (fun hg4 => ?n4)
    case' y4 =>
     refine br (fun hg5 => ?y5) (fun hg5 => ?n5)
    case' n4 =>
     refine brF ?_
   case' n3 =>
    refine brF ?_
    refine brF ?_
  case' n2 =>
   refine br (fun hc9 => ?y9) (fun hc9 => ?n9)
   case' y9 =>
    refine x_call T.en_56 (text_any _) ?_
    refine br (fun hg10 => ?y10) (fun hg10 => ?n10)
    case' y10 =>
     refine br (fun hg11 => ?y11) (fun hg11 => ?n11)
    case' n10 =>
     refine brF ?_
   case' n9 =>
    refine br (fun hc13 => ?y13) (fun hc13 => ?n13)
    case' y13 =>
     refine x_call T.en_105 (cases_any _ (by assumption)) ?_
     refine br (fun hg14 => ?y14) (fun hg14 => ?n14)
     case' y14 =>
      refine x_call T.en_106 (contains_any _ _ (by assumption)) ?_
      refine br (fun hg15 => ?y15) (fun hg15 => ?n15)
     case' n14 =>
      refine brF ?_
    case' n13 =>
     refine br (fun hc17 => ?y17) (fun hc17 => ?n17)
     case' y17 =>
      refine br (fun hg18 => ?y18) (fun hg18 => ?n18)
      case' y18 =>
       refine br (fun hg19 => ?y19) (fun hg19 => ?n19)
      case' n18 =>
       refine brF ?_
 all_goals (refine x_ret ?_; simp only [fitsL, fits, C.asD, and_true] <;> (refine scb ?_; first | (simp_all [rightF]; done) | (simp_all [rightF] <;> (intros; omega))))

set_option maxHeartbeats 1000000 in
theorem fieldSame_any (f g : FieldD) (hl : f.cases.length ≤ 1000000) : Contract Try.prog 58 [fD f, fD g] [.d (.sc (.bool (decide (f = g))))] := by
 refine T.fn [] Try.func58 ?_
 first | refine xeq_23e _ _ ?_ | refine xeq_23e _ noRef ?_ | refine xeq_23e noRef _ ?_
 refine br (fun hg1 => ?y1) (fun hg1 => ?n1)
 case' y1 =>
  refine br (fun hg2 => ?y2) (fun hg2 => ?n2)
  case' y2 =>
   refine br (fun hg3 => ?y3) (fun hg3 => ?n3)
   case' y3 =>
    refine x_call T.en_109 (equal_any _ _ (by assumption)) ?_
    refine br (fun hg4 => ?y4) (fun hg4 => ?n4)
   case' n3 =>
    refine brF ?_
  case' n2 =>
   refine brF ?_
   refine brF ?_
 case' n1 =>
  refine brF ?_
  refine brF ?_
  refine brF ?_
 all_goals (refine x_ret ?_; simp only [fitsL, fits, C.asD, and_true] <;> (refine scb ?_; cases f; cases g; simp_all))

set_option maxHeartbeats 1000000 in
theorem sameTexts_any (l m : List ByteArray) (hl : l.length ≤ 1000000) : Contract Try.prog 110 [.row (l.map strD), .row (m.map strD)] [.d (.sc (.bool (decide (l = m))))] := by
 refine T.fn [] Try.func110 ?_
 refine x_call T.en_128 (refSames_any _ _ (by assumption)) ?_
 all_goals (refine x_ret ?_; simp only [fitsL, fits, C.asD, and_true] <;> (first | rfl | trivial))

set_option maxHeartbeats 1000000 in
theorem refFieldSame_any (f g : FieldD) (hl : f.cases.length ≤ 1000000) : Contract Try.prog 60 [fD f, fD g] [.d (.sc (.bool (decide (f = g))))] := by
 refine T.fn [] Try.func60 ?_
 first | refine xeq_23e _ _ ?_ | refine xeq_23e _ noRef ?_ | refine xeq_23e noRef _ ?_
 refine br (fun hg1 => ?y1) (fun hg1 => ?n1)
 case' y1 =>
  refine br (fun hg2 => ?y2) (fun hg2 => ?n2)
  case' y2 =>
   refine br (fun hg3 => ?y3) (fun hg3 => ?n3)
   case' y3 =>
    refine br (fun hg4 => ?y4) (fun hg4 => ?n4)
    case' y4 =>
     refine x_call T.en_110 (sameTexts_any _ _ (by assumption)) ?_
   case' n3 =>
    refine brF ?_
  case' n2 =>
   refine brF ?_
   refine brF ?_
 case' n1 =>
  refine brF ?_
  refine brF ?_
  refine brF ?_
 all_goals (refine x_ret ?_; simp only [fitsL, fits, C.asD, and_true] <;> (refine scb ?_; cases f; cases g; simp_all))

set_option maxHeartbeats 1000000 in
theorem fieldOwn_any (f : FieldD) (hl : f.cases.length ≤ 1000000) : Contract Try.prog 64 [fD f] [.d (fD f)] := by
 refine T.fn [] Try.func64 ?_
 first | refine x_app ?_ (by exact strs_wide) | refine x_appN ?_ (by exact strs_wide)
 all_goals (refine x_ret ?_; simp only [fitsL, fits, C.asD, and_true] <;> (rfl))

set_option maxHeartbeats 1000000 in
theorem refFieldRight_any (f : FieldD) (hl : f.cases.length ≤ 1000000) : Contract Try.prog 45 [fD f] [.d (.sc (.bool (rightF f)))] := by
 refine T.fn [] Try.func45 ?_
 refine x_call T.en_46 (refPlace_any _) ?_
 refine br (fun hc1 => ?y1) (fun hc1 => ?n1)
 case' n1 =>
  refine br (fun hc2 => ?y2) (fun hc2 => ?n2)
  case' y2 =>
   refine br (fun hg3 => ?y3) (fun hg3 => ?n3)
   case' y3 =>
    refine x_len ?_
    refine br (fun hg4 => ?y4) (fun hg4 => ?n4)
    case' y4 =>
     refine br (fun hg5 => ?y5) (fun hg5 => ?n5)
    case' n4 =>
     refine brF ?_
   case' n3 =>
    refine brF ?_
    refine brF ?_
  case' n2 =>
   refine br (fun hc9 => ?y9) (fun hc9 => ?n9)
   case' n9 =>
    refine br (fun hc10 => ?y10) (fun hc10 => ?n10)
    case' y10 =>
     refine xloopR (fb := []) T.ok (Nat.le_of_ble_eq_true rfl) [1] (fun (k : Nat) => [(3, .c (.d (.sc (.int .i64 (k : Nat)))))]) (fun k => k ≤ f.cases.length ∧ okC f.cases k = true) (fun k => f.cases.length - k) 0 ⟨Nat.zero_le _, okC_zero _⟩ (x_ent (by first | rfl | (simp only [Tr.get]; simp; done)) trivial) ?_
     rintro k ⟨hk, hi⟩
     refine x_len ?_
     refine br (fun hc11 => ?y11) (fun hc11 => ?n11)
     case' y11 =>
      obtain ⟨p, hp⟩ := elem_at hc11
      have hkl := lt_len hp
      have htk := take_short (k := k) hl
      refine And.intro ⟨T.mixed, by decide +kernel⟩ ?_
      first | refine x_ix (by exact mapAt hp) ?_ | refine x_ixI (by exact mapAt hp) ?_
      refine x_call T.en_50 (refName_any _) ?_
      refine br (fun hg12 => ?y12) (fun hg12 => ?n12)
      case' y12 =>
       refine brT ?_
      case' n12 =>
       first | refine x_bnd ?_ | refine x_bndI ?_
       refine x_row ?_ (by exact strs_wide) (hy := by first | exact take_fold | rfl)
       first | refine x_ix (by exact mapAt hp) ?_ | refine x_ixI (by exact mapAt hp) ?_
       refine x_call T.en_103 (refHas_any _ _ (by assumption)) ?_
       refine br (fun hc14 => ?y14) (fun hc14 => ?n14)
       case' n14 =>
        first | refine x_inc ?_ | refine x_add ?_ | refine x_bin rfl rfl ?_
        refine x_rnd (k + 1) ⟨lt_len hp, okC_next hp hi (by simp_all) (by simp_all)⟩ (by (try dsimp only); have := lt_len hp; omega) rfl (x_ent (by first | rfl | (simp only [Tr.get]; simp; done)) trivial) rfl
     case' n11 =>
      refine x_len ?_
      refine br (fun hg15 => ?y15) (fun hg15 => ?n15)
      case' y15 =>
       refine x_call T.en_103 (refHas_any _ _ (by assumption)) ?_
    case' n10 =>
     refine x_len ?_
     refine br (fun hc16 => ?y16) (fun hc16 => ?n16)
     case' n16 =>
      refine br (fun hg17 => ?y17) (fun hg17 => ?n17)
      case' y17 =>
       refine x_len ?_
       refine br (fun hg18 => ?y18) (fun hg18 => ?n18)
       case' n18 =>
        refine br (fun hg19 => ?y19) (fun hg19 => ?n19)
        case' y19 =>
         exfalso; omega
      case' n17 =>
       refine brF ?_
       refine br (fun hg21 => ?y21) (fun hg21 => ?n21)
 all_goals (refine x_ret ?_; simp only [fitsL, fits, C.asD, and_true] <;> (refine scb ?_; first | (refine (rightF_bare ?_ ?_ ?_).symm <;> omega; done) | (have hno := cases_no hp (by simp_all); simp_all [rightF]; done) | (have hC := okC_end (past_end (by assumption)) hi; clear hi; have h1 : f.deft ∈ f.cases → 0 < f.cases.length := List.length_pos_of_mem; by_cases hm : f.deft ∈ f.cases <;> simp_all [rightF, casesB] <;> omega) | (simp_all [rightF]; done) | (rw [Bool.eq_iff_iff]; simp_all [rightF, emp] <;> omega) | (rcases (show f.kind = 1 ∨ f.kind = 2 ∨ f.kind = 3 ∨ f.kind = 4 ∨ (f.kind ≠ 1 ∧ f.kind ≠ 2 ∧ f.kind ≠ 3 ∧ f.kind ≠ 4) by omega) with h | h | h | h | h <;> simp_all [rightF, emp] <;> (intros; omega)) | (simp_all [rightF, emp] <;> (intros; omega))))
end Go.Vm
end
section
namespace Go.Vm
set_option linter.unusedVariables false
set_option linter.unusedSimpArgs false

/-! ### Order -/
theorem bl_irrefl : ∀ a : List UInt8, Op.bytesLess a a = false
  | [] => rfl
  | x :: l => by simp [Op.bytesLess, bl_irrefl l, UInt8.lt_irrefl]
theorem bl_trans : ∀ a b c : List UInt8, Op.bytesLess a b = true → Op.bytesLess b c = true → Op.bytesLess a c = true
  | [], _, [], h, h2 => by cases ‹List UInt8› <;> simp [Op.bytesLess] at h h2
  | [], _, _ :: _, _, _ => rfl
  | _ :: _, [], _, h, _ => by simp [Op.bytesLess] at h
  | _ :: _, _ :: _, [], _, h => by simp [Op.bytesLess] at h
  | x :: a, y :: b, z :: c, h, h2 => by
    simp only [Op.bytesLess, Bool.or_eq_true, Bool.and_eq_true, decide_eq_true_eq, beq_iff_eq] at h h2 ⊢
    rcases h with h | ⟨rfl, h⟩
    · rcases h2 with h2 | ⟨rfl, h2⟩
      · exact .inl (UInt8.lt_trans h h2)
      · exact .inl h
    · rcases h2 with h2 | ⟨rfl, h2⟩
      · exact .inl h2
      · exact .inr ⟨rfl, bl_trans a b c h h2⟩
theorem ltB_irrefl (a : ByteArray) : ltB a a = false := bl_irrefl _
theorem ltB_trans {a b c : ByteArray} (h : ltB a b = true) (h2 : ltB b c = true) : ltB a c = true := bl_trans _ _ _ h h2
theorem lessB_irrefl (r : RefD) : lessB r r = false := by simp [lessB, ltB_irrefl]
theorem lessB_iff {a b : RefD} : lessB a b = true ↔ a.scope < b.scope ∨ a.scope = b.scope ∧ (ltB a.group b.group = true ∨ a.group = b.group ∧ ltB a.name b.name = true) := by
  unfold lessB
  by_cases e1 : a.scope = b.scope
  · rw [if_neg (by simpa using e1)]
    by_cases e2 : a.group = b.group
    · rw [if_neg (by simpa using e2), e2, ltB_irrefl]; simp [e1]
    · rw [if_pos e2]; simp [e1, e2]
  · rw [if_pos e1]; simp [e1]
theorem lessB_trans {a b c : RefD} (h : lessB a b = true) (h2 : lessB b c = true) : lessB a c = true := by
  rw [lessB_iff] at *
  rcases h with h | ⟨e, h⟩
  · rcases h2 with h2 | ⟨e2, h2⟩
    · left; omega
    · left; omega
  · rcases h2 with h2 | ⟨e2, h2⟩
    · left; omega
    · right
      refine ⟨by omega, ?_⟩
      rcases h with h | ⟨g, h⟩
      · rcases h2 with h2 | ⟨g2, h2⟩
        · exact .inl (ltB_trans h h2)
        · exact .inl (g2 ▸ h)
      · rcases h2 with h2 | ⟨g2, h2⟩
        · exact .inl (g ▸ h2)
        · exact .inr ⟨g.trans g2, ltB_trans h h2⟩

/-! ### Schemas -/
/-- A list of fields that isn't long. -/
def okL (l : List FieldD) : Prop := l.length ≤ 1000 ∧ ∀ f ∈ l, f.cases.length ≤ 1000000
theorem okL.at {l : List FieldD} {k : Nat} {p : FieldD} (h : okL l) (hp : l[k]? = some p) : p.cases.length ≤ 1000000 := h.2 p (List.mem_of_getElem? hp)
def okSk (l : List FieldD) (k : Nat) : Bool := (List.range k).all fun j => match l[j]? with
  | some f => rightF f && (match l[j - 1]? with | some g => decide (j = 0) || lessB g.at_ f.at_ | none => true)
  | none => true
/-- Is a schema right? -/
def rightS (l : List FieldD) : Bool := decide (l.length ≤ 16) && okSk l l.length
theorem okSk_zero (l : List FieldD) : okSk l 0 = true := rfl
theorem okSk_first {l : List FieldD} {p : FieldD} (hp : l[0]? = some p) (h : okSk l 0 = true) (h1 : rightF p = true) : okSk l (0 + 1) = true := by
  unfold okSk at *
  rw [List.range_succ, List.all_append, h]
  simp [hp, h1]
theorem okSk_next {l : List FieldD} {k : Nat} {p q : FieldD} (hp : l[k]? = some p) (hq : l[k - 1]? = some q) (h : okSk l k = true) (h1 : rightF p = true) (h2 : lessB q.at_ p.at_ = true) : okSk l (k + 1) = true := by
  unfold okSk at *
  rw [List.range_succ, List.all_append, h]
  simp [hp, hq, h1, h2]
theorem rightS_no {l : List FieldD} {k : Nat} {p : FieldD} (hp : l[k]? = some p) (h : rightF p = false) : rightS l = false := by
  unfold rightS okSk
  rw [Bool.and_eq_false_iff]
  right
  rw [List.all_eq_false]
  exact ⟨k, List.mem_range.2 (lt_len hp), by simp [hp, h]⟩
theorem rightS_un {l : List FieldD} {k : Nat} {p q : FieldD} (hp : l[k]? = some p) (hq : l[k - 1]? = some q) (h0 : ¬ k = 0) (h : lessB q.at_ p.at_ = false) : rightS l = false := by
  unfold rightS okSk
  rw [Bool.and_eq_false_iff]
  right
  rw [List.all_eq_false]
  exact ⟨k, List.mem_range.2 (lt_len hp), by simp [hp, hq, h, h0]⟩
theorem rightS_yes {l : List FieldD} {k : Nat} (h1 : l.length ≤ 16) (hk : l.length ≤ k) (h : okSk l k = true) : rightS l = true := by
  unfold rightS
  rw [decide_eq_true h1, Bool.true_and]
  unfold okSk at *
  rw [List.all_eq_true] at *
  intro j hj
  exact h j (List.mem_range.2 (by have := List.mem_range.1 hj; omega))
theorem rightS_long {l : List FieldD} (h : 16 < l.length) : rightS l = false := by unfold rightS; rw [decide_eq_false (by omega)]; rfl
theorem prev_at {α : Type} {l : List α} {k : Nat} {p : α} (hp : l[k]? = some p) : ∃ q, l[k - 1]? = some q := ⟨_, List.getElem?_eq_getElem (by have := lt_len hp; omega)⟩
theorem map_prev' {α : Type} {f : α → D} {l : List α} {k : Nat} {q : α} (h : l[k - 1]? = some q) (h0 : 0 < k) : (l.map f)[(((k : Nat) : Int) - 1).toNat]? = some (f q) := by
  rw [show (((k : Nat) : Int) - 1).toNat = k - 1 by omega, List.getElem?_map, h]; rfl

theorem rightS_len {l : List FieldD} (h : rightS l = true) : l.length ≤ 16 := by
  unfold rightS at h; simp only [Bool.and_eq_true, decide_eq_true_eq] at h; exact h.1
theorem rightS_at {l : List FieldD} {k : Nat} {p : FieldD} (h : rightS l = true) (hp : l[k]? = some p) : rightF p = true := by
  unfold rightS okSk at h
  simp only [Bool.and_eq_true, decide_eq_true_eq, List.all_eq_true] at h
  have := h.2 k (List.mem_range.2 (lt_len hp))
  rw [hp] at this
  simp only [Bool.and_eq_true] at this
  exact this.1
theorem rightS_adj {l : List FieldD} {k : Nat} {p q : FieldD} (h : rightS l = true) (hp : l[k]? = some p) (hq : l[k + 1]? = some q) : lessB p.at_ q.at_ = true := by
  unfold rightS okSk at h
  simp only [Bool.and_eq_true, decide_eq_true_eq, List.all_eq_true] at h
  have := h.2 (k + 1) (List.mem_range.2 (lt_len hq))
  rw [hq] at this
  simp only [Bool.and_eq_true, Nat.add_sub_cancel, hp, Nat.add_eq_zero_iff, Nat.one_ne_zero, and_false, decide_false, Bool.false_or] at this
  exact this.2
theorem rightS_lt {l : List FieldD} (h : rightS l = true) : ∀ (d i : Nat) {p q : FieldD}, l[i]? = some p → l[i + d + 1]? = some q → lessB p.at_ q.at_ = true
  | 0, i, p, q, hp, hq => rightS_adj h hp hq
  | d + 1, i, p, q, hp, hq => by
    have hlt := lt_len hq
    obtain ⟨r, hr⟩ : ∃ r, l[i + d + 1]? = some r := ⟨_, List.getElem?_eq_getElem (by omega)⟩
    exact lessB_trans (rightS_lt h d i hp hr) (rightS_adj h hr (by rw [show i + d + 1 + 1 = i + (d + 1) + 1 by omega]; exact hq))
/-- No two fields of a right schema stand at one place. -/
theorem rightS_uniq {l : List FieldD} (h : rightS l = true) {i j : Nat} {p q : FieldD} (hp : l[i]? = some p) (hq : l[j]? = some q) (e : p.at_ = q.at_) : i = j := by
  rcases Nat.lt_trichotomy i j with hlt | rfl | hlt
  · have := rightS_lt h (j - i - 1) i hp (by rw [show i + (j - i - 1) + 1 = j by omega]; exact hq)
    rw [e, lessB_irrefl] at this; cases this
  · rfl
  · have := rightS_lt h (i - j - 1) j hq (by rw [show j + (i - j - 1) + 1 = i by omega]; exact hp)
    rw [e, lessB_irrefl] at this; cases this
theorem rightF_cases {f : FieldD} (h : rightF f = true) : f.cases.length ≤ 1000000 := by
  unfold rightF at h
  simp only [Bool.and_eq_true] at h
  have h := h.2
  split at h
  · simp only [Bool.and_eq_true, decide_eq_true_eq] at h; omega
  split at h
  · simp only [Bool.and_eq_true, decide_eq_true_eq] at h; omega
  split at h
  · simp only [Bool.and_eq_true, decide_eq_true_eq, casesB] at h; omega
  split at h
  · simp only [Bool.and_eq_true, decide_eq_true_eq] at h; omega
  · cases h
theorem okL_right {l : List FieldD} (h : rightS l = true) : okL l := by
  refine ⟨by have := rightS_len h; omega, fun f hf => ?_⟩
  obtain ⟨i, hi, rfl⟩ := List.getElem_of_mem hf
  have := rightS_at h (List.getElem?_eq_getElem hi)
  exact rightF_cases this

def indexS (l : List FieldD) (r : RefD) : Int := if (l.findIdx fun f => decide (f.at_ = r)) < l.length then ((l.findIdx fun f => decide (f.at_ = r) : Nat) : Int) else -1
theorem indexS_hit {l : List FieldD} {r : RefD} {k : Nat} {p : FieldD} (hp : l[k]? = some p) (h : ∀ j q, j < k → l[j]? = some q → ¬ q.at_ = r) (hn : p.at_ = r) : indexS l r = (k : Int) := by
  obtain ⟨hlt, hpe⟩ := List.getElem?_eq_some_iff.1 hp
  have e : l.findIdx (fun f => decide (f.at_ = r)) = k := by
    rw [List.findIdx_eq hlt]
    refine ⟨by simp [hpe, hn], fun j hj => ?_⟩
    simp only [decide_eq_false_iff_not]
    exact h j _ hj (List.getElem?_eq_getElem (by omega))
  unfold indexS
  rw [e, if_pos hlt]
theorem indexS_miss {l : List FieldD} {r : RefD} {k : Nat} (hk : l.length ≤ k) (h : ∀ j q, j < k → l[j]? = some q → ¬ q.at_ = r) : indexS l r = -1 := by
  unfold indexS
  rw [if_neg]
  intro hlt
  have h1 := List.findIdx_getElem (w := hlt)
  exact h _ _ (by omega) (List.getElem?_eq_getElem hlt) (of_decide_eq_true h1)
theorem none_next {l : List FieldD} {r : RefD} {k : Nat} {p : FieldD} (hp : l[k]? = some p) (h : ∀ j q, j < k → l[j]? = some q → ¬ q.at_ = r) (hn : ¬ p.at_ = r) : ∀ j q, j < k + 1 → l[j]? = some q → ¬ q.at_ = r := by
  intro j q hj hq
  by_cases e : j = k
  · subst e; rw [hp] at hq; injection hq with hq; subst hq; exact hn
  · exact h j q (by omega) hq
/-- Either a place has a first field, or none. -/
theorem indexS_cases (l : List FieldD) (r : RefD) : (indexS l r = -1 ∧ ∀ (j : Nat) (q : FieldD), l[j]? = some q → ¬ q.at_ = r) ∨ ∃ (k : Nat) (p : FieldD), indexS l r = (k : Int) ∧ l[k]? = some p ∧ p.at_ = r ∧ ∀ (j : Nat) (q : FieldD), j < k → l[j]? = some q → ¬ q.at_ = r := by
  unfold indexS
  by_cases h : (l.findIdx fun f => decide (f.at_ = r)) < l.length
  · right
    rw [if_pos h]
    refine ⟨_, _, rfl, List.getElem?_eq_getElem h, of_decide_eq_true (List.findIdx_getElem (w := h)), fun j q hj hq => ?_⟩
    have := List.not_of_lt_findIdx hj
    obtain ⟨hlt, rfl⟩ := List.getElem?_eq_some_iff.1 hq
    simpa using this
  · left
    rw [if_neg h]
    refine ⟨rfl, fun j q hq e => h ?_⟩
    obtain ⟨hlt, rfl⟩ := List.getElem?_eq_some_iff.1 hq
    exact List.findIdx_lt_length_of_exists ⟨_, List.getElem_mem hlt, by simpa using e⟩

/-- The field of a place. -/
def fieldAt (l : List FieldD) (r : RefD) : FieldD := match l[(indexS l r).toNat]? with
  | some f => f
  | none => noField
def findS (l : List FieldD) (r : RefD) : FieldD × Int := if indexS l r < 0 then (noField, 6) else (fieldAt l r, 0)
def insF (l : List FieldD) (f : FieldD) : List FieldD := (l.takeWhile fun g => lessB g.at_ f.at_) ++ f :: (l.dropWhile fun g => lessB g.at_ f.at_)
def withS (l : List FieldD) (f : FieldD) : List FieldD × Int :=
  if (rightS l && rightF f) = false then ([], 5) else if 0 ≤ indexS l f.at_ then ([], 7) else if 16 ≤ l.length then ([], 14) else (insF l f, 0)
def delF (l : List FieldD) (r : RefD) : List FieldD := l.filter fun f => !decide (f.at_ = r)
def withoutS (l : List FieldD) (r : RefD) : List FieldD × Int := if rightS l = false then ([], 5) else if indexS l r < 0 then ([], 6) else (delF l r, 0)

theorem ins_at {l : List FieldD} {f : FieldD} {k : Nat} (h1 : ∀ j q, j < k → l[j]? = some q → lessB q.at_ f.at_ = true) (h2 : l.length ≤ k ∨ ∃ q, l[k]? = some q ∧ lessB q.at_ f.at_ = false) : insF l f = l.take k ++ f :: l.drop k := by
  have key : ∀ (l : List FieldD) (k : Nat), (∀ j q, j < k → l[j]? = some q → lessB q.at_ f.at_ = true) → (l.length ≤ k ∨ ∃ q, l[k]? = some q ∧ lessB q.at_ f.at_ = false) → (l.takeWhile fun g => lessB g.at_ f.at_) = l.take k ∧ (l.dropWhile fun g => lessB g.at_ f.at_) = l.drop k := by
    intro l
    induction l with
    | nil => intro k _ _; simp
    | cons x l ih =>
      intro k h1 h2
      cases k with
      | zero =>
        rcases h2 with h2 | ⟨q, hq, h2⟩
        · simp at h2
        · simp at hq; subst hq; simp [h2]
      | succ k =>
        have hx := h1 0 x (by omega) rfl
        obtain ⟨e1, e2⟩ := ih k (fun j q hj hq => h1 (j + 1) q (by omega) (by simpa using hq)) (by
          rcases h2 with h2 | ⟨q, hq, h2⟩
          · left; simp at h2; omega
          · right; exact ⟨q, by simpa using hq, h2⟩)
        simp [hx, e1, e2]
  unfold insF
  rw [(key l k h1 h2).1, (key l k h1 h2).2]
end Go.Vm
end
section
namespace Go.Vm
set_option linter.unusedVariables false
set_option linter.unusedSimpArgs false

/-! ### Schemas as sorted lists -/
theorem bl_total : ∀ a b : List UInt8, Op.bytesLess a b = false → a ≠ b → Op.bytesLess b a = true
  | [], [], _, h => absurd rfl h
  | [], _ :: _, h, _ => by simp [Op.bytesLess] at h
  | _ :: _, [], _, _ => rfl
  | x :: a, y :: b, h, hn => by
    simp only [Op.bytesLess, Bool.or_eq_false_iff, decide_eq_false_iff_not, Bool.and_eq_false_iff, beq_eq_false_iff_ne, Bool.or_eq_true, decide_eq_true_eq, Bool.and_eq_true, beq_iff_eq] at h ⊢
    by_cases e : x = y
    · subst e
      right
      refine ⟨rfl, bl_total a b (by rcases h.2 with h | h; exact absurd rfl h; exact h) (fun k => hn (by rw [k]))⟩
    · left
      have h1 := h.1
      have : ¬ x.toNat = y.toNat := fun k => e (UInt8.toNat_inj.1 k)
      rw [UInt8.lt_iff_toNat_lt] at h1 ⊢
      omega
theorem ltB_total {a b : ByteArray} (h : ltB a b = false) (hn : a ≠ b) : ltB b a = true := by
  refine bl_total _ _ h fun k => hn ?_
  exact ByteArray.ext (Array.toList_inj.1 (by rw [← ByteArray.toList_eq, ← ByteArray.toList_eq]; exact k))
theorem lessB_total {a b : RefD} (h : lessB a b = false) (hn : a ≠ b) : lessB b a = true := by
  have h' : ¬ lessB a b = true := by rw [h]; simp
  rw [lessB_iff] at h' ⊢
  by_cases e1 : a.scope = b.scope
  · right
    refine ⟨e1.symm, ?_⟩
    by_cases e2 : a.group = b.group
    · right
      refine ⟨e2.symm, ltB_total ?_ fun k => hn ?_⟩
      · cases hc : ltB a.name b.name with
        | false => rfl
        | true => exact absurd (.inr ⟨e1, .inr ⟨e2, hc⟩⟩) h'
      · obtain ⟨s, g, n⟩ := a; obtain ⟨s', g', n'⟩ := b; simp only at e1 e2 k; rw [e1, e2, k]
    · left
      refine ltB_total ?_ e2
      cases hc : ltB a.group b.group with
      | false => rfl
      | true => exact absurd (.inr ⟨e1, .inl hc⟩) h'
  · left
    have : ¬ a.scope < b.scope := fun k => h' (.inl k)
    omega
theorem rightS_iff {l : List FieldD} : rightS l = true ↔ l.length ≤ 16 ∧ (∀ f ∈ l, rightF f = true) ∧ l.Pairwise fun a b => lessB a.at_ b.at_ = true := by
  constructor
  · intro h
    refine ⟨rightS_len h, fun f hf => ?_, ?_⟩
    · obtain ⟨i, hi, rfl⟩ := List.getElem_of_mem hf
      exact rightS_at h (List.getElem?_eq_getElem hi)
    · rw [List.pairwise_iff_getElem]
      intro i j hi hj hij
      exact rightS_lt h (j - i - 1) i (List.getElem?_eq_getElem hi) (by rw [show i + (j - i - 1) + 1 = j by omega]; exact List.getElem?_eq_getElem hj)
  · rintro ⟨h1, h2, h3⟩
    refine rightS_yes h1 (Nat.le_refl _) ?_
    unfold okSk
    rw [List.all_eq_true]
    intro j hj
    have hj := List.mem_range.1 hj
    rw [List.getElem?_eq_getElem hj, List.getElem?_eq_getElem (show j - 1 < l.length by omega)]
    simp only [Bool.and_eq_true]
    refine ⟨h2 _ (List.getElem_mem hj), ?_⟩
    by_cases e : j = 0
    · simp [e]
    · rw [List.pairwise_iff_getElem] at h3
      rw [h3 (j - 1) j (by omega) hj (by omega), Bool.or_true]
theorem rightS_del {l : List FieldD} (h : rightS l = true) (r : RefD) : rightS (delF l r) = true := by
  rw [rightS_iff] at *
  exact ⟨Nat.le_trans (List.length_filter_le ..) h.1, fun f hf => h.2.1 f (List.mem_filter.1 hf).1, h.2.2.filter _⟩
theorem takeW_all {α : Type} {p : α → Bool} {l : List α} : ∀ x ∈ l.takeWhile p, p x = true := by
  induction l with
  | nil => simp
  | cons a l ih =>
    intro x hx
    rw [List.takeWhile_cons] at hx
    split at hx
    · rcases List.mem_cons.1 hx with rfl | hx
      · assumption
      · exact ih x hx
    · cases hx
theorem dropW_sorted {l : List FieldD} {r : RefD} (h : l.Pairwise fun a b => lessB a.at_ b.at_ = true) (hn : ∀ g ∈ l, g.at_ ≠ r) : ∀ g ∈ l.dropWhile (fun g => lessB g.at_ r), lessB r g.at_ = true := by
  induction l with
  | nil => simp
  | cons a l ih =>
    intro g hg
    rw [List.dropWhile_cons] at hg
    split at hg
    · exact ih (List.pairwise_cons.1 h).2 (fun g hg => hn g (List.mem_cons_of_mem _ hg)) g hg
    · rename_i hf
      have ha : lessB r a.at_ = true := lessB_total (by simpa using hf) (hn a (List.mem_cons_self ..))
      rcases List.mem_cons.1 hg with rfl | hg
      · exact ha
      · exact lessB_trans ha ((List.pairwise_cons.1 h).1 g hg)
theorem mem_insF {l : List FieldD} {f g : FieldD} : g ∈ insF l f ↔ g = f ∨ g ∈ l := by
  have e : l.takeWhile (fun g => lessB g.at_ f.at_) ++ l.dropWhile (fun g => lessB g.at_ f.at_) = l := List.takeWhile_append_dropWhile
  unfold insF
  rw [List.mem_append, List.mem_cons]
  conv => rhs; rw [← e, List.mem_append]
  constructor <;> rintro (h | h | h) <;> simp [h]
theorem length_insF {l : List FieldD} {f : FieldD} : (insF l f).length = l.length + 1 := by
  have e : (l.takeWhile (fun g => lessB g.at_ f.at_) ++ l.dropWhile (fun g => lessB g.at_ f.at_)).length = l.length := by rw [List.takeWhile_append_dropWhile]
  unfold insF
  rw [List.length_append] at e ⊢
  rw [List.length_cons]; omega
theorem rightS_ins {l : List FieldD} {f : FieldD} (h : rightS l = true) (hf : rightF f = true) (hl : l.length < 16) (hn : ∀ g ∈ l, g.at_ ≠ f.at_) : rightS (insF l f) = true := by
  rw [rightS_iff] at *
  obtain ⟨h1, h2, h3⟩ := h
  refine ⟨by rw [length_insF]; omega, fun g hg => ?_, ?_⟩
  · rcases mem_insF.1 hg with rfl | hg
    · exact hf
    · exact h2 g hg
  · have hd := dropW_sorted h3 hn
    have e : l.takeWhile (fun g => lessB g.at_ f.at_) ++ l.dropWhile (fun g => lessB g.at_ f.at_) = l := List.takeWhile_append_dropWhile
    rw [← e] at h3
    obtain ⟨q1, q2, q3⟩ := List.pairwise_append.1 h3
    unfold insF
    refine List.pairwise_append.2 ⟨q1, List.pairwise_cons.2 ⟨hd, q2⟩, fun a ha b hb => ?_⟩
    rcases List.mem_cons.1 hb with rfl | hb
    · exact takeW_all (p := fun g => lessB g.at_ b.at_) a ha
    · exact q3 a ha b hb

/-! ### Looking a place up -/
theorem index_neg {l : List FieldD} {r : RefD} : indexS l r < 0 ↔ ∀ f ∈ l, f.at_ ≠ r := by
  rcases indexS_cases l r with ⟨h, h2⟩ | ⟨k, p, h, hp, e, _⟩
  · refine ⟨fun _ f hf => ?_, fun _ => by omega⟩
    obtain ⟨i, hi, rfl⟩ := List.getElem_of_mem hf
    exact h2 i _ (List.getElem?_eq_getElem hi)
  · exact ⟨fun h' => by omega, fun h' => absurd e (h' p (List.mem_of_getElem? hp))⟩
theorem index_pos {l : List FieldD} {r : RefD} : 0 ≤ indexS l r ↔ ∃ f ∈ l, f.at_ = r := by
  have := @index_neg l r
  constructor
  · intro h
    rcases indexS_cases l r with ⟨h', _⟩ | ⟨k, p, _, hp, e, _⟩
    · omega
    · exact ⟨p, List.mem_of_getElem? hp, e⟩
  · rintro ⟨f, hf, e⟩
    by_cases hn : indexS l r < 0
    · exact absurd e (this.1 hn f hf)
    · omega
theorem fieldAt_spec {l : List FieldD} {r : RefD} (h : ¬ indexS l r < 0) : fieldAt l r ∈ l ∧ (fieldAt l r).at_ = r := by
  rcases indexS_cases l r with ⟨h', _⟩ | ⟨k, p, h', hp, e, _⟩
  · omega
  · unfold fieldAt; rw [h', Int.toNat_natCast, hp]; exact ⟨List.mem_of_getElem? hp, e⟩
theorem fieldAt_uniq {l : List FieldD} (hr : rightS l = true) {f : FieldD} (hf : f ∈ l) : fieldAt l f.at_ = f := by
  have h0 : ¬ indexS l f.at_ < 0 := by rw [index_neg]; intro h; exact h f hf rfl
  obtain ⟨h1, h2⟩ := fieldAt_spec h0
  obtain ⟨i, hi, e1⟩ := List.getElem_of_mem h1
  obtain ⟨j, hj, e2⟩ := List.getElem_of_mem hf
  have := rightS_uniq hr (i := i) (j := j) (p := fieldAt l f.at_) (q := f) (by rw [List.getElem?_eq_getElem hi, e1]) (by rw [List.getElem?_eq_getElem hj, e2]) h2
  subst this
  rw [← e1, e2]
/-- Two right schemas that have the same field at a place, or both none. -/
theorem find_same {l m : List FieldD} {r : RefD} (hl : rightS l = true) (hm : rightS m = true) (h : ∀ f, f.at_ = r → (f ∈ l ↔ f ∈ m)) : findS l r = findS m r := by
  unfold findS
  by_cases h0 : indexS l r < 0
  · have h1 : indexS m r < 0 := by
      rw [index_neg] at *
      intro f hf e
      exact h0 f ((h f e).2 hf) e
    rw [if_pos h0, if_pos h1]
  · obtain ⟨h1, h2⟩ := fieldAt_spec h0
    have h3 := (h _ h2).1 h1
    have h4 := fieldAt_uniq hm h3
    rw [h2] at h4
    have h5 : ¬ indexS m r < 0 := by rw [index_neg]; intro k; exact k _ h3 h2
    rw [if_neg h0, if_neg h5, h4]

/-! ### Lenses -/
def caseT (t : List (ByteArray × ByteArray)) (s : ByteArray) : ByteArray × Bool := match t.find? fun p => decide (p.1 = s) with
  | some p => (p.2, true)
  | none => (noB, false)
def froms (t : List (ByteArray × ByteArray)) : List ByteArray := t.map (·.1)
theorem caseT_some {t : List (ByteArray × ByteArray)} {s : ByteArray} : (caseT t s).2 = decide (s ∈ froms t) := by
  unfold caseT froms
  cases h : t.find? fun p => decide (p.1 = s) with
  | none =>
    rw [List.find?_eq_none] at h
    symm
    simp only [decide_eq_false_iff_not, List.mem_map, not_exists, not_and]
    intro p hp e
    exact h p hp (by simpa using e)
  | some p =>
    have h1 := List.find?_some h
    have h2 := List.mem_of_find?_eq_some h
    symm
    simp only [decide_eq_true_eq] at h1
    rw [decide_eq_true_eq, ← h1]
    exact List.mem_map.2 ⟨p, h2, rfl⟩
def okT (t o : List (ByteArray × ByteArray)) (k : Nat) : Bool := (List.range k).all fun j => match t[j]? with
  | some p => nameB p.1 && !decide (p.1 ∈ froms (t.take j)) && decide (p.2 ∈ froms o)
  | none => true
def rightT (t o : List (ByteArray × ByteArray)) : Bool := decide (1 ≤ t.length) && decide (t.length ≤ 6) && okT t o t.length
theorem okT_zero (t o : List (ByteArray × ByteArray)) : okT t o 0 = true := rfl
theorem okT_next {t o : List (ByteArray × ByteArray)} {k : Nat} {p : ByteArray × ByteArray} (hp : t[k]? = some p) (h : okT t o k = true) (h1 : nameB p.1 = true) (h2 : ¬ p.1 ∈ froms (t.take k)) (h3 : p.2 ∈ froms o) : okT t o (k + 1) = true := by
  unfold okT at *
  rw [List.range_succ, List.all_append, h]
  simp [hp, h1, h2, h3]
theorem rightT_no {t o : List (ByteArray × ByteArray)} {k : Nat} {p : ByteArray × ByteArray} (hp : t[k]? = some p) (h : (nameB p.1 && !decide (p.1 ∈ froms (t.take k)) && decide (p.2 ∈ froms o)) = false) : rightT t o = false := by
  unfold rightT okT
  rw [Bool.and_eq_false_iff]
  right
  rw [List.all_eq_false]
  exact ⟨k, List.mem_range.2 (lt_len hp), by simp only [hp, h]; simp⟩
theorem rightT_yes {t o : List (ByteArray × ByteArray)} {k : Nat} (h1 : 1 ≤ t.length) (h2 : t.length ≤ 6) (hk : t.length ≤ k) (h : okT t o k = true) : rightT t o = true := by
  unfold rightT
  rw [decide_eq_true h1, decide_eq_true h2, Bool.true_and, Bool.true_and]
  unfold okT at *
  rw [List.all_eq_true] at *
  intro j hj
  exact h j (List.mem_range.2 (by have := List.mem_range.1 hj; omega))
theorem rightT_short {t o : List (ByteArray × ByteArray)} (h : t.length < 1) : rightT t o = false := by unfold rightT; rw [decide_eq_false (by omega)]; rfl
theorem rightT_long {t o : List (ByteArray × ByteArray)} (h : 6 < t.length) : rightT t o = false := by unfold rightT; rw [decide_eq_false (show ¬ t.length ≤ 6 by omega), Bool.and_false]; rfl
theorem rightT_name {t o : List (ByteArray × ByteArray)} {s : ByteArray} (h : rightT t o = true) (hs : (caseT t s).2 = true) : nameB s = true := by
  rw [caseT_some, decide_eq_true_eq] at hs
  obtain ⟨p, hp, rfl⟩ := List.mem_map.1 hs
  obtain ⟨i, hi, rfl⟩ := List.getElem_of_mem hp
  unfold rightT okT at h
  simp only [Bool.and_eq_true, List.all_eq_true] at h
  have := h.2 i (List.mem_range.2 hi)
  rw [List.getElem?_eq_getElem hi] at this
  simp only [Bool.and_eq_true] at this
  exact this.1.1
/-- Is a lens right? -/
def rightL (x : LensD) : Bool :=
  if x.kind = 2 ∨ x.kind = 3 then decide (x.at_ = noRef) && decide (x.name = noB) && decide (x.other = noB) && decide (x.factor = 0) && decide (x.forth.length = 0) && decide (x.back.length = 0) && rightF x.field
  else placeB x.at_ && decide (x.field = noField) &&
    (if x.kind = 8 then decide (x.factor = 0) && rightT x.forth x.back && rightT x.back x.forth && decide (caseT x.forth x.name = (x.other, true)) && decide (caseT x.back x.other = (x.name, true))
     else decide (x.forth.length = 0) && decide (x.back.length = 0) &&
      (if x.kind = 6 ∨ x.kind = 9 then nameB x.name && nameB x.other && !decide (x.name = x.other) && decide (2 ≤ x.factor) && decide (x.factor ≤ 1000)
       else decide (x.factor = 0) &&
        (if x.kind = 7 ∨ x.kind = 10 then decide (x.name = noB) && decide (x.other.size ≤ 40)
         else decide (x.other = noB) && (if x.kind = 1 then nameB x.name else if x.kind = 4 then decide (x.name = noB) && !decide (x.at_.group = noB) else if x.kind = 5 then decide (x.at_.group = noB) && nameB x.name else false))))
def named (r : RefD) (s : ByteArray) : RefD := ⟨r.scope, r.group, s⟩
def goesL (x : LensD) : List RefD := if x.kind = 2 then [] else if x.kind = 3 then [x.field.at_] else if x.kind = 9 then [named x.at_ x.name, named x.at_ x.other] else [x.at_]
def comesL (x : LensD) : List RefD := if x.kind = 2 then [x.field.at_] else if x.kind = 3 then [] else if x.kind = 6 then [named x.at_ x.name, named x.at_ x.other] else if x.kind = 1 then [named x.at_ x.name]
  else if x.kind = 4 then [⟨x.at_.scope, noB, x.at_.name⟩] else if x.kind = 5 then [⟨x.at_.scope, x.name, x.at_.name⟩] else [x.at_]
/-- What comes over a right lens from a right schema; none: it doesn't fit. -/
def newsL (l : List FieldD) (x : LensD) : Option (List FieldD) :=
  if x.kind = 2 then some [x.field]
  else if x.kind = 3 then (if fieldAt l x.field.at_ = x.field then some [] else none)
  else if x.kind = 9 then (if (fieldAt l (named x.at_ x.name)).kind = 1 ∧ (fieldAt l (named x.at_ x.other)).kind = 1 ∧ (fieldAt l (named x.at_ x.other)).worth = (fieldAt l (named x.at_ x.name)).worth * x.factor then some [⟨x.at_, 1, noB, [], (fieldAt l (named x.at_ x.name)).worth⟩] else none)
  else if x.kind = 6 then (if (fieldAt l x.at_).kind = 1 then some [⟨named x.at_ x.name, 1, noB, [], (fieldAt l x.at_).worth⟩, ⟨named x.at_ x.other, 1, noB, [], (fieldAt l x.at_).worth * x.factor⟩] else none)
  else if x.kind = 7 then (if (fieldAt l x.at_).kind = 2 ∧ (fieldAt l x.at_).deft = x.other then some [⟨x.at_, 4, noB, [], 0⟩] else none)
  else if x.kind = 10 then (if (fieldAt l x.at_).kind = 4 then some [⟨x.at_, 2, x.other, [], 0⟩] else none)
  else if x.kind = 8 then (if fieldAt l x.at_ = ⟨x.at_, 3, x.name, froms x.forth, 0⟩ then some [⟨x.at_, 3, x.other, froms x.back, 0⟩] else none)
  else some (match comesL x with | [] => [] | c :: _ => [⟨c, (fieldAt l x.at_).kind, (fieldAt l x.at_).deft, (fieldAt l x.at_).cases, (fieldAt l x.at_).worth⟩])
def withAll : List FieldD → List FieldD → List FieldD × Int
  | l, [] => (l, 0)
  | l, f :: fs => if (withS l f).2 = 0 then withAll (withS l f).1 fs else ([], 16)
def delAll (l : List FieldD) (rs : List RefD) : List FieldD := rs.foldl delF l
/-- Where a lens leads. -/
def applyS (l : List FieldD) (x : LensD) : List FieldD × Int :=
  if (rightS l && rightL x) = false then ([], 5)
  else if (goesL x).any (fun g => decide (indexS l g < 0)) then ([], 16)
  else match newsL l x with
    | none => ([], 16)
    | some fs => withAll (delAll l (goesL x)) fs
end Go.Vm
end
section
namespace Go.Vm
open Go.RowKit Go.Proofs
set_option linter.unusedVariables false
set_option linter.unusedSimpArgs false
set_option maxRecDepth 10000

theorem take_next {α : Type} {l : List α} {k : Nat} {p : α} (hp : l[k]? = some p) : l.take (k + 1) = l.take k ++ [p] := by rw [List.take_add_one, hp]; rfl
theorem snoc_map {α β : Type} {g : α → β} {A : List α} {x : α} : A.map g ++ [g x] = (A ++ [x]).map g := by simp
theorem one_map {α β : Type} {g : α → β} {x : α} : [g x] = [x].map g := rfl
theorem fD_wide {f : FieldD} : ∀ x ∈ [fD f], x.cells.length = 7 := by intro x hx; rw [List.mem_singleton.1 hx]; rfl
theorem filter_next {l : List FieldD} {r : RefD} {k : Nat} {p : FieldD} (hp : l[k]? = some p) : delF (l.take (k + 1)) r = delF (l.take k) r ++ (if p.at_ = r then [] else [p]) := by
  unfold delF
  rw [take_next hp, List.filter_append]
  by_cases e : p.at_ = r <;> simp [e]
theorem length_take_le {α : Type} {l : List α} {k n : Nat} (h : l.length ≤ n) : (l.take k).length ≤ n := by rw [List.length_take]; omega
theorem length_del_le {l : List FieldD} {r : RefD} {k n : Nat} (h : l.length ≤ n) : (delF (l.take k) r).length ≤ n := by
  have := List.length_filter_le (fun f => !decide (f.at_ = r)) (l.take k)
  have h2 := length_take_le (k := k) h
  unfold delF; omega
theorem find_no {l : List FieldD} {r : RefD} (h : indexS l r < 0) : findS l r = (noField, 6) := by unfold findS; rw [if_pos h]
theorem find_yes {l : List FieldD} {r : RefD} (h : ¬ indexS l r < 0) : findS l r = (fieldAt l r, 0) := by unfold findS; rw [if_neg h]
theorem fieldAt_ix {l : List FieldD} {r : RefD} (h : ¬ indexS l r < 0) : (l.map fD)[(indexS l r).toNat]? = some (fD (fieldAt l r)) := by
  rcases indexS_cases l r with ⟨h', _⟩ | ⟨k, p, h', hp, e, _⟩
  · omega
  · unfold fieldAt; rw [h', Int.toNat_natCast, hp, List.getElem?_map, hp]; rfl
theorem fieldAt_ok {l : List FieldD} {r : RefD} (ho : okL l) (h : ¬ indexS l r < 0) : (fieldAt l r).cases.length ≤ 1000000 := ho.2 _ (fieldAt_spec h).1
theorem index_bound {l : List FieldD} {r : RefD} : indexS l r < l.length := by
  rcases indexS_cases l r with ⟨h', _⟩ | ⟨k, p, h', hp, e, _⟩
  · omega
  · have := lt_len hp; omega
theorem pr_add1 {P : Program} {t : TypeId} {x y : Operand} {n : Nat} (h : n + 1 ≤ 9223372036854775807) : pureRun P (do eqGuard .add t x y (.int .i64 (n : Int)) (.int .i64 1); binOp .add t (.int .i64 (n : Int)) (.int .i64 1) : Sem Value) = some (.int .i64 ((n + 1 : Nat) : Int)) := pr_add (wrap64 _ (by omega))
theorem pr_sub1 {P : Program} {t : TypeId} {x y : Operand} {n : Nat} (h : 1 ≤ n) (h2 : n ≤ 9223372036854775807) : pureRun P (do eqGuard .sub t x y (.int .i64 (n : Int)) (.int .i64 1); binOp .sub t (.int .i64 (n : Int)) (.int .i64 1) : Sem Value) = some (.int .i64 ((n - 1 : Nat) : Int)) := pr_sub (by rw [wrap64 _ (by omega)]; omega)
theorem same_next {l m : List FieldD} {p q : FieldD} {k : Nat} (hp : l[k]? = some p) (hq : m[k]? = some q) (h : l.take k = m.take k) (hn : p = q) : l.take (k + 1) = m.take (k + 1) := take_eq_next hp hq h hn
/-- The place at which an index stands is the one that goes. -/
theorem gone_iff {l : List FieldD} {r : RefD} (hr : rightS l = true) (h : ¬ indexS l r < 0) {k : Nat} {p : FieldD} (hp : l[k]? = some p) : (((k : Nat) : Int) = indexS l r) ↔ p.at_ = r := by
  rcases indexS_cases l r with ⟨h', _⟩ | ⟨j, q, h', hq, e, _⟩
  · omega
  · rw [h']
    constructor
    · intro h; obtain rfl : k = j := by omega
      rw [hp] at hq; injection hq with hq; rw [hq]; exact e
    · intro h; have := rightS_uniq hr hp hq (h.trans e.symm); omega
theorem row_inj {a b : List D} (h : a = b) : D.row a = D.row b := by rw [h]

set_option maxHeartbeats 1000000 in
theorem schemaRight_any (l : List FieldD) (ho : okL l) : Contract Try.prog 98 [.row (l.map fD)] [.d (.sc (.bool (rightS l)))] := by
 refine T.fn [] Try.func98 ?_
 refine x_len ?_
 refine br (fun hc1 => ?y1) (fun hc1 => ?n1)
 case' n1 =>
  have h16 : l.length ≤ 16 := by omega
  refine x_len ?_
  refine xloopR (fb := []) T.ok (Nat.le_of_ble_eq_true rfl) [0, 8, 9] (fun (k : Nat) => [(10, .c (.d (.sc (.int .i64 (k : Nat)))))]) (fun k => k ≤ l.length ∧ okSk l k = true ∧ l.length ≤ 16) (fun k => l.length - k) 0 ⟨Nat.zero_le _, ⟨okSk_zero l, h16⟩⟩ (x_ent (by first | rfl | (simp only [Tr.get]; simp; done)) trivial) ?_
  rintro k ⟨hk, hi⟩
  refine br (fun hc2 => ?y2) (fun hc2 => ?n2)
  case' y2 =>
   obtain ⟨p, hp⟩ := elem_at hc2
   have hkl := lt_len hp
   obtain ⟨q, hq⟩ := prev_at hp
   have hok := ho.at hp
   first | refine x_ix (by first | exact mapAt hp | exact map_prev' hq (by omega)) ?_ | refine x_ixI (by first | exact mapAt hp | exact map_prev' hq (by omega)) ?_
   refine x_call T.en_52 (fieldRight_any p hok) ?_
   refine br (fun hc3 => ?y3) (fun hc3 => ?n3)
   case' n3 =>
    refine And.intro ⟨T.mixed, by decide +kernel⟩ ?_
    refine br (fun hg4 => ?y4) (fun hg4 => ?n4)
    case' y4 =>
     have hk0 : 0 < k := by omega
     first | refine x_sub ?_ | refine x_bin rfl rfl ?_
     first | refine x_ix (by first | exact mapAt hp | exact map_prev' hq (by omega)) ?_ | refine x_ixI (by first | exact mapAt hp | exact map_prev' hq (by omega)) ?_
     refine x_call T.en_124 (less_any _ _) ?_
     refine br (fun hc5 => ?y5) (fun hc5 => ?n5)
     case' n5 =>
      first | refine x_inc ?_ | refine x_add ?_ | refine x_bin rfl rfl ?_
      refine x_rnd (k + 1) ⟨lt_len hp, (by first | (refine okSk_next hp hq hi.1 ?_ ?_ <;> simp_all; done) | (have h0 : k = 0 := (by omega); subst h0; exact okSk_first hp hi.1 (by simp_all))), hi.2⟩ (by (try dsimp only); have := lt_len hp; omega) rfl (x_ent (by first | rfl | (simp only [Tr.get]; simp; done)) trivial) rfl
    case' n4 =>
     refine brF ?_
     first | refine x_inc ?_ | refine x_add ?_ | refine x_bin rfl rfl ?_
     refine x_rnd (k + 1) ⟨lt_len hp, (by first | (refine okSk_next hp hq hi.1 ?_ ?_ <;> simp_all; done) | (have h0 : k = 0 := (by omega); subst h0; exact okSk_first hp hi.1 (by simp_all))), hi.2⟩ (by (try dsimp only); have := lt_len hp; omega) rfl (x_ent (by first | rfl | (simp only [Tr.get]; simp; done)) trivial) rfl
 all_goals (refine x_ret ?_; simp only [fitsL, fits, C.asD, and_true] <;> (refine scb ?_; first | (refine (rightS_long ?_).symm; omega; done) | (refine (rightS_no hp ?_).symm; simp_all; done) | (refine (rightS_un hp hq ?_ ?_).symm <;> first | omega | (simp_all; done)) | exact (rightS_yes hi.2 (past_end (by assumption)) hi.1).symm))

set_option maxHeartbeats 1000000 in
theorem schemaIndex_any (l : List FieldD) (r : RefD) (hl : l.length ≤ 1000) : Contract Try.prog 102 [.row (l.map fD), rD r] [.d (.sc (.int .i64 (indexS l r)))] := by
 refine T.fn [] Try.func102 ?_
 refine x_len ?_
 refine xloopR (fb := []) T.ok (Nat.le_of_ble_eq_true rfl) [3, 7, 8] (fun (k : Nat) => [(9, .c (.d (.sc (.int .i64 (k : Nat)))))]) (fun k => k ≤ l.length ∧ ∀ j q, j < k → l[j]? = some q → ¬ q.at_ = r) (fun k => l.length - k) 0 ⟨Nat.zero_le _, fun j q hj => absurd hj (Nat.not_lt_zero _)⟩ (x_ent (by first | rfl | (simp only [Tr.get]; simp; done)) trivial) ?_
 rintro k ⟨hk, hi⟩
 refine br (fun hc1 => ?y1) (fun hc1 => ?n1)
 case' y1 =>
  obtain ⟨p, hp⟩ := elem_at hc1
  have hkl := lt_len hp
  first | refine x_ix (by exact mapAt hp) ?_ | refine x_ixI (by exact mapAt hp) ?_
  first | refine xeq_23e _ _ ?_ | refine xeq_23e _ noRef ?_ | refine xeq_23e noRef _ ?_
  refine br (fun hc2 => ?y2) (fun hc2 => ?n2)
  case' n2 =>
   first | refine x_inc ?_ | refine x_add ?_ | refine x_bin rfl rfl ?_
   refine x_rnd (k + 1) ⟨lt_len hp, none_next hp hi (by assumption)⟩ (by (try dsimp only); have := lt_len hp; omega) rfl (x_ent (by first | rfl | (simp only [Tr.get]; simp; done)) trivial) rfl
 all_goals (refine x_ret ?_; simp only [fitsL, fits, C.asD, and_true] <;> (first | (rw [indexS_hit hp hi (by assumption)]) | (rw [indexS_miss (past_end (by assumption)) hi])))

set_option maxHeartbeats 1000000 in
theorem refSchemaSame_any (l m : List FieldD) (hl : okL l) : Contract Try.prog 37 [.row (l.map fD), .row (m.map fD)] [.d (.sc (.bool (decide (l = m))))] := by
 refine T.fn [] Try.func37 ?_
 have hll := hl.1
 have hml : m.length ≤ 1000 ∨ ¬ m.length ≤ 1000 := by omega
 refine x_len ?_
 refine x_len ?_
 refine br (fun hc1 => ?y1) (fun hc1 => ?n1)
 case' n1 =>
  have hlen : l.length = m.length := by omega
  refine xloopR (fb := []) T.ok (Nat.le_of_ble_eq_true rfl) [0, 1] (fun (k : Nat) => [(5, .c (.d (.sc (.int .i64 (k : Nat)))))]) (fun k => k ≤ l.length ∧ l.take k = m.take k) (fun k => l.length - k) 0 ⟨Nat.zero_le _, rfl⟩ (x_ent (by first | rfl | (simp only [Tr.get]; simp; done)) trivial) ?_
  rintro k ⟨hk, hi⟩
  refine x_len ?_
  refine br (fun hc2 => ?y2) (fun hc2 => ?n2)
  case' y2 =>
   obtain ⟨p, hp⟩ := elem_at hc2
   have hkl := lt_len hp
   obtain ⟨q, hq⟩ := elem_too hp hlen
   have hok := hl.at hp
   refine And.intro ⟨T.mixed, by decide +kernel⟩ ?_
   first | refine x_ix (by first | exact mapAt hp | exact mapAt hq) ?_ | refine x_ixI (by first | exact mapAt hp | exact mapAt hq) ?_
   first | refine x_ix (by first | exact mapAt hp | exact mapAt hq) ?_ | refine x_ixI (by first | exact mapAt hp | exact mapAt hq) ?_
   refine x_call T.en_60 (refFieldSame_any p q hok) ?_
   refine br (fun hc3 => ?y3) (fun hc3 => ?n3)
   case' n3 =>
    first | refine x_inc ?_ | refine x_add ?_ | refine x_bin rfl rfl ?_
    refine x_rnd (k + 1) ⟨lt_len hp, take_eq_next hp hq hi (by simp_all)⟩ (by (try dsimp only); have := lt_len hp; omega) rfl (x_ent (by first | rfl | (simp only [Tr.get]; simp; done)) trivial) rfl
 all_goals (refine x_ret ?_; simp only [fitsL, fits, C.asD, and_true] <;> (refine scb ?_; first | exact (decide_eq_false (fun e => by simp_all)).symm | exact (decide_eq_false (ne_at hp hq (fun e => by simp_all))).symm | exact (decide_eq_true (take_eq_end hlen (past_end (by assumption)) hi)).symm))
end Go.Vm
end
section
namespace Go.Vm
open Go.RowKit Go.Proofs
set_option linter.unusedVariables false
set_option linter.unusedSimpArgs false
set_option maxRecDepth 10000

set_option maxHeartbeats 1000000 in
theorem schemaOwn_any (l : List FieldD) (ho : okL l) : Contract Try.prog 97 [.row (l.map fD)] [.d (.row (l.map fD))] := by
 refine T.fn [] Try.func97 ?_
 have hl0 := ho.1
 refine x_len ?_
 refine x_make ?_
 refine x_len ?_
 refine xloopR (fb := []) T.ok (Nat.le_of_ble_eq_true rfl) [9, 10] (fun (s : Nat × Nat × List FieldD) => [(11, .c (.d (.sc (.int .i64 ((s.1 : Nat) : Int))))), (3, .c (.own 8 26 (s.2.2.map fD)))]) (fun s => s.1 ≤ l.length ∧ s.2.2 = l.take s.1 ∧ True) (fun s => l.length - s.1) (0, 8, []) ⟨Nat.zero_le _, rfl, trivial⟩ (x_ent (by first | rfl | (simp only [Tr.get]; simp; done)) (x_ent (by first | rfl | (simp only [Tr.get]; simp; done)) trivial)) ?_
 rintro s ⟨hk, hA, hi⟩
 have hAl : s.2.2.length ≤ 1000 := by rw [hA]; exact length_take_le ho.1
 refine br (fun hc1 => ?y1) (fun hc1 => ?n1)
 case' y1 =>
  obtain ⟨p, hp⟩ := elem_at hc1
  have hkl := lt_len hp
  have hok := ho.at hp
  first | refine x_ix (by exact mapAt hp) ?_ | refine x_ixI (by exact mapAt hp) ?_
  refine x_call T.en_64 (fieldOwn_any _ (by assumption)) ?_
  first | refine x_app ?_ (by first | exact strs_wide | exact fD_wide | (simp [D.cells])) (hz := by first | exact snoc_map | exact one_map | rfl) | refine x_appN ?_ (by first | exact strs_wide | exact fD_wide | (simp [D.cells]))
  first | refine x_bin (pr_add1 (by omega)) rfl ?_ | refine x_inc ?_ | refine x_add ?_ | refine x_bin rfl rfl ?_
  refine x_rnd (s.1 + 1, 0, s.2.2 ++ [p]) ⟨lt_len hp, by rw [hA]; exact (take_next hp).symm, trivial⟩ (by (try dsimp only); have := lt_len hp; (try dsimp only); omega) rfl (x_ent (by first | rfl | (simp only [Tr.get]; simp; done)) (x_ent (by first | rfl | (simp only [Tr.get]; simp; done)) trivial)) rfl
 all_goals (refine x_ret ?_; simp only [fitsL, fits, C.asD, and_true] <;> (refine row_inj ?_; rw [hA, List.take_of_length_le (past_end (by assumption))]))

set_option maxHeartbeats 1000000 in
theorem schemaFind_any (l : List FieldD) (r : RefD) (ho : okL l) : Contract Try.prog 41 [.row (l.map fD), rD r] [.d (fD (findS l r).1), .d (.sc (.int .i64 (findS l r).2))] := by
 refine T.fn [] Try.func41 ?_
 refine x_call T.en_102 (schemaIndex_any _ _ (by first | assumption | exact ho.1)) ?_
 refine br (fun hc1 => ?y1) (fun hc1 => ?n1)
 case' y1 =>
  have hy := hc1
 case' n1 =>
  have hn := hc1
  have hib := index_bound (l := l) (r := r)
  have hi0 : 0 ≤ indexS l r := by omega
  first | refine x_ix (by exact fieldAt_ix (by assumption)) ?_ | refine x_ixI (by exact fieldAt_ix (by assumption)) ?_
  refine x_call T.en_64 (fieldOwn_any (fieldAt l r) (fieldAt_ok ho hn)) ?_
 all_goals (refine x_ret ?_; simp only [fitsL, fits, C.asD, and_true] <;> (first | (rw [find_no hy]; exact ⟨rfl, rfl⟩) | (rw [find_yes hn]; exact ⟨rfl, rfl⟩)))

set_option maxHeartbeats 1000000 in
theorem schemaWithout_any (l : List FieldD) (r : RefD) (ho : okL l) : Contract Try.prog 100 [.row (l.map fD), rD r] [.d (.row ((withoutS l r).1.map fD)), .d (.sc (.int .i64 (withoutS l r).2))] := by
 refine T.fn [] Try.func100 ?_
 have hl0 := ho.1
 refine x_call T.en_98 (schemaRight_any _ (by assumption)) ?_
 refine br (fun hc1 => ?y1) (fun hc1 => ?n1)
 case' y1 =>
  have hr0 : rightS l = false := by simpa using hc1
 case' n1 =>
  have hr : rightS l = true := by simpa using hc1
  refine x_call T.en_102 (schemaIndex_any _ _ (by first | assumption | exact ho.1)) ?_
  refine br (fun hc2 => ?y2) (fun hc2 => ?n2)
  case' y2 =>
   have hy := hc2
  case' n2 =>
   have hn := hc2
   have hib := index_bound (l := l) (r := r)
   refine x_len ?_
   first | refine x_bin (pr_add1 (by omega)) rfl ?_ | refine x_bin (pr_sub1 (by omega) (by omega)) rfl ?_ | refine x_sub ?_ | refine x_bin rfl rfl ?_
   refine x_make ?_
   refine x_len ?_
   refine xloopR (fb := []) T.ok (Nat.le_of_ble_eq_true rfl) [6, 22, 23] (fun (s : Nat × Nat × List FieldD) => [(24, .c (.d (.sc (.int .i64 ((s.1 : Nat) : Int))))), (7, .c (.own 21 26 (s.2.2.map fD)))]) (fun s => s.1 ≤ l.length ∧ s.2.2 = delF (l.take s.1) r ∧ True) (fun s => l.length - s.1) (0, 21, []) ⟨Nat.zero_le _, rfl, trivial⟩ (x_ent (by first | rfl | (simp only [Tr.get]; simp; done)) (x_ent (by first | rfl | (simp only [Tr.get]; simp; done)) trivial)) ?_
   rintro s ⟨hk, hA, hi⟩
   have hAl : s.2.2.length ≤ 1000 := by rw [hA]; exact length_del_le ho.1
   refine br (fun hc3 => ?y3) (fun hc3 => ?n3)
   case' y3 =>
    obtain ⟨p, hp⟩ := elem_at hc3
    have hkl := lt_len hp
    have hok := ho.at hp
    first | refine x_ix (by exact mapAt hp) ?_ | refine x_ixI (by exact mapAt hp) ?_
    refine br (fun hc4 => ?y4) (fun hc4 => ?n4)
    case' y4 =>
     have hd : ¬ p.at_ = r := fun e => hc4 ((gone_iff hr hn hp).2 e)
     refine x_call T.en_64 (fieldOwn_any _ (by assumption)) ?_
     first | refine x_app ?_ (by first | exact strs_wide | exact fD_wide | (simp [D.cells])) (hz := by first | exact snoc_map | exact one_map | rfl) | refine x_appN ?_ (by first | exact strs_wide | exact fD_wide | (simp [D.cells]))
     first | refine x_bin (pr_add1 (by omega)) rfl ?_ | refine x_bin (pr_sub1 (by omega) (by omega)) rfl ?_ | refine x_inc ?_ | refine x_add ?_ | refine x_bin rfl rfl ?_
     refine x_rnd (s.1 + 1, 0, s.2.2 ++ [p]) ⟨lt_len hp, by rw [hA, filter_next hp, if_neg hd], trivial⟩ (by (try dsimp only); have := lt_len hp; (try dsimp only); omega) rfl (x_ent (by first | rfl | (simp only [Tr.get]; simp; done)) (x_ent (by first | rfl | (simp only [Tr.get]; simp; done)) trivial)) rfl
    case' n4 =>
     have hd : p.at_ = r := (gone_iff hr hn hp).1 hc4
     first | refine x_bin (pr_add1 (by omega)) rfl ?_ | refine x_bin (pr_sub1 (by omega) (by omega)) rfl ?_ | refine x_inc ?_ | refine x_add ?_ | refine x_bin rfl rfl ?_
     refine x_rnd (s.1 + 1, s.2.1, s.2.2) ⟨lt_len hp, by rw [hA, filter_next hp, if_pos hd, List.append_nil], trivial⟩ (by (try dsimp only); have := lt_len hp; (try dsimp only); omega) rfl (x_ent (by first | rfl | (simp only [Tr.get]; simp; done)) (x_ent (by first | rfl | (simp only [Tr.get]; simp; done)) trivial)) rfl
 all_goals (refine x_ret ?_; simp only [fitsL, fits, C.asD, and_true] <;> (first | (rw [show withoutS l r = ([], 5) from if_pos hr0]; exact ⟨rfl, rfl⟩) | (rw [show withoutS l r = ([], 6) by unfold withoutS; rw [hr, if_neg (by simp), if_pos hy]]; exact ⟨rfl, rfl⟩) | (rw [show withoutS l r = (delF l r, 0) by unfold withoutS; rw [hr, if_neg (by simp), if_neg hn]]; exact ⟨row_inj (by rw [hA, List.take_of_length_le (past_end (by assumption))]), rfl⟩)))
end Go.Vm
end
section
namespace Go.Vm
open Go.RowKit Go.Proofs
set_option linter.unusedVariables false
set_option linter.unusedSimpArgs false
set_option maxRecDepth 10000

theorem ins_next {l : List FieldD} {f p : FieldD} {i k : Nat} (h : i ≤ k) (hp : l[k]? = some p) : (l.take i ++ f :: (l.drop i).take (k - i)) ++ [p] = l.take i ++ f :: (l.drop i).take (k + 1 - i) := by
  have : (l.drop i)[k - i]? = some p := by rw [List.getElem?_drop, show i + (k - i) = k by omega]; exact hp
  rw [show k + 1 - i = (k - i) + 1 by omega, take_next this]; simp
theorem ins_end {l : List FieldD} {f : FieldD} {i k : Nat} (hk : l.length ≤ k) : l.take i ++ f :: (l.drop i).take (k - i) = l.take i ++ f :: l.drop i := by
  rw [List.take_of_length_le (show (l.drop i).length ≤ k - i by rw [List.length_drop]; omega)]
theorem ins_len {l : List FieldD} {f : FieldD} {i m n : Nat} (h : l.length ≤ n) : (l.take i ++ f :: (l.drop i).take m).length ≤ n + 1 := by
  rw [List.length_append, List.length_cons, List.length_take, List.length_take, List.length_drop]; omega
theorem with_5 {l : List FieldD} {f : FieldD} (h : (rightS l && rightF f) = false) : withS l f = ([], 5) := if_pos h
theorem with_7 {l : List FieldD} {f : FieldD} (h : rightS l = true ∧ rightF f = true) (h1 : 0 ≤ indexS l f.at_) : withS l f = ([], 7) := by unfold withS; rw [h.1, h.2, if_neg (by simp), if_pos h1]
theorem with_14 {l : List FieldD} {f : FieldD} (h : rightS l = true ∧ rightF f = true) (h1 : ¬ 0 ≤ indexS l f.at_) (h2 : 16 ≤ l.length) : withS l f = ([], 14) := by unfold withS; rw [h.1, h.2, if_neg (by simp), if_neg h1, if_pos h2]
theorem with_0 {l : List FieldD} {f : FieldD} (h : rightS l = true ∧ rightF f = true) (h1 : ¬ 0 ≤ indexS l f.at_) (h2 : l.length < 16) : withS l f = (insF l f, 0) := by unfold withS; rw [h.1, h.2, if_neg (by simp), if_neg h1, if_neg (by omega)]

set_option maxHeartbeats 1000000 in
theorem schemaWith_any (l : List FieldD) (f : FieldD) (ho : okL l) (hf : f.cases.length ≤ 1000000) : Contract Try.prog 101 [.row (l.map fD), fD f] [.d (.row ((withS l f).1.map fD)), .d (.sc (.int .i64 (withS l f).2))] := by
 refine T.fn [] Try.func101 ?_
 have hl0 := ho.1
 refine xscopeR (fb := []) T.ok (Nat.le_of_ble_eq_true rfl) [0, 1] (Sum.elim (fun (s : Nat × Nat × List FieldD) => 0) (fun (s : Nat × Nat × List FieldD) => 1)) (fun l => match Nat.beq l 0 with | true => [0, 3] | false => [0]) (Sum.elim (fun (s : Nat × Nat × List FieldD) => [(7, .c (.d (.sc (.int .i64 ((s.1 : Nat) : Int))))), (6, .c (.own 27 26 (s.2.2.map fD)))]) (fun (s : Nat × Nat × List FieldD) => [(7, .c (.d (.sc (.int .i64 ((s.1 : Nat) : Int))))), (6, .c (.own 27 26 (s.2.2.map fD)))])) (Sum.elim (fun (s : Nat × Nat × List FieldD) => s.1 ≤ l.length ∧ s.2.2 = l.take s.1 ∧ (∀ (j : Nat) (q : FieldD), j < s.1 → l[j]? = some q → lessB q.at_ f.at_ = true) ∧ (rightS l = true ∧ rightF f = true) ∧ ¬ 0 ≤ indexS l f.at_ ∧ l.length < 16) (fun (s : Nat × Nat × List FieldD) => s.1 ≤ l.length ∧ (∃ i, i ≤ s.1 ∧ s.2.2 = l.take i ++ f :: (l.drop i).take (s.1 - i) ∧ insF l f = l.take i ++ f :: l.drop i) ∧ (rightS l = true ∧ rightF f = true) ∧ ¬ 0 ≤ indexS l f.at_ ∧ l.length < 16)) (Sum.elim (fun (s : Nat × Nat × List FieldD) => l.length - s.1 + 1) (fun (s : Nat × Nat × List FieldD) => l.length - s.1)) (fun z _ => by rcases z with _ | _ <;> rfl) (by repeat (first | exact trivial | refine And.intro (fun _ => rfl) ?_)) (fun z _ => by rcases z with _ | _ <;> (repeat (first | exact trivial | refine And.intro (fun _ => rfl) ?_))) ?p1 ?f1
 case' p1 =>
  rintro (s | s)
  case' inl =>
   rintro ⟨hk, hA, hlt, hg⟩
   have hg3 := hg.2.2
   have hAl : s.2.2.length ≤ 16 := by rw [hA]; exact length_take_le (by omega)
   refine And.intro ⟨T.mixed, by decide +kernel⟩ ?_
   refine x_len ?_
   refine br (fun hg1 => ?y1) (fun hg1 => ?n1)
   case' y1 =>
    obtain ⟨p, hp⟩ := elem_at hg1
    have hkl := lt_len hp
    have hok := ho.at hp
    first | refine x_ix (by exact mapAt hp) ?_ | refine x_ixI (by exact mapAt hp) ?_
    refine x_call T.en_124 (less_any _ _) ?_
    refine br (fun hc2 => ?y2) (fun hc2 => ?n2)
    case' y2 =>
     first | refine x_ix (by exact mapAt hp) ?_ | refine x_ixI (by exact mapAt hp) ?_
     refine x_call T.en_64 (fieldOwn_any _ (by assumption)) ?_
     first | refine x_app ?_ (by first | exact strs_wide | exact fD_wide | (simp [D.cells])) (hz := by first | exact snoc_map | exact one_map | rfl) | refine x_appN ?_ (by first | exact strs_wide | exact fD_wide | (simp [D.cells]))
     first | refine x_bin (pr_add1 (by omega)) rfl ?_ | refine x_inc ?_ | refine x_add ?_ | refine x_bin rfl rfl ?_
     refine x_jmp (Sum.inl (s.1 + 1, 0, s.2.2 ++ [p])) ⟨lt_len hp, by rw [hA]; exact (take_next hp).symm, (fun j q hj hq => (Nat.lt_succ_iff_lt_or_eq.1 hj).elim (fun h => hlt j q h hq) (fun e => by subst e; rw [hp] at hq; injection hq with hq; subst hq; assumption)), hg⟩ rfl (by (try dsimp only [jlt, Sum.elim_inl, Sum.elim_inr]); have := lt_len hp; (try dsimp only); omega) rfl (x_ent (by first | rfl | (simp only [Tr.get]; simp; done)) (x_ent (by first | rfl | (simp only [Tr.get]; simp; done)) trivial)) rfl
    case' n2 =>
     refine x_call T.en_64 (fieldOwn_any _ (by assumption)) ?_
     first | refine x_app ?_ (by first | exact strs_wide | exact fD_wide | (simp [D.cells])) (hz := by first | exact snoc_map | exact one_map | rfl) | refine x_appN ?_ (by first | exact strs_wide | exact fD_wide | (simp [D.cells]))
     refine x_jmp (Sum.inr (s.1, 0, s.2.2 ++ [f])) ⟨hk, ⟨s.1, Nat.le_refl _, by rw [hA]; simp, (by first | exact ins_at hlt (.inl (past_end (by assumption))) | exact ins_at hlt (.inr ⟨p, hp, by simp_all⟩))⟩, hg⟩ rfl (by (try dsimp only [jlt, Sum.elim_inl, Sum.elim_inr]); (try dsimp only); omega) rfl (x_ent (by first | rfl | (simp only [Tr.get]; simp; done)) (x_ent (by first | rfl | (simp only [Tr.get]; simp; done)) trivial)) rfl
   case' n1 =>
    refine brF ?_
    refine x_call T.en_64 (fieldOwn_any _ (by assumption)) ?_
    first | refine x_app ?_ (by first | exact strs_wide | exact fD_wide | (simp [D.cells])) (hz := by first | exact snoc_map | exact one_map | rfl) | refine x_appN ?_ (by first | exact strs_wide | exact fD_wide | (simp [D.cells]))
    refine x_jmp (Sum.inr (s.1, 0, s.2.2 ++ [f])) ⟨hk, ⟨s.1, Nat.le_refl _, by rw [hA]; simp, (by first | exact ins_at hlt (.inl (past_end (by assumption))) | exact ins_at hlt (.inr ⟨p, hp, by simp_all⟩))⟩, hg⟩ rfl (by (try dsimp only [jlt, Sum.elim_inl, Sum.elim_inr]); (try dsimp only); omega) rfl (x_ent (by first | rfl | (simp only [Tr.get]; simp; done)) (x_ent (by first | rfl | (simp only [Tr.get]; simp; done)) trivial)) rfl
  case' inr =>
   rintro ⟨hk, ⟨i, hik, hA, hins⟩, hg⟩
   have hg3 := hg.2.2
   have hAl : s.2.2.length ≤ 17 := by rw [hA]; exact ins_len (n := 16) (by omega)
   refine x_len ?_
   refine br (fun hc4 => ?y4) (fun hc4 => ?n4)
   case' y4 =>
    obtain ⟨p, hp⟩ := elem_at hc4
    have hkl := lt_len hp
    have hok := ho.at hp
    first | refine x_ix (by exact mapAt hp) ?_ | refine x_ixI (by exact mapAt hp) ?_
    refine x_call T.en_64 (fieldOwn_any _ (by assumption)) ?_
    first | refine x_app ?_ (by first | exact strs_wide | exact fD_wide | (simp [D.cells])) (hz := by first | exact snoc_map | exact one_map | rfl) | refine x_appN ?_ (by first | exact strs_wide | exact fD_wide | (simp [D.cells]))
    first | refine x_bin (pr_add1 (by omega)) rfl ?_ | refine x_inc ?_ | refine x_add ?_ | refine x_bin rfl rfl ?_
    refine x_jmp (Sum.inr (s.1 + 1, 0, s.2.2 ++ [p])) ⟨lt_len hp, ⟨i, by (try dsimp only); omega, by rw [hA]; exact ins_next hik hp, hins⟩, hg⟩ rfl (by (try dsimp only [jlt, Sum.elim_inl, Sum.elim_inr]); have := lt_len hp; (try dsimp only); omega) rfl (x_ent (by first | rfl | (simp only [Tr.get]; simp; done)) (x_ent (by first | rfl | (simp only [Tr.get]; simp; done)) trivial)) rfl
 case' f1 =>
  skip
  refine x_call T.en_98 (schemaRight_any _ (by assumption)) ?_
  refine br (fun hg5 => ?y5) (fun hg5 => ?n5)
  case' y5 =>
   refine brT ?_
   have h5 : (rightS l && rightF f) = false := by simp_all
  case' n5 =>
   refine x_call T.en_52 (fieldRight_any _ (by assumption)) ?_
   refine br (fun hc7 => ?y7) (fun hc7 => ?n7)
   case' y7 =>
    have h5 : (rightS l && rightF f) = false := by simp_all
   case' n7 =>
    have hg1 : rightS l = true ∧ rightF f = true := by simp_all
    refine x_call T.en_102 (schemaIndex_any _ _ ho.1) ?_
    refine br (fun hc8 => ?y8) (fun hc8 => ?n8)
    case' y8 =>
     have h7 := hc8
    case' n8 =>
     have hg2 : ¬ 0 ≤ indexS l f.at_ := hc8
     refine x_len ?_
     refine br (fun hc9 => ?y9) (fun hc9 => ?n9)
     case' y9 =>
      have h14 : 16 ≤ l.length := by omega
     case' n9 =>
      have hg3 : l.length < 16 := by omega
      have hg : (rightS l = true ∧ rightF f = true) ∧ ¬ 0 ≤ indexS l f.at_ ∧ l.length < 16 := ⟨hg1, hg2, hg3⟩
      refine x_len ?_
      first | refine x_bin (pr_add1 (by omega)) rfl ?_ | refine x_inc ?_ | refine x_add ?_ | refine x_bin rfl rfl ?_
      refine x_make ?_
      refine x_jmp (Sum.inl (0, 27, [])) ⟨Nat.zero_le _, rfl, fun j q hj => absurd hj (Nat.not_lt_zero _), hg⟩ rfl trivial rfl (x_ent (by first | rfl | (simp only [Tr.get]; simp; done)) (x_ent (by first | rfl | (simp only [Tr.get]; simp; done)) trivial)) rfl
 all_goals (refine x_ret ?_; simp only [fitsL, fits, C.asD, and_true] <;> (first | (rw [with_5 h5]; exact ⟨rfl, rfl⟩) | (rw [with_7 hg1 h7]; exact ⟨rfl, rfl⟩) | (rw [with_14 hg1 hg2 h14]; exact ⟨rfl, rfl⟩) | (rw [with_0 hg.1 hg.2.1 hg.2.2]; exact ⟨row_inj (by rw [hA, ins_end (past_end (by assumption)), hins]), rfl⟩)))
end Go.Vm
end
section
namespace Go.Vm
open Go.RowKit Go.Proofs
set_option linter.unusedVariables false
set_option linter.unusedSimpArgs false
set_option maxRecDepth 10000

def heavyF (f : FieldD) : Bool := decide (200 < f.at_.group.size) || decide (200 < f.at_.name.size) || decide (200 < f.deft.size) || decide (20 < f.cases.length) || f.cases.any (fun c => decide (200 < c.size))
def heavyS (l : List FieldD) : Bool := decide (40 < l.length) || l.any heavyF
theorem any_hit {α : Type} {l : List α} {f : α → Bool} {k : Nat} {p : α} (hp : l[k]? = some p) (h : f p = true) : l.any f = true := List.any_eq_true.2 ⟨p, List.mem_of_getElem? hp, h⟩
theorem any_next {α : Type} {l : List α} {f : α → Bool} {k : Nat} {p : α} (hp : l[k]? = some p) (h : (l.take k).any f = false) (hn : f p = false) : (l.take (k + 1)).any f = false := by
  rw [take_next hp, List.any_append, h]; simp [hn]
theorem any_end {α : Type} {l : List α} {f : α → Bool} {k : Nat} (hk : l.length ≤ k) (h : (l.take k).any f = false) : l.any f = false := by rwa [List.take_of_length_le hk] at h
theorem heavyF_ok {f : FieldD} (h : heavyF f = false) : f.cases.length ≤ 20 := by
  unfold heavyF at h; simp only [Bool.or_eq_false_iff, decide_eq_false_iff_not] at h; omega
theorem heavyS_ok {l : List FieldD} (h : heavyS l = false) : okL l := by
  unfold heavyS at h; simp only [Bool.or_eq_false_iff, decide_eq_false_iff_not] at h
  refine ⟨by omega, fun f hf => ?_⟩
  have := heavyF_ok (List.any_eq_false.1 h.2 f hf |> fun k => by simpa using k)
  omega

set_option maxHeartbeats 1000000 in
theorem refFieldHeavy_any (f : FieldD) : Contract Try.prog 42 [fD f] [.d (.sc (.bool (heavyF f)))] := by
 refine T.fn [] Try.func42 ?_
 refine x_len ?_
 refine br (fun hg1 => ?y1) (fun hg1 => ?n1)
 case' y1 =>
  refine brT ?_
  refine brT ?_
  refine brT ?_
 case' n1 =>
  refine x_len ?_
  refine br (fun hg5 => ?y5) (fun hg5 => ?n5)
  case' y5 =>
   refine brT ?_
   refine brT ?_
  case' n5 =>
   refine x_len ?_
   refine br (fun hg8 => ?y8) (fun hg8 => ?n8)
   case' y8 =>
    refine brT ?_
   case' n8 =>
    refine x_len ?_
    refine br (fun hc10 => ?y10) (fun hc10 => ?n10)
    case' n10 =>
     have h20 : f.cases.length ≤ 20 := by omega
     refine xloopR (fb := []) T.ok (Nat.le_of_ble_eq_true rfl) [1] (fun (k : Nat) => [(3, .c (.d (.sc (.int .i64 (k : Nat)))))]) (fun k => k ≤ f.cases.length ∧ (f.cases.take k).any (fun c => decide (200 < c.size)) = false ∧ f.cases.length ≤ 20) (fun k => f.cases.length - k) 0 ⟨Nat.zero_le _, ⟨rfl, h20⟩⟩ (x_ent (by first | rfl | (simp only [Tr.get]; simp; done)) trivial) ?_
     rintro k ⟨hk, hi⟩
     refine x_len ?_
     refine br (fun hc11 => ?y11) (fun hc11 => ?n11)
     case' y11 =>
      obtain ⟨p, hp⟩ := elem_at hc11
      have hkl := lt_len hp
      first | refine x_ix (by exact mapAt hp) ?_ | refine x_ixI (by exact mapAt hp) ?_
      refine x_len ?_
      refine br (fun hc12 => ?y12) (fun hc12 => ?n12)
      case' n12 =>
       first | refine x_inc ?_ | refine x_add ?_ | refine x_bin rfl rfl ?_
       refine x_rnd (k + 1) ⟨lt_len hp, any_next hp hi.1 (by simp; omega), hi.2⟩ (by (try dsimp only); have := lt_len hp; omega) rfl (x_ent (by first | rfl | (simp only [Tr.get]; simp; done)) trivial) rfl
 all_goals (refine x_ret ?_; simp only [fitsL, fits, C.asD, and_true] <;> (refine scb ?_; first | (have hh := any_hit (f := fun c : ByteArray => decide (200 < c.size)) hp (by simp; omega); unfold heavyF; rw [hh, Bool.or_true]; done) | (have hh := any_end (past_end (by assumption)) hi.1; unfold heavyF; rw [hh, Bool.or_false]; symm; simp only [decide_eq_true_eq, decide_eq_false_iff_not, Bool.not_eq_true', Bool.not_eq_false', Bool.and_eq_true, Bool.or_eq_true, Bool.or_eq_false_iff, Bool.and_eq_false_iff, beq_iff_eq, beq_eq_false_iff_ne, ne_eq, Bool.not_true, Bool.not_false, Bool.false_eq_true, Bool.true_eq_false] at * <;> omega) | (symm; unfold heavyF; simp only [decide_eq_true_eq, decide_eq_false_iff_not, Bool.not_eq_true', Bool.not_eq_false', Bool.and_eq_true, Bool.or_eq_true, Bool.or_eq_false_iff, Bool.and_eq_false_iff, beq_iff_eq, beq_eq_false_iff_ne, ne_eq, Bool.not_true, Bool.not_false, Bool.false_eq_true, Bool.true_eq_false] at * <;> omega)))
end Go.Vm
end
section
namespace Go.Vm
set_option linter.unusedVariables false
set_option linter.unusedSimpArgs false

theorem length_delF {l : List FieldD} {r : RefD} (h : l.Pairwise fun a b => lessB a.at_ b.at_ = true) (h0 : ∃ f ∈ l, f.at_ = r) : (delF l r).length + 1 = l.length := by
  induction l with
  | nil => obtain ⟨f, hf, _⟩ := h0; cases hf
  | cons a l ih =>
    obtain ⟨h1, h2⟩ := List.pairwise_cons.1 h
    unfold delF at *
    by_cases e : a.at_ = r
    · have hall : l.filter (fun f => !decide (f.at_ = r)) = l := by
        rw [List.filter_eq_self]
        intro g hg
        have := h1 g hg
        simp only [Bool.not_eq_true', decide_eq_false_iff_not]
        intro e2
        rw [e, e2, lessB_irrefl] at this; cases this
      rw [List.filter_cons_of_neg (by simp [e]), hall, List.length_cons]
    · rw [List.filter_cons_of_pos (by simp [e]), List.length_cons, List.length_cons]
      have := ih h2 (by
        obtain ⟨f, hf, e2⟩ := h0
        rcases List.mem_cons.1 hf with rfl | hf
        · exact absurd e2 e
        · exact ⟨f, hf, e2⟩)
      omega
theorem mem_delF {l : List FieldD} {r : RefD} {f : FieldD} : f ∈ delF l r ↔ f ∈ l ∧ f.at_ ≠ r := by
  unfold delF; rw [List.mem_filter]; simp
theorem mem_delAll {rs : List RefD} : ∀ {l : List FieldD} {f : FieldD}, f ∈ delAll l rs ↔ f ∈ l ∧ f.at_ ∉ rs := by
  induction rs with
  | nil => intro l f; simp [delAll]
  | cons r rs ih =>
    intro l f
    have : delAll l (r :: rs) = delAll (delF l r) rs := rfl
    rw [this, ih, mem_delF, List.mem_cons]
    constructor
    · rintro ⟨⟨h1, h2⟩, h3⟩; exact ⟨h1, fun k => k.elim h2 h3⟩
    · rintro ⟨h1, h2⟩; exact ⟨⟨h1, fun k => h2 (.inl k)⟩, fun k => h2 (.inr k)⟩
theorem rightS_delAll {rs : List RefD} : ∀ {l : List FieldD}, rightS l = true → rightS (delAll l rs) = true := by
  induction rs with
  | nil => intro l h; exact h
  | cons r rs ih => intro l h; exact ih (rightS_del h r)
theorem length_delAll {rs : List RefD} : ∀ {l : List FieldD}, rightS l = true → rs.Nodup → (∀ r ∈ rs, 0 ≤ indexS l r) → (delAll l rs).length + rs.length = l.length := by
  induction rs with
  | nil => intro l _ _ _; rfl
  | cons r rs ih =>
    intro l h hnd hall
    obtain ⟨hr, hnd⟩ := List.nodup_cons.1 hnd
    have h1 := length_delF (rightS_iff.1 h).2.2 (index_pos.1 (hall r (List.mem_cons_self ..)))
    have h2 := ih (rightS_del h r) hnd (fun s hs => by
      obtain ⟨f, hf, e⟩ := index_pos.1 (hall s (List.mem_cons_of_mem _ hs))
      refine index_pos.2 ⟨f, mem_delF.2 ⟨hf, ?_⟩, e⟩
      rintro rfl
      exact hr (e ▸ hs))
    have : delAll l (r :: rs) = delAll (delF l r) rs := rfl
    rw [this, List.length_cons]; omega
theorem withS_ok {l : List FieldD} {f : FieldD} (h : (withS l f).2 = 0) : rightS l = true ∧ rightF f = true ∧ indexS l f.at_ < 0 ∧ l.length < 16 ∧ (withS l f).1 = insF l f := by
  unfold withS at *
  split at h
  · simp at h
  rename_i h1
  split at h
  · simp at h
  rename_i h2
  split at h
  · simp at h
  rename_i h3
  rw [if_neg h1, if_neg h2, if_neg h3]
  simp only [Bool.not_eq_false, Bool.and_eq_true] at h1
  exact ⟨h1.1, h1.2, by omega, by omega, rfl⟩
theorem withAll_ok : ∀ {fs l : List FieldD}, rightS l = true → (withAll l fs).2 = 0 → rightS (withAll l fs).1 = true ∧ (withAll l fs).1.length = l.length + fs.length ∧ ∀ g, g ∈ (withAll l fs).1 ↔ g ∈ fs ∨ g ∈ l
  | [], l, h, _ => ⟨h, rfl, fun g => by simp [withAll]⟩
  | f :: fs, l, h, h0 => by
    unfold withAll at *
    split at h0
    · rename_i hw
      rw [if_pos hw]
      obtain ⟨q1, q2, q3, q4, q5⟩ := withS_ok hw
      rw [q5] at h0 ⊢
      have hr := rightS_ins q1 q2 q4 (index_neg.1 q3)
      obtain ⟨k1, k2, k3⟩ := withAll_ok hr h0
      refine ⟨k1, by rw [k2, length_insF, List.length_cons]; omega, fun g => ?_⟩
      rw [k3, mem_insF, List.mem_cons]
      constructor
      · rintro (h | h | h) <;> simp [h]
      · rintro ((h | h) | h) <;> simp [h]
    · simp at h0
theorem news_comes {l : List FieldD} {x : LensD} {fs : List FieldD} (h : newsL l x = some fs) : fs.map (·.at_) = comesL x := by
  unfold newsL at h
  split at h
  · injection h with h; subst h; simp [comesL, *]
  split at h
  · split at h
    · injection h with h; subst h; simp [comesL, *]
    · cases h
  split at h
  · split at h
    · injection h with h; subst h; simp [comesL, *]
    · cases h
  split at h
  · split at h
    · injection h with h; subst h; simp [comesL, *]
    · cases h
  split at h
  · split at h
    · injection h with h; subst h; simp [comesL, *]
    · cases h
  split at h
  · split at h
    · injection h with h; subst h; simp [comesL, *]
    · cases h
  split at h
  · split at h
    · injection h with h; subst h; simp [comesL, *]
    · cases h
  · injection h with h; subst h
    cases hc : comesL x with
    | nil => rfl
    | cons c cs =>
      have : cs = [] := by
        unfold comesL at hc
        repeat (split at hc; · first | (injection hc with _ hc; exact hc.symm) | (simp_all))
        injection hc with _ hc; exact hc.symm
      subst this; rfl
theorem goes_nodup {x : LensD} (h : rightL x = true) : (goesL x).Nodup := by
  unfold goesL
  split
  · simp
  split
  · simp
  split
  · rename_i h2 h3 h9
    unfold rightL at h
    rw [if_neg (by omega), if_neg (show ¬ x.kind = 8 by omega), if_pos (show x.kind = 6 ∨ x.kind = 9 from .inr h9)] at h
    simp only [Bool.and_eq_true, Bool.not_eq_true', decide_eq_false_iff_not] at h
    have hne := h.2.2.1.1.2
    refine List.nodup_cons.2 ⟨?_, by simp⟩
    simp only [List.mem_singleton, named]
    intro e
    injection e with _ _ e
    exact hne e
  · simp
/-- From a right schema a lens that fits leads to a right one, and what it doesn't touch stays. -/
theorem keeps {l m : List FieldD} {x : LensD} (h : applyS l x = (m, 0)) :
    rightS l = true ∧ rightL x = true ∧ rightS m = true ∧ m.length + (goesL x).length = l.length + (comesL x).length ∧ (∀ c ∈ comesL x, 0 ≤ indexS m c) ∧ ∀ r, r ∉ goesL x → r ∉ comesL x → findS l r = findS m r := by
  unfold applyS at h
  split at h
  · simp at h
  rename_i h1
  split at h
  · simp at h
  rename_i h2
  split at h
  · simp at h
  rename_i fs hfs
  simp only [Bool.not_eq_false, Bool.and_eq_true] at h1
  simp only [Bool.not_eq_true, List.any_eq_false, decide_eq_true_eq] at h2
  obtain ⟨hl, hx⟩ := h1
  have hd := rightS_delAll (rs := goesL x) hl
  have hm0 : (withAll (delAll l (goesL x)) fs).2 = 0 := by rw [h]
  obtain ⟨k1, k2, k3⟩ := withAll_ok hd hm0
  rw [h] at k1 k2 k3
  have hlen := length_delAll hl (goes_nodup hx) (fun r hr => by have := h2 r hr; omega)
  have hc := news_comes hfs
  refine ⟨hl, hx, k1, ?_, fun c hcm => ?_, fun r hg hcm => find_same hl k1 fun f e => ?_⟩
  · rw [← hc, List.length_map]; simp only at k2; omega
  · rw [← hc] at hcm
    obtain ⟨f, hf, rfl⟩ := List.mem_map.1 hcm
    exact index_pos.2 ⟨f, (k3 f).2 (.inl hf), rfl⟩
  · rw [k3, mem_delAll]
    constructor
    · intro hf; exact .inr ⟨hf, by rw [e]; exact hg⟩
    · rintro (hf | ⟨hf, _⟩)
      · exfalso
        apply hcm
        rw [← hc, ← e]
        exact List.mem_map.2 ⟨f, hf, rfl⟩
      · exact hf
theorem apply_err {l : List FieldD} {x : LensD} (h : (applyS l x).2 ≠ 0) : (applyS l x).1 = [] := by
  have key : ∀ fs l, (withAll l fs).2 ≠ 0 → (withAll l fs).1 = [] := by
    intro fs
    induction fs with
    | nil => intro l h; exact absurd rfl h
    | cons f fs ih =>
      intro l h
      unfold withAll at h ⊢
      split
      · rename_i hw; rw [if_pos hw] at h; exact ih _ h
      · rfl
  unfold applyS at *
  split
  · rfl
  split
  · rfl
  split
  · rfl
  rename_i h1 h2 _ fs hfs
  rw [if_neg h1, if_neg h2] at h
  simp only [hfs] at h
  exact key _ _ h
end Go.Vm
end
section
namespace Go.Vm
set_option linter.unusedVariables false
set_option linter.unusedSimpArgs false

/-- A lens that isn't long. -/
def okX (x : LensD) : Prop := x.field.cases.length ≤ 1000000 ∧ x.forth.length ≤ 1000 ∧ x.back.length ≤ 1000
def partsL (x : LensD) : LensD × Bool :=
  if x.kind = 1 ∨ x.kind = 5 then (⟨x.kind, x.at_, x.name, noB, 0, noField, [], []⟩, true)
  else if x.kind = 2 ∨ x.kind = 3 then (⟨x.kind, noRef, noB, noB, 0, x.field, [], []⟩, true)
  else if x.kind = 4 then (⟨x.kind, x.at_, noB, noB, 0, noField, [], []⟩, true)
  else if x.kind = 6 ∨ x.kind = 9 then (⟨x.kind, x.at_, x.name, x.other, x.factor, noField, [], []⟩, true)
  else if x.kind = 7 ∨ x.kind = 10 then (⟨x.kind, x.at_, noB, x.other, 0, noField, [], []⟩, true)
  else if x.kind = 8 then (⟨x.kind, x.at_, x.name, x.other, 0, noField, x.forth, x.back⟩, true)
  else (noLens, false)
def rightTb (x : LensD) : Bool := nameB x.name && rightT x.forth x.back && rightT x.back x.forth && decide (caseT x.forth x.name = (x.other, true)) && decide (caseT x.back x.other = (x.name, true))
def rightLp (x : LensD) : Bool :=
  if (partsL x).2 = false then false else if ¬ x = (partsL x).1 then false
  else if x.kind = 2 ∨ x.kind = 3 then rightF x.field
  else if placeB x.at_ = false then false
  else if x.kind = 1 then nameB x.name
  else if x.kind = 4 then !decide (x.at_.group = noB)
  else if x.kind = 5 then decide (x.at_.group = noB) && nameB x.name
  else if x.kind = 6 ∨ x.kind = 9 then nameB x.name && nameB x.other && !decide (x.name = x.other) && decide (2 ≤ x.factor) && decide (x.factor ≤ 1000)
  else if x.kind = 7 ∨ x.kind = 10 then decide (x.other.size ≤ 40)
  else rightTb x
def rightLq (b2 b1 : Bool) (x : LensD) : Bool :=
  if b2 = false then false else if b1 = false then false
  else if x.kind = 2 ∨ x.kind = 3 then rightF x.field
  else if placeB x.at_ = false then false
  else if x.kind = 1 then nameB x.name
  else if x.kind = 4 then !decide (x.at_.group = noB)
  else if x.kind = 5 then decide (x.at_.group = noB) && nameB x.name
  else if x.kind = 6 ∨ x.kind = 9 then nameB x.name && nameB x.other && !decide (x.name = x.other) && decide (2 ≤ x.factor) && decide (x.factor ≤ 1000)
  else if x.kind = 7 ∨ x.kind = 10 then decide (x.other.size ≤ 40)
  else rightTb x
theorem rightLp_q (x : LensD) : rightLp x = rightLq (partsL x).2 (decide (x = (partsL x).1)) x := by
  unfold rightLp rightLq
  by_cases h : x = (partsL x).1
  · rw [if_neg (not_not_intro h), decide_eq_true h, if_neg (show ¬ (true = false) by simp)]
  · rw [if_pos h, decide_eq_false h, if_pos (show false = false from rfl)]
theorem rightTb_eq (x : LensD) : rightTb x = (rightT x.forth x.back && rightT x.back x.forth && decide (caseT x.forth x.name = (x.other, true)) && decide (caseT x.back x.other = (x.name, true))) := by
  unfold rightTb
  by_cases h : rightT x.forth x.back = true
  · by_cases h2 : caseT x.forth x.name = (x.other, true)
    · rw [rightT_name h (by rw [h2])]; rfl
    · simp [h2]
  · simp [h]
theorem rightLp_eq (x : LensD) : rightLp x = rightL x := by
  have hp := rightTb_eq x
  obtain ⟨k, ⟨s, g, n⟩, nm, ot, fa, f, fo, ba⟩ := x
  unfold rightLp rightL partsL
  simp only at *
  rw [hp]
  by_cases h2 : k = 2
  · subst h2; simp [noRef]; by_cases hh : rightF f = true <;> simp [hh] <;> grind
  by_cases h3 : k = 3
  · subst h3; simp [noRef]; by_cases hh : rightF f = true <;> simp [hh] <;> grind
  by_cases h1 : k = 1
  · subst h1; simp [noRef]; grind
  by_cases h4 : k = 4
  · subst h4; simp [noRef]; grind
  by_cases h5 : k = 5
  · subst h5; simp [noRef]; grind
  by_cases h6 : k = 6
  · subst h6; simp [noRef]; grind
  by_cases h9 : k = 9
  · subst h9; simp [noRef]; grind
  by_cases h7 : k = 7
  · subst h7; simp [noRef]; grind
  by_cases h10 : k = 10
  · subst h10; simp [noRef]; grind
  by_cases h8 : k = 8
  · subst h8; simp [noRef]; grind
  · simp [h1, h2, h3, h4, h5, h6, h7, h8, h9, h10]

/-! ### Where a lens leads, as the program goes -/
def comeL (x : LensD) : RefD := match comesL x with
  | [] => noRef
  | c :: _ => c
def mergedS (l : List FieldD) (x : LensD) : List FieldD × Bool :=
  if ¬ (findS l (named x.at_ x.name)).2 = 0 ∨ ¬ (findS l (named x.at_ x.name)).1.kind = 1 then ([], false)
  else if ¬ (findS l (named x.at_ x.other)).2 = 0 ∨ ¬ (findS l (named x.at_ x.other)).1.kind = 1 ∨ ¬ (findS l (named x.at_ x.other)).1.worth = (findS l (named x.at_ x.name)).1.worth * x.factor then ([], false)
  else ([⟨x.at_, 1, noB, [], (findS l (named x.at_ x.name)).1.worth⟩], true)
def arrS (l : List FieldD) (x : LensD) : List FieldD × Bool :=
  if x.kind = 2 then ([x.field], true)
  else if x.kind = 3 then ([], decide ((findS l x.field.at_).2 = 0) && decide ((findS l x.field.at_).1 = x.field))
  else if x.kind = 9 then mergedS l x
  else if ¬ (findS l x.at_).2 = 0 then ([], false)
  else if x.kind = 6 then ([⟨named x.at_ x.name, 1, noB, [], (findS l x.at_).1.worth⟩, ⟨named x.at_ x.other, 1, noB, [], (findS l x.at_).1.worth * x.factor⟩], decide ((findS l x.at_).1.kind = 1))
  else if x.kind = 7 then ([⟨x.at_, 4, noB, [], 0⟩], decide ((findS l x.at_).1.kind = 2) && decide ((findS l x.at_).1.deft = x.other))
  else if x.kind = 10 then ([⟨x.at_, 2, x.other, [], 0⟩], decide ((findS l x.at_).1.kind = 4))
  else if x.kind = 8 then ([⟨x.at_, 3, x.other, froms x.back, 0⟩], decide ((findS l x.at_).1 = ⟨x.at_, 3, x.name, froms x.forth, 0⟩))
  else ([⟨comeL x, (findS l x.at_).1.kind, (findS l x.at_).1.deft, (findS l x.at_).1.cases, (findS l x.at_).1.worth⟩], true)
def delLoop : List FieldD → List RefD → List FieldD × Int
  | l, [] => (l, 0)
  | l, r :: rs => if (withoutS l r).2 = 0 then delLoop (withoutS l r).1 rs else ([], 16)
def applyP (l : List FieldD) (x : LensD) : List FieldD × Int :=
  if (rightS l && rightL x) = false then ([], 5)
  else if (arrS l x).2 = false then ([], 16)
  else if ¬ (delLoop l (goesL x)).2 = 0 then ([], 16)
  else withAll (delLoop l (goesL x)).1 (arrS l x).1
theorem without_ok {l : List FieldD} {r : RefD} (h : rightS l = true) (h0 : ¬ indexS l r < 0) : withoutS l r = (delF l r, 0) := by
  unfold withoutS; rw [h, if_neg (by simp), if_neg h0]
theorem delLoop_ok {rs : List RefD} : ∀ {l : List FieldD}, rightS l = true → rs.Nodup → (∀ r ∈ rs, ¬ indexS l r < 0) → delLoop l rs = (delAll l rs, 0) := by
  induction rs with
  | nil => intro l _ _ _; rfl
  | cons r rs ih =>
    intro l h hnd hall
    obtain ⟨hr, hnd⟩ := List.nodup_cons.1 hnd
    have e := without_ok h (hall r (List.mem_cons_self ..))
    unfold delLoop
    rw [e, if_pos rfl]
    refine ih (rightS_del h r) hnd (fun s hs => ?_)
    have h1 := hall s (List.mem_cons_of_mem _ hs)
    have h2 : 0 ≤ indexS l s := by omega
    obtain ⟨f, hf, e2⟩ := index_pos.1 h2
    have : 0 ≤ indexS (delF l r) s := index_pos.2 ⟨f, mem_delF.2 ⟨hf, by rw [e2]; rintro rfl; exact hr hs⟩, e2⟩
    show ¬ indexS (delF l r) s < 0
    omega
theorem find_neg {l : List FieldD} {r : RefD} (h : indexS l r < 0) : findS l r = (noField, 6) := by unfold findS; rw [if_pos h]
theorem find_pos {l : List FieldD} {r : RefD} (h : ¬ indexS l r < 0) : findS l r = (fieldAt l r, 0) := by unfold findS; rw [if_neg h]
theorem find_nn {l : List FieldD} {r : RefD} (h : 0 ≤ indexS l r) : findS l r = (fieldAt l r, 0) := find_pos (by omega)
theorem arr_missing {l : List FieldD} {x : LensD} (h : (goesL x).any (fun g => decide (indexS l g < 0)) = true) : (arrS l x).2 = false := by
  unfold goesL at h
  unfold arrS mergedS
  by_cases h2 : x.kind = 2
  · simp [h2] at h
  by_cases h3 : x.kind = 3
  · simp [h3] at h; simp [h3, find_neg h]
  by_cases h9 : x.kind = 9
  · simp [h9] at h
    simp only [h2, h3, h9, if_true, if_false]
    rcases h with h | h
    · simp [find_neg h]
    · by_cases h' : indexS l (named x.at_ x.name) < 0
      · simp [find_neg h']
      · by_cases hk : (fieldAt l (named x.at_ x.name)).kind = 1 <;> simp [find_neg h, find_pos h', hk]
  · simp [h2, h3, h9] at h; simp [h2, h3, h9, find_neg h]
theorem arr_news {l : List FieldD} {x : LensD} (h : ∀ g ∈ goesL x, ¬ indexS l g < 0) : match newsL l x with
    | none => (arrS l x).2 = false
    | some fs => arrS l x = (fs, true) := by
  unfold goesL at h
  unfold newsL arrS mergedS comeL
  by_cases h2 : x.kind = 2
  · simp [h2]
  by_cases h3 : x.kind = 3
  · simp [h3] at h; simp only [h2, h3, if_true, if_false, find_nn h]; by_cases e : fieldAt l x.field.at_ = x.field <;> simp [e]
  by_cases h9 : x.kind = 9
  · simp [h9] at h
    simp only [h2, h3, h9, if_true, if_false, find_nn h.1, find_nn h.2]
    by_cases e1 : (fieldAt l (named x.at_ x.name)).kind = 1 <;> by_cases e2 : (fieldAt l (named x.at_ x.other)).kind = 1 <;> by_cases e3 : (fieldAt l (named x.at_ x.other)).worth = (fieldAt l (named x.at_ x.name)).worth * x.factor <;> simp [e1, e2, e3]
  simp [h2, h3, h9] at h
  simp only [h2, h3, h9, if_false, find_nn h]
  by_cases h6 : x.kind = 6
  · by_cases e : (fieldAt l x.at_).kind = 1 <;> simp [h6, e]
  by_cases h7 : x.kind = 7
  · by_cases e : (fieldAt l x.at_).kind = 2 <;> by_cases e2 : (fieldAt l x.at_).deft = x.other <;> simp [h7, e, e2]
  by_cases h10 : x.kind = 10
  · by_cases e : (fieldAt l x.at_).kind = 4 <;> simp [h10, e]
  by_cases h8 : x.kind = 8
  · by_cases e : fieldAt l x.at_ = ⟨x.at_, 3, x.name, froms x.forth, 0⟩ <;> simp [h8, e]
  · simp only [h6, h7, h10, h8, if_false]
    have : comesL x ≠ [] := by unfold comesL; simp only [h2, h3, h6, if_false]; (repeat' split) <;> simp
    cases hc : comesL x with
    | nil => exact absurd hc this
    | cons c cs => simp
theorem applyP_eq (l : List FieldD) (x : LensD) : applyP l x = applyS l x := by
  unfold applyP applyS
  by_cases h : (rightS l && rightL x) = false
  · rw [if_pos h, if_pos h]
  rw [if_neg h, if_neg h]
  obtain ⟨hl, hx⟩ : rightS l = true ∧ rightL x = true := by simpa using h
  by_cases hg : (goesL x).any (fun g => decide (indexS l g < 0)) = true
  · rw [if_pos hg, if_pos (arr_missing hg)]
  · rw [if_neg hg]
    have hall : ∀ g ∈ goesL x, ¬ indexS l g < 0 := by simpa using hg
    rw [delLoop_ok hl (goes_nodup hx) hall]
    have h4 := arr_news hall
    cases hn : newsL l x with
    | none => rw [hn] at h4; rw [if_pos h4]
    | some fs => rw [hn] at h4; simp only at h4; rw [h4]; simp

/-! ### Where a lens leads, as the reference goes -/
def putS (l : List FieldD) (f : FieldD) (ok : Bool) : List FieldD × Bool := ((withS l f).1, ok && decide ((withS l f).2 = 0))
def refA (rest : List FieldD) (w v : FieldD) (x : LensD) : List FieldD × Bool :=
  if x.kind = 2 then putS rest x.field true
  else if x.kind = 3 then (rest, decide (w = x.field))
  else if x.kind = 6 then putS (putS rest ⟨named x.at_ x.name, 1, noB, [], w.worth⟩ (decide (w.kind = 1) && decide (w.worth * x.factor < 1048577))).1 ⟨named x.at_ x.other, 1, noB, [], w.worth * x.factor⟩ (putS rest ⟨named x.at_ x.name, 1, noB, [], w.worth⟩ (decide (w.kind = 1) && decide (w.worth * x.factor < 1048577))).2
  else if x.kind = 7 then putS rest ⟨x.at_, 4, noB, [], 0⟩ (decide (w.kind = 2) && decide (w.deft = x.other))
  else if x.kind = 8 then putS rest ⟨x.at_, 3, x.other, froms x.back, 0⟩ (decide (w.kind = 3) && decide (w.deft = x.name) && decide (w.cases = froms x.forth))
  else if x.kind = 9 then putS rest ⟨x.at_, 1, noB, [], w.worth⟩ (decide (w.kind = 1) && decide (v.kind = 1) && decide (v.worth = w.worth * x.factor))
  else if x.kind = 10 then putS rest ⟨x.at_, 2, x.other, [], 0⟩ (decide (w.kind = 4))
  else putS rest ⟨comeL x, w.kind, w.deft, w.cases, w.worth⟩ true
/-- The fields that go. -/
def wasL (l : List FieldD) (x : LensD) : List FieldD := (goesL x).map (fieldAt l)
def at0 (l : List FieldD) : FieldD := l.headD noField
def at1 (l : List FieldD) : FieldD := l.tail.headD noField
def applyR (l : List FieldD) (x : LensD) : List FieldD × Int :=
  if (rightS l && rightL x) = false then ([], 5)
  else if (goesL x).any (fun g => decide (indexS l g < 0)) then ([], 16)
  else if (refA (delAll l (goesL x)) (at0 (wasL l x)) (at1 (wasL l x)) x).2 = false then ([], 16)
  else ((refA (delAll l (goesL x)) (at0 (wasL l x)) (at1 (wasL l x)) x).1, 0)
theorem withAll_one {l : List FieldD} {f : FieldD} : withAll l [f] = if (withS l f).2 = 0 then ((withS l f).1, 0) else ([], 16) := by
  unfold withAll withAll; rfl
theorem put_one {l : List FieldD} {f : FieldD} {ok : Bool} : (if (putS l f ok).2 = false then (([] : List FieldD), (16 : Int)) else ((putS l f ok).1, 0)) = if ok = true then withAll l [f] else ([], 16) := by
  rw [withAll_one]
  unfold putS
  by_cases h : (withS l f).2 = 0 <;> cases ok <;> simp [h]
theorem with_big {l : List FieldD} {f : FieldD} (h : rightF f = false) : ¬ (withS l f).2 = 0 := by unfold withS; rw [h, Bool.and_false, if_pos rfl]; simp
theorem rightF_worth {f : FieldD} (h : rightF f = true) : 0 ≤ f.worth ∧ f.worth ≤ 1048576 := by
  unfold rightF at h
  simp only [Bool.and_eq_true] at h
  have h := h.2
  split at h
  · simp only [Bool.and_eq_true, decide_eq_true_eq] at h; omega
  split at h
  · simp only [Bool.and_eq_true, decide_eq_true_eq] at h; omega
  split at h
  · simp only [Bool.and_eq_true, decide_eq_true_eq] at h; omega
  split at h
  · simp only [Bool.and_eq_true, decide_eq_true_eq] at h; omega
  · cases h
theorem rightF_enum {f : FieldD} (h : rightF f = true) (hk : f.kind = 3) : f.worth = 0 := by
  unfold rightF at h
  rw [hk] at h
  simp only [Bool.and_eq_true, decide_eq_true_eq] at h
  simp at h
  exact h.2.2
theorem worth_big {r : RefD} {n : Int} (h : ¬ n < 1048577) : rightF ⟨r, 1, noB, [], n⟩ = false := by
  cases hc : rightF ⟨r, 1, noB, [], n⟩ with
  | false => rfl
  | true => have := rightF_worth hc; simp only at this; omega
theorem rightS_mem {l : List FieldD} {f : FieldD} (h : rightS l = true) (hf : f ∈ l) : rightF f = true := (rightS_iff.1 h).2.1 f hf
theorem applyR_eq (l : List FieldD) (x : LensD) : applyR l x = applyS l x := by
  unfold applyR applyS
  by_cases h : (rightS l && rightL x) = false
  · rw [if_pos h, if_pos h]
  rw [if_neg h, if_neg h]
  obtain ⟨hl, hx⟩ : rightS l = true ∧ rightL x = true := by simpa using h
  by_cases hg : (goesL x).any (fun g => decide (indexS l g < 0)) = true
  · rw [if_pos hg, if_pos hg]
  rw [if_neg hg, if_neg hg]
  have hall : ∀ g ∈ goesL x, ¬ indexS l g < 0 := by simpa using hg
  generalize hR : delAll l (goesL x) = R
  unfold refA newsL wasL
  by_cases h2 : x.kind = 2
  · simp only [h2, if_true]; rw [put_one]; simp
  simp only [h2, if_false]
  by_cases h3 : x.kind = 3
  · simp only [h3, if_true, goesL, List.map_cons, List.map_nil, at0, List.headD_cons]
    by_cases e : fieldAt l x.field.at_ = x.field <;> simp [e, withAll]
  simp only [h3, if_false]
  by_cases h9 : x.kind = 9
  · simp only [h9, if_true, show ¬ (9 : Int) = 6 by omega, show ¬ (9 : Int) = 7 by omega, show ¬ (9 : Int) = 8 by omega, show ¬ (9 : Int) = 2 by omega, show ¬ (9 : Int) = 3 by omega, if_false, goesL, List.map_cons, List.map_nil, at0, at1, List.headD_cons, List.tail_cons]
    rw [put_one]
    by_cases e1 : (fieldAt l (named x.at_ x.name)).kind = 1 <;> by_cases e2 : (fieldAt l (named x.at_ x.other)).kind = 1 <;> by_cases e3 : (fieldAt l (named x.at_ x.other)).worth = (fieldAt l (named x.at_ x.name)).worth * x.factor <;> simp [e1, e2, e3]
  simp only [h9, if_false, goesL, h2, h3, List.map_cons, List.map_nil, at0, List.headD_cons]
  have hat := hall x.at_ (by simp [goesL, h2, h3, h9])
  obtain ⟨hm, he⟩ := fieldAt_spec hat
  have hrf := rightS_mem hl hm
  by_cases h6 : x.kind = 6
  · simp only [h6, if_true]
    by_cases e : (fieldAt l x.at_).kind = 1
    · by_cases e2 : (fieldAt l x.at_).worth * x.factor < 1048577
      · simp only [e, e2, decide_true, Bool.and_true, if_true]
        unfold withAll
        rw [withAll_one]
        unfold putS
        by_cases q : (withS R ⟨named x.at_ x.name, 1, noB, [], (fieldAt l x.at_).worth⟩).2 = 0
        · by_cases q2 : (withS (withS R ⟨named x.at_ x.name, 1, noB, [], (fieldAt l x.at_).worth⟩).1 ⟨named x.at_ x.other, 1, noB, [], (fieldAt l x.at_).worth * x.factor⟩).2 = 0 <;> simp [q, q2]
        · simp [q]
      · simp only [e, e2, decide_true, decide_false, Bool.and_false, if_true]
        unfold withAll
        rw [withAll_one]
        unfold putS
        have q2 := with_big (l := (withS R ⟨named x.at_ x.name, 1, noB, [], (fieldAt l x.at_).worth⟩).1) (worth_big (r := named x.at_ x.other) e2)
        simp [q2]
    · simp only [e, decide_false, Bool.false_and, if_false]
      unfold putS; simp
  simp only [h6, if_false]
  by_cases h7 : x.kind = 7
  · simp only [h7, if_true]; rw [put_one]
    by_cases e : (fieldAt l x.at_).kind = 2 <;> by_cases e2 : (fieldAt l x.at_).deft = x.other <;> simp [e, e2]
  simp only [h7, if_false]
  by_cases h8 : x.kind = 8
  · simp only [h8, if_true, show ¬ (8 : Int) = 10 by omega, if_false]; rw [put_one]
    have key : (fieldAt l x.at_ = ⟨x.at_, 3, x.name, froms x.forth, 0⟩) ↔ ((decide ((fieldAt l x.at_).kind = 3) && decide ((fieldAt l x.at_).deft = x.name) && decide ((fieldAt l x.at_).cases = froms x.forth)) = true) := by
      constructor
      · intro k; rw [k]; simp
      · intro k
        simp only [Bool.and_eq_true, decide_eq_true_eq] at k
        have hw := rightF_enum hrf k.1.1
        generalize fieldAt l x.at_ = F at he k hw ⊢
        obtain ⟨a, b, c, d, e⟩ := F
        simp only at he k hw
        rw [he, k.1.1, k.1.2, k.2, hw]
    by_cases e : fieldAt l x.at_ = ⟨x.at_, 3, x.name, froms x.forth, 0⟩
    · rw [if_pos (key.1 e), if_pos e]
    · rw [if_neg (fun k => e (key.2 k)), if_neg e]
  simp only [h8, if_false]
  by_cases h10 : x.kind = 10
  · simp only [h10, if_true]; rw [put_one]
    by_cases e : (fieldAt l x.at_).kind = 4 <;> simp [e]
  · simp only [h10, if_false]; rw [put_one, if_pos rfl]
    have : comesL x ≠ [] := by unfold comesL; simp only [h2, h3, h6, if_false]; (repeat' split) <;> simp
    unfold comeL
    cases hc : comesL x with
    | nil => exact absurd hc this
    | cons c cs => rfl
end Go.Vm
end
