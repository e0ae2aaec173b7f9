/- Part 3 of what the proof of SketchTrees stands on: Xg7, Xg8, LnPlain, SkA, NamePlain, NameSign, NameQuoted, NameScan, NameSplit, NameLaw, NameRef, NameBegins, NameRefSplit, NameSame, NameOk, NameText, NameQuote, NameQuoteP, NameScans, NameJoin, NumPlain, NumLaw, Xg9, XgU, XgS, CdP, PnP. -/
import Derived.IntWalk
import Derived.Laws.StructEq
import Derived.Lib.Join
import Derived.Lib.SplitLaws
import Derived.Lib.CutLaws
import Derived.Laws.IdiomStrings
import Derived.Lib.IndexBytes
import Derived.Deep.QuietTactic
import Derived.BigQuiet
import Derived.Lib.SmallJoins
import Derived.StillTailTactics
import Derived.Outline
import Derived.Deep.RegionHeld3
import Derived.Deep.AppendLies
import GoSem.Op.String
import Derived.Test.YtmmffeldlhofiaaGreatDoorSketchTreesM2
set_option linter.unusedVariables false
set_option linter.unusedSimpArgs false
set_option maxHeartbeats 1000000
section
namespace Go.Vm
open Go.RowKit
def spineB (P : Program) (tt : TT) (N : Nat) (fb stop : List Nat) (a : Code) (b : XC) : XC := fun t h K => match a with
  | .label l => match memN l stop with
    | true => K (.goto l) t h
    | false => b t h K
  | a => xseq (xcode P tt N fb a) b t h K
def xspine (P : Program) (tt : TT) (N : Nat) (fb stop : List Nat) (c : Code) : XC := @Code.rec (fun _ => XC)
  (fun t h K => K .normal t h)
  (fun _ ops draw => xregion P tt N fb ops draw)
  (fun a _ _ b => spineB P tt N fb stop a b)
  (fun c a b _ _ => xcond c (xcode P tt N fb a) (xcode P tt N fb b))
  (fun id b _ => xblock id (xcode P tt N fb b))
  (fun b _ => xleaf P N (.loop b))
  (fun f ps a b _ _ => xleaf P N (.rangeFunc f ps a b))
  (fun id t h K => K (.exit id) t h)
  (fun b _ => xleaf P N (.scope b))
  (fun _ t h K => K .normal t h)
  (fun l t h K => K (.goto l) t h)
  (fun t h K => K .ret t h)
  (fun why => xleaf P N (.refuse why))
  c
def spineP (lb : Nat → Code) (stop : List Nat) : Code → Prop
  | .seq a b => match a with
    | .label l => (memN l stop = true → lb l = b) ∧ spineP lb stop b
    | _ => spineP lb stop b
  | _ => True
section
variable {P : Program} {tt : TT} {N : Nat} {fb stop : List Nat} {t : Tr} {h : Hp} {K : Exit → Tr → Hp → Prop}
theorem xspine_sound (htt : TTok P tt) (hNB : N ≤ BIG) {lb : Nat → Code} {Q : Exit → Env → Prop} (hQ : ∀ e t h, K e t h → Q e (envT t h)) (hfall : ∀ l t h, memN l stop = true → K (.goto l) t h → VC P N (lb l) (envT t h) Q) :
    ∀ {c : Code} {t : Tr} {h : Hp}, spineP lb stop c → xspine P tt N fb stop c t h K → VC P N c (envT t h) Q := by
  intro c
  have plain : ∀ {c : Code} {t : Tr} {h : Hp}, xcode P tt N fb c t h K → VC P N c (envT t h) Q := fun hk => vc_mono (xcode_sound htt hNB hk) (by rintro e env ⟨t', h', rfl, hk⟩; exact hQ e t' h' hk)
  induction c with
  | seq a b iha ihb =>
    intro t h hs hk
    have gen : spineP lb stop b → (xcode P tt N fb a t h fun e t h => match e with
      | .normal => xspine P tt N fb stop b t h K
      | .ret => K .ret t h
      | .exit id => K (.exit id) t h
      | .goto l => K (.goto l) t h
      | .panic c => K (.panic c) t h
      | .outgrown => K .outgrown t h) → VC P N (.seq a b) (envT t h) Q := by
      intro hs hk
      refine vc_then (vc_mono (xcode_sound htt hNB hk) ?_)
      rintro e env ⟨t', h', rfl, hk'⟩
      cases e with
      | normal => exact ihb hs hk'
      | _ => exact hQ _ t' h' hk'
    cases a with
    | label l =>
      obtain ⟨h1, h2⟩ := hs
      change (match memN l stop with | true => K (.goto l) t h | false => xspine P tt N fb stop b t h K) at hk
      refine vc_fall_label ?_
      split at hk
      · rename_i hm
        rw [← h1 hm]
        exact hfall l t h hm hk
      · exact ihb h2 hk
    | _ => exact gen hs hk
  | _ => intro t h hs hk; exact plain hk
def jlt : Option Nat → Nat → Prop
  | none, _ => True
  | some m, n => n < m
def jmpK {σ : Type} (lab : σ → Nat) (L : Nat → List Nat) (F : σ → List (Nat × S)) (G : σ → Hp) (I : σ → Prop) (μ : σ → Nat) (t0 : Tr) (m : Option Nat) (K : Exit → Tr → Hp → Prop) : Exit → Tr → Hp → Prop
  | .goto l, t, h => ∃ s, I s ∧ lab s = l ∧ jlt m (μ s) ∧ (L l).map t.get = (L l).map t0.get ∧ ent t (F s) ∧ G s = h
  | e, t, h => K e t h
theorem xscope (htt : TTok P tt) (hNB : N ≤ BIG) {c : Code} (stop : List Nat) {σ : Type} (lab : σ → Nat) (L : Nat → List Nat) (F : σ → List (Nat × S)) (G : σ → Hp) (I : σ → Prop) (μ : σ → Nat)
    (hfind : ∀ s, I s → findLabel c (lab s) = some (.seq .skip (labelBody c (lab s)))) (hsp : spineP (labelBody c) stop c) (hsp2 : ∀ s, I s → spineP (labelBody c) stop (labelBody c (lab s)))
    (pass : ∀ s, I s → startK (L (lab s)) (F s) t fun t1 => xspine P tt N fb stop (labelBody c (lab s)) t1 (G s) (jmpK lab L F G I μ t (some (μ s)) K))
    (first : xspine P tt N fb stop c t h (jmpK lab L F G I μ t none K)) : Leaf (VC P N (.scope c) (envT t h) fun e env => ∃ t h, env = envT t h ∧ K e t h) := by
  refine ⟨vc_goto_scope (fun l n env => ∃ s t', I s ∧ lab s = l ∧ n = μ s ∧ (L l).map t'.get = (L l).map t.get ∧ ent t' (F s) ∧ env = envT t' (G s)) ?_ ?_ ?_⟩
  · rintro l n env ⟨s, t', h1, rfl, _⟩; exact hfind s h1
  · rintro l n env ⟨s, t', h1, rfl, rfl, h2, h3, rfl⟩ ih
    obtain ⟨t1, h4, h5⟩ := start_sub (h := G s) (pass s h1) h2 h3
    refine vc_weaken h4 (xspine_sound htt hNB (lb := labelBody c) ?_ ?_ (hsp2 s h1) h5)
    · intro e t2 h2 hk
      cases e with
      | goto l =>
        obtain ⟨s', k1, k2, k3, k4, k5, k6⟩ := hk
        exact ⟨_, k3, s', t2, k1, k2, rfl, k4, k5, by rw [k6]⟩
      | _ => exact ⟨t2, h2, rfl, hk⟩
    · rintro l t2 h2 hm ⟨s', k1, k2, k3, k4, k5, k6⟩
      exact ih l (μ s') (envT t2 h2) k3 ⟨s', t2, k1, k2, rfl, k4, k5, by rw [k6]⟩
  · intro ih
    refine xspine_sound htt hNB (lb := labelBody c) ?_ ?_ hsp first
    · intro e t2 h2 hk
      cases e with
      | goto l =>
        obtain ⟨s', k1, k2, k3, k4, k5, k6⟩ := hk
        exact ⟨_, s', t2, k1, k2, rfl, k4, k5, by rw [k6]⟩
      | _ => exact ⟨t2, h2, rfl, hk⟩
    · rintro l t2 h2 hm ⟨s', k1, k2, k3, k4, k5, k6⟩
      exact ih l (μ s') (envT t2 h2) ⟨s', t2, k1, k2, rfl, k4, k5, by rw [k6]⟩
def argsT : Nat → List D → Tr → (Tr → Prop) → Prop
  | _, [], t, K => K t
  | k, d :: l, t, K => setK 20 t k (.c (.d d)) fun t => argsT (Nat.succ k) l t K
theorem argsT_spec : ∀ {l : List D} {k : Nat} {t : Tr} {K : Tr → Prop}, argsT k l t K → ∃ t', (∀ u, t'.get u = if u < k then t.get u else match l[u - k]? with | some d => .c (.d d) | none => t.get u) ∧ K t'
  | [], k, t, K, h => ⟨t, by simp, h⟩
  | d :: l, k, t, K, h => by
    obtain ⟨t1, h1, h2⟩ := setK_spec h
    obtain ⟨t2, h3, h4⟩ := argsT_spec h2
    refine ⟨t2, fun u => ?_, h4⟩
    rw [h3, h1]
    rcases Nat.lt_trichotomy u k with e | e | e
    · rw [if_pos (show u < Nat.succ k by omega), if_neg (by omega), if_pos e]
    · subst e; rw [if_pos (show u < Nat.succ u by omega), if_pos rfl, if_neg (by omega), Nat.sub_self]; rfl
    · rw [if_neg (show ¬ u < Nat.succ k by omega), if_neg (show ¬ u = k by omega), if_neg (show ¬ u < k by omega), show u - k = (u - Nat.succ k) + 1 by omega, List.getElem?_cons_succ]
def resvK (tt : TT) (t : Tr) : List ResultVar → (List C → Prop) → Prop
  | [], K => K []
  | .tmp u :: l, K => match Nat.ble 1000000 u, t.get u with
    | false, .c (.d x) => resvK tt t l fun cs => K (.d x :: cs)
    | false, .c (.own τ e xs) => resvK tt t l fun cs => K (.own τ e xs :: cs)
    | false, .c .nil => resvK tt t l fun cs => K (.nil :: cs)
    | _, _ => False
  | .cell u T :: l, K => match Nat.ble 1000000 u, t.get u, tt.get T with
    | false, .box cs, some i => partK (shI i) cs 0 fun d => resvK tt t l fun cs => K (.d d :: cs)
    | _, _, _ => False
theorem resvK_spec (htt : TTok P tt) : ∀ {l : List ResultVar} {K : List C → Prop}, resvK tt t l K → ∃ cs, vres P (envT t h) l = some cs ∧ K cs
  | [], K, hk => ⟨[], rfl, hk⟩
  | .tmp u :: l, K, hk => by
    simp only [resvK] at hk
    split at hk
    all_goals first | exact hk.elim | skip
    all_goals
      rename_i hb hs
      obtain ⟨cs, h1, h2⟩ := resvK_spec htt hk
      refine ⟨_ :: cs, ?_, h2⟩
      simp only [vres, vres1, envT_lt (ble_lt hb), hs, h1]
  | .cell u T :: l, K, hk => by
    simp only [resvK] at hk
    split at hk
    · rename_i cs i hb hs hi
      obtain ⟨d, h1, h2⟩ := partK_spec hk
      obtain ⟨cs', h3, h4⟩ := resvK_spec htt h2
      exact ⟨_, by simp only [vres, vres1, envT_lt (ble_lt hb), hs, shI_ok (htt _ _ hi), h1, h3, Option.map_some], h4⟩
    · exact hk.elim
def postL (h : Hp) : List (Nat × S) → Prop
  | [] => True
  | (n, s) :: l => (NAM ≤ n ∧ h n = s) ∧ postL h l
theorem postL_spec {post : List (Nat × S)} (h1 : postL h post) (h2 : ∀ p ∈ post, thing p.2 = true) : ∀ p ∈ post, envT t h p.1 = p.2 := by
  induction post with
  | nil => intro p hp; cases hp
  | cons q l ih =>
    obtain ⟨n, s⟩ := q
    intro p hp
    rcases List.mem_cons.1 hp with rfl | hp
    · have ht := h2 (n, s) (List.mem_cons_self ..)
      simp only [envT_at h1.1.1, h1.1.2]
      cases s <;> first | rfl | cases ht
    · exact ih h1.2 (fun q hq => h2 q (List.mem_cons_of_mem _ hq)) p hp
def finK (P : Program) (tt : TT) (rs : List ResultVar) (res : List C) (post : List (Nat × S)) : Exit → Tr → Hp → Prop
  | .normal, t, h => resvK tt t rs fun cs => Leaf (fitsL P cs res ∧ postL h post)
  | .ret, t, h => resvK tt t rs fun cs => Leaf (fitsL P cs res ∧ postL h post)
  | _, _, _ => False
def hOf : List (Nat × S) → Hp
  | [] => fun _ => .junk
  | (n, s) :: l => hset (hOf l) n s
theorem hOf_find : ∀ (l : List (Nat × S)) (u : Nat), hOf l u = match l.find? fun p => p.1 == u with | some p => p.2 | none => .junk
  | [], u => rfl
  | (n, s) :: l, u => by
    simp only [hOf, hset, List.find?_cons]
    by_cases e : u = n
    · subst e; simp
    · have : (n == u) = false := by simpa using fun h => e h.symm
      simp only [if_neg e, this]; exact hOf_find l u
theorem xfnH (htt : TTok P tt) {f : FuncId} {fn : Func} {c : Code} {args : List D} {res : List C} {pre post : List (Nat × S)} {rs : List ResultVar} (fb : List Nat) (hf : P.funcs[f]? = some fn) (hb : fn.body = some c) (hN : fn.ntmps = N) (hrs : fn.results.toList = rs) (hargs : args.length ≤ N) (hNB : N ≤ BIG)
    (hbig : ∀ p ∈ pre, NAM ≤ p.1) (hp : ∀ p ∈ pre, thing p.2 = true) (hq : ∀ p ∈ post, thing p.2 = true) (hk : argsT 0 args .leaf fun t => xcode P tt N fb c t (hOf pre) (finK P tt rs res post)) : ContractH P f args pre res post := by
  subst hrs
  refine contractH_of hf hb hN hargs hp hq ?_
  obtain ⟨t, h1, h2⟩ := argsT_spec hk
  have e : envH args pre = envT t (hOf pre) := by
    funext u
    unfold envH
    by_cases hu : u < NAM
    · rw [envT_lt hu, h1]
      simp only [Nat.not_lt_zero, if_false, Nat.sub_zero]
      cases args[u]? with
      | some d => rfl
      | none =>
        have : (pre.find? fun p => p.1 == u) = none := by
          rw [List.find?_eq_none]
          intro p hm
          have := hbig p hm
          simp only [beq_iff_eq]; omega
        simp only [this]; rfl
    · have hge : NAM ≤ u := by omega
      have hbn : BIG ≤ NAM := by decide
      rw [envT_at hge, hOf_find, List.getElem?_eq_none (by omega)]
      cases hfd : pre.find? fun p => p.1 == u with
      | none => rfl
      | some p =>
        have := hp p (List.mem_of_find?_eq_some hfd)
        simp only
        cases hs : p.2 <;> rw [hs] at this <;> first | rfl | cases this
  rw [e]
  refine vc_mono (xcode_sound htt hNB h2) ?_
  rintro e env ⟨t', h', rfl, hk⟩
  have key : (resvK tt t' fn.results.toList fun cs => Leaf (fitsL P cs res ∧ postL h' post)) → (∃ cs, vres P (envT t' h') fn.results.toList = some cs ∧ fitsL P cs res) ∧ ∀ p ∈ post, envT t' h' p.1 = p.2 := by
    intro hk
    obtain ⟨cs, h1, ⟨h2, h3⟩⟩ := resvK_spec (h := h') htt hk
    exact ⟨⟨cs, h1, h2⟩, postL_spec h3 hq⟩
  cases e with
  | normal => exact ⟨.inl rfl, key hk⟩
  | ret => exact ⟨.inr rfl, key hk⟩
  | _ => exact hk.elim
theorem xfn (htt : TTok P tt) {f : FuncId} {fn : Func} {c : Code} {args : List D} {res : List C} {rs : List ResultVar} (fb : List Nat) (hf : P.funcs[f]? = some fn) (hb : fn.body = some c) (hN : fn.ntmps = N) (hrs : fn.results.toList = rs) (hargs : args.length ≤ N) (hNB : N ≤ BIG)
    (hk : argsT 0 args .leaf fun t => xcode P tt N fb c t (fun _ => .junk) (finK P tt rs res [])) : Contract P f args res := by
  have hc := xfnH (pre := []) (post := []) htt fb hf hb hN hrs hargs hNB (by simp) (by simp) (by simp) hk
  intro ro w vs τ h1 h2 h3 h4
  refine (hc ro w vs τ h1 h2 h3 h4 (by simp)).mono ?_
  rintro e w' ⟨v, ro', rfl, hg, hs, _⟩
  exact ⟨v, ro', rfl, hg.plain, hs⟩
end
end Go.Vm
end
section
namespace Go.Vm
open Go.RowKit
section
variable {P : Program} {T : TypeId} {x y : Operand}
theorem x_bin {op : BinOp} {u v r : Value} {K : Value → Prop} (h : pureRun P (do eqGuard op T x y u v; binOp op T u v : Sem Value) = some r) (hp : plainV r = true) (hK : K r) : ∃ r, pureRun P (do eqGuard op T x y u v; binOp op T u v : Sem Value) = some r ∧ plainV r = true ∧ K r := ⟨r, h, hp, hK⟩
theorem x_add {k : IntKind} {a b c : Int} {K : Value → Prop} (hK : K (.int k c)) (h : k.wrap (a + b) = c := by first | exact IntWalk.i64_in _ (by first | omega | (simp only [List.length_map, List.length_append, List.length_nil, List.length_cons, List.length_take, List.length_drop]; omega)) | rfl) : ∃ r, pureRun P (do eqGuard .add T x y (.int k a) (.int k b); binOp .add T (.int k a) (.int k b) : Sem Value) = some r ∧ plainV r = true ∧ K r := ⟨_, pr_add h, rfl, hK⟩
theorem x_sub {k : IntKind} {a b c : Int} {K : Value → Prop} (hK : K (.int k c)) (h : k.wrap (a - b) = c := by first | exact IntWalk.i64_in _ (by first | omega | (simp only [List.length_map, List.length_append, List.length_nil, List.length_cons, List.length_take, List.length_drop]; omega)) | rfl) : ∃ r, pureRun P (do eqGuard .sub T x y (.int k a) (.int k b); binOp .sub T (.int k a) (.int k b) : Sem Value) = some r ∧ plainV r = true ∧ K r := ⟨_, pr_sub h, rfl, hK⟩
theorem x_mul {k : IntKind} {a b c : Int} {K : Value → Prop} (hK : K (.int k c)) (h : k.wrap (a * b) = c := by first | exact IntWalk.i64_in _ (by first | omega | (simp only [List.length_map, List.length_append, List.length_nil, List.length_cons, List.length_take, List.length_drop]; omega)) | rfl) : ∃ r, pureRun P (do eqGuard .mul T x y (.int k a) (.int k b); binOp .mul T (.int k a) (.int k b) : Sem Value) = some r ∧ plainV r = true ∧ K r := ⟨_, pr_mul h, rfl, hK⟩
theorem x_inc {n : Nat} {K : Value → Prop} (hK : K (.int .i64 ((n + 1 : Nat) : Int))) (h : n + 1 ≤ 9223372036854775807 := by first | omega | (simp only [List.length_map, List.length_append, List.length_nil, List.length_cons, List.length_take, List.length_drop]; omega)) : ∃ r, pureRun P (do eqGuard .add T x y (.int .i64 (n : Int)) (.int .i64 1); binOp .add T (.int .i64 (n : Int)) (.int .i64 1) : Sem Value) = some r ∧ plainV r = true ∧ K r := ⟨_, pr_add (IntWalk.i64_in _ (by omega)), rfl, hK⟩
theorem x_eqS {op : BinOp} {du dv : D} {u v r : Value} {K : Value → Prop} (hu : conc du = some u) (hv : conc dv = some v) (h : ∀ w, (do eqGuard op T x y u v; binOp op T u v : Sem Value).run P w = .ok r w) (hp : plainV r = true) (hK : K r) :
    ∃ u v r, (conc du = some u ∧ conc dv = some v) ∧ (∀ w, (do eqGuard op T x y u v; binOp op T u v : Sem Value).run P w = .ok r w) ∧ plainV r = true ∧ K r := ⟨u, v, r, ⟨hu, hv⟩, h, hp, hK⟩
end
theorem x_ix {xs : List D} {j : Nat} {y : D} {i : Int} {K : Nat → D → Prop} (hy : xs[j]? = some y) (hK : K j y) (hi : i = (j : Int) := by rfl) : ∃ (j : Nat) (y : D), i = (j : Int) ∧ xs[j]? = some y ∧ K j y := ⟨j, y, hi, hy, hK⟩
theorem x_ixI {xs : List D} {y : D} {i : Int} {K : Nat → D → Prop} (hy : xs[i.toNat]? = some y) (hK : K i.toNat y) (h0 : 0 ≤ i := by omega) : ∃ (j : Nat) (y : D), i = (j : Int) ∧ xs[j]? = some y ∧ K j y := ⟨i.toNat, y, (Int.toNat_of_nonneg h0).symm, hy, hK⟩
theorem x_ch {s : ByteArray} {j : Nat} {y : UInt8} {i : Int} {K : Nat → UInt8 → Prop} (hy : s[j]? = some y) (hK : K j y) (hi : i = (j : Int) := by rfl) : ∃ (j : Nat) (y : UInt8), i = (j : Int) ∧ s[j]? = some y ∧ K j y := ⟨j, y, hi, hy, hK⟩
theorem x_chI {s : ByteArray} {y : UInt8} {i : Int} {K : Nat → UInt8 → Prop} (hy : s[i.toNat]? = some y) (hK : K i.toNat y) (h0 : 0 ≤ i := by omega) : ∃ (j : Nat) (y : UInt8), i = (j : Int) ∧ s[j]? = some y ∧ K j y := ⟨i.toNat, y, (Int.toNat_of_nonneg h0).symm, hy, hK⟩
theorem x_bnd {i : Int} {j : Nat} {K : Nat → Prop} (hK : K j) (hi : i = (j : Int) := by rfl) : ∃ j : Nat, i = (j : Int) ∧ K j := ⟨j, hi, hK⟩
theorem x_bndI {i : Int} {K : Nat → Prop} (hK : K i.toNat) (h0 : 0 ≤ i := by omega) : ∃ j : Nat, i = (j : Int) ∧ K j := ⟨i.toNat, (Int.toNat_of_nonneg h0).symm, hK⟩
theorem x_len {α : Type} {a n : α} {K : α → Prop} (hK : K n) (h : a = n := by first | exact List.length_map .. | rfl) : ∃ n, a = n ∧ K n := ⟨n, h, hK⟩
theorem x_make {i : Int} {n b : Nat} {K : Nat → Prop} (hK : K n) (hi : i = (n : Int) := by rfl) (h1 : b * n ≤ 281474976710656 := by first | omega | (simp only [List.length_map, List.length_append, List.length_nil, List.length_cons, List.length_take, List.length_drop]; omega)) (h2 : n ≤ maxLen := by unfold maxLen; (first | omega | (simp only [List.length_map, List.length_append, List.length_nil, List.length_cons, List.length_take, List.length_drop]; omega))) : ∃ n : Nat, i = (n : Int) ∧ (b * n ≤ 281474976710656 ∧ n ≤ maxLen) ∧ K n := ⟨n, hi, ⟨h1, h2⟩, hK⟩
theorem x_row {xs ys : List D} {sz l hh : Nat} {K : List D → Prop} (hK : K ys) (hw : ∀ x ∈ xs, x.cells.length = sz) (h1 : l ≤ hh := by first | omega | (simp only [List.length_map, List.length_append, List.length_nil, List.length_cons, List.length_take, List.length_drop]; omega)) (h2 : hh ≤ xs.length := by first | omega | (simp only [List.length_map, List.length_append, List.length_nil, List.length_cons, List.length_take, List.length_drop]; omega)) (hy : (xs.take hh).drop l = ys := by rfl) : (∀ x ∈ xs, x.cells.length = sz) ∧ l ≤ hh ∧ hh ≤ xs.length ∧ ∃ ys, (xs.take hh).drop l = ys ∧ K ys := ⟨hw, h1, h2, ys, hy, hK⟩
theorem x_str {s s' : ByteArray} {l hh : Nat} {K : ByteArray → Prop} (hK : K s') (h1 : l ≤ hh := by first | omega | (simp only [List.length_map, List.length_append, List.length_nil, List.length_cons, List.length_take, List.length_drop]; omega)) (h2 : hh ≤ s.size := by first | omega | (simp only [List.length_map, List.length_append, List.length_nil, List.length_cons, List.length_take, List.length_drop]; omega)) (hy : s.extract l hh = s' := by rfl) : l ≤ hh ∧ hh ≤ s.size ∧ ∃ s', s.extract l hh = s' ∧ K s' := ⟨h1, h2, s', hy, hK⟩
theorem x_app {xs ys zs : List D} {sz bytes : Nat} {K : List D → Prop} (hK : K zs) (hw : ∀ y ∈ ys, y.cells.length = sz) (hz : xs ++ ys = zs := by rfl) (h1 : xs.length + ys.length ≤ maxLen := by unfold maxLen; (first | omega | (simp only [List.length_map, List.length_append, List.length_nil, List.length_cons, List.length_take, List.length_drop]; omega))) (h2 : (xs.length + ys.length) * bytes ≤ 140737488355328 := by first | omega | (simp only [List.length_map, List.length_append, List.length_nil, List.length_cons, List.length_take, List.length_drop]; omega)) : ((∀ y ∈ ys, y.cells.length = sz) ∧ xs.length + ys.length ≤ maxLen ∧ (xs.length + ys.length) * bytes ≤ 140737488355328) ∧ ∃ z, xs ++ ys = z ∧ K z := ⟨⟨hw, h1, h2⟩, zs, hz, hK⟩
theorem x_appN {ys : List D} {sz bytes : Nat} {K : Prop} (hK : K) (hw : ∀ y ∈ ys, y.cells.length = sz) (h1 : ys.length ≤ maxLen := by unfold maxLen; (first | omega | (simp only [List.length_map, List.length_append, List.length_nil, List.length_cons, List.length_take, List.length_drop]; omega))) (h2 : ys.length * bytes ≤ 140737488355328 := by first | omega | (simp only [List.length_map, List.length_append, List.length_nil, List.length_cons, List.length_take, List.length_drop]; omega)) : ((∀ y ∈ ys, y.cells.length = sz) ∧ ys.length ≤ maxLen ∧ ys.length * bytes ≤ 140737488355328) ∧ K := ⟨⟨hw, h1, h2⟩, hK⟩
theorem x_cat {a b : ByteArray} {K : Prop} (hK : K) (h : a.size + b.size ≤ 9223372036854775807 := by first | omega | (simp only [List.length_map, List.length_append, List.length_nil, List.length_cons, List.length_take, List.length_drop]; omega)) : a.size + b.size ≤ 9223372036854775807 ∧ K := ⟨h, hK⟩
theorem x_call {P : Program} {f : FuncId} {ds : List D} {res : List C} {K : List C → Prop} (he : enters P f = true) (hc : Contract P f ds res) (hK : K res) : ∃ res, (enters P f = true ∧ Contract P f ds res) ∧ K res := ⟨res, ⟨he, hc⟩, hK⟩
theorem x_fy {P : Program} {N d : Nat} {o : Oper} {t : Tr} {h : Hp} {s : S} {K : S → Hp → Prop} (hy : Yield P N o (envT t h) s) (hK : K s h) (hd : o.dst = some d := by rfl) : ∃ (s : S) (h' : Hp), Step P N o (envT t h) (upd (envT t h') (some d) s) ∧ K s h' := ⟨s, h, by have := hy.step; rwa [hd] at this, hK⟩
theorem x_field {P : Program} {T : TypeId} {f : Nat} {fs : Array Field} {g : Field} {sh : Bool × Nat} {K : Nat → Bool × Nat → Prop} (hu : P.underlying T = some (.struct fs)) (hg : fs[f]? = some g) (hs : tshape P g.type = some sh) (hK : K g.offset sh) : ∃ off sh, FieldOk P T f off sh ∧ K off sh := ⟨_, _, ⟨fs, g, hu, hg, hs, rfl⟩, hK⟩
theorem x_obj {h : Hp} {id : Nat} {cs : List D} {K : List D → Prop} (hb : NAM ≤ id) (hh : h id = .obj cs) (hK : K cs) : ∃ cs, (NAM ≤ id ∧ h id = .obj cs) ∧ K cs := ⟨cs, ⟨hb, hh⟩, hK⟩
theorem Sim.nil_own {P : Program} {N base : Nat} {w0 : World} {ro0 : Start} {env : Env} {a : Act} {w : World} (h : Sim P N base w0 ro0 env a w) {u : Nat} {τ e : Nat} (hu : env u = .c .nil) (he : 0 < P.cellsOf e) : Sim P N base w0 ro0 (upd env (some u) (.c (.own τ e []))) a w := by
  obtain ⟨ro, blk, h⟩ := h
  refine ⟨ro, blk, h.below, h.room, h.nodef, h.size, h.old, h.new, h.uniq, h.given, fun t ht => ?_, fun t => ?_⟩
  · by_cases et : t = u
    · subst et; simp [upd] at ht
    · simp only [upd, if_neg et] at ht; exact h.left t ht
  · have hs := h.sat t
    by_cases et : t = u
    · subst et
      rw [hu] at hs
      simp only [upd, if_true]
      have hv : a.tmps.getD t undef = .slice none 0 0 := hs
      exact ⟨P.cellsOf e, [], he, rfl, by rw [hv]; exact World.ownsRow_nil w base e _, by simp, by simpa [flat] using Reps.nil, fun g hg => by rw [hv] at hg; simp [Value.ownBlock] at hg⟩
    · simp only [upd, if_neg et]; exact hs
theorem xnil {P : Program} {N : Nat} {c : Code} {t : Tr} {h : Hp} {Q : Exit → Env → Prop} (u τ e : Nat) (hu : t.get u = .c .nil) (hb : u < NAM) (he : 0 < P.cellsOf e) (hk : setK 20 t u (.c (.own τ e [])) fun t => Leaf (VC P N c (envT t h) Q)) : Leaf (VC P N c (envT t h) Q) := by
  obtain ⟨t', h1, ⟨h2⟩⟩ := setK_spec hk
  refine ⟨fun base w0 ro0 a w hs => h2 base w0 ro0 a w ?_⟩
  rw [envT_set hb h1]
  exact hs.nil_own (by rw [envT_lt hb]; exact hu) he
theorem xscopeR {P : Program} {tt : TT} {N : Nat} {fb : List Nat} {t : Tr} {h : Hp} {K : Exit → Tr → Hp → Prop} (htt : TTok P tt) (hNB : N ≤ BIG) {c : Code} (stop : List Nat) {σ : Type} (lab : σ → Nat) (L : Nat → List Nat) (F : σ → List (Nat × S)) (I : σ → Prop) (μ : σ → Nat)
    (hfind : ∀ s, I s → findLabel c (lab s) = some (.seq .skip (labelBody c (lab s)))) (hsp : spineP (labelBody c) stop c) (hsp2 : ∀ s, I s → spineP (labelBody c) stop (labelBody c (lab s)))
    (pass : ∀ s, I s → startK (L (lab s)) (F s) t fun t1 => xspine P tt N fb stop (labelBody c (lab s)) t1 h (jmpK lab L F (fun _ => h) I μ t (some (μ s)) K))
    (first : xspine P tt N fb stop c t h (jmpK lab L F (fun _ => h) I μ t none K)) : Leaf (VC P N (.scope c) (envT t h) fun e env => ∃ t h, env = envT t h ∧ K e t h) :=
  xscope htt hNB stop lab L F (fun _ => h) I μ hfind hsp hsp2 pass first
theorem x_rnd {σ : Type} {L : List Nat} {F : σ → List (Nat × S)} {G : σ → Hp} {I : σ → Prop} {μ : σ → Nat} {t0 t : Tr} {h : Hp} {m : Nat} (s : σ) (hI : I s) (hm : μ s < m) (hL : L.map t.get = L.map t0.get) (hE : ent t (F s)) (hG : G s = h) : ∃ s, I s ∧ μ s < m ∧ L.map t.get = L.map t0.get ∧ ent t (F s) ∧ G s = h := ⟨s, hI, hm, hL, hE, hG⟩
theorem x_jmp {σ : Type} {lab : σ → Nat} {L : List Nat} {F : σ → List (Nat × S)} {G : σ → Hp} {I : σ → Prop} {μ : σ → Nat} {t0 t : Tr} {h : Hp} {l : Nat} {m : Option Nat} (s : σ) (hI : I s) (hl : lab s = l) (hm : jlt m (μ s)) (hL : L.map t.get = L.map t0.get) (hE : ent t (F s)) (hG : G s = h) :
    ∃ s, I s ∧ lab s = l ∧ jlt m (μ s) ∧ L.map t.get = L.map t0.get ∧ ent t (F s) ∧ G s = h := ⟨s, hI, hl, hm, hL, hE, hG⟩
theorem x_ent {t : Tr} {a : Nat} {s : S} {F : List (Nat × S)} (h : t.get a = s) (h' : ent t F) : ent t ((a, s) :: F) := ⟨h, h'⟩
theorem x_ret {P : Program} {cs res : List C} {h : Hp} (hf : fitsL P cs res) : Leaf (fitsL P cs res ∧ postL h []) := ⟨hf, trivial⟩
class BP (b : Bool) (p q : outParam Prop) : Prop where
  yes : b = true → p
  no : b = false → q
instance bp_dec (p : Prop) [d : Decidable p] : BP (@decide p d) p (¬ p) := ⟨of_decide_eq_true, of_decide_eq_false⟩
instance bp_not (b : Bool) (p q : Prop) [h : BP b p q] : BP (!b) q p := ⟨fun e => h.no (by cases b <;> simp_all), fun e => h.yes (by cases b <;> simp_all)⟩
instance (priority := low) bp_any (b : Bool) : BP b (b = true) (b = false) := ⟨id, id⟩
theorem br {b : Bool} {p q A B : Prop} [h : BP b p q] (hA : p → A) (hB : q → B) : (b = true → A) ∧ (b = false → B) := ⟨fun e => hA (h.yes e), fun e => hB (h.no e)⟩
theorem brT {A B : Prop} (hA : A) : (true = true → A) ∧ (true = false → B) := ⟨fun _ => hA, fun h => nomatch h⟩
theorem brF {A B : Prop} (hB : B) : (false = true → A) ∧ (false = false → B) := ⟨(fun h => nomatch h), fun _ => hB⟩
end Go.Vm
end
section
namespace Go.Vm
instance lawfulBytes : LawfulBEq ByteArray where
  eq_of_beq := by intro a b h; rw [beq_toListBytes, eq_strs] at h; exact of_decide_eq_true h
  rfl := by intro a; rw [beq_toListBytes, eq_strs]; simp
structure RefD where
  scope : Int
  group : ByteArray
  name : ByteArray
  deriving DecidableEq
structure FieldD where
  at_ : RefD
  kind : Int
  deft : ByteArray
  cases : List ByteArray
  worth : Int
  deriving DecidableEq
structure LensD where
  kind : Int
  at_ : RefD
  name : ByteArray
  other : ByteArray
  factor : Int
  field : FieldD
  forth : List (ByteArray × ByteArray)
  back : List (ByteArray × ByteArray)
  deriving DecidableEq
abbrev noB : ByteArray := ⟨#[]⟩
def noRef : RefD := ⟨0, noB, noB⟩
def noField : FieldD := ⟨noRef, 0, noB, [], 0⟩
def noLens : LensD := ⟨0, noRef, noB, noB, 0, noField, [], []⟩
def pairD (p : ByteArray × ByteArray) : D := .agg [.sc (.string p.1), .sc (.string p.2)]
def rD (r : RefD) : D := .agg [.sc (.int .i64 r.scope), .sc (.string r.group), .sc (.string r.name)]
def fD (f : FieldD) : D := .agg [.sc (.int .i64 f.at_.scope), .sc (.string f.at_.group), .sc (.string f.at_.name), .sc (.int .i64 f.kind), .sc (.string f.deft), .row (f.cases.map strD), .sc (.int .i64 f.worth)]
def lD (x : LensD) : D := .agg [.sc (.int .i64 x.kind), .sc (.int .i64 x.at_.scope), .sc (.string x.at_.group), .sc (.string x.at_.name), .sc (.string x.name), .sc (.string x.other), .sc (.int .i64 x.factor),
  .sc (.int .i64 x.field.at_.scope), .sc (.string x.field.at_.group), .sc (.string x.field.at_.name), .sc (.int .i64 x.field.kind), .sc (.string x.field.deft), .row (x.field.cases.map strD), .sc (.int .i64 x.field.worth), .row (x.forth.map pairD), .row (x.back.map pairD)]
def charB (c : Int) (j : Nat) : Bool := (decide (97 ≤ c) && decide (c ≤ 122)) || (decide (48 ≤ c) && decide (c ≤ 57) && !decide (j = 0))
def okTo (s : ByteArray) (k : Nat) : Prop := ∀ j (b : UInt8), j < k → s[j]? = some b → charB b.toNat j = true
def nameB (s : ByteArray) : Bool := decide (1 ≤ s.size ∧ s.size ≤ 12) && (List.range s.size).all fun j => match s[j]? with
  | some b => charB b.toNat j
  | none => true
theorem name_yes {s : ByteArray} {k : Nat} (h1 : 1 ≤ s.size) (h2 : s.size ≤ 12) (hk : s.size ≤ k) (h : okTo s k) : nameB s = true := by
  unfold nameB
  rw [decide_eq_true (show 1 ≤ s.size ∧ s.size ≤ 12 from ⟨h1, h2⟩), Bool.true_and, List.all_eq_true]
  intro j hj
  split
  · rename_i b hb; exact h j b (by have := List.mem_range.1 hj; omega) hb
  · rfl
theorem name_no {s : ByteArray} {j : Nat} {b : UInt8} (hj : j < s.size) (hb : s[j]? = some b) (h : charB b.toNat j = false) : nameB s = false := by
  unfold nameB
  rw [Bool.and_eq_false_iff]
  right
  rw [List.all_eq_false]
  exact ⟨j, List.mem_range.2 hj, by rw [hb]; simp [h]⟩
theorem name_short {s : ByteArray} (h : s.size < 1) : nameB s = false := by unfold nameB; rw [decide_eq_false (fun k => by omega)]; rfl
theorem name_long {s : ByteArray} (h : 12 < s.size) : nameB s = false := by unfold nameB; rw [decide_eq_false (fun k => by omega)]; rfl
theorem okTo_zero (s : ByteArray) : okTo s 0 := fun j b hj => by omega
theorem okTo_next {s : ByteArray} {k : Nat} {b : UInt8} (h : okTo s k) (hb : s[k]? = some b) (hc : charB b.toNat k = true) : okTo s (k + 1) := by
  intro j b' hj hb'
  by_cases e : j = k
  · subst e; rw [hb] at hb'; injection hb' with e; subst e; exact hc
  · exact h j b' (by omega) hb'
theorem char_lt {s : ByteArray} {k : Nat} {b : UInt8} (h : s[k]? = some b) : k < s.size := by
  rcases Nat.lt_or_ge k s.size with h1 | h1
  · exact h1
  · simp [show ¬ k < s.size by omega] at h
def placeB (r : RefD) : Bool := (decide (r.scope = 0) || decide (r.scope = 1)) && nameB r.name && (decide (r.group = noB) || nameB r.group)
def ltB (a b : ByteArray) : Bool := Op.bytesLess a.toList b.toList
def lessB (a b : RefD) : Bool := if a.scope ≠ b.scope then decide (a.scope < b.scope) else if a.group ≠ b.group then ltB a.group b.group else ltB a.name b.name
def okC (l : List ByteArray) (k : Nat) : Bool := (List.range k).all fun j => match l[j]? with
  | some c => nameB c && !decide (c ∈ l.take j)
  | none => true
def casesB (l : List ByteArray) : Bool := decide (1 ≤ l.length) && decide (l.length ≤ 6) && okC l l.length
theorem okC_zero (l : List ByteArray) : okC l 0 = true := rfl
theorem okC_next {l : List ByteArray} {k : Nat} {p : ByteArray} (hp : l[k]? = some p) (h : okC l k = true) (h1 : nameB p = true) (h2 : ¬ p ∈ l.take k) : okC l (k + 1) = true := by
  unfold okC at *
  rw [List.range_succ, List.all_append, h]
  simp [hp, h1, h2]
theorem cases_no {l : List ByteArray} {k : Nat} {p : ByteArray} (hp : l[k]? = some p) (h : (nameB p && !decide (p ∈ l.take k)) = false) : casesB l = false := by
  unfold casesB
  rw [Bool.and_eq_false_iff]
  right
  unfold okC
  rw [List.all_eq_false]
  exact ⟨k, List.mem_range.2 (List.getElem?_eq_some_iff.1 hp).1, by simp only [hp, h]; simp⟩
theorem cases_yes {l : List ByteArray} {k : Nat} (h1 : 1 ≤ l.length) (h2 : l.length ≤ 6) (hk : l.length ≤ k) (h : okC l k = true) : casesB l = true := by
  unfold casesB
  rw [decide_eq_true h1, decide_eq_true h2, Bool.true_and, Bool.true_and]
  unfold okC at *
  rw [List.all_eq_true] at *
  intro j hj
  exact h j (List.mem_range.2 (by have := List.mem_range.1 hj; omega))
theorem okC_end {l : List ByteArray} {k : Nat} (hk : l.length ≤ k) (h : okC l k = true) : okC l l.length = true := by
  unfold okC at *
  rw [List.all_eq_true] at *
  intro j hj
  exact h j (List.mem_range.2 (by have := List.mem_range.1 hj; omega))
theorem cases_short {l : List ByteArray} (h : l.length < 1) : casesB l = false := by unfold casesB; rw [decide_eq_false (by omega)]; rfl
theorem cases_long {l : List ByteArray} (h : 6 < l.length) : casesB l = false := by unfold casesB; rw [decide_eq_false (show ¬ l.length ≤ 6 by omega), Bool.and_false]; rfl
def rightF (f : FieldD) : Bool := placeB f.at_ &&
  (if f.kind = 1 then decide (f.deft = noB) && decide (f.cases.length = 0) && decide (1 ≤ f.worth) && decide (f.worth ≤ 1048576)
   else if f.kind = 2 then decide (f.deft.size ≤ 40) && decide (f.cases.length = 0) && decide (f.worth = 0)
   else if f.kind = 3 then casesB f.cases && decide (f.deft ∈ f.cases) && decide (f.worth = 0)
   else if f.kind = 4 then decide (f.deft = noB) && decide (f.cases.length = 0) && decide (f.worth = 0)
   else false)
theorem rightF_bare {f : FieldD} (h1 : ¬ f.kind = 1) (h3 : ¬ f.kind = 3) (hc : 0 < f.cases.length) : rightF f = false := by
  unfold rightF
  rw [Bool.and_eq_false_iff]
  right
  rw [if_neg h1]
  have h0 : decide (f.cases.length = 0) = false := decide_eq_false (by omega)
  by_cases h2 : f.kind = 2
  · rw [if_pos h2, h0, Bool.and_false, Bool.false_and]
  · rw [if_neg h2, if_neg h3]
    by_cases h4 : f.kind = 4
    · rw [if_pos h4, h0, Bool.and_false, Bool.false_and]
    · rw [if_neg h4]
end Go.Vm
end
section
namespace Go.Vm
theorem ba_ext {a b : ByteArray} (h : a.data.toList = b.data.toList) : a = b := by
  obtain ⟨⟨a⟩⟩ := a
  obtain ⟨⟨b⟩⟩ := b
  simp only at h
  rw [h]
abbrev mkB (l : List UInt8) : ByteArray := ⟨l.toArray⟩
theorem mkB_data (l : List UInt8) : (mkB l).data.toList = l := by simp
theorem mkB_of (s : ByteArray) : mkB s.data.toList = s := ba_ext (mkB_data _)
theorem ba_app (a b : ByteArray) : (a ++ b).data.toList = a.data.toList ++ b.data.toList := by rw [ByteArray.data_append]; simp
theorem ba_len (a : ByteArray) : a.data.toList.length = a.size := rfl
section
variable {c : UInt8}
def splitC (c : UInt8) : List UInt8 → List (List UInt8)
  | [] => [[]]
  | b :: l => if b = c then [] :: splitC c l else match splitC c l with
    | [] => [[b]]
    | w :: ws => (b :: w) :: ws
def joinC (c : UInt8) : List (List UInt8) → List UInt8
  | [] => []
  | [w] => w
  | w :: v :: r => w ++ c :: joinC c (v :: r)
theorem splitC_ne (l : List UInt8) : splitC c l ≠ [] := by
  cases l with
  | nil => simp [splitC]
  | cons b l => unfold splitC; split; simp; split <;> simp
theorem splitC_free : ∀ {w : List UInt8}, c ∉ w → splitC c w = [w]
  | [], _ => rfl
  | b :: w, h => by
    have hb : ¬ b = c := fun e => h (by rw [e]; exact List.mem_cons_self ..)
    have ih := splitC_free (w := w) fun k => h (List.mem_cons_of_mem _ k)
    unfold splitC
    rw [if_neg hb, ih]
theorem splitC_app : ∀ {w : List UInt8} (l : List UInt8), c ∉ w → splitC c (w ++ c :: l) = w :: splitC c l
  | [], l, _ => by simp [splitC]
  | b :: w, l, h => by
    have hb : ¬ b = c := fun e => h (by rw [e]; exact List.mem_cons_self ..)
    have ih := splitC_app (w := w) l fun k => h (List.mem_cons_of_mem _ k)
    rw [List.cons_append, splitC, if_neg hb, ih]
theorem joinC_cons (w : List UInt8) {r : List (List UInt8)} (h : r ≠ []) : joinC c (w :: r) = w ++ c :: joinC c r := by
  cases r with
  | nil => exact absurd rfl h
  | cons v r => rfl
theorem joinC_splitC : ∀ l : List UInt8, joinC c (splitC c l) = l
  | [] => rfl
  | b :: l => by
    have ih := joinC_splitC l
    unfold splitC
    split
    · rename_i e
      rw [joinC_cons _ (splitC_ne l), ih, e]; rfl
    · cases hs : splitC c l with
      | nil => exact absurd hs (splitC_ne l)
      | cons w ws =>
        rw [hs] at ih
        simp only
        cases ws with
        | nil => simp only [joinC] at ih ⊢; rw [ih]
        | cons v r => simp only [joinC] at ih ⊢; rw [List.cons_append, ih]
theorem splitC_joinC : ∀ {ws : List (List UInt8)}, ws ≠ [] → (∀ w ∈ ws, c ∉ w) → splitC c (joinC c ws) = ws
  | [], h, _ => absurd rfl h
  | [w], _, h => splitC_free (h w (List.mem_cons_self ..))
  | w :: v :: r, _, h => by
    rw [joinC, splitC_app _ (h w (List.mem_cons_self ..)), splitC_joinC (by simp) fun u hu => h u (List.mem_cons_of_mem _ hu)]
theorem idx_cases : ∀ l : List UInt8, (Lib.index l [c] = -1 ∧ c ∉ l) ∨ ∃ a r, l = a ++ c :: r ∧ c ∉ a ∧ Lib.index l [c] = (a.length : Int)
  | [] => .inl ⟨rfl, by simp⟩
  | b :: l => by
    by_cases e : c = b
    · subst e
      exact .inr ⟨[], l, rfl, by simp, by unfold Lib.index; rw [if_pos (by simp)]; rfl⟩
    · have hp : ¬ [c].isPrefixOf (b :: l) = true := by simp [List.isPrefixOf, e]
      rcases idx_cases l with ⟨h1, h2⟩ | ⟨a, r, rfl, h2, h3⟩
      · refine .inl ⟨by unfold Lib.index; rw [if_neg hp, h1]; rfl, fun k => ?_⟩
        rcases List.mem_cons.1 k with k | k
        · exact e k
        · exact h2 k
      · refine .inr ⟨b :: a, r, rfl, fun k => ?_, ?_⟩
        · rcases List.mem_cons.1 k with k | k
          · exact e k
          · exact h2 k
        · unfold Lib.index
          rw [if_neg hp, h3, if_neg (by simp), List.length_cons]; omega
theorem splitK_C : ∀ (k : Nat) (l : List UInt8), l.count c = k → Lib.splitK [c] 0 k l = splitC c l
  | 0, l, h => by
    rw [splitC_free (List.count_eq_zero.1 h)]; rfl
  | k + 1, l, h => by
    rcases idx_cases (c := c) l with ⟨h1, h2⟩ | ⟨a, r, rfl, h2, h3⟩
    · rw [List.count_eq_zero.2 h2] at h; cases h
    · rw [splitC_app _ h2]
      unfold Lib.splitK
      rw [h3, if_neg (by simp)]
      rw [List.count_append, List.count_cons_self, List.count_eq_zero.2 h2] at h
      have hd : (a ++ c :: r).drop (((a.length : Int)).toNat + [c].length) = r := by
        rw [Int.toNat_natCast, List.length_singleton, ← List.drop_drop, List.drop_left]; rfl
      rw [hd, splitK_C k r (by omega), Int.toNat_natCast, Nat.add_zero, List.take_left]
def splitW (c : UInt8) (s : ByteArray) : List ByteArray := (splitC c s.data.toList).map mkB
theorem splitW_lib (s : ByteArray) : Lib.splitB ⟨#[c]⟩ 0 (Lib.countB s ⟨#[c]⟩) s = splitW c s := by
  have h := Lib.splitB_data ⟨#[c]⟩ 0 (Lib.countB s ⟨#[c]⟩) s
  have hc : Lib.countB s ⟨#[c]⟩ = s.data.toList.count c := Lib.count_one c _
  rw [show (⟨#[c]⟩ : ByteArray).data.toList = [c] from rfl, hc, splitK_C _ _ rfl] at h
  rw [← hc] at h
  unfold splitW
  rw [← h, List.map_map]
  conv => lhs; rw [← List.map_id (Lib.splitB _ _ _ _)]
  exact List.map_congr_left fun a _ => (mkB_of a).symm
theorem splitW_ne (s : ByteArray) : splitW c s ≠ [] := by unfold splitW; simp [splitC_ne]
def joinW (c : UInt8) (l : List ByteArray) : ByteArray := mkB (joinC c (l.map (·.data.toList)))
theorem join_lib : ∀ l : List (List UInt8), Lib.join l [c] = joinC c l
  | [] => rfl
  | [w] => Lib.join_one w [c]
  | w :: v :: r => by
    have ih := join_lib (v :: r)
    rw [Lib.join_cons] at ih ⊢
    rw [joinC, ← ih]
    simp [Lib.joinTail]
theorem joinW_data (l : List ByteArray) : (joinW c l).data.toList = joinC c (l.map (·.data.toList)) := mkB_data _
theorem splitW_joinW {l : List ByteArray} (hne : l ≠ []) (h : ∀ w ∈ l, c ∉ w.data.toList) : splitW c (joinW c l) = l := by
  unfold splitW
  rw [joinW_data, splitC_joinC (by simpa using hne) (by intro w hw; obtain ⟨a, ha, rfl⟩ := List.mem_map.1 hw; exact h a ha), List.map_map]
  conv => rhs; rw [← List.map_id l]
  exact List.map_congr_left fun a _ => mkB_of a
theorem joinW_splitW (s : ByteArray) : joinW c (splitW c s) = s := by
  apply ba_ext
  rw [joinW_data]
  unfold splitW
  rw [List.map_map]
  have : (splitC c s.data.toList).map ((fun b : ByteArray => b.data.toList) ∘ mkB) = splitC c s.data.toList := by
    conv => rhs; rw [← List.map_id (splitC c s.data.toList)]
    exact List.map_congr_left fun a _ => mkB_data a
  rw [this, joinC_splitC]
def cutC (c : UInt8) (l : List UInt8) : List UInt8 × List UInt8 × Bool := if c ∈ l then (l.takeWhile (fun b => !decide (b = c)), (l.dropWhile (fun b => !decide (b = c))).drop 1, true) else (l, [], false)
theorem takeW_app : ∀ {a : List UInt8} (r : List UInt8), c ∉ a → (a ++ c :: r).takeWhile (fun b => !decide (b = c)) = a ∧ (a ++ c :: r).dropWhile (fun b => !decide (b = c)) = c :: r
  | [], r, _ => by simp
  | b :: a, r, h => by
    have hb : ¬ b = c := fun e => h (by rw [e]; exact List.mem_cons_self ..)
    have ih := takeW_app (a := a) r fun k => h (List.mem_cons_of_mem _ k)
    simp [hb, ih.1, ih.2]
theorem cutC_hit {a r : List UInt8} (h : c ∉ a) : cutC c (a ++ c :: r) = (a, r, true) := by
  unfold cutC
  rw [if_pos (by simp), (takeW_app r h).1, (takeW_app r h).2]; rfl
theorem cutC_miss {l : List UInt8} (h : c ∉ l) : cutC c l = (l, [], false) := by unfold cutC; rw [if_neg h]
theorem mem_split {l : List UInt8} (h : c ∈ l) : ∃ a r, l = a ++ c :: r ∧ c ∉ a := by
  rcases idx_cases (c := c) l with ⟨_, h2⟩ | ⟨a, r, h1, h2, _⟩
  · exact absurd h h2
  · exact ⟨a, r, h1, h2⟩
end
-- names
theorem nameB_bytes {s : ByteArray} (h : nameB s = true) : ∀ c ∈ s.data.toList, (97 ≤ c.toNat ∧ c.toNat ≤ 122) ∨ (48 ≤ c.toNat ∧ c.toNat ≤ 57) := by
  intro c hc
  unfold nameB at h
  simp only [Bool.and_eq_true, List.all_eq_true] at h
  obtain ⟨i, hi, rfl⟩ := List.getElem_of_mem hc
  have := h.2 i (List.mem_range.2 hi)
  have he : s[i]? = some s.data.toList[i] := by
    rw [getElem?_pos s i hi]
    rfl
  rw [he] at this
  simp only [charB, Bool.or_eq_true, Bool.and_eq_true, decide_eq_true_eq] at this
  omega
theorem nameB_ne {s : ByteArray} (h : nameB s = true) : s.data.toList ≠ [] := by
  unfold nameB at h
  simp only [Bool.and_eq_true, decide_eq_true_eq] at h
  intro e
  have : s.size = 0 := by rw [← ba_len, e]; rfl
  omega
theorem nameB_free {s : ByteArray} (h : nameB s = true) {c : UInt8} (hc : c.toNat < 48 ∨ (57 < c.toNat ∧ c.toNat < 97)) : c ∉ s.data.toList := fun k => by have := nameB_bytes h c k; omega
theorem noB_data : noB.data.toList = [] := rfl
end Go.Vm
end
section
namespace Punnet.Name
set_option maxRecDepth 10000
def plainB (c : UInt8) : Bool := decide (32 ≤ c.toNat) && decide (c.toNat ≤ 126) && decide (c.toNat ≠ 34) && decide (c.toNat ≠ 92)
def hexD (c : UInt8) : Option Nat := if 48 ≤ c.toNat ∧ c.toNat ≤ 57 then some (c.toNat - 48) else if 97 ≤ c.toNat ∧ c.toNat ≤ 102 then some (c.toNat - 87) else none
def hexOf (n : Nat) : UInt8 := UInt8.ofNat (if n < 10 then 48 + n else 87 + n)
def code2 (a b : UInt8) : Option UInt8 := match hexD a, hexD b with
  | some h, some l => if plainB (UInt8.ofNat (16 * h + l)) then none else some (UInt8.ofNat (16 * h + l))
  | _, _ => none
def coded : List UInt8 → Option (UInt8 × Nat)
  | a :: b :: _ => (code2 a b).map fun x => (x, 2)
  | _ => none
def sign : List UInt8 → Option (UInt8 × Nat)
  | [] => none
  | c :: r => if c.toNat = 92 then coded r else if plainB c then some (c, 0) else none
def bodyAt (l : List UInt8) (k : Nat) : Option (List UInt8 × Nat) :=
  if h : k < l.length then
    if l[k].toNat = 34 then some ([], k + 1)
    else match sign (l.drop k) with
      | none => none
      | some (c, n) => (bodyAt l (k + n + 1)).map fun p => (c :: p.1, p.2)
  else none
  termination_by l.length - k
def quotedAt (l : List UInt8) (k : Nat) : Option (List UInt8 × Nat) :=
  if h : k < l.length then (if l[k].toNat = 34 then bodyAt l (k + 1) else none) else none
theorem bodyAt_out {l : List UInt8} {k : Nat} (h : ¬ k < l.length) : bodyAt l k = none := by rw [bodyAt, dif_neg h]
theorem bodyAt_end {l : List UInt8} {k : Nat} (h : k < l.length) (hq : l[k].toNat = 34) : bodyAt l k = some ([], k + 1) := by rw [bodyAt, dif_pos h, if_pos hq]
theorem bodyAt_none {l : List UInt8} {k : Nat} (h : k < l.length) (hq : l[k].toNat ≠ 34) (hs : sign (l.drop k) = none) : bodyAt l k = none := by
  rw [bodyAt, dif_pos h, if_neg hq, hs]
theorem bodyAt_some {l : List UInt8} {k n : Nat} {c : UInt8} (h : k < l.length) (hq : l[k].toNat ≠ 34) (hs : sign (l.drop k) = some (c, n)) : bodyAt l k = (bodyAt l (k + n + 1)).map fun p => (c :: p.1, p.2) := by
  rw [bodyAt, dif_pos h, if_neg hq, hs]
theorem drop_cons {l : List UInt8} {k : Nat} (h : k < l.length) : l.drop k = l[k] :: l.drop (k + 1) := List.drop_eq_getElem_cons h
theorem sign_plain {l : List UInt8} {k : Nat} (h : k < l.length) (h1 : l[k].toNat ≠ 92) (h2 : plainB l[k] = true) : sign (l.drop k) = some (l[k], 0) := by
  rw [drop_cons h, sign, if_neg h1, if_pos h2]
theorem sign_other {l : List UInt8} {k : Nat} (h : k < l.length) (h1 : l[k].toNat ≠ 92) (h2 : plainB l[k] = false) : sign (l.drop k) = none := by
  rw [drop_cons h, sign, if_neg h1, if_neg (by rw [h2]; decide)]
theorem sign_short {l : List UInt8} {k : Nat} (h : k < l.length) (h1 : l[k].toNat = 92) (h2 : l.length < k + 3) : sign (l.drop k) = none := by
  rw [drop_cons h, sign, if_pos h1]
  have hl : (l.drop (k + 1)).length < 2 := by rw [List.length_drop]; omega
  match l.drop (k + 1), hl with
  | [], _ => rfl
  | [_], _ => rfl
theorem sign_code {l : List UInt8} {k : Nat} (h : k + 2 < l.length) (h1 : l[k].toNat = 92) : sign (l.drop k) = (code2 l[k + 1] l[k + 2]).map fun x => (x, 2) := by
  rw [drop_cons (by omega), sign, if_pos h1, drop_cons (show k + 1 < l.length by omega), drop_cons (show k + 1 + 1 < l.length by omega)]; rfl
theorem bodyAt_le {l : List UInt8} : ∀ {k e : Nat} {t : List UInt8}, bodyAt l k = some (t, e) → k < e ∧ e ≤ l.length := by
  intro k
  induction hn : l.length - k using Nat.strongRecOn generalizing k with
  | _ n ih =>
    intro e t h
    by_cases hk : k < l.length
    · by_cases hq : l[k].toNat = 34
      · rw [bodyAt_end hk hq] at h
        injection h with h
        injection h with h1 h2
        omega
      · cases hs : sign (l.drop k) with
        | none => rw [bodyAt_none hk hq hs] at h; cases h
        | some p =>
          obtain ⟨c, m⟩ := p
          rw [bodyAt_some hk hq hs] at h
          cases hb : bodyAt l (k + m + 1) with
          | none => rw [hb] at h; cases h
          | some p =>
            obtain ⟨t', e'⟩ := p
            rw [hb] at h
            injection h with h
            injection h with h1 h2
            have := ih (l.length - (k + m + 1)) (by omega) rfl hb
            omega
    · rw [bodyAt_out hk] at h; cases h
theorem quotedAt_le {l : List UInt8} {k e : Nat} {t : List UInt8} (h : quotedAt l k = some (t, e)) : k < e ∧ e ≤ l.length := by
  unfold quotedAt at h
  split at h
  · split at h
    · have := bodyAt_le h; omega
    · cases h
  · cases h
end Punnet.Name
end
section
namespace Go.Proofs.YtmmffeldlhofiaaGreatDoor
set_option maxRecDepth 10000
open Go.RowKit Punnet.Name
theorem plain_any (c : UInt8) (w : World) : Calls Tryz.prog 154 #[.int .u8 (c.toNat : Int)] w fun e w' => e = .returned (.bool (plainB c)) ∧ w = w' := by
  have H := Lib.hid (show plainB c = (decide (32 ≤ c.toNat) && decide (c.toNat ≤ 126) && decide (c.toNat ≠ 34) && decide (c.toNat ≠ 92)) from rfl)
  have key : (c.toNat < 32 ∧ plainB c = false) ∨ (32 ≤ c.toNat ∧ 126 < c.toNat ∧ plainB c = false) ∨ (32 ≤ c.toNat ∧ c.toNat ≤ 126 ∧ (((c.toNat : Int) != 34) = false) ∧ plainB c = false) ∨
      (32 ≤ c.toNat ∧ c.toNat ≤ 126 ∧ (((c.toNat : Int) != 34) = true) ∧ (((c.toNat : Int) != 92) = false) ∧ plainB c = false) ∨ (32 ≤ c.toNat ∧ c.toNat ≤ 126 ∧ (((c.toNat : Int) != 34) = true) ∧ (((c.toNat : Int) != 92) = true) ∧ plainB c = true) := by
    rw [H.out]
    generalize c.toNat = n
    by_cases h1 : 32 ≤ n
    · by_cases h2 : n ≤ 126
      · by_cases h3 : n = 34
        · right; right; left; subst h3; exact ⟨h1, h2, rfl, rfl⟩
        · have b3 : ((n : Int) != 34) = true := by rw [bne_iff_ne]; omega
          by_cases h4 : n = 92
          · right; right; right; left; subst h4; exact ⟨h1, h2, rfl, rfl, rfl⟩
          · have b4 : ((n : Int) != 92) = true := by rw [bne_iff_ne]; omega
            right; right; right; right; exact ⟨h1, h2, b3, b4, by simp [h1, h2, h3, h4]⟩
      · right; left; exact ⟨h1, by omega, by simp [h2]⟩
    · left; exact ⟨by omega, by simp [h1]⟩
  clear H
  rcases key with ⟨h1, h⟩ | ⟨h1, h2, h⟩ | ⟨h1, h2, h3, h⟩ | ⟨h1, h2, h3, h4, h⟩ | ⟨h1, h2, h3, h4, h⟩
  all_goals
    have HV := Lib.hid h
    clear h
    go_enter Tryz.func154, Tryz.ntmps154
    go_wp2
    go_ret
    exact ⟨ret_bool (by rw [HV.out]), rfl⟩
theorem digit_yes {c : UInt8} {h : Nat} (hh : hexD c = some h) (w : World) : Calls Tryz.prog 197 #[.int .u8 (c.toNat : Int)] w fun e w' => e = .returned (.tuple #[.int .u8 (h : Int), .bool true]) ∧ w = w' := by
  unfold hexD at hh
  split at hh
  · rename_i hc
    injection hh with hh
    obtain ⟨h1, h2⟩ := hc
    have HE := Lib.hid (show ((c.toNat : Int) - 48) = (h : Int) by omega)
    clear hh
    go_enter Tryz.func197, Tryz.ntmps197
    go_wp2
    go_ret2
    exact ⟨by rw [← HE.out]; rfl, rfl⟩
  · split at hh
    · rename_i hc
      injection hh with hh
      obtain ⟨h1, h2⟩ := hc
      have h3 : ¬ (c.toNat : Int) ≤ 57 := by omega
      have HE := Lib.hid (show ((c.toNat : Int) - 97 + 10) = (h : Int) by omega)
      clear hh
      go_enter Tryz.func197, Tryz.ntmps197
      go_wp2
      go_ret2
      exact ⟨by rw [← HE.out]; rfl, rfl⟩
    · cases hh
theorem digit_no {c : UInt8} (hh : hexD c = none) (w : World) : Calls Tryz.prog 197 #[.int .u8 (c.toNat : Int)] w fun e w' => e = .returned (.tuple #[.int .u8 0, .bool false]) ∧ w = w' := by
  unfold hexD at hh
  split at hh
  · cases hh
  · rename_i h1
    split at hh
    · cases hh
    · rename_i h2
      have key : c.toNat < 48 ∨ (57 < c.toNat ∧ c.toNat < 97) ∨ 102 < c.toNat := by omega
      clear h1 h2 hh
      rcases key with h | ⟨h, h'⟩ | h
      all_goals
        go_enter Tryz.func197, Tryz.ntmps197
        go_wp2
        go_ret2
        exact ⟨rfl, rfl⟩
theorem hexD_lt {c : UInt8} {h : Nat} (hh : hexD c = some h) : h < 16 := by
  unfold hexD at hh
  split at hh
  · injection hh; omega
  · split at hh
    · injection hh; omega
    · cases hh
theorem or_nat {a b : Nat} (ha : a < 16) (hb : b < 16) : bits .or .u8 ((a : Int) * 16) (b : Int) = ((16 * a + b : Nat) : Int) := by
  have h := u8_or_nat (a * 16) b (by omega) (by omega)
  have e : a * 16 ||| b = 16 * a + b := by
    have := Nat.shiftLeft_add_eq_or_of_lt (i := 4) (b := b) (by omega) a
    rw [Nat.shiftLeft_eq] at this
    rw [← this]; omega
  rw [e] at h
  rw [← h]
  congr 1
set_option maxHeartbeats 400000 in
theorem coded_short (s : ByteArray) (k : Nat) (w : World) (hs : s.size ≤ maxLen) (hk : k < s.size) (h : s.size < k + 3) :
    Calls Tryz.prog 181 #[.string s, .int .i64 k] w fun e w' => e = .returned (.tuple #[.int .u8 0, .bool false]) ∧ w = w' := by
  unfold maxLen at hs
  have h' : (s.size : Int) - k < 3 := by omega
  go_enter Tryz.func181, Tryz.ntmps181
  go_wp2
  go_ret2
  exact ⟨rfl, rfl⟩
set_option maxHeartbeats 400000 in
theorem coded_yes (s : ByteArray) (k : Nat) (w : World) (hs : s.size ≤ maxLen) (hk : k + 2 < s.size) {x : UInt8} (h : code2 s[k + 1] s[k + 2] = some x) :
    Calls Tryz.prog 181 #[.string s, .int .i64 k] w fun e w' => e = .returned (.tuple #[.int .u8 (x.toNat : Int), .bool true]) ∧ w = w' := by
  unfold maxLen at hs
  unfold code2 at h
  cases h1 : hexD s[k + 1] with
  | none => rw [h1] at h; cases h
  | some a =>
    cases h2 : hexD s[k + 2] with
    | none => rw [h1, h2] at h; cases h
    | some b =>
      rw [h1, h2] at h
      simp only at h
      split at h
      · cases h
      · rename_i hp
        injection h with h
        have D1 := Lib.hid (digit_yes h1)
        have D2 := Lib.hid (digit_yes h2)
        have la := hexD_lt h1
        have lb := hexD_lt h2
        have P := Lib.hid (plain_any (UInt8.ofNat (16 * a + b)))
        rw [Bool.not_eq_true] at hp
        rw [hp] at P
        have hx : x.toNat = 16 * a + b := by rw [← h, UInt8.toNat_ofNat']; omega
        rw [h] at P
        have hor : bits .or .u8 ((a : Int) * 16) (b : Int) = (x.toNat : Int) := by rw [or_nat la lb, hx]
        clear h1 h2 hp h hx
        have hb : ¬ (s.size : Int) - k < 3 := by omega
        go_enter Tryz.func181, Tryz.ntmps181
        go_wp2_with fail
        refine (D1.out _).mono ?_
        rintro e w1 ⟨rfl, rfl⟩
        go_wp2_with fail
        refine (D2.out _).mono ?_
        rintro e w1 ⟨rfl, rfl⟩
        go_wp2_with fail
        refine (P.out _).mono ?_
        rintro e w1 ⟨rfl, rfl⟩
        go_wp2_with fail
        go_ret2
        exact ⟨rfl, rfl⟩
def NoCode (w : World) (e : Ending) (w' : World) : Prop := ∃ n : Int, e = .returned (.tuple #[.int .u8 n, .bool false]) ∧ w = w'
set_option maxHeartbeats 800000 in
theorem coded_no (s : ByteArray) (k : Nat) (w : World) (hs : s.size ≤ maxLen) (hk : k + 2 < s.size) (h : code2 s[k + 1] s[k + 2] = none) :
    Calls Tryz.prog 181 #[.string s, .int .i64 k] w (NoCode w) := by
  unfold maxLen at hs
  have hb : ¬ (s.size : Int) - k < 3 := by omega
  unfold code2 at h
  cases h1 : hexD s[k + 1] with
  | none =>
    have D1 := Lib.hid (digit_no h1)
    cases h2 : hexD s[k + 2] with
    | none =>
      have D2 := Lib.hid (digit_no h2)
      clear h1 h2 h
      go_enter Tryz.func181, Tryz.ntmps181
      go_wp2_with fail
      refine (D1.out _).mono ?_
      rintro e w1 ⟨rfl, rfl⟩
      go_wp2_with fail
      refine (D2.out _).mono ?_
      rintro e w1 ⟨rfl, rfl⟩
      go_wp2_with fail
      go_ret2
      exact ⟨_, rfl, rfl⟩
    | some b =>
      have D2 := Lib.hid (digit_yes h2)
      have lb := hexD_lt h2
      clear h1 h2 h
      go_enter Tryz.func181, Tryz.ntmps181
      go_wp2_with fail
      refine (D1.out _).mono ?_
      rintro e w1 ⟨rfl, rfl⟩
      go_wp2_with fail
      refine (D2.out _).mono ?_
      rintro e w1 ⟨rfl, rfl⟩
      go_wp2_with fail
      go_ret2
      exact ⟨_, rfl, rfl⟩
  | some a =>
    have D1 := Lib.hid (digit_yes h1)
    have la := hexD_lt h1
    cases h2 : hexD s[k + 2] with
    | none =>
      have D2 := Lib.hid (digit_no h2)
      clear h1 h2 h
      go_enter Tryz.func181, Tryz.ntmps181
      go_wp2_with fail
      refine (D1.out _).mono ?_
      rintro e w1 ⟨rfl, rfl⟩
      go_wp2_with fail
      refine (D2.out _).mono ?_
      rintro e w1 ⟨rfl, rfl⟩
      go_wp2_with fail
      go_ret2
      exact ⟨_, rfl, rfl⟩
    | some b =>
      rw [h1, h2] at h
      simp only at h
      split at h
      · rename_i hp
        have D2 := Lib.hid (digit_yes h2)
        have lb := hexD_lt h2
        have P := Lib.hid (plain_any (UInt8.ofNat (16 * a + b)))
        rw [hp] at P
        have hx : (UInt8.ofNat (16 * a + b)).toNat = 16 * a + b := by rw [UInt8.toNat_ofNat']; omega
        have hor : bits .or .u8 ((a : Int) * 16) (b : Int) = ((UInt8.ofNat (16 * a + b)).toNat : Int) := by rw [or_nat la lb, hx]
        clear h1 h2 hp h hx
        generalize UInt8.ofNat (16 * a + b) = x at *
        go_enter Tryz.func181, Tryz.ntmps181
        go_wp2_with fail
        refine (D1.out _).mono ?_
        rintro e w1 ⟨rfl, rfl⟩
        go_wp2_with fail
        refine (D2.out _).mono ?_
        rintro e w1 ⟨rfl, rfl⟩
        go_wp2_with fail
        refine (P.out _).mono ?_
        rintro e w1 ⟨rfl, rfl⟩
        go_wp2_with fail
        go_ret2
        exact ⟨_, rfl, rfl⟩
      · cases h
end Go.Proofs.YtmmffeldlhofiaaGreatDoor
end
section
namespace Go.Proofs.YtmmffeldlhofiaaGreatDoor
set_option maxRecDepth 10000
open Go.RowKit Punnet.Name
theorem get_data (s : ByteArray) (k : Nat) (h : k < s.size) : s.data.toList[k]'(by simpa using h) = s[k] := by simp; rfl
def cellsOf (l : List UInt8) : List Value := l.map fun b => .int .u8 (b.toNat : Int)
theorem cellsOf_snoc (l : List UInt8) (b : UInt8) : cellsOf (l ++ [b]) = cellsOf l ++ [.int .u8 (b.toNat : Int)] := by simp [cellsOf]
theorem u8_info : (Tryz.prog.info? 5).map (fun i => (i.zero, i.size, i.bytes)) = some (some (.int .u8 0), 1, 1) := by kernel_rfl
def QRel (s : ByteArray) (k0 : Nat) (w : World) (k : Nat) (T : List UInt8) (v : Value) (w' : World) : Prop :=
  k ≤ s.size ∧ T.length ≤ k ∧ w'.ownsRow w.heap.size 5 1 v T.length (cellsOf T) ∧ Below w.heap.size w w' ∧ quotedAt s.data.toList k0 = (bodyAt s.data.toList k).map fun p => (T ++ p.1, p.2)
def Quoted (s : ByteArray) (k0 : Nat) (w : World) (e : Ending) (w' : World) : Prop :=
  (quotedAt s.data.toList k0 = none ∧ e = .returned (.tuple #[.slice none 0 0, .int .i64 0, .bool false]) ∧ Below w.heap.size w w') ∨
  ∃ (t : List UInt8) (n : Nat) (v : Value), quotedAt s.data.toList k0 = some (t, n) ∧ e = .returned (.tuple #[v, .int .i64 (n : Int), .bool true]) ∧ w'.ownsRow w.heap.size 5 1 v t.length (cellsOf t) ∧ Below w.heap.size w w'
def QSign (s : ByteArray) (k0 : Nat) (w : World) (a' : Act) (w' : World) : Prop :=
  ∃ (k : Nat) (T : List UInt8) (v : Value) (u8 u9 u10 u11 u12 u13 u14 u15 u16 u17 u18 u19 u20 u21 u22 u23 u24 u25 u26 u27 u28 u29 u30 u31 u32 u33 u34 u35 u36 u37 u38 u39 u40 u41 u42 u43 u44 u45 u46 u47 u48 u49 u50 u51 u52 u53 u54 u55 u56 u57 u58 : Value), a' = { tmps := #[.string s, .int .i64 (k : Int), undef, undef, .slice none 0 0, .int .i64 0, .bool false, v, u8, u9, u10, u11, u12, u13, u14, u15, u16, u17, u18, u19, u20, u21, u22, u23, u24, u25, u26, u27, u28, u29, u30, u31, u32, u33, u34, u35, u36, u37, u38, u39, u40, u41, u42, u43, u44, u45, u46, u47, u48, u49, u50, u51, u52, u53, u54, u55, u56, u57, u58], defers := [] } ∧ QRel s k0 w k T v w'
def QCode (s : ByteArray) (k0 : Nat) (w : World) (a' : Act) (w' : World) : Prop :=
  ∃ (k : Nat) (T : List UInt8) (v : Value) (u8 u9 u10 u11 u12 u13 u14 u15 u16 u17 u18 u19 u20 u21 u22 u23 u24 u25 u26 u27 u28 u29 u30 u31 u32 u33 u34 u35 u36 u37 u38 u39 u40 u41 u42 u43 u44 u45 u46 u47 u48 u49 u50 u51 u52 u53 u54 u55 u56 u57 u58 : Value), a' = { tmps := #[.string s, .int .i64 (k : Int), undef, undef, .slice none 0 0, .int .i64 0, .bool false, v, u8, u9, u10, u11, u12, u13, u14, u15, u16, u17, u18, u19, u20, u21, u22, u23, u24, u25, u26, u27, u28, u29, u30, u31, u32, u33, u34, u35, u36, u37, u38, u39, u40, u41, u42, u43, u44, u45, u46, u47, u48, u49, u50, u51, u52, u53, u54, u55, u56, u57, u58], defers := [] } ∧ QRel s k0 w k T v w' ∧ ∃ h : k < s.size, s[k].toNat = 92
def QEnd (s : ByteArray) (k0 : Nat) (w : World) (a' : Act) (w' : World) : Prop :=
  ∃ (k : Nat) (T : List UInt8) (v : Value) (u8 u9 u10 u11 u12 u13 u14 u15 u16 u17 u18 u19 u20 u21 u22 u23 u24 u25 u26 u27 u28 u29 u30 u31 u32 u33 u34 u35 u36 u37 u38 u39 u40 u41 u42 u43 u44 u45 u46 u47 u48 u49 u50 u51 u52 u53 u54 u55 u56 u57 u58 : Value), a' = { tmps := #[.string s, .int .i64 (k : Int), undef, undef, .slice none 0 0, .int .i64 0, .bool false, v, u8, u9, u10, u11, u12, u13, u14, u15, u16, u17, u18, u19, u20, u21, u22, u23, u24, u25, u26, u27, u28, u29, u30, u31, u32, u33, u34, u35, u36, u37, u38, u39, u40, u41, u42, u43, u44, u45, u46, u47, u48, u49, u50, u51, u52, u53, u54, u55, u56, u57, u58], defers := [] } ∧ QRel s k0 w k T v w' ∧ ∃ h : k < s.size, s[k].toNat = 34
theorem none_map {s : ByteArray} {k0 : Nat} {w : World} {k : Nat} {T : List UInt8} {v : Value} {w' : World} (h : QRel s k0 w k T v w') (hb : bodyAt s.data.toList k = none) : quotedAt s.data.toList k0 = none := by rw [h.2.2.2.2, hb]; rfl
theorem end_map {s : ByteArray} {k0 : Nat} {w : World} {k : Nat} {T : List UInt8} {v : Value} {w' : World} (h : QRel s k0 w k T v w') (hk : k < s.size) (hq : s[k].toNat = 34) : quotedAt s.data.toList k0 = some (T, k + 1) := by
  rw [h.2.2.2.2, bodyAt_end (by simpa using hk) (by rw [get_data s k hk]; exact hq)]; simp
theorem next_map {s : ByteArray} {k0 : Nat} {w : World} {k : Nat} {T : List UInt8} {v v' : Value} {w' w2 : World} (h : QRel s k0 w k T v w') (hk : k < s.size) (hq : s[k].toNat ≠ 34) {c : UInt8} {n : Nat} (hs : sign (s.data.toList.drop k) = some (c, n)) (hn : k + n + 1 ≤ s.size)
    (ho : w2.ownsRow w.heap.size 5 1 v' (T.length + 1) (cellsOf T ++ [.int .u8 (c.toNat : Int)])) (hb : Below w.heap.size w' w2) : QRel s k0 w (k + n + 1) (T ++ [c]) v' w2 := by
  obtain ⟨h1, h2, h3, h4, h5⟩ := h
  refine ⟨hn, by simp; omega, by rw [cellsOf_snoc, List.length_append, List.length_singleton]; exact ho, h4.trans hb, ?_⟩
  rw [h5, bodyAt_some (by simpa using hk) (by rw [get_data s k hk]; exact hq) hs]
  cases bodyAt s.data.toList (k + n + 1) with
  | none => rfl
  | some p => simp
set_option maxHeartbeats 2000000 in
theorem quoted_go (s : ByteArray) (k0 : Nat) (w : World) (hs : s.size ≤ 16777216) (hk0 : k0 < s.size) (hq : s[k0].toNat = 34) :
    Calls Tryz.prog 157 #[.string s, .int .i64 (k0 : Int)] w (Quoted s k0 w) := by
  obtain ⟨i0, hi0, hz0, hz1, hz2⟩ := info_parts u8_info
  have hk0' : ¬ (s.size : Int) ≤ k0 := by omega
  have b34 : ((s[k0].toNat : Int) != 34) = false := by rw [bne_eq_false_iff_eq]; omega
  have hml : s.size ≤ 9223372036854775807 := by omega
  go_enter Tryz.func157, Tryz.ntmps157
  go_wp2
  refine wp_scope_three (QSign s k0 w) (QEnd s k0 w) (QCode s k0 w) (fun a' _ => 3 * (s.size - (intOf (a'.tmps.getD 1 undef)).toNat) + 2) (fun _ _ => 0) (fun a' _ => 3 * (s.size - (intOf (a'.tmps.getD 1 undef)).toNat) + 1) rfl rfl rfl ?_ ?_ ?_ ?_
  · clear b34 hk0' hq
    rintro a' w' ⟨k, T, v, u8, u9, u10, u11, u12, u13, u14, u15, u16, u17, u18, u19, u20, u21, u22, u23, u24, u25, u26, u27, u28, u29, u30, u31, u32, u33, u34, u35, u36, u37, u38, u39, u40, u41, u42, u43, u44, u45, u46, u47, u48, u49, u50, u51, u52, u53, u54, u55, u56, u57, u58, rfl, hr⟩
    have hks := hr.1
    have hT := hr.2.1
    have hown := Lib.hid hr.2.2.1
    have hbw := hr.2.2.2.1
    have HR := Lib.hid hr
    clear hr
    by_cases hlt : k < s.size
    · have hlt' : ¬ (s.size : Int) ≤ k := by omega
      have hl : k < s.data.toList.length := by simpa using hlt
      by_cases h34 : s[k].toNat = 34
      · have b1 : ((s[k].toNat : Int) == 34) = true := beq_iff_eq.2 (by omega)
        have H34 := Lib.hid h34
        clear h34
        go_wp2
        go_step3
        refine ⟨⟨_, _, _, _, _, _, _, _, _, _, _, _, _, _, _, _, _, _, _, _, _, _, _, _, _, _, _, _, _, _, _, _, _, _, _, _, _, _, _, _, _, _, _, _, _, _, _, _, _, _, _, _, _, _, rfl, HR.out, hlt, H34.out⟩, ?_⟩
        show 0 < _
        omega
      · have b1 : ((s[k].toNat : Int) == 34) = false := beq_eq_false_iff_ne.2 (by omega)
        by_cases h92 : s[k].toNat = 92
        · have b2 : ((s[k].toNat : Int) == 92) = true := beq_iff_eq.2 (by omega)
          have H92 := Lib.hid h92
          clear h92 h34
          go_wp2
          go_step3
          refine ⟨⟨_, _, _, _, _, _, _, _, _, _, _, _, _, _, _, _, _, _, _, _, _, _, _, _, _, _, _, _, _, _, _, _, _, _, _, _, _, _, _, _, _, _, _, _, _, _, _, _, _, _, _, _, _, _, rfl, HR.out, hlt, H92.out⟩, ?_⟩
          show 3 * (s.size - (intOf (Value.int .i64 (k : Int))).toNat) + 1 < 3 * (s.size - (intOf (Value.int .i64 (k : Int))).toNat) + 2
          omega
        · have b2 : ((s[k].toNat : Int) == 92) = false := beq_eq_false_iff_ne.2 (by omega)
          have P := Lib.hid (plain_any s[k])
          cases hp : plainB s[k] with
          | true =>
            rw [hp] at P
            have HN := Lib.hid (fun v' w2 => next_map (v' := v') (w2 := w2) HR.out hlt h34 (sign_plain hl (by rw [get_data s k hlt]; exact h92) (by rw [get_data s k hlt]; exact hp)))
            rw [get_data s k hlt] at HN
            clear hp h34 h92
            go_wp2_with (first | (go_at_call 154; refine (P.out _).mono ?_; rintro e w1 ⟨rfl, rfl⟩) | (at_builtin; go_must (refine wpList_append_one rfl (.tmp 36) (.tmp 38) _ rfl w.heap.size 5 i0 _ 1 Tryz.underlying133 hi0 hz0 hz1 hz2 rfl 5 (.int .u8 (s[k].toNat : Int)) rfl v T.length (cellsOf T) rfl hown.out rfl (by simp only [maxLen]; omega) (by omega) hbw.size ?_; intro v1 w1 ho1 hb1)))
            go_step3
            refine ⟨⟨_, _, _, _, _, _, _, _, _, _, _, _, _, _, _, _, _, _, _, _, _, _, _, _, _, _, _, _, _, _, _, _, _, _, _, _, _, _, _, _, _, _, _, _, _, _, _, _, _, _, _, _, _, _, rfl, HN.out v1 w1 (by omega) ho1 hb1⟩, ?_⟩
            show 3 * (s.size - (intOf (Value.int .i64 ((k : Int) + 1))).toNat) + 2 < 3 * (s.size - (intOf (Value.int .i64 (k : Int))).toNat) + 2
            simp only [intOf]
            omega
          | false =>
            rw [hp] at P
            have HQ := Lib.hid (none_map HR.out (bodyAt_none hl (by rw [get_data s k hlt]; exact h34) (sign_other hl (by rw [get_data s k hlt]; exact h92) (by rw [get_data s k hlt]; exact hp))))
            clear hp h34 h92
            go_wp2_with (go_at_call 154; refine (P.out _).mono ?_; rintro e w1 ⟨rfl, rfl⟩)
            simp only [Exit.jumps]
            go_ret3
            exact .inl ⟨HQ.out, rfl, hbw⟩
    · have hlt' : (s.size : Int) ≤ k := by omega
      have HQ := Lib.hid (none_map HR.out (bodyAt_out (by simpa using hlt)))
      go_wp2
      simp only [Exit.jumps]
      go_ret3
      exact .inl ⟨HQ.out, rfl, hbw⟩
  · clear b34 hk0' hq
    rintro a' w' ⟨k, T, v, u8, u9, u10, u11, u12, u13, u14, u15, u16, u17, u18, u19, u20, u21, u22, u23, u24, u25, u26, u27, u28, u29, u30, u31, u32, u33, u34, u35, u36, u37, u38, u39, u40, u41, u42, u43, u44, u45, u46, u47, u48, u49, u50, u51, u52, u53, u54, u55, u56, u57, u58, rfl, hr, hk, h34⟩
    have HE := Lib.hid (end_map hr hk h34)
    have hown := Lib.hid hr.2.2.1
    have hbw := hr.2.2.2.1
    clear hr h34
    go_wp2
    simp only [Exit.jumps]
    go_ret3
    exact .inr ⟨T, k + 1, v, HE.out, rfl, hown.out, hbw⟩
  · rintro a' w' ⟨k, T, v, u8, u9, u10, u11, u12, u13, u14, u15, u16, u17, u18, u19, u20, u21, u22, u23, u24, u25, u26, u27, u28, u29, u30, u31, u32, u33, u34, u35, u36, u37, u38, u39, u40, u41, u42, u43, u44, u45, u46, u47, u48, u49, u50, u51, u52, u53, u54, u55, u56, u57, u58, rfl, hr, hk, h92⟩
    clear b34 hk0' hq
    have hks := hr.1
    have hT := hr.2.1
    have hown := Lib.hid hr.2.2.1
    have hbw := hr.2.2.2.1
    have HR := Lib.hid hr
    clear hr
    have hl : k < s.data.toList.length := by simpa using hk
    have hms : s.size ≤ maxLen := by simp only [maxLen]; omega
    have g92 : s.data.toList[k].toNat = 92 := by rw [get_data s k hk]; exact h92
    have g34 : s.data.toList[k].toNat ≠ 34 := by omega
    by_cases h3 : k + 2 < s.size
    · have hsg := sign_code (l := s.data.toList) (k := k) (by simpa using h3) g92
      rw [get_data s (k + 1) (by omega), get_data s (k + 2) h3] at hsg
      cases hc : code2 s[k + 1] s[k + 2] with
      | none =>
        rw [hc] at hsg
        have C := Lib.hid (fun w => coded_no s k w hms h3 hc)
        have HQ := Lib.hid (none_map HR.out (bodyAt_none hl g34 hsg))
        clear hc hsg g92 g34 h92
        go_wp2_with (go_at_call 181; refine (C.out _).mono ?_; rintro e w1 ⟨n, rfl, rfl⟩)
        simp only [Exit.jumps]
        go_ret3
        exact .inl ⟨HQ.out, rfl, hbw⟩
      | some x =>
        rw [hc] at hsg
        have C := Lib.hid (fun w => coded_yes s k w hms h3 hc)
        have HN := Lib.hid (fun v' w2 => next_map (v' := v') (w2 := w2) (n := 2) HR.out hk (by omega) hsg)
        clear hc hsg g92 g34 h92
        go_wp2_with (first | (go_at_call 181; refine (C.out _).mono ?_; rintro e w1 ⟨rfl, rfl⟩) | (at_builtin; go_must (refine wpList_append_one rfl (.tmp 50) (.tmp 52) _ rfl w.heap.size 5 i0 _ 1 Tryz.underlying133 hi0 hz0 hz1 hz2 rfl 5 (.int .u8 (x.toNat : Int)) rfl v T.length (cellsOf T) rfl hown.out rfl (by simp only [maxLen]; omega) (by omega) hbw.size ?_; intro v1 w1 ho1 hb1)))
        go_step3
        refine ⟨⟨_, _, _, _, _, _, _, _, _, _, _, _, _, _, _, _, _, _, _, _, _, _, _, _, _, _, _, _, _, _, _, _, _, _, _, _, _, _, _, _, _, _, _, _, _, _, _, _, _, _, _, _, _, _, rfl, HN.out v1 w1 (by omega) ho1 hb1⟩, ?_⟩
        show 3 * (s.size - (intOf (Value.int .i64 ((k : Int) + 3))).toNat) + 2 < 3 * (s.size - (intOf (Value.int .i64 (k : Int))).toNat) + 1
        simp only [intOf]
        omega
    · have C := Lib.hid (fun w => coded_short s k w hms hk (by omega))
      have HQ := Lib.hid (none_map HR.out (bodyAt_none hl g34 (sign_short hl g92 (by simp; omega))))
      clear g92 g34 h92
      go_wp2_with (go_at_call 181; refine (C.out _).mono ?_; rintro e w1 ⟨rfl, rfl⟩)
      simp only [Exit.jumps]
      go_ret3
      exact .inl ⟨HQ.out, rfl, hbw⟩
  · intro HL
    go_wp2
    go_step3
    refine (‹∀ (a : Act) (w : World), Code.wp _ _ _ a w → _› : _) _ _ (HL.out _ _ ?_)
    refine ⟨k0 + 1, [], .slice none 0 0, _, _, _, _, _, _, _, _, _, _, _, _, _, _, _, _, _, _, _, _, _, _, _, _, _, _, _, _, _, _, _, _, _, _, _, _, _, _, _, _, _, _, _, _, _, _, _, _, _, _, _, rfl, by omega, by simp, ⟨rfl, .inl ⟨rfl, rfl⟩⟩, Below.refl _ _, ?_⟩
    rw [quotedAt, dif_pos (by simpa using hk0), if_pos (by rw [get_data s k0 hk0]; exact hq)]
    simp
end Go.Proofs.YtmmffeldlhofiaaGreatDoor
end
section
namespace Go.Proofs.YtmmffeldlhofiaaGreatDoor
set_option maxRecDepth 10000
open Go.RowKit Punnet.Name
theorem quoted_no (s : ByteArray) (k0 : Nat) (w : World) (hs : s.size ≤ 16777216) (h : ∀ hk : k0 < s.size, s[k0].toNat ≠ 34) :
    Calls Tryz.prog 157 #[.string s, .int .i64 (k0 : Int)] w (Quoted s k0 w) := by
  have hq : quotedAt s.data.toList k0 = none := by
    unfold quotedAt
    split
    · rename_i hk
      have hk' : k0 < s.size := by simpa using hk
      rw [if_neg (by rw [get_data s k0 hk']; exact h hk')]
    · rfl
  have HQ := Lib.hid hq
  clear hq
  by_cases hk : k0 < s.size
  · have hk' : ¬ (s.size : Int) ≤ k0 := by omega
    have h1 := h hk
    have b34 : ((s[k0].toNat : Int) != 34) = true := by rw [bne_iff_ne]; omega
    clear h h1
    go_enter Tryz.func157, Tryz.ntmps157
    go_wp2
    go_step3
    go_wp2
    rw [Exit.noGoto_ret]
    go_ret3
    exact .inl ⟨HQ.out, rfl, Below.refl _ _⟩
  · have hk' : (s.size : Int) ≤ k0 := by omega
    clear h
    go_enter Tryz.func157, Tryz.ntmps157
    go_wp2
    go_step3
    go_wp2
    rw [Exit.noGoto_ret]
    go_ret3
    exact .inl ⟨HQ.out, rfl, Below.refl _ _⟩
theorem quoted_any (s : ByteArray) (k0 : Nat) (w : World) (hs : s.size ≤ 16777216) :
    Calls Tryz.prog 157 #[.string s, .int .i64 (k0 : Int)] w (Quoted s k0 w) := by
  by_cases h : ∃ hk : k0 < s.size, s[k0].toNat = 34
  · obtain ⟨hk, h34⟩ := h
    exact quoted_go s k0 w hs hk h34
  · exact quoted_no s k0 w hs fun hk h34 => h ⟨hk, h34⟩
def blankAt (l : List UInt8) (k : Nat) : Nat := k + ((l.drop k).takeWhile fun b => decide (b.toNat ≠ 32)).length
def wordEndOf (l : List UInt8) (k : Nat) : Nat := match quotedAt l k with
  | some (_, e) => if e = l.length ∨ l[e]? = some 32 then e else blankAt l k
  | none => blankAt l k
theorem blankAt_eq {l : List UInt8} {k e : Nat} (hk : k ≤ e) (he : e ≤ l.length) (ha : ∀ j (h : j < l.length), k ≤ j → j < e → l[j].toNat ≠ 32) (hs : ∀ h : e < l.length, l[e].toNat = 32) : blankAt l k = e := by
  have h : ∀ (n : Nat) (m : List UInt8), n ≤ m.length → (∀ j (h : j < m.length), j < n → m[j].toNat ≠ 32) → (∀ h : n < m.length, m[n].toNat = 32) → (m.takeWhile fun b => decide (b.toNat ≠ 32)).length = n := by
    intro n m
    induction m generalizing n with
    | nil => intro hn _ _; simp at hn; simp [hn]
    | cons b r ih =>
      intro hn ha hs
      cases n with
      | zero =>
        have hb : b.toNat = 32 := hs (by simp)
        rw [List.takeWhile_cons, if_neg (by simp [hb])]; rfl
      | succ n =>
        have hb : b.toNat ≠ 32 := ha 0 (by simp) (by omega)
        rw [List.takeWhile_cons, if_pos (by simp [hb]), List.length_cons, ih n (by simpa using hn) (fun j h hj => ha (j + 1) (by simpa using h) (by omega)) (fun h => hs (by simpa using h))]
  rw [blankAt, h (e - k) (l.drop k) (by rw [List.length_drop]; omega)]
  · omega
  · intro j hj hje
    rw [List.length_drop] at hj
    rw [List.getElem_drop]
    exact ha _ _ (by omega) (by omega)
  · intro hj
    rw [List.length_drop] at hj
    rw [List.getElem_drop]
    have := hs (by omega)
    rw [show l[k + (e - k)]'(by omega) = l[e]'(by omega) from by congr 1; omega]
    exact this
theorem blank_eq {s : ByteArray} {k j : Nat} (h1 : k ≤ j) (h2 : j ≤ s.size) (hd : ∀ x (h : x < s.size), k ≤ x → x < j → s[x].toNat ≠ 32) (hs : ∀ h : j < s.size, s[j].toNat = 32) : blankAt s.data.toList k = j := by
  have hlen : s.data.toList.length = s.size := by simp
  refine blankAt_eq h1 (by omega) (fun x h hk hx => ?_) (fun h => ?_)
  · rw [get_data s x (by omega)]; exact hd x _ hk hx
  · rw [get_data s j (by omega)]; exact hs _
theorem wordEnd_any (s : ByteArray) (k : Nat) (w : World) (hs : s.size ≤ 16777216) (hk : k ≤ s.size) :
    Calls Tryz.prog 135 #[.string s, .int .i64 (k : Int)] w fun e w' => e = .returned (.int .i64 (wordEndOf s.data.toList k : Int)) ∧ Below w.heap.size w w' := by
  have hml : s.size ≤ 9223372036854775807 := by omega
  go_enter Tryz.func135, Tryz.ntmps135
  go_wp2_with fail
  refine (quoted_any s k w hs).mono ?_
  rintro e w1 (⟨hq, rfl, hb1⟩ | ⟨t, n, v, hq, rfl, hown, hb1⟩)
  · have HW := Lib.hid (show wordEndOf s.data.toList k = blankAt s.data.toList k by unfold wordEndOf; rw [hq])
    clear hq
    go_wp2_with fail
    go_loop [6] (fun i => ∃ j : Nat, k ≤ j ∧ j ≤ s.size ∧ i = .int .i64 (j : Int) ∧ ∀ x (h : x < s.size), k ≤ x → x < j → s[x].toNat ≠ 32) (fun i => s.size - (intOf i).toNat)
    case atStart => exact ⟨k, Nat.le_refl _, hk, rfl, fun _ _ h1 h2 => absurd h1 (by omega)⟩
    case round =>
      obtain ⟨j, hj1, hj2, rfl, hd⟩ := hrel
      have HD := Lib.hid hd
      clear hd
      by_cases hlt : j < s.size
      · have hlt' : (j : Int) < s.size := by omega
        by_cases hb : s[j].toNat = 32
        · have b32 : ((s[j].toNat : Int) != 32) = false := by rw [bne_eq_false_iff_eq]; omega
          have HE := Lib.hid (show wordEndOf s.data.toList k = j by rw [HW.out]; exact blank_eq hj1 hj2 HD.out (fun _ => hb))
          clear hb
          go_wp2_with fail
          go_ret
          exact ⟨ret_i64 (by rw [HE.out]), hb1⟩
        · have b32 : ((s[j].toNat : Int) != 32) = true := by rw [bne_iff_ne]; omega
          have HD2 := Lib.hid (show ∀ x (h : x < s.size), k ≤ x → x < j + 1 → s[x].toNat ≠ 32 from fun x h h1 h2 => by
            by_cases e : x = j
            · subst e; exact hb
            · exact HD.out x h h1 (by omega))
          clear hb
          go_wp2_with fail
          go_round
          case rel => exact ⟨j + 1, by omega, by omega, by go_num, HD2.out⟩
          case measure => simp [intOf]; omega
      · have hlt' : ¬ (j : Int) < s.size := by omega
        have HE := Lib.hid (show wordEndOf s.data.toList k = j by rw [HW.out]; exact blank_eq hj1 hj2 HD.out (fun h => absurd h hlt))
        go_wp2_with fail
        go_ret
        exact ⟨ret_i64 (by rw [HE.out]), hb1⟩
  · have hle := quotedAt_le hq
    have hlen : s.data.toList.length = s.size := by simp
    have hn : n ≤ s.size := by omega
    have hwe : wordEndOf s.data.toList k = if n = s.size ∨ s.data.toList[n]? = some 32 then n else blankAt s.data.toList k := by unfold wordEndOf; rw [hq, hlen]
    clear hq hle hown hlen
    by_cases he : n = s.size
    · have HW := Lib.hid (show wordEndOf s.data.toList k = n by rw [hwe, if_pos (.inl he)])
      have b1 : ((n : Int) == (s.size : Int)) = true := beq_iff_eq.2 (by omega)
      clear he hwe
      go_wp2_with fail
      go_ret
      exact ⟨ret_i64 (by rw [HW.out]), hb1⟩
    · have b1 : ((n : Int) == (s.size : Int)) = false := beq_eq_false_iff_ne.2 (by omega)
      have hlt : n < s.size := by omega
      have hlt' : (n : Int) < s.size := by omega
      have hg : s.data.toList[n]? = some s[n] := by rw [List.getElem?_eq_getElem (by simpa using hlt), get_data s n hlt]
      by_cases hb : s[n].toNat = 32
      · have HW := Lib.hid (show wordEndOf s.data.toList k = n by
          rw [hwe, if_pos (.inr (by rw [hg]; congr 1; exact UInt8.toNat_inj.1 hb))])
        have b2 : ((s[n].toNat : Int) == 32) = true := beq_iff_eq.2 (by omega)
        clear he hwe hg hb
        go_wp2_with fail
        go_ret
        exact ⟨ret_i64 (by rw [HW.out]), hb1⟩
      · have HW := Lib.hid (show wordEndOf s.data.toList k = blankAt s.data.toList k by
          rw [hwe, if_neg]
          rintro (h | h)
          · exact he h
          · rw [hg] at h; injection h with h; exact hb (by rw [h]; rfl))
        have b2 : ((s[n].toNat : Int) == 32) = false := beq_eq_false_iff_ne.2 (by omega)
        clear he hwe hg hb
        go_wp2_with fail
        go_loop [6] (fun i => ∃ j : Nat, k ≤ j ∧ j ≤ s.size ∧ i = .int .i64 (j : Int) ∧ ∀ x (h : x < s.size), k ≤ x → x < j → s[x].toNat ≠ 32) (fun i => s.size - (intOf i).toNat)
        case atStart => exact ⟨k, Nat.le_refl _, hk, rfl, fun _ _ h1 h2 => absurd h1 (by omega)⟩
        case round =>
          obtain ⟨j, hj1, hj2, rfl, hd⟩ := hrel
          have HD := Lib.hid hd
          clear hd
          by_cases hlt3 : j < s.size
          · have hlt3' : (j : Int) < s.size := by omega
            by_cases hb : s[j].toNat = 32
            · have b32 : ((s[j].toNat : Int) != 32) = false := by rw [bne_eq_false_iff_eq]; omega
              have HE := Lib.hid (show wordEndOf s.data.toList k = j by rw [HW.out]; exact blank_eq hj1 hj2 HD.out (fun _ => hb))
              clear hb
              go_wp2_with fail
              go_ret
              exact ⟨ret_i64 (by rw [HE.out]), hb1⟩
            · have b32 : ((s[j].toNat : Int) != 32) = true := by rw [bne_iff_ne]; omega
              have HD2 := Lib.hid (show ∀ x (h : x < s.size), k ≤ x → x < j + 1 → s[x].toNat ≠ 32 from fun x h h1 h2 => by
                by_cases e : x = j
                · subst e; exact hb
                · exact HD.out x h h1 (by omega))
              clear hb
              go_wp2_with fail
              go_round
              case rel => exact ⟨j + 1, by omega, by omega, by go_num, HD2.out⟩
              case measure => simp [intOf]; omega
          · have hlt3' : ¬ (j : Int) < s.size := by omega
            have HE := Lib.hid (show wordEndOf s.data.toList k = j by rw [HW.out]; exact blank_eq hj1 hj2 HD.out (fun h => absurd h hlt3))
            go_wp2_with fail
            go_ret
            exact ⟨ret_i64 (by rw [HE.out]), hb1⟩
end Go.Proofs.YtmmffeldlhofiaaGreatDoor
end
section
namespace Go.Proofs.YtmmffeldlhofiaaGreatDoor
set_option maxRecDepth 10000
open Go.RowKit Punnet.Name
theorem takeWhile_le (p : UInt8 → Bool) (l : List UInt8) : (l.takeWhile p).length ≤ l.length := by
  induction l with
  | nil => simp
  | cons b r ih => rw [List.takeWhile_cons]; split <;> simp <;> omega
theorem blankAt_bound (l : List UInt8) {k : Nat} (hk : k ≤ l.length) : k ≤ blankAt l k ∧ blankAt l k ≤ l.length := by
  unfold blankAt
  have h := takeWhile_le (fun b => decide (b.toNat ≠ 32)) (l.drop k)
  rw [List.length_drop] at h
  omega
theorem wordEnd_bound (l : List UInt8) {k : Nat} (hk : k ≤ l.length) : k ≤ wordEndOf l k ∧ wordEndOf l k ≤ l.length := by
  have hb := blankAt_bound l hk
  unfold wordEndOf
  cases hq : quotedAt l k with
  | none => exact hb
  | some p =>
    obtain ⟨t, e⟩ := p
    have := quotedAt_le hq
    simp only
    split
    · omega
    · exact hb
def splitB (s : ByteArray) (k : Nat) : List ByteArray :=
  if h : k ≤ s.size ∧ wordEndOf s.data.toList k < s.size then
    s.extract k (wordEndOf s.data.toList k) :: splitB s (wordEndOf s.data.toList k + 1)
  else [s.extract k (wordEndOf s.data.toList k)]
  termination_by s.size - k
  decreasing_by
    have h1 : s.data.toList.length = s.size := by simp
    have := wordEnd_bound s.data.toList (k := k) (by omega)
    omega
theorem splitB_last {s : ByteArray} {k : Nat} (h : ¬ wordEndOf s.data.toList k < s.size) : splitB s k = [s.extract k (wordEndOf s.data.toList k)] := by rw [splitB, dif_neg (fun x => h x.2)]
theorem splitB_more {s : ByteArray} {k : Nat} (hk : k ≤ s.size) (h : wordEndOf s.data.toList k < s.size) : splitB s k = s.extract k (wordEndOf s.data.toList k) :: splitB s (wordEndOf s.data.toList k + 1) := by rw [splitB, dif_pos ⟨hk, h⟩]
theorem str_info : (Tryz.prog.info? 9).map (fun i => (i.zero, i.size, i.bytes)) = some (some (.string ⟨#[]⟩), 1, 16) := by kernel_rfl
def strsOf (l : List ByteArray) : List Value := l.map Value.string
theorem strsOf_snoc (l : List ByteArray) (b : ByteArray) : strsOf (l ++ [b]) = strsOf l ++ [.string b] := by simp [strsOf]
def Words (w : World) (l : List ByteArray) (e : Ending) (w' : World) : Prop :=
  ∃ v, e = .returned v ∧ w'.ownsRow w.heap.size 9 1 v l.length (strsOf l) ∧ Below w.heap.size w w'
def SplitRel (s : ByteArray) (w : World) (k : Nat) (v : Value) (W : List ByteArray) (w' : World) : Prop :=
  w'.ownsRow w.heap.size 9 1 v W.length (strsOf W) ∧ Below w.heap.size w w' ∧ splitB s 0 = W ++ splitB s k
theorem SplitRel.more {s : ByteArray} {w : World} {k : Nat} {v v' : Value} {W : List ByteArray} {w1 w2 w3 : World} (h : SplitRel s w k v W w1) (hk : k ≤ s.size) (he : wordEndOf s.data.toList k < s.size) (hb : Below w1.heap.size w1 w2)
    (ho : w3.ownsRow w.heap.size 9 1 v' (W.length + 1) (strsOf W ++ [.string (s.extract k (wordEndOf s.data.toList k))])) (hb2 : Below w.heap.size w2 w3) : SplitRel s w (wordEndOf s.data.toList k + 1) v' (W ++ [s.extract k (wordEndOf s.data.toList k)]) w3 := by
  obtain ⟨h1, h2, h3⟩ := h
  refine ⟨by rw [strsOf_snoc, List.length_append, List.length_singleton]; exact ho, (h2.trans (hb.mono h2.size)).trans hb2, ?_⟩
  rw [h3, splitB_more hk he]; simp
theorem SplitRel.done {s : ByteArray} {w : World} {k : Nat} {v v' : Value} {W : List ByteArray} {w1 w2 w3 : World} (h : SplitRel s w k v W w1) (he : ¬ wordEndOf s.data.toList k < s.size) (hb : Below w1.heap.size w1 w2)
    (ho : w3.ownsRow w.heap.size 9 1 v' (W.length + 1) (strsOf W ++ [.string (s.extract k (wordEndOf s.data.toList k))])) (hb2 : Below w.heap.size w2 w3) : Words w (splitB s 0) (.returned v') w3 := by
  obtain ⟨h1, h2, h3⟩ := h
  rw [h3, splitB_last he]
  exact ⟨v', rfl, by rw [strsOf_snoc, List.length_append, List.length_singleton]; exact ho, (h2.trans (hb.mono h2.size)).trans hb2⟩
theorem split_any (s : ByteArray) (w : World) (hs : s.size ≤ 16777216) : Calls Tryz.prog 98 #[.string s] w (Words w (splitB s 0)) := by
  obtain ⟨i0, hi0, hz0, hz1, hz2⟩ := info_parts str_info
  have hlen : s.data.toList.length = s.size := by simp
  have hml : s.size ≤ 9223372036854775807 := by omega
  have HL := Lib.hid hlen
  clear hlen
  go_enter Tryz.func98, Tryz.ntmps98
  go_wp2_with fail
  go_loopw [3, 4] (fun v i wr => ∃ (k : Nat) (W : List ByteArray), i = .int .i64 (k : Int) ∧ k ≤ s.size ∧ W.length ≤ k ∧ SplitRel s w k v W wr) (fun _ i _ => s.size - (intOf i).toNat)
  case atStart => exact ⟨0, [], rfl, Nat.zero_le _, Nat.le_refl _, ⟨rfl, .inl ⟨rfl, rfl⟩⟩, Below.refl _ _, by simp⟩
  case round =>
    obtain ⟨k, W, rfl, hk, hW, hr⟩ := hrel
    obtain ⟨e1, e2⟩ := wordEnd_bound s.data.toList (k := k) (by have := HL.out; omega)
    have e3 : wordEndOf s.data.toList k ≤ s.size := by have := HL.out; omega
    have E := Lib.hid (fun w => wordEnd_any s k w hs hk)
    have hown := Lib.hid hr.1
    have hbw := hr.2.1
    have HM := Lib.hid (fun he v' w2 w3 => SplitRel.more (v' := v') (w2 := w2) (w3 := w3) hr hk he)
    have HE := Lib.hid (fun he v' w2 w3 => SplitRel.done (v' := v') (w2 := w2) (w3 := w3) hr he)
    clear hr e2
    generalize wordEndOf s.data.toList k = n at *
    have hn1 : (k : Int) ≤ n := by omega
    have hn2 : (n : Int) ≤ s.size := by omega
    by_cases he : n < s.size
    · have b1 : ((n : Int) == (s.size : Int)) = false := beq_eq_false_iff_ne.2 (by omega)
      have HM := Lib.hid (HM.out he)
      clear HE
      go_wp2_with (first | (go_at_call 135; refine (E.out _).mono ?_; rintro e w1 ⟨rfl, hb1⟩) | (at_builtin; go_must (refine wpList_append_one rfl (.tmp 9) (.tmp 14) _ rfl w.heap.size 9 i0 _ 16 Tryz.underlying26 hi0 hz0 hz1 hz2 rfl 9 (.string (s.extract k n)) rfl _ W.length (strsOf W) rfl (own_later hown.out hb1) rfl (by simp only [maxLen]; omega) (by omega) (Nat.le_trans hbw.size hb1.size) ?_; intro v1 w2 ho1 hb2)))
      go_roundw
      case rel => exact ⟨n + 1, W ++ [s.extract k n], by go_num, by omega, by simp; omega, HM.out v1 w1 w2 hb1 ho1 hb2⟩
      case measure => simp [intOf]; omega
    · have b1 : ((n : Int) == (s.size : Int)) = true := beq_iff_eq.2 (by omega)
      have HE := Lib.hid (HE.out he)
      clear HM
      go_wp2_with (first | (go_at_call 135; refine (E.out _).mono ?_; rintro e w1 ⟨rfl, hb1⟩) | (at_builtin; go_must (refine wpList_append_one rfl (.tmp 9) (.tmp 14) _ rfl w.heap.size 9 i0 _ 16 Tryz.underlying26 hi0 hz0 hz1 hz2 rfl 9 (.string (s.extract k n)) rfl _ W.length (strsOf W) rfl (own_later hown.out hb1) rfl (by simp only [maxLen]; omega) (by omega) (Nat.le_trans hbw.size hb1.size) ?_; intro v1 w2 ho1 hb2)))
      go_ret
      exact HE.out v1 w1 w2 hb1 ho1 hb2
end Go.Proofs.YtmmffeldlhofiaaGreatDoor
end
section
namespace Punnet.Name
set_option maxRecDepth 10000
def signOf (c : UInt8) : List UInt8 := if plainB c then [c] else [92, hexOf (c.toNat / 16), hexOf (c.toNat % 16)]
theorem hexD_hexOf {n : Nat} (h : n < 16) : hexD (hexOf n) = some n := by
  unfold hexD hexOf
  by_cases h1 : n < 10
  · rw [if_pos h1, UInt8.toNat_ofNat', Nat.mod_eq_of_lt (by omega), if_pos (by omega)]
    congr 1
    omega
  · rw [if_neg h1, UInt8.toNat_ofNat', Nat.mod_eq_of_lt (by omega), if_neg (by omega), if_pos (by omega)]
    congr 1
    omega
theorem hexOf_hexD {c : UInt8} {n : Nat} (h : hexD c = some n) : hexOf n = c ∧ n < 16 := by
  unfold hexD at h
  split at h
  · injection h with h
    refine ⟨?_, by omega⟩
    unfold hexOf
    apply UInt8.toNat_inj.1
    rw [if_pos (by omega), UInt8.toNat_ofNat']; omega
  · split at h
    · injection h with h
      refine ⟨?_, by omega⟩
      unfold hexOf
      apply UInt8.toNat_inj.1
      rw [if_neg (by omega), UInt8.toNat_ofNat']; omega
    · cases h
theorem code2_of {c : UInt8} (h : plainB c = false) : code2 (hexOf (c.toNat / 16)) (hexOf (c.toNat % 16)) = some c := by
  have hc := c.toNat_lt
  unfold code2
  rw [hexD_hexOf (by omega), hexD_hexOf (by omega)]
  simp only
  have e : UInt8.ofNat (16 * (c.toNat / 16) + c.toNat % 16) = c := by
    rw [Nat.div_add_mod]; simp
  rw [e, h]
  rfl
theorem code2_inv {a b c : UInt8} (h : code2 a b = some c) : plainB c = false ∧ a = hexOf (c.toNat / 16) ∧ b = hexOf (c.toNat % 16) := by
  unfold code2 at h
  cases h1 : hexD a with
  | none => rw [h1] at h; cases h
  | some x =>
    cases h2 : hexD b with
    | none => rw [h1, h2] at h; cases h
    | some y =>
      rw [h1, h2] at h
      simp only at h
      split at h
      · cases h
      · rename_i hp
        injection h with h
        obtain ⟨e1, l1⟩ := hexOf_hexD h1
        obtain ⟨e2, l2⟩ := hexOf_hexD h2
        have hx : c.toNat = 16 * x + y := by rw [← h, UInt8.toNat_ofNat']; omega
        refine ⟨by rw [← h]; simpa using hp, ?_, ?_⟩
        · rw [hx, show (16 * x + y) / 16 = x by omega, e1]
        · rw [hx, show (16 * x + y) % 16 = y by omega, e2]
theorem plain_ne {c : UInt8} (h : plainB c = true) : c.toNat ≠ 92 ∧ c.toNat ≠ 34 := by
  unfold plainB at h
  simp only [Bool.and_eq_true, decide_eq_true_iff] at h
  exact ⟨h.2, h.1.2⟩
theorem sign_signOf (c : UInt8) (r : List UInt8) : sign (signOf c ++ r) = some (c, (signOf c).length - 1) := by
  unfold signOf
  cases hp : plainB c with
  | true =>
    rw [if_pos rfl]
    show sign (c :: r) = _
    rw [sign, if_neg (plain_ne hp).1, if_pos hp]; rfl
  | false =>
    rw [if_neg (by decide)]
    show sign (92 :: hexOf (c.toNat / 16) :: hexOf (c.toNat % 16) :: r) = _
    rw [sign, if_pos (show (92 : UInt8).toNat = 92 from rfl), coded, code2_of hp]; rfl
theorem sign_inv {m : List UInt8} {c : UInt8} {n : Nat} (h : sign m = some (c, n)) : ∃ r, m = signOf c ++ r ∧ n + 1 = (signOf c).length := by
  match m, h with
  | [], h => cases h
  | x :: r, h =>
    rw [sign] at h
    split at h
    · rename_i h92
      have e92 : x = 92 := UInt8.toNat_inj.1 h92
      subst e92
      match r, h with
      | [], h => cases h
      | [_], h => cases h
      | a :: b :: r', h =>
        rw [coded] at h
        cases hc : code2 a b with
        | none => rw [hc] at h; cases h
        | some y =>
          rw [hc] at h
          injection h with h
          injection h with h1 h2
          subst h1 h2
          obtain ⟨hp, e1, e2⟩ := code2_inv hc
          refine ⟨r', ?_, ?_⟩
          · unfold signOf; rw [hp, if_neg (by decide), e1, e2]; rfl
          · unfold signOf; rw [hp, if_neg (by decide)]; rfl
    · split at h
      · rename_i hp
        injection h with h
        injection h with h1 h2
        subst h1 h2
        refine ⟨r, ?_, ?_⟩
        · unfold signOf; rw [hp, if_pos rfl]; rfl
        · unfold signOf; rw [hp, if_pos rfl]; rfl
      · cases h
theorem signOf_pos (c : UInt8) : 1 ≤ (signOf c).length ∧ (signOf c).length ≤ 3 := by
  unfold signOf; split <;> simp
end Punnet.Name
end
section
namespace Go.Proofs.YtmmffeldlhofiaaGreatDoor
set_option maxRecDepth 10000
open Go.RowKit Punnet.Name
theorem conv_byte (W : World) (d : UInt8) (z : Int) (hz : z = d.toNat) (t : TypeId) :
    (convert 133 9 (.slice (some ⟨W.heap.size, 0, none⟩) 1 1)).run Tryz.prog (W.alloc (.cells #[.int .u8 z] t)) = .ok (.string ⟨#[d]⟩) (W.alloc (.cells #[.int .u8 z] t)) := by
  subst hz
  refine run_convert_bytes_back _ 133 9 5 _ _ [d] Tryz.underlying133 Tryz.underlying5 Tryz.underlying9 fun j hj => ?_
  obtain rfl : j = 0 := by simpa using hj
  exact World.cell?_alloc_new _ _ _ _
theorem hex_any (n : Int) (h0 : 0 ≤ n) (h1 : n < 16) (w : World) : Calls Tryz.prog 146 #[.int .u8 n] w fun e w' => e = .returned (.string ⟨#[hexOf n.toNat]⟩) ∧ Below w.heap.size w w' := by
  by_cases h : n < 10
  · have hcv := fun W t => conv_byte W (hexOf n.toNat) (48 + n) (by unfold hexOf; rw [if_pos (by omega), UInt8.toNat_ofNat']; omega) t
    generalize hexOf n.toNat = d at *
    go_enter Tryz.func146, Tryz.ntmps146
    go_wp2
    go_ret
    exact ⟨rfl, (Below.refl _ _).alloc (Nat.le_refl _) _⟩
  · have hcv := fun W t => conv_byte W (hexOf n.toNat) (87 + n) (by unfold hexOf; rw [if_neg (by omega), UInt8.toNat_ofNat']; omega) t
    generalize hexOf n.toNat = d at *
    go_enter Tryz.func146, Tryz.ntmps146
    go_wp2
    go_ret
    exact ⟨rfl, (Below.refl _ _).alloc (Nat.le_refl _) _⟩
def byteB (c : UInt8) : ByteArray := ⟨(signOf c).toArray⟩
theorem byteB_data (c : UInt8) : (byteB c).data.toList = signOf c := by simp [byteB]
theorem byteB_size (c : UInt8) : (byteB c).size = (signOf c).length := by rw [← byteB_data]; simp
set_option maxHeartbeats 800000 in
theorem byte_any (c : UInt8) (w : World) : Calls Tryz.prog 119 #[.int .u8 (c.toNat : Int)] w fun e w' => e = .returned (.string (byteB c)) ∧ Below w.heap.size w w' := by
  have hc := c.toNat_lt
  have H := Lib.hid (show plainB c = (decide (32 ≤ c.toNat) && decide (c.toNat ≤ 126) && decide (c.toNat ≠ 34) && decide (c.toNat ≠ 92)) from rfl)
  cases hp : plainB c with
  | true =>
    have HB := Lib.hid (show byteB c = ⟨#[c]⟩ by unfold byteB signOf; rw [hp]; rfl)
    rw [H.out] at hp
    simp only [Bool.and_eq_true, decide_eq_true_iff] at hp
    obtain ⟨⟨⟨h1, h2⟩, h3⟩, h4⟩ := hp
    have b3 : ((c.toNat : Int) == 34) = false := beq_eq_false_iff_ne.2 (by omega)
    have b4 : ((c.toNat : Int) == 92) = false := beq_eq_false_iff_ne.2 (by omega)
    have hcv := fun W t => conv_byte W c (c.toNat : Int) rfl t
    clear H h3 h4
    go_enter Tryz.func119, Tryz.ntmps119
    go_wp2_with fail
    go_ret
    exact ⟨by rw [HB.out]; rfl, (Below.refl _ _).alloc (Nat.le_refl _) _⟩
  | false =>
    have HB := Lib.hid (show byteB c = ⟨#[92]⟩ ++ ⟨#[hexOf (c.toNat / 16)]⟩ ++ ⟨#[hexOf (c.toNat % 16)]⟩ by unfold byteB signOf; rw [hp]; rfl)
    have X1 := Lib.hid (hex_any ((c.toNat : Int) / 16) (by omega) (by omega))
    have X2 := Lib.hid (hex_any ((c.toNat : Int) % 16) (by omega) (by omega))
    rw [show ((c.toNat : Int) / 16).toNat = c.toNat / 16 by omega] at X1
    rw [show ((c.toNat : Int) % 16).toNat = c.toNat % 16 by omega] at X2
    have key : c.toNat < 32 ∨ (32 ≤ c.toNat ∧ 126 < c.toNat) ∨ (32 ≤ c.toNat ∧ c.toNat ≤ 126 ∧ ((c.toNat : Int) == 34) = true) ∨ (32 ≤ c.toNat ∧ c.toNat ≤ 126 ∧ ((c.toNat : Int) == 34) = false ∧ ((c.toNat : Int) == 92) = true) := by
      rw [H.out] at hp
      by_cases h1 : 32 ≤ c.toNat
      · by_cases h2 : c.toNat ≤ 126
        · by_cases h3 : c.toNat = 34
          · right; right; left; exact ⟨h1, h2, beq_iff_eq.2 (by omega)⟩
          · right; right; right
            refine ⟨h1, h2, beq_eq_false_iff_ne.2 (by omega), beq_iff_eq.2 ?_⟩
            by_cases h4 : c.toNat = 92
            · omega
            · simp [h1, h2, h3, h4] at hp
        · right; left; omega
      · left; omega
    clear H hp
    generalize hexOf (c.toNat / 16) = d1 at *
    generalize hexOf (c.toNat % 16) = d2 at *
    rcases key with h | ⟨h, h'⟩ | ⟨h, h', h''⟩ | ⟨h, h', h'', h3⟩
    all_goals
      go_enter Tryz.func119, Tryz.ntmps119
      go_wp2_with fail
      refine (X1.out _).mono ?_
      rintro e w1 ⟨rfl, hb1⟩
      go_wp2_with fail
      refine (X2.out _).mono ?_
      rintro e w2 ⟨rfl, hb2⟩
      go_wp2_with fail
      go_ret
      exact ⟨by rw [HB.out]; rfl, below_two hb1 hb2⟩
end Go.Proofs.YtmmffeldlhofiaaGreatDoor
end
section
namespace Go.Proofs.YtmmffeldlhofiaaGreatDoor
set_option maxRecDepth 10000
open Go.RowKit Punnet.Name
theorem byteN_any (n : Nat) (h : n < 256) (w : World) : Calls Tryz.prog 119 #[.int .u8 (n : Int)] w fun e w' => e = .returned (.string (byteB (UInt8.ofNat n))) ∧ Below w.heap.size w w' := by
  have := byte_any (UInt8.ofNat n) w
  rw [show ((UInt8.ofNat n).toNat : Int) = (n : Int) by rw [UInt8.toNat_ofNat']; omega] at this
  exact this
theorem match_iff (s : ByteArray) (k : Nat) (hk : k < s.size) (x : UInt8) :
    (k + (byteB x).size ≤ s.size ∧ ((s.extract k (k + (byteB x).size)).toList == (byteB x).toList) = true) ↔ sign (s.data.toList.drop k) = some (x, (byteB x).size - 1) := by
  rw [byteB_size, Lib.toList_data, Lib.toList_data, Lib.extract_data, byteB_data, beq_iff_eq]
  have hlen : s.data.toList.length = s.size := by simp
  constructor
  · rintro ⟨h1, h2⟩
    have h3 : s.data.toList.drop k = signOf x ++ (s.data.toList.drop k).drop (signOf x).length := by
      conv => lhs; rw [← List.take_append_drop (signOf x).length (s.data.toList.drop k)]
      rw [show k + (signOf x).length - k = (signOf x).length by omega] at h2
      rw [h2]
    rw [h3]
    exact sign_signOf x _
  · intro h
    obtain ⟨r, h1, h2⟩ := sign_inv h
    have hl := congrArg List.length h1
    rw [List.length_drop, List.length_append] at hl
    refine ⟨by omega, ?_⟩
    rw [h1, show k + (signOf x).length - k = (signOf x).length by omega, List.take_left]
theorem signOf_le (c : UInt8) : (signOf c).length ≤ 3 := by unfold signOf; split <;> simp
theorem signOf_pos (c : UInt8) : 1 ≤ (signOf c).length := by unfold signOf; split <;> simp
theorem cat_one (T : List UInt8) (x : UInt8) : (⟨(T ++ [x]).toArray⟩ : ByteArray) = ⟨T.toArray⟩ ++ ⟨#[x]⟩ := by
  rw [ByteArray.ext_iff, ByteArray.data_append]; simp
theorem next_no {r : List UInt8} {C z : Nat} (hq : ∀ n, sign r = some (UInt8.ofNat C, n) → n = z) (hn : ∀ j < C, ∀ n, sign r ≠ some (UInt8.ofNat j, n)) (h : sign r ≠ some (UInt8.ofNat C, z)) : ∀ j < C + 1, ∀ n, sign r ≠ some (UInt8.ofNat j, n) := by
  intro j hj n he
  by_cases e : j = C
  · subst e
    obtain rfl := hq n he
    exact h he
  · exact hn j (by omega) n he
def BRel (s : ByteArray) (k0 : Nat) (w : World) (k : Nat) (T : List UInt8) (w' : World) : Prop :=
  Below w.heap.size w w' ∧ quotedAt s.data.toList k0 = (bodyAt s.data.toList k).map fun p => (T ++ p.1, p.2)
def CRel (s : ByteArray) (w : World) (k : Nat) (T : List UInt8) (a o f c : Value) (w' : World) : Prop :=
  Below w.heap.size w w' ∧ ∃ C : Nat, c = .int .i64 (C : Int) ∧ C ≤ 256 ∧
    ((a = .int .i64 (k : Int) ∧ o = .string ⟨T.toArray⟩ ∧ f = .bool false ∧ ∀ j < C, ∀ n, sign (s.data.toList.drop k) ≠ some (UInt8.ofNat j, n)) ∨
     ∃ (x : UInt8) (n : Nat), a = .int .i64 ((k + n + 1 : Nat) : Int) ∧ o = .string ⟨(T ++ [x]).toArray⟩ ∧ f = .bool true ∧ sign (s.data.toList.drop k) = some (x, n) ∧ k + n + 1 ≤ s.size)
def Begun (s : ByteArray) (k0 : Nat) (w : World) (e : Ending) (w' : World) : Prop :=
  Below w.heap.size w w' ∧ ((quotedAt s.data.toList k0 = none ∧ e = .returned (.tuple #[.string ⟨#[]⟩, .int .i64 0, .bool false])) ∨
  ∃ (t : List UInt8) (n : Nat), quotedAt s.data.toList k0 = some (t, n) ∧ e = .returned (.tuple #[.string ⟨t.toArray⟩, .int .i64 (n : Int), .bool true]))
set_option maxHeartbeats 2000000 in
theorem begins_go (s : ByteArray) (k0 : Nat) (w : World) (hs : s.size ≤ 16777216) (hk0 : k0 < s.size) (hq : s[k0].toNat = 34) :
    Calls Tryz.prog 100 #[.string s, .int .i64 (k0 : Int)] w (Begun s k0 w) := by
  have hk0' : ¬ (s.size : Int) ≤ k0 := by omega
  have b34 : ((s[k0].toNat : Int) != 34) = false := by rw [bne_eq_false_iff_eq]; omega
  have hml : s.size ≤ 9223372036854775807 := by omega
  have hstart : quotedAt s.data.toList k0 = bodyAt s.data.toList (k0 + 1) := by
    rw [quotedAt, dif_pos (by simpa using hk0), if_pos (by rw [get_data s k0 hk0]; exact hq)]
  have HS := Lib.hid hstart
  clear hq hstart
  go_enter Tryz.func100, Tryz.ntmps100
  go_wp2_with fail
  go_loopw [1, 7] (fun a o wr => ∃ (k : Nat) (T : List UInt8), a = .int .i64 (k : Int) ∧ o = .string ⟨T.toArray⟩ ∧ k ≤ s.size ∧ T.length ≤ k ∧ BRel s k0 w k T wr) (fun a _ _ => s.size - (intOf a).toNat)
  case atStart => exact ⟨k0 + 1, [], by go_num, rfl, by omega, by simp, Below.refl _ _, by rw [HS.out]; simp⟩
  case round =>
    obtain ⟨k, T, rfl, rfl, hk, hT, hr⟩ := hrel
    obtain ⟨wo, rfl⟩ : ∃ wo : World, wo = wr := ⟨_, rfl⟩
    have hbw := hr.1
    have HB := Lib.hid hr.2
    clear hr hk0' b34
    by_cases hlt : k < s.size
    · have hlt' : (k : Int) < s.size := by omega
      have hl : k < s.data.toList.length := by simpa using hlt
      by_cases h34 : s[k].toNat = 34
      · have b1 : ((s[k].toNat : Int) == 34) = true := beq_iff_eq.2 (by omega)
        have HE := Lib.hid (show quotedAt s.data.toList k0 = some (T, k + 1) by rw [HB.out, bodyAt_end hl (by rw [get_data s k hlt]; exact h34)]; simp)
        clear h34
        go_wp2_with fail
        go_ret3
        exact ⟨hbw, .inr ⟨T, k + 1, HE.out, rfl⟩⟩
      · have b1 : ((s[k].toNat : Int) == 34) = false := beq_eq_false_iff_ne.2 (by omega)
        have g34 : s.data.toList[k].toNat ≠ 34 := by rw [get_data s k hlt]; exact h34
        have HNO := Lib.hid (fun h => show quotedAt s.data.toList k0 = none by rw [HB.out, bodyAt_none hl g34 h]; rfl)
        have HYES := Lib.hid (fun x n (h : sign (s.data.toList.drop k) = some (x, n)) => show quotedAt s.data.toList k0 = (bodyAt s.data.toList (k + n + 1)).map fun p => (T ++ [x] ++ p.1, p.2) by
          rw [HB.out, bodyAt_some hl g34 h]
          cases bodyAt s.data.toList (k + n + 1) with
          | none => rfl
          | some p => simp)
        clear h34 g34 HB
        go_wp2_with fail
        go_loopw [1, 7, 8, 9] (fun a o f c wr => CRel s w k T a o f c wr) (fun _ _ _ c _ => 257 - (intOf c).toNat)
        case atStart => exact ⟨hbw, 0, rfl, by omega, .inl ⟨rfl, rfl, rfl, fun j hj => absurd hj (by omega)⟩⟩
        case round =>
          obtain ⟨hbc, C, rfl, hC, h⟩ := hrel
          rcases h with ⟨rfl, rfl, rfl, hn⟩ | ⟨x, n, rfl, rfl, rfl, hx, hle⟩
          · by_cases hc : C < 256
            · have hc' : (C : Int) < 256 := by omega
              have XB := Lib.hid (byteN_any C hc)
              have hcv := fun W t => conv_byte W (UInt8.ofNat C) (C : Int) (by rw [UInt8.toNat_ofNat']; omega) t
              have hm := match_iff s k hlt (UInt8.ofNat C)
              have hz1 : (byteB (UInt8.ofNat C)).size ≤ 3 := by rw [byteB_size]; exact signOf_le _
              have hz0 : 1 ≤ (byteB (UInt8.ofNat C)).size := by rw [byteB_size]; exact signOf_pos _
              have HQ : ∀ n, sign (s.data.toList.drop k) = some (UInt8.ofNat C, n) → n = (byteB (UInt8.ofNat C)).size - 1 := fun n h => by rw [byteB_size]; obtain ⟨r, h1, h2⟩ := sign_inv h; omega
              generalize byteB (UInt8.ofNat C) = q at *
              have HN := Lib.hid hn
              clear hn
              by_cases h1 : k + q.size ≤ s.size
              · have h1' : (k : Int) + q.size ≤ s.size := by omega
                cases h2 : ((s.extract k (k + q.size)).toList == q.toList) with
                | true =>
                  have HM := Lib.hid (hm.1 ⟨h1, h2⟩)
                  clear hm HQ
                  go_wp2_with (go_at_call 119; refine (XB.out _).mono ?_; rintro e w1 ⟨rfl, hb1⟩)
                  go_roundw
                  case rel =>
                    refine ⟨?_, C + 1, by go_num, by omega, .inr ⟨UInt8.ofNat C, q.size - 1, ?_, ?_, rfl, HM.out, by omega⟩⟩
                    · exact (hbc.trans (hb1.mono hbc.size)).alloc (Nat.le_trans hbc.size hb1.size) _
                    · congr 1; omega
                    · rw [cat_one]
                  case measure => simp [intOf]; omega
                | false =>
                  have HM := Lib.hid (next_no HQ HN.out fun h => by rw [(hm.2 h).2] at h2; cases h2)
                  clear hm HQ
                  go_wp2_with (go_at_call 119; refine (XB.out _).mono ?_; rintro e w1 ⟨rfl, hb1⟩)
                  go_roundw
                  case rel => exact ⟨hbc.trans (hb1.mono hbc.size), C + 1, by go_num, by omega, .inl ⟨rfl, rfl, rfl, HM.out⟩⟩
                  case measure => simp [intOf]; omega
              · have h1' : ¬ (k : Int) + q.size ≤ s.size := by omega
                have HM := Lib.hid (next_no HQ HN.out fun h => h1 (hm.2 h).1)
                clear hm HQ h1 HNO HYES
                have b2 : decide ((k : Int) + (q.size : Int) ≤ (s.size : Int)) = false := decide_eq_false h1'
                clear h1'
                go_wp2_with (go_at_call 119; refine (XB.out _).mono ?_; rintro e w1 ⟨rfl, hb1⟩)
                go_roundw
                case rel => exact ⟨hbc.trans (hb1.mono hbc.size), C + 1, by go_num, by omega, .inl ⟨rfl, rfl, rfl, HM.out⟩⟩
                case measure => simp [intOf]; omega
            · have hc' : ¬ (C : Int) < 256 := by omega
              have hC2 : 256 ≤ C := by omega
              have HE := Lib.hid (HNO.out (by
                cases h : sign (s.data.toList.drop k) with
                | none => rfl
                | some p => obtain ⟨x, n⟩ := p; exact absurd (by rw [h, UInt8.ofNat_toNat]) (hn x.toNat (by have := x.toNat_lt; omega) n)))
              clear hn
              go_wp2_with fail
              go_ret3
              exact ⟨hbc, .inl ⟨HE.out, rfl⟩⟩
          · have HY := Lib.hid (HYES.out x n hx)
            by_cases hc : C < 256
            · have hc' : (C : Int) < 256 := by omega
              go_wp2_with fail
              go_roundw
              case rel => exact ⟨k + n + 1, T ++ [x], rfl, rfl, hle, by simp; omega, hbc, HY.out⟩
              case measure => simp [intOf]; omega
            · have hc' : ¬ (C : Int) < 256 := by omega
              go_wp2_with fail
              go_roundw
              case rel => exact ⟨k + n + 1, T ++ [x], rfl, rfl, hle, by simp; omega, hbc, HY.out⟩
              case measure => simp [intOf]; omega
    · have hlt' : ¬ (k : Int) < s.size := by omega
      have HE := Lib.hid (show quotedAt s.data.toList k0 = none by rw [HB.out, bodyAt_out (by simpa using hlt)]; rfl)
      go_wp2_with fail
      go_ret3
      exact ⟨hbw, .inl ⟨HE.out, rfl⟩⟩
theorem begins_no (s : ByteArray) (k0 : Nat) (w : World) (hs : s.size ≤ 16777216) (h : ∀ hk : k0 < s.size, s[k0].toNat ≠ 34) :
    Calls Tryz.prog 100 #[.string s, .int .i64 (k0 : Int)] w (Begun s k0 w) := by
  have hq : quotedAt s.data.toList k0 = none := by
    unfold quotedAt
    split
    · rename_i hk
      have hk' : k0 < s.size := by simpa using hk
      rw [if_neg (by rw [get_data s k0 hk']; exact h hk')]
    · rfl
  have HQ := Lib.hid hq
  clear hq
  by_cases hk : k0 < s.size
  · have hk' : ¬ (s.size : Int) ≤ k0 := by omega
    have h1 := h hk
    have b34 : ((s[k0].toNat : Int) != 34) = true := by rw [bne_iff_ne]; omega
    clear h h1
    go_enter Tryz.func100, Tryz.ntmps100
    go_wp2_with fail
    go_ret3
    exact ⟨Below.refl _ _, .inl ⟨HQ.out, rfl⟩⟩
  · have hk' : (s.size : Int) ≤ k0 := by omega
    clear h
    go_enter Tryz.func100, Tryz.ntmps100
    go_wp2_with fail
    go_ret3
    exact ⟨Below.refl _ _, .inl ⟨HQ.out, rfl⟩⟩
theorem begins_any (s : ByteArray) (k0 : Nat) (w : World) (hs : s.size ≤ 16777216) :
    Calls Tryz.prog 100 #[.string s, .int .i64 (k0 : Int)] w (Begun s k0 w) := by
  by_cases h : ∃ hk : k0 < s.size, s[k0].toNat = 34
  · obtain ⟨hk, h34⟩ := h
    exact begins_go s k0 w hs hk h34
  · exact begins_no s k0 w hs fun hk h34 => h ⟨hk, h34⟩
end Go.Proofs.YtmmffeldlhofiaaGreatDoor
end
section
namespace Go.Proofs.YtmmffeldlhofiaaGreatDoor
set_option maxRecDepth 10000
open Go.RowKit Punnet.Name
set_option maxHeartbeats 4000000 in
theorem refSplit_any (s : ByteArray) (w : World) (hs : s.size ≤ 16777216) : Calls Tryz.prog 55 #[.string s] w (Words w (splitB s 0)) := by
  obtain ⟨i0, hi0, hz0, hz1, hz2⟩ := info_parts str_info
  have hlen : s.data.toList.length = s.size := by simp
  have hml : s.size ≤ 9223372036854775807 := by omega
  have HL := Lib.hid hlen
  clear hlen
  go_enter Tryz.func55, Tryz.ntmps55
  go_wp2_with fail
  go_loopw [3, 4] (fun v i wr => ∃ (k : Nat) (W : List ByteArray), i = .int .i64 (k : Int) ∧ k ≤ s.size ∧ W.length ≤ k ∧ SplitRel s w k v W wr) (fun _ i _ => s.size - (intOf i).toNat)
  case atStart => 
    refine ⟨0, [], rfl, Nat.zero_le _, Nat.le_refl _, ?_, ?_, by simp⟩
    · exact ⟨rfl, .inr ⟨w.heap.size, 0, #[], rfl, Nat.le_refl _, heap_alloc_new _ _, Nat.le_refl _, by simp [maxLen], rfl, rfl⟩⟩
    · exact (Below.refl _ _).alloc (Nat.le_refl _) _
  case round =>
    obtain ⟨k, W, rfl, hk, hW, hr⟩ := hrel
    have hown := Lib.hid hr.1
    have hbw := hr.2.1
    have HM := Lib.hid (fun he v' w2 w3 => SplitRel.more (v' := v') (w2 := w2) (w3 := w3) hr hk he)
    have HD := Lib.hid (fun he v' w2 w3 => SplitRel.done (v' := v') (w2 := w2) (w3 := w3) hr he)
    clear hr
    go_wp2_with fail
    refine (begins_any s k _ hs).mono ?_
    rintro e w1 ⟨hb1, ⟨hq, rfl⟩ | ⟨t, n, hq, rfl⟩⟩
    · have HW := Lib.hid (show wordEndOf s.data.toList k = blankAt s.data.toList k by unfold wordEndOf; rw [hq])
      clear hq
      go_wp2_with fail
      go_loop [6] (fun i => ∃ j : Nat, k ≤ j ∧ j ≤ s.size ∧ i = .int .i64 (j : Int) ∧ ∀ x (h : x < s.size), k ≤ x → x < j → s[x].toNat ≠ 32) (fun i => s.size - (intOf i).toNat)
      case atStart => exact ⟨k, Nat.le_refl _, hk, rfl, fun _ _ h1 h2 => absurd h1 (by omega)⟩
      case round =>
        obtain ⟨j, hj1, hj2, rfl, hd⟩ := hrel
        have HJ := Lib.hid hd
        clear hd
        have hj3 : (k : Int) ≤ j := by omega
        have hj4 : (j : Int) ≤ s.size := by omega
        by_cases hlt : j < s.size
        · have hlt' : (j : Int) < s.size := by omega
          by_cases hb : s[j].toNat = 32
          · have b32 : ((s[j].toNat : Int) != 32) = false := by rw [bne_eq_false_iff_eq]; omega
            have HE := Lib.hid (show wordEndOf s.data.toList k = j by rw [HW.out]; exact blank_eq hj1 hj2 HJ.out (fun _ => hb))
            have be : ((j : Int) == (s.size : Int)) = false := beq_eq_false_iff_ne.2 (by omega)
            clear hb HJ
            have HM2 := Lib.hid (HM.out (by rw [HE.out]; exact hlt))
            rw [HE.out] at HM2
            clear HM HD
            go_wp2_with (at_builtin; go_must (refine wpList_append_one rfl (.tmp 43) (.tmp 48) _ rfl w.heap.size 9 i0 _ 16 Tryz.underlying26 hi0 hz0 hz1 hz2 rfl 9 (.string (s.extract k j)) rfl _ W.length (strsOf W) rfl (own_later hown.out hb1) rfl (by simp only [maxLen]; omega) (by omega) (Nat.le_trans hbw.size hb1.size) ?_; intro v1 w2 ho1 hb2))
            go_roundw
            case rel => exact ⟨j + 1, W ++ [s.extract k j], by go_num, by omega, by simp; omega, HM2.out v1 w1 w2 hb1 ho1 hb2⟩
            case measure => simp [intOf]; omega
          · have b32 : ((s[j].toNat : Int) != 32) = true := by rw [bne_iff_ne]; omega
            have HD2 := Lib.hid (show ∀ x (h : x < s.size), k ≤ x → x < j + 1 → s[x].toNat ≠ 32 from fun x h h1 h2 => by
              by_cases e : x = j
              · subst e; exact hb
              · exact HJ.out x h h1 (by omega))
            clear hb
            go_wp2_with fail
            go_round
            case rel => exact ⟨j + 1, by omega, by omega, by go_num, HD2.out⟩
            case measure => simp [intOf]; omega
        · have hlt' : ¬ (j : Int) < s.size := by omega
          have HE := Lib.hid (show wordEndOf s.data.toList k = j by rw [HW.out]; exact blank_eq hj1 hj2 HJ.out (fun h => absurd h hlt))
          have be : ((j : Int) == (s.size : Int)) = true := beq_iff_eq.2 (by omega)
          clear HJ
          have HD2 := Lib.hid (HD.out (by rw [HE.out]; omega))
          rw [HE.out] at HD2
          clear HM HD
          go_wp2_with (at_builtin; go_must (refine wpList_append_one rfl (.tmp 43) (.tmp 48) _ rfl w.heap.size 9 i0 _ 16 Tryz.underlying26 hi0 hz0 hz1 hz2 rfl 9 (.string (s.extract k j)) rfl _ W.length (strsOf W) rfl (own_later hown.out hb1) rfl (by simp only [maxLen]; omega) (by omega) (Nat.le_trans hbw.size hb1.size) ?_; intro v1 w2 ho1 hb2))
          go_ret
          exact HD2.out v1 w1 w2 hb1 ho1 hb2
    · have hle := quotedAt_le hq
      have hlen := HL.out
      have hn : n ≤ s.size := by omega
      have hwe : wordEndOf s.data.toList k = if n = s.size ∨ s.data.toList[n]? = some 32 then n else blankAt s.data.toList k := by unfold wordEndOf; rw [hq, hlen]
      have hj1 : k ≤ n := by omega
      have hj3 : (k : Int) ≤ n := by omega
      have hj4 : (n : Int) ≤ s.size := by omega
      clear hq hle hlen
      by_cases he : n = s.size
      · have HE := Lib.hid (show wordEndOf s.data.toList k = n by rw [hwe, if_pos (.inl he)])
        have be : ((n : Int) == (s.size : Int)) = true := beq_iff_eq.2 (by omega)
        have hlt' : ¬ (n : Int) < s.size := by omega
        have hlt : ¬ n < s.size := by omega
        clear he hwe
        have HD2 := Lib.hid (HD.out (by rw [HE.out]; omega))
        rw [HE.out] at HD2
        clear HM HD
        go_wp2_with (at_builtin; go_must (refine wpList_append_one rfl (.tmp 43) (.tmp 48) _ rfl w.heap.size 9 i0 _ 16 Tryz.underlying26 hi0 hz0 hz1 hz2 rfl 9 (.string (s.extract k n)) rfl _ W.length (strsOf W) rfl (own_later hown.out hb1) rfl (by simp only [maxLen]; omega) (by omega) (Nat.le_trans hbw.size hb1.size) ?_; intro v1 w2 ho1 hb2))
        go_ret
        exact HD2.out v1 w1 w2 hb1 ho1 hb2
      · have be : ((n : Int) == (s.size : Int)) = false := beq_eq_false_iff_ne.2 (by omega)
        have hlt : n < s.size := by omega
        have hlt' : (n : Int) < s.size := by omega
        have hg : s.data.toList[n]? = some s[n] := by rw [List.getElem?_eq_getElem (by simpa using hlt), get_data s n hlt]
        by_cases hb : s[n].toNat = 32
        · have HE := Lib.hid (show wordEndOf s.data.toList k = n by
            rw [hwe, if_pos (.inr (by rw [hg]; congr 1; exact UInt8.toNat_inj.1 hb))])
          have b2 : ((s[n].toNat : Int) != 32) = false := by rw [bne_eq_false_iff_eq]; omega
          clear he hwe hg hb
          have HM2 := Lib.hid (HM.out (by rw [HE.out]; exact hlt))
          rw [HE.out] at HM2
          clear HM HD
          go_wp2_with (at_builtin; go_must (refine wpList_append_one rfl (.tmp 43) (.tmp 48) _ rfl w.heap.size 9 i0 _ 16 Tryz.underlying26 hi0 hz0 hz1 hz2 rfl 9 (.string (s.extract k n)) rfl _ W.length (strsOf W) rfl (own_later hown.out hb1) rfl (by simp only [maxLen]; omega) (by omega) (Nat.le_trans hbw.size hb1.size) ?_; intro v1 w2 ho1 hb2))
          go_roundw
          case rel => exact ⟨n + 1, W ++ [s.extract k n], by go_num, by omega, by simp; omega, HM2.out v1 w1 w2 hb1 ho1 hb2⟩
          case measure => simp [intOf]; omega
        · have HW := Lib.hid (show wordEndOf s.data.toList k = blankAt s.data.toList k by
            rw [hwe, if_neg]
            rintro (h | h)
            · exact he h
            · rw [hg] at h; injection h with h; exact hb (by rw [h]; rfl))
          have b2 : ((s[n].toNat : Int) != 32) = true := by rw [bne_iff_ne]; omega
          clear he hwe hg hb be
          go_wp2_with fail
          go_loop [6] (fun i => ∃ j : Nat, k ≤ j ∧ j ≤ s.size ∧ i = .int .i64 (j : Int) ∧ ∀ x (h : x < s.size), k ≤ x → x < j → s[x].toNat ≠ 32) (fun i => s.size - (intOf i).toNat)
          case atStart => exact ⟨k, Nat.le_refl _, hk, rfl, fun _ _ h1 h2 => absurd h1 (by omega)⟩
          case round =>
            obtain ⟨j, hj1, hj2, rfl, hd⟩ := hrel
            have HJ := Lib.hid hd
            clear hd
            have hj3 : (k : Int) ≤ j := by omega
            have hj4 : (j : Int) ≤ s.size := by omega
            by_cases hlt : j < s.size
            · have hlt' : (j : Int) < s.size := by omega
              by_cases hb : s[j].toNat = 32
              · have b32 : ((s[j].toNat : Int) != 32) = false := by rw [bne_eq_false_iff_eq]; omega
                have HE := Lib.hid (show wordEndOf s.data.toList k = j by rw [HW.out]; exact blank_eq hj1 hj2 HJ.out (fun _ => hb))
                have be : ((j : Int) == (s.size : Int)) = false := beq_eq_false_iff_ne.2 (by omega)
                clear hb HJ
                have HM2 := Lib.hid (HM.out (by rw [HE.out]; exact hlt))
                rw [HE.out] at HM2
                clear HM HD
                go_wp2_with (at_builtin; go_must (refine wpList_append_one rfl (.tmp 43) (.tmp 48) _ rfl w.heap.size 9 i0 _ 16 Tryz.underlying26 hi0 hz0 hz1 hz2 rfl 9 (.string (s.extract k j)) rfl _ W.length (strsOf W) rfl (own_later hown.out hb1) rfl (by simp only [maxLen]; omega) (by omega) (Nat.le_trans hbw.size hb1.size) ?_; intro v1 w2 ho1 hb2))
                go_roundw
                case rel => exact ⟨j + 1, W ++ [s.extract k j], by go_num, by omega, by simp; omega, HM2.out v1 w1 w2 hb1 ho1 hb2⟩
                case measure => simp [intOf]; omega
              · have b32 : ((s[j].toNat : Int) != 32) = true := by rw [bne_iff_ne]; omega
                have HD2 := Lib.hid (show ∀ x (h : x < s.size), k ≤ x → x < j + 1 → s[x].toNat ≠ 32 from fun x h h1 h2 => by
                  by_cases e : x = j
                  · subst e; exact hb
                  · exact HJ.out x h h1 (by omega))
                clear hb
                go_wp2_with fail
                go_round
                case rel => exact ⟨j + 1, by omega, by omega, by go_num, HD2.out⟩
                case measure => simp [intOf]; omega
            · have hlt' : ¬ (j : Int) < s.size := by omega
              have HE := Lib.hid (show wordEndOf s.data.toList k = j by rw [HW.out]; exact blank_eq hj1 hj2 HJ.out (fun h => absurd h hlt))
              have be : ((j : Int) == (s.size : Int)) = true := beq_iff_eq.2 (by omega)
              clear HJ
              have HD2 := Lib.hid (HD.out (by rw [HE.out]; omega))
              rw [HE.out] at HD2
              clear HM HD
              go_wp2_with (at_builtin; go_must (refine wpList_append_one rfl (.tmp 43) (.tmp 48) _ rfl w.heap.size 9 i0 _ 16 Tryz.underlying26 hi0 hz0 hz1 hz2 rfl 9 (.string (s.extract k j)) rfl _ W.length (strsOf W) rfl (own_later hown.out hb1) rfl (by simp only [maxLen]; omega) (by omega) (Nat.le_trans hbw.size hb1.size) ?_; intro v1 w2 ho1 hb2))
              go_ret
              exact HD2.out v1 w1 w2 hb1 ho1 hb2
end Go.Proofs.YtmmffeldlhofiaaGreatDoor
end
section
namespace Go.Proofs.YtmmffeldlhofiaaGreatDoor
set_option maxRecDepth 10000
open Go.RowKit Punnet.Name
theorem row_len {w : World} {base n : Nat} {e : TypeId} {v : Value} {xs : List Value} (h : w.ownsRow base e 1 v n xs) (hn : n = 0) : ∃ a cap, v = .slice a 0 cap := by
  subst hn
  rcases h.2 with ⟨rfl, _⟩ | ⟨g, cap, cur, rfl, _⟩
  · exact ⟨_, _, rfl⟩
  · exact ⟨_, _, rfl⟩
theorem row_cells {w : World} {base : Nat} {e : TypeId} {v : Value} {l : List ByteArray} (h : w.ownsRow base e 1 v l.length (strsOf l)) (hn : 0 < l.length) :
    ∃ g cap, v = .slice (some ⟨g, 0, none⟩) l.length cap ∧ base ≤ g ∧ ∀ j (hj : j < l.length), w.cell? ⟨g, j, none⟩ = some (.string l[j]) := by
  rcases h.2 with ⟨_, h0⟩ | ⟨g, cap, cur, rfl, hb, hg, h1, h2, h3, h4⟩
  · omega
  · refine ⟨g, cap, rfl, hb, fun j hj => ?_⟩
    have h5 : cur.toList[j]? = some (.string l[j]) := by
      have := congrArg (fun x => x[j]?) h4
      simp only [Nat.mul_one] at this
      rw [List.getElem?_take, if_pos hj] at this
      rw [this]; simp [strsOf, hj]
    simp [World.cell?, hg]
    simpa using h5
theorem same_any (l : List ByteArray) (v1 v2 : Value) (b1 b2 : Nat) (w : World) (hl : l.length ≤ 16777216) (h1 : w.ownsRow b1 9 1 v1 l.length (strsOf l)) (h2 : w.ownsRow b2 9 1 v2 l.length (strsOf l)) :
    Calls Tryz.prog 40 #[v1, v2] w fun e w' => e = .returned (.bool true) ∧ ∃ q, w' = w.drewN q := by
  by_cases h0 : l.length = 0
  · obtain ⟨a1, c1, rfl⟩ := row_len h1 h0
    obtain ⟨a2, c2, rfl⟩ := row_len h2 h0
    clear h1 h2 h0
    go_enter Tryz.func40, Tryz.ntmps40
    go_wp2_with fail
    go_loopw [5] (fun i wr => i = .int .i64 0 ∧ wr = w) (fun i _ => 0)
    case atStart => exact ⟨rfl, rfl⟩
    case round =>
      obtain ⟨rfl, rfl⟩ := hrel
      go_wp2_with fail
      go_ret
      exact ⟨rfl, 0, rfl⟩
  · obtain ⟨g1, c1, rfl, hb1, hc1⟩ := row_cells h1 (by omega)
    obtain ⟨g2, c2, rfl, hb2, hc2⟩ := row_cells h2 (by omega)
    clear h1 h2 h0
    have H1 := Lib.hid hc1
    have H2 := Lib.hid hc2
    clear hc1 hc2
    have hne : ((l.length : Int) != (l.length : Int)) = false := by simp
    go_enter Tryz.func40, Tryz.ntmps40
    go_wp2_with fail
    go_loopw [5] (fun i wr => ∃ k q : Nat, k ≤ l.length ∧ i = .int .i64 (k : Int) ∧ wr = w.drewN q) (fun i _ => l.length - (intOf i).toNat)
    case atStart => exact ⟨0, 0, by omega, rfl, rfl⟩
    case round =>
      obtain ⟨k, q, hk, rfl, rfl⟩ := hrel
      by_cases hlt : k < l.length
      · have hlt' : (k : Int) < l.length := by omega
        have hc1 := H1.out k hlt
        have hc2 := H2.out k hlt
        go_wp2_with fail
        go_quiet (fail)
        go_wp2_with fail
        go_roundw
        case rel => exact ⟨k + 1, _, by omega, by go_num, rfl⟩
        case measure => simp [intOf]; omega
      · have hlt' : ¬ (k : Int) < l.length := by omega
        go_wp2_with fail
        go_ret
        exact ⟨rfl, q, rfl⟩
end Go.Proofs.YtmmffeldlhofiaaGreatDoor
end
section
namespace Go.Proofs.YtmmffeldlhofiaaGreatDoor
set_option maxRecDepth 10000
open Go.RowKit Punnet.Name
def okAt (c k : Nat) : Bool := decide (97 ≤ c ∧ c ≤ 122) || (decide (48 ≤ c ∧ c ≤ 57) && decide (k ≠ 0))
def OkTo (s : ByteArray) (k : Nat) : Prop := ∀ j (h : j < s.size), j < k → okAt s[j].toNat j = true
def nameOk (s : ByteArray) : Bool := decide (1 ≤ s.size ∧ s.size ≤ 12) && (List.range s.size).all fun j => okAt (s.data.toList[j]?.getD 0).toNat j
theorem at_data {s : ByteArray} {j : Nat} (h : j < s.size) : s.data.toList[j]?.getD 0 = s[j] := by
  rw [List.getElem?_eq_getElem (by simpa using h), get_list s j h]; rfl
theorem ok_all {s : ByteArray} (h1 : 1 ≤ s.size) (h2 : s.size ≤ 12) (h : OkTo s s.size) : nameOk s = true := by
  unfold nameOk
  rw [Bool.and_eq_true, decide_eq_true_iff, List.all_eq_true]
  refine ⟨⟨h1, h2⟩, fun j hj => ?_⟩
  have hj := List.mem_range.1 hj
  rw [at_data hj]; exact h j hj hj
theorem ok_not {s : ByteArray} {j : Nat} (hj : j < s.size) (h : okAt s[j].toNat j = false) : nameOk s = false := by
  unfold nameOk
  rw [Bool.and_eq_false_iff]
  refine .inr (Bool.eq_false_iff.2 fun ha => ?_)
  have := List.all_eq_true.1 ha j (List.mem_range.2 hj)
  rw [at_data hj, h] at this; cases this
theorem ok_next {s : ByteArray} {k : Nat} (ho : OkTo s k) (hk : k < s.size) (h : okAt s[k].toNat k = true) : OkTo s (k + 1) := by
  intro j hj hjk
  by_cases e : j = k
  · subst e; exact h
  · exact ho j hj (by omega)
set_option maxHeartbeats 2000000 in
theorem name_any (s : ByteArray) (w : World) (hs : s.size ≤ 16777216) : Calls Tryz.prog 109 #[.string s] w fun e w' => e = .returned (.bool (nameOk s)) ∧ Below w.heap.size w w' := by
  have hml : s.size ≤ 9223372036854775807 := by omega
  by_cases h1 : s.size < 1
  · have h1' : (s.size : Int) < 1 := by omega
    have HE := Lib.hid (show nameOk s = false by unfold nameOk; simp; omega)
    go_enter Tryz.func109, Tryz.ntmps109
    go_wp2_with fail
    go_ret
    exact ⟨ret_bool HE.out.symm, Below.refl _ _⟩
  by_cases h2 : 12 < s.size
  · have h1' : ¬ (s.size : Int) < 1 := by omega
    have h2' : (12 : Int) < s.size := by omega
    have HE := Lib.hid (show nameOk s = false by unfold nameOk; simp; omega)
    go_enter Tryz.func109, Tryz.ntmps109
    go_wp2_with fail
    go_ret
    exact ⟨ret_bool HE.out.symm, Below.refl _ _⟩
  have h1' : ¬ (s.size : Int) < 1 := by omega
  have h2' : ¬ (12 : Int) < s.size := by omega
  go_enter Tryz.func109, Tryz.ntmps109
  go_wp2_with fail
  go_loop [16] (fun i => ∃ k : Nat, k ≤ s.size ∧ i = .int .i64 (k : Int) ∧ OkTo s k) (fun i => s.size - (intOf i).toNat)
  case atStart => exact ⟨0, by omega, rfl, fun j hj hh => absurd hh (by omega)⟩
  case round =>
    obtain ⟨k, hk, rfl, ho⟩ := hrel
    have HO := Lib.hid ho
    clear ho
    by_cases hlt : k < s.size
    · have hlt' : (k : Int) < s.size := by omega
      have hcl : (97 ≤ s[k].toNat ∧ s[k].toNat ≤ 122) ∨ 122 < s[k].toNat ∨ (57 < s[k].toNat ∧ s[k].toNat < 97) ∨ (48 ≤ s[k].toNat ∧ s[k].toNat ≤ 57 ∧ k = 0) ∨ (48 ≤ s[k].toNat ∧ s[k].toNat ≤ 57 ∧ k ≠ 0) ∨ s[k].toNat < 48 := by omega
      rcases hcl with hcl | hcl | hcl | hcl | hcl | hcl
      · have hh0 : 97 ≤ (s[k].toNat : Int) := by omega
        have hh1 : (s[k].toNat : Int) ≤ 122 := by omega
        have hh2 : 48 ≤ (s[k].toNat : Int) := by omega
        have hh3 : ¬ (s[k].toNat : Int) ≤ 57 := by omega
        have HO2 := Lib.hid (ok_next HO.out hlt (by simp only [okAt]; simp; omega))
        clear hcl
        go_wp2_with fail
        go_round
        case rel => exact ⟨k + 1, by omega, by go_num, HO2.out⟩
        case measure => simp [intOf]; omega
      · have hh0 : 97 ≤ (s[k].toNat : Int) := by omega
        have hh1 : ¬ (s[k].toNat : Int) ≤ 122 := by omega
        have hh2 : 48 ≤ (s[k].toNat : Int) := by omega
        have hh3 : ¬ (s[k].toNat : Int) ≤ 57 := by omega
        have HE := Lib.hid (show nameOk s = false from ok_not hlt (by simp only [okAt]; simp; omega))
        clear hcl
        go_wp2_with fail
        go_ret
        exact ⟨ret_bool HE.out.symm, Below.refl _ _⟩
      · have hh0 : ¬ 97 ≤ (s[k].toNat : Int) := by omega
        have hh1 : 48 ≤ (s[k].toNat : Int) := by omega
        have hh2 : ¬ (s[k].toNat : Int) ≤ 57 := by omega
        have HE := Lib.hid (show nameOk s = false from ok_not hlt (by simp only [okAt]; simp; omega))
        clear hcl
        go_wp2_with fail
        go_ret
        exact ⟨ret_bool HE.out.symm, Below.refl _ _⟩
      · have hh0 : ¬ 97 ≤ (s[k].toNat : Int) := by omega
        have hh1 : 48 ≤ (s[k].toNat : Int) := by omega
        have hh2 : (s[k].toNat : Int) ≤ 57 := by omega
        have hh3 : ((k : Int) == 0) = true := beq_iff_eq.2 (by omega)
        have HE := Lib.hid (show nameOk s = false from ok_not hlt (by simp only [okAt]; simp; omega))
        clear hcl
        go_wp2_with fail
        go_ret
        exact ⟨ret_bool HE.out.symm, Below.refl _ _⟩
      · have hh0 : ¬ 97 ≤ (s[k].toNat : Int) := by omega
        have hh1 : 48 ≤ (s[k].toNat : Int) := by omega
        have hh2 : (s[k].toNat : Int) ≤ 57 := by omega
        have hh3 : ((k : Int) == 0) = false := beq_eq_false_iff_ne.2 (by omega)
        have HO2 := Lib.hid (ok_next HO.out hlt (by simp only [okAt]; simp; omega))
        clear hcl
        go_wp2_with fail
        go_round
        case rel => exact ⟨k + 1, by omega, by go_num, HO2.out⟩
        case measure => simp [intOf]; omega
      · have hh0 : ¬ 97 ≤ (s[k].toNat : Int) := by omega
        have hh1 : ¬ 48 ≤ (s[k].toNat : Int) := by omega
        have HE := Lib.hid (show nameOk s = false from ok_not hlt (by simp only [okAt]; simp; omega))
        clear hcl
        go_wp2_with fail
        go_ret
        exact ⟨ret_bool HE.out.symm, Below.refl _ _⟩
    · have hlt' : ¬ (k : Int) < s.size := by omega
      have HE := Lib.hid (show nameOk s = true from ok_all (by omega) (by omega) (show OkTo s s.size by have := HO.out; rwa [show k = s.size by omega] at this))
      go_wp2_with fail
      go_ret
      exact ⟨ret_bool HE.out.symm, Below.refl _ _⟩
set_option maxHeartbeats 2000000 in
theorem refName_any (s : ByteArray) (w : World) (hs : s.size ≤ 16777216) : Calls Tryz.prog 64 #[.string s] w fun e w' => e = .returned (.bool (nameOk s)) ∧ Below w.heap.size w w' := by
  have hml : s.size ≤ 9223372036854775807 := by omega
  by_cases h1 : s.size < 1
  · have h1' : (s.size : Int) < 1 := by omega
    have HE := Lib.hid (show nameOk s = false by unfold nameOk; simp; omega)
    go_enter Tryz.func64, Tryz.ntmps64
    go_wp2_with fail
    go_ret
    exact ⟨ret_bool HE.out.symm, Below.refl _ _⟩
  by_cases h2 : 12 < s.size
  · have h1' : ¬ (s.size : Int) < 1 := by omega
    have h2' : (12 : Int) < s.size := by omega
    have HE := Lib.hid (show nameOk s = false by unfold nameOk; simp; omega)
    go_enter Tryz.func64, Tryz.ntmps64
    go_wp2_with fail
    go_ret
    exact ⟨ret_bool HE.out.symm, Below.refl _ _⟩
  have h1' : ¬ (s.size : Int) < 1 := by omega
  have h2' : ¬ (12 : Int) < s.size := by omega
  go_enter Tryz.func64, Tryz.ntmps64
  go_wp2_with fail
  go_loop [3] (fun i => ∃ k : Nat, k ≤ s.size ∧ i = .int .i64 (k : Int) ∧ OkTo s k) (fun i => s.size - (intOf i).toNat)
  case atStart => exact ⟨0, by omega, rfl, fun j hj hh => absurd hh (by omega)⟩
  case round =>
    obtain ⟨k, hk, rfl, ho⟩ := hrel
    have HO := Lib.hid ho
    clear ho
    by_cases hlt : k < s.size
    · have hlt' : (k : Int) < s.size := by omega
      have hcl : (97 ≤ s[k].toNat ∧ s[k].toNat ≤ 122) ∨ 122 < s[k].toNat ∨ (57 < s[k].toNat ∧ s[k].toNat < 97) ∨ (48 ≤ s[k].toNat ∧ s[k].toNat ≤ 57 ∧ k = 0) ∨ (48 ≤ s[k].toNat ∧ s[k].toNat ≤ 57 ∧ k ≠ 0) ∨ s[k].toNat < 48 := by omega
      rcases hcl with hcl | hcl | hcl | hcl | hcl | hcl
      · have hh0 : 97 ≤ (s[k].toNat : Int) := by omega
        have hh1 : (s[k].toNat : Int) ≤ 122 := by omega
        have hh2 : 48 ≤ (s[k].toNat : Int) := by omega
        have hh3 : ¬ (s[k].toNat : Int) ≤ 57 := by omega
        have HO2 := Lib.hid (ok_next HO.out hlt (by simp only [okAt]; simp; omega))
        clear hcl
        go_wp2_with fail
        go_round
        case rel => exact ⟨k + 1, by omega, by go_num, HO2.out⟩
        case measure => simp [intOf]; omega
      · have hh0 : 97 ≤ (s[k].toNat : Int) := by omega
        have hh1 : ¬ (s[k].toNat : Int) ≤ 122 := by omega
        have hh2 : 48 ≤ (s[k].toNat : Int) := by omega
        have hh3 : ¬ (s[k].toNat : Int) ≤ 57 := by omega
        have HE := Lib.hid (show nameOk s = false from ok_not hlt (by simp only [okAt]; simp; omega))
        clear hcl
        go_wp2_with fail
        go_ret
        exact ⟨ret_bool HE.out.symm, Below.refl _ _⟩
      · have hh0 : ¬ 97 ≤ (s[k].toNat : Int) := by omega
        have hh1 : 48 ≤ (s[k].toNat : Int) := by omega
        have hh2 : ¬ (s[k].toNat : Int) ≤ 57 := by omega
        have HE := Lib.hid (show nameOk s = false from ok_not hlt (by simp only [okAt]; simp; omega))
        clear hcl
        go_wp2_with fail
        go_ret
        exact ⟨ret_bool HE.out.symm, Below.refl _ _⟩
      · have hh0 : ¬ 97 ≤ (s[k].toNat : Int) := by omega
        have hh1 : 48 ≤ (s[k].toNat : Int) := by omega
        have hh2 : (s[k].toNat : Int) ≤ 57 := by omega
        have hh3 : ((k : Int) == 0) = true := beq_iff_eq.2 (by omega)
        have HE := Lib.hid (show nameOk s = false from ok_not hlt (by simp only [okAt]; simp; omega))
        clear hcl
        go_wp2_with fail
        go_ret
        exact ⟨ret_bool HE.out.symm, Below.refl _ _⟩
      · have hh0 : ¬ 97 ≤ (s[k].toNat : Int) := by omega
        have hh1 : 48 ≤ (s[k].toNat : Int) := by omega
        have hh2 : (s[k].toNat : Int) ≤ 57 := by omega
        have hh3 : ((k : Int) == 0) = false := beq_eq_false_iff_ne.2 (by omega)
        have HO2 := Lib.hid (ok_next HO.out hlt (by simp only [okAt]; simp; omega))
        clear hcl
        go_wp2_with fail
        go_round
        case rel => exact ⟨k + 1, by omega, by go_num, HO2.out⟩
        case measure => simp [intOf]; omega
      · have hh0 : ¬ 97 ≤ (s[k].toNat : Int) := by omega
        have hh1 : ¬ 48 ≤ (s[k].toNat : Int) := by omega
        have HE := Lib.hid (show nameOk s = false from ok_not hlt (by simp only [okAt]; simp; omega))
        clear hcl
        go_wp2_with fail
        go_ret
        exact ⟨ret_bool HE.out.symm, Below.refl _ _⟩
    · have hlt' : ¬ (k : Int) < s.size := by omega
      have HE := Lib.hid (show nameOk s = true from ok_all (by omega) (by omega) (show OkTo s s.size by have := HO.out; rwa [show k = s.size by omega] at this))
      go_wp2_with fail
      go_ret
      exact ⟨ret_bool HE.out.symm, Below.refl _ _⟩
end Go.Proofs.YtmmffeldlhofiaaGreatDoor
end
section
namespace Go.Proofs.YtmmffeldlhofiaaGreatDoor
set_option maxRecDepth 10000
open Go.RowKit
theorem text_any (s : ByteArray) (w : World) : Calls Tryz.prog 111 #[.string s] w fun e w' => e = .returned (.bool (decide (s.size ≤ 40))) ∧ w = w' := by
 go_enter Tryz.func111, Tryz.ntmps111
 go_wp2_with fail
 go_ret
 exact ⟨ret_bool (by rw [decide_eq_decide]; omega), rfl⟩
end Go.Proofs.YtmmffeldlhofiaaGreatDoor
end
section
namespace Go.Proofs.YtmmffeldlhofiaaGreatDoor
set_option maxRecDepth 10000
open Go.RowKit Punnet.Name
def quoteL (l : List UInt8) : List UInt8 := 34 :: (l.flatMap signOf ++ [34])
def quoteTo (s : ByteArray) (k : Nat) : List UInt8 := 34 :: (s.data.toList.take k).flatMap signOf
theorem quoteTo_succ {s : ByteArray} {k : Nat} (h : k < s.size) : quoteTo s (k + 1) = quoteTo s k ++ signOf s[k] := by
  unfold quoteTo
  rw [List.take_succ_eq_append_getElem (by simpa using h), List.flatMap_append, get_data s k h]
  simp
theorem quoteTo_all {s : ByteArray} : quoteTo s s.size ++ [34] = quoteL s.data.toList := by
  unfold quoteTo quoteL
  rw [List.take_of_length_le (by simp)]; rfl
theorem quoteTo_len {s : ByteArray} {k : Nat} (h : k ≤ s.size) : (quoteTo s k).length ≤ 3 * k + 1 := by
  unfold quoteTo
  induction k with
  | zero => simp
  | succ k ih =>
    have h' : k < s.data.toList.length := by simp; omega
    rw [List.take_succ_eq_append_getElem h', List.flatMap_append]
    have := ih (by omega)
    have h3 := signOf_le (s.data.toList[k]'h')
    simp at this ⊢; simp at h3; omega
theorem refQuote_any (s : ByteArray) (w : World) (hs : s.size ≤ 16777216) : Calls Tryz.prog 69 #[.string s] w fun e w' => e = .returned (.string ⟨(quoteL s.data.toList).toArray⟩) ∧ Below w.heap.size w w' := by
  go_enter Tryz.func69, Tryz.ntmps69
  go_wp2_with fail
  go_loopw [3, 4] (fun q i wr => ∃ k : Nat, k ≤ s.size ∧ i = .int .i64 (k : Int) ∧ q = .string ⟨(quoteTo s k).toArray⟩ ∧ Below w.heap.size w wr) (fun _ i _ => s.size - (intOf i).toNat)
  case atStart => exact ⟨0, by omega, rfl, rfl, Below.refl _ _⟩
  case round =>
    obtain ⟨k, hk, rfl, rfl, hb⟩ := hrel
    by_cases hlt : k < s.size
    · have hlt' : (k : Int) < s.size := by omega
      have HC : Hid ((⟨(quoteTo s (k + 1)).toArray⟩ : ByteArray) = ⟨(quoteTo s k).toArray⟩ ++ byteB s[k]) := by
        show _ = _
        rw [quoteTo_succ hlt, ByteArray.ext_iff, ByteArray.data_append]; simp [byteB]
      have hz : (⟨(quoteTo s k).toArray⟩ : ByteArray).size ≤ 50331649 := by have := quoteTo_len (s := s) (k := k) (by omega); simp [ByteArray.size]; omega
      have hz3 : (byteB s[k]).size ≤ 3 := by rw [byteB_size]; exact signOf_le _
      generalize hq : (⟨(quoteTo s k).toArray⟩ : ByteArray) = q at *
      have HQ := Lib.hid hq
      clear hq
      go_wp2_with fail
      refine (byte_any _ _).mono ?_
      rintro e w1 ⟨rfl, hb1⟩
      go_wp2_with fail
      go_roundw
      case rel => exact ⟨k + 1, by omega, by go_num, by rw [HC.out], hb.trans (hb1.mono hb.size)⟩
      case measure => simp [intOf]; omega
    · have hlt' : ¬ (k : Int) < s.size := by omega
      have HC : Hid ((⟨(quoteL s.data.toList).toArray⟩ : ByteArray) = ⟨(quoteTo s k).toArray⟩ ++ ⟨#[34]⟩) := by
        show _ = _
        rw [← quoteTo_all, show k = s.size by omega, ByteArray.ext_iff, ByteArray.data_append]; simp
      have hz : (⟨(quoteTo s k).toArray⟩ : ByteArray).size ≤ 50331649 := by have := quoteTo_len (s := s) (k := k) (by omega); simp [ByteArray.size]; omega
      generalize hq : (⟨(quoteTo s k).toArray⟩ : ByteArray) = q at *
      have HQ := Lib.hid hq
      clear hq
      go_wp2_with fail
      go_ret
      exact ⟨congrArg Ending.returned (congrArg Value.string HC.out.symm), hb⟩
end Go.Proofs.YtmmffeldlhofiaaGreatDoor
end
section
namespace Go.Proofs.YtmmffeldlhofiaaGreatDoor
set_option maxRecDepth 10000
open Go.RowKit Punnet.Name
theorem digit_at (n : Nat) (h : n < 16) (i : Int) (hi : i = n) (W : World) : (Instr.index 9 (.string ⟨#[48, 49, 50, 51, 52, 53, 54, 55, 56, 57, 97, 98, 99, 100, 101, 102]⟩) (.int .u8 i)).run Tryz.prog W = .ok (.int .u8 ((hexOf n).toNat : Int)) W := by
  subst hi
  rw [run_index_string W 9 _ _ _ Tryz.underlying9, dif_pos ⟨by omega, by show (n : Int) < 16; omega⟩]
  have : ∀ n : Fin 16, ((⟨#[48, 49, 50, 51, 52, 53, 54, 55, 56, 57, 97, 98, 99, 100, 101, 102]⟩ : ByteArray)[n.val]'n.isLt) = hexOf n.val := by decide
  have h2 := this ⟨n, h⟩
  congr 2
  simp only [Int.toNat_natCast]
  rw [h2]
theorem conv_row {w : World} {base : Nat} {v : Value} {l : List UInt8} (h : w.ownsRow base 5 1 v l.length (cellsOf l)) : (convert 133 9 v).run Tryz.prog w = .ok (.string ⟨l.toArray⟩) w := by
  rcases h.2 with ⟨rfl, h0⟩ | ⟨g, cap, cur, rfl, hb, hg, h1, h2, h3, h4⟩
  · obtain rfl : l = [] := by simpa using h0
    rw [run_convert_bytes_string w 133 9 5 none 0 0 Tryz.underlying133 Tryz.underlying5 Tryz.underlying9]
    rfl
  · refine run_convert_bytes_back _ 133 9 5 _ _ l Tryz.underlying133 Tryz.underlying5 Tryz.underlying9 fun j hj => ?_
    have h5 : cur.toList[j]? = some (.int .u8 (l[j].toNat : Int)) := by
      have := congrArg (fun x => x[j]?) h4
      simp only [Nat.mul_one] at this
      rw [List.getElem?_take, if_pos hj] at this
      rw [this]; simp [cellsOf, hj]
    have hadd : (⟨g, 0, none⟩ : Addr).add j = ⟨g, j, none⟩ := by unfold Addr.add; split <;> simp_all
    rw [hadd]
    simp [World.cell?, hg]
    simpa using h5
def QuRel (s : ByteArray) (w : World) (k : Nat) (v : Value) (w' : World) : Prop :=
  w'.ownsRow w.heap.size 5 1 v (quoteTo s k).length (cellsOf (quoteTo s k)) ∧ Below w.heap.size w w'
theorem quote_go (s : ByteArray) (w : World) (hs : s.size ≤ 40) : Calls Tryz.prog 132 #[.string s] w fun e w' => e = .returned (.tuple #[.string ⟨(quoteL s.data.toList).toArray⟩, .int .i64 0]) ∧ Below w.heap.size w w' := by
  obtain ⟨i0, hi0, hz0, hz1, hz2⟩ := info_parts u8_info
  have T := Lib.hid (text_any s)
  have hd : decide (s.size ≤ 40) = true := by simp [hs]
  rw [hd] at T
  clear hd
  go_enter Tryz.func132, Tryz.ntmps132
  go_wp2_with fail
  refine (T.out _).mono ?_
  rintro e w1 ⟨rfl, rfl⟩
  go_wp2_with fail
  go_loopw [4, 12] (fun v i wr => ∃ k : Nat, k ≤ s.size ∧ i = .int .i64 (k : Int) ∧ QuRel s w k v wr) (fun _ i _ => s.size - (intOf i).toNat)
  case atStart => exact ⟨0, by omega, rfl, ⟨rfl, .inr ⟨w.heap.size, 1, #[.int .u8 34], rfl, Nat.le_refl _, heap_alloc_new w _, Nat.le_refl _, by decide, rfl, rfl⟩⟩, (Below.refl _ _).alloc (Nat.le_refl _) _⟩
  case round =>
    obtain ⟨k, hk, rfl, ho, hb⟩ := hrel
    have HO := Lib.hid ho
    clear ho
    have hlen := quoteTo_len (s := s) (k := k) hk
    by_cases hlt : k < s.size
    · have hlt' : (k : Int) < s.size := by omega
      have P := Lib.hid (plain_any s[k])
      have HS := Lib.hid (quoteTo_succ hlt)
      cases hp : plainB s[k] with
      | true =>
        rw [hp] at P
        have hsg : signOf s[k] = [s[k]] := by unfold signOf; rw [if_pos hp]
        rw [hsg] at HS
        clear hp hsg
        go_wp2_with fail
        refine (P.out _).mono ?_
        rintro e w1 ⟨rfl, rfl⟩
        go_wp2_with (at_builtin; go_must (refine wpList_append_one rfl (.tmp 19) (.tmp 23) _ rfl w.heap.size 5 i0 _ 1 Tryz.underlying133 hi0 hz0 hz1 hz2 rfl 5 (.int .u8 (s[k].toNat : Int)) rfl u4 (quoteTo s k).length (cellsOf (quoteTo s k)) rfl HO.out rfl (by simp only [maxLen]; omega) (by omega) hb.size ?_; intro v1 w1 ho1 hb1))
        go_roundw
        case rel => exact ⟨k + 1, by omega, by go_num, by rw [HS.out, cellsOf_snoc, List.length_append, List.length_singleton]; exact ho1, hb.trans hb1⟩
        case measure => simp [intOf]; omega
      | false =>
        rw [hp] at P
        have hsg : signOf s[k] = [92, hexOf (s[k].toNat / 16), hexOf (s[k].toNat % 16)] := by unfold signOf; rw [if_neg (by rw [hp]; decide)]
        rw [hsg] at HS
        have hc := (s[k]).toNat_lt
        have ha := u8_and15 (x := (s[k].toNat : Int)) (by omega) (by omega)
        have x1 := fun W => digit_at (s[k].toNat / 16) (by omega) ((s[k].toNat : Int) / 16) (by omega) W
        have x2 := fun W => digit_at (s[k].toNat % 16) (by omega) ((s[k].toNat : Int) % 16) (by omega) W
        clear hp hsg
        generalize hexOf (s[k].toNat / 16) = d1 at *
        generalize hexOf (s[k].toNat % 16) = d2 at *
        go_wp2_with fail
        refine (P.out _).mono ?_
        rintro e w1 ⟨rfl, rfl⟩
        go_wp2_with fail
        go_region_held3 (fun w' => True) (trivial)
          ((refine step_append_lies _ (by rfl) _ _ _ (by rfl) w.heap.size 5 i0 _ 1 1 Tryz.underlying133 hi0 hz0 hz1 hz2 rfl (by omega) u4 (quoteTo s k).length (cellsOf (quoteTo s k)) (by rfl) ((HO.out.alloc _).drew)
                ⟨wr.heap.size, 0, none⟩ 3 3 [.int .u8 92, .int .u8 (d1.toNat : Int), .int .u8 (d2.toNat : Int)] (by rfl) (by rfl) (World.news_of_block (cs := #[.int .u8 92, .int .u8 (d1.toNat : Int), .int .u8 (d2.toNat : Int)]) (t := 5) (fr := (0, 0)) (heap_alloc_new wr _)) (by simp [Value.oneCell'])
                (by omega) (by simp only [maxLen]; omega) (by omega) (by simp; have := hb.size; omega) (wr.heap.size + 1) (by simp) ?_; intro gg cap w1 hown1 hgrow hat hlt))
        all_goals
          go_wp2_with fail
          go_roundw
          case rel => exact ⟨k + 1, by omega, by go_num, by rw [HS.out, List.length_append]; unfold cellsOf; rw [List.map_append]; exact hown1, hb.trans (below_append HO.out (((Below.refl _ _).alloc hb.size _).drew) (by simp; have := hb.size; omega) hgrow)⟩
          case measure => simp [intOf]; omega
    · have hlt' : ¬ (k : Int) < s.size := by omega
      obtain rfl : k = s.size := by omega
      have hcv : ∀ g cap (w2 : World), w2.ownsRow w.heap.size 5 1 (.slice (some ⟨g, 0, none⟩) ((quoteTo s s.size).length + 1) cap) ((quoteTo s s.size).length + 1) (cellsOf (quoteTo s s.size) ++ [.int .u8 34]) →
          (convert 133 9 (.slice (some ⟨g, 0, none⟩) ((quoteTo s s.size).length + 1) cap)).run Tryz.prog w2 = .ok (.string ⟨(quoteL s.data.toList).toArray⟩) w2 := by
        intro g cap w2 h
        have := conv_row (l := quoteL s.data.toList) (v := .slice (some ⟨g, 0, none⟩) ((quoteTo s s.size).length + 1) cap) (w := w2) (base := w.heap.size) (by rw [← quoteTo_all, List.length_append]; unfold cellsOf; rw [List.map_append]; exact h)
        exact this
      go_wp2_with (at_builtin; go_must (refine wpList_append_lies _ rfl (.tmp 39) (.tmp 40) _ rfl w.heap.size 5 i0 _ 1 1 Tryz.underlying133 hi0 hz0 hz1 hz2 rfl (by omega) u4 (quoteTo s s.size).length (cellsOf (quoteTo s s.size)) rfl (HO.out.alloc _) ⟨wr.heap.size, 0, none⟩ 1 1 [.int .u8 34] rfl rfl (cell_one_new _ _ _) (by simp [Value.oneCell']) (by omega) (by simp only [maxLen]; omega) (by omega) (by simp; have := hb.size; omega) _ rfl ?_; intro g cap w1 ho1 hg1 _ _; have hcv1 := hcv g cap w1 ho1; clear hcv))
      go_ret2
      exact ⟨rfl, hb.trans (below_append HO.out ((Below.refl _ _).alloc hb.size _) (by simp; have := hb.size; omega) hg1)⟩
end Go.Proofs.YtmmffeldlhofiaaGreatDoor
end
section
namespace Go.Proofs.YtmmffeldlhofiaaGreatDoor
set_option maxRecDepth 10000
open Go.RowKit Punnet.Name
def scanOf (s : ByteArray) (at_ : Int) : ByteArray × Nat × Int :=
  if at_ < 0 ∨ (s.size : Int) < at_ then (⟨#[]⟩, 0, 2) else
  match quotedAt s.data.toList at_.toNat with
  | none => (⟨#[]⟩, 0, 4)
  | some (t, n) => if 40 < t.length then (⟨#[]⟩, 0, 14) else (⟨t.toArray⟩, n, 0)
def scanV (r : ByteArray × Nat × Int) : Value := .tuple #[.string r.1, .int .i64 (r.2.1 : Int), .int .i64 r.2.2]
theorem scanOf_arg {s : ByteArray} {i : Int} (h : i < 0 ∨ (s.size : Int) < i) : scanOf s i = (⟨#[]⟩, 0, 2) := by unfold scanOf; rw [if_pos h]
theorem scanOf_none {s : ByteArray} {k : Nat} (h : k ≤ s.size) (hq : quotedAt s.data.toList k = none) : scanOf s (k : Int) = (⟨#[]⟩, 0, 4) := by
  unfold scanOf; rw [if_neg (by omega), Int.toNat_natCast, hq]
theorem scanOf_long {s : ByteArray} {k n : Nat} {t : List UInt8} (h : k ≤ s.size) (hq : quotedAt s.data.toList k = some (t, n)) (hl : 40 < t.length) : scanOf s (k : Int) = (⟨#[]⟩, 0, 14) := by
  unfold scanOf; rw [if_neg (by omega), Int.toNat_natCast, hq]; simp only; rw [if_pos hl]
theorem scanOf_fine {s : ByteArray} {k n : Nat} {t : List UInt8} (h : k ≤ s.size) (hq : quotedAt s.data.toList k = some (t, n)) (hl : ¬ 40 < t.length) : scanOf s (k : Int) = (⟨t.toArray⟩, n, 0) := by
  unfold scanOf; rw [if_neg (by omega), Int.toNat_natCast, hq]; simp only; rw [if_neg hl]
theorem ret_scan {r : ByteArray × Nat × Int} {a : ByteArray} {b : Nat} {c : Int} (h : r = (a, b, c)) : Ending.returned (.tuple #[.string a, .int .i64 (b : Int), .int .i64 c]) = .returned (scanV r) := by rw [h]; rfl
theorem row_slice {w : World} {base n : Nat} {e : TypeId} {v : Value} {xs : List Value} (h : w.ownsRow base e 1 v n xs) : ∃ a cap, v = .slice a n cap := by
  rcases h.2 with ⟨rfl, rfl⟩ | ⟨g, cap, cur, rfl, _⟩
  · exact ⟨_, _, rfl⟩
  · exact ⟨_, _, rfl⟩
theorem scan_any (s : ByteArray) (i : Int) (w : World) (hs : s.size ≤ 16777216) (hi : -9223372036854775808 ≤ i ∧ i ≤ 9223372036854775807) :
    Calls Tryz.prog 145 #[.string s, .int .i64 i] w fun e w' => e = .returned (scanV (scanOf s i)) ∧ Below w.heap.size w w' := by
  by_cases h0 : i < 0
  · have HE := Lib.hid (scanOf_arg (s := s) (.inl h0))
    go_enter Tryz.func145, Tryz.ntmps145
    go_wp2_with fail
    go_ret3
    exact ⟨ret_scan HE.out, Below.refl _ _⟩
  by_cases h1 : (s.size : Int) < i
  · have HE := Lib.hid (scanOf_arg (s := s) (.inr h1))
    go_enter Tryz.func145, Tryz.ntmps145
    go_wp2_with fail
    go_ret3
    exact ⟨ret_scan HE.out, Below.refl _ _⟩
  obtain ⟨k, rfl⟩ : ∃ k : Nat, i = k := ⟨i.toNat, by omega⟩
  have hk : k ≤ s.size := by omega
  go_enter Tryz.func145, Tryz.ntmps145
  go_wp2_with fail
  refine (quoted_any s k _ hs).mono ?_
  rintro e w1 (⟨hq, rfl, hb⟩ | ⟨t, n, v, hq, rfl, ho, hb⟩)
  · have HE := Lib.hid (scanOf_none hk hq)
    clear hq
    go_wp2_with fail
    go_ret3
    exact ⟨ret_scan HE.out, hb⟩
  · have hn := (quotedAt_le hq).2
    have hn' : n ≤ s.size := by simpa using hn
    have HO := Lib.hid (conv_row ho)
    obtain ⟨a, cap, rfl⟩ := row_slice ho
    by_cases hl : 40 < t.length
    · have HE := Lib.hid (scanOf_long hk hq hl)
      have hl' : (40 : Int) < t.length := by omega
      clear hq ho hn
      go_wp2_with fail
      go_ret3
      exact ⟨ret_scan HE.out, hb⟩
    · have HE := Lib.hid (scanOf_fine hk hq hl)
      have hl' : ¬ (40 : Int) < t.length := by omega
      have hcv := HO.out
      clear hq ho hn HO
      go_wp2_with fail
      go_ret3
      exact ⟨ret_scan HE.out, hb⟩
theorem refScan_any (s : ByteArray) (i : Int) (w : World) (hs : s.size ≤ 16777216) (hi : -9223372036854775808 ≤ i ∧ i ≤ 9223372036854775807) :
    Calls Tryz.prog 138 #[.string s, .int .i64 i] w fun e w' => e = .returned (scanV (scanOf s i)) ∧ Below w.heap.size w w' := by
  by_cases h0 : i < 0
  · have HE := Lib.hid (scanOf_arg (s := s) (.inl h0))
    go_enter Tryz.func138, Tryz.ntmps138
    go_wp2_with fail
    go_ret3
    exact ⟨ret_scan HE.out, Below.refl _ _⟩
  by_cases h1 : (s.size : Int) < i
  · have HE := Lib.hid (scanOf_arg (s := s) (.inr h1))
    go_enter Tryz.func138, Tryz.ntmps138
    go_wp2_with fail
    go_ret3
    exact ⟨ret_scan HE.out, Below.refl _ _⟩
  obtain ⟨k, rfl⟩ : ∃ k : Nat, i = k := ⟨i.toNat, by omega⟩
  have hk : k ≤ s.size := by omega
  go_enter Tryz.func138, Tryz.ntmps138
  go_wp2_with fail
  refine (begins_any s k _ hs).mono ?_
  rintro e w1 ⟨hb, ⟨hq, rfl⟩ | ⟨t, n, hq, rfl⟩⟩
  · have HE := Lib.hid (scanOf_none hk hq)
    clear hq
    go_wp2_with fail
    go_ret3
    exact ⟨ret_scan HE.out, hb⟩
  · have hn := (quotedAt_le hq).2
    have hn' : n ≤ s.size := by simpa using hn
    have hz : (⟨t.toArray⟩ : ByteArray).size = t.length := by simp [ByteArray.size]
    by_cases hl : 40 < t.length
    · have HE := Lib.hid (scanOf_long hk hq hl)
      have hl' : (40 : Int) < (⟨t.toArray⟩ : ByteArray).size := by omega
      generalize (⟨t.toArray⟩ : ByteArray) = tb at *
      clear hq hn hz
      go_wp2_with fail
      go_ret3
      exact ⟨ret_scan HE.out, hb⟩
    · have HE := Lib.hid (scanOf_fine hk hq hl)
      have hl' : ¬ (40 : Int) < (⟨t.toArray⟩ : ByteArray).size := by omega
      generalize (⟨t.toArray⟩ : ByteArray) = tb at *
      clear hq hn hz
      go_wp2_with fail
      go_ret3
      exact ⟨ret_scan HE.out, hb⟩
def unquoteOf (s : ByteArray) : ByteArray × Int :=
  if (scanOf s 0).2.2 = 0 then (if (scanOf s 0).2.1 = s.size then ((scanOf s 0).1, 0) else (⟨#[]⟩, 4)) else (⟨#[]⟩, (scanOf s 0).2.2)
theorem ret_unq {r : ByteArray × Int} {a : ByteArray} {c : Int} (h : r = (a, c)) : Ending.returned (.tuple #[.string a, .int .i64 c]) = .returned (.tuple #[.string r.1, .int .i64 r.2]) := by rw [h]
theorem unquote_any (s : ByteArray) (w : World) (hs : s.size ≤ 16777216) :
    Calls Tryz.prog 117 #[.string s] w fun e w' => e = .returned (.tuple #[.string (unquoteOf s).1, .int .i64 (unquoteOf s).2]) ∧ Below w.heap.size w w' := by
  have S := Lib.hid (fun w => scan_any s 0 w hs (by omega))
  have key : ∃ t n c, scanOf s 0 = (t, n, c) := ⟨_, _, _, rfl⟩
  obtain ⟨t, n, c, hsc⟩ := key
  rw [hsc] at S
  have hu : unquoteOf s = if c = 0 then (if n = s.size then (t, 0) else (⟨#[]⟩, 4)) else (⟨#[]⟩, c) := by unfold unquoteOf; rw [hsc]
  by_cases hc : c = 0
  · subst hc
    rw [if_pos rfl] at hu
    by_cases hn : n = s.size
    · rw [if_pos hn] at hu
      have HU := Lib.hid hu
      have hn' : ((n : Int) != (s.size : Int)) = false := bne_eq_false_iff_eq.2 (by omega)
      clear hu hn hsc
      go_enter Tryz.func117, Tryz.ntmps117
      go_wp2_with fail
      refine (S.out _).mono ?_
      rintro e w1 ⟨rfl, hb⟩
      unfold scanV
      go_wp2_with fail
      go_ret2
      exact ⟨ret_unq HU.out, hb⟩
    · rw [if_neg hn] at hu
      have HU := Lib.hid hu
      have hn' : ((n : Int) != (s.size : Int)) = true := bne_iff_ne.2 (by omega)
      clear hu hn hsc
      go_enter Tryz.func117, Tryz.ntmps117
      go_wp2_with fail
      refine (S.out _).mono ?_
      rintro e w1 ⟨rfl, hb⟩
      unfold scanV
      go_wp2_with fail
      go_ret2
      exact ⟨ret_unq HU.out, hb⟩
  · rw [if_neg hc] at hu
    have HU := Lib.hid hu
    have hc' : (c != 0) = true := bne_iff_ne.2 hc
    clear hu hc hsc
    go_enter Tryz.func117, Tryz.ntmps117
    go_wp2_with fail
    refine (S.out _).mono ?_
    rintro e w1 ⟨rfl, hb⟩
    unfold scanV
    go_wp2_with fail
    go_ret2
    exact ⟨ret_unq HU.out, hb⟩
end Go.Proofs.YtmmffeldlhofiaaGreatDoor
end
section
namespace Go.Proofs.YtmmffeldlhofiaaGreatDoor
set_option maxRecDepth 10000
open Go.RowKit Punnet.Name
theorem drop_lt {l m : List UInt8} {k : Nat} {c : UInt8} (h : l.drop k = c :: m) : k < l.length := by
  rcases Nat.lt_or_ge k l.length with h1 | h1
  · exact h1
  · rw [List.drop_eq_nil_of_le h1] at h; cases h
theorem drop_get {l m : List UInt8} {k : Nat} {c : UInt8} (h : l.drop k = c :: m) : l[k]'(drop_lt h) = c := by
  have := List.drop_eq_getElem_cons (drop_lt h)
  rw [h] at this; injection this with h1 _; exact h1.symm
theorem drop_more {l m r : List UInt8} {k : Nat} (h : l.drop k = m ++ r) : l.drop (k + m.length) = r := by
  rw [← List.drop_drop, h, List.drop_append_of_le_length (Nat.le_refl _), List.drop_length]; rfl
theorem signOf_head (c : UInt8) : ∃ x r, signOf c = x :: r ∧ x.toNat ≠ 34 := by
  unfold signOf
  cases hp : plainB c with
  | true => exact ⟨c, [], rfl, (plain_ne hp).2⟩
  | false => exact ⟨92, _, rfl, by decide⟩
theorem bodyAt_quote {l r : List UInt8} : ∀ (t : List UInt8) (k : Nat), l.drop k = t.flatMap signOf ++ 34 :: r → bodyAt l k = some (t, k + (t.flatMap signOf).length + 1) := by
  intro t
  induction t with
  | nil =>
    intro k h
    have h' : l.drop k = 34 :: r := by simpa using h
    rw [bodyAt_end (drop_lt h') (by rw [drop_get h']; rfl)]; rfl
  | cons c t ih =>
    intro k h
    rw [List.flatMap_cons, List.append_assoc] at h
    obtain ⟨x, m, hx, hx34⟩ := signOf_head c
    have hc : l.drop k = x :: (m ++ (t.flatMap signOf ++ 34 :: r)) := by rw [h, hx]; rfl
    have hs : sign (l.drop k) = some (c, (signOf c).length - 1) := by rw [h]; exact sign_signOf c _
    have hp := signOf_pos c
    rw [bodyAt_some (drop_lt hc) (by rw [drop_get hc]; exact hx34) hs, show k + ((signOf c).length - 1) + 1 = k + (signOf c).length by omega, ih _ (drop_more h)]
    simp [List.flatMap_cons]; omega
theorem quotedAt_quote {l r : List UInt8} (t : List UInt8) (k : Nat) (h : l.drop k = quoteL t ++ r) : quotedAt l k = some (t, k + (quoteL t).length) := by
  unfold quoteL at h
  have h1 : l.drop k = 34 :: (t.flatMap signOf ++ 34 :: r) := by rw [h]; simp
  unfold quotedAt
  rw [dif_pos (drop_lt h1), if_pos (by rw [drop_get h1]; rfl), bodyAt_quote (r := r) t (k + 1) (drop_more (m := [34]) (by rw [h1]; rfl))]
  unfold quoteL; simp; omega
theorem bodyAt_inv {l : List UInt8} : ∀ (N k : Nat) (t : List UInt8) (n : Nat), l.length - k = N → bodyAt l k = some (t, n) → l.drop k = t.flatMap signOf ++ 34 :: l.drop n ∧ n = k + (t.flatMap signOf).length + 1 := by
  intro N
  induction N using Nat.strongRecOn with
  | _ N ih =>
    intro k t n hN h
    by_cases hk : k < l.length
    · by_cases hq : l[k].toNat = 34
      · rw [bodyAt_end hk hq] at h
        injection h with h; injection h with h1 h2; subst h1; subst h2
        refine ⟨?_, by simp⟩
        rw [List.drop_eq_getElem_cons hk]
        have : l[k] = 34 := by rw [← UInt8.toNat_inj, hq]; rfl
        simp [this]
      · cases hs : sign (l.drop k) with
        | none => rw [bodyAt_none hk hq hs] at h; cases h
        | some p =>
          obtain ⟨c, m⟩ := p
          rw [bodyAt_some hk hq hs] at h
          cases hb : bodyAt l (k + m + 1) with
          | none => rw [hb] at h; cases h
          | some p =>
            obtain ⟨t', n'⟩ := p
            rw [hb] at h
            simp only [Option.map_some] at h
            injection h with h; injection h with h1 h2; subst h1; subst h2
            have hi := ih (l.length - (k + m + 1)) (by omega) (k + m + 1) t' n' rfl hb
            obtain ⟨r, hr, hm⟩ := sign_inv hs
            have hd := drop_more hr
            rw [show k + (signOf c).length = k + m + 1 by omega] at hd
            refine ⟨?_, by rw [List.flatMap_cons, List.length_append]; omega⟩
            rw [hr, ← hd, hi.1, List.flatMap_cons, List.append_assoc]
    · rw [bodyAt_out hk] at h; cases h
theorem quotedAt_inv {l : List UInt8} {k n : Nat} {t : List UInt8} (h : quotedAt l k = some (t, n)) : l.drop k = quoteL t ++ l.drop n ∧ n = k + (quoteL t).length := by
  unfold quotedAt at h
  split at h
  · rename_i hk
    split at h
    · rename_i hq
      obtain ⟨h1, h2⟩ := bodyAt_inv _ _ _ _ rfl h
      have : l[k] = 34 := by rw [← UInt8.toNat_inj, hq]; rfl
      refine ⟨?_, by unfold quoteL; rw [List.length_cons, List.length_append, List.length_singleton]; omega⟩
      rw [List.drop_eq_getElem_cons hk, h1, this]; unfold quoteL; simp
    · cases h
  · cases h
theorem blankAt_stop (l : List UInt8) (k : Nat) (h : blankAt l k < l.length) : l[blankAt l k] = 32 := by
  unfold blankAt at *
  generalize hp : (fun b : UInt8 => decide (b.toNat ≠ 32)) = p at *
  have key : ∀ (m : List UInt8) (h : (m.takeWhile p).length < m.length), p (m[(m.takeWhile p).length]) = false := by
    intro m
    induction m with
    | nil => intro h; simp at h
    | cons a m ih =>
      intro h
      cases ha : p a with
      | true =>
        rw [List.takeWhile_cons, if_pos ha] at h
        simp only [List.takeWhile_cons, ha, if_true, List.length_cons, List.getElem_cons_succ]
        exact ih (by simpa using h)
      | false => simp only [List.takeWhile_cons, ha]; simpa using ha
  have h1 : ((l.drop k).takeWhile p).length < (l.drop k).length := by rw [List.length_drop]; omega
  have h2 := key _ h1
  rw [List.getElem_drop] at h2
  have h3 : ∀ c : UInt8, p c = false → c = 32 := by
    intro c hc
    rw [← hp] at hc
    simp only [decide_eq_false_iff_not, ne_eq, Decidable.not_not] at hc
    rw [← UInt8.toNat_inj, hc]; rfl
  exact h3 _ h2
theorem wordEnd_stop (l : List UInt8) (k : Nat) (h : wordEndOf l k < l.length) : l[wordEndOf l k] = 32 := by
  have hb := fun h => blankAt_stop l k h
  unfold wordEndOf at *
  split at h
  · rename_i x t e hq
    by_cases hc : e = l.length ∨ l[e]? = some 32
    · have e1 : (if e = l.length ∨ l[e]? = some 32 then e else blankAt l k) = e := if_pos hc
      simp only [e1] at h ⊢
      rcases hc with hc | hc
      · omega
      · rw [List.getElem?_eq_getElem h] at hc; injection hc
    · have e1 : (if e = l.length ∨ l[e]? = some 32 then e else blankAt l k) = blankAt l k := if_neg hc
      simp only [e1] at h ⊢
      exact hb h
  · exact hb h
def joinL : List ByteArray → List UInt8
  | [] => []
  | [a] => a.data.toList
  | a :: b :: r => a.data.toList ++ 32 :: joinL (b :: r)
theorem splitB_ne (s : ByteArray) (k : Nat) : ∃ a r, splitB s k = a :: r := by
  rw [splitB]; split
  · exact ⟨_, _, rfl⟩
  · exact ⟨_, _, rfl⟩
theorem joinL_cons (a : ByteArray) {l : List ByteArray} (h : ∃ b r, l = b :: r) : joinL (a :: l) = a.data.toList ++ 32 :: joinL l := by
  obtain ⟨b, r, rfl⟩ := h; rfl
theorem join_split (s : ByteArray) : ∀ (N k : Nat), s.size - k = N → k ≤ s.size → joinL (splitB s k) = s.data.toList.drop k := by
  have hlen : s.data.toList.length = s.size := by simp
  intro N
  induction N using Nat.strongRecOn with
  | _ N ih =>
    intro k hN hk
    obtain ⟨b1, b2⟩ := wordEnd_bound s.data.toList (k := k) (by omega)
    have hst := wordEnd_stop s.data.toList k
    by_cases h : wordEndOf s.data.toList k < s.size
    · rw [splitB_more hk h, joinL_cons _ (splitB_ne _ _), ih (s.size - (wordEndOf s.data.toList k + 1)) (by omega) _ rfl (by omega), Lib.extract_data]
      have h1 := List.drop_eq_getElem_cons (l := s.data.toList) (i := wordEndOf s.data.toList k) (by omega)
      rw [hst (by omega)] at h1
      rw [← h1]
      have h2 := List.take_append_drop (wordEndOf s.data.toList k - k) (s.data.toList.drop k)
      rw [List.drop_drop, show k + (wordEndOf s.data.toList k - k) = wordEndOf s.data.toList k by omega] at h2
      exact h2
    · rw [splitB_last h]
      show (s.extract k (wordEndOf s.data.toList k)).data.toList = _
      rw [Lib.extract_data, List.take_of_length_le (by rw [List.length_drop]; omega)]
end Go.Proofs.YtmmffeldlhofiaaGreatDoor
end
section
namespace Punnet.Num
set_option maxRecDepth 10000
def digs (m : Nat) : List UInt8 := if m < 10 then [UInt8.ofNat (48 + m)] else digs (m / 10) ++ [UInt8.ofNat (48 + m % 10)]
  termination_by m
  decreasing_by omega
theorem digs_small {m : Nat} (h : m < 10) : digs m = [UInt8.ofNat (48 + m)] := by rw [digs, if_pos h]
theorem digs_step {m : Nat} (h : ¬ m < 10) : digs m = digs (m / 10) ++ [UInt8.ofNat (48 + m % 10)] := by rw [digs, if_neg h]
theorem digs_ne (m : Nat) : digs m ≠ [] := by rw [digs]; split <;> simp
def print (n : Int) : List UInt8 := if n < 0 then 45 :: digs n.natAbs else digs n.natAbs
def printB (n : Int) : ByteArray := ⟨(print n).toArray⟩
theorem printB_data (n : Int) : (printB n).data.toList = print n := by simp [printB]
theorem printB_size (n : Int) : (printB n).size = (print n).length := by
  rw [← printB_data]; simp
def dig (b : UInt8) : Bool := decide (48 ≤ b.toNat ∧ b.toNat ≤ 57)
def neg : List UInt8 → Nat
  | b :: _ => if b.toNat = 45 then 1 else 0
  | [] => 0
theorem neg_le (l : List UInt8) : neg l ≤ l.length := by
  cases l with
  | nil => simp [neg]
  | cons b r => simp only [neg, List.length_cons]; split <;> omega
theorem neg_le_one (l : List UInt8) : neg l ≤ 1 := by
  cases l with
  | nil => simp [neg]
  | cons b r => simp only [neg]; split <;> omega
def pieceLen (l : List UInt8) : Nat :=
  if ((l.drop (neg l)).takeWhile dig).length = 0 then 0 else neg l + ((l.drop (neg l)).takeWhile dig).length
def PieceInv (l : List UInt8) (k D E : Nat) : Prop :=
  k ≤ l.length ∧ (k = 0 → D = 0 ∧ E = 0) ∧ (0 < k → D + neg l = k ∧ E = if D = 0 then 0 else k) ∧ ∀ j (h : j < l.length), neg l ≤ j → j < k → dig l[j] = true
theorem PieceInv.start (l : List UInt8) : PieceInv l 0 0 0 := ⟨Nat.zero_le _, fun _ => ⟨rfl, rfl⟩, fun h => absurd h (by omega), fun _ _ _ h => absurd h (by omega)⟩
theorem PieceInv.skip {l : List UInt8} {D E : Nat} (h : PieceInv l 0 D E) (hl : 0 < l.length) (hb : l[0].toNat = 45) : PieceInv l 1 D E := by
  obtain ⟨_, h0, _, _⟩ := h
  obtain ⟨rfl, rfl⟩ := h0 rfl
  have hn : neg l = 1 := by
    cases l with
    | nil => simp at hl
    | cons b r => simpa [neg] using hb
  exact ⟨hl, fun h => absurd h (by omega), fun _ => ⟨by omega, by simp⟩, fun j _ h1 h2 => absurd h2 (by omega)⟩
theorem neg_of_dig {l : List UInt8} (hl : 0 < l.length) (hb : l[0].toNat ≠ 45) : neg l = 0 := by
  cases l with
  | nil => rfl
  | cons b r => simp only [neg]; exact if_neg (by simpa using hb)
theorem neg_of_minus {l : List UInt8} (hl : 0 < l.length) (hb : l[0].toNat = 45) : neg l = 1 := by
  cases l with
  | nil => simp at hl
  | cons b r => simp only [neg]; exact if_pos (by simpa using hb)
theorem PieceInv.more {l : List UInt8} {k D E : Nat} (h : PieceInv l k D E) (hl : k < l.length) (hb : 48 ≤ l[k].toNat) (hb' : l[k].toNat ≤ 57) : PieceInv l (k + 1) (D + 1) (k + 1) := by
  obtain ⟨_, h0, h1, h2⟩ := h
  have hd : D + neg l = k := by
    rcases Nat.eq_zero_or_pos k with rfl | hp
    · rw [neg_of_dig hl (by omega)]; exact (h0 rfl).1
    · exact (h1 hp).1
  refine ⟨hl, fun h => absurd h (by omega), fun _ => ⟨by omega, by simp⟩, fun j hj hn hjk => ?_⟩
  by_cases e : j = k
  · subst e; simp [dig, hb, hb']
  · exact h2 j hj hn (by omega)
theorem takeWhile_len {p : UInt8 → Bool} {l : List UInt8} {n : Nat} (hn : n ≤ l.length) (ha : ∀ j (h : j < l.length), j < n → p l[j] = true) (he : ∀ h : n < l.length, p l[n] = false) : (l.takeWhile p).length = n := by
  induction l generalizing n with
  | nil => simp at hn; simp [hn]
  | cons b r ih =>
    cases n with
    | zero =>
      have hb : p b = false := he (by simp)
      rw [List.takeWhile_cons, if_neg (by simp [hb])]; rfl
    | succ n =>
      have hb : p b = true := ha 0 (by simp) (by omega)
      rw [List.takeWhile_cons, if_pos hb, List.length_cons, ih (by simpa using hn) (fun j h hj => ha (j + 1) (by simpa using h) (by omega)) (fun h => he (by simpa using h))]
theorem PieceInv.stop {l : List UInt8} {k D E : Nat} (h : PieceInv l k D E) (he : ∀ h : k < l.length, ¬ (48 ≤ l[k].toNat ∧ l[k].toNat ≤ 57) ∧ ¬ (k = 0 ∧ l[k].toNat = 45)) : pieceLen l = if D = 0 then 0 else E := by
  obtain ⟨hk, h0, h1, h2⟩ := h
  have hd : D + neg l = k := by
    rcases Nat.eq_zero_or_pos k with rfl | hp
    · have hn : neg l = 0 := by
        cases l with
        | nil => rfl
        | cons b r => exact neg_of_dig (by simp) (fun e => (he (by simp)).2 ⟨rfl, e⟩)
      rw [hn]; exact (h0 rfl).1
    · exact (h1 hp).1
  have hlen : ((l.drop (neg l)).takeWhile dig).length = D := by
    refine takeWhile_len (by rw [List.length_drop]; omega) (fun j h hj => ?_) (fun h => ?_)
    · rw [List.getElem_drop]; exact h2 _ _ (by omega) (by omega)
    · rw [List.getElem_drop]
      have hh : k < l.length := by rw [List.length_drop] at h; omega
      have := (he hh).1
      subst hd
      simp only [dig, decide_eq_false_iff_not]
      rw [show l[neg l + D]'(by omega) = l[D + neg l]'hh from by congr 1; omega]
      exact this
  rw [pieceLen, hlen]
  by_cases hD : D = 0
  · simp [hD]
  · rw [if_neg hD, if_neg hD, (h1 (by omega)).2, if_neg hD]; omega
theorem takeWhile_all {p : UInt8 → Bool} {l : List UInt8} (h : (l.takeWhile p).length = l.length) : ∀ j (hj : j < l.length), p l[j] = true := by
  induction l with
  | nil => intro j hj; simp at hj
  | cons b r ih =>
    intro j hj
    rw [List.takeWhile_cons] at h
    by_cases hb : p b = true
    · rw [if_pos hb] at h
      cases j with
      | zero => exact hb
      | succ j => exact ih (by simpa using h) j (by simpa using hj)
    · rw [if_neg hb] at h; simp at h
theorem takeWhile_len_le (p : UInt8 → Bool) (l : List UInt8) : (l.takeWhile p).length ≤ l.length := by
  induction l with
  | nil => simp
  | cons b r ih => rw [List.takeWhile_cons]; split <;> simp <;> omega
theorem piece_gt {l : List UInt8} (hp : pieceLen l = l.length) (hl : 0 < l.length) : neg l < l.length := by
  rw [pieceLen] at hp
  split at hp <;> omega
theorem piece_digs {l : List UInt8} (hp : pieceLen l = l.length) (hl : 0 < l.length) (k : Nat) (hk : k < l.length) (hn : neg l ≤ k) : dig l[k] = true := by
  have hw : ((l.drop (neg l)).takeWhile dig).length = (l.drop (neg l)).length := by
    rw [List.length_drop]
    rw [pieceLen] at hp
    split at hp <;> omega
  have := takeWhile_all hw (k - neg l) (by rw [List.length_drop]; omega)
  rw [List.getElem_drop] at this
  rw [← this]
  congr 2
  omega
def natOf (l : List UInt8) : Nat := l.foldl (fun a b => 10 * a + (b.toNat - 48)) 0
theorem natOf_snoc (l : List UInt8) (b : UInt8) : natOf (l ++ [b]) = 10 * natOf l + (b.toNat - 48) := by simp [natOf]
theorem natOf_take_succ {l : List UInt8} {k : Nat} (h : k < l.length) : natOf (l.take (k + 1)) = 10 * natOf (l.take k) + (l[k].toNat - 48) := by
  rw [List.take_succ_eq_append_getElem h, natOf_snoc]
theorem foldl_ge (l : List UInt8) : ∀ a : Nat, a ≤ l.foldl (fun a b => 10 * a + (b.toNat - 48)) a := by
  induction l with
  | nil => exact fun a => Nat.le_refl _
  | cons b r ih => exact fun a => Nat.le_trans (show a ≤ 10 * a + (b.toNat - 48) by omega) (ih _)
theorem natOf_take_le (l : List UInt8) (k : Nat) : natOf (l.take k) ≤ natOf l := by
  have h : natOf l = (l.drop k).foldl (fun a b => 10 * a + (b.toNat - 48)) (natOf (l.take k)) := by
    rw [natOf, natOf, ← List.foldl_append, List.take_append_drop]
  rw [h]
  exact foldl_ge _ _
def valueOf (l : List UInt8) : Int × Int :=
  if (l.drop (neg l)).head? = some 48 ∧ (neg l = 1 ∨ 1 < (l.drop (neg l)).length) then (0, 4)
  else if neg l = 1 then (if 9223372036854775808 < natOf (l.drop (neg l)) then (0, 3) else (-(natOf (l.drop (neg l)) : Int), 0))
  else (if 9223372036854775807 < natOf (l.drop (neg l)) then (0, 3) else ((natOf (l.drop (neg l)) : Int), 0))
def readOf (l : List UInt8) : Int × Int := if pieceLen l = 0 ∨ pieceLen l ≠ l.length then (0, 4) else valueOf l
def scanOf (l : List UInt8) (a : Int) : Int × Int × Int :=
  if a < 0 ∨ (l.length : Int) < a then (0, 0, 2)
  else if pieceLen (l.drop a.toNat) = 0 then (0, 0, 4)
  else if (valueOf ((l.drop a.toNat).take (pieceLen (l.drop a.toNat)))).2 ≠ 0 then (0, 0, (valueOf ((l.drop a.toNat).take (pieceLen (l.drop a.toNat)))).2)
  else ((valueOf ((l.drop a.toNat).take (pieceLen (l.drop a.toNat)))).1, a + pieceLen (l.drop a.toNat), 0)
theorem pieceLen_le (l : List UInt8) : pieceLen l ≤ l.length := by
  have h1 := takeWhile_len_le dig (l.drop (neg l))
  have h2 := neg_le l
  rw [List.length_drop] at h1
  rw [pieceLen]
  split <;> omega
end Punnet.Num
end
section
namespace Punnet.Num
set_option maxRecDepth 10000
open Go
theorem natOf_nil : natOf [] = 0 := rfl
theorem foldl_add (r : List UInt8) : ∀ a : Nat, r.foldl (fun a b => 10 * a + (b.toNat - 48)) a = a * 10 ^ r.length + natOf r := by
  induction r with
  | nil => intro a; simp [natOf]
  | cons b r ih =>
    intro a
    have e : natOf (b :: r) = (10 * 0 + (b.toNat - 48)) * 10 ^ r.length + natOf r := by rw [← ih]; rfl
    rw [List.foldl_cons, ih, e, List.length_cons, Nat.pow_succ]
    simp only [Nat.mul_zero, Nat.zero_add, Nat.add_mul]
    rw [Nat.mul_comm 10 a, Nat.mul_assoc, Nat.mul_comm 10 (10 ^ r.length)]
    omega
theorem natOf_cons (b : UInt8) (r : List UInt8) : natOf (b :: r) = (b.toNat - 48) * 10 ^ r.length + natOf r := by
  rw [natOf, List.foldl_cons, foldl_add]; simp
def Digits (l : List UInt8) : Prop := ∀ b ∈ l, 48 ≤ b.toNat ∧ b.toNat ≤ 57
theorem Digits.tail {b : UInt8} {r : List UInt8} (h : Digits (b :: r)) : Digits r := fun x hx => h x (List.mem_cons_of_mem _ hx)
theorem Digits.head {b : UInt8} {r : List UInt8} (h : Digits (b :: r)) : 48 ≤ b.toNat ∧ b.toNat ≤ 57 := h b (List.mem_cons_self)
theorem Digits.append {x y : List UInt8} (hx : Digits x) (hy : Digits y) : Digits (x ++ y) := fun b hb => (List.mem_append.1 hb).elim (hx b) (hy b)
theorem Digits.left {x y : List UInt8} (h : Digits (x ++ y)) : Digits x := fun b hb => h b (List.mem_append.2 (.inl hb))
theorem natOf_lt {l : List UInt8} (h : Digits l) : natOf l < 10 ^ l.length := by
  induction l with
  | nil => simp [natOf]
  | cons b r ih =>
    have h1 := ih h.tail
    have h2 := h.head
    rw [natOf_cons, List.length_cons, Nat.pow_succ]
    have : (b.toNat - 48) * 10 ^ r.length ≤ 9 * 10 ^ r.length := Nat.mul_le_mul_right _ (by omega)
    omega
theorem lex_nat : ∀ {x y : List UInt8}, x.length = y.length → Digits x → Digits y → Op.bytesLess x y = decide (natOf x < natOf y)
  | [], [], _, _, _ => by simp [Op.bytesLess]
  | [], _ :: _, h, _, _ => by simp at h
  | _ :: _, [], h, _, _ => by simp at h
  | a :: x, b :: y, h, hx, hy => by
    have hl : x.length = y.length := by simpa using h
    have ih := lex_nat hl hx.tail hy.tail
    have h1 := natOf_lt hx.tail
    have h2 := natOf_lt hy.tail
    have ha := hx.head
    have hb := hy.head
    rw [Op.bytesLess, ih, natOf_cons, natOf_cons, hl]
    rw [hl] at h1
    have hab : (a == b) = decide (a.toNat = b.toNat) := by
      by_cases e : a = b
      · subst e; simp
      · rw [beq_eq_false_iff_ne.2 e]; symm; rw [decide_eq_false_iff_not]; intro h; exact e (UInt8.toNat_inj.1 h)
    rw [hab]
    have hlt : (decide (a < b)) = decide (a.toNat < b.toNat) := by simp [UInt8.lt_iff_toNat_lt]
    rw [hlt]
    rcases Nat.lt_trichotomy a.toNat b.toNat with hc | hc | hc
    · have : (a.toNat - 48 + 1) * 10 ^ y.length ≤ (b.toNat - 48) * 10 ^ y.length := Nat.mul_le_mul_right _ (by omega)
      rw [Nat.add_mul] at this
      simp [hc]
      omega
    · have e : a.toNat - 48 = b.toNat - 48 := by omega
      simp [hc]
    · have : (b.toNat - 48 + 1) * 10 ^ y.length ≤ (a.toNat - 48) * 10 ^ y.length := Nat.mul_le_mul_right _ (by omega)
      rw [Nat.add_mul] at this
      have hn : ¬ a.toNat < b.toNat := by omega
      have hne : ¬ a.toNat = b.toNat := by omega
      simp [hn, hne]
      omega
theorem digit_toNat (d : Nat) (h : d < 10) : (UInt8.ofNat (48 + d)).toNat = 48 + d := by
  rw [UInt8.toNat_ofNat']; omega
theorem digs_digits (m : Nat) : Digits (digs m) := by
  induction m using Nat.strongRecOn with
  | _ m ih =>
    by_cases h : m < 10
    · rw [digs_small h]
      intro b hb
      simp only [List.mem_singleton] at hb
      subst hb
      rw [digit_toNat m h]; omega
    · rw [digs_step h]
      refine (ih _ (by omega)).append fun b hb => ?_
      simp only [List.mem_singleton] at hb
      subst hb
      rw [digit_toNat _ (by omega)]; omega
theorem natOf_digs (m : Nat) : natOf (digs m) = m := by
  induction m using Nat.strongRecOn with
  | _ m ih =>
    by_cases h : m < 10
    · rw [digs_small h, natOf_cons, digit_toNat m h]; simp [natOf]
    · rw [digs_step h, natOf_snoc, ih _ (by omega), digit_toNat _ (by omega)]; omega
theorem digs_low (m : Nat) (h : 10 ≤ m) : 10 ^ ((digs m).length - 1) ≤ m := by
  induction m using Nat.strongRecOn with
  | _ m ih =>
    rw [digs_step (by omega)]
    rw [List.length_append, List.length_singleton, Nat.add_sub_cancel]
    by_cases h2 : m / 10 < 10
    · rw [digs_small h2]; simp; omega
    · have := ih (m / 10) (by omega) (by omega)
      have hp : 0 < (digs (m / 10)).length := List.length_pos_iff.2 (digs_ne _)
      obtain ⟨k, hk⟩ : ∃ k, (digs (m / 10)).length = k + 1 := ⟨_, (Nat.succ_pred_eq_of_pos hp).symm⟩
      rw [hk] at this ⊢
      rw [Nat.pow_succ]
      simp only [Nat.add_sub_cancel] at this
      omega
theorem digs_len_mono {a b : Nat} (h : (digs a).length < (digs b).length) : a < b := by
  have hb : 10 ≤ b := by
    rcases Nat.lt_or_ge b 10 with hlt | hge
    · rw [digs_small hlt] at h
      have : 0 < (digs a).length := List.length_pos_iff.2 (digs_ne _)
      simp at h
      exact absurd h (digs_ne a)
    · exact hge
  have h1 := digs_low b hb
  have h2 := natOf_lt (digs_digits a)
  rw [natOf_digs] at h2
  have h3 : 10 ^ (digs a).length ≤ 10 ^ ((digs b).length - 1) := Nat.pow_le_pow_right (by omega) (by omega)
  omega
theorem digs_lex {a b : Nat} (h : (digs a).length = (digs b).length) : Op.bytesLess (digs a) (digs b) = decide (a < b) := by
  rw [lex_nat h (digs_digits a) (digs_digits b), natOf_digs, natOf_digs]
theorem natOf_pos {b : UInt8} {r : List UInt8} (h : Digits (b :: r)) (hb : b ≠ 48) : 0 < natOf (b :: r) := by
  have h1 := h.head
  have h2 : b.toNat ≠ 48 := fun e => hb (UInt8.toNat_inj.1 e)
  rw [natOf_cons]
  have : 0 < (b.toNat - 48) * 10 ^ r.length := Nat.mul_pos (by omega) (Nat.pow_pos (by omega))
  omega
theorem digs_natOf_snoc (n : Nat) : ∀ {l : List UInt8}, l.length = n → Digits l → l ≠ [] → (l.head? = some 48 → l.length = 1) → digs (natOf l) = l := by
  induction n with
  | zero => intro l hl _ hne _; exact absurd (List.length_eq_zero_iff.1 hl) hne
  | succ n ih =>
    intro l hl hd hne hz
    obtain ⟨r, b, rfl⟩ : ∃ r b, l = r ++ [b] := ⟨_, _, (List.dropLast_concat_getLast hne).symm⟩
    have hb : 48 ≤ b.toNat ∧ b.toNat ≤ 57 := hd b (by simp)
    have hr : r.length = n := by simpa using hl
    have e48 : UInt8.ofNat (48 + (b.toNat - 48)) = b := by
      rw [show 48 + (b.toNat - 48) = b.toNat by omega]; simp
    rw [natOf_snoc]
    cases r with
    | nil =>
      rw [natOf_nil, digs_small (by omega), Nat.mul_zero, Nat.zero_add, e48]; rfl
    | cons h t =>
      have hh : h ≠ 48 := by
        rintro rfl
        have := hz rfl
        simp at this
      have hp := natOf_pos hd.left hh
      rw [digs_step (by omega), show (10 * natOf (h :: t) + (b.toNat - 48)) / 10 = natOf (h :: t) by omega, show (10 * natOf (h :: t) + (b.toNat - 48)) % 10 = b.toNat - 48 by omega, e48,
        ih hr hd.left (by simp) (fun e => by simp at e; exact absurd e hh)]
theorem digs_natOf {l : List UInt8} (hd : Digits l) (hne : l ≠ []) (hz : l.head? = some 48 → l.length = 1) : digs (natOf l) = l := digs_natOf_snoc _ rfl hd hne hz
theorem digs_head {m : Nat} (h : (digs m).head? = some 48) : m = 0 := by
  have hd := digs_digits m
  have hn := natOf_digs m
  have hs : m < 10 ∨ ¬ m < 10 := by omega
  rcases hs with hs | hs
  · rw [digs_small hs] at h
    simp only [List.head?_cons, Option.some.injEq] at h
    have := congrArg UInt8.toNat h
    rw [digit_toNat m hs] at this
    have e : (48 : UInt8).toNat = 48 := rfl
    omega
  · exfalso
    have hl := digs_low m (by omega)
    revert h hd hn hl
    have hlen : 2 ≤ (digs m).length := by
      rw [digs_step hs]
      have : 0 < (digs (m / 10)).length := List.length_pos_iff.2 (digs_ne _)
      simp
      omega
    revert hlen
    generalize digs m = l
    intro hlen h hd hn hl
    cases l with
    | nil => simp at h
    | cons b r =>
      simp at h
      subst h
      rw [natOf_cons] at hn
      have e : (48 : UInt8).toNat - 48 = 0 := rfl
      rw [e, Nat.zero_mul, Nat.zero_add] at hn
      have := natOf_lt hd.tail
      rw [List.length_cons, Nat.add_sub_cancel] at hl
      omega
theorem digs_len {m k : Nat} (h : m < 10 ^ k) (hk : 0 < k) : (digs m).length ≤ k := by
  rcases Nat.lt_or_ge m 10 with h1 | h1
  · rw [digs_small h1]; exact hk
  · have h2 := digs_low m h1
    rcases Nat.lt_or_ge k (digs m).length with h3 | h3
    · have : 10 ^ k ≤ 10 ^ ((digs m).length - 1) := Nat.pow_le_pow_right (by omega) (by omega)
      omega
    · exact h3
def LeftOf (m L : Nat) (tail : List UInt8) : Prop := digs m = if L = 0 then tail else digs L ++ tail
theorem LeftOf.start {m : Nat} (h : m ≠ 0) : LeftOf m m [] := by rw [LeftOf, if_neg h]; simp
theorem LeftOf.next {m L : Nat} {tail : List UInt8} (h : LeftOf m L tail) (hL : L ≠ 0) : LeftOf m (L / 10) (UInt8.ofNat (48 + L % 10) :: tail) := by
  rw [LeftOf, if_neg hL] at h
  rw [LeftOf, h]
  by_cases h1 : L < 10
  · rw [if_pos (by omega), digs_small h1, Nat.mod_eq_of_lt h1]; rfl
  · rw [if_neg (by omega), digs_step h1]; simp
theorem LeftOf.done {m : Nat} {tail : List UInt8} (h : LeftOf m 0 tail) : digs m = tail := h
theorem LeftOf.len {m L k : Nat} {tail : List UInt8} (h : LeftOf m L tail) (hm : m < 10 ^ k) (hk : 0 < k) : tail.length ≤ k := by
  have h1 := digs_len hm hk
  rw [h] at h1
  split at h1
  · exact h1
  · rw [List.length_append] at h1; omega
def wordOf (l : List UInt8) : Bool := decide (neg l < l.length) && (l.drop (neg l)).all dig && !(decide ((l.drop (neg l)).head? = some 48) && decide (l ≠ [48]))
structure IsWord (l : List UInt8) : Prop where
  some_ : neg l < l.length
  digits : Digits (l.drop (neg l))
  zero : (l.drop (neg l)).head? = some 48 → neg l = 0 ∧ l.length = 1
theorem isWord {l : List UInt8} (h : wordOf l = true) : IsWord l := by
  simp only [wordOf, Bool.and_eq_true, decide_eq_true_iff, Bool.not_eq_true', Bool.and_eq_false_iff, decide_eq_false_iff_not, ne_eq, Decidable.not_not] at h
  obtain ⟨⟨h1, h2⟩, h3⟩ := h
  refine ⟨h1, fun b hb => ?_, fun h => ?_⟩
  · have := List.all_eq_true.1 h2 b hb
    simpa [dig] using this
  · rcases h3 with h3 | h3
    · exact absurd h h3
    · subst h3; exact ⟨rfl, rfl⟩
theorem dig_of_digits {l : List UInt8} (h : Digits l) : l.all dig = true := by
  rw [List.all_eq_true]; intro b hb; simpa [dig] using h b hb
theorem takeWhile_of_all {p : UInt8 → Bool} {l : List UInt8} (h : l.all p = true) : (l.takeWhile p).length = l.length := by
  induction l with
  | nil => rfl
  | cons b r ih =>
    simp only [List.all_cons, Bool.and_eq_true] at h
    rw [List.takeWhile_cons, if_pos h.1, List.length_cons, List.length_cons, ih h.2]
theorem IsWord.piece {l : List UInt8} (h : IsWord l) : pieceLen l = l.length := by
  have h1 := h.some_
  rw [pieceLen, takeWhile_of_all (dig_of_digits h.digits), List.length_drop, if_neg (by omega)]
  omega
theorem IsWord.read {l : List UInt8} (h : IsWord l) : readOf l = if neg l = 1 then (if 9223372036854775808 < natOf (l.drop (neg l)) then (0, 3) else (-(natOf (l.drop (neg l)) : Int), 0))
    else (if 9223372036854775807 < natOf (l.drop (neg l)) then (0, 3) else ((natOf (l.drop (neg l)) : Int), 0)) := by
  have h1 := h.some_
  rw [readOf, h.piece, if_neg (by omega), valueOf, if_neg]
  rintro ⟨hz, ho⟩
  obtain ⟨e1, e2⟩ := h.zero hz
  rw [List.length_drop] at ho
  omega
theorem read_no_word {l : List UInt8} (h : wordOf l = false) : readOf l = (0, 4) := by
  rw [readOf]
  by_cases hp : pieceLen l = 0 ∨ pieceLen l ≠ l.length
  · rw [if_pos hp]
  · rw [if_neg hp, valueOf, if_pos]
    have hp2 : pieceLen l = l.length := by omega
    have hl : 0 < l.length := by omega
    have hg := piece_gt hp2 hl
    have ha : (l.drop (neg l)).all dig = true := by
      rw [List.all_eq_true]
      intro b hb
      obtain ⟨j, hj, rfl⟩ := List.getElem_of_mem hb
      rw [List.length_drop] at hj
      rw [List.getElem_drop]
      exact piece_digs hp2 hl _ (by omega) (by omega)
    rw [wordOf, decide_eq_true hg, ha] at h
    simp only [Bool.and_self, Bool.true_and, Bool.not_eq_false', Bool.and_eq_true, decide_eq_true_iff] at h
    refine ⟨h.1, ?_⟩
    have hn := neg_le_one l
    by_cases e : neg l = 1
    · exact .inl e
    · right
      have e0 : neg l = 0 := by omega
      rw [e0] at h ⊢
      rw [List.drop_zero] at h ⊢
      obtain ⟨h1, h2⟩ := h
      match l, h1, h2, hl with
      | [b], h1, h2, _ => simp at h1; subst h1; exact absurd rfl h2
      | b :: c :: r, _, _, _ => simp
def lessB (a b : List UInt8) : Bool := decide (a.length < b.length) || (decide (a.length = b.length) && (Op.bytesLess a b || a == b))
theorem lessB_digs (a b : Nat) : lessB (digs a) (digs b) = decide (a ≤ b) := by
  rw [lessB]
  rcases Nat.lt_trichotomy (digs a).length (digs b).length with h | h | h
  · have := digs_len_mono h
    rw [decide_eq_true h, Bool.true_or, eq_comm, decide_eq_true_iff]; omega
  · rw [decide_eq_false (by omega), decide_eq_true h, digs_lex h, Bool.false_or, Bool.true_and]
    have he : (digs a == digs b) = decide (a = b) := by
      by_cases e : a = b
      · subst e; simp
      · rw [decide_eq_false e, beq_eq_false_iff_ne]
        intro h2
        have := congrArg natOf h2
        rw [natOf_digs, natOf_digs] at this
        exact e this
    rw [he, ← Bool.decide_or, decide_eq_decide]
    omega
  · have := digs_len_mono h
    rw [decide_eq_false (by omega), decide_eq_false (by omega), Bool.false_and, Bool.false_or, eq_comm, decide_eq_false_iff_not]; omega
theorem IsWord.digs {l : List UInt8} (h : IsWord l) : digs (natOf (l.drop (neg l))) = l.drop (neg l) := by
  have h1 := h.some_
  refine digs_natOf h.digits (fun e => ?_) (fun hz => ?_)
  · have := congrArg List.length e
    rw [List.length_drop] at this
    simp at this
    omega
  · obtain ⟨e1, e2⟩ := h.zero hz
    rw [List.length_drop]; omega
theorem digs_most : digs 9223372036854775808 = [57, 50, 50, 51, 51, 55, 50, 48, 51, 54, 56, 53, 52, 55, 55, 53, 56, 48, 56] :=
  digs_natOf (l := [57, 50, 50, 51, 51, 55, 50, 48, 51, 54, 56, 53, 52, 55, 55, 53, 56, 48, 56]) (by intro b hb; revert b; decide) (by decide) (by decide)
theorem digs_max : digs 9223372036854775807 = [57, 50, 50, 51, 51, 55, 50, 48, 51, 54, 56, 53, 52, 55, 55, 53, 56, 48, 55] :=
  digs_natOf (l := [57, 50, 50, 51, 51, 55, 50, 48, 51, 54, 56, 53, 52, 55, 55, 53, 56, 48, 55]) (by intro b hb; revert b; decide) (by decide) (by decide)
theorem IsWord.less_most {l : List UInt8} (h : IsWord l) : lessB (l.drop (neg l)) [57, 50, 50, 51, 51, 55, 50, 48, 51, 54, 56, 53, 52, 55, 55, 53, 56, 48, 56] = decide (natOf (l.drop (neg l)) ≤ 9223372036854775808) := by
  rw [← digs_most]
  conv => lhs; rw [← h.digs]
  exact lessB_digs _ _
theorem IsWord.less_max {l : List UInt8} (h : IsWord l) : lessB (l.drop (neg l)) [57, 50, 50, 51, 51, 55, 50, 48, 51, 54, 56, 53, 52, 55, 55, 53, 56, 48, 55] = decide (natOf (l.drop (neg l)) ≤ 9223372036854775807) := by
  rw [← digs_max]
  conv => lhs; rw [← h.digs]
  exact lessB_digs _ _
def pref (l : List UInt8) (k : Nat) : Nat := natOf ((l.take k).drop (neg l))
theorem pref_zero (l : List UInt8) : pref l 0 = 0 := by simp [pref, natOf]
theorem pref_one {l : List UInt8} (h : neg l = 1) : pref l 1 = 0 := by
  rw [pref, h]
  have : ((l.take 1).drop 1) = [] := List.drop_eq_nil_iff.2 (by simp; omega)
  rw [this]; rfl
theorem pref_step {l : List UInt8} {k : Nat} (hk : k < l.length) (hn : neg l ≤ k) : pref l (k + 1) = 10 * pref l k + (l[k].toNat - 48) := by
  have hlen : (l.take k).length = k := by simp; omega
  rw [pref, List.take_succ_eq_append_getElem hk, List.drop_append_of_le_length (by omega), natOf_snoc]; rfl
theorem pref_le (l : List UInt8) (k : Nat) : pref l k ≤ natOf (l.drop (neg l)) := by
  rw [pref, List.drop_take]
  exact natOf_take_le _ _
theorem pref_end {l : List UInt8} {k : Nat} (h : l.length ≤ k) : pref l k = natOf (l.drop (neg l)) := by
  rw [pref, List.take_of_length_le h]
theorem neg_digs (m : Nat) (b : List UInt8) : neg (digs m ++ b) = 0 := by
  have hp : 0 < (digs m).length := List.length_pos_iff.2 (digs_ne m)
  refine neg_of_dig (by rw [List.length_append]; omega) ?_
  rw [List.getElem_append_left hp]
  have := digs_digits m _ (List.getElem_mem hp)
  omega
theorem print_neg_eq (n : Int) (b : List UInt8) : neg (print n ++ b) = if n < 0 then 1 else 0 := by
  rw [print]
  split
  · rfl
  · exact neg_digs _ _
theorem print_drop (n : Int) (b : List UInt8) : (print n ++ b).drop (neg (print n ++ b)) = digs n.natAbs ++ b := by
  rw [print_neg_eq, print]
  split
  · rfl
  · rfl
theorem takeWhile_stop {p : UInt8 → Bool} {x y : List UInt8} (hx : x.all p = true) (hy : ∀ b, y.head? = some b → p b = false) : (x ++ y).takeWhile p = x := by
  induction x with
  | nil =>
    cases y with
    | nil => rfl
    | cons b r => rw [List.nil_append, List.takeWhile_cons, if_neg (by simp [hy b rfl])]
  | cons b r ih =>
    simp only [List.all_cons, Bool.and_eq_true] at hx
    rw [List.cons_append, List.takeWhile_cons, if_pos hx.1, ih hx.2]
theorem print_len (n : Int) : (print n).length = (if n < 0 then 1 else 0) + (digs n.natAbs).length := by
  rw [print]; split <;> simp <;> omega
theorem print_piece (n : Int) {b : List UInt8} (hb : ∀ c, b.head? = some c → dig c = false) : pieceLen (print n ++ b) = (print n).length := by
  have hp : 0 < (digs n.natAbs).length := List.length_pos_iff.2 (digs_ne _)
  rw [pieceLen, print_drop, takeWhile_stop (dig_of_digits (digs_digits _)) hb, if_neg (by omega), print_neg_eq, print_len]
theorem print_value {n : Int} (h0 : -9223372036854775808 ≤ n) (h1 : n ≤ 9223372036854775807) : valueOf (print n) = (n, 0) := by
  have hd := print_drop n []
  have hn := print_neg_eq n []
  rw [List.append_nil] at hd hn
  rw [List.append_nil] at hd
  rw [valueOf, hd, hn, natOf_digs, if_neg]
  · by_cases h : n < 0
    · rw [if_pos h, if_pos rfl, if_neg (by omega)]; congr 1; omega
    · rw [if_neg h, if_neg (by omega), if_neg (by omega)]; congr 1; omega
  · rintro ⟨hz, ho⟩
    have := digs_head hz
    rw [this] at ho
    simp [digs_small] at ho
    omega
theorem print_read {n : Int} (h0 : -9223372036854775808 ≤ n) (h1 : n ≤ 9223372036854775807) : readOf (print n) = (n, 0) := by
  have hp := print_piece n (b := []) (by simp)
  rw [List.append_nil] at hp
  have hpos : 0 < (print n).length := by
    have := List.length_pos_iff.2 (digs_ne n.natAbs)
    rw [print_len]; omega
  rw [readOf, hp, if_neg (by omega), print_value h0 h1]
theorem read_print {l : List UInt8} (h : (readOf l).2 = 0) : print (readOf l).1 = l ∧ -9223372036854775808 ≤ (readOf l).1 ∧ (readOf l).1 ≤ 9223372036854775807 := by
  cases hw : wordOf l with
  | false => rw [read_no_word hw] at h; exact absurd h (by decide)
  | true =>
    have iw := isWord hw
    have hr := iw.read
    have hdg := iw.digs
    have hn := neg_le_one l
    have hs := iw.some_
    by_cases e : neg l = 1
    · rw [if_pos e] at hr
      by_cases hov : 9223372036854775808 < natOf (l.drop (neg l))
      · rw [hr, if_pos hov] at h; exact absurd h (by decide)
      · rw [hr, if_neg hov]
        have hpos : 0 < natOf (l.drop (neg l)) := by
          rcases Nat.eq_zero_or_pos (natOf (l.drop (neg l))) with hz | hz
          · exfalso
            rw [hz] at hdg
            have := iw.zero (by rw [← hdg]; simp [digs_small])
            omega
          · exact hz
        refine ⟨?_, by omega, by omega⟩
        simp only [print]
        rw [if_pos (by omega), show (-(natOf (l.drop (neg l)) : Int)).natAbs = natOf (l.drop (neg l)) by omega, hdg, e]
        match l, e, hs with
        | b :: r, e, _ =>
          simp only [neg] at e
          have hb : b.toNat = 45 := by
            by_cases hb : b.toNat = 45
            · exact hb
            · rw [if_neg hb] at e; exact absurd e (by decide)
          have : b = 45 := UInt8.toNat_inj.1 hb
          subst this; rfl
    · have e0 : neg l = 0 := by omega
      rw [if_neg e] at hr
      by_cases hov : 9223372036854775807 < natOf (l.drop (neg l))
      · rw [hr, if_pos hov] at h; exact absurd h (by decide)
      · rw [hr, if_neg hov]
        refine ⟨?_, by omega, by omega⟩
        simp only [print]
        rw [if_neg (by omega), show ((natOf (l.drop (neg l)) : Int)).natAbs = natOf (l.drop (neg l)) by omega, hdg, e0]; rfl
end Punnet.Num
end
section
namespace Go.Vm
open Go.RowKit
section
variable {P : Program} {N : Nat} {t : Tr} {h : Hp} {o : Oper}
theorem at_map {id : Nat} {es : List (D × D)} (hb : NAM ≤ id) (hm : h id = .mapo es) : envT t h id = .mapo es := by rw [envT_at hb, hm]; rfl
theorem at_free {id : Nat} (hb : NAM ≤ id) (hm : h id = .free) : envT t h id = .free := by rw [envT_at hb, hm]; rfl
theorem dg_of {ops : Array Oper} {fb : List Nat} {d : Nat} {s : S} (hy : YieldS P N o (envT t h) s) (hd : o.dst = some d) (hdN : d < N) (hNB : N ≤ BIG) (hg : guardOk ops o (envT t h) = some true) (hn : nb s = true) (hr : refOk o (envT t h) s = true) (hdr : derefOk ops o (envT t h) = true) (hcl : Nat.beq (clsOf fb o) 0 = false) : DG P N fb ops o (envT t h) (.slot (some d) s) := by
  have := dg_yield (fb := fb) hg hy (fun e => by rw [e] at hcl; cases hcl) hn hr hdr (fun u hu => by rw [hd] at hu; injection hu with hu; exact hu ▸ Nat.lt_of_lt_of_le hdN hNB)
  rwa [hd] at this
theorem q_look {ops : Array Oper} {fb : List Nat} {MT KT ET : TypeId} {dom : D → Prop} {x y : Nat} {id d : Nat} {es : List (D × D)} {k z r : D} {K : S → Prop} (hK : K (.c (.d r))) (hm : NAM ≤ id ∧ h id = .mapo es) (hk : KeyOk P KT dom) (hd0 : dom k) (hdom : ∀ p ∈ es, dom p.1) (hT : P.underlying MT = some (.map KT ET)) (hz : zeroD P ET = some z) (hr : ((findD k es 0).map (·.2)).getD z = r)
    (hop : o.op = .lookup MT (.tmp x) (.tmp y) false := by rfl) (hx : vd (envT t h) (.tmp x) = some (.mp id) := by rfl) (hy : vd (envT t h) (.tmp y) = some k := by rfl) (hd : o.dst = some d := by rfl) (hdN : d < N := by exact Nat.le_of_ble_eq_true rfl) (hNB : N ≤ BIG := by exact Nat.le_of_ble_eq_true rfl) (hg : guardOk ops o (envT t h) = some true := by rfl) (hcl : Nat.beq (clsOf fb o) 0 = false := by rfl) :
    ∃ s, DG P N fb ops o (envT t h) (.slot (some d) s) ∧ K s :=
  ⟨_, dg_of (Yield.all (y_lookup hop hx (at_map hm.1 hm.2) (namb hm.1) hy hT hk hd0 hdom hz hr hd hdN)) hd hdN hNB hg rfl rfl (by unfold derefOk addrOf; rw [hop]) hcl, hK⟩
theorem q_look2 {ops : Array Oper} {fb : List Nat} {MT KT ET : TypeId} {dom : D → Prop} {x y : Nat} {id d : Nat} {es : List (D × D)} {k z r : D} {found : Bool} {K : S → Prop} (hK : K (.tup [.d r, .d (.sc (.bool found))])) (hm : NAM ≤ id ∧ h id = .mapo es) (hk : KeyOk P KT dom) (hd0 : dom k) (hdom : ∀ p ∈ es, dom p.1) (hT : P.underlying MT = some (.map KT ET)) (hz : zeroD P ET = some z) (hr : ((findD k es 0).map (·.2)).getD z = r) (hf : (findD k es 0).isSome = found)
    (hop : o.op = .lookup MT (.tmp x) (.tmp y) true := by rfl) (hx : vd (envT t h) (.tmp x) = some (.mp id) := by rfl) (hy : vd (envT t h) (.tmp y) = some k := by rfl) (hd : o.dst = some d := by rfl) (hdN : d < N := by exact Nat.le_of_ble_eq_true rfl) (hNB : N ≤ BIG := by exact Nat.le_of_ble_eq_true rfl) (hg : guardOk ops o (envT t h) = some true := by rfl) (hcl : Nat.beq (clsOf fb o) 0 = false := by rfl) :
    ∃ s, DG P N fb ops o (envT t h) (.slot (some d) s) ∧ K s :=
  ⟨_, dg_of (Yield.all (y_lookup2 hop hx (at_map hm.1 hm.2) (namb hm.1) hy hT hk hd0 hdom hz hr hf hd hdN)) hd hdN hNB hg rfl rfl (by unfold derefOk addrOf; rw [hop]) hcl, hK⟩
theorem x_lenm {T KT ET : TypeId} {x : Nat} {id d n : Nat} {es : List (D × D)} {K : S → Hp → Prop} (hK : K (.c (.d (.sc (.int .i64 n)))) h) (hm : NAM ≤ id ∧ h id = .mapo es) (hT : P.underlying T = some (.map KT ET)) (hn : es.length = n)
    (hop : o.op = .call { callee := .builtin .len, args := #[.tmp x], argTypes := #[T] } := by rfl) (hx : vd (envT t h) (.tmp x) = some (.mp id) := by rfl) (hd : o.dst = some d := by rfl) (hdN : d < N := by exact Nat.le_of_ble_eq_true rfl) :
    ∃ (s : S) (h' : Hp), Step P N o (envT t h) (upd (envT t h') (some d) s) ∧ K s h' :=
  x_fy (y_lenm hop hx (at_map hm.1 hm.2) (namb hm.1) hT hn hd hdN) hK hd
theorem x_range {MT KT ET : TypeId} {x : Nat} {id d n : Nat} {es : List (D × D)} {K : S → Hp → Prop} (hK : K (.iter id n []) h) (hm : NAM ≤ id ∧ h id = .mapo es) (hT : P.underlying MT = some (.map KT ET)) (hn : es.length = n)
    (hop : o.op = .range MT (.tmp x) := by rfl) (hx : vd (envT t h) (.tmp x) = some (.mp id) := by rfl) (hd : o.dst = some d := by rfl) (hdN : d < N := by exact Nat.le_of_ble_eq_true rfl) :
    ∃ (s : S) (h' : Hp), Step P N o (envT t h) (upd (envT t h') (some d) s) ∧ K s h' := by
  subst hn
  exact ⟨_, h, s_range hop hx (at_map hm.1 hm.2) hT hd hdN, hK⟩
theorem x_entry {it id d n i : Nat} {l : List Nat} {es : List (D × D)} {p : D × D} {K : S → Hp → Prop} (hK : K (.tup [.d p.1, .d p.2]) h) (hm : NAM ≤ id ∧ h id = .mapo es) (hn : es.length = n) (hp : es[i]? = some p)
    (hop : o.op = .entry (.tmp it) := by rfl) (hit : t.get it = .iter id n (l ++ [i]) := by rfl) (hi : it < NAM := by exact Nat.le_of_ble_eq_true rfl) (hd : o.dst = some d := by rfl) (hdN : d < N := by exact Nat.le_of_ble_eq_true rfl) :
    ∃ (s : S) (h' : Hp), Step P N o (envT t h) (upd (envT t h') (some d) s) ∧ K s h' :=
  ⟨_, h, s_entry hop (by rw [envT_lt hi]; exact hit) (at_map hm.1 hm.2) hn hp hd hdN, hK⟩
theorem x_put {MT KT ET : TypeId} {dom : D → Prop} {x y z : Nat} {id : Nat} {es es' : List (D × D)} {k v : D} {K : Nat → S → Prop} (hK : K id (.mapo es')) (hm : NAM ≤ id ∧ h id = .mapo es) (hk : KeyOk P KT dom) (hd0 : dom k) (hdom : ∀ p ∈ es, dom p.1) (hT : P.underlying MT = some (.map KT ET)) (hes : putD k v es = es')
    (hop : o.op = .mapUpdate MT (.tmp x) (.tmp y) (.tmp z) := by rfl) (hx : vd (envT t h) (.tmp x) = some (.mp id) := by rfl) (hy : vd (envT t h) (.tmp y) = some k := by rfl) (hz : vd (envT t h) (.tmp z) = some v := by rfl) (hd : o.dst = none := by rfl) :
    ∃ (id : Nat) (s : S), (NAM ≤ id ∧ Step P N o (envT t h) (upd (envT t h) (some id) (nameS s))) ∧ K id s :=
  ⟨id, .mapo es', ⟨hm.1, s_mapUpdate hop hx (at_map hm.1 hm.2) hy hz hT hk hd0 hdom hes hd⟩, hK⟩
theorem x_mkmap {MT : TypeId} {d : Nat} {K : S → Hp → Prop} (n : Nat) (hK : K (.c (.d (.mp n))) (hset h n (.mapo []))) (hm : NAM ≤ n ∧ h n = .free) (hop : o.op = .makeMap MT none := by rfl) (hd : o.dst = some d := by rfl) (hdN : d < N := by exact Nat.le_of_ble_eq_true rfl) (hNB : N ≤ BIG := by exact Nat.le_of_ble_eq_true rfl) :
    ∃ (s : S) (h' : Hp), Step P N o (envT t h) (upd (envT t h') (some d) s) ∧ K s h' := by
  refine ⟨_, _, ?_, hK⟩
  unfold hset
  rw [envT_name hm.1]
  exact s_makeMap hop (at_free hm.1 hm.2) hd hdN (by have := namb hm.1; omega)
theorem x_newbox {T : TypeId} {x : Nat} {d : Nat} {r : D} {cs : List D} {K : S → Hp → Prop} (n : Nat) (hK : K (.c (.d (.ptr n 0))) (hset h n (.obj cs))) (hm : NAM ≤ n ∧ h n = .free) (hc : r.cells = cs := by rfl) (hop : o.op = .box T (.tmp x) := by rfl) (hx : vd (envT t h) (.tmp x) = some r := by rfl) (hd : o.dst = some d := by rfl) (hdN : d < N := by exact Nat.le_of_ble_eq_true rfl) (hNB : N ≤ BIG := by exact Nat.le_of_ble_eq_true rfl) :
    ∃ (s : S) (h' : Hp), Step P N o (envT t h) (upd (envT t h') (some d) s) ∧ K s h' := by
  subst hc
  refine ⟨_, _, ?_, hK⟩
  unfold hset
  rw [envT_name hm.1]
  exact s_new_box hop hx (at_free hm.1 hm.2) hd hdN (by have := namb hm.1; omega)
def hpost (h : Hp) : List (Nat × S) → Hp
  | [] => h
  | (n, s) :: l => hset (hpost h l) n s
theorem hpost_find : ∀ (l : List (Nat × S)) (h : Hp) (u : Nat), hpost h l u = match l.find? fun p => p.1 == u with | some p => p.2 | none => h u
  | [], h, u => rfl
  | (n, s) :: l, h, u => by
    simp only [hpost, hset, List.find?_cons]
    by_cases e : u = n
    · subst e; simp
    · have : (n == u) = false := by simpa using fun h => e h.symm
      simp only [if_neg e, this]; exact hpost_find l h u
def preOk (h : Hp) : List (Nat × S) → Prop
  | [] => True
  | (n, s) :: l => (NAM ≤ n ∧ h n = s) ∧ preOk h l
theorem preOk_spec : ∀ {pre : List (Nat × S)}, preOk h pre → ∀ p ∈ pre, NAM ≤ p.1 ∧ h p.1 = p.2
  | [], _, p, hp => by cases hp
  | (n, s) :: l, ⟨h1, h2⟩, p, hp => by
    rcases List.mem_cons.1 hp with rfl | hp
    · exact h1
    · exact preOk_spec h2 p hp
theorem setH_env {pre post : List (Nat × S)} (hpre : preOk h pre) (hq : ∀ p ∈ post, live p.2 = true ∧ nameIn pre p.1 = true) (hall : ∀ p ∈ pre, nameIn post p.1 = true) : setH pre post (envT t h) = envT t (hpost h post) := by
  have hp := preOk_spec hpre
  have hbig : ∀ p ∈ post, NAM ≤ p.1 := fun p hm => by
    obtain ⟨s, hs⟩ := nameIn_mem (hq p hm).2
    exact (hp _ hs).1
  funext u
  unfold setH
  by_cases hu : u < NAM
  · have h1 : (post.find? fun p => p.1 == u) = none := by
      rw [List.find?_eq_none]; intro p hm; have := hbig p hm; simp only [beq_iff_eq]; omega
    have h2 : nameIn pre u = false := by
      unfold nameIn
      rw [List.any_eq_false]
      intro p hm; have := (hp p hm).1; simp only [beq_iff_eq]; omega
    rw [h1, h2, envT_lt hu, envT_lt hu]; rfl
  · have hge : NAM ≤ u := by omega
    have e2 : envT t (hpost h post) u = nameS (hpost h post u) := envT_at hge
    rw [e2, hpost_find]
    cases hf : post.find? fun p => p.1 == u with
    | some p =>
      have hl := (hq p (List.mem_of_find?_eq_some hf)).1
      simp only
      cases hs : p.2 <;> rw [hs] at hl <;> first | rfl | cases hl
    | none =>
      simp only
      have h2 : nameIn pre u = false := by
        cases h3 : nameIn pre u with
        | false => rfl
        | true =>
          obtain ⟨s, hs⟩ := nameIn_mem h3
          have h4 := hall _ hs
          obtain ⟨s', hs'⟩ := nameIn_mem h4
          have := List.find?_eq_none.1 hf _ hs'
          simp at this
      rw [h2, envT_at hge]; rfl
theorem pre_env {pre : List (Nat × S)} (hpre : preOk h pre) (hl : ∀ p ∈ pre, live p.2 = true ∨ p.2 = .free) : ∀ p ∈ pre, envT t h p.1 = p.2 ∧ (live p.2 = true ∨ p.2 = .free) := by
  intro p hm
  refine ⟨?_, hl p hm⟩
  obtain ⟨h1, h2⟩ := preOk_spec hpre p hm
  rw [envT_at h1, h2]
  rcases hl p hm with h3 | h3
  · cases hs : p.2 <;> rw [hs] at h3 <;> first | rfl | cases h3
  · rw [h3]; rfl
theorem post_big {pre post : List (Nat × S)} (hpre : preOk h pre) (hq : ∀ p ∈ post, live p.2 = true ∧ nameIn pre p.1 = true) : ∀ p ∈ post, live p.2 = true ∧ nameIn pre p.1 = true ∧ BIG ≤ p.1 := fun p hm => by
  obtain ⟨s, hs⟩ := nameIn_mem (hq p hm).2
  exact ⟨(hq p hm).1, (hq p hm).2, namb (preOk_spec hpre _ hs).1⟩
theorem x_callH {f : FuncId} {xs : Array Operand} {ts : Array TypeId} {ds : List D} {res : List C} {d : Nat} {pre post : List (Nat × S)} {K : S → Hp → Prop} (he : enters P f = true) (hc : ContractH P f ds pre res post) (hK : K (resS (res.map (setTok d))) (hpost h post)) (hpre : preOk h pre)
    (hl : ∀ p ∈ pre, live p.2 = true ∨ p.2 = .free := by simp [live]) (hq : ∀ p ∈ post, live p.2 = true ∧ nameIn pre p.1 = true := by simp [live, nameIn]) (hall : ∀ p ∈ pre, nameIn post p.1 = true := by simp [nameIn])
    (hop : o.op = .call { callee := .value (.func f), args := xs, argTypes := ts } := by rfl) (hx : vargs (envT t h) xs.toList = some ds := by rfl) (hd : o.dst = some d := by rfl) (hdN : d < N := by exact Nat.le_of_ble_eq_true rfl) (hNB : N ≤ BIG := by exact Nat.le_of_ble_eq_true rfl) :
    ∃ (s : S) (h' : Hp), Step P N o (envT t h) (upd (envT t h') (some d) s) ∧ K s h' := by
  refine ⟨_, _, ?_, hK⟩
  have := s_callH (N := N) (env := envT t h) hop he hx hc (pre_env hpre hl) (post_big hpre hq) hd hdN hNB
  rwa [setH_env hpre hq hall] at this
theorem hset_self {h : Hp} {n : Nat} {s : S} (e : h n = s) : hset h n s = h := by
  funext u; simp only [hset]; split
  · rename_i e2; rw [e2, e]
  · rfl
theorem hset_hset (h : Hp) (n : Nat) (a b : S) : hset (hset h n a) n b = hset h n b := by
  funext u; simp only [hset]; split <;> rfl
theorem hpost_self : ∀ {pre : List (Nat × S)}, preOk h pre → hpost h pre = h
  | [], _ => rfl
  | (n, s) :: l, hp => by
    simp only [hpost]
    rw [hpost_self hp.2]
    exact hset_self hp.1.2
theorem x_callR {f : FuncId} {xs : Array Operand} {ts : Array TypeId} {ds : List D} {res : List C} {d : Nat} {pre : List (Nat × S)} {K : S → Hp → Prop} (he : enters P f = true) (hc : ContractH P f ds pre res pre) (hK : K (resS (res.map (setTok d))) h) (hpre : preOk h pre)
    (hl : ∀ p ∈ pre, live p.2 = true := by simp [live])
    (hop : o.op = .call { callee := .value (.func f), args := xs, argTypes := ts } := by rfl) (hx : vargs (envT t h) xs.toList = some ds := by rfl) (hd : o.dst = some d := by rfl) (hdN : d < N := by exact Nat.le_of_ble_eq_true rfl) (hNB : N ≤ BIG := by exact Nat.le_of_ble_eq_true rfl) :
    ∃ (s : S) (h' : Hp), Step P N o (envT t h) (upd (envT t h') (some d) s) ∧ K s h' := by
  have hin : ∀ p ∈ pre, nameIn pre p.1 = true := fun p hp => List.any_eq_true.2 ⟨p, hp, by simp⟩
  exact x_callH he hc (by rw [hpost_self hpre]; exact hK) hpre (fun p hp => .inl (hl p hp)) (fun p hp => ⟨hl p hp, hin p hp⟩) hin hop hx hd hdN hNB
end
end Go.Vm
end
section
namespace Go.Vm
open Go.RowKit
def udropK (id : Nat) : List D → (List D → Prop) → Prop
  | [], K => K []
  | .rr a b c :: l, K => match Nat.beq a id with
    | true => udropK id l fun l' => K (.stale :: l')
    | false => udropK id l fun l' => K (.rr a b c :: l')
  | x :: l, K => udropK id l fun l' => K (x :: l')
theorem udropK_spec {id : Nat} : ∀ {l : List D} {K : List D → Prop}, udropK id l K → K (l.map (dropC id))
  | [], K, h => h
  | d :: l, K, h => by
    cases d with
    | rr a b c =>
      simp only [udropK] at h
      split at h
      · rename_i hb
        have := udropK_spec (K := fun l' => K (.stale :: l')) h
        simp only [List.map_cons, dropC, if_pos (Nat.eq_of_beq_eq_true hb)]; exact this
      · rename_i hb
        have := udropK_spec (K := fun l' => K (.rr a b c :: l')) h
        have hne : ¬ a = id := fun e => by rw [e, Nat.beq_refl] at hb; cases hb
        simp only [List.map_cons, dropC, if_neg hne]; exact this
    | _ => exact udropK_spec (K := fun l' => K (_ :: l')) h
def dropGK (id : Nat) (s : S) (K : S → Prop) : Prop := match s with
  | .sref u sz n => match Nat.beq u id with
    | true => K .junk
    | false => K (.sref u sz n)
  | .gref u sz n => match Nat.beq u id with
    | true => K .junk
    | false => K (.gref u sz n)
  | .ref u off => match Nat.beq u id with
    | true => K .junk
    | false => K (.ref u off)
  | .ubox cs => udropK id cs fun cs' => K (.ubox cs')
  | .uagg cs => udropK id cs fun cs' => K (.uagg cs')
  | s => sK s K
theorem dropGK_spec {id : Nat} (s : S) (K : S → Prop) (h : dropGK id s K) : K (dropG id s) := by
  cases s with
  | sref u sz n =>
    simp only [dropGK] at h
    show K (if u = id then .junk else .sref u sz n)
    split at h
    · rename_i hb; rw [if_pos (Nat.eq_of_beq_eq_true hb)]; exact h
    · rename_i hb; rw [if_neg (fun e => by rw [e, Nat.beq_refl] at hb; cases hb)]; exact h
  | gref u sz n =>
    simp only [dropGK] at h
    show K (if u = id then .junk else .gref u sz n)
    split at h
    · rename_i hb; rw [if_pos (Nat.eq_of_beq_eq_true hb)]; exact h
    · rename_i hb; rw [if_neg (fun e => by rw [e, Nat.beq_refl] at hb; cases hb)]; exact h
  | ref u off =>
    simp only [dropGK] at h
    show K (if u = id then .junk else .ref u off)
    split at h
    · rename_i hb; rw [if_pos (Nat.eq_of_beq_eq_true hb)]; exact h
    · rename_i hb; rw [if_neg (fun e => by rw [e, Nat.beq_refl] at hb; cases hb)]; exact h
  | ubox cs => exact udropK_spec (K := fun cs' => K (.ubox cs')) h
  | uagg cs => exact udropK_spec (K := fun cs' => K (.uagg cs')) h
  | c x => cases x <;> exact h
  | _ => exact h
theorem nameS_dropG {id : Nat} (s : S) : dropG id (nameS s) = nameS s := by cases s <;> rfl
theorem envT_appG {t t1 t2 t3 : Tr} {h : Hp} {id d : Nat} {s g : S} (hd : d < NAM) (hid : id < NAM) (hdi : d ≠ id) (h1 : ∀ u, t1.get u = dropG id (t.get u)) (h2 : ∀ u, t2.get u = if u = id then g else t1.get u) (h3 : ∀ u, t3.get u = if u = d then s else t2.get u) : envT t3 h = appG (envT t h) id d s g := by
  funext u
  simp only [envT, appG, h3, h2, h1]
  by_cases e : u = d
  · subst e; simp [hd]
  · simp only [if_neg e]
    by_cases e2 : u = id
    · subst e2; simp [hid]
    · simp only [if_neg e2]
      split
      · rfl
      · exact (nameS_dropG _).symm
theorem envT_setG {t t2 t3 : Tr} {h : Hp} {id d : Nat} {s g : S} (hd : d < NAM) (hid : id < NAM) (h2 : ∀ u, t2.get u = if u = id then g else t.get u) (h3 : ∀ u, t3.get u = if u = d then s else t2.get u) : envT t3 h = setG (envT t h) id d s g := by
  funext u
  simp only [envT, setG, h3, h2]
  by_cases e : u = d
  · subst e; simp [hd]
  · simp only [if_neg e]
    by_cases e2 : u = id
    · subst e2; simp [hid]
    · simp only [if_neg e2]
section
variable {P : Program} {N : Nat} {t : Tr} {h : Hp} {o : Oper}
theorem at_row {id sz : Nat} {xs : List D} (hi : id < NAM) (hg : t.get id = .gbox sz xs) : envT t h id = .gbox sz xs := by rw [envT_lt hi, hg]
theorem x_appG {T e : TypeId} {sz bytes id n d m : Nat} {x y : Operand} {xs ys zs : List D} {K : Tr → Hp → Prop} (hT : elemFull P T = some (e, sz, bytes))
    (hx : vget (envT t h) x = .sref id sz n) (hg : t.get id = .gbox sz xs) (hy : vd (envT t h) y = some (.row ys)) (hn : xs.length = n) (hw : ∀ y ∈ ys, y.cells.length = sz) (h63 : n + ys.length ≤ maxLen) (hby : (n + ys.length) * bytes ≤ 140737488355328) (hz : xs ++ ys = zs) (hm : n + ys.length = m)
    (hk : mapK (dropGK id) t fun t1 => setK 20 t1 id (.gbox sz zs) fun t2 => setK 20 t2 d (.sref id sz m) fun t3 => K t3 h)
    (hop : o.op = .call { callee := .builtin .append, args := #[x, y], argTypes := #[T, T] } := by rfl) (hd : o.dst = some d := by rfl) (hdN : d < N := by exact Nat.le_of_ble_eq_true rfl) (hNB : N ≤ BIG := by exact Nat.le_of_ble_eq_true rfl) (hid : BIG ≤ id := by exact Nat.le_of_ble_eq_true rfl) (hid2 : id < NAM := by exact Nat.le_of_ble_eq_true rfl) :
    StepP P N o (envT t h) fun e => ∃ (t' : Tr) (h' : Hp), e = envT t' h' ∧ K t' h' := by
  refine stepP_of ?_
  subst hz hm
  obtain ⟨t1, k1, hk⟩ := mapK_spec (f := dropG id) rfl dropGK_spec hk
  obtain ⟨t2, k2, hk⟩ := setK_spec hk
  obtain ⟨t3, k3, hk⟩ := setK_spec hk
  have hdB : d < BIG := Nat.lt_of_lt_of_le hdN hNB
  exact ⟨t3, h, by rw [envT_appG (nam hdB) hid2 (by omega) k1 k2 k3]; exact s_appendG hop hT hx (at_row hid2 hg) hn hy hw h63 hby hd hdN hdB, hk⟩
theorem x_freezeG {sz id n d : Nat} {x : Operand} {xs : List D} {K : Tr → Hp → Prop} (hx : vget (envT t h) x = .sref id sz n) (hg : t.get id = .gbox sz xs) (hn : xs.length = n)
    (hk : mapK (dropGK id) t fun t1 => setK 20 t1 id (.gbox sz []) fun t2 => setK 20 t2 d (.c (.d (.row xs))) fun t3 => K t3 h)
    (hop : o.op = .move x ∨ o.op = .assign x := by first | exact .inl rfl | exact .inr rfl) (hd : o.dst = some d := by rfl) (hdN : d < N := by exact Nat.le_of_ble_eq_true rfl) (hNB : N ≤ BIG := by exact Nat.le_of_ble_eq_true rfl) (hid : BIG ≤ id := by exact Nat.le_of_ble_eq_true rfl) (hid2 : id < NAM := by exact Nat.le_of_ble_eq_true rfl) :
    StepP P N o (envT t h) fun e => ∃ (t' : Tr) (h' : Hp), e = envT t' h' ∧ K t' h' := by
  refine stepP_of ?_
  obtain ⟨t1, k1, hk⟩ := mapK_spec (f := dropG id) rfl dropGK_spec hk
  obtain ⟨t2, k2, hk⟩ := setK_spec hk
  obtain ⟨t3, k3, hk⟩ := setK_spec hk
  have hdB : d < BIG := Nat.lt_of_lt_of_le hdN hNB
  exact ⟨t3, h, by rw [envT_appG (nam hdB) hid2 (by omega) k1 k2 k3]; exact s_freezeG hop hx (at_row hid2 hg) hn hd hdN hdB, hk⟩
theorem x_turnG {f : FuncId} {ts : Array TypeId} {sz id n d : Nat} {x y : Operand} {xs xs' : List D} {dy : D} {K : Tr → Hp → Prop} (hf : enters P f = true) (hc : InPlace P f sz xs xs' dy) (hx : vget (envT t h) x = .sref id sz n) (hg : t.get id = .gbox sz xs) (hy : vd (envT t h) y = some dy) (hn : xs.length = n) (hl : xs'.length = xs.length) (hw : ∀ x ∈ xs', x.cells.length = sz)
    (hk : setK 20 t id (.gbox sz xs') fun t2 => setK 20 t2 d (.tup []) fun t3 => K t3 h)
    (hop : o.op = .call { callee := .value (.func f), args := #[x, y], argTypes := ts } := by rfl) (hd : o.dst = some d := by rfl) (hdN : d < N := by exact Nat.le_of_ble_eq_true rfl) (hNB : N ≤ BIG := by exact Nat.le_of_ble_eq_true rfl) (hid2 : id < NAM := by exact Nat.le_of_ble_eq_true rfl) :
    StepP P N o (envT t h) fun e => ∃ (t' : Tr) (h' : Hp), e = envT t' h' ∧ K t' h' := by
  refine stepP_of ?_
  obtain ⟨t2, k2, hk⟩ := setK_spec hk
  obtain ⟨t3, k3, hk⟩ := setK_spec hk
  have hdB : d < BIG := Nat.lt_of_lt_of_le hdN hNB
  exact ⟨t3, h, by rw [envT_setG (nam hdB) hid2 k2 k3]; exact s_callG hop hf hc hx (at_row hid2 hg) hn hl hw hy hd hdN hdB, hk⟩
theorem xnilG {c : Code} {Q : Exit → Env → Prop} (u id sz : Nat) (hu : t.get u = .c .nil) (hb : u < NAM) (hid2 : id < NAM) (hid : BIG ≤ id) (h0 : 0 < sz) (hk : setK 20 t id (.gbox sz []) fun t => setK 20 t u (.sref id sz 0) fun t => Leaf (VC P N c (envT t h) Q)) : Leaf (VC P N c (envT t h) Q) := by
  obtain ⟨t2, k2, hk⟩ := setK_spec hk
  obtain ⟨t3, k3, hk⟩ := setK_spec hk
  refine ⟨fun base w0 ro0 a w ⟨ro, blk, hs⟩ => hk.out base w0 ro0 a w ⟨ro, blk, ?_⟩⟩
  rw [envT_set hb k3, envT_set hid2 k2]
  by_cases e : u = id
  · subst e
    have h1 := hs.nilG (sz := sz) (u := u) (by rw [envT_lt hb]; exact hu) hid
    have e2 : upd (upd (envT t h) (some u) (.gbox sz [])) (some u) (.sref u sz 0) = upd (envT t h) (some u) (.sref u sz 0) := by
      funext v; simp only [upd]; split <;> rfl
    rw [e2]; exact h1
  · have h1 := hs.noneG (id := id) h0
    exact h1.nilG (by simp only [upd, if_neg e]; rw [envT_lt hb]; exact hu) hid
theorem y_frz {x : Operand} {r : D} {env : Env} (hop : o.op = .move x ∨ o.op = .assign x) (hx : vd env x = some r) {d : Nat} (hdst : o.dst = some d) (hd : d < N) : Yield P N o env (.c (.d r)) := by
  refine yield_of hdst hd fun env' he base w0 ro0 ro blk a w hs => ?_
  have h2 := hs.getD (x := x) (by rw [he.getD (by rcases hop with h | h <;> simp [h, Op.operands])]; exact hx)
  exact ⟨a.eval x, w, ro, by rcases hop with h | h <;> simp [execOp, h], Grow.refl hs.new, h2⟩
theorem x_frz {x : Operand} {r : List D} {d : Nat} {K : S → Hp → Prop} (hK : K (.c (.d (.row r))) h) (hop : o.op = .move x ∨ o.op = .assign x := by first | exact .inl rfl | exact .inr rfl) (hx : vd (envT t h) x = some (.row r) := by rfl) (hd : o.dst = some d := by rfl) (hdN : d < N := by exact Nat.le_of_ble_eq_true rfl) :
    ∃ (s : S) (h' : Hp), Step P N o (envT t h) (upd (envT t h') (some d) s) ∧ K s h' := x_fy (y_frz hop hx hd hdN) hK hd
theorem y_callF {f : FuncId} {g : Operand} {xs : Array Operand} {ts : Array TypeId} {ds : List D} {res : List C} {env : Env} (hop : o.op = .call { callee := .value g, args := xs, argTypes := ts }) (hg : vd env g = some (.fn f [])) (hf : enters P f = true) (hx : vargs env xs.toList = some ds) (hc : Contract P f ds res) {d : Nat} (hdst : o.dst = some d) (hd : d < N) : Yield P N o env (resS (res.map (setTok d))) := by
  refine ⟨⟨d, hdst, hd⟩, resS_free _, fun env' he base w0 ro0 ro blk a w hs K Q hK => ?_⟩
  have hx' : vargs env' xs.toList = some ds := by
    rw [← hx]
    refine vargs_agree fun x hm => he.getD ?_
    simp only [hop, Op.operands, Call.operands]
    simp [Array.mem_toList_iff.1 hm]
  obtain ⟨h1, h2⟩ := vargs_rep hs hx'
  have hgr := hs.getD (x := g) (by rw [he.getD (by simp [hop, Op.operands, Call.operands])]; exact hg)
  have hgv : a.eval g = .func (.func f) #[] #[] := by
    generalize hz : a.eval g = z at hgr
    cases hgr with
    | @fn f cap cs hl _ => obtain rfl : cap = #[] := Array.eq_empty_of_size_eq_zero (by simpa using hl); rfl
  unfold Oper.wp
  have hrun : (execOp a.eval o).run P w = .ok (.enter f (xs.map a.eval)) w := by
    unfold enters at hf
    split at hf
    · rename_i fn hfn
      simp only [Bool.and_eq_true, bne_iff_ne, ne_eq] at hf
      cases hbody : fn.body with
      | none => rw [hbody] at hf; simp at hf
      | some c => simp [execOp, hop, resolve, hgv, Deferred.ofValue, invoke, callFunc, hfn, hf.1, hbody]
    · cases hf
  rw [hrun, Oper.upon_enter]
  refine (hc ro w (xs.map a.eval) d hs.new hs.uniq (by simpa using h1) (by simpa using h2)).mono ?_
  rintro e w' ⟨v, ro', rfl, hg, hsat⟩
  exact hK _ _ _ hg fun _ _ => sat_res hs.room hsat
theorem x_callF {f : FuncId} {g : Operand} {xs : Array Operand} {ts : Array TypeId} {ds : List D} {res : List C} {d : Nat} {K : S → Hp → Prop} (hf : enters P f = true) (hc : Contract P f ds res) (hK : K (resS (res.map (setTok d))) h)
    (hop : o.op = .call { callee := .value g, args := xs, argTypes := ts } := by rfl) (hg : vd (envT t h) g = some (.fn f []) := by rfl) (hx : vargs (envT t h) xs.toList = some ds := by rfl) (hd : o.dst = some d := by rfl) (hdN : d < N := by exact Nat.le_of_ble_eq_true rfl) :
    ∃ (s : S) (h' : Hp), Step P N o (envT t h) (upd (envT t h') (some d) s) ∧ K s h' :=
  x_fy (y_callF hop hg hf hx hc hd hdN) hK hd
end
section
variable {P : Program} {N : Nat} {env : Env} {t : Tr} {h : Hp} {o : Oper}
end
end Go.Vm
end
section
namespace Go.Vm
open Go.RowKit
section
variable {P : Program} {N : Nat} {env : Env} {t : Tr} {h : Hp} {o : Oper}
end
section
variable {P : Program} {t t' : TypeId} {x y : Operand} {k k' yk : IntKind} {a b n c : Int}
end
end Go.Vm
end
section
namespace Go.Vm
def u64 (n : Int) : Nat := (n % 18446744073709551616).toNat
def i64 (u : Nat) : Int := if u < 9223372036854775808 then (u : Int) else (u : Int) - 18446744073709551616
abbrev inI64 (n : Int) : Prop := -9223372036854775808 ≤ n ∧ n < 9223372036854775808
theorem i64_in {u : Nat} (h : u < 18446744073709551616) : inI64 (i64 u) := by unfold i64; split <;> omega
end Go.Vm
end
section
namespace Go.Vm
abbrev St := Nat × Bool
variable {b : List UInt8} {f most : Int} {s : St}
end Go.Vm
end
