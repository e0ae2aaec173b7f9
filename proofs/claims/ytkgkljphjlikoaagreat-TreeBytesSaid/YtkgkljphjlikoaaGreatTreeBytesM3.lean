/- Part 3 of what the proof of TreeBytes stands on: Xg4, Xg5, Xg6, Xg7, Xg8, Xg9, XgU, XgS, CdP, LnPlain, PnP. -/
import Derived.IntWalk
import Derived.Laws.IdiomStrings
import Derived.Laws.StructEq
import Derived.Test.YtkgkljphjlikoaaGreatTreeBytesM2
section
namespace Go.Vm
open Go.RowKit
set_option linter.unusedVariables false
set_option linter.unusedSimpArgs false

def memN (n : Nat) : List Nat → Bool
  | [] => false
  | m :: l => match Nat.beq n m with
    | true => true
    | false => memN n l
def hset (h : Hp) (n : Nat) (s : S) : Hp := fun u => if u = n then s else h u
theorem hset_same (h : Hp) (n : Nat) (s : S) : hset h n s n = s := by simp [hset]
theorem hset_ne {h : Hp} {n m : Nat} {s : S} (e : m ≠ n) : hset h n s m = h m := by simp [hset, e]
def unrefK (d : Nat) (s : S) (K : S → Prop) : Prop := match s with
  | .ref u off => match Nat.beq u d with
    | true => K .junk
    | false => K (.ref u off)
  | s => sK s K
theorem unrefK_spec {d : Nat} (s : S) (K : S → Prop) (h : unrefK d s K) : K (unref d s) := by
  cases s with
  | ref u off =>
    simp only [unrefK] at h
    show K (if u = d then .junk else .ref u off)
    split at h
    · rename_i hb; rw [if_pos (Nat.eq_of_beq_eq_true hb)]; exact h
    · rename_i hb; rw [if_neg (fun e => by rw [e, Nat.beq_refl] at hb; cases hb)]; exact h
  | c x => cases x <;> exact h
  | _ => exact h
def demCK (τ : Nat) : List C → (List C → Prop) → Prop
  | [], K => K []
  | .d x :: l, K => demCK τ l fun l' => K (.d x :: l')
  | .own τ' e xs :: l, K => match Nat.beq τ' τ with
    | true => demCK τ l fun l' => K (.d (.row xs) :: l')
    | false => demCK τ l fun l' => K (.own τ' e xs :: l')
  | .nil :: l, K => demCK τ l fun l' => K (.nil :: l')
theorem demCK_spec {τ : Nat} : ∀ {l : List C} {K : List C → Prop}, demCK τ l K → K (l.map (demoteC τ))
  | [], _, h => h
  | .d x :: l, K, h => demCK_spec (l := l) (K := fun l' => K (.d x :: l')) h
  | .own τ' e xs :: l, K, h => by
    simp only [demCK] at h
    simp only [List.map_cons, demoteC]
    split at h
    · rename_i hb; rw [if_pos (Nat.eq_of_beq_eq_true hb)]; exact demCK_spec (l := l) (K := fun l' => K (_ :: l')) h
    · rename_i hb; rw [if_neg (fun e => by rw [e, Nat.beq_refl] at hb; cases hb)]; exact demCK_spec (l := l) (K := fun l' => K (_ :: l')) h
  | .nil :: l, K, h => demCK_spec (l := l) (K := fun l' => K (.nil :: l')) h
def demK (τ : Nat) (s : S) (K : S → Prop) : Prop := match s with
  | .c (.own τ' e xs) => match Nat.beq τ' τ with
    | true => K (.c (.d (.row xs)))
    | false => K (.c (.own τ' e xs))
  | .tup cs => demCK τ cs fun cs' => K (.tup cs')
  | s => sK s K
theorem demK_spec {τ : Nat} (s : S) (K : S → Prop) (h : demK τ s K) : K (demote τ s) := by
  cases s with
  | c x =>
    cases x with
    | own τ' e xs =>
      simp only [demK] at h
      unfold demote demoteC
      simp only
      split at h
      · rename_i hb; rw [if_pos (Nat.eq_of_beq_eq_true hb)]; exact h
      · rename_i hb; rw [if_neg (fun e => by rw [e, Nat.beq_refl] at hb; cases hb)]; exact h
    | _ => exact h
  | tup cs => exact demCK_spec h
  | _ => exact h

theorem nameS_unref {d : Nat} (s : S) : unref d (nameS s) = nameS s := by cases s <;> rfl
theorem nameS_demote {d : Nat} (s : S) : demote d (nameS s) = nameS s := by cases s <;> rfl
theorem envT_box {t t1 t2 : Tr} {h : Hp} {d : Nat} {cs : List D} (hd : d < NAM) (h1 : ∀ u, t1.get u = unref d (t.get u)) (h2 : ∀ u, t2.get u = if u = d then .box cs else t1.get u) : envT t2 h = boxEnv (envT t h) d cs := by
  funext u
  simp only [envT, boxEnv, h2, h1]
  by_cases e : u = d
  · subst e; simp [hd]
  · simp only [if_neg e]
    split
    · rfl
    · exact (nameS_unref _).symm
theorem envT_spend {t t1 t2 : Tr} {h : Hp} {d τ : Nat} {s : S} (hd : d < NAM) (h1 : ∀ u, t1.get u = demote τ (t.get u)) (h2 : ∀ u, t2.get u = if u = d then s else t1.get u) : envT t2 h = upd (spend (envT t h) τ) (some d) s := by
  funext u
  simp only [envT, spend, upd, h2, h1]
  by_cases e : u = d
  · subst e; simp [hd]
  · simp only [if_neg e]
    split
    · rfl
    · exact (nameS_demote _).symm

theorem blb_lt {u : Nat} (h : Nat.ble 500000 u = false) : u < BIG := by
  rcases Nat.lt_or_ge u 500000 with h1 | h1
  · exact h1
  · rw [Nat.ble_eq_true_of_le h1] at h; cases h
/-- An append to a row of the call's own, or to nil. -/
def appK (tt : TT) (d : Nat) (c : Call) (t : Tr) (K : Tr → Prop) : Prop := match c.args.toList, c.argTypes.toList with
  | [x, y], [T, T'] => match Nat.beq T T', tt.get T with
    | true, some (.slice e sz bytes) => ovK t x fun s => dK t y fun dy => match dy with
      | .row ys => match s with
        | .c (.own τ e' xs) => match Nat.beq e' e with
          | true => ((∀ y ∈ ys, y.cells.length = sz) ∧ xs.length + ys.length ≤ maxLen ∧ (xs.length + ys.length) * bytes ≤ 140737488355328) ∧ ∃ zs, xs ++ ys = zs ∧ mapK (demK τ) t fun t => setK 20 t d (.c (.own τ e zs)) fun t => K t
          | false => False
        | .c .nil => ((∀ y ∈ ys, y.cells.length = sz) ∧ ys.length ≤ maxLen ∧ ys.length * bytes ≤ 140737488355328) ∧ setK 20 t d (.c (.own d e ys)) fun t => K t
        | _ => False
      | _ => False
    | false, some (.slice e sz bytes) => match Nat.beq sz 1, tt.get T' with
      | true, some .str => ovK t x fun s => vK t y fun v => match s, v with
        | .c (.own τ e' xs), .string y => match Nat.beq e' e with
          | true => (xs.length + y.size ≤ maxLen ∧ (xs.length + y.size) * bytes ≤ 140737488355328) ∧ ∃ zs, xs ++ bytesD y = zs ∧ mapK (demK τ) t fun t => setK 20 t d (.c (.own τ e zs)) fun t => K t
          | false => False
        | _, _ => False
      | _, _ => False
    | _, _ => False
  | _, _ => False

/-- One operation that is carried out. fb: the slots whose operations are left to somebody. -/
def xstep (P : Program) (tt : TT) (N : Nat) (fb : List Nat) (o : Oper) (t : Tr) (h : Hp) (K : Tr → Hp → Prop) : Prop := match o.dst with
  | none => match o.op with
    | .store T x y => match tt.get T with
      | some i => ovK t y fun sy => match sy with
       | .sref q1 q2 q3 => match (shI i).1, Nat.beq (shI i).2 1 with
        | false, true => ovK t x fun s => match s with
          | .ref u off => match Nat.ble 500000 u, t.get u with
            | false, .ubox cs => patchK cs off [.rr q1 q2 q3] fun cs' => setK 20 t u (.ubox cs') fun t' => K t' h
            | _, _ => False
          | _ => False
        | _, _ => False
       | .uagg rc => match Nat.beq rc.length (shI i).2 with
        | true => ovK t x fun s => match s with
          | .ref u off => match Nat.ble 500000 u, t.get u with
            | false, .ubox cs => patchK cs off rc fun cs' => setK 20 t u (.ubox cs') fun t' => K t' h
            | _, _ => False
          | _ => False
        | false => False
       | _ => dK t y fun r => cellsK r fun rc => match Nat.beq rc.length (shI i).2 with
        | true => ovK t x fun s => match s with
          | .ref u off => match Nat.ble 500000 u, t.get u with
            | false, .box cs => patchK cs off rc fun cs' => setK 20 t u (.box cs') fun t' => K t' h
            | false, .ubox cs => patchK cs off rc fun cs' => setK 20 t u (.ubox cs') fun t' => K t' h
            | _, _ => False
          | .c (.d (.ptr id off)) => ∃ cs, (NAM ≤ id ∧ h id = .obj cs) ∧ patchK cs off rc fun cs' => K t (hset h id (.obj cs'))
          | _ => False
        | false => False
      | none => False
    | _ => ∃ (id : Nat) (s : S), (NAM ≤ id ∧ Step P N o (envT t h) (upd (envT t h) (some id) (nameS s))) ∧ K t (hset h id s)
  | some d => match Nat.ble N d with
    | true => False
    | false => match memN d fb with
      | true => ∃ (s : S) (h' : Hp), Step P N o (envT t h) (upd (envT t h') (some d) s) ∧ sK s fun s => setK 20 t d s fun t' => K t' h'
      | false => match memN (Nat.add d 2000) fb with
      | true => StepP P N o (envT t h) fun e => ∃ (t' : Tr) (h' : Hp), e = envT t' h' ∧ K t' h'
      | false => match o.op with
        | .box T x => dK t x fun r => cellsK r fun cs => mapK (unrefK d) t fun t => setK 20 t d (.box cs) fun t => K t h
        | .alloc T => match tt.get T with
          | some i => match zI i with
            | some z => mapK (unrefK d) t fun t => setK 20 t d (.box z) fun t => K t h
            | none => False
          | none => False
        | .call c => match c.callee with
          | .builtin .append => appK tt d c t fun t => K t h
          | _ => yK P tt N d o t h fun s => setK 20 t d s fun t => K t h
        | _ => yK P tt N d o t h fun s => setK 20 t d s fun t => K t h

/-- Whether an operation is carried out. -/
def gK (all : List Oper) (kn : List Nat) (o : Oper) (t : Tr) (K : Bool → List Nat → Tr → Prop) : Prop := match o.guard with
  | none => K true kn t
  | some (j, want) => match all[j]? with
    | some oj => match oj.dst with
      | some u => match Nat.ble 1000000 u, t.get u with
        | false, .c (.d (.sc (.bool b))) => match memN u kn with
          | true => match b, want with
            | true, true => K true kn t
            | false, false => K true kn t
            | true, false => K false kn t
            | false, true => K false kn t
          | false => (b = true → setK 20 t u (.c (.d (.sc (.bool true)))) fun t => K want (u :: kn) t) ∧ (b = false → setK 20 t u (.c (.d (.sc (.bool false)))) fun t => K (!want) (u :: kn) t)
        | false, .tup _ => K false kn t
        | _, _ => False
      | none => False
    | none => False

abbrev XL := List Nat → Tr → Hp → (Tr → Hp → Prop) → Prop
def xopsB (P : Program) (tt : TT) (N : Nat) (fb : List Nat) (all : List Oper) (o : Oper) (rest : XL) : XL := fun kn t h K => gK all kn o t fun run kn t => match run with
  | false => match o.dst with
    | some d => match Nat.ble 1000000 d with
      | true => False
      | false => setK 20 t d (.tup []) fun t => rest kn t h K
    | none => rest kn t h K
  | true => match o.op with
    | .next (.tmp it) false => match o.dst, Nat.ble 1000000 it, t.get it with
      | some d, false, .iter id n seen => match Nat.ble N d, Nat.beq d it with
        | false, false => ∃ es, (NAM ≤ id ∧ h id = .mapo es ∧ es.length = n) ∧ ((∀ i, i < n → i ∈ seen) → setK 20 t d (.tup [.d (.sc (.bool false))]) fun t => rest kn t h K) ∧
          (∀ i p, es[i]? = some p → i ∉ seen → setK 20 t it (.iter id n (seen ++ [i])) fun t => setK 20 t d (.tup [.d (.sc (.bool true)), .d p.1, .d p.2]) fun t => rest kn t h K)
        | _, _ => False
      | _, _, _ => False
    | _ => xstep P tt N fb o t h fun t h => rest kn t h K
/-- By the recursor itself: so everybody who reckons comes to the same terms. -/
def xops (P : Program) (tt : TT) (N : Nat) (fb : List Nat) (all : List Oper) (l : List Oper) : XL := @List.rec Oper (fun _ => XL) (fun _ t h K => K t h) (fun o _ ih => xopsB P tt N fb all o ih) l

section
variable {P : Program} {tt : TT} {N : Nat} {fb : List Nat} {o : Oper} {t : Tr} {h : Hp} {K : Tr → Hp → Prop}

theorem blt_of {d : Nat} (h : Nat.ble N d = false) : d < N := by
  rcases Nat.lt_or_ge d N with h1 | h1
  · exact h1
  · rw [Nat.ble_eq_true_of_le h1] at h; cases h

theorem yset_sound (htt : TTok P tt) (hNB : N ≤ BIG) {d : Nat} (hdst : o.dst = some d) (hd : d < N) (hk : yK P tt N d o t h fun s => setK 20 t d s fun t => K t h) : ∃ t' h', Step P N o (envT t h) (envT t' h') ∧ K t' h' := by
  obtain ⟨s, h1, h2⟩ := yK_sound htt hdst hd hk
  obtain ⟨t', h3, h4⟩ := setK_spec h2
  refine ⟨t', h, ?_, h4⟩
  rw [envT_set (nam (Nat.lt_of_lt_of_le hd hNB)) h3]
  have := h1.step
  rwa [hdst] at this

/-- Nobody gets a new address in a variable. -/
def CalmE (env env' : Env) : Prop := ∀ t, (∀ d off, env' t = .ref d off → env t = .ref d off) ∧ (nb (env t) = true → nb (env' t) = true)
theorem calm_upd (env : Env) (u : Nat) (s : S) (h1 : nb s = true) (h2 : ∀ d off, s ≠ .ref d off) : CalmE env (upd env (some u) s) := by
  intro t
  by_cases e : t = u
  · subst e
    simp only [upd, if_true]
    exact ⟨fun d off h => absurd h (h2 d off), fun _ => h1⟩
  · simp only [upd, if_neg e]; exact ⟨fun _ _ h => h, fun h => h⟩
theorem calm_spend (env : Env) (τ u : Nat) (s : S) (h1 : nb s = true) (h2 : ∀ d off, s ≠ .ref d off) : CalmE env (upd (spend env τ) (some u) s) := by
  intro t
  by_cases e : t = u
  · subst e
    simp only [upd, if_true]
    exact ⟨fun d off h => absurd h (h2 d off), fun _ => h1⟩
  · simp only [upd, if_neg e, spend]
    cases env t <;> simp [demote, nb]
theorem appK_sound (htt : TTok P tt) (hNB : N ≤ BIG) {d : Nat} {c : Call} {K : Tr → Prop} (hop : o.op = .call c) (hcal : c.callee = .builtin .append) (hdst : o.dst = some d) (hd : d < N) (hk : appK tt d c t K) : ∃ t2, Step P N o (envT t h) (envT t2 h) ∧ K t2 ∧ CalmE (envT t h) (envT t2 h) := by
  have hdB : d < BIG := Nat.lt_of_lt_of_le hd hNB
  unfold appK at hk
  split at hk
  · rename_i x y T T' hx hT
    obtain ⟨callee, args, argTypes⟩ := c
    obtain rfl : args = #[x, y] := Array.ext' (by simpa using hx)
    obtain rfl : argTypes = #[T, T'] := Array.ext' (by simpa using hT)
    simp only at hcal
    subst hcal
    split at hk
    · rename_i e sz bytes hTT hi
      obtain rfl := Nat.eq_of_beq_eq_true hTT
      have hfull := (htt _ _ hi).2.1
      have hk := ovK_spec (h := h) hk
      obtain ⟨dy, h1, h2⟩ := dK_spec (h := h) hk
      split at h2
      · rename_i ys
        split at h2
        · rename_i τ e' xs hs
          split at h2
          · rename_i he
            obtain rfl := Nat.eq_of_beq_eq_true he
            obtain ⟨⟨h3, h4, h5⟩, zs, rfl, h6⟩ := h2
            obtain ⟨t1, h7, h8⟩ := mapK_spec (f := demote τ) rfl demK_spec h6
            obtain ⟨t2, h9, h10⟩ := setK_spec h8
            exact ⟨t2, by rw [envT_spend (nam hdB) h7 h9]; exact s_append hop hfull hs h1 h3 h4 h5 hdst hd, h10, by rw [envT_spend (nam hdB) h7 h9]; exact calm_spend _ _ _ _ rfl (by intro _ _ e; cases e)⟩
          · exact h2.elim
        · rename_i hs
          obtain ⟨⟨h3, h4, h5⟩, h6⟩ := h2
          obtain ⟨t2, h9, h10⟩ := setK_spec h6
          refine ⟨t2, ?_, h10, by rw [envT_set (nam hdB) h9]; exact calm_upd _ _ _ rfl (by intro _ _ e; cases e)⟩
          rw [envT_set (nam hdB) h9]
          have := (y_append_nil (d := d) hop hfull hs h1 h3 h4 h5 hdst hd).step
          rwa [hdst] at this
        · exact h2.elim
      · exact h2.elim
    · rename_i e sz bytes hTT hi
      split at hk
      · rename_i hsz hstr
        obtain rfl := Nat.eq_of_beq_eq_true hsz
        have hfull := (htt _ _ hi).2.1
        have hk := ovK_spec (h := h) hk
        obtain ⟨v, h1, _, h2⟩ := vK_spec (h := h) hk
        split at h2
        · rename_i τ e' xs y' hs _
          split at h2
          · rename_i he
            obtain rfl := Nat.eq_of_beq_eq_true he
            obtain ⟨⟨h4, h5⟩, zs, rfl, h6⟩ := h2
            obtain ⟨t1, h7, h8⟩ := mapK_spec (f := demote τ) rfl demK_spec h6
            obtain ⟨t2, h9, h10⟩ := setK_spec h8
            exact ⟨t2, by rw [envT_spend (nam hdB) h7 h9]; exact s_append_str hop hfull (htt _ _ hstr).2.1 hs h1 h4 h5 hdst hd, h10, by rw [envT_spend (nam hdB) h7 h9]; exact calm_spend _ _ _ _ rfl (by intro _ _ e; cases e)⟩
          · exact h2.elim
        · exact h2.elim
      · exact hk.elim
    · exact hk.elim
  · exact hk.elim

theorem stepP_of (hs : ∃ t' h', Step P N o (envT t h) (envT t' h') ∧ K t' h') : StepP P N o (envT t h) fun e => ∃ t' h', e = envT t' h' ∧ K t' h' := by
  obtain ⟨t', h', h1, h2⟩ := hs
  exact h1.toP ⟨t', h', rfl, h2⟩
set_option maxHeartbeats 1000000 in
theorem xstep_sound2 (htt : TTok P tt) (hNB : N ≤ BIG) (hk : xstep P tt N fb o t h K) : StepP P N o (envT t h) fun e => ∃ t' h', e = envT t' h' ∧ K t' h' := by
  unfold xstep at hk
  split at hk
  · rename_i hdst
    refine stepP_of ?_
    split at hk
    · rename_i T x y hop
      split at hk
      · rename_i i hi
        have hsh := shI_ok (htt _ _ hi)
        have hk := ovK_spec (h := h) hk
        split at hk
        · rename_i q1 q2 q3 hy
          split at hk
          · rename_i ha hl
            have hl := Nat.eq_of_beq_eq_true hl
            have h2 := ovK_spec (h := h) hk
            split at h2
            · rename_i u off hx
              split at h2
              · rename_i cs hb hcs
                have hu := blb_lt hb
                obtain ⟨h3, h4⟩ := patchK_spec h2
                obtain ⟨t', h5, h6⟩ := setK_spec h4
                refine ⟨t', h, ?_, h6⟩
                rw [envT_set (nam hu) h5]
                have hsh' : tshape P T = some (false, 1) := by rw [hsh]; cases hq : shI i; rw [hq] at ha hl; simp at ha hl; rw [ha, hl]
                exact s_storeR (m := 1) hop hx (by rw [envT_lt (nam hu)]; exact hcs) hu hy hsh' h3 hdst
              · exact h2.elim
            · exact h2.elim
          · exact hk.elim
        · rename_i rc hy
          split at hk
          · rename_i hl
            have hl := Nat.eq_of_beq_eq_true hl
            have h2 := ovK_spec (h := h) hk
            split at h2
            · rename_i u off hx
              split at h2
              · rename_i cs hb hcs
                have hu := blb_lt hb
                obtain ⟨h3, h4⟩ := patchK_spec h2
                obtain ⟨t', h5, h6⟩ := setK_spec h4
                refine ⟨t', h, ?_, h6⟩
                rw [envT_set (nam hu) h5]
                exact s_storeA hop hx (by rw [envT_lt (nam hu)]; exact hcs) hu hy hsh hl h3 hdst
              · exact h2.elim
            · exact h2.elim
          · exact hk.elim
        obtain ⟨r, h1, h2⟩ := dK_spec (h := h) hk
        have h2 := cellsK_spec h2
        split at h2
        · rename_i hl
          have hl := Nat.eq_of_beq_eq_true hl
          have h2 := ovK_spec (h := h) h2
          split at h2
          · rename_i u off hx
            split at h2
            · rename_i cs hb hcs
              have hu := nam (blb_lt hb)
              obtain ⟨h3, h4⟩ := patchK_spec h2
              obtain ⟨t', h5, h6⟩ := setK_spec h4
              refine ⟨t', h, ?_, h6⟩
              rw [envT_set hu h5]
              exact s_store hop hx (by rw [envT_lt hu]; exact hcs) h1 hsh hl h3 hdst
            · rename_i cs hb hcs
              have hu := nam (blb_lt hb)
              obtain ⟨h3, h4⟩ := patchK_spec h2
              obtain ⟨t', h5, h6⟩ := setK_spec h4
              refine ⟨t', h, ?_, h6⟩
              rw [envT_set hu h5]
              exact s_storeU hop hx (by rw [envT_lt hu]; exact hcs) (blb_lt hb) h1 hsh hl h3 hdst
            · exact h2.elim
          · rename_i id off hx
            obtain ⟨cs, ⟨hb, hid⟩, h2⟩ := h2
            obtain ⟨h3, h4⟩ := patchK_spec h2
            refine ⟨t, _, ?_, h4⟩
            unfold hset
            rw [envT_name hb]
            exact s_store_ptr hop (by unfold vd; rw [hx]; rfl) (by rw [envT_at hb, hid]; rfl) h1 hsh hl h3 hdst
          · exact h2.elim
        · exact h2.elim
      · exact hk.elim
    · obtain ⟨id, s, ⟨hb, h1⟩, h2⟩ := hk
      refine ⟨t, _, ?_, h2⟩
      unfold hset
      rw [envT_name hb]; exact h1
  · rename_i d hdst
    split at hk
    · exact hk.elim
    · rename_i hdN
      have hd := blt_of hdN
      have hdB : d < BIG := Nat.lt_of_lt_of_le hd hNB
      split at hk
      · refine stepP_of ?_
        obtain ⟨s, h', h1, h2⟩ := hk
        obtain ⟨t', h3, h4⟩ := setK_spec (sK_spec h2)
        exact ⟨t', h', by rw [envT_set (nam hdB) h3]; exact h1, h4⟩
      · split at hk
        · exact hk
        refine stepP_of ?_
        split at hk
        · rename_i T x hop
          obtain ⟨r, h1, h2⟩ := dK_spec (h := h) hk
          obtain ⟨t1, h3, h4⟩ := mapK_spec (f := unref d) rfl unrefK_spec (cellsK_spec h2)
          obtain ⟨t2, h5, h6⟩ := setK_spec h4
          exact ⟨t2, h, by rw [envT_box (nam hdB) h3 h5]; exact s_box hop h1 hdst hd hdB, h6⟩
        · rename_i T hop
          split at hk
          · rename_i i hi
            split at hk
            · rename_i z hz
              obtain ⟨t1, h3, h4⟩ := mapK_spec (f := unref d) rfl unrefK_spec hk
              obtain ⟨t2, h5, h6⟩ := setK_spec h4
              exact ⟨t2, h, by rw [envT_box (nam hdB) h3 h5]; exact s_alloc hop (zI_ok (htt _ _ hi) hz) hdst hd hdB, h6⟩
            · exact hk.elim
          · exact hk.elim
        · rename_i c hop
          split at hk
          · rename_i hcal
            obtain ⟨t2, h1, h2, _⟩ := appK_sound (h := h) htt hNB hop hcal hdst hd hk
            exact ⟨t2, h, h1, h2⟩
          · exact yset_sound htt hNB hdst hd hk
        · exact yset_sound htt hNB hdst hd hk

theorem gK_sound {all : List Oper} {kn : List Nat} {K : Bool → List Nat → Tr → Prop} (hk : gK all kn o t K) : ∃ run kn' t', guardOk all.toArray o (envT t' h) = some run ∧ envT t' h = envT t h ∧ K run kn' t' := by
  unfold gK at hk
  unfold guardOk
  split at hk
  · rename_i hg
    exact ⟨true, kn, t, by rw [hg], rfl, hk⟩
  · rename_i j want hg
    simp only [hg, List.getElem?_toArray]
    split at hk
    · rename_i oj hj
      simp only [hj, Option.bind_some]
      split at hk
      · rename_i u hu
        simp only [hu]
        split at hk
        · rename_i b hb hs
          have hlt := ble_lt hb
          split at hk
          · split at hk
            all_goals exact ⟨_, kn, t, by rw [envT_lt hlt, hs]; rfl, rfl, hk⟩
          · cases b with
            | true =>
              obtain ⟨t', h1, h2⟩ := setK_spec (hk.1 rfl)
              have e : envT t' h = envT t h := by
                rw [envT_set hlt h1]
                funext v
                simp only [upd]
                split
                · rename_i e; subst e; rw [envT_lt hlt, hs]
                · rfl
              refine ⟨_, _, t', ?_, e, h2⟩
              rw [envT_lt hlt, h1, if_pos rfl]
              cases want <;> rfl
            | false =>
              obtain ⟨t', h1, h2⟩ := setK_spec (hk.2 rfl)
              have e : envT t' h = envT t h := by
                rw [envT_set hlt h1]
                funext v
                simp only [upd]
                split
                · rename_i e; subst e; rw [envT_lt hlt, hs]
                · rfl
              refine ⟨_, _, t', ?_, e, h2⟩
              rw [envT_lt hlt, h1, if_pos rfl]
              cases want <;> rfl
        · rename_i cs hb hs
          exact ⟨false, kn, t, by rw [envT_lt (ble_lt hb), hs], rfl, hk⟩
        · exact hk.elim
      · exact hk.elim
    · exact hk.elim

theorem xops_sound (htt : TTok P tt) (hNB : N ≤ BIG) {all : List Oper} : ∀ {l : List Oper} {kn : List Nat} {t : Tr} {h : Hp} {K : Tr → Hp → Prop}, xops P tt N fb all l kn t h K → VL P N all.toArray l (envT t h) (fun env => ∃ t h, env = envT t h ∧ K t h)
  | [], kn, t, h, K, hk => vl_nil ⟨t, h, rfl, hk⟩
  | o :: rest, kn, t, h, K, hk => by
    change xopsB P tt N fb all o (xops P tt N fb all rest) kn t h K at hk
    unfold xopsB at hk
    obtain ⟨run, kn', t', hg, he, hk⟩ := gK_sound (h := h) hk
    rw [← he]
    cases run with
    | false =>
      simp only at hk
      refine vl_skip hg ?_
      split at hk
      · rename_i d hdst
        split at hk
        · exact hk.elim
        · rename_i hb
          obtain ⟨t2, h1, h2⟩ := setK_spec hk
          rw [hdst, ← envT_set (ble_lt hb) h1]
          exact xops_sound htt hNB h2
      · rename_i hdst
        rw [hdst]
        exact xops_sound htt hNB hk
    | true =>
      simp only at hk
      split at hk
      · rename_i it hop
        split at hk
        · rename_i d id n seen hdst hb hit
          split at hk
          · rename_i hdN hne
            obtain ⟨es, ⟨hid, hm, hn⟩, hk1, hk2⟩ := hk
            have hd := blt_of hdN
            have hlt := ble_lt hb
            refine vl_next (ty := 0) hop hg (by rw [envT_lt hlt]; exact hit) (by rw [envT_at hid, hm]; rfl) hn hdst hd (fun e => by rw [e, Nat.beq_refl] at hne; cases hne) (fun h0 => ?_) (fun i p hp hi => ?_)
            · obtain ⟨t2, h1, h2⟩ := setK_spec (hk1 h0)
              rw [← envT_set (nam (Nat.lt_of_lt_of_le hd hNB)) h1]
              exact xops_sound htt hNB h2
            · obtain ⟨t2, h1, h2⟩ := setK_spec (hk2 i p hp hi)
              obtain ⟨t3, h3, h4⟩ := setK_spec h2
              rw [← envT_set hlt h1, ← envT_set (nam (Nat.lt_of_lt_of_le hd hNB)) h3]
              exact xops_sound htt hNB h4
          · exact hk.elim
        · exact hk.elim
      · refine vl_stepP hg (xstep_sound2 htt hNB hk) ?_
        rintro e ⟨t2, h2, rfl, h4⟩
        exact xops_sound htt hNB h4
end
end Go.Vm
end
section
namespace Go.Vm
open Go.RowKit
set_option linter.unusedVariables false
set_option linter.unusedSimpArgs false

def freshK (ds : List Nat) (s : S) (K : S → Prop) : Prop := match s with
  | .ref u off => match memN u ds with
    | true => K .junk
    | false => K (.ref u off)
  | s => sK s K
theorem memN_spec : ∀ {l : List Nat} {n : Nat}, memN n l = l.contains n
  | [], n => rfl
  | m :: l, n => by
    simp only [memN, List.contains_cons]
    have beqe : Nat.beq n m = (n == m) := by rw [Bool.eq_iff_iff]; simp [Nat.beq_eq]
    rw [← beqe]
    split
    · rename_i h; rw [h]; rfl
    · rename_i h; rw [h, Bool.false_or]; exact memN_spec
/-- A slot that is given anew in the region is not looked at ahead of that. -/
def clearK : List Nat → Tr → (Tr → Prop) → Prop
  | [], t, K => K t
  | d :: l, t, K => match Nat.ble 500000 d with
    | true => False
    | false => setK 20 t d .junk fun t => clearK l t K
theorem clearK_spec : ∀ {l : List Nat} {t : Tr} {K : Tr → Prop}, clearK l t K → ∃ t', (∀ u, t'.get u = if l.contains u then .junk else t.get u) ∧ (∀ d ∈ l, d < BIG) ∧ K t'
  | [], t, K, h => ⟨t, fun u => by simp, by simp, h⟩
  | d :: l, t, K, h => by
    simp only [clearK] at h
    split at h
    · exact h.elim
    · rename_i hb
      obtain ⟨t1, h1, h2⟩ := setK_spec h
      obtain ⟨t2, h3, h4, h5⟩ := clearK_spec h2
      refine ⟨t2, fun u => ?_, ?_, h5⟩
      · rw [h3, h1, List.contains_cons]
        by_cases e : u = d
        · subst e; simp
        · have : (u == d) = false := by simpa using e
          simp [this, e]
      · intro x hx
        rcases List.mem_cons.1 hx with rfl | hx
        · exact blb_lt hb
        · exact h4 x hx

/-- An operation of a region that draws its order, that makes no difference to others. -/
def xq1 (P : Program) (tt : TT) (N : Nat) (fb : List Nat) (all : List Oper) (o : Oper) (rest : XL) (run : Bool) : XL := fun kn t h K => match derefOk all.toArray o (envT t h) with
    | false => False
    | true => match run with
      | false => match o.dst with
        | some d => match Nat.ble 500000 d with
          | true => False
          | false => setK 20 t d (.tup []) fun t => rest kn t h K
        | none => rest kn t h K
      | true => match o.dst with
        | none => match o.op with
          | .store T x y => match tt.get T with
            | some i => ovK t y fun sy => match sy with
             | .sref q1 q2 q3 => match (shI i).1, Nat.beq (shI i).2 1 with
              | false, true => ovK t x fun s => match s with
                | .ref u off => match Nat.ble 500000 u, t.get u with
                  | false, .ubox cs => patchK cs off [.rr q1 q2 q3] fun cs' => setK 20 t u (.ubox cs') fun t' => rest kn t' h K
                  | _, _ => False
                | _ => False
              | _, _ => False
             | _ => dK t y fun r => cellsK r fun rc => match Nat.beq rc.length (shI i).2 with
              | true => ovK t x fun s => match s with
                | .ref u off => match Nat.ble 500000 u, t.get u with
                  | false, .box cs => patchK cs off rc fun cs' => setK 20 t u (.box cs') fun t' => rest kn t' h K
                  | false, .ubox cs => patchK cs off rc fun cs' => setK 20 t u (.ubox cs') fun t' => rest kn t' h K
                  | _, _ => False
                | _ => False
              | false => False
            | none => False
          | _ => False
        | some d => match Nat.ble N d with
          | true => False
          | false => match memN d fb with
            | true => ∃ s, DG P N fb all.toArray o (envT t h) (.slot (some d) s) ∧ sK s fun s => setK 20 t d s fun t => rest kn t h K
            | false => match memN (Nat.add d 4000) fb with
            | true => ∃ (eff : Eff) (s : S) (h' : Hp), (DG P N fb all.toArray o (envT t h) eff ∧ eff.app (envT t h) = upd (envT t h') (some d) s) ∧ sK s fun s => setK 20 t d s fun t => rest kn t h' K
            | false => match o.op with
              | .box T x => dK t x fun r => cellsK r fun cs => setK 20 t d (.box cs) fun t => rest kn t h K
              | .alloc T => match tt.get T with
                | some i => match zI i with
                  | some z => setK 20 t d (.box z) fun t => rest kn t h K
                  | none => False
                | none => False
              | _ => match memN (Nat.add d 6000) fb with
                | true => yK P tt N d o t (fun _ => .junk) fun s => match nb s, refOk o (envT t h) s with
                  | true, true => setK 20 t d s fun t => rest kn t h K
                  | _, _ => False
                | false => yK P tt N d o t h fun s => match nb s, refOk o (envT t h) s with
                  | true, true => setK 20 t d s fun t => rest kn t h K
                  | _, _ => False
def notRef : S → Bool
  | .ref _ _ => false
  | _ => true
/-- An operation that stands alone: it may write. -/
def barK (P : Program) (tt : TT) (N : Nat) (fb : List Nat) (o : Oper) (t : Tr) (h : Hp) (K : Tr → Hp → Prop) : Prop := match o.dst with
  | none => ∃ (id : Nat) (s : S), (NAM ≤ id ∧ Step P N o (envT t h) (upd (envT t h) (some id) (nameS s))) ∧ K t (hset h id s)
  | some d => match Nat.ble N d with
    | true => False
    | false => match o.op with
      | .call c => match memN (Nat.add d 2000) fb with
       | true => ∃ (t' : Tr) (h' : Hp), (Step P N o (envT t h) (envT t' h') ∧ CalmE (envT t h) (envT t' h')) ∧ K t' h'
       | false => match c.callee with
        | .builtin .append => appK tt d c t fun t => K t h
        | _ => ∃ (s : S) (h' : Hp), Step P N o (envT t h) (upd (envT t h') (some d) s) ∧ sK s fun s => match nb s, notRef s with
          | true, true => setK 20 t d s fun t' => K t' h'
          | _, _ => False
      | _ => False
def isBar (fb : List Nat) (o : Oper) : Bool := match o.op with
  | .mapUpdate .. => true
  | _ => match o.dst with
    | some d => memN (Nat.add d 1000) fb
    | none => false
def barOf (fb : List Nat) : List Oper → Nat → List Nat
  | [], _ => []
  | o :: l, k => match isBar fb o with
    | true => k :: barOf fb l (Nat.succ k)
    | false => barOf fb l (Nat.succ k)
def xqB (P : Program) (tt : TT) (N : Nat) (fb : List Nat) (all : List Oper) (bar : List Nat) (o : Oper) (rest : Nat → XL) : Nat → XL := fun k kn t h K => gK all kn o t fun run kn t => match memN k bar with
  | true => match run with
    | true => barK P tt N fb o t h fun t h => rest (Nat.succ k) kn t h K
    | false => False
  | false => xq1 P tt N fb all o (rest (Nat.succ k)) run kn t h K
def xq (P : Program) (tt : TT) (N : Nat) (fb : List Nat) (all : List Oper) (bar : List Nat) (l : List Oper) : Nat → XL := @List.rec Oper (fun _ => Nat → XL) (fun _ _ t h K => K t h) (fun o _ ih => xqB P tt N fb all bar o ih) l

/-- Code. -/
abbrev XC := Tr → Hp → (Exit → Tr → Hp → Prop) → Prop
def xseq (a b : XC) : XC := fun t h K => a t h fun e t h => match e with
  | .normal => b t h K
  | .ret => K .ret t h
  | .exit id => K (.exit id) t h
  | .goto l => K (.goto l) t h
  | .panic c => K (.panic c) t h
  | .outgrown => K .outgrown t h
def xcond (c : Operand) (a b : XC) : XC := fun t h K => ovK t c fun s => match s with
  | .c (.d (.sc (.bool p))) => match c with
    | .tmp u => match Nat.ble 1000000 u with
      | true => False
      | false => (p = true → setK 20 t u (.c (.d (.sc (.bool true)))) fun t => a t h K) ∧ (p = false → setK 20 t u (.c (.d (.sc (.bool false)))) fun t => b t h K)
    | _ => (p = true → a t h K) ∧ (p = false → b t h K)
  | _ => False
def xblock (id : Nat) (b : XC) : XC := fun t h K => b t h fun e t h => match e with
  | .exit i => match Nat.beq i id with
    | true => K .normal t h
    | false => K (.exit i) t h
  | .normal => K .normal t h
  | .ret => K .ret t h
  | .goto l => K (.goto l) t h
  | .panic c => K (.panic c) t h
  | .outgrown => K .outgrown t h
def xregion (P : Program) (tt : TT) (N : Nat) (fb : List Nat) (ops : Array Oper) (draw : Bool) : XC := fun t h K => match draw with
  | false => xops P tt N fb ops.toList ops.toList [] t h (K .normal)
  | true => (P.follows .mixedOrders = true ∧ drawnB fb ops (barOf fb ops.toList 0) = true) ∧ mapK (freshK (news ops.toList)) t fun t => clearK (news ops.toList) t fun t => xq P tt N fb ops.toList (barOf fb ops.toList 0) ops.toList 0 [] t h (K .normal)
def xleaf (P : Program) (N : Nat) (c : Code) : XC := fun t h K => Leaf (VC P N c (envT t h) fun e env => ∃ t h, env = envT t h ∧ K e t h)
def xcode (P : Program) (tt : TT) (N : Nat) (fb : List Nat) (c : Code) : XC := @Code.rec (fun _ => XC)
  (fun t h K => K .normal t h)
  (fun _ ops draw => xregion P tt N fb ops draw)
  (fun _ _ a b => xseq a b)
  (fun c _ _ a b => xcond c a b)
  (fun id _ b => xblock id b)
  (fun b _ => xleaf P N (.loop b))
  (fun f ps a b _ _ => xleaf P N (.rangeFunc f ps a b))
  (fun id t h K => K (.exit id) t h)
  (fun b _ => xleaf P N (.scope b))
  (fun _ t h K => K .normal t h)
  (fun l t h K => K (.goto l) t h)
  (fun t h K => K .ret t h)
  (fun why => xleaf P N (.refuse why))
  c

section
variable {P : Program} {tt : TT} {N : Nat} {fb : List Nat} {o : Oper} {t : Tr} {h : Hp}

def freshF (ds : List Nat) : S → S
  | .ref u off => if ds.contains u then .junk else .ref u off
  | s => s
theorem freshK_spec {ds : List Nat} (s : S) (K : S → Prop) (h : freshK ds s K) : K (freshF ds s) := by
  cases s with
  | ref u off =>
    simp only [freshK, memN_spec] at h
    show K (if ds.contains u then .junk else .ref u off)
    split at h
    · rename_i hb; rw [if_pos hb]; exact h
    · rename_i hb; rw [if_neg (by rw [hb]; simp)]; exact h
  | c x => cases x <;> exact h
  | _ => exact h
theorem nameS_fresh {ds : List Nat} {u : Nat} (hd : ∀ d ∈ ds, d < BIG) (hu : ¬ u < NAM) (s : S) : fresh1 ds u (nameS s) = nameS s := by
  cases s <;> rfl

set_option maxHeartbeats 1000000 in
theorem xq1_sound (htt : TTok P tt) (hNB : N ≤ BIG) {all : List Oper} {rest : XL} {run : Bool} {kn : List Nat} {t : Tr} {h : Hp} {K : Tr → Hp → Prop} (hg : guardOk all.toArray o (envT t h) = some run) (hk : xq1 P tt N fb all o rest run kn t h K) :
    ∃ eff, DG P N fb all.toArray o (envT t h) eff ∧ ∃ t' h' kn', eff.app (envT t h) = envT t' h' ∧ rest kn' t' h' K := by
  unfold xq1 at hk
  split at hk
  · exact hk.elim
  · rename_i hdr
    cases run with
    | false =>
      simp only at hk
      split at hk
      · rename_i d hdst
        split at hk
        · exact hk.elim
        · rename_i hb
          obtain ⟨t2, h1, h2⟩ := setK_spec hk
          refine ⟨_, dg_skip hg hdr (fun u hu => by rw [hdst] at hu; injection hu with hu; exact hu ▸ blb_lt hb), _, _, _, ?_, h2⟩
          show upd _ o.dst _ = _
          rw [hdst, ← envT_set (nam (blb_lt hb)) h1]
      · rename_i hdst
        refine ⟨_, dg_skip hg hdr (fun u hu => by rw [hdst] at hu; cases hu), _, _, _, ?_, hk⟩
        show upd _ o.dst _ = _
        rw [hdst]; rfl
    | true =>
      simp only at hk
      split at hk
      · rename_i hdst
        split at hk
        · rename_i T x y hop
          split at hk
          · rename_i i hi
            have hsh := shI_ok (htt _ _ hi)
            have hk := ovK_spec (h := h) hk
            split at hk
            · rename_i q1 q2 q3 hy
              split at hk
              · rename_i ha hl
                have hl := Nat.eq_of_beq_eq_true hl
                have h2 := ovK_spec (h := h) hk
                split at h2
                · rename_i u off hx
                  split at h2
                  · rename_i cs hb hcs
                    have hu := blb_lt hb
                    obtain ⟨h3, h4⟩ := patchK_spec h2
                    obtain ⟨t2, h5, h6⟩ := setK_spec h4
                    have hsh' : tshape P T = some (false, 1) := by rw [hsh]; cases hq : shI i; rw [hq] at ha hl; simp at ha hl; rw [ha, hl]
                    refine ⟨_, dg_storeR hg hop hx (by rw [envT_lt (nam hu)]; exact hcs) hy hsh' h3 hdst hdr hu, _, _, _, ?_, h6⟩
                    show upd _ (some u) _ = _
                    rw [← envT_set (nam hu) h5]
                  · exact h2.elim
                · exact h2.elim
              · exact hk.elim
            obtain ⟨r, h1, h2⟩ := dK_spec (h := h) hk
            have h2 := cellsK_spec h2
            split at h2
            · rename_i hl
              have hl := Nat.eq_of_beq_eq_true hl
              have h2 := ovK_spec (h := h) h2
              split at h2
              · rename_i u off hx
                split at h2
                · rename_i cs hb hcs
                  have hu := blb_lt hb
                  obtain ⟨h3, h4⟩ := patchK_spec h2
                  obtain ⟨t2, h5, h6⟩ := setK_spec h4
                  refine ⟨_, dg_store hg hop hx (by rw [envT_lt (nam hu)]; exact hcs) h1 hsh hl h3 hdst hdr hu, _, _, _, ?_, h6⟩
                  show upd _ (some u) _ = _
                  rw [← envT_set (nam hu) h5]
                · rename_i cs hb hcs
                  have hu := blb_lt hb
                  obtain ⟨h3, h4⟩ := patchK_spec h2
                  obtain ⟨t2, h5, h6⟩ := setK_spec h4
                  refine ⟨_, dg_storeU hg hop hx (by rw [envT_lt (nam hu)]; exact hcs) h1 hsh hl h3 hdst hdr hu, _, _, _, ?_, h6⟩
                  show upd _ (some u) _ = _
                  rw [← envT_set (nam hu) h5]
                · exact h2.elim
              · exact h2.elim
            · exact h2.elim
          · exact hk.elim
        · exact hk.elim
      · rename_i d hdst
        split at hk
        · exact hk.elim
        · rename_i hdN
          have hd := blt_of hdN
          have hdB : d < BIG := Nat.lt_of_lt_of_le hd hNB
          split at hk
          · obtain ⟨s, h1, h2⟩ := hk
            obtain ⟨t2, h3, h4⟩ := setK_spec (sK_spec h2)
            refine ⟨_, h1, _, _, _, ?_, h4⟩
            show upd _ (some d) _ = _
            rw [← envT_set (nam hdB) h3]
          · split at hk
            · obtain ⟨eff, s, h', ⟨h1, h2⟩, h3⟩ := hk
              obtain ⟨t2, h4, h5⟩ := setK_spec (sK_spec h3)
              refine ⟨_, h1, _, _, _, ?_, h5⟩
              rw [h2, ← envT_set (nam hdB) h4]
            rename_i hw4
            split at hk
            · rename_i T x hop
              obtain ⟨r, h1, h2⟩ := dK_spec (h := h) hk
              obtain ⟨t2, h5, h6⟩ := setK_spec (cellsK_spec h2)
              refine ⟨_, dg_box hg hop h1 hdst hd hdB, _, _, _, ?_, h6⟩
              show upd _ (some d) _ = _
              rw [← envT_set (nam hdB) h5]
            · rename_i T hop
              split at hk
              · rename_i i hi
                split at hk
                · rename_i z hz
                  obtain ⟨t2, h5, h6⟩ := setK_spec hk
                  refine ⟨_, dg_alloc hg hop (zI_ok (htt _ _ hi) hz) hdst hd hdB, _, _, _, ?_, h6⟩
                  show upd _ (some d) _ = _
                  rw [← envT_set (nam hdB) h5]
                · exact hk.elim
              · exact hk.elim
            · split at hk
              · obtain ⟨s, h1, h2⟩ := yK_sound htt hdst hd hk
                split at h2
                · rename_i hn hr
                  obtain ⟨t2, h5, h6⟩ := setK_spec h2
                  have e0 : envT t (fun _ => S.junk) = noN (envT t h) := by
                    funext u
                    unfold noN envT
                    split <;> rfl
                  rw [e0] at h1
                  refine ⟨_, dg_free hg h1 hn hr hdr (fun u hu => by rw [hdst] at hu; injection hu with hu; exact hu ▸ hdB), _, _, _, ?_, h6⟩
                  show upd _ o.dst _ = _
                  rw [hdst, ← envT_set (nam hdB) h5]
                · exact h2.elim
              · rename_i hw6
                have hcl : clsOf fb o ≠ 0 := by
                  unfold clsOf
                  rw [hdst]
                  simp only
                  split
                  · decide
                  · rw [if_neg (by rw [← memN_spec]; intro e; exact absurd (hw6.symm.trans e) (by decide))]; decide
                obtain ⟨s, h1, h2⟩ := yK_sound htt hdst hd hk
                split at h2
                · rename_i hn hr
                  obtain ⟨t2, h5, h6⟩ := setK_spec h2
                  refine ⟨_, dg_yield hg h1.all hcl hn hr hdr (fun u hu => by rw [hdst] at hu; injection hu with hu; exact hu ▸ hdB), _, _, _, ?_, h6⟩
                  show upd _ o.dst _ = _
                  rw [hdst, ← envT_set (nam hdB) h5]
                · exact h2.elim

theorem barK_sound (htt : TTok P tt) (hNB : N ≤ BIG) {all : List Oper} {t : Tr} {h : Hp} {K : Tr → Hp → Prop} (hg : guardOk all.toArray o (envT t h) = some true) (hk : barK P tt N fb o t h K) : ∃ t' h', BStep P N all.toArray o (envT t h) (envT t' h') ∧ K t' h' := by
  have calm : ∀ {env env' : Env}, Step P N o env env' → CalmE env env' → guardOk all.toArray o env = some true → BStep P N all.toArray o env env' := fun h1 h2 h3 => ⟨.inl ⟨h3, h1⟩, fun t => (h2 t).1, fun t => (h2 t).2⟩
  have cname : ∀ (id : Nat) (s : S), NAM ≤ id → CalmE (envT t h) (upd (envT t h) (some id) (nameS s)) := fun id s _ => calm_upd _ _ _ (by cases s <;> rfl) (by intro _ _ e; cases s <;> cases e)
  unfold barK at hk
  split at hk
  · obtain ⟨id, s, ⟨hb, h1⟩, h2⟩ := hk
    refine ⟨t, _, ?_, h2⟩
    unfold hset
    rw [envT_name hb]
    exact calm h1 (cname id s hb) hg
  · rename_i d hdst
    split at hk
    · exact hk.elim
    · rename_i hdN
      have hd := blt_of hdN
      have hdB : d < BIG := Nat.lt_of_lt_of_le hd hNB
      split at hk
      · rename_i c hop
        split at hk
        · obtain ⟨t', h', ⟨h1, h2⟩, h3⟩ := hk
          exact ⟨t', h', calm h1 h2 hg, h3⟩
        split at hk
        · rename_i hcal
          obtain ⟨t2, h1, h2, h3⟩ := appK_sound (h := h) htt hNB hop hcal hdst hd hk
          exact ⟨t2, h, calm h1 h3 hg, h2⟩
        · obtain ⟨s, h', h1, h2⟩ := hk
          have h2 := sK_spec h2
          split at h2
          · rename_i hn hr
            obtain ⟨t', h3, h4⟩ := setK_spec h2
            refine ⟨t', h', ?_, h4⟩
            rw [envT_set (nam hdB) h3]
            refine calm h1 (fun u => ?_) hg
            by_cases e : u = d
            · subst e
              simp only [upd, if_true]
              exact ⟨(fun a b e => by rw [e] at hr; cases hr), fun _ => hn⟩
            · simp only [upd, if_neg e]
              by_cases hu : u < NAM
              · rw [envT_lt hu, envT_lt hu]; exact ⟨fun _ _ h => h, fun h => h⟩
              · simp only [envT, if_neg hu]
                exact ⟨(fun _ _ e => by cases hx : h' u <;> rw [hx] at e <;> cases e), (fun _ => by cases h' u <;> rfl)⟩
          · exact h2.elim
      · exact hk.elim
theorem xq_sound (htt : TTok P tt) (hNB : N ≤ BIG) {all : List Oper} {bar : List Nat} : ∀ {l : List Oper} {k : Nat} {kn : List Nat} {t : Tr} {h : Hp} {K : Tr → Hp → Prop}, xq P tt N fb all bar l k kn t h K → VB P N fb all.toArray bar (fun env => ∃ t h, env = envT t h ∧ K t h) k l (envT t h)
  | [], k, kn, t, h, K, hk => ⟨t, h, rfl, hk⟩
  | o :: rest, k, kn, t, h, K, hk => by
    change xqB P tt N fb all bar o (xq P tt N fb all bar rest) k kn t h K at hk
    unfold xqB at hk
    obtain ⟨run, kn', t', hg, he, hk⟩ := gK_sound (h := h) hk
    rw [← he]
    unfold VB
    split at hk
    · rename_i hm
      rw [if_pos (by rw [memN_spec] at hm; simpa using hm)]
      split at hk
      · obtain ⟨t2, h2, h3, h4⟩ := barK_sound htt hNB hg hk
        exact ⟨_, h3, xq_sound htt hNB h4⟩
      · exact hk.elim
    · rename_i hm
      rw [if_neg (by rw [memN_spec] at hm; simpa using hm)]
      obtain ⟨eff, h1, t2, h2, kn2, h3, h4⟩ := xq1_sound htt hNB hg hk
      exact ⟨eff, h1, by rw [h3]; exact xq_sound htt hNB h4⟩
theorem vb_mono {ops : Array Oper} {bar : List Nat} {K K' : Env → Prop} (hK : ∀ env, K env → K' env) : ∀ {l : List Oper} {k : Nat} {env : Env}, VB P N fb ops bar K k l env → VB P N fb ops bar K' k l env
  | [], k, env, h => hK env h
  | o :: l, k, env, h => by
    unfold VB at h ⊢
    split
    · rename_i hm
      rw [if_pos hm] at h
      obtain ⟨env', h1, h2⟩ := h
      exact ⟨env', h1, vb_mono hK h2⟩
    · rename_i hm
      rw [if_neg hm] at h
      obtain ⟨eff, h1, h2⟩ := h
      exact ⟨eff, h1, vb_mono hK h2⟩

theorem xdrawn_sound (htt : TTok P tt) (hNB : N ≤ BIG) {id : Nat} {l : List Oper} {K : Tr → Hp → Prop} {Q : Exit → Env → Prop} (hQ : ∀ t h, K t h → Q .normal (envT t h)) (hm : P.follows .mixedOrders = true) {bar : List Nat} (hB : drawnB fb l.toArray bar = true)
    (hk : mapK (freshK (news l)) t fun t => clearK (news l) t fun t => xq P tt N fb l bar l 0 [] t h K) : VC P N (.region id l.toArray true) (envT t h) Q := by
  obtain ⟨t1, h1, hk⟩ := mapK_spec (f := freshF (news l)) rfl freshK_spec hk
  obtain ⟨t2, h2, hds, hk⟩ := clearK_spec hk
  refine vc_weaken (env' := envT t2 h) (fun u => ?_) (vc_drawnB bar hm hB ?_)
  · by_cases hu : u < NAM
    · rw [envT_lt hu, envT_lt hu, h2, h1]
      by_cases hc : (news l).contains u = true
      · right; simp only [hc, if_true]
      · simp only [hc, Bool.false_eq_true, if_false]
        cases t.get u with
        | ref d off =>
          simp only [freshF]
          by_cases hd : (news l).contains d = true
          · right; simp only [hd, if_true]
          · left; simp only [hd, Bool.false_eq_true, if_false]
        | _ => left; rfl
    · left; simp only [envT, if_neg hu]
  · have e : freshen l (envT t2 h) = envT t2 h := by
      funext u
      unfold freshen
      by_cases hu : u < NAM
      · rw [envT_lt hu, h2, h1]
        by_cases hc : (news l).contains u = true
        · simp only [hc, if_true]; rfl
        · simp only [hc, Bool.false_eq_true, if_false]
          cases t.get u with
          | ref d off =>
            simp only [freshF]
            by_cases hd : (news l).contains d = true
            · simp only [hd, if_true]; rfl
            · simp only [hd, Bool.false_eq_true, if_false, fresh1]
          | box cs => simp only [freshF, fresh1, hc, Bool.false_eq_true, if_false]
          | ubox cs => simp only [freshF, fresh1, hc, Bool.false_eq_true, if_false]
          | _ => rfl
      · simp only [envT, if_neg hu]
        exact nameS_fresh hds hu _
    rw [e]
    have := xq_sound htt hNB hk
    refine vb_mono ?_ this
    rintro env ⟨t, h, rfl, hk⟩
    exact hQ t h hk
end
end Go.Vm
end
section
namespace Go.Vm
open Go.RowKit
set_option linter.unusedVariables false
set_option linter.unusedSimpArgs false

def liftK (K : Exit → Tr → Hp → Prop) : Exit → Env → Prop := fun e env => ∃ t h, env = envT t h ∧ K e t h
section
variable {P : Program} {tt : TT} {N : Nat} {fb : List Nat} {t : Tr} {h : Hp} {K : Exit → Tr → Hp → Prop}

theorem xcode_sound (htt : TTok P tt) (hNB : N ≤ BIG) : ∀ {c : Code} {t : Tr} {h : Hp} {K : Exit → Tr → Hp → Prop}, xcode P tt N fb c t h K → VC P N c (envT t h) (liftK K) := by
  intro c
  induction c with
  | skip => intro t h K hk; exact vc_skip ⟨t, h, rfl, hk⟩
  | label l => intro t h K hk; exact vc_label ⟨t, h, rfl, hk⟩
  | ret => intro t h K hk; exact vc_ret ⟨t, h, rfl, hk⟩
  | exit id => intro t h K hk; exact vc_exit ⟨t, h, rfl, hk⟩
  | goto l => intro t h K hk; exact vc_goto ⟨t, h, rfl, hk⟩
  | region id ops draw =>
    intro t h K hk
    cases draw with
    | false =>
      obtain ⟨l⟩ := ops
      exact vc_region (xops_sound htt hNB hk)
    | true =>
      obtain ⟨l⟩ := ops
      obtain ⟨⟨h1, h2⟩, h3⟩ := hk
      exact xdrawn_sound htt hNB (fun t h hk => ⟨t, h, rfl, hk⟩) h1 h2 h3
  | seq a b iha ihb =>
    intro t h K hk
    refine vc_then (vc_mono (iha hk) ?_)
    rintro e env ⟨t', h', rfl, hk'⟩
    cases e with
    | normal => exact ihb hk'
    | _ => exact ⟨t', h', rfl, hk'⟩
  | cond c a b iha ihb =>
    intro t h K hk
    have hk := ovK_spec (h := h) hk
    split at hk
    · rename_i p hp
      have hv : vd (envT t h) c = some (.sc (.bool p)) := by unfold vd; rw [hp]; rfl
      cases c with
      | tmp u =>
        simp only at hk
        split at hk
        · exact hk.elim
        · rename_i hb
          have hlt := ble_lt hb
          have hs : (envT t h) u = .c (.d (.sc (.bool p))) := by
            have h2 : slotV u (envT t h u) = .c (.d (.sc (.bool p))) := hp
            cases hx : envT t h u with
            | c x => rw [hx] at h2; exact h2
            | _ => rw [hx] at h2; cases h2
          have key : ∀ t', (∀ v, t'.get v = if v = u then .c (.d (.sc (.bool p))) else t.get v) → envT t' h = envT t h := by
            intro t' h1
            rw [envT_set hlt h1]
            funext v
            simp only [upd]
            split
            · rename_i e; subst e; exact hs.symm
            · rfl
          refine vc_if hv (fun e => ?_) (fun e => ?_)
          · obtain ⟨t', h1, h2⟩ := setK_spec (hk.1 e)
            rw [← key t' (by rw [e]; exact h1)]
            exact iha h2
          · obtain ⟨t', h1, h2⟩ := setK_spec (hk.2 e)
            rw [← key t' (by rw [e]; exact h1)]
            exact ihb h2
      | _ => exact vc_if hv (fun e => iha (hk.1 e)) (fun e => ihb (hk.2 e))
    · exact hk.elim
  | block id b ih =>
    intro t h K hk
    refine vc_block (vc_mono (ih hk) ?_)
    rintro e env ⟨t', h', rfl, hk'⟩
    cases e with
    | exit i =>
      simp only at hk'
      show if i = id then _ else _
      split at hk'
      · rename_i hb; rw [if_pos (Nat.eq_of_beq_eq_true hb)]; exact ⟨t', h', rfl, hk'⟩
      · rename_i hb; rw [if_neg (fun e => by rw [e, Nat.beq_refl] at hb; cases hb)]; exact ⟨t', h', rfl, hk'⟩
    | _ => exact ⟨t', h', rfl, hk'⟩
  | _ => intro t h K hk; exact hk.out

/-! ### Loops -/
/-- These slots as they are, those as it is said. -/
def copyK : List Nat → Tr → Tr → (Tr → Prop) → Prop
  | [], _, t1, K => K t1
  | a :: L, t, t1, K => sK (t.get a) fun s => setK 20 t1 a s fun t1 => copyK L t t1 K
theorem copyK_spec : ∀ {L : List Nat} {t t1 : Tr} {K : Tr → Prop}, copyK L t t1 K → ∃ t', (∀ u, t'.get u = if L.contains u then t.get u else t1.get u) ∧ K t'
  | [], t, t1, K, h => ⟨t1, by simp, h⟩
  | a :: L, t, t1, K, h => by
    obtain ⟨t2, h1, h2⟩ := setK_spec (sK_spec h)
    obtain ⟨t3, h3, h4⟩ := copyK_spec h2
    refine ⟨t3, fun u => ?_, h4⟩
    rw [h3, h1, List.contains_cons]
    by_cases e : u = a
    · subst e; simp
    · have : (u == a) = false := by simpa using e
      simp [this, e]
def setsK : List (Nat × S) → Tr → (Tr → Prop) → Prop
  | [], t, K => K t
  | (a, s) :: F, t, K => setK 20 t a s fun t => setsK F t K
theorem setsK_spec : ∀ {F : List (Nat × S)} {t : Tr} {K : Tr → Prop}, setsK F t K → ∃ t', (∀ u, (∃ s, (u, s) ∈ F ∧ t'.get u = s) ∨ ((∀ s, (u, s) ∉ F) ∧ t'.get u = t.get u)) ∧ K t'
  | [], t, K, h => ⟨t, fun u => .inr ⟨by simp, rfl⟩, h⟩
  | (a, s) :: F, t, K, h => by
    obtain ⟨t1, h1, h2⟩ := setK_spec h
    obtain ⟨t2, h3, h4⟩ := setsK_spec h2
    refine ⟨t2, fun u => ?_, h4⟩
    rcases h3 u with ⟨s', k1, k2⟩ | ⟨k1, k2⟩
    · exact .inl ⟨s', List.mem_cons_of_mem _ k1, k2⟩
    · rw [h1] at k2
      by_cases e : u = a
      · subst e
        exact .inl ⟨s, List.mem_cons_self .., by simpa using k2⟩
      · refine .inr ⟨fun s' hm => ?_, by simpa [e] using k2⟩
        rcases List.mem_cons.1 hm with h | h
        · injection h with h; exact e h
        · exact k1 s' h
def startK (L : List Nat) (F : List (Nat × S)) (t : Tr) (K : Tr → Prop) : Prop := copyK L t .leaf fun t1 => setsK F t1 K
/-- The slots hold what is said. -/
def ent (t : Tr) : List (Nat × S) → Prop
  | [] => True
  | (a, s) :: F => t.get a = s ∧ ent t F
theorem ent_mem {t : Tr} : ∀ {F : List (Nat × S)}, ent t F → ∀ a s, (a, s) ∈ F → t.get a = s
  | [], _, a, s, h => by cases h
  | (a', s') :: F, ⟨h1, h2⟩, a, s, h => by
    rcases List.mem_cons.1 h with h | h
    · injection h with e1 e2; subst e1 e2; exact h1
    · exact ent_mem h2 a s h
theorem mapf_at {α β : Type} {f g : α → β} : ∀ {L : List α}, L.map f = L.map g → ∀ a ∈ L, f a = g a
  | [], _, a, h => by cases h
  | b :: L, h, a, ha => by
    simp only [List.map_cons, List.cons.injEq] at h
    rcases List.mem_cons.1 ha with rfl | ha
    · exact h.1
    · exact mapf_at h.2 a ha
/-- Whoever stands where the round begins. -/
theorem start_sub {L : List Nat} {F : List (Nat × S)} {t0 t : Tr} {h : Hp} {K : Tr → Prop} (hs : startK L F t0 K) (hL : L.map t.get = L.map t0.get) (hF : ent t F) : ∃ t1, (∀ u, envT t1 h u = envT t h u ∨ envT t1 h u = .junk) ∧ K t1 := by
  obtain ⟨t1, h1, h2⟩ := copyK_spec hs
  obtain ⟨t2, h3, h4⟩ := setsK_spec h2
  refine ⟨t2, fun u => ?_, h4⟩
  by_cases hu : u < NAM
  · rw [envT_lt hu, envT_lt hu]
    rcases h3 u with ⟨s, k1, k2⟩ | ⟨k1, k2⟩
    · left; rw [k2, ent_mem hF u s k1]
    · rw [k2, h1]
      by_cases hc : L.contains u = true
      · left; rw [if_pos hc]; exact (mapf_at hL u (by simpa using hc)).symm
      · right; rw [if_neg hc]; rfl
  · left; simp only [envT, if_neg hu]
/-- What a round must bring about. -/
def rndK {σ : Type} (L : List Nat) (F : σ → List (Nat × S)) (G : σ → Hp) (I : σ → Prop) (μ : σ → Nat) (t0 : Tr) (m : Nat) (K : Exit → Tr → Hp → Prop) : Exit → Tr → Hp → Prop
  | .normal, t, h => ∃ s, I s ∧ μ s < m ∧ L.map t.get = L.map t0.get ∧ ent t (F s) ∧ G s = h
  | e, t, h => K e t h
theorem xloop (htt : TTok P tt) (hNB : N ≤ BIG) {body : Code} (L : List Nat) {σ : Type} (F : σ → List (Nat × S)) (G : σ → Hp) (I : σ → Prop) (μ : σ → Nat) (s0 : σ) (h0 : I s0) (hF : ent t (F s0)) (hG : G s0 = h)
    (round : ∀ s, I s → startK L (F s) t fun t1 => xcode P tt N fb body t1 (G s) (rndK L F G I μ t (μ s) K)) : Leaf (VC P N (.loop body) (envT t h) fun e env => ∃ t h, env = envT t h ∧ K e t h) := by
  refine ⟨vc_loop (fun n env => ∃ s t', I s ∧ n = μ s ∧ L.map t'.get = L.map t.get ∧ ent t' (F s) ∧ env = envT t' (G s)) (n := μ s0) ⟨s0, t, h0, rfl, rfl, hF, by rw [hG]⟩ ?_⟩
  rintro n env ⟨s, t', h1, rfl, h2, h3, rfl⟩
  obtain ⟨t1, h4, h5⟩ := start_sub (h := G s) (round s h1) h2 h3
  refine vc_weaken h4 (vc_mono (xcode_sound htt hNB h5) ?_)
  rintro e env ⟨t2, h2, rfl, hk⟩
  cases e with
  | normal =>
    obtain ⟨s', k1, k2, k3, k4, k5⟩ := hk
    exact ⟨_, k2, s', t2, k1, rfl, k3, k4, by rw [k5]⟩
  | _ => exact ⟨t2, h2, rfl, hk⟩
theorem xloopR (htt : TTok P tt) (hNB : N ≤ BIG) {body : Code} (L : List Nat) {σ : Type} (F : σ → List (Nat × S)) (I : σ → Prop) (μ : σ → Nat) (s0 : σ) (h0 : I s0) (hF : ent t (F s0))
    (round : ∀ s, I s → startK L (F s) t fun t1 => xcode P tt N fb body t1 h (rndK L F (fun _ => h) I μ t (μ s) K)) : Leaf (VC P N (.loop body) (envT t h) fun e env => ∃ t h, env = envT t h ∧ K e t h) :=
  xloop htt hNB L F (fun _ => h) I μ s0 h0 hF rfl round
end
end Go.Vm
end
section
namespace Go.Vm
open Go.RowKit
set_option linter.unusedVariables false
set_option linter.unusedSimpArgs false

/-- Code that stops at these labels ahead. -/
def spineB (P : Program) (tt : TT) (N : Nat) (fb stop : List Nat) (a : Code) (b : XC) : XC := fun t h K => match a with
  | .label l => match memN l stop with
    | true => K (.goto l) t h
    | false => b t h K
  | a => xseq (xcode P tt N fb a) b t h K
def xspine (P : Program) (tt : TT) (N : Nat) (fb stop : List Nat) (c : Code) : XC := @Code.rec (fun _ => XC)
  (fun t h K => K .normal t h)
  (fun _ ops draw => xregion P tt N fb ops draw)
  (fun a _ _ b => spineB P tt N fb stop a b)
  (fun c a b _ _ => xcond c (xcode P tt N fb a) (xcode P tt N fb b))
  (fun id b _ => xblock id (xcode P tt N fb b))
  (fun b _ => xleaf P N (.loop b))
  (fun f ps a b _ _ => xleaf P N (.rangeFunc f ps a b))
  (fun id t h K => K (.exit id) t h)
  (fun b _ => xleaf P N (.scope b))
  (fun _ t h K => K .normal t h)
  (fun l t h K => K (.goto l) t h)
  (fun t h K => K .ret t h)
  (fun why => xleaf P N (.refuse why))
  c
def spineP (lb : Nat → Code) (stop : List Nat) : Code → Prop
  | .seq a b => match a with
    | .label l => (memN l stop = true → lb l = b) ∧ spineP lb stop b
    | _ => spineP lb stop b
  | _ => True
section
variable {P : Program} {tt : TT} {N : Nat} {fb stop : List Nat} {t : Tr} {h : Hp} {K : Exit → Tr → Hp → Prop}

theorem xspine_sound (htt : TTok P tt) (hNB : N ≤ BIG) {lb : Nat → Code} {Q : Exit → Env → Prop} (hQ : ∀ e t h, K e t h → Q e (envT t h)) (hfall : ∀ l t h, memN l stop = true → K (.goto l) t h → VC P N (lb l) (envT t h) Q) :
    ∀ {c : Code} {t : Tr} {h : Hp}, spineP lb stop c → xspine P tt N fb stop c t h K → VC P N c (envT t h) Q := by
  intro c
  have plain : ∀ {c : Code} {t : Tr} {h : Hp}, xcode P tt N fb c t h K → VC P N c (envT t h) Q := fun hk => vc_mono (xcode_sound htt hNB hk) (by rintro e env ⟨t', h', rfl, hk⟩; exact hQ e t' h' hk)
  induction c with
  | seq a b iha ihb =>
    intro t h hs hk
    have gen : spineP lb stop b → (xcode P tt N fb a t h fun e t h => match e with
      | .normal => xspine P tt N fb stop b t h K
      | .ret => K .ret t h
      | .exit id => K (.exit id) t h
      | .goto l => K (.goto l) t h
      | .panic c => K (.panic c) t h
      | .outgrown => K .outgrown t h) → VC P N (.seq a b) (envT t h) Q := by
      intro hs hk
      refine vc_then (vc_mono (xcode_sound htt hNB hk) ?_)
      rintro e env ⟨t', h', rfl, hk'⟩
      cases e with
      | normal => exact ihb hs hk'
      | _ => exact hQ _ t' h' hk'
    cases a with
    | label l =>
      obtain ⟨h1, h2⟩ := hs
      change (match memN l stop with | true => K (.goto l) t h | false => xspine P tt N fb stop b t h K) at hk
      refine vc_fall_label ?_
      split at hk
      · rename_i hm
        rw [← h1 hm]
        exact hfall l t h hm hk
      · exact ihb h2 hk
    | _ => exact gen hs hk
  | _ => intro t h hs hk; exact plain hk

def jlt : Option Nat → Nat → Prop
  | none, _ => True
  | some m, n => n < m
/-- What a jump must bring about. -/
def jmpK {σ : Type} (lab : σ → Nat) (L : Nat → List Nat) (F : σ → List (Nat × S)) (G : σ → Hp) (I : σ → Prop) (μ : σ → Nat) (t0 : Tr) (m : Option Nat) (K : Exit → Tr → Hp → Prop) : Exit → Tr → Hp → Prop
  | .goto l, t, h => ∃ s, I s ∧ lab s = l ∧ jlt m (μ s) ∧ (L l).map t.get = (L l).map t0.get ∧ ent t (F s) ∧ G s = h
  | e, t, h => K e t h
theorem xscope (htt : TTok P tt) (hNB : N ≤ BIG) {c : Code} (stop : List Nat) {σ : Type} (lab : σ → Nat) (L : Nat → List Nat) (F : σ → List (Nat × S)) (G : σ → Hp) (I : σ → Prop) (μ : σ → Nat)
    (hfind : ∀ s, I s → findLabel c (lab s) = some (.seq .skip (labelBody c (lab s)))) (hsp : spineP (labelBody c) stop c) (hsp2 : ∀ s, I s → spineP (labelBody c) stop (labelBody c (lab s)))
    (pass : ∀ s, I s → startK (L (lab s)) (F s) t fun t1 => xspine P tt N fb stop (labelBody c (lab s)) t1 (G s) (jmpK lab L F G I μ t (some (μ s)) K))
    (first : xspine P tt N fb stop c t h (jmpK lab L F G I μ t none K)) : Leaf (VC P N (.scope c) (envT t h) fun e env => ∃ t h, env = envT t h ∧ K e t h) := by
  refine ⟨vc_goto_scope (fun l n env => ∃ s t', I s ∧ lab s = l ∧ n = μ s ∧ (L l).map t'.get = (L l).map t.get ∧ ent t' (F s) ∧ env = envT t' (G s)) ?_ ?_ ?_⟩
  · rintro l n env ⟨s, t', h1, rfl, _⟩; exact hfind s h1
  · rintro l n env ⟨s, t', h1, rfl, rfl, h2, h3, rfl⟩ ih
    obtain ⟨t1, h4, h5⟩ := start_sub (h := G s) (pass s h1) h2 h3
    refine vc_weaken h4 (xspine_sound htt hNB (lb := labelBody c) ?_ ?_ (hsp2 s h1) h5)
    · intro e t2 h2 hk
      cases e with
      | goto l =>
        obtain ⟨s', k1, k2, k3, k4, k5, k6⟩ := hk
        exact ⟨_, k3, s', t2, k1, k2, rfl, k4, k5, by rw [k6]⟩
      | _ => exact ⟨t2, h2, rfl, hk⟩
    · rintro l t2 h2 hm ⟨s', k1, k2, k3, k4, k5, k6⟩
      exact ih l (μ s') (envT t2 h2) k3 ⟨s', t2, k1, k2, rfl, k4, k5, by rw [k6]⟩
  · intro ih
    refine xspine_sound htt hNB (lb := labelBody c) ?_ ?_ hsp first
    · intro e t2 h2 hk
      cases e with
      | goto l =>
        obtain ⟨s', k1, k2, k3, k4, k5, k6⟩ := hk
        exact ⟨_, s', t2, k1, k2, rfl, k4, k5, by rw [k6]⟩
      | _ => exact ⟨t2, h2, rfl, hk⟩
    · rintro l t2 h2 hm ⟨s', k1, k2, k3, k4, k5, k6⟩
      exact ih l (μ s') (envT t2 h2) ⟨s', t2, k1, k2, rfl, k4, k5, by rw [k6]⟩

/-! ### Functions -/
def argsT : Nat → List D → Tr → (Tr → Prop) → Prop
  | _, [], t, K => K t
  | k, d :: l, t, K => setK 20 t k (.c (.d d)) fun t => argsT (Nat.succ k) l t K
theorem argsT_spec : ∀ {l : List D} {k : Nat} {t : Tr} {K : Tr → Prop}, argsT k l t K → ∃ t', (∀ u, t'.get u = if u < k then t.get u else match l[u - k]? with | some d => .c (.d d) | none => t.get u) ∧ K t'
  | [], k, t, K, h => ⟨t, by simp, h⟩
  | d :: l, k, t, K, h => by
    obtain ⟨t1, h1, h2⟩ := setK_spec h
    obtain ⟨t2, h3, h4⟩ := argsT_spec h2
    refine ⟨t2, fun u => ?_, h4⟩
    rw [h3, h1]
    rcases Nat.lt_trichotomy u k with e | e | e
    · rw [if_pos (show u < Nat.succ k by omega), if_neg (by omega), if_pos e]
    · subst e; rw [if_pos (show u < Nat.succ u by omega), if_pos rfl, if_neg (by omega), Nat.sub_self]; rfl
    · rw [if_neg (show ¬ u < Nat.succ k by omega), if_neg (show ¬ u = k by omega), if_neg (show ¬ u < k by omega), show u - k = (u - Nat.succ k) + 1 by omega, List.getElem?_cons_succ]
def resvK (tt : TT) (t : Tr) : List ResultVar → (List C → Prop) → Prop
  | [], K => K []
  | .tmp u :: l, K => match Nat.ble 1000000 u, t.get u with
    | false, .c (.d x) => resvK tt t l fun cs => K (.d x :: cs)
    | false, .c (.own τ e xs) => resvK tt t l fun cs => K (.own τ e xs :: cs)
    | false, .c .nil => resvK tt t l fun cs => K (.nil :: cs)
    | _, _ => False
  | .cell u T :: l, K => match Nat.ble 1000000 u, t.get u, tt.get T with
    | false, .box cs, some i => partK (shI i) cs 0 fun d => resvK tt t l fun cs => K (.d d :: cs)
    | _, _, _ => False
theorem resvK_spec (htt : TTok P tt) : ∀ {l : List ResultVar} {K : List C → Prop}, resvK tt t l K → ∃ cs, vres P (envT t h) l = some cs ∧ K cs
  | [], K, hk => ⟨[], rfl, hk⟩
  | .tmp u :: l, K, hk => by
    simp only [resvK] at hk
    split at hk
    all_goals first | exact hk.elim | skip
    all_goals
      rename_i hb hs
      obtain ⟨cs, h1, h2⟩ := resvK_spec htt hk
      refine ⟨_ :: cs, ?_, h2⟩
      simp only [vres, vres1, envT_lt (ble_lt hb), hs, h1]
  | .cell u T :: l, K, hk => by
    simp only [resvK] at hk
    split at hk
    · rename_i cs i hb hs hi
      obtain ⟨d, h1, h2⟩ := partK_spec hk
      obtain ⟨cs', h3, h4⟩ := resvK_spec htt h2
      exact ⟨_, by simp only [vres, vres1, envT_lt (ble_lt hb), hs, shI_ok (htt _ _ hi), h1, h3, Option.map_some], h4⟩
    · exact hk.elim
/-- What stands at names behind a call. -/
def postL (h : Hp) : List (Nat × S) → Prop
  | [] => True
  | (n, s) :: l => (NAM ≤ n ∧ h n = s) ∧ postL h l
theorem postL_spec {post : List (Nat × S)} (h1 : postL h post) (h2 : ∀ p ∈ post, thing p.2 = true) : ∀ p ∈ post, envT t h p.1 = p.2 := by
  induction post with
  | nil => intro p hp; cases hp
  | cons q l ih =>
    obtain ⟨n, s⟩ := q
    intro p hp
    rcases List.mem_cons.1 hp with rfl | hp
    · have ht := h2 (n, s) (List.mem_cons_self ..)
      simp only [envT_at h1.1.1, h1.1.2]
      cases s <;> first | rfl | cases ht
    · exact ih h1.2 (fun q hq => h2 q (List.mem_cons_of_mem _ hq)) p hp
def finK (P : Program) (tt : TT) (rs : List ResultVar) (res : List C) (post : List (Nat × S)) : Exit → Tr → Hp → Prop
  | .normal, t, h => resvK tt t rs fun cs => Leaf (fitsL P cs res ∧ postL h post)
  | .ret, t, h => resvK tt t rs fun cs => Leaf (fitsL P cs res ∧ postL h post)
  | _, _, _ => False
def hOf : List (Nat × S) → Hp
  | [] => fun _ => .junk
  | (n, s) :: l => hset (hOf l) n s
theorem hOf_find : ∀ (l : List (Nat × S)) (u : Nat), hOf l u = match l.find? fun p => p.1 == u with | some p => p.2 | none => .junk
  | [], u => rfl
  | (n, s) :: l, u => by
    simp only [hOf, hset, List.find?_cons]
    by_cases e : u = n
    · subst e; simp
    · have : (n == u) = false := by simpa using fun h => e h.symm
      simp only [if_neg e, this]; exact hOf_find l u
theorem xfnH (htt : TTok P tt) {f : FuncId} {fn : Func} {c : Code} {args : List D} {res : List C} {pre post : List (Nat × S)} {rs : List ResultVar} (fb : List Nat) (hf : P.funcs[f]? = some fn) (hb : fn.body = some c) (hN : fn.ntmps = N) (hrs : fn.results.toList = rs) (hargs : args.length ≤ N) (hNB : N ≤ BIG)
    (hbig : ∀ p ∈ pre, NAM ≤ p.1) (hp : ∀ p ∈ pre, thing p.2 = true) (hq : ∀ p ∈ post, thing p.2 = true) (hk : argsT 0 args .leaf fun t => xcode P tt N fb c t (hOf pre) (finK P tt rs res post)) : ContractH P f args pre res post := by
  subst hrs
  refine contractH_of hf hb hN hargs hp hq ?_
  obtain ⟨t, h1, h2⟩ := argsT_spec hk
  have e : envH args pre = envT t (hOf pre) := by
    funext u
    unfold envH
    by_cases hu : u < NAM
    · rw [envT_lt hu, h1]
      simp only [Nat.not_lt_zero, if_false, Nat.sub_zero]
      cases args[u]? with
      | some d => rfl
      | none =>
        have : (pre.find? fun p => p.1 == u) = none := by
          rw [List.find?_eq_none]
          intro p hm
          have := hbig p hm
          simp only [beq_iff_eq]; omega
        simp only [this]; rfl
    · have hge : NAM ≤ u := by omega
      have hbn : BIG ≤ NAM := by decide
      rw [envT_at hge, hOf_find, List.getElem?_eq_none (by omega)]
      cases hfd : pre.find? fun p => p.1 == u with
      | none => rfl
      | some p =>
        have := hp p (List.mem_of_find?_eq_some hfd)
        simp only
        cases hs : p.2 <;> rw [hs] at this <;> first | rfl | cases this
  rw [e]
  refine vc_mono (xcode_sound htt hNB h2) ?_
  rintro e env ⟨t', h', rfl, hk⟩
  have key : (resvK tt t' fn.results.toList fun cs => Leaf (fitsL P cs res ∧ postL h' post)) → (∃ cs, vres P (envT t' h') fn.results.toList = some cs ∧ fitsL P cs res) ∧ ∀ p ∈ post, envT t' h' p.1 = p.2 := by
    intro hk
    obtain ⟨cs, h1, ⟨h2, h3⟩⟩ := resvK_spec (h := h') htt hk
    exact ⟨⟨cs, h1, h2⟩, postL_spec h3 hq⟩
  cases e with
  | normal => exact ⟨.inl rfl, key hk⟩
  | ret => exact ⟨.inr rfl, key hk⟩
  | _ => exact hk.elim
def finE {α : Type} (P : Program) (tt : TT) (rs : List ResultVar) (R : α → Prop) (res : α → List C) (post : α → List (Nat × S)) : Exit → Tr → Hp → Prop
  | .normal, t, h => resvK tt t rs fun cs => Leaf (∃ x, R x ∧ fitsL P cs (res x) ∧ postL h (post x))
  | .ret, t, h => resvK tt t rs fun cs => Leaf (∃ x, R x ∧ fitsL P cs (res x) ∧ postL h (post x))
  | _, _, _ => False
theorem xfnE {α : Type} {R : α → Prop} (htt : TTok P tt) {f : FuncId} {fn : Func} {c : Code} {args : List D} {res : α → List C} {pre : List (Nat × S)} {post : α → List (Nat × S)} {rs : List ResultVar} (fb : List Nat) (hf : P.funcs[f]? = some fn) (hb : fn.body = some c) (hN : fn.ntmps = N) (hrs : fn.results.toList = rs) (hargs : args.length ≤ N) (hNB : N ≤ BIG)
    (hbig : ∀ p ∈ pre, NAM ≤ p.1) (hp : ∀ p ∈ pre, thing p.2 = true) (hq : ∀ x, R x → ∀ p ∈ post x, thing p.2 = true) (hk : argsT 0 args .leaf fun t => xcode P tt N fb c t (hOf pre) (finE P tt rs R res post)) : ContractE P f args pre R res post := by
  subst hrs
  refine contractE_of hf hb hN hargs hp hq ?_
  obtain ⟨t, h1, h2⟩ := argsT_spec hk
  have e : envH args pre = envT t (hOf pre) := by
    funext u
    unfold envH
    by_cases hu : u < NAM
    · rw [envT_lt hu, h1]
      simp only [Nat.not_lt_zero, if_false, Nat.sub_zero]
      cases args[u]? with
      | some d => rfl
      | none =>
        have : (pre.find? fun p => p.1 == u) = none := by
          rw [List.find?_eq_none]
          intro p hm
          have := hbig p hm
          simp only [beq_iff_eq]; omega
        simp only [this]; rfl
    · have hge : NAM ≤ u := by omega
      have hbn : BIG ≤ NAM := by decide
      rw [envT_at hge, hOf_find, List.getElem?_eq_none (by omega)]
      cases hfd : pre.find? fun p => p.1 == u with
      | none => rfl
      | some p =>
        have := hp p (List.mem_of_find?_eq_some hfd)
        simp only
        cases hs : p.2 <;> rw [hs] at this <;> first | rfl | cases this
  rw [e]
  refine vc_mono (xcode_sound htt hNB h2) ?_
  rintro e env ⟨t', h', rfl, hk⟩
  have key : (resvK tt t' fn.results.toList fun cs => Leaf (∃ x, R x ∧ fitsL P cs (res x) ∧ postL h' (post x))) → ∃ x, R x ∧ (∃ cs, vres P (envT t' h') fn.results.toList = some cs ∧ fitsL P cs (res x)) ∧ ∀ p ∈ post x, envT t' h' p.1 = p.2 := by
    intro hk
    obtain ⟨cs, h1, ⟨x, hx, h2, h3⟩⟩ := resvK_spec (h := h') htt hk
    exact ⟨x, hx, ⟨cs, h1, h2⟩, postL_spec h3 (hq x hx)⟩
  cases e with
  | normal => exact ⟨.inl rfl, key hk⟩
  | ret => exact ⟨.inr rfl, key hk⟩
  | _ => exact hk.elim
theorem xfn (htt : TTok P tt) {f : FuncId} {fn : Func} {c : Code} {args : List D} {res : List C} {rs : List ResultVar} (fb : List Nat) (hf : P.funcs[f]? = some fn) (hb : fn.body = some c) (hN : fn.ntmps = N) (hrs : fn.results.toList = rs) (hargs : args.length ≤ N) (hNB : N ≤ BIG)
    (hk : argsT 0 args .leaf fun t => xcode P tt N fb c t (fun _ => .junk) (finK P tt rs res [])) : Contract P f args res := by
  have hc := xfnH (pre := []) (post := []) htt fb hf hb hN hrs hargs hNB (by simp) (by simp) (by simp) hk
  intro ro w vs τ h1 h2 h3 h4
  refine (hc ro w vs τ h1 h2 h3 h4 (by simp)).mono ?_
  rintro e w' ⟨v, ro', rfl, hg, hs, _⟩
  exact ⟨v, ro', rfl, hg.plain, hs⟩
end
end Go.Vm
end
section
namespace Go.Vm
open Go.RowKit
set_option linter.unusedVariables false
set_option linter.unusedSimpArgs false

section
variable {P : Program} {T : TypeId} {x y : Operand}
theorem x_bin {op : BinOp} {u v r : Value} {K : Value → Prop} (h : pureRun P (do eqGuard op T x y u v; binOp op T u v : Sem Value) = some r) (hp : plainV r = true) (hK : K r) : ∃ r, pureRun P (do eqGuard op T x y u v; binOp op T u v : Sem Value) = some r ∧ plainV r = true ∧ K r := ⟨r, h, hp, hK⟩
theorem x_add {k : IntKind} {a b c : Int} {K : Value → Prop} (hK : K (.int k c)) (h : k.wrap (a + b) = c := by first | exact IntWalk.i64_in _ (by first | omega | (simp only [List.length_map, List.length_append, List.length_nil, List.length_cons, List.length_take, List.length_drop]; omega)) | rfl) : ∃ r, pureRun P (do eqGuard .add T x y (.int k a) (.int k b); binOp .add T (.int k a) (.int k b) : Sem Value) = some r ∧ plainV r = true ∧ K r := ⟨_, pr_add h, rfl, hK⟩
theorem x_sub {k : IntKind} {a b c : Int} {K : Value → Prop} (hK : K (.int k c)) (h : k.wrap (a - b) = c := by first | exact IntWalk.i64_in _ (by first | omega | (simp only [List.length_map, List.length_append, List.length_nil, List.length_cons, List.length_take, List.length_drop]; omega)) | rfl) : ∃ r, pureRun P (do eqGuard .sub T x y (.int k a) (.int k b); binOp .sub T (.int k a) (.int k b) : Sem Value) = some r ∧ plainV r = true ∧ K r := ⟨_, pr_sub h, rfl, hK⟩
theorem x_mul {k : IntKind} {a b c : Int} {K : Value → Prop} (hK : K (.int k c)) (h : k.wrap (a * b) = c := by first | exact IntWalk.i64_in _ (by first | omega | (simp only [List.length_map, List.length_append, List.length_nil, List.length_cons, List.length_take, List.length_drop]; omega)) | rfl) : ∃ r, pureRun P (do eqGuard .mul T x y (.int k a) (.int k b); binOp .mul T (.int k a) (.int k b) : Sem Value) = some r ∧ plainV r = true ∧ K r := ⟨_, pr_mul h, rfl, hK⟩
theorem x_inc {n : Nat} {K : Value → Prop} (hK : K (.int .i64 ((n + 1 : Nat) : Int))) (h : n + 1 ≤ 9223372036854775807 := by first | omega | (simp only [List.length_map, List.length_append, List.length_nil, List.length_cons, List.length_take, List.length_drop]; omega)) : ∃ r, pureRun P (do eqGuard .add T x y (.int .i64 (n : Int)) (.int .i64 1); binOp .add T (.int .i64 (n : Int)) (.int .i64 1) : Sem Value) = some r ∧ plainV r = true ∧ K r := ⟨_, pr_add (IntWalk.i64_in _ (by omega)), rfl, hK⟩
theorem x_conv {t t' : TypeId} {u r : Value} {K : Value → Prop} (h : pureRun P (convert t t' u) = some r) (hp : plainV r = true) (hK : K r) : ∃ r, pureRun P (convert t t' u) = some r ∧ plainV r = true ∧ K r := ⟨r, h, hp, hK⟩
theorem x_eqS {op : BinOp} {du dv : D} {u v r : Value} {K : Value → Prop} (hu : conc du = some u) (hv : conc dv = some v) (h : ∀ w, (do eqGuard op T x y u v; binOp op T u v : Sem Value).run P w = .ok r w) (hp : plainV r = true) (hK : K r) :
    ∃ u v r, (conc du = some u ∧ conc dv = some v) ∧ (∀ w, (do eqGuard op T x y u v; binOp op T u v : Sem Value).run P w = .ok r w) ∧ plainV r = true ∧ K r := ⟨u, v, r, ⟨hu, hv⟩, h, hp, hK⟩
end
theorem x_ix {xs : List D} {j : Nat} {y : D} {i : Int} {K : Nat → D → Prop} (hy : xs[j]? = some y) (hK : K j y) (hi : i = (j : Int) := by rfl) : ∃ (j : Nat) (y : D), i = (j : Int) ∧ xs[j]? = some y ∧ K j y := ⟨j, y, hi, hy, hK⟩
theorem x_ixI {xs : List D} {y : D} {i : Int} {K : Nat → D → Prop} (hy : xs[i.toNat]? = some y) (hK : K i.toNat y) (h0 : 0 ≤ i := by omega) : ∃ (j : Nat) (y : D), i = (j : Int) ∧ xs[j]? = some y ∧ K j y := ⟨i.toNat, y, (Int.toNat_of_nonneg h0).symm, hy, hK⟩
theorem x_ch {s : ByteArray} {j : Nat} {y : UInt8} {i : Int} {K : Nat → UInt8 → Prop} (hy : s[j]? = some y) (hK : K j y) (hi : i = (j : Int) := by rfl) : ∃ (j : Nat) (y : UInt8), i = (j : Int) ∧ s[j]? = some y ∧ K j y := ⟨j, y, hi, hy, hK⟩
theorem x_chI {s : ByteArray} {y : UInt8} {i : Int} {K : Nat → UInt8 → Prop} (hy : s[i.toNat]? = some y) (hK : K i.toNat y) (h0 : 0 ≤ i := by omega) : ∃ (j : Nat) (y : UInt8), i = (j : Int) ∧ s[j]? = some y ∧ K j y := ⟨i.toNat, y, (Int.toNat_of_nonneg h0).symm, hy, hK⟩
theorem x_bnd {i : Int} {j : Nat} {K : Nat → Prop} (hK : K j) (hi : i = (j : Int) := by rfl) : ∃ j : Nat, i = (j : Int) ∧ K j := ⟨j, hi, hK⟩
theorem x_bndI {i : Int} {K : Nat → Prop} (hK : K i.toNat) (h0 : 0 ≤ i := by omega) : ∃ j : Nat, i = (j : Int) ∧ K j := ⟨i.toNat, (Int.toNat_of_nonneg h0).symm, hK⟩
theorem x_len {α : Type} {a n : α} {K : α → Prop} (hK : K n) (h : a = n := by first | exact List.length_map .. | rfl) : ∃ n, a = n ∧ K n := ⟨n, h, hK⟩
theorem x_make {i : Int} {n b : Nat} {K : Nat → Prop} (hK : K n) (hi : i = (n : Int) := by rfl) (h1 : b * n ≤ 281474976710656 := by first | omega | (simp only [List.length_map, List.length_append, List.length_nil, List.length_cons, List.length_take, List.length_drop]; omega)) (h2 : n ≤ maxLen := by unfold maxLen; (first | omega | (simp only [List.length_map, List.length_append, List.length_nil, List.length_cons, List.length_take, List.length_drop]; omega))) : ∃ n : Nat, i = (n : Int) ∧ (b * n ≤ 281474976710656 ∧ n ≤ maxLen) ∧ K n := ⟨n, hi, ⟨h1, h2⟩, hK⟩
theorem x_row {xs ys : List D} {sz l hh : Nat} {K : List D → Prop} (hK : K ys) (hw : ∀ x ∈ xs, x.cells.length = sz) (h1 : l ≤ hh := by first | omega | (simp only [List.length_map, List.length_append, List.length_nil, List.length_cons, List.length_take, List.length_drop]; omega)) (h2 : hh ≤ xs.length := by first | omega | (simp only [List.length_map, List.length_append, List.length_nil, List.length_cons, List.length_take, List.length_drop]; omega)) (hy : (xs.take hh).drop l = ys := by rfl) : (∀ x ∈ xs, x.cells.length = sz) ∧ l ≤ hh ∧ hh ≤ xs.length ∧ ∃ ys, (xs.take hh).drop l = ys ∧ K ys := ⟨hw, h1, h2, ys, hy, hK⟩
theorem x_str {s s' : ByteArray} {l hh : Nat} {K : ByteArray → Prop} (hK : K s') (h1 : l ≤ hh := by first | omega | (simp only [List.length_map, List.length_append, List.length_nil, List.length_cons, List.length_take, List.length_drop]; omega)) (h2 : hh ≤ s.size := by first | omega | (simp only [List.length_map, List.length_append, List.length_nil, List.length_cons, List.length_take, List.length_drop]; omega)) (hy : s.extract l hh = s' := by rfl) : l ≤ hh ∧ hh ≤ s.size ∧ ∃ s', s.extract l hh = s' ∧ K s' := ⟨h1, h2, s', hy, hK⟩
theorem x_app {xs ys zs : List D} {sz bytes : Nat} {K : List D → Prop} (hK : K zs) (hw : ∀ y ∈ ys, y.cells.length = sz) (hz : xs ++ ys = zs := by rfl) (h1 : xs.length + ys.length ≤ maxLen := by unfold maxLen; (first | omega | (simp only [List.length_map, List.length_append, List.length_nil, List.length_cons, List.length_take, List.length_drop]; omega))) (h2 : (xs.length + ys.length) * bytes ≤ 140737488355328 := by first | omega | (simp only [List.length_map, List.length_append, List.length_nil, List.length_cons, List.length_take, List.length_drop]; omega)) : ((∀ y ∈ ys, y.cells.length = sz) ∧ xs.length + ys.length ≤ maxLen ∧ (xs.length + ys.length) * bytes ≤ 140737488355328) ∧ ∃ z, xs ++ ys = z ∧ K z := ⟨⟨hw, h1, h2⟩, zs, hz, hK⟩
theorem x_appN {ys : List D} {sz bytes : Nat} {K : Prop} (hK : K) (hw : ∀ y ∈ ys, y.cells.length = sz) (h1 : ys.length ≤ maxLen := by unfold maxLen; (first | omega | (simp only [List.length_map, List.length_append, List.length_nil, List.length_cons, List.length_take, List.length_drop]; omega))) (h2 : ys.length * bytes ≤ 140737488355328 := by first | omega | (simp only [List.length_map, List.length_append, List.length_nil, List.length_cons, List.length_take, List.length_drop]; omega)) : ((∀ y ∈ ys, y.cells.length = sz) ∧ ys.length ≤ maxLen ∧ ys.length * bytes ≤ 140737488355328) ∧ K := ⟨⟨hw, h1, h2⟩, hK⟩
theorem x_appS {xs zs : List D} {s : ByteArray} {bytes : Nat} {K : List D → Prop} (hK : K zs) (hz : xs ++ bytesD s = zs := by rfl) (h1 : xs.length + s.size ≤ maxLen := by unfold maxLen; (first | omega | (simp only [List.length_map, List.length_append, List.length_nil, List.length_cons, List.length_take, List.length_drop]; omega))) (h2 : (xs.length + s.size) * bytes ≤ 140737488355328 := by first | omega | (simp only [List.length_map, List.length_append, List.length_nil, List.length_cons, List.length_take, List.length_drop]; omega)) : (xs.length + s.size ≤ maxLen ∧ (xs.length + s.size) * bytes ≤ 140737488355328) ∧ ∃ z, xs ++ bytesD s = z ∧ K z := ⟨⟨h1, h2⟩, zs, hz, hK⟩
theorem x_cat {a b : ByteArray} {K : Prop} (hK : K) (h : a.size + b.size ≤ 9223372036854775807 := by first | omega | (simp only [List.length_map, List.length_append, List.length_nil, List.length_cons, List.length_take, List.length_drop]; omega)) : a.size + b.size ≤ 9223372036854775807 ∧ K := ⟨h, hK⟩
theorem x_call {P : Program} {f : FuncId} {ds : List D} {res : List C} {K : List C → Prop} (he : enters P f = true) (hc : Contract P f ds res) (hK : K res) : ∃ res, (enters P f = true ∧ Contract P f ds res) ∧ K res := ⟨res, ⟨he, hc⟩, hK⟩
theorem x_fy {P : Program} {N d : Nat} {o : Oper} {t : Tr} {h : Hp} {s : S} {K : S → Hp → Prop} (hy : Yield P N o (envT t h) s) (hK : K s h) (hd : o.dst = some d := by rfl) : ∃ (s : S) (h' : Hp), Step P N o (envT t h) (upd (envT t h') (some d) s) ∧ K s h' := ⟨s, h, by have := hy.step; rwa [hd] at this, hK⟩
theorem x_field {P : Program} {T : TypeId} {f : Nat} {fs : Array Field} {g : Field} {sh : Bool × Nat} {K : Nat → Bool × Nat → Prop} (hu : P.underlying T = some (.struct fs)) (hg : fs[f]? = some g) (hs : tshape P g.type = some sh) (hK : K g.offset sh) : ∃ off sh, FieldOk P T f off sh ∧ K off sh := ⟨_, _, ⟨fs, g, hu, hg, hs, rfl⟩, hK⟩
theorem x_obj {h : Hp} {id : Nat} {cs : List D} {K : List D → Prop} (hb : NAM ≤ id) (hh : h id = .obj cs) (hK : K cs) : ∃ cs, (NAM ≤ id ∧ h id = .obj cs) ∧ K cs := ⟨cs, ⟨hb, hh⟩, hK⟩
/-- Nil is a row of the call's own, too. -/
theorem Sim.nil_own {P : Program} {N base : Nat} {w0 : World} {ro0 : Start} {env : Env} {a : Act} {w : World} (h : Sim P N base w0 ro0 env a w) {u : Nat} {τ e : Nat} (hu : env u = .c .nil) (he : 0 < P.cellsOf e) : Sim P N base w0 ro0 (upd env (some u) (.c (.own τ e []))) a w := by
  obtain ⟨ro, blk, h⟩ := h
  refine ⟨ro, blk, h.below, h.room, h.nodef, h.size, h.old, h.new, h.uniq, h.given, fun t ht => ?_, fun t => ?_⟩
  · by_cases et : t = u
    · subst et; simp [upd] at ht
    · simp only [upd, if_neg et] at ht; exact h.left t ht
  · have hs := h.sat t
    by_cases et : t = u
    · subst et
      rw [hu] at hs
      simp only [upd, if_true]
      have hv : a.tmps.getD t undef = .slice none 0 0 := hs
      exact ⟨P.cellsOf e, [], he, rfl, by rw [hv]; exact World.ownsRow_nil w base e _, by simp, by simpa [flat] using Reps.nil, fun g hg => by rw [hv] at hg; simp [Value.ownBlock] at hg⟩
    · simp only [upd, if_neg et]; exact hs
theorem xnil {P : Program} {N : Nat} {c : Code} {t : Tr} {h : Hp} {Q : Exit → Env → Prop} (u τ e : Nat) (hu : t.get u = .c .nil) (hb : u < NAM) (he : 0 < P.cellsOf e) (hk : setK 20 t u (.c (.own τ e [])) fun t => Leaf (VC P N c (envT t h) Q)) : Leaf (VC P N c (envT t h) Q) := by
  obtain ⟨t', h1, ⟨h2⟩⟩ := setK_spec hk
  refine ⟨fun base w0 ro0 a w hs => h2 base w0 ro0 a w ?_⟩
  rw [envT_set hb h1]
  exact hs.nil_own (by rw [envT_lt hb]; exact hu) he
theorem xscopeR {P : Program} {tt : TT} {N : Nat} {fb : List Nat} {t : Tr} {h : Hp} {K : Exit → Tr → Hp → Prop} (htt : TTok P tt) (hNB : N ≤ BIG) {c : Code} (stop : List Nat) {σ : Type} (lab : σ → Nat) (L : Nat → List Nat) (F : σ → List (Nat × S)) (I : σ → Prop) (μ : σ → Nat)
    (hfind : ∀ s, I s → findLabel c (lab s) = some (.seq .skip (labelBody c (lab s)))) (hsp : spineP (labelBody c) stop c) (hsp2 : ∀ s, I s → spineP (labelBody c) stop (labelBody c (lab s)))
    (pass : ∀ s, I s → startK (L (lab s)) (F s) t fun t1 => xspine P tt N fb stop (labelBody c (lab s)) t1 h (jmpK lab L F (fun _ => h) I μ t (some (μ s)) K))
    (first : xspine P tt N fb stop c t h (jmpK lab L F (fun _ => h) I μ t none K)) : Leaf (VC P N (.scope c) (envT t h) fun e env => ∃ t h, env = envT t h ∧ K e t h) :=
  xscope htt hNB stop lab L F (fun _ => h) I μ hfind hsp hsp2 pass first
theorem x_rnd {σ : Type} {L : List Nat} {F : σ → List (Nat × S)} {G : σ → Hp} {I : σ → Prop} {μ : σ → Nat} {t0 t : Tr} {h : Hp} {m : Nat} (s : σ) (hI : I s) (hm : μ s < m) (hL : L.map t.get = L.map t0.get) (hE : ent t (F s)) (hG : G s = h) : ∃ s, I s ∧ μ s < m ∧ L.map t.get = L.map t0.get ∧ ent t (F s) ∧ G s = h := ⟨s, hI, hm, hL, hE, hG⟩
theorem x_jmp {σ : Type} {lab : σ → Nat} {L : List Nat} {F : σ → List (Nat × S)} {G : σ → Hp} {I : σ → Prop} {μ : σ → Nat} {t0 t : Tr} {h : Hp} {l : Nat} {m : Option Nat} (s : σ) (hI : I s) (hl : lab s = l) (hm : jlt m (μ s)) (hL : L.map t.get = L.map t0.get) (hE : ent t (F s)) (hG : G s = h) :
    ∃ s, I s ∧ lab s = l ∧ jlt m (μ s) ∧ L.map t.get = L.map t0.get ∧ ent t (F s) ∧ G s = h := ⟨s, hI, hl, hm, hL, hE, hG⟩
theorem x_ent {t : Tr} {a : Nat} {s : S} {F : List (Nat × S)} (h : t.get a = s) (h' : ent t F) : ent t ((a, s) :: F) := ⟨h, h'⟩
theorem x_ret {P : Program} {cs res : List C} {h : Hp} (hf : fitsL P cs res) : Leaf (fitsL P cs res ∧ postL h []) := ⟨hf, trivial⟩
/-- What a test's two answers say. -/
class BP (b : Bool) (p q : outParam Prop) : Prop where
  yes : b = true → p
  no : b = false → q
instance bp_dec (p : Prop) [d : Decidable p] : BP (@decide p d) p (¬ p) := ⟨of_decide_eq_true, of_decide_eq_false⟩
instance bp_not (b : Bool) (p q : Prop) [h : BP b p q] : BP (!b) q p := ⟨fun e => h.no (by cases b <;> simp_all), fun e => h.yes (by cases b <;> simp_all)⟩
instance (priority := low) bp_any (b : Bool) : BP b (b = true) (b = false) := ⟨id, id⟩
theorem br {b : Bool} {p q A B : Prop} [h : BP b p q] (hA : p → A) (hB : q → B) : (b = true → A) ∧ (b = false → B) := ⟨fun e => hA (h.yes e), fun e => hB (h.no e)⟩
theorem brT {A B : Prop} (hA : A) : (true = true → A) ∧ (true = false → B) := ⟨fun _ => hA, fun h => nomatch h⟩
theorem brF {A B : Prop} (hB : B) : (false = true → A) ∧ (false = false → B) := ⟨(fun h => nomatch h), fun _ => hB⟩
end Go.Vm
end
section
namespace Go.Vm
open Go.RowKit
set_option linter.unusedVariables false
set_option linter.unusedSimpArgs false

section
variable {P : Program} {N : Nat} {t : Tr} {h : Hp} {o : Oper}

theorem at_map {id : Nat} {es : List (D × D)} (hb : NAM ≤ id) (hm : h id = .mapo es) : envT t h id = .mapo es := by rw [envT_at hb, hm]; rfl
theorem at_free {id : Nat} (hb : NAM ≤ id) (hm : h id = .free) : envT t h id = .free := by rw [envT_at hb, hm]; rfl

theorem x_look {MT KT ET : TypeId} {dom : D → Prop} {x y : Nat} {id d : Nat} {es : List (D × D)} {k z r : D} {K : S → Hp → Prop} (hK : K (.c (.d r)) h) (hm : NAM ≤ id ∧ h id = .mapo es) (hk : KeyOk P KT dom) (hd0 : dom k) (hdom : ∀ p ∈ es, dom p.1) (hT : P.underlying MT = some (.map KT ET)) (hz : zeroD P ET = some z) (hr : ((findD k es 0).map (·.2)).getD z = r)
    (hop : o.op = .lookup MT (.tmp x) (.tmp y) false := by rfl) (hx : vd (envT t h) (.tmp x) = some (.mp id) := by rfl) (hy : vd (envT t h) (.tmp y) = some k := by rfl) (hd : o.dst = some d := by rfl) (hdN : d < N := by exact Nat.le_of_ble_eq_true rfl) :
    ∃ (s : S) (h' : Hp), Step P N o (envT t h) (upd (envT t h') (some d) s) ∧ K s h' :=
  x_fy (y_lookup hop hx (at_map hm.1 hm.2) (namb hm.1) hy hT hk hd0 hdom hz hr hd hdN) hK hd
theorem x_look2 {MT KT ET : TypeId} {dom : D → Prop} {x y : Nat} {id d : Nat} {es : List (D × D)} {k z r : D} {found : Bool} {K : S → Hp → Prop} (hK : K (.tup [.d r, .d (.sc (.bool found))]) h) (hm : NAM ≤ id ∧ h id = .mapo es) (hk : KeyOk P KT dom) (hd0 : dom k) (hdom : ∀ p ∈ es, dom p.1) (hT : P.underlying MT = some (.map KT ET)) (hz : zeroD P ET = some z) (hr : ((findD k es 0).map (·.2)).getD z = r) (hf : (findD k es 0).isSome = found)
    (hop : o.op = .lookup MT (.tmp x) (.tmp y) true := by rfl) (hx : vd (envT t h) (.tmp x) = some (.mp id) := by rfl) (hy : vd (envT t h) (.tmp y) = some k := by rfl) (hd : o.dst = some d := by rfl) (hdN : d < N := by exact Nat.le_of_ble_eq_true rfl) :
    ∃ (s : S) (h' : Hp), Step P N o (envT t h) (upd (envT t h') (some d) s) ∧ K s h' :=
  x_fy (y_lookup2 hop hx (at_map hm.1 hm.2) (namb hm.1) hy hT hk hd0 hdom hz hr hf hd hdN) hK hd
theorem dg_of {ops : Array Oper} {fb : List Nat} {d : Nat} {s : S} (hy : YieldS P N o (envT t h) s) (hd : o.dst = some d) (hdN : d < N) (hNB : N ≤ BIG) (hg : guardOk ops o (envT t h) = some true) (hn : nb s = true) (hr : refOk o (envT t h) s = true) (hdr : derefOk ops o (envT t h) = true) (hcl : Nat.beq (clsOf fb o) 0 = false) : DG P N fb ops o (envT t h) (.slot (some d) s) := by
  have := dg_yield (fb := fb) hg hy (fun e => by rw [e] at hcl; cases hcl) hn hr hdr (fun u hu => by rw [hd] at hu; injection hu with hu; exact hu ▸ Nat.lt_of_lt_of_le hdN hNB)
  rwa [hd] at this
theorem q_look {ops : Array Oper} {fb : List Nat} {MT KT ET : TypeId} {dom : D → Prop} {x y : Nat} {id d : Nat} {es : List (D × D)} {k z r : D} {K : S → Prop} (hK : K (.c (.d r))) (hm : NAM ≤ id ∧ h id = .mapo es) (hk : KeyOk P KT dom) (hd0 : dom k) (hdom : ∀ p ∈ es, dom p.1) (hT : P.underlying MT = some (.map KT ET)) (hz : zeroD P ET = some z) (hr : ((findD k es 0).map (·.2)).getD z = r)
    (hop : o.op = .lookup MT (.tmp x) (.tmp y) false := by rfl) (hx : vd (envT t h) (.tmp x) = some (.mp id) := by rfl) (hy : vd (envT t h) (.tmp y) = some k := by rfl) (hd : o.dst = some d := by rfl) (hdN : d < N := by exact Nat.le_of_ble_eq_true rfl) (hNB : N ≤ BIG := by exact Nat.le_of_ble_eq_true rfl) (hg : guardOk ops o (envT t h) = some true := by rfl) (hcl : Nat.beq (clsOf fb o) 0 = false := by rfl) :
    ∃ s, DG P N fb ops o (envT t h) (.slot (some d) s) ∧ K s :=
  ⟨_, dg_of (Yield.all (y_lookup hop hx (at_map hm.1 hm.2) (namb hm.1) hy hT hk hd0 hdom hz hr hd hdN)) hd hdN hNB hg rfl rfl (by unfold derefOk addrOf; rw [hop]) hcl, hK⟩
theorem q_look2 {ops : Array Oper} {fb : List Nat} {MT KT ET : TypeId} {dom : D → Prop} {x y : Nat} {id d : Nat} {es : List (D × D)} {k z r : D} {found : Bool} {K : S → Prop} (hK : K (.tup [.d r, .d (.sc (.bool found))])) (hm : NAM ≤ id ∧ h id = .mapo es) (hk : KeyOk P KT dom) (hd0 : dom k) (hdom : ∀ p ∈ es, dom p.1) (hT : P.underlying MT = some (.map KT ET)) (hz : zeroD P ET = some z) (hr : ((findD k es 0).map (·.2)).getD z = r) (hf : (findD k es 0).isSome = found)
    (hop : o.op = .lookup MT (.tmp x) (.tmp y) true := by rfl) (hx : vd (envT t h) (.tmp x) = some (.mp id) := by rfl) (hy : vd (envT t h) (.tmp y) = some k := by rfl) (hd : o.dst = some d := by rfl) (hdN : d < N := by exact Nat.le_of_ble_eq_true rfl) (hNB : N ≤ BIG := by exact Nat.le_of_ble_eq_true rfl) (hg : guardOk ops o (envT t h) = some true := by rfl) (hcl : Nat.beq (clsOf fb o) 0 = false := by rfl) :
    ∃ s, DG P N fb ops o (envT t h) (.slot (some d) s) ∧ K s :=
  ⟨_, dg_of (Yield.all (y_lookup2 hop hx (at_map hm.1 hm.2) (namb hm.1) hy hT hk hd0 hdom hz hr hf hd hdN)) hd hdN hNB hg rfl rfl (by unfold derefOk addrOf; rw [hop]) hcl, hK⟩
theorem x_lenm {T KT ET : TypeId} {x : Nat} {id d n : Nat} {es : List (D × D)} {K : S → Hp → Prop} (hK : K (.c (.d (.sc (.int .i64 n)))) h) (hm : NAM ≤ id ∧ h id = .mapo es) (hT : P.underlying T = some (.map KT ET)) (hn : es.length = n)
    (hop : o.op = .call { callee := .builtin .len, args := #[.tmp x], argTypes := #[T] } := by rfl) (hx : vd (envT t h) (.tmp x) = some (.mp id) := by rfl) (hd : o.dst = some d := by rfl) (hdN : d < N := by exact Nat.le_of_ble_eq_true rfl) :
    ∃ (s : S) (h' : Hp), Step P N o (envT t h) (upd (envT t h') (some d) s) ∧ K s h' :=
  x_fy (y_lenm hop hx (at_map hm.1 hm.2) (namb hm.1) hT hn hd hdN) hK hd
theorem x_range {MT KT ET : TypeId} {x : Nat} {id d n : Nat} {es : List (D × D)} {K : S → Hp → Prop} (hK : K (.iter id n []) h) (hm : NAM ≤ id ∧ h id = .mapo es) (hT : P.underlying MT = some (.map KT ET)) (hn : es.length = n)
    (hop : o.op = .range MT (.tmp x) := by rfl) (hx : vd (envT t h) (.tmp x) = some (.mp id) := by rfl) (hd : o.dst = some d := by rfl) (hdN : d < N := by exact Nat.le_of_ble_eq_true rfl) :
    ∃ (s : S) (h' : Hp), Step P N o (envT t h) (upd (envT t h') (some d) s) ∧ K s h' := by
  subst hn
  exact ⟨_, h, s_range hop hx (at_map hm.1 hm.2) hT hd hdN, hK⟩
theorem x_entry {it id d n i : Nat} {l : List Nat} {es : List (D × D)} {p : D × D} {K : S → Hp → Prop} (hK : K (.tup [.d p.1, .d p.2]) h) (hm : NAM ≤ id ∧ h id = .mapo es) (hn : es.length = n) (hp : es[i]? = some p)
    (hop : o.op = .entry (.tmp it) := by rfl) (hit : t.get it = .iter id n (l ++ [i]) := by rfl) (hi : it < NAM := by exact Nat.le_of_ble_eq_true rfl) (hd : o.dst = some d := by rfl) (hdN : d < N := by exact Nat.le_of_ble_eq_true rfl) :
    ∃ (s : S) (h' : Hp), Step P N o (envT t h) (upd (envT t h') (some d) s) ∧ K s h' :=
  ⟨_, h, s_entry hop (by rw [envT_lt hi]; exact hit) (at_map hm.1 hm.2) hn hp hd hdN, hK⟩
theorem x_put {MT KT ET : TypeId} {dom : D → Prop} {x y z : Nat} {id : Nat} {es es' : List (D × D)} {k v : D} {K : Nat → S → Prop} (hK : K id (.mapo es')) (hm : NAM ≤ id ∧ h id = .mapo es) (hk : KeyOk P KT dom) (hd0 : dom k) (hdom : ∀ p ∈ es, dom p.1) (hT : P.underlying MT = some (.map KT ET)) (hes : putD k v es = es')
    (hop : o.op = .mapUpdate MT (.tmp x) (.tmp y) (.tmp z) := by rfl) (hx : vd (envT t h) (.tmp x) = some (.mp id) := by rfl) (hy : vd (envT t h) (.tmp y) = some k := by rfl) (hz : vd (envT t h) (.tmp z) = some v := by rfl) (hd : o.dst = none := by rfl) :
    ∃ (id : Nat) (s : S), (NAM ≤ id ∧ Step P N o (envT t h) (upd (envT t h) (some id) (nameS s))) ∧ K id s :=
  ⟨id, .mapo es', ⟨hm.1, s_mapUpdate hop hx (at_map hm.1 hm.2) hy hz hT hk hd0 hdom hes hd⟩, hK⟩
theorem x_mkmap {MT : TypeId} {d : Nat} {K : S → Hp → Prop} (n : Nat) (hK : K (.c (.d (.mp n))) (hset h n (.mapo []))) (hm : NAM ≤ n ∧ h n = .free) (hop : o.op = .makeMap MT none := by rfl) (hd : o.dst = some d := by rfl) (hdN : d < N := by exact Nat.le_of_ble_eq_true rfl) (hNB : N ≤ BIG := by exact Nat.le_of_ble_eq_true rfl) :
    ∃ (s : S) (h' : Hp), Step P N o (envT t h) (upd (envT t h') (some d) s) ∧ K s h' := by
  refine ⟨_, _, ?_, hK⟩
  unfold hset
  rw [envT_name hm.1]
  exact s_makeMap hop (at_free hm.1 hm.2) hd hdN (by have := namb hm.1; omega)
theorem x_newbox {T : TypeId} {x : Nat} {d : Nat} {r : D} {cs : List D} {K : S → Hp → Prop} (n : Nat) (hK : K (.c (.d (.ptr n 0))) (hset h n (.obj cs))) (hm : NAM ≤ n ∧ h n = .free) (hc : r.cells = cs := by rfl) (hop : o.op = .box T (.tmp x) := by rfl) (hx : vd (envT t h) (.tmp x) = some r := by rfl) (hd : o.dst = some d := by rfl) (hdN : d < N := by exact Nat.le_of_ble_eq_true rfl) (hNB : N ≤ BIG := by exact Nat.le_of_ble_eq_true rfl) :
    ∃ (s : S) (h' : Hp), Step P N o (envT t h) (upd (envT t h') (some d) s) ∧ K s h' := by
  subst hc
  refine ⟨_, _, ?_, hK⟩
  unfold hset
  rw [envT_name hm.1]
  exact s_new_box hop hx (at_free hm.1 hm.2) hd hdN (by have := namb hm.1; omega)
theorem x_newalloc {T : TypeId} {d : Nat} {cs : List D} {K : S → Hp → Prop} (n : Nat) (hK : K (.c (.d (.ptr n 0))) (hset h n (.obj cs))) (hm : NAM ≤ n ∧ h n = .free) (hz : zeroOf P T = some cs) (hop : o.op = .alloc T := by rfl) (hd : o.dst = some d := by rfl) (hdN : d < N := by exact Nat.le_of_ble_eq_true rfl) (hNB : N ≤ BIG := by exact Nat.le_of_ble_eq_true rfl) :
    ∃ (s : S) (h' : Hp), Step P N o (envT t h) (upd (envT t h') (some d) s) ∧ K s h' := by
  refine ⟨_, _, ?_, hK⟩
  unfold hset
  rw [envT_name hm.1]
  exact s_new_alloc hop hz (at_free hm.1 hm.2) hd hdN (by have := namb hm.1; omega)
/-- What stands at names behind a call. -/
def hpost (h : Hp) : List (Nat × S) → Hp
  | [] => h
  | (n, s) :: l => hset (hpost h l) n s
theorem hpost_find : ∀ (l : List (Nat × S)) (h : Hp) (u : Nat), hpost h l u = match l.find? fun p => p.1 == u with | some p => p.2 | none => h u
  | [], h, u => rfl
  | (n, s) :: l, h, u => by
    simp only [hpost, hset, List.find?_cons]
    by_cases e : u = n
    · subst e; simp
    · have : (n == u) = false := by simpa using fun h => e h.symm
      simp only [if_neg e, this]; exact hpost_find l h u
/-- The names that a call is told of, and what stands there. -/
def preOk (h : Hp) : List (Nat × S) → Prop
  | [] => True
  | (n, s) :: l => (NAM ≤ n ∧ h n = s) ∧ preOk h l
theorem preOk_spec : ∀ {pre : List (Nat × S)}, preOk h pre → ∀ p ∈ pre, NAM ≤ p.1 ∧ h p.1 = p.2
  | [], _, p, hp => by cases hp
  | (n, s) :: l, ⟨h1, h2⟩, p, hp => by
    rcases List.mem_cons.1 hp with rfl | hp
    · exact h1
    · exact preOk_spec h2 p hp
theorem setH_env {pre post : List (Nat × S)} (hpre : preOk h pre) (hq : ∀ p ∈ post, live p.2 = true ∧ nameIn pre p.1 = true) (hall : ∀ p ∈ pre, nameIn post p.1 = true) : setH pre post (envT t h) = envT t (hpost h post) := by
  have hp := preOk_spec hpre
  have hbig : ∀ p ∈ post, NAM ≤ p.1 := fun p hm => by
    obtain ⟨s, hs⟩ := nameIn_mem (hq p hm).2
    exact (hp _ hs).1
  funext u
  unfold setH
  by_cases hu : u < NAM
  · have h1 : (post.find? fun p => p.1 == u) = none := by
      rw [List.find?_eq_none]; intro p hm; have := hbig p hm; simp only [beq_iff_eq]; omega
    have h2 : nameIn pre u = false := by
      unfold nameIn
      rw [List.any_eq_false]
      intro p hm; have := (hp p hm).1; simp only [beq_iff_eq]; omega
    rw [h1, h2, envT_lt hu, envT_lt hu]; rfl
  · have hge : NAM ≤ u := by omega
    have e2 : envT t (hpost h post) u = nameS (hpost h post u) := envT_at hge
    rw [e2, hpost_find]
    cases hf : post.find? fun p => p.1 == u with
    | some p =>
      have hl := (hq p (List.mem_of_find?_eq_some hf)).1
      simp only
      cases hs : p.2 <;> rw [hs] at hl <;> first | rfl | cases hl
    | none =>
      simp only
      have h2 : nameIn pre u = false := by
        cases h3 : nameIn pre u with
        | false => rfl
        | true =>
          obtain ⟨s, hs⟩ := nameIn_mem h3
          have h4 := hall _ hs
          obtain ⟨s', hs'⟩ := nameIn_mem h4
          have := List.find?_eq_none.1 hf _ hs'
          simp at this
      rw [h2, envT_at hge]; rfl
theorem pre_env {pre : List (Nat × S)} (hpre : preOk h pre) (hl : ∀ p ∈ pre, live p.2 = true ∨ p.2 = .free) : ∀ p ∈ pre, envT t h p.1 = p.2 ∧ (live p.2 = true ∨ p.2 = .free) := by
  intro p hm
  refine ⟨?_, hl p hm⟩
  obtain ⟨h1, h2⟩ := preOk_spec hpre p hm
  rw [envT_at h1, h2]
  rcases hl p hm with h3 | h3
  · cases hs : p.2 <;> rw [hs] at h3 <;> first | rfl | cases h3
  · rw [h3]; rfl
theorem post_big {pre post : List (Nat × S)} (hpre : preOk h pre) (hq : ∀ p ∈ post, live p.2 = true ∧ nameIn pre p.1 = true) : ∀ p ∈ post, live p.2 = true ∧ nameIn pre p.1 = true ∧ BIG ≤ p.1 := fun p hm => by
  obtain ⟨s, hs⟩ := nameIn_mem (hq p hm).2
  exact ⟨(hq p hm).1, (hq p hm).2, namb (preOk_spec hpre _ hs).1⟩
theorem x_callH {f : FuncId} {xs : Array Operand} {ts : Array TypeId} {ds : List D} {res : List C} {d : Nat} {pre post : List (Nat × S)} {K : S → Hp → Prop} (he : enters P f = true) (hc : ContractH P f ds pre res post) (hK : K (resS (res.map (setTok d))) (hpost h post)) (hpre : preOk h pre)
    (hl : ∀ p ∈ pre, live p.2 = true ∨ p.2 = .free := by simp [live]) (hq : ∀ p ∈ post, live p.2 = true ∧ nameIn pre p.1 = true := by simp [live, nameIn]) (hall : ∀ p ∈ pre, nameIn post p.1 = true := by simp [nameIn])
    (hop : o.op = .call { callee := .value (.func f), args := xs, argTypes := ts } := by rfl) (hx : vargs (envT t h) xs.toList = some ds := by rfl) (hd : o.dst = some d := by rfl) (hdN : d < N := by exact Nat.le_of_ble_eq_true rfl) (hNB : N ≤ BIG := by exact Nat.le_of_ble_eq_true rfl) :
    ∃ (s : S) (h' : Hp), Step P N o (envT t h) (upd (envT t h') (some d) s) ∧ K s h' := by
  refine ⟨_, _, ?_, hK⟩
  have := s_callH (N := N) (env := envT t h) hop he hx hc (pre_env hpre hl) (post_big hpre hq) hd hdN hNB
  rwa [setH_env hpre hq hall] at this
/-- A call of which it is only known that it makes one of those x. -/
theorem x_callE {α : Type} {R : α → Prop} {f : FuncId} {xs : Array Operand} {ts : Array TypeId} {ds : List D} {res : α → List C} {d : Nat} {pre : List (Nat × S)} {post : α → List (Nat × S)} {K : Tr → Hp → Prop} (he : enters P f = true) (hc : ContractE P f ds pre R res post)
    (hK : ∀ x, R x → setK 20 t d (resS ((res x).map (setTok d))) fun t' => K t' (hpost h (post x))) (hpre : preOk h pre)
    (hl : ∀ p ∈ pre, live p.2 = true ∨ p.2 = .free := by simp [live]) (hq : ∀ x, R x → ∀ p ∈ post x, live p.2 = true ∧ nameIn pre p.1 = true := by simp [live, nameIn]) (hall : ∀ x, R x → ∀ p ∈ pre, nameIn (post x) p.1 = true := by simp [nameIn])
    (hop : o.op = .call { callee := .value (.func f), args := xs, argTypes := ts } := by rfl) (hx : vargs (envT t h) xs.toList = some ds := by rfl) (hd : o.dst = some d := by rfl) (hdN : d < N := by exact Nat.le_of_ble_eq_true rfl) (hNB : N ≤ BIG := by exact Nat.le_of_ble_eq_true rfl) :
    StepP P N o (envT t h) fun e => ∃ (t' : Tr) (h' : Hp), e = envT t' h' ∧ K t' h' := by
  intro base w0 ro0 a w hs K' Q hK'
  refine s_callE (N := N) (env := envT t h) hop he hx hc (pre_env hpre hl) (fun x hx => post_big hpre (hq x hx)) hd hdN hNB base w0 ro0 a w hs K' Q ?_
  rintro e a' w' ⟨x, hxR, rfl⟩ hs'
  obtain ⟨t', h3, h4⟩ := setK_spec (hK x hxR)
  refine hK' _ a' w' ⟨t', _, rfl, h4⟩ ?_
  rw [envT_set (nam (Nat.lt_of_lt_of_le hdN hNB)) h3, ← setH_env hpre (hq x hxR) (hall x hxR)]
  exact hs'
theorem hset_self {h : Hp} {n : Nat} {s : S} (e : h n = s) : hset h n s = h := by
  funext u; simp only [hset]; split
  · rename_i e2; rw [e2, e]
  · rfl
theorem hset_hset (h : Hp) (n : Nat) (a b : S) : hset (hset h n a) n b = hset h n b := by
  funext u; simp only [hset]; split <;> rfl
theorem hpost_self : ∀ {pre : List (Nat × S)}, preOk h pre → hpost h pre = h
  | [], _ => rfl
  | (n, s) :: l, hp => by
    simp only [hpost]
    rw [hpost_self hp.2]
    exact hset_self hp.1.2
/-- A call that only reads. -/
theorem x_callR {f : FuncId} {xs : Array Operand} {ts : Array TypeId} {ds : List D} {res : List C} {d : Nat} {pre : List (Nat × S)} {K : S → Hp → Prop} (he : enters P f = true) (hc : ContractH P f ds pre res pre) (hK : K (resS (res.map (setTok d))) h) (hpre : preOk h pre)
    (hl : ∀ p ∈ pre, live p.2 = true := by simp [live])
    (hop : o.op = .call { callee := .value (.func f), args := xs, argTypes := ts } := by rfl) (hx : vargs (envT t h) xs.toList = some ds := by rfl) (hd : o.dst = some d := by rfl) (hdN : d < N := by exact Nat.le_of_ble_eq_true rfl) (hNB : N ≤ BIG := by exact Nat.le_of_ble_eq_true rfl) :
    ∃ (s : S) (h' : Hp), Step P N o (envT t h) (upd (envT t h') (some d) s) ∧ K s h' := by
  have hin : ∀ p ∈ pre, nameIn pre p.1 = true := fun p hp => List.any_eq_true.2 ⟨p, hp, by simp⟩
  exact x_callH he hc (by rw [hpost_self hpre]; exact hK) hpre (fun p hp => .inl (hl p hp)) (fun p hp => ⟨hl p hp, hin p hp⟩) hin hop hx hd hdN hNB
end
end Go.Vm
end
section
namespace Go.Vm
open Go.RowKit
set_option linter.unusedVariables false
set_option linter.unusedSimpArgs false

def udropK (id : Nat) : List D → (List D → Prop) → Prop
  | [], K => K []
  | .rr a b c :: l, K => match Nat.beq a id with
    | true => udropK id l fun l' => K (.stale :: l')
    | false => udropK id l fun l' => K (.rr a b c :: l')
  | x :: l, K => udropK id l fun l' => K (x :: l')
theorem udropK_spec {id : Nat} : ∀ {l : List D} {K : List D → Prop}, udropK id l K → K (l.map (dropC id))
  | [], K, h => h
  | d :: l, K, h => by
    cases d with
    | rr a b c =>
      simp only [udropK] at h
      split at h
      · rename_i hb
        have := udropK_spec (K := fun l' => K (.stale :: l')) h
        simp only [List.map_cons, dropC, if_pos (Nat.eq_of_beq_eq_true hb)]; exact this
      · rename_i hb
        have := udropK_spec (K := fun l' => K (.rr a b c :: l')) h
        have hne : ¬ a = id := fun e => by rw [e, Nat.beq_refl] at hb; cases hb
        simp only [List.map_cons, dropC, if_neg hne]; exact this
    | _ => exact udropK_spec (K := fun l' => K (_ :: l')) h
def dropGK (id : Nat) (s : S) (K : S → Prop) : Prop := match s with
  | .sref u sz n => match Nat.beq u id with
    | true => K .junk
    | false => K (.sref u sz n)
  | .gref u sz n => match Nat.beq u id with
    | true => K .junk
    | false => K (.gref u sz n)
  | .ref u off => match Nat.beq u id with
    | true => K .junk
    | false => K (.ref u off)
  | .ubox cs => udropK id cs fun cs' => K (.ubox cs')
  | .uagg cs => udropK id cs fun cs' => K (.uagg cs')
  | s => sK s K
theorem dropGK_spec {id : Nat} (s : S) (K : S → Prop) (h : dropGK id s K) : K (dropG id s) := by
  cases s with
  | sref u sz n =>
    simp only [dropGK] at h
    show K (if u = id then .junk else .sref u sz n)
    split at h
    · rename_i hb; rw [if_pos (Nat.eq_of_beq_eq_true hb)]; exact h
    · rename_i hb; rw [if_neg (fun e => by rw [e, Nat.beq_refl] at hb; cases hb)]; exact h
  | gref u sz n =>
    simp only [dropGK] at h
    show K (if u = id then .junk else .gref u sz n)
    split at h
    · rename_i hb; rw [if_pos (Nat.eq_of_beq_eq_true hb)]; exact h
    · rename_i hb; rw [if_neg (fun e => by rw [e, Nat.beq_refl] at hb; cases hb)]; exact h
  | ref u off =>
    simp only [dropGK] at h
    show K (if u = id then .junk else .ref u off)
    split at h
    · rename_i hb; rw [if_pos (Nat.eq_of_beq_eq_true hb)]; exact h
    · rename_i hb; rw [if_neg (fun e => by rw [e, Nat.beq_refl] at hb; cases hb)]; exact h
  | ubox cs => exact udropK_spec (K := fun cs' => K (.ubox cs')) h
  | uagg cs => exact udropK_spec (K := fun cs' => K (.uagg cs')) h
  | c x => cases x <;> exact h
  | _ => exact h
theorem nameS_dropG {id : Nat} (s : S) : dropG id (nameS s) = nameS s := by cases s <;> rfl
theorem envT_appG {t t1 t2 t3 : Tr} {h : Hp} {id d : Nat} {s g : S} (hd : d < NAM) (hid : id < NAM) (hdi : d ≠ id) (h1 : ∀ u, t1.get u = dropG id (t.get u)) (h2 : ∀ u, t2.get u = if u = id then g else t1.get u) (h3 : ∀ u, t3.get u = if u = d then s else t2.get u) : envT t3 h = appG (envT t h) id d s g := by
  funext u
  simp only [envT, appG, h3, h2, h1]
  by_cases e : u = d
  · subst e; simp [hd]
  · simp only [if_neg e]
    by_cases e2 : u = id
    · subst e2; simp [hid]
    · simp only [if_neg e2]
      split
      · rfl
      · exact (nameS_dropG _).symm
theorem envT_setG {t t2 t3 : Tr} {h : Hp} {id d : Nat} {s g : S} (hd : d < NAM) (hid : id < NAM) (h2 : ∀ u, t2.get u = if u = id then g else t.get u) (h3 : ∀ u, t3.get u = if u = d then s else t2.get u) : envT t3 h = setG (envT t h) id d s g := by
  funext u
  simp only [envT, setG, h3, h2]
  by_cases e : u = d
  · subst e; simp [hd]
  · simp only [if_neg e]
    by_cases e2 : u = id
    · subst e2; simp [hid]
    · simp only [if_neg e2]

section
variable {P : Program} {N : Nat} {t : Tr} {h : Hp} {o : Oper}
theorem at_row {id sz : Nat} {xs : List D} (hi : id < NAM) (hg : t.get id = .gbox sz xs) : envT t h id = .gbox sz xs := by rw [envT_lt hi, hg]
theorem x_appG {T e : TypeId} {sz bytes id n d m : Nat} {x y : Operand} {xs ys zs : List D} {K : Tr → Hp → Prop} (hT : elemFull P T = some (e, sz, bytes))
    (hx : vget (envT t h) x = .sref id sz n) (hg : t.get id = .gbox sz xs) (hy : vd (envT t h) y = some (.row ys)) (hn : xs.length = n) (hw : ∀ y ∈ ys, y.cells.length = sz) (h63 : n + ys.length ≤ maxLen) (hby : (n + ys.length) * bytes ≤ 140737488355328) (hz : xs ++ ys = zs) (hm : n + ys.length = m)
    (hk : mapK (dropGK id) t fun t1 => setK 20 t1 id (.gbox sz zs) fun t2 => setK 20 t2 d (.sref id sz m) fun t3 => K t3 h)
    (hop : o.op = .call { callee := .builtin .append, args := #[x, y], argTypes := #[T, T] } := by rfl) (hd : o.dst = some d := by rfl) (hdN : d < N := by exact Nat.le_of_ble_eq_true rfl) (hNB : N ≤ BIG := by exact Nat.le_of_ble_eq_true rfl) (hid : BIG ≤ id := by exact Nat.le_of_ble_eq_true rfl) (hid2 : id < NAM := by exact Nat.le_of_ble_eq_true rfl) :
    StepP P N o (envT t h) fun e => ∃ (t' : Tr) (h' : Hp), e = envT t' h' ∧ K t' h' := by
  refine stepP_of ?_
  subst hz hm
  obtain ⟨t1, k1, hk⟩ := mapK_spec (f := dropG id) rfl dropGK_spec hk
  obtain ⟨t2, k2, hk⟩ := setK_spec hk
  obtain ⟨t3, k3, hk⟩ := setK_spec hk
  have hdB : d < BIG := Nat.lt_of_lt_of_le hdN hNB
  exact ⟨t3, h, by rw [envT_appG (nam hdB) hid2 (by omega) k1 k2 k3]; exact s_appendG hop hT hx (at_row hid2 hg) hn hy hw h63 hby hd hdN hdB, hk⟩
theorem x_freezeG {sz id n d : Nat} {x : Operand} {xs : List D} {K : Tr → Hp → Prop} (hx : vget (envT t h) x = .sref id sz n) (hg : t.get id = .gbox sz xs) (hn : xs.length = n)
    (hk : mapK (dropGK id) t fun t1 => setK 20 t1 id (.gbox sz []) fun t2 => setK 20 t2 d (.c (.d (.row xs))) fun t3 => K t3 h)
    (hop : o.op = .move x ∨ o.op = .assign x := by first | exact .inl rfl | exact .inr rfl) (hd : o.dst = some d := by rfl) (hdN : d < N := by exact Nat.le_of_ble_eq_true rfl) (hNB : N ≤ BIG := by exact Nat.le_of_ble_eq_true rfl) (hid : BIG ≤ id := by exact Nat.le_of_ble_eq_true rfl) (hid2 : id < NAM := by exact Nat.le_of_ble_eq_true rfl) :
    StepP P N o (envT t h) fun e => ∃ (t' : Tr) (h' : Hp), e = envT t' h' ∧ K t' h' := by
  refine stepP_of ?_
  obtain ⟨t1, k1, hk⟩ := mapK_spec (f := dropG id) rfl dropGK_spec hk
  obtain ⟨t2, k2, hk⟩ := setK_spec hk
  obtain ⟨t3, k3, hk⟩ := setK_spec hk
  have hdB : d < BIG := Nat.lt_of_lt_of_le hdN hNB
  exact ⟨t3, h, by rw [envT_appG (nam hdB) hid2 (by omega) k1 k2 k3]; exact s_freezeG hop hx (at_row hid2 hg) hn hd hdN hdB, hk⟩
theorem x_turnG {f : FuncId} {ts : Array TypeId} {sz id n d : Nat} {x y : Operand} {xs xs' : List D} {dy : D} {K : Tr → Hp → Prop} (hf : enters P f = true) (hc : InPlace P f sz xs xs' dy) (hx : vget (envT t h) x = .sref id sz n) (hg : t.get id = .gbox sz xs) (hy : vd (envT t h) y = some dy) (hn : xs.length = n) (hl : xs'.length = xs.length) (hw : ∀ x ∈ xs', x.cells.length = sz)
    (hk : setK 20 t id (.gbox sz xs') fun t2 => setK 20 t2 d (.tup []) fun t3 => K t3 h)
    (hop : o.op = .call { callee := .value (.func f), args := #[x, y], argTypes := ts } := by rfl) (hd : o.dst = some d := by rfl) (hdN : d < N := by exact Nat.le_of_ble_eq_true rfl) (hNB : N ≤ BIG := by exact Nat.le_of_ble_eq_true rfl) (hid2 : id < NAM := by exact Nat.le_of_ble_eq_true rfl) :
    StepP P N o (envT t h) fun e => ∃ (t' : Tr) (h' : Hp), e = envT t' h' ∧ K t' h' := by
  refine stepP_of ?_
  obtain ⟨t2, k2, hk⟩ := setK_spec hk
  obtain ⟨t3, k3, hk⟩ := setK_spec hk
  have hdB : d < BIG := Nat.lt_of_lt_of_le hdN hNB
  exact ⟨t3, h, by rw [envT_setG (nam hdB) hid2 k2 k3]; exact s_callG hop hf hc hx (at_row hid2 hg) hn hl hw hy hd hdN hdB, hk⟩
theorem xnilG {c : Code} {Q : Exit → Env → Prop} (u id sz : Nat) (hu : t.get u = .c .nil) (hb : u < NAM) (hid2 : id < NAM) (hid : BIG ≤ id) (h0 : 0 < sz) (hk : setK 20 t id (.gbox sz []) fun t => setK 20 t u (.sref id sz 0) fun t => Leaf (VC P N c (envT t h) Q)) : Leaf (VC P N c (envT t h) Q) := by
  obtain ⟨t2, k2, hk⟩ := setK_spec hk
  obtain ⟨t3, k3, hk⟩ := setK_spec hk
  refine ⟨fun base w0 ro0 a w ⟨ro, blk, hs⟩ => hk.out base w0 ro0 a w ⟨ro, blk, ?_⟩⟩
  rw [envT_set hb k3, envT_set hid2 k2]
  by_cases e : u = id
  · subst e
    have h1 := hs.nilG (sz := sz) (u := u) (by rw [envT_lt hb]; exact hu) hid
    have e2 : upd (upd (envT t h) (some u) (.gbox sz [])) (some u) (.sref u sz 0) = upd (envT t h) (some u) (.sref u sz 0) := by
      funext v; simp only [upd]; split <;> rfl
    rw [e2]; exact h1
  · have h1 := hs.noneG (id := id) h0
    exact h1.nilG (by simp only [upd, if_neg e]; rw [envT_lt hb]; exact hu) hid
/-- What is moved, as a row that nobody appends to. -/
theorem y_frz {x : Operand} {r : D} {env : Env} (hop : o.op = .move x ∨ o.op = .assign x) (hx : vd env x = some r) {d : Nat} (hdst : o.dst = some d) (hd : d < N) : Yield P N o env (.c (.d r)) := by
  refine yield_of hdst hd fun env' he base w0 ro0 ro blk a w hs => ?_
  have h2 := hs.getD (x := x) (by rw [he.getD (by rcases hop with h | h <;> simp [h, Op.operands])]; exact hx)
  exact ⟨a.eval x, w, ro, by rcases hop with h | h <;> simp [execOp, h], Grow.refl hs.new, h2⟩
theorem x_frz {x : Operand} {r : List D} {d : Nat} {K : S → Hp → Prop} (hK : K (.c (.d (.row r))) h) (hop : o.op = .move x ∨ o.op = .assign x := by first | exact .inl rfl | exact .inr rfl) (hx : vd (envT t h) x = some (.row r) := by rfl) (hd : o.dst = some d := by rfl) (hdN : d < N := by exact Nat.le_of_ble_eq_true rfl) :
    ∃ (s : S) (h' : Hp), Step P N o (envT t h) (upd (envT t h') (some d) s) ∧ K s h' := x_fy (y_frz hop hx hd hdN) hK hd
/-- A function value that is called. -/
theorem y_callF {f : FuncId} {g : Operand} {xs : Array Operand} {ts : Array TypeId} {ds : List D} {res : List C} {env : Env} (hop : o.op = .call { callee := .value g, args := xs, argTypes := ts }) (hg : vd env g = some (.fn f [])) (hf : enters P f = true) (hx : vargs env xs.toList = some ds) (hc : Contract P f ds res) {d : Nat} (hdst : o.dst = some d) (hd : d < N) : Yield P N o env (resS (res.map (setTok d))) := by
  refine ⟨⟨d, hdst, hd⟩, resS_free _, fun env' he base w0 ro0 ro blk a w hs K Q hK => ?_⟩
  have hx' : vargs env' xs.toList = some ds := by
    rw [← hx]
    refine vargs_agree fun x hm => he.getD ?_
    simp only [hop, Op.operands, Call.operands]
    simp [Array.mem_toList_iff.1 hm]
  obtain ⟨h1, h2⟩ := vargs_rep hs hx'
  have hgr := hs.getD (x := g) (by rw [he.getD (by simp [hop, Op.operands, Call.operands])]; exact hg)
  have hgv : a.eval g = .func (.func f) #[] #[] := by
    generalize hz : a.eval g = z at hgr
    cases hgr with
    | @fn f cap cs hl _ => obtain rfl : cap = #[] := Array.eq_empty_of_size_eq_zero (by simpa using hl); rfl
  unfold Oper.wp
  have hrun : (execOp a.eval o).run P w = .ok (.enter f (xs.map a.eval)) w := by
    unfold enters at hf
    split at hf
    · rename_i fn hfn
      simp only [Bool.and_eq_true, bne_iff_ne, ne_eq] at hf
      cases hbody : fn.body with
      | none => rw [hbody] at hf; simp at hf
      | some c => simp [execOp, hop, resolve, hgv, Deferred.ofValue, invoke, callFunc, hfn, hf.1, hbody]
    · cases hf
  rw [hrun, Oper.upon_enter]
  refine (hc ro w (xs.map a.eval) d hs.new hs.uniq (by simpa using h1) (by simpa using h2)).mono ?_
  rintro e w' ⟨v, ro', rfl, hg, hsat⟩
  exact hK _ _ _ hg fun _ _ => sat_res hs.room hsat
theorem x_callF {f : FuncId} {g : Operand} {xs : Array Operand} {ts : Array TypeId} {ds : List D} {res : List C} {d : Nat} {K : S → Hp → Prop} (hf : enters P f = true) (hc : Contract P f ds res) (hK : K (resS (res.map (setTok d))) h)
    (hop : o.op = .call { callee := .value g, args := xs, argTypes := ts } := by rfl) (hg : vd (envT t h) g = some (.fn f []) := by rfl) (hx : vargs (envT t h) xs.toList = some ds := by rfl) (hd : o.dst = some d := by rfl) (hdN : d < N := by exact Nat.le_of_ble_eq_true rfl) :
    ∃ (s : S) (h' : Hp), Step P N o (envT t h) (upd (envT t h') (some d) s) ∧ K s h' :=
  x_fy (y_callF hop hg hf hx hc hd hdN) hK hd
end

section
variable {P : Program} {N : Nat} {env : Env} {t : Tr} {h : Hp} {o : Oper}
theorem setH_self {pre : List (Nat × S)} (hpre : ∀ p ∈ pre, env p.1 = p.2) : setH pre pre env = env := by
  funext u
  unfold setH
  cases hf : pre.find? fun p => p.1 == u with
  | some p =>
    have h1 := List.mem_of_find?_eq_some hf
    have h2 := List.find?_some hf
    simp only [beq_iff_eq] at h2
    simp only
    rw [← h2]
    exact (hpre p h1).symm
  | none =>
    simp only
    rw [List.find?_eq_none] at hf
    rw [if_neg]
    intro hn
    obtain ⟨s, hs⟩ := nameIn_mem hn
    exact hf _ hs (by simp)
/-- A call that only reads makes no difference to others. -/
theorem y_callR {f : FuncId} {xs : Array Operand} {ts : Array TypeId} {ds : List D} {res : List C} {pre : List (Nat × S)} (hop : o.op = .call { callee := .value (.func f), args := xs, argTypes := ts }) (hf : enters P f = true) (hx : vargs env xs.toList = some ds) (hc : ContractH P f ds pre res pre)
    (hpre : ∀ p ∈ pre, env p.1 = p.2 ∧ live p.2 = true ∧ BIG ≤ p.1) {d : Nat} (hdst : o.dst = some d) (hd : d < N) (hN : N ≤ BIG) : YieldS P N o env (resS (res.map (setTok d))) := by
  intro env' ha
  have hn : ∀ p ∈ pre, env' p.1 = p.2 := fun p hp => (ha.2.2 p.1 (hpre p hp).2.2).trans (hpre p hp).1
  have hx' : vargs env' xs.toList = some ds := by
    rw [← hx]
    exact vargs_agree fun x hm => ha.getD (by simp only [hop, Op.operands, Call.operands]; simp; exact .inr (by simpa using hm))
  have := s_callH (N := N) (env := env') hop hf hx' hc (fun p hp => ⟨hn p hp, .inl (hpre p hp).2.1⟩) (fun p hp => ⟨(hpre p hp).2.1, List.any_eq_true.2 ⟨p, hp, by simp⟩, (hpre p hp).2.2⟩) hdst hd hN
  rw [setH_self hn] at this
  rw [hdst]
  exact this
theorem q_callR {ops : Array Oper} {fb : List Nat} {f : FuncId} {xs : Array Operand} {ts : Array TypeId} {ds : List D} {res : List C} {d : Nat} {pre : List (Nat × S)} {K : S → Prop} (he : enters P f = true) (hc : ContractH P f ds pre res pre) (hK : K (resS (res.map (setTok d)))) (hpre : preOk h pre)
    (hl : ∀ p ∈ pre, live p.2 = true := by simp [live]) (hnb : nb (resS (res.map (setTok d))) = true := by rfl)
    (hop : o.op = .call { callee := .value (.func f), args := xs, argTypes := ts } := by rfl) (hx : vargs (envT t h) xs.toList = some ds := by rfl) (hd : o.dst = some d := by rfl) (hdN : d < N := by exact Nat.le_of_ble_eq_true rfl) (hNB : N ≤ BIG := by exact Nat.le_of_ble_eq_true rfl) (hg : guardOk ops o (envT t h) = some true := by rfl) (hr : refOk o (envT t h) (resS (res.map (setTok d))) = true := by rfl) (hcl : Nat.beq (clsOf fb o) 0 = false := by rfl) :
    ∃ s, DG P N fb ops o (envT t h) (.slot (some d) s) ∧ K s := by
  have hp := pre_env (t := t) hpre (fun p hm => .inl (hl p hm))
  refine ⟨_, dg_of (y_callR hop he hx hc (fun p hm => ⟨(hp p hm).1, hl p hm, Nat.le_trans (by decide) (preOk_spec hpre p hm).1⟩) hd hdN hNB) hd hdN hNB hg hnb hr (by unfold derefOk addrOf; rw [hop]) hcl, hK⟩
end
end Go.Vm
end
section
namespace Go.Vm
open Go.RowKit
set_option linter.unusedVariables false
set_option linter.unusedSimpArgs false

/-- A row of bytes. -/
def byD (l : List UInt8) : List D := l.map fun b => .sc (.int .u8 b.toNat)
abbrev strL (l : List UInt8) : ByteArray := ⟨l.toArray⟩
theorem bytesD_eq (s : ByteArray) : bytesD s = byD s.data.toList := rfl
theorem strL_list (s : ByteArray) : strL s.data.toList = s := rfl
theorem strL_inj {a b : List UInt8} : strL a = strL b ↔ a = b := by
  refine ⟨fun h => ?_, fun h => by rw [h]⟩
  have := congrArg (fun s : ByteArray => s.data.toList) h
  simpa using this
theorem byD_len (l : List UInt8) : (byD l).length = l.length := by simp [byD]
theorem byD_app (a b : List UInt8) : byD a ++ byD b = byD (a ++ b) := by simp [byD]
theorem byD_wide (l : List UInt8) : ∀ x ∈ byD l, x.cells.length = 1 := by
  intro x hx
  obtain ⟨b, _, rfl⟩ := List.mem_map.1 hx
  rfl
theorem byD_flat (l : List UInt8) : flat (byD l) = byD l := by
  unfold flat byD
  induction l with
  | nil => rfl
  | cons b l ih => simp only [List.map_cons, List.flatMap_cons, ih]; rfl
theorem byD_at {l : List UInt8} {i : Nat} {b : UInt8} (h : l[i]? = some b) : (byD l)[i]? = some (.sc (.int .u8 b.toNat)) := by
  unfold byD
  rw [List.getElem?_map, h]; rfl
theorem byD_drop (l : List UInt8) (n : Nat) : (byD l).drop n = byD (l.drop n) := by simp [byD]
theorem byD_take (l : List UInt8) (n : Nat) : (byD l).take n = byD (l.take n) := by simp [byD]

section
variable {P : Program} {N : Nat} {env : Env} {t : Tr} {h : Hp} {o : Oper}
theorem y_tostr {T TS e : TypeId} {x : Operand} {l : List UInt8} (hop : o.op = .convert T TS x) (hT : P.underlying T = some (.slice e)) (he : P.underlying e = some (.int .u8)) (hS : P.underlying TS = some .string) (hx : vd env x = some (.row (byD l))) {d : Nat} (hdst : o.dst = some d) (hd : d < N) : Yield P N o env (.c (.d (.sc (.string (strL l))))) := by
  refine yield_of hdst hd fun env' ha base w0 ro0 ro blk a w hsim => ?_
  have h1 := hsim.getD (x := x) (by rw [ha.getD (by simp [hop, Op.operands])]; exact hx)
  refine ⟨_, w, ro, ?_, Grow.refl hsim.new, Rep.sc rfl⟩
  have key : (convert T TS (a.eval x)).run P w = .ok (.string (strL l)) w := by
    generalize a.eval x = v at h1
    generalize hq : byD l = xs at h1
    have hln : l.length = xs.length := by rw [← hq, byD_len]
    cases h1 with
    | nil hm =>
      obtain rfl : l = [] := List.length_eq_zero_iff.1 hln
      rw [run_convert_bytes_string w T TS e _ _ _ hT he hS]
      rename_i a cap
      cases a with
      | none => rfl
      | some a => simp [Conv.bytesToString, loadCells, loadCellsFrom, Sem.run_pure]; rfl
    | row us hsz hlen hm hus hw h1 hcell hr =>
      rename_i b off cap sz
      rw [← hln]
      refine run_convert_bytes_back w T TS e _ _ l hT he hS fun j hj => ?_
      have hone : sz = 1 := by
        have h3 := hw (.sc (.int .u8 l[j].toNat)) (by rw [← hq]; exact List.mem_of_getElem? (byD_at (List.getElem?_eq_getElem hj)))
        exact h3.symm
      subst hone
      have hju : j < us.length := by rw [hus, Nat.mul_one, ← hln]; exact hj
      have h4 := hcell j us[j] (List.getElem?_eq_getElem hju)
      have h5 := hr j us[j] (.sc (.int .u8 l[j].toNat)) (List.getElem?_eq_getElem hju) (by rw [← hq, byD_flat]; exact byD_at (List.getElem?_eq_getElem hj))
      rw [(rep_sc h5).1] at h4
      by_cases hj0 : j = 0
      · subst hj0; simpa [Addr.add] using h4.1
      · simpa [Addr.add, hj0] using h4.1
  simp only [execOp, hop, Sem.run_bind, key, Result.andThen_ok]
  rfl
theorem y_tobytes {T TS e : TypeId} {x : Operand} {s : ByteArray} (hop : o.op = .convert TS T x) (hT : P.underlying T = some (.slice e)) (he : P.underlying e = some (.int .u8)) (hS : P.underlying TS = some .string) (hx : vd env x = some (.sc (.string s))) (hs : s.size ≤ maxLen) {d : Nat} (hdst : o.dst = some d) (hd : d < N) : Yield P N o env (.c (.d (.row (byD s.data.toList)))) := by
  refine yield_of hdst hd fun env' ha base w0 ro0 ro blk a w hsim => ?_
  have h1 := (rep_sc (hsim.getD (x := x) (by rw [ha.getD (by simp [hop, Op.operands])]; exact hx))).1
  have hrun := run_bytes_of_string (P := P) w TS T e s hS hT he
  have hg1 : Grow ro ro w w.drew := ⟨(Below.refl _ _).drew, fun _ _ => rfl, hsim.new, fun b id k hb => by rw [hsim.new b hb]; simp⟩
  have hg2 := Grow.new_block (ro := ro) (w := w.drew) hsim.new (.cells (bytesRow s (grownCap w s.size 0 e)) e ((bytesRow s (grownCap w s.size 0 e)).size, (bytesRow s (grownCap w s.size 0 e)).size + 1)) .frozen
  have hg : Grow ro _ w _ := ⟨hg1.below.trans hg2.below, fun b hb => (hg2.role b hb).trans (hg1.role b hb), hg2.new, fun b id k hb => hg2.noobj b id k hb⟩
  refine ⟨.slice (some ⟨w.heap.size, 0, none⟩) s.size (grownCap w s.size 0 e), _, _, ?_, hg, ?_⟩
  · simp only [execOp, hop, Sem.run_bind, h1, hrun, Result.andThen_ok]; rfl
  · have hln : s.size = (byD s.data.toList).length := by rw [byD_len]; rfl
    have hcap : grownCap w s.size 0 e ≤ maxLen := grownCap_le_maxLen w s.size 0 e (by omega)
    show Rep _ _ (.slice (some ⟨w.heap.size, 0, none⟩) s.size (grownCap w s.size 0 e)) (.row (byD s.data.toList))
    rw [hln]
    refine Rep.row (sz := 1) (s.data.toList.map fun b => Value.int .u8 b.toNat) (by decide) (by rw [← hln]; exact grownCap_ge w s.size 0 e) (by rw [← hln]; exact hcap) (by simp [byD]) (byD_wide _) (fun u hu => by obtain ⟨b, _, rfl⟩ := List.mem_map.1 hu; rfl) (fun j u hj => ?_) (fun j u c hu hc => ?_)
    · rw [List.getElem?_map] at hj
      cases hq : s.data.toList[j]? with
      | none => rw [hq] at hj; cases hj
      | some b =>
        rw [hq] at hj
        simp only [Option.map_some, Option.some.injEq] at hj
        obtain ⟨hlt, hbe⟩ := List.getElem?_eq_some_iff.1 hq
        refine ⟨?_, ?_⟩
        · have hc := World.cell?_alloc_mark w.drew (bytesRow s (grownCap w s.size 0 e)) e ((bytesRow s (grownCap w s.size 0 e)).size, (bytesRow s (grownCap w s.size 0 e)).size + 1) (0 + j)
          rw [← hln, Nat.zero_add] at *
          refine hc.trans ?_
          rw [bytesRow_at s _ j (by simpa using hlt), ← hj, ← hbe]
          simp
        · unfold okAt
          have : ro.set w.drew.heap.size Role.frozen w.heap.size = Role.frozen := Roles.set_same _ _ _
          rw [this]; trivial
    · rw [byD_flat] at hc
      unfold byD at hc
      rw [List.getElem?_map] at hu hc
      cases hq : s.data.toList[j]? with
      | none => rw [hq] at hu; cases hu
      | some b => rw [hq] at hu hc; simp at hu hc; subst hu hc; exact .sc rfl
theorem x_tostr {T TS e : TypeId} {x : Operand} {l : List UInt8} {d : Nat} {K : S → Hp → Prop} (hT : P.underlying T = some (.slice e)) (he : P.underlying e = some (.int .u8)) (hS : P.underlying TS = some .string) (hK : K (.c (.d (.sc (.string (strL l))))) h)
    (hop : o.op = .convert T TS x := by rfl) (hx : vd (envT t h) x = some (.row (byD l)) := by rfl) (hd : o.dst = some d := by rfl) (hdN : d < N := by exact Nat.le_of_ble_eq_true rfl) : ∃ (s : S) (h' : Hp), Step P N o (envT t h) (upd (envT t h') (some d) s) ∧ K s h' :=
  x_fy (y_tostr hop hT he hS hx hd hdN) hK hd
theorem x_tobytes {T TS e : TypeId} {x : Operand} {s : ByteArray} {d : Nat} {K : S → Hp → Prop} (hT : P.underlying T = some (.slice e)) (he : P.underlying e = some (.int .u8)) (hS : P.underlying TS = some .string) (hs : s.size ≤ maxLen) (hK : K (.c (.d (.row (byD s.data.toList)))) h)
    (hop : o.op = .convert TS T x := by rfl) (hx : vd (envT t h) x = some (.sc (.string s)) := by rfl) (hd : o.dst = some d := by rfl) (hdN : d < N := by exact Nat.le_of_ble_eq_true rfl) : ∃ (s : S) (h' : Hp), Step P N o (envT t h) (upd (envT t h') (some d) s) ∧ K s h' :=
  x_fy (y_tobytes hop hT he hS hx hs hd hdN) hK hd
theorem q_tostr {ops : Array Oper} {fb : List Nat} {T TS e : TypeId} {x : Operand} {l : List UInt8} {d : Nat} {K : S → Prop} (hT : P.underlying T = some (.slice e)) (he : P.underlying e = some (.int .u8)) (hS : P.underlying TS = some .string) (hK : K (.c (.d (.sc (.string (strL l))))))
    (hop : o.op = .convert T TS x := by rfl) (hx : vd (envT t h) x = some (.row (byD l)) := by rfl) (hd : o.dst = some d := by rfl) (hdN : d < N := by exact Nat.le_of_ble_eq_true rfl) (hNB : N ≤ BIG := by exact Nat.le_of_ble_eq_true rfl) (hg : guardOk ops o (envT t h) = some true := by rfl) (hcl : Nat.beq (clsOf fb o) 0 = false := by rfl) : ∃ s, DG P N fb ops o (envT t h) (.slot (some d) s) ∧ K s :=
  ⟨_, dg_of (Yield.all (y_tostr hop hT he hS hx hd hdN)) hd hdN hNB hg rfl rfl (by unfold derefOk addrOf; rw [hop]) hcl, hK⟩
theorem q_tobytes {ops : Array Oper} {fb : List Nat} {T TS e : TypeId} {x : Operand} {s : ByteArray} {d : Nat} {K : S → Prop} (hT : P.underlying T = some (.slice e)) (he : P.underlying e = some (.int .u8)) (hS : P.underlying TS = some .string) (hs : s.size ≤ maxLen) (hK : K (.c (.d (.row (byD s.data.toList)))))
    (hop : o.op = .convert TS T x := by rfl) (hx : vd (envT t h) x = some (.sc (.string s)) := by rfl) (hd : o.dst = some d := by rfl) (hdN : d < N := by exact Nat.le_of_ble_eq_true rfl) (hNB : N ≤ BIG := by exact Nat.le_of_ble_eq_true rfl) (hg : guardOk ops o (envT t h) = some true := by rfl) (hcl : Nat.beq (clsOf fb o) 0 = false := by rfl) : ∃ s, DG P N fb ops o (envT t h) (.slot (some d) s) ∧ K s :=
  ⟨_, dg_of (Yield.all (y_tobytes hop hT he hS hx hs hd hdN)) hd hdN hNB hg rfl rfl (by unfold derefOk addrOf; rw [hop]) hcl, hK⟩
end

section
variable {P : Program} {t t' : TypeId} {x y : Operand} {k k' yk : IntKind} {a b n c : Int}
theorem pr_cv {ds : TypeDesc} (hs : P.underlying t = some ds) (hd : P.underlying t' = some (.int k')) (hc : k'.wrap n = c) : pureRun P (convert t t' (.int k n)) = some (.int k' c) := by
  subst hc
  unfold convert
  rw [pureRun_bind, pureRun_under hs]
  show pureRun P (underlying t' >>= _) = _
  rw [pureRun_bind, pureRun_under hd]
  cases ds <;> rfl
theorem pr_shl (h0 : 0 ≤ b) (hc : k.wrap (a * 2 ^ (min b.toNat k.bits)) = c) : pureRun P (do eqGuard .shl t x y (.int k a) (.int yk b); binOp .shl t (.int k a) (.int yk b) : Sem Value) = some (.int k c) := by
  subst hc
  have e : Op.shift .shl k a yk b = pure (.int k (k.wrap (a * 2 ^ (min b.toNat k.bits)))) := by unfold Op.shift; rw [if_neg (by omega)]
  show pureRun P (Op.shift .shl k a yk b) = _
  rw [e]; rfl
theorem pr_shr (h0 : 0 ≤ b) (hc : a.fdiv (2 ^ (min b.toNat k.bits)) = c) : pureRun P (do eqGuard .shr t x y (.int k a) (.int yk b); binOp .shr t (.int k a) (.int yk b) : Sem Value) = some (.int k c) := by
  subst hc
  have e : Op.shift .shr k a yk b = pure (.int k (a.fdiv (2 ^ (min b.toNat k.bits)))) := by unfold Op.shift; rw [if_neg (by omega)]
  show pureRun P (Op.shift .shr k a yk b) = _
  rw [e]; rfl
theorem pr_and (hc : k.wrap (BitVec.ofInt k.bits a &&& BitVec.ofInt k.bits b).toNat = c) : pureRun P (do eqGuard .and t x y (.int k a) (.int k b); binOp .and t (.int k a) (.int k b) : Sem Value) = some (.int k c) := by subst hc; cases k <;> rfl
theorem pr_or (hc : k.wrap (BitVec.ofInt k.bits a ||| BitVec.ofInt k.bits b).toNat = c) : pureRun P (do eqGuard .or t x y (.int k a) (.int k b); binOp .or t (.int k a) (.int k b) : Sem Value) = some (.int k c) := by subst hc; cases k <;> rfl
theorem pr_rem {k : IntKind} {a b : Int} (h : ¬ b = 0) : pureRun P (do eqGuard .rem t x y (.int k a) (.int k b); binOp .rem t (.int k a) (.int k b) : Sem Value) = some (.int k (a.tmod b)) := by
  have e : Op.intDiv .rem k a b = pure (.int k (a.tmod b)) := by unfold Op.intDiv; rw [if_neg h]
  cases k <;> (show pureRun P (Op.intDiv .rem _ a b) = _; rw [e]; rfl)
theorem pr_quo {k : IntKind} {a b c : Int} (h : ¬ b = 0) (hc : k.wrap (a.tdiv b) = c) : pureRun P (do eqGuard .quo t x y (.int k a) (.int k b); binOp .quo t (.int k a) (.int k b) : Sem Value) = some (.int k c) := by
  subst hc
  have e : Op.intDiv .quo k a b = pure (.int k (k.wrap (a.tdiv b))) := by unfold Op.intDiv; rw [if_neg h]
  cases k <;> (show pureRun P (Op.intDiv .quo _ a b) = _; rw [e]; rfl)
end
end Go.Vm
end
section
namespace Go.Vm
set_option linter.unusedVariables false
set_option linter.unusedSimpArgs false

def u64 (n : Int) : Nat := (n % 18446744073709551616).toNat
def i64 (u : Nat) : Int := if u < 9223372036854775808 then (u : Int) else (u : Int) - 18446744073709551616
def turnN (n : Int) : Nat := if n < 0 then (-(n + 1)).toNat * 2 + 1 else n.toNat * 2
def backN (u : Nat) : Int := if u % 2 = 0 then ((u / 2 : Nat) : Int) else -((u / 2 : Nat) : Int) - 1
abbrev inI64 (n : Int) : Prop := -9223372036854775808 ≤ n ∧ n < 9223372036854775808
def leN : Nat → Nat → List UInt8
  | 0, _ => []
  | k + 1, u => UInt8.ofNat (u % 256) :: leN k (u / 256)
def leV : List UInt8 → Nat
  | [] => 0
  | c :: r => c.toNat + 256 * leV r
def vary (u : Nat) : List UInt8 := if h : u < 128 then [UInt8.ofNat u] else UInt8.ofNat (u % 128 + 128) :: vary (u / 128)
termination_by u
decreasing_by omega
def valV : List UInt8 → Nat
  | [] => 0
  | c :: r => c.toNat % 128 + 128 * valV r
def putN (f n : Int) : List UInt8 := if f = 1 then leN 8 (u64 n) else if f = 2 then vary (turnN n) else []
def varG : Nat → Nat → List UInt8 → Option (Nat × Nat)
  | _, _, [] => none
  | i, u, c :: r => if i = 9 ∧ 1 < c.toNat then none else if 128 ≤ c.toNat then varG (i + 1) (u + (c.toNat % 128) * 128 ^ i) r else if c.toNat = 0 ∧ 0 < i then none else some (u + c.toNat * 128 ^ i, i + 1)
def getN (b : List UInt8) (a : Nat) (f : Int) : Option (Int × Nat) :=
  if f = 1 then (if a + 8 ≤ b.length then some (i64 (leV ((b.drop a).take 8)), a + 8) else none)
  else if f = 2 then (varG 0 0 (b.drop a)).map fun x => (backN x.1, a + x.2) else none
abbrev fmtF (f : Int) : Prop := f = 1 ∨ f = 2

theorem vary_lt {u : Nat} (h : u < 128) : vary u = [UInt8.ofNat u] := by rw [vary, dif_pos h]
theorem vary_ge {u : Nat} (h : ¬ u < 128) : vary u = UInt8.ofNat (u % 128 + 128) :: vary (u / 128) := by rw [vary, dif_neg h]
theorem ofNat_nat {n : Nat} (h : n < 256) : (UInt8.ofNat n).toNat = n := by rw [UInt8.toNat_ofNat']; omega
theorem nat_ofNat (c : UInt8) : UInt8.ofNat c.toNat = c := by
  apply UInt8.toNat_inj.1
  exact ofNat_nat c.toNat_lt
theorem u64_lt (n : Int) : u64 n < 18446744073709551616 := by unfold u64; omega
theorem i64_u64 {n : Int} (h : inI64 n) : i64 (u64 n) = n := by unfold i64 u64; split <;> omega
theorem turn_lt {n : Int} (h : inI64 n) : turnN n < 18446744073709551616 := by unfold turnN; split <;> omega
theorem back_turn (n : Int) : backN (turnN n) = n := by
  unfold backN turnN
  by_cases h : n < 0
  · rw [if_pos h, if_neg (by omega)]; omega
  · rw [if_neg h, if_pos (by omega)]; omega
theorem turn_back (u : Nat) : turnN (backN u) = u := by
  unfold backN turnN
  by_cases h : u % 2 = 0
  · rw [if_pos h, if_neg (by omega)]; omega
  · rw [if_neg h, if_pos (by omega)]; omega
theorem back_in {u : Nat} (h : u < 18446744073709551616) : inI64 (backN u) := by unfold backN; split <;> omega
theorem i64_in {u : Nat} (h : u < 18446744073709551616) : inI64 (i64 u) := by unfold i64; split <;> omega
theorem leN_len : ∀ k u, (leN k u).length = k
  | 0, _ => rfl
  | k + 1, u => by rw [leN, List.length_cons, leN_len k]
theorem leV_leN : ∀ k u, leV (leN k u) = u % 256 ^ k
  | 0, u => by simp [leN, leV, Nat.mod_one]
  | k + 1, u => by
    rw [leN, leV, leV_leN k, ofNat_nat (Nat.mod_lt _ (by decide)), Nat.pow_succ, Nat.mul_comm (256 ^ k) 256, Nat.mod_mul]
theorem leV_lt : ∀ l : List UInt8, leV l < 256 ^ l.length
  | [] => by simp [leV]
  | c :: r => by
    have h1 := leV_lt r
    have h2 := c.toNat_lt
    rw [leV, List.length_cons, Nat.pow_succ]
    omega
theorem vary_len_pos (u : Nat) : 0 < (vary u).length := by
  by_cases h : u < 128
  · rw [vary_lt h]; simp
  · rw [vary_ge h]; simp
theorem pow_step {i : Nat} (h : i ≤ 8) : 2 ^ (64 - 7 * i) = 128 * 2 ^ (64 - 7 * (i + 1)) := by
  rw [show 64 - 7 * i = 7 + (64 - 7 * (i + 1)) by omega, Nat.pow_add]
theorem vary_len : ∀ (u i : Nat), i ≤ 9 → u < 2 ^ (64 - 7 * i) → (vary u).length + i ≤ 10 := by
  intro u
  induction u using Nat.strongRecOn with
  | ind u ih =>
    intro i hi hu
    by_cases h : u < 128
    · rw [vary_lt h]; simp; omega
    · rw [vary_ge h, List.length_cons]
      have hi8 : i ≤ 8 := by
        refine Nat.le_of_not_lt fun h9 => ?_
        obtain rfl : i = 9 := by omega
        have : u < 2 := hu
        omega
      have := ih (u / 128) (by omega) (i + 1) (by omega) (by rw [pow_step hi8] at hu; exact Nat.div_lt_of_lt_mul hu)
      omega
theorem putN_len (f : Int) {n : Int} (h : inI64 n) : (putN f n).length ≤ 10 := by
  unfold putN
  split
  · rw [leN_len]; decide
  · split
    · exact vary_len _ 0 (by decide) (turn_lt h)
    · simp
theorem varG_vary : ∀ (u i acc : Nat) (post : List UInt8), i ≤ 9 → (i = 0 ∨ 0 < u) → u < 2 ^ (64 - 7 * i) → varG i acc (vary u ++ post) = some (acc + u * 128 ^ i, i + (vary u).length) := by
  intro u
  induction u using Nat.strongRecOn with
  | ind u ih =>
    intro i acc post hi h0 hu
    by_cases h : u < 128
    · rw [vary_lt h]
      show varG i acc (UInt8.ofNat u :: post) = _
      rw [varG, ofNat_nat (by omega), if_neg, if_neg (by omega), if_neg (by omega)]
      · rfl
      · rintro ⟨rfl, h2⟩
        have : u < 2 := hu
        omega
    · have hi8 : i ≤ 8 := by
        refine Nat.le_of_not_lt fun h9 => ?_
        obtain rfl : i = 9 := by omega
        have : u < 2 := hu
        omega
      rw [vary_ge h, List.cons_append, varG, ofNat_nat (by omega), if_neg (by omega), if_pos (by omega),
        ih (u / 128) (by omega) (i + 1) _ post (by omega) (.inr (by omega)) (by rw [pow_step hi8] at hu; exact Nat.div_lt_of_lt_mul hu)]
      congr 2
      · rw [Nat.pow_succ, show (u % 128 + 128) % 128 = u % 128 by omega]
        have h1 : u = 128 * (u / 128) + u % 128 := (Nat.div_add_mod u 128).symm
        generalize u / 128 = q at h1
        generalize u % 128 = r at h1
        subst h1
        rw [Nat.add_mul, Nat.add_assoc]
        congr 1
        rw [Nat.add_comm]
        congr 1
        rw [Nat.mul_comm (128 ^ i) 128, ← Nat.mul_assoc, Nat.mul_comm q 128]
      · rw [List.length_cons]; omega
theorem varG_sound : ∀ (r : List UInt8) (i acc x m : Nat), i ≤ 9 → varG i acc r = some (x, m) → ∃ u, x = acc + u * 128 ^ i ∧ (i = 0 ∨ 0 < u) ∧ i < m ∧ r.take (m - i) = vary u ∧ m - i ≤ r.length ∧ u < 2 ^ (64 - 7 * i)
  | [], _, _, _, _, _, h => by cases h
  | c :: r, i, acc, x, m, hi, h => by
    have hc := c.toNat_lt
    rw [varG] at h
    split at h
    · cases h
    · rename_i h9
      split at h
      · rename_i hge
        have hi8 : i ≤ 8 := by omega
        obtain ⟨u, hx, h0, hm, ht, hl, hb⟩ := varG_sound r (i + 1) _ x m (by omega) h
        have hu0 : 0 < u := by omega
        refine ⟨c.toNat % 128 + 128 * u, ?_, .inr (by omega), by omega, ?_, by rw [List.length_cons]; omega, ?_⟩
        · rw [hx, Nat.pow_succ, Nat.add_assoc, Nat.add_mul]
          congr 2
          rw [Nat.mul_comm (128 ^ i) 128, ← Nat.mul_assoc, Nat.mul_comm u 128]
        · rw [show m - i = (m - (i + 1)) + 1 by omega, List.take_succ_cons, ht, vary_ge (u := c.toNat % 128 + 128 * u) (by omega), show (c.toNat % 128 + 128 * u) / 128 = u by omega, show (c.toNat % 128 + 128 * u) % 128 + 128 = c.toNat by omega, nat_ofNat]
        · rw [pow_step hi8]; omega
      · rename_i hlt
        split at h
        · cases h
        · rename_i h0
          injection h with h
          injection h with h1 h2
          subst h1 h2
          refine ⟨c.toNat, rfl, by omega, by omega, ?_, by rw [List.length_cons]; omega, ?_⟩
          · rw [show i + 1 - i = 0 + 1 by omega, List.take_succ_cons, List.take_zero, vary_lt (by omega), nat_ofNat]
          · by_cases h8 : i ≤ 8
            · rw [pow_step h8]
              have : 1 ≤ 2 ^ (64 - 7 * (i + 1)) := Nat.one_le_two_pow
              omega
            · obtain rfl : i = 9 := by omega
              show c.toNat < 2
              omega
theorem vary_get : ∀ (u j : Nat) (c : UInt8), (vary u)[j]? = some c → (j + 1 < (vary u).length → 128 ≤ c.toNat) ∧ (j + 1 = (vary u).length → c.toNat < 128) := by
  intro u
  induction u using Nat.strongRecOn with
  | ind u ih =>
    intro j c h
    by_cases hu : u < 128
    · rw [vary_lt hu] at h ⊢
      cases j with
      | zero => simp at h; subst h; simp; omega
      | succ j => simp at h
    · rw [vary_ge hu] at h ⊢
      have hp := vary_len_pos (u / 128)
      cases j with
      | zero =>
        simp only [List.getElem?_cons_zero, Option.some.injEq] at h; subst h
        rw [List.length_cons]
        exact ⟨fun _ => by rw [ofNat_nat (by omega)]; omega, fun _ => by omega⟩
      | succ j =>
        rw [List.getElem?_cons_succ] at h
        have := ih (u / 128) (by omega) j c h
        rw [List.length_cons]
        exact ⟨fun h => this.1 (by omega), fun h => this.2 (by omega)⟩
theorem valV_vary : ∀ u, valV (vary u) = u := by
  intro u
  induction u using Nat.strongRecOn with
  | ind u ih =>
    by_cases hu : u < 128
    · rw [vary_lt hu, valV, valV, ofNat_nat (by omega)]; omega
    · rw [vary_ge hu, valV, ofNat_nat (by omega), ih (u / 128) (by omega)]; omega
/-- What was put is got. -/
theorem get_put {f n : Int} {pre post : List UInt8} (hf : fmtF f) (hn : inI64 n) : getN (pre ++ (putN f n ++ post)) pre.length f = some (n, pre.length + (putN f n).length) := by
  unfold getN putN
  rcases hf with rfl | rfl
  · simp only [if_true]
    rw [if_pos (by simp [leN_len]), List.drop_left, List.take_left' (leN_len 8 _), leV_leN, leN_len]
    have := u64_lt n
    rw [show u64 n % 256 ^ 8 = u64 n from Nat.mod_eq_of_lt this, i64_u64 hn]
  · rw [if_neg (by decide), if_pos rfl, if_neg (by decide), if_pos rfl, List.drop_left, varG_vary _ 0 0 post (by decide) (.inl rfl) (turn_lt hn)]
    simp [back_turn]
theorem getN_in {b : List UInt8} {a : Nat} {f n : Int} {e : Nat} (h : getN b a f = some (n, e)) : inI64 n ∧ a < e ∧ e ≤ b.length ∧ fmtF f := by
  unfold getN at h
  split at h
  · rename_i hf
    split at h
    · injection h with h
      injection h with h1 h2
      subst h1 h2
      refine ⟨i64_in ?_, by omega, by assumption, .inl hf⟩
      have := leV_lt ((b.drop a).take 8)
      have hl : ((b.drop a).take 8).length = 8 := by rw [List.length_take, List.length_drop]; omega
      rw [hl] at this
      exact this
    · cases h
  · split at h
    · rename_i hf
      cases hg : varG 0 0 (b.drop a) with
      | none => rw [hg] at h; cases h
      | some x =>
        obtain ⟨x, m⟩ := x
        rw [hg] at h
        simp only [Option.map_some, Option.some.injEq, Prod.mk.injEq] at h
        obtain ⟨h1, h2⟩ := h
        subst h1 h2
        obtain ⟨u, hx, _, hm, ht, hl, hb⟩ := varG_sound _ 0 0 x m (by decide) hg
        rw [List.length_drop] at hl
        refine ⟨back_in ?_, by omega, by omega, .inr hf⟩
        have : u < 18446744073709551616 := hb
        omega
    · cases h
/-- The document's reading: the bytes that go on, then the last one; put again they are the same. -/
theorem varG_ref {r : List UInt8} {k : Nat} {c : UInt8} (hlead : ∀ j, j < k → ∃ c, r[j]? = some c ∧ 128 ≤ c.toNat) (hk : k < 10) (hc : r[k]? = some c) (hlt : c.toNat < 128) :
    varG 0 0 r = if vary (valV (r.take (k + 1)) % 18446744073709551616) = r.take (k + 1) then some (valV (r.take (k + 1)) % 18446744073709551616, k + 1) else none := by
  split
  · rename_i h
    have hkl := (List.getElem?_eq_some_iff.1 hc).1
    have h1 := varG_vary (valV (r.take (k + 1)) % 18446744073709551616) 0 0 (r.drop (k + 1)) (by decide) (.inl rfl) (Nat.mod_lt _ (by decide))
    have hl : (vary (valV (r.take (k + 1)) % 18446744073709551616)).length = k + 1 := by rw [h, List.length_take]; omega
    rw [hl] at h1
    rw [h, List.take_append_drop] at h1
    rw [h1]
    simp
  · rename_i h
    cases hg : varG 0 0 r with
    | none => rfl
    | some x =>
      obtain ⟨x, m⟩ := x
      exfalso
      obtain ⟨u, hx, _, hm, ht, hl, hb⟩ := varG_sound r 0 0 x m (by decide) hg
      have hlen : (vary u).length = m := by rw [← ht, List.length_take]; omega
      have hget : ∀ j, j < m → (vary u)[j]? = r[j]? := fun j hj => by rw [← ht, List.getElem?_take]; simp; omega
      have hmk : m = k + 1 := by
        rcases Nat.lt_trichotomy m (k + 1) with h1 | h1 | h1
        · obtain ⟨d, hd, hd2⟩ := hlead (m - 1) (by omega)
          have h3 := (vary_get u (m - 1) d (by rw [hget _ (by omega)]; exact hd)).2 (by omega)
          omega
        · exact h1
        · have h3 := (vary_get u k c (by rw [hget _ (by omega)]; exact hc)).1 (by omega)
          omega
      subst hmk
      have hu : u < 18446744073709551616 := hb
      rw [Nat.sub_zero] at ht
      refine h ?_
      rw [ht, valV_vary, Nat.mod_eq_of_lt hu]
theorem varG_ref_none {r : List UInt8} {k : Nat} (hlead : ∀ j, j < k → ∃ c, r[j]? = some c ∧ 128 ≤ c.toNat) (hk : r.length ≤ k ∨ k = 10) : varG 0 0 r = none := by
  cases hg : varG 0 0 r with
  | none => rfl
  | some x =>
    obtain ⟨x, m⟩ := x
    exfalso
    obtain ⟨u, hx, _, hm, ht, hl, hb⟩ := varG_sound r 0 0 x m (by decide) hg
    have hlen : (vary u).length = m := by rw [← ht, List.length_take]; omega
    have h10 := vary_len u 0 (by decide) hb
    obtain ⟨d, hd, hd2⟩ := hlead (m - 1) (by omega)
    have h3 := (vary_get u (m - 1) d (by rw [← ht, List.getElem?_take]; simp; exact ⟨by omega, hd⟩)).2 (by omega)
    omega

-- what the machine's steps on numbers come to
theorem wu64 (n : Int) : IntKind.u64.wrap n = ((u64 n : Nat) : Int) := by
  show (let m := n % (2 ^ 64 : Int); if (false && decide (m ≥ (2 ^ 63 : Int))) = true then m - (2 ^ 64 : Int) else m) = _
  simp only [Bool.false_and, Bool.false_eq_true, if_false]
  unfold u64
  omega
theorem u64_nat {u : Nat} (h : u < 18446744073709551616) : u64 (u : Int) = u := by unfold u64; omega
theorem wu64n {u : Nat} (h : u < 18446744073709551616) : IntKind.u64.wrap (u : Int) = (u : Int) := by rw [wu64, u64_nat h]
theorem wi64 {u : Nat} (h : u < 18446744073709551616) : IntKind.i64.wrap (u : Int) = i64 u := by
  show (let m := (u : Int) % (2 ^ 64 : Int); if (true && decide (m ≥ (2 ^ 63 : Int))) = true then m - (2 ^ 64 : Int) else m) = _
  unfold i64
  simp only [Bool.true_and, decide_eq_true_eq]
  split <;> split <;> omega
theorem wi64i {n : Int} (h : inI64 n) : IntKind.i64.wrap n = n := by
  show (let m := n % (2 ^ 64 : Int); if (true && decide (m ≥ (2 ^ 63 : Int))) = true then m - (2 ^ 64 : Int) else m) = _
  simp only [Bool.true_and, decide_eq_true_eq]
  split <;> omega
theorem wu8 (u : Nat) : IntKind.u8.wrap (u : Int) = ((UInt8.ofNat u).toNat : Int) := by
  show (let m := (u : Int) % (2 ^ 8 : Int); if (false && decide (m ≥ (2 ^ 7 : Int))) = true then m - (2 ^ 8 : Int) else m) = _
  simp only [Bool.false_and, Bool.false_eq_true, if_false]
  rw [UInt8.toNat_ofNat']
  omega
theorem fdiv_nat (u k : Nat) : (u : Int).fdiv (k : Int) = ((u / k : Nat) : Int) := by
  rw [Int.fdiv_eq_ediv_of_nonneg _ (Int.natCast_nonneg k), Int.natCast_ediv]
theorem shr8 (u : Nat) : (u : Int).fdiv (2 ^ (min (8 : Int).toNat IntKind.u64.bits)) = ((u / 256 : Nat) : Int) := fdiv_nat u 256
theorem shr7 (u : Nat) : (u : Int).fdiv (2 ^ (min (7 : Int).toNat IntKind.u64.bits)) = ((u / 128 : Nat) : Int) := fdiv_nat u 128
theorem shr1 (u : Nat) : (u : Int).fdiv (2 ^ (min (1 : Int).toNat IntKind.u64.bits)) = ((u / 2 : Nat) : Int) := fdiv_nat u 2
theorem bv_nat {w u : Nat} (h : u < 2 ^ w) : (BitVec.ofInt w (u : Int)).toNat = u := by
  rw [BitVec.toNat_ofInt, ← Int.natCast_emod, Int.toNat_natCast, Nat.mod_eq_of_lt h]
theorem and_mask {w u m : Nat} (hu : u < 2 ^ w) (hm : 2 ^ m - 1 < 2 ^ w) : (BitVec.ofInt w (u : Int) &&& BitVec.ofInt w ((2 ^ m - 1 : Nat) : Int)).toNat = u % 2 ^ m := by
  rw [BitVec.toNat_and, bv_nat hu, bv_nat hm, Nat.and_two_pow_sub_one_eq_mod]
theorem and1 {u : Nat} (h : u < 18446744073709551616) : IntKind.u64.wrap ((BitVec.ofInt IntKind.u64.bits (u : Int) &&& BitVec.ofInt IntKind.u64.bits 1).toNat : Int) = ((u % 2 : Nat) : Int) := by
  rw [show (BitVec.ofInt IntKind.u64.bits (u : Int) &&& BitVec.ofInt IntKind.u64.bits 1).toNat = u % 2 from and_mask (w := 64) (m := 1) h (by decide), wu64n (by omega)]
theorem and127 {u : Nat} (h : u < 18446744073709551616) : IntKind.u64.wrap ((BitVec.ofInt IntKind.u64.bits (u : Int) &&& BitVec.ofInt IntKind.u64.bits 127).toNat : Int) = ((u % 128 : Nat) : Int) := by
  rw [show (BitVec.ofInt IntKind.u64.bits (u : Int) &&& BitVec.ofInt IntKind.u64.bits 127).toNat = u % 128 from and_mask (w := 64) (m := 7) h (by decide), wu64n (by omega)]
theorem wu8n {u : Nat} (h : u < 256) : IntKind.u8.wrap (u : Int) = (u : Int) := by rw [wu8, ofNat_nat h]
theorem and127b (c : UInt8) : IntKind.u8.wrap ((BitVec.ofInt IntKind.u8.bits (c.toNat : Int) &&& BitVec.ofInt IntKind.u8.bits 127).toNat : Int) = ((c.toNat % 128 : Nat) : Int) := by
  have h := c.toNat_lt
  rw [show (BitVec.ofInt IntKind.u8.bits (c.toNat : Int) &&& BitVec.ofInt IntKind.u8.bits 127).toNat = c.toNat % 128 from and_mask (w := 8) (m := 7) h (by decide), wu8n (by omega)]
theorem or_add {w a s c : Nat} (ha : a < 2 ^ s) (hw : a + c * 2 ^ s < 2 ^ w) : (BitVec.ofInt w (a : Int) ||| BitVec.ofInt w ((c * 2 ^ s : Nat) : Int)).toNat = a + c * 2 ^ s := by
  rw [BitVec.toNat_or, bv_nat (Nat.lt_of_le_of_lt (Nat.le_add_right _ _) hw), bv_nat (Nat.lt_of_le_of_lt (Nat.le_add_left _ _) hw), Nat.or_comm, Nat.mul_comm c, ← Nat.two_pow_add_eq_or_of_lt ha, Nat.add_comm]
theorem or128 {u : Nat} (h : u < 128) : IntKind.u8.wrap ((BitVec.ofInt IntKind.u8.bits (u : Int) ||| BitVec.ofInt IntKind.u8.bits 128).toNat : Int) = ((u + 128 : Nat) : Int) := by
  rw [show (BitVec.ofInt IntKind.u8.bits (u : Int) ||| BitVec.ofInt IntKind.u8.bits 128).toNat = u + 128 from or_add (w := 8) (s := 7) (c := 1) h (by show u + 128 < 256; omega), wu8n (by omega)]
theorem or64 {a s c : Nat} (ha : a < 2 ^ s) (hw : a + c * 2 ^ s < 18446744073709551616) : IntKind.u64.wrap ((BitVec.ofInt IntKind.u64.bits (a : Int) ||| BitVec.ofInt IntKind.u64.bits ((c * 2 ^ s : Nat) : Int)).toNat : Int) = ((a + c * 2 ^ s : Nat) : Int) := by
  rw [show (BitVec.ofInt IntKind.u64.bits (a : Int) ||| BitVec.ofInt IntKind.u64.bits ((c * 2 ^ s : Nat) : Int)).toNat = a + c * 2 ^ s from or_add (w := 64) ha hw, wu64n hw]
theorem shl64 {c s : Nat} (hs : s ≤ 64) (h : c * 2 ^ s < 18446744073709551616) : IntKind.u64.wrap ((c : Int) * 2 ^ (min ((s : Nat) : Int).toNat IntKind.u64.bits)) = ((c * 2 ^ s : Nat) : Int) := by
  rw [Int.toNat_natCast, show min s IntKind.u64.bits = s from Nat.min_eq_left hs]
  rw [show ((c : Int) * 2 ^ s) = ((c * 2 ^ s : Nat) : Int) by rw [Int.natCast_mul, Int.natCast_pow]; rfl, wu64n h]
theorem shl1 {u : Nat} : IntKind.u64.wrap ((u : Int) * 2 ^ (min (1 : Int).toNat IntKind.u64.bits)) = ((u64 ((u : Int) * 2) : Nat) : Int) := wu64 _
theorem un_xor64 {P : Program} {u : Nat} (h : u < 18446744073709551616) : pureRun P (Op.unary .xor (.int .u64 (u : Int))) = some (.int .u64 ((18446744073709551615 - u : Nat) : Int)) := by
  have e : (BitVec.ofInt 64 IntKind.u64.max ^^^ BitVec.ofInt 64 (u : Int)).toNat = 18446744073709551615 - u := by
    rw [show BitVec.ofInt 64 IntKind.u64.max = BitVec.allOnes 64 from by decide, BitVec.allOnes_xor, BitVec.toNat_not, bv_nat h]
  show some (Value.int .u64 (IntKind.u64.wrap ((BitVec.ofInt 64 IntKind.u64.max ^^^ BitVec.ofInt 64 (u : Int)).toNat : Int))) = _
  rw [e, wu64n (by omega)]
theorem un_xori {P : Program} {u : Nat} (h : u < 9223372036854775808) : pureRun P (Op.unary .xor (.int .i64 (u : Int))) = some (.int .i64 (-(u : Int) - 1)) := by
  have e : (BitVec.ofInt 64 (-1) ^^^ BitVec.ofInt 64 (u : Int)).toNat = 18446744073709551615 - u := by
    rw [show BitVec.ofInt 64 (-1) = BitVec.allOnes 64 from by decide, BitVec.allOnes_xor, BitVec.toNat_not, bv_nat (show u < 2 ^ 64 by omega)]
  show some (Value.int .i64 (IntKind.i64.wrap ((BitVec.ofInt 64 (-1) ^^^ BitVec.ofInt 64 (u : Int)).toNat : Int))) = _
  rw [e, wi64 (by omega)]
  unfold i64
  rw [if_neg (by omega)]
  congr 2
  omega
theorem un_neg {P : Program} {n : Int} (h : inI64 (-n)) : pureRun P (Op.unary .neg (.int .i64 n)) = some (.int .i64 (-n)) := by
  show some (Value.int .i64 (IntKind.i64.wrap (0 - n))) = _
  rw [Int.zero_sub, wi64i h]
theorem ofNat_mod (u : Nat) : UInt8.ofNat (u % 256) = UInt8.ofNat u := by
  apply UInt8.toNat_inj.1
  rw [UInt8.toNat_ofNat', UInt8.toNat_ofNat']
  omega
theorem byD_snoc {l : List UInt8} {c : UInt8} : byD l ++ [.sc (.int .u8 (c.toNat : Nat))] = byD (l ++ [c]) := by simp [byD]
theorem byD_one {c : UInt8} : [D.sc (.int .u8 (c.toNat : Nat))] = byD [c] := rfl
theorem x_un {P : Program} {op : UnOp} {u r : Value} {K : Value → Prop} (h : pureRun P (Op.unary op u) = some r) (hp : plainV r = true) (hK : K r) : ∃ r, pureRun P (Op.unary op u) = some r ∧ plainV r = true ∧ K r := ⟨r, h, hp, hK⟩
theorem own_fit {P : Program} {τ e : Nat} {xs ys : List D} (h : xs = ys) : (∃ τ', C.own τ e xs = C.own τ' e ys) ∨ (C.own τ e xs = .nil ∧ ys = [] ∧ 0 < P.cellsOf e) := .inl ⟨τ, by rw [h]⟩
theorem wi64s {u : Nat} (h : u < 9223372036854775808) : IntKind.i64.wrap (u : Int) = (u : Int) := wi64i (by omega)
theorem wu8m (u : Nat) : IntKind.u8.wrap (u : Int) = ((u % 256 : Nat) : Int) := by rw [wu8, UInt8.toNat_ofNat']
theorem turn_neg {n : Int} (hn : inI64 n) (h : n < 0) : 18446744073709551615 - u64 (((u64 n : Nat) : Int) * 2) = turnN n := by unfold turnN u64; rw [if_pos h]; omega
theorem turn_pos {n : Int} (hn : inI64 n) (h : ¬ n < 0) : u64 (((u64 n : Nat) : Int) * 2) = turnN n := by unfold turnN u64; rw [if_neg h]; omega
theorem back_odd {u : Nat} (h : u % 2 = 1) : backN u = -((u / 2 : Nat) : Int) - 1 := by unfold backN; rw [if_neg (by omega)]
theorem back_even {u : Nat} (h : u % 2 = 0) : backN u = ((u / 2 : Nat) : Int) := by unfold backN; rw [if_pos h]
def varyL (u : Nat) : Nat := if u = 0 then 0 else (vary u).length
theorem vary_step (u : Nat) : (vary u).length = 1 + varyL (u / 128) := by
  unfold varyL
  by_cases h : u < 128
  · rw [vary_lt h, if_pos (by omega)]; rfl
  · rw [vary_ge h, if_neg (by omega), List.length_cons, Nat.add_comm]
theorem varyL_pos {u : Nat} (h : 0 < u) : varyL u = 1 + varyL (u / 128) := by
  rw [← vary_step]; unfold varyL; rw [if_neg (by omega)]
theorem putN_1 {f n : Int} (h : f = 1) : putN f n = leN 8 (u64 n) := by unfold putN; rw [if_pos h]
theorem putN_2 {f n : Int} (h1 : ¬ f = 1) (h : f = 2) : putN f n = vary (turnN n) := by unfold putN; rw [if_neg h1, if_pos h]
theorem putN_0 {f n : Int} (h1 : ¬ f = 1) (h : ¬ f = 2) : putN f n = [] := by unfold putN; rw [if_neg h1, if_neg h]
theorem byD_snocN {b l : List UInt8} {v : Nat} (h : v < 256) : byD (b ++ l) ++ [D.sc (.int .u8 ((v : Nat) : Int))] = byD (b ++ (l ++ [UInt8.ofNat v])) := by
  rw [← List.append_assoc, ← byD_snoc, ofNat_nat h]
theorem byD_snoc0 {l : List UInt8} {v : Nat} (h : v < 256) : byD l ++ [D.sc (.int .u8 ((v : Nat) : Int))] = byD (l ++ [UInt8.ofNat v]) := by
  rw [← byD_snoc, ofNat_nat h]
theorem byD_ix {l : List UInt8} {m : Nat} {b : UInt8} {i : Int} (h : l[m]? = some b) (e : i = (m : Int)) : (byD l)[i.toNat]? = some (.sc (.int .u8 b.toNat)) := by rw [e, Int.toNat_natCast]; exact byD_at h
theorem byD_sl {l : List UInt8} {lo hi n : Nat} (h : hi = lo + n) : ((byD l).take hi).drop lo = byD ((l.drop lo).take n) := by
  rw [byD_take, byD_drop, List.drop_take, h, Nat.add_sub_cancel_left]
theorem le_next {k u : Nat} {acc l : List UInt8} (hk : k < 8) (h : acc ++ leN (8 - k) u = l) : (acc ++ [UInt8.ofNat (u % 256)]) ++ leN (8 - (k + 1)) (u / 256) = l := by
  rw [show 8 - k = (8 - (k + 1)) + 1 by omega, leN] at h
  simpa using h
theorem vary_next {u : Nat} {acc l : List UInt8} (hu : 128 ≤ u) (h : acc ++ vary u = l) : (acc ++ [UInt8.ofNat (u % 128 + 128)]) ++ vary (u / 128) = l := by
  rw [vary_ge (by omega)] at h
  simpa using h
theorem vary_last {u : Nat} {acc l : List UInt8} (hu : u < 128) (h : acc ++ vary u = l) : acc ++ [UInt8.ofNat (u % 256)] = l := by
  rw [vary_lt hu] at h
  rwa [ofNat_mod]
def gN (g : Option (Int × Nat)) : Int := g.elim 0 (·.1)
def gE (g : Option (Int × Nat)) : Int := g.elim 0 fun x => ((x.2 : Nat) : Int)
def gC (e : Int) (g : Option (Int × Nat)) : Int := if g.isSome then 0 else e
theorem leV_snoc : ∀ {l : List UInt8} {c : UInt8}, leV (l ++ [c]) = leV l + c.toNat * 256 ^ l.length
  | [], c => by simp [leV]
  | d :: l, c => by
    rw [List.cons_append, leV, leV, leV_snoc, List.length_cons, Nat.pow_succ, Nat.mul_add, Nat.add_assoc]
    congr 2
    rw [Nat.mul_comm (256 ^ l.length), ← Nat.mul_assoc, ← Nat.mul_assoc, Nat.mul_comm 256]
theorem dropA_at {b : List UInt8} {a i : Nat} {c : UInt8} (h : b[a + i]? = some c) : (b.drop a)[i]? = some c := by rw [List.getElem?_drop]; exact h
theorem pow8 (i : Nat) : 256 ^ i = 2 ^ (8 * i) := by rw [Nat.pow_mul]
theorem pow7 (i : Nat) : 128 ^ i = 2 ^ (7 * i) := by rw [Nat.pow_mul]
theorem fix_next {b : List UInt8} {a i u : Nat} {c : UInt8} (h : b[a + i]? = some c) (hu : u = leV ((b.drop a).take i)) : u + c.toNat * 2 ^ (8 * i) = leV ((b.drop a).take (i + 1)) := by
  have h1 := dropA_at h
  have hl := (List.getElem?_eq_some_iff.1 h1).1
  rw [List.take_add_one, h1]
  show _ = leV ((b.drop a).take i ++ [c])
  rw [leV_snoc, List.length_take, Nat.min_eq_left (by omega), hu, pow8]
theorem fix_lt {b : List UInt8} {a i u : Nat} (hl : a + i ≤ b.length) (hu : u = leV ((b.drop a).take i)) : u < 2 ^ (8 * i) := by
  have := leV_lt ((b.drop a).take i)
  rw [List.length_take, List.length_drop, Nat.min_eq_left (by omega)] at this
  rw [hu, ← pow8]; exact this
theorem fix_room {i u : Nat} (c : UInt8) (hi : i < 8) (hu : u < 2 ^ (8 * i)) : u + c.toNat * 2 ^ (8 * i) < 18446744073709551616 := by
  have h := c.toNat_lt
  have h1 : (c.toNat + 1) * 2 ^ (8 * i) ≤ 256 * 2 ^ (8 * i) := Nat.mul_le_mul_right _ (by omega)
  have h2 : 256 * 2 ^ (8 * i) = 2 ^ (8 * (i + 1)) := by rw [show 8 * (i + 1) = 8 + 8 * i by omega, Nat.pow_add]
  have h3 : 2 ^ (8 * (i + 1)) ≤ 2 ^ 64 := Nat.pow_le_pow_right (by decide) (by omega)
  rw [Nat.add_mul] at h1
  omega
theorem getN_1 {b : List UInt8} {a : Nat} (h : a + 8 ≤ b.length) : getN b a 1 = some (i64 (leV ((b.drop a).take 8)), a + 8) := by unfold getN; rw [if_pos rfl, if_pos h]
theorem getN_1n {b : List UInt8} {a : Nat} (h : ¬ a + 8 ≤ b.length) : getN b a 1 = none := by unfold getN; rw [if_pos rfl, if_neg h]
theorem getN_2 {b : List UInt8} {a : Nat} : getN b a 2 = (varG 0 0 (b.drop a)).map fun x => (backN x.1, a + x.2) := by unfold getN; rw [if_neg (by decide), if_pos rfl]
theorem getN_0 {b : List UInt8} {a : Nat} {f : Int} (h : ¬ fmtF f) : getN b a f = none := by unfold getN; rw [if_neg (fun e => h (.inl e)), if_neg (fun e => h (.inr e))]
theorem var_end {b : List UInt8} {a i u : Nat} (h : b.length ≤ a + i) : varG i u (b.drop (a + i)) = none := by rw [List.drop_of_length_le h]; rfl
theorem var_at {b : List UInt8} {a i u : Nat} {c : UInt8} (h : b[a + i]? = some c) : varG i u (b.drop (a + i)) = if i = 9 ∧ 1 < c.toNat then none else if 128 ≤ c.toNat then varG (i + 1) (u + (c.toNat % 128) * 2 ^ (7 * i)) (b.drop (a + (i + 1))) else if c.toNat = 0 ∧ 0 < i then none else some (u + (c.toNat % 128) * 2 ^ (7 * i), i + 1) := by
  obtain ⟨hl, he⟩ := List.getElem?_eq_some_iff.1 h
  rw [List.drop_eq_getElem_cons hl, he, varG, pow7, ← Nat.add_assoc]
  by_cases hc : 128 ≤ c.toNat
  · simp only [if_pos hc]
  · rw [Nat.mod_eq_of_lt (by omega)]
theorem var_room {i u : Nat} {c : UInt8} (hi : i ≤ 9) (hu : u < 2 ^ (7 * i)) (h9 : ¬ (i = 9 ∧ 1 < c.toNat)) : u + (c.toNat % 128) * 2 ^ (7 * i) < 18446744073709551616 ∧ (c.toNat % 128) * 2 ^ (7 * i) < 18446744073709551616 ∧ u + (c.toNat % 128) * 2 ^ (7 * i) < 2 ^ (7 * (i + 1)) := by
  have h1 : (c.toNat % 128 + 1) * 2 ^ (7 * i) ≤ 128 * 2 ^ (7 * i) := Nat.mul_le_mul_right _ (by omega)
  have h2 : 128 * 2 ^ (7 * i) = 2 ^ (7 * (i + 1)) := by rw [show 7 * (i + 1) = 7 + 7 * i by omega, Nat.pow_add]
  rw [Nat.add_mul] at h1
  by_cases h : i = 9
  · subst h
    have h3 : c.toNat % 128 ≤ 1 := by omega
    have h4 : (c.toNat % 128) * 2 ^ (7 * 9) ≤ 1 * 2 ^ (7 * 9) := Nat.mul_le_mul_right _ h3
    have h5 : 2 ^ (7 * 9) = 9223372036854775808 := by decide
    omega
  · have h3 : 2 ^ (7 * (i + 1)) ≤ 2 ^ 63 := Nat.pow_le_pow_right (by decide) (by omega)
    omega
theorem leV_cons_drop {b : List UInt8} {a j : Nat} {c : UInt8} (hj : j < 8) (h : b[a + (7 - j)]? = some c) : leV (((b.drop a).take 8).drop (8 - j)) * 256 + c.toNat = leV (((b.drop a).take 8).drop (8 - (j + 1))) := by
  have h1 := dropA_at h
  have h2 : ((b.drop a).take 8)[8 - (j + 1)]? = some c := by rw [List.getElem?_take, if_pos (by omega), show 8 - (j + 1) = 7 - j by omega]; exact h1
  obtain ⟨hl, he⟩ := List.getElem?_eq_some_iff.1 h2
  rw [List.drop_eq_getElem_cons hl, he, leV, show 8 - (j + 1) + 1 = 8 - j by omega]
  omega
theorem leV_drop_lt {b : List UInt8} {a j : Nat} (hj : j < 8) (hl : a + 8 ≤ b.length) : leV (((b.drop a).take 8).drop (8 - j)) < 72057594037927936 := by
  have h := leV_lt (((b.drop a).take 8).drop (8 - j))
  have h1 : (((b.drop a).take 8).drop (8 - j)).length = j := by rw [List.length_drop, List.length_take, List.length_drop]; omega
  rw [h1] at h
  have h2 : 256 ^ j ≤ 256 ^ 7 := Nat.pow_le_pow_right (by decide) (by omega)
  have h3 : 256 ^ 7 = 72057594037927936 := by decide
  omega
theorem valV_cons_drop {r : List UInt8} {k j : Nat} {c : UInt8} (hj : j ≤ k) (h : r[k - j]? = some c) : ((valV ((r.take (k + 1)).drop (k + 1 - j)) % 18446744073709551616) * 128 % 18446744073709551616 + c.toNat % 128) % 18446744073709551616 = valV ((r.take (k + 1)).drop (k + 1 - (j + 1))) % 18446744073709551616 := by
  have h2 : (r.take (k + 1))[k + 1 - (j + 1)]? = some c := by rw [List.getElem?_take, if_pos (by omega), show k + 1 - (j + 1) = k - j by omega]; exact h
  obtain ⟨hl, he⟩ := List.getElem?_eq_some_iff.1 h2
  rw [List.drop_eq_getElem_cons hl, he, valV, show k + 1 - (j + 1) + 1 = k + 1 - j by omega]
  omega
theorem one_wide {v : Value} : ∀ y ∈ [D.sc v], y.cells.length = 1 := by intro y hy; rw [List.mem_singleton.1 hy]; rfl
theorem leV8_lt (l : List UInt8) : leV (l.take 8) < 18446744073709551616 := by
  have h := leV_lt (l.take 8)
  have h2 : 256 ^ (l.take 8).length ≤ 256 ^ 8 := Nat.pow_le_pow_right (by decide) (by rw [List.length_take]; omega)
  have h3 : 256 ^ 8 = 18446744073709551616 := by decide
  omega
theorem wu64m (u : Nat) : IntKind.u64.wrap (u : Int) = ((u % 18446744073709551616 : Nat) : Int) := by rw [wu64]; unfold u64; omega
theorem lead_next {r : List UInt8} {k : Nat} {c : UInt8} (h : ∀ j, j < k → ∃ c, r[j]? = some c ∧ 128 ≤ c.toNat) (hc : r[k]? = some c) (hg : 128 ≤ c.toNat) : ∀ j, j < k + 1 → ∃ c, r[j]? = some c ∧ 128 ≤ c.toNat := by
  intro j hj
  rcases Nat.lt_succ_iff_lt_or_eq.1 hj with h1 | rfl
  · exact h j h1
  · exact ⟨c, hc, hg⟩
theorem putN_back (u : Nat) : putN 2 (backN u) = vary u := by rw [putN_2 (by decide) rfl, turn_back]
theorem getN_ref {b : List UInt8} {a k u : Nat} {c : UInt8} (hlead : ∀ j, j < k → ∃ c, (b.drop a)[j]? = some c ∧ 128 ≤ c.toNat) (hk : k < 10) (hc : b[a + k]? = some c) (hlt : c.toNat < 128) (hu : u = valV ((b.drop a).take (k + 1)) % 18446744073709551616) :
    getN b a 2 = if strL (putN 2 (backN u)) = strL ((b.drop a).take (k + 1)) then some (backN u, a + (k + 1)) else none := by
  rw [getN_2, varG_ref hlead hk (dropA_at hc) hlt, ← hu, putN_back]
  by_cases h : vary u = (b.drop a).take (k + 1)
  · rw [if_pos h, if_pos (by rw [h])]; rfl
  · rw [if_neg h, if_neg (fun e => h (strL_inj.1 e))]; rfl
theorem getN_refn {b : List UInt8} {a k : Nat} (hlead : ∀ j, j < k → ∃ c, (b.drop a)[j]? = some c ∧ 128 ≤ c.toNat) (hk : b.length ≤ a + k ∨ k = 10) : getN b a 2 = none := by
  rw [getN_2, varG_ref_none hlead (by rw [List.length_drop]; omega)]; rfl
end Go.Vm
end
section
namespace Go.Vm
set_option linter.unusedVariables false
set_option linter.unusedSimpArgs false

instance lawfulBytes : LawfulBEq ByteArray where
  eq_of_beq := by intro a b h; rw [beq_toListBytes, eq_strs] at h; exact of_decide_eq_true h
  rfl := by intro a; rw [beq_toListBytes, eq_strs]; simp

structure RefD where
  scope : Int
  group : ByteArray
  name : ByteArray
  deriving DecidableEq
structure FieldD where
  at_ : RefD
  kind : Int
  deft : ByteArray
  cases : List ByteArray
  worth : Int
  deriving DecidableEq
structure LensD where
  kind : Int
  at_ : RefD
  name : ByteArray
  other : ByteArray
  factor : Int
  field : FieldD
  forth : List (ByteArray × ByteArray)
  back : List (ByteArray × ByteArray)
  deriving DecidableEq
abbrev noB : ByteArray := ⟨#[]⟩
def noRef : RefD := ⟨0, noB, noB⟩
def noField : FieldD := ⟨noRef, 0, noB, [], 0⟩
def noLens : LensD := ⟨0, noRef, noB, noB, 0, noField, [], []⟩

def pairD (p : ByteArray × ByteArray) : D := .agg [.sc (.string p.1), .sc (.string p.2)]
def rD (r : RefD) : D := .agg [.sc (.int .i64 r.scope), .sc (.string r.group), .sc (.string r.name)]
def fD (f : FieldD) : D := .agg [.sc (.int .i64 f.at_.scope), .sc (.string f.at_.group), .sc (.string f.at_.name), .sc (.int .i64 f.kind), .sc (.string f.deft), .row (f.cases.map strD), .sc (.int .i64 f.worth)]
def lD (x : LensD) : D := .agg [.sc (.int .i64 x.kind), .sc (.int .i64 x.at_.scope), .sc (.string x.at_.group), .sc (.string x.at_.name), .sc (.string x.name), .sc (.string x.other), .sc (.int .i64 x.factor),
  .sc (.int .i64 x.field.at_.scope), .sc (.string x.field.at_.group), .sc (.string x.field.at_.name), .sc (.int .i64 x.field.kind), .sc (.string x.field.deft), .row (x.field.cases.map strD), .sc (.int .i64 x.field.worth), .row (x.forth.map pairD), .row (x.back.map pairD)]

/-! ### Parts -/
theorem pd_fr (f : FieldD) : partD (true, 3) (fD f).cells 0 = some (rD f.at_) := rfl
theorem pd_f (f : FieldD) : partD (true, 7) (fD f).cells 0 = some (fD f) := rfl
theorem pd_r (r : RefD) : partD (true, 3) (rD r).cells 0 = some (rD r) := rfl
theorem pd_l (x : LensD) : partD (true, 16) (lD x).cells 0 = some (lD x) := rfl
theorem pd_lr (x : LensD) : partD (true, 3) (lD x).cells 1 = some (rD x.at_) := rfl
theorem pd_lf (x : LensD) : partD (true, 7) (lD x).cells 7 = some (fD x.field) := rfl
theorem pd_lfr (x : LensD) : partD (true, 3) (lD x).cells 7 = some (rD x.field.at_) := rfl
theorem pd_p (p : ByteArray × ByteArray) : partD (true, 2) (pairD p).cells 0 = some (pairD p) := rfl

/-! ### Names -/
/-- May this byte stand there in a name? -/
def charB (c : Int) (j : Nat) : Bool := (decide (97 ≤ c) && decide (c ≤ 122)) || (decide (48 ≤ c) && decide (c ≤ 57) && !decide (j = 0))
def okTo (s : ByteArray) (k : Nat) : Prop := ∀ j (b : UInt8), j < k → s[j]? = some b → charB b.toNat j = true
/-- Is it a name? -/
def nameB (s : ByteArray) : Bool := decide (1 ≤ s.size ∧ s.size ≤ 12) && (List.range s.size).all fun j => match s[j]? with
  | some b => charB b.toNat j
  | none => true
theorem name_yes {s : ByteArray} {k : Nat} (h1 : 1 ≤ s.size) (h2 : s.size ≤ 12) (hk : s.size ≤ k) (h : okTo s k) : nameB s = true := by
  unfold nameB
  rw [decide_eq_true (show 1 ≤ s.size ∧ s.size ≤ 12 from ⟨h1, h2⟩), Bool.true_and, List.all_eq_true]
  intro j hj
  split
  · rename_i b hb; exact h j b (by have := List.mem_range.1 hj; omega) hb
  · rfl
theorem name_no {s : ByteArray} {j : Nat} {b : UInt8} (hj : j < s.size) (hb : s[j]? = some b) (h : charB b.toNat j = false) : nameB s = false := by
  unfold nameB
  rw [Bool.and_eq_false_iff]
  right
  rw [List.all_eq_false]
  exact ⟨j, List.mem_range.2 hj, by rw [hb]; simp [h]⟩
theorem name_short {s : ByteArray} (h : s.size < 1) : nameB s = false := by unfold nameB; rw [decide_eq_false (fun k => by omega)]; rfl
theorem name_long {s : ByteArray} (h : 12 < s.size) : nameB s = false := by unfold nameB; rw [decide_eq_false (fun k => by omega)]; rfl
theorem okTo_zero (s : ByteArray) : okTo s 0 := fun j b hj => by omega
theorem okTo_next {s : ByteArray} {k : Nat} {b : UInt8} (h : okTo s k) (hb : s[k]? = some b) (hc : charB b.toNat k = true) : okTo s (k + 1) := by
  intro j b' hj hb'
  by_cases e : j = k
  · subst e; rw [hb] at hb'; injection hb' with e; subst e; exact hc
  · exact h j b' (by omega) hb'
theorem char_at {s : ByteArray} {k : Nat} (h : decide ((k : Int) < (s.size : Int)) = true) : ∃ b, s[k]? = some b := by
  have : k < s.size := by have := of_decide_eq_true h; omega
  exact ⟨s[k], by simp [this]⟩
theorem char_lt {s : ByteArray} {k : Nat} {b : UInt8} (h : s[k]? = some b) : k < s.size := by
  rcases Nat.lt_or_ge k s.size with h1 | h1
  · exact h1
  · simp [show ¬ k < s.size by omega] at h
theorem char_ix {s : ByteArray} {k : Nat} {b : UInt8} (h : s[k]? = some b) : s[((k : Nat) : Int).toNat]? = some b := by rw [Int.toNat_natCast]; exact h

/-! ### Places -/
def placeB (r : RefD) : Bool := (decide (r.scope = 0) || decide (r.scope = 1)) && nameB r.name && (decide (r.group = noB) || nameB r.group)
def ltB (a b : ByteArray) : Bool := Op.bytesLess a.toList b.toList
def lessB (a b : RefD) : Bool := if a.scope ≠ b.scope then decide (a.scope < b.scope) else if a.group ≠ b.group then ltB a.group b.group else ltB a.name b.name

/-! ### Fields -/
def okC (l : List ByteArray) (k : Nat) : Bool := (List.range k).all fun j => match l[j]? with
  | some c => nameB c && !decide (c ∈ l.take j)
  | none => true
/-- May these be an enum's cases? -/
def casesB (l : List ByteArray) : Bool := decide (1 ≤ l.length) && decide (l.length ≤ 6) && okC l l.length
theorem okC_zero (l : List ByteArray) : okC l 0 = true := rfl
theorem okC_next {l : List ByteArray} {k : Nat} {p : ByteArray} (hp : l[k]? = some p) (h : okC l k = true) (h1 : nameB p = true) (h2 : ¬ p ∈ l.take k) : okC l (k + 1) = true := by
  unfold okC at *
  rw [List.range_succ, List.all_append, h]
  simp [hp, h1, h2]
theorem cases_no {l : List ByteArray} {k : Nat} {p : ByteArray} (hp : l[k]? = some p) (h : (nameB p && !decide (p ∈ l.take k)) = false) : casesB l = false := by
  unfold casesB
  rw [Bool.and_eq_false_iff]
  right
  unfold okC
  rw [List.all_eq_false]
  exact ⟨k, List.mem_range.2 (List.getElem?_eq_some_iff.1 hp).1, by simp only [hp, h]; simp⟩
theorem cases_yes {l : List ByteArray} {k : Nat} (h1 : 1 ≤ l.length) (h2 : l.length ≤ 6) (hk : l.length ≤ k) (h : okC l k = true) : casesB l = true := by
  unfold casesB
  rw [decide_eq_true h1, decide_eq_true h2, Bool.true_and, Bool.true_and]
  unfold okC at *
  rw [List.all_eq_true] at *
  intro j hj
  exact h j (List.mem_range.2 (by have := List.mem_range.1 hj; omega))
theorem okC_end {l : List ByteArray} {k : Nat} (hk : l.length ≤ k) (h : okC l k = true) : okC l l.length = true := by
  unfold okC at *
  rw [List.all_eq_true] at *
  intro j hj
  exact h j (List.mem_range.2 (by have := List.mem_range.1 hj; omega))
theorem cases_short {l : List ByteArray} (h : l.length < 1) : casesB l = false := by unfold casesB; rw [decide_eq_false (by omega)]; rfl
theorem cases_long {l : List ByteArray} (h : 6 < l.length) : casesB l = false := by unfold casesB; rw [decide_eq_false (show ¬ l.length ≤ 6 by omega), Bool.and_false]; rfl
/-- Is a field right? -/
def rightF (f : FieldD) : Bool := placeB f.at_ &&
  (if f.kind = 1 then decide (f.deft = noB) && decide (f.cases.length = 0) && decide (1 ≤ f.worth) && decide (f.worth ≤ 1048576)
   else if f.kind = 2 then decide (f.deft.size ≤ 40) && decide (f.cases.length = 0) && decide (f.worth = 0)
   else if f.kind = 3 then casesB f.cases && decide (f.deft ∈ f.cases) && decide (f.worth = 0)
   else if f.kind = 4 then decide (f.deft = noB) && decide (f.cases.length = 0) && decide (f.worth = 0)
   else false)
theorem rightF_bare {f : FieldD} (h1 : ¬ f.kind = 1) (h3 : ¬ f.kind = 3) (hc : 0 < f.cases.length) : rightF f = false := by
  unfold rightF
  rw [Bool.and_eq_false_iff]
  right
  rw [if_neg h1]
  have h0 : decide (f.cases.length = 0) = false := decide_eq_false (by omega)
  by_cases h2 : f.kind = 2
  · rw [if_pos h2, h0, Bool.and_false, Bool.false_and]
  · rw [if_neg h2, if_neg h3]
    by_cases h4 : f.kind = 4
    · rw [if_pos h4, h0, Bool.and_false, Bool.false_and]
    · rw [if_neg h4]
end Go.Vm
end
section
namespace Go.Vm
set_option linter.unusedVariables false
set_option linter.unusedSimpArgs false

abbrev St := Nat × Bool
abbrev rdS (b : List UInt8) (f : Int) (s : St) : S := .obj [.row (byD b), .sc (.int .i64 f), .sc (.int .i64 ((s.1 : Nat) : Int)), .sc (.bool s.2)]
def badR (f : Int) (s : St) : Bool := s.2 || !decide (fmtF f)
def numR (b : List UInt8) (f : Int) (s : St) : Int × St := if badR f s = true then (0, s) else match getN b s.1 f with
  | some x => (x.1, (x.2, s.2))
  | none => (0, (s.1, true))
def leftR (b : List UInt8) (f : Int) (s : St) : Int := if badR f s = true then 0 else (b.length : Int) - (s.1 : Int)
def countR (b : List UInt8) (f most : Int) (s : St) : Int × St := if (numR b f s).1 < 0 ∨ most < (numR b f s).1 then (0, ((numR b f s).2.1, true)) else numR b f s
def spoilT (b : List UInt8) (f most : Int) (s : St) : St := if (numR b f s).1 < 0 ∨ most < (numR b f s).1 ∨ leftR b f (numR b f s).2 < (numR b f s).1 then ((numR b f s).2.1, true) else (numR b f s).2
def textR (b : List UInt8) (f most : Int) (s : St) : List UInt8 × St := if badR f (spoilT b f most s) = true then ([], spoilT b f most s) else ((b.drop (numR b f s).2.1).take (numR b f s).1.toNat, ((numR b f s).2.1 + (numR b f s).1.toNat, (numR b f s).2.2))
def refR (b : List UInt8) (f : Int) (s : St) : RefD × St :=
  let n := numR b f s
  let g := textR b f 12 n.2
  let m := textR b f 12 g.2
  (if badR f m.2 = true then noRef else ⟨n.1, strL g.1, strL m.1⟩, m.2)

variable {b : List UInt8} {f most : Int} {s : St}
theorem badR_false (h : ¬ badR f s = true) : s.2 = false ∧ fmtF f := by
  unfold badR at h
  by_cases hf : fmtF f
  · refine ⟨?_, hf⟩
    cases hb : s.2
    · rfl
    · rw [hb] at h; exact absurd rfl h
  · exact absurd (by simp [hf]) h
theorem badR_spoilt {a : Nat} : badR f (a, true) = true := rfl
theorem badR_right (hf : fmtF f) {a : Nat} : ¬ badR f (a, false) = true := by unfold badR; simp [hf]
theorem badR_wrong (hf : ¬ fmtF f) : badR f s = true := by unfold badR; simp [hf]
theorem numR_bad (h : badR f s = true) : numR b f s = (0, s) := by unfold numR; rw [if_pos h]
theorem numR_none (h : ¬ badR f s = true) (hg : getN b s.1 f = none) : numR b f s = (0, (s.1, true)) := by unfold numR; rw [if_neg h, hg]
theorem numR_some {x : Int × Nat} (h : ¬ badR f s = true) (hg : getN b s.1 f = some x) : numR b f s = (x.1, (x.2, s.2)) := by unfold numR; rw [if_neg h, hg]
theorem numR_inv (hs : s.1 ≤ b.length) : (numR b f s).2.1 ≤ b.length := by
  unfold numR
  split
  · exact hs
  · split
    · rename_i x hx; exact (getN_in (n := x.1) (e := x.2) hx).2.2.1
    · exact hs
theorem numR_in : inI64 (numR b f s).1 := by
  unfold numR
  split
  · exact ⟨by show (-9223372036854775808 : Int) ≤ 0; decide, by show (0 : Int) < 9223372036854775808; decide⟩
  · split
    · rename_i x hx; exact (getN_in (n := x.1) (e := x.2) hx).1
    · exact ⟨by show (-9223372036854775808 : Int) ≤ 0; decide, by show (0 : Int) < 9223372036854775808; decide⟩
theorem numR_ok (h : ¬ badR f (numR b f s).2 = true) : ¬ badR f s = true ∧ getN b s.1 f = some ((numR b f s).1, (numR b f s).2.1) ∧ (numR b f s).2.2 = false := by
  by_cases hb : badR f s = true
  · rw [numR_bad hb] at h; exact absurd hb h
  · cases hg : getN b s.1 f with
    | none => rw [numR_none hb hg] at h; exact absurd badR_spoilt h
    | some x => rw [numR_some hb hg]; exact ⟨hb, rfl, (badR_false hb).1⟩
theorem leftR_le (hs : s.1 ≤ b.length) : 0 ≤ leftR b f s ∧ leftR b f s ≤ b.length := by unfold leftR; split <;> omega
theorem gC_none {e : Int} {g : Option (Int × Nat)} (h : ¬ gC e g = 0) : g = none := by
  cases g with
  | none => rfl
  | some x => exact absurd rfl h
theorem gC_some {e : Int} {g : Option (Int × Nat)} (he : ¬ e = 0) (h : gC e g = 0) : ∃ x, g = some x := by
  cases g with
  | none => exact absurd h he
  | some x => exact ⟨x, rfl⟩
theorem spoilT_inv (hs : s.1 ≤ b.length) : (spoilT b f most s).1 ≤ b.length := by unfold spoilT; split <;> exact numR_inv hs
theorem spoilT_ok (h : ¬ badR f (spoilT b f most s) = true) : ¬ badR f (numR b f s).2 = true ∧ spoilT b f most s = (numR b f s).2 ∧ 0 ≤ (numR b f s).1 ∧ (numR b f s).1 ≤ most ∧ (numR b f s).1 ≤ (b.length : Int) - ((numR b f s).2.1 : Int) := by
  unfold spoilT at h ⊢
  split at h
  · exact absurd badR_spoilt h
  · rename_i hc
    rw [if_neg hc]
    unfold leftR at hc
    rw [if_neg h] at hc
    exact ⟨h, rfl, by omega, by omega, by omega⟩
theorem textR_bad (h : badR f (spoilT b f most s) = true) : textR b f most s = ([], spoilT b f most s) := by unfold textR; rw [if_pos h]
theorem textR_ok (h : ¬ badR f (spoilT b f most s) = true) : textR b f most s = ((b.drop (numR b f s).2.1).take (numR b f s).1.toNat, ((numR b f s).2.1 + (numR b f s).1.toNat, (numR b f s).2.2)) := by unfold textR; rw [if_neg h]
theorem textR_inv (hs : s.1 ≤ b.length) : (textR b f most s).2.1 ≤ b.length := by
  by_cases h : badR f (spoilT b f most s) = true
  · rw [textR_bad h]; exact spoilT_inv hs
  · rw [textR_ok h]
    have := spoilT_ok h
    have h2 := numR_inv (f := f) hs
    show (numR b f s).2.1 + (numR b f s).1.toNat ≤ b.length
    omega
theorem textR_len : (textR b f most s).1.length ≤ most.toNat := by
  by_cases h : badR f (spoilT b f most s) = true
  · rw [textR_bad h]; simp
  · rw [textR_ok h]
    have := spoilT_ok h
    show ((b.drop (numR b f s).2.1).take (numR b f s).1.toNat).length ≤ _
    rw [List.length_take]
    omega
theorem countR_inv (hs : s.1 ≤ b.length) : (countR b f most s).2.1 ≤ b.length := by unfold countR; split <;> exact numR_inv hs
theorem countR_le (h : 0 ≤ most) : 0 ≤ (countR b f most s).1 ∧ (countR b f most s).1 ≤ most := by unfold countR; split; (show 0 ≤ (0 : Int) ∧ (0 : Int) ≤ most; omega); omega
theorem refR_inv (hs : s.1 ≤ b.length) : (refR b f s).2.1 ≤ b.length := textR_inv (textR_inv (numR_inv hs))

-- what the document reads, from a place on
def textO (b : List UInt8) (a : Nat) (f most : Int) : Option (List UInt8 × Nat) := match getN b a f with
  | some x => if 0 ≤ x.1 ∧ x.1 ≤ most ∧ x.1 ≤ (b.length : Int) - (x.2 : Int) then some ((b.drop x.2).take x.1.toNat, x.2 + x.1.toNat) else none
  | none => none
def countO (b : List UInt8) (a : Nat) (f most : Int) : Option (Int × Nat) := match getN b a f with
  | some x => if 0 ≤ x.1 ∧ x.1 ≤ most then some x else none
  | none => none
def refO (b : List UInt8) (a : Nat) (f : Int) : Option (RefD × Nat) := match getN b a f with
  | none => none
  | some n => match textO b n.2 f 12 with
    | none => none
    | some g => match textO b g.2 f 12 with
      | none => none
      | some m => some (⟨n.1, strL g.1, strL m.1⟩, m.2)
theorem textO_le {a : Nat} {x : List UInt8 × Nat} (h : textO b a f most = some x) : a < x.2 ∧ x.2 ≤ b.length ∧ x.1.length ≤ most.toNat := by
  unfold textO at h
  split at h
  · rename_i y hy
    have h1 := getN_in (n := y.1) (e := y.2) hy
    split at h
    · injection h with h; subst h
      refine ⟨by show a < y.2 + y.1.toNat; omega, by show y.2 + y.1.toNat ≤ b.length; omega, ?_⟩
      show ((b.drop y.2).take y.1.toNat).length ≤ _
      rw [List.length_take]; omega
    · cases h
  · cases h
theorem countO_le {a : Nat} {x : Int × Nat} (h : countO b a f most = some x) : a < x.2 ∧ x.2 ≤ b.length ∧ 0 ≤ x.1 ∧ x.1 ≤ most := by
  unfold countO at h
  split at h
  · rename_i y hy
    have h1 := getN_in (n := y.1) (e := y.2) hy
    split at h
    · injection h with h; subst h
      exact ⟨h1.2.1, h1.2.2.1, by omega, by omega⟩
    · cases h
  · cases h
theorem refO_le {a : Nat} {x : RefD × Nat} (h : refO b a f = some x) : a < x.2 ∧ x.2 ≤ b.length := by
  unfold refO at h
  split at h
  · cases h
  · rename_i n hn
    have h1 := getN_in (n := n.1) (e := n.2) hn
    split at h
    · cases h
    · rename_i g hg
      have h2 := textO_le hg
      split at h
      · cases h
      · rename_i m hm
        have h3 := textO_le hm
        injection h with h; subst h
        exact ⟨by show a < m.2; omega, h3.2.1⟩
-- the reader does what the document says
theorem numR_get (hf : fmtF f) {a : Nat} : numR b f (a, false) = match getN b a f with
    | some x => (x.1, (x.2, false))
    | none => (0, (a, true)) := by
  cases hg : getN b a f with
  | none => exact numR_none (badR_right hf) hg
  | some x => exact numR_some (badR_right hf) hg
theorem textR_get (hf : fmtF f) {a : Nat} (ha : a ≤ b.length) : match textO b a f most with
    | some x => textR b f most (a, false) = (x.1, (x.2, false))
    | none => (textR b f most (a, false)).1 = [] ∧ badR f (textR b f most (a, false)).2 = true := by
  unfold textO
  have hnr := numR_get (b := b) hf (a := a)
  cases hg : getN b a f with
  | none =>
    rw [hg] at hnr
    simp only at hnr
    have h1 : badR f (spoilT b f most (a, false)) = true := by unfold spoilT; rw [hnr]; split <;> rfl
    simp only
    rw [textR_bad h1]
    exact ⟨rfl, h1⟩
  | some x =>
    rw [hg] at hnr
    simp only at hnr ⊢
    have hle : leftR b f (x.2, false) = (b.length : Int) - (x.2 : Int) := by unfold leftR; rw [if_neg (badR_right hf)]
    by_cases hc : 0 ≤ x.1 ∧ x.1 ≤ most ∧ x.1 ≤ (b.length : Int) - (x.2 : Int)
    · rw [if_pos hc]
      have hs : spoilT b f most (a, false) = (x.2, false) := by unfold spoilT; rw [hnr]; simp only; rw [hle, if_neg (by omega)]
      have h1 : ¬ badR f (spoilT b f most (a, false)) = true := by rw [hs]; exact badR_right hf
      simp only
      rw [textR_ok h1, hnr]
    · rw [if_neg hc]
      have hs : spoilT b f most (a, false) = (x.2, true) := by unfold spoilT; rw [hnr]; simp only; rw [hle, if_pos (by omega)]
      have h1 : badR f (spoilT b f most (a, false)) = true := by rw [hs]; rfl
      simp only
      rw [textR_bad h1]
      exact ⟨rfl, h1⟩
theorem textR_badS (h : badR f s = true) : (textR b f most s).1 = [] ∧ badR f (textR b f most s).2 = true := by
  have h1 : badR f (spoilT b f most s) = true := by unfold spoilT; rw [numR_bad h]; split; exact badR_spoilt; exact h
  rw [textR_bad h1]; exact ⟨rfl, h1⟩
theorem numR_badS (h : badR f s = true) : (numR b f s).1 = 0 ∧ badR f (numR b f s).2 = true := by rw [numR_bad h]; exact ⟨rfl, h⟩
theorem countR_badS (h : badR f s = true) : badR f (countR b f most s).2 = true := by unfold countR; rw [numR_bad h]; split; exact badR_spoilt; exact h
theorem refR_badS (h : badR f s = true) : (refR b f s).1 = noRef ∧ badR f (refR b f s).2 = true := by
  have h1 := (textR_badS (b := b) (most := 12) (textR_badS (b := b) (most := 12) (numR_badS (b := b) h).2).2).2
  refine ⟨?_, h1⟩
  unfold refR
  simp only
  rw [if_pos h1]
theorem countR_get (hf : fmtF f) {a : Nat} : match countO b a f most with
    | some x => countR b f most (a, false) = (x.1, (x.2, false))
    | none => badR f (countR b f most (a, false)).2 = true := by
  unfold countO countR
  have hnr := numR_get (b := b) hf (a := a)
  cases hg : getN b a f with
  | none => rw [hg] at hnr; rw [hnr]; simp only; split <;> rfl
  | some x =>
    rw [hg] at hnr; rw [hnr]
    simp only
    by_cases hc : 0 ≤ x.1 ∧ x.1 ≤ most
    · rw [if_pos hc]; simp only; rw [if_neg (by omega)]
    · rw [if_neg hc]; simp only; rw [if_pos (by omega)]; rfl
theorem refR_get (hf : fmtF f) {a : Nat} (ha : a ≤ b.length) : match refO b a f with
    | some x => refR b f (a, false) = (x.1, (x.2, false))
    | none => badR f (refR b f (a, false)).2 = true := by
  unfold refO refR
  have hnr := numR_get (b := b) hf (a := a)
  cases hg : getN b a f with
  | none =>
    rw [hg] at hnr; rw [hnr]
    exact (textR_badS (textR_badS badR_spoilt).2).2
  | some n =>
    rw [hg] at hnr; rw [hnr]
    simp only
    have h1 := getN_in (n := n.1) (e := n.2) hg
    have ht := textR_get (b := b) (most := 12) hf (a := n.2) h1.2.2.1
    cases hg2 : textO b n.2 f 12 with
    | none =>
      rw [hg2] at ht
      exact (textR_badS ht.2).2
    | some g =>
      rw [hg2] at ht
      simp only at ht ⊢
      rw [ht]
      simp only
      have h2 := textO_le hg2
      have ht2 := textR_get (b := b) (most := 12) hf (a := g.2) h2.2.1
      cases hg3 : textO b g.2 f 12 with
      | none => rw [hg3] at ht2; exact ht2.2
      | some m =>
        rw [hg3] at ht2
        simp only at ht2 ⊢
        rw [ht2, if_neg (badR_right hf)]

-- what is put
def textP (f : Int) (s : ByteArray) : List UInt8 := if fmtF f then putN f (s.size : Nat) ++ s.data.toList else []
def refP (f : Int) (r : RefD) : List UInt8 := putN f r.scope ++ (textP f r.group ++ textP f r.name)
theorem textP_len (f : Int) {s : ByteArray} (h : s.size ≤ 1000000) : (textP f s).length ≤ 10 + s.size := by
  unfold textP
  split
  · have := putN_len f (n := (s.size : Nat)) (by omega)
    rw [List.length_append]
    have e : s.data.toList.length = s.size := rfl
    omega
  · simp
theorem textP_right (hf : fmtF f) (s : ByteArray) : textP f s = putN f (s.size : Nat) ++ s.data.toList := by unfold textP; rw [if_pos hf]
theorem textP_wrong (hf : ¬ fmtF f) (s : ByteArray) : textP f s = [] := by unfold textP; rw [if_neg hf]
theorem putN_wrong (hf : ¬ fmtF f) (n : Int) : putN f n = [] := putN_0 (fun e => hf (.inl e)) (fun e => hf (.inr e))
theorem text_put (hf : fmtF f) {t : ByteArray} {pre post : List UInt8} {most : Int} (h : (t.size : Int) ≤ most) (h2 : t.size ≤ 1000000) : textO (pre ++ (textP f t ++ post)) pre.length f most = some (t.data.toList, pre.length + (textP f t).length) := by
  unfold textO
  rw [textP_right hf, List.append_assoc, get_put hf (by omega)]
  simp only
  have e : t.data.toList.length = t.size := rfl
  rw [if_pos]
  · rw [Int.toNat_natCast, ← List.append_assoc, ← List.length_append, List.drop_left, List.take_left' e, List.length_append, List.length_append, e]
    congr 2
    omega
  · refine ⟨by omega, h, ?_⟩
    simp only [List.length_append]
    rw [e]
    omega
theorem ref_put (hf : fmtF f) {r : RefD} {pre post : List UInt8} (h0 : inI64 r.scope) (h1 : r.group.size ≤ 12) (h2 : r.name.size ≤ 12) : refO (pre ++ (refP f r ++ post)) pre.length f = some (r, pre.length + (refP f r).length) := by
  unfold refO refP
  rw [List.append_assoc, List.append_assoc, get_put hf h0]
  simp only
  have e1 := text_put hf (t := r.group) (pre := pre ++ putN f r.scope) (post := textP f r.name ++ post) (most := 12) (by omega) (by omega)
  rw [List.append_assoc, List.length_append] at e1
  rw [e1]
  simp only
  have e2 := text_put hf (t := r.name) (pre := (pre ++ putN f r.scope) ++ textP f r.group) (post := post) (most := 12) (by omega) (by omega)
  simp only [List.append_assoc, List.length_append] at e2 ⊢
  rw [Nat.add_assoc] at e2
  rw [Nat.add_assoc, e2]
  simp only [strL_list, Nat.add_assoc]

-- tags
def tagR (b : List UInt8) (f : Int) (s : St) : (Int × Int) × St := (if badR f (numR b f (numR b f s).2).2 = true then (0, 0) else ((numR b f s).1, (numR b f (numR b f s).2).1), (numR b f (numR b f s).2).2)
def tagO (b : List UInt8) (a : Nat) (f : Int) : Option ((Int × Int) × Nat) := match getN b a f with
  | none => none
  | some n => match getN b n.2 f with
    | none => none
    | some m => some ((n.1, m.1), m.2)
def tagP (f r n : Int) : List UInt8 := putN f r ++ putN f n
theorem tagR_inv (hs : s.1 ≤ b.length) : (tagR b f s).2.1 ≤ b.length := numR_inv (numR_inv hs)
theorem tagR_badS (h : badR f s = true) : (tagR b f s).1 = (0, 0) ∧ badR f (tagR b f s).2 = true := by
  have h1 := (numR_badS (b := b) (numR_badS (b := b) h).2).2
  unfold tagR
  rw [if_pos h1]; exact ⟨rfl, h1⟩
theorem tagO_le {a : Nat} {x : (Int × Int) × Nat} (h : tagO b a f = some x) : a < x.2 ∧ x.2 ≤ b.length := by
  unfold tagO at h
  split at h
  · cases h
  · rename_i n hn
    have h1 := getN_in (n := n.1) (e := n.2) hn
    split at h
    · cases h
    · rename_i m hm
      have h2 := getN_in (n := m.1) (e := m.2) hm
      injection h with h; subst h
      exact ⟨by show a < m.2; omega, h2.2.2.1⟩
theorem tagR_get (hf : fmtF f) {a : Nat} : match tagO b a f with
    | some x => tagR b f (a, false) = (x.1, (x.2, false))
    | none => badR f (tagR b f (a, false)).2 = true := by
  unfold tagO tagR
  have hnr := numR_get (b := b) hf (a := a)
  cases hg : getN b a f with
  | none => rw [hg] at hnr; rw [hnr]; exact (numR_badS (b := b) badR_spoilt).2
  | some n =>
    rw [hg] at hnr; rw [hnr]
    simp only
    have h2 := numR_get (b := b) hf (a := n.2)
    cases hg2 : getN b n.2 f with
    | none => rw [hg2] at h2; rw [h2]; rfl
    | some m =>
      rw [hg2] at h2
      simp only at h2 ⊢
      rw [h2, if_neg (badR_right hf)]
theorem tag_put (hf : fmtF f) {r n : Int} {pre post : List UInt8} (h0 : inI64 r) (h1 : inI64 n) : tagO (pre ++ (tagP f r n ++ post)) pre.length f = some ((r, n), pre.length + (tagP f r n).length) := by
  unfold tagO tagP
  rw [List.append_assoc, get_put hf h0]
  simp only
  have e1 := get_put hf (n := n) (pre := pre ++ putN f r) (post := post) h1
  rw [List.append_assoc, List.length_append] at e1
  rw [e1]
  simp [Nat.add_assoc]

-- what the document's answer hands on
def thD (kind n : Int) (x : ByteArray) (fl : Bool) (tr tn : Int) (r : RefD) (most : Int) : D := .agg [.sc (.int .i64 kind), .sc (.int .i64 n), .sc (.string x), .sc (.bool fl), .sc (.int .i64 tr), .sc (.int .i64 tn), .sc (.int .i64 0), .sc (.int .i64 0), .sc (.int .i64 0), .sc (.int .i64 0), .sc (.int .i64 0), .sc (.int .i64 0), .sc (.int .i64 r.scope), .sc (.string r.group), .sc (.string r.name), .sc (.int .i64 most)]
def tS (g : Option (List UInt8 × Nat)) : ByteArray := strL (g.elim [] (·.1))
def tE {α : Type} (g : Option (α × Nat)) : Int := g.elim 0 fun x => ((x.2 : Nat) : Int)
def oR (g : Option (RefD × Nat)) : RefD := g.elim noRef (·.1)
def oT (g : Option ((Int × Int) × Nat)) : Int × Int := g.elim (0, 0) (·.1)
theorem textO_some {a : Nat} {x : Int × Nat} (hg : getN b a f = some x) (h : 0 ≤ x.1 ∧ x.1 ≤ most ∧ x.1 ≤ (b.length : Int) - (x.2 : Int)) : textO b a f most = some ((b.drop x.2).take x.1.toNat, x.2 + x.1.toNat) := by unfold textO; rw [hg]; simp only; rw [if_pos h]
theorem textO_none {a : Nat} {x : Int × Nat} (hg : getN b a f = some x) (h : ¬ (0 ≤ x.1 ∧ x.1 ≤ most ∧ x.1 ≤ (b.length : Int) - (x.2 : Int))) : textO b a f most = none := by unfold textO; rw [hg]; simp only; rw [if_neg h]
theorem textO_miss {a : Nat} (hg : getN b a f = none) : textO b a f most = none := by unfold textO; rw [hg]
theorem countO_some {a : Nat} {x : Int × Nat} (hg : getN b a f = some x) (h : 0 ≤ x.1 ∧ x.1 ≤ most) : countO b a f most = some x := by unfold countO; rw [hg]; simp only; rw [if_pos h]
theorem countO_none {a : Nat} {x : Int × Nat} (hg : getN b a f = some x) (h : ¬ (0 ≤ x.1 ∧ x.1 ≤ most)) : countO b a f most = none := by unfold countO; rw [hg]; simp only; rw [if_neg h]
theorem countO_miss {a : Nat} (hg : getN b a f = none) : countO b a f most = none := by unfold countO; rw [hg]
theorem gN_some {g : Option (Int × Nat)} {x : Int × Nat} (h : g = some x) : gN g = x.1 := by rw [h]; rfl
theorem gE_some {g : Option (Int × Nat)} {x : Int × Nat} (h : g = some x) : gE g = ((x.2 : Nat) : Int) := by rw [h]; rfl
theorem tE_some {α : Type} {g : Option (α × Nat)} {x : α × Nat} (h : g = some x) : tE g = ((x.2 : Nat) : Int) := by rw [h]; rfl
theorem some_of {α : Type} {g : Option α} (h : g.isSome = true) : ∃ x, g = some x := Option.isSome_iff_exists.1 h
theorem none_of {α : Type} {g : Option α} (h : g.isSome = false) : g = none := by simpa using h
end Go.Vm
end
