/- Part 4 of what the proof of PeerNil stands on: Xg5, Xg6, Xg7, Xg8, Bridge, HmX, Ft, HmSum, HmAwk31, HmY, LnPlain, Tt, LnName, LnPlace, LnEq, LnTexts, LnField, LnSchemaP, LnLensP, LnSchema, LnSchema2, LnSchema3, LnHeavy, LnKeepP, LnLens2P. -/
import Derived.IntWalk
import Derived.Test.YtiflplmdehiomaaGreatProg
import Derived.KernelRfl
import Derived.Laws.StructEq
import Derived.Test.YtiflplmdehiomaaGreatPeerNilM3
set_option linter.unusedVariables false
set_option linter.unusedSimpArgs false
set_option maxHeartbeats 1000000
section
namespace Go.Vm
open Go.RowKit
def freshK (ds : List Nat) (s : S) (K : S → Prop) : Prop := match s with
  | .ref u off => match memN u ds with
    | true => K .junk
    | false => K (.ref u off)
  | s => sK s K
theorem memN_spec : ∀ {l : List Nat} {n : Nat}, memN n l = l.contains n
  | [], n => rfl
  | m :: l, n => by
    simp only [memN, List.contains_cons]
    have beqe : Nat.beq n m = (n == m) := by rw [Bool.eq_iff_iff]; simp [Nat.beq_eq]
    rw [← beqe]
    split
    · rename_i h; rw [h]; rfl
    · rename_i h; rw [h, Bool.false_or]; exact memN_spec
def clearK : List Nat → Tr → (Tr → Prop) → Prop
  | [], t, K => K t
  | d :: l, t, K => match Nat.ble 500000 d with
    | true => False
    | false => setK 20 t d .junk fun t => clearK l t K
theorem clearK_spec : ∀ {l : List Nat} {t : Tr} {K : Tr → Prop}, clearK l t K → ∃ t', (∀ u, t'.get u = if l.contains u then .junk else t.get u) ∧ (∀ d ∈ l, d < BIG) ∧ K t'
  | [], t, K, h => ⟨t, fun u => by simp, by simp, h⟩
  | d :: l, t, K, h => by
    simp only [clearK] at h
    split at h
    · exact h.elim
    · rename_i hb
      obtain ⟨t1, h1, h2⟩ := setK_spec h
      obtain ⟨t2, h3, h4, h5⟩ := clearK_spec h2
      refine ⟨t2, fun u => ?_, ?_, h5⟩
      · rw [h3, h1, List.contains_cons]
        by_cases e : u = d
        · subst e; simp
        · have : (u == d) = false := by simpa using e
          simp [this, e]
      · intro x hx
        rcases List.mem_cons.1 hx with rfl | hx
        · exact blb_lt hb
        · exact h4 x hx
def xq1 (P : Program) (tt : TT) (N : Nat) (fb : List Nat) (all : List Oper) (o : Oper) (rest : XL) (run : Bool) : XL := fun kn t h K => match derefOk all.toArray o (envT t h) with
    | false => False
    | true => match run with
      | false => match o.dst with
        | some d => match Nat.ble 500000 d with
          | true => False
          | false => setK 20 t d (.tup []) fun t => rest kn t h K
        | none => rest kn t h K
      | true => match o.dst with
        | none => match o.op with
          | .store T x y => match tt.get T with
            | some i => ovK t y fun sy => match sy with
             | .sref q1 q2 q3 => match (shI i).1, Nat.beq (shI i).2 1 with
              | false, true => ovK t x fun s => match s with
                | .ref u off => match Nat.ble 500000 u, t.get u with
                  | false, .ubox cs => patchK cs off [.rr q1 q2 q3] fun cs' => setK 20 t u (.ubox cs') fun t' => rest kn t' h K
                  | _, _ => False
                | _ => False
              | _, _ => False
             | _ => dK t y fun r => cellsK r fun rc => match Nat.beq rc.length (shI i).2 with
              | true => ovK t x fun s => match s with
                | .ref u off => match Nat.ble 500000 u, t.get u with
                  | false, .box cs => patchK cs off rc fun cs' => setK 20 t u (.box cs') fun t' => rest kn t' h K
                  | false, .ubox cs => patchK cs off rc fun cs' => setK 20 t u (.ubox cs') fun t' => rest kn t' h K
                  | _, _ => False
                | _ => False
              | false => False
            | none => False
          | _ => False
        | some d => match Nat.ble N d with
          | true => False
          | false => match memN d fb with
            | true => ∃ s, DG P N fb all.toArray o (envT t h) (.slot (some d) s) ∧ sK s fun s => setK 20 t d s fun t => rest kn t h K
            | false => match memN (Nat.add d 4000) fb with
            | true => ∃ (eff : Eff) (s : S) (h' : Hp), (DG P N fb all.toArray o (envT t h) eff ∧ eff.app (envT t h) = upd (envT t h') (some d) s) ∧ sK s fun s => setK 20 t d s fun t => rest kn t h' K
            | false => match o.op with
              | .box T x => dK t x fun r => cellsK r fun cs => setK 20 t d (.box cs) fun t => rest kn t h K
              | .alloc T => match tt.get T with
                | some i => match zI i with
                  | some z => setK 20 t d (.box z) fun t => rest kn t h K
                  | none => False
                | none => False
              | _ => match memN (Nat.add d 6000) fb with
                | true => yK P tt N d o t (fun _ => .junk) fun s => match nb s, refOk o (envT t h) s with
                  | true, true => setK 20 t d s fun t => rest kn t h K
                  | _, _ => False
                | false => yK P tt N d o t h fun s => match nb s, refOk o (envT t h) s with
                  | true, true => setK 20 t d s fun t => rest kn t h K
                  | _, _ => False
def notRef : S → Bool
  | .ref _ _ => false
  | _ => true
def barK (P : Program) (tt : TT) (N : Nat) (fb : List Nat) (o : Oper) (t : Tr) (h : Hp) (K : Tr → Hp → Prop) : Prop := match o.dst with
  | none => ∃ (id : Nat) (s : S), (NAM ≤ id ∧ Step P N o (envT t h) (upd (envT t h) (some id) (nameS s))) ∧ K t (hset h id s)
  | some d => match Nat.ble N d with
    | true => False
    | false => match o.op with
      | .call c => match memN (Nat.add d 2000) fb with
       | true => ∃ (t' : Tr) (h' : Hp), (Step P N o (envT t h) (envT t' h') ∧ CalmE (envT t h) (envT t' h')) ∧ K t' h'
       | false => match c.callee with
        | .builtin .append => appK tt d c t fun t => K t h
        | _ => ∃ (s : S) (h' : Hp), Step P N o (envT t h) (upd (envT t h') (some d) s) ∧ sK s fun s => match nb s, notRef s with
          | true, true => setK 20 t d s fun t' => K t' h'
          | _, _ => False
      | _ => False
def isBar (fb : List Nat) (o : Oper) : Bool := match o.op with
  | .mapUpdate .. => true
  | _ => match o.dst with
    | some d => memN (Nat.add d 1000) fb
    | none => false
def barOf (fb : List Nat) : List Oper → Nat → List Nat
  | [], _ => []
  | o :: l, k => match isBar fb o with
    | true => k :: barOf fb l (Nat.succ k)
    | false => barOf fb l (Nat.succ k)
def xqB (P : Program) (tt : TT) (N : Nat) (fb : List Nat) (all : List Oper) (bar : List Nat) (o : Oper) (rest : Nat → XL) : Nat → XL := fun k kn t h K => gK all kn o t fun run kn t => match memN k bar with
  | true => match run with
    | true => barK P tt N fb o t h fun t h => rest (Nat.succ k) kn t h K
    | false => False
  | false => xq1 P tt N fb all o (rest (Nat.succ k)) run kn t h K
def xq (P : Program) (tt : TT) (N : Nat) (fb : List Nat) (all : List Oper) (bar : List Nat) (l : List Oper) : Nat → XL := @List.rec Oper (fun _ => Nat → XL) (fun _ _ t h K => K t h) (fun o _ ih => xqB P tt N fb all bar o ih) l
abbrev XC := Tr → Hp → (Exit → Tr → Hp → Prop) → Prop
def xseq (a b : XC) : XC := fun t h K => a t h fun e t h => match e with
  | .normal => b t h K
  | .ret => K .ret t h
  | .exit id => K (.exit id) t h
  | .goto l => K (.goto l) t h
  | .panic c => K (.panic c) t h
  | .outgrown => K .outgrown t h
def xcond (c : Operand) (a b : XC) : XC := fun t h K => ovK t c fun s => match s with
  | .c (.d (.sc (.bool p))) => match c with
    | .tmp u => match Nat.ble 1000000 u with
      | true => False
      | false => (p = true → setK 20 t u (.c (.d (.sc (.bool true)))) fun t => a t h K) ∧ (p = false → setK 20 t u (.c (.d (.sc (.bool false)))) fun t => b t h K)
    | _ => (p = true → a t h K) ∧ (p = false → b t h K)
  | _ => False
def xblock (id : Nat) (b : XC) : XC := fun t h K => b t h fun e t h => match e with
  | .exit i => match Nat.beq i id with
    | true => K .normal t h
    | false => K (.exit i) t h
  | .normal => K .normal t h
  | .ret => K .ret t h
  | .goto l => K (.goto l) t h
  | .panic c => K (.panic c) t h
  | .outgrown => K .outgrown t h
def xregion (P : Program) (tt : TT) (N : Nat) (fb : List Nat) (ops : Array Oper) (draw : Bool) : XC := fun t h K => match draw with
  | false => xops P tt N fb ops.toList ops.toList [] t h (K .normal)
  | true => (P.follows .mixedOrders = true ∧ drawnB fb ops (barOf fb ops.toList 0) = true) ∧ mapK (freshK (news ops.toList)) t fun t => clearK (news ops.toList) t fun t => xq P tt N fb ops.toList (barOf fb ops.toList 0) ops.toList 0 [] t h (K .normal)
def xleaf (P : Program) (N : Nat) (c : Code) : XC := fun t h K => Leaf (VC P N c (envT t h) fun e env => ∃ t h, env = envT t h ∧ K e t h)
def xcode (P : Program) (tt : TT) (N : Nat) (fb : List Nat) (c : Code) : XC := @Code.rec (fun _ => XC)
  (fun t h K => K .normal t h)
  (fun _ ops draw => xregion P tt N fb ops draw)
  (fun _ _ a b => xseq a b)
  (fun c _ _ a b => xcond c a b)
  (fun id _ b => xblock id b)
  (fun b _ => xleaf P N (.loop b))
  (fun f ps a b _ _ => xleaf P N (.rangeFunc f ps a b))
  (fun id t h K => K (.exit id) t h)
  (fun b _ => xleaf P N (.scope b))
  (fun _ t h K => K .normal t h)
  (fun l t h K => K (.goto l) t h)
  (fun t h K => K .ret t h)
  (fun why => xleaf P N (.refuse why))
  c
section
variable {P : Program} {tt : TT} {N : Nat} {fb : List Nat} {o : Oper} {t : Tr} {h : Hp}
def freshF (ds : List Nat) : S → S
  | .ref u off => if ds.contains u then .junk else .ref u off
  | s => s
theorem freshK_spec {ds : List Nat} (s : S) (K : S → Prop) (h : freshK ds s K) : K (freshF ds s) := by
  cases s with
  | ref u off =>
    simp only [freshK, memN_spec] at h
    show K (if ds.contains u then .junk else .ref u off)
    split at h
    · rename_i hb; rw [if_pos hb]; exact h
    · rename_i hb; rw [if_neg (by rw [hb]; simp)]; exact h
  | c x => cases x <;> exact h
  | _ => exact h
theorem nameS_fresh {ds : List Nat} {u : Nat} (hd : ∀ d ∈ ds, d < BIG) (hu : ¬ u < NAM) (s : S) : fresh1 ds u (nameS s) = nameS s := by
  cases s <;> rfl
theorem xq1_sound (htt : TTok P tt) (hNB : N ≤ BIG) {all : List Oper} {rest : XL} {run : Bool} {kn : List Nat} {t : Tr} {h : Hp} {K : Tr → Hp → Prop} (hg : guardOk all.toArray o (envT t h) = some run) (hk : xq1 P tt N fb all o rest run kn t h K) :
    ∃ eff, DG P N fb all.toArray o (envT t h) eff ∧ ∃ t' h' kn', eff.app (envT t h) = envT t' h' ∧ rest kn' t' h' K := by
  unfold xq1 at hk
  split at hk
  · exact hk.elim
  · rename_i hdr
    cases run with
    | false =>
      simp only at hk
      split at hk
      · rename_i d hdst
        split at hk
        · exact hk.elim
        · rename_i hb
          obtain ⟨t2, h1, h2⟩ := setK_spec hk
          refine ⟨_, dg_skip hg hdr (fun u hu => by rw [hdst] at hu; injection hu with hu; exact hu ▸ blb_lt hb), _, _, _, ?_, h2⟩
          show upd _ o.dst _ = _
          rw [hdst, ← envT_set (nam (blb_lt hb)) h1]
      · rename_i hdst
        refine ⟨_, dg_skip hg hdr (fun u hu => by rw [hdst] at hu; cases hu), _, _, _, ?_, hk⟩
        show upd _ o.dst _ = _
        rw [hdst]; rfl
    | true =>
      simp only at hk
      split at hk
      · rename_i hdst
        split at hk
        · rename_i T x y hop
          split at hk
          · rename_i i hi
            have hsh := shI_ok (htt _ _ hi)
            have hk := ovK_spec (h := h) hk
            split at hk
            · rename_i q1 q2 q3 hy
              split at hk
              · rename_i ha hl
                have hl := Nat.eq_of_beq_eq_true hl
                have h2 := ovK_spec (h := h) hk
                split at h2
                · rename_i u off hx
                  split at h2
                  · rename_i cs hb hcs
                    have hu := blb_lt hb
                    obtain ⟨h3, h4⟩ := patchK_spec h2
                    obtain ⟨t2, h5, h6⟩ := setK_spec h4
                    have hsh' : tshape P T = some (false, 1) := by rw [hsh]; cases hq : shI i; rw [hq] at ha hl; simp at ha hl; rw [ha, hl]
                    refine ⟨_, dg_storeR hg hop hx (by rw [envT_lt (nam hu)]; exact hcs) hy hsh' h3 hdst hdr hu, _, _, _, ?_, h6⟩
                    show upd _ (some u) _ = _
                    rw [← envT_set (nam hu) h5]
                  · exact h2.elim
                · exact h2.elim
              · exact hk.elim
            obtain ⟨r, h1, h2⟩ := dK_spec (h := h) hk
            have h2 := cellsK_spec h2
            split at h2
            · rename_i hl
              have hl := Nat.eq_of_beq_eq_true hl
              have h2 := ovK_spec (h := h) h2
              split at h2
              · rename_i u off hx
                split at h2
                · rename_i cs hb hcs
                  have hu := blb_lt hb
                  obtain ⟨h3, h4⟩ := patchK_spec h2
                  obtain ⟨t2, h5, h6⟩ := setK_spec h4
                  refine ⟨_, dg_store hg hop hx (by rw [envT_lt (nam hu)]; exact hcs) h1 hsh hl h3 hdst hdr hu, _, _, _, ?_, h6⟩
                  show upd _ (some u) _ = _
                  rw [← envT_set (nam hu) h5]
                · rename_i cs hb hcs
                  have hu := blb_lt hb
                  obtain ⟨h3, h4⟩ := patchK_spec h2
                  obtain ⟨t2, h5, h6⟩ := setK_spec h4
                  refine ⟨_, dg_storeU hg hop hx (by rw [envT_lt (nam hu)]; exact hcs) h1 hsh hl h3 hdst hdr hu, _, _, _, ?_, h6⟩
                  show upd _ (some u) _ = _
                  rw [← envT_set (nam hu) h5]
                · exact h2.elim
              · exact h2.elim
            · exact h2.elim
          · exact hk.elim
        · exact hk.elim
      · rename_i d hdst
        split at hk
        · exact hk.elim
        · rename_i hdN
          have hd := blt_of hdN
          have hdB : d < BIG := Nat.lt_of_lt_of_le hd hNB
          split at hk
          · obtain ⟨s, h1, h2⟩ := hk
            obtain ⟨t2, h3, h4⟩ := setK_spec (sK_spec h2)
            refine ⟨_, h1, _, _, _, ?_, h4⟩
            show upd _ (some d) _ = _
            rw [← envT_set (nam hdB) h3]
          · split at hk
            · obtain ⟨eff, s, h', ⟨h1, h2⟩, h3⟩ := hk
              obtain ⟨t2, h4, h5⟩ := setK_spec (sK_spec h3)
              refine ⟨_, h1, _, _, _, ?_, h5⟩
              rw [h2, ← envT_set (nam hdB) h4]
            rename_i hw4
            split at hk
            · rename_i T x hop
              obtain ⟨r, h1, h2⟩ := dK_spec (h := h) hk
              obtain ⟨t2, h5, h6⟩ := setK_spec (cellsK_spec h2)
              refine ⟨_, dg_box hg hop h1 hdst hd hdB, _, _, _, ?_, h6⟩
              show upd _ (some d) _ = _
              rw [← envT_set (nam hdB) h5]
            · rename_i T hop
              split at hk
              · rename_i i hi
                split at hk
                · rename_i z hz
                  obtain ⟨t2, h5, h6⟩ := setK_spec hk
                  refine ⟨_, dg_alloc hg hop (zI_ok (htt _ _ hi) hz) hdst hd hdB, _, _, _, ?_, h6⟩
                  show upd _ (some d) _ = _
                  rw [← envT_set (nam hdB) h5]
                · exact hk.elim
              · exact hk.elim
            · split at hk
              · obtain ⟨s, h1, h2⟩ := yK_sound htt hdst hd hk
                split at h2
                · rename_i hn hr
                  obtain ⟨t2, h5, h6⟩ := setK_spec h2
                  have e0 : envT t (fun _ => S.junk) = noN (envT t h) := by
                    funext u
                    unfold noN envT
                    split <;> rfl
                  rw [e0] at h1
                  refine ⟨_, dg_free hg h1 hn hr hdr (fun u hu => by rw [hdst] at hu; injection hu with hu; exact hu ▸ hdB), _, _, _, ?_, h6⟩
                  show upd _ o.dst _ = _
                  rw [hdst, ← envT_set (nam hdB) h5]
                · exact h2.elim
              · rename_i hw6
                have hcl : clsOf fb o ≠ 0 := by
                  unfold clsOf
                  rw [hdst]
                  simp only
                  split
                  · decide
                  · rw [if_neg (by rw [← memN_spec]; intro e; exact absurd (hw6.symm.trans e) (by decide))]; decide
                obtain ⟨s, h1, h2⟩ := yK_sound htt hdst hd hk
                split at h2
                · rename_i hn hr
                  obtain ⟨t2, h5, h6⟩ := setK_spec h2
                  refine ⟨_, dg_yield hg h1.all hcl hn hr hdr (fun u hu => by rw [hdst] at hu; injection hu with hu; exact hu ▸ hdB), _, _, _, ?_, h6⟩
                  show upd _ o.dst _ = _
                  rw [hdst, ← envT_set (nam hdB) h5]
                · exact h2.elim
theorem barK_sound (htt : TTok P tt) (hNB : N ≤ BIG) {all : List Oper} {t : Tr} {h : Hp} {K : Tr → Hp → Prop} (hg : guardOk all.toArray o (envT t h) = some true) (hk : barK P tt N fb o t h K) : ∃ t' h', BStep P N all.toArray o (envT t h) (envT t' h') ∧ K t' h' := by
  have calm : ∀ {env env' : Env}, Step P N o env env' → CalmE env env' → guardOk all.toArray o env = some true → BStep P N all.toArray o env env' := fun h1 h2 h3 => ⟨.inl ⟨h3, h1⟩, fun t => (h2 t).1, fun t => (h2 t).2⟩
  have cname : ∀ (id : Nat) (s : S), NAM ≤ id → CalmE (envT t h) (upd (envT t h) (some id) (nameS s)) := fun id s _ => calm_upd _ _ _ (by cases s <;> rfl) (by intro _ _ e; cases s <;> cases e)
  unfold barK at hk
  split at hk
  · obtain ⟨id, s, ⟨hb, h1⟩, h2⟩ := hk
    refine ⟨t, _, ?_, h2⟩
    unfold hset
    rw [envT_name hb]
    exact calm h1 (cname id s hb) hg
  · rename_i d hdst
    split at hk
    · exact hk.elim
    · rename_i hdN
      have hd := blt_of hdN
      have hdB : d < BIG := Nat.lt_of_lt_of_le hd hNB
      split at hk
      · rename_i c hop
        split at hk
        · obtain ⟨t', h', ⟨h1, h2⟩, h3⟩ := hk
          exact ⟨t', h', calm h1 h2 hg, h3⟩
        split at hk
        · rename_i hcal
          obtain ⟨t2, h1, h2, h3⟩ := appK_sound (h := h) htt hNB hop hcal hdst hd hk
          exact ⟨t2, h, calm h1 h3 hg, h2⟩
        · obtain ⟨s, h', h1, h2⟩ := hk
          have h2 := sK_spec h2
          split at h2
          · rename_i hn hr
            obtain ⟨t', h3, h4⟩ := setK_spec h2
            refine ⟨t', h', ?_, h4⟩
            rw [envT_set (nam hdB) h3]
            refine calm h1 (fun u => ?_) hg
            by_cases e : u = d
            · subst e
              simp only [upd, if_true]
              exact ⟨(fun a b e => by rw [e] at hr; cases hr), fun _ => hn⟩
            · simp only [upd, if_neg e]
              by_cases hu : u < NAM
              · rw [envT_lt hu, envT_lt hu]; exact ⟨fun _ _ h => h, fun h => h⟩
              · simp only [envT, if_neg hu]
                exact ⟨(fun _ _ e => by cases hx : h' u <;> rw [hx] at e <;> cases e), (fun _ => by cases h' u <;> rfl)⟩
          · exact h2.elim
      · exact hk.elim
theorem xq_sound (htt : TTok P tt) (hNB : N ≤ BIG) {all : List Oper} {bar : List Nat} : ∀ {l : List Oper} {k : Nat} {kn : List Nat} {t : Tr} {h : Hp} {K : Tr → Hp → Prop}, xq P tt N fb all bar l k kn t h K → VB P N fb all.toArray bar (fun env => ∃ t h, env = envT t h ∧ K t h) k l (envT t h)
  | [], k, kn, t, h, K, hk => ⟨t, h, rfl, hk⟩
  | o :: rest, k, kn, t, h, K, hk => by
    change xqB P tt N fb all bar o (xq P tt N fb all bar rest) k kn t h K at hk
    unfold xqB at hk
    obtain ⟨run, kn', t', hg, he, hk⟩ := gK_sound (h := h) hk
    rw [← he]
    unfold VB
    split at hk
    · rename_i hm
      rw [if_pos (by rw [memN_spec] at hm; simpa using hm)]
      split at hk
      · obtain ⟨t2, h2, h3, h4⟩ := barK_sound htt hNB hg hk
        exact ⟨_, h3, xq_sound htt hNB h4⟩
      · exact hk.elim
    · rename_i hm
      rw [if_neg (by rw [memN_spec] at hm; simpa using hm)]
      obtain ⟨eff, h1, t2, h2, kn2, h3, h4⟩ := xq1_sound htt hNB hg hk
      exact ⟨eff, h1, by rw [h3]; exact xq_sound htt hNB h4⟩
theorem vb_mono {ops : Array Oper} {bar : List Nat} {K K' : Env → Prop} (hK : ∀ env, K env → K' env) : ∀ {l : List Oper} {k : Nat} {env : Env}, VB P N fb ops bar K k l env → VB P N fb ops bar K' k l env
  | [], k, env, h => hK env h
  | o :: l, k, env, h => by
    unfold VB at h ⊢
    split
    · rename_i hm
      rw [if_pos hm] at h
      obtain ⟨env', h1, h2⟩ := h
      exact ⟨env', h1, vb_mono hK h2⟩
    · rename_i hm
      rw [if_neg hm] at h
      obtain ⟨eff, h1, h2⟩ := h
      exact ⟨eff, h1, vb_mono hK h2⟩
theorem xdrawn_sound (htt : TTok P tt) (hNB : N ≤ BIG) {id : Nat} {l : List Oper} {K : Tr → Hp → Prop} {Q : Exit → Env → Prop} (hQ : ∀ t h, K t h → Q .normal (envT t h)) (hm : P.follows .mixedOrders = true) {bar : List Nat} (hB : drawnB fb l.toArray bar = true)
    (hk : mapK (freshK (news l)) t fun t => clearK (news l) t fun t => xq P tt N fb l bar l 0 [] t h K) : VC P N (.region id l.toArray true) (envT t h) Q := by
  obtain ⟨t1, h1, hk⟩ := mapK_spec (f := freshF (news l)) rfl freshK_spec hk
  obtain ⟨t2, h2, hds, hk⟩ := clearK_spec hk
  refine vc_weaken (env' := envT t2 h) (fun u => ?_) (vc_drawnB bar hm hB ?_)
  · by_cases hu : u < NAM
    · rw [envT_lt hu, envT_lt hu, h2, h1]
      by_cases hc : (news l).contains u = true
      · right; simp only [hc, if_true]
      · simp only [hc, Bool.false_eq_true, if_false]
        cases t.get u with
        | ref d off =>
          simp only [freshF]
          by_cases hd : (news l).contains d = true
          · right; simp only [hd, if_true]
          · left; simp only [hd, Bool.false_eq_true, if_false]
        | _ => left; rfl
    · left; simp only [envT, if_neg hu]
  · have e : freshen l (envT t2 h) = envT t2 h := by
      funext u
      unfold freshen
      by_cases hu : u < NAM
      · rw [envT_lt hu, h2, h1]
        by_cases hc : (news l).contains u = true
        · simp only [hc, if_true]; rfl
        · simp only [hc, Bool.false_eq_true, if_false]
          cases t.get u with
          | ref d off =>
            simp only [freshF]
            by_cases hd : (news l).contains d = true
            · simp only [hd, if_true]; rfl
            · simp only [hd, Bool.false_eq_true, if_false, fresh1]
          | box cs => simp only [freshF, fresh1, hc, Bool.false_eq_true, if_false]
          | ubox cs => simp only [freshF, fresh1, hc, Bool.false_eq_true, if_false]
          | _ => rfl
      · simp only [envT, if_neg hu]
        exact nameS_fresh hds hu _
    rw [e]
    have := xq_sound htt hNB hk
    refine vb_mono ?_ this
    rintro env ⟨t, h, rfl, hk⟩
    exact hQ t h hk
end
end Go.Vm
end
section
namespace Go.Vm
open Go.RowKit
def liftK (K : Exit → Tr → Hp → Prop) : Exit → Env → Prop := fun e env => ∃ t h, env = envT t h ∧ K e t h
section
variable {P : Program} {tt : TT} {N : Nat} {fb : List Nat} {t : Tr} {h : Hp} {K : Exit → Tr → Hp → Prop}
theorem xcode_sound (htt : TTok P tt) (hNB : N ≤ BIG) : ∀ {c : Code} {t : Tr} {h : Hp} {K : Exit → Tr → Hp → Prop}, xcode P tt N fb c t h K → VC P N c (envT t h) (liftK K) := by
  intro c
  induction c with
  | skip => intro t h K hk; exact vc_skip ⟨t, h, rfl, hk⟩
  | label l => intro t h K hk; exact vc_label ⟨t, h, rfl, hk⟩
  | ret => intro t h K hk; exact vc_ret ⟨t, h, rfl, hk⟩
  | exit id => intro t h K hk; exact vc_exit ⟨t, h, rfl, hk⟩
  | goto l => intro t h K hk; exact vc_goto ⟨t, h, rfl, hk⟩
  | region id ops draw =>
    intro t h K hk
    cases draw with
    | false =>
      obtain ⟨l⟩ := ops
      exact vc_region (xops_sound htt hNB hk)
    | true =>
      obtain ⟨l⟩ := ops
      obtain ⟨⟨h1, h2⟩, h3⟩ := hk
      exact xdrawn_sound htt hNB (fun t h hk => ⟨t, h, rfl, hk⟩) h1 h2 h3
  | seq a b iha ihb =>
    intro t h K hk
    refine vc_then (vc_mono (iha hk) ?_)
    rintro e env ⟨t', h', rfl, hk'⟩
    cases e with
    | normal => exact ihb hk'
    | _ => exact ⟨t', h', rfl, hk'⟩
  | cond c a b iha ihb =>
    intro t h K hk
    have hk := ovK_spec (h := h) hk
    split at hk
    · rename_i p hp
      have hv : vd (envT t h) c = some (.sc (.bool p)) := by unfold vd; rw [hp]; rfl
      cases c with
      | tmp u =>
        simp only at hk
        split at hk
        · exact hk.elim
        · rename_i hb
          have hlt := ble_lt hb
          have hs : (envT t h) u = .c (.d (.sc (.bool p))) := by
            have h2 : slotV u (envT t h u) = .c (.d (.sc (.bool p))) := hp
            cases hx : envT t h u with
            | c x => rw [hx] at h2; exact h2
            | _ => rw [hx] at h2; cases h2
          have key : ∀ t', (∀ v, t'.get v = if v = u then .c (.d (.sc (.bool p))) else t.get v) → envT t' h = envT t h := by
            intro t' h1
            rw [envT_set hlt h1]
            funext v
            simp only [upd]
            split
            · rename_i e; subst e; exact hs.symm
            · rfl
          refine vc_if hv (fun e => ?_) (fun e => ?_)
          · obtain ⟨t', h1, h2⟩ := setK_spec (hk.1 e)
            rw [← key t' (by rw [e]; exact h1)]
            exact iha h2
          · obtain ⟨t', h1, h2⟩ := setK_spec (hk.2 e)
            rw [← key t' (by rw [e]; exact h1)]
            exact ihb h2
      | _ => exact vc_if hv (fun e => iha (hk.1 e)) (fun e => ihb (hk.2 e))
    · exact hk.elim
  | block id b ih =>
    intro t h K hk
    refine vc_block (vc_mono (ih hk) ?_)
    rintro e env ⟨t', h', rfl, hk'⟩
    cases e with
    | exit i =>
      simp only at hk'
      show if i = id then _ else _
      split at hk'
      · rename_i hb; rw [if_pos (Nat.eq_of_beq_eq_true hb)]; exact ⟨t', h', rfl, hk'⟩
      · rename_i hb; rw [if_neg (fun e => by rw [e, Nat.beq_refl] at hb; cases hb)]; exact ⟨t', h', rfl, hk'⟩
    | _ => exact ⟨t', h', rfl, hk'⟩
  | _ => intro t h K hk; exact hk.out
def copyK : List Nat → Tr → Tr → (Tr → Prop) → Prop
  | [], _, t1, K => K t1
  | a :: L, t, t1, K => sK (t.get a) fun s => setK 20 t1 a s fun t1 => copyK L t t1 K
theorem copyK_spec : ∀ {L : List Nat} {t t1 : Tr} {K : Tr → Prop}, copyK L t t1 K → ∃ t', (∀ u, t'.get u = if L.contains u then t.get u else t1.get u) ∧ K t'
  | [], t, t1, K, h => ⟨t1, by simp, h⟩
  | a :: L, t, t1, K, h => by
    obtain ⟨t2, h1, h2⟩ := setK_spec (sK_spec h)
    obtain ⟨t3, h3, h4⟩ := copyK_spec h2
    refine ⟨t3, fun u => ?_, h4⟩
    rw [h3, h1, List.contains_cons]
    by_cases e : u = a
    · subst e; simp
    · have : (u == a) = false := by simpa using e
      simp [this, e]
def setsK : List (Nat × S) → Tr → (Tr → Prop) → Prop
  | [], t, K => K t
  | (a, s) :: F, t, K => setK 20 t a s fun t => setsK F t K
theorem setsK_spec : ∀ {F : List (Nat × S)} {t : Tr} {K : Tr → Prop}, setsK F t K → ∃ t', (∀ u, (∃ s, (u, s) ∈ F ∧ t'.get u = s) ∨ ((∀ s, (u, s) ∉ F) ∧ t'.get u = t.get u)) ∧ K t'
  | [], t, K, h => ⟨t, fun u => .inr ⟨by simp, rfl⟩, h⟩
  | (a, s) :: F, t, K, h => by
    obtain ⟨t1, h1, h2⟩ := setK_spec h
    obtain ⟨t2, h3, h4⟩ := setsK_spec h2
    refine ⟨t2, fun u => ?_, h4⟩
    rcases h3 u with ⟨s', k1, k2⟩ | ⟨k1, k2⟩
    · exact .inl ⟨s', List.mem_cons_of_mem _ k1, k2⟩
    · rw [h1] at k2
      by_cases e : u = a
      · subst e
        exact .inl ⟨s, List.mem_cons_self .., by simpa using k2⟩
      · refine .inr ⟨fun s' hm => ?_, by simpa [e] using k2⟩
        rcases List.mem_cons.1 hm with h | h
        · injection h with h; exact e h
        · exact k1 s' h
def startK (L : List Nat) (F : List (Nat × S)) (t : Tr) (K : Tr → Prop) : Prop := copyK L t .leaf fun t1 => setsK F t1 K
def ent (t : Tr) : List (Nat × S) → Prop
  | [] => True
  | (a, s) :: F => t.get a = s ∧ ent t F
theorem ent_mem {t : Tr} : ∀ {F : List (Nat × S)}, ent t F → ∀ a s, (a, s) ∈ F → t.get a = s
  | [], _, a, s, h => by cases h
  | (a', s') :: F, ⟨h1, h2⟩, a, s, h => by
    rcases List.mem_cons.1 h with h | h
    · injection h with e1 e2; subst e1 e2; exact h1
    · exact ent_mem h2 a s h
theorem mapf_at {α β : Type} {f g : α → β} : ∀ {L : List α}, L.map f = L.map g → ∀ a ∈ L, f a = g a
  | [], _, a, h => by cases h
  | b :: L, h, a, ha => by
    simp only [List.map_cons, List.cons.injEq] at h
    rcases List.mem_cons.1 ha with rfl | ha
    · exact h.1
    · exact mapf_at h.2 a ha
theorem start_sub {L : List Nat} {F : List (Nat × S)} {t0 t : Tr} {h : Hp} {K : Tr → Prop} (hs : startK L F t0 K) (hL : L.map t.get = L.map t0.get) (hF : ent t F) : ∃ t1, (∀ u, envT t1 h u = envT t h u ∨ envT t1 h u = .junk) ∧ K t1 := by
  obtain ⟨t1, h1, h2⟩ := copyK_spec hs
  obtain ⟨t2, h3, h4⟩ := setsK_spec h2
  refine ⟨t2, fun u => ?_, h4⟩
  by_cases hu : u < NAM
  · rw [envT_lt hu, envT_lt hu]
    rcases h3 u with ⟨s, k1, k2⟩ | ⟨k1, k2⟩
    · left; rw [k2, ent_mem hF u s k1]
    · rw [k2, h1]
      by_cases hc : L.contains u = true
      · left; rw [if_pos hc]; exact (mapf_at hL u (by simpa using hc)).symm
      · right; rw [if_neg hc]; rfl
  · left; simp only [envT, if_neg hu]
def rndK {σ : Type} (L : List Nat) (F : σ → List (Nat × S)) (G : σ → Hp) (I : σ → Prop) (μ : σ → Nat) (t0 : Tr) (m : Nat) (K : Exit → Tr → Hp → Prop) : Exit → Tr → Hp → Prop
  | .normal, t, h => ∃ s, I s ∧ μ s < m ∧ L.map t.get = L.map t0.get ∧ ent t (F s) ∧ G s = h
  | e, t, h => K e t h
theorem xloop (htt : TTok P tt) (hNB : N ≤ BIG) {body : Code} (L : List Nat) {σ : Type} (F : σ → List (Nat × S)) (G : σ → Hp) (I : σ → Prop) (μ : σ → Nat) (s0 : σ) (h0 : I s0) (hF : ent t (F s0)) (hG : G s0 = h)
    (round : ∀ s, I s → startK L (F s) t fun t1 => xcode P tt N fb body t1 (G s) (rndK L F G I μ t (μ s) K)) : Leaf (VC P N (.loop body) (envT t h) fun e env => ∃ t h, env = envT t h ∧ K e t h) := by
  refine ⟨vc_loop (fun n env => ∃ s t', I s ∧ n = μ s ∧ L.map t'.get = L.map t.get ∧ ent t' (F s) ∧ env = envT t' (G s)) (n := μ s0) ⟨s0, t, h0, rfl, rfl, hF, by rw [hG]⟩ ?_⟩
  rintro n env ⟨s, t', h1, rfl, h2, h3, rfl⟩
  obtain ⟨t1, h4, h5⟩ := start_sub (h := G s) (round s h1) h2 h3
  refine vc_weaken h4 (vc_mono (xcode_sound htt hNB h5) ?_)
  rintro e env ⟨t2, h2, rfl, hk⟩
  cases e with
  | normal =>
    obtain ⟨s', k1, k2, k3, k4, k5⟩ := hk
    exact ⟨_, k2, s', t2, k1, rfl, k3, k4, by rw [k5]⟩
  | _ => exact ⟨t2, h2, rfl, hk⟩
theorem xloopR (htt : TTok P tt) (hNB : N ≤ BIG) {body : Code} (L : List Nat) {σ : Type} (F : σ → List (Nat × S)) (I : σ → Prop) (μ : σ → Nat) (s0 : σ) (h0 : I s0) (hF : ent t (F s0))
    (round : ∀ s, I s → startK L (F s) t fun t1 => xcode P tt N fb body t1 h (rndK L F (fun _ => h) I μ t (μ s) K)) : Leaf (VC P N (.loop body) (envT t h) fun e env => ∃ t h, env = envT t h ∧ K e t h) :=
  xloop htt hNB L F (fun _ => h) I μ s0 h0 hF rfl round
end
end Go.Vm
end
section
namespace Go.Vm
open Go.RowKit
section
variable {P : Program} {tt : TT} {N : Nat} {fb stop : List Nat} {t : Tr} {h : Hp} {K : Exit → Tr → Hp → Prop}
def argsT : Nat → List D → Tr → (Tr → Prop) → Prop
  | _, [], t, K => K t
  | k, d :: l, t, K => setK 20 t k (.c (.d d)) fun t => argsT (Nat.succ k) l t K
theorem argsT_spec : ∀ {l : List D} {k : Nat} {t : Tr} {K : Tr → Prop}, argsT k l t K → ∃ t', (∀ u, t'.get u = if u < k then t.get u else match l[u - k]? with | some d => .c (.d d) | none => t.get u) ∧ K t'
  | [], k, t, K, h => ⟨t, by simp, h⟩
  | d :: l, k, t, K, h => by
    obtain ⟨t1, h1, h2⟩ := setK_spec h
    obtain ⟨t2, h3, h4⟩ := argsT_spec h2
    refine ⟨t2, fun u => ?_, h4⟩
    rw [h3, h1]
    rcases Nat.lt_trichotomy u k with e | e | e
    · rw [if_pos (show u < Nat.succ k by omega), if_neg (by omega), if_pos e]
    · subst e; rw [if_pos (show u < Nat.succ u by omega), if_pos rfl, if_neg (by omega), Nat.sub_self]; rfl
    · rw [if_neg (show ¬ u < Nat.succ k by omega), if_neg (show ¬ u = k by omega), if_neg (show ¬ u < k by omega), show u - k = (u - Nat.succ k) + 1 by omega, List.getElem?_cons_succ]
def resvK (tt : TT) (t : Tr) : List ResultVar → (List C → Prop) → Prop
  | [], K => K []
  | .tmp u :: l, K => match Nat.ble 1000000 u, t.get u with
    | false, .c (.d x) => resvK tt t l fun cs => K (.d x :: cs)
    | false, .c (.own τ e xs) => resvK tt t l fun cs => K (.own τ e xs :: cs)
    | false, .c .nil => resvK tt t l fun cs => K (.nil :: cs)
    | _, _ => False
  | .cell u T :: l, K => match Nat.ble 1000000 u, t.get u, tt.get T with
    | false, .box cs, some i => partK (shI i) cs 0 fun d => resvK tt t l fun cs => K (.d d :: cs)
    | _, _, _ => False
theorem resvK_spec (htt : TTok P tt) : ∀ {l : List ResultVar} {K : List C → Prop}, resvK tt t l K → ∃ cs, vres P (envT t h) l = some cs ∧ K cs
  | [], K, hk => ⟨[], rfl, hk⟩
  | .tmp u :: l, K, hk => by
    simp only [resvK] at hk
    split at hk
    all_goals first | exact hk.elim | skip
    all_goals
      rename_i hb hs
      obtain ⟨cs, h1, h2⟩ := resvK_spec htt hk
      refine ⟨_ :: cs, ?_, h2⟩
      simp only [vres, vres1, envT_lt (ble_lt hb), hs, h1]
  | .cell u T :: l, K, hk => by
    simp only [resvK] at hk
    split at hk
    · rename_i cs i hb hs hi
      obtain ⟨d, h1, h2⟩ := partK_spec hk
      obtain ⟨cs', h3, h4⟩ := resvK_spec htt h2
      exact ⟨_, by simp only [vres, vres1, envT_lt (ble_lt hb), hs, shI_ok (htt _ _ hi), h1, h3, Option.map_some], h4⟩
    · exact hk.elim
def postL (h : Hp) : List (Nat × S) → Prop
  | [] => True
  | (n, s) :: l => (NAM ≤ n ∧ h n = s) ∧ postL h l
theorem postL_spec {post : List (Nat × S)} (h1 : postL h post) (h2 : ∀ p ∈ post, thing p.2 = true) : ∀ p ∈ post, envT t h p.1 = p.2 := by
  induction post with
  | nil => intro p hp; cases hp
  | cons q l ih =>
    obtain ⟨n, s⟩ := q
    intro p hp
    rcases List.mem_cons.1 hp with rfl | hp
    · have ht := h2 (n, s) (List.mem_cons_self ..)
      simp only [envT_at h1.1.1, h1.1.2]
      cases s <;> first | rfl | cases ht
    · exact ih h1.2 (fun q hq => h2 q (List.mem_cons_of_mem _ hq)) p hp
def finK (P : Program) (tt : TT) (rs : List ResultVar) (res : List C) (post : List (Nat × S)) : Exit → Tr → Hp → Prop
  | .normal, t, h => resvK tt t rs fun cs => Leaf (fitsL P cs res ∧ postL h post)
  | .ret, t, h => resvK tt t rs fun cs => Leaf (fitsL P cs res ∧ postL h post)
  | _, _, _ => False
def hOf : List (Nat × S) → Hp
  | [] => fun _ => .junk
  | (n, s) :: l => hset (hOf l) n s
theorem hOf_find : ∀ (l : List (Nat × S)) (u : Nat), hOf l u = match l.find? fun p => p.1 == u with | some p => p.2 | none => .junk
  | [], u => rfl
  | (n, s) :: l, u => by
    simp only [hOf, hset, List.find?_cons]
    by_cases e : u = n
    · subst e; simp
    · have : (n == u) = false := by simpa using fun h => e h.symm
      simp only [if_neg e, this]; exact hOf_find l u
theorem xfnH (htt : TTok P tt) {f : FuncId} {fn : Func} {c : Code} {args : List D} {res : List C} {pre post : List (Nat × S)} {rs : List ResultVar} (fb : List Nat) (hf : P.funcs[f]? = some fn) (hb : fn.body = some c) (hN : fn.ntmps = N) (hrs : fn.results.toList = rs) (hargs : args.length ≤ N) (hNB : N ≤ BIG)
    (hbig : ∀ p ∈ pre, NAM ≤ p.1) (hp : ∀ p ∈ pre, thing p.2 = true) (hq : ∀ p ∈ post, thing p.2 = true) (hk : argsT 0 args .leaf fun t => xcode P tt N fb c t (hOf pre) (finK P tt rs res post)) : ContractH P f args pre res post := by
  subst hrs
  refine contractH_of hf hb hN hargs hp hq ?_
  obtain ⟨t, h1, h2⟩ := argsT_spec hk
  have e : envH args pre = envT t (hOf pre) := by
    funext u
    unfold envH
    by_cases hu : u < NAM
    · rw [envT_lt hu, h1]
      simp only [Nat.not_lt_zero, if_false, Nat.sub_zero]
      cases args[u]? with
      | some d => rfl
      | none =>
        have : (pre.find? fun p => p.1 == u) = none := by
          rw [List.find?_eq_none]
          intro p hm
          have := hbig p hm
          simp only [beq_iff_eq]; omega
        simp only [this]; rfl
    · have hge : NAM ≤ u := by omega
      have hbn : BIG ≤ NAM := by decide
      rw [envT_at hge, hOf_find, List.getElem?_eq_none (by omega)]
      cases hfd : pre.find? fun p => p.1 == u with
      | none => rfl
      | some p =>
        have := hp p (List.mem_of_find?_eq_some hfd)
        simp only
        cases hs : p.2 <;> rw [hs] at this <;> first | rfl | cases this
  rw [e]
  refine vc_mono (xcode_sound htt hNB h2) ?_
  rintro e env ⟨t', h', rfl, hk⟩
  have key : (resvK tt t' fn.results.toList fun cs => Leaf (fitsL P cs res ∧ postL h' post)) → (∃ cs, vres P (envT t' h') fn.results.toList = some cs ∧ fitsL P cs res) ∧ ∀ p ∈ post, envT t' h' p.1 = p.2 := by
    intro hk
    obtain ⟨cs, h1, ⟨h2, h3⟩⟩ := resvK_spec (h := h') htt hk
    exact ⟨⟨cs, h1, h2⟩, postL_spec h3 hq⟩
  cases e with
  | normal => exact ⟨.inl rfl, key hk⟩
  | ret => exact ⟨.inr rfl, key hk⟩
  | _ => exact hk.elim
theorem xfn (htt : TTok P tt) {f : FuncId} {fn : Func} {c : Code} {args : List D} {res : List C} {rs : List ResultVar} (fb : List Nat) (hf : P.funcs[f]? = some fn) (hb : fn.body = some c) (hN : fn.ntmps = N) (hrs : fn.results.toList = rs) (hargs : args.length ≤ N) (hNB : N ≤ BIG)
    (hk : argsT 0 args .leaf fun t => xcode P tt N fb c t (fun _ => .junk) (finK P tt rs res [])) : Contract P f args res := by
  have hc := xfnH (pre := []) (post := []) htt fb hf hb hN hrs hargs hNB (by simp) (by simp) (by simp) hk
  intro ro w vs τ h1 h2 h3 h4
  refine (hc ro w vs τ h1 h2 h3 h4 (by simp)).mono ?_
  rintro e w' ⟨v, ro', rfl, hg, hs, _⟩
  exact ⟨v, ro', rfl, hg.plain, hs⟩
end
end Go.Vm
end
section
namespace Go.Vm
open Go.RowKit
section
variable {P : Program} {T : TypeId} {x y : Operand}
theorem x_bin {op : BinOp} {u v r : Value} {K : Value → Prop} (h : pureRun P (do eqGuard op T x y u v; binOp op T u v : Sem Value) = some r) (hp : plainV r = true) (hK : K r) : ∃ r, pureRun P (do eqGuard op T x y u v; binOp op T u v : Sem Value) = some r ∧ plainV r = true ∧ K r := ⟨r, h, hp, hK⟩
theorem x_add {k : IntKind} {a b c : Int} {K : Value → Prop} (hK : K (.int k c)) (h : k.wrap (a + b) = c := by first | exact IntWalk.i64_in _ (by first | omega | (simp only [List.length_map, List.length_append, List.length_nil, List.length_cons, List.length_take, List.length_drop]; omega)) | rfl) : ∃ r, pureRun P (do eqGuard .add T x y (.int k a) (.int k b); binOp .add T (.int k a) (.int k b) : Sem Value) = some r ∧ plainV r = true ∧ K r := ⟨_, pr_add h, rfl, hK⟩
theorem x_inc {n : Nat} {K : Value → Prop} (hK : K (.int .i64 ((n + 1 : Nat) : Int))) (h : n + 1 ≤ 9223372036854775807 := by first | omega | (simp only [List.length_map, List.length_append, List.length_nil, List.length_cons, List.length_take, List.length_drop]; omega)) : ∃ r, pureRun P (do eqGuard .add T x y (.int .i64 (n : Int)) (.int .i64 1); binOp .add T (.int .i64 (n : Int)) (.int .i64 1) : Sem Value) = some r ∧ plainV r = true ∧ K r := ⟨_, pr_add (IntWalk.i64_in _ (by omega)), rfl, hK⟩
end
theorem x_ix {xs : List D} {j : Nat} {y : D} {i : Int} {K : Nat → D → Prop} (hy : xs[j]? = some y) (hK : K j y) (hi : i = (j : Int) := by rfl) : ∃ (j : Nat) (y : D), i = (j : Int) ∧ xs[j]? = some y ∧ K j y := ⟨j, y, hi, hy, hK⟩
theorem x_ixI {xs : List D} {y : D} {i : Int} {K : Nat → D → Prop} (hy : xs[i.toNat]? = some y) (hK : K i.toNat y) (h0 : 0 ≤ i := by omega) : ∃ (j : Nat) (y : D), i = (j : Int) ∧ xs[j]? = some y ∧ K j y := ⟨i.toNat, y, (Int.toNat_of_nonneg h0).symm, hy, hK⟩
theorem x_len {α : Type} {a n : α} {K : α → Prop} (hK : K n) (h : a = n := by first | exact List.length_map .. | rfl) : ∃ n, a = n ∧ K n := ⟨n, h, hK⟩
theorem x_call {P : Program} {f : FuncId} {ds : List D} {res : List C} {K : List C → Prop} (he : enters P f = true) (hc : Contract P f ds res) (hK : K res) : ∃ res, (enters P f = true ∧ Contract P f ds res) ∧ K res := ⟨res, ⟨he, hc⟩, hK⟩
theorem Sim.nil_own {P : Program} {N base : Nat} {w0 : World} {ro0 : Start} {env : Env} {a : Act} {w : World} (h : Sim P N base w0 ro0 env a w) {u : Nat} {τ e : Nat} (hu : env u = .c .nil) (he : 0 < P.cellsOf e) : Sim P N base w0 ro0 (upd env (some u) (.c (.own τ e []))) a w := by
  obtain ⟨ro, blk, h⟩ := h
  refine ⟨ro, blk, h.below, h.room, h.nodef, h.size, h.old, h.new, h.uniq, h.given, fun t ht => ?_, fun t => ?_⟩
  · by_cases et : t = u
    · subst et; simp [upd] at ht
    · simp only [upd, if_neg et] at ht; exact h.left t ht
  · have hs := h.sat t
    by_cases et : t = u
    · subst et
      rw [hu] at hs
      simp only [upd, if_true]
      have hv : a.tmps.getD t undef = .slice none 0 0 := hs
      exact ⟨P.cellsOf e, [], he, rfl, by rw [hv]; exact World.ownsRow_nil w base e _, by simp, by simpa [flat] using Reps.nil, fun g hg => by rw [hv] at hg; simp [Value.ownBlock] at hg⟩
    · simp only [upd, if_neg et]; exact hs
theorem x_rnd {σ : Type} {L : List Nat} {F : σ → List (Nat × S)} {G : σ → Hp} {I : σ → Prop} {μ : σ → Nat} {t0 t : Tr} {h : Hp} {m : Nat} (s : σ) (hI : I s) (hm : μ s < m) (hL : L.map t.get = L.map t0.get) (hE : ent t (F s)) (hG : G s = h) : ∃ s, I s ∧ μ s < m ∧ L.map t.get = L.map t0.get ∧ ent t (F s) ∧ G s = h := ⟨s, hI, hm, hL, hE, hG⟩
theorem x_ent {t : Tr} {a : Nat} {s : S} {F : List (Nat × S)} (h : t.get a = s) (h' : ent t F) : ent t ((a, s) :: F) := ⟨h, h'⟩
theorem x_ret {P : Program} {cs res : List C} {h : Hp} (hf : fitsL P cs res) : Leaf (fitsL P cs res ∧ postL h []) := ⟨hf, trivial⟩
class BP (b : Bool) (p q : outParam Prop) : Prop where
  yes : b = true → p
  no : b = false → q
instance bp_dec (p : Prop) [d : Decidable p] : BP (@decide p d) p (¬ p) := ⟨of_decide_eq_true, of_decide_eq_false⟩
instance bp_not (b : Bool) (p q : Prop) [h : BP b p q] : BP (!b) q p := ⟨fun e => h.no (by cases b <;> simp_all), fun e => h.yes (by cases b <;> simp_all)⟩
instance (priority := low) bp_any (b : Bool) : BP b (b = true) (b = false) := ⟨id, id⟩
theorem br {b : Bool} {p q A B : Prop} [h : BP b p q] (hA : p → A) (hB : q → B) : (b = true → A) ∧ (b = false → B) := ⟨fun e => hA (h.yes e), fun e => hB (h.no e)⟩
theorem brT {A B : Prop} (hA : A) : (true = true → A) ∧ (true = false → B) := ⟨fun _ => hA, fun h => nomatch h⟩
end Go.Vm
end
section
namespace Go.Vm
open Go.RowKit
def allFrozen : Roles := fun _ => .frozen
theorem okFrozen (b off : Nat) : okAt allFrozen b off := trivial
section
variable {P : Program} {w : World}
def Cells (P : Program) (w : World) (t : TypeId) {α : Type} (enc : α → D) (ok : α → Prop) : Prop := ∀ es, Reads P w t es → ∃ x : α, Reps allFrozen w es (enc x).cells ∧ ok x
theorem cells_at : ∀ {ess : List (List Value)} {b off sz : Nat}, (∀ (i : Nat) (es : List Value), ess[i]? = some es → es.length = sz ∧ ∀ (j : Nat) (u : Value), es[j]? = some u → w.cell? ⟨b, off + i * sz + j, none⟩ = some u) →
    ess.flatten.length = ess.length * sz ∧ ∀ (j : Nat) (u : Value), ess.flatten[j]? = some u → w.cell? ⟨b, off + j, none⟩ = some u
  | [], b, off, sz, _ => ⟨by simp, by simp⟩
  | es :: ess, b, off, sz, h => by
    obtain ⟨h0, h1⟩ := h 0 es rfl
    obtain ⟨k0, k1⟩ := cells_at (ess := ess) (b := b) (off := off + sz) (sz := sz) (fun i es' hes => by
      obtain ⟨g0, g1⟩ := h (i + 1) es' (by simpa using hes)
      refine ⟨g0, fun j u hu => ?_⟩
      have := g1 j u hu
      rw [Nat.add_mul, Nat.one_mul] at this
      rw [show off + sz + i * sz + j = off + (i * sz + sz) + j by omega]; exact this)
    refine ⟨by rw [List.flatten_cons, List.length_append, k0, h0, List.length_cons, Nat.add_mul, Nat.one_mul, Nat.add_comm], fun j u hu => ?_⟩
    rw [List.flatten_cons] at hu
    by_cases hj : j < es.length
    · rw [List.getElem?_append_left hj] at hu
      have := h1 j u hu
      simpa using this
    · rw [List.getElem?_append_right (by omega)] at hu
      have := k1 (j - es.length) u hu
      rw [h0] at this
      rw [show off + j = off + sz + (j - sz) by omega]; exact this
theorem reps_flat {α : Type} {enc : α → D} : ∀ {ps : List (List Value × α)}, (∀ p ∈ ps, Reps allFrozen w p.1 (enc p.2).cells) → Reps allFrozen w (ps.map (·.1)).flatten (flat ((ps.map (·.2)).map enc))
  | [], _ => by simpa [flat] using Reps.nil
  | p :: ps, h => by
    have h1 := h p (List.mem_cons_self ..)
    have h2 := reps_flat (ps := ps) fun q hq => h q (List.mem_cons_of_mem _ hq)
    simp only [List.map_cons, List.flatten_cons, flat, List.flatMap_cons] at h2 ⊢
    exact h1.append h2
theorem row_of {t e : TypeId} {sz : Nat} {α : Type} {enc : α → D} {ok : α → Prop} (ht : P.underlying t = some (.slice e)) (hsz : P.cellsOf e = sz) (h0 : 0 < sz) (hw : ∀ x, (enc x).cells.length = sz) (hel : Cells P w e enc ok) {a : Option Addr} {l c : Nat} (h : Reads P w t [.slice a l c]) :
    ∃ xs : List α, Rep allFrozen w (.slice a l c) (.row (xs.map enc)) ∧ ∀ x ∈ xs, ok x := by
  rcases h.slice ht with h | ⟨ad, len, cap, h, h1, h2, h3⟩
  · injection h with h; injection h with h4 h5 h6
    subst h4 h5 h6
    exact ⟨[], .nil (by simp [maxLen]), by simp⟩
  · injection h with h; injection h with h4 h5 h6
    subst h4 h5 h6
    rw [hsz] at h3
    obtain ⟨ps, hl, hp⟩ := choose_list (Q := fun i (p : List Value × α) => p.1.length = sz ∧ (∀ j (hj : j < p.1.length), w.cell? ((ad.add (i * sz)).add j) = some p.1[j]) ∧ Reps allFrozen w p.1 (enc p.2).cells ∧ ok p.2) l (fun i hi => by
      obtain ⟨es, q1, q2, q3⟩ := h3 i hi
      obtain ⟨x, hx, hok⟩ := hel es q3
      exact ⟨(es, x), q1, q2, hx, hok⟩)
    by_cases hz : l = 0
    · subst hz
      obtain rfl : ps = [] := List.length_eq_zero_iff.1 hl
      exact ⟨[], .nil h2, by simp⟩
    · have hlt : 0 < ps.length := by omega
      have had : ad = ⟨ad.block, ad.off, none⟩ := by
        obtain ⟨q1, q2, _⟩ := hp 0 hlt
        have := q2 0 (by omega)
        have e0 : (ad.add (0 * sz)).add 0 = ad := by simp [Addr.add]
        rw [e0] at this
        exact addr_of_cell this
      have hcells := cells_at (w := w) (ess := ps.map (·.1)) (b := ad.block) (off := ad.off) (sz := sz) (fun i es hes => by
        rw [List.getElem?_map] at hes
        cases hpi : ps[i]? with
        | none => rw [hpi] at hes; cases hes
        | some p =>
          rw [hpi] at hes
          simp only [Option.map_some, Option.some.injEq] at hes
          subst hes
          obtain ⟨hi, rfl⟩ := List.getElem?_eq_some_iff.1 hpi
          obtain ⟨q1, q2, _⟩ := hp i hi
          refine ⟨q1, fun j u hu => ?_⟩
          obtain ⟨hj, rfl⟩ := List.getElem?_eq_some_iff.1 hu
          have := q2 j hj
          rw [had, add_spot, add_spot] at this
          exact this)
      have hmem : ∀ p ∈ ps, Reps allFrozen w p.1 (enc p.2).cells ∧ ok p.2 := by
        intro p hpm
        obtain ⟨i, hi, rfl⟩ := List.getElem_of_mem hpm
        exact (hp i hi).2.2
      have hr := reps_flat (enc := enc) (fun p hpm => (hmem p hpm).1)
      refine ⟨ps.map (·.2), ?_, fun x hx => ?_⟩
      · have hlen : ((ps.map (·.2)).map enc).length = l := by simp [hl]
        rw [had]
        have := Rep.row (ro := allFrozen) (w := w) (b := ad.block) (off := ad.off) (cap := c) (sz := sz) (xs := (ps.map (·.2)).map enc) (ps.map (·.1)).flatten h0 (by rw [hlen]; exact h1) h2 (by rw [hcells.1, hlen]; simp [hl]) (fun x hx => by obtain ⟨y, _, rfl⟩ := List.mem_map.1 hx; exact hw y) hr.2.1 (fun j u hu => ⟨hcells.2 j u hu, okFrozen _ _⟩) hr.2.2
        rw [hlen] at this
        exact this
      · obtain ⟨p, hpm, rfl⟩ := List.mem_map.1 hx
        exact (hmem p hpm).2
end
end Go.Vm
end
section
namespace Go.Rn
open Go.RowKit
open Go.Vm (enters Contract Rep D Roles allFrozen Evo Grow Reps)
set_option linter.unusedSectionVars false
def okV (v : V) : Bool := match v with
  | .sc x => x.oneCell'
  | .agg cs => cs.all V.one && (match scL cs with
    | some vs => vs.all (·.oneCell')
    | none => false)
  | _ => false
theorem scL_all {π : Pi} : ∀ {cs : List V} {vs : List Value}, scL cs = some vs → vs.all (·.oneCell') = true → concL π cs = some vs
  | [], vs, h, _ => by rw [scL] at h; injection h with h; subst h; rw [concL]
  | .sc v :: l, vs, h, ha => by
    rw [scL] at h
    obtain ⟨vs', h1, rfl⟩ := Option.map_eq_some_iff.1 h
    rw [List.all_cons, Bool.and_eq_true] at ha
    rw [concL, conc, if_pos ha.1, scL_all h1 ha.2]
  | .agg _ :: _, _, h, _ => by simp [scL] at h
  | .tup _ :: _, _, h, _ => by simp [scL] at h
  | .ptr _ _ :: _, _, h, _ => by simp [scL] at h
  | .sl _ _ _ _ _ :: _, _, h, _ => by simp [scL] at h
  | .mp _ :: _, _, h, _ => by simp [scL] at h
  | .it _ :: _, _, h, _ => by simp [scL] at h
  | .fn _ _ :: _, _, h, _ => by simp [scL] at h
  | .opq _ :: _, _, h, _ => by simp [scL] at h
theorem okV_conc {v : V} {u : Value} (h : toV v = some u) (ho : okV v = true) (π : Pi) : conc π v = some u := by
  cases v with
  | sc x => rw [toV] at h; injection h with h; subst h; rw [conc]; exact if_pos ho
  | agg cs =>
    rw [toV] at h
    obtain ⟨vs, h1, rfl⟩ := Option.map_eq_some_iff.1 h
    simp only [okV, h1, Bool.and_eq_true] at ho
    rw [conc, if_pos ho.1, scL_all h1 ho.2]; rfl
  | _ => simp [toV] at h
@[reducible] def lawCx (W : World) (OP : Nat → Value) : Cx := ⟨fun base w0 op => base = W.heap.size ∧ w0 = W ∧ op = OP⟩
theorem mem_law (W : World) (OP : Nat → Value) : @Mem (lawCx W OP) W.heap.size W (noPi OP) (fun _ => none) 0 W := by
  letI := lawCx W OP
  exact ⟨(fun id b h => by cases h), (fun id id' b b' p p' h => by cases h), fun _ _ => rfl, (fun id p h => by cases h), Below.refl _ _, Nat.le_refl _, rfl, rfl, rfl⟩
theorem noPi_le {OP : Nat → Value} {π : Pi} (h : π.op = OP) : (noPi OP).le π := ⟨(fun _ _ h => by cases h), h⟩
theorem frozen_evo {W w : World} (h : Below W.heap.size W w) : Evo allFrozen allFrozen W w := by
  refine ⟨fun b off u hok hc => ⟨?_, hok⟩, fun b i k _ hr => by cases hr⟩
  rcases Nat.lt_or_ge b W.heap.size with hlt | hge
  · rw [World.cell?_of_block (w := W) (h.block b hlt)]; exact hc
  · rw [World.cell?, Array.getElem?_eq_none hge] at hc
    cases hc
theorem orc_pure {P : Program} {W : World} {OP : Nat → Value} {f : FuncId} {ds : List D} {vs : List V} {us : List Value} {v : Value} (hv : v.oneCell' = true) (hc : Contract P f ds [.d (.sc v)]) (hus : concL (noPi OP) vs = some us) (hl : us.length = ds.length) (hrep : ∀ (i : Nat) (u : Value) (d : D), us[i]? = some u → ds[i]? = some d → Rep allFrozen W u d) (h : Hp) (n : Nat) : @RCall (lawCx W OP) P f vs h n (.sc v) h n := by
  letI := lawCx W OP
  intro base w0 π w us' hm hus'
  obtain ⟨c1, c2, c3⟩ := hm.ctx
  subst c1 c2
  rw [concL_le (noPi_le c3) hus] at hus'
  injection hus' with hus'
  subst hus'
  have hev := frozen_evo hm.below
  refine (hc allFrozen w us.toArray 0 (fun _ _ => rfl) (fun b b' id k k' h => by cases h) (by simpa using hl) (fun i u d h1 h2 => (hrep i u d (by simpa using h1) h2).evolve hev)).mono ?_
  rintro e w' ⟨x, ro', rfl, hg, hs⟩
  obtain ⟨rfl, _⟩ := Go.Vm.rep_sc (show Rep ro' w' x (.sc v) from hs)
  exact ⟨π, _, rfl, π.le_refl, hm.keep hg.below, by rw [conc, if_pos hv]⟩
theorem law_run {P : Program} {W : World} {OP : Nat → Value} {f : FuncId} {args : List V} {us : List Value} {h' : Hp} {n' : Nat} (hr : @RCall (lawCx W OP) P f args (fun _ => none) 0 (.sc (.bool true)) h' n') (hargs : concL (noPi OP) args = some us) : Calls P f us.toArray W fun e w' => e = .returned (.bool true) ∧ Below W.heap.size W w' := by
  letI := lawCx W OP
  refine (hr W.heap.size W (noPi OP) W us (mem_law W OP) hargs).mono ?_
  rintro e w' ⟨π', u, rfl, hle, hm, hv⟩
  rw [conc] at hv
  have hv : some (Value.bool true) = some u := hv
  injection hv with hv
  subst hv
  exact ⟨rfl, hm.below⟩
def isTrue (v : V) : Prop := match v with
  | .sc (.bool true) => True
  | _ => False
theorem isTrue_spec {v : V} (h : isTrue v) : v = .sc (.bool true) := by
  unfold isTrue at h
  split at h
  · rfl
  · exact h.elim
noncomputable def isV (x v : V) : Prop := match eqV x v with
  | true => True
  | false => False
theorem isV_spec {x v : V} (h : isV x v) : v = x := by
  unfold isV at h
  split at h
  · rename_i h1; exact (eqV_spec h1).symm
  · exact h.elim
theorem orcOk_nil [Cx] {P : Program} : OrcOk P [] := fun e he => by cases he
theorem orcOk_cons [Cx] {P : Program} {f : FuncId} {vs : List V} {v : V} {l : Orc} (he : enters P f = true) (h : ∀ hp n, RCall P f vs hp n v hp n) (hl : OrcOk P l) : OrcOk P ((f, vs, v) :: l) := by
  intro e hm
  rcases List.mem_cons.1 hm with rfl | hm
  · exact ⟨he, h⟩
  · exact hl e hm
structure Hold (p : Prop) : Prop where
  out : p
theorem run_hold [Cx] {P : Program} {F : Tr Func} (hF : Fok P F) {l : Orc} (hl : OrcOk P l) {fuel depth : Nat} {f : FuncId} {vs : List V} {m : Tr Blk} {n : Nat} {K : V → Tr Blk → Nat → Prop} (h : Hold (run P F l fuel depth f vs m n K)) : ∃ v m' n', enters P f = true ∧ RCall P f vs m.get n v m'.get n' ∧ K v m' n' := run_spec hF hl (depth := depth) _ _ _ _ _ h.out
theorem closed_run {P : Program} {F : Tr Func} (hF : Fok P F) {l : Orc} (hl : ∀ [Cx], OrcOk P l) {f : FuncId} {x : V} {u : Value} (hr : Hold (run P F l 1000000 1000 f [] .leaf 0 (fun v _ _ => isV x v))) (hu : toV x = some u) (ho : okV x = true) : enters P f = true ∧ ∀ [Cx] h n, RCall P f [] h n x h n := by
  obtain ⟨v, m', n', q1, q2, q3⟩ := @run_hold trivCx P F hF l (@hl trivCx) 1000000 1000 _ _ _ _ _ hr
  rw [isV_spec q3] at q2
  exact ⟨q1, fun h n => known q2 hu (okV_conc hu ho) h n⟩
end Go.Rn
end
section
namespace Go.Rn
open Go.RowKit
theorem fo2 : FnOk Go.Proofs.Tryz.prog 2 Go.Proofs.Tryz.f2 := ⟨Go.Proofs.Tryz.func2, by kernel_rfl⟩
theorem fo3 : FnOk Go.Proofs.Tryz.prog 3 Go.Proofs.Tryz.f3 := ⟨Go.Proofs.Tryz.func3, by kernel_rfl⟩
theorem fo4 : FnOk Go.Proofs.Tryz.prog 4 Go.Proofs.Tryz.f4 := ⟨Go.Proofs.Tryz.func4, by kernel_rfl⟩
theorem fo5 : FnOk Go.Proofs.Tryz.prog 5 Go.Proofs.Tryz.f5 := ⟨Go.Proofs.Tryz.func5, by kernel_rfl⟩
theorem fo6 : FnOk Go.Proofs.Tryz.prog 6 Go.Proofs.Tryz.f6 := ⟨Go.Proofs.Tryz.func6, by kernel_rfl⟩
theorem fo7 : FnOk Go.Proofs.Tryz.prog 7 Go.Proofs.Tryz.f7 := ⟨Go.Proofs.Tryz.func7, by kernel_rfl⟩
theorem fo8 : FnOk Go.Proofs.Tryz.prog 8 Go.Proofs.Tryz.f8 := ⟨Go.Proofs.Tryz.func8, by kernel_rfl⟩
theorem fo9 : FnOk Go.Proofs.Tryz.prog 9 Go.Proofs.Tryz.f9 := ⟨Go.Proofs.Tryz.func9, by kernel_rfl⟩
theorem fo10 : FnOk Go.Proofs.Tryz.prog 10 Go.Proofs.Tryz.f10 := ⟨Go.Proofs.Tryz.func10, by kernel_rfl⟩
theorem fo11 : FnOk Go.Proofs.Tryz.prog 11 Go.Proofs.Tryz.f11 := ⟨Go.Proofs.Tryz.func11, by kernel_rfl⟩
theorem fo12 : FnOk Go.Proofs.Tryz.prog 12 Go.Proofs.Tryz.f12 := ⟨Go.Proofs.Tryz.func12, by kernel_rfl⟩
theorem fo13 : FnOk Go.Proofs.Tryz.prog 13 Go.Proofs.Tryz.f13 := ⟨Go.Proofs.Tryz.func13, by kernel_rfl⟩
theorem fo14 : FnOk Go.Proofs.Tryz.prog 14 Go.Proofs.Tryz.f14 := ⟨Go.Proofs.Tryz.func14, by kernel_rfl⟩
theorem fo15 : FnOk Go.Proofs.Tryz.prog 15 Go.Proofs.Tryz.f15 := ⟨Go.Proofs.Tryz.func15, by kernel_rfl⟩
theorem fo16 : FnOk Go.Proofs.Tryz.prog 16 Go.Proofs.Tryz.f16 := ⟨Go.Proofs.Tryz.func16, by kernel_rfl⟩
theorem fo17 : FnOk Go.Proofs.Tryz.prog 17 Go.Proofs.Tryz.f17 := ⟨Go.Proofs.Tryz.func17, by kernel_rfl⟩
theorem fo18 : FnOk Go.Proofs.Tryz.prog 18 Go.Proofs.Tryz.f18 := ⟨Go.Proofs.Tryz.func18, by kernel_rfl⟩
theorem fo19 : FnOk Go.Proofs.Tryz.prog 19 Go.Proofs.Tryz.f19 := ⟨Go.Proofs.Tryz.func19, by kernel_rfl⟩
theorem fo20 : FnOk Go.Proofs.Tryz.prog 20 Go.Proofs.Tryz.f20 := ⟨Go.Proofs.Tryz.func20, by kernel_rfl⟩
theorem fo21 : FnOk Go.Proofs.Tryz.prog 21 Go.Proofs.Tryz.f21 := ⟨Go.Proofs.Tryz.func21, by kernel_rfl⟩
theorem fo22 : FnOk Go.Proofs.Tryz.prog 22 Go.Proofs.Tryz.f22 := ⟨Go.Proofs.Tryz.func22, by kernel_rfl⟩
theorem fo23 : FnOk Go.Proofs.Tryz.prog 23 Go.Proofs.Tryz.f23 := ⟨Go.Proofs.Tryz.func23, by kernel_rfl⟩
theorem fo24 : FnOk Go.Proofs.Tryz.prog 24 Go.Proofs.Tryz.f24 := ⟨Go.Proofs.Tryz.func24, by kernel_rfl⟩
theorem fo25 : FnOk Go.Proofs.Tryz.prog 25 Go.Proofs.Tryz.f25 := ⟨Go.Proofs.Tryz.func25, by kernel_rfl⟩
theorem fo26 : FnOk Go.Proofs.Tryz.prog 26 Go.Proofs.Tryz.f26 := ⟨Go.Proofs.Tryz.func26, by kernel_rfl⟩
theorem fo27 : FnOk Go.Proofs.Tryz.prog 27 Go.Proofs.Tryz.f27 := ⟨Go.Proofs.Tryz.func27, by kernel_rfl⟩
theorem fo28 : FnOk Go.Proofs.Tryz.prog 28 Go.Proofs.Tryz.f28 := ⟨Go.Proofs.Tryz.func28, by kernel_rfl⟩
theorem fo29 : FnOk Go.Proofs.Tryz.prog 29 Go.Proofs.Tryz.f29 := ⟨Go.Proofs.Tryz.func29, by kernel_rfl⟩
theorem fo30 : FnOk Go.Proofs.Tryz.prog 30 Go.Proofs.Tryz.f30 := ⟨Go.Proofs.Tryz.func30, by kernel_rfl⟩
theorem fo31 : FnOk Go.Proofs.Tryz.prog 31 Go.Proofs.Tryz.f31 := ⟨Go.Proofs.Tryz.func31, by kernel_rfl⟩
theorem fo32 : FnOk Go.Proofs.Tryz.prog 32 Go.Proofs.Tryz.f32 := ⟨Go.Proofs.Tryz.func32, by kernel_rfl⟩
theorem fo33 : FnOk Go.Proofs.Tryz.prog 33 Go.Proofs.Tryz.f33 := ⟨Go.Proofs.Tryz.func33, by kernel_rfl⟩
theorem fo34 : FnOk Go.Proofs.Tryz.prog 34 Go.Proofs.Tryz.f34 := ⟨Go.Proofs.Tryz.func34, by kernel_rfl⟩
theorem fo35 : FnOk Go.Proofs.Tryz.prog 35 Go.Proofs.Tryz.f35 := ⟨Go.Proofs.Tryz.func35, by kernel_rfl⟩
theorem fo36 : FnOk Go.Proofs.Tryz.prog 36 Go.Proofs.Tryz.f36 := ⟨Go.Proofs.Tryz.func36, by kernel_rfl⟩
theorem fo37 : FnOk Go.Proofs.Tryz.prog 37 Go.Proofs.Tryz.f37 := ⟨Go.Proofs.Tryz.func37, by kernel_rfl⟩
theorem fo38 : FnOk Go.Proofs.Tryz.prog 38 Go.Proofs.Tryz.f38 := ⟨Go.Proofs.Tryz.func38, by kernel_rfl⟩
theorem fo39 : FnOk Go.Proofs.Tryz.prog 39 Go.Proofs.Tryz.f39 := ⟨Go.Proofs.Tryz.func39, by kernel_rfl⟩
theorem fo40 : FnOk Go.Proofs.Tryz.prog 40 Go.Proofs.Tryz.f40 := ⟨Go.Proofs.Tryz.func40, by kernel_rfl⟩
theorem fo41 : FnOk Go.Proofs.Tryz.prog 41 Go.Proofs.Tryz.f41 := ⟨Go.Proofs.Tryz.func41, by kernel_rfl⟩
theorem fo42 : FnOk Go.Proofs.Tryz.prog 42 Go.Proofs.Tryz.f42 := ⟨Go.Proofs.Tryz.func42, by kernel_rfl⟩
theorem fo43 : FnOk Go.Proofs.Tryz.prog 43 Go.Proofs.Tryz.f43 := ⟨Go.Proofs.Tryz.func43, by kernel_rfl⟩
theorem fo44 : FnOk Go.Proofs.Tryz.prog 44 Go.Proofs.Tryz.f44 := ⟨Go.Proofs.Tryz.func44, by kernel_rfl⟩
theorem fo45 : FnOk Go.Proofs.Tryz.prog 45 Go.Proofs.Tryz.f45 := ⟨Go.Proofs.Tryz.func45, by kernel_rfl⟩
theorem fo46 : FnOk Go.Proofs.Tryz.prog 46 Go.Proofs.Tryz.f46 := ⟨Go.Proofs.Tryz.func46, by kernel_rfl⟩
theorem fo47 : FnOk Go.Proofs.Tryz.prog 47 Go.Proofs.Tryz.f47 := ⟨Go.Proofs.Tryz.func47, by kernel_rfl⟩
theorem fo48 : FnOk Go.Proofs.Tryz.prog 48 Go.Proofs.Tryz.f48 := ⟨Go.Proofs.Tryz.func48, by kernel_rfl⟩
theorem fo49 : FnOk Go.Proofs.Tryz.prog 49 Go.Proofs.Tryz.f49 := ⟨Go.Proofs.Tryz.func49, by kernel_rfl⟩
theorem fo50 : FnOk Go.Proofs.Tryz.prog 50 Go.Proofs.Tryz.f50 := ⟨Go.Proofs.Tryz.func50, by kernel_rfl⟩
theorem fo51 : FnOk Go.Proofs.Tryz.prog 51 Go.Proofs.Tryz.f51 := ⟨Go.Proofs.Tryz.func51, by kernel_rfl⟩
theorem fo52 : FnOk Go.Proofs.Tryz.prog 52 Go.Proofs.Tryz.f52 := ⟨Go.Proofs.Tryz.func52, by kernel_rfl⟩
theorem fo53 : FnOk Go.Proofs.Tryz.prog 53 Go.Proofs.Tryz.f53 := ⟨Go.Proofs.Tryz.func53, by kernel_rfl⟩
theorem fo54 : FnOk Go.Proofs.Tryz.prog 54 Go.Proofs.Tryz.f54 := ⟨Go.Proofs.Tryz.func54, by kernel_rfl⟩
theorem fo55 : FnOk Go.Proofs.Tryz.prog 55 Go.Proofs.Tryz.f55 := ⟨Go.Proofs.Tryz.func55, by kernel_rfl⟩
theorem fo56 : FnOk Go.Proofs.Tryz.prog 56 Go.Proofs.Tryz.f56 := ⟨Go.Proofs.Tryz.func56, by kernel_rfl⟩
theorem fo57 : FnOk Go.Proofs.Tryz.prog 57 Go.Proofs.Tryz.f57 := ⟨Go.Proofs.Tryz.func57, by kernel_rfl⟩
theorem fo58 : FnOk Go.Proofs.Tryz.prog 58 Go.Proofs.Tryz.f58 := ⟨Go.Proofs.Tryz.func58, by kernel_rfl⟩
theorem fo59 : FnOk Go.Proofs.Tryz.prog 59 Go.Proofs.Tryz.f59 := ⟨Go.Proofs.Tryz.func59, by kernel_rfl⟩
theorem fo60 : FnOk Go.Proofs.Tryz.prog 60 Go.Proofs.Tryz.f60 := ⟨Go.Proofs.Tryz.func60, by kernel_rfl⟩
theorem fo61 : FnOk Go.Proofs.Tryz.prog 61 Go.Proofs.Tryz.f61 := ⟨Go.Proofs.Tryz.func61, by kernel_rfl⟩
theorem fo62 : FnOk Go.Proofs.Tryz.prog 62 Go.Proofs.Tryz.f62 := ⟨Go.Proofs.Tryz.func62, by kernel_rfl⟩
theorem fo63 : FnOk Go.Proofs.Tryz.prog 63 Go.Proofs.Tryz.f63 := ⟨Go.Proofs.Tryz.func63, by kernel_rfl⟩
theorem fo64 : FnOk Go.Proofs.Tryz.prog 64 Go.Proofs.Tryz.f64 := ⟨Go.Proofs.Tryz.func64, by kernel_rfl⟩
theorem fo65 : FnOk Go.Proofs.Tryz.prog 65 Go.Proofs.Tryz.f65 := ⟨Go.Proofs.Tryz.func65, by kernel_rfl⟩
theorem fo66 : FnOk Go.Proofs.Tryz.prog 66 Go.Proofs.Tryz.f66 := ⟨Go.Proofs.Tryz.func66, by kernel_rfl⟩
theorem fo67 : FnOk Go.Proofs.Tryz.prog 67 Go.Proofs.Tryz.f67 := ⟨Go.Proofs.Tryz.func67, by kernel_rfl⟩
theorem fo68 : FnOk Go.Proofs.Tryz.prog 68 Go.Proofs.Tryz.f68 := ⟨Go.Proofs.Tryz.func68, by kernel_rfl⟩
theorem fo69 : FnOk Go.Proofs.Tryz.prog 69 Go.Proofs.Tryz.f69 := ⟨Go.Proofs.Tryz.func69, by kernel_rfl⟩
theorem fo70 : FnOk Go.Proofs.Tryz.prog 70 Go.Proofs.Tryz.f70 := ⟨Go.Proofs.Tryz.func70, by kernel_rfl⟩
theorem fo71 : FnOk Go.Proofs.Tryz.prog 71 Go.Proofs.Tryz.f71 := ⟨Go.Proofs.Tryz.func71, by kernel_rfl⟩
theorem fo72 : FnOk Go.Proofs.Tryz.prog 72 Go.Proofs.Tryz.f72 := ⟨Go.Proofs.Tryz.func72, by kernel_rfl⟩
theorem fo73 : FnOk Go.Proofs.Tryz.prog 73 Go.Proofs.Tryz.f73 := ⟨Go.Proofs.Tryz.func73, by kernel_rfl⟩
theorem fo74 : FnOk Go.Proofs.Tryz.prog 74 Go.Proofs.Tryz.f74 := ⟨Go.Proofs.Tryz.func74, by kernel_rfl⟩
theorem fo75 : FnOk Go.Proofs.Tryz.prog 75 Go.Proofs.Tryz.f75 := ⟨Go.Proofs.Tryz.func75, by kernel_rfl⟩
theorem fo76 : FnOk Go.Proofs.Tryz.prog 76 Go.Proofs.Tryz.f76 := ⟨Go.Proofs.Tryz.func76, by kernel_rfl⟩
theorem fo77 : FnOk Go.Proofs.Tryz.prog 77 Go.Proofs.Tryz.f77 := ⟨Go.Proofs.Tryz.func77, by kernel_rfl⟩
theorem fo78 : FnOk Go.Proofs.Tryz.prog 78 Go.Proofs.Tryz.f78 := ⟨Go.Proofs.Tryz.func78, by kernel_rfl⟩
theorem fo79 : FnOk Go.Proofs.Tryz.prog 79 Go.Proofs.Tryz.f79 := ⟨Go.Proofs.Tryz.func79, by kernel_rfl⟩
theorem fo80 : FnOk Go.Proofs.Tryz.prog 80 Go.Proofs.Tryz.f80 := ⟨Go.Proofs.Tryz.func80, by kernel_rfl⟩
theorem fo81 : FnOk Go.Proofs.Tryz.prog 81 Go.Proofs.Tryz.f81 := ⟨Go.Proofs.Tryz.func81, by kernel_rfl⟩
theorem fo82 : FnOk Go.Proofs.Tryz.prog 82 Go.Proofs.Tryz.f82 := ⟨Go.Proofs.Tryz.func82, by kernel_rfl⟩
theorem fo83 : FnOk Go.Proofs.Tryz.prog 83 Go.Proofs.Tryz.f83 := ⟨Go.Proofs.Tryz.func83, by kernel_rfl⟩
theorem fo84 : FnOk Go.Proofs.Tryz.prog 84 Go.Proofs.Tryz.f84 := ⟨Go.Proofs.Tryz.func84, by kernel_rfl⟩
theorem fo85 : FnOk Go.Proofs.Tryz.prog 85 Go.Proofs.Tryz.f85 := ⟨Go.Proofs.Tryz.func85, by kernel_rfl⟩
theorem fo86 : FnOk Go.Proofs.Tryz.prog 86 Go.Proofs.Tryz.f86 := ⟨Go.Proofs.Tryz.func86, by kernel_rfl⟩
theorem fo87 : FnOk Go.Proofs.Tryz.prog 87 Go.Proofs.Tryz.f87 := ⟨Go.Proofs.Tryz.func87, by kernel_rfl⟩
theorem fo88 : FnOk Go.Proofs.Tryz.prog 88 Go.Proofs.Tryz.f88 := ⟨Go.Proofs.Tryz.func88, by kernel_rfl⟩
theorem fo89 : FnOk Go.Proofs.Tryz.prog 89 Go.Proofs.Tryz.f89 := ⟨Go.Proofs.Tryz.func89, by kernel_rfl⟩
theorem fo90 : FnOk Go.Proofs.Tryz.prog 90 Go.Proofs.Tryz.f90 := ⟨Go.Proofs.Tryz.func90, by kernel_rfl⟩
theorem fo91 : FnOk Go.Proofs.Tryz.prog 91 Go.Proofs.Tryz.f91 := ⟨Go.Proofs.Tryz.func91, by kernel_rfl⟩
theorem fo92 : FnOk Go.Proofs.Tryz.prog 92 Go.Proofs.Tryz.f92 := ⟨Go.Proofs.Tryz.func92, by kernel_rfl⟩
theorem fo93 : FnOk Go.Proofs.Tryz.prog 93 Go.Proofs.Tryz.f93 := ⟨Go.Proofs.Tryz.func93, by kernel_rfl⟩
theorem fo94 : FnOk Go.Proofs.Tryz.prog 94 Go.Proofs.Tryz.f94 := ⟨Go.Proofs.Tryz.func94, by kernel_rfl⟩
theorem fo95 : FnOk Go.Proofs.Tryz.prog 95 Go.Proofs.Tryz.f95 := ⟨Go.Proofs.Tryz.func95, by kernel_rfl⟩
theorem fo96 : FnOk Go.Proofs.Tryz.prog 96 Go.Proofs.Tryz.f96 := ⟨Go.Proofs.Tryz.func96, by kernel_rfl⟩
theorem fo97 : FnOk Go.Proofs.Tryz.prog 97 Go.Proofs.Tryz.f97 := ⟨Go.Proofs.Tryz.func97, by kernel_rfl⟩
theorem fo98 : FnOk Go.Proofs.Tryz.prog 98 Go.Proofs.Tryz.f98 := ⟨Go.Proofs.Tryz.func98, by kernel_rfl⟩
theorem fo99 : FnOk Go.Proofs.Tryz.prog 99 Go.Proofs.Tryz.f99 := ⟨Go.Proofs.Tryz.func99, by kernel_rfl⟩
theorem fo100 : FnOk Go.Proofs.Tryz.prog 100 Go.Proofs.Tryz.f100 := ⟨Go.Proofs.Tryz.func100, by kernel_rfl⟩
theorem fo101 : FnOk Go.Proofs.Tryz.prog 101 Go.Proofs.Tryz.f101 := ⟨Go.Proofs.Tryz.func101, by kernel_rfl⟩
theorem fo102 : FnOk Go.Proofs.Tryz.prog 102 Go.Proofs.Tryz.f102 := ⟨Go.Proofs.Tryz.func102, by kernel_rfl⟩
theorem fo103 : FnOk Go.Proofs.Tryz.prog 103 Go.Proofs.Tryz.f103 := ⟨Go.Proofs.Tryz.func103, by kernel_rfl⟩
theorem fo104 : FnOk Go.Proofs.Tryz.prog 104 Go.Proofs.Tryz.f104 := ⟨Go.Proofs.Tryz.func104, by kernel_rfl⟩
theorem fo105 : FnOk Go.Proofs.Tryz.prog 105 Go.Proofs.Tryz.f105 := ⟨Go.Proofs.Tryz.func105, by kernel_rfl⟩
theorem fo106 : FnOk Go.Proofs.Tryz.prog 106 Go.Proofs.Tryz.f106 := ⟨Go.Proofs.Tryz.func106, by kernel_rfl⟩
theorem fo107 : FnOk Go.Proofs.Tryz.prog 107 Go.Proofs.Tryz.f107 := ⟨Go.Proofs.Tryz.func107, by kernel_rfl⟩
theorem fo108 : FnOk Go.Proofs.Tryz.prog 108 Go.Proofs.Tryz.f108 := ⟨Go.Proofs.Tryz.func108, by kernel_rfl⟩
theorem fo109 : FnOk Go.Proofs.Tryz.prog 109 Go.Proofs.Tryz.f109 := ⟨Go.Proofs.Tryz.func109, by kernel_rfl⟩
theorem fo110 : FnOk Go.Proofs.Tryz.prog 110 Go.Proofs.Tryz.f110 := ⟨Go.Proofs.Tryz.func110, by kernel_rfl⟩
theorem fo111 : FnOk Go.Proofs.Tryz.prog 111 Go.Proofs.Tryz.f111 := ⟨Go.Proofs.Tryz.func111, by kernel_rfl⟩
theorem fo112 : FnOk Go.Proofs.Tryz.prog 112 Go.Proofs.Tryz.f112 := ⟨Go.Proofs.Tryz.func112, by kernel_rfl⟩
theorem fo113 : FnOk Go.Proofs.Tryz.prog 113 Go.Proofs.Tryz.f113 := ⟨Go.Proofs.Tryz.func113, by kernel_rfl⟩
theorem fo114 : FnOk Go.Proofs.Tryz.prog 114 Go.Proofs.Tryz.f114 := ⟨Go.Proofs.Tryz.func114, by kernel_rfl⟩
theorem fo115 : FnOk Go.Proofs.Tryz.prog 115 Go.Proofs.Tryz.f115 := ⟨Go.Proofs.Tryz.func115, by kernel_rfl⟩
theorem fo116 : FnOk Go.Proofs.Tryz.prog 116 Go.Proofs.Tryz.f116 := ⟨Go.Proofs.Tryz.func116, by kernel_rfl⟩
theorem fo117 : FnOk Go.Proofs.Tryz.prog 117 Go.Proofs.Tryz.f117 := ⟨Go.Proofs.Tryz.func117, by kernel_rfl⟩
theorem fo118 : FnOk Go.Proofs.Tryz.prog 118 Go.Proofs.Tryz.f118 := ⟨Go.Proofs.Tryz.func118, by kernel_rfl⟩
theorem fo119 : FnOk Go.Proofs.Tryz.prog 119 Go.Proofs.Tryz.f119 := ⟨Go.Proofs.Tryz.func119, by kernel_rfl⟩
theorem fo120 : FnOk Go.Proofs.Tryz.prog 120 Go.Proofs.Tryz.f120 := ⟨Go.Proofs.Tryz.func120, by kernel_rfl⟩
theorem fo121 : FnOk Go.Proofs.Tryz.prog 121 Go.Proofs.Tryz.f121 := ⟨Go.Proofs.Tryz.func121, by kernel_rfl⟩
theorem fo122 : FnOk Go.Proofs.Tryz.prog 122 Go.Proofs.Tryz.f122 := ⟨Go.Proofs.Tryz.func122, by kernel_rfl⟩
theorem fo123 : FnOk Go.Proofs.Tryz.prog 123 Go.Proofs.Tryz.f123 := ⟨Go.Proofs.Tryz.func123, by kernel_rfl⟩
theorem fo124 : FnOk Go.Proofs.Tryz.prog 124 Go.Proofs.Tryz.f124 := ⟨Go.Proofs.Tryz.func124, by kernel_rfl⟩
theorem fo125 : FnOk Go.Proofs.Tryz.prog 125 Go.Proofs.Tryz.f125 := ⟨Go.Proofs.Tryz.func125, by kernel_rfl⟩
theorem fo126 : FnOk Go.Proofs.Tryz.prog 126 Go.Proofs.Tryz.f126 := ⟨Go.Proofs.Tryz.func126, by kernel_rfl⟩
theorem fo127 : FnOk Go.Proofs.Tryz.prog 127 Go.Proofs.Tryz.f127 := ⟨Go.Proofs.Tryz.func127, by kernel_rfl⟩
theorem fo128 : FnOk Go.Proofs.Tryz.prog 128 Go.Proofs.Tryz.f128 := ⟨Go.Proofs.Tryz.func128, by kernel_rfl⟩
theorem fo129 : FnOk Go.Proofs.Tryz.prog 129 Go.Proofs.Tryz.f129 := ⟨Go.Proofs.Tryz.func129, by kernel_rfl⟩
theorem fo130 : FnOk Go.Proofs.Tryz.prog 130 Go.Proofs.Tryz.f130 := ⟨Go.Proofs.Tryz.func130, by kernel_rfl⟩
theorem fo131 : FnOk Go.Proofs.Tryz.prog 131 Go.Proofs.Tryz.f131 := ⟨Go.Proofs.Tryz.func131, by kernel_rfl⟩
theorem fo132 : FnOk Go.Proofs.Tryz.prog 132 Go.Proofs.Tryz.f132 := ⟨Go.Proofs.Tryz.func132, by kernel_rfl⟩
theorem fo133 : FnOk Go.Proofs.Tryz.prog 133 Go.Proofs.Tryz.f133 := ⟨Go.Proofs.Tryz.func133, by kernel_rfl⟩
theorem fo134 : FnOk Go.Proofs.Tryz.prog 134 Go.Proofs.Tryz.f134 := ⟨Go.Proofs.Tryz.func134, by kernel_rfl⟩
theorem fo135 : FnOk Go.Proofs.Tryz.prog 135 Go.Proofs.Tryz.f135 := ⟨Go.Proofs.Tryz.func135, by kernel_rfl⟩
theorem fo136 : FnOk Go.Proofs.Tryz.prog 136 Go.Proofs.Tryz.f136 := ⟨Go.Proofs.Tryz.func136, by kernel_rfl⟩
theorem fo137 : FnOk Go.Proofs.Tryz.prog 137 Go.Proofs.Tryz.f137 := ⟨Go.Proofs.Tryz.func137, by kernel_rfl⟩
theorem fo138 : FnOk Go.Proofs.Tryz.prog 138 Go.Proofs.Tryz.f138 := ⟨Go.Proofs.Tryz.func138, by kernel_rfl⟩
theorem fo139 : FnOk Go.Proofs.Tryz.prog 139 Go.Proofs.Tryz.f139 := ⟨Go.Proofs.Tryz.func139, by kernel_rfl⟩
theorem fo140 : FnOk Go.Proofs.Tryz.prog 140 Go.Proofs.Tryz.f140 := ⟨Go.Proofs.Tryz.func140, by kernel_rfl⟩
theorem fo141 : FnOk Go.Proofs.Tryz.prog 141 Go.Proofs.Tryz.f141 := ⟨Go.Proofs.Tryz.func141, by kernel_rfl⟩
theorem fo142 : FnOk Go.Proofs.Tryz.prog 142 Go.Proofs.Tryz.f142 := ⟨Go.Proofs.Tryz.func142, by kernel_rfl⟩
theorem fo143 : FnOk Go.Proofs.Tryz.prog 143 Go.Proofs.Tryz.f143 := ⟨Go.Proofs.Tryz.func143, by kernel_rfl⟩
theorem fo144 : FnOk Go.Proofs.Tryz.prog 144 Go.Proofs.Tryz.f144 := ⟨Go.Proofs.Tryz.func144, by kernel_rfl⟩
theorem fo145 : FnOk Go.Proofs.Tryz.prog 145 Go.Proofs.Tryz.f145 := ⟨Go.Proofs.Tryz.func145, by kernel_rfl⟩
theorem fo146 : FnOk Go.Proofs.Tryz.prog 146 Go.Proofs.Tryz.f146 := ⟨Go.Proofs.Tryz.func146, by kernel_rfl⟩
theorem fo147 : FnOk Go.Proofs.Tryz.prog 147 Go.Proofs.Tryz.f147 := ⟨Go.Proofs.Tryz.func147, by kernel_rfl⟩
theorem fo148 : FnOk Go.Proofs.Tryz.prog 148 Go.Proofs.Tryz.f148 := ⟨Go.Proofs.Tryz.func148, by kernel_rfl⟩
theorem fo149 : FnOk Go.Proofs.Tryz.prog 149 Go.Proofs.Tryz.f149 := ⟨Go.Proofs.Tryz.func149, by kernel_rfl⟩
theorem fo150 : FnOk Go.Proofs.Tryz.prog 150 Go.Proofs.Tryz.f150 := ⟨Go.Proofs.Tryz.func150, by kernel_rfl⟩
theorem fo151 : FnOk Go.Proofs.Tryz.prog 151 Go.Proofs.Tryz.f151 := ⟨Go.Proofs.Tryz.func151, by kernel_rfl⟩
theorem fo152 : FnOk Go.Proofs.Tryz.prog 152 Go.Proofs.Tryz.f152 := ⟨Go.Proofs.Tryz.func152, by kernel_rfl⟩
theorem fo153 : FnOk Go.Proofs.Tryz.prog 153 Go.Proofs.Tryz.f153 := ⟨Go.Proofs.Tryz.func153, by kernel_rfl⟩
theorem fo154 : FnOk Go.Proofs.Tryz.prog 154 Go.Proofs.Tryz.f154 := ⟨Go.Proofs.Tryz.func154, by kernel_rfl⟩
theorem fo155 : FnOk Go.Proofs.Tryz.prog 155 Go.Proofs.Tryz.f155 := ⟨Go.Proofs.Tryz.func155, by kernel_rfl⟩
theorem fo156 : FnOk Go.Proofs.Tryz.prog 156 Go.Proofs.Tryz.f156 := ⟨Go.Proofs.Tryz.func156, by kernel_rfl⟩
theorem fo157 : FnOk Go.Proofs.Tryz.prog 157 Go.Proofs.Tryz.f157 := ⟨Go.Proofs.Tryz.func157, by kernel_rfl⟩
theorem fo158 : FnOk Go.Proofs.Tryz.prog 158 Go.Proofs.Tryz.f158 := ⟨Go.Proofs.Tryz.func158, by kernel_rfl⟩
theorem fo159 : FnOk Go.Proofs.Tryz.prog 159 Go.Proofs.Tryz.f159 := ⟨Go.Proofs.Tryz.func159, by kernel_rfl⟩
theorem fo160 : FnOk Go.Proofs.Tryz.prog 160 Go.Proofs.Tryz.f160 := ⟨Go.Proofs.Tryz.func160, by kernel_rfl⟩
theorem fo161 : FnOk Go.Proofs.Tryz.prog 161 Go.Proofs.Tryz.f161 := ⟨Go.Proofs.Tryz.func161, by kernel_rfl⟩
theorem fo162 : FnOk Go.Proofs.Tryz.prog 162 Go.Proofs.Tryz.f162 := ⟨Go.Proofs.Tryz.func162, by kernel_rfl⟩
theorem fo163 : FnOk Go.Proofs.Tryz.prog 163 Go.Proofs.Tryz.f163 := ⟨Go.Proofs.Tryz.func163, by kernel_rfl⟩
theorem fo164 : FnOk Go.Proofs.Tryz.prog 164 Go.Proofs.Tryz.f164 := ⟨Go.Proofs.Tryz.func164, by kernel_rfl⟩
theorem fo165 : FnOk Go.Proofs.Tryz.prog 165 Go.Proofs.Tryz.f165 := ⟨Go.Proofs.Tryz.func165, by kernel_rfl⟩
theorem fo166 : FnOk Go.Proofs.Tryz.prog 166 Go.Proofs.Tryz.f166 := ⟨Go.Proofs.Tryz.func166, by kernel_rfl⟩
theorem fo167 : FnOk Go.Proofs.Tryz.prog 167 Go.Proofs.Tryz.f167 := ⟨Go.Proofs.Tryz.func167, by kernel_rfl⟩
theorem fo168 : FnOk Go.Proofs.Tryz.prog 168 Go.Proofs.Tryz.f168 := ⟨Go.Proofs.Tryz.func168, by kernel_rfl⟩
theorem fo169 : FnOk Go.Proofs.Tryz.prog 169 Go.Proofs.Tryz.f169 := ⟨Go.Proofs.Tryz.func169, by kernel_rfl⟩
theorem fo170 : FnOk Go.Proofs.Tryz.prog 170 Go.Proofs.Tryz.f170 := ⟨Go.Proofs.Tryz.func170, by kernel_rfl⟩
theorem fo171 : FnOk Go.Proofs.Tryz.prog 171 Go.Proofs.Tryz.f171 := ⟨Go.Proofs.Tryz.func171, by kernel_rfl⟩
theorem fo172 : FnOk Go.Proofs.Tryz.prog 172 Go.Proofs.Tryz.f172 := ⟨Go.Proofs.Tryz.func172, by kernel_rfl⟩
theorem fo173 : FnOk Go.Proofs.Tryz.prog 173 Go.Proofs.Tryz.f173 := ⟨Go.Proofs.Tryz.func173, by kernel_rfl⟩
theorem fo174 : FnOk Go.Proofs.Tryz.prog 174 Go.Proofs.Tryz.f174 := ⟨Go.Proofs.Tryz.func174, by kernel_rfl⟩
theorem fo175 : FnOk Go.Proofs.Tryz.prog 175 Go.Proofs.Tryz.f175 := ⟨Go.Proofs.Tryz.func175, by kernel_rfl⟩
theorem fo176 : FnOk Go.Proofs.Tryz.prog 176 Go.Proofs.Tryz.f176 := ⟨Go.Proofs.Tryz.func176, by kernel_rfl⟩
theorem fo177 : FnOk Go.Proofs.Tryz.prog 177 Go.Proofs.Tryz.f177 := ⟨Go.Proofs.Tryz.func177, by kernel_rfl⟩
theorem fo178 : FnOk Go.Proofs.Tryz.prog 178 Go.Proofs.Tryz.f178 := ⟨Go.Proofs.Tryz.func178, by kernel_rfl⟩
theorem fo179 : FnOk Go.Proofs.Tryz.prog 179 Go.Proofs.Tryz.f179 := ⟨Go.Proofs.Tryz.func179, by kernel_rfl⟩
theorem fo180 : FnOk Go.Proofs.Tryz.prog 180 Go.Proofs.Tryz.f180 := ⟨Go.Proofs.Tryz.func180, by kernel_rfl⟩
theorem fo181 : FnOk Go.Proofs.Tryz.prog 181 Go.Proofs.Tryz.f181 := ⟨Go.Proofs.Tryz.func181, by kernel_rfl⟩
theorem fo182 : FnOk Go.Proofs.Tryz.prog 182 Go.Proofs.Tryz.f182 := ⟨Go.Proofs.Tryz.func182, by kernel_rfl⟩
theorem fo183 : FnOk Go.Proofs.Tryz.prog 183 Go.Proofs.Tryz.f183 := ⟨Go.Proofs.Tryz.func183, by kernel_rfl⟩
theorem fo184 : FnOk Go.Proofs.Tryz.prog 184 Go.Proofs.Tryz.f184 := ⟨Go.Proofs.Tryz.func184, by kernel_rfl⟩
theorem fo185 : FnOk Go.Proofs.Tryz.prog 185 Go.Proofs.Tryz.f185 := ⟨Go.Proofs.Tryz.func185, by kernel_rfl⟩
theorem fo186 : FnOk Go.Proofs.Tryz.prog 186 Go.Proofs.Tryz.f186 := ⟨Go.Proofs.Tryz.func186, by kernel_rfl⟩
theorem fo187 : FnOk Go.Proofs.Tryz.prog 187 Go.Proofs.Tryz.f187 := ⟨Go.Proofs.Tryz.func187, by kernel_rfl⟩
theorem fo188 : FnOk Go.Proofs.Tryz.prog 188 Go.Proofs.Tryz.f188 := ⟨Go.Proofs.Tryz.func188, by kernel_rfl⟩
theorem fo189 : FnOk Go.Proofs.Tryz.prog 189 Go.Proofs.Tryz.f189 := ⟨Go.Proofs.Tryz.func189, by kernel_rfl⟩
theorem fo190 : FnOk Go.Proofs.Tryz.prog 190 Go.Proofs.Tryz.f190 := ⟨Go.Proofs.Tryz.func190, by kernel_rfl⟩
theorem fo191 : FnOk Go.Proofs.Tryz.prog 191 Go.Proofs.Tryz.f191 := ⟨Go.Proofs.Tryz.func191, by kernel_rfl⟩
theorem fo192 : FnOk Go.Proofs.Tryz.prog 192 Go.Proofs.Tryz.f192 := ⟨Go.Proofs.Tryz.func192, by kernel_rfl⟩
theorem fo193 : FnOk Go.Proofs.Tryz.prog 193 Go.Proofs.Tryz.f193 := ⟨Go.Proofs.Tryz.func193, by kernel_rfl⟩
theorem fo194 : FnOk Go.Proofs.Tryz.prog 194 Go.Proofs.Tryz.f194 := ⟨Go.Proofs.Tryz.func194, by kernel_rfl⟩
theorem fo195 : FnOk Go.Proofs.Tryz.prog 195 Go.Proofs.Tryz.f195 := ⟨Go.Proofs.Tryz.func195, by kernel_rfl⟩
theorem fo196 : FnOk Go.Proofs.Tryz.prog 196 Go.Proofs.Tryz.f196 := ⟨Go.Proofs.Tryz.func196, by kernel_rfl⟩
theorem fo197 : FnOk Go.Proofs.Tryz.prog 197 Go.Proofs.Tryz.f197 := ⟨Go.Proofs.Tryz.func197, by kernel_rfl⟩
theorem fo198 : FnOk Go.Proofs.Tryz.prog 198 Go.Proofs.Tryz.f198 := ⟨Go.Proofs.Tryz.func198, by kernel_rfl⟩
theorem fo199 : FnOk Go.Proofs.Tryz.prog 199 Go.Proofs.Tryz.f199 := ⟨Go.Proofs.Tryz.func199, by kernel_rfl⟩
theorem fo200 : FnOk Go.Proofs.Tryz.prog 200 Go.Proofs.Tryz.f200 := ⟨Go.Proofs.Tryz.func200, by kernel_rfl⟩
theorem fo201 : FnOk Go.Proofs.Tryz.prog 201 Go.Proofs.Tryz.f201 := ⟨Go.Proofs.Tryz.func201, by kernel_rfl⟩
theorem fo202 : FnOk Go.Proofs.Tryz.prog 202 Go.Proofs.Tryz.f202 := ⟨Go.Proofs.Tryz.func202, by kernel_rfl⟩
theorem fo203 : FnOk Go.Proofs.Tryz.prog 203 Go.Proofs.Tryz.f203 := ⟨Go.Proofs.Tryz.func203, by kernel_rfl⟩
theorem fo204 : FnOk Go.Proofs.Tryz.prog 204 Go.Proofs.Tryz.f204 := ⟨Go.Proofs.Tryz.func204, by kernel_rfl⟩
theorem fo205 : FnOk Go.Proofs.Tryz.prog 205 Go.Proofs.Tryz.f205 := ⟨Go.Proofs.Tryz.func205, by kernel_rfl⟩
theorem fo206 : FnOk Go.Proofs.Tryz.prog 206 Go.Proofs.Tryz.f206 := ⟨Go.Proofs.Tryz.func206, by kernel_rfl⟩
theorem fo207 : FnOk Go.Proofs.Tryz.prog 207 Go.Proofs.Tryz.f207 := ⟨Go.Proofs.Tryz.func207, by kernel_rfl⟩
theorem fo208 : FnOk Go.Proofs.Tryz.prog 208 Go.Proofs.Tryz.f208 := ⟨Go.Proofs.Tryz.func208, by kernel_rfl⟩
theorem fo209 : FnOk Go.Proofs.Tryz.prog 209 Go.Proofs.Tryz.f209 := ⟨Go.Proofs.Tryz.func209, by kernel_rfl⟩
theorem fo210 : FnOk Go.Proofs.Tryz.prog 210 Go.Proofs.Tryz.f210 := ⟨Go.Proofs.Tryz.func210, by kernel_rfl⟩
theorem fo211 : FnOk Go.Proofs.Tryz.prog 211 Go.Proofs.Tryz.f211 := ⟨Go.Proofs.Tryz.func211, by kernel_rfl⟩
theorem fo212 : FnOk Go.Proofs.Tryz.prog 212 Go.Proofs.Tryz.f212 := ⟨Go.Proofs.Tryz.func212, by kernel_rfl⟩
theorem fo213 : FnOk Go.Proofs.Tryz.prog 213 Go.Proofs.Tryz.f213 := ⟨Go.Proofs.Tryz.func213, by kernel_rfl⟩
theorem fo214 : FnOk Go.Proofs.Tryz.prog 214 Go.Proofs.Tryz.f214 := ⟨Go.Proofs.Tryz.func214, by kernel_rfl⟩
theorem fo215 : FnOk Go.Proofs.Tryz.prog 215 Go.Proofs.Tryz.f215 := ⟨Go.Proofs.Tryz.func215, by kernel_rfl⟩
theorem fo216 : FnOk Go.Proofs.Tryz.prog 216 Go.Proofs.Tryz.f216 := ⟨Go.Proofs.Tryz.func216, by kernel_rfl⟩
theorem fo217 : FnOk Go.Proofs.Tryz.prog 217 Go.Proofs.Tryz.f217 := ⟨Go.Proofs.Tryz.func217, by kernel_rfl⟩
theorem fo218 : FnOk Go.Proofs.Tryz.prog 218 Go.Proofs.Tryz.f218 := ⟨Go.Proofs.Tryz.func218, by kernel_rfl⟩
theorem fo219 : FnOk Go.Proofs.Tryz.prog 219 Go.Proofs.Tryz.f219 := ⟨Go.Proofs.Tryz.func219, by kernel_rfl⟩
theorem fo220 : FnOk Go.Proofs.Tryz.prog 220 Go.Proofs.Tryz.f220 := ⟨Go.Proofs.Tryz.func220, by kernel_rfl⟩
theorem fo221 : FnOk Go.Proofs.Tryz.prog 221 Go.Proofs.Tryz.f221 := ⟨Go.Proofs.Tryz.func221, by kernel_rfl⟩
theorem fo222 : FnOk Go.Proofs.Tryz.prog 222 Go.Proofs.Tryz.f222 := ⟨Go.Proofs.Tryz.func222, by kernel_rfl⟩
theorem fo223 : FnOk Go.Proofs.Tryz.prog 223 Go.Proofs.Tryz.f223 := ⟨Go.Proofs.Tryz.func223, by kernel_rfl⟩
theorem fo224 : FnOk Go.Proofs.Tryz.prog 224 Go.Proofs.Tryz.f224 := ⟨Go.Proofs.Tryz.func224, by kernel_rfl⟩
theorem fo225 : FnOk Go.Proofs.Tryz.prog 225 Go.Proofs.Tryz.f225 := ⟨Go.Proofs.Tryz.func225, by kernel_rfl⟩
theorem fo226 : FnOk Go.Proofs.Tryz.prog 226 Go.Proofs.Tryz.f226 := ⟨Go.Proofs.Tryz.func226, by kernel_rfl⟩
theorem fo227 : FnOk Go.Proofs.Tryz.prog 227 Go.Proofs.Tryz.f227 := ⟨Go.Proofs.Tryz.func227, by kernel_rfl⟩
theorem fo228 : FnOk Go.Proofs.Tryz.prog 228 Go.Proofs.Tryz.f228 := ⟨Go.Proofs.Tryz.func228, by kernel_rfl⟩
theorem fo229 : FnOk Go.Proofs.Tryz.prog 229 Go.Proofs.Tryz.f229 := ⟨Go.Proofs.Tryz.func229, by kernel_rfl⟩
theorem fo230 : FnOk Go.Proofs.Tryz.prog 230 Go.Proofs.Tryz.f230 := ⟨Go.Proofs.Tryz.func230, by kernel_rfl⟩
theorem fo231 : FnOk Go.Proofs.Tryz.prog 231 Go.Proofs.Tryz.f231 := ⟨Go.Proofs.Tryz.func231, by kernel_rfl⟩
theorem fo232 : FnOk Go.Proofs.Tryz.prog 232 Go.Proofs.Tryz.f232 := ⟨Go.Proofs.Tryz.func232, by kernel_rfl⟩
theorem fo233 : FnOk Go.Proofs.Tryz.prog 233 Go.Proofs.Tryz.f233 := ⟨Go.Proofs.Tryz.func233, by kernel_rfl⟩
theorem fo234 : FnOk Go.Proofs.Tryz.prog 234 Go.Proofs.Tryz.f234 := ⟨Go.Proofs.Tryz.func234, by kernel_rfl⟩
theorem fo235 : FnOk Go.Proofs.Tryz.prog 235 Go.Proofs.Tryz.f235 := ⟨Go.Proofs.Tryz.func235, by kernel_rfl⟩
theorem fo236 : FnOk Go.Proofs.Tryz.prog 236 Go.Proofs.Tryz.f236 := ⟨Go.Proofs.Tryz.func236, by kernel_rfl⟩
theorem fo237 : FnOk Go.Proofs.Tryz.prog 237 Go.Proofs.Tryz.f237 := ⟨Go.Proofs.Tryz.func237, by kernel_rfl⟩
theorem fo238 : FnOk Go.Proofs.Tryz.prog 238 Go.Proofs.Tryz.f238 := ⟨Go.Proofs.Tryz.func238, by kernel_rfl⟩
theorem fo239 : FnOk Go.Proofs.Tryz.prog 239 Go.Proofs.Tryz.f239 := ⟨Go.Proofs.Tryz.func239, by kernel_rfl⟩
theorem fo240 : FnOk Go.Proofs.Tryz.prog 240 Go.Proofs.Tryz.f240 := ⟨Go.Proofs.Tryz.func240, by kernel_rfl⟩
theorem fo241 : FnOk Go.Proofs.Tryz.prog 241 Go.Proofs.Tryz.f241 := ⟨Go.Proofs.Tryz.func241, by kernel_rfl⟩
theorem fo242 : FnOk Go.Proofs.Tryz.prog 242 Go.Proofs.Tryz.f242 := ⟨Go.Proofs.Tryz.func242, by kernel_rfl⟩
theorem fo243 : FnOk Go.Proofs.Tryz.prog 243 Go.Proofs.Tryz.f243 := ⟨Go.Proofs.Tryz.func243, by kernel_rfl⟩
theorem fo244 : FnOk Go.Proofs.Tryz.prog 244 Go.Proofs.Tryz.f244 := ⟨Go.Proofs.Tryz.func244, by kernel_rfl⟩
theorem fo245 : FnOk Go.Proofs.Tryz.prog 245 Go.Proofs.Tryz.f245 := ⟨Go.Proofs.Tryz.func245, by kernel_rfl⟩
theorem fo246 : FnOk Go.Proofs.Tryz.prog 246 Go.Proofs.Tryz.f246 := ⟨Go.Proofs.Tryz.func246, by kernel_rfl⟩
theorem fo247 : FnOk Go.Proofs.Tryz.prog 247 Go.Proofs.Tryz.f247 := ⟨Go.Proofs.Tryz.func247, by kernel_rfl⟩
theorem fo248 : FnOk Go.Proofs.Tryz.prog 248 Go.Proofs.Tryz.f248 := ⟨Go.Proofs.Tryz.func248, by kernel_rfl⟩
theorem fo249 : FnOk Go.Proofs.Tryz.prog 249 Go.Proofs.Tryz.f249 := ⟨Go.Proofs.Tryz.func249, by kernel_rfl⟩
theorem fo250 : FnOk Go.Proofs.Tryz.prog 250 Go.Proofs.Tryz.f250 := ⟨Go.Proofs.Tryz.func250, by kernel_rfl⟩
theorem fo251 : FnOk Go.Proofs.Tryz.prog 251 Go.Proofs.Tryz.f251 := ⟨Go.Proofs.Tryz.func251, by kernel_rfl⟩
theorem fo252 : FnOk Go.Proofs.Tryz.prog 252 Go.Proofs.Tryz.f252 := ⟨Go.Proofs.Tryz.func252, by kernel_rfl⟩
theorem fo253 : FnOk Go.Proofs.Tryz.prog 253 Go.Proofs.Tryz.f253 := ⟨Go.Proofs.Tryz.func253, by kernel_rfl⟩
theorem fo254 : FnOk Go.Proofs.Tryz.prog 254 Go.Proofs.Tryz.f254 := ⟨Go.Proofs.Tryz.func254, by kernel_rfl⟩
theorem fo255 : FnOk Go.Proofs.Tryz.prog 255 Go.Proofs.Tryz.f255 := ⟨Go.Proofs.Tryz.func255, by kernel_rfl⟩
theorem fo256 : FnOk Go.Proofs.Tryz.prog 256 Go.Proofs.Tryz.f256 := ⟨Go.Proofs.Tryz.func256, by kernel_rfl⟩
theorem fo257 : FnOk Go.Proofs.Tryz.prog 257 Go.Proofs.Tryz.f257 := ⟨Go.Proofs.Tryz.func257, by kernel_rfl⟩
theorem fo258 : FnOk Go.Proofs.Tryz.prog 258 Go.Proofs.Tryz.f258 := ⟨Go.Proofs.Tryz.func258, by kernel_rfl⟩
theorem fo259 : FnOk Go.Proofs.Tryz.prog 259 Go.Proofs.Tryz.f259 := ⟨Go.Proofs.Tryz.func259, by kernel_rfl⟩
theorem fo260 : FnOk Go.Proofs.Tryz.prog 260 Go.Proofs.Tryz.f260 := ⟨Go.Proofs.Tryz.func260, by kernel_rfl⟩
theorem fo261 : FnOk Go.Proofs.Tryz.prog 261 Go.Proofs.Tryz.f261 := ⟨Go.Proofs.Tryz.func261, by kernel_rfl⟩
theorem fo262 : FnOk Go.Proofs.Tryz.prog 262 Go.Proofs.Tryz.f262 := ⟨Go.Proofs.Tryz.func262, by kernel_rfl⟩
theorem fo263 : FnOk Go.Proofs.Tryz.prog 263 Go.Proofs.Tryz.f263 := ⟨Go.Proofs.Tryz.func263, by kernel_rfl⟩
theorem fo264 : FnOk Go.Proofs.Tryz.prog 264 Go.Proofs.Tryz.f264 := ⟨Go.Proofs.Tryz.func264, by kernel_rfl⟩
theorem fo265 : FnOk Go.Proofs.Tryz.prog 265 Go.Proofs.Tryz.f265 := ⟨Go.Proofs.Tryz.func265, by kernel_rfl⟩
theorem fo266 : FnOk Go.Proofs.Tryz.prog 266 Go.Proofs.Tryz.f266 := ⟨Go.Proofs.Tryz.func266, by kernel_rfl⟩
theorem fo267 : FnOk Go.Proofs.Tryz.prog 267 Go.Proofs.Tryz.f267 := ⟨Go.Proofs.Tryz.func267, by kernel_rfl⟩
theorem fo268 : FnOk Go.Proofs.Tryz.prog 268 Go.Proofs.Tryz.f268 := ⟨Go.Proofs.Tryz.func268, by kernel_rfl⟩
theorem fo269 : FnOk Go.Proofs.Tryz.prog 269 Go.Proofs.Tryz.f269 := ⟨Go.Proofs.Tryz.func269, by kernel_rfl⟩
theorem fo270 : FnOk Go.Proofs.Tryz.prog 270 Go.Proofs.Tryz.f270 := ⟨Go.Proofs.Tryz.func270, by kernel_rfl⟩
theorem fo271 : FnOk Go.Proofs.Tryz.prog 271 Go.Proofs.Tryz.f271 := ⟨Go.Proofs.Tryz.func271, by kernel_rfl⟩
theorem fo272 : FnOk Go.Proofs.Tryz.prog 272 Go.Proofs.Tryz.f272 := ⟨Go.Proofs.Tryz.func272, by kernel_rfl⟩
theorem fo273 : FnOk Go.Proofs.Tryz.prog 273 Go.Proofs.Tryz.f273 := ⟨Go.Proofs.Tryz.func273, by kernel_rfl⟩
theorem fo274 : FnOk Go.Proofs.Tryz.prog 274 Go.Proofs.Tryz.f274 := ⟨Go.Proofs.Tryz.func274, by kernel_rfl⟩
theorem fo275 : FnOk Go.Proofs.Tryz.prog 275 Go.Proofs.Tryz.f275 := ⟨Go.Proofs.Tryz.func275, by kernel_rfl⟩
theorem fo276 : FnOk Go.Proofs.Tryz.prog 276 Go.Proofs.Tryz.f276 := ⟨Go.Proofs.Tryz.func276, by kernel_rfl⟩
theorem fo277 : FnOk Go.Proofs.Tryz.prog 277 Go.Proofs.Tryz.f277 := ⟨Go.Proofs.Tryz.func277, by kernel_rfl⟩
theorem fo278 : FnOk Go.Proofs.Tryz.prog 278 Go.Proofs.Tryz.f278 := ⟨Go.Proofs.Tryz.func278, by kernel_rfl⟩
theorem fo279 : FnOk Go.Proofs.Tryz.prog 279 Go.Proofs.Tryz.f279 := ⟨Go.Proofs.Tryz.func279, by kernel_rfl⟩
theorem fo280 : FnOk Go.Proofs.Tryz.prog 280 Go.Proofs.Tryz.f280 := ⟨Go.Proofs.Tryz.func280, by kernel_rfl⟩
theorem fo281 : FnOk Go.Proofs.Tryz.prog 281 Go.Proofs.Tryz.f281 := ⟨Go.Proofs.Tryz.func281, by kernel_rfl⟩
theorem fo282 : FnOk Go.Proofs.Tryz.prog 282 Go.Proofs.Tryz.f282 := ⟨Go.Proofs.Tryz.func282, by kernel_rfl⟩
theorem fo283 : FnOk Go.Proofs.Tryz.prog 283 Go.Proofs.Tryz.f283 := ⟨Go.Proofs.Tryz.func283, by kernel_rfl⟩
theorem fo284 : FnOk Go.Proofs.Tryz.prog 284 Go.Proofs.Tryz.f284 := ⟨Go.Proofs.Tryz.func284, by kernel_rfl⟩
theorem fo285 : FnOk Go.Proofs.Tryz.prog 285 Go.Proofs.Tryz.f285 := ⟨Go.Proofs.Tryz.func285, by kernel_rfl⟩
theorem fo286 : FnOk Go.Proofs.Tryz.prog 286 Go.Proofs.Tryz.f286 := ⟨Go.Proofs.Tryz.func286, by kernel_rfl⟩
theorem fo287 : FnOk Go.Proofs.Tryz.prog 287 Go.Proofs.Tryz.f287 := ⟨Go.Proofs.Tryz.func287, by kernel_rfl⟩
theorem fo288 : FnOk Go.Proofs.Tryz.prog 288 Go.Proofs.Tryz.f288 := ⟨Go.Proofs.Tryz.func288, by kernel_rfl⟩
theorem fo289 : FnOk Go.Proofs.Tryz.prog 289 Go.Proofs.Tryz.f289 := ⟨Go.Proofs.Tryz.func289, by kernel_rfl⟩
theorem fo290 : FnOk Go.Proofs.Tryz.prog 290 Go.Proofs.Tryz.f290 := ⟨Go.Proofs.Tryz.func290, by kernel_rfl⟩
theorem fo291 : FnOk Go.Proofs.Tryz.prog 291 Go.Proofs.Tryz.f291 := ⟨Go.Proofs.Tryz.func291, by kernel_rfl⟩
theorem fo292 : FnOk Go.Proofs.Tryz.prog 292 Go.Proofs.Tryz.f292 := ⟨Go.Proofs.Tryz.func292, by kernel_rfl⟩
theorem fo293 : FnOk Go.Proofs.Tryz.prog 293 Go.Proofs.Tryz.f293 := ⟨Go.Proofs.Tryz.func293, by kernel_rfl⟩
theorem fo294 : FnOk Go.Proofs.Tryz.prog 294 Go.Proofs.Tryz.f294 := ⟨Go.Proofs.Tryz.func294, by kernel_rfl⟩
theorem fo295 : FnOk Go.Proofs.Tryz.prog 295 Go.Proofs.Tryz.f295 := ⟨Go.Proofs.Tryz.func295, by kernel_rfl⟩
theorem fo296 : FnOk Go.Proofs.Tryz.prog 296 Go.Proofs.Tryz.f296 := ⟨Go.Proofs.Tryz.func296, by kernel_rfl⟩
theorem fo297 : FnOk Go.Proofs.Tryz.prog 297 Go.Proofs.Tryz.f297 := ⟨Go.Proofs.Tryz.func297, by kernel_rfl⟩
theorem fo298 : FnOk Go.Proofs.Tryz.prog 298 Go.Proofs.Tryz.f298 := ⟨Go.Proofs.Tryz.func298, by kernel_rfl⟩
theorem fo299 : FnOk Go.Proofs.Tryz.prog 299 Go.Proofs.Tryz.f299 := ⟨Go.Proofs.Tryz.func299, by kernel_rfl⟩
theorem fo300 : FnOk Go.Proofs.Tryz.prog 300 Go.Proofs.Tryz.f300 := ⟨Go.Proofs.Tryz.func300, by kernel_rfl⟩
theorem fo301 : FnOk Go.Proofs.Tryz.prog 301 Go.Proofs.Tryz.f301 := ⟨Go.Proofs.Tryz.func301, by kernel_rfl⟩
theorem fo302 : FnOk Go.Proofs.Tryz.prog 302 Go.Proofs.Tryz.f302 := ⟨Go.Proofs.Tryz.func302, by kernel_rfl⟩
theorem fo303 : FnOk Go.Proofs.Tryz.prog 303 Go.Proofs.Tryz.f303 := ⟨Go.Proofs.Tryz.func303, by kernel_rfl⟩
theorem fo304 : FnOk Go.Proofs.Tryz.prog 304 Go.Proofs.Tryz.f304 := ⟨Go.Proofs.Tryz.func304, by kernel_rfl⟩
theorem fo305 : FnOk Go.Proofs.Tryz.prog 305 Go.Proofs.Tryz.f305 := ⟨Go.Proofs.Tryz.func305, by kernel_rfl⟩
theorem fo306 : FnOk Go.Proofs.Tryz.prog 306 Go.Proofs.Tryz.f306 := ⟨Go.Proofs.Tryz.func306, by kernel_rfl⟩
theorem fo307 : FnOk Go.Proofs.Tryz.prog 307 Go.Proofs.Tryz.f307 := ⟨Go.Proofs.Tryz.func307, by kernel_rfl⟩
theorem fo308 : FnOk Go.Proofs.Tryz.prog 308 Go.Proofs.Tryz.f308 := ⟨Go.Proofs.Tryz.func308, by kernel_rfl⟩
theorem fo309 : FnOk Go.Proofs.Tryz.prog 309 Go.Proofs.Tryz.f309 := ⟨Go.Proofs.Tryz.func309, by kernel_rfl⟩
theorem fo310 : FnOk Go.Proofs.Tryz.prog 310 Go.Proofs.Tryz.f310 := ⟨Go.Proofs.Tryz.func310, by kernel_rfl⟩
theorem fo311 : FnOk Go.Proofs.Tryz.prog 311 Go.Proofs.Tryz.f311 := ⟨Go.Proofs.Tryz.func311, by kernel_rfl⟩
theorem fo312 : FnOk Go.Proofs.Tryz.prog 312 Go.Proofs.Tryz.f312 := ⟨Go.Proofs.Tryz.func312, by kernel_rfl⟩
theorem fo313 : FnOk Go.Proofs.Tryz.prog 313 Go.Proofs.Tryz.f313 := ⟨Go.Proofs.Tryz.func313, by kernel_rfl⟩
theorem fo315 : FnOk Go.Proofs.Tryz.prog 315 Go.Proofs.Tryz.f315 := ⟨Go.Proofs.Tryz.func315, by kernel_rfl⟩
theorem fo316 : FnOk Go.Proofs.Tryz.prog 316 Go.Proofs.Tryz.f316 := ⟨Go.Proofs.Tryz.func316, by kernel_rfl⟩
theorem fo317 : FnOk Go.Proofs.Tryz.prog 317 Go.Proofs.Tryz.f317 := ⟨Go.Proofs.Tryz.func317, by kernel_rfl⟩
noncomputable def ft : Tr Func := (.node none (.node none (.node (some Go.Proofs.Tryz.f3) (.node (some Go.Proofs.Tryz.f7) (.node (some Go.Proofs.Tryz.f15) (.node (some Go.Proofs.Tryz.f31) (.node (some Go.Proofs.Tryz.f63) (.node (some Go.Proofs.Tryz.f127) (.node (some Go.Proofs.Tryz.f255) .leaf .leaf) .leaf) (.node (some Go.Proofs.Tryz.f191) .leaf .leaf)) (.node (some Go.Proofs.Tryz.f95) (.node (some Go.Proofs.Tryz.f159) (.node (some Go.Proofs.Tryz.f287) .leaf .leaf) .leaf) (.node (some Go.Proofs.Tryz.f223) .leaf .leaf))) (.node (some Go.Proofs.Tryz.f47) (.node (some Go.Proofs.Tryz.f79) (.node (some Go.Proofs.Tryz.f143) (.node (some Go.Proofs.Tryz.f271) .leaf .leaf) .leaf) (.node (some Go.Proofs.Tryz.f207) .leaf .leaf)) (.node (some Go.Proofs.Tryz.f111) (.node (some Go.Proofs.Tryz.f175) (.node (some Go.Proofs.Tryz.f303) .leaf .leaf) .leaf) (.node (some Go.Proofs.Tryz.f239) .leaf .leaf)))) (.node (some Go.Proofs.Tryz.f23) (.node (some Go.Proofs.Tryz.f39) (.node (some Go.Proofs.Tryz.f71) (.node (some Go.Proofs.Tryz.f135) (.node (some Go.Proofs.Tryz.f263) .leaf .leaf) .leaf) (.node (some Go.Proofs.Tryz.f199) .leaf .leaf)) (.node (some Go.Proofs.Tryz.f103) (.node (some Go.Proofs.Tryz.f167) (.node (some Go.Proofs.Tryz.f295) .leaf .leaf) .leaf) (.node (some Go.Proofs.Tryz.f231) .leaf .leaf))) (.node (some Go.Proofs.Tryz.f55) (.node (some Go.Proofs.Tryz.f87) (.node (some Go.Proofs.Tryz.f151) (.node (some Go.Proofs.Tryz.f279) .leaf .leaf) .leaf) (.node (some Go.Proofs.Tryz.f215) .leaf .leaf)) (.node (some Go.Proofs.Tryz.f119) (.node (some Go.Proofs.Tryz.f183) (.node (some Go.Proofs.Tryz.f311) .leaf .leaf) .leaf) (.node (some Go.Proofs.Tryz.f247) .leaf .leaf))))) (.node (some Go.Proofs.Tryz.f11) (.node (some Go.Proofs.Tryz.f19) (.node (some Go.Proofs.Tryz.f35) (.node (some Go.Proofs.Tryz.f67) (.node (some Go.Proofs.Tryz.f131) (.node (some Go.Proofs.Tryz.f259) .leaf .leaf) .leaf) (.node (some Go.Proofs.Tryz.f195) .leaf .leaf)) (.node (some Go.Proofs.Tryz.f99) (.node (some Go.Proofs.Tryz.f163) (.node (some Go.Proofs.Tryz.f291) .leaf .leaf) .leaf) (.node (some Go.Proofs.Tryz.f227) .leaf .leaf))) (.node (some Go.Proofs.Tryz.f51) (.node (some Go.Proofs.Tryz.f83) (.node (some Go.Proofs.Tryz.f147) (.node (some Go.Proofs.Tryz.f275) .leaf .leaf) .leaf) (.node (some Go.Proofs.Tryz.f211) .leaf .leaf)) (.node (some Go.Proofs.Tryz.f115) (.node (some Go.Proofs.Tryz.f179) (.node (some Go.Proofs.Tryz.f307) .leaf .leaf) .leaf) (.node (some Go.Proofs.Tryz.f243) .leaf .leaf)))) (.node (some Go.Proofs.Tryz.f27) (.node (some Go.Proofs.Tryz.f43) (.node (some Go.Proofs.Tryz.f75) (.node (some Go.Proofs.Tryz.f139) (.node (some Go.Proofs.Tryz.f267) .leaf .leaf) .leaf) (.node (some Go.Proofs.Tryz.f203) .leaf .leaf)) (.node (some Go.Proofs.Tryz.f107) (.node (some Go.Proofs.Tryz.f171) (.node (some Go.Proofs.Tryz.f299) .leaf .leaf) .leaf) (.node (some Go.Proofs.Tryz.f235) .leaf .leaf))) (.node (some Go.Proofs.Tryz.f59) (.node (some Go.Proofs.Tryz.f91) (.node (some Go.Proofs.Tryz.f155) (.node (some Go.Proofs.Tryz.f283) .leaf .leaf) .leaf) (.node (some Go.Proofs.Tryz.f219) .leaf .leaf)) (.node (some Go.Proofs.Tryz.f123) (.node (some Go.Proofs.Tryz.f187) (.node (some Go.Proofs.Tryz.f315) .leaf .leaf) .leaf) (.node (some Go.Proofs.Tryz.f251) .leaf .leaf)))))) (.node (some Go.Proofs.Tryz.f5) (.node (some Go.Proofs.Tryz.f9) (.node (some Go.Proofs.Tryz.f17) (.node (some Go.Proofs.Tryz.f33) (.node (some Go.Proofs.Tryz.f65) (.node (some Go.Proofs.Tryz.f129) (.node (some Go.Proofs.Tryz.f257) .leaf .leaf) .leaf) (.node (some Go.Proofs.Tryz.f193) .leaf .leaf)) (.node (some Go.Proofs.Tryz.f97) (.node (some Go.Proofs.Tryz.f161) (.node (some Go.Proofs.Tryz.f289) .leaf .leaf) .leaf) (.node (some Go.Proofs.Tryz.f225) .leaf .leaf))) (.node (some Go.Proofs.Tryz.f49) (.node (some Go.Proofs.Tryz.f81) (.node (some Go.Proofs.Tryz.f145) (.node (some Go.Proofs.Tryz.f273) .leaf .leaf) .leaf) (.node (some Go.Proofs.Tryz.f209) .leaf .leaf)) (.node (some Go.Proofs.Tryz.f113) (.node (some Go.Proofs.Tryz.f177) (.node (some Go.Proofs.Tryz.f305) .leaf .leaf) .leaf) (.node (some Go.Proofs.Tryz.f241) .leaf .leaf)))) (.node (some Go.Proofs.Tryz.f25) (.node (some Go.Proofs.Tryz.f41) (.node (some Go.Proofs.Tryz.f73) (.node (some Go.Proofs.Tryz.f137) (.node (some Go.Proofs.Tryz.f265) .leaf .leaf) .leaf) (.node (some Go.Proofs.Tryz.f201) .leaf .leaf)) (.node (some Go.Proofs.Tryz.f105) (.node (some Go.Proofs.Tryz.f169) (.node (some Go.Proofs.Tryz.f297) .leaf .leaf) .leaf) (.node (some Go.Proofs.Tryz.f233) .leaf .leaf))) (.node (some Go.Proofs.Tryz.f57) (.node (some Go.Proofs.Tryz.f89) (.node (some Go.Proofs.Tryz.f153) (.node (some Go.Proofs.Tryz.f281) .leaf .leaf) .leaf) (.node (some Go.Proofs.Tryz.f217) .leaf .leaf)) (.node (some Go.Proofs.Tryz.f121) (.node (some Go.Proofs.Tryz.f185) (.node (some Go.Proofs.Tryz.f313) .leaf .leaf) .leaf) (.node (some Go.Proofs.Tryz.f249) .leaf .leaf))))) (.node (some Go.Proofs.Tryz.f13) (.node (some Go.Proofs.Tryz.f21) (.node (some Go.Proofs.Tryz.f37) (.node (some Go.Proofs.Tryz.f69) (.node (some Go.Proofs.Tryz.f133) (.node (some Go.Proofs.Tryz.f261) .leaf .leaf) .leaf) (.node (some Go.Proofs.Tryz.f197) .leaf .leaf)) (.node (some Go.Proofs.Tryz.f101) (.node (some Go.Proofs.Tryz.f165) (.node (some Go.Proofs.Tryz.f293) .leaf .leaf) .leaf) (.node (some Go.Proofs.Tryz.f229) .leaf .leaf))) (.node (some Go.Proofs.Tryz.f53) (.node (some Go.Proofs.Tryz.f85) (.node (some Go.Proofs.Tryz.f149) (.node (some Go.Proofs.Tryz.f277) .leaf .leaf) .leaf) (.node (some Go.Proofs.Tryz.f213) .leaf .leaf)) (.node (some Go.Proofs.Tryz.f117) (.node (some Go.Proofs.Tryz.f181) (.node (some Go.Proofs.Tryz.f309) .leaf .leaf) .leaf) (.node (some Go.Proofs.Tryz.f245) .leaf .leaf)))) (.node (some Go.Proofs.Tryz.f29) (.node (some Go.Proofs.Tryz.f45) (.node (some Go.Proofs.Tryz.f77) (.node (some Go.Proofs.Tryz.f141) (.node (some Go.Proofs.Tryz.f269) .leaf .leaf) .leaf) (.node (some Go.Proofs.Tryz.f205) .leaf .leaf)) (.node (some Go.Proofs.Tryz.f109) (.node (some Go.Proofs.Tryz.f173) (.node (some Go.Proofs.Tryz.f301) .leaf .leaf) .leaf) (.node (some Go.Proofs.Tryz.f237) .leaf .leaf))) (.node (some Go.Proofs.Tryz.f61) (.node (some Go.Proofs.Tryz.f93) (.node (some Go.Proofs.Tryz.f157) (.node (some Go.Proofs.Tryz.f285) .leaf .leaf) .leaf) (.node (some Go.Proofs.Tryz.f221) .leaf .leaf)) (.node (some Go.Proofs.Tryz.f125) (.node (some Go.Proofs.Tryz.f189) (.node (some Go.Proofs.Tryz.f317) .leaf .leaf) .leaf) (.node (some Go.Proofs.Tryz.f253) .leaf .leaf))))))) (.node (some Go.Proofs.Tryz.f2) (.node (some Go.Proofs.Tryz.f4) (.node (some Go.Proofs.Tryz.f8) (.node (some Go.Proofs.Tryz.f16) (.node (some Go.Proofs.Tryz.f32) (.node (some Go.Proofs.Tryz.f64) (.node (some Go.Proofs.Tryz.f128) (.node (some Go.Proofs.Tryz.f256) .leaf .leaf) .leaf) (.node (some Go.Proofs.Tryz.f192) .leaf .leaf)) (.node (some Go.Proofs.Tryz.f96) (.node (some Go.Proofs.Tryz.f160) (.node (some Go.Proofs.Tryz.f288) .leaf .leaf) .leaf) (.node (some Go.Proofs.Tryz.f224) .leaf .leaf))) (.node (some Go.Proofs.Tryz.f48) (.node (some Go.Proofs.Tryz.f80) (.node (some Go.Proofs.Tryz.f144) (.node (some Go.Proofs.Tryz.f272) .leaf .leaf) .leaf) (.node (some Go.Proofs.Tryz.f208) .leaf .leaf)) (.node (some Go.Proofs.Tryz.f112) (.node (some Go.Proofs.Tryz.f176) (.node (some Go.Proofs.Tryz.f304) .leaf .leaf) .leaf) (.node (some Go.Proofs.Tryz.f240) .leaf .leaf)))) (.node (some Go.Proofs.Tryz.f24) (.node (some Go.Proofs.Tryz.f40) (.node (some Go.Proofs.Tryz.f72) (.node (some Go.Proofs.Tryz.f136) (.node (some Go.Proofs.Tryz.f264) .leaf .leaf) .leaf) (.node (some Go.Proofs.Tryz.f200) .leaf .leaf)) (.node (some Go.Proofs.Tryz.f104) (.node (some Go.Proofs.Tryz.f168) (.node (some Go.Proofs.Tryz.f296) .leaf .leaf) .leaf) (.node (some Go.Proofs.Tryz.f232) .leaf .leaf))) (.node (some Go.Proofs.Tryz.f56) (.node (some Go.Proofs.Tryz.f88) (.node (some Go.Proofs.Tryz.f152) (.node (some Go.Proofs.Tryz.f280) .leaf .leaf) .leaf) (.node (some Go.Proofs.Tryz.f216) .leaf .leaf)) (.node (some Go.Proofs.Tryz.f120) (.node (some Go.Proofs.Tryz.f184) (.node (some Go.Proofs.Tryz.f312) .leaf .leaf) .leaf) (.node (some Go.Proofs.Tryz.f248) .leaf .leaf))))) (.node (some Go.Proofs.Tryz.f12) (.node (some Go.Proofs.Tryz.f20) (.node (some Go.Proofs.Tryz.f36) (.node (some Go.Proofs.Tryz.f68) (.node (some Go.Proofs.Tryz.f132) (.node (some Go.Proofs.Tryz.f260) .leaf .leaf) .leaf) (.node (some Go.Proofs.Tryz.f196) .leaf .leaf)) (.node (some Go.Proofs.Tryz.f100) (.node (some Go.Proofs.Tryz.f164) (.node (some Go.Proofs.Tryz.f292) .leaf .leaf) .leaf) (.node (some Go.Proofs.Tryz.f228) .leaf .leaf))) (.node (some Go.Proofs.Tryz.f52) (.node (some Go.Proofs.Tryz.f84) (.node (some Go.Proofs.Tryz.f148) (.node (some Go.Proofs.Tryz.f276) .leaf .leaf) .leaf) (.node (some Go.Proofs.Tryz.f212) .leaf .leaf)) (.node (some Go.Proofs.Tryz.f116) (.node (some Go.Proofs.Tryz.f180) (.node (some Go.Proofs.Tryz.f308) .leaf .leaf) .leaf) (.node (some Go.Proofs.Tryz.f244) .leaf .leaf)))) (.node (some Go.Proofs.Tryz.f28) (.node (some Go.Proofs.Tryz.f44) (.node (some Go.Proofs.Tryz.f76) (.node (some Go.Proofs.Tryz.f140) (.node (some Go.Proofs.Tryz.f268) .leaf .leaf) .leaf) (.node (some Go.Proofs.Tryz.f204) .leaf .leaf)) (.node (some Go.Proofs.Tryz.f108) (.node (some Go.Proofs.Tryz.f172) (.node (some Go.Proofs.Tryz.f300) .leaf .leaf) .leaf) (.node (some Go.Proofs.Tryz.f236) .leaf .leaf))) (.node (some Go.Proofs.Tryz.f60) (.node (some Go.Proofs.Tryz.f92) (.node (some Go.Proofs.Tryz.f156) (.node (some Go.Proofs.Tryz.f284) .leaf .leaf) .leaf) (.node (some Go.Proofs.Tryz.f220) .leaf .leaf)) (.node (some Go.Proofs.Tryz.f124) (.node (some Go.Proofs.Tryz.f188) (.node (some Go.Proofs.Tryz.f316) .leaf .leaf) .leaf) (.node (some Go.Proofs.Tryz.f252) .leaf .leaf)))))) (.node (some Go.Proofs.Tryz.f6) (.node (some Go.Proofs.Tryz.f10) (.node (some Go.Proofs.Tryz.f18) (.node (some Go.Proofs.Tryz.f34) (.node (some Go.Proofs.Tryz.f66) (.node (some Go.Proofs.Tryz.f130) (.node (some Go.Proofs.Tryz.f258) .leaf .leaf) .leaf) (.node (some Go.Proofs.Tryz.f194) .leaf .leaf)) (.node (some Go.Proofs.Tryz.f98) (.node (some Go.Proofs.Tryz.f162) (.node (some Go.Proofs.Tryz.f290) .leaf .leaf) .leaf) (.node (some Go.Proofs.Tryz.f226) .leaf .leaf))) (.node (some Go.Proofs.Tryz.f50) (.node (some Go.Proofs.Tryz.f82) (.node (some Go.Proofs.Tryz.f146) (.node (some Go.Proofs.Tryz.f274) .leaf .leaf) .leaf) (.node (some Go.Proofs.Tryz.f210) .leaf .leaf)) (.node (some Go.Proofs.Tryz.f114) (.node (some Go.Proofs.Tryz.f178) (.node (some Go.Proofs.Tryz.f306) .leaf .leaf) .leaf) (.node (some Go.Proofs.Tryz.f242) .leaf .leaf)))) (.node (some Go.Proofs.Tryz.f26) (.node (some Go.Proofs.Tryz.f42) (.node (some Go.Proofs.Tryz.f74) (.node (some Go.Proofs.Tryz.f138) (.node (some Go.Proofs.Tryz.f266) .leaf .leaf) .leaf) (.node (some Go.Proofs.Tryz.f202) .leaf .leaf)) (.node (some Go.Proofs.Tryz.f106) (.node (some Go.Proofs.Tryz.f170) (.node (some Go.Proofs.Tryz.f298) .leaf .leaf) .leaf) (.node (some Go.Proofs.Tryz.f234) .leaf .leaf))) (.node (some Go.Proofs.Tryz.f58) (.node (some Go.Proofs.Tryz.f90) (.node (some Go.Proofs.Tryz.f154) (.node (some Go.Proofs.Tryz.f282) .leaf .leaf) .leaf) (.node (some Go.Proofs.Tryz.f218) .leaf .leaf)) (.node (some Go.Proofs.Tryz.f122) (.node (some Go.Proofs.Tryz.f186) .leaf .leaf) (.node (some Go.Proofs.Tryz.f250) .leaf .leaf))))) (.node (some Go.Proofs.Tryz.f14) (.node (some Go.Proofs.Tryz.f22) (.node (some Go.Proofs.Tryz.f38) (.node (some Go.Proofs.Tryz.f70) (.node (some Go.Proofs.Tryz.f134) (.node (some Go.Proofs.Tryz.f262) .leaf .leaf) .leaf) (.node (some Go.Proofs.Tryz.f198) .leaf .leaf)) (.node (some Go.Proofs.Tryz.f102) (.node (some Go.Proofs.Tryz.f166) (.node (some Go.Proofs.Tryz.f294) .leaf .leaf) .leaf) (.node (some Go.Proofs.Tryz.f230) .leaf .leaf))) (.node (some Go.Proofs.Tryz.f54) (.node (some Go.Proofs.Tryz.f86) (.node (some Go.Proofs.Tryz.f150) (.node (some Go.Proofs.Tryz.f278) .leaf .leaf) .leaf) (.node (some Go.Proofs.Tryz.f214) .leaf .leaf)) (.node (some Go.Proofs.Tryz.f118) (.node (some Go.Proofs.Tryz.f182) (.node (some Go.Proofs.Tryz.f310) .leaf .leaf) .leaf) (.node (some Go.Proofs.Tryz.f246) .leaf .leaf)))) (.node (some Go.Proofs.Tryz.f30) (.node (some Go.Proofs.Tryz.f46) (.node (some Go.Proofs.Tryz.f78) (.node (some Go.Proofs.Tryz.f142) (.node (some Go.Proofs.Tryz.f270) .leaf .leaf) .leaf) (.node (some Go.Proofs.Tryz.f206) .leaf .leaf)) (.node (some Go.Proofs.Tryz.f110) (.node (some Go.Proofs.Tryz.f174) (.node (some Go.Proofs.Tryz.f302) .leaf .leaf) .leaf) (.node (some Go.Proofs.Tryz.f238) .leaf .leaf))) (.node (some Go.Proofs.Tryz.f62) (.node (some Go.Proofs.Tryz.f94) (.node (some Go.Proofs.Tryz.f158) (.node (some Go.Proofs.Tryz.f286) .leaf .leaf) .leaf) (.node (some Go.Proofs.Tryz.f222) .leaf .leaf)) (.node (some Go.Proofs.Tryz.f126) (.node (some Go.Proofs.Tryz.f190) .leaf .leaf) (.node (some Go.Proofs.Tryz.f254) .leaf .leaf))))))))
theorem ft_ok : Fok Go.Proofs.Tryz.prog ft := fok_of (⟨trivial, ⟨trivial, ⟨fo3, ⟨fo7, ⟨fo15, ⟨fo31, ⟨fo63, ⟨fo127, ⟨fo255, trivial, trivial⟩, trivial⟩, ⟨fo191, trivial, trivial⟩⟩, ⟨fo95, ⟨fo159, ⟨fo287, trivial, trivial⟩, trivial⟩, ⟨fo223, trivial, trivial⟩⟩⟩, ⟨fo47, ⟨fo79, ⟨fo143, ⟨fo271, trivial, trivial⟩, trivial⟩, ⟨fo207, trivial, trivial⟩⟩, ⟨fo111, ⟨fo175, ⟨fo303, trivial, trivial⟩, trivial⟩, ⟨fo239, trivial, trivial⟩⟩⟩⟩, ⟨fo23, ⟨fo39, ⟨fo71, ⟨fo135, ⟨fo263, trivial, trivial⟩, trivial⟩, ⟨fo199, trivial, trivial⟩⟩, ⟨fo103, ⟨fo167, ⟨fo295, trivial, trivial⟩, trivial⟩, ⟨fo231, trivial, trivial⟩⟩⟩, ⟨fo55, ⟨fo87, ⟨fo151, ⟨fo279, trivial, trivial⟩, trivial⟩, ⟨fo215, trivial, trivial⟩⟩, ⟨fo119, ⟨fo183, ⟨fo311, trivial, trivial⟩, trivial⟩, ⟨fo247, trivial, trivial⟩⟩⟩⟩⟩, ⟨fo11, ⟨fo19, ⟨fo35, ⟨fo67, ⟨fo131, ⟨fo259, trivial, trivial⟩, trivial⟩, ⟨fo195, trivial, trivial⟩⟩, ⟨fo99, ⟨fo163, ⟨fo291, trivial, trivial⟩, trivial⟩, ⟨fo227, trivial, trivial⟩⟩⟩, ⟨fo51, ⟨fo83, ⟨fo147, ⟨fo275, trivial, trivial⟩, trivial⟩, ⟨fo211, trivial, trivial⟩⟩, ⟨fo115, ⟨fo179, ⟨fo307, trivial, trivial⟩, trivial⟩, ⟨fo243, trivial, trivial⟩⟩⟩⟩, ⟨fo27, ⟨fo43, ⟨fo75, ⟨fo139, ⟨fo267, trivial, trivial⟩, trivial⟩, ⟨fo203, trivial, trivial⟩⟩, ⟨fo107, ⟨fo171, ⟨fo299, trivial, trivial⟩, trivial⟩, ⟨fo235, trivial, trivial⟩⟩⟩, ⟨fo59, ⟨fo91, ⟨fo155, ⟨fo283, trivial, trivial⟩, trivial⟩, ⟨fo219, trivial, trivial⟩⟩, ⟨fo123, ⟨fo187, ⟨fo315, trivial, trivial⟩, trivial⟩, ⟨fo251, trivial, trivial⟩⟩⟩⟩⟩⟩, ⟨fo5, ⟨fo9, ⟨fo17, ⟨fo33, ⟨fo65, ⟨fo129, ⟨fo257, trivial, trivial⟩, trivial⟩, ⟨fo193, trivial, trivial⟩⟩, ⟨fo97, ⟨fo161, ⟨fo289, trivial, trivial⟩, trivial⟩, ⟨fo225, trivial, trivial⟩⟩⟩, ⟨fo49, ⟨fo81, ⟨fo145, ⟨fo273, trivial, trivial⟩, trivial⟩, ⟨fo209, trivial, trivial⟩⟩, ⟨fo113, ⟨fo177, ⟨fo305, trivial, trivial⟩, trivial⟩, ⟨fo241, trivial, trivial⟩⟩⟩⟩, ⟨fo25, ⟨fo41, ⟨fo73, ⟨fo137, ⟨fo265, trivial, trivial⟩, trivial⟩, ⟨fo201, trivial, trivial⟩⟩, ⟨fo105, ⟨fo169, ⟨fo297, trivial, trivial⟩, trivial⟩, ⟨fo233, trivial, trivial⟩⟩⟩, ⟨fo57, ⟨fo89, ⟨fo153, ⟨fo281, trivial, trivial⟩, trivial⟩, ⟨fo217, trivial, trivial⟩⟩, ⟨fo121, ⟨fo185, ⟨fo313, trivial, trivial⟩, trivial⟩, ⟨fo249, trivial, trivial⟩⟩⟩⟩⟩, ⟨fo13, ⟨fo21, ⟨fo37, ⟨fo69, ⟨fo133, ⟨fo261, trivial, trivial⟩, trivial⟩, ⟨fo197, trivial, trivial⟩⟩, ⟨fo101, ⟨fo165, ⟨fo293, trivial, trivial⟩, trivial⟩, ⟨fo229, trivial, trivial⟩⟩⟩, ⟨fo53, ⟨fo85, ⟨fo149, ⟨fo277, trivial, trivial⟩, trivial⟩, ⟨fo213, trivial, trivial⟩⟩, ⟨fo117, ⟨fo181, ⟨fo309, trivial, trivial⟩, trivial⟩, ⟨fo245, trivial, trivial⟩⟩⟩⟩, ⟨fo29, ⟨fo45, ⟨fo77, ⟨fo141, ⟨fo269, trivial, trivial⟩, trivial⟩, ⟨fo205, trivial, trivial⟩⟩, ⟨fo109, ⟨fo173, ⟨fo301, trivial, trivial⟩, trivial⟩, ⟨fo237, trivial, trivial⟩⟩⟩, ⟨fo61, ⟨fo93, ⟨fo157, ⟨fo285, trivial, trivial⟩, trivial⟩, ⟨fo221, trivial, trivial⟩⟩, ⟨fo125, ⟨fo189, ⟨fo317, trivial, trivial⟩, trivial⟩, ⟨fo253, trivial, trivial⟩⟩⟩⟩⟩⟩⟩, ⟨fo2, ⟨fo4, ⟨fo8, ⟨fo16, ⟨fo32, ⟨fo64, ⟨fo128, ⟨fo256, trivial, trivial⟩, trivial⟩, ⟨fo192, trivial, trivial⟩⟩, ⟨fo96, ⟨fo160, ⟨fo288, trivial, trivial⟩, trivial⟩, ⟨fo224, trivial, trivial⟩⟩⟩, ⟨fo48, ⟨fo80, ⟨fo144, ⟨fo272, trivial, trivial⟩, trivial⟩, ⟨fo208, trivial, trivial⟩⟩, ⟨fo112, ⟨fo176, ⟨fo304, trivial, trivial⟩, trivial⟩, ⟨fo240, trivial, trivial⟩⟩⟩⟩, ⟨fo24, ⟨fo40, ⟨fo72, ⟨fo136, ⟨fo264, trivial, trivial⟩, trivial⟩, ⟨fo200, trivial, trivial⟩⟩, ⟨fo104, ⟨fo168, ⟨fo296, trivial, trivial⟩, trivial⟩, ⟨fo232, trivial, trivial⟩⟩⟩, ⟨fo56, ⟨fo88, ⟨fo152, ⟨fo280, trivial, trivial⟩, trivial⟩, ⟨fo216, trivial, trivial⟩⟩, ⟨fo120, ⟨fo184, ⟨fo312, trivial, trivial⟩, trivial⟩, ⟨fo248, trivial, trivial⟩⟩⟩⟩⟩, ⟨fo12, ⟨fo20, ⟨fo36, ⟨fo68, ⟨fo132, ⟨fo260, trivial, trivial⟩, trivial⟩, ⟨fo196, trivial, trivial⟩⟩, ⟨fo100, ⟨fo164, ⟨fo292, trivial, trivial⟩, trivial⟩, ⟨fo228, trivial, trivial⟩⟩⟩, ⟨fo52, ⟨fo84, ⟨fo148, ⟨fo276, trivial, trivial⟩, trivial⟩, ⟨fo212, trivial, trivial⟩⟩, ⟨fo116, ⟨fo180, ⟨fo308, trivial, trivial⟩, trivial⟩, ⟨fo244, trivial, trivial⟩⟩⟩⟩, ⟨fo28, ⟨fo44, ⟨fo76, ⟨fo140, ⟨fo268, trivial, trivial⟩, trivial⟩, ⟨fo204, trivial, trivial⟩⟩, ⟨fo108, ⟨fo172, ⟨fo300, trivial, trivial⟩, trivial⟩, ⟨fo236, trivial, trivial⟩⟩⟩, ⟨fo60, ⟨fo92, ⟨fo156, ⟨fo284, trivial, trivial⟩, trivial⟩, ⟨fo220, trivial, trivial⟩⟩, ⟨fo124, ⟨fo188, ⟨fo316, trivial, trivial⟩, trivial⟩, ⟨fo252, trivial, trivial⟩⟩⟩⟩⟩⟩, ⟨fo6, ⟨fo10, ⟨fo18, ⟨fo34, ⟨fo66, ⟨fo130, ⟨fo258, trivial, trivial⟩, trivial⟩, ⟨fo194, trivial, trivial⟩⟩, ⟨fo98, ⟨fo162, ⟨fo290, trivial, trivial⟩, trivial⟩, ⟨fo226, trivial, trivial⟩⟩⟩, ⟨fo50, ⟨fo82, ⟨fo146, ⟨fo274, trivial, trivial⟩, trivial⟩, ⟨fo210, trivial, trivial⟩⟩, ⟨fo114, ⟨fo178, ⟨fo306, trivial, trivial⟩, trivial⟩, ⟨fo242, trivial, trivial⟩⟩⟩⟩, ⟨fo26, ⟨fo42, ⟨fo74, ⟨fo138, ⟨fo266, trivial, trivial⟩, trivial⟩, ⟨fo202, trivial, trivial⟩⟩, ⟨fo106, ⟨fo170, ⟨fo298, trivial, trivial⟩, trivial⟩, ⟨fo234, trivial, trivial⟩⟩⟩, ⟨fo58, ⟨fo90, ⟨fo154, ⟨fo282, trivial, trivial⟩, trivial⟩, ⟨fo218, trivial, trivial⟩⟩, ⟨fo122, ⟨fo186, trivial, trivial⟩, ⟨fo250, trivial, trivial⟩⟩⟩⟩⟩, ⟨fo14, ⟨fo22, ⟨fo38, ⟨fo70, ⟨fo134, ⟨fo262, trivial, trivial⟩, trivial⟩, ⟨fo198, trivial, trivial⟩⟩, ⟨fo102, ⟨fo166, ⟨fo294, trivial, trivial⟩, trivial⟩, ⟨fo230, trivial, trivial⟩⟩⟩, ⟨fo54, ⟨fo86, ⟨fo150, ⟨fo278, trivial, trivial⟩, trivial⟩, ⟨fo214, trivial, trivial⟩⟩, ⟨fo118, ⟨fo182, ⟨fo310, trivial, trivial⟩, trivial⟩, ⟨fo246, trivial, trivial⟩⟩⟩⟩, ⟨fo30, ⟨fo46, ⟨fo78, ⟨fo142, ⟨fo270, trivial, trivial⟩, trivial⟩, ⟨fo206, trivial, trivial⟩⟩, ⟨fo110, ⟨fo174, ⟨fo302, trivial, trivial⟩, trivial⟩, ⟨fo238, trivial, trivial⟩⟩⟩, ⟨fo62, ⟨fo94, ⟨fo158, ⟨fo286, trivial, trivial⟩, trivial⟩, ⟨fo222, trivial, trivial⟩⟩, ⟨fo126, ⟨fo190, trivial, trivial⟩, ⟨fo254, trivial, trivial⟩⟩⟩⟩⟩⟩⟩⟩)
end Go.Rn
end
section
namespace Go.Rn
open Go.RowKit
open Go.Vm (enters)
set_option maxRecDepth 1000000
def sumTab : V := .agg [.sc (.int .u32 0), .sc (.int .u32 1996959894), .sc (.int .u32 3993919788), .sc (.int .u32 2567524794), .sc (.int .u32 124634137), .sc (.int .u32 1886057615), .sc (.int .u32 3915621685), .sc (.int .u32 2657392035), .sc (.int .u32 249268274), .sc (.int .u32 2044508324), .sc (.int .u32 3772115230), .sc (.int .u32 2547177864), .sc (.int .u32 162941995), .sc (.int .u32 2125561021), .sc (.int .u32 3887607047), .sc (.int .u32 2428444049), .sc (.int .u32 498536548), .sc (.int .u32 1789927666), .sc (.int .u32 4089016648), .sc (.int .u32 2227061214), .sc (.int .u32 450548861), .sc (.int .u32 1843258603), .sc (.int .u32 4107580753), .sc (.int .u32 2211677639), .sc (.int .u32 325883990), .sc (.int .u32 1684777152), .sc (.int .u32 4251122042), .sc (.int .u32 2321926636), .sc (.int .u32 335633487), .sc (.int .u32 1661365465), .sc (.int .u32 4195302755), .sc (.int .u32 2366115317), .sc (.int .u32 997073096), .sc (.int .u32 1281953886), .sc (.int .u32 3579855332), .sc (.int .u32 2724688242), .sc (.int .u32 1006888145), .sc (.int .u32 1258607687), .sc (.int .u32 3524101629), .sc (.int .u32 2768942443), .sc (.int .u32 901097722), .sc (.int .u32 1119000684), .sc (.int .u32 3686517206), .sc (.int .u32 2898065728), .sc (.int .u32 853044451), .sc (.int .u32 1172266101), .sc (.int .u32 3705015759), .sc (.int .u32 2882616665), .sc (.int .u32 651767980), .sc (.int .u32 1373503546), .sc (.int .u32 3369554304), .sc (.int .u32 3218104598), .sc (.int .u32 565507253), .sc (.int .u32 1454621731), .sc (.int .u32 3485111705), .sc (.int .u32 3099436303), .sc (.int .u32 671266974), .sc (.int .u32 1594198024), .sc (.int .u32 3322730930), .sc (.int .u32 2970347812), .sc (.int .u32 795835527), .sc (.int .u32 1483230225), .sc (.int .u32 3244367275), .sc (.int .u32 3060149565), .sc (.int .u32 1994146192), .sc (.int .u32 31158534), .sc (.int .u32 2563907772), .sc (.int .u32 4023717930), .sc (.int .u32 1907459465), .sc (.int .u32 112637215), .sc (.int .u32 2680153253), .sc (.int .u32 3904427059), .sc (.int .u32 2013776290), .sc (.int .u32 251722036), .sc (.int .u32 2517215374), .sc (.int .u32 3775830040), .sc (.int .u32 2137656763), .sc (.int .u32 141376813), .sc (.int .u32 2439277719), .sc (.int .u32 3865271297), .sc (.int .u32 1802195444), .sc (.int .u32 476864866), .sc (.int .u32 2238001368), .sc (.int .u32 4066508878), .sc (.int .u32 1812370925), .sc (.int .u32 453092731), .sc (.int .u32 2181625025), .sc (.int .u32 4111451223), .sc (.int .u32 1706088902), .sc (.int .u32 314042704), .sc (.int .u32 2344532202), .sc (.int .u32 4240017532), .sc (.int .u32 1658658271), .sc (.int .u32 366619977), .sc (.int .u32 2362670323), .sc (.int .u32 4224994405), .sc (.int .u32 1303535960), .sc (.int .u32 984961486), .sc (.int .u32 2747007092), .sc (.int .u32 3569037538), .sc (.int .u32 1256170817), .sc (.int .u32 1037604311), .sc (.int .u32 2765210733), .sc (.int .u32 3554079995), .sc (.int .u32 1131014506), .sc (.int .u32 879679996), .sc (.int .u32 2909243462), .sc (.int .u32 3663771856), .sc (.int .u32 1141124467), .sc (.int .u32 855842277), .sc (.int .u32 2852801631), .sc (.int .u32 3708648649), .sc (.int .u32 1342533948), .sc (.int .u32 654459306), .sc (.int .u32 3188396048), .sc (.int .u32 3373015174), .sc (.int .u32 1466479909), .sc (.int .u32 544179635), .sc (.int .u32 3110523913), .sc (.int .u32 3462522015), .sc (.int .u32 1591671054), .sc (.int .u32 702138776), .sc (.int .u32 2966460450), .sc (.int .u32 3352799412), .sc (.int .u32 1504918807), .sc (.int .u32 783551873), .sc (.int .u32 3082640443), .sc (.int .u32 3233442989), .sc (.int .u32 3988292384), .sc (.int .u32 2596254646), .sc (.int .u32 62317068), .sc (.int .u32 1957810842), .sc (.int .u32 3939845945), .sc (.int .u32 2647816111), .sc (.int .u32 81470997), .sc (.int .u32 1943803523), .sc (.int .u32 3814918930), .sc (.int .u32 2489596804), .sc (.int .u32 225274430), .sc (.int .u32 2053790376), .sc (.int .u32 3826175755), .sc (.int .u32 2466906013), .sc (.int .u32 167816743), .sc (.int .u32 2097651377), .sc (.int .u32 4027552580), .sc (.int .u32 2265490386), .sc (.int .u32 503444072), .sc (.int .u32 1762050814), .sc (.int .u32 4150417245), .sc (.int .u32 2154129355), .sc (.int .u32 426522225), .sc (.int .u32 1852507879), .sc (.int .u32 4275313526), .sc (.int .u32 2312317920), .sc (.int .u32 282753626), .sc (.int .u32 1742555852), .sc (.int .u32 4189708143), .sc (.int .u32 2394877945), .sc (.int .u32 397917763), .sc (.int .u32 1622183637), .sc (.int .u32 3604390888), .sc (.int .u32 2714866558), .sc (.int .u32 953729732), .sc (.int .u32 1340076626), .sc (.int .u32 3518719985), .sc (.int .u32 2797360999), .sc (.int .u32 1068828381), .sc (.int .u32 1219638859), .sc (.int .u32 3624741850), .sc (.int .u32 2936675148), .sc (.int .u32 906185462), .sc (.int .u32 1090812512), .sc (.int .u32 3747672003), .sc (.int .u32 2825379669), .sc (.int .u32 829329135), .sc (.int .u32 1181335161), .sc (.int .u32 3412177804), .sc (.int .u32 3160834842), .sc (.int .u32 628085408), .sc (.int .u32 1382605366), .sc (.int .u32 3423369109), .sc (.int .u32 3138078467), .sc (.int .u32 570562233), .sc (.int .u32 1426400815), .sc (.int .u32 3317316542), .sc (.int .u32 2998733608), .sc (.int .u32 733239954), .sc (.int .u32 1555261956), .sc (.int .u32 3268935591), .sc (.int .u32 3050360625), .sc (.int .u32 752459403), .sc (.int .u32 1541320221), .sc (.int .u32 2607071920), .sc (.int .u32 3965973030), .sc (.int .u32 1969922972), .sc (.int .u32 40735498), .sc (.int .u32 2617837225), .sc (.int .u32 3943577151), .sc (.int .u32 1913087877), .sc (.int .u32 83908371), .sc (.int .u32 2512341634), .sc (.int .u32 3803740692), .sc (.int .u32 2075208622), .sc (.int .u32 213261112), .sc (.int .u32 2463272603), .sc (.int .u32 3855990285), .sc (.int .u32 2094854071), .sc (.int .u32 198958881), .sc (.int .u32 2262029012), .sc (.int .u32 4057260610), .sc (.int .u32 1759359992), .sc (.int .u32 534414190), .sc (.int .u32 2176718541), .sc (.int .u32 4139329115), .sc (.int .u32 1873836001), .sc (.int .u32 414664567), .sc (.int .u32 2282248934), .sc (.int .u32 4279200368), .sc (.int .u32 1711684554), .sc (.int .u32 285281116), .sc (.int .u32 2405801727), .sc (.int .u32 4167216745), .sc (.int .u32 1634467795), .sc (.int .u32 376229701), .sc (.int .u32 2685067896), .sc (.int .u32 3608007406), .sc (.int .u32 1308918612), .sc (.int .u32 956543938), .sc (.int .u32 2808555105), .sc (.int .u32 3495958263), .sc (.int .u32 1231636301), .sc (.int .u32 1047427035), .sc (.int .u32 2932959818), .sc (.int .u32 3654703836), .sc (.int .u32 1088359270), .sc (.int .u32 936918000), .sc (.int .u32 2847714899), .sc (.int .u32 3736837829), .sc (.int .u32 1202900863), .sc (.int .u32 817233897), .sc (.int .u32 3183342108), .sc (.int .u32 3401237130), .sc (.int .u32 1404277552), .sc (.int .u32 615818150), .sc (.int .u32 3134207493), .sc (.int .u32 3453421203), .sc (.int .u32 1423857449), .sc (.int .u32 601450431), .sc (.int .u32 3009837614), .sc (.int .u32 3294710456), .sc (.int .u32 1567103746), .sc (.int .u32 711928724), .sc (.int .u32 3020668471), .sc (.int .u32 3272380065), .sc (.int .u32 1510334235), .sc (.int .u32 755167117)]
def sumVal : Value := .agg #[.int .u32 0, .int .u32 1996959894, .int .u32 3993919788, .int .u32 2567524794, .int .u32 124634137, .int .u32 1886057615, .int .u32 3915621685, .int .u32 2657392035, .int .u32 249268274, .int .u32 2044508324, .int .u32 3772115230, .int .u32 2547177864, .int .u32 162941995, .int .u32 2125561021, .int .u32 3887607047, .int .u32 2428444049, .int .u32 498536548, .int .u32 1789927666, .int .u32 4089016648, .int .u32 2227061214, .int .u32 450548861, .int .u32 1843258603, .int .u32 4107580753, .int .u32 2211677639, .int .u32 325883990, .int .u32 1684777152, .int .u32 4251122042, .int .u32 2321926636, .int .u32 335633487, .int .u32 1661365465, .int .u32 4195302755, .int .u32 2366115317, .int .u32 997073096, .int .u32 1281953886, .int .u32 3579855332, .int .u32 2724688242, .int .u32 1006888145, .int .u32 1258607687, .int .u32 3524101629, .int .u32 2768942443, .int .u32 901097722, .int .u32 1119000684, .int .u32 3686517206, .int .u32 2898065728, .int .u32 853044451, .int .u32 1172266101, .int .u32 3705015759, .int .u32 2882616665, .int .u32 651767980, .int .u32 1373503546, .int .u32 3369554304, .int .u32 3218104598, .int .u32 565507253, .int .u32 1454621731, .int .u32 3485111705, .int .u32 3099436303, .int .u32 671266974, .int .u32 1594198024, .int .u32 3322730930, .int .u32 2970347812, .int .u32 795835527, .int .u32 1483230225, .int .u32 3244367275, .int .u32 3060149565, .int .u32 1994146192, .int .u32 31158534, .int .u32 2563907772, .int .u32 4023717930, .int .u32 1907459465, .int .u32 112637215, .int .u32 2680153253, .int .u32 3904427059, .int .u32 2013776290, .int .u32 251722036, .int .u32 2517215374, .int .u32 3775830040, .int .u32 2137656763, .int .u32 141376813, .int .u32 2439277719, .int .u32 3865271297, .int .u32 1802195444, .int .u32 476864866, .int .u32 2238001368, .int .u32 4066508878, .int .u32 1812370925, .int .u32 453092731, .int .u32 2181625025, .int .u32 4111451223, .int .u32 1706088902, .int .u32 314042704, .int .u32 2344532202, .int .u32 4240017532, .int .u32 1658658271, .int .u32 366619977, .int .u32 2362670323, .int .u32 4224994405, .int .u32 1303535960, .int .u32 984961486, .int .u32 2747007092, .int .u32 3569037538, .int .u32 1256170817, .int .u32 1037604311, .int .u32 2765210733, .int .u32 3554079995, .int .u32 1131014506, .int .u32 879679996, .int .u32 2909243462, .int .u32 3663771856, .int .u32 1141124467, .int .u32 855842277, .int .u32 2852801631, .int .u32 3708648649, .int .u32 1342533948, .int .u32 654459306, .int .u32 3188396048, .int .u32 3373015174, .int .u32 1466479909, .int .u32 544179635, .int .u32 3110523913, .int .u32 3462522015, .int .u32 1591671054, .int .u32 702138776, .int .u32 2966460450, .int .u32 3352799412, .int .u32 1504918807, .int .u32 783551873, .int .u32 3082640443, .int .u32 3233442989, .int .u32 3988292384, .int .u32 2596254646, .int .u32 62317068, .int .u32 1957810842, .int .u32 3939845945, .int .u32 2647816111, .int .u32 81470997, .int .u32 1943803523, .int .u32 3814918930, .int .u32 2489596804, .int .u32 225274430, .int .u32 2053790376, .int .u32 3826175755, .int .u32 2466906013, .int .u32 167816743, .int .u32 2097651377, .int .u32 4027552580, .int .u32 2265490386, .int .u32 503444072, .int .u32 1762050814, .int .u32 4150417245, .int .u32 2154129355, .int .u32 426522225, .int .u32 1852507879, .int .u32 4275313526, .int .u32 2312317920, .int .u32 282753626, .int .u32 1742555852, .int .u32 4189708143, .int .u32 2394877945, .int .u32 397917763, .int .u32 1622183637, .int .u32 3604390888, .int .u32 2714866558, .int .u32 953729732, .int .u32 1340076626, .int .u32 3518719985, .int .u32 2797360999, .int .u32 1068828381, .int .u32 1219638859, .int .u32 3624741850, .int .u32 2936675148, .int .u32 906185462, .int .u32 1090812512, .int .u32 3747672003, .int .u32 2825379669, .int .u32 829329135, .int .u32 1181335161, .int .u32 3412177804, .int .u32 3160834842, .int .u32 628085408, .int .u32 1382605366, .int .u32 3423369109, .int .u32 3138078467, .int .u32 570562233, .int .u32 1426400815, .int .u32 3317316542, .int .u32 2998733608, .int .u32 733239954, .int .u32 1555261956, .int .u32 3268935591, .int .u32 3050360625, .int .u32 752459403, .int .u32 1541320221, .int .u32 2607071920, .int .u32 3965973030, .int .u32 1969922972, .int .u32 40735498, .int .u32 2617837225, .int .u32 3943577151, .int .u32 1913087877, .int .u32 83908371, .int .u32 2512341634, .int .u32 3803740692, .int .u32 2075208622, .int .u32 213261112, .int .u32 2463272603, .int .u32 3855990285, .int .u32 2094854071, .int .u32 198958881, .int .u32 2262029012, .int .u32 4057260610, .int .u32 1759359992, .int .u32 534414190, .int .u32 2176718541, .int .u32 4139329115, .int .u32 1873836001, .int .u32 414664567, .int .u32 2282248934, .int .u32 4279200368, .int .u32 1711684554, .int .u32 285281116, .int .u32 2405801727, .int .u32 4167216745, .int .u32 1634467795, .int .u32 376229701, .int .u32 2685067896, .int .u32 3608007406, .int .u32 1308918612, .int .u32 956543938, .int .u32 2808555105, .int .u32 3495958263, .int .u32 1231636301, .int .u32 1047427035, .int .u32 2932959818, .int .u32 3654703836, .int .u32 1088359270, .int .u32 936918000, .int .u32 2847714899, .int .u32 3736837829, .int .u32 1202900863, .int .u32 817233897, .int .u32 3183342108, .int .u32 3401237130, .int .u32 1404277552, .int .u32 615818150, .int .u32 3134207493, .int .u32 3453421203, .int .u32 1423857449, .int .u32 601450431, .int .u32 3009837614, .int .u32 3294710456, .int .u32 1567103746, .int .u32 711928724, .int .u32 3020668471, .int .u32 3272380065, .int .u32 1510334235, .int .u32 755167117]
set_option maxHeartbeats 100000000 in
theorem sum_run : Hold (run Go.Proofs.Tryz.prog ft [] 1000000 1000 32 [] .leaf 0 (fun v _ _ => isV sumTab v)) := ⟨of_eq_true (by kernel_rfl)⟩
theorem sum_toV : toV sumTab = some sumVal := by kernel_rfl
theorem sum_okV : okV sumTab = true := by kernel_rfl
theorem sum_known : enters Go.Proofs.Tryz.prog 32 = true ∧ ∀ [Cx] h n, RCall Go.Proofs.Tryz.prog 32 [] h n sumTab h n := closed_run (P := Go.Proofs.Tryz.prog) (F := ft) (l := []) (f := 32) (x := sumTab) (u := sumVal) ft_ok (fun [Cx] => orcOk_nil) sum_run sum_toV sum_okV
abbrev orcS : Orc := [(32, [], sumTab)]
theorem orcS_ok [Cx] : OrcOk Go.Proofs.Tryz.prog orcS := orcOk_cons sum_known.1 sum_known.2 orcOk_nil
end Go.Rn
end
section
namespace Go.Rn
open Go.RowKit
open Go.Vm (enters)
set_option maxRecDepth 1000000
set_option maxHeartbeats 100000000 in
theorem awake31_run : Hold (run Go.Proofs.Tryz.prog ft orcS 1000000 1000 5 [] .leaf 0 (fun v _ _ => isV (.sc (.bool true)) v)) := ⟨of_eq_true (by kernel_rfl)⟩
theorem awake31_known : enters Go.Proofs.Tryz.prog 5 = true ∧ ∀ [Cx] h n, RCall Go.Proofs.Tryz.prog 5 [] h n (.sc (.bool true)) h n := closed_run (P := Go.Proofs.Tryz.prog) (F := ft) (l := orcS) (f := 5) (x := .sc (.bool true)) (u := .bool true) ft_ok (fun [Cx] => orcS_ok) awake31_run rfl rfl
end Go.Rn
end
section
namespace Go.Rn
open Go.RowKit
open Go.Vm (enters Contract Rep D Roles allFrozen Evo Grow Reps SatS resS SatC)
theorem concL_opq {π : Pi} : ∀ {l : List Nat}, (∀ i ∈ l, (π.op i).oneCell' = true) → concL π (l.map .opq) = some (l.map π.op)
 | [], _ => by rw [List.map_nil, concL]; rfl
 | i :: l, h => by
  rw [List.map_cons, concL, conc, if_pos (h i (List.mem_cons_self ..)), concL_opq fun j hj => h j (List.mem_cons_of_mem _ hj)]
  rfl
theorem conc_opqs {π : Pi} {l : List Nat} (h : ∀ i ∈ l, (π.op i).oneCell' = true) : conc π (.agg (l.map .opq)) = some (.agg (l.map π.op).toArray) := by
 rw [conc, if_pos (by rw [List.all_map]; exact List.all_eq_true.2 fun _ _ => rfl), concL_opq h]
 rfl
end Go.Rn
end
section
namespace Go.Vm
instance lawfulBytes : LawfulBEq ByteArray where
  eq_of_beq := by intro a b h; rw [beq_toListBytes, eq_strs] at h; exact of_decide_eq_true h
  rfl := by intro a; rw [beq_toListBytes, eq_strs]; simp
structure RefD where
  scope : Int
  group : ByteArray
  name : ByteArray
  deriving DecidableEq
structure FieldD where
  at_ : RefD
  kind : Int
  deft : ByteArray
  cases : List ByteArray
  worth : Int
  deriving DecidableEq
structure LensD where
  kind : Int
  at_ : RefD
  name : ByteArray
  other : ByteArray
  factor : Int
  field : FieldD
  forth : List (ByteArray × ByteArray)
  back : List (ByteArray × ByteArray)
  deriving DecidableEq
abbrev noB : ByteArray := ⟨#[]⟩
def noRef : RefD := ⟨0, noB, noB⟩
def noField : FieldD := ⟨noRef, 0, noB, [], 0⟩
def pairD (p : ByteArray × ByteArray) : D := .agg [.sc (.string p.1), .sc (.string p.2)]
def rD (r : RefD) : D := .agg [.sc (.int .i64 r.scope), .sc (.string r.group), .sc (.string r.name)]
def fD (f : FieldD) : D := .agg [.sc (.int .i64 f.at_.scope), .sc (.string f.at_.group), .sc (.string f.at_.name), .sc (.int .i64 f.kind), .sc (.string f.deft), .row (f.cases.map strD), .sc (.int .i64 f.worth)]
def lD (x : LensD) : D := .agg [.sc (.int .i64 x.kind), .sc (.int .i64 x.at_.scope), .sc (.string x.at_.group), .sc (.string x.at_.name), .sc (.string x.name), .sc (.string x.other), .sc (.int .i64 x.factor),
  .sc (.int .i64 x.field.at_.scope), .sc (.string x.field.at_.group), .sc (.string x.field.at_.name), .sc (.int .i64 x.field.kind), .sc (.string x.field.deft), .row (x.field.cases.map strD), .sc (.int .i64 x.field.worth), .row (x.forth.map pairD), .row (x.back.map pairD)]
def charB (c : Int) (j : Nat) : Bool := (decide (97 ≤ c) && decide (c ≤ 122)) || (decide (48 ≤ c) && decide (c ≤ 57) && !decide (j = 0))
def nameB (s : ByteArray) : Bool := decide (1 ≤ s.size ∧ s.size ≤ 12) && (List.range s.size).all fun j => match s[j]? with
  | some b => charB b.toNat j
  | none => true
def placeB (r : RefD) : Bool := (decide (r.scope = 0) || decide (r.scope = 1)) && nameB r.name && (decide (r.group = noB) || nameB r.group)
def ltB (a b : ByteArray) : Bool := Op.bytesLess a.toList b.toList
def lessB (a b : RefD) : Bool := if a.scope ≠ b.scope then decide (a.scope < b.scope) else if a.group ≠ b.group then ltB a.group b.group else ltB a.name b.name
def okC (l : List ByteArray) (k : Nat) : Bool := (List.range k).all fun j => match l[j]? with
  | some c => nameB c && !decide (c ∈ l.take j)
  | none => true
def casesB (l : List ByteArray) : Bool := decide (1 ≤ l.length) && decide (l.length ≤ 6) && okC l l.length
def rightF (f : FieldD) : Bool := placeB f.at_ &&
  (if f.kind = 1 then decide (f.deft = noB) && decide (f.cases.length = 0) && decide (1 ≤ f.worth) && decide (f.worth ≤ 1048576)
   else if f.kind = 2 then decide (f.deft.size ≤ 40) && decide (f.cases.length = 0) && decide (f.worth = 0)
   else if f.kind = 3 then casesB f.cases && decide (f.deft ∈ f.cases) && decide (f.worth = 0)
   else if f.kind = 4 then decide (f.deft = noB) && decide (f.cases.length = 0) && decide (f.worth = 0)
   else false)
end Go.Vm
end
section
namespace Go.Vm.T
open Go.RowKit
theorem k_1 : tyOk Go.Proofs.Tryz.prog 1 (.one [.sc .nilFunc]) := ⟨by kernel_rfl, by kernel_rfl⟩
theorem k_2 : tyOk Go.Proofs.Tryz.prog 2 (.one [.sc (.int .i64 0)]) := ⟨by kernel_rfl, by kernel_rfl⟩
theorem k_3 : tyOk Go.Proofs.Tryz.prog 3 (.one [.sc (.int .i64 0)]) := ⟨by kernel_rfl, by kernel_rfl⟩
theorem k_4 : tyOk Go.Proofs.Tryz.prog 4 (.one [.sc (.bool false)]) := ⟨by kernel_rfl, by kernel_rfl⟩
theorem k_5 : tyOk Go.Proofs.Tryz.prog 5 (.one [.sc (.int .u8 0)]) := ⟨by kernel_rfl, by kernel_rfl⟩
theorem k_6 : tyOk Go.Proofs.Tryz.prog 6 (.one [.sc (.int .u8 0)]) := ⟨by kernel_rfl, by kernel_rfl⟩
theorem k_7 : tyOk Go.Proofs.Tryz.prog 7 (.agg [(0, 1), (1, 1), (2, 1), (3, 1)] [.sc (.int .i64 0), .sc (.int .i64 0), .sc (.bool false), .sc (.int .u8 0)]) := ⟨by kernel_rfl, by kernel_rfl, by kernel_rfl⟩
theorem k_8 : tyOk Go.Proofs.Tryz.prog 8 (.agg [(0, 1), (1, 1), (2, 1), (3, 1)] [.sc (.int .i64 0), .sc (.int .i64 0), .sc (.bool false), .sc (.int .u8 0)]) := ⟨by kernel_rfl, by kernel_rfl, by kernel_rfl⟩
theorem k_9 : tyOk Go.Proofs.Tryz.prog 9 (.str) := ⟨by kernel_rfl, by kernel_rfl, by kernel_rfl⟩
theorem k_10 : tyOk Go.Proofs.Tryz.prog 10 (.str) := ⟨by kernel_rfl, by kernel_rfl, by kernel_rfl⟩
theorem k_11 : tyOk Go.Proofs.Tryz.prog 11 (.str) := ⟨by kernel_rfl, by kernel_rfl, by kernel_rfl⟩
theorem k_12 : tyOk Go.Proofs.Tryz.prog 12 (.one [.sc (.int .u64 0)]) := ⟨by kernel_rfl, by kernel_rfl⟩
theorem k_13 : tyOk Go.Proofs.Tryz.prog 13 (.agg [(0, 1), (1, 1)] [.sc (.string ⟨#[]⟩), .sc (.int .u64 0)]) := ⟨by kernel_rfl, by kernel_rfl, by kernel_rfl⟩
theorem k_14 : tyOk Go.Proofs.Tryz.prog 14 (.agg [(0, 1), (1, 1)] [.sc (.string ⟨#[]⟩), .sc (.int .u64 0)]) := ⟨by kernel_rfl, by kernel_rfl, by kernel_rfl⟩
theorem k_15 : tyOk Go.Proofs.Tryz.prog 15 (.one [.sc (.pointer none)]) := ⟨by kernel_rfl, by kernel_rfl⟩
theorem k_16 : tyOk Go.Proofs.Tryz.prog 16 (.one [.sc (.pointer none)]) := ⟨by kernel_rfl, by kernel_rfl⟩
theorem k_17 : tyOk Go.Proofs.Tryz.prog 17 (.one [.sc (.pointer none)]) := ⟨by kernel_rfl, by kernel_rfl⟩
theorem k_18 : tyOk Go.Proofs.Tryz.prog 18 (.agg [(0, 1)] [.sc (.pointer none)]) := ⟨by kernel_rfl, by kernel_rfl, by kernel_rfl⟩
theorem k_19 : tyOk Go.Proofs.Tryz.prog 19 (.agg [(0, 1)] [.sc (.pointer none)]) := ⟨by kernel_rfl, by kernel_rfl, by kernel_rfl⟩
theorem k_21 : tyOk Go.Proofs.Tryz.prog 21 (.one [.sc (.int .i32 0)]) := ⟨by kernel_rfl, by kernel_rfl⟩
theorem k_22 : tyOk Go.Proofs.Tryz.prog 22 (.arr 6 3 1 [.sc (.int .i64 0), .sc (.int .i64 0), .sc (.int .i64 0), .sc (.int .i64 0), .sc (.int .i64 0), .sc (.int .i64 0)]) := ⟨by kernel_rfl, by kernel_rfl, by kernel_rfl⟩
theorem k_23 : tyOk Go.Proofs.Tryz.prog 23 (.arr 6 3 1 [.sc (.int .i64 0), .sc (.int .i64 0), .sc (.int .i64 0), .sc (.int .i64 0), .sc (.int .i64 0), .sc (.int .i64 0)]) := ⟨by kernel_rfl, by kernel_rfl, by kernel_rfl⟩
theorem k_24 : tyOk Go.Proofs.Tryz.prog 24 (.slice 50 2 16) := ⟨by kernel_rfl, by kernel_rfl, by kernel_rfl, by kernel_rfl⟩
theorem k_25 : tyOk Go.Proofs.Tryz.prog 25 (.slice 101 20 264) := ⟨by kernel_rfl, by kernel_rfl, by kernel_rfl, by kernel_rfl⟩
theorem k_26 : tyOk Go.Proofs.Tryz.prog 26 (.slice 121 15 176) := ⟨by kernel_rfl, by kernel_rfl, by kernel_rfl, by kernel_rfl⟩
theorem k_27 : tyOk Go.Proofs.Tryz.prog 27 (.agg [(0, 1), (1, 1), (2, 1), (3, 6), (9, 1), (10, 1), (11, 1)] [.sc (.int .i64 0), .sc (.int .i64 0), .sc (.int .i64 0), .sc (.int .i64 0), .sc (.int .i64 0), .sc (.int .i64 0), .sc (.int .i64 0), .sc (.int .i64 0), .sc (.int .i64 0), .row [], .row [], .row []]) := ⟨by kernel_rfl, by kernel_rfl, by kernel_rfl⟩
theorem k_28 : tyOk Go.Proofs.Tryz.prog 28 (.agg [(0, 1), (1, 1), (2, 1), (3, 6), (9, 1), (10, 1), (11, 1)] [.sc (.int .i64 0), .sc (.int .i64 0), .sc (.int .i64 0), .sc (.int .i64 0), .sc (.int .i64 0), .sc (.int .i64 0), .sc (.int .i64 0), .sc (.int .i64 0), .sc (.int .i64 0), .row [], .row [], .row []]) := ⟨by kernel_rfl, by kernel_rfl, by kernel_rfl⟩
theorem k_29 : tyOk Go.Proofs.Tryz.prog 29 (.one [.sc .nilFunc]) := ⟨by kernel_rfl, by kernel_rfl⟩
theorem k_30 : tyOk Go.Proofs.Tryz.prog 30 (.one [.sc .nilFunc]) := ⟨by kernel_rfl, by kernel_rfl⟩
theorem k_31 : tyOk Go.Proofs.Tryz.prog 31 (.one [.sc (.pointer none)]) := ⟨by kernel_rfl, by kernel_rfl⟩
theorem k_32 : tyOk Go.Proofs.Tryz.prog 32 (.one [.sc (.int .i64 0)]) := ⟨by kernel_rfl, by kernel_rfl⟩
theorem k_34 : tyOk Go.Proofs.Tryz.prog 34 (.one [.sc .nilFunc]) := ⟨by kernel_rfl, by kernel_rfl⟩
theorem k_35 : tyOk Go.Proofs.Tryz.prog 35 (.one [.sc (.pointer none)]) := ⟨by kernel_rfl, by kernel_rfl⟩
theorem k_37 : tyOk Go.Proofs.Tryz.prog 37 (.one [.sc .nilFunc]) := ⟨by kernel_rfl, by kernel_rfl⟩
theorem k_38 : tyOk Go.Proofs.Tryz.prog 38 (.one [.sc .nilFunc]) := ⟨by kernel_rfl, by kernel_rfl⟩
theorem k_39 : tyOk Go.Proofs.Tryz.prog 39 (.one [.sc .nilFunc]) := ⟨by kernel_rfl, by kernel_rfl⟩
theorem k_41 : tyOk Go.Proofs.Tryz.prog 41 (.one [.sc .nilFunc]) := ⟨by kernel_rfl, by kernel_rfl⟩
theorem k_43 : tyOk Go.Proofs.Tryz.prog 43 (.one [.sc .nilFunc]) := ⟨by kernel_rfl, by kernel_rfl⟩
theorem k_45 : tyOk Go.Proofs.Tryz.prog 45 (.one [.sc .nilFunc]) := ⟨by kernel_rfl, by kernel_rfl⟩
theorem k_46 : tyOk Go.Proofs.Tryz.prog 46 (.one [.sc .nilFunc]) := ⟨by kernel_rfl, by kernel_rfl⟩
theorem k_47 : tyOk Go.Proofs.Tryz.prog 47 (.agg [(0, 1), (1, 1), (2, 1)] [.sc (.int .i64 0), .sc (.string ⟨#[]⟩), .sc (.string ⟨#[]⟩)]) := ⟨by kernel_rfl, by kernel_rfl, by kernel_rfl⟩
theorem k_48 : tyOk Go.Proofs.Tryz.prog 48 (.agg [(0, 1), (1, 1), (2, 1)] [.sc (.int .i64 0), .sc (.string ⟨#[]⟩), .sc (.string ⟨#[]⟩)]) := ⟨by kernel_rfl, by kernel_rfl, by kernel_rfl⟩
theorem k_49 : tyOk Go.Proofs.Tryz.prog 49 (.agg [(0, 1), (1, 1)] [.sc (.int .i64 0), .sc (.int .i64 0)]) := ⟨by kernel_rfl, by kernel_rfl, by kernel_rfl⟩
theorem k_50 : tyOk Go.Proofs.Tryz.prog 50 (.agg [(0, 1), (1, 1)] [.sc (.int .i64 0), .sc (.int .i64 0)]) := ⟨by kernel_rfl, by kernel_rfl, by kernel_rfl⟩
theorem k_51 : tyOk Go.Proofs.Tryz.prog 51 (.slice 9 1 16) := ⟨by kernel_rfl, by kernel_rfl, by kernel_rfl, by kernel_rfl⟩
theorem k_52 : tyOk Go.Proofs.Tryz.prog 52 (.agg [(0, 3), (3, 1), (4, 1), (5, 1), (6, 1)] [.sc (.int .i64 0), .sc (.string ⟨#[]⟩), .sc (.string ⟨#[]⟩), .sc (.int .i64 0), .sc (.string ⟨#[]⟩), .row [], .sc (.int .i64 0)]) := ⟨by kernel_rfl, by kernel_rfl, by kernel_rfl⟩
theorem k_53 : tyOk Go.Proofs.Tryz.prog 53 (.agg [(0, 3), (3, 1), (4, 1), (5, 1), (6, 1)] [.sc (.int .i64 0), .sc (.string ⟨#[]⟩), .sc (.string ⟨#[]⟩), .sc (.int .i64 0), .sc (.string ⟨#[]⟩), .row [], .sc (.int .i64 0)]) := ⟨by kernel_rfl, by kernel_rfl, by kernel_rfl⟩
theorem k_54 : tyOk Go.Proofs.Tryz.prog 54 (.slice 160 2 32) := ⟨by kernel_rfl, by kernel_rfl, by kernel_rfl, by kernel_rfl⟩
theorem k_55 : tyOk Go.Proofs.Tryz.prog 55 (.agg [(0, 1), (1, 3), (4, 1), (5, 1), (6, 1), (7, 7), (14, 1), (15, 1)] [.sc (.int .i64 0), .sc (.int .i64 0), .sc (.string ⟨#[]⟩), .sc (.string ⟨#[]⟩), .sc (.string ⟨#[]⟩), .sc (.string ⟨#[]⟩), .sc (.int .i64 0), .sc (.int .i64 0), .sc (.string ⟨#[]⟩), .sc (.string ⟨#[]⟩), .sc (.int .i64 0), .sc (.string ⟨#[]⟩), .row [], .sc (.int .i64 0), .row [], .row []]) := ⟨by kernel_rfl, by kernel_rfl, by kernel_rfl⟩
theorem k_56 : tyOk Go.Proofs.Tryz.prog 56 (.agg [(0, 1), (1, 3), (4, 1), (5, 1), (6, 1), (7, 7), (14, 1), (15, 1)] [.sc (.int .i64 0), .sc (.int .i64 0), .sc (.string ⟨#[]⟩), .sc (.string ⟨#[]⟩), .sc (.string ⟨#[]⟩), .sc (.string ⟨#[]⟩), .sc (.int .i64 0), .sc (.int .i64 0), .sc (.string ⟨#[]⟩), .sc (.string ⟨#[]⟩), .sc (.int .i64 0), .sc (.string ⟨#[]⟩), .row [], .sc (.int .i64 0), .row [], .row []]) := ⟨by kernel_rfl, by kernel_rfl, by kernel_rfl⟩
theorem k_57 : tyOk Go.Proofs.Tryz.prog 57 (.agg [(0, 1), (1, 1), (2, 1), (3, 3), (6, 1), (7, 1), (8, 2), (10, 16)] [.sc (.int .i64 0), .sc (.string ⟨#[]⟩), .sc (.string ⟨#[]⟩), .sc (.int .i64 0), .sc (.string ⟨#[]⟩), .sc (.string ⟨#[]⟩), .sc (.int .i64 0), .sc (.string ⟨#[]⟩), .sc (.int .i64 0), .sc (.int .i64 0), .sc (.int .i64 0), .sc (.int .i64 0), .sc (.string ⟨#[]⟩), .sc (.string ⟨#[]⟩), .sc (.string ⟨#[]⟩), .sc (.string ⟨#[]⟩), .sc (.int .i64 0), .sc (.int .i64 0), .sc (.string ⟨#[]⟩), .sc (.string ⟨#[]⟩), .sc (.int .i64 0), .sc (.string ⟨#[]⟩), .row [], .sc (.int .i64 0), .row [], .row []]) := ⟨by kernel_rfl, by kernel_rfl, by kernel_rfl⟩
theorem k_58 : tyOk Go.Proofs.Tryz.prog 58 (.agg [(0, 1), (1, 1), (2, 1), (3, 3), (6, 1), (7, 1), (8, 2), (10, 16)] [.sc (.int .i64 0), .sc (.string ⟨#[]⟩), .sc (.string ⟨#[]⟩), .sc (.int .i64 0), .sc (.string ⟨#[]⟩), .sc (.string ⟨#[]⟩), .sc (.int .i64 0), .sc (.string ⟨#[]⟩), .sc (.int .i64 0), .sc (.int .i64 0), .sc (.int .i64 0), .sc (.int .i64 0), .sc (.string ⟨#[]⟩), .sc (.string ⟨#[]⟩), .sc (.string ⟨#[]⟩), .sc (.string ⟨#[]⟩), .sc (.int .i64 0), .sc (.int .i64 0), .sc (.string ⟨#[]⟩), .sc (.string ⟨#[]⟩), .sc (.int .i64 0), .sc (.string ⟨#[]⟩), .row [], .sc (.int .i64 0), .row [], .row []]) := ⟨by kernel_rfl, by kernel_rfl, by kernel_rfl⟩
theorem k_59 : tyOk Go.Proofs.Tryz.prog 59 (.one [.sc .nilFunc]) := ⟨by kernel_rfl, by kernel_rfl⟩
theorem k_60 : tyOk Go.Proofs.Tryz.prog 60 (.one [.sc .nilFunc]) := ⟨by kernel_rfl, by kernel_rfl⟩
theorem k_61 : tyOk Go.Proofs.Tryz.prog 61 (.one [.sc .nilFunc]) := ⟨by kernel_rfl, by kernel_rfl⟩
theorem k_62 : tyOk Go.Proofs.Tryz.prog 62 (.one [.sc .nilFunc]) := ⟨by kernel_rfl, by kernel_rfl⟩
theorem k_63 : tyOk Go.Proofs.Tryz.prog 63 (.one [.sc .nilFunc]) := ⟨by kernel_rfl, by kernel_rfl⟩
theorem k_64 : tyOk Go.Proofs.Tryz.prog 64 (.slice 225 5 72) := ⟨by kernel_rfl, by kernel_rfl, by kernel_rfl, by kernel_rfl⟩
theorem k_65 : tyOk Go.Proofs.Tryz.prog 65 (.slice 172 2 40) := ⟨by kernel_rfl, by kernel_rfl, by kernel_rfl, by kernel_rfl⟩
theorem k_66 : tyOk Go.Proofs.Tryz.prog 66 (.agg [(0, 1), (1, 1)] [.row [], .row []]) := ⟨by kernel_rfl, by kernel_rfl, by kernel_rfl⟩
theorem k_67 : tyOk Go.Proofs.Tryz.prog 67 (.agg [(0, 1), (1, 1)] [.row [], .row []]) := ⟨by kernel_rfl, by kernel_rfl, by kernel_rfl⟩
theorem k_68 : tyOk Go.Proofs.Tryz.prog 68 (.agg [(0, 1), (1, 2), (3, 2)] [.sc (.int .i64 0), .sc (.int .i64 0), .sc (.int .i64 0), .row [], .row []]) := ⟨by kernel_rfl, by kernel_rfl, by kernel_rfl⟩
theorem k_69 : tyOk Go.Proofs.Tryz.prog 69 (.agg [(0, 1), (1, 2), (3, 2)] [.sc (.int .i64 0), .sc (.int .i64 0), .sc (.int .i64 0), .row [], .row []]) := ⟨by kernel_rfl, by kernel_rfl, by kernel_rfl⟩
theorem k_70 : tyOk Go.Proofs.Tryz.prog 70 (.one [.sc .nilFunc]) := ⟨by kernel_rfl, by kernel_rfl⟩
theorem k_71 : tyOk Go.Proofs.Tryz.prog 71 (.one [.sc .nilFunc]) := ⟨by kernel_rfl, by kernel_rfl⟩
theorem k_72 : tyOk Go.Proofs.Tryz.prog 72 (.one [.sc .nilFunc]) := ⟨by kernel_rfl, by kernel_rfl⟩
theorem k_73 : tyOk Go.Proofs.Tryz.prog 73 (.one [.sc (.pointer none)]) := ⟨by kernel_rfl, by kernel_rfl⟩
theorem k_74 : tyOk Go.Proofs.Tryz.prog 74 (.one [.sc .nilFunc]) := ⟨by kernel_rfl, by kernel_rfl⟩
theorem k_75 : tyOk Go.Proofs.Tryz.prog 75 (.one [.sc (.pointer none)]) := ⟨by kernel_rfl, by kernel_rfl⟩
theorem k_76 : tyOk Go.Proofs.Tryz.prog 76 (.one [.sc .nilFunc]) := ⟨by kernel_rfl, by kernel_rfl⟩
theorem k_77 : tyOk Go.Proofs.Tryz.prog 77 (.one [.sc .nilFunc]) := ⟨by kernel_rfl, by kernel_rfl⟩
theorem k_78 : tyOk Go.Proofs.Tryz.prog 78 (.one [.sc .nilFunc]) := ⟨by kernel_rfl, by kernel_rfl⟩
theorem k_79 : tyOk Go.Proofs.Tryz.prog 79 (.one [.sc .nilFunc]) := ⟨by kernel_rfl, by kernel_rfl⟩
theorem k_80 : tyOk Go.Proofs.Tryz.prog 80 (.slice 5 1 1) := ⟨by kernel_rfl, by kernel_rfl, by kernel_rfl, by kernel_rfl⟩
theorem k_81 : tyOk Go.Proofs.Tryz.prog 81 (.arr 4 80 1 [.row [], .row [], .row [], .row []]) := ⟨by kernel_rfl, by kernel_rfl, by kernel_rfl⟩
theorem k_82 : tyOk Go.Proofs.Tryz.prog 82 (.slice 143 4 48) := ⟨by kernel_rfl, by kernel_rfl, by kernel_rfl, by kernel_rfl⟩
theorem k_83 : tyOk Go.Proofs.Tryz.prog 83 (.agg [(0, 1), (1, 4), (5, 4), (9, 1), (10, 1), (11, 1), (12, 1), (13, 1), (14, 1)] [.sc (.int .i64 0), .row [], .row [], .row [], .row [], .row [], .row [], .row [], .row [], .row [], .sc (.int .i64 0), .sc (.int .i64 0), .sc (.bool false), .sc (.int .i64 0), .sc (.bool false)]) := ⟨by kernel_rfl, by kernel_rfl, by kernel_rfl⟩
theorem k_84 : tyOk Go.Proofs.Tryz.prog 84 (.agg [(0, 1), (1, 4), (5, 4), (9, 1), (10, 1), (11, 1), (12, 1), (13, 1), (14, 1)] [.sc (.int .i64 0), .row [], .row [], .row [], .row [], .row [], .row [], .row [], .row [], .row [], .sc (.int .i64 0), .sc (.int .i64 0), .sc (.bool false), .sc (.int .i64 0), .sc (.bool false)]) := ⟨by kernel_rfl, by kernel_rfl, by kernel_rfl⟩
theorem k_85 : tyOk Go.Proofs.Tryz.prog 85 (.one [.sc (.pointer none)]) := ⟨by kernel_rfl, by kernel_rfl⟩
theorem k_87 : tyOk Go.Proofs.Tryz.prog 87 (.one [.sc .nilFunc]) := ⟨by kernel_rfl, by kernel_rfl⟩
theorem k_88 : tyOk Go.Proofs.Tryz.prog 88 (.one [.sc (.int .u32 0)]) := ⟨by kernel_rfl, by kernel_rfl⟩
theorem k_89 : tyOk Go.Proofs.Tryz.prog 89 (.arrB 256 88 1) := ⟨by kernel_rfl, by kernel_rfl⟩
theorem k_90 : tyOk Go.Proofs.Tryz.prog 90 (.arrB 256 88 1) := ⟨by kernel_rfl, by kernel_rfl⟩
theorem k_91 : tyOk Go.Proofs.Tryz.prog 91 (.one [.sc .nilFunc]) := ⟨by kernel_rfl, by kernel_rfl⟩
theorem k_92 : tyOk Go.Proofs.Tryz.prog 92 (.agg [(0, 1), (1, 1), (2, 1), (3, 2), (5, 1), (6, 1), (7, 1)] [.sc (.pointer none), .sc (.pointer none), .sc (.int .i64 0), .sc (.int .i64 0), .sc (.int .i64 0), .sc (.pointer none), .sc (.pointer none), .sc (.bool false)]) := ⟨by kernel_rfl, by kernel_rfl, by kernel_rfl⟩
theorem k_93 : tyOk Go.Proofs.Tryz.prog 93 (.agg [(0, 1), (1, 1), (2, 1), (3, 2), (5, 1), (6, 1), (7, 1)] [.sc (.pointer none), .sc (.pointer none), .sc (.int .i64 0), .sc (.int .i64 0), .sc (.int .i64 0), .sc (.pointer none), .sc (.pointer none), .sc (.bool false)]) := ⟨by kernel_rfl, by kernel_rfl, by kernel_rfl⟩
theorem k_94 : tyOk Go.Proofs.Tryz.prog 94 (.one [.sc .nilFunc]) := ⟨by kernel_rfl, by kernel_rfl⟩
theorem k_95 : tyOk Go.Proofs.Tryz.prog 95 (.one [.sc .nilFunc]) := ⟨by kernel_rfl, by kernel_rfl⟩
theorem k_96 : tyOk Go.Proofs.Tryz.prog 96 (.one [.sc .nilFunc]) := ⟨by kernel_rfl, by kernel_rfl⟩
theorem k_97 : tyOk Go.Proofs.Tryz.prog 97 (.one [.sc .nilFunc]) := ⟨by kernel_rfl, by kernel_rfl⟩
theorem k_98 : tyOk Go.Proofs.Tryz.prog 98 (.one [.sc .nilFunc]) := ⟨by kernel_rfl, by kernel_rfl⟩
theorem k_99 : tyOk Go.Proofs.Tryz.prog 99 (.one [.sc .nilFunc]) := ⟨by kernel_rfl, by kernel_rfl⟩
theorem k_100 : tyOk Go.Proofs.Tryz.prog 100 (.agg [(0, 2), (2, 2), (4, 16)] [.sc (.int .i64 0), .sc (.int .i64 0), .sc (.int .i64 0), .sc (.int .i64 0), .sc (.int .i64 0), .sc (.int .i64 0), .sc (.string ⟨#[]⟩), .sc (.string ⟨#[]⟩), .sc (.string ⟨#[]⟩), .sc (.string ⟨#[]⟩), .sc (.int .i64 0), .sc (.int .i64 0), .sc (.string ⟨#[]⟩), .sc (.string ⟨#[]⟩), .sc (.int .i64 0), .sc (.string ⟨#[]⟩), .row [], .sc (.int .i64 0), .row [], .row []]) := ⟨by kernel_rfl, by kernel_rfl, by kernel_rfl⟩
theorem k_101 : tyOk Go.Proofs.Tryz.prog 101 (.agg [(0, 2), (2, 2), (4, 16)] [.sc (.int .i64 0), .sc (.int .i64 0), .sc (.int .i64 0), .sc (.int .i64 0), .sc (.int .i64 0), .sc (.int .i64 0), .sc (.string ⟨#[]⟩), .sc (.string ⟨#[]⟩), .sc (.string ⟨#[]⟩), .sc (.string ⟨#[]⟩), .sc (.int .i64 0), .sc (.int .i64 0), .sc (.string ⟨#[]⟩), .sc (.string ⟨#[]⟩), .sc (.int .i64 0), .sc (.string ⟨#[]⟩), .row [], .sc (.int .i64 0), .row [], .row []]) := ⟨by kernel_rfl, by kernel_rfl, by kernel_rfl⟩
theorem k_102 : tyOk Go.Proofs.Tryz.prog 102 (.one [.sc .nilFunc]) := ⟨by kernel_rfl, by kernel_rfl⟩
theorem k_103 : tyOk Go.Proofs.Tryz.prog 103 (.one [.sc .nilFunc]) := ⟨by kernel_rfl, by kernel_rfl⟩
theorem k_104 : tyOk Go.Proofs.Tryz.prog 104 (.one [.sc .nilFunc]) := ⟨by kernel_rfl, by kernel_rfl⟩
theorem k_105 : tyOk Go.Proofs.Tryz.prog 105 (.slice 80 1 24) := ⟨by kernel_rfl, by kernel_rfl, by kernel_rfl, by kernel_rfl⟩
theorem k_107 : tyOk Go.Proofs.Tryz.prog 107 (.one [.sc .nilFunc]) := ⟨by kernel_rfl, by kernel_rfl⟩
theorem k_108 : tyOk Go.Proofs.Tryz.prog 108 (.one [.sc .nilFunc]) := ⟨by kernel_rfl, by kernel_rfl⟩
theorem k_109 : tyOk Go.Proofs.Tryz.prog 109 (.one [.sc .nilFunc]) := ⟨by kernel_rfl, by kernel_rfl⟩
theorem k_110 : tyOk Go.Proofs.Tryz.prog 110 (.one [.sc .nilFunc]) := ⟨by kernel_rfl, by kernel_rfl⟩
theorem k_111 : tyOk Go.Proofs.Tryz.prog 111 (.slice 53 7 96) := ⟨by kernel_rfl, by kernel_rfl, by kernel_rfl, by kernel_rfl⟩
theorem k_113 : tyOk Go.Proofs.Tryz.prog 113 (.one [.sc .nilFunc]) := ⟨by kernel_rfl, by kernel_rfl⟩
theorem k_114 : tyOk Go.Proofs.Tryz.prog 114 (.one [.sc .nilFunc]) := ⟨by kernel_rfl, by kernel_rfl⟩
theorem k_115 : tyOk Go.Proofs.Tryz.prog 115 (.one [.sc .nilFunc]) := ⟨by kernel_rfl, by kernel_rfl⟩
theorem k_116 : tyOk Go.Proofs.Tryz.prog 116 (.one [.sc .nilFunc]) := ⟨by kernel_rfl, by kernel_rfl⟩
theorem k_118 : tyOk Go.Proofs.Tryz.prog 118 (.one [.sc .nilFunc]) := ⟨by kernel_rfl, by kernel_rfl⟩
theorem k_119 : tyOk Go.Proofs.Tryz.prog 119 (.one [.sc .nilFunc]) := ⟨by kernel_rfl, by kernel_rfl⟩
theorem k_120 : tyOk Go.Proofs.Tryz.prog 120 (.agg [(0, 2), (2, 2), (4, 1), (5, 1), (6, 1), (7, 1), (8, 3), (11, 1), (12, 1), (13, 1), (14, 1)] [.sc (.int .i64 0), .sc (.int .i64 0), .sc (.int .i64 0), .sc (.int .i64 0), .sc (.int .i64 0), .sc (.string ⟨#[]⟩), .sc (.int .i64 0), .sc (.string ⟨#[]⟩), .sc (.int .i64 0), .sc (.string ⟨#[]⟩), .sc (.string ⟨#[]⟩), .sc (.int .i64 0), .sc (.bool false), .sc (.string ⟨#[]⟩), .row []]) := ⟨by kernel_rfl, by kernel_rfl, by kernel_rfl⟩
theorem k_121 : tyOk Go.Proofs.Tryz.prog 121 (.agg [(0, 2), (2, 2), (4, 1), (5, 1), (6, 1), (7, 1), (8, 3), (11, 1), (12, 1), (13, 1), (14, 1)] [.sc (.int .i64 0), .sc (.int .i64 0), .sc (.int .i64 0), .sc (.int .i64 0), .sc (.int .i64 0), .sc (.string ⟨#[]⟩), .sc (.int .i64 0), .sc (.string ⟨#[]⟩), .sc (.int .i64 0), .sc (.string ⟨#[]⟩), .sc (.string ⟨#[]⟩), .sc (.int .i64 0), .sc (.bool false), .sc (.string ⟨#[]⟩), .row []]) := ⟨by kernel_rfl, by kernel_rfl, by kernel_rfl⟩
theorem k_122 : tyOk Go.Proofs.Tryz.prog 122 (.one [.sc .nilFunc]) := ⟨by kernel_rfl, by kernel_rfl⟩
theorem k_123 : tyOk Go.Proofs.Tryz.prog 123 (.one [.sc (.int .u64 0)]) := ⟨by kernel_rfl, by kernel_rfl⟩
theorem k_124 : tyOk Go.Proofs.Tryz.prog 124 (.one [.sc (.map none)]) := ⟨by kernel_rfl, by kernel_rfl⟩
theorem k_125 : tyOk Go.Proofs.Tryz.prog 125 (.agg [(0, 1)] [.sc (.map none)]) := ⟨by kernel_rfl, by kernel_rfl, by kernel_rfl⟩
theorem k_126 : tyOk Go.Proofs.Tryz.prog 126 (.agg [(0, 1)] [.sc (.map none)]) := ⟨by kernel_rfl, by kernel_rfl, by kernel_rfl⟩
theorem k_127 : tyOk Go.Proofs.Tryz.prog 127 (.arr 6 26 1 [.row [], .row [], .row [], .row [], .row [], .row []]) := ⟨by kernel_rfl, by kernel_rfl, by kernel_rfl⟩
theorem k_128 : tyOk Go.Proofs.Tryz.prog 128 (.agg [(0, 6)] [.row [], .row [], .row [], .row [], .row [], .row []]) := ⟨by kernel_rfl, by kernel_rfl, by kernel_rfl⟩
theorem k_129 : tyOk Go.Proofs.Tryz.prog 129 (.agg [(0, 6)] [.row [], .row [], .row [], .row [], .row [], .row []]) := ⟨by kernel_rfl, by kernel_rfl, by kernel_rfl⟩
theorem k_130 : tyOk Go.Proofs.Tryz.prog 130 (.one [.sc (.pointer none)]) := ⟨by kernel_rfl, by kernel_rfl⟩
theorem k_131 : tyOk Go.Proofs.Tryz.prog 131 (.one [.sc (.pointer none)]) := ⟨by kernel_rfl, by kernel_rfl⟩
theorem k_134 : tyOk Go.Proofs.Tryz.prog 134 (.one [.sc .nilFunc]) := ⟨by kernel_rfl, by kernel_rfl⟩
theorem k_136 : tyOk Go.Proofs.Tryz.prog 136 (.one [.sc .nilFunc]) := ⟨by kernel_rfl, by kernel_rfl⟩
theorem k_137 : tyOk Go.Proofs.Tryz.prog 137 (.one [.sc .nilFunc]) := ⟨by kernel_rfl, by kernel_rfl⟩
theorem k_138 : tyOk Go.Proofs.Tryz.prog 138 (.one [.sc .nilFunc]) := ⟨by kernel_rfl, by kernel_rfl⟩
theorem k_139 : tyOk Go.Proofs.Tryz.prog 139 (.one [.sc .nilFunc]) := ⟨by kernel_rfl, by kernel_rfl⟩
theorem k_140 : tyOk Go.Proofs.Tryz.prog 140 (.one [.sc .nilFunc]) := ⟨by kernel_rfl, by kernel_rfl⟩
theorem k_141 : tyOk Go.Proofs.Tryz.prog 141 (.one [.sc .nilFunc]) := ⟨by kernel_rfl, by kernel_rfl⟩
theorem k_142 : tyOk Go.Proofs.Tryz.prog 142 (.agg [(0, 1), (1, 1), (2, 1), (3, 1)] [.sc (.int .i64 0), .sc (.bool false), .sc (.int .i64 0), .row []]) := ⟨by kernel_rfl, by kernel_rfl, by kernel_rfl⟩
theorem k_143 : tyOk Go.Proofs.Tryz.prog 143 (.agg [(0, 1), (1, 1), (2, 1), (3, 1)] [.sc (.int .i64 0), .sc (.bool false), .sc (.int .i64 0), .row []]) := ⟨by kernel_rfl, by kernel_rfl, by kernel_rfl⟩
theorem k_144 : tyOk Go.Proofs.Tryz.prog 144 (.one [.sc .nilFunc]) := ⟨by kernel_rfl, by kernel_rfl⟩
theorem k_145 : tyOk Go.Proofs.Tryz.prog 145 (.one [.sc .nilFunc]) := ⟨by kernel_rfl, by kernel_rfl⟩
theorem k_146 : tyOk Go.Proofs.Tryz.prog 146 (.agg [(0, 20), (20, 1), (21, 1), (22, 1)] [.sc (.int .i64 0), .sc (.int .i64 0), .sc (.int .i64 0), .sc (.int .i64 0), .sc (.int .i64 0), .sc (.int .i64 0), .sc (.string ⟨#[]⟩), .sc (.string ⟨#[]⟩), .sc (.string ⟨#[]⟩), .sc (.string ⟨#[]⟩), .sc (.int .i64 0), .sc (.int .i64 0), .sc (.string ⟨#[]⟩), .sc (.string ⟨#[]⟩), .sc (.int .i64 0), .sc (.string ⟨#[]⟩), .row [], .sc (.int .i64 0), .row [], .row [], .sc (.int .i64 0), .row [], .sc (.int .i64 0)]) := ⟨by kernel_rfl, by kernel_rfl, by kernel_rfl⟩
theorem k_147 : tyOk Go.Proofs.Tryz.prog 147 (.agg [(0, 20), (20, 1), (21, 1), (22, 1)] [.sc (.int .i64 0), .sc (.int .i64 0), .sc (.int .i64 0), .sc (.int .i64 0), .sc (.int .i64 0), .sc (.int .i64 0), .sc (.string ⟨#[]⟩), .sc (.string ⟨#[]⟩), .sc (.string ⟨#[]⟩), .sc (.string ⟨#[]⟩), .sc (.int .i64 0), .sc (.int .i64 0), .sc (.string ⟨#[]⟩), .sc (.string ⟨#[]⟩), .sc (.int .i64 0), .sc (.string ⟨#[]⟩), .row [], .sc (.int .i64 0), .row [], .row [], .sc (.int .i64 0), .row [], .sc (.int .i64 0)]) := ⟨by kernel_rfl, by kernel_rfl, by kernel_rfl⟩
theorem k_148 : tyOk Go.Proofs.Tryz.prog 148 (.one [.sc .nilFunc]) := ⟨by kernel_rfl, by kernel_rfl⟩
theorem k_149 : tyOk Go.Proofs.Tryz.prog 149 (.one [.sc .nilFunc]) := ⟨by kernel_rfl, by kernel_rfl⟩
theorem k_150 : tyOk Go.Proofs.Tryz.prog 150 (.one [.sc .nilFunc]) := ⟨by kernel_rfl, by kernel_rfl⟩
theorem k_151 : tyOk Go.Proofs.Tryz.prog 151 (.one [.sc .nilFunc]) := ⟨by kernel_rfl, by kernel_rfl⟩
theorem k_152 : tyOk Go.Proofs.Tryz.prog 152 (.one [.sc .nilFunc]) := ⟨by kernel_rfl, by kernel_rfl⟩
theorem k_153 : tyOk Go.Proofs.Tryz.prog 153 (.one [.sc .nilFunc]) := ⟨by kernel_rfl, by kernel_rfl⟩
theorem k_154 : tyOk Go.Proofs.Tryz.prog 154 (.one [.sc .nilFunc]) := ⟨by kernel_rfl, by kernel_rfl⟩
theorem k_155 : tyOk Go.Proofs.Tryz.prog 155 (.one [.sc (.map none)]) := ⟨by kernel_rfl, by kernel_rfl⟩
theorem k_156 : tyOk Go.Proofs.Tryz.prog 156 (.agg [] []) := ⟨by kernel_rfl, by kernel_rfl, by kernel_rfl⟩
theorem k_158 : tyOk Go.Proofs.Tryz.prog 158 (.one [.sc .nilFunc]) := ⟨by kernel_rfl, by kernel_rfl⟩
theorem k_159 : tyOk Go.Proofs.Tryz.prog 159 (.agg [(0, 1), (1, 1)] [.sc (.string ⟨#[]⟩), .sc (.string ⟨#[]⟩)]) := ⟨by kernel_rfl, by kernel_rfl, by kernel_rfl⟩
theorem k_160 : tyOk Go.Proofs.Tryz.prog 160 (.agg [(0, 1), (1, 1)] [.sc (.string ⟨#[]⟩), .sc (.string ⟨#[]⟩)]) := ⟨by kernel_rfl, by kernel_rfl, by kernel_rfl⟩
theorem k_161 : tyOk Go.Proofs.Tryz.prog 161 (.one [.sc .nilFunc]) := ⟨by kernel_rfl, by kernel_rfl⟩
theorem k_162 : tyOk Go.Proofs.Tryz.prog 162 (.one [.sc .nilFunc]) := ⟨by kernel_rfl, by kernel_rfl⟩
theorem k_164 : tyOk Go.Proofs.Tryz.prog 164 (.one [.sc .nilFunc]) := ⟨by kernel_rfl, by kernel_rfl⟩
theorem k_165 : tyOk Go.Proofs.Tryz.prog 165 (.one [.sc (.pointer none)]) := ⟨by kernel_rfl, by kernel_rfl⟩
theorem k_166 : tyOk Go.Proofs.Tryz.prog 166 (.one [.sc .nilFunc]) := ⟨by kernel_rfl, by kernel_rfl⟩
theorem k_167 : tyOk Go.Proofs.Tryz.prog 167 (.one [.sc .nilFunc]) := ⟨by kernel_rfl, by kernel_rfl⟩
theorem k_168 : tyOk Go.Proofs.Tryz.prog 168 (.one [.sc .nilFunc]) := ⟨by kernel_rfl, by kernel_rfl⟩
theorem k_169 : tyOk Go.Proofs.Tryz.prog 169 (.one [.sc .nilFunc]) := ⟨by kernel_rfl, by kernel_rfl⟩
theorem k_170 : tyOk Go.Proofs.Tryz.prog 170 (.one [.sc .nilFunc]) := ⟨by kernel_rfl, by kernel_rfl⟩
theorem k_171 : tyOk Go.Proofs.Tryz.prog 171 (.agg [(0, 1), (1, 1)] [.sc (.string ⟨#[]⟩), .row []]) := ⟨by kernel_rfl, by kernel_rfl, by kernel_rfl⟩
theorem k_172 : tyOk Go.Proofs.Tryz.prog 172 (.agg [(0, 1), (1, 1)] [.sc (.string ⟨#[]⟩), .row []]) := ⟨by kernel_rfl, by kernel_rfl, by kernel_rfl⟩
theorem k_174 : tyOk Go.Proofs.Tryz.prog 174 (.one [.sc .nilFunc]) := ⟨by kernel_rfl, by kernel_rfl⟩
theorem k_175 : tyOk Go.Proofs.Tryz.prog 175 (.one [.sc .nilFunc]) := ⟨by kernel_rfl, by kernel_rfl⟩
theorem k_176 : tyOk Go.Proofs.Tryz.prog 176 (.one [.sc .nilFunc]) := ⟨by kernel_rfl, by kernel_rfl⟩
theorem k_177 : tyOk Go.Proofs.Tryz.prog 177 (.one [.sc .nilFunc]) := ⟨by kernel_rfl, by kernel_rfl⟩
theorem k_178 : tyOk Go.Proofs.Tryz.prog 178 (.one [.sc .nilFunc]) := ⟨by kernel_rfl, by kernel_rfl⟩
theorem k_179 : tyOk Go.Proofs.Tryz.prog 179 (.one [.sc .nilFunc]) := ⟨by kernel_rfl, by kernel_rfl⟩
theorem k_180 : tyOk Go.Proofs.Tryz.prog 180 (.slice 56 16 232) := ⟨by kernel_rfl, by kernel_rfl, by kernel_rfl, by kernel_rfl⟩
theorem k_182 : tyOk Go.Proofs.Tryz.prog 182 (.one [.sc .nilFunc]) := ⟨by kernel_rfl, by kernel_rfl⟩
theorem k_183 : tyOk Go.Proofs.Tryz.prog 183 (.one [.sc .nilFunc]) := ⟨by kernel_rfl, by kernel_rfl⟩
theorem k_184 : tyOk Go.Proofs.Tryz.prog 184 (.one [.sc .nilFunc]) := ⟨by kernel_rfl, by kernel_rfl⟩
theorem k_185 : tyOk Go.Proofs.Tryz.prog 185 (.one [.sc .nilFunc]) := ⟨by kernel_rfl, by kernel_rfl⟩
theorem k_187 : tyOk Go.Proofs.Tryz.prog 187 (.one [.sc .nilFunc]) := ⟨by kernel_rfl, by kernel_rfl⟩
theorem k_189 : tyOk Go.Proofs.Tryz.prog 189 (.one [.sc .nilFunc]) := ⟨by kernel_rfl, by kernel_rfl⟩
theorem k_194 : tyOk Go.Proofs.Tryz.prog 194 (.one [.sc .nilFunc]) := ⟨by kernel_rfl, by kernel_rfl⟩
theorem k_195 : tyOk Go.Proofs.Tryz.prog 195 (.one [.sc .nilFunc]) := ⟨by kernel_rfl, by kernel_rfl⟩
theorem k_196 : tyOk Go.Proofs.Tryz.prog 196 (.one [.sc .nilFunc]) := ⟨by kernel_rfl, by kernel_rfl⟩
theorem k_197 : tyOk Go.Proofs.Tryz.prog 197 (.one [.sc .nilFunc]) := ⟨by kernel_rfl, by kernel_rfl⟩
theorem k_198 : tyOk Go.Proofs.Tryz.prog 198 (.one [.sc .nilFunc]) := ⟨by kernel_rfl, by kernel_rfl⟩
theorem k_199 : tyOk Go.Proofs.Tryz.prog 199 (.one [.sc .nilFunc]) := ⟨by kernel_rfl, by kernel_rfl⟩
theorem k_200 : tyOk Go.Proofs.Tryz.prog 200 (.one [.sc .nilFunc]) := ⟨by kernel_rfl, by kernel_rfl⟩
theorem k_201 : tyOk Go.Proofs.Tryz.prog 201 (.one [.sc .nilFunc]) := ⟨by kernel_rfl, by kernel_rfl⟩
theorem k_202 : tyOk Go.Proofs.Tryz.prog 202 (.one [.sc .nilFunc]) := ⟨by kernel_rfl, by kernel_rfl⟩
theorem k_203 : tyOk Go.Proofs.Tryz.prog 203 (.one [.sc .nilFunc]) := ⟨by kernel_rfl, by kernel_rfl⟩
theorem k_204 : tyOk Go.Proofs.Tryz.prog 204 (.one [.sc .nilFunc]) := ⟨by kernel_rfl, by kernel_rfl⟩
theorem k_206 : tyOk Go.Proofs.Tryz.prog 206 (.one [.sc .nilFunc]) := ⟨by kernel_rfl, by kernel_rfl⟩
theorem k_207 : tyOk Go.Proofs.Tryz.prog 207 (.one [.sc .nilFunc]) := ⟨by kernel_rfl, by kernel_rfl⟩
theorem k_208 : tyOk Go.Proofs.Tryz.prog 208 (.one [.sc .nilFunc]) := ⟨by kernel_rfl, by kernel_rfl⟩
theorem k_209 : tyOk Go.Proofs.Tryz.prog 209 (.one [.sc .nilFunc]) := ⟨by kernel_rfl, by kernel_rfl⟩
theorem k_210 : tyOk Go.Proofs.Tryz.prog 210 (.one [.sc .nilFunc]) := ⟨by kernel_rfl, by kernel_rfl⟩
theorem k_211 : tyOk Go.Proofs.Tryz.prog 211 (.one [.sc .nilFunc]) := ⟨by kernel_rfl, by kernel_rfl⟩
theorem k_213 : tyOk Go.Proofs.Tryz.prog 213 (.one [.sc .nilFunc]) := ⟨by kernel_rfl, by kernel_rfl⟩
theorem k_214 : tyOk Go.Proofs.Tryz.prog 214 (.one [.sc .nilFunc]) := ⟨by kernel_rfl, by kernel_rfl⟩
theorem k_216 : tyOk Go.Proofs.Tryz.prog 216 (.one [.sc .nilFunc]) := ⟨by kernel_rfl, by kernel_rfl⟩
theorem k_217 : tyOk Go.Proofs.Tryz.prog 217 (.agg [(0, 1), (1, 1), (2, 1), (3, 1)] [.row [], .sc (.int .i64 0), .sc (.int .i64 0), .sc (.bool false)]) := ⟨by kernel_rfl, by kernel_rfl, by kernel_rfl⟩
theorem k_218 : tyOk Go.Proofs.Tryz.prog 218 (.agg [(0, 1), (1, 1), (2, 1), (3, 1)] [.row [], .sc (.int .i64 0), .sc (.int .i64 0), .sc (.bool false)]) := ⟨by kernel_rfl, by kernel_rfl, by kernel_rfl⟩
theorem k_220 : tyOk Go.Proofs.Tryz.prog 220 (.one [.sc .nilFunc]) := ⟨by kernel_rfl, by kernel_rfl⟩
theorem k_221 : tyOk Go.Proofs.Tryz.prog 221 (.one [.sc .nilFunc]) := ⟨by kernel_rfl, by kernel_rfl⟩
theorem k_222 : tyOk Go.Proofs.Tryz.prog 222 (.one [.sc .nilFunc]) := ⟨by kernel_rfl, by kernel_rfl⟩
theorem k_223 : tyOk Go.Proofs.Tryz.prog 223 (.one [.sc .nilFunc]) := ⟨by kernel_rfl, by kernel_rfl⟩
theorem k_224 : tyOk Go.Proofs.Tryz.prog 224 (.agg [(0, 3), (3, 1), (4, 1)] [.sc (.int .i64 0), .sc (.string ⟨#[]⟩), .sc (.string ⟨#[]⟩), .sc (.int .i64 0), .row []]) := ⟨by kernel_rfl, by kernel_rfl, by kernel_rfl⟩
theorem k_225 : tyOk Go.Proofs.Tryz.prog 225 (.agg [(0, 3), (3, 1), (4, 1)] [.sc (.int .i64 0), .sc (.string ⟨#[]⟩), .sc (.string ⟨#[]⟩), .sc (.int .i64 0), .row []]) := ⟨by kernel_rfl, by kernel_rfl, by kernel_rfl⟩
theorem k_226 : tyOk Go.Proofs.Tryz.prog 226 (.one [.sc .nilFunc]) := ⟨by kernel_rfl, by kernel_rfl⟩
theorem k_228 : tyOk Go.Proofs.Tryz.prog 228 (.one [.sc .nilFunc]) := ⟨by kernel_rfl, by kernel_rfl⟩
theorem k_229 : tyOk Go.Proofs.Tryz.prog 229 (.agg [(0, 1), (1, 2), (3, 1), (4, 1), (5, 26)] [.sc (.pointer none), .sc (.int .i64 0), .sc (.int .i64 0), .row [], .row [], .sc (.int .i64 0), .sc (.string ⟨#[]⟩), .sc (.string ⟨#[]⟩), .sc (.int .i64 0), .sc (.string ⟨#[]⟩), .sc (.string ⟨#[]⟩), .sc (.int .i64 0), .sc (.string ⟨#[]⟩), .sc (.int .i64 0), .sc (.int .i64 0), .sc (.int .i64 0), .sc (.int .i64 0), .sc (.string ⟨#[]⟩), .sc (.string ⟨#[]⟩), .sc (.string ⟨#[]⟩), .sc (.string ⟨#[]⟩), .sc (.int .i64 0), .sc (.int .i64 0), .sc (.string ⟨#[]⟩), .sc (.string ⟨#[]⟩), .sc (.int .i64 0), .sc (.string ⟨#[]⟩), .row [], .sc (.int .i64 0), .row [], .row []]) := ⟨by kernel_rfl, by kernel_rfl, by kernel_rfl⟩
theorem k_230 : tyOk Go.Proofs.Tryz.prog 230 (.agg [(0, 1), (1, 2), (3, 1), (4, 1), (5, 26)] [.sc (.pointer none), .sc (.int .i64 0), .sc (.int .i64 0), .row [], .row [], .sc (.int .i64 0), .sc (.string ⟨#[]⟩), .sc (.string ⟨#[]⟩), .sc (.int .i64 0), .sc (.string ⟨#[]⟩), .sc (.string ⟨#[]⟩), .sc (.int .i64 0), .sc (.string ⟨#[]⟩), .sc (.int .i64 0), .sc (.int .i64 0), .sc (.int .i64 0), .sc (.int .i64 0), .sc (.string ⟨#[]⟩), .sc (.string ⟨#[]⟩), .sc (.string ⟨#[]⟩), .sc (.string ⟨#[]⟩), .sc (.int .i64 0), .sc (.int .i64 0), .sc (.string ⟨#[]⟩), .sc (.string ⟨#[]⟩), .sc (.int .i64 0), .sc (.string ⟨#[]⟩), .row [], .sc (.int .i64 0), .row [], .row []]) := ⟨by kernel_rfl, by kernel_rfl, by kernel_rfl⟩
theorem k_231 : tyOk Go.Proofs.Tryz.prog 231 (.one [.sc .nilFunc]) := ⟨by kernel_rfl, by kernel_rfl⟩
theorem k_232 : tyOk Go.Proofs.Tryz.prog 232 (.one [.sc .nilFunc]) := ⟨by kernel_rfl, by kernel_rfl⟩
theorem k_233 : tyOk Go.Proofs.Tryz.prog 233 (.one [.sc (.pointer none)]) := ⟨by kernel_rfl, by kernel_rfl⟩
theorem k_235 : tyOk Go.Proofs.Tryz.prog 235 (.one [.sc .nilFunc]) := ⟨by kernel_rfl, by kernel_rfl⟩
theorem k_236 : tyOk Go.Proofs.Tryz.prog 236 (.one [.sc .nilFunc]) := ⟨by kernel_rfl, by kernel_rfl⟩
theorem k_237 : tyOk Go.Proofs.Tryz.prog 237 (.one [.sc .nilFunc]) := ⟨by kernel_rfl, by kernel_rfl⟩
theorem k_238 : tyOk Go.Proofs.Tryz.prog 238 (.one [.sc .nilFunc]) := ⟨by kernel_rfl, by kernel_rfl⟩
theorem k_240 : tyOk Go.Proofs.Tryz.prog 240 (.one [.sc .nilFunc]) := ⟨by kernel_rfl, by kernel_rfl⟩
theorem k_241 : tyOk Go.Proofs.Tryz.prog 241 (.slice 48 3 40) := ⟨by kernel_rfl, by kernel_rfl, by kernel_rfl, by kernel_rfl⟩
theorem k_242 : tyOk Go.Proofs.Tryz.prog 242 (.one [.sc .nilFunc]) := ⟨by kernel_rfl, by kernel_rfl⟩
theorem k_243 : tyOk Go.Proofs.Tryz.prog 243 (.one [.sc .nilFunc]) := ⟨by kernel_rfl, by kernel_rfl⟩
theorem k_244 : tyOk Go.Proofs.Tryz.prog 244 (.one [.sc .nilFunc]) := ⟨by kernel_rfl, by kernel_rfl⟩
theorem k_245 : tyOk Go.Proofs.Tryz.prog 245 (.one [.sc .nilFunc]) := ⟨by kernel_rfl, by kernel_rfl⟩
theorem k_246 : tyOk Go.Proofs.Tryz.prog 246 (.one [.sc .nilFunc]) := ⟨by kernel_rfl, by kernel_rfl⟩
theorem k_247 : tyOk Go.Proofs.Tryz.prog 247 (.one [.sc (.map none)]) := ⟨by kernel_rfl, by kernel_rfl⟩
theorem k_248 : tyOk Go.Proofs.Tryz.prog 248 (.one [.sc .nilFunc]) := ⟨by kernel_rfl, by kernel_rfl⟩
theorem k_249 : tyOk Go.Proofs.Tryz.prog 249 (.agg [(0, 1), (1, 3)] [.sc (.string ⟨#[]⟩), .sc (.int .i64 0), .sc (.string ⟨#[]⟩), .sc (.string ⟨#[]⟩)]) := ⟨by kernel_rfl, by kernel_rfl, by kernel_rfl⟩
theorem k_250 : tyOk Go.Proofs.Tryz.prog 250 (.agg [(0, 1), (1, 3)] [.sc (.string ⟨#[]⟩), .sc (.int .i64 0), .sc (.string ⟨#[]⟩), .sc (.string ⟨#[]⟩)]) := ⟨by kernel_rfl, by kernel_rfl, by kernel_rfl⟩
theorem k_251 : tyOk Go.Proofs.Tryz.prog 251 (.one [.sc .nilFunc]) := ⟨by kernel_rfl, by kernel_rfl⟩
theorem k_252 : tyOk Go.Proofs.Tryz.prog 252 (.one [.sc .nilFunc]) := ⟨by kernel_rfl, by kernel_rfl⟩
theorem k_253 : tyOk Go.Proofs.Tryz.prog 253 (.one [.sc .nilFunc]) := ⟨by kernel_rfl, by kernel_rfl⟩
theorem k_254 : tyOk Go.Proofs.Tryz.prog 254 (.one [.sc .nilFunc]) := ⟨by kernel_rfl, by kernel_rfl⟩
theorem k_255 : tyOk Go.Proofs.Tryz.prog 255 (.slice 259 3 24) := ⟨by kernel_rfl, by kernel_rfl, by kernel_rfl, by kernel_rfl⟩
theorem k_257 : tyOk Go.Proofs.Tryz.prog 257 (.one [.sc .nilFunc]) := ⟨by kernel_rfl, by kernel_rfl⟩
theorem k_258 : tyOk Go.Proofs.Tryz.prog 258 (.agg [(0, 2), (2, 1)] [.sc (.int .i64 0), .sc (.int .i64 0), .sc (.bool false)]) := ⟨by kernel_rfl, by kernel_rfl, by kernel_rfl⟩
theorem k_259 : tyOk Go.Proofs.Tryz.prog 259 (.agg [(0, 2), (2, 1)] [.sc (.int .i64 0), .sc (.int .i64 0), .sc (.bool false)]) := ⟨by kernel_rfl, by kernel_rfl, by kernel_rfl⟩
theorem k_261 : tyOk Go.Proofs.Tryz.prog 261 (.one [.sc .nilFunc]) := ⟨by kernel_rfl, by kernel_rfl⟩
theorem k_262 : tyOk Go.Proofs.Tryz.prog 262 (.one [.sc .nilFunc]) := ⟨by kernel_rfl, by kernel_rfl⟩
theorem k_263 : tyOk Go.Proofs.Tryz.prog 263 (.one [.sc .nilFunc]) := ⟨by kernel_rfl, by kernel_rfl⟩
theorem k_265 : tyOk Go.Proofs.Tryz.prog 265 (.one [.sc .nilFunc]) := ⟨by kernel_rfl, by kernel_rfl⟩
theorem k_267 : tyOk Go.Proofs.Tryz.prog 267 (.one [.sc .nilFunc]) := ⟨by kernel_rfl, by kernel_rfl⟩
theorem k_268 : tyOk Go.Proofs.Tryz.prog 268 (.one [.sc (.int .u64 0)]) := ⟨by kernel_rfl, by kernel_rfl⟩
theorem k_269 : tyOk Go.Proofs.Tryz.prog 269 (.one [.sc .nilFunc]) := ⟨by kernel_rfl, by kernel_rfl⟩
theorem k_270 : tyOk Go.Proofs.Tryz.prog 270 (.one [.sc .nilFunc]) := ⟨by kernel_rfl, by kernel_rfl⟩
theorem k_271 : tyOk Go.Proofs.Tryz.prog 271 (.one [.sc .nilFunc]) := ⟨by kernel_rfl, by kernel_rfl⟩
theorem k_272 : tyOk Go.Proofs.Tryz.prog 272 (.one [.sc .nilFunc]) := ⟨by kernel_rfl, by kernel_rfl⟩
theorem k_273 : tyOk Go.Proofs.Tryz.prog 273 (.one [.sc .nilFunc]) := ⟨by kernel_rfl, by kernel_rfl⟩
theorem k_274 : tyOk Go.Proofs.Tryz.prog 274 (.one [.sc .nilFunc]) := ⟨by kernel_rfl, by kernel_rfl⟩
theorem k_275 : tyOk Go.Proofs.Tryz.prog 275 (.one [.sc .nilFunc]) := ⟨by kernel_rfl, by kernel_rfl⟩
theorem k_276 : tyOk Go.Proofs.Tryz.prog 276 (.one [.sc .nilFunc]) := ⟨by kernel_rfl, by kernel_rfl⟩
theorem k_277 : tyOk Go.Proofs.Tryz.prog 277 (.one [.sc .nilFunc]) := ⟨by kernel_rfl, by kernel_rfl⟩
theorem k_278 : tyOk Go.Proofs.Tryz.prog 278 (.one [.sc .nilFunc]) := ⟨by kernel_rfl, by kernel_rfl⟩
theorem k_279 : tyOk Go.Proofs.Tryz.prog 279 (.one [.sc .nilFunc]) := ⟨by kernel_rfl, by kernel_rfl⟩
theorem k_280 : tyOk Go.Proofs.Tryz.prog 280 (.one [.sc .nilFunc]) := ⟨by kernel_rfl, by kernel_rfl⟩
theorem k_281 : tyOk Go.Proofs.Tryz.prog 281 (.one [.sc .nilFunc]) := ⟨by kernel_rfl, by kernel_rfl⟩
theorem k_282 : tyOk Go.Proofs.Tryz.prog 282 (.one [.sc .nilFunc]) := ⟨by kernel_rfl, by kernel_rfl⟩
theorem k_283 : tyOk Go.Proofs.Tryz.prog 283 (.one [.sc .nilFunc]) := ⟨by kernel_rfl, by kernel_rfl⟩
theorem k_284 : tyOk Go.Proofs.Tryz.prog 284 (.one [.sc .nilFunc]) := ⟨by kernel_rfl, by kernel_rfl⟩
theorem k_285 : tyOk Go.Proofs.Tryz.prog 285 (.one [.sc .nilFunc]) := ⟨by kernel_rfl, by kernel_rfl⟩
theorem k_287 : tyOk Go.Proofs.Tryz.prog 287 (.one [.sc .nilFunc]) := ⟨by kernel_rfl, by kernel_rfl⟩
theorem k_288 : tyOk Go.Proofs.Tryz.prog 288 (.one [.sc .nilFunc]) := ⟨by kernel_rfl, by kernel_rfl⟩
theorem k_290 : tyOk Go.Proofs.Tryz.prog 290 (.one [.sc .nilFunc]) := ⟨by kernel_rfl, by kernel_rfl⟩
theorem k_291 : tyOk Go.Proofs.Tryz.prog 291 (.one [.sc .nilFunc]) := ⟨by kernel_rfl, by kernel_rfl⟩
theorem k_292 : tyOk Go.Proofs.Tryz.prog 292 (.one [.sc .nilFunc]) := ⟨by kernel_rfl, by kernel_rfl⟩
theorem k_293 : tyOk Go.Proofs.Tryz.prog 293 (.one [.sc .nilFunc]) := ⟨by kernel_rfl, by kernel_rfl⟩
theorem k_294 : tyOk Go.Proofs.Tryz.prog 294 (.one [.sc .nilFunc]) := ⟨by kernel_rfl, by kernel_rfl⟩
theorem k_295 : tyOk Go.Proofs.Tryz.prog 295 (.one [.sc .nilFunc]) := ⟨by kernel_rfl, by kernel_rfl⟩
theorem k_296 : tyOk Go.Proofs.Tryz.prog 296 (.one [.sc .nilFunc]) := ⟨by kernel_rfl, by kernel_rfl⟩
theorem k_298 : tyOk Go.Proofs.Tryz.prog 298 (.one [.sc .nilFunc]) := ⟨by kernel_rfl, by kernel_rfl⟩
theorem k_299 : tyOk Go.Proofs.Tryz.prog 299 (.one [.sc .nilFunc]) := ⟨by kernel_rfl, by kernel_rfl⟩
theorem k_300 : tyOk Go.Proofs.Tryz.prog 300 (.one [.sc .nilFunc]) := ⟨by kernel_rfl, by kernel_rfl⟩
theorem k_301 : tyOk Go.Proofs.Tryz.prog 301 (.one [.sc .nilFunc]) := ⟨by kernel_rfl, by kernel_rfl⟩
theorem k_302 : tyOk Go.Proofs.Tryz.prog 302 (.one [.sc .nilFunc]) := ⟨by kernel_rfl, by kernel_rfl⟩
theorem k_304 : tyOk Go.Proofs.Tryz.prog 304 (.one [.sc .nilFunc]) := ⟨by kernel_rfl, by kernel_rfl⟩
theorem k_306 : tyOk Go.Proofs.Tryz.prog 306 (.one [.sc .nilFunc]) := ⟨by kernel_rfl, by kernel_rfl⟩
theorem k_307 : tyOk Go.Proofs.Tryz.prog 307 (.one [.sc .nilFunc]) := ⟨by kernel_rfl, by kernel_rfl⟩
theorem k_308 : tyOk Go.Proofs.Tryz.prog 308 (.one [.sc .nilFunc]) := ⟨by kernel_rfl, by kernel_rfl⟩
theorem k_309 : tyOk Go.Proofs.Tryz.prog 309 (.one [.sc .nilFunc]) := ⟨by kernel_rfl, by kernel_rfl⟩
theorem k_310 : tyOk Go.Proofs.Tryz.prog 310 (.one [.sc .nilFunc]) := ⟨by kernel_rfl, by kernel_rfl⟩
theorem k_312 : tyOk Go.Proofs.Tryz.prog 312 (.one [.sc .nilFunc]) := ⟨by kernel_rfl, by kernel_rfl⟩
theorem k_314 : tyOk Go.Proofs.Tryz.prog 314 (.one [.sc .nilFunc]) := ⟨by kernel_rfl, by kernel_rfl⟩
theorem k_315 : tyOk Go.Proofs.Tryz.prog 315 (.one [.sc .nilFunc]) := ⟨by kernel_rfl, by kernel_rfl⟩
theorem k_316 : tyOk Go.Proofs.Tryz.prog 316 (.one [.sc .nilFunc]) := ⟨by kernel_rfl, by kernel_rfl⟩
theorem k_317 : tyOk Go.Proofs.Tryz.prog 317 (.one [.sc .nilFunc]) := ⟨by kernel_rfl, by kernel_rfl⟩
theorem k_318 : tyOk Go.Proofs.Tryz.prog 318 (.one [.sc .nilFunc]) := ⟨by kernel_rfl, by kernel_rfl⟩
theorem k_319 : tyOk Go.Proofs.Tryz.prog 319 (.one [.sc .nilFunc]) := ⟨by kernel_rfl, by kernel_rfl⟩
theorem k_320 : tyOk Go.Proofs.Tryz.prog 320 (.one [.sc (.int .i64 0)]) := ⟨by kernel_rfl, by kernel_rfl⟩
theorem k_322 : tyOk Go.Proofs.Tryz.prog 322 (.one [.sc .nilFunc]) := ⟨by kernel_rfl, by kernel_rfl⟩
theorem k_323 : tyOk Go.Proofs.Tryz.prog 323 (.one [.sc .nilFunc]) := ⟨by kernel_rfl, by kernel_rfl⟩
theorem k_324 : tyOk Go.Proofs.Tryz.prog 324 (.one [.sc .nilFunc]) := ⟨by kernel_rfl, by kernel_rfl⟩
theorem k_326 : tyOk Go.Proofs.Tryz.prog 326 (.one [.sc .nilFunc]) := ⟨by kernel_rfl, by kernel_rfl⟩
theorem k_327 : tyOk Go.Proofs.Tryz.prog 327 (.one [.sc .nilFunc]) := ⟨by kernel_rfl, by kernel_rfl⟩
theorem k_328 : tyOk Go.Proofs.Tryz.prog 328 (.one [.sc .nilFunc]) := ⟨by kernel_rfl, by kernel_rfl⟩
theorem k_329 : tyOk Go.Proofs.Tryz.prog 329 (.one [.sc .nilFunc]) := ⟨by kernel_rfl, by kernel_rfl⟩
theorem k_330 : tyOk Go.Proofs.Tryz.prog 330 (.one [.sc .nilFunc]) := ⟨by kernel_rfl, by kernel_rfl⟩
theorem k_331 : tyOk Go.Proofs.Tryz.prog 331 (.one [.sc .nilFunc]) := ⟨by kernel_rfl, by kernel_rfl⟩
theorem k_332 : tyOk Go.Proofs.Tryz.prog 332 (.one [.sc .nilFunc]) := ⟨by kernel_rfl, by kernel_rfl⟩
theorem k_333 : tyOk Go.Proofs.Tryz.prog 333 (.one [.sc .nilFunc]) := ⟨by kernel_rfl, by kernel_rfl⟩
theorem k_334 : tyOk Go.Proofs.Tryz.prog 334 (.one [.sc .nilFunc]) := ⟨by kernel_rfl, by kernel_rfl⟩
theorem k_335 : tyOk Go.Proofs.Tryz.prog 335 (.one [.sc .nilFunc]) := ⟨by kernel_rfl, by kernel_rfl⟩
theorem k_336 : tyOk Go.Proofs.Tryz.prog 336 (.one [.sc (.complex .f64 0 0)]) := ⟨by kernel_rfl, by kernel_rfl⟩
theorem k_338 : tyOk Go.Proofs.Tryz.prog 338 (.one [.sc .nilFunc]) := ⟨by kernel_rfl, by kernel_rfl⟩
theorem k_339 : tyOk Go.Proofs.Tryz.prog 339 (.one [.sc .nilFunc]) := ⟨by kernel_rfl, by kernel_rfl⟩
theorem k_341 : tyOk Go.Proofs.Tryz.prog 341 (.one [.sc .nilFunc]) := ⟨by kernel_rfl, by kernel_rfl⟩
theorem k_342 : tyOk Go.Proofs.Tryz.prog 342 (.one [.sc .nilFunc]) := ⟨by kernel_rfl, by kernel_rfl⟩
theorem k_344 : tyOk Go.Proofs.Tryz.prog 344 (.one [.sc .nilFunc]) := ⟨by kernel_rfl, by kernel_rfl⟩
theorem k_345 : tyOk Go.Proofs.Tryz.prog 345 (.one [.sc .nilFunc]) := ⟨by kernel_rfl, by kernel_rfl⟩
theorem k_347 : tyOk Go.Proofs.Tryz.prog 347 (.one [.sc .nilFunc]) := ⟨by kernel_rfl, by kernel_rfl⟩
theorem k_348 : tyOk Go.Proofs.Tryz.prog 348 (.one [.sc (.int .u64 0)]) := ⟨by kernel_rfl, by kernel_rfl⟩
theorem k_349 : tyOk Go.Proofs.Tryz.prog 349 (.one [.sc .nilFunc]) := ⟨by kernel_rfl, by kernel_rfl⟩
theorem k_350 : tyOk Go.Proofs.Tryz.prog 350 (.one [.sc .nilFunc]) := ⟨by kernel_rfl, by kernel_rfl⟩
theorem k_351 : tyOk Go.Proofs.Tryz.prog 351 (.one [.sc .nilFunc]) := ⟨by kernel_rfl, by kernel_rfl⟩
theorem k_352 : tyOk Go.Proofs.Tryz.prog 352 (.one [.sc (.pointer none)]) := ⟨by kernel_rfl, by kernel_rfl⟩
theorem k_353 : tyOk Go.Proofs.Tryz.prog 353 (.one [.sc .nilFunc]) := ⟨by kernel_rfl, by kernel_rfl⟩
theorem k_354 : tyOk Go.Proofs.Tryz.prog 354 (.one [.sc .nilFunc]) := ⟨by kernel_rfl, by kernel_rfl⟩
theorem k_355 : tyOk Go.Proofs.Tryz.prog 355 (.one [.sc .nilFunc]) := ⟨by kernel_rfl, by kernel_rfl⟩
theorem k_356 : tyOk Go.Proofs.Tryz.prog 356 (.one [.sc .nilFunc]) := ⟨by kernel_rfl, by kernel_rfl⟩
theorem k_357 : tyOk Go.Proofs.Tryz.prog 357 (.one [.sc .nilFunc]) := ⟨by kernel_rfl, by kernel_rfl⟩
theorem k_358 : tyOk Go.Proofs.Tryz.prog 358 (.one [.sc (.float .f64 0)]) := ⟨by kernel_rfl, by kernel_rfl⟩
theorem k_359 : tyOk Go.Proofs.Tryz.prog 359 (.one [.sc .nilFunc]) := ⟨by kernel_rfl, by kernel_rfl⟩
theorem k_360 : tyOk Go.Proofs.Tryz.prog 360 (.one [.sc .nilFunc]) := ⟨by kernel_rfl, by kernel_rfl⟩
theorem k_361 : tyOk Go.Proofs.Tryz.prog 361 (.one [.sc .nilFunc]) := ⟨by kernel_rfl, by kernel_rfl⟩
theorem k_362 : tyOk Go.Proofs.Tryz.prog 362 (.one [.sc .nilFunc]) := ⟨by kernel_rfl, by kernel_rfl⟩
theorem k_363 : tyOk Go.Proofs.Tryz.prog 363 (.one [.sc .nilFunc]) := ⟨by kernel_rfl, by kernel_rfl⟩
theorem k_364 : tyOk Go.Proofs.Tryz.prog 364 (.one [.sc .nilFunc]) := ⟨by kernel_rfl, by kernel_rfl⟩
theorem k_365 : tyOk Go.Proofs.Tryz.prog 365 (.one [.sc .nilFunc]) := ⟨by kernel_rfl, by kernel_rfl⟩
theorem k_366 : tyOk Go.Proofs.Tryz.prog 366 (.one [.sc .nilFunc]) := ⟨by kernel_rfl, by kernel_rfl⟩
theorem k_367 : tyOk Go.Proofs.Tryz.prog 367 (.one [.sc (.pointer none)]) := ⟨by kernel_rfl, by kernel_rfl⟩
theorem k_369 : tyOk Go.Proofs.Tryz.prog 369 (.one [.sc .nilFunc]) := ⟨by kernel_rfl, by kernel_rfl⟩
theorem k_370 : tyOk Go.Proofs.Tryz.prog 370 (.one [.sc .nilFunc]) := ⟨by kernel_rfl, by kernel_rfl⟩
theorem k_371 : tyOk Go.Proofs.Tryz.prog 371 (.one [.sc .nilFunc]) := ⟨by kernel_rfl, by kernel_rfl⟩
theorem k_372 : tyOk Go.Proofs.Tryz.prog 372 (.one [.sc .nilFunc]) := ⟨by kernel_rfl, by kernel_rfl⟩
theorem k_373 : tyOk Go.Proofs.Tryz.prog 373 (.one [.sc .nilFunc]) := ⟨by kernel_rfl, by kernel_rfl⟩
theorem k_375 : tyOk Go.Proofs.Tryz.prog 375 (.one [.sc .nilFunc]) := ⟨by kernel_rfl, by kernel_rfl⟩
theorem k_376 : tyOk Go.Proofs.Tryz.prog 376 (.one [.sc .nilFunc]) := ⟨by kernel_rfl, by kernel_rfl⟩
theorem k_377 : tyOk Go.Proofs.Tryz.prog 377 (.arr 2 358 1 [.sc (.float .f64 0), .sc (.float .f64 0)]) := ⟨by kernel_rfl, by kernel_rfl, by kernel_rfl⟩
theorem k_378 : tyOk Go.Proofs.Tryz.prog 378 (.one [.sc .nilFunc]) := ⟨by kernel_rfl, by kernel_rfl⟩
theorem k_379 : tyOk Go.Proofs.Tryz.prog 379 (.one [.sc .nilFunc]) := ⟨by kernel_rfl, by kernel_rfl⟩
theorem k_380 : tyOk Go.Proofs.Tryz.prog 380 (.one [.sc .nilFunc]) := ⟨by kernel_rfl, by kernel_rfl⟩
theorem k_381 : tyOk Go.Proofs.Tryz.prog 381 (.one [.sc .nilFunc]) := ⟨by kernel_rfl, by kernel_rfl⟩
theorem k_382 : tyOk Go.Proofs.Tryz.prog 382 (.one [.sc .nilFunc]) := ⟨by kernel_rfl, by kernel_rfl⟩
theorem k_383 : tyOk Go.Proofs.Tryz.prog 383 (.one [.sc .nilFunc]) := ⟨by kernel_rfl, by kernel_rfl⟩
theorem k_384 : tyOk Go.Proofs.Tryz.prog 384 (.one [.sc .nilFunc]) := ⟨by kernel_rfl, by kernel_rfl⟩
theorem k_385 : tyOk Go.Proofs.Tryz.prog 385 (.agg [(0, 1), (1, 1), (2, 1), (3, 1)] [.sc (.pointer none), .sc (.pointer none), .sc (.pointer none), .sc (.string ⟨#[]⟩)]) := ⟨by kernel_rfl, by kernel_rfl, by kernel_rfl⟩
theorem k_386 : tyOk Go.Proofs.Tryz.prog 386 (.agg [(0, 1), (1, 1), (2, 1), (3, 1)] [.sc (.pointer none), .sc (.pointer none), .sc (.pointer none), .sc (.string ⟨#[]⟩)]) := ⟨by kernel_rfl, by kernel_rfl, by kernel_rfl⟩
theorem k_387 : tyOk Go.Proofs.Tryz.prog 387 (.arr 0 16 1 []) := ⟨by kernel_rfl, by kernel_rfl, by kernel_rfl⟩
theorem k_388 : tyOk Go.Proofs.Tryz.prog 388 (.agg [(0, 0)] []) := ⟨by kernel_rfl, by kernel_rfl, by kernel_rfl⟩
theorem k_389 : tyOk Go.Proofs.Tryz.prog 389 (.agg [(0, 0)] []) := ⟨by kernel_rfl, by kernel_rfl, by kernel_rfl⟩
theorem k_390 : tyOk Go.Proofs.Tryz.prog 390 (.one [.sc (.int .u8 0)]) := ⟨by kernel_rfl, by kernel_rfl⟩
theorem k_391 : tyOk Go.Proofs.Tryz.prog 391 (.one [.sc (.int .u8 0)]) := ⟨by kernel_rfl, by kernel_rfl⟩
theorem k_392 : tyOk Go.Proofs.Tryz.prog 392 (.one [.sc .nilFunc]) := ⟨by kernel_rfl, by kernel_rfl⟩
theorem k_393 : tyOk Go.Proofs.Tryz.prog 393 (.one [.sc (.pointer none)]) := ⟨by kernel_rfl, by kernel_rfl⟩
theorem k_394 : tyOk Go.Proofs.Tryz.prog 394 (.one [.sc (.int .i32 0)]) := ⟨by kernel_rfl, by kernel_rfl⟩
theorem k_395 : tyOk Go.Proofs.Tryz.prog 395 (.one [.sc (.int .i32 0)]) := ⟨by kernel_rfl, by kernel_rfl⟩
theorem k_396 : tyOk Go.Proofs.Tryz.prog 396 (.agg [(0, 1), (1, 1), (2, 1), (3, 1), (4, 1), (5, 1), (6, 1), (7, 1), (8, 1), (9, 1), (10, 1)] [.sc (.int .u64 0), .sc (.int .u64 0), .sc (.int .u32 0), .sc (.int .u8 0), .sc (.int .u8 0), .sc (.int .u8 0), .sc (.int .u8 0), .sc .nilFunc, .sc (.pointer none), .sc (.int .i32 0), .sc (.int .i32 0)]) := ⟨by kernel_rfl, by kernel_rfl, by kernel_rfl⟩
theorem k_397 : tyOk Go.Proofs.Tryz.prog 397 (.agg [(0, 1), (1, 1), (2, 1), (3, 1), (4, 1), (5, 1), (6, 1), (7, 1), (8, 1), (9, 1), (10, 1)] [.sc (.int .u64 0), .sc (.int .u64 0), .sc (.int .u32 0), .sc (.int .u8 0), .sc (.int .u8 0), .sc (.int .u8 0), .sc (.int .u8 0), .sc .nilFunc, .sc (.pointer none), .sc (.int .i32 0), .sc (.int .i32 0)]) := ⟨by kernel_rfl, by kernel_rfl, by kernel_rfl⟩
theorem sm {p : TyI → Prop} {a : TyI} (h : p a) : ∀ i, some a = some i → p i := fun i e => by injection e with e; subst e; exact h
theorem nn {p : TyI → Prop} : ∀ i, (none : Option TyI) = some i → p i := fun i e => by cases e
def tt : TT := .node (none) (.node (some (.one [.sc .nilFunc])) (.node (some (.one [.sc (.int .i64 0)])) (.node (some (.agg [(0, 1), (1, 1), (2, 1), (3, 1)] [.sc (.int .i64 0), .sc (.int .i64 0), .sc (.bool false), .sc (.int .u8 0)])) (.node (some (.one [.sc (.pointer none)])) (.node (some (.one [.sc (.pointer none)])) (.node (some (.one [.sc .nilFunc])) (.node (some (.arr 6 26 1 [.row [], .row [], .row [], .row [], .row [], .row []])) (.node (some (.slice 259 3 24)) (.leaf) (.leaf)) (.node (some (.one [.sc .nilFunc])) (.leaf) (.leaf))) (.node (none) (.node (some (.one [.sc .nilFunc])) (.leaf) (.leaf)) (.leaf))) (.node (some (.one [.sc .nilFunc])) (.node (some (.agg [(0, 1), (1, 1)] [.sc (.string ⟨#[]⟩), .sc (.string ⟨#[]⟩)])) (.node (some (.one [.sc .nilFunc])) (.leaf) (.leaf)) (.leaf)) (.node (some (.one [.sc .nilFunc])) (.node (some (.one [.sc .nilFunc])) (.leaf) (.leaf)) (.leaf)))) (.node (some (.agg [(0, 1), (1, 1), (2, 1)] [.sc (.int .i64 0), .sc (.string ⟨#[]⟩), .sc (.string ⟨#[]⟩)])) (.node (some (.one [.sc .nilFunc])) (.node (some (.agg [(0, 1), (1, 1), (2, 1), (3, 1)] [.sc (.int .i64 0), .sc (.bool false), .sc (.int .i64 0), .row []])) (.node (some (.one [.sc .nilFunc])) (.leaf) (.leaf)) (.leaf)) (.node (some (.one [.sc .nilFunc])) (.node (some (.one [.sc .nilFunc])) (.leaf) (.leaf)) (.leaf))) (.node (some (.slice 53 7 96)) (.node (some (.one [.sc .nilFunc])) (.leaf) (.leaf)) (.node (none) (.node (some (.one [.sc (.pointer none)])) (.leaf) (.leaf)) (.leaf))))) (.node (some (.arr 6 3 1 [.sc (.int .i64 0), .sc (.int .i64 0), .sc (.int .i64 0), .sc (.int .i64 0), .sc (.int .i64 0), .sc (.int .i64 0)])) (.node (some (.one [.sc .nilFunc])) (.node (some (.one [.sc .nilFunc])) (.node (none) (.node (some (.one [.sc .nilFunc])) (.leaf) (.leaf)) (.node (some (.one [.sc (.int .u8 0)])) (.leaf) (.leaf))) (.node (some (.one [.sc .nilFunc])) (.node (some (.one [.sc .nilFunc])) (.leaf) (.leaf)) (.leaf))) (.node (some (.one [.sc .nilFunc])) (.node (some (.one [.sc .nilFunc])) (.node (some (.one [.sc .nilFunc])) (.leaf) (.leaf)) (.leaf)) (.node (some (.one [.sc .nilFunc])) (.node (some (.one [.sc .nilFunc])) (.leaf) (.leaf)) (.leaf)))) (.node (some (.agg [(0, 1), (1, 3), (4, 1), (5, 1), (6, 1), (7, 7), (14, 1), (15, 1)] [.sc (.int .i64 0), .sc (.int .i64 0), .sc (.string ⟨#[]⟩), .sc (.string ⟨#[]⟩), .sc (.string ⟨#[]⟩), .sc (.string ⟨#[]⟩), .sc (.int .i64 0), .sc (.int .i64 0), .sc (.string ⟨#[]⟩), .sc (.string ⟨#[]⟩), .sc (.int .i64 0), .sc (.string ⟨#[]⟩), .row [], .sc (.int .i64 0), .row [], .row []])) (.node (some (.one [.sc .nilFunc])) (.node (some (.one [.sc .nilFunc])) (.node (some (.one [.sc .nilFunc])) (.leaf) (.leaf)) (.leaf)) (.leaf)) (.node (some (.one [.sc .nilFunc])) (.node (some (.one [.sc .nilFunc])) (.leaf) (.leaf)) (.node (some (.one [.sc (.map none)])) (.node (some (.one [.sc .nilFunc])) (.leaf) (.leaf)) (.leaf)))))) (.node (some (.str)) (.node (some (.agg [(0, 1)] [.sc (.pointer none)])) (.node (some (.one [.sc (.pointer none)])) (.node (some (.agg [(0, 1), (1, 1)] [.row [], .row []])) (.node (some (.one [.sc (.pointer none)])) (.node (some (.agg [(0, 2), (2, 1)] [.sc (.int .i64 0), .sc (.int .i64 0), .sc (.bool false)])) (.leaf) (.leaf)) (.node (some (.arr 0 16 1 [])) (.leaf) (.leaf))) (.node (some (.one [.sc .nilFunc])) (.node (some (.one [.sc .nilFunc])) (.leaf) (.leaf)) (.leaf))) (.node (some (.one [.sc .nilFunc])) (.node (none) (.node (some (.one [.sc .nilFunc])) (.leaf) (.leaf)) (.leaf)) (.node (none) (.node (some (.one [.sc .nilFunc])) (.leaf) (.leaf)) (.leaf)))) (.node (some (.slice 9 1 16)) (.node (some (.agg [(0, 1), (1, 4), (5, 4), (9, 1), (10, 1), (11, 1), (12, 1), (13, 1), (14, 1)] [.sc (.int .i64 0), .row [], .row [], .row [], .row [], .row [], .row [], .row [], .row [], .row [], .sc (.int .i64 0), .sc (.int .i64 0), .sc (.bool false), .sc (.int .i64 0), .sc (.bool false)])) (.node (some (.agg [(0, 20), (20, 1), (21, 1), (22, 1)] [.sc (.int .i64 0), .sc (.int .i64 0), .sc (.int .i64 0), .sc (.int .i64 0), .sc (.int .i64 0), .sc (.int .i64 0), .sc (.string ⟨#[]⟩), .sc (.string ⟨#[]⟩), .sc (.string ⟨#[]⟩), .sc (.string ⟨#[]⟩), .sc (.int .i64 0), .sc (.int .i64 0), .sc (.string ⟨#[]⟩), .sc (.string ⟨#[]⟩), .sc (.int .i64 0), .sc (.string ⟨#[]⟩), .row [], .sc (.int .i64 0), .row [], .row [], .sc (.int .i64 0), .row [], .sc (.int .i64 0)])) (.node (some (.one [.sc .nilFunc])) (.leaf) (.leaf)) (.leaf)) (.node (some (.one [.sc .nilFunc])) (.node (some (.one [.sc .nilFunc])) (.leaf) (.leaf)) (.leaf))) (.node (some (.one [.sc .nilFunc])) (.node (some (.one [.sc .nilFunc])) (.node (some (.one [.sc .nilFunc])) (.leaf) (.leaf)) (.leaf)) (.node (some (.one [.sc .nilFunc])) (.node (some (.one [.sc .nilFunc])) (.leaf) (.leaf)) (.leaf))))) (.node (some (.agg [(0, 1), (1, 1), (2, 1), (3, 6), (9, 1), (10, 1), (11, 1)] [.sc (.int .i64 0), .sc (.int .i64 0), .sc (.int .i64 0), .sc (.int .i64 0), .sc (.int .i64 0), .sc (.int .i64 0), .sc (.int .i64 0), .sc (.int .i64 0), .sc (.int .i64 0), .row [], .row [], .row []])) (.node (some (.one [.sc .nilFunc])) (.node (some (.one [.sc (.pointer none)])) (.node (some (.one [.sc .nilFunc])) (.node (some (.one [.sc .nilFunc])) (.leaf) (.leaf)) (.node (some (.one [.sc (.int .i32 0)])) (.leaf) (.leaf))) (.node (some (.one [.sc .nilFunc])) (.node (some (.one [.sc .nilFunc])) (.leaf) (.leaf)) (.leaf))) (.node (some (.one [.sc .nilFunc])) (.node (some (.agg [(0, 1), (1, 1)] [.sc (.string ⟨#[]⟩), .row []])) (.node (some (.one [.sc .nilFunc])) (.leaf) (.leaf)) (.leaf)) (.node (some (.one [.sc .nilFunc])) (.node (some (.one [.sc .nilFunc])) (.leaf) (.leaf)) (.leaf)))) (.node (some (.one [.sc .nilFunc])) (.node (some (.one [.sc .nilFunc])) (.node (some (.one [.sc (.map none)])) (.node (some (.one [.sc .nilFunc])) (.leaf) (.leaf)) (.leaf)) (.node (none) (.node (some (.one [.sc .nilFunc])) (.leaf) (.leaf)) (.leaf))) (.node (some (.one [.sc (.int .u64 0)])) (.node (some (.one [.sc .nilFunc])) (.node (some (.one [.sc .nilFunc])) (.leaf) (.leaf)) (.leaf)) (.node (some (.one [.sc .nilFunc])) (.node (some (.one [.sc .nilFunc])) (.leaf) (.leaf)) (.leaf))))))) (.node (some (.one [.sc (.int .u8 0)])) (.node (some (.str)) (.node (some (.one [.sc (.pointer none)])) (.node (none) (.node (some (.slice 172 2 40)) (.node (some (.agg [(0, 6)] [.row [], .row [], .row [], .row [], .row [], .row []])) (.node (some (.one [.sc .nilFunc])) (.leaf) (.leaf)) (.node (some (.agg [(0, 1), (1, 1), (2, 1), (3, 1)] [.sc (.pointer none), .sc (.pointer none), .sc (.pointer none), .sc (.string ⟨#[]⟩)])) (.leaf) (.leaf))) (.leaf)) (.node (some (.one [.sc .nilFunc])) (.node (some (.one [.sc .nilFunc])) (.leaf) (.leaf)) (.node (some (.agg [(0, 3), (3, 1), (4, 1)] [.sc (.int .i64 0), .sc (.string ⟨#[]⟩), .sc (.string ⟨#[]⟩), .sc (.int .i64 0), .row []])) (.node (some (.one [.sc .nilFunc])) (.leaf) (.leaf)) (.leaf)))) (.node (some (.agg [(0, 1), (1, 1)] [.sc (.int .i64 0), .sc (.int .i64 0)])) (.node (some (.arr 4 80 1 [.row [], .row [], .row [], .row []])) (.node (some (.one [.sc .nilFunc])) (.node (some (.one [.sc .nilFunc])) (.leaf) (.leaf)) (.leaf)) (.node (some (.one [.sc .nilFunc])) (.leaf) (.leaf))) (.node (some (.one [.sc .nilFunc])) (.node (some (.one [.sc .nilFunc])) (.leaf) (.leaf)) (.node (some (.slice 48 3 40)) (.node (some (.one [.sc .nilFunc])) (.leaf) (.leaf)) (.leaf))))) (.node (some (.slice 101 20 264)) (.node (some (.one [.sc .nilFunc])) (.node (some (.one [.sc (.pointer none)])) (.node (some (.one [.sc .nilFunc])) (.node (some (.one [.sc .nilFunc])) (.leaf) (.leaf)) (.node (some (.one [.sc (.pointer none)])) (.leaf) (.leaf))) (.node (some (.one [.sc .nilFunc])) (.node (some (.one [.sc .nilFunc])) (.leaf) (.leaf)) (.leaf))) (.node (some (.slice 80 1 24)) (.node (some (.one [.sc .nilFunc])) (.leaf) (.leaf)) (.node (some (.one [.sc (.pointer none)])) (.node (some (.one [.sc .nilFunc])) (.leaf) (.leaf)) (.leaf)))) (.node (some (.agg [(0, 1), (1, 1), (2, 1), (3, 3), (6, 1), (7, 1), (8, 2), (10, 16)] [.sc (.int .i64 0), .sc (.string ⟨#[]⟩), .sc (.string ⟨#[]⟩), .sc (.int .i64 0), .sc (.string ⟨#[]⟩), .sc (.string ⟨#[]⟩), .sc (.int .i64 0), .sc (.string ⟨#[]⟩), .sc (.int .i64 0), .sc (.int .i64 0), .sc (.int .i64 0), .sc (.int .i64 0), .sc (.string ⟨#[]⟩), .sc (.string ⟨#[]⟩), .sc (.string ⟨#[]⟩), .sc (.string ⟨#[]⟩), .sc (.int .i64 0), .sc (.int .i64 0), .sc (.string ⟨#[]⟩), .sc (.string ⟨#[]⟩), .sc (.int .i64 0), .sc (.string ⟨#[]⟩), .row [], .sc (.int .i64 0), .row [], .row []])) (.node (some (.arrB 256 88 1)) (.node (some (.one [.sc .nilFunc])) (.node (some (.one [.sc .nilFunc])) (.leaf) (.leaf)) (.leaf)) (.node (some (.agg [(0, 1), (1, 1), (2, 1), (3, 1)] [.row [], .sc (.int .i64 0), .sc (.int .i64 0), .sc (.bool false)])) (.node (some (.one [.sc .nilFunc])) (.leaf) (.leaf)) (.leaf))) (.node (some (.agg [(0, 2), (2, 2), (4, 1), (5, 1), (6, 1), (7, 1), (8, 3), (11, 1), (12, 1), (13, 1), (14, 1)] [.sc (.int .i64 0), .sc (.int .i64 0), .sc (.int .i64 0), .sc (.int .i64 0), .sc (.int .i64 0), .sc (.string ⟨#[]⟩), .sc (.int .i64 0), .sc (.string ⟨#[]⟩), .sc (.int .i64 0), .sc (.string ⟨#[]⟩), .sc (.string ⟨#[]⟩), .sc (.int .i64 0), .sc (.bool false), .sc (.string ⟨#[]⟩), .row []])) (.node (some (.one [.sc .nilFunc])) (.leaf) (.leaf)) (.node (some (.agg [(0, 1), (1, 3)] [.sc (.string ⟨#[]⟩), .sc (.int .i64 0), .sc (.string ⟨#[]⟩), .sc (.string ⟨#[]⟩)])) (.node (some (.arr 2 358 1 [.sc (.float .f64 0), .sc (.float .f64 0)])) (.leaf) (.leaf)) (.leaf)))))) (.node (some (.agg [(0, 1), (1, 1)] [.sc (.string ⟨#[]⟩), .sc (.int .u64 0)])) (.node (some (.one [.sc (.int .i32 0)])) (.node (some (.one [.sc .nilFunc])) (.node (some (.agg [(0, 1), (1, 2), (3, 2)] [.sc (.int .i64 0), .sc (.int .i64 0), .sc (.int .i64 0), .row [], .row []])) (.node (none) (.node (some (.one [.sc .nilFunc])) (.leaf) (.leaf)) (.node (some (.agg [(0, 0)] [])) (.leaf) (.leaf))) (.node (some (.one [.sc .nilFunc])) (.leaf) (.leaf))) (.node (some (.agg [(0, 2), (2, 2), (4, 16)] [.sc (.int .i64 0), .sc (.int .i64 0), .sc (.int .i64 0), .sc (.int .i64 0), .sc (.int .i64 0), .sc (.int .i64 0), .sc (.string ⟨#[]⟩), .sc (.string ⟨#[]⟩), .sc (.string ⟨#[]⟩), .sc (.string ⟨#[]⟩), .sc (.int .i64 0), .sc (.int .i64 0), .sc (.string ⟨#[]⟩), .sc (.string ⟨#[]⟩), .sc (.int .i64 0), .sc (.string ⟨#[]⟩), .row [], .sc (.int .i64 0), .row [], .row []])) (.node (some (.one [.sc (.pointer none)])) (.node (some (.one [.sc .nilFunc])) (.leaf) (.leaf)) (.leaf)) (.node (some (.agg [(0, 1), (1, 2), (3, 1), (4, 1), (5, 26)] [.sc (.pointer none), .sc (.int .i64 0), .sc (.int .i64 0), .row [], .row [], .sc (.int .i64 0), .sc (.string ⟨#[]⟩), .sc (.string ⟨#[]⟩), .sc (.int .i64 0), .sc (.string ⟨#[]⟩), .sc (.string ⟨#[]⟩), .sc (.int .i64 0), .sc (.string ⟨#[]⟩), .sc (.int .i64 0), .sc (.int .i64 0), .sc (.int .i64 0), .sc (.int .i64 0), .sc (.string ⟨#[]⟩), .sc (.string ⟨#[]⟩), .sc (.string ⟨#[]⟩), .sc (.string ⟨#[]⟩), .sc (.int .i64 0), .sc (.int .i64 0), .sc (.string ⟨#[]⟩), .sc (.string ⟨#[]⟩), .sc (.int .i64 0), .sc (.string ⟨#[]⟩), .row [], .sc (.int .i64 0), .row [], .row []])) (.node (some (.one [.sc .nilFunc])) (.leaf) (.leaf)) (.leaf)))) (.node (some (.agg [(0, 3), (3, 1), (4, 1), (5, 1), (6, 1)] [.sc (.int .i64 0), .sc (.string ⟨#[]⟩), .sc (.string ⟨#[]⟩), .sc (.int .i64 0), .sc (.string ⟨#[]⟩), .row [], .sc (.int .i64 0)])) (.node (some (.one [.sc (.pointer none)])) (.node (some (.one [.sc .nilFunc])) (.node (some (.one [.sc .nilFunc])) (.leaf) (.leaf)) (.leaf)) (.node (some (.one [.sc .nilFunc])) (.node (some (.one [.sc .nilFunc])) (.leaf) (.leaf)) (.leaf))) (.node (none) (.node (none) (.node (some (.one [.sc .nilFunc])) (.leaf) (.leaf)) (.leaf)) (.node (some (.one [.sc .nilFunc])) (.node (some (.one [.sc .nilFunc])) (.leaf) (.leaf)) (.leaf))))) (.node (some (.one [.sc .nilFunc])) (.node (some (.one [.sc .nilFunc])) (.node (some (.one [.sc .nilFunc])) (.node (some (.one [.sc .nilFunc])) (.node (some (.one [.sc .nilFunc])) (.leaf) (.leaf)) (.node (some (.agg [(0, 1), (1, 1), (2, 1), (3, 1), (4, 1), (5, 1), (6, 1), (7, 1), (8, 1), (9, 1), (10, 1)] [.sc (.int .u64 0), .sc (.int .u64 0), .sc (.int .u32 0), .sc (.int .u8 0), .sc (.int .u8 0), .sc (.int .u8 0), .sc (.int .u8 0), .sc .nilFunc, .sc (.pointer none), .sc (.int .i32 0), .sc (.int .i32 0)])) (.leaf) (.leaf))) (.node (none) (.node (some (.one [.sc .nilFunc])) (.leaf) (.leaf)) (.leaf))) (.node (some (.one [.sc .nilFunc])) (.node (none) (.node (some (.one [.sc .nilFunc])) (.leaf) (.leaf)) (.leaf)) (.node (some (.one [.sc .nilFunc])) (.node (some (.one [.sc .nilFunc])) (.leaf) (.leaf)) (.leaf)))) (.node (some (.one [.sc .nilFunc])) (.node (some (.agg [(0, 1), (1, 1), (2, 1), (3, 2), (5, 1), (6, 1), (7, 1)] [.sc (.pointer none), .sc (.pointer none), .sc (.int .i64 0), .sc (.int .i64 0), .sc (.int .i64 0), .sc (.pointer none), .sc (.pointer none), .sc (.bool false)])) (.node (none) (.node (some (.one [.sc .nilFunc])) (.leaf) (.leaf)) (.leaf)) (.node (some (.one [.sc .nilFunc])) (.node (some (.one [.sc .nilFunc])) (.leaf) (.leaf)) (.leaf))) (.node (some (.agg [(0, 1)] [.sc (.map none)])) (.node (some (.one [.sc .nilFunc])) (.node (some (.one [.sc .nilFunc])) (.leaf) (.leaf)) (.leaf)) (.node (some (.one [.sc .nilFunc])) (.node (some (.one [.sc .nilFunc])) (.leaf) (.leaf)) (.leaf)))))))) (.node (some (.one [.sc (.int .i64 0)])) (.node (some (.one [.sc (.bool false)])) (.node (some (.agg [(0, 1), (1, 1), (2, 1), (3, 1)] [.sc (.int .i64 0), .sc (.int .i64 0), .sc (.bool false), .sc (.int .u8 0)])) (.node (some (.one [.sc (.pointer none)])) (.node (some (.one [.sc (.int .i64 0)])) (.node (some (.slice 225 5 72)) (.node (some (.agg [(0, 6)] [.row [], .row [], .row [], .row [], .row [], .row []])) (.leaf) (.node (some (.one [.sc .nilFunc])) (.leaf) (.leaf))) (.node (none) (.node (some (.one [.sc (.int .i64 0)])) (.leaf) (.leaf)) (.leaf))) (.node (some (.one [.sc .nilFunc])) (.node (some (.agg [(0, 1), (1, 1)] [.sc (.string ⟨#[]⟩), .sc (.string ⟨#[]⟩)])) (.node (some (.one [.sc .nilFunc])) (.leaf) (.leaf)) (.leaf)) (.node (some (.agg [(0, 3), (3, 1), (4, 1)] [.sc (.int .i64 0), .sc (.string ⟨#[]⟩), .sc (.string ⟨#[]⟩), .sc (.int .i64 0), .row []])) (.node (some (.one [.sc (.pointer none)])) (.leaf) (.leaf)) (.leaf)))) (.node (some (.agg [(0, 1), (1, 1), (2, 1)] [.sc (.int .i64 0), .sc (.string ⟨#[]⟩), .sc (.string ⟨#[]⟩)])) (.node (some (.slice 5 1 1)) (.node (some (.one [.sc .nilFunc])) (.node (some (.one [.sc .nilFunc])) (.leaf) (.leaf)) (.leaf)) (.node (some (.one [.sc .nilFunc])) (.node (some (.one [.sc (.complex .f64 0 0)])) (.leaf) (.leaf)) (.leaf))) (.node (none) (.node (some (.one [.sc .nilFunc])) (.node (some (.one [.sc .nilFunc])) (.leaf) (.leaf)) (.leaf)) (.node (some (.one [.sc .nilFunc])) (.leaf) (.leaf))))) (.node (some (.slice 50 2 16)) (.node (none) (.node (some (.one [.sc .nilFunc])) (.node (some (.one [.sc .nilFunc])) (.leaf) (.node (some (.one [.sc .nilFunc])) (.leaf) (.leaf))) (.node (some (.one [.sc .nilFunc])) (.node (some (.one [.sc .nilFunc])) (.leaf) (.leaf)) (.leaf))) (.node (some (.one [.sc .nilFunc])) (.node (some (.one [.sc .nilFunc])) (.node (some (.one [.sc .nilFunc])) (.leaf) (.leaf)) (.leaf)) (.node (some (.one [.sc .nilFunc])) (.node (some (.one [.sc .nilFunc])) (.leaf) (.leaf)) (.leaf)))) (.node (some (.agg [(0, 1), (1, 3), (4, 1), (5, 1), (6, 1), (7, 7), (14, 1), (15, 1)] [.sc (.int .i64 0), .sc (.int .i64 0), .sc (.string ⟨#[]⟩), .sc (.string ⟨#[]⟩), .sc (.string ⟨#[]⟩), .sc (.string ⟨#[]⟩), .sc (.int .i64 0), .sc (.int .i64 0), .sc (.string ⟨#[]⟩), .sc (.string ⟨#[]⟩), .sc (.int .i64 0), .sc (.string ⟨#[]⟩), .row [], .sc (.int .i64 0), .row [], .row []])) (.node (some (.one [.sc (.int .u32 0)])) (.node (some (.one [.sc .nilFunc])) (.node (some (.one [.sc .nilFunc])) (.leaf) (.leaf)) (.leaf)) (.node (some (.one [.sc .nilFunc])) (.node (some (.one [.sc .nilFunc])) (.leaf) (.leaf)) (.leaf))) (.node (some (.agg [(0, 2), (2, 2), (4, 1), (5, 1), (6, 1), (7, 1), (8, 3), (11, 1), (12, 1), (13, 1), (14, 1)] [.sc (.int .i64 0), .sc (.int .i64 0), .sc (.int .i64 0), .sc (.int .i64 0), .sc (.int .i64 0), .sc (.string ⟨#[]⟩), .sc (.int .i64 0), .sc (.string ⟨#[]⟩), .sc (.int .i64 0), .sc (.string ⟨#[]⟩), .sc (.string ⟨#[]⟩), .sc (.int .i64 0), .sc (.bool false), .sc (.string ⟨#[]⟩), .row []])) (.node (some (.one [.sc .nilFunc])) (.node (some (.one [.sc .nilFunc])) (.leaf) (.leaf)) (.leaf)) (.node (some (.one [.sc .nilFunc])) (.node (some (.one [.sc .nilFunc])) (.leaf) (.leaf)) (.leaf)))))) (.node (some (.one [.sc (.int .u64 0)])) (.node (none) (.node (none) (.node (some (.agg [(0, 1), (1, 2), (3, 2)] [.sc (.int .i64 0), .sc (.int .i64 0), .sc (.int .i64 0), .row [], .row []])) (.node (none) (.leaf) (.node (some (.agg [(0, 0)] [])) (.leaf) (.leaf))) (.node (some (.one [.sc .nilFunc])) (.node (some (.one [.sc .nilFunc])) (.leaf) (.leaf)) (.leaf))) (.node (some (.agg [(0, 2), (2, 2), (4, 16)] [.sc (.int .i64 0), .sc (.int .i64 0), .sc (.int .i64 0), .sc (.int .i64 0), .sc (.int .i64 0), .sc (.int .i64 0), .sc (.string ⟨#[]⟩), .sc (.string ⟨#[]⟩), .sc (.string ⟨#[]⟩), .sc (.string ⟨#[]⟩), .sc (.int .i64 0), .sc (.int .i64 0), .sc (.string ⟨#[]⟩), .sc (.string ⟨#[]⟩), .sc (.int .i64 0), .sc (.string ⟨#[]⟩), .row [], .sc (.int .i64 0), .row [], .row []])) (.node (some (.one [.sc .nilFunc])) (.node (some (.one [.sc .nilFunc])) (.leaf) (.leaf)) (.leaf)) (.node (some (.one [.sc .nilFunc])) (.node (some (.one [.sc .nilFunc])) (.leaf) (.leaf)) (.leaf)))) (.node (some (.agg [(0, 3), (3, 1), (4, 1), (5, 1), (6, 1)] [.sc (.int .i64 0), .sc (.string ⟨#[]⟩), .sc (.string ⟨#[]⟩), .sc (.int .i64 0), .sc (.string ⟨#[]⟩), .row [], .sc (.int .i64 0)])) (.node (some (.agg [(0, 1), (1, 4), (5, 4), (9, 1), (10, 1), (11, 1), (12, 1), (13, 1), (14, 1)] [.sc (.int .i64 0), .row [], .row [], .row [], .row [], .row [], .row [], .row [], .row [], .row [], .sc (.int .i64 0), .sc (.int .i64 0), .sc (.bool false), .sc (.int .i64 0), .sc (.bool false)])) (.node (some (.one [.sc .nilFunc])) (.node (some (.one [.sc .nilFunc])) (.leaf) (.leaf)) (.leaf)) (.leaf)) (.node (some (.one [.sc .nilFunc])) (.node (some (.slice 56 16 232)) (.node (some (.one [.sc .nilFunc])) (.leaf) (.leaf)) (.leaf)) (.node (some (.one [.sc .nilFunc])) (.node (some (.one [.sc .nilFunc])) (.leaf) (.leaf)) (.leaf))))) (.node (some (.agg [(0, 1), (1, 1), (2, 1), (3, 6), (9, 1), (10, 1), (11, 1)] [.sc (.int .i64 0), .sc (.int .i64 0), .sc (.int .i64 0), .sc (.int .i64 0), .sc (.int .i64 0), .sc (.int .i64 0), .sc (.int .i64 0), .sc (.int .i64 0), .sc (.int .i64 0), .row [], .row [], .row []])) (.node (none) (.node (some (.one [.sc .nilFunc])) (.node (some (.one [.sc .nilFunc])) (.node (some (.one [.sc (.int .u64 0)])) (.leaf) (.leaf)) (.node (some (.agg [(0, 1), (1, 1), (2, 1), (3, 1), (4, 1), (5, 1), (6, 1), (7, 1), (8, 1), (9, 1), (10, 1)] [.sc (.int .u64 0), .sc (.int .u64 0), .sc (.int .u32 0), .sc (.int .u8 0), .sc (.int .u8 0), .sc (.int .u8 0), .sc (.int .u8 0), .sc .nilFunc, .sc (.pointer none), .sc (.int .i32 0), .sc (.int .i32 0)])) (.leaf) (.leaf))) (.node (some (.one [.sc .nilFunc])) (.node (some (.one [.sc .nilFunc])) (.leaf) (.leaf)) (.leaf))) (.node (some (.one [.sc .nilFunc])) (.node (some (.agg [(0, 1), (1, 1)] [.sc (.string ⟨#[]⟩), .row []])) (.node (some (.one [.sc .nilFunc])) (.leaf) (.leaf)) (.leaf)) (.node (some (.one [.sc .nilFunc])) (.node (some (.one [.sc .nilFunc])) (.leaf) (.leaf)) (.leaf)))) (.node (some (.one [.sc .nilFunc])) (.node (some (.agg [(0, 1), (1, 1), (2, 1), (3, 2), (5, 1), (6, 1), (7, 1)] [.sc (.pointer none), .sc (.pointer none), .sc (.int .i64 0), .sc (.int .i64 0), .sc (.int .i64 0), .sc (.pointer none), .sc (.pointer none), .sc (.bool false)])) (.node (some (.agg [] [])) (.node (some (.one [.sc .nilFunc])) (.leaf) (.leaf)) (.leaf)) (.node (some (.one [.sc .nilFunc])) (.node (some (.one [.sc (.int .u64 0)])) (.leaf) (.leaf)) (.leaf))) (.node (some (.one [.sc (.map none)])) (.node (none) (.node (some (.one [.sc .nilFunc])) (.leaf) (.leaf)) (.leaf)) (.node (some (.one [.sc .nilFunc])) (.node (some (.one [.sc .nilFunc])) (.leaf) (.leaf)) (.leaf))))))) (.node (some (.one [.sc (.int .u8 0)])) (.node (some (.str)) (.node (some (.agg [(0, 1)] [.sc (.pointer none)])) (.node (some (.one [.sc .nilFunc])) (.node (some (.agg [(0, 1), (1, 1)] [.row [], .row []])) (.node (some (.one [.sc (.pointer none)])) (.node (some (.agg [(0, 2), (2, 1)] [.sc (.int .i64 0), .sc (.int .i64 0), .sc (.bool false)])) (.leaf) (.leaf)) (.node (some (.agg [(0, 1), (1, 1), (2, 1), (3, 1)] [.sc (.pointer none), .sc (.pointer none), .sc (.pointer none), .sc (.string ⟨#[]⟩)])) (.leaf) (.leaf))) (.node (some (.one [.sc .nilFunc])) (.node (some (.one [.sc .nilFunc])) (.leaf) (.leaf)) (.leaf))) (.node (some (.one [.sc .nilFunc])) (.node (some (.one [.sc .nilFunc])) (.node (some (.one [.sc .nilFunc])) (.leaf) (.leaf)) (.leaf)) (.node (some (.one [.sc .nilFunc])) (.node (some (.one [.sc .nilFunc])) (.leaf) (.leaf)) (.leaf)))) (.node (some (.agg [(0, 1), (1, 1)] [.sc (.int .i64 0), .sc (.int .i64 0)])) (.node (some (.slice 143 4 48)) (.node (some (.agg [(0, 20), (20, 1), (21, 1), (22, 1)] [.sc (.int .i64 0), .sc (.int .i64 0), .sc (.int .i64 0), .sc (.int .i64 0), .sc (.int .i64 0), .sc (.int .i64 0), .sc (.string ⟨#[]⟩), .sc (.string ⟨#[]⟩), .sc (.string ⟨#[]⟩), .sc (.string ⟨#[]⟩), .sc (.int .i64 0), .sc (.int .i64 0), .sc (.string ⟨#[]⟩), .sc (.string ⟨#[]⟩), .sc (.int .i64 0), .sc (.string ⟨#[]⟩), .row [], .sc (.int .i64 0), .row [], .row [], .sc (.int .i64 0), .row [], .sc (.int .i64 0)])) (.node (some (.one [.sc .nilFunc])) (.leaf) (.leaf)) (.leaf)) (.node (some (.one [.sc .nilFunc])) (.node (some (.one [.sc .nilFunc])) (.leaf) (.leaf)) (.leaf))) (.node (some (.one [.sc .nilFunc])) (.node (some (.one [.sc .nilFunc])) (.node (some (.one [.sc .nilFunc])) (.leaf) (.leaf)) (.leaf)) (.node (some (.one [.sc .nilFunc])) (.node (some (.one [.sc .nilFunc])) (.leaf) (.leaf)) (.leaf))))) (.node (some (.slice 121 15 176)) (.node (none) (.node (some (.one [.sc .nilFunc])) (.node (some (.one [.sc .nilFunc])) (.leaf) (.node (some (.one [.sc (.int .i32 0)])) (.leaf) (.leaf))) (.node (some (.one [.sc .nilFunc])) (.node (some (.one [.sc .nilFunc])) (.leaf) (.leaf)) (.leaf))) (.node (none) (.node (some (.one [.sc .nilFunc])) (.node (some (.one [.sc .nilFunc])) (.leaf) (.leaf)) (.leaf)) (.node (none) (.node (some (.one [.sc .nilFunc])) (.leaf) (.leaf)) (.leaf)))) (.node (some (.agg [(0, 1), (1, 1), (2, 1), (3, 3), (6, 1), (7, 1), (8, 2), (10, 16)] [.sc (.int .i64 0), .sc (.string ⟨#[]⟩), .sc (.string ⟨#[]⟩), .sc (.int .i64 0), .sc (.string ⟨#[]⟩), .sc (.string ⟨#[]⟩), .sc (.int .i64 0), .sc (.string ⟨#[]⟩), .sc (.int .i64 0), .sc (.int .i64 0), .sc (.int .i64 0), .sc (.int .i64 0), .sc (.string ⟨#[]⟩), .sc (.string ⟨#[]⟩), .sc (.string ⟨#[]⟩), .sc (.string ⟨#[]⟩), .sc (.int .i64 0), .sc (.int .i64 0), .sc (.string ⟨#[]⟩), .sc (.string ⟨#[]⟩), .sc (.int .i64 0), .sc (.string ⟨#[]⟩), .row [], .sc (.int .i64 0), .row [], .row []])) (.node (some (.arrB 256 88 1)) (.node (some (.one [.sc .nilFunc])) (.node (some (.one [.sc .nilFunc])) (.leaf) (.leaf)) (.leaf)) (.node (some (.agg [(0, 1), (1, 1), (2, 1), (3, 1)] [.row [], .sc (.int .i64 0), .sc (.int .i64 0), .sc (.bool false)])) (.leaf) (.leaf))) (.node (some (.one [.sc .nilFunc])) (.node (none) (.node (some (.one [.sc .nilFunc])) (.leaf) (.leaf)) (.leaf)) (.node (some (.agg [(0, 1), (1, 3)] [.sc (.string ⟨#[]⟩), .sc (.int .i64 0), .sc (.string ⟨#[]⟩), .sc (.string ⟨#[]⟩)])) (.node (some (.one [.sc .nilFunc])) (.leaf) (.leaf)) (.leaf)))))) (.node (some (.agg [(0, 1), (1, 1)] [.sc (.string ⟨#[]⟩), .sc (.int .u64 0)])) (.node (some (.arr 6 3 1 [.sc (.int .i64 0), .sc (.int .i64 0), .sc (.int .i64 0), .sc (.int .i64 0), .sc (.int .i64 0), .sc (.int .i64 0)])) (.node (some (.one [.sc .nilFunc])) (.node (some (.one [.sc .nilFunc])) (.node (some (.one [.sc .nilFunc])) (.node (some (.one [.sc .nilFunc])) (.leaf) (.leaf)) (.node (some (.one [.sc (.int .u8 0)])) (.leaf) (.leaf))) (.node (some (.one [.sc .nilFunc])) (.node (some (.one [.sc .nilFunc])) (.leaf) (.leaf)) (.leaf))) (.node (some (.one [.sc .nilFunc])) (.node (some (.one [.sc .nilFunc])) (.node (some (.one [.sc .nilFunc])) (.leaf) (.leaf)) (.leaf)) (.node (some (.agg [(0, 1), (1, 2), (3, 1), (4, 1), (5, 26)] [.sc (.pointer none), .sc (.int .i64 0), .sc (.int .i64 0), .row [], .row [], .sc (.int .i64 0), .sc (.string ⟨#[]⟩), .sc (.string ⟨#[]⟩), .sc (.int .i64 0), .sc (.string ⟨#[]⟩), .sc (.string ⟨#[]⟩), .sc (.int .i64 0), .sc (.string ⟨#[]⟩), .sc (.int .i64 0), .sc (.int .i64 0), .sc (.int .i64 0), .sc (.int .i64 0), .sc (.string ⟨#[]⟩), .sc (.string ⟨#[]⟩), .sc (.string ⟨#[]⟩), .sc (.string ⟨#[]⟩), .sc (.int .i64 0), .sc (.int .i64 0), .sc (.string ⟨#[]⟩), .sc (.string ⟨#[]⟩), .sc (.int .i64 0), .sc (.string ⟨#[]⟩), .row [], .sc (.int .i64 0), .row [], .row []])) (.node (some (.one [.sc (.float .f64 0)])) (.leaf) (.leaf)) (.leaf)))) (.node (some (.slice 160 2 32)) (.node (none) (.node (some (.one [.sc .nilFunc])) (.node (some (.one [.sc .nilFunc])) (.leaf) (.leaf)) (.leaf)) (.node (some (.one [.sc .nilFunc])) (.node (some (.one [.sc .nilFunc])) (.leaf) (.leaf)) (.leaf))) (.node (some (.one [.sc .nilFunc])) (.node (some (.one [.sc .nilFunc])) (.node (some (.one [.sc .nilFunc])) (.leaf) (.leaf)) (.leaf)) (.node (some (.one [.sc .nilFunc])) (.leaf) (.leaf))))) (.node (some (.one [.sc .nilFunc])) (.node (some (.one [.sc .nilFunc])) (.node (some (.one [.sc .nilFunc])) (.node (some (.agg [(0, 1), (1, 1), (2, 1), (3, 1)] [.sc (.int .i64 0), .sc (.bool false), .sc (.int .i64 0), .row []])) (.node (some (.one [.sc .nilFunc])) (.leaf) (.leaf)) (.leaf)) (.node (some (.one [.sc .nilFunc])) (.node (some (.one [.sc .nilFunc])) (.leaf) (.leaf)) (.leaf))) (.node (some (.one [.sc .nilFunc])) (.node (some (.one [.sc .nilFunc])) (.node (some (.one [.sc .nilFunc])) (.leaf) (.leaf)) (.leaf)) (.node (some (.one [.sc .nilFunc])) (.node (some (.one [.sc .nilFunc])) (.leaf) (.leaf)) (.leaf)))) (.node (some (.one [.sc .nilFunc])) (.node (some (.one [.sc .nilFunc])) (.node (some (.one [.sc .nilFunc])) (.leaf) (.leaf)) (.node (some (.one [.sc .nilFunc])) (.node (some (.one [.sc .nilFunc])) (.leaf) (.leaf)) (.leaf))) (.node (some (.agg [(0, 1)] [.sc (.map none)])) (.node (none) (.node (some (.one [.sc .nilFunc])) (.leaf) (.leaf)) (.leaf)) (.node (some (.one [.sc .nilFunc])) (.node (some (.one [.sc .nilFunc])) (.leaf) (.leaf)) (.leaf))))))))
theorem all : tt.all (tyOk Go.Proofs.Tryz.prog) := (TT.mk nn (TT.mk (sm k_1) (TT.mk (sm k_3) (TT.mk (sm k_7) (TT.mk (sm k_15) (TT.mk (sm k_31) (TT.mk (sm k_63) (TT.mk (sm k_127) (TT.mk (sm k_255) trivial trivial) (TT.mk (sm k_383) trivial trivial)) (TT.mk nn (TT.mk (sm k_319) trivial trivial) trivial)) (TT.mk (sm k_95) (TT.mk (sm k_159) (TT.mk (sm k_287) trivial trivial) trivial) (TT.mk (sm k_223) (TT.mk (sm k_351) trivial trivial) trivial))) (TT.mk (sm k_47) (TT.mk (sm k_79) (TT.mk (sm k_143) (TT.mk (sm k_271) trivial trivial) trivial) (TT.mk (sm k_207) (TT.mk (sm k_335) trivial trivial) trivial)) (TT.mk (sm k_111) (TT.mk (sm k_175) trivial trivial) (TT.mk nn (TT.mk (sm k_367) trivial trivial) trivial)))) (TT.mk (sm k_23) (TT.mk (sm k_39) (TT.mk (sm k_71) (TT.mk nn (TT.mk (sm k_263) trivial trivial) (TT.mk (sm k_391) trivial trivial)) (TT.mk (sm k_199) (TT.mk (sm k_327) trivial trivial) trivial)) (TT.mk (sm k_103) (TT.mk (sm k_167) (TT.mk (sm k_295) trivial trivial) trivial) (TT.mk (sm k_231) (TT.mk (sm k_359) trivial trivial) trivial))) (TT.mk (sm k_55) (TT.mk (sm k_87) (TT.mk (sm k_151) (TT.mk (sm k_279) trivial trivial) trivial) trivial) (TT.mk (sm k_119) (TT.mk (sm k_183) trivial trivial) (TT.mk (sm k_247) (TT.mk (sm k_375) trivial trivial) trivial))))) (TT.mk (sm k_11) (TT.mk (sm k_19) (TT.mk (sm k_35) (TT.mk (sm k_67) (TT.mk (sm k_131) (TT.mk (sm k_259) trivial trivial) (TT.mk (sm k_387) trivial trivial)) (TT.mk (sm k_195) (TT.mk (sm k_323) trivial trivial) trivial)) (TT.mk (sm k_99) (TT.mk nn (TT.mk (sm k_291) trivial trivial) trivial) (TT.mk nn (TT.mk (sm k_355) trivial trivial) trivial))) (TT.mk (sm k_51) (TT.mk (sm k_83) (TT.mk (sm k_147) (TT.mk (sm k_275) trivial trivial) trivial) (TT.mk (sm k_211) (TT.mk (sm k_339) trivial trivial) trivial)) (TT.mk (sm k_115) (TT.mk (sm k_179) (TT.mk (sm k_307) trivial trivial) trivial) (TT.mk (sm k_243) (TT.mk (sm k_371) trivial trivial) trivial)))) (TT.mk (sm k_27) (TT.mk (sm k_43) (TT.mk (sm k_75) (TT.mk (sm k_139) (TT.mk (sm k_267) trivial trivial) (TT.mk (sm k_395) trivial trivial)) (TT.mk (sm k_203) (TT.mk (sm k_331) trivial trivial) trivial)) (TT.mk (sm k_107) (TT.mk (sm k_171) (TT.mk (sm k_299) trivial trivial) trivial) (TT.mk (sm k_235) (TT.mk (sm k_363) trivial trivial) trivial))) (TT.mk (sm k_59) (TT.mk (sm k_91) (TT.mk (sm k_155) (TT.mk (sm k_283) trivial trivial) trivial) (TT.mk nn (TT.mk (sm k_347) trivial trivial) trivial)) (TT.mk (sm k_123) (TT.mk (sm k_187) (TT.mk (sm k_315) trivial trivial) trivial) (TT.mk (sm k_251) (TT.mk (sm k_379) trivial trivial) trivial)))))) (TT.mk (sm k_5) (TT.mk (sm k_9) (TT.mk (sm k_17) (TT.mk nn (TT.mk (sm k_65) (TT.mk (sm k_129) (TT.mk (sm k_257) trivial trivial) (TT.mk (sm k_385) trivial trivial)) trivial) (TT.mk (sm k_97) (TT.mk (sm k_161) trivial trivial) (TT.mk (sm k_225) (TT.mk (sm k_353) trivial trivial) trivial))) (TT.mk (sm k_49) (TT.mk (sm k_81) (TT.mk (sm k_145) (TT.mk (sm k_273) trivial trivial) trivial) (TT.mk (sm k_209) trivial trivial)) (TT.mk (sm k_113) (TT.mk (sm k_177) trivial trivial) (TT.mk (sm k_241) (TT.mk (sm k_369) trivial trivial) trivial)))) (TT.mk (sm k_25) (TT.mk (sm k_41) (TT.mk (sm k_73) (TT.mk (sm k_137) (TT.mk (sm k_265) trivial trivial) (TT.mk (sm k_393) trivial trivial)) (TT.mk (sm k_201) (TT.mk (sm k_329) trivial trivial) trivial)) (TT.mk (sm k_105) (TT.mk (sm k_169) trivial trivial) (TT.mk (sm k_233) (TT.mk (sm k_361) trivial trivial) trivial))) (TT.mk (sm k_57) (TT.mk (sm k_89) (TT.mk (sm k_153) (TT.mk (sm k_281) trivial trivial) trivial) (TT.mk (sm k_217) (TT.mk (sm k_345) trivial trivial) trivial)) (TT.mk (sm k_121) (TT.mk (sm k_185) trivial trivial) (TT.mk (sm k_249) (TT.mk (sm k_377) trivial trivial) trivial))))) (TT.mk (sm k_13) (TT.mk (sm k_21) (TT.mk (sm k_37) (TT.mk (sm k_69) (TT.mk nn (TT.mk (sm k_261) trivial trivial) (TT.mk (sm k_389) trivial trivial)) (TT.mk (sm k_197) trivial trivial)) (TT.mk (sm k_101) (TT.mk (sm k_165) (TT.mk (sm k_293) trivial trivial) trivial) (TT.mk (sm k_229) (TT.mk (sm k_357) trivial trivial) trivial))) (TT.mk (sm k_53) (TT.mk (sm k_85) (TT.mk (sm k_149) (TT.mk (sm k_277) trivial trivial) trivial) (TT.mk (sm k_213) (TT.mk (sm k_341) trivial trivial) trivial)) (TT.mk nn (TT.mk nn (TT.mk (sm k_309) trivial trivial) trivial) (TT.mk (sm k_245) (TT.mk (sm k_373) trivial trivial) trivial)))) (TT.mk (sm k_29) (TT.mk (sm k_45) (TT.mk (sm k_77) (TT.mk (sm k_141) (TT.mk (sm k_269) trivial trivial) (TT.mk (sm k_397) trivial trivial)) (TT.mk nn (TT.mk (sm k_333) trivial trivial) trivial)) (TT.mk (sm k_109) (TT.mk nn (TT.mk (sm k_301) trivial trivial) trivial) (TT.mk (sm k_237) (TT.mk (sm k_365) trivial trivial) trivial))) (TT.mk (sm k_61) (TT.mk (sm k_93) (TT.mk nn (TT.mk (sm k_285) trivial trivial) trivial) (TT.mk (sm k_221) (TT.mk (sm k_349) trivial trivial) trivial)) (TT.mk (sm k_125) (TT.mk (sm k_189) (TT.mk (sm k_317) trivial trivial) trivial) (TT.mk (sm k_253) (TT.mk (sm k_381) trivial trivial) trivial))))))) (TT.mk (sm k_2) (TT.mk (sm k_4) (TT.mk (sm k_8) (TT.mk (sm k_16) (TT.mk (sm k_32) (TT.mk (sm k_64) (TT.mk (sm k_128) trivial (TT.mk (sm k_384) trivial trivial)) (TT.mk nn (TT.mk (sm k_320) trivial trivial) trivial)) (TT.mk (sm k_96) (TT.mk (sm k_160) (TT.mk (sm k_288) trivial trivial) trivial) (TT.mk (sm k_224) (TT.mk (sm k_352) trivial trivial) trivial))) (TT.mk (sm k_48) (TT.mk (sm k_80) (TT.mk (sm k_144) (TT.mk (sm k_272) trivial trivial) trivial) (TT.mk (sm k_208) (TT.mk (sm k_336) trivial trivial) trivial)) (TT.mk nn (TT.mk (sm k_176) (TT.mk (sm k_304) trivial trivial) trivial) (TT.mk (sm k_240) trivial trivial)))) (TT.mk (sm k_24) (TT.mk nn (TT.mk (sm k_72) (TT.mk (sm k_136) trivial (TT.mk (sm k_392) trivial trivial)) (TT.mk (sm k_200) (TT.mk (sm k_328) trivial trivial) trivial)) (TT.mk (sm k_104) (TT.mk (sm k_168) (TT.mk (sm k_296) trivial trivial) trivial) (TT.mk (sm k_232) (TT.mk (sm k_360) trivial trivial) trivial))) (TT.mk (sm k_56) (TT.mk (sm k_88) (TT.mk (sm k_152) (TT.mk (sm k_280) trivial trivial) trivial) (TT.mk (sm k_216) (TT.mk (sm k_344) trivial trivial) trivial)) (TT.mk (sm k_120) (TT.mk (sm k_184) (TT.mk (sm k_312) trivial trivial) trivial) (TT.mk (sm k_248) (TT.mk (sm k_376) trivial trivial) trivial))))) (TT.mk (sm k_12) (TT.mk nn (TT.mk nn (TT.mk (sm k_68) (TT.mk nn trivial (TT.mk (sm k_388) trivial trivial)) (TT.mk (sm k_196) (TT.mk (sm k_324) trivial trivial) trivial)) (TT.mk (sm k_100) (TT.mk (sm k_164) (TT.mk (sm k_292) trivial trivial) trivial) (TT.mk (sm k_228) (TT.mk (sm k_356) trivial trivial) trivial))) (TT.mk (sm k_52) (TT.mk (sm k_84) (TT.mk (sm k_148) (TT.mk (sm k_276) trivial trivial) trivial) trivial) (TT.mk (sm k_116) (TT.mk (sm k_180) (TT.mk (sm k_308) trivial trivial) trivial) (TT.mk (sm k_244) (TT.mk (sm k_372) trivial trivial) trivial)))) (TT.mk (sm k_28) (TT.mk nn (TT.mk (sm k_76) (TT.mk (sm k_140) (TT.mk (sm k_268) trivial trivial) (TT.mk (sm k_396) trivial trivial)) (TT.mk (sm k_204) (TT.mk (sm k_332) trivial trivial) trivial)) (TT.mk (sm k_108) (TT.mk (sm k_172) (TT.mk (sm k_300) trivial trivial) trivial) (TT.mk (sm k_236) (TT.mk (sm k_364) trivial trivial) trivial))) (TT.mk (sm k_60) (TT.mk (sm k_92) (TT.mk (sm k_156) (TT.mk (sm k_284) trivial trivial) trivial) (TT.mk (sm k_220) (TT.mk (sm k_348) trivial trivial) trivial)) (TT.mk (sm k_124) (TT.mk nn (TT.mk (sm k_316) trivial trivial) trivial) (TT.mk (sm k_252) (TT.mk (sm k_380) trivial trivial) trivial)))))) (TT.mk (sm k_6) (TT.mk (sm k_10) (TT.mk (sm k_18) (TT.mk (sm k_34) (TT.mk (sm k_66) (TT.mk (sm k_130) (TT.mk (sm k_258) trivial trivial) (TT.mk (sm k_386) trivial trivial)) (TT.mk (sm k_194) (TT.mk (sm k_322) trivial trivial) trivial)) (TT.mk (sm k_98) (TT.mk (sm k_162) (TT.mk (sm k_290) trivial trivial) trivial) (TT.mk (sm k_226) (TT.mk (sm k_354) trivial trivial) trivial))) (TT.mk (sm k_50) (TT.mk (sm k_82) (TT.mk (sm k_146) (TT.mk (sm k_274) trivial trivial) trivial) (TT.mk (sm k_210) (TT.mk (sm k_338) trivial trivial) trivial)) (TT.mk (sm k_114) (TT.mk (sm k_178) (TT.mk (sm k_306) trivial trivial) trivial) (TT.mk (sm k_242) (TT.mk (sm k_370) trivial trivial) trivial)))) (TT.mk (sm k_26) (TT.mk nn (TT.mk (sm k_74) (TT.mk (sm k_138) trivial (TT.mk (sm k_394) trivial trivial)) (TT.mk (sm k_202) (TT.mk (sm k_330) trivial trivial) trivial)) (TT.mk nn (TT.mk (sm k_170) (TT.mk (sm k_298) trivial trivial) trivial) (TT.mk nn (TT.mk (sm k_362) trivial trivial) trivial))) (TT.mk (sm k_58) (TT.mk (sm k_90) (TT.mk (sm k_154) (TT.mk (sm k_282) trivial trivial) trivial) (TT.mk (sm k_218) trivial trivial)) (TT.mk (sm k_122) (TT.mk nn (TT.mk (sm k_314) trivial trivial) trivial) (TT.mk (sm k_250) (TT.mk (sm k_378) trivial trivial) trivial))))) (TT.mk (sm k_14) (TT.mk (sm k_22) (TT.mk (sm k_38) (TT.mk (sm k_70) (TT.mk (sm k_134) (TT.mk (sm k_262) trivial trivial) (TT.mk (sm k_390) trivial trivial)) (TT.mk (sm k_198) (TT.mk (sm k_326) trivial trivial) trivial)) (TT.mk (sm k_102) (TT.mk (sm k_166) (TT.mk (sm k_294) trivial trivial) trivial) (TT.mk (sm k_230) (TT.mk (sm k_358) trivial trivial) trivial))) (TT.mk (sm k_54) (TT.mk nn (TT.mk (sm k_150) (TT.mk (sm k_278) trivial trivial) trivial) (TT.mk (sm k_214) (TT.mk (sm k_342) trivial trivial) trivial)) (TT.mk (sm k_118) (TT.mk (sm k_182) (TT.mk (sm k_310) trivial trivial) trivial) (TT.mk (sm k_246) trivial trivial)))) (TT.mk (sm k_30) (TT.mk (sm k_46) (TT.mk (sm k_78) (TT.mk (sm k_142) (TT.mk (sm k_270) trivial trivial) trivial) (TT.mk (sm k_206) (TT.mk (sm k_334) trivial trivial) trivial)) (TT.mk (sm k_110) (TT.mk (sm k_174) (TT.mk (sm k_302) trivial trivial) trivial) (TT.mk (sm k_238) (TT.mk (sm k_366) trivial trivial) trivial))) (TT.mk (sm k_62) (TT.mk (sm k_94) (TT.mk (sm k_158) trivial trivial) (TT.mk (sm k_222) (TT.mk (sm k_350) trivial trivial) trivial)) (TT.mk (sm k_126) (TT.mk nn (TT.mk (sm k_318) trivial trivial) trivial) (TT.mk (sm k_254) (TT.mk (sm k_382) trivial trivial) trivial))))))))
theorem ok : TTok Go.Proofs.Tryz.prog tt := fun t i h => TT.all_get all t i h
theorem en_17 : enters Go.Proofs.Tryz.prog 17 = true := by kernel_rfl
theorem en_29 : enters Go.Proofs.Tryz.prog 29 = true := by kernel_rfl
theorem en_30 : enters Go.Proofs.Tryz.prog 30 = true := by kernel_rfl
theorem en_46 : enters Go.Proofs.Tryz.prog 46 = true := by kernel_rfl
theorem en_47 : enters Go.Proofs.Tryz.prog 47 = true := by kernel_rfl
theorem en_65 : enters Go.Proofs.Tryz.prog 65 = true := by kernel_rfl
theorem fn {N : Nat} {f : FuncId} {fn : Func} {c : Code} {args : List D} {res : List C} {rs : List ResultVar} (fb : List Nat) (hf : Go.Proofs.Tryz.prog.funcs[f]? = some fn) (hk : argsT 0 args .leaf fun t => xcode Go.Proofs.Tryz.prog tt N fb c t (fun _ => .junk) (finK Go.Proofs.Tryz.prog tt rs res []))
  (hb : fn.body = some c := by rfl) (hN : fn.ntmps = N := by rfl) (hrs : fn.results.toList = rs := by rfl) (hargs : args.length ≤ N := by exact Nat.le_of_ble_eq_true rfl) (hNB : N ≤ BIG := by exact Nat.le_of_ble_eq_true rfl) : Contract Go.Proofs.Tryz.prog f args res := xfn ok fb hf hb hN hrs hargs hNB hk
end Go.Vm.T
end
section
namespace Go.Vm
open Go.RowKit Go.Proofs
set_option maxRecDepth 10000
theorem scb {a b : Bool} (h : a = b) : D.sc (.bool a) = D.sc (.bool b) := by rw [h]
theorem elem_at {α : Type} {l : List α} {k : Nat} (h : (k : Int) < (l.length : Int)) : ∃ p, l[k]? = some p := by
 have : k < l.length := by omega
 exact ⟨_, List.getElem?_eq_getElem this⟩
theorem mapAt {α : Type} {f : α → D} {l : List α} {k : Nat} {x : α} (h : l[k]? = some x) : (l.map f)[k]? = some (f x) := by
 rw [List.getElem?_map, h]; rfl
end Go.Vm
end
section
namespace Go.Vm
open Go.RowKit Go.Proofs
set_option maxRecDepth 10000
end Go.Vm
end
section
namespace Go.Vm
open Go.RowKit Go.Proofs
set_option maxRecDepth 10000
end Go.Vm
end
section
namespace Go.Vm
open Go.RowKit Go.Proofs
set_option maxRecDepth 10000
theorem past_end {α : Type} {l : List α} {k : Nat} (h : ¬ (k : Int) < (l.length : Int)) : l.length ≤ k := by omega
theorem lt_len {α : Type} {l : List α} {k : Nat} {p : α} (hp : l[k]? = some p) : k < l.length := (List.getElem?_eq_some_iff.1 hp).1
end Go.Vm
end
section
namespace Go.Vm
open Go.RowKit Go.Proofs
set_option maxRecDepth 10000
end Go.Vm
end
section
namespace Go.Vm
def okL (l : List FieldD) : Prop := l.length ≤ 1000 ∧ ∀ f ∈ l, f.cases.length ≤ 1000000
theorem okL.at {l : List FieldD} {k : Nat} {p : FieldD} (h : okL l) (hp : l[k]? = some p) : p.cases.length ≤ 1000000 := h.2 p (List.mem_of_getElem? hp)
def okSk (l : List FieldD) (k : Nat) : Bool := (List.range k).all fun j => match l[j]? with
 | some f => rightF f && (match l[j - 1]? with | some g => decide (j = 0) || lessB g.at_ f.at_ | none => true)
 | none => true
def rightS (l : List FieldD) : Bool := decide (l.length ≤ 16) && okSk l l.length
def indexS (l : List FieldD) (r : RefD) : Int := if (l.findIdx fun f => decide (f.at_ = r)) < l.length then ((l.findIdx fun f => decide (f.at_ = r) : Nat) : Int) else -1
def fieldAt (l : List FieldD) (r : RefD) : FieldD := match l[(indexS l r).toNat]? with
 | some f => f
 | none => noField
def insF (l : List FieldD) (f : FieldD) : List FieldD := (l.takeWhile fun g => lessB g.at_ f.at_) ++ f :: (l.dropWhile fun g => lessB g.at_ f.at_)
def withS (l : List FieldD) (f : FieldD) : List FieldD × Int :=
 if (rightS l && rightF f) = false then ([], 5) else if 0 ≤ indexS l f.at_ then ([], 7) else if 16 ≤ l.length then ([], 14) else (insF l f, 0)
def delF (l : List FieldD) (r : RefD) : List FieldD := l.filter fun f => !decide (f.at_ = r)
end Go.Vm
end
section
namespace Go.Vm
def caseT (t : List (ByteArray × ByteArray)) (s : ByteArray) : ByteArray × Bool := match t.find? fun p => decide (p.1 = s) with
  | some p => (p.2, true)
  | none => (noB, false)
def froms (t : List (ByteArray × ByteArray)) : List ByteArray := t.map (·.1)
def okT (t o : List (ByteArray × ByteArray)) (k : Nat) : Bool := (List.range k).all fun j => match t[j]? with
  | some p => nameB p.1 && !decide (p.1 ∈ froms (t.take j)) && decide (p.2 ∈ froms o)
  | none => true
def rightT (t o : List (ByteArray × ByteArray)) : Bool := decide (1 ≤ t.length) && decide (t.length ≤ 6) && okT t o t.length
def rightL (x : LensD) : Bool :=
  if x.kind = 2 ∨ x.kind = 3 then decide (x.at_ = noRef) && decide (x.name = noB) && decide (x.other = noB) && decide (x.factor = 0) && decide (x.forth.length = 0) && decide (x.back.length = 0) && rightF x.field
  else placeB x.at_ && decide (x.field = noField) &&
    (if x.kind = 8 then decide (x.factor = 0) && rightT x.forth x.back && rightT x.back x.forth && decide (caseT x.forth x.name = (x.other, true)) && decide (caseT x.back x.other = (x.name, true))
     else decide (x.forth.length = 0) && decide (x.back.length = 0) &&
      (if x.kind = 6 ∨ x.kind = 9 then nameB x.name && nameB x.other && !decide (x.name = x.other) && decide (2 ≤ x.factor) && decide (x.factor ≤ 1000)
       else decide (x.factor = 0) &&
        (if x.kind = 7 ∨ x.kind = 10 then decide (x.name = noB) && decide (x.other.size ≤ 40)
         else decide (x.other = noB) && (if x.kind = 1 then nameB x.name else if x.kind = 4 then decide (x.name = noB) && !decide (x.at_.group = noB) else if x.kind = 5 then decide (x.at_.group = noB) && nameB x.name else false))))
def named (r : RefD) (s : ByteArray) : RefD := ⟨r.scope, r.group, s⟩
def goesL (x : LensD) : List RefD := if x.kind = 2 then [] else if x.kind = 3 then [x.field.at_] else if x.kind = 9 then [named x.at_ x.name, named x.at_ x.other] else [x.at_]
def comesL (x : LensD) : List RefD := if x.kind = 2 then [x.field.at_] else if x.kind = 3 then [] else if x.kind = 6 then [named x.at_ x.name, named x.at_ x.other] else if x.kind = 1 then [named x.at_ x.name]
  else if x.kind = 4 then [⟨x.at_.scope, noB, x.at_.name⟩] else if x.kind = 5 then [⟨x.at_.scope, x.name, x.at_.name⟩] else [x.at_]
def newsL (l : List FieldD) (x : LensD) : Option (List FieldD) :=
  if x.kind = 2 then some [x.field]
  else if x.kind = 3 then (if fieldAt l x.field.at_ = x.field then some [] else none)
  else if x.kind = 9 then (if (fieldAt l (named x.at_ x.name)).kind = 1 ∧ (fieldAt l (named x.at_ x.other)).kind = 1 ∧ (fieldAt l (named x.at_ x.other)).worth = (fieldAt l (named x.at_ x.name)).worth * x.factor then some [⟨x.at_, 1, noB, [], (fieldAt l (named x.at_ x.name)).worth⟩] else none)
  else if x.kind = 6 then (if (fieldAt l x.at_).kind = 1 then some [⟨named x.at_ x.name, 1, noB, [], (fieldAt l x.at_).worth⟩, ⟨named x.at_ x.other, 1, noB, [], (fieldAt l x.at_).worth * x.factor⟩] else none)
  else if x.kind = 7 then (if (fieldAt l x.at_).kind = 2 ∧ (fieldAt l x.at_).deft = x.other then some [⟨x.at_, 4, noB, [], 0⟩] else none)
  else if x.kind = 10 then (if (fieldAt l x.at_).kind = 4 then some [⟨x.at_, 2, x.other, [], 0⟩] else none)
  else if x.kind = 8 then (if fieldAt l x.at_ = ⟨x.at_, 3, x.name, froms x.forth, 0⟩ then some [⟨x.at_, 3, x.other, froms x.back, 0⟩] else none)
  else some (match comesL x with | [] => [] | c :: _ => [⟨c, (fieldAt l x.at_).kind, (fieldAt l x.at_).deft, (fieldAt l x.at_).cases, (fieldAt l x.at_).worth⟩])
def withAll : List FieldD → List FieldD → List FieldD × Int
  | l, [] => (l, 0)
  | l, f :: fs => if (withS l f).2 = 0 then withAll (withS l f).1 fs else ([], 16)
def delAll (l : List FieldD) (rs : List RefD) : List FieldD := rs.foldl delF l
def applyS (l : List FieldD) (x : LensD) : List FieldD × Int :=
  if (rightS l && rightL x) = false then ([], 5)
  else if (goesL x).any (fun g => decide (indexS l g < 0)) then ([], 16)
  else match newsL l x with
    | none => ([], 16)
    | some fs => withAll (delAll l (goesL x)) fs
end Go.Vm
end
section
namespace Go.Vm
open Go.RowKit Go.Proofs
set_option maxRecDepth 10000
theorem take_next {α : Type} {l : List α} {k : Nat} {p : α} (hp : l[k]? = some p) : l.take (k + 1) = l.take k ++ [p] := by rw [List.take_add_one, hp]; rfl
end Go.Vm
end
section
namespace Go.Vm
open Go.RowKit Go.Proofs
set_option maxRecDepth 10000
end Go.Vm
end
section
namespace Go.Vm
open Go.RowKit Go.Proofs
set_option maxRecDepth 10000
end Go.Vm
end
section
namespace Go.Vm
open Go.RowKit Go.Proofs
set_option maxRecDepth 10000
def heavyF (f : FieldD) : Bool := decide (200 < f.at_.group.size) || decide (200 < f.at_.name.size) || decide (200 < f.deft.size) || decide (20 < f.cases.length) || f.cases.any (fun c => decide (200 < c.size))
theorem any_hit {α : Type} {l : List α} {f : α → Bool} {k : Nat} {p : α} (hp : l[k]? = some p) (h : f p = true) : l.any f = true := List.any_eq_true.2 ⟨p, List.mem_of_getElem? hp, h⟩
theorem any_next {α : Type} {l : List α} {f : α → Bool} {k : Nat} {p : α} (hp : l[k]? = some p) (h : (l.take k).any f = false) (hn : f p = false) : (l.take (k + 1)).any f = false := by
  rw [take_next hp, List.any_append, h]; simp [hn]
theorem any_end {α : Type} {l : List α} {f : α → Bool} {k : Nat} (hk : l.length ≤ k) (h : (l.take k).any f = false) : l.any f = false := by rwa [List.take_of_length_le hk] at h
theorem refFieldHeavy_any (f : FieldD) : Contract Tryz.prog 46 [fD f] [.d (.sc (.bool (heavyF f)))] := by
 refine T.fn [] Tryz.func46 ?_
 refine x_len ?_
 refine br (fun hg1 => ?y1) (fun hg1 => ?n1)
 case' y1 =>
  refine brT ?_
  refine brT ?_
  refine brT ?_
 case' n1 =>
  refine x_len ?_
  refine br (fun hg5 => ?y5) (fun hg5 => ?n5)
  case' y5 =>
   refine brT ?_
   refine brT ?_
  case' n5 =>
   refine x_len ?_
   refine br (fun hg8 => ?y8) (fun hg8 => ?n8)
   case' y8 =>
    refine brT ?_
   case' n8 =>
    refine x_len ?_
    refine br (fun hc10 => ?y10) (fun hc10 => ?n10)
    case' n10 =>
     have h20 : f.cases.length ≤ 20 := by omega
     refine xloopR (fb := []) T.ok (Nat.le_of_ble_eq_true rfl) [1] (fun (k : Nat) => [(3, .c (.d (.sc (.int .i64 (k : Nat)))))]) (fun k => k ≤ f.cases.length ∧ (f.cases.take k).any (fun c => decide (200 < c.size)) = false ∧ f.cases.length ≤ 20) (fun k => f.cases.length - k) 0 ⟨Nat.zero_le _, ⟨rfl, h20⟩⟩ (x_ent (by first | rfl | (simp only [Tr.get]; simp; done)) trivial) ?_
     rintro k ⟨hk, hi⟩
     refine x_len ?_
     refine br (fun hc11 => ?y11) (fun hc11 => ?n11)
     case' y11 =>
      obtain ⟨p, hp⟩ := elem_at hc11
      have hkl := lt_len hp
      first | refine x_ix (by exact mapAt hp) ?_ | refine x_ixI (by exact mapAt hp) ?_
      refine x_len ?_
      refine br (fun hc12 => ?y12) (fun hc12 => ?n12)
      case' n12 =>
       first | refine x_inc ?_ | refine x_add ?_ | refine x_bin rfl rfl ?_
       refine x_rnd (k + 1) ⟨lt_len hp, any_next hp hi.1 (by simp; omega), hi.2⟩ (by (try dsimp only); have := lt_len hp; omega) rfl (x_ent (by first | rfl | (simp only [Tr.get]; simp; done)) trivial) rfl
 all_goals (refine x_ret ?_; simp only [fitsL, fits, C.asD, and_true] <;> (refine scb ?_; first | (have hh := any_hit (f := fun c : ByteArray => decide (200 < c.size)) hp (by simp; omega); unfold heavyF; rw [hh, Bool.or_true]; done) | (have hh := any_end (past_end (by assumption)) hi.1; unfold heavyF; rw [hh, Bool.or_false]; symm; simp only [decide_eq_true_eq, decide_eq_false_iff_not, Bool.not_eq_true', Bool.not_eq_false', Bool.and_eq_true, Bool.or_eq_true, Bool.or_eq_false_iff, Bool.and_eq_false_iff, beq_iff_eq, beq_eq_false_iff_ne, ne_eq, Bool.not_true, Bool.not_false, Bool.false_eq_true, Bool.true_eq_false] at * <;> omega) | (symm; unfold heavyF; simp only [decide_eq_true_eq, decide_eq_false_iff_not, Bool.not_eq_true', Bool.not_eq_false', Bool.and_eq_true, Bool.or_eq_true, Bool.or_eq_false_iff, Bool.and_eq_false_iff, beq_iff_eq, beq_eq_false_iff_ne, ne_eq, Bool.not_true, Bool.not_false, Bool.false_eq_true, Bool.true_eq_false] at * <;> omega)))
end Go.Vm
end
section
namespace Go.Vm
end Go.Vm
end
section
namespace Go.Vm
end Go.Vm
end
