/- The plain reading, run: whole functions. -/
import Derived.Test.YthkgbmekiclgmaaVmE
namespace Go.Vm
open Go.RowKit
set_option linter.unusedVariables false
set_option linter.unusedSimpArgs false

def envL (l : List S) : Env := fun t => match l[t]? with
  | some s => s
  | none => .junk
theorem envL_set {l : List S} {d : Nat} {s : S} (hd : d < l.length) : envL (l.set d s) = upd (envL l) (some d) s := by
  funext t
  simp only [envL, upd, List.getElem?_set]
  by_cases e : d = t
  · subst e; simp [hd]
  · have : ¬ t = d := fun k => e k.symm
    simp [e, this]
theorem envL_map {l : List S} {f : S → S} (hf : f .junk = .junk) : envL (l.map f) = fun t => f (envL l t) := by
  funext t
  simp only [envL, List.getElem?_map]
  cases l[t]? <;> simp [hf]

def isStr (P : Program) (T : TypeId) : Bool := match P.underlying T with
  | some .string => true
  | _ => false
theorem isStr_spec {P : Program} {T : TypeId} (h : isStr P T = true) : P.underlying T = some .string := by
  unfold isStr at h
  split at h
  · assumption
  · cases h
/-- One operation. -/
def xstep (P : Program) (call : FuncId → List D → Option (List C)) (o : Oper) (l : List S) : Option (List S) :=
  match o.dst with
  | none => match o.op with
    | .store T x y => match tshape P T, vd (envL l) y, vget (envL l) x with
      | some sh, some r, .ref t off => match envL l t with
        | .box cs => if r.cells.length = sh.2 ∧ off + r.cells.length ≤ cs.length ∧ t < l.length then some (l.set t (.box (patch cs off r.cells))) else none
        | _ => none
      | _, _, _ => none
    | _ => none
  | some d => if d < l.length then match o.op with
    | .box _ x => match vd (envL l) x with
      | some r => some ((l.map (unref d)).set d (.box r.cells))
      | none => none
    | .alloc T => match zeroOf P T with
      | some cs => some ((l.map (unref d)).set d (.box cs))
      | none => none
    | .call c => match c.callee, c.args.toList, c.argTypes.toList with
      | .builtin .append, [x, y], [T, T'] => match vget (envL l) x with
        | .c (.own τ e' xs) => match elemFull P T, vd (envL l) y with
          | some (e, sz, bytes), some (.row ys) => if T = T' ∧ e' = e ∧ wide sz ys ∧ xs.length + ys.length ≤ 16777216 ∧ (xs.length + ys.length) * bytes ≤ 140737488355328 then some ((l.map (demote τ)).set d (.c (.own d e (xs ++ ys)))) else none
          | some (e, sz, bytes), some (.sc (.string s)) => if isStr P T' ∧ e' = e ∧ sz = 1 ∧ xs.length + s.size ≤ 16777216 ∧ (xs.length + s.size) * bytes ≤ 140737488355328 then some ((l.map (demote τ)).set d (.c (.own d e (xs ++ bytesD s)))) else none
          | _, _ => none
        | _ => match xyield P call d o (envL l) with
          | some s => some (l.set d s)
          | none => none
      | _, _, _ => match xyield P call d o (envL l) with
        | some s => some (l.set d s)
        | none => none
    | _ => match xyield P call d o (envL l) with
      | some s => some (l.set d s)
      | none => none
    else none

section
variable {P : Program} {N : Nat} {call : FuncId → List D → Option (List C)}

theorem xy_step (hcall : ∀ f ds r, call f ds = some r → Contract P f ds r) {o : Oper} {d : Nat} {l l' : List S} (hl : l.length = N) (hdst : o.dst = some d) (hd : d < l.length) (h : (match xyield P call d o (envL l) with | some s => some (l.set d s) | none => none) = some l') : l'.length = N ∧ Step P N o (envL l) (envL l') := by
  split at h
  · rename_i s hs
    injection h with h; subst h
    refine ⟨by simpa using hl, ?_⟩
    rw [envL_set hd]
    have := (xyield_sound hcall hdst (by omega : d < N) hs).step
    rwa [hdst] at this
  · cases h

set_option maxHeartbeats 1000000 in
theorem xstep_sound (hcall : ∀ f ds r, call f ds = some r → Contract P f ds r) {o : Oper} {l l' : List S} (hl : l.length = N) (h : xstep P call o l = some l') : l'.length = N ∧ Step P N o (envL l) (envL l') := by
  unfold xstep at h
  split at h
  · rename_i hdst
    split at h
    · rename_i hop
      split at h
      · split at h
        · split at h
          · rename_i hc
            injection h with h; subst h
            refine ⟨by simpa using hl, ?_⟩
            rw [envL_set hc.2.2]
            exact s_store hop ‹_› ‹_› ‹_› ‹_› hc.1 hc.2.1 hdst
          · cases h
        · cases h
      · cases h
    · cases h
  · rename_i d hdst
    by_cases hd : d < l.length
    · rw [if_pos hd] at h
      have hdN : d < N := hl ▸ hd
      have hbox : ∀ cs, envL ((l.map (unref d)).set d (.box cs)) = boxEnv (envL l) d cs := by
        intro cs
        rw [envL_set (by simpa using hd), envL_map rfl]
        rfl
      split at h
      · rename_i hop
        split at h
        · injection h with h; subst h
          refine ⟨by simpa using hl, ?_⟩
          rw [hbox]
          exact s_box hop ‹_› hdst hdN
        · cases h
      · rename_i hop
        split at h
        · injection h with h; subst h
          refine ⟨by simpa using hl, ?_⟩
          rw [hbox]
          exact s_alloc hop ‹_› hdst hdN
        · cases h
      · rename_i c hop
        split at h
        · rename_i x y T T' hcal hx hT
          obtain ⟨callee, args, argTypes⟩ := c
          obtain rfl : args = #[x, y] := Array.ext' (by simpa using hx)
          obtain rfl : argTypes = #[T, T'] := Array.ext' (by simpa using hT)
          simp only at hcal
          subst hcal
          split at h
          · rename_i τ e' xs hxv
            have hsp : ∀ s, envL ((l.map (demote τ)).set d s) = upd (spend (envL l) τ) (some d) s := by
              intro s
              rw [envL_set (by simpa using hd), envL_map rfl]
              rfl
            split at h
            · split at h
              · rename_i hc
                obtain ⟨rfl, rfl, h3, h4, h5⟩ := hc
                injection h with h; subst h
                refine ⟨by simpa using hl, ?_⟩
                rw [hsp]
                exact s_append hop ‹_› hxv ‹_› (wide_spec h3) (by unfold maxLen; omega) h5 hdst hdN
              · cases h
            · split at h
              · rename_i hc
                obtain ⟨h1, rfl, rfl, h4, h5⟩ := hc
                injection h with h; subst h
                refine ⟨by simpa using hl, ?_⟩
                rw [hsp]
                exact s_append_str hop ‹_› (isStr_spec h1) hxv ‹_› (by unfold maxLen; omega) h5 hdst hdN
              · cases h
            · cases h
          · exact xy_step hcall hl hdst hd h
        · exact xy_step hcall hl hdst hd h
      · exact xy_step hcall hl hdst hd h
    · rw [if_neg hd] at h; cases h

/-- A list of operations. -/
def xlist (P : Program) (call : FuncId → List D → Option (List C)) (ops : Array Oper) : List Oper → List S → Option (List S)
  | [], l => some l
  | o :: rest, l => match guardOk ops o (envL l) with
    | some true => match xstep P call o l with
      | some l' => xlist P call ops rest l'
      | none => none
    | some false => match o.dst with
      | some d => if d < l.length then xlist P call ops rest (l.set d (.tup [])) else none
      | none => xlist P call ops rest l
    | none => none
theorem xlist_sound (hcall : ∀ f ds r, call f ds = some r → Contract P f ds r) {ops : Array Oper} : ∀ {os : List Oper} {l l' : List S}, l.length = N → xlist P call ops os l = some l' → l'.length = N ∧ VL P N ops os (envL l) (fun env => env = envL l')
  | [], l, l', hl, h => by simp [xlist] at h; subst h; exact ⟨hl, vl_nil rfl⟩
  | o :: rest, l, l', hl, h => by
    unfold xlist at h
    split at h
    · rename_i hg
      split at h
      · rename_i l1 h1
        obtain ⟨k1, k2⟩ := xstep_sound hcall hl h1
        obtain ⟨k3, k4⟩ := xlist_sound hcall k1 h
        exact ⟨k3, vl_step hg k2 k4⟩
      · cases h
    · rename_i hg
      split at h
      · rename_i d hdst
        split at h
        · rename_i hd
          obtain ⟨k3, k4⟩ := xlist_sound hcall (by simpa using hl) h
          rw [envL_set hd] at k4
          exact ⟨k3, vl_skip hg (by rw [hdst]; exact k4)⟩
        · cases h
      · rename_i hdst
        obtain ⟨k3, k4⟩ := xlist_sound hcall hl h
        exact ⟨k3, vl_skip hg (by rw [hdst]; exact k4)⟩
    · cases h

/-- Operations of a region that draws its order. -/
def xquiet (P : Program) (call : FuncId → List D → Option (List C)) (ops : Array Oper) : List Oper → List S → Option (List S)
  | [], l => some l
  | o :: rest, l => if derefOk ops o (envL l) then match guardOk ops o (envL l) with
      | some true => match o.dst with
        | none => match o.op with
          | .store T x y => match tshape P T, vd (envL l) y, vget (envL l) x with
            | some sh, some r, .ref t off => match envL l t with
              | .box cs => if r.cells.length = sh.2 ∧ off + r.cells.length ≤ cs.length ∧ t < l.length then xquiet P call ops rest (l.set t (.box (patch cs off r.cells))) else none
              | _ => none
            | _, _, _ => none
          | _ => none
        | some d => if d < l.length then match o.op with
            | .alloc T => match zeroOf P T with
              | some cs => xquiet P call ops rest (l.set d (.box cs))
              | none => none
            | .box _ x => match vd (envL l) x with
              | some r => xquiet P call ops rest (l.set d (.box r.cells))
              | none => none
            | _ => match xyield P call d o (envL l) with
              | some s => if nb s ∧ refOk o (envL l) s then xquiet P call ops rest (l.set d s) else none
              | none => none
          else none
      | some false => match o.dst with
        | some d => if d < l.length then xquiet P call ops rest (l.set d (.tup [])) else none
        | none => xquiet P call ops rest l
      | none => none
    else none
theorem xquiet_sound (hcall : ∀ f ds r, call f ds = some r → Contract P f ds r) {ops : Array Oper} : ∀ {os : List Oper} {l l' : List S}, l.length = N → xquiet P call ops os l = some l' → l'.length = N ∧ VQ P N ops (fun env => env = envL l') os (envL l)
  | [], l, l', hl, h => by simp [xquiet] at h; subst h; exact ⟨hl, rfl⟩
  | o :: rest, l, l', hl, h => by
    unfold xquiet at h
    by_cases hdr : derefOk ops o (envL l) = true
    · rw [if_pos hdr] at h
      split at h
      · rename_i hg
        split at h
        · rename_i hdst
          split at h
          · rename_i hop
            split at h
            · split at h
              · split at h
                · rename_i hc
                  obtain ⟨k3, k4⟩ := xquiet_sound hcall (by simpa using hl) h
                  rw [envL_set hc.2.2] at k4
                  exact ⟨k3, _, dg_store hg hop ‹_› ‹_› ‹_› ‹_› hc.1 hc.2.1 hdst hdr, k4⟩
                · cases h
              · cases h
            · cases h
          · cases h
        · rename_i d hdst
          by_cases hd : d < l.length
          · rw [if_pos hd] at h
            split at h
            · rename_i hop
              split at h
              · obtain ⟨k3, k4⟩ := xquiet_sound hcall (by simpa using hl) h
                rw [envL_set hd] at k4
                exact ⟨k3, _, dg_alloc hg hop ‹_› hdst (hl ▸ hd), k4⟩
              · cases h
            · rename_i hop
              split at h
              · obtain ⟨k3, k4⟩ := xquiet_sound hcall (by simpa using hl) h
                rw [envL_set hd] at k4
                exact ⟨k3, _, dg_box hg hop ‹_› hdst (hl ▸ hd), k4⟩
              · cases h
            · split at h
              · rename_i s hs
                split at h
                · rename_i hn
                  obtain ⟨k3, k4⟩ := xquiet_sound hcall (by simpa using hl) h
                  rw [envL_set hd] at k4
                  exact ⟨k3, _, dg_yield hg (xyield_sound hcall hdst (hl ▸ hd) hs) hn.1 hn.2 hdr, by rw [hdst]; exact k4⟩
                · cases h
              · cases h
          · rw [if_neg hd] at h; cases h
      · rename_i hg
        split at h
        · rename_i d hdst
          by_cases hd : d < l.length
          · rw [if_pos hd] at h
            obtain ⟨k3, k4⟩ := xquiet_sound hcall (by simpa using hl) h
            rw [envL_set hd] at k4
            exact ⟨k3, _, dg_skip hg hdr, by rw [hdst]; exact k4⟩
          · rw [if_neg hd] at h; cases h
        · rename_i hdst
          obtain ⟨k3, k4⟩ := xquiet_sound hcall hl h
          exact ⟨k3, _, dg_skip hg hdr, by rw [hdst]; exact k4⟩
      · cases h
    · rw [if_neg hdr] at h; cases h

def freshL (ds : List Nat) (l : List S) : List S := l.zipIdx.map fun (s, t) => fresh1 ds t s
theorem freshL_env (os : List Oper) (l : List S) : envL (freshL (news os) l) = freshen os (envL l) := by
  funext t
  simp only [envL, freshL, freshen, List.getElem?_map, List.getElem?_zipIdx]
  cases l[t]? <;> simp [fresh1]
theorem freshL_length (ds : List Nat) (l : List S) : (freshL ds l).length = l.length := by simp [freshL]

/-- Jumps inside a scope. -/
def xjump (run : Code → List S → Option (Exit × List S)) (b : Code) : Nat → Code → List S → Option (Exit × List S)
  | 0, _, _ => none
  | m + 1, cur, l => match run cur l with
    | some (.goto g, l') => match findLabel b g with
      | some r => xjump run b m r l'
      | none => none
    | r => r
/-- Code. -/
def xcode (P : Program) (call : FuncId → List D → Option (List C)) : Nat → Code → List S → Option (Exit × List S)
  | 0, _, _ => none
  | n + 1, c, l => match c with
    | .skip => some (.normal, l)
    | .label _ => some (.normal, l)
    | .region _ ops draw => if draw then (if P.follows .mixedOrders && drawnOk ops then match xquiet P call ops ops.toList (freshL (news ops.toList) l) with
          | some l' => some (.normal, l')
          | none => none
        else none)
      else match xlist P call ops ops.toList l with
        | some l' => some (.normal, l')
        | none => none
    | .seq a b => match xcode P call n a l with
      | some (.normal, l') => xcode P call n b l'
      | r => r
    | .cond c t e => match vd (envL l) c with
      | some (.sc (.bool b)) => xcode P call n (if b then t else e) l
      | _ => none
    | .block id b => match xcode P call n b l with
      | some (.exit i, l') => if i = id then some (.normal, l') else some (.exit i, l')
      | r => r
    | .loop b => match xcode P call n b l with
      | some (.normal, l') => xcode P call n (.loop b) l'
      | r => r
    | .exit id => some (.exit id, l)
    | .ret => some (.ret, l)
    | .goto g => some (.goto g, l)
    | .scope b => xjump (xcode P call n) b n b l
    | _ => none


theorem xcode_sound (hcall : ∀ f ds r, call f ds = some r → Contract P f ds r) : ∀ (n : Nat) (c : Code) (l : List S) (e : Exit) (l' : List S), l.length = N → xcode P call n c l = some (e, l') → l'.length = N ∧ VC P N c (envL l) (fun e' env => e' = e ∧ env = envL l') := by
  intro n
  induction n using Nat.strongRecOn with
  | _ n ih =>
    intro c l e l' hl h
    cases n with
    | zero => simp [xcode] at h
    | succ n =>
      have ihn := ih n (Nat.lt_succ_self n)
      cases c with
      | skip => simp only [xcode, Option.some.injEq, Prod.mk.injEq] at h; obtain ⟨rfl, rfl⟩ := h; exact ⟨hl, vc_skip ⟨rfl, rfl⟩⟩
      | label g => simp only [xcode, Option.some.injEq, Prod.mk.injEq] at h; obtain ⟨rfl, rfl⟩ := h; exact ⟨hl, vc_label ⟨rfl, rfl⟩⟩
      | exit id => simp only [xcode, Option.some.injEq, Prod.mk.injEq] at h; obtain ⟨rfl, rfl⟩ := h; exact ⟨hl, vc_exit ⟨rfl, rfl⟩⟩
      | ret => simp only [xcode, Option.some.injEq, Prod.mk.injEq] at h; obtain ⟨rfl, rfl⟩ := h; exact ⟨hl, vc_ret ⟨rfl, rfl⟩⟩
      | goto g => simp only [xcode, Option.some.injEq, Prod.mk.injEq] at h; obtain ⟨rfl, rfl⟩ := h; exact ⟨hl, vc_goto ⟨rfl, rfl⟩⟩
      | rangeFunc f ps _ b => simp [xcode] at h
      | refuse why => simp [xcode] at h
      | region id ops draw =>
        simp only [xcode] at h
        cases draw with
        | true =>
          simp only [if_true] at h
          split at h
          · rename_i hm
            simp only [Bool.and_eq_true] at hm
            split at h
            · rename_i l1 h1
              simp only [Option.some.injEq, Prod.mk.injEq] at h; obtain ⟨rfl, rfl⟩ := h
              obtain ⟨k1, k2⟩ := xquiet_sound (N := N) hcall (by rw [freshL_length]; exact hl) h1
              refine ⟨k1, ?_⟩
              rw [freshL_env] at k2
              have := vc_drawn (id := id) (l := ops.toList) (env := envL l) (Q := fun e' env => e' = .normal ∧ env = envL l1) hm.1 (by simpa using hm.2) (by
                have hk : VQ P N ops (fun env => Exit.normal = Exit.normal ∧ env = envL l1) ops.toList (freshen ops.toList (envL l)) := by simpa using k2
                simpa using hk)
              simpa using this
            · cases h
          · cases h
        | false =>
          simp only [Bool.false_eq_true, if_false] at h
          split at h
          · rename_i l1 h1
            simp only [Option.some.injEq, Prod.mk.injEq] at h; obtain ⟨rfl, rfl⟩ := h
            obtain ⟨k1, k2⟩ := xlist_sound hcall hl h1
            refine ⟨k1, ?_⟩
            have := vc_region (id := id) (l := ops.toList) (Q := fun e' env => e' = .normal ∧ env = envL l1) (by
              have hk : VL P N ops ops.toList (envL l) (fun env => Exit.normal = Exit.normal ∧ env = envL l1) := by simpa using k2
              simpa using hk)
            simpa using this
          · cases h
      | seq a b =>
        simp only [xcode] at h
        cases h1 : xcode P call n a l with
        | none => rw [h1] at h; cases h
        | some r =>
          obtain ⟨e1, l1⟩ := r
          rw [h1] at h
          obtain ⟨k1, k2⟩ := ihn a l e1 l1 hl h1
          cases e1 with
          | normal =>
            obtain ⟨k3, k4⟩ := ihn b l1 e l' k1 h
            exact ⟨k3, vc_seq (vc_mono k2 (by rintro e2 env ⟨rfl, rfl⟩; exact k4))⟩
          | _ => simp only [Option.some.injEq, Prod.mk.injEq] at h; obtain ⟨rfl, rfl⟩ := h; exact ⟨k1, vc_seq (vc_mono k2 (by rintro e2 env ⟨rfl, rfl⟩; exact ⟨rfl, rfl⟩))⟩
      | cond c x y =>
        simp only [xcode] at h
        split at h
        · rename_i b hb
          obtain ⟨k3, k4⟩ := ihn _ l e l' hl h
          refine ⟨k3, fun base w0 ro0 a w hs => wp_cond (t := b) ?_ (k4 base w0 ro0 a w hs)⟩
          obtain ⟨ro, blk, hs⟩ := hs
          exact (rep_sc (hs.getD hb)).1
        · cases h
      | block id b =>
        simp only [xcode] at h
        cases h1 : xcode P call n b l with
        | none => rw [h1] at h; cases h
        | some r =>
          obtain ⟨e1, l1⟩ := r
          rw [h1] at h
          obtain ⟨k1, k2⟩ := ihn b l e1 l1 hl h1
          cases e1 with
          | exit i =>
            simp only at h
            split at h
            · rename_i hi
              simp only [Option.some.injEq, Prod.mk.injEq] at h; obtain ⟨rfl, rfl⟩ := h
              exact ⟨k1, vc_block (vc_mono k2 (by rintro e2 env ⟨rfl, rfl⟩; simp [inB, hi]))⟩
            · rename_i hi
              simp only [Option.some.injEq, Prod.mk.injEq] at h; obtain ⟨rfl, rfl⟩ := h
              exact ⟨k1, vc_block (vc_mono k2 (by rintro e2 env ⟨rfl, rfl⟩; simp [inB, hi]))⟩
          | _ => simp only [Option.some.injEq, Prod.mk.injEq] at h; obtain ⟨rfl, rfl⟩ := h; exact ⟨k1, vc_block (vc_mono k2 (by rintro e2 env ⟨rfl, rfl⟩; exact ⟨rfl, rfl⟩))⟩
      | loop b =>
        have key : ∀ m, m ≤ n + 1 → ∀ l1 : List S, l1.length = N → xcode P call m (.loop b) l1 = some (e, l') → l'.length = N := by
          intro m
          induction m with
          | zero => intro _ l1 _ h; simp [xcode] at h
          | succ m ihm =>
            intro hm l1 hl1 h
            simp only [xcode] at h
            cases h1 : xcode P call m b l1 with
            | none => rw [h1] at h; cases h
            | some r =>
              obtain ⟨e1, l2⟩ := r
              rw [h1] at h
              obtain ⟨k1, _⟩ := ih m (by omega) b l1 e1 l2 hl1 h1
              cases e1 with
              | normal => exact ihm (by omega) l2 k1 h
              | _ => simp only [Option.some.injEq, Prod.mk.injEq] at h; obtain ⟨rfl, rfl⟩ := h; exact k1
        refine ⟨key (n + 1) (Nat.le_refl _) l hl h, ?_⟩
        refine vc_loop (fun m env => m ≤ n + 1 ∧ ∃ l1 : List S, env = envL l1 ∧ l1.length = N ∧ xcode P call m (.loop b) l1 = some (e, l')) (n := n + 1) ⟨Nat.le_refl _, l, rfl, hl, h⟩ ?_
        rintro m env ⟨hm, l1, rfl, hl1, h⟩
        cases m with
        | zero => simp [xcode] at h
        | succ m =>
          simp only [xcode] at h
          cases h1 : xcode P call m b l1 with
          | none => rw [h1] at h; cases h
          | some r =>
            obtain ⟨e1, l2⟩ := r
            rw [h1] at h
            obtain ⟨k1, k2⟩ := ih m (by omega) b l1 e1 l2 hl1 h1
            refine vc_mono k2 ?_
            rintro e2 env ⟨rfl, rfl⟩
            cases e2 with
            | normal => exact ⟨m, Nat.lt_succ_self m, by omega, l2, rfl, k1, h⟩
            | _ => simp only [Option.some.injEq, Prod.mk.injEq] at h; obtain ⟨rfl, rfl⟩ := h; exact ⟨rfl, rfl⟩
      | scope b =>
        simp only [xcode] at h
        have key : ∀ m cur (l1 : List S), l1.length = N → xjump (xcode P call n) b m cur l1 = some (e, l') → l'.length = N := by
          intro m
          induction m with
          | zero => intro cur l1 _ h; simp [xjump] at h
          | succ m ihm =>
            intro cur l1 hl1 h
            simp only [xjump] at h
            cases h1 : xcode P call n cur l1 with
            | none => rw [h1] at h; cases h
            | some r =>
              obtain ⟨e1, l2⟩ := r
              rw [h1] at h
              obtain ⟨k1, _⟩ := ihn cur l1 e1 l2 hl1 h1
              cases e1 with
              | goto g =>
                simp only at h
                split at h
                · exact ihm _ l2 k1 h
                · cases h
              | _ => simp only [Option.some.injEq, Prod.mk.injEq] at h; obtain ⟨rfl, rfl⟩ := h; exact k1
        refine ⟨key n b l hl h, ?_⟩
        have pass : ∀ m cur (l1 : List S), l1.length = N → xjump (xcode P call n) b m cur l1 = some (e, l') → VC P N cur (envL l1) (jumpQ (fun g env => ∃ m', m' < m ∧ (∃ l2 : List S, env = envL l2 ∧ l2.length = N ∧ findLabel b g = some ((findLabel b g).getD .skip) ∧ xjump (xcode P call n) b m' ((findLabel b g).getD .skip) l2 = some (e, l'))) (fun e' env => e' = e ∧ env = envL l')) := by
          intro m cur l1 hl1 h
          cases m with
          | zero => simp [xjump] at h
          | succ m =>
            simp only [xjump] at h
            cases h1 : xcode P call n cur l1 with
            | none => rw [h1] at h; cases h
            | some r =>
              obtain ⟨e1, l2⟩ := r
              rw [h1] at h
              obtain ⟨k1, k2⟩ := ihn cur l1 e1 l2 hl1 h1
              refine vc_mono k2 ?_
              rintro e2 env ⟨rfl, rfl⟩
              cases e2 with
              | goto g =>
                simp only at h
                split at h
                · rename_i r hr
                  exact ⟨m, Nat.lt_succ_self m, l2, rfl, k1, by rw [hr]; rfl, by rw [hr]; exact h⟩
                · cases h
              | _ => simp only [Option.some.injEq, Prod.mk.injEq] at h; obtain ⟨rfl, rfl⟩ := h; exact ⟨rfl, rfl⟩
        refine vc_scope (fun g m env => ∃ l2 : List S, env = envL l2 ∧ l2.length = N ∧ findLabel b g = some ((findLabel b g).getD .skip) ∧ xjump (xcode P call n) b m ((findLabel b g).getD .skip) l2 = some (e, l')) (fun g => (findLabel b g).getD .skip) (fun g m env ⟨_, _, _, hf, _⟩ => hf) ?_ ?_
        · refine vc_mono (pass n b l hl h) ?_
          intro e2 env h2
          cases e2 with
          | goto g => obtain ⟨m', _, h3⟩ := h2; exact ⟨m', h3⟩
          | _ => exact h2
        · rintro g m env ⟨l2, rfl, hl2, hf, hx⟩
          exact pass m _ l2 hl2 hx

/-- A function. -/
def xcall (P : Program) : Nat → FuncId → List D → Option (List C)
  | 0, _, _ => none
  | n + 1, f, args => match P.funcs[f]? with
    | some fn => match fn.body with
      | some c => if args.length ≤ fn.ntmps then match xcode P (xcall P n) n c (args.map (fun d => S.c (.d d)) ++ List.replicate (fn.ntmps - args.length) .junk) with
          | some (.normal, l) => match vres P (envL l) fn.results.toList with
            | some cs => some (cs.map (setTok 0))
            | none => none
          | some (.ret, l) => match vres P (envL l) fn.results.toList with
            | some cs => some (cs.map (setTok 0))
            | none => none
          | _ => none
        else none
      | none => none
    | none => none

theorem fits_self (c : C) : fits P c (setTok 0 c) := by
  cases c with
  | d x => rfl
  | nil => rfl
  | own τ e xs => exact .inl ⟨τ, rfl⟩
theorem fitsL_self : ∀ cs : List C, fitsL P cs (cs.map (setTok 0))
  | [] => trivial
  | c :: cs => ⟨fits_self c, fitsL_self cs⟩

theorem envOf_L (args : List D) (k : Nat) : envL (args.map (fun d => S.c (.d d)) ++ List.replicate k .junk) = envOf args := by
  funext t
  simp only [envL, envOf]
  by_cases h : t < args.length
  · rw [List.getElem?_append_left (by simpa using h), List.getElem?_map]
    cases args[t]? <;> rfl
  · rw [List.getElem?_append_right (by simpa using h), List.getElem?_replicate, List.getElem?_eq_none (by omega : args.length ≤ t)]
    split <;> rename_i heq <;> first | rfl | (split at heq <;> first | (injection heq with heq; exact heq.symm) | (cases heq))

theorem xcall_sound : ∀ (n : Nat) (f : FuncId) (args : List D) (res : List C), xcall P n f args = some res → Contract P f args res
  | 0, f, args, res, h => by simp [xcall] at h
  | n + 1, f, args, res, h => by
    unfold xcall at h
    split at h
    · rename_i fn hfn
      split at h
      · rename_i c hc
        split at h
        · rename_i hargs
          have hlen : (args.map (fun d => S.c (.d d)) ++ List.replicate (fn.ntmps - args.length) S.junk).length = fn.ntmps := by simp; omega
          have hsound := fun e l' hx => xcode_sound (P := P) (N := fn.ntmps) (xcall_sound n) n c _ e l' hlen hx
          split at h
          · rename_i l hx
            split at h
            · rename_i cs hcs
              injection h with h; subst h
              have := (hsound _ _ hx).2
              rw [envOf_L] at this
              exact contract_of hfn hc rfl hargs (vc_mono this (by rintro e env ⟨rfl, rfl⟩; exact ⟨.inl rfl, cs, hcs, fitsL_self cs⟩))
            · cases h
          · rename_i l hx
            split at h
            · rename_i cs hcs
              injection h with h; subst h
              have := (hsound _ _ hx).2
              rw [envOf_L] at this
              exact contract_of hfn hc rfl hargs (vc_mono this (by rintro e env ⟨rfl, rfl⟩; exact ⟨.inr rfl, cs, hcs, fitsL_self cs⟩))
            · cases h
          · cases h
        · cases h
      · cases h
    · cases h
end
end Go.Vm
