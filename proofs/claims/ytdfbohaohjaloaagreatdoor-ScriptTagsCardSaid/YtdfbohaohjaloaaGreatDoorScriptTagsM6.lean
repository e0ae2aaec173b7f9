/- Part 6 of what the proof of ScriptTags stands on: HmS, HmT, HmV, HmW, HmX, HmY, HmP, Ft, HmSum, Float, PlaneParts, PlaneOf, PlPlus, PkJoin, FgPl. -/
import Derived.Test.YtdfbohaohjaloaaGreatDoorProg
import Derived.KernelRfl
import Ieee.Arith
import Derived.Laws.Externs
import Derived.Laws.FloatArith
import Derived.Deep.QuietTactic
import Derived.BigQuiet
import Derived.Test.YtdfbohaohjaloaaGreatDoorScriptTagsM5
set_option linter.unusedVariables false
set_option linter.unusedSimpArgs false
set_option maxHeartbeats 1000000
section
namespace Go.Rn
open Go.RowKit
open Go.Vm (pureRun pureRun_run fieldOff tshape elemFull elemSize arrShape enters Closed getD_up getD_no lt_ops looks_op)
set_option linter.unusedSectionVars false
variable [Cx]
section
variable {P : Program} {N base : Nat} {w0 : World} {ops : Array Oper} {Ts : Nat → Tr V} {mem : Nat → Tr Blk × Nat} {b : Nat → Nat} {B kf : Nat}
theorem At.done {listed : Array Bool} {s : St} {q : Nat} (A : At ops Ts mem b B kf listed s q none) (F : Facts P N ops Ts mem b B kf) (h : ∀ j, j < ops.size → listed.getD j false = true) : s = stT (Ts ops.size) (mem B).1 (mem B).2 := by
  have hq : q = B := by
    rcases Nat.lt_or_ge q B with h1 | h1
    · have := A.no q (Nat.le_refl _) h1 (fun _ => rfl)
      rw [h _ (F.lt q h1)] at this; cases this
    · have := A.le; omega
  subst hq
  obtain ⟨t, hp, n⟩ := s
  have h1 : hp = (mem q).1.get := A.h
  have h2 : n = (mem q).2 := A.n
  subst h1 h2
  simp only [stT]
  congr 1
  funext u
  by_cases hu : ∃ (j : Nat) (o : Oper), ops[j]? = some o ∧ o.dst = some u
  · obtain ⟨j, o, h3, h4⟩ := hu
    have hlt := lt_ops h3
    rw [show t u = _ from A.slot j o u h3 (h j hlt) h4 (fun _ => rfl), F.past h3 h4 hlt (Nat.le_refl _)]
  · have hst := F.stay (u := u) ops.size 0 (by omega) fun j o _ _ h3 h4 => hu ⟨j, o, h3, h4⟩
    rw [Nat.zero_add] at hst
    rw [show t u = _ from A.rest u fun j o h3 _ h4 => hu ⟨j, o, h3, h4⟩, hst]
theorem Mem.float {n : Nat} {π : Pi} {h : Hp} {w : World} (hm : Mem base w0 π h n w) (o : Obj) : Mem base w0 ⟨π.pl, π.op, (w.heap.size, o) :: π.fl⟩ h n (w.alloc o) := by
  have hbl : Below w.heap.size w (w.alloc o) := (Below.refl _ w).alloc (Nat.le_refl _) o
  have hk := hm.keep hbl
  have hsub : π.sub ⟨π.pl, π.op, (w.heap.size, o) :: π.fl⟩ := ⟨fun _ _ h => h, rfl⟩
  refine ⟨fun k c hc => ?_, hm.sep, hm.fresh, hk.lt, hk.below, hk.size, hm.ctx, fun x hx => ?_⟩
  · obtain ⟨q, h1, h2, h3⟩ := hk.place k c hc
    exact ⟨q, h1, h2.sub hsub, h3⟩
  · rcases List.mem_cons.1 hx with rfl | hx
    · exact ⟨hm.size, heap_alloc_new w o, fun id p hp => by have := hm.lt id p hp; simp only; omega⟩
    · exact hk.fl x hx
theorem Mem.land {n x : Nat} {π : Pi} {h : Hp} {w : World} (hm : Mem base w0 π h n w) {z : Array Value} {e : TypeId} {l : List (Nat × Obj)} (hfl : π.fl = (x, .cells z e (0, 0)) :: l) (hnd : ∀ y ∈ l, y.1 ≠ x) (ho : z.toList.all (·.oneCell') = true) :
    π.sub ⟨fun k => if k = n then some ⟨x, 0, z.size, 1⟩ else π.pl k, π.op, l⟩ ∧ Mem base w0 ⟨fun k => if k = n then some ⟨x, 0, z.size, 1⟩ else π.pl k, π.op, l⟩ (hset h n (some (.cells (z.toList.map .sc)))) (n + 1) w := by
  have hsub : π.sub ⟨fun k => if k = n then some ⟨x, 0, z.size, 1⟩ else π.pl k, π.op, l⟩ := ⟨fun k q hq => by
    show (if k = n then _ else π.pl k) = some q
    rw [if_neg (by rintro rfl; rw [hm.fresh k (Nat.le_refl _)] at hq; cases hq)]
    exact hq, rfl⟩
  obtain ⟨x1, x2, x3⟩ := hm.fl (x, .cells z e (0, 0)) (by rw [hfl]; exact List.mem_cons_self ..)
  have hne : ∀ k c, h k = some c → k ≠ n := by
    rintro k c h0 rfl
    obtain ⟨q, h1, _⟩ := hm.place k c h0
    rw [hm.fresh k (Nat.le_refl _)] at h1; cases h1
  have hpl : ∀ k q, (if k = n then some (⟨x, 0, z.size, 1⟩ : Pl) else π.pl k) = some q → (k = n ∧ q = ⟨x, 0, z.size, 1⟩) ∨ (k ≠ n ∧ π.pl k = some q) := fun k q hq => by
    split at hq
    · rename_i e1; injection hq with hq; exact .inl ⟨e1, hq.symm⟩
    · rename_i e1; exact .inr ⟨e1, hq⟩
  refine ⟨hsub, fun k c hc => ?_, fun k k' c c' q q' hc hc' r r' hq hq' e => ?_, fun k hk => ?_, fun k q hq => ?_, hm.below, hm.size, hm.ctx, fun y hy => ?_⟩
  · unfold hset at hc
    split at hc
    · rename_i e1; subst e1; injection hc with hc; subst hc
      refine ⟨⟨x, 0, z.size, 1⟩, if_pos rfl, ⟨z, e, z.toList, x2, by simp, concL_scs ho, List.all_eq_true.1 ho, by simp, fun j u hj => by simpa using hj⟩, fun _ => x1, fun h0 => by cases h0⟩
    · rename_i e1
      obtain ⟨q, h1, h2, h3⟩ := hm.place k c hc
      exact ⟨q, hsub.1 k q h1, h2.sub hsub, h3⟩
  · unfold hset at hc hc'
    rcases hpl k q hq with ⟨e1, e2⟩ | ⟨e1, e2⟩ <;> rcases hpl k' q' hq' with ⟨e3, e4⟩ | ⟨e3, e4⟩
    · rw [e1, e3]
    · exact absurd (by rw [← e, e2]) (x3 k' q' e4)
    · exact absurd (by rw [e, e4]) (x3 k q e2)
    · rw [if_neg e1] at hc
      rw [if_neg e3] at hc'
      exact hm.sep k k' c c' q q' hc hc' r r' e2 e4 e
  · show (if k = n then _ else π.pl k) = none
    rw [if_neg (by omega)]; exact hm.fresh k (by omega)
  · rcases hpl k q hq with ⟨_, e2⟩ | ⟨_, e2⟩
    · rw [e2]; exact (Array.getElem?_eq_some_iff.1 x2).1
    · exact hm.lt k q e2
  · obtain ⟨y1, y2, y3⟩ := hm.fl y (by rw [hfl]; exact List.mem_cons_of_mem _ hy)
    refine ⟨y1, y2, fun k q hq => ?_⟩
    rcases hpl k q hq with ⟨_, e2⟩ | ⟨_, e2⟩
    · rw [e2]; exact fun e3 => hnd y hy e3.symm
    · exact y3 k q e2
theorem At.land {listed : Array Bool} {s : St} {x d : Nat} {o : Oper} (A : At ops Ts mem b B kf listed s kf (some x)) (F : Facts P N ops Ts mem b B kf) (ho : ops[b kf]? = some o) (hd : o.dst = some d) (hts : (Ts (b kf + 1)).get d = some (.ptr (mem kf).2 0)) :
    At ops Ts mem b B kf listed { (s.put (some d) (.ptr (mem kf).2 0)) with h := (mem (kf + 1)).1.get, n := (mem (kf + 1)).2 } (kf + 1) none := by
  obtain ⟨_, f2, f3, _⟩ := A.fl x rfl
  have ht : ∀ u, (s.put (some d) (.ptr (mem kf).2 0)).t u = if u = d then some (.ptr (mem kf).2 0) else s.t u := fun u => rfl
  refine ⟨A.size, A.closed, by omega, fun k hk => ?_, fun k h1 h2 _ => A.no k (by omega) h2 (fun e => by omega), rfl, rfl, fun j o' u h1 h2 h3 _ => ?_, fun u h => ?_, fun x hx => by cases hx⟩
  · by_cases e : k = kf
    · subst e; exact f3
    · exact A.yes k (by omega)
  · show (s.put (some d) (.ptr (mem kf).2 0)).t u = _
    rw [ht]
    by_cases e : j = b kf
    · subst e
      rw [ho] at h1; injection h1 with h1; subst h1
      rw [hd] at h3; injection h3 with h3; subst h3
      rw [if_pos rfl]; exact hts.symm
    · have : ¬ u = d := fun h4 => e (F.one h1 ho h3 (by rw [hd, h4]))
      rw [if_neg this]
      exact A.slot j o' u h1 h2 h3 (fun h4 => absurd h4 e)
  · show (s.put (some d) (.ptr (mem kf).2 0)).t u = _
    rw [ht, if_neg (fun e => h (b kf) o ho f3 (by rw [hd, e]))]
    exact A.rest u h
def FlR (P : Program) (ops : Array Oper) (b : Nat → Nat) (kf : Nat) (π0 π : Pi) : Option Nat → Prop
  | none => π.fl = π0.fl
  | some x => ∃ (z : Array Value) (e : TypeId), π.fl = (x, .cells z e (0, 0)) :: π0.fl ∧ (∀ y ∈ π0.fl, y.1 ≠ x) ∧ z.toList.all (·.oneCell') = true ∧ ∀ o T cs, ops[b kf]? = some o → o.op = .alloc T → zeroV P T = some cs → cs = z.toList.map .sc
theorem FlR.le {π0 π π' : Pi} {fa : Option Nat} (h : FlR P ops b kf π0 π fa) (hl : π.le π') : FlR P ops b kf π0 π' fa := by
  cases fa with
  | none => exact hl.2.2.trans h
  | some x =>
    obtain ⟨z, e, h1, h2⟩ := h
    exact ⟨z, e, hl.2.2.trans h1, h2⟩
theorem wpAny_of (F : Facts P N ops Ts mem b B kf) {Q : Exit → Act → World → Prop} {π0 : Pi} (hQ : ∀ π' a' w', π0.le π' → Rel base N w0 π' (stT (Ts ops.size) (mem B).1 (mem B).2) a' w' → Q .normal a' w') : ∀ (fuel : Nat) (listed : Array Bool) (s : St) (q : Nat) (fa : Option Nat) (π : Pi) (a : Act) (w : World), At ops Ts mem b B kf listed s q fa → (∀ x, fa = some x → q < kf) → Rel base N w0 π s a w → π0.sub π → FlR P ops b kf π0 π fa → (unlisted ops listed).length ≤ fuel →
    wpAny P .any ops Q fuel listed a w := by
  have none_of : ∀ {listed : Array Bool} {s : St} {q : Nat} {fa : Option Nat}, At ops Ts mem b B kf listed s q fa → (∀ x, fa = some x → q < kf) → (∀ j, j < ops.size → listed.getD j false = true) → fa = none := by
    intro listed s q fa A hqf h
    cases fa with
    | none => rfl
    | some x =>
      exfalso
      have f1 := hqf x rfl
      obtain ⟨_, f2, _⟩ := A.fl x rfl
      have := A.no q (Nat.le_refl _) (by omega) (fun e => by omega)
      rw [h _ (F.lt q (by omega))] at this; cases this
  intro fuel
  induction fuel with
  | zero =>
    intro listed s q fa π a w A hqf hr hsub hfl hu
    have hall : ∀ j, j < ops.size → listed.getD j false = true := by
      intro j hj
      by_cases h : listed.getD j false = true
      · exact h
      · exfalso
        have : j ∈ unlisted ops listed := by
          unfold unlisted
          rw [List.mem_filter]
          exact ⟨List.mem_range.2 hj, by simpa using h⟩
        have h1 : unlisted ops listed = [] := List.length_eq_zero_iff.1 (by omega)
        rw [h1] at this; cases this
    refine ⟨?_, ?_⟩
    · apply List.eq_nil_iff_forall_not_mem.2
      intro i hi
      obtain ⟨h1, o, h2, _⟩ := mem_ready.1 hi
      exact getD_no (hall i (lt_ops h2)) h1
    · obtain rfl := none_of A hqf hall
      rw [A.done F hall] at hr
      exact hQ π a w ⟨hsub.1, hsub.2, hfl⟩ hr
  | succ fuel ih =>
    intro listed s q fa π a w A hqf hr hsub hfl hu
    refine ⟨fun h0 => ?_, fun i hi => ?_⟩
    · obtain rfl := none_of A hqf (all_listed F A.size h0)
      rw [A.done F (all_listed F A.size h0)] at hr
      exact hQ π a w ⟨hsub.1, hsub.2, hfl⟩ hr
    · obtain ⟨hun, o, ho, hall⟩ := mem_ready.1 hi
      have hlt := lt_ops ho
      have hunf : listed.getD i false = false := by
        cases h : listed.getD i false with
        | true => exact (getD_no h hun).elim
        | false => rfl
      have hfuel : (unlisted ops (listed.setIfInBounds i true)).length ≤ fuel := by
        have := unlisted_next A.size hlt hunf; omega
      have hread : ∀ u, u ∈ o.looksAt ops → s.t u = (Ts i).get u := fun u hu => A.reads F hqf hi ho hu
      have hag : AgO o (Ts i) s := by
        intro x v hx hv
        cases x with
        | tmp u => rw [show vget s (.tmp u) = s.t u from rfl, hread u (looks_op hx)]; exact hv
        | const c => exact hv
        | func f => exact hv
        | global g => exact hv
      obtain ⟨r, hr1, hr2, hr3, run, hw, hskip, hrun⟩ := (F.op i o ho).upd
      have hw' : Wants ops o s.t run := by
        unfold Wants at *
        cases hg : o.guard with
        | none => rw [hg] at hw; exact hw
        | some p =>
          obtain ⟨j, want⟩ := p
          rw [hg] at hw
          obtain ⟨oj, u, h1, h2, h3⟩ := hw
          have hm : u ∈ o.looksAt ops := by
            unfold Oper.looksAt
            rw [hg]
            simp [h1, h2]
          rw [← hread u hm] at h3
          exact ⟨oj, u, h1, h2, h3⟩
      have hput : ∀ (s1 : St) (u : Nat), (s1.upd o.dst r).t u = if o.dst = some u then (Ts (i + 1)).get u else s1.t u := by
        intro s1 u
        cases hd : o.dst with
        | none => rw [hr1 hd]; simp [St.upd]
        | some d =>
          obtain ⟨_, h2⟩ := hr2 d hd
          cases hrr : r with
          | none => exact absurd hrr h2
          | some v =>
            simp only [St.upd, St.put]
            by_cases e : u = d
            · subst e
              rw [if_pos rfl, if_pos rfl, hr3, if_pos hd, hrr]
            · rw [if_neg e, if_neg (fun h => e (by injection h with h; exact h.symm))]
      unfold wpOp
      rw [ho]
      simp only
      cases run with
      | false =>
        rw [if_neg (by rw [wanted_of hr hw']; decide)]
        obtain ⟨hs1, hs2⟩ := hskip rfl
        have hsk := hr.skipped (d := o.dst) (fun u hu => (hr2 u hu).1)
        refine ih _ (s.put o.dst (.tup [])) q fa π _ w (A.next F hi ho (fun u => ?_) (.inl ⟨rfl, hs2⟩) (fun x hx => Nat.le_of_lt (hqf x hx)) ?_ ?_) hqf hsk hsub hfl hfuel
        · have := hput s u
          rw [← this]
          rcases hs1 with e | e
          · rw [e]
            cases hd : o.dst with
            | none => rfl
            | some d => exact absurd e (hr2 d hd).2
          · rw [e]; rfl
        · cases hd : o.dst <;> exact A.h
        · cases hd : o.dst <;> exact A.n
      | true =>
        rw [if_pos (wanted_of hr hw')]
        refine .inl ?_
        have hqn : q = kf → fa = none := fun e => by
          cases hfa : fa with
          | none => rfl
          | some x => have := hqf x hfa; omega
        rcases hrun rfl with ⟨k, h1, h2, h3⟩ | ⟨h1, lo, hi2, hlB, h2, h3, h4⟩
        · rcases Nat.lt_trichotomy k q with h | h | h
          · have := A.yes k h
            rw [h2] at this
            exact (getD_no this hun).elim
          · subst h
            refine h3 s hag A.h A.n base w0 π a w hr _ Q fun π' a' w' hle hr' => ?_
            have A' := A.next F hi ho (fun u => hput s u) (.inr ⟨rfl, h1, h2⟩) (s' := { (s.upd o.dst r) with h := (mem (k + 1)).1.get, n := (mem (k + 1)).2 }) (fun x hx => hqf x hx) rfl rfl
            have hfl' := hfl.le hle
            have hsub' := Pi.sub_trans hsub hle.sub
            by_cases hadopt : k + 1 = kf ∧ ∃ x, fa = some x
            · obtain ⟨e1, x, hx⟩ := hadopt
              subst hx
              obtain ⟨_, f2, f3, f4⟩ := A'.fl x rfl
              obtain ⟨of, Tf, df, csf, g1, g2, g3, g4, g5, g6, g7, g8, _⟩ := F.flo f2
              obtain ⟨z, e, l1, l2, l3, l4⟩ := hfl'
              have hcs := l4 of Tf csf g1 g2 g5
              have hlast := f4 df of g1 g3
              obtain ⟨m1, m2⟩ := hr'.mem.land l1 l2 l3
              have A2 : At ops Ts mem b B kf (listed.setIfInBounds i true) { (s.upd o.dst r) with h := (mem (k + 1)).1.get, n := (mem (k + 1)).2 } kf (some x) := e1 ▸ A'
              have A3 := A2.land F g1 g3 g8
              have hlt : ∀ x, (none : Option Nat) = some x → kf + 1 < kf := fun x hx => by cases hx
              refine ih _ _ (kf + 1) none _ a' w' A3 hlt ⟨?_, hr'.tsz, hr'.defs, fun u v hv => ?_⟩ (Pi.sub_trans hsub' m1) rfl hfuel
              · show Mem base w0 _ (mem (kf + 1)).1.get (mem (kf + 1)).2 w'
                rw [g6, g7, hcs, ← e1]
                exact m2
              · have hv : (if u = df then some (V.ptr (mem kf).2 0) else (s.upd o.dst r).t u) = some v := hv
                split at hv
                · rename_i eu
                  injection hv with hv
                  subst hv eu
                  obtain ⟨y, y1, y2⟩ := hr'.slot u _ hlast
                  refine ⟨y, y1, ?_⟩
                  rw [conc] at y2
                  have y2 : some (Value.pointer (some ⟨x, 0, none⟩)) = some y := y2
                  rw [conc]
                  have : (if (mem kf).2 = (mem (k + 1)).2 then some (⟨x, 0, z.size, 1⟩ : Pl) else π'.pl (mem kf).2) = some ⟨x, 0, z.size, 1⟩ := if_pos (by rw [e1])
                  show (match (if (mem kf).2 = (mem (k + 1)).2 then some (⟨x, 0, z.size, 1⟩ : Pl) else π'.pl (mem kf).2) with
                    | some p => some (Value.pointer (some ⟨p.b, p.base + 0, none⟩))
                    | none => none) = some y
                  rw [this]
                  exact y2
                · obtain ⟨y, y1, y2⟩ := hr'.slot u v hv
                  exact ⟨y, y1, conc_sub m1 y2⟩
            · refine ih _ _ (k + 1) fa π' a' w' A' (fun x hx => ?_) hr' hsub' hfl' hfuel
              have h4 := hqf x hx
              rcases Nat.lt_or_ge (k + 1) kf with h5 | h5
              · exact h5
              · exact absurd ⟨by omega, x, hx⟩ hadopt
          · by_cases hk : k = kf
            · subst hk
              have hfa : fa = none := by
                cases hfa : fa with
                | none => rfl
                | some x =>
                  exfalso
                  obtain ⟨_, _, f3, _⟩ := A.fl x hfa
                  rw [h2] at f3
                  exact getD_no f3 hun
              subst hfa
              obtain ⟨of, Tf, df, csf, g1, g2, g3, g4, g5, g6, g7, g8, _⟩ := F.flo h1
              rw [h2, ho] at g1; injection g1 with g1; subst g1
              obtain ⟨inf, z, z1, z2, z3, z4⟩ := zeroV_parts g5
              have hexec : (execOp a.eval o).run P w = .ok (.value (.pointer (some ⟨w.heap.size, 0, none⟩))) (w.alloc (.cells z.cells Tf)) := by simp [execOp, g2, Instr.alloc, zeroValue, typeInfo, z1, z2, newVar, newRow]
              unfold Oper.wp
              rw [hexec, Oper.upon_value, g3]
              have hsubf : π.sub ⟨π.pl, π.op, (w.heap.size, .cells z.cells Tf (0, 0)) :: π.fl⟩ := ⟨fun _ _ h => h, rfl⟩
              have hmf := hr.mem.float (.cells z.cells Tf (0, 0))
              have hrf : Rel base N w0 ⟨π.pl, π.op, (w.heap.size, .cells z.cells Tf (0, 0)) :: π.fl⟩ (s.put (some df) (.sc (.pointer (some ⟨w.heap.size, 0, none⟩)))) (a.put (some df) (.pointer (some ⟨w.heap.size, 0, none⟩))) (w.alloc (.cells z.cells Tf (0, 0))) := by
                refine ⟨hmf, by simp [Act.put, hr.tsz], hr.defs, fun u v hv => ?_⟩
                have hv : (if u = df then some (V.sc (.pointer (some ⟨w.heap.size, 0, none⟩))) else s.t u) = some v := hv
                split at hv
                · rename_i eu
                  injection hv with hv
                  subst hv eu
                  exact ⟨.pointer (some ⟨w.heap.size, 0, none⟩), by simp [Act.put, hr.tsz, g4], by rw [conc, if_pos (by rfl)]⟩
                · rename_i eu
                  obtain ⟨y, y1, y2⟩ := hr.slot u v hv
                  refine ⟨y, ?_, conc_sub hsubf y2⟩
                  rw [← y1]
                  simp [Act.put, Array.getElem?_setIfInBounds_ne (fun q => eu q.symm)]
              have hil : i < listed.size := by rw [A.size]; exact hlt
              refine ih _ (s.put (some df) (.sc (.pointer (some ⟨w.heap.size, 0, none⟩)))) q (some w.heap.size) _ _ _ ⟨by simp [A.size], A.closed.next hi, A.le, fun k' hk' => (set_listed hil).2 (.inr (A.yes k' hk')), fun k' q1 q2 q3 => ?_, A.h, A.n, fun j o' u q1 q2 q3 q4 => ?_, fun u hu => ?_, fun x hx => ?_⟩ (fun x _ => h) hrf (Pi.sub_trans hsub hsubf) ?_ hfuel
              · have hne : k' ≠ k := fun e => by have := q3 e; cases this
                have h6 := A.no k' q1 q2 (fun _ => rfl)
                have h7 : b k' ≠ i := by
                  rcases Nat.lt_or_gt_of_ne hne with h8 | h8
                  · intro e; exact F.inj k' k h8 h1 (by rw [e, h2])
                  · intro e; exact F.inj k k' h8 q2 (by rw [e, h2])
                have h5 : ¬ (listed.setIfInBounds i true).getD (b k') false = true := by
                  rw [set_listed hil, h6]; simp [h7]
                simpa using h5
              · have hji : j ≠ i := fun e => by have := q4 (by rw [e, h2]); cases this
                have hud : ¬ u = df := fun e => hji (F.one q1 ho q3 (by rw [g3, e]))
                show (if u = df then _ else s.t u) = _
                rw [if_neg hud]
                exact A.slot j o' u q1 (((set_listed hil).1 q2).resolve_left hji) q3 (fun _ => rfl)
              · have hud : ¬ u = df := fun e => hu i o ho ((set_listed hil).2 (.inl rfl)) (by rw [g3, e])
                show (if u = df then _ else s.t u) = _
                rw [if_neg hud]
                exact A.rest u fun j o' q1 q2 => hu j o' q1 ((set_listed hil).2 (.inr q2))
              · injection hx with hx
                subst hx
                refine ⟨Nat.le_of_lt h, h1, by rw [h2]; exact (set_listed hil).2 (.inl rfl), fun d o' q1 q2 => ?_⟩
                rw [h2, ho] at q1; injection q1 with q1; subst q1
                rw [g3] at q2; injection q2 with q2; subst q2
                exact if_pos rfl
              · refine ⟨z.cells, Tf, by rw [show π.fl = π0.fl from hfl], fun y hy => ?_, List.all_eq_true.2 z4, fun o' T' cs' q1 q2 q3 => ?_⟩
                · have := (hr.mem.fl y (by rw [show π.fl = π0.fl from hfl]; exact hy)).2.1
                  have := (Array.getElem?_eq_some_iff.1 this).1
                  omega
                · rw [h2, ho] at q1; injection q1 with q1; subst q1
                  rw [g2] at q2; injection q2 with q2; subst q2
                  rw [g5] at q3; injection q3 with q3; subst q3
                  exact z3
            · have hre := F.chain q k h h1 hk
              rw [h2] at hre
              have h5 := reach_listed A.closed hre (.inl hi)
              have h6 := A.no q (Nat.le_refl _) (by omega) hqn
              rw [h6] at h5; cases h5
        · have hlo : lo ≤ q := by
            rcases Nat.lt_or_ge q lo with h | h
            · exfalso
              have h6 := reach_listed A.closed (h2 q h) (.inl hi)
              rw [A.no q (Nat.le_refl _) (by omega) hqn] at h6; cases h6
            · exact h
          have hhi : q ≤ hi2 := by
            rcases Nat.lt_or_ge hi2 q with h | h
            · exfalso
              have h5 := A.yes hi2 h
              have h6 := reach_listed A.closed (h3 (by have := A.le; omega)) (.inr h5)
              exact getD_no h6 hun
            · exact h
          refine h4 q hlo hhi s hag A.h A.n base w0 π a w hr _ Q fun π' a' w' hle hr' => ?_
          refine ih _ _ q fa π' a' w' (A.next F hi ho (fun u => hput s u) (.inl ⟨rfl, h1⟩) (fun x hx => Nat.le_of_lt (hqf x hx)) ?_ ?_) hqf hr' (Pi.sub_trans hsub hle.sub) (hfl.le hle) hfuel
          · cases r <;> cases hd : o.dst <;> exact A.h
          · cases r <;> cases hd : o.dst <;> exact A.n
theorem rc_drawn (hm : P.follows .mixedOrders = true) (F : Facts P N ops Ts mem b B kf) (id : Nat) : RC P N (.region id ops true) (stT (Ts 0) (mem 0).1 (mem 0).2) .normal (stT (Ts ops.size) (mem B).1 (mem B).2) := by
  intro base w0 π a w hr Q hQ
  refine wp_region_any hm (wpAny_of F (π0 := π) hQ ops.size _ (stT (Ts 0) (mem 0).1 (mem 0).2) 0 none π a _ ⟨by simp, ?_, Nat.zero_le _, fun k h => by omega, fun k _ h _ => ?_, rfl, rfl, fun j o u h1 h2 => ?_, fun u _ => rfl, fun x hx => by cases hx⟩ (fun x hx => by cases hx) ?_ ⟨fun _ _ h => h, rfl⟩ rfl ?_)
  · intro k o ho hl
    exfalso
    have hlt := lt_ops ho
    simp [hlt] at hl
  · simp [F.lt k h]
  · exfalso
    simp [lt_ops h1] at h2
  · exact ⟨hr.mem.keep ((Below.refl _ _).drew), hr.tsz, hr.defs, hr.slot⟩
  · unfold unlisted
    refine Nat.le_trans (List.length_filter_le _ _) (by simp)
end
end Go.Rn
end
section
namespace Go.Rn
open Go.RowKit
open Go.Vm (pureRun pureRun_run fieldOff tshape elemFull elemSize arrShape enters Closed getD_up getD_no lt_ops looks_op)
set_option linter.unusedSectionVars false
noncomputable def eqSc (a b : Value) : Bool := match a, b with
  | .int k i, .int k' j => match sameK k k' with
    | true => eqI i j
    | false => false
  | .bool true, .bool true => true
  | .bool false, .bool false => true
  | .string s, .string r => eqB s.data.toList r.data.toList
  | .pointer none, .pointer none => true
  | .map none, .map none => true
  | .slice none 0 0, .slice none 0 0 => true
  | .nilFunc, .nilFunc => true
  | .complex .f64 a b, .complex .f64 c d => match Nat.beq a c with
    | true => Nat.beq b d
    | false => false
  | _, _ => false
theorem eqSc_spec {a b : Value} (h : eqSc a b = true) : a = b := by
  unfold eqSc at h
  split at h
  · split at h
    · rename_i hs
      cases sameK_spec hs
      rw [eqI_eq] at h
      rw [of_decide_eq_true h]
    · cases h
  · rfl
  · rfl
  · rw [eqS] at h; rw [of_decide_eq_true h]
  · rfl
  · rfl
  · rfl
  · rfl
  · split at h
    · rename_i h1
      rw [Nat.eq_of_beq_eq_true h1, Nat.eq_of_beq_eq_true h]
    · cases h
  · cases h
def eqC (a b : Option Nat) : Bool := match a, b with
  | none, none => true
  | some a, some b => Nat.beq a b
  | _, _ => false
theorem eqC_spec {a b : Option Nat} (h : eqC a b = true) : a = b := by
  cases a <;> cases b <;> first | rfl | (cases h; done) | (rw [Nat.eq_of_beq_eq_true (show Nat.beq _ _ = true from h)])
noncomputable def eqO (a b : V) : Bool := match a, b with
  | .sc x, .sc y => eqSc x y
  | .ptr i o, .ptr i' o' => match Nat.beq i i' with
    | true => Nat.beq o o'
    | false => false
  | .sl i o s n c, .sl i' o' s' n' c' => match Nat.beq i i' with
    | true => match Nat.beq o o' with
      | true => match Nat.beq s s' with
        | true => match Nat.beq n n' with
          | true => eqC c c'
          | false => false
        | false => false
      | false => false
    | false => false
  | .mp i, .mp i' => Nat.beq i i'
  | .fn f [], .fn f' [] => Nat.beq f f'
  | .opq k, .opq k' => Nat.beq k k'
  | _, _ => false
theorem eqO_spec {a b : V} (h : eqO a b = true) : a = b := by
  unfold eqO at h
  split at h
  · rw [eqSc_spec h]
  · split at h
    · rename_i h1; rw [Nat.eq_of_beq_eq_true h1, Nat.eq_of_beq_eq_true h]
    · cases h
  · split at h
    · rename_i h1
      split at h
      · rename_i h2
        split at h
        · rename_i h3
          split at h
          · rename_i h4
            rw [Nat.eq_of_beq_eq_true h1, Nat.eq_of_beq_eq_true h2, Nat.eq_of_beq_eq_true h3, Nat.eq_of_beq_eq_true h4, eqC_spec h]
          · cases h
        · cases h
      · cases h
    · cases h
  · rw [Nat.eq_of_beq_eq_true h]
  · rw [Nat.eq_of_beq_eq_true h]
  · rw [Nat.eq_of_beq_eq_true h]
  · cases h
noncomputable def eqL (l : List V) : List V → Bool := @List.rec V (fun _ => List V → Bool) (fun m => match m with
  | [] => true
  | _ :: _ => false) (fun a _ ih m => match m with
  | [] => false
  | b :: m => match eqO a b with
    | true => ih m
    | false => false) l
theorem eqL_spec : ∀ {l m : List V}, eqL l m = true → l = m
  | [], [], _ => rfl
  | [], _ :: _, h => by cases h
  | _ :: _, [], h => by cases h
  | a :: l, b :: m, h => by
    have h : (match eqO a b with | true => eqL l m | false => false) = true := h
    split at h
    · rename_i h1; rw [eqO_spec h1, eqL_spec h]
    · cases h
noncomputable def eqV (a b : V) : Bool := match a, b with
  | .agg l, .agg m => eqL l m
  | a, b => eqO a b
theorem eqV_spec {a b : V} (h : eqV a b = true) : a = b := by
  unfold eqV at h
  split at h
  · rw [eqL_spec h]
  · exact eqO_spec h
structure Pd where
  i : Nat
  id : Nat
  off : Nat
  k : Nat
  ag : Bool
  v : V
def LoadAt (h : Hp) (p : Pd) : Prop := ∃ b cs, h p.id = some b ∧ b.cs = some cs ∧ partV (p.ag, p.k) cs p.off = some p.v
noncomputable def seeK (m : Tr Blk) (p : Pd) (K : Prop) : Prop := match m.get p.id with
  | some b => match b.cs with
    | some cs => partK p.ag p.k cs p.off fun v => match eqV p.v v with
      | true => K
      | false => False
    | none => False
  | none => False
theorem seeK_spec {m : Tr Blk} {p : Pd} {K : Prop} (h : seeK m p K) : LoadAt m.get p ∧ K := by
  unfold seeK at h
  split at h
  · rename_i b hb
    split at h
    · rename_i cs hcs
      obtain ⟨v, h1, h2⟩ := partK_spec h
      split at h2
      · rename_i he
        rw [← eqV_spec he] at h1
        exact ⟨⟨b, cs, hb, hcs, h1⟩, h2⟩
      · exact h2.elim
    · exact h.elim
  · exact h.elim
abbrev Sn := List (Nat × Tr Blk × Nat)
noncomputable def prevK (mask : Nat) (p : Pd) (l : Sn) : Prop → Prop := @List.rec (Nat × Tr Blk × Nat) (fun _ => Prop → Prop) (fun K => K) (fun e _ ih K => match waits mask e.1 with
  | true => K
  | false => seeK e.2.1 p (ih K)) l
noncomputable def pendK (mask : Nat) (m : Tr Blk) (l : List Pd) : (List Pd → Prop) → Prop := @List.rec Pd (fun _ => (List Pd → Prop) → Prop) (fun K => K []) (fun p _ ih K => match waits mask p.i with
  | true => ih K
  | false => seeK m p (ih fun l => K (p :: l))) l
def isBar (o : Oper) : Bool := match o.op with
  | .call c => match c.callee with
    | .builtin .len => false
    | .builtin .min => false
    | .builtin .max => false
    | _ => true
  | .box _ _ => true
  | .alloc _ => true
  | .buildSlice _ _ _ => true
  | .makeSlice _ _ _ => true
  | .makeMap _ _ => true
  | .range _ _ => true
  | .store _ _ _ => true
  | .mapEntry _ _ _ => true
  | .entryStore _ _ _ _ => true
  | _ => false
noncomputable def isText (o : Oper) (t : Tr V) : Bool := match o.op with
  | .convert _ _ (.tmp u) => match t.get u with
    | some (.sl _ _ _ _ _) => true
    | _ => false
  | .lookup _ _ _ _ => true
  | _ => false
def orB (a b : Bool) : Bool := match a with
  | true => true
  | false => b
noncomputable def xbar (P : Program) (ck : CK) (N : Nat) (o : Oper) (t : Tr V) (m : Tr Blk) (n : Nat) (K : Tr V → Tr Blk → Nat → Prop) : Prop := match o.dst with
  | none => xsto P o t m fun m => K t m n
  | some d => match Nat.ble N d with
    | true => False
    | false => match o.op with
      | .call c => match c.callee with
        | .value f => ovK t f fun g => match g with
          | .fn f caps => opsK t c.args.toList fun vs => appK vs caps fun vs => ck f vs m n fun v m n => setK t d (some v) fun t => K t m n
          | _ => False
        | _ => xmem P o t m n fun v m n => setK t d (some v) fun t => K t m n
      | .convert _ _ _ => tosK P o t m (fun v => setK t d (some v) fun t => K t m n) False
      | .lookup _ _ _ _ => xval P o t m fun v => setK t d (some v) fun t => K t m n
      | _ => xmem P o t m n fun v m n => setK t d (some v) fun t => K t m n
abbrev DW := Bool → Nat → List Nat → Tr V → Tr Blk → Nat → Sn → List Pd → (Tr V → Tr Blk → Nat → Prop) → Prop
def chainK (mask : Nat) (l : Sn) : Bool := match l with
  | [] => true
  | e :: _ => waits mask e.1
def okF (all : Array Oper) (o : Oper) (i : Nat) (l : Sn) : Bool := match o.op with
  | .alloc _ => match o.dst with
    | some d => (List.range all.size).all fun j => Nat.beq j i || (match all[j]?, (masks all.toList)[j]? with
      | some o', some mk => (!((o'.looksAt all).contains d) && !(waits mk i)) || l.all fun e => waits mk e.1
      | _, _ => true)
    | none => false
  | _ => false
noncomputable def dwB (P : Program) (ck : CK) (N : Nat) (all : Array Oper) (o : Oper) (ih : DW) : DW := fun fl i ml t m n sn pd K => match ml with
  | [] => False
  | mask :: ml => gK all o t fun run => match run with
    | false => match o.dst with
      | some d => match Nat.ble N d with
        | true => False
        | false => setK t d (some (.tup [])) fun t => ih fl (Nat.succ i) ml t m n sn pd K
      | none => ih fl (Nat.succ i) ml t m n sn pd K
    | true => match orB (isBar o) (isText o t) with
      | true => match chainK mask sn with
        | true => xbar P ck N o t m n fun t' m' n' => pendK mask m' pd fun pd => ih fl (Nat.succ i) ml t' m' n' ((i, m, n) :: sn) pd K
        | false => match fl with
          | true => False
          | false => match okF all o i sn with
            | true => xbar P ck N o t m n fun t' m' n' => pendK mask m' pd fun pd => ih true (Nat.succ i) ml t' m' n' ((i, m, n) :: sn) pd K
            | false => False
      | false => match o.dst with
        | none => False
        | some d => match Nat.ble N d with
          | true => False
          | false => match o.op with
            | .load _ (.global _) => xval P o t m fun v => setK t d (some v) fun t => ih fl (Nat.succ i) ml t m n sn pd K
            | .load T x => ovK t x fun u => match u with
              | .ptr id off => match m.get id with
                | some b => match b.cs with
                  | some cs => match tshape P T with
                    | some (ag, k) => partK ag k cs off fun v => prevK mask ⟨i, id, off, k, ag, v⟩ sn (setK t d (some v) fun t => ih fl (Nat.succ i) ml t m n sn (⟨i, id, off, k, ag, v⟩ :: pd) K)
                    | none => False
                  | none => False
                | none => False
              | _ => False
            | _ => match memFree o with
              | true => xval P o t m fun v => setK t d (some v) fun t => ih fl (Nat.succ i) ml t m n sn pd K
              | false => False
noncomputable def dw (P : Program) (ck : CK) (N : Nat) (all : Array Oper) (l : List Oper) : DW := @List.rec Oper (fun _ => DW) (fun _ _ _ t m n _ _ K => K t m n) (fun o _ ih => dwB P ck N all o ih) l
noncomputable def xdrawn (P : Program) (ck : CK) (N : Nat) (ops : Array Oper) : XL := fun t m n K => match P.follows .mixedOrders with
  | true => match okR ops with
    | true => dw P ck N ops ops.toList false 0 (masks ops.toList) t m n [] [] K
    | false => False
  | false => False
variable [Cx]
def SnOk (mem : Nat → Tr Blk × Nat) (b : Nat → Nat) : Sn → Nat → Prop
  | [], q => q = 0
  | e :: l, q => ∃ q', q = q' + 1 ∧ b q' = e.1 ∧ mem q' = e.2 ∧ SnOk mem b l q'
section
variable {P : Program} {N : Nat} {ops : Array Oper} {ck : CK} {mem : Nat → Tr Blk × Nat} {b : Nat → Nat}
theorem prevK_spec {mask i : Nat} {fq : Option Nat} (hmask : ∀ j, mask.testBit j = true → Reach ops i j) (hf : ∀ k0, fq = some k0 → mask.testBit (b k0) = true → ∀ k, k < k0 → Reach ops i (b k)) {p : Pd} : ∀ {l : Sn} {q : Nat} {K : Prop}, SnOk mem b l q → (∀ k k', k < k' → k' < q → fq ≠ some k' → Reach ops (b k') (b k)) → prevK mask p l K → (∃ lo, lo ≤ q ∧ (∀ k, k < lo → Reach ops i (b k)) ∧ ∀ k, lo ≤ k → k < q → LoadAt (mem k).1.get p) ∧ K
  | [], q, K, hs, _, h => by
    have hs : q = 0 := hs
    subst hs
    exact ⟨⟨0, Nat.le_refl _, fun k hk => by omega, fun k _ hk => by omega⟩, h⟩
  | e :: l, q, K, hs, hc, h => by
    obtain ⟨q', rfl, h1, h2, h3⟩ := hs
    have h : (match waits mask e.1 with | true => K | false => seeK e.2.1 p (prevK mask p l K)) := h
    split at h
    · rename_i hw
      rw [waits_bit] at hw
      have hr := hmask _ hw
      rw [← h1] at hr hw
      refine ⟨⟨q' + 1, Nat.le_refl _, fun k hk => ?_, fun k h4 h5 => by omega⟩, h⟩
      by_cases e : k = q'
      · subst e; exact hr
      · by_cases e2 : fq = some q'
        · exact hf q' e2 hw k (by omega)
        · exact .more hr (hc k q' (by omega) (by omega) e2)
    · obtain ⟨h4, h5⟩ := seeK_spec h
      obtain ⟨⟨lo, h6, h7, h8⟩, h9⟩ := prevK_spec hmask hf (l := l) h3 (fun k k' h1 h2 => hc k k' h1 (by omega)) h5
      refine ⟨⟨lo, by omega, h7, fun k h10 h11 => ?_⟩, h9⟩
      by_cases e : k = q'
      · subst e; rw [h2]; exact h4
      · exact h8 k h10 (by omega)
def PdOk (ops : Array Oper) (mem : Nat → Tr Blk × Nat) (b : Nat → Nat) (B q : Nat) (p : Pd) : Prop := ∃ hi, q ≤ hi ∧ hi ≤ B ∧ (hi < B → Reach ops (b hi) p.i) ∧ ∀ k, q < k → k ≤ hi → LoadAt (mem k).1.get p
theorem pendK_spec {mask : Nat} {m : Tr Blk} : ∀ {l : List Pd} {K : List Pd → Prop}, pendK mask m l K → ∃ l', (∀ p ∈ l, mask.testBit p.i = true ∨ (p ∈ l' ∧ LoadAt m.get p)) ∧ K l'
  | [], K, h => ⟨[], by simp, h⟩
  | p :: l, K, h => by
    have h : (match waits mask p.i with | true => pendK mask m l K | false => seeK m p (pendK mask m l fun l => K (p :: l))) := h
    split at h
    · rename_i hw
      obtain ⟨l', h1, h2⟩ := pendK_spec (l := l) h
      rw [waits_bit] at hw
      refine ⟨l', fun r hr => ?_, h2⟩
      rcases List.mem_cons.1 hr with rfl | hr
      · exact .inl hw
      · exact h1 r hr
    · obtain ⟨h3, h4⟩ := seeK_spec h
      obtain ⟨l', h1, h2⟩ := pendK_spec (l := l) (K := fun l => K (p :: l)) h4
      refine ⟨p :: l', fun r hr => ?_, h2⟩
      rcases List.mem_cons.1 hr with rfl | hr
      · exact .inr ⟨List.mem_cons_self .., h3⟩
      · exact (h1 r hr).imp id fun ⟨q1, q2⟩ => ⟨List.mem_cons_of_mem _ q1, q2⟩
def XB (P : Program) (N : Nat) (o : Oper) (t : Tr V) (m : Tr Blk) (n : Nat) (K : Tr V → Tr Blk → Nat → Prop) : Prop := ∃ r t' m' n', (o.dst = none → r = none) ∧ (∀ d, o.dst = some d → d < N ∧ r ≠ none) ∧ (∀ u, t'.get u = if o.dst = some u then r else t.get u) ∧
    (∀ s : St, AgO o t s → s.h = m.get → s.n = n → Step P N o s { (s.upd o.dst r) with h := m'.get, n := n' }) ∧ K t' m' n'
theorem xbar_alloc {o : Oper} {T : TypeId} {d : Nat} {t : Tr V} {m : Tr Blk} {n : Nat} {K : Tr V → Tr Blk → Nat → Prop} (hop : o.op = .alloc T) (hdst : o.dst = some d) (h : xbar P ck N o t m n K) : ∃ cs t' m', d < N ∧ zeroV P T = some cs ∧ m'.get = hset m.get n (some (.cells cs)) ∧ (∀ u, t'.get u = if u = d then some (.ptr n 0) else t.get u) ∧
    (∀ s : St, AgO o t s → s.h = m.get → s.n = n → Step P N o s { (s.upd o.dst (some (.ptr n 0))) with h := m'.get, n := n + 1 }) ∧ K t' m' (n + 1) := by
  unfold xbar at h
  rw [hdst] at h
  simp only [hop] at h
  split at h
  · exact h.elim
  · rename_i hN
    have hd := nble_lt hN
    unfold xmem at h
    simp only [hop] at h
    split at h
    · rename_i cs hz
      have h2 := spK_spec h
      obtain ⟨m', q, h5⟩ := newK_spec h2
      obtain ⟨t', h3, h4⟩ := setK_spec h5
      refine ⟨cs, t', m', hd, hz, q, h3, fun s _ hh hn => ?_, h4⟩
      have := r_alloc (P := P) (s := s) hop hz hdst hd
      rw [hh, hn] at this
      rw [q, hdst]
      exact this
    · exact h.elim
theorem xbar_spec (hck : CKok P ck) {o : Oper} {t : Tr V} {m : Tr Blk} {n : Nat} {K : Tr V → Tr Blk → Nat → Prop} (h : xbar P ck N o t m n K) : XB P N o t m n K := by
  unfold xbar at h
  have done : ∀ {d : Nat} {v : V} {t1 : Tr V} {m1 : Tr Blk} {n1 : Nat}, o.dst = some d → d < N → (∀ s : St, AgO o t s → s.h = m.get → s.n = n → Step P N o s { (s.put (some d) v) with h := m1.get, n := n1 }) → (∀ u, t1.get u = if u = d then some v else t.get u) → K t1 m1 n1 →
      XB P N o t m n K := by
    intro d v t1 m1 n1 hdst hd hst ht hK
    refine ⟨some v, t1, m1, n1, (fun e => by rw [hdst] at e; cases e), (fun d' e => by rw [hdst] at e; injection e with e; subst e; exact ⟨hd, by simp⟩), fun u => ?_, fun s ha h1 h2 => ?_, hK⟩
    · rw [ht, hdst]
      by_cases e : u = d
      · subst e; simp
      · rw [if_neg e, if_neg (fun h => e (by injection h with h; exact h.symm))]
    · rw [hdst]; exact hst s ha h1 h2
  split at h
  · rename_i hdst
    obtain ⟨m', h1, h2⟩ := xsto_spec h
    refine ⟨none, t, m', n, fun _ => rfl, (fun d e => by rw [hdst] at e; cases e), (fun u => by rw [hdst]; simp), fun s ha h3 h4 => ?_, h2⟩
    have := h1 N s ha h3 h4 hdst
    rw [hdst]; exact this
  · rename_i d hdst
    split at h
    · exact h.elim
    · rename_i hN
      have hd := nble_lt hN
      have mem : (xmem P o t m n fun v m n => setK t d (some v) fun t => K t m n) → XB P N o t m n K := fun h => by
        obtain ⟨v, m', n', h1, h2⟩ := xmem_spec h
        obtain ⟨t', h3, h4⟩ := setK_spec h2
        exact done hdst hd (fun s ha hh hn => h1 N s d ha hh hn hdst hd) h3 h4
      split at h
      · rename_i c hop
        split at h
        · rename_i f hc
          obtain ⟨g, h1, h2⟩ := ovK_spec h
          clear h
          split at h2
          · rename_i f' caps
            obtain ⟨vs, h3, h4⟩ := opsK_spec h2
            have h5 := appK_spec h4
            obtain ⟨v, m', n', h6, h7, h8⟩ := hck _ _ _ _ _ h5
            obtain ⟨t', h9, h10⟩ := setK_spec h8
            refine done hdst hd (fun s ha hh hn => ?_) h9 h10
            have hmem : ∀ x, x ∈ c.args.toList → x ∈ o.op.operands := fun x hx => by simp [hop, Op.operands, Call.operands]; exact .inr (by simpa using hx)
            have hf : f ∈ o.op.operands := by simp [hop, Op.operands, Call.operands, hc]
            exact r_call (P := P) (N := N) (s := s) hop hc (ha f _ hf (h1 _ _)) (h3 s fun x v hx hv => ha x v (hmem x hx) hv) h6 (by rw [hh, hn]; exact h7) hdst hd
          · exact h2.elim
        · exact mem h
      · rcases tosK_spec h with h | ⟨v, h1, h2⟩
        · exact h.elim
        · obtain ⟨t', h3, h4⟩ := setK_spec h2
          exact done hdst hd (fun s ha hh hn => by
            have := h1 N s d ha hh hdst hd
            have e : ({ (s.put (some d) v) with h := m.get, n := n } : St) = s.put (some d) v := by
              rw [← hh, ← hn]; rfl
            rw [e]; exact this) h3 h4
      · obtain ⟨v, h1, h2⟩ := xval_spec h
        obtain ⟨t', h3, h4⟩ := setK_spec h2
        exact done hdst hd (fun s ha hh hn => by
            have := h1.1 N s d ha hh hdst hd
            have e : ({ (s.put (some d) v) with h := m.get, n := n } : St) = s.put (some d) v := by
              rw [← hh, ← hn]; rfl
            rw [e]; exact this) h3 h4
      · exact mem h
end
end Go.Rn
end
section
namespace Go.Rn
open Go.RowKit
open Go.Vm (pureRun pureRun_run fieldOff tshape elemFull elemSize arrShape enters Closed getD_up getD_no lt_ops looks_op)
set_option linter.unusedSectionVars false
variable [Cx]
def fset {α : Type} (f : Nat → α) (i : Nat) (v : α) : Nat → α := fun j => if j = i then v else f j
theorem fset_same {α : Type} (f : Nat → α) (i : Nat) (v : α) : fset f i v i = v := if_pos rfl
theorem fset_ne {α : Type} {f : Nat → α} {i j : Nat} {v : α} (h : j ≠ i) : fset f i v j = f j := if_neg h
section
variable {P : Program} {N : Nat} {ops : Array Oper} {ck : CK}
theorem OpFact.congr {Ts Ts' : Nat → Tr V} {mem : Nat → Tr Blk × Nat} {b : Nat → Nat} {B j : Nat} {o : Oper} (h : OpFact P N ops Ts' mem b B j o) (h1 : Ts j = Ts' j) (h2 : Ts (j + 1) = Ts' (j + 1)) : OpFact P N ops Ts mem b B j o := by
  obtain ⟨r, q1, q2, q3, q4⟩ := h.upd
  exact ⟨r, q1, q2, by rw [h1, h2]; exact q3, by rw [h1]; exact q4⟩
theorem FloatAt.congr {Ts Ts' : Nat → Tr V} {mem : Nat → Tr Blk × Nat} {b : Nat → Nat} {k : Nat} (h : FloatAt P N ops Ts' mem b k) (h1 : Ts (b k + 1) = Ts' (b k + 1)) : FloatAt P N ops Ts mem b k := by
  obtain ⟨o, T, d, cs, g1, g2, g3, g4, g5, g6, g7, g8, g9⟩ := h
  exact ⟨o, T, d, cs, g1, g2, g3, g4, g5, g6, g7, by rw [h1]; exact g8, g9⟩
theorem SnOk.congr {mem mem' : Nat → Tr Blk × Nat} {b b' : Nat → Nat} : ∀ {l : Sn} {q : Nat}, SnOk mem b l q → (∀ k, k < q → mem' k = mem k) → (∀ k, k < q → b' k = b k) → SnOk mem' b' l q
  | [], q, h, _, _ => h
  | e :: l, q, h, h1, h2 => by
    obtain ⟨q', rfl, q1, q2, q3⟩ := h
    exact ⟨q', rfl, (h2 q' (by omega)).trans q1, (h1 q' (by omega)).trans q2, SnOk.congr q3 (fun k hk => h1 k (by omega)) fun k hk => h2 k (by omega)⟩
def Rest (P : Program) (N : Nat) (ops : Array Oper) (i : Nat) (t : Tr V) (mem0 : Nat → Tr Blk × Nat) (b0 : Nat → Nat) (q : Nat) (pd : List Pd) (K : Tr V → Tr Blk → Nat → Prop) (fq : Option Nat) : Prop :=
  ∃ (B : Nat) (mem : Nat → Tr Blk × Nat) (b : Nat → Nat) (Ts : Nat → Tr V) (kf : Nat), ((∀ k0, fq = some k0 → kf = k0) ∧ (fq = none → q ≤ kf)) ∧ (∀ k k', q ≤ k → k < k' → k' < B → b k ≠ b k') ∧ (q ≤ kf → kf < B → FloatAt P N ops Ts mem b kf) ∧ q ≤ B ∧ (∀ k, k ≤ q → mem k = mem0 k) ∧ (∀ k, k < q → b k = b0 k) ∧ Ts i = t ∧ (∀ k, q ≤ k → k < B → i ≤ b k ∧ b k < ops.size) ∧ (∀ k k', k < k' → k' < B → k' ≠ kf → Reach ops (b k') (b k)) ∧
    (∀ p ∈ pd, PdOk ops mem b B q p) ∧ (∀ j o, i ≤ j → ops[j]? = some o → OpFact P N ops Ts mem b B j o) ∧ K (Ts ops.size) (mem B).1 (mem B).2
theorem Rest.plain {i q : Nat} {o : Oper} {t t1 : Tr V} {mem0 : Nat → Tr Blk × Nat} {b0 : Nat → Nat} {pd pd' : List Pd} {K : Tr V → Tr Blk → Nat → Prop} {fq : Option Nat} (hi : ops[i]? = some o) (hb0 : ∀ k, k < q → b0 k < i) (hpd : ∀ p ∈ pd, p ∈ pd') {r : Option V} (hr1 : o.dst = none → r = none) (hr2 : ∀ d, o.dst = some d → d < N ∧ r ≠ none) (ht : ∀ u, t1.get u = if o.dst = some u then r else t.get u)
    {run : Bool} (hw : Wants ops o t.get run) (hskip : run = false → (r = none ∨ r = some (.tup [])))
    (hrun : run = true → ∀ (B : Nat) (mem : Nat → Tr Blk × Nat) (b : Nat → Nat), q ≤ B → (∀ k, k ≤ q → mem k = mem0 k) → (∀ k, k < q → b k = b0 k) → (∀ p ∈ pd', PdOk ops mem b B q p) → ∃ lo hi, lo ≤ B ∧ (∀ k, k < lo → Reach ops i (b k)) ∧ (hi < B → Reach ops (b hi) i) ∧ ∀ q', lo ≤ q' → q' ≤ hi → ∀ s : St, AgO o t s → s.h = (mem q').1.get → s.n = (mem q').2 → Step P N o s (s.upd o.dst r))
    (h : Rest P N ops (i + 1) t1 mem0 b0 q pd' K fq) : Rest P N ops i t mem0 b0 q pd K fq := by
  obtain ⟨B, mem, b, Ts, kf, f1, f2, f3, h1, h2, h3, h4, h5, h6, h7, h8, h9⟩ := h
  have hlt := lt_ops hi
  have hne : ∀ k, k < B → b k ≠ i := by
    intro k hk
    rcases Nat.lt_or_ge k q with h | h
    · rw [h3 k h]; have := hb0 k h; omega
    · have := (h5 k h hk).1; omega
  refine ⟨B, mem, b, fset Ts i t, kf, f1, f2, fun z1 z2 => (f3 z1 z2).congr (fset_ne (by have := (h5 kf z1 z2).1; omega)), h1, h2, h3, fset_same .., fun k q1 q2 => ⟨by have := (h5 k q1 q2).1; omega, (h5 k q1 q2).2⟩, h6, fun p hp => h7 p (hpd p hp), fun j o' hj ho' => ?_, by rw [fset_ne (by omega)]; exact h9⟩
  by_cases e : j = i
  · subst e
    rw [hi] at ho'; injection ho' with ho'; subst ho'
    refine ⟨r, hr1, hr2, ?_, run, ?_, fun hf => ⟨hskip hf, hne⟩, fun hf => .inr ⟨hne, ?_⟩⟩
    · rw [fset_same, fset_ne (by omega), h4]; exact ht
    · rw [fset_same]; exact hw
    · rw [fset_same]; exact hrun hf B mem b h1 h2 h3 h7
  · exact (h8 j o' (by omega) ho').congr (fset_ne e) (fset_ne (by omega))
theorem Rest.bar {i q : Nat} {o : Oper} {t t1 : Tr V} {m' : Tr Blk} {n' : Nat} {mem0 : Nat → Tr Blk × Nat} {b0 : Nat → Nat} {pd pd' : List Pd} {K : Tr V → Tr Blk → Nat → Prop} {fq fq' : Option Nat} (hi : ops[i]? = some o) (hb0 : ∀ k, k < q → b0 k < i) {r : Option V} (hr1 : o.dst = none → r = none) (hr2 : ∀ d, o.dst = some d → d < N ∧ r ≠ none) (ht : ∀ u, t1.get u = if o.dst = some u then r else t.get u)
    (hw : Wants ops o t.get true) (hst : ∀ s : St, AgO o t s → s.h = (mem0 q).1.get → s.n = (mem0 q).2 → Step P N o s { (s.upd o.dst r) with h := m'.get, n := n' })
    (hpd : ∀ p ∈ pd, Reach ops i p.i ∨ (p ∈ pd' ∧ LoadAt m'.get p))
    (hnf : fq ≠ some q) (hfq : fq' = fq ∨ (fq = none ∧ fq' = some q ∧ ∃ T d cs, o.op = .alloc T ∧ o.dst = some d ∧ d < N ∧ zeroV P T = some cs ∧ m'.get = hset (mem0 q).1.get (mem0 q).2 (some (.cells cs)) ∧ n' = (mem0 q).2 + 1 ∧ t1.get d = some (.ptr (mem0 q).2 0) ∧ ∀ j o', ops[j]? = some o' → j ≠ i → d ∈ o'.looksAt ops → ∀ k', k' < q → Reach ops j (b0 k')))
    (h : Rest P N ops (i + 1) t1 (fset mem0 (q + 1) (m', n')) (fset b0 q i) (q + 1) pd' K fq') : Rest P N ops i t mem0 b0 q pd K fq := by
  obtain ⟨B, mem, b, Ts, kf, f1, f2, f3, h1, h2, h3, h4, h5, h6, h7, h8, h9⟩ := h
  have hlt := lt_ops hi
  have hbq : b q = i := by rw [h3 q (by omega), fset_same]
  have hmq : mem q = mem0 q := by rw [h2 q (by omega), fset_ne (by omega)]
  have hmq1 : mem (q + 1) = (m', n') := by rw [h2 (q + 1) (Nat.le_refl _), fset_same]
  refine ⟨B, mem, b, fset Ts i t, kf, ?_, fun k k' q1 q2 q3 => ?_, fun z1 z2 => ?_, by omega, fun k hk => ?_, fun k hk => ?_, fset_same .., fun k q1 q2 => ?_, h6, fun p hp => ?_, fun j o' hj ho' => ?_, by rw [fset_ne (by omega)]; exact h9⟩
  · rcases hfq with rfl | ⟨rfl, rfl, _⟩
    · exact ⟨f1.1, fun e => by have := f1.2 e; omega⟩
    · exact ⟨(fun k0 e => by cases e), fun _ => by have := f1.1 q rfl; omega⟩
  · by_cases e : k = q
    · subst e
      rw [hbq]
      have := (h5 k' (by omega) q3).1
      omega
    · exact f2 k k' (by omega) q2 q3
  · by_cases e : kf = q
    · subst e
      rcases hfq with rfl | ⟨_, rfl, T, d, cs, g1, g2, g3, g4, g5, g6, g7, g8⟩
      · exfalso
        cases hq : fq' with
        | none => have := f1.2 hq; omega
        | some k0 =>
          have := f1.1 k0 hq
          subst this
          exact hnf hq
      · refine ⟨o, T, d, cs, by rw [hbq]; exact hi, g1, g2, g3, g4, by rw [hmq1, hmq]; exact g5, by rw [hmq1, hmq]; exact g6, by rw [hbq, fset_ne (by omega), h4, hmq]; exact g7, fun j o' q1 q2 q3 k' hk' => ?_⟩
        rw [hbq] at q2
        rw [h3 k' (by omega), fset_ne (by omega)]
        exact g8 j o' q1 q2 q3 k' hk'
    · exact (f3 (by omega) z2).congr (fset_ne (by have := (h5 kf (by omega) z2).1; omega))
  · rw [h2 k (by omega), fset_ne (by omega)]
  · rw [h3 k (by omega), fset_ne (by omega)]
  · by_cases e : k = q
    · subst e; rw [hbq]; exact ⟨Nat.le_refl _, hlt⟩
    · have := h5 k (by omega) q2; exact ⟨by omega, this.2⟩
  · rcases hpd p hp with hr | ⟨hm, hl⟩
    · exact ⟨q, Nat.le_refl _, by omega, fun _ => by rw [hbq]; exact hr, fun k q1 q2 => by omega⟩
    · obtain ⟨hi2, q1, q2, q3, q4⟩ := h7 p hm
      refine ⟨hi2, by omega, q2, q3, fun k q5 q6 => ?_⟩
      by_cases e : k = q + 1
      · subst e; rw [hmq1]; exact hl
      · exact q4 k (by omega) q6
  · by_cases e : j = i
    · subst e
      rw [hi] at ho'; injection ho' with ho'; subst ho'
      refine ⟨r, hr1, hr2, ?_, true, ?_, (fun hf => by cases hf), fun _ => .inl ⟨q, by omega, hbq, ?_⟩⟩
      · rw [fset_same, fset_ne (by omega), h4]; exact ht
      · rw [fset_same]; exact hw
      · rw [fset_same, hmq, hmq1]; exact hst
    · exact (h8 j o' (by omega) ho').congr (fset_ne e) (fset_ne (by omega))
theorem chainK_spec {mask i q : Nat} {mem0 : Nat → Tr Blk × Nat} {b0 : Nat → Nat} {sn : Sn} {fq : Option Nat} (hmask : ∀ j, mask.testBit j = true → Reach ops i j) (hf : ∀ k0, fq = some k0 → mask.testBit (b0 k0) = true → ∀ k, k < k0 → Reach ops i (b0 k)) (hs : SnOk mem0 b0 sn q) (hc : ∀ k k', k < k' → k' < q → fq ≠ some k' → Reach ops (b0 k') (b0 k)) (h : chainK mask sn = true) : ∀ k, k < q → Reach ops i (b0 k) := by
  unfold chainK at h
  split at h
  · have hs : q = 0 := hs
    exact fun k hk => by omega
  · rename_i e l
    obtain ⟨q', rfl, h1, h2, h3⟩ := hs
    rw [waits_bit] at h
    have hr := hmask _ h
    rw [← h1] at hr h
    refine fun k hk => ?_
    by_cases e : k = q'
    · subst e; exact hr
    · by_cases e2 : fq = some q'
      · exact hf q' e2 h k (by omega)
      · exact .more hr (hc k q' (by omega) (by omega) e2)
theorem snAll {mk j : Nat} (hmk : ∀ k, mk.testBit k = true → Reach ops j k) {mem0 : Nat → Tr Blk × Nat} {b0 : Nat → Nat} : ∀ {sn : Sn} {q : Nat}, SnOk mem0 b0 sn q → (sn.all fun e => waits mk e.1) = true → ∀ k, k < q → Reach ops j (b0 k)
  | [], q, hs, _, k, hk => by
    have hs : q = 0 := hs
    omega
  | e :: l, q, hs, h, k, hk => by
    obtain ⟨q', rfl, h1, h2, h3⟩ := hs
    rw [List.all_cons, Bool.and_eq_true] at h
    by_cases e2 : k = q'
    · subst e2
      rw [h1]
      exact hmk _ (by rw [← waits_bit]; exact h.1)
    · exact snAll hmk h3 h.2 k (by omega)
theorem okF_spec {o : Oper} {i q : Nat} {sn : Sn} {mem0 : Nat → Tr Blk × Nat} {b0 : Nat → Nat} (hmk : ∀ (j m : Nat), (masks ops.toList)[j]? = some m → ∀ k, m.testBit k = true → Reach ops j k) (hml : (masks ops.toList).length = ops.size) (hs : SnOk mem0 b0 sn q) (h : okF ops o i sn = true) :
    ∃ T d, o.op = .alloc T ∧ o.dst = some d ∧ (∀ j o', ops[j]? = some o' → j ≠ i → d ∈ o'.looksAt ops → ∀ k, k < q → Reach ops j (b0 k)) ∧ ∀ j mk, j ≠ i → j < ops.size → (masks ops.toList)[j]? = some mk → mk.testBit i = true → ∀ k, k < q → Reach ops j (b0 k) := by
  unfold okF at h
  split at h
  · rename_i T hop
    split at h
    · rename_i d hdst
      have key : ∀ j o' mk, ops[j]? = some o' → (masks ops.toList)[j]? = some mk → j ≠ i → (!((o'.looksAt ops).contains d) && !(waits mk i)) = true ∨ (sn.all fun e => waits mk e.1) = true := by
        intro j o' mk h1 h2 hne
        have h3 := List.all_eq_true.1 h j (List.mem_range.2 (lt_ops h1))
        rw [h1, h2] at h3
        simp only [Bool.or_eq_true] at h3
        rcases h3 with h3 | h3 | h3
        · exact absurd (Nat.eq_of_beq_eq_true h3) hne
        · exact .inl h3
        · exact .inr h3
      refine ⟨T, d, hop, hdst, fun j o' h1 hne hd k hk => ?_, fun j mk hne hj h2 hb k hk => ?_⟩
      · have hlt := lt_ops h1
        have h2 : (masks ops.toList)[j]? = some ((masks ops.toList)[j]'(by omega)) := List.getElem?_eq_getElem (by omega)
        rcases key j o' _ h1 h2 hne with h3 | h3
        · simp only [Bool.and_eq_true, Bool.not_eq_true'] at h3
          have : (o'.looksAt ops).contains d = true := by simpa using hd
          rw [this] at h3; cases h3.1
        · exact snAll (hmk j _ h2) hs h3 k hk
      · rcases key j ops[j] mk (Array.getElem?_eq_getElem hj) h2 hne with h3 | h3
        · simp only [Bool.and_eq_true, Bool.not_eq_true'] at h3
          rw [← waits_bit] at hb
          rw [hb] at h3; cases h3.2
        · exact snAll (hmk j _ h2) hs h3 k hk
    · cases h
  · cases h
theorem dw_spec (hck : CKok P ck) (hmk : ∀ (j m : Nat), (masks ops.toList)[j]? = some m → ∀ k, m.testBit k = true → Reach ops j k) (hmz : (masks ops.toList).length = ops.size) : ∀ (l : List Oper) (ml : List Nat) (i : Nat) (t : Tr V) (m : Tr Blk) (n : Nat) (sn : Sn) (pd : List Pd) (K : Tr V → Tr Blk → Nat → Prop) (mem0 : Nat → Tr Blk × Nat) (b0 : Nat → Nat) (q : Nat) (fl : Bool) (fq : Option Nat),
    (∀ j, l[j]? = ops[i + j]?) → (∀ j, ml[j]? = (masks ops.toList)[i + j]?) → i + l.length = ops.size → SnOk mem0 b0 sn q → mem0 q = (m, n) → (∀ k, k < q → b0 k < i) → (∀ k k', k < k' → k' < q → fq ≠ some k' → Reach ops (b0 k') (b0 k)) → (fl = false → fq = none) → (∀ k0, fq = some k0 → k0 < q ∧ ∀ j mk, i ≤ j → j < ops.size → (masks ops.toList)[j]? = some mk → mk.testBit (b0 k0) = true → ∀ k, k < k0 → Reach ops j (b0 k)) → dw P ck N ops l fl i ml t m n sn pd K → Rest P N ops i t mem0 b0 q pd K fq := by
  intro l
  induction l with
  | nil =>
    intro ml i t m n sn pd K mem0 b0 q fl fq hl hml hlen hs hm hb0 hch hfl hff h
    have h : K t m n := h
    have hi : i = ops.size := by simpa using hlen
    refine ⟨q, mem0, b0, fun _ => t, (match fq with | some k0 => k0 | none => q), ⟨fun k0 e => by subst e; rfl, fun e => by subst e; exact Nat.le_refl _⟩, fun k k' q1 q2 q3 => by omega, fun q1 q2 => by omega, Nat.le_refl _, fun _ _ => rfl, fun _ _ => rfl, rfl, fun k q1 q2 => by omega, fun k k' q1 q2 q3 => hch k k' q1 q2 (fun e => q3 (by subst e; rfl)), fun p _ => ⟨q, Nat.le_refl _, Nat.le_refl _, fun h => by omega, fun k q1 q2 => by omega⟩, fun j o q1 q2 => ?_, by rw [hm]; exact h⟩
    have := lt_ops q2; omega
  | cons o l ih =>
    intro ml i t m n sn pd K mem0 b0 q fl fq hl hml hlen hs hm hb0 hch hfl hff h
    have h : dwB P ck N ops o (dw P ck N ops l) fl i ml t m n sn pd K := h
    have hi : ops[i]? = some o := by simpa using (hl 0).symm
    have hl' : ∀ j, l[j]? = ops[i + 1 + j]? := fun j => by have := hl (j + 1); simpa [Nat.add_assoc, Nat.add_comm 1 j] using this
    have hlen' : i + 1 + l.length = ops.size := by simp at hlen; omega
    have hb1 : ∀ k, k < q → b0 k < i + 1 := fun k hk => by have := hb0 k hk; omega
    cases ml with
    | nil => exact h.elim
    | cons mask ml =>
      have hml' : ∀ j, ml[j]? = (masks ops.toList)[i + 1 + j]? := by
        intro j
        have h9 := hml (j + 1)
        rw [List.getElem?_cons_succ] at h9
        rw [h9, Nat.add_assoc, Nat.add_comm 1 j]
      simp only [dwB] at h
      have hmask : ∀ j, mask.testBit j = true → Reach ops i j := hmk i mask (by simpa using (hml 0).symm)
      have hilt := lt_ops hi
      have hf : ∀ k0, fq = some k0 → mask.testBit (b0 k0) = true → ∀ k, k < k0 → Reach ops i (b0 k) := fun k0 e hb => (hff k0 e).2 i mask (Nat.le_refl _) hilt (by simpa using (hml 0).symm) hb
      have hff' : ∀ k0, fq = some k0 → k0 < q ∧ ∀ j mk, i + 1 ≤ j → j < ops.size → (masks ops.toList)[j]? = some mk → mk.testBit (b0 k0) = true → ∀ k, k < k0 → Reach ops j (b0 k) := fun k0 e => ⟨(hff k0 e).1, fun j mk h1 => (hff k0 e).2 j mk (by omega)⟩
      obtain ⟨run, hw, h2⟩ := gK_spec h
      clear h
      cases run with
      | false =>
        simp only at h2
        split at h2
        · rename_i d hdst
          split at h2
          · exact h2.elim
          · rename_i hN
            have hd := nble_lt hN
            obtain ⟨t1, h3, h4⟩ := setK_spec h2
            have h5 := ih ml (i + 1) t1 m n sn pd K mem0 b0 q fl fq hl' hml' hlen' hs hm hb1 hch hfl hff' h4
            refine h5.plain hi hb0 (fun p hp => hp) (r := some (.tup [])) (fun e => by rw [hdst] at e; cases e) (fun d' e => ?_) (fun u => ?_) hw (fun _ => .inr rfl) (fun e => by cases e)
            · rw [hdst] at e; injection e with e; subst e; exact ⟨hd, by simp⟩
            · rw [h3, hdst]
              by_cases e : u = d
              · subst e; simp
              · rw [if_neg e, if_neg (fun h => e (by injection h with h; exact h.symm))]
        · rename_i hdst
          have h5 := ih ml (i + 1) t m n sn pd K mem0 b0 q fl fq hl' hml' hlen' hs hm hb1 hch hfl hff' h2
          exact h5.plain hi hb0 (fun p hp => hp) (r := none) (fun _ => rfl) (fun d' e => by rw [hdst] at e; cases e) (fun u => by rw [hdst]; simp) hw (fun _ => .inl rfl) (fun e => by cases e)
      | true =>
        simp only at h2
        split at h2
        · have hbn : ∀ k, k < q + 1 → fset b0 q i k < i + 1 := fun k hk => by
            by_cases e : k = q
            · rw [e, fset_same]; omega
            · rw [fset_ne e]; have := hb0 k (by omega); omega
          have hnf : fq ≠ some q := fun e => by have := (hff q e).1; omega
          split at h2
          · rename_i hck2
            have hcq := chainK_spec hmask hf hs hch hck2
            obtain ⟨r, t1, m1, n1, q1, q2, q3, q4, h4⟩ := xbar_spec hck h2
            obtain ⟨pd', h5, h6⟩ := pendK_spec h4
            have h7 := ih ml (i + 1) t1 m1 n1 ((i, m, n) :: sn) pd' K (fset mem0 (q + 1) (m1, n1)) (fset b0 q i) (q + 1) fl fq hl' hml' hlen'
              ⟨q, rfl, fset_same .., by rw [fset_ne (by omega)]; exact hm, hs.congr (fun k hk => fset_ne (by omega)) (fun k hk => fset_ne (by omega))⟩ (fset_same ..) hbn
              (fun k k' hk hk' hn => by
                by_cases e : k' = q
                · rw [e, fset_same, fset_ne (by omega)]; exact hcq k (by omega)
                · rw [fset_ne e, fset_ne (by omega)]; exact hch k k' hk (by omega) hn) hfl
              (fun k0 e => by
                obtain ⟨g1, g2⟩ := hff' k0 e
                refine ⟨by omega, fun j mk x1 x2 x3 x4 k hk => ?_⟩
                rw [fset_ne (by omega)] at x4 ⊢
                exact g2 j mk x1 x2 x3 x4 k hk) h6
            exact h7.bar hi hb0 q1 q2 q3 hw (by rw [hm]; exact q4) (fun p hp => (h5 p hp).imp (fun h => hmask _ h) fun h => h) hnf (.inl rfl)
          · split at h2
            · exact h2.elim
            · rename_i hfe
              have hfn := hfl rfl
              subst hfn
              split at h2
              · rename_i hokf
                obtain ⟨T, d, hop, hdst, k1, k2⟩ := okF_spec hmk hmz hs hokf
                obtain ⟨cs, t1, m1, hd, hz, hm1, ht1, hst, h4⟩ := xbar_alloc hop hdst h2
                obtain ⟨pd', h5, h6⟩ := pendK_spec h4
                have h7 := ih ml (i + 1) t1 m1 (n + 1) ((i, m, n) :: sn) pd' K (fset mem0 (q + 1) (m1, n + 1)) (fset b0 q i) (q + 1) true (some q) hl' hml' hlen'
                  ⟨q, rfl, fset_same .., by rw [fset_ne (by omega)]; exact hm, hs.congr (fun k hk => fset_ne (by omega)) (fun k hk => fset_ne (by omega))⟩ (fset_same ..) hbn
                  (fun k k' hk hk' hn => by
                    by_cases e : k' = q
                    · exact absurd (by rw [e]) hn
                    · rw [fset_ne e, fset_ne (by omega)]; exact hch k k' hk (by omega) (by simp)) (fun e => by cases e)
                  (fun k0 e => by
                    injection e with e
                    subst e
                    refine ⟨by omega, fun j mk x1 x2 x3 x4 k hk => ?_⟩
                    rw [fset_same] at x4
                    rw [fset_ne (by omega)]
                    exact k2 j mk (by omega) x2 x3 x4 k hk) h6
                refine h7.bar hi hb0 (r := some (.ptr n 0)) (fun e => by rw [hdst] at e; cases e) (fun d' e => by rw [hdst] at e; injection e with e; subst e; exact ⟨hd, by simp⟩) (fun u => ?_) hw (by rw [hm]; exact hst) (fun p hp => (h5 p hp).imp (fun h => hmask _ h) fun h => h) hnf
                  (.inr ⟨rfl, rfl, T, d, cs, hop, hdst, hd, hz, by rw [hm]; exact hm1, by rw [hm], by rw [ht1, if_pos rfl, hm], k1⟩)
                rw [ht1, hdst]
                by_cases e : u = d
                · subst e; simp
                · rw [if_neg e, if_neg (fun h => e (by injection h with h; exact h.symm))]
              · exact h2.elim
        · split at h2
          · exact h2.elim
          · rename_i d hdst
            split at h2
            · exact h2.elim
            · rename_i hN
              have hd := nble_lt hN
              have hr2 : ∀ (v : V) d', o.dst = some d' → d' < N ∧ some v ≠ none := fun v d' e => by rw [hdst] at e; injection e with e; subst e; exact ⟨hd, by simp⟩
              have hr1 : ∀ v : V, o.dst = none → some v = none := fun v e => by rw [hdst] at e; cases e
              have hget : ∀ {t1 : Tr V} {v : V}, (∀ u, t1.get u = if u = d then some v else t.get u) → ∀ u, t1.get u = if o.dst = some u then some v else t.get u := fun {t1 v} h u => by
                rw [h, hdst]
                by_cases e : u = d
                · subst e; simp
                · rw [if_neg e, if_neg (fun h => e (by injection h with h; exact h.symm))]
              split at h2
              · rename_i T g hop
                have hmf : memFree o = true := by simp [memFree, hop]
                obtain ⟨v, g1, g2⟩ := xval_spec h2
                obtain ⟨t1, g3, g4⟩ := setK_spec g2
                have h5 := ih ml (i + 1) t1 m n sn pd K mem0 b0 q fl fq hl' hml' hlen' hs hm hb1 hch hfl hff' g4
                refine h5.plain hi hb0 (fun p hp => hp) (hr1 v) (hr2 v) (hget g3) hw (fun e => by cases e) fun _ B mem b z1 z2 z3 z4 => ?_
                refine ⟨0, B, Nat.zero_le _, fun k hk => by omega, fun h => by omega, fun q' _ _ s ha hh hn => ?_⟩
                rw [hdst]
                exact g1.2 hmf N s d ha hdst hd
              · rename_i T x _ hop
                obtain ⟨u, g1, g2⟩ := ovK_spec h2
                clear h2
                split at g2
                · rename_i id off
                  split at g2
                  · rename_i bk hbk
                    split at g2
                    · rename_i cs hcs
                      split at g2
                      · rename_i ag k hsh
                        obtain ⟨v, g3, g4⟩ := partK_spec g2
                        obtain ⟨⟨lo, g5, g6, g7⟩, g8⟩ := prevK_spec hmask hf hs hch g4
                        obtain ⟨t1, g9, g10⟩ := setK_spec g8
                        have h5 := ih ml (i + 1) t1 m n sn _ K mem0 b0 q fl fq hl' hml' hlen' hs hm hb1 hch hfl hff' g10
                        refine h5.plain hi hb0 (fun p hp => List.mem_cons_of_mem _ hp) (hr1 v) (hr2 v) (hget g9) hw (fun e => by cases e) fun _ B mem b z1 z2 z3 z4 => ?_
                        obtain ⟨hi2, y1, y2, y3, y4⟩ := z4 _ (List.mem_cons_self ..)
                        refine ⟨lo, hi2, by omega, fun k' hk' => by rw [z3 k' (by omega)]; exact g6 k' hk', y3, fun q' x1 x2 s ha hh hn => ?_⟩
                        have hload : LoadAt (mem q').1.get ⟨i, id, off, k, ag, v⟩ := by
                          rcases Nat.lt_trichotomy q' q with e | e | e
                          · rw [z2 q' (by omega)]; exact g7 q' x1 e
                          · subst e; rw [z2 q' (Nat.le_refl _), hm]; exact ⟨bk, cs, hbk, hcs, g3⟩
                          · exact y4 q' e x2
                        obtain ⟨bk', cs', w1, w2, w3⟩ := hload
                        rw [hdst]
                        exact r_load (P := P) (N := N) (s := s) hop (ha x _ (by simp [hop, Op.operands]) (g1 _ _)) (by rw [hh]; exact w1) w2 hsh w3 hdst hd
                      · exact g2.elim
                    · exact g2.elim
                  · exact g2.elim
                · exact g2.elim
              · split at h2
                · rename_i hmf
                  obtain ⟨v, g1, g2⟩ := xval_spec h2
                  obtain ⟨t1, g3, g4⟩ := setK_spec g2
                  have h5 := ih ml (i + 1) t1 m n sn pd K mem0 b0 q fl fq hl' hml' hlen' hs hm hb1 hch hfl hff' g4
                  refine h5.plain hi hb0 (fun p hp => hp) (hr1 v) (hr2 v) (hget g3) hw (fun e => by cases e) fun _ B mem b z1 z2 z3 z4 => ?_
                  refine ⟨0, B, Nat.zero_le _, fun k hk => by omega, fun h => by omega, fun q' _ _ s ha hh hn => ?_⟩
                  rw [hdst]
                  exact g1.2 hmf N s d ha hdst hd
                · exact h2.elim
theorem xdrawn_spec (hck : CKok P ck) : DRok P (xdrawn P ck) := by
  intro N ops t m n K h
  unfold xdrawn at h
  split at h
  · rename_i hm
    split at h
    · rename_i hok
      obtain ⟨B, mem, b, Ts, kf, f1, f2, f3, h1, h2, h3, h4, h5, h6, h7, h8, h9⟩ := dw_spec hck masks_spec masks_len ops.toList (masks ops.toList) 0 t m n [] [] K (fun _ => (m, n)) (fun _ => 0) 0 false none (by simp) (by simp) (by simp) rfl rfl (fun k hk => by omega) (fun k k' h1 h2 => by omega) (fun _ => rfl) (fun k0 e => by cases e) h
      have F : Facts P N ops Ts mem b B kf := ⟨hok, fun k hk => (h5 k (Nat.zero_le _) hk).2, h6, fun k k' q1 q2 => f2 k k' (Nat.zero_le _) q1 q2, f3 (Nat.zero_le _), fun i o hi => h8 i o (Nat.zero_le _) hi⟩
      refine ⟨_, _, _, fun id => ?_, h9⟩
      have := rc_drawn (P := P) (N := N) hm F id
      rw [h4, h2 0 (Nat.le_refl _)] at this
      exact this
    · exact h.elim
  · exact h.elim
end
end Go.Rn
end
section
namespace Go.Rn
open Go.RowKit
open Go.Vm (enters)
set_option linter.unusedSectionVars false
abbrev Orc := List (FuncId × List V × V)
noncomputable def eqVs (l : List V) : List V → Bool := @List.rec V (fun _ => List V → Bool) (fun m => match m with
  | [] => true
  | _ :: _ => false) (fun a _ ih m => match m with
  | [] => false
  | b :: m => match eqV a b with
    | true => ih m
    | false => false) l
theorem eqVs_spec : ∀ {l m : List V}, eqVs l m = true → l = m
  | [], [], _ => rfl
  | [], _ :: _, h => by cases h
  | _ :: _, [], h => by cases h
  | a :: l, b :: m, h => by
    have h : (match eqV a b with | true => eqVs l m | false => false) = true := h
    split at h
    · rename_i h1; rw [eqV_spec h1, eqVs_spec h]
    · cases h
noncomputable def orcK (l : Orc) (ck : CK) : CK := @List.rec (FuncId × List V × V) (fun _ => CK) ck (fun e _ ih f vs m n K => match Nat.beq f e.1 with
  | true => match eqVs e.2.1 vs with
    | true => K e.2.2 m n
    | false => ih f vs m n K
  | false => ih f vs m n K) l
noncomputable def run (P : Program) (F : Tr Func) (l : Orc) (fuel depth : Nat) : CK := @Nat.rec (fun _ => CK) (fun _ _ _ _ _ => False) (fun _ ck => orcK l (callB P F (xdrawn P) fuel ck)) depth
section
variable [Cx] {P : Program} {ck : CK}
def OrcOk (P : Program) (l : Orc) : Prop := ∀ e ∈ l, enters P e.1 = true ∧ ∀ h n, RCall P e.1 e.2.1 h n e.2.2 h n
theorem orcK_spec (hck : CKok P ck) : ∀ {l : Orc}, OrcOk P l → CKok P (orcK l ck)
  | [], _ => hck
  | e :: l, hl => by
    intro f vs m n K h
    have ih := orcK_spec hck (l := l) fun x hx => hl x (List.mem_cons_of_mem _ hx)
    replace h : (match Nat.beq f e.1 with
      | true => match eqVs e.2.1 vs with
        | true => K e.2.2 m n
        | false => orcK l ck f vs m n K
      | false => orcK l ck f vs m n K) := h
    split at h
    · rename_i h1
      have h1 := Nat.eq_of_beq_eq_true h1
      split at h
      · rename_i h2
        have h2 := eqVs_spec h2
        subst h1 h2
        obtain ⟨q1, q2⟩ := hl e (List.mem_cons_self ..)
        exact ⟨_, m, n, q1, q2 _ _, h⟩
      · exact ih _ _ _ _ _ h
    · exact ih _ _ _ _ _ h
theorem run_spec {F : Tr Func} (hF : Fok P F) {l : Orc} (hl : OrcOk P l) {fuel : Nat} : ∀ {depth : Nat}, CKok P (run P F l fuel depth)
  | 0 => fun f vs m n K h => h.elim
  | d + 1 => orcK_spec (callB_spec hF (fun ck h => xdrawn_spec h) (run_spec hF hl (depth := d))) hl
end
@[reducible] def trivCx : Cx := ⟨fun base w0 _ => GlobOk base w0, fun _ _ _ h => h⟩
def noPi (op : Nat → Value) : Pi := ⟨fun _ => none, op, []⟩
theorem mem_none (w : World) (op : Nat → Value) (hG : GlobOk w.heap.size w := by intro g cs h; cases h) : @Mem trivCx w.heap.size w (noPi op) (fun _ => none) 0 w := by
  letI := trivCx
  exact ⟨(fun id b h => by cases h), (fun id id' b b' p p' h => by cases h), fun _ _ => rfl, (fun id p h => by cases h), Below.refl _ _, Nat.le_refl _, hG, (fun x h => by cases h)⟩
theorem known {P : Program} {f : FuncId} {v : V} {u : Value} {h' : Hp} {n' : Nat} (hr : @RCall trivCx P f [] (fun _ => none) 0 v h' n') (hu : toV v = some u) (hc : ∀ π, conc π v = some u) [Cx] (h : Hp) (n : Nat) : RCall P f [] h n v h n := by
  intro base w0 π w us hm hus
  have hus : us = [] := by rw [concL] at hus; injection hus with hus; exact hus.symm
  subst hus
  refine (hr w.heap.size w (noPi π.op) w [] (mem_none w _ (hm.glob.keep (Below.refl _ _) hm.size)) (by rw [concL])).mono ?_
  rintro e w' ⟨π', u', rfl, hle, hm', hv⟩
  have hbl : Below w.heap.size w w' := by
    letI := trivCx
    exact hm'.below
  have : u' = u := toV_conc hu hv
  subst this
  exact ⟨π, u', rfl, π.le_refl, hm.keep hbl, hc π⟩
def allF (p : Nat → Func → Prop) : Tr Func → Nat → Nat → Prop
  | .leaf, _, _ => True
  | .node v l r, a, b => (match v with
    | some x => p b x
    | none => True) ∧ allF p l (2 * a) (a + b) ∧ allF p r (2 * a) (2 * a + b)
theorem allF_get {p : Nat → Func → Prop} : ∀ {t : Tr Func} {a b n : Nat} {x : Func}, allF p t a b → t.get n = some x → p (a * n + b) x
  | .leaf, _, _, _, _, _, h => by cases h
  | .node v l r, a, b, n, x, ⟨h1, h2, h3⟩, h => by
    rw [get_node] at h
    by_cases h0 : n = 0
    · subst h0
      rw [if_pos rfl] at h
      subst h
      simpa using h1
    · rw [if_neg h0] at h
      by_cases hp : n % 2 = 1
      · rw [if_pos hp] at h
        have := allF_get h2 h
        have e : 2 * a * (n / 2) + (a + b) = a * n + b := by
          have : n = 2 * (n / 2) + 1 := by omega
          have h9 : a * n = a * (2 * (n / 2) + 1) := by rw [← this]
          rw [h9, Nat.mul_add, Nat.mul_one, ← Nat.mul_assoc, Nat.mul_comm a 2]; omega
        rwa [e] at this
      · rw [if_neg hp] at h
        have := allF_get h3 h
        have e : 2 * a * (n / 2 - 1) + (2 * a + b) = a * n + b := by
          have : n = 2 * (n / 2 - 1) + 2 := by omega
          have h9 : a * n = a * (2 * (n / 2 - 1) + 2) := by rw [← this]
          rw [h9, Nat.mul_add, ← Nat.mul_assoc, Nat.mul_comm a 2]; omega
        rwa [e] at this
abbrev FnOk (P : Program) (f : Nat) (fn : Func) : Prop := P.funcs[f]? = some fn ∧ (fn.name != "runtime.NumGoroutine") = true
theorem fok_of {P : Program} {F : Tr Func} (h : allF (FnOk P) F 1 0) : Fok P F := fun f fn hf => by
  have := allF_get h hf
  rwa [Nat.one_mul] at this
end Go.Rn
end
section
namespace Go.Rn
open Go.RowKit
open Go.Vm (enters Contract Rep D Roles allFrozen Evo Grow Reps)
set_option linter.unusedSectionVars false
def okV (v : V) : Bool := match v with
  | .sc x => x.oneCell'
  | .agg cs => cs.all V.one && (match scL cs with
    | some vs => vs.all (·.oneCell')
    | none => false)
  | _ => false
theorem scL_all {π : Pi} : ∀ {cs : List V} {vs : List Value}, scL cs = some vs → vs.all (·.oneCell') = true → concL π cs = some vs
  | [], vs, h, _ => by rw [scL] at h; injection h with h; subst h; rw [concL]
  | .sc v :: l, vs, h, ha => by
    rw [scL] at h
    obtain ⟨vs', h1, rfl⟩ := Option.map_eq_some_iff.1 h
    rw [List.all_cons, Bool.and_eq_true] at ha
    rw [concL, conc, if_pos ha.1, scL_all h1 ha.2]
  | .agg _ :: _, _, h, _ => by simp [scL] at h
  | .tup _ :: _, _, h, _ => by simp [scL] at h
  | .ptr _ _ :: _, _, h, _ => by simp [scL] at h
  | .sl _ _ _ _ _ :: _, _, h, _ => by simp [scL] at h
  | .mp _ :: _, _, h, _ => by simp [scL] at h
  | .it _ :: _, _, h, _ => by simp [scL] at h
  | .fn _ _ :: _, _, h, _ => by simp [scL] at h
  | .opq _ :: _, _, h, _ => by simp [scL] at h
theorem okV_conc {v : V} {u : Value} (h : toV v = some u) (ho : okV v = true) (π : Pi) : conc π v = some u := by
  cases v with
  | sc x => rw [toV] at h; injection h with h; subst h; rw [conc]; exact if_pos ho
  | agg cs =>
    rw [toV] at h
    obtain ⟨vs, h1, rfl⟩ := Option.map_eq_some_iff.1 h
    simp only [okV, h1, Bool.and_eq_true] at ho
    rw [conc, if_pos ho.1, scL_all h1 ho.2]; rfl
  | _ => simp [toV] at h
@[reducible] def lawCx (W : World) (OP : Nat → Value) : Cx := ⟨fun base w0 op => base = W.heap.size ∧ w0 = W ∧ op = OP ∧ GlobOk base w0, fun _ _ _ h => h.2.2.2⟩
theorem globW_of [Cx] {base : Nat} {w : World} (h : GlobOk base w) (hs : base ≤ w.heap.size) : Go.Vm.GlobW Go.Vm.allFrozen w := fun g cs hg => by
  obtain ⟨h1, h3⟩ := h g cs hg
  exact ⟨by omega, rfl, h3⟩
noncomputable def isV (x v : V) : Prop := match eqV x v with
  | true => True
  | false => False
theorem isV_spec {x v : V} (h : isV x v) : v = x := by
  unfold isV at h
  split at h
  · rename_i h1; exact (eqV_spec h1).symm
  · exact h.elim
theorem orcOk_nil [Cx] {P : Program} : OrcOk P [] := fun e he => by cases he
theorem orcOk_cons [Cx] {P : Program} {f : FuncId} {vs : List V} {v : V} {l : Orc} (he : enters P f = true) (h : ∀ hp n, RCall P f vs hp n v hp n) (hl : OrcOk P l) : OrcOk P ((f, vs, v) :: l) := by
  intro e hm
  rcases List.mem_cons.1 hm with rfl | hm
  · exact ⟨he, h⟩
  · exact hl e hm
structure Hold (p : Prop) : Prop where
  out : p
theorem run_hold [Cx] {P : Program} {F : Tr Func} (hF : Fok P F) {l : Orc} (hl : OrcOk P l) {fuel depth : Nat} {f : FuncId} {vs : List V} {m : Tr Blk} {n : Nat} {K : V → Tr Blk → Nat → Prop} (h : Hold (run P F l fuel depth f vs m n K)) : ∃ v m' n', enters P f = true ∧ RCall P f vs m.get n v m'.get n' ∧ K v m' n' := run_spec hF hl (depth := depth) _ _ _ _ _ h.out
theorem closed_run {P : Program} {F : Tr Func} (hF : Fok P F) {l : Orc} (hl : ∀ [Cx], OrcOk P l) {f : FuncId} {x : V} {u : Value} (hr : Hold (run P F l 1000000 1000 f [] .leaf 0 (fun v _ _ => isV x v))) (hu : toV x = some u) (ho : okV x = true) : enters P f = true ∧ ∀ [Cx] h n, RCall P f [] h n x h n := by
  obtain ⟨v, m', n', q1, q2, q3⟩ := @run_hold trivCx P F hF l (@hl trivCx) 1000000 1000 _ _ _ _ _ hr
  rw [isV_spec q3] at q2
  exact ⟨q1, fun h n => known q2 hu (okV_conc hu ho) h n⟩
end Go.Rn
end
section
namespace Go.Rn
open Go.RowKit
open Go.Vm (enters Contract Rep D Roles allFrozen Evo Grow Reps SatS resS SatC)
theorem contract_known {P : Program} {f : FuncId} {x : V} {u : Value} {d : D} (h : ∀ [Cx] hp n, RCall P f [] hp n x hp n) (hc : ∀ π, conc π x = some u) (hr : ∀ ro w, Rep ro w u d) : Contract P f [] [.d d] := by
 intro ro w vs τ hnew huniq hlen _
 obtain rfl : vs = #[] := Array.eq_empty_of_size_eq_zero (by simpa using hlen)
 refine (@h trivCx (fun _ => none) 0 w.heap.size w (noPi fun _ => .bool false) w [] (mem_none w _ (fun g cs hg => by obtain ⟨q1, _, q3⟩ := hnew.glob g cs hg; exact ⟨q1, q3⟩)) (by rw [concL])).mono ?_
 rintro e w' ⟨π', u', rfl, hle, hm, hv⟩
 have hb : Below w.heap.size w w' := by
  letI := trivCx
  exact hm.below
 rw [hc] at hv
 injection hv with hv
 subst hv
 have hw : ∀ b, w'.heap.size ≤ b → ro b = .frozen := fun b h => hnew.new b (Nat.le_trans hb.size h)
 exact ⟨u, ro, rfl, ⟨hb, fun _ _ => rfl, hw, fun b id k h e => by rw [hnew.new b h] at e; cases e⟩, hr ro w'⟩
theorem contract_bool {P : Program} {f : FuncId} {b : Bool} (h : ∀ [Cx] hp n, RCall P f [] hp n (.sc (.bool b)) hp n) : Contract P f [] [.d (.sc (.bool b))] :=
 contract_known h (fun π => by rw [conc]; exact if_pos rfl) (fun ro w => .sc rfl)
theorem reps_plain {ro : Roles} {w : World} : ∀ {vs : List Value}, (∀ v ∈ vs, Go.Vm.plainV v = true) → Reps ro w vs (vs.map .sc) := by
 intro vs h
 refine ⟨by simp, fun u hu => Go.Vm.plainV_one (h u hu), fun j u c hu hc => ?_⟩
 rw [List.getElem?_map, hu] at hc
 simp only [Option.map_some, Option.some.injEq] at hc
 subst hc
 exact .sc (h u (List.mem_of_getElem? hu))
theorem concL_plain {π : Pi} [Cx] {us : List Value} (h : us.all (·.oneCell') = true) : concL π (us.map .sc) = some us := concL_scs h
end Go.Rn
end
section
namespace Go.Rn
open Go.RowKit
open Go.Vm (enters Contract Rep D C Roles allFrozen Evo Grow Reps plainV plainV_one)
def scD : D → Option Value
  | .sc v => if plainV v = true then some v else none
  | _ => none
def scDs : List D → Option (List Value)
  | [] => some []
  | d :: ds => match scD d, scDs ds with
    | some v, some vs => some (v :: vs)
    | _, _ => none
def rV : D → Option V
  | .sc v => if plainV v = true then some (.sc v) else none
  | .agg cs => (scDs cs).map fun vs => .agg (vs.map .sc)
  | _ => none
def rVs : List D → Option (List V)
  | [] => some []
  | d :: ds => match rV d, rVs ds with
    | some v, some vs => some (v :: vs)
    | _, _ => none
def cV : C → Option V
  | .d x => rV x
  | _ => none
def cVs : List C → Option (List V)
  | [] => some []
  | d :: ds => match cV d, cVs ds with
    | some v, some vs => some (v :: vs)
    | _, _ => none
def resV : List C → Option V
  | [c] => cV c
  | cs => (cVs cs).map .tup
theorem scD_eq {d : D} {v : Value} (h : scD d = some v) : d = .sc v ∧ plainV v = true := by
  cases d with
  | sc u =>
    have h : (if plainV u = true then some u else none) = some v := h
    split at h
    · rename_i hp; injection h with h; subst h; exact ⟨rfl, hp⟩
    · cases h
  | _ => cases h
theorem scDs_eq : ∀ {cs : List D} {vs : List Value}, scDs cs = some vs → cs = vs.map .sc ∧ ∀ v ∈ vs, plainV v = true
  | [], vs, h => by rw [scDs] at h; injection h with h; subst h; exact ⟨rfl, by simp⟩
  | d :: ds, vs, h => by
    rw [scDs] at h
    split at h
    · rename_i v us h1 h2
      injection h with h; subst h
      obtain ⟨rfl, q1⟩ := scD_eq h1
      obtain ⟨rfl, q2⟩ := scDs_eq h2
      exact ⟨rfl, fun u hu => by rcases List.mem_cons.1 hu with rfl | hu; exact q1; exact q2 u hu⟩
    · cases h
theorem conc_agg_sc {π : Pi} {vs : List Value} (h : ∀ v ∈ vs, plainV v = true) : conc π (.agg (vs.map .sc)) = some (.agg vs.toArray) := by
  letI := trivCx
  rw [conc, if_pos (by rw [List.all_map]; exact List.all_eq_true.2 fun _ _ => rfl), concL_plain (List.all_eq_true.2 fun v hv => plainV_one (h v hv))]
  rfl
theorem rV_conc {ro : Roles} {w : World} {d : D} {x : V} {v : Value} (h : rV d = some x) (hr : Rep ro w v d) (π : Pi) : conc π x = some v := by
  cases d with
  | sc u =>
    have h : (if plainV u = true then some (V.sc u) else none) = some x := h
    split at h
    · rename_i hp
      injection h with h; subst h
      obtain ⟨rfl, _⟩ := Go.Vm.rep_sc hr
      rw [conc]; exact if_pos (plainV_one hp)
    · cases h
  | agg cs =>
    obtain ⟨vs, h1, rfl⟩ := Option.map_eq_some_iff.1 h
    obtain ⟨rfl, h2⟩ := scDs_eq h1
    rw [conc_agg_sc h2]
    obtain ⟨arr, rfl, hl, ho, hq⟩ : ∃ arr : Array Value, v = .agg arr ∧ arr.size = (vs.map D.sc).length ∧ (∀ u ∈ arr.toList, u.oneCell' = true) ∧ ∀ (i : Nat) (u : Value) (c : D), arr.toList[i]? = some u → (vs.map D.sc)[i]? = some c → Rep ro w u c := by
      generalize hd : D.agg (vs.map D.sc) = d at hr
      cases hr with
      | agg hl h1 h => injection hd with hd; subst hd; exact ⟨_, rfl, hl, h1, h⟩
      | _ => cases hd
    congr 2
    apply Array.ext
    · simpa using hl.symm
    · intro i h3 h4
      have h5 : i < vs.length := by simpa using h3
      have := hq i arr[i] (.sc vs[i]) (by simp [h4]) (by rw [List.getElem?_map, List.getElem?_eq_getElem h5]; rfl)
      obtain ⟨q, _⟩ := Go.Vm.rep_sc this
      rw [q]; simp
  | _ => cases h
theorem rV_rep {ro : Roles} {w : World} {d : D} {x : V} {v : Value} {π : Pi} (h : rV d = some x) (hc : conc π x = some v) : Rep ro w v d := by
  cases d with
  | sc u =>
    have h : (if plainV u = true then some (V.sc u) else none) = some x := h
    split at h
    · rename_i hp
      injection h with h; subst h
      rw [conc, if_pos (plainV_one hp)] at hc
      injection hc with hc; subst hc
      exact .sc hp
    · cases h
  | agg cs =>
    obtain ⟨vs, h1, rfl⟩ := Option.map_eq_some_iff.1 h
    obtain ⟨rfl, h2⟩ := scDs_eq h1
    rw [conc_agg_sc h2] at hc
    injection hc with hc; subst hc
    have hr := reps_plain (ro := ro) (w := w) h2
    exact .agg (by simp) (by simpa using fun v hv => plainV_one (h2 v hv)) (by simpa using hr.2.2)
  | _ => cases h
theorem rVs_rep {ro : Roles} {w : World} {π : Pi} : ∀ {ds : List D} {vs : List V} {us : List Value}, rVs ds = some vs → concL π vs = some us → us.length = ds.length ∧ ∀ (i : Nat) (u : Value) (d : D), us[i]? = some u → ds[i]? = some d → Rep ro w u d
  | [], vs, us, h, hc => by
    rw [rVs] at h; injection h with h; subst h
    rw [concL] at hc; injection hc with hc; subst hc
    exact ⟨rfl, fun i u d h => by simp at h⟩
  | d :: ds, vs, us, h, hc => by
    rw [rVs] at h
    split at h
    · rename_i x xs h1 h2
      injection h with h; subst h
      obtain ⟨u, us', k1, k2, rfl⟩ := concL_cons hc
      obtain ⟨q1, q2⟩ := rVs_rep (ro := ro) (w := w) h2 k2
      refine ⟨by simp [q1], fun i a b ha hb => ?_⟩
      cases i with
      | zero => simp at ha hb; subst ha; subst hb; exact rV_rep h1 k1
      | succ i => exact q2 i a b (by simpa using ha) (by simpa using hb)
    · cases h
theorem cVs_conc {P : Program} {base : Nat} {ro : Roles} {w : World} {π : Pi} : ∀ {cs : List C} {xs : List V} {us : List Value}, cVs cs = some xs → us.length = cs.length → (∀ (i : Nat) (u : Value) (c : C), us[i]? = some u → cs[i]? = some c → Go.Vm.SatC P base ro w u c) → concL π xs = some us
  | [], xs, us, h, hl, _ => by
    rw [cVs] at h; injection h with h; subst h
    obtain rfl : us = [] := List.length_eq_zero_iff.1 (by simpa using hl)
    rw [concL]
  | c :: cs, xs, us, h, hl, hs => by
    rw [cVs] at h
    split at h
    · rename_i x xs' h1 h2
      injection h with h; subst h
      match us, hl with
      | u :: us', hl =>
        have k1 := hs 0 u c rfl rfl
        have k2 : conc π x = some u := by
          cases c with
          | d d => exact rV_conc h1 k1 π
          | _ => cases h1
        rw [concL, k2, cVs_conc h2 (by simpa using hl) fun i a b ha hb => hs (i + 1) a b (by simpa using ha) (by simpa using hb)]
    · cases h
theorem cV_tok {τ : Nat} {c : C} {x : V} (h : cV c = some x) : Go.Vm.setTok τ c = c := by cases c <;> first | rfl | cases h
theorem cVs_tok {τ : Nat} : ∀ {cs : List C} {xs : List V}, cVs cs = some xs → cs.map (Go.Vm.setTok τ) = cs
  | [], _, _ => rfl
  | c :: cs, xs, h => by
    rw [cVs] at h
    split at h
    · rename_i x xs' h1 h2
      rw [List.map_cons, cV_tok h1, cVs_tok h2]
    · cases h
theorem orc_gen {P : Program} {f : FuncId} {ds : List D} {vs : List V} {cs : List C} {x : V} (hd : rVs ds = some vs) (hx : resV cs = some x) (hc : Contract P f ds cs) [Cx] (h : Hp) (n : Nat) : RCall P f vs h n x h n := by
  intro base w0 π w us' hm hus'
  obtain ⟨q1, q2⟩ := rVs_rep (ro := Go.Vm.allFrozen) (w := w) hd hus'
  refine (hc Go.Vm.allFrozen w us'.toArray 0 ⟨fun _ _ => rfl, globW_of hm.glob hm.size⟩ (fun b b' id k k' h => by cases h) (by simpa using q1) (fun i u d h2 h3 => q2 i u d (by simpa using h2) h3)).mono ?_
  rintro e w' ⟨y, ro', rfl, hg, hs⟩
  refine ⟨π, y, rfl, π.le_refl, hm.keep hg.below, ?_⟩
  match cs, hx, hs with
  | [], hx, hs =>
    have hx : (cVs []).map V.tup = some x := hx
    obtain ⟨xs, k1, rfl⟩ := Option.map_eq_some_iff.1 hx
    have hs : ∃ arr : Array Value, y = .tuple arr ∧ arr.size = 0 ∧ ∀ (i : Nat) (u : Value) (a : C), arr.toList[i]? = some u → ([] : List C)[i]? = some a → Go.Vm.SatC P w.heap.size ro' w' u a := hs
    obtain ⟨arr, rfl, k2, k3⟩ := hs
    rw [conc, cVs_conc k1 (us := arr.toList) (by simpa using k2) k3]; simp
  | [c], hx, hs =>
    have hx : cV c = some x := hx
    have hs : Go.Vm.SatC P w.heap.size ro' w' y (Go.Vm.setTok 0 c) := hs
    rw [cV_tok hx] at hs
    cases c with
    | d d => exact rV_conc hx hs π
    | _ => cases hx
  | c :: c' :: l, hx, hs =>
    have hx : (cVs (c :: c' :: l)).map V.tup = some x := hx
    obtain ⟨xs, k1, rfl⟩ := Option.map_eq_some_iff.1 hx
    have e := cVs_tok (τ := 0) k1
    have hs : ∃ arr : Array Value, y = .tuple arr ∧ arr.size = ((c :: c' :: l).map (Go.Vm.setTok 0)).length ∧ ∀ (i : Nat) (u : Value) (a : C), arr.toList[i]? = some u → ((c :: c' :: l).map (Go.Vm.setTok 0))[i]? = some a → Go.Vm.SatC P w.heap.size ro' w' u a := hs
    rw [e] at hs
    obtain ⟨arr, rfl, k2, k3⟩ := hs
    rw [conc, cVs_conc k1 (us := arr.toList) (by simpa using k2) k3]; simp
end Go.Rn
end
section
namespace Go.Rn
open Go.RowKit
theorem fo7 : FnOk Go.Proofs.Tryz.prog 7 Go.Proofs.Tryz.f7 := ⟨Go.Proofs.Tryz.func7, by kernel_rfl⟩
theorem fo8 : FnOk Go.Proofs.Tryz.prog 8 Go.Proofs.Tryz.f8 := ⟨Go.Proofs.Tryz.func8, by kernel_rfl⟩
theorem fo9 : FnOk Go.Proofs.Tryz.prog 9 Go.Proofs.Tryz.f9 := ⟨Go.Proofs.Tryz.func9, by kernel_rfl⟩
theorem fo13 : FnOk Go.Proofs.Tryz.prog 13 Go.Proofs.Tryz.f13 := ⟨Go.Proofs.Tryz.func13, by kernel_rfl⟩
theorem fo14 : FnOk Go.Proofs.Tryz.prog 14 Go.Proofs.Tryz.f14 := ⟨Go.Proofs.Tryz.func14, by kernel_rfl⟩
theorem fo16 : FnOk Go.Proofs.Tryz.prog 16 Go.Proofs.Tryz.f16 := ⟨Go.Proofs.Tryz.func16, by kernel_rfl⟩
theorem fo17 : FnOk Go.Proofs.Tryz.prog 17 Go.Proofs.Tryz.f17 := ⟨Go.Proofs.Tryz.func17, by kernel_rfl⟩
theorem fo22 : FnOk Go.Proofs.Tryz.prog 22 Go.Proofs.Tryz.f22 := ⟨Go.Proofs.Tryz.func22, by kernel_rfl⟩
theorem fo23 : FnOk Go.Proofs.Tryz.prog 23 Go.Proofs.Tryz.f23 := ⟨Go.Proofs.Tryz.func23, by kernel_rfl⟩
theorem fo24 : FnOk Go.Proofs.Tryz.prog 24 Go.Proofs.Tryz.f24 := ⟨Go.Proofs.Tryz.func24, by kernel_rfl⟩
theorem fo27 : FnOk Go.Proofs.Tryz.prog 27 Go.Proofs.Tryz.f27 := ⟨Go.Proofs.Tryz.func27, by kernel_rfl⟩
theorem fo28 : FnOk Go.Proofs.Tryz.prog 28 Go.Proofs.Tryz.f28 := ⟨Go.Proofs.Tryz.func28, by kernel_rfl⟩
theorem fo29 : FnOk Go.Proofs.Tryz.prog 29 Go.Proofs.Tryz.f29 := ⟨Go.Proofs.Tryz.func29, by kernel_rfl⟩
theorem fo30 : FnOk Go.Proofs.Tryz.prog 30 Go.Proofs.Tryz.f30 := ⟨Go.Proofs.Tryz.func30, by kernel_rfl⟩
theorem fo31 : FnOk Go.Proofs.Tryz.prog 31 Go.Proofs.Tryz.f31 := ⟨Go.Proofs.Tryz.func31, by kernel_rfl⟩
theorem fo32 : FnOk Go.Proofs.Tryz.prog 32 Go.Proofs.Tryz.f32 := ⟨Go.Proofs.Tryz.func32, by kernel_rfl⟩
theorem fo39 : FnOk Go.Proofs.Tryz.prog 39 Go.Proofs.Tryz.f39 := ⟨Go.Proofs.Tryz.func39, by kernel_rfl⟩
theorem fo40 : FnOk Go.Proofs.Tryz.prog 40 Go.Proofs.Tryz.f40 := ⟨Go.Proofs.Tryz.func40, by kernel_rfl⟩
theorem fo41 : FnOk Go.Proofs.Tryz.prog 41 Go.Proofs.Tryz.f41 := ⟨Go.Proofs.Tryz.func41, by kernel_rfl⟩
theorem fo42 : FnOk Go.Proofs.Tryz.prog 42 Go.Proofs.Tryz.f42 := ⟨Go.Proofs.Tryz.func42, by kernel_rfl⟩
theorem fo43 : FnOk Go.Proofs.Tryz.prog 43 Go.Proofs.Tryz.f43 := ⟨Go.Proofs.Tryz.func43, by kernel_rfl⟩
theorem fo45 : FnOk Go.Proofs.Tryz.prog 45 Go.Proofs.Tryz.f45 := ⟨Go.Proofs.Tryz.func45, by kernel_rfl⟩
theorem fo50 : FnOk Go.Proofs.Tryz.prog 50 Go.Proofs.Tryz.f50 := ⟨Go.Proofs.Tryz.func50, by kernel_rfl⟩
theorem fo51 : FnOk Go.Proofs.Tryz.prog 51 Go.Proofs.Tryz.f51 := ⟨Go.Proofs.Tryz.func51, by kernel_rfl⟩
theorem fo52 : FnOk Go.Proofs.Tryz.prog 52 Go.Proofs.Tryz.f52 := ⟨Go.Proofs.Tryz.func52, by kernel_rfl⟩
theorem fo54 : FnOk Go.Proofs.Tryz.prog 54 Go.Proofs.Tryz.f54 := ⟨Go.Proofs.Tryz.func54, by kernel_rfl⟩
theorem fo55 : FnOk Go.Proofs.Tryz.prog 55 Go.Proofs.Tryz.f55 := ⟨Go.Proofs.Tryz.func55, by kernel_rfl⟩
theorem fo56 : FnOk Go.Proofs.Tryz.prog 56 Go.Proofs.Tryz.f56 := ⟨Go.Proofs.Tryz.func56, by kernel_rfl⟩
theorem fo57 : FnOk Go.Proofs.Tryz.prog 57 Go.Proofs.Tryz.f57 := ⟨Go.Proofs.Tryz.func57, by kernel_rfl⟩
theorem fo58 : FnOk Go.Proofs.Tryz.prog 58 Go.Proofs.Tryz.f58 := ⟨Go.Proofs.Tryz.func58, by kernel_rfl⟩
theorem fo59 : FnOk Go.Proofs.Tryz.prog 59 Go.Proofs.Tryz.f59 := ⟨Go.Proofs.Tryz.func59, by kernel_rfl⟩
theorem fo60 : FnOk Go.Proofs.Tryz.prog 60 Go.Proofs.Tryz.f60 := ⟨Go.Proofs.Tryz.func60, by kernel_rfl⟩
theorem fo61 : FnOk Go.Proofs.Tryz.prog 61 Go.Proofs.Tryz.f61 := ⟨Go.Proofs.Tryz.func61, by kernel_rfl⟩
theorem fo62 : FnOk Go.Proofs.Tryz.prog 62 Go.Proofs.Tryz.f62 := ⟨Go.Proofs.Tryz.func62, by kernel_rfl⟩
theorem fo63 : FnOk Go.Proofs.Tryz.prog 63 Go.Proofs.Tryz.f63 := ⟨Go.Proofs.Tryz.func63, by kernel_rfl⟩
theorem fo64 : FnOk Go.Proofs.Tryz.prog 64 Go.Proofs.Tryz.f64 := ⟨Go.Proofs.Tryz.func64, by kernel_rfl⟩
theorem fo65 : FnOk Go.Proofs.Tryz.prog 65 Go.Proofs.Tryz.f65 := ⟨Go.Proofs.Tryz.func65, by kernel_rfl⟩
theorem fo66 : FnOk Go.Proofs.Tryz.prog 66 Go.Proofs.Tryz.f66 := ⟨Go.Proofs.Tryz.func66, by kernel_rfl⟩
theorem fo67 : FnOk Go.Proofs.Tryz.prog 67 Go.Proofs.Tryz.f67 := ⟨Go.Proofs.Tryz.func67, by kernel_rfl⟩
theorem fo68 : FnOk Go.Proofs.Tryz.prog 68 Go.Proofs.Tryz.f68 := ⟨Go.Proofs.Tryz.func68, by kernel_rfl⟩
theorem fo69 : FnOk Go.Proofs.Tryz.prog 69 Go.Proofs.Tryz.f69 := ⟨Go.Proofs.Tryz.func69, by kernel_rfl⟩
theorem fo70 : FnOk Go.Proofs.Tryz.prog 70 Go.Proofs.Tryz.f70 := ⟨Go.Proofs.Tryz.func70, by kernel_rfl⟩
theorem fo71 : FnOk Go.Proofs.Tryz.prog 71 Go.Proofs.Tryz.f71 := ⟨Go.Proofs.Tryz.func71, by kernel_rfl⟩
theorem fo72 : FnOk Go.Proofs.Tryz.prog 72 Go.Proofs.Tryz.f72 := ⟨Go.Proofs.Tryz.func72, by kernel_rfl⟩
theorem fo73 : FnOk Go.Proofs.Tryz.prog 73 Go.Proofs.Tryz.f73 := ⟨Go.Proofs.Tryz.func73, by kernel_rfl⟩
theorem fo74 : FnOk Go.Proofs.Tryz.prog 74 Go.Proofs.Tryz.f74 := ⟨Go.Proofs.Tryz.func74, by kernel_rfl⟩
theorem fo75 : FnOk Go.Proofs.Tryz.prog 75 Go.Proofs.Tryz.f75 := ⟨Go.Proofs.Tryz.func75, by kernel_rfl⟩
theorem fo81 : FnOk Go.Proofs.Tryz.prog 81 Go.Proofs.Tryz.f81 := ⟨Go.Proofs.Tryz.func81, by kernel_rfl⟩
theorem fo82 : FnOk Go.Proofs.Tryz.prog 82 Go.Proofs.Tryz.f82 := ⟨Go.Proofs.Tryz.func82, by kernel_rfl⟩
theorem fo83 : FnOk Go.Proofs.Tryz.prog 83 Go.Proofs.Tryz.f83 := ⟨Go.Proofs.Tryz.func83, by kernel_rfl⟩
theorem fo84 : FnOk Go.Proofs.Tryz.prog 84 Go.Proofs.Tryz.f84 := ⟨Go.Proofs.Tryz.func84, by kernel_rfl⟩
theorem fo85 : FnOk Go.Proofs.Tryz.prog 85 Go.Proofs.Tryz.f85 := ⟨Go.Proofs.Tryz.func85, by kernel_rfl⟩
theorem fo86 : FnOk Go.Proofs.Tryz.prog 86 Go.Proofs.Tryz.f86 := ⟨Go.Proofs.Tryz.func86, by kernel_rfl⟩
theorem fo89 : FnOk Go.Proofs.Tryz.prog 89 Go.Proofs.Tryz.f89 := ⟨Go.Proofs.Tryz.func89, by kernel_rfl⟩
theorem fo90 : FnOk Go.Proofs.Tryz.prog 90 Go.Proofs.Tryz.f90 := ⟨Go.Proofs.Tryz.func90, by kernel_rfl⟩
theorem fo91 : FnOk Go.Proofs.Tryz.prog 91 Go.Proofs.Tryz.f91 := ⟨Go.Proofs.Tryz.func91, by kernel_rfl⟩
theorem fo94 : FnOk Go.Proofs.Tryz.prog 94 Go.Proofs.Tryz.f94 := ⟨Go.Proofs.Tryz.func94, by kernel_rfl⟩
theorem fo96 : FnOk Go.Proofs.Tryz.prog 96 Go.Proofs.Tryz.f96 := ⟨Go.Proofs.Tryz.func96, by kernel_rfl⟩
theorem fo99 : FnOk Go.Proofs.Tryz.prog 99 Go.Proofs.Tryz.f99 := ⟨Go.Proofs.Tryz.func99, by kernel_rfl⟩
theorem fo100 : FnOk Go.Proofs.Tryz.prog 100 Go.Proofs.Tryz.f100 := ⟨Go.Proofs.Tryz.func100, by kernel_rfl⟩
theorem fo101 : FnOk Go.Proofs.Tryz.prog 101 Go.Proofs.Tryz.f101 := ⟨Go.Proofs.Tryz.func101, by kernel_rfl⟩
theorem fo102 : FnOk Go.Proofs.Tryz.prog 102 Go.Proofs.Tryz.f102 := ⟨Go.Proofs.Tryz.func102, by kernel_rfl⟩
theorem fo103 : FnOk Go.Proofs.Tryz.prog 103 Go.Proofs.Tryz.f103 := ⟨Go.Proofs.Tryz.func103, by kernel_rfl⟩
theorem fo104 : FnOk Go.Proofs.Tryz.prog 104 Go.Proofs.Tryz.f104 := ⟨Go.Proofs.Tryz.func104, by kernel_rfl⟩
theorem fo105 : FnOk Go.Proofs.Tryz.prog 105 Go.Proofs.Tryz.f105 := ⟨Go.Proofs.Tryz.func105, by kernel_rfl⟩
theorem fo106 : FnOk Go.Proofs.Tryz.prog 106 Go.Proofs.Tryz.f106 := ⟨Go.Proofs.Tryz.func106, by kernel_rfl⟩
theorem fo107 : FnOk Go.Proofs.Tryz.prog 107 Go.Proofs.Tryz.f107 := ⟨Go.Proofs.Tryz.func107, by kernel_rfl⟩
theorem fo108 : FnOk Go.Proofs.Tryz.prog 108 Go.Proofs.Tryz.f108 := ⟨Go.Proofs.Tryz.func108, by kernel_rfl⟩
theorem fo109 : FnOk Go.Proofs.Tryz.prog 109 Go.Proofs.Tryz.f109 := ⟨Go.Proofs.Tryz.func109, by kernel_rfl⟩
theorem fo110 : FnOk Go.Proofs.Tryz.prog 110 Go.Proofs.Tryz.f110 := ⟨Go.Proofs.Tryz.func110, by kernel_rfl⟩
theorem fo111 : FnOk Go.Proofs.Tryz.prog 111 Go.Proofs.Tryz.f111 := ⟨Go.Proofs.Tryz.func111, by kernel_rfl⟩
theorem fo112 : FnOk Go.Proofs.Tryz.prog 112 Go.Proofs.Tryz.f112 := ⟨Go.Proofs.Tryz.func112, by kernel_rfl⟩
theorem fo113 : FnOk Go.Proofs.Tryz.prog 113 Go.Proofs.Tryz.f113 := ⟨Go.Proofs.Tryz.func113, by kernel_rfl⟩
theorem fo114 : FnOk Go.Proofs.Tryz.prog 114 Go.Proofs.Tryz.f114 := ⟨Go.Proofs.Tryz.func114, by kernel_rfl⟩
theorem fo115 : FnOk Go.Proofs.Tryz.prog 115 Go.Proofs.Tryz.f115 := ⟨Go.Proofs.Tryz.func115, by kernel_rfl⟩
theorem fo116 : FnOk Go.Proofs.Tryz.prog 116 Go.Proofs.Tryz.f116 := ⟨Go.Proofs.Tryz.func116, by kernel_rfl⟩
theorem fo117 : FnOk Go.Proofs.Tryz.prog 117 Go.Proofs.Tryz.f117 := ⟨Go.Proofs.Tryz.func117, by kernel_rfl⟩
theorem fo118 : FnOk Go.Proofs.Tryz.prog 118 Go.Proofs.Tryz.f118 := ⟨Go.Proofs.Tryz.func118, by kernel_rfl⟩
theorem fo119 : FnOk Go.Proofs.Tryz.prog 119 Go.Proofs.Tryz.f119 := ⟨Go.Proofs.Tryz.func119, by kernel_rfl⟩
theorem fo120 : FnOk Go.Proofs.Tryz.prog 120 Go.Proofs.Tryz.f120 := ⟨Go.Proofs.Tryz.func120, by kernel_rfl⟩
theorem fo121 : FnOk Go.Proofs.Tryz.prog 121 Go.Proofs.Tryz.f121 := ⟨Go.Proofs.Tryz.func121, by kernel_rfl⟩
theorem fo122 : FnOk Go.Proofs.Tryz.prog 122 Go.Proofs.Tryz.f122 := ⟨Go.Proofs.Tryz.func122, by kernel_rfl⟩
theorem fo123 : FnOk Go.Proofs.Tryz.prog 123 Go.Proofs.Tryz.f123 := ⟨Go.Proofs.Tryz.func123, by kernel_rfl⟩
theorem fo124 : FnOk Go.Proofs.Tryz.prog 124 Go.Proofs.Tryz.f124 := ⟨Go.Proofs.Tryz.func124, by kernel_rfl⟩
theorem fo125 : FnOk Go.Proofs.Tryz.prog 125 Go.Proofs.Tryz.f125 := ⟨Go.Proofs.Tryz.func125, by kernel_rfl⟩
theorem fo126 : FnOk Go.Proofs.Tryz.prog 126 Go.Proofs.Tryz.f126 := ⟨Go.Proofs.Tryz.func126, by kernel_rfl⟩
theorem fo127 : FnOk Go.Proofs.Tryz.prog 127 Go.Proofs.Tryz.f127 := ⟨Go.Proofs.Tryz.func127, by kernel_rfl⟩
theorem fo128 : FnOk Go.Proofs.Tryz.prog 128 Go.Proofs.Tryz.f128 := ⟨Go.Proofs.Tryz.func128, by kernel_rfl⟩
theorem fo129 : FnOk Go.Proofs.Tryz.prog 129 Go.Proofs.Tryz.f129 := ⟨Go.Proofs.Tryz.func129, by kernel_rfl⟩
theorem fo130 : FnOk Go.Proofs.Tryz.prog 130 Go.Proofs.Tryz.f130 := ⟨Go.Proofs.Tryz.func130, by kernel_rfl⟩
theorem fo131 : FnOk Go.Proofs.Tryz.prog 131 Go.Proofs.Tryz.f131 := ⟨Go.Proofs.Tryz.func131, by kernel_rfl⟩
theorem fo132 : FnOk Go.Proofs.Tryz.prog 132 Go.Proofs.Tryz.f132 := ⟨Go.Proofs.Tryz.func132, by kernel_rfl⟩
theorem fo133 : FnOk Go.Proofs.Tryz.prog 133 Go.Proofs.Tryz.f133 := ⟨Go.Proofs.Tryz.func133, by kernel_rfl⟩
theorem fo134 : FnOk Go.Proofs.Tryz.prog 134 Go.Proofs.Tryz.f134 := ⟨Go.Proofs.Tryz.func134, by kernel_rfl⟩
theorem fo135 : FnOk Go.Proofs.Tryz.prog 135 Go.Proofs.Tryz.f135 := ⟨Go.Proofs.Tryz.func135, by kernel_rfl⟩
theorem fo140 : FnOk Go.Proofs.Tryz.prog 140 Go.Proofs.Tryz.f140 := ⟨Go.Proofs.Tryz.func140, by kernel_rfl⟩
theorem fo141 : FnOk Go.Proofs.Tryz.prog 141 Go.Proofs.Tryz.f141 := ⟨Go.Proofs.Tryz.func141, by kernel_rfl⟩
theorem fo142 : FnOk Go.Proofs.Tryz.prog 142 Go.Proofs.Tryz.f142 := ⟨Go.Proofs.Tryz.func142, by kernel_rfl⟩
theorem fo144 : FnOk Go.Proofs.Tryz.prog 144 Go.Proofs.Tryz.f144 := ⟨Go.Proofs.Tryz.func144, by kernel_rfl⟩
theorem fo145 : FnOk Go.Proofs.Tryz.prog 145 Go.Proofs.Tryz.f145 := ⟨Go.Proofs.Tryz.func145, by kernel_rfl⟩
theorem fo149 : FnOk Go.Proofs.Tryz.prog 149 Go.Proofs.Tryz.f149 := ⟨Go.Proofs.Tryz.func149, by kernel_rfl⟩
theorem fo150 : FnOk Go.Proofs.Tryz.prog 150 Go.Proofs.Tryz.f150 := ⟨Go.Proofs.Tryz.func150, by kernel_rfl⟩
theorem fo152 : FnOk Go.Proofs.Tryz.prog 152 Go.Proofs.Tryz.f152 := ⟨Go.Proofs.Tryz.func152, by kernel_rfl⟩
theorem fo153 : FnOk Go.Proofs.Tryz.prog 153 Go.Proofs.Tryz.f153 := ⟨Go.Proofs.Tryz.func153, by kernel_rfl⟩
theorem fo154 : FnOk Go.Proofs.Tryz.prog 154 Go.Proofs.Tryz.f154 := ⟨Go.Proofs.Tryz.func154, by kernel_rfl⟩
theorem fo155 : FnOk Go.Proofs.Tryz.prog 155 Go.Proofs.Tryz.f155 := ⟨Go.Proofs.Tryz.func155, by kernel_rfl⟩
theorem fo156 : FnOk Go.Proofs.Tryz.prog 156 Go.Proofs.Tryz.f156 := ⟨Go.Proofs.Tryz.func156, by kernel_rfl⟩
theorem fo157 : FnOk Go.Proofs.Tryz.prog 157 Go.Proofs.Tryz.f157 := ⟨Go.Proofs.Tryz.func157, by kernel_rfl⟩
theorem fo158 : FnOk Go.Proofs.Tryz.prog 158 Go.Proofs.Tryz.f158 := ⟨Go.Proofs.Tryz.func158, by kernel_rfl⟩
theorem fo159 : FnOk Go.Proofs.Tryz.prog 159 Go.Proofs.Tryz.f159 := ⟨Go.Proofs.Tryz.func159, by kernel_rfl⟩
theorem fo160 : FnOk Go.Proofs.Tryz.prog 160 Go.Proofs.Tryz.f160 := ⟨Go.Proofs.Tryz.func160, by kernel_rfl⟩
theorem fo161 : FnOk Go.Proofs.Tryz.prog 161 Go.Proofs.Tryz.f161 := ⟨Go.Proofs.Tryz.func161, by kernel_rfl⟩
theorem fo162 : FnOk Go.Proofs.Tryz.prog 162 Go.Proofs.Tryz.f162 := ⟨Go.Proofs.Tryz.func162, by kernel_rfl⟩
theorem fo163 : FnOk Go.Proofs.Tryz.prog 163 Go.Proofs.Tryz.f163 := ⟨Go.Proofs.Tryz.func163, by kernel_rfl⟩
theorem fo164 : FnOk Go.Proofs.Tryz.prog 164 Go.Proofs.Tryz.f164 := ⟨Go.Proofs.Tryz.func164, by kernel_rfl⟩
theorem fo165 : FnOk Go.Proofs.Tryz.prog 165 Go.Proofs.Tryz.f165 := ⟨Go.Proofs.Tryz.func165, by kernel_rfl⟩
theorem fo166 : FnOk Go.Proofs.Tryz.prog 166 Go.Proofs.Tryz.f166 := ⟨Go.Proofs.Tryz.func166, by kernel_rfl⟩
theorem fo167 : FnOk Go.Proofs.Tryz.prog 167 Go.Proofs.Tryz.f167 := ⟨Go.Proofs.Tryz.func167, by kernel_rfl⟩
theorem fo168 : FnOk Go.Proofs.Tryz.prog 168 Go.Proofs.Tryz.f168 := ⟨Go.Proofs.Tryz.func168, by kernel_rfl⟩
theorem fo169 : FnOk Go.Proofs.Tryz.prog 169 Go.Proofs.Tryz.f169 := ⟨Go.Proofs.Tryz.func169, by kernel_rfl⟩
theorem fo170 : FnOk Go.Proofs.Tryz.prog 170 Go.Proofs.Tryz.f170 := ⟨Go.Proofs.Tryz.func170, by kernel_rfl⟩
theorem fo171 : FnOk Go.Proofs.Tryz.prog 171 Go.Proofs.Tryz.f171 := ⟨Go.Proofs.Tryz.func171, by kernel_rfl⟩
theorem fo172 : FnOk Go.Proofs.Tryz.prog 172 Go.Proofs.Tryz.f172 := ⟨Go.Proofs.Tryz.func172, by kernel_rfl⟩
theorem fo173 : FnOk Go.Proofs.Tryz.prog 173 Go.Proofs.Tryz.f173 := ⟨Go.Proofs.Tryz.func173, by kernel_rfl⟩
theorem fo174 : FnOk Go.Proofs.Tryz.prog 174 Go.Proofs.Tryz.f174 := ⟨Go.Proofs.Tryz.func174, by kernel_rfl⟩
theorem fo175 : FnOk Go.Proofs.Tryz.prog 175 Go.Proofs.Tryz.f175 := ⟨Go.Proofs.Tryz.func175, by kernel_rfl⟩
theorem fo176 : FnOk Go.Proofs.Tryz.prog 176 Go.Proofs.Tryz.f176 := ⟨Go.Proofs.Tryz.func176, by kernel_rfl⟩
theorem fo177 : FnOk Go.Proofs.Tryz.prog 177 Go.Proofs.Tryz.f177 := ⟨Go.Proofs.Tryz.func177, by kernel_rfl⟩
theorem fo178 : FnOk Go.Proofs.Tryz.prog 178 Go.Proofs.Tryz.f178 := ⟨Go.Proofs.Tryz.func178, by kernel_rfl⟩
theorem fo179 : FnOk Go.Proofs.Tryz.prog 179 Go.Proofs.Tryz.f179 := ⟨Go.Proofs.Tryz.func179, by kernel_rfl⟩
theorem fo180 : FnOk Go.Proofs.Tryz.prog 180 Go.Proofs.Tryz.f180 := ⟨Go.Proofs.Tryz.func180, by kernel_rfl⟩
theorem fo181 : FnOk Go.Proofs.Tryz.prog 181 Go.Proofs.Tryz.f181 := ⟨Go.Proofs.Tryz.func181, by kernel_rfl⟩
theorem fo182 : FnOk Go.Proofs.Tryz.prog 182 Go.Proofs.Tryz.f182 := ⟨Go.Proofs.Tryz.func182, by kernel_rfl⟩
theorem fo183 : FnOk Go.Proofs.Tryz.prog 183 Go.Proofs.Tryz.f183 := ⟨Go.Proofs.Tryz.func183, by kernel_rfl⟩
theorem fo184 : FnOk Go.Proofs.Tryz.prog 184 Go.Proofs.Tryz.f184 := ⟨Go.Proofs.Tryz.func184, by kernel_rfl⟩
theorem fo185 : FnOk Go.Proofs.Tryz.prog 185 Go.Proofs.Tryz.f185 := ⟨Go.Proofs.Tryz.func185, by kernel_rfl⟩
theorem fo186 : FnOk Go.Proofs.Tryz.prog 186 Go.Proofs.Tryz.f186 := ⟨Go.Proofs.Tryz.func186, by kernel_rfl⟩
theorem fo187 : FnOk Go.Proofs.Tryz.prog 187 Go.Proofs.Tryz.f187 := ⟨Go.Proofs.Tryz.func187, by kernel_rfl⟩
theorem fo188 : FnOk Go.Proofs.Tryz.prog 188 Go.Proofs.Tryz.f188 := ⟨Go.Proofs.Tryz.func188, by kernel_rfl⟩
theorem fo189 : FnOk Go.Proofs.Tryz.prog 189 Go.Proofs.Tryz.f189 := ⟨Go.Proofs.Tryz.func189, by kernel_rfl⟩
theorem fo190 : FnOk Go.Proofs.Tryz.prog 190 Go.Proofs.Tryz.f190 := ⟨Go.Proofs.Tryz.func190, by kernel_rfl⟩
theorem fo191 : FnOk Go.Proofs.Tryz.prog 191 Go.Proofs.Tryz.f191 := ⟨Go.Proofs.Tryz.func191, by kernel_rfl⟩
theorem fo192 : FnOk Go.Proofs.Tryz.prog 192 Go.Proofs.Tryz.f192 := ⟨Go.Proofs.Tryz.func192, by kernel_rfl⟩
theorem fo193 : FnOk Go.Proofs.Tryz.prog 193 Go.Proofs.Tryz.f193 := ⟨Go.Proofs.Tryz.func193, by kernel_rfl⟩
theorem fo194 : FnOk Go.Proofs.Tryz.prog 194 Go.Proofs.Tryz.f194 := ⟨Go.Proofs.Tryz.func194, by kernel_rfl⟩
theorem fo195 : FnOk Go.Proofs.Tryz.prog 195 Go.Proofs.Tryz.f195 := ⟨Go.Proofs.Tryz.func195, by kernel_rfl⟩
theorem fo196 : FnOk Go.Proofs.Tryz.prog 196 Go.Proofs.Tryz.f196 := ⟨Go.Proofs.Tryz.func196, by kernel_rfl⟩
theorem fo197 : FnOk Go.Proofs.Tryz.prog 197 Go.Proofs.Tryz.f197 := ⟨Go.Proofs.Tryz.func197, by kernel_rfl⟩
theorem fo198 : FnOk Go.Proofs.Tryz.prog 198 Go.Proofs.Tryz.f198 := ⟨Go.Proofs.Tryz.func198, by kernel_rfl⟩
theorem fo199 : FnOk Go.Proofs.Tryz.prog 199 Go.Proofs.Tryz.f199 := ⟨Go.Proofs.Tryz.func199, by kernel_rfl⟩
theorem fo200 : FnOk Go.Proofs.Tryz.prog 200 Go.Proofs.Tryz.f200 := ⟨Go.Proofs.Tryz.func200, by kernel_rfl⟩
theorem fo201 : FnOk Go.Proofs.Tryz.prog 201 Go.Proofs.Tryz.f201 := ⟨Go.Proofs.Tryz.func201, by kernel_rfl⟩
theorem fo202 : FnOk Go.Proofs.Tryz.prog 202 Go.Proofs.Tryz.f202 := ⟨Go.Proofs.Tryz.func202, by kernel_rfl⟩
theorem fo203 : FnOk Go.Proofs.Tryz.prog 203 Go.Proofs.Tryz.f203 := ⟨Go.Proofs.Tryz.func203, by kernel_rfl⟩
theorem fo204 : FnOk Go.Proofs.Tryz.prog 204 Go.Proofs.Tryz.f204 := ⟨Go.Proofs.Tryz.func204, by kernel_rfl⟩
theorem fo205 : FnOk Go.Proofs.Tryz.prog 205 Go.Proofs.Tryz.f205 := ⟨Go.Proofs.Tryz.func205, by kernel_rfl⟩
theorem fo206 : FnOk Go.Proofs.Tryz.prog 206 Go.Proofs.Tryz.f206 := ⟨Go.Proofs.Tryz.func206, by kernel_rfl⟩
theorem fo207 : FnOk Go.Proofs.Tryz.prog 207 Go.Proofs.Tryz.f207 := ⟨Go.Proofs.Tryz.func207, by kernel_rfl⟩
theorem fo208 : FnOk Go.Proofs.Tryz.prog 208 Go.Proofs.Tryz.f208 := ⟨Go.Proofs.Tryz.func208, by kernel_rfl⟩
theorem fo209 : FnOk Go.Proofs.Tryz.prog 209 Go.Proofs.Tryz.f209 := ⟨Go.Proofs.Tryz.func209, by kernel_rfl⟩
theorem fo210 : FnOk Go.Proofs.Tryz.prog 210 Go.Proofs.Tryz.f210 := ⟨Go.Proofs.Tryz.func210, by kernel_rfl⟩
theorem fo211 : FnOk Go.Proofs.Tryz.prog 211 Go.Proofs.Tryz.f211 := ⟨Go.Proofs.Tryz.func211, by kernel_rfl⟩
theorem fo212 : FnOk Go.Proofs.Tryz.prog 212 Go.Proofs.Tryz.f212 := ⟨Go.Proofs.Tryz.func212, by kernel_rfl⟩
theorem fo213 : FnOk Go.Proofs.Tryz.prog 213 Go.Proofs.Tryz.f213 := ⟨Go.Proofs.Tryz.func213, by kernel_rfl⟩
theorem fo214 : FnOk Go.Proofs.Tryz.prog 214 Go.Proofs.Tryz.f214 := ⟨Go.Proofs.Tryz.func214, by kernel_rfl⟩
theorem fo215 : FnOk Go.Proofs.Tryz.prog 215 Go.Proofs.Tryz.f215 := ⟨Go.Proofs.Tryz.func215, by kernel_rfl⟩
theorem fo216 : FnOk Go.Proofs.Tryz.prog 216 Go.Proofs.Tryz.f216 := ⟨Go.Proofs.Tryz.func216, by kernel_rfl⟩
theorem fo217 : FnOk Go.Proofs.Tryz.prog 217 Go.Proofs.Tryz.f217 := ⟨Go.Proofs.Tryz.func217, by kernel_rfl⟩
theorem fo218 : FnOk Go.Proofs.Tryz.prog 218 Go.Proofs.Tryz.f218 := ⟨Go.Proofs.Tryz.func218, by kernel_rfl⟩
theorem fo219 : FnOk Go.Proofs.Tryz.prog 219 Go.Proofs.Tryz.f219 := ⟨Go.Proofs.Tryz.func219, by kernel_rfl⟩
theorem fo220 : FnOk Go.Proofs.Tryz.prog 220 Go.Proofs.Tryz.f220 := ⟨Go.Proofs.Tryz.func220, by kernel_rfl⟩
theorem fo222 : FnOk Go.Proofs.Tryz.prog 222 Go.Proofs.Tryz.f222 := ⟨Go.Proofs.Tryz.func222, by kernel_rfl⟩
theorem fo223 : FnOk Go.Proofs.Tryz.prog 223 Go.Proofs.Tryz.f223 := ⟨Go.Proofs.Tryz.func223, by kernel_rfl⟩
theorem fo227 : FnOk Go.Proofs.Tryz.prog 227 Go.Proofs.Tryz.f227 := ⟨Go.Proofs.Tryz.func227, by kernel_rfl⟩
theorem fo228 : FnOk Go.Proofs.Tryz.prog 228 Go.Proofs.Tryz.f228 := ⟨Go.Proofs.Tryz.func228, by kernel_rfl⟩
theorem fo229 : FnOk Go.Proofs.Tryz.prog 229 Go.Proofs.Tryz.f229 := ⟨Go.Proofs.Tryz.func229, by kernel_rfl⟩
theorem fo230 : FnOk Go.Proofs.Tryz.prog 230 Go.Proofs.Tryz.f230 := ⟨Go.Proofs.Tryz.func230, by kernel_rfl⟩
theorem fo231 : FnOk Go.Proofs.Tryz.prog 231 Go.Proofs.Tryz.f231 := ⟨Go.Proofs.Tryz.func231, by kernel_rfl⟩
theorem fo232 : FnOk Go.Proofs.Tryz.prog 232 Go.Proofs.Tryz.f232 := ⟨Go.Proofs.Tryz.func232, by kernel_rfl⟩
theorem fo233 : FnOk Go.Proofs.Tryz.prog 233 Go.Proofs.Tryz.f233 := ⟨Go.Proofs.Tryz.func233, by kernel_rfl⟩
theorem fo234 : FnOk Go.Proofs.Tryz.prog 234 Go.Proofs.Tryz.f234 := ⟨Go.Proofs.Tryz.func234, by kernel_rfl⟩
theorem fo235 : FnOk Go.Proofs.Tryz.prog 235 Go.Proofs.Tryz.f235 := ⟨Go.Proofs.Tryz.func235, by kernel_rfl⟩
theorem fo236 : FnOk Go.Proofs.Tryz.prog 236 Go.Proofs.Tryz.f236 := ⟨Go.Proofs.Tryz.func236, by kernel_rfl⟩
theorem fo237 : FnOk Go.Proofs.Tryz.prog 237 Go.Proofs.Tryz.f237 := ⟨Go.Proofs.Tryz.func237, by kernel_rfl⟩
theorem fo238 : FnOk Go.Proofs.Tryz.prog 238 Go.Proofs.Tryz.f238 := ⟨Go.Proofs.Tryz.func238, by kernel_rfl⟩
theorem fo239 : FnOk Go.Proofs.Tryz.prog 239 Go.Proofs.Tryz.f239 := ⟨Go.Proofs.Tryz.func239, by kernel_rfl⟩
theorem fo240 : FnOk Go.Proofs.Tryz.prog 240 Go.Proofs.Tryz.f240 := ⟨Go.Proofs.Tryz.func240, by kernel_rfl⟩
theorem fo241 : FnOk Go.Proofs.Tryz.prog 241 Go.Proofs.Tryz.f241 := ⟨Go.Proofs.Tryz.func241, by kernel_rfl⟩
theorem fo242 : FnOk Go.Proofs.Tryz.prog 242 Go.Proofs.Tryz.f242 := ⟨Go.Proofs.Tryz.func242, by kernel_rfl⟩
theorem fo243 : FnOk Go.Proofs.Tryz.prog 243 Go.Proofs.Tryz.f243 := ⟨Go.Proofs.Tryz.func243, by kernel_rfl⟩
theorem fo244 : FnOk Go.Proofs.Tryz.prog 244 Go.Proofs.Tryz.f244 := ⟨Go.Proofs.Tryz.func244, by kernel_rfl⟩
theorem fo245 : FnOk Go.Proofs.Tryz.prog 245 Go.Proofs.Tryz.f245 := ⟨Go.Proofs.Tryz.func245, by kernel_rfl⟩
theorem fo246 : FnOk Go.Proofs.Tryz.prog 246 Go.Proofs.Tryz.f246 := ⟨Go.Proofs.Tryz.func246, by kernel_rfl⟩
theorem fo247 : FnOk Go.Proofs.Tryz.prog 247 Go.Proofs.Tryz.f247 := ⟨Go.Proofs.Tryz.func247, by kernel_rfl⟩
theorem fo248 : FnOk Go.Proofs.Tryz.prog 248 Go.Proofs.Tryz.f248 := ⟨Go.Proofs.Tryz.func248, by kernel_rfl⟩
theorem fo249 : FnOk Go.Proofs.Tryz.prog 249 Go.Proofs.Tryz.f249 := ⟨Go.Proofs.Tryz.func249, by kernel_rfl⟩
theorem fo250 : FnOk Go.Proofs.Tryz.prog 250 Go.Proofs.Tryz.f250 := ⟨Go.Proofs.Tryz.func250, by kernel_rfl⟩
theorem fo251 : FnOk Go.Proofs.Tryz.prog 251 Go.Proofs.Tryz.f251 := ⟨Go.Proofs.Tryz.func251, by kernel_rfl⟩
theorem fo252 : FnOk Go.Proofs.Tryz.prog 252 Go.Proofs.Tryz.f252 := ⟨Go.Proofs.Tryz.func252, by kernel_rfl⟩
theorem fo253 : FnOk Go.Proofs.Tryz.prog 253 Go.Proofs.Tryz.f253 := ⟨Go.Proofs.Tryz.func253, by kernel_rfl⟩
theorem fo254 : FnOk Go.Proofs.Tryz.prog 254 Go.Proofs.Tryz.f254 := ⟨Go.Proofs.Tryz.func254, by kernel_rfl⟩
theorem fo255 : FnOk Go.Proofs.Tryz.prog 255 Go.Proofs.Tryz.f255 := ⟨Go.Proofs.Tryz.func255, by kernel_rfl⟩
theorem fo256 : FnOk Go.Proofs.Tryz.prog 256 Go.Proofs.Tryz.f256 := ⟨Go.Proofs.Tryz.func256, by kernel_rfl⟩
theorem fo257 : FnOk Go.Proofs.Tryz.prog 257 Go.Proofs.Tryz.f257 := ⟨Go.Proofs.Tryz.func257, by kernel_rfl⟩
theorem fo258 : FnOk Go.Proofs.Tryz.prog 258 Go.Proofs.Tryz.f258 := ⟨Go.Proofs.Tryz.func258, by kernel_rfl⟩
theorem fo259 : FnOk Go.Proofs.Tryz.prog 259 Go.Proofs.Tryz.f259 := ⟨Go.Proofs.Tryz.func259, by kernel_rfl⟩
theorem fo260 : FnOk Go.Proofs.Tryz.prog 260 Go.Proofs.Tryz.f260 := ⟨Go.Proofs.Tryz.func260, by kernel_rfl⟩
theorem fo261 : FnOk Go.Proofs.Tryz.prog 261 Go.Proofs.Tryz.f261 := ⟨Go.Proofs.Tryz.func261, by kernel_rfl⟩
theorem fo262 : FnOk Go.Proofs.Tryz.prog 262 Go.Proofs.Tryz.f262 := ⟨Go.Proofs.Tryz.func262, by kernel_rfl⟩
theorem fo263 : FnOk Go.Proofs.Tryz.prog 263 Go.Proofs.Tryz.f263 := ⟨Go.Proofs.Tryz.func263, by kernel_rfl⟩
theorem fo264 : FnOk Go.Proofs.Tryz.prog 264 Go.Proofs.Tryz.f264 := ⟨Go.Proofs.Tryz.func264, by kernel_rfl⟩
theorem fo265 : FnOk Go.Proofs.Tryz.prog 265 Go.Proofs.Tryz.f265 := ⟨Go.Proofs.Tryz.func265, by kernel_rfl⟩
theorem fo266 : FnOk Go.Proofs.Tryz.prog 266 Go.Proofs.Tryz.f266 := ⟨Go.Proofs.Tryz.func266, by kernel_rfl⟩
theorem fo267 : FnOk Go.Proofs.Tryz.prog 267 Go.Proofs.Tryz.f267 := ⟨Go.Proofs.Tryz.func267, by kernel_rfl⟩
theorem fo268 : FnOk Go.Proofs.Tryz.prog 268 Go.Proofs.Tryz.f268 := ⟨Go.Proofs.Tryz.func268, by kernel_rfl⟩
theorem fo269 : FnOk Go.Proofs.Tryz.prog 269 Go.Proofs.Tryz.f269 := ⟨Go.Proofs.Tryz.func269, by kernel_rfl⟩
theorem fo270 : FnOk Go.Proofs.Tryz.prog 270 Go.Proofs.Tryz.f270 := ⟨Go.Proofs.Tryz.func270, by kernel_rfl⟩
theorem fo271 : FnOk Go.Proofs.Tryz.prog 271 Go.Proofs.Tryz.f271 := ⟨Go.Proofs.Tryz.func271, by kernel_rfl⟩
theorem fo272 : FnOk Go.Proofs.Tryz.prog 272 Go.Proofs.Tryz.f272 := ⟨Go.Proofs.Tryz.func272, by kernel_rfl⟩
theorem fo273 : FnOk Go.Proofs.Tryz.prog 273 Go.Proofs.Tryz.f273 := ⟨Go.Proofs.Tryz.func273, by kernel_rfl⟩
theorem fo274 : FnOk Go.Proofs.Tryz.prog 274 Go.Proofs.Tryz.f274 := ⟨Go.Proofs.Tryz.func274, by kernel_rfl⟩
theorem fo275 : FnOk Go.Proofs.Tryz.prog 275 Go.Proofs.Tryz.f275 := ⟨Go.Proofs.Tryz.func275, by kernel_rfl⟩
theorem fo276 : FnOk Go.Proofs.Tryz.prog 276 Go.Proofs.Tryz.f276 := ⟨Go.Proofs.Tryz.func276, by kernel_rfl⟩
theorem fo277 : FnOk Go.Proofs.Tryz.prog 277 Go.Proofs.Tryz.f277 := ⟨Go.Proofs.Tryz.func277, by kernel_rfl⟩
theorem fo278 : FnOk Go.Proofs.Tryz.prog 278 Go.Proofs.Tryz.f278 := ⟨Go.Proofs.Tryz.func278, by kernel_rfl⟩
theorem fo279 : FnOk Go.Proofs.Tryz.prog 279 Go.Proofs.Tryz.f279 := ⟨Go.Proofs.Tryz.func279, by kernel_rfl⟩
theorem fo280 : FnOk Go.Proofs.Tryz.prog 280 Go.Proofs.Tryz.f280 := ⟨Go.Proofs.Tryz.func280, by kernel_rfl⟩
theorem fo281 : FnOk Go.Proofs.Tryz.prog 281 Go.Proofs.Tryz.f281 := ⟨Go.Proofs.Tryz.func281, by kernel_rfl⟩
theorem fo282 : FnOk Go.Proofs.Tryz.prog 282 Go.Proofs.Tryz.f282 := ⟨Go.Proofs.Tryz.func282, by kernel_rfl⟩
theorem fo283 : FnOk Go.Proofs.Tryz.prog 283 Go.Proofs.Tryz.f283 := ⟨Go.Proofs.Tryz.func283, by kernel_rfl⟩
theorem fo284 : FnOk Go.Proofs.Tryz.prog 284 Go.Proofs.Tryz.f284 := ⟨Go.Proofs.Tryz.func284, by kernel_rfl⟩
theorem fo285 : FnOk Go.Proofs.Tryz.prog 285 Go.Proofs.Tryz.f285 := ⟨Go.Proofs.Tryz.func285, by kernel_rfl⟩
theorem fo286 : FnOk Go.Proofs.Tryz.prog 286 Go.Proofs.Tryz.f286 := ⟨Go.Proofs.Tryz.func286, by kernel_rfl⟩
theorem fo287 : FnOk Go.Proofs.Tryz.prog 287 Go.Proofs.Tryz.f287 := ⟨Go.Proofs.Tryz.func287, by kernel_rfl⟩
theorem fo288 : FnOk Go.Proofs.Tryz.prog 288 Go.Proofs.Tryz.f288 := ⟨Go.Proofs.Tryz.func288, by kernel_rfl⟩
theorem fo289 : FnOk Go.Proofs.Tryz.prog 289 Go.Proofs.Tryz.f289 := ⟨Go.Proofs.Tryz.func289, by kernel_rfl⟩
theorem fo290 : FnOk Go.Proofs.Tryz.prog 290 Go.Proofs.Tryz.f290 := ⟨Go.Proofs.Tryz.func290, by kernel_rfl⟩
theorem fo291 : FnOk Go.Proofs.Tryz.prog 291 Go.Proofs.Tryz.f291 := ⟨Go.Proofs.Tryz.func291, by kernel_rfl⟩
theorem fo292 : FnOk Go.Proofs.Tryz.prog 292 Go.Proofs.Tryz.f292 := ⟨Go.Proofs.Tryz.func292, by kernel_rfl⟩
theorem fo293 : FnOk Go.Proofs.Tryz.prog 293 Go.Proofs.Tryz.f293 := ⟨Go.Proofs.Tryz.func293, by kernel_rfl⟩
theorem fo294 : FnOk Go.Proofs.Tryz.prog 294 Go.Proofs.Tryz.f294 := ⟨Go.Proofs.Tryz.func294, by kernel_rfl⟩
theorem fo295 : FnOk Go.Proofs.Tryz.prog 295 Go.Proofs.Tryz.f295 := ⟨Go.Proofs.Tryz.func295, by kernel_rfl⟩
theorem fo296 : FnOk Go.Proofs.Tryz.prog 296 Go.Proofs.Tryz.f296 := ⟨Go.Proofs.Tryz.func296, by kernel_rfl⟩
theorem fo297 : FnOk Go.Proofs.Tryz.prog 297 Go.Proofs.Tryz.f297 := ⟨Go.Proofs.Tryz.func297, by kernel_rfl⟩
theorem fo298 : FnOk Go.Proofs.Tryz.prog 298 Go.Proofs.Tryz.f298 := ⟨Go.Proofs.Tryz.func298, by kernel_rfl⟩
theorem fo299 : FnOk Go.Proofs.Tryz.prog 299 Go.Proofs.Tryz.f299 := ⟨Go.Proofs.Tryz.func299, by kernel_rfl⟩
theorem fo300 : FnOk Go.Proofs.Tryz.prog 300 Go.Proofs.Tryz.f300 := ⟨Go.Proofs.Tryz.func300, by kernel_rfl⟩
theorem fo301 : FnOk Go.Proofs.Tryz.prog 301 Go.Proofs.Tryz.f301 := ⟨Go.Proofs.Tryz.func301, by kernel_rfl⟩
theorem fo302 : FnOk Go.Proofs.Tryz.prog 302 Go.Proofs.Tryz.f302 := ⟨Go.Proofs.Tryz.func302, by kernel_rfl⟩
theorem fo303 : FnOk Go.Proofs.Tryz.prog 303 Go.Proofs.Tryz.f303 := ⟨Go.Proofs.Tryz.func303, by kernel_rfl⟩
theorem fo304 : FnOk Go.Proofs.Tryz.prog 304 Go.Proofs.Tryz.f304 := ⟨Go.Proofs.Tryz.func304, by kernel_rfl⟩
theorem fo305 : FnOk Go.Proofs.Tryz.prog 305 Go.Proofs.Tryz.f305 := ⟨Go.Proofs.Tryz.func305, by kernel_rfl⟩
theorem fo306 : FnOk Go.Proofs.Tryz.prog 306 Go.Proofs.Tryz.f306 := ⟨Go.Proofs.Tryz.func306, by kernel_rfl⟩
theorem fo307 : FnOk Go.Proofs.Tryz.prog 307 Go.Proofs.Tryz.f307 := ⟨Go.Proofs.Tryz.func307, by kernel_rfl⟩
theorem fo308 : FnOk Go.Proofs.Tryz.prog 308 Go.Proofs.Tryz.f308 := ⟨Go.Proofs.Tryz.func308, by kernel_rfl⟩
theorem fo309 : FnOk Go.Proofs.Tryz.prog 309 Go.Proofs.Tryz.f309 := ⟨Go.Proofs.Tryz.func309, by kernel_rfl⟩
theorem fo310 : FnOk Go.Proofs.Tryz.prog 310 Go.Proofs.Tryz.f310 := ⟨Go.Proofs.Tryz.func310, by kernel_rfl⟩
theorem fo311 : FnOk Go.Proofs.Tryz.prog 311 Go.Proofs.Tryz.f311 := ⟨Go.Proofs.Tryz.func311, by kernel_rfl⟩
theorem fo312 : FnOk Go.Proofs.Tryz.prog 312 Go.Proofs.Tryz.f312 := ⟨Go.Proofs.Tryz.func312, by kernel_rfl⟩
theorem fo313 : FnOk Go.Proofs.Tryz.prog 313 Go.Proofs.Tryz.f313 := ⟨Go.Proofs.Tryz.func313, by kernel_rfl⟩
theorem fo314 : FnOk Go.Proofs.Tryz.prog 314 Go.Proofs.Tryz.f314 := ⟨Go.Proofs.Tryz.func314, by kernel_rfl⟩
theorem fo315 : FnOk Go.Proofs.Tryz.prog 315 Go.Proofs.Tryz.f315 := ⟨Go.Proofs.Tryz.func315, by kernel_rfl⟩
theorem fo316 : FnOk Go.Proofs.Tryz.prog 316 Go.Proofs.Tryz.f316 := ⟨Go.Proofs.Tryz.func316, by kernel_rfl⟩
theorem fo317 : FnOk Go.Proofs.Tryz.prog 317 Go.Proofs.Tryz.f317 := ⟨Go.Proofs.Tryz.func317, by kernel_rfl⟩
theorem fo318 : FnOk Go.Proofs.Tryz.prog 318 Go.Proofs.Tryz.f318 := ⟨Go.Proofs.Tryz.func318, by kernel_rfl⟩
theorem fo319 : FnOk Go.Proofs.Tryz.prog 319 Go.Proofs.Tryz.f319 := ⟨Go.Proofs.Tryz.func319, by kernel_rfl⟩
theorem fo320 : FnOk Go.Proofs.Tryz.prog 320 Go.Proofs.Tryz.f320 := ⟨Go.Proofs.Tryz.func320, by kernel_rfl⟩
theorem fo321 : FnOk Go.Proofs.Tryz.prog 321 Go.Proofs.Tryz.f321 := ⟨Go.Proofs.Tryz.func321, by kernel_rfl⟩
theorem fo322 : FnOk Go.Proofs.Tryz.prog 322 Go.Proofs.Tryz.f322 := ⟨Go.Proofs.Tryz.func322, by kernel_rfl⟩
theorem fo323 : FnOk Go.Proofs.Tryz.prog 323 Go.Proofs.Tryz.f323 := ⟨Go.Proofs.Tryz.func323, by kernel_rfl⟩
theorem fo324 : FnOk Go.Proofs.Tryz.prog 324 Go.Proofs.Tryz.f324 := ⟨Go.Proofs.Tryz.func324, by kernel_rfl⟩
theorem fo325 : FnOk Go.Proofs.Tryz.prog 325 Go.Proofs.Tryz.f325 := ⟨Go.Proofs.Tryz.func325, by kernel_rfl⟩
theorem fo326 : FnOk Go.Proofs.Tryz.prog 326 Go.Proofs.Tryz.f326 := ⟨Go.Proofs.Tryz.func326, by kernel_rfl⟩
theorem fo327 : FnOk Go.Proofs.Tryz.prog 327 Go.Proofs.Tryz.f327 := ⟨Go.Proofs.Tryz.func327, by kernel_rfl⟩
theorem fo328 : FnOk Go.Proofs.Tryz.prog 328 Go.Proofs.Tryz.f328 := ⟨Go.Proofs.Tryz.func328, by kernel_rfl⟩
theorem fo329 : FnOk Go.Proofs.Tryz.prog 329 Go.Proofs.Tryz.f329 := ⟨Go.Proofs.Tryz.func329, by kernel_rfl⟩
theorem fo330 : FnOk Go.Proofs.Tryz.prog 330 Go.Proofs.Tryz.f330 := ⟨Go.Proofs.Tryz.func330, by kernel_rfl⟩
theorem fo331 : FnOk Go.Proofs.Tryz.prog 331 Go.Proofs.Tryz.f331 := ⟨Go.Proofs.Tryz.func331, by kernel_rfl⟩
theorem fo332 : FnOk Go.Proofs.Tryz.prog 332 Go.Proofs.Tryz.f332 := ⟨Go.Proofs.Tryz.func332, by kernel_rfl⟩
theorem fo333 : FnOk Go.Proofs.Tryz.prog 333 Go.Proofs.Tryz.f333 := ⟨Go.Proofs.Tryz.func333, by kernel_rfl⟩
theorem fo334 : FnOk Go.Proofs.Tryz.prog 334 Go.Proofs.Tryz.f334 := ⟨Go.Proofs.Tryz.func334, by kernel_rfl⟩
theorem fo335 : FnOk Go.Proofs.Tryz.prog 335 Go.Proofs.Tryz.f335 := ⟨Go.Proofs.Tryz.func335, by kernel_rfl⟩
theorem fo336 : FnOk Go.Proofs.Tryz.prog 336 Go.Proofs.Tryz.f336 := ⟨Go.Proofs.Tryz.func336, by kernel_rfl⟩
theorem fo337 : FnOk Go.Proofs.Tryz.prog 337 Go.Proofs.Tryz.f337 := ⟨Go.Proofs.Tryz.func337, by kernel_rfl⟩
theorem fo338 : FnOk Go.Proofs.Tryz.prog 338 Go.Proofs.Tryz.f338 := ⟨Go.Proofs.Tryz.func338, by kernel_rfl⟩
theorem fo339 : FnOk Go.Proofs.Tryz.prog 339 Go.Proofs.Tryz.f339 := ⟨Go.Proofs.Tryz.func339, by kernel_rfl⟩
theorem fo340 : FnOk Go.Proofs.Tryz.prog 340 Go.Proofs.Tryz.f340 := ⟨Go.Proofs.Tryz.func340, by kernel_rfl⟩
theorem fo341 : FnOk Go.Proofs.Tryz.prog 341 Go.Proofs.Tryz.f341 := ⟨Go.Proofs.Tryz.func341, by kernel_rfl⟩
theorem fo342 : FnOk Go.Proofs.Tryz.prog 342 Go.Proofs.Tryz.f342 := ⟨Go.Proofs.Tryz.func342, by kernel_rfl⟩
theorem fo343 : FnOk Go.Proofs.Tryz.prog 343 Go.Proofs.Tryz.f343 := ⟨Go.Proofs.Tryz.func343, by kernel_rfl⟩
theorem fo344 : FnOk Go.Proofs.Tryz.prog 344 Go.Proofs.Tryz.f344 := ⟨Go.Proofs.Tryz.func344, by kernel_rfl⟩
theorem fo345 : FnOk Go.Proofs.Tryz.prog 345 Go.Proofs.Tryz.f345 := ⟨Go.Proofs.Tryz.func345, by kernel_rfl⟩
theorem fo346 : FnOk Go.Proofs.Tryz.prog 346 Go.Proofs.Tryz.f346 := ⟨Go.Proofs.Tryz.func346, by kernel_rfl⟩
theorem fo347 : FnOk Go.Proofs.Tryz.prog 347 Go.Proofs.Tryz.f347 := ⟨Go.Proofs.Tryz.func347, by kernel_rfl⟩
theorem fo348 : FnOk Go.Proofs.Tryz.prog 348 Go.Proofs.Tryz.f348 := ⟨Go.Proofs.Tryz.func348, by kernel_rfl⟩
theorem fo349 : FnOk Go.Proofs.Tryz.prog 349 Go.Proofs.Tryz.f349 := ⟨Go.Proofs.Tryz.func349, by kernel_rfl⟩
theorem fo350 : FnOk Go.Proofs.Tryz.prog 350 Go.Proofs.Tryz.f350 := ⟨Go.Proofs.Tryz.func350, by kernel_rfl⟩
theorem fo351 : FnOk Go.Proofs.Tryz.prog 351 Go.Proofs.Tryz.f351 := ⟨Go.Proofs.Tryz.func351, by kernel_rfl⟩
theorem fo352 : FnOk Go.Proofs.Tryz.prog 352 Go.Proofs.Tryz.f352 := ⟨Go.Proofs.Tryz.func352, by kernel_rfl⟩
theorem fo353 : FnOk Go.Proofs.Tryz.prog 353 Go.Proofs.Tryz.f353 := ⟨Go.Proofs.Tryz.func353, by kernel_rfl⟩
theorem fo354 : FnOk Go.Proofs.Tryz.prog 354 Go.Proofs.Tryz.f354 := ⟨Go.Proofs.Tryz.func354, by kernel_rfl⟩
theorem fo355 : FnOk Go.Proofs.Tryz.prog 355 Go.Proofs.Tryz.f355 := ⟨Go.Proofs.Tryz.func355, by kernel_rfl⟩
theorem fo356 : FnOk Go.Proofs.Tryz.prog 356 Go.Proofs.Tryz.f356 := ⟨Go.Proofs.Tryz.func356, by kernel_rfl⟩
theorem fo357 : FnOk Go.Proofs.Tryz.prog 357 Go.Proofs.Tryz.f357 := ⟨Go.Proofs.Tryz.func357, by kernel_rfl⟩
theorem fo358 : FnOk Go.Proofs.Tryz.prog 358 Go.Proofs.Tryz.f358 := ⟨Go.Proofs.Tryz.func358, by kernel_rfl⟩
theorem fo359 : FnOk Go.Proofs.Tryz.prog 359 Go.Proofs.Tryz.f359 := ⟨Go.Proofs.Tryz.func359, by kernel_rfl⟩
theorem fo360 : FnOk Go.Proofs.Tryz.prog 360 Go.Proofs.Tryz.f360 := ⟨Go.Proofs.Tryz.func360, by kernel_rfl⟩
theorem fo361 : FnOk Go.Proofs.Tryz.prog 361 Go.Proofs.Tryz.f361 := ⟨Go.Proofs.Tryz.func361, by kernel_rfl⟩
theorem fo362 : FnOk Go.Proofs.Tryz.prog 362 Go.Proofs.Tryz.f362 := ⟨Go.Proofs.Tryz.func362, by kernel_rfl⟩
theorem fo363 : FnOk Go.Proofs.Tryz.prog 363 Go.Proofs.Tryz.f363 := ⟨Go.Proofs.Tryz.func363, by kernel_rfl⟩
theorem fo364 : FnOk Go.Proofs.Tryz.prog 364 Go.Proofs.Tryz.f364 := ⟨Go.Proofs.Tryz.func364, by kernel_rfl⟩
theorem fo365 : FnOk Go.Proofs.Tryz.prog 365 Go.Proofs.Tryz.f365 := ⟨Go.Proofs.Tryz.func365, by kernel_rfl⟩
theorem fo366 : FnOk Go.Proofs.Tryz.prog 366 Go.Proofs.Tryz.f366 := ⟨Go.Proofs.Tryz.func366, by kernel_rfl⟩
theorem fo367 : FnOk Go.Proofs.Tryz.prog 367 Go.Proofs.Tryz.f367 := ⟨Go.Proofs.Tryz.func367, by kernel_rfl⟩
theorem fo368 : FnOk Go.Proofs.Tryz.prog 368 Go.Proofs.Tryz.f368 := ⟨Go.Proofs.Tryz.func368, by kernel_rfl⟩
theorem fo369 : FnOk Go.Proofs.Tryz.prog 369 Go.Proofs.Tryz.f369 := ⟨Go.Proofs.Tryz.func369, by kernel_rfl⟩
theorem fo370 : FnOk Go.Proofs.Tryz.prog 370 Go.Proofs.Tryz.f370 := ⟨Go.Proofs.Tryz.func370, by kernel_rfl⟩
theorem fo371 : FnOk Go.Proofs.Tryz.prog 371 Go.Proofs.Tryz.f371 := ⟨Go.Proofs.Tryz.func371, by kernel_rfl⟩
theorem fo372 : FnOk Go.Proofs.Tryz.prog 372 Go.Proofs.Tryz.f372 := ⟨Go.Proofs.Tryz.func372, by kernel_rfl⟩
theorem fo373 : FnOk Go.Proofs.Tryz.prog 373 Go.Proofs.Tryz.f373 := ⟨Go.Proofs.Tryz.func373, by kernel_rfl⟩
theorem fo374 : FnOk Go.Proofs.Tryz.prog 374 Go.Proofs.Tryz.f374 := ⟨Go.Proofs.Tryz.func374, by kernel_rfl⟩
theorem fo375 : FnOk Go.Proofs.Tryz.prog 375 Go.Proofs.Tryz.f375 := ⟨Go.Proofs.Tryz.func375, by kernel_rfl⟩
theorem fo376 : FnOk Go.Proofs.Tryz.prog 376 Go.Proofs.Tryz.f376 := ⟨Go.Proofs.Tryz.func376, by kernel_rfl⟩
theorem fo377 : FnOk Go.Proofs.Tryz.prog 377 Go.Proofs.Tryz.f377 := ⟨Go.Proofs.Tryz.func377, by kernel_rfl⟩
theorem fo378 : FnOk Go.Proofs.Tryz.prog 378 Go.Proofs.Tryz.f378 := ⟨Go.Proofs.Tryz.func378, by kernel_rfl⟩
theorem fo379 : FnOk Go.Proofs.Tryz.prog 379 Go.Proofs.Tryz.f379 := ⟨Go.Proofs.Tryz.func379, by kernel_rfl⟩
theorem fo380 : FnOk Go.Proofs.Tryz.prog 380 Go.Proofs.Tryz.f380 := ⟨Go.Proofs.Tryz.func380, by kernel_rfl⟩
theorem fo381 : FnOk Go.Proofs.Tryz.prog 381 Go.Proofs.Tryz.f381 := ⟨Go.Proofs.Tryz.func381, by kernel_rfl⟩
theorem fo382 : FnOk Go.Proofs.Tryz.prog 382 Go.Proofs.Tryz.f382 := ⟨Go.Proofs.Tryz.func382, by kernel_rfl⟩
theorem fo383 : FnOk Go.Proofs.Tryz.prog 383 Go.Proofs.Tryz.f383 := ⟨Go.Proofs.Tryz.func383, by kernel_rfl⟩
theorem fo384 : FnOk Go.Proofs.Tryz.prog 384 Go.Proofs.Tryz.f384 := ⟨Go.Proofs.Tryz.func384, by kernel_rfl⟩
theorem fo385 : FnOk Go.Proofs.Tryz.prog 385 Go.Proofs.Tryz.f385 := ⟨Go.Proofs.Tryz.func385, by kernel_rfl⟩
theorem fo386 : FnOk Go.Proofs.Tryz.prog 386 Go.Proofs.Tryz.f386 := ⟨Go.Proofs.Tryz.func386, by kernel_rfl⟩
theorem fo387 : FnOk Go.Proofs.Tryz.prog 387 Go.Proofs.Tryz.f387 := ⟨Go.Proofs.Tryz.func387, by kernel_rfl⟩
theorem fo388 : FnOk Go.Proofs.Tryz.prog 388 Go.Proofs.Tryz.f388 := ⟨Go.Proofs.Tryz.func388, by kernel_rfl⟩
theorem fo389 : FnOk Go.Proofs.Tryz.prog 389 Go.Proofs.Tryz.f389 := ⟨Go.Proofs.Tryz.func389, by kernel_rfl⟩
theorem fo390 : FnOk Go.Proofs.Tryz.prog 390 Go.Proofs.Tryz.f390 := ⟨Go.Proofs.Tryz.func390, by kernel_rfl⟩
theorem fo391 : FnOk Go.Proofs.Tryz.prog 391 Go.Proofs.Tryz.f391 := ⟨Go.Proofs.Tryz.func391, by kernel_rfl⟩
theorem fo392 : FnOk Go.Proofs.Tryz.prog 392 Go.Proofs.Tryz.f392 := ⟨Go.Proofs.Tryz.func392, by kernel_rfl⟩
theorem fo393 : FnOk Go.Proofs.Tryz.prog 393 Go.Proofs.Tryz.f393 := ⟨Go.Proofs.Tryz.func393, by kernel_rfl⟩
theorem fo394 : FnOk Go.Proofs.Tryz.prog 394 Go.Proofs.Tryz.f394 := ⟨Go.Proofs.Tryz.func394, by kernel_rfl⟩
theorem fo395 : FnOk Go.Proofs.Tryz.prog 395 Go.Proofs.Tryz.f395 := ⟨Go.Proofs.Tryz.func395, by kernel_rfl⟩
theorem fo396 : FnOk Go.Proofs.Tryz.prog 396 Go.Proofs.Tryz.f396 := ⟨Go.Proofs.Tryz.func396, by kernel_rfl⟩
theorem fo397 : FnOk Go.Proofs.Tryz.prog 397 Go.Proofs.Tryz.f397 := ⟨Go.Proofs.Tryz.func397, by kernel_rfl⟩
theorem fo398 : FnOk Go.Proofs.Tryz.prog 398 Go.Proofs.Tryz.f398 := ⟨Go.Proofs.Tryz.func398, by kernel_rfl⟩
theorem fo399 : FnOk Go.Proofs.Tryz.prog 399 Go.Proofs.Tryz.f399 := ⟨Go.Proofs.Tryz.func399, by kernel_rfl⟩
theorem fo400 : FnOk Go.Proofs.Tryz.prog 400 Go.Proofs.Tryz.f400 := ⟨Go.Proofs.Tryz.func400, by kernel_rfl⟩
theorem fo401 : FnOk Go.Proofs.Tryz.prog 401 Go.Proofs.Tryz.f401 := ⟨Go.Proofs.Tryz.func401, by kernel_rfl⟩
theorem fo402 : FnOk Go.Proofs.Tryz.prog 402 Go.Proofs.Tryz.f402 := ⟨Go.Proofs.Tryz.func402, by kernel_rfl⟩
theorem fo403 : FnOk Go.Proofs.Tryz.prog 403 Go.Proofs.Tryz.f403 := ⟨Go.Proofs.Tryz.func403, by kernel_rfl⟩
theorem fo404 : FnOk Go.Proofs.Tryz.prog 404 Go.Proofs.Tryz.f404 := ⟨Go.Proofs.Tryz.func404, by kernel_rfl⟩
theorem fo405 : FnOk Go.Proofs.Tryz.prog 405 Go.Proofs.Tryz.f405 := ⟨Go.Proofs.Tryz.func405, by kernel_rfl⟩
theorem fo406 : FnOk Go.Proofs.Tryz.prog 406 Go.Proofs.Tryz.f406 := ⟨Go.Proofs.Tryz.func406, by kernel_rfl⟩
theorem fo407 : FnOk Go.Proofs.Tryz.prog 407 Go.Proofs.Tryz.f407 := ⟨Go.Proofs.Tryz.func407, by kernel_rfl⟩
theorem fo408 : FnOk Go.Proofs.Tryz.prog 408 Go.Proofs.Tryz.f408 := ⟨Go.Proofs.Tryz.func408, by kernel_rfl⟩
theorem fo409 : FnOk Go.Proofs.Tryz.prog 409 Go.Proofs.Tryz.f409 := ⟨Go.Proofs.Tryz.func409, by kernel_rfl⟩
theorem fo410 : FnOk Go.Proofs.Tryz.prog 410 Go.Proofs.Tryz.f410 := ⟨Go.Proofs.Tryz.func410, by kernel_rfl⟩
theorem fo411 : FnOk Go.Proofs.Tryz.prog 411 Go.Proofs.Tryz.f411 := ⟨Go.Proofs.Tryz.func411, by kernel_rfl⟩
theorem fo413 : FnOk Go.Proofs.Tryz.prog 413 Go.Proofs.Tryz.f413 := ⟨Go.Proofs.Tryz.func413, by kernel_rfl⟩
theorem fo414 : FnOk Go.Proofs.Tryz.prog 414 Go.Proofs.Tryz.f414 := ⟨Go.Proofs.Tryz.func414, by kernel_rfl⟩
theorem fo415 : FnOk Go.Proofs.Tryz.prog 415 Go.Proofs.Tryz.f415 := ⟨Go.Proofs.Tryz.func415, by kernel_rfl⟩
theorem fo416 : FnOk Go.Proofs.Tryz.prog 416 Go.Proofs.Tryz.f416 := ⟨Go.Proofs.Tryz.func416, by kernel_rfl⟩
theorem fo417 : FnOk Go.Proofs.Tryz.prog 417 Go.Proofs.Tryz.f417 := ⟨Go.Proofs.Tryz.func417, by kernel_rfl⟩
theorem fo419 : FnOk Go.Proofs.Tryz.prog 419 Go.Proofs.Tryz.f419 := ⟨Go.Proofs.Tryz.func419, by kernel_rfl⟩
theorem fo420 : FnOk Go.Proofs.Tryz.prog 420 Go.Proofs.Tryz.f420 := ⟨Go.Proofs.Tryz.func420, by kernel_rfl⟩
theorem fo421 : FnOk Go.Proofs.Tryz.prog 421 Go.Proofs.Tryz.f421 := ⟨Go.Proofs.Tryz.func421, by kernel_rfl⟩
theorem fo422 : FnOk Go.Proofs.Tryz.prog 422 Go.Proofs.Tryz.f422 := ⟨Go.Proofs.Tryz.func422, by kernel_rfl⟩
theorem fo423 : FnOk Go.Proofs.Tryz.prog 423 Go.Proofs.Tryz.f423 := ⟨Go.Proofs.Tryz.func423, by kernel_rfl⟩
theorem fo424 : FnOk Go.Proofs.Tryz.prog 424 Go.Proofs.Tryz.f424 := ⟨Go.Proofs.Tryz.func424, by kernel_rfl⟩
theorem fo425 : FnOk Go.Proofs.Tryz.prog 425 Go.Proofs.Tryz.f425 := ⟨Go.Proofs.Tryz.func425, by kernel_rfl⟩
theorem fo426 : FnOk Go.Proofs.Tryz.prog 426 Go.Proofs.Tryz.f426 := ⟨Go.Proofs.Tryz.func426, by kernel_rfl⟩
theorem fo427 : FnOk Go.Proofs.Tryz.prog 427 Go.Proofs.Tryz.f427 := ⟨Go.Proofs.Tryz.func427, by kernel_rfl⟩
theorem fo428 : FnOk Go.Proofs.Tryz.prog 428 Go.Proofs.Tryz.f428 := ⟨Go.Proofs.Tryz.func428, by kernel_rfl⟩
theorem fo429 : FnOk Go.Proofs.Tryz.prog 429 Go.Proofs.Tryz.f429 := ⟨Go.Proofs.Tryz.func429, by kernel_rfl⟩
theorem fo430 : FnOk Go.Proofs.Tryz.prog 430 Go.Proofs.Tryz.f430 := ⟨Go.Proofs.Tryz.func430, by kernel_rfl⟩
theorem fo431 : FnOk Go.Proofs.Tryz.prog 431 Go.Proofs.Tryz.f431 := ⟨Go.Proofs.Tryz.func431, by kernel_rfl⟩
theorem fo432 : FnOk Go.Proofs.Tryz.prog 432 Go.Proofs.Tryz.f432 := ⟨Go.Proofs.Tryz.func432, by kernel_rfl⟩
theorem fo433 : FnOk Go.Proofs.Tryz.prog 433 Go.Proofs.Tryz.f433 := ⟨Go.Proofs.Tryz.func433, by kernel_rfl⟩
theorem fo434 : FnOk Go.Proofs.Tryz.prog 434 Go.Proofs.Tryz.f434 := ⟨Go.Proofs.Tryz.func434, by kernel_rfl⟩
theorem fo435 : FnOk Go.Proofs.Tryz.prog 435 Go.Proofs.Tryz.f435 := ⟨Go.Proofs.Tryz.func435, by kernel_rfl⟩
theorem fo436 : FnOk Go.Proofs.Tryz.prog 436 Go.Proofs.Tryz.f436 := ⟨Go.Proofs.Tryz.func436, by kernel_rfl⟩
theorem fo439 : FnOk Go.Proofs.Tryz.prog 439 Go.Proofs.Tryz.f439 := ⟨Go.Proofs.Tryz.func439, by kernel_rfl⟩
theorem fo440 : FnOk Go.Proofs.Tryz.prog 440 Go.Proofs.Tryz.f440 := ⟨Go.Proofs.Tryz.func440, by kernel_rfl⟩
theorem fo441 : FnOk Go.Proofs.Tryz.prog 441 Go.Proofs.Tryz.f441 := ⟨Go.Proofs.Tryz.func441, by kernel_rfl⟩
theorem fo442 : FnOk Go.Proofs.Tryz.prog 442 Go.Proofs.Tryz.f442 := ⟨Go.Proofs.Tryz.func442, by kernel_rfl⟩
theorem fo443 : FnOk Go.Proofs.Tryz.prog 443 Go.Proofs.Tryz.f443 := ⟨Go.Proofs.Tryz.func443, by kernel_rfl⟩
theorem fo444 : FnOk Go.Proofs.Tryz.prog 444 Go.Proofs.Tryz.f444 := ⟨Go.Proofs.Tryz.func444, by kernel_rfl⟩
theorem fo445 : FnOk Go.Proofs.Tryz.prog 445 Go.Proofs.Tryz.f445 := ⟨Go.Proofs.Tryz.func445, by kernel_rfl⟩
theorem fo446 : FnOk Go.Proofs.Tryz.prog 446 Go.Proofs.Tryz.f446 := ⟨Go.Proofs.Tryz.func446, by kernel_rfl⟩
theorem fo447 : FnOk Go.Proofs.Tryz.prog 447 Go.Proofs.Tryz.f447 := ⟨Go.Proofs.Tryz.func447, by kernel_rfl⟩
theorem fo448 : FnOk Go.Proofs.Tryz.prog 448 Go.Proofs.Tryz.f448 := ⟨Go.Proofs.Tryz.func448, by kernel_rfl⟩
theorem fo449 : FnOk Go.Proofs.Tryz.prog 449 Go.Proofs.Tryz.f449 := ⟨Go.Proofs.Tryz.func449, by kernel_rfl⟩
theorem fo450 : FnOk Go.Proofs.Tryz.prog 450 Go.Proofs.Tryz.f450 := ⟨Go.Proofs.Tryz.func450, by kernel_rfl⟩
theorem fo451 : FnOk Go.Proofs.Tryz.prog 451 Go.Proofs.Tryz.f451 := ⟨Go.Proofs.Tryz.func451, by kernel_rfl⟩
noncomputable def ft : Tr Func := (.node none (.node none (.node none (.node (some Go.Proofs.Tryz.f7) (.node none (.node (some Go.Proofs.Tryz.f31) (.node (some Go.Proofs.Tryz.f63) (.node (some Go.Proofs.Tryz.f127) (.node (some Go.Proofs.Tryz.f255) .leaf .leaf) (.node (some Go.Proofs.Tryz.f383) .leaf .leaf)) (.node (some Go.Proofs.Tryz.f191) (.node (some Go.Proofs.Tryz.f319) .leaf .leaf) (.node (some Go.Proofs.Tryz.f447) .leaf .leaf))) (.node none (.node (some Go.Proofs.Tryz.f159) (.node (some Go.Proofs.Tryz.f287) .leaf .leaf) (.node (some Go.Proofs.Tryz.f415) .leaf .leaf)) (.node (some Go.Proofs.Tryz.f223) (.node (some Go.Proofs.Tryz.f351) .leaf .leaf) .leaf))) (.node none (.node none (.node none (.node (some Go.Proofs.Tryz.f271) .leaf .leaf) (.node (some Go.Proofs.Tryz.f399) .leaf .leaf)) (.node (some Go.Proofs.Tryz.f207) (.node (some Go.Proofs.Tryz.f335) .leaf .leaf) .leaf)) (.node (some Go.Proofs.Tryz.f111) (.node (some Go.Proofs.Tryz.f175) (.node (some Go.Proofs.Tryz.f303) .leaf .leaf) (.node (some Go.Proofs.Tryz.f431) .leaf .leaf)) (.node (some Go.Proofs.Tryz.f239) (.node (some Go.Proofs.Tryz.f367) .leaf .leaf) .leaf)))) (.node (some Go.Proofs.Tryz.f23) (.node (some Go.Proofs.Tryz.f39) (.node (some Go.Proofs.Tryz.f71) (.node (some Go.Proofs.Tryz.f135) (.node (some Go.Proofs.Tryz.f263) .leaf .leaf) (.node (some Go.Proofs.Tryz.f391) .leaf .leaf)) (.node (some Go.Proofs.Tryz.f199) (.node (some Go.Proofs.Tryz.f327) .leaf .leaf) .leaf)) (.node (some Go.Proofs.Tryz.f103) (.node (some Go.Proofs.Tryz.f167) (.node (some Go.Proofs.Tryz.f295) .leaf .leaf) (.node (some Go.Proofs.Tryz.f423) .leaf .leaf)) (.node (some Go.Proofs.Tryz.f231) (.node (some Go.Proofs.Tryz.f359) .leaf .leaf) .leaf))) (.node (some Go.Proofs.Tryz.f55) (.node none (.node none (.node (some Go.Proofs.Tryz.f279) .leaf .leaf) (.node (some Go.Proofs.Tryz.f407) .leaf .leaf)) (.node (some Go.Proofs.Tryz.f215) (.node (some Go.Proofs.Tryz.f343) .leaf .leaf) .leaf)) (.node (some Go.Proofs.Tryz.f119) (.node (some Go.Proofs.Tryz.f183) (.node (some Go.Proofs.Tryz.f311) .leaf .leaf) (.node (some Go.Proofs.Tryz.f439) .leaf .leaf)) (.node (some Go.Proofs.Tryz.f247) (.node (some Go.Proofs.Tryz.f375) .leaf .leaf) .leaf))))) (.node none (.node none (.node none (.node (some Go.Proofs.Tryz.f67) (.node (some Go.Proofs.Tryz.f131) (.node (some Go.Proofs.Tryz.f259) .leaf .leaf) (.node (some Go.Proofs.Tryz.f387) .leaf .leaf)) (.node (some Go.Proofs.Tryz.f195) (.node (some Go.Proofs.Tryz.f323) .leaf .leaf) (.node (some Go.Proofs.Tryz.f451) .leaf .leaf))) (.node (some Go.Proofs.Tryz.f99) (.node (some Go.Proofs.Tryz.f163) (.node (some Go.Proofs.Tryz.f291) .leaf .leaf) (.node (some Go.Proofs.Tryz.f419) .leaf .leaf)) (.node (some Go.Proofs.Tryz.f227) (.node (some Go.Proofs.Tryz.f355) .leaf .leaf) .leaf))) (.node (some Go.Proofs.Tryz.f51) (.node (some Go.Proofs.Tryz.f83) (.node none (.node (some Go.Proofs.Tryz.f275) .leaf .leaf) (.node (some Go.Proofs.Tryz.f403) .leaf .leaf)) (.node (some Go.Proofs.Tryz.f211) (.node (some Go.Proofs.Tryz.f339) .leaf .leaf) .leaf)) (.node (some Go.Proofs.Tryz.f115) (.node (some Go.Proofs.Tryz.f179) (.node (some Go.Proofs.Tryz.f307) .leaf .leaf) (.node (some Go.Proofs.Tryz.f435) .leaf .leaf)) (.node (some Go.Proofs.Tryz.f243) (.node (some Go.Proofs.Tryz.f371) .leaf .leaf) .leaf)))) (.node (some Go.Proofs.Tryz.f27) (.node (some Go.Proofs.Tryz.f43) (.node (some Go.Proofs.Tryz.f75) (.node none (.node (some Go.Proofs.Tryz.f267) .leaf .leaf) (.node (some Go.Proofs.Tryz.f395) .leaf .leaf)) (.node (some Go.Proofs.Tryz.f203) (.node (some Go.Proofs.Tryz.f331) .leaf .leaf) .leaf)) (.node (some Go.Proofs.Tryz.f107) (.node (some Go.Proofs.Tryz.f171) (.node (some Go.Proofs.Tryz.f299) .leaf .leaf) (.node (some Go.Proofs.Tryz.f427) .leaf .leaf)) (.node (some Go.Proofs.Tryz.f235) (.node (some Go.Proofs.Tryz.f363) .leaf .leaf) .leaf))) (.node (some Go.Proofs.Tryz.f59) (.node (some Go.Proofs.Tryz.f91) (.node (some Go.Proofs.Tryz.f155) (.node (some Go.Proofs.Tryz.f283) .leaf .leaf) (.node (some Go.Proofs.Tryz.f411) .leaf .leaf)) (.node (some Go.Proofs.Tryz.f219) (.node (some Go.Proofs.Tryz.f347) .leaf .leaf) .leaf)) (.node (some Go.Proofs.Tryz.f123) (.node (some Go.Proofs.Tryz.f187) (.node (some Go.Proofs.Tryz.f315) .leaf .leaf) (.node (some Go.Proofs.Tryz.f443) .leaf .leaf)) (.node (some Go.Proofs.Tryz.f251) (.node (some Go.Proofs.Tryz.f379) .leaf .leaf) .leaf)))))) (.node none (.node (some Go.Proofs.Tryz.f9) (.node (some Go.Proofs.Tryz.f17) (.node none (.node (some Go.Proofs.Tryz.f65) (.node (some Go.Proofs.Tryz.f129) (.node (some Go.Proofs.Tryz.f257) .leaf .leaf) (.node (some Go.Proofs.Tryz.f385) .leaf .leaf)) (.node (some Go.Proofs.Tryz.f193) (.node (some Go.Proofs.Tryz.f321) .leaf .leaf) (.node (some Go.Proofs.Tryz.f449) .leaf .leaf))) (.node none (.node (some Go.Proofs.Tryz.f161) (.node (some Go.Proofs.Tryz.f289) .leaf .leaf) (.node (some Go.Proofs.Tryz.f417) .leaf .leaf)) (.node none (.node (some Go.Proofs.Tryz.f353) .leaf .leaf) .leaf))) (.node none (.node (some Go.Proofs.Tryz.f81) (.node (some Go.Proofs.Tryz.f145) (.node (some Go.Proofs.Tryz.f273) .leaf .leaf) (.node (some Go.Proofs.Tryz.f401) .leaf .leaf)) (.node (some Go.Proofs.Tryz.f209) (.node (some Go.Proofs.Tryz.f337) .leaf .leaf) .leaf)) (.node (some Go.Proofs.Tryz.f113) (.node (some Go.Proofs.Tryz.f177) (.node (some Go.Proofs.Tryz.f305) .leaf .leaf) (.node (some Go.Proofs.Tryz.f433) .leaf .leaf)) (.node (some Go.Proofs.Tryz.f241) (.node (some Go.Proofs.Tryz.f369) .leaf .leaf) .leaf)))) (.node none (.node (some Go.Proofs.Tryz.f41) (.node (some Go.Proofs.Tryz.f73) (.node none (.node (some Go.Proofs.Tryz.f265) .leaf .leaf) (.node (some Go.Proofs.Tryz.f393) .leaf .leaf)) (.node (some Go.Proofs.Tryz.f201) (.node (some Go.Proofs.Tryz.f329) .leaf .leaf) .leaf)) (.node (some Go.Proofs.Tryz.f105) (.node (some Go.Proofs.Tryz.f169) (.node (some Go.Proofs.Tryz.f297) .leaf .leaf) (.node (some Go.Proofs.Tryz.f425) .leaf .leaf)) (.node (some Go.Proofs.Tryz.f233) (.node (some Go.Proofs.Tryz.f361) .leaf .leaf) .leaf))) (.node (some Go.Proofs.Tryz.f57) (.node (some Go.Proofs.Tryz.f89) (.node (some Go.Proofs.Tryz.f153) (.node (some Go.Proofs.Tryz.f281) .leaf .leaf) (.node (some Go.Proofs.Tryz.f409) .leaf .leaf)) (.node (some Go.Proofs.Tryz.f217) (.node (some Go.Proofs.Tryz.f345) .leaf .leaf) .leaf)) (.node (some Go.Proofs.Tryz.f121) (.node (some Go.Proofs.Tryz.f185) (.node (some Go.Proofs.Tryz.f313) .leaf .leaf) (.node (some Go.Proofs.Tryz.f441) .leaf .leaf)) (.node (some Go.Proofs.Tryz.f249) (.node (some Go.Proofs.Tryz.f377) .leaf .leaf) .leaf))))) (.node (some Go.Proofs.Tryz.f13) (.node none (.node none (.node (some Go.Proofs.Tryz.f69) (.node (some Go.Proofs.Tryz.f133) (.node (some Go.Proofs.Tryz.f261) .leaf .leaf) (.node (some Go.Proofs.Tryz.f389) .leaf .leaf)) (.node (some Go.Proofs.Tryz.f197) (.node (some Go.Proofs.Tryz.f325) .leaf .leaf) .leaf)) (.node (some Go.Proofs.Tryz.f101) (.node (some Go.Proofs.Tryz.f165) (.node (some Go.Proofs.Tryz.f293) .leaf .leaf) (.node (some Go.Proofs.Tryz.f421) .leaf .leaf)) (.node (some Go.Proofs.Tryz.f229) (.node (some Go.Proofs.Tryz.f357) .leaf .leaf) .leaf))) (.node none (.node (some Go.Proofs.Tryz.f85) (.node (some Go.Proofs.Tryz.f149) (.node (some Go.Proofs.Tryz.f277) .leaf .leaf) (.node (some Go.Proofs.Tryz.f405) .leaf .leaf)) (.node (some Go.Proofs.Tryz.f213) (.node (some Go.Proofs.Tryz.f341) .leaf .leaf) .leaf)) (.node (some Go.Proofs.Tryz.f117) (.node (some Go.Proofs.Tryz.f181) (.node (some Go.Proofs.Tryz.f309) .leaf .leaf) .leaf) (.node (some Go.Proofs.Tryz.f245) (.node (some Go.Proofs.Tryz.f373) .leaf .leaf) .leaf)))) (.node (some Go.Proofs.Tryz.f29) (.node (some Go.Proofs.Tryz.f45) (.node none (.node (some Go.Proofs.Tryz.f141) (.node (some Go.Proofs.Tryz.f269) .leaf .leaf) (.node (some Go.Proofs.Tryz.f397) .leaf .leaf)) (.node (some Go.Proofs.Tryz.f205) (.node (some Go.Proofs.Tryz.f333) .leaf .leaf) .leaf)) (.node (some Go.Proofs.Tryz.f109) (.node (some Go.Proofs.Tryz.f173) (.node (some Go.Proofs.Tryz.f301) .leaf .leaf) (.node (some Go.Proofs.Tryz.f429) .leaf .leaf)) (.node (some Go.Proofs.Tryz.f237) (.node (some Go.Proofs.Tryz.f365) .leaf .leaf) .leaf))) (.node (some Go.Proofs.Tryz.f61) (.node none (.node (some Go.Proofs.Tryz.f157) (.node (some Go.Proofs.Tryz.f285) .leaf .leaf) (.node (some Go.Proofs.Tryz.f413) .leaf .leaf)) (.node none (.node (some Go.Proofs.Tryz.f349) .leaf .leaf) .leaf)) (.node (some Go.Proofs.Tryz.f125) (.node (some Go.Proofs.Tryz.f189) (.node (some Go.Proofs.Tryz.f317) .leaf .leaf) (.node (some Go.Proofs.Tryz.f445) .leaf .leaf)) (.node (some Go.Proofs.Tryz.f253) (.node (some Go.Proofs.Tryz.f381) .leaf .leaf) .leaf))))))) (.node none (.node none (.node (some Go.Proofs.Tryz.f8) (.node (some Go.Proofs.Tryz.f16) (.node (some Go.Proofs.Tryz.f32) (.node (some Go.Proofs.Tryz.f64) (.node (some Go.Proofs.Tryz.f128) (.node (some Go.Proofs.Tryz.f256) .leaf .leaf) (.node (some Go.Proofs.Tryz.f384) .leaf .leaf)) (.node (some Go.Proofs.Tryz.f192) (.node (some Go.Proofs.Tryz.f320) .leaf .leaf) (.node (some Go.Proofs.Tryz.f448) .leaf .leaf))) (.node (some Go.Proofs.Tryz.f96) (.node (some Go.Proofs.Tryz.f160) (.node (some Go.Proofs.Tryz.f288) .leaf .leaf) (.node (some Go.Proofs.Tryz.f416) .leaf .leaf)) (.node none (.node (some Go.Proofs.Tryz.f352) .leaf .leaf) .leaf))) (.node none (.node none (.node (some Go.Proofs.Tryz.f144) (.node (some Go.Proofs.Tryz.f272) .leaf .leaf) (.node (some Go.Proofs.Tryz.f400) .leaf .leaf)) (.node (some Go.Proofs.Tryz.f208) (.node (some Go.Proofs.Tryz.f336) .leaf .leaf) .leaf)) (.node (some Go.Proofs.Tryz.f112) (.node (some Go.Proofs.Tryz.f176) (.node (some Go.Proofs.Tryz.f304) .leaf .leaf) (.node (some Go.Proofs.Tryz.f432) .leaf .leaf)) (.node (some Go.Proofs.Tryz.f240) (.node (some Go.Proofs.Tryz.f368) .leaf .leaf) .leaf)))) (.node (some Go.Proofs.Tryz.f24) (.node (some Go.Proofs.Tryz.f40) (.node (some Go.Proofs.Tryz.f72) (.node none (.node (some Go.Proofs.Tryz.f264) .leaf .leaf) (.node (some Go.Proofs.Tryz.f392) .leaf .leaf)) (.node (some Go.Proofs.Tryz.f200) (.node (some Go.Proofs.Tryz.f328) .leaf .leaf) .leaf)) (.node (some Go.Proofs.Tryz.f104) (.node (some Go.Proofs.Tryz.f168) (.node (some Go.Proofs.Tryz.f296) .leaf .leaf) (.node (some Go.Proofs.Tryz.f424) .leaf .leaf)) (.node (some Go.Proofs.Tryz.f232) (.node (some Go.Proofs.Tryz.f360) .leaf .leaf) .leaf))) (.node (some Go.Proofs.Tryz.f56) (.node none (.node (some Go.Proofs.Tryz.f152) (.node (some Go.Proofs.Tryz.f280) .leaf .leaf) (.node (some Go.Proofs.Tryz.f408) .leaf .leaf)) (.node (some Go.Proofs.Tryz.f216) (.node (some Go.Proofs.Tryz.f344) .leaf .leaf) .leaf)) (.node (some Go.Proofs.Tryz.f120) (.node (some Go.Proofs.Tryz.f184) (.node (some Go.Proofs.Tryz.f312) .leaf .leaf) (.node (some Go.Proofs.Tryz.f440) .leaf .leaf)) (.node (some Go.Proofs.Tryz.f248) (.node (some Go.Proofs.Tryz.f376) .leaf .leaf) .leaf))))) (.node none (.node none (.node none (.node (some Go.Proofs.Tryz.f68) (.node (some Go.Proofs.Tryz.f132) (.node (some Go.Proofs.Tryz.f260) .leaf .leaf) (.node (some Go.Proofs.Tryz.f388) .leaf .leaf)) (.node (some Go.Proofs.Tryz.f196) (.node (some Go.Proofs.Tryz.f324) .leaf .leaf) .leaf)) (.node (some Go.Proofs.Tryz.f100) (.node (some Go.Proofs.Tryz.f164) (.node (some Go.Proofs.Tryz.f292) .leaf .leaf) (.node (some Go.Proofs.Tryz.f420) .leaf .leaf)) (.node (some Go.Proofs.Tryz.f228) (.node (some Go.Proofs.Tryz.f356) .leaf .leaf) .leaf))) (.node (some Go.Proofs.Tryz.f52) (.node (some Go.Proofs.Tryz.f84) (.node none (.node (some Go.Proofs.Tryz.f276) .leaf .leaf) (.node (some Go.Proofs.Tryz.f404) .leaf .leaf)) (.node (some Go.Proofs.Tryz.f212) (.node (some Go.Proofs.Tryz.f340) .leaf .leaf) .leaf)) (.node (some Go.Proofs.Tryz.f116) (.node (some Go.Proofs.Tryz.f180) (.node (some Go.Proofs.Tryz.f308) .leaf .leaf) (.node (some Go.Proofs.Tryz.f436) .leaf .leaf)) (.node (some Go.Proofs.Tryz.f244) (.node (some Go.Proofs.Tryz.f372) .leaf .leaf) .leaf)))) (.node (some Go.Proofs.Tryz.f28) (.node none (.node none (.node (some Go.Proofs.Tryz.f140) (.node (some Go.Proofs.Tryz.f268) .leaf .leaf) (.node (some Go.Proofs.Tryz.f396) .leaf .leaf)) (.node (some Go.Proofs.Tryz.f204) (.node (some Go.Proofs.Tryz.f332) .leaf .leaf) .leaf)) (.node (some Go.Proofs.Tryz.f108) (.node (some Go.Proofs.Tryz.f172) (.node (some Go.Proofs.Tryz.f300) .leaf .leaf) (.node (some Go.Proofs.Tryz.f428) .leaf .leaf)) (.node (some Go.Proofs.Tryz.f236) (.node (some Go.Proofs.Tryz.f364) .leaf .leaf) .leaf))) (.node (some Go.Proofs.Tryz.f60) (.node none (.node (some Go.Proofs.Tryz.f156) (.node (some Go.Proofs.Tryz.f284) .leaf .leaf) .leaf) (.node (some Go.Proofs.Tryz.f220) (.node (some Go.Proofs.Tryz.f348) .leaf .leaf) .leaf)) (.node (some Go.Proofs.Tryz.f124) (.node (some Go.Proofs.Tryz.f188) (.node (some Go.Proofs.Tryz.f316) .leaf .leaf) (.node (some Go.Proofs.Tryz.f444) .leaf .leaf)) (.node (some Go.Proofs.Tryz.f252) (.node (some Go.Proofs.Tryz.f380) .leaf .leaf) .leaf)))))) (.node none (.node none (.node none (.node none (.node (some Go.Proofs.Tryz.f66) (.node (some Go.Proofs.Tryz.f130) (.node (some Go.Proofs.Tryz.f258) .leaf .leaf) (.node (some Go.Proofs.Tryz.f386) .leaf .leaf)) (.node (some Go.Proofs.Tryz.f194) (.node (some Go.Proofs.Tryz.f322) .leaf .leaf) (.node (some Go.Proofs.Tryz.f450) .leaf .leaf))) (.node none (.node (some Go.Proofs.Tryz.f162) (.node (some Go.Proofs.Tryz.f290) .leaf .leaf) .leaf) (.node none (.node (some Go.Proofs.Tryz.f354) .leaf .leaf) .leaf))) (.node (some Go.Proofs.Tryz.f50) (.node (some Go.Proofs.Tryz.f82) (.node none (.node (some Go.Proofs.Tryz.f274) .leaf .leaf) (.node (some Go.Proofs.Tryz.f402) .leaf .leaf)) (.node (some Go.Proofs.Tryz.f210) (.node (some Go.Proofs.Tryz.f338) .leaf .leaf) .leaf)) (.node (some Go.Proofs.Tryz.f114) (.node (some Go.Proofs.Tryz.f178) (.node (some Go.Proofs.Tryz.f306) .leaf .leaf) (.node (some Go.Proofs.Tryz.f434) .leaf .leaf)) (.node (some Go.Proofs.Tryz.f242) (.node (some Go.Proofs.Tryz.f370) .leaf .leaf) .leaf)))) (.node none (.node (some Go.Proofs.Tryz.f42) (.node (some Go.Proofs.Tryz.f74) (.node none (.node (some Go.Proofs.Tryz.f266) .leaf .leaf) (.node (some Go.Proofs.Tryz.f394) .leaf .leaf)) (.node (some Go.Proofs.Tryz.f202) (.node (some Go.Proofs.Tryz.f330) .leaf .leaf) .leaf)) (.node (some Go.Proofs.Tryz.f106) (.node (some Go.Proofs.Tryz.f170) (.node (some Go.Proofs.Tryz.f298) .leaf .leaf) (.node (some Go.Proofs.Tryz.f426) .leaf .leaf)) (.node (some Go.Proofs.Tryz.f234) (.node (some Go.Proofs.Tryz.f362) .leaf .leaf) .leaf))) (.node (some Go.Proofs.Tryz.f58) (.node (some Go.Proofs.Tryz.f90) (.node (some Go.Proofs.Tryz.f154) (.node (some Go.Proofs.Tryz.f282) .leaf .leaf) (.node (some Go.Proofs.Tryz.f410) .leaf .leaf)) (.node (some Go.Proofs.Tryz.f218) (.node (some Go.Proofs.Tryz.f346) .leaf .leaf) .leaf)) (.node (some Go.Proofs.Tryz.f122) (.node (some Go.Proofs.Tryz.f186) (.node (some Go.Proofs.Tryz.f314) .leaf .leaf) (.node (some Go.Proofs.Tryz.f442) .leaf .leaf)) (.node (some Go.Proofs.Tryz.f250) (.node (some Go.Proofs.Tryz.f378) .leaf .leaf) .leaf))))) (.node (some Go.Proofs.Tryz.f14) (.node (some Go.Proofs.Tryz.f22) (.node none (.node (some Go.Proofs.Tryz.f70) (.node (some Go.Proofs.Tryz.f134) (.node (some Go.Proofs.Tryz.f262) .leaf .leaf) (.node (some Go.Proofs.Tryz.f390) .leaf .leaf)) (.node (some Go.Proofs.Tryz.f198) (.node (some Go.Proofs.Tryz.f326) .leaf .leaf) .leaf)) (.node (some Go.Proofs.Tryz.f102) (.node (some Go.Proofs.Tryz.f166) (.node (some Go.Proofs.Tryz.f294) .leaf .leaf) (.node (some Go.Proofs.Tryz.f422) .leaf .leaf)) (.node (some Go.Proofs.Tryz.f230) (.node (some Go.Proofs.Tryz.f358) .leaf .leaf) .leaf))) (.node (some Go.Proofs.Tryz.f54) (.node (some Go.Proofs.Tryz.f86) (.node (some Go.Proofs.Tryz.f150) (.node (some Go.Proofs.Tryz.f278) .leaf .leaf) (.node (some Go.Proofs.Tryz.f406) .leaf .leaf)) (.node (some Go.Proofs.Tryz.f214) (.node (some Go.Proofs.Tryz.f342) .leaf .leaf) .leaf)) (.node (some Go.Proofs.Tryz.f118) (.node (some Go.Proofs.Tryz.f182) (.node (some Go.Proofs.Tryz.f310) .leaf .leaf) .leaf) (.node (some Go.Proofs.Tryz.f246) (.node (some Go.Proofs.Tryz.f374) .leaf .leaf) .leaf)))) (.node (some Go.Proofs.Tryz.f30) (.node none (.node none (.node (some Go.Proofs.Tryz.f142) (.node (some Go.Proofs.Tryz.f270) .leaf .leaf) (.node (some Go.Proofs.Tryz.f398) .leaf .leaf)) (.node (some Go.Proofs.Tryz.f206) (.node (some Go.Proofs.Tryz.f334) .leaf .leaf) .leaf)) (.node (some Go.Proofs.Tryz.f110) (.node (some Go.Proofs.Tryz.f174) (.node (some Go.Proofs.Tryz.f302) .leaf .leaf) (.node (some Go.Proofs.Tryz.f430) .leaf .leaf)) (.node (some Go.Proofs.Tryz.f238) (.node (some Go.Proofs.Tryz.f366) .leaf .leaf) .leaf))) (.node (some Go.Proofs.Tryz.f62) (.node (some Go.Proofs.Tryz.f94) (.node (some Go.Proofs.Tryz.f158) (.node (some Go.Proofs.Tryz.f286) .leaf .leaf) (.node (some Go.Proofs.Tryz.f414) .leaf .leaf)) (.node (some Go.Proofs.Tryz.f222) (.node (some Go.Proofs.Tryz.f350) .leaf .leaf) .leaf)) (.node (some Go.Proofs.Tryz.f126) (.node (some Go.Proofs.Tryz.f190) (.node (some Go.Proofs.Tryz.f318) .leaf .leaf) (.node (some Go.Proofs.Tryz.f446) .leaf .leaf)) (.node (some Go.Proofs.Tryz.f254) (.node (some Go.Proofs.Tryz.f382) .leaf .leaf) .leaf))))))))
theorem ft_ok : Fok Go.Proofs.Tryz.prog ft := fok_of (⟨trivial, ⟨trivial, ⟨trivial, ⟨fo7, ⟨trivial, ⟨fo31, ⟨fo63, ⟨fo127, ⟨fo255, trivial, trivial⟩, ⟨fo383, trivial, trivial⟩⟩, ⟨fo191, ⟨fo319, trivial, trivial⟩, ⟨fo447, trivial, trivial⟩⟩⟩, ⟨trivial, ⟨fo159, ⟨fo287, trivial, trivial⟩, ⟨fo415, trivial, trivial⟩⟩, ⟨fo223, ⟨fo351, trivial, trivial⟩, trivial⟩⟩⟩, ⟨trivial, ⟨trivial, ⟨trivial, ⟨fo271, trivial, trivial⟩, ⟨fo399, trivial, trivial⟩⟩, ⟨fo207, ⟨fo335, trivial, trivial⟩, trivial⟩⟩, ⟨fo111, ⟨fo175, ⟨fo303, trivial, trivial⟩, ⟨fo431, trivial, trivial⟩⟩, ⟨fo239, ⟨fo367, trivial, trivial⟩, trivial⟩⟩⟩⟩, ⟨fo23, ⟨fo39, ⟨fo71, ⟨fo135, ⟨fo263, trivial, trivial⟩, ⟨fo391, trivial, trivial⟩⟩, ⟨fo199, ⟨fo327, trivial, trivial⟩, trivial⟩⟩, ⟨fo103, ⟨fo167, ⟨fo295, trivial, trivial⟩, ⟨fo423, trivial, trivial⟩⟩, ⟨fo231, ⟨fo359, trivial, trivial⟩, trivial⟩⟩⟩, ⟨fo55, ⟨trivial, ⟨trivial, ⟨fo279, trivial, trivial⟩, ⟨fo407, trivial, trivial⟩⟩, ⟨fo215, ⟨fo343, trivial, trivial⟩, trivial⟩⟩, ⟨fo119, ⟨fo183, ⟨fo311, trivial, trivial⟩, ⟨fo439, trivial, trivial⟩⟩, ⟨fo247, ⟨fo375, trivial, trivial⟩, trivial⟩⟩⟩⟩⟩, ⟨trivial, ⟨trivial, ⟨trivial, ⟨fo67, ⟨fo131, ⟨fo259, trivial, trivial⟩, ⟨fo387, trivial, trivial⟩⟩, ⟨fo195, ⟨fo323, trivial, trivial⟩, ⟨fo451, trivial, trivial⟩⟩⟩, ⟨fo99, ⟨fo163, ⟨fo291, trivial, trivial⟩, ⟨fo419, trivial, trivial⟩⟩, ⟨fo227, ⟨fo355, trivial, trivial⟩, trivial⟩⟩⟩, ⟨fo51, ⟨fo83, ⟨trivial, ⟨fo275, trivial, trivial⟩, ⟨fo403, trivial, trivial⟩⟩, ⟨fo211, ⟨fo339, trivial, trivial⟩, trivial⟩⟩, ⟨fo115, ⟨fo179, ⟨fo307, trivial, trivial⟩, ⟨fo435, trivial, trivial⟩⟩, ⟨fo243, ⟨fo371, trivial, trivial⟩, trivial⟩⟩⟩⟩, ⟨fo27, ⟨fo43, ⟨fo75, ⟨trivial, ⟨fo267, trivial, trivial⟩, ⟨fo395, trivial, trivial⟩⟩, ⟨fo203, ⟨fo331, trivial, trivial⟩, trivial⟩⟩, ⟨fo107, ⟨fo171, ⟨fo299, trivial, trivial⟩, ⟨fo427, trivial, trivial⟩⟩, ⟨fo235, ⟨fo363, trivial, trivial⟩, trivial⟩⟩⟩, ⟨fo59, ⟨fo91, ⟨fo155, ⟨fo283, trivial, trivial⟩, ⟨fo411, trivial, trivial⟩⟩, ⟨fo219, ⟨fo347, trivial, trivial⟩, trivial⟩⟩, ⟨fo123, ⟨fo187, ⟨fo315, trivial, trivial⟩, ⟨fo443, trivial, trivial⟩⟩, ⟨fo251, ⟨fo379, trivial, trivial⟩, trivial⟩⟩⟩⟩⟩⟩, ⟨trivial, ⟨fo9, ⟨fo17, ⟨trivial, ⟨fo65, ⟨fo129, ⟨fo257, trivial, trivial⟩, ⟨fo385, trivial, trivial⟩⟩, ⟨fo193, ⟨fo321, trivial, trivial⟩, ⟨fo449, trivial, trivial⟩⟩⟩, ⟨trivial, ⟨fo161, ⟨fo289, trivial, trivial⟩, ⟨fo417, trivial, trivial⟩⟩, ⟨trivial, ⟨fo353, trivial, trivial⟩, trivial⟩⟩⟩, ⟨trivial, ⟨fo81, ⟨fo145, ⟨fo273, trivial, trivial⟩, ⟨fo401, trivial, trivial⟩⟩, ⟨fo209, ⟨fo337, trivial, trivial⟩, trivial⟩⟩, ⟨fo113, ⟨fo177, ⟨fo305, trivial, trivial⟩, ⟨fo433, trivial, trivial⟩⟩, ⟨fo241, ⟨fo369, trivial, trivial⟩, trivial⟩⟩⟩⟩, ⟨trivial, ⟨fo41, ⟨fo73, ⟨trivial, ⟨fo265, trivial, trivial⟩, ⟨fo393, trivial, trivial⟩⟩, ⟨fo201, ⟨fo329, trivial, trivial⟩, trivial⟩⟩, ⟨fo105, ⟨fo169, ⟨fo297, trivial, trivial⟩, ⟨fo425, trivial, trivial⟩⟩, ⟨fo233, ⟨fo361, trivial, trivial⟩, trivial⟩⟩⟩, ⟨fo57, ⟨fo89, ⟨fo153, ⟨fo281, trivial, trivial⟩, ⟨fo409, trivial, trivial⟩⟩, ⟨fo217, ⟨fo345, trivial, trivial⟩, trivial⟩⟩, ⟨fo121, ⟨fo185, ⟨fo313, trivial, trivial⟩, ⟨fo441, trivial, trivial⟩⟩, ⟨fo249, ⟨fo377, trivial, trivial⟩, trivial⟩⟩⟩⟩⟩, ⟨fo13, ⟨trivial, ⟨trivial, ⟨fo69, ⟨fo133, ⟨fo261, trivial, trivial⟩, ⟨fo389, trivial, trivial⟩⟩, ⟨fo197, ⟨fo325, trivial, trivial⟩, trivial⟩⟩, ⟨fo101, ⟨fo165, ⟨fo293, trivial, trivial⟩, ⟨fo421, trivial, trivial⟩⟩, ⟨fo229, ⟨fo357, trivial, trivial⟩, trivial⟩⟩⟩, ⟨trivial, ⟨fo85, ⟨fo149, ⟨fo277, trivial, trivial⟩, ⟨fo405, trivial, trivial⟩⟩, ⟨fo213, ⟨fo341, trivial, trivial⟩, trivial⟩⟩, ⟨fo117, ⟨fo181, ⟨fo309, trivial, trivial⟩, trivial⟩, ⟨fo245, ⟨fo373, trivial, trivial⟩, trivial⟩⟩⟩⟩, ⟨fo29, ⟨fo45, ⟨trivial, ⟨fo141, ⟨fo269, trivial, trivial⟩, ⟨fo397, trivial, trivial⟩⟩, ⟨fo205, ⟨fo333, trivial, trivial⟩, trivial⟩⟩, ⟨fo109, ⟨fo173, ⟨fo301, trivial, trivial⟩, ⟨fo429, trivial, trivial⟩⟩, ⟨fo237, ⟨fo365, trivial, trivial⟩, trivial⟩⟩⟩, ⟨fo61, ⟨trivial, ⟨fo157, ⟨fo285, trivial, trivial⟩, ⟨fo413, trivial, trivial⟩⟩, ⟨trivial, ⟨fo349, trivial, trivial⟩, trivial⟩⟩, ⟨fo125, ⟨fo189, ⟨fo317, trivial, trivial⟩, ⟨fo445, trivial, trivial⟩⟩, ⟨fo253, ⟨fo381, trivial, trivial⟩, trivial⟩⟩⟩⟩⟩⟩⟩, ⟨trivial, ⟨trivial, ⟨fo8, ⟨fo16, ⟨fo32, ⟨fo64, ⟨fo128, ⟨fo256, trivial, trivial⟩, ⟨fo384, trivial, trivial⟩⟩, ⟨fo192, ⟨fo320, trivial, trivial⟩, ⟨fo448, trivial, trivial⟩⟩⟩, ⟨fo96, ⟨fo160, ⟨fo288, trivial, trivial⟩, ⟨fo416, trivial, trivial⟩⟩, ⟨trivial, ⟨fo352, trivial, trivial⟩, trivial⟩⟩⟩, ⟨trivial, ⟨trivial, ⟨fo144, ⟨fo272, trivial, trivial⟩, ⟨fo400, trivial, trivial⟩⟩, ⟨fo208, ⟨fo336, trivial, trivial⟩, trivial⟩⟩, ⟨fo112, ⟨fo176, ⟨fo304, trivial, trivial⟩, ⟨fo432, trivial, trivial⟩⟩, ⟨fo240, ⟨fo368, trivial, trivial⟩, trivial⟩⟩⟩⟩, ⟨fo24, ⟨fo40, ⟨fo72, ⟨trivial, ⟨fo264, trivial, trivial⟩, ⟨fo392, trivial, trivial⟩⟩, ⟨fo200, ⟨fo328, trivial, trivial⟩, trivial⟩⟩, ⟨fo104, ⟨fo168, ⟨fo296, trivial, trivial⟩, ⟨fo424, trivial, trivial⟩⟩, ⟨fo232, ⟨fo360, trivial, trivial⟩, trivial⟩⟩⟩, ⟨fo56, ⟨trivial, ⟨fo152, ⟨fo280, trivial, trivial⟩, ⟨fo408, trivial, trivial⟩⟩, ⟨fo216, ⟨fo344, trivial, trivial⟩, trivial⟩⟩, ⟨fo120, ⟨fo184, ⟨fo312, trivial, trivial⟩, ⟨fo440, trivial, trivial⟩⟩, ⟨fo248, ⟨fo376, trivial, trivial⟩, trivial⟩⟩⟩⟩⟩, ⟨trivial, ⟨trivial, ⟨trivial, ⟨fo68, ⟨fo132, ⟨fo260, trivial, trivial⟩, ⟨fo388, trivial, trivial⟩⟩, ⟨fo196, ⟨fo324, trivial, trivial⟩, trivial⟩⟩, ⟨fo100, ⟨fo164, ⟨fo292, trivial, trivial⟩, ⟨fo420, trivial, trivial⟩⟩, ⟨fo228, ⟨fo356, trivial, trivial⟩, trivial⟩⟩⟩, ⟨fo52, ⟨fo84, ⟨trivial, ⟨fo276, trivial, trivial⟩, ⟨fo404, trivial, trivial⟩⟩, ⟨fo212, ⟨fo340, trivial, trivial⟩, trivial⟩⟩, ⟨fo116, ⟨fo180, ⟨fo308, trivial, trivial⟩, ⟨fo436, trivial, trivial⟩⟩, ⟨fo244, ⟨fo372, trivial, trivial⟩, trivial⟩⟩⟩⟩, ⟨fo28, ⟨trivial, ⟨trivial, ⟨fo140, ⟨fo268, trivial, trivial⟩, ⟨fo396, trivial, trivial⟩⟩, ⟨fo204, ⟨fo332, trivial, trivial⟩, trivial⟩⟩, ⟨fo108, ⟨fo172, ⟨fo300, trivial, trivial⟩, ⟨fo428, trivial, trivial⟩⟩, ⟨fo236, ⟨fo364, trivial, trivial⟩, trivial⟩⟩⟩, ⟨fo60, ⟨trivial, ⟨fo156, ⟨fo284, trivial, trivial⟩, trivial⟩, ⟨fo220, ⟨fo348, trivial, trivial⟩, trivial⟩⟩, ⟨fo124, ⟨fo188, ⟨fo316, trivial, trivial⟩, ⟨fo444, trivial, trivial⟩⟩, ⟨fo252, ⟨fo380, trivial, trivial⟩, trivial⟩⟩⟩⟩⟩⟩, ⟨trivial, ⟨trivial, ⟨trivial, ⟨trivial, ⟨fo66, ⟨fo130, ⟨fo258, trivial, trivial⟩, ⟨fo386, trivial, trivial⟩⟩, ⟨fo194, ⟨fo322, trivial, trivial⟩, ⟨fo450, trivial, trivial⟩⟩⟩, ⟨trivial, ⟨fo162, ⟨fo290, trivial, trivial⟩, trivial⟩, ⟨trivial, ⟨fo354, trivial, trivial⟩, trivial⟩⟩⟩, ⟨fo50, ⟨fo82, ⟨trivial, ⟨fo274, trivial, trivial⟩, ⟨fo402, trivial, trivial⟩⟩, ⟨fo210, ⟨fo338, trivial, trivial⟩, trivial⟩⟩, ⟨fo114, ⟨fo178, ⟨fo306, trivial, trivial⟩, ⟨fo434, trivial, trivial⟩⟩, ⟨fo242, ⟨fo370, trivial, trivial⟩, trivial⟩⟩⟩⟩, ⟨trivial, ⟨fo42, ⟨fo74, ⟨trivial, ⟨fo266, trivial, trivial⟩, ⟨fo394, trivial, trivial⟩⟩, ⟨fo202, ⟨fo330, trivial, trivial⟩, trivial⟩⟩, ⟨fo106, ⟨fo170, ⟨fo298, trivial, trivial⟩, ⟨fo426, trivial, trivial⟩⟩, ⟨fo234, ⟨fo362, trivial, trivial⟩, trivial⟩⟩⟩, ⟨fo58, ⟨fo90, ⟨fo154, ⟨fo282, trivial, trivial⟩, ⟨fo410, trivial, trivial⟩⟩, ⟨fo218, ⟨fo346, trivial, trivial⟩, trivial⟩⟩, ⟨fo122, ⟨fo186, ⟨fo314, trivial, trivial⟩, ⟨fo442, trivial, trivial⟩⟩, ⟨fo250, ⟨fo378, trivial, trivial⟩, trivial⟩⟩⟩⟩⟩, ⟨fo14, ⟨fo22, ⟨trivial, ⟨fo70, ⟨fo134, ⟨fo262, trivial, trivial⟩, ⟨fo390, trivial, trivial⟩⟩, ⟨fo198, ⟨fo326, trivial, trivial⟩, trivial⟩⟩, ⟨fo102, ⟨fo166, ⟨fo294, trivial, trivial⟩, ⟨fo422, trivial, trivial⟩⟩, ⟨fo230, ⟨fo358, trivial, trivial⟩, trivial⟩⟩⟩, ⟨fo54, ⟨fo86, ⟨fo150, ⟨fo278, trivial, trivial⟩, ⟨fo406, trivial, trivial⟩⟩, ⟨fo214, ⟨fo342, trivial, trivial⟩, trivial⟩⟩, ⟨fo118, ⟨fo182, ⟨fo310, trivial, trivial⟩, trivial⟩, ⟨fo246, ⟨fo374, trivial, trivial⟩, trivial⟩⟩⟩⟩, ⟨fo30, ⟨trivial, ⟨trivial, ⟨fo142, ⟨fo270, trivial, trivial⟩, ⟨fo398, trivial, trivial⟩⟩, ⟨fo206, ⟨fo334, trivial, trivial⟩, trivial⟩⟩, ⟨fo110, ⟨fo174, ⟨fo302, trivial, trivial⟩, ⟨fo430, trivial, trivial⟩⟩, ⟨fo238, ⟨fo366, trivial, trivial⟩, trivial⟩⟩⟩, ⟨fo62, ⟨fo94, ⟨fo158, ⟨fo286, trivial, trivial⟩, ⟨fo414, trivial, trivial⟩⟩, ⟨fo222, ⟨fo350, trivial, trivial⟩, trivial⟩⟩, ⟨fo126, ⟨fo190, ⟨fo318, trivial, trivial⟩, ⟨fo446, trivial, trivial⟩⟩, ⟨fo254, ⟨fo382, trivial, trivial⟩, trivial⟩⟩⟩⟩⟩⟩⟩⟩)
end Go.Rn
end
section
namespace Go.Rn
open Go.RowKit
open Go.Vm (enters)
set_option maxRecDepth 1000000
def sumTab : V := .agg [.sc (.int .u32 0), .sc (.int .u32 1996959894), .sc (.int .u32 3993919788), .sc (.int .u32 2567524794), .sc (.int .u32 124634137), .sc (.int .u32 1886057615), .sc (.int .u32 3915621685), .sc (.int .u32 2657392035), .sc (.int .u32 249268274), .sc (.int .u32 2044508324), .sc (.int .u32 3772115230), .sc (.int .u32 2547177864), .sc (.int .u32 162941995), .sc (.int .u32 2125561021), .sc (.int .u32 3887607047), .sc (.int .u32 2428444049), .sc (.int .u32 498536548), .sc (.int .u32 1789927666), .sc (.int .u32 4089016648), .sc (.int .u32 2227061214), .sc (.int .u32 450548861), .sc (.int .u32 1843258603), .sc (.int .u32 4107580753), .sc (.int .u32 2211677639), .sc (.int .u32 325883990), .sc (.int .u32 1684777152), .sc (.int .u32 4251122042), .sc (.int .u32 2321926636), .sc (.int .u32 335633487), .sc (.int .u32 1661365465), .sc (.int .u32 4195302755), .sc (.int .u32 2366115317), .sc (.int .u32 997073096), .sc (.int .u32 1281953886), .sc (.int .u32 3579855332), .sc (.int .u32 2724688242), .sc (.int .u32 1006888145), .sc (.int .u32 1258607687), .sc (.int .u32 3524101629), .sc (.int .u32 2768942443), .sc (.int .u32 901097722), .sc (.int .u32 1119000684), .sc (.int .u32 3686517206), .sc (.int .u32 2898065728), .sc (.int .u32 853044451), .sc (.int .u32 1172266101), .sc (.int .u32 3705015759), .sc (.int .u32 2882616665), .sc (.int .u32 651767980), .sc (.int .u32 1373503546), .sc (.int .u32 3369554304), .sc (.int .u32 3218104598), .sc (.int .u32 565507253), .sc (.int .u32 1454621731), .sc (.int .u32 3485111705), .sc (.int .u32 3099436303), .sc (.int .u32 671266974), .sc (.int .u32 1594198024), .sc (.int .u32 3322730930), .sc (.int .u32 2970347812), .sc (.int .u32 795835527), .sc (.int .u32 1483230225), .sc (.int .u32 3244367275), .sc (.int .u32 3060149565), .sc (.int .u32 1994146192), .sc (.int .u32 31158534), .sc (.int .u32 2563907772), .sc (.int .u32 4023717930), .sc (.int .u32 1907459465), .sc (.int .u32 112637215), .sc (.int .u32 2680153253), .sc (.int .u32 3904427059), .sc (.int .u32 2013776290), .sc (.int .u32 251722036), .sc (.int .u32 2517215374), .sc (.int .u32 3775830040), .sc (.int .u32 2137656763), .sc (.int .u32 141376813), .sc (.int .u32 2439277719), .sc (.int .u32 3865271297), .sc (.int .u32 1802195444), .sc (.int .u32 476864866), .sc (.int .u32 2238001368), .sc (.int .u32 4066508878), .sc (.int .u32 1812370925), .sc (.int .u32 453092731), .sc (.int .u32 2181625025), .sc (.int .u32 4111451223), .sc (.int .u32 1706088902), .sc (.int .u32 314042704), .sc (.int .u32 2344532202), .sc (.int .u32 4240017532), .sc (.int .u32 1658658271), .sc (.int .u32 366619977), .sc (.int .u32 2362670323), .sc (.int .u32 4224994405), .sc (.int .u32 1303535960), .sc (.int .u32 984961486), .sc (.int .u32 2747007092), .sc (.int .u32 3569037538), .sc (.int .u32 1256170817), .sc (.int .u32 1037604311), .sc (.int .u32 2765210733), .sc (.int .u32 3554079995), .sc (.int .u32 1131014506), .sc (.int .u32 879679996), .sc (.int .u32 2909243462), .sc (.int .u32 3663771856), .sc (.int .u32 1141124467), .sc (.int .u32 855842277), .sc (.int .u32 2852801631), .sc (.int .u32 3708648649), .sc (.int .u32 1342533948), .sc (.int .u32 654459306), .sc (.int .u32 3188396048), .sc (.int .u32 3373015174), .sc (.int .u32 1466479909), .sc (.int .u32 544179635), .sc (.int .u32 3110523913), .sc (.int .u32 3462522015), .sc (.int .u32 1591671054), .sc (.int .u32 702138776), .sc (.int .u32 2966460450), .sc (.int .u32 3352799412), .sc (.int .u32 1504918807), .sc (.int .u32 783551873), .sc (.int .u32 3082640443), .sc (.int .u32 3233442989), .sc (.int .u32 3988292384), .sc (.int .u32 2596254646), .sc (.int .u32 62317068), .sc (.int .u32 1957810842), .sc (.int .u32 3939845945), .sc (.int .u32 2647816111), .sc (.int .u32 81470997), .sc (.int .u32 1943803523), .sc (.int .u32 3814918930), .sc (.int .u32 2489596804), .sc (.int .u32 225274430), .sc (.int .u32 2053790376), .sc (.int .u32 3826175755), .sc (.int .u32 2466906013), .sc (.int .u32 167816743), .sc (.int .u32 2097651377), .sc (.int .u32 4027552580), .sc (.int .u32 2265490386), .sc (.int .u32 503444072), .sc (.int .u32 1762050814), .sc (.int .u32 4150417245), .sc (.int .u32 2154129355), .sc (.int .u32 426522225), .sc (.int .u32 1852507879), .sc (.int .u32 4275313526), .sc (.int .u32 2312317920), .sc (.int .u32 282753626), .sc (.int .u32 1742555852), .sc (.int .u32 4189708143), .sc (.int .u32 2394877945), .sc (.int .u32 397917763), .sc (.int .u32 1622183637), .sc (.int .u32 3604390888), .sc (.int .u32 2714866558), .sc (.int .u32 953729732), .sc (.int .u32 1340076626), .sc (.int .u32 3518719985), .sc (.int .u32 2797360999), .sc (.int .u32 1068828381), .sc (.int .u32 1219638859), .sc (.int .u32 3624741850), .sc (.int .u32 2936675148), .sc (.int .u32 906185462), .sc (.int .u32 1090812512), .sc (.int .u32 3747672003), .sc (.int .u32 2825379669), .sc (.int .u32 829329135), .sc (.int .u32 1181335161), .sc (.int .u32 3412177804), .sc (.int .u32 3160834842), .sc (.int .u32 628085408), .sc (.int .u32 1382605366), .sc (.int .u32 3423369109), .sc (.int .u32 3138078467), .sc (.int .u32 570562233), .sc (.int .u32 1426400815), .sc (.int .u32 3317316542), .sc (.int .u32 2998733608), .sc (.int .u32 733239954), .sc (.int .u32 1555261956), .sc (.int .u32 3268935591), .sc (.int .u32 3050360625), .sc (.int .u32 752459403), .sc (.int .u32 1541320221), .sc (.int .u32 2607071920), .sc (.int .u32 3965973030), .sc (.int .u32 1969922972), .sc (.int .u32 40735498), .sc (.int .u32 2617837225), .sc (.int .u32 3943577151), .sc (.int .u32 1913087877), .sc (.int .u32 83908371), .sc (.int .u32 2512341634), .sc (.int .u32 3803740692), .sc (.int .u32 2075208622), .sc (.int .u32 213261112), .sc (.int .u32 2463272603), .sc (.int .u32 3855990285), .sc (.int .u32 2094854071), .sc (.int .u32 198958881), .sc (.int .u32 2262029012), .sc (.int .u32 4057260610), .sc (.int .u32 1759359992), .sc (.int .u32 534414190), .sc (.int .u32 2176718541), .sc (.int .u32 4139329115), .sc (.int .u32 1873836001), .sc (.int .u32 414664567), .sc (.int .u32 2282248934), .sc (.int .u32 4279200368), .sc (.int .u32 1711684554), .sc (.int .u32 285281116), .sc (.int .u32 2405801727), .sc (.int .u32 4167216745), .sc (.int .u32 1634467795), .sc (.int .u32 376229701), .sc (.int .u32 2685067896), .sc (.int .u32 3608007406), .sc (.int .u32 1308918612), .sc (.int .u32 956543938), .sc (.int .u32 2808555105), .sc (.int .u32 3495958263), .sc (.int .u32 1231636301), .sc (.int .u32 1047427035), .sc (.int .u32 2932959818), .sc (.int .u32 3654703836), .sc (.int .u32 1088359270), .sc (.int .u32 936918000), .sc (.int .u32 2847714899), .sc (.int .u32 3736837829), .sc (.int .u32 1202900863), .sc (.int .u32 817233897), .sc (.int .u32 3183342108), .sc (.int .u32 3401237130), .sc (.int .u32 1404277552), .sc (.int .u32 615818150), .sc (.int .u32 3134207493), .sc (.int .u32 3453421203), .sc (.int .u32 1423857449), .sc (.int .u32 601450431), .sc (.int .u32 3009837614), .sc (.int .u32 3294710456), .sc (.int .u32 1567103746), .sc (.int .u32 711928724), .sc (.int .u32 3020668471), .sc (.int .u32 3272380065), .sc (.int .u32 1510334235), .sc (.int .u32 755167117)]
def sumVal : Value := .agg #[.int .u32 0, .int .u32 1996959894, .int .u32 3993919788, .int .u32 2567524794, .int .u32 124634137, .int .u32 1886057615, .int .u32 3915621685, .int .u32 2657392035, .int .u32 249268274, .int .u32 2044508324, .int .u32 3772115230, .int .u32 2547177864, .int .u32 162941995, .int .u32 2125561021, .int .u32 3887607047, .int .u32 2428444049, .int .u32 498536548, .int .u32 1789927666, .int .u32 4089016648, .int .u32 2227061214, .int .u32 450548861, .int .u32 1843258603, .int .u32 4107580753, .int .u32 2211677639, .int .u32 325883990, .int .u32 1684777152, .int .u32 4251122042, .int .u32 2321926636, .int .u32 335633487, .int .u32 1661365465, .int .u32 4195302755, .int .u32 2366115317, .int .u32 997073096, .int .u32 1281953886, .int .u32 3579855332, .int .u32 2724688242, .int .u32 1006888145, .int .u32 1258607687, .int .u32 3524101629, .int .u32 2768942443, .int .u32 901097722, .int .u32 1119000684, .int .u32 3686517206, .int .u32 2898065728, .int .u32 853044451, .int .u32 1172266101, .int .u32 3705015759, .int .u32 2882616665, .int .u32 651767980, .int .u32 1373503546, .int .u32 3369554304, .int .u32 3218104598, .int .u32 565507253, .int .u32 1454621731, .int .u32 3485111705, .int .u32 3099436303, .int .u32 671266974, .int .u32 1594198024, .int .u32 3322730930, .int .u32 2970347812, .int .u32 795835527, .int .u32 1483230225, .int .u32 3244367275, .int .u32 3060149565, .int .u32 1994146192, .int .u32 31158534, .int .u32 2563907772, .int .u32 4023717930, .int .u32 1907459465, .int .u32 112637215, .int .u32 2680153253, .int .u32 3904427059, .int .u32 2013776290, .int .u32 251722036, .int .u32 2517215374, .int .u32 3775830040, .int .u32 2137656763, .int .u32 141376813, .int .u32 2439277719, .int .u32 3865271297, .int .u32 1802195444, .int .u32 476864866, .int .u32 2238001368, .int .u32 4066508878, .int .u32 1812370925, .int .u32 453092731, .int .u32 2181625025, .int .u32 4111451223, .int .u32 1706088902, .int .u32 314042704, .int .u32 2344532202, .int .u32 4240017532, .int .u32 1658658271, .int .u32 366619977, .int .u32 2362670323, .int .u32 4224994405, .int .u32 1303535960, .int .u32 984961486, .int .u32 2747007092, .int .u32 3569037538, .int .u32 1256170817, .int .u32 1037604311, .int .u32 2765210733, .int .u32 3554079995, .int .u32 1131014506, .int .u32 879679996, .int .u32 2909243462, .int .u32 3663771856, .int .u32 1141124467, .int .u32 855842277, .int .u32 2852801631, .int .u32 3708648649, .int .u32 1342533948, .int .u32 654459306, .int .u32 3188396048, .int .u32 3373015174, .int .u32 1466479909, .int .u32 544179635, .int .u32 3110523913, .int .u32 3462522015, .int .u32 1591671054, .int .u32 702138776, .int .u32 2966460450, .int .u32 3352799412, .int .u32 1504918807, .int .u32 783551873, .int .u32 3082640443, .int .u32 3233442989, .int .u32 3988292384, .int .u32 2596254646, .int .u32 62317068, .int .u32 1957810842, .int .u32 3939845945, .int .u32 2647816111, .int .u32 81470997, .int .u32 1943803523, .int .u32 3814918930, .int .u32 2489596804, .int .u32 225274430, .int .u32 2053790376, .int .u32 3826175755, .int .u32 2466906013, .int .u32 167816743, .int .u32 2097651377, .int .u32 4027552580, .int .u32 2265490386, .int .u32 503444072, .int .u32 1762050814, .int .u32 4150417245, .int .u32 2154129355, .int .u32 426522225, .int .u32 1852507879, .int .u32 4275313526, .int .u32 2312317920, .int .u32 282753626, .int .u32 1742555852, .int .u32 4189708143, .int .u32 2394877945, .int .u32 397917763, .int .u32 1622183637, .int .u32 3604390888, .int .u32 2714866558, .int .u32 953729732, .int .u32 1340076626, .int .u32 3518719985, .int .u32 2797360999, .int .u32 1068828381, .int .u32 1219638859, .int .u32 3624741850, .int .u32 2936675148, .int .u32 906185462, .int .u32 1090812512, .int .u32 3747672003, .int .u32 2825379669, .int .u32 829329135, .int .u32 1181335161, .int .u32 3412177804, .int .u32 3160834842, .int .u32 628085408, .int .u32 1382605366, .int .u32 3423369109, .int .u32 3138078467, .int .u32 570562233, .int .u32 1426400815, .int .u32 3317316542, .int .u32 2998733608, .int .u32 733239954, .int .u32 1555261956, .int .u32 3268935591, .int .u32 3050360625, .int .u32 752459403, .int .u32 1541320221, .int .u32 2607071920, .int .u32 3965973030, .int .u32 1969922972, .int .u32 40735498, .int .u32 2617837225, .int .u32 3943577151, .int .u32 1913087877, .int .u32 83908371, .int .u32 2512341634, .int .u32 3803740692, .int .u32 2075208622, .int .u32 213261112, .int .u32 2463272603, .int .u32 3855990285, .int .u32 2094854071, .int .u32 198958881, .int .u32 2262029012, .int .u32 4057260610, .int .u32 1759359992, .int .u32 534414190, .int .u32 2176718541, .int .u32 4139329115, .int .u32 1873836001, .int .u32 414664567, .int .u32 2282248934, .int .u32 4279200368, .int .u32 1711684554, .int .u32 285281116, .int .u32 2405801727, .int .u32 4167216745, .int .u32 1634467795, .int .u32 376229701, .int .u32 2685067896, .int .u32 3608007406, .int .u32 1308918612, .int .u32 956543938, .int .u32 2808555105, .int .u32 3495958263, .int .u32 1231636301, .int .u32 1047427035, .int .u32 2932959818, .int .u32 3654703836, .int .u32 1088359270, .int .u32 936918000, .int .u32 2847714899, .int .u32 3736837829, .int .u32 1202900863, .int .u32 817233897, .int .u32 3183342108, .int .u32 3401237130, .int .u32 1404277552, .int .u32 615818150, .int .u32 3134207493, .int .u32 3453421203, .int .u32 1423857449, .int .u32 601450431, .int .u32 3009837614, .int .u32 3294710456, .int .u32 1567103746, .int .u32 711928724, .int .u32 3020668471, .int .u32 3272380065, .int .u32 1510334235, .int .u32 755167117]
set_option maxHeartbeats 100000000 in
theorem sum_run : Hold (run Go.Proofs.Tryz.prog ft [] 1000000 1000 102 [] .leaf 0 (fun v _ _ => isV sumTab v)) := ⟨of_eq_true (by kernel_rfl)⟩
theorem sum_toV : toV sumTab = some sumVal := by kernel_rfl
theorem sum_okV : okV sumTab = true := by kernel_rfl
theorem sum_known : enters Go.Proofs.Tryz.prog 102 = true ∧ ∀ [Cx] h n, RCall Go.Proofs.Tryz.prog 102 [] h n sumTab h n := closed_run (P := Go.Proofs.Tryz.prog) (F := ft) (l := []) (f := 102) (x := sumTab) (u := sumVal) ft_ok (fun [Cx] => orcOk_nil) sum_run sum_toV sum_okV
abbrev orcS : Orc := [(102, [], sumTab)]
theorem orcS_ok [Cx] : OrcOk Go.Proofs.Tryz.prog orcS := orcOk_cons sum_known.1 sum_known.2 orcOk_nil
end Go.Rn
end
section
namespace Punnet.Flt
open Ieee
def far : Nat := 1074
theorem far_eq : far = 1074 := rfl
def K : Int := 2 ^ far
theorem K_pos : 0 < K := Int.pow_pos (by decide)
theorem read_eq (x : Nat) : double.read x =
    (if x % 9223372036854775808 < 4503599627370496 then Datum.number (x / 9223372036854775808 % 2 == 1) (x % 9223372036854775808) (-1074)
     else if x % 9223372036854775808 < 9218868437227405312 then .number (x / 9223372036854775808 % 2 == 1) (4503599627370496 + x % 9223372036854775808 % 4503599627370496) (-1074 + ((x % 9223372036854775808 / 4503599627370496 - 1 : Nat) : Int))
     else if x % 9223372036854775808 = 9218868437227405312 then .infinity (x / 9223372036854775808 % 2 == 1)
     else .nan (x / 9223372036854775808 % 2 == 1) (x % 9223372036854775808 - 9218868437227405312)) := rfl
theorem place_ge {x m : Nat} {s : Bool} {e : Int} (h : double.read x = .number s m e) : -1074 ≤ e := by
  rw [read_eq] at h
  split at h
  · injection h with _ _ h; omega
  · split at h
    · injection h with _ _ h; omega
    · split at h <;> cases h
theorem signed_eq (s : Bool) (m a : Nat) : signed s m a = (if s then -1 else 1) * ((m : Int) * 2 ^ a) := by
  have h : ((m <<< a : Nat) : Int) = (m : Int) * 2 ^ a := by rw [Nat.shiftLeft_eq]; simp
  unfold signed
  cases s <;> simp [h]
theorem signed_add (s : Bool) (m a b : Nat) : signed s m (a + b) = signed s m a * 2 ^ b := by
  rw [signed_eq, signed_eq, Int.pow_add, Int.mul_assoc, Int.mul_assoc]
def unitOf (x : Nat) : Option Int := match double.read x with
  | .number s m e => some (signed s m (e + 1074).toNat)
  | _ => none
theorem unitOf_number {x m : Nat} {s : Bool} {e : Int} (h : double.read x = .number s m e) : unitOf x = some (signed s m (e + 1074).toNat) := by
  rw [unitOf, h]
theorem number_of_unit {x : Nat} {u : Int} (h : unitOf x = some u) : ∃ s m e, double.read x = .number s m e ∧ -1074 ≤ e ∧ u = signed s m (e + 1074).toNat := by
  unfold unitOf at h
  cases hr : double.read x with
  | number s m e => rw [hr] at h; injection h with h; exact ⟨s, m, e, rfl, place_ge hr, h.symm⟩
  | infinity s => rw [hr] at h; cases h
  | nan s t => rw [hr] at h; cases h
theorem compare_scale (a b k : Int) (hk : 0 < k) : compare (a * k) (b * k) = compare a b := by
  simp only [compare, compareOfLessAndEq]
  have h1 : a * k < b * k ↔ a < b := ⟨fun h => Int.lt_of_mul_lt_mul_right h (Int.le_of_lt hk), fun h => Int.mul_lt_mul_of_pos_right h hk⟩
  have h2 : a * k = b * k ↔ a = b := ⟨fun h => Int.eq_of_mul_eq_mul_right (by omega) h, fun h => by rw [h]⟩
  simp only [h1, h2]
theorem order_units {x y : Nat} {u v : Int} (hx : unitOf x = some u) (hy : unitOf y = some v) : double.order x y = some (compare u v) := by
  obtain ⟨s, m, i, hr, hi, rfl⟩ := number_of_unit hx
  obtain ⟨t, n, j, hr2, hj, rfl⟩ := number_of_unit hy
  rw [Format.order, hr, hr2, Datum.order]
  have e1 : (i + 1074).toNat = (i - min i j).toNat + (min i j + 1074).toNat := by omega
  have e2 : (j + 1074).toNat = (j - min i j).toNat + (min i j + 1074).toNat := by omega
  have hk : (0 : Int) < 2 ^ (min i j + 1074).toNat := Int.pow_pos (by decide)
  show some (compare (signed s m (i - min i j).toNat) (signed t n (j - min i j).toNat)) = _
  rw [e1, e2, signed_add, signed_add, compare_scale _ _ _ hk]
theorem compare_lt {a b : Int} (h : a < b) : compare a b = .lt := by simp [compare, compareOfLessAndEq, h]
theorem compare_eq (a : Int) : compare a a = .eq := by simp [compare, compareOfLessAndEq]
theorem compare_gt {a b : Int} (h : b < a) : compare a b = .gt := by
  have h1 : ¬ a < b := by omega
  have h2 : ¬ a = b := by omega
  simp [compare, compareOfLessAndEq, h1, h2]
theorem order_lt {x y : Nat} {u v : Int} (hx : unitOf x = some u) (hy : unitOf y = some v) (h : u < v) : double.order x y = some .lt := by rw [order_units hx hy, compare_lt h]
theorem order_eq {x y : Nat} {u : Int} (hx : unitOf x = some u) (hy : unitOf y = some u) : double.order x y = some .eq := by rw [order_units hx hy, compare_eq]
theorem order_gt {x y : Nat} {u v : Int} (hx : unitOf x = some u) (hy : unitOf y = some v) (h : v < u) : double.order x y = some .gt := by rw [order_units hx hy, compare_gt h]
def geB (x y : Nat) : Bool := double.order x y == some .gt || double.order x y == some .eq
def leB (x y : Nat) : Bool := double.order x y == some .lt || double.order x y == some .eq
def eqB (x y : Nat) : Bool := double.order x y == some .eq
theorem geB_units {x y : Nat} {u v : Int} (hx : unitOf x = some u) (hy : unitOf y = some v) : geB x y = decide (v ≤ u) := by
  rw [geB]
  rcases Int.lt_trichotomy u v with h | rfl | h
  · rw [order_lt hx hy h, decide_eq_false (by omega)]; rfl
  · rw [order_eq hx hy, decide_eq_true (by omega)]; rfl
  · rw [order_gt hx hy h, decide_eq_true (by omega)]; rfl
theorem leB_units {x y : Nat} {u v : Int} (hx : unitOf x = some u) (hy : unitOf y = some v) : leB x y = decide (u ≤ v) := by
  rw [leB]
  rcases Int.lt_trichotomy u v with h | rfl | h
  · rw [order_lt hx hy h, decide_eq_true (by omega)]; rfl
  · rw [order_eq hx hy, decide_eq_true (by omega)]; rfl
  · rw [order_gt hx hy h, decide_eq_false (by omega)]; rfl
theorem eqB_units {x y : Nat} {u v : Int} (hx : unitOf x = some u) (hy : unitOf y = some v) : eqB x y = decide (u = v) := by
  rw [eqB]
  rcases Int.lt_trichotomy u v with h | rfl | h
  · rw [order_lt hx hy h, decide_eq_false (by omega)]; rfl
  · rw [order_eq hx hy, decide_eq_true rfl]; rfl
  · rw [order_gt hx hy h, decide_eq_false (by omega)]; rfl
theorem not_within {x y z : Nat} {v v' : Int} (hx : unitOf x = none) (hy : unitOf y = some v) (hz : unitOf z = some v') : (geB x y && leB x z) = false := by
  obtain ⟨t, n, j, hr, _, _⟩ := number_of_unit hy
  obtain ⟨t', n', j', hr', _, _⟩ := number_of_unit hz
  rw [geB, leB, Format.order, Format.order, hr, hr']
  cases h : double.read x with
  | number s m e => rw [unitOf, h] at hx; cases hx
  | nan s f => rfl
  | infinity s => cases s <;> rfl
theorem word_read {neg : Bool} {rung : Nat} (h0 : 4503599627370496 ≤ rung) (h1 : rung < 9218868437227405312) :
    double.read (double.word neg rung) = .number neg (4503599627370496 + rung % 4503599627370496) (-1074 + ((rung / 4503599627370496 - 1 : Nat) : Int)) := by
  have hx : double.word neg rung % 9223372036854775808 = rung := by
    cases neg
    · show rung % _ = _; omega
    · show (9223372036854775808 + rung) % _ = _; omega
  have hs : (double.word neg rung / 9223372036854775808 % 2 == 1) = neg := by
    cases neg
    · show (rung / 9223372036854775808 % 2 == 1) = false
      rw [show rung / 9223372036854775808 = 0 by omega]; rfl
    · show ((9223372036854775808 + rung) / 9223372036854775808 % 2 == 1) = true
      rw [show (9223372036854775808 + rung) / 9223372036854775808 = 1 by omega]; rfl
  rw [read_eq, hx, hs, if_neg (by omega), if_pos h1]
theorem nearest_zero (neg : Bool) : unitOf (double.nearest neg 0 0) = some 0 := by
  have h : double.read (double.nearest neg 0 0) = .number neg 0 (-1074) := by cases neg <;> rfl
  rw [unitOf_number h, signed_eq]; simp
theorem cut_none (neg : Bool) (n : Nat) : Toward.even.cut neg n 0 = n := by
  simp [Toward.cut, Nat.mod_one]
theorem nearest_units (neg : Bool) (m : Nat) (hm : m < 9007199254740992) : unitOf (double.nearest neg m 0) = some ((if neg then -1 else 1) * ((m : Int) * K)) := by
  rcases Nat.eq_zero_or_pos m with rfl | h0
  · rw [nearest_zero]; simp
  have hne : m ≠ 0 := by omega
  have hlo : 2 ^ m.log2 ≤ m := Nat.log2_self_le hne
  have hhi : m < 2 ^ (m.log2 + 1) := Nat.lt_log2_self
  have hL : m.log2 ≤ 52 := by
    rcases Nat.lt_or_ge 52 m.log2 with h | h
    · have : 2 ^ 53 ≤ 2 ^ m.log2 := Nat.pow_le_pow_right (by omega) h
      omega
    · exact h
  have hM : 2 ^ m.log2 * 2 ^ (52 - m.log2) = 4503599627370496 := by
    rw [← Nat.pow_add, show m.log2 + (52 - m.log2) = 52 by omega]
  have hM2 : 2 ^ (m.log2 + 1) * 2 ^ (52 - m.log2) = 9007199254740992 := by
    rw [← Nat.pow_add, show m.log2 + 1 + (52 - m.log2) = 53 by omega]
  have hMlo : 4503599627370496 ≤ m * 2 ^ (52 - m.log2) := by rw [← hM]; exact Nat.mul_le_mul_right _ hlo
  have hMhi : m * 2 ^ (52 - m.log2) < 9007199254740992 := by rw [← hM2]; exact Nat.mul_lt_mul_of_pos_right hhi (Nat.two_pow_pos _)
  have hw : double.nearest neg m 0 = double.word neg ((m.log2 + 1022) * 4503599627370496 + m * 2 ^ (52 - m.log2)) := by
    unfold Format.nearest
    rw [if_neg hne]
    have hl : max ((0 : Int) + (m.log2 : Int) - (double.fractionBits : Int)) double.leastPlace = (m.log2 : Int) - 52 := by
      show max ((0 : Int) + (m.log2 : Int) - 52) (-1074) = _
      omega
    simp only [hl]
    rw [show ((0 : Int) - ((m.log2 : Int) - 52)).toNat = 52 - m.log2 by omega, show ((m.log2 : Int) - 52 - 0).toNat = 0 by omega, cut_none, Nat.shiftLeft_eq]
    rw [show ((m.log2 : Int) - 52 - double.leastPlace).toNat = m.log2 + 1022 by show ((m.log2 : Int) - 52 - (-1074)).toNat = _; omega]
    congr 1
    show min ((m.log2 + 1022) * 4503599627370496 + m * 2 ^ (52 - m.log2)) 9218868437227405312 = _
    omega
  generalize hMe : m * 2 ^ (52 - m.log2) = M at *
  have hr := word_read (neg := neg) (rung := (m.log2 + 1022) * 4503599627370496 + M) (by omega) (by omega)
  rw [← hw] at hr
  have e1 : 4503599627370496 + ((m.log2 + 1022) * 4503599627370496 + M) % 4503599627370496 = M := by omega
  have e2 : (-1074 : Int) + (((((m.log2 + 1022) * 4503599627370496 + M) / 4503599627370496 - 1 : Nat)) : Int) = (m.log2 : Int) - 52 := by omega
  rw [e1, e2] at hr
  have e3 : K = 2 ^ (52 - m.log2) * 2 ^ (m.log2 + 1022) := by
    rw [K, ← Int.pow_add, show 52 - m.log2 + (m.log2 + 1022) = far by rw [far_eq]; omega]
  have e4 : (M : Int) * 2 ^ (m.log2 + 1022) = (m : Int) * K := by
    rw [e3, ← hMe, Int.natCast_mul, Int.natCast_pow, Int.mul_assoc]; simp
  rw [unitOf_number hr, signed_eq, show ((m.log2 : Int) - 52 + 1074).toNat = m.log2 + 1022 by omega, e4]
theorem ofInt_units (n : Int) (h : n.natAbs < 9007199254740992) : unitOf (double.write (.number (n < 0) n.natAbs 0)) = some (n * K) := by
  show unitOf (double.nearest (n < 0) n.natAbs 0) = _
  rw [nearest_units _ _ h]
  congr 1
  by_cases hn : n < 0
  · rw [if_pos (by simpa using hn), show ((n.natAbs : Nat) : Int) = -n by omega, Int.neg_mul, Int.neg_mul, Int.one_mul, Int.neg_neg]
  · rw [if_neg (by simpa using hn), show ((n.natAbs : Nat) : Int) = n by omega, Int.one_mul]
theorem log2_small {m d : Nat} (h : m.log2 + 2 < d) : m / 2 ^ d = 0 ∧ m / 2 ^ (m.log2 + 2) = 0 := by
  have hhi : m < 2 ^ (m.log2 + 1) := Nat.lt_log2_self
  have h1 : 2 ^ (m.log2 + 1) ≤ 2 ^ d := Nat.pow_le_pow_right (by omega) (by omega)
  have h2 : 2 ^ (m.log2 + 1) ≤ 2 ^ (m.log2 + 2) := Nat.pow_le_pow_right (by omega) (by omega)
  exact ⟨Nat.div_eq_of_lt (by omega), Nat.div_eq_of_lt (by omega)⟩
theorem cut_zero (neg : Bool) (n d : Nat) : Toward.zero.cut neg n d = n / 2 ^ d := by
  have h : Toward.zero.cut neg n d = n / 2 ^ min d (n.log2 + 2) := by simp [Toward.cut, Nat.shiftLeft_eq]
  rw [h]
  rcases Nat.lt_or_ge (n.log2 + 2) d with h1 | h1
  · rw [Nat.min_eq_right (by omega), (log2_small h1).1, (log2_small h1).2]
  · rw [Nat.min_eq_left h1]
theorem integral_units {x : Nat} {u : Int} (h : unitOf x = some u) : ∃ (s : Bool) (q : Nat), (double.read x).integral .zero = .number s q 0 ∧ u.tdiv K = (if s then -1 else 1) * (q : Int) ∧ u.natAbs / (2 ^ far) = q := by
  obtain ⟨s, m, e, hr, he, rfl⟩ := number_of_unit h
  refine ⟨s, m * 2 ^ e.toNat / 2 ^ (-e).toNat, by rw [hr, Datum.integral, cut_zero, Nat.shiftLeft_eq], ?_, ?_⟩
  · have hq : (m * 2 ^ e.toNat / 2 ^ (-e).toNat : Nat) = m * 2 ^ (e + 1074).toNat / 2 ^ far := by
      rcases Int.le_total 0 e with h0 | h0
      · rw [show (-e).toNat = 0 by omega, show (e + 1074).toNat = e.toNat + far by rw [far_eq]; omega, Nat.pow_add, ← Nat.mul_assoc, Nat.mul_div_cancel _ (Nat.two_pow_pos _)]; simp
      · rw [show e.toNat = 0 by omega, show far = (e + 1074).toNat + (-e).toNat by rw [far_eq]; omega, Nat.pow_add, Nat.mul_comm (2 ^ (e + 1074).toNat), Nat.mul_div_mul_right _ _ (Nat.two_pow_pos _)]; simp
    rw [hq, signed_eq, K]
    have e1 : ((m : Int) * 2 ^ (e + 1074).toNat) = ((m * 2 ^ (e + 1074).toNat : Nat) : Int) := by simp
    have e2 : ((2 : Int) ^ far) = ((2 ^ far : Nat) : Int) := by rw [Int.natCast_pow]; rfl
    rw [e1, e2]
    cases s
    · simp only [Bool.false_eq_true, if_false, Int.one_mul]; rfl
    · simp only [if_true]
      rw [Int.neg_mul, Int.one_mul, Int.neg_mul, Int.one_mul, Int.neg_tdiv]; rfl
  · rw [signed_eq]
    have e1 : ((if s = true then (-1 : Int) else 1) * ((m : Int) * 2 ^ (e + 1074).toNat)).natAbs = m * 2 ^ (e + 1074).toNat := by
      rw [Int.natAbs_mul]
      have e3 : ((m : Int) * 2 ^ (e + 1074).toNat).natAbs = m * 2 ^ (e + 1074).toNat := by
        have : ((m : Int) * 2 ^ (e + 1074).toNat) = ((m * 2 ^ (e + 1074).toNat : Nat) : Int) := by simp
        rw [this]; rfl
      rw [e3]
      cases s <;> simp
    rw [e1]
    rcases Int.le_total 0 e with h0 | h0
    · rw [show (-e).toNat = 0 by omega, show (e + 1074).toNat = e.toNat + far by rw [far_eq]; omega, Nat.pow_add, ← Nat.mul_assoc, Nat.mul_div_cancel _ (Nat.two_pow_pos _)]; simp
    · rw [show e.toNat = 0 by omega, show far = (e + 1074).toNat + (-e).toNat by rw [far_eq]; omega, Nat.pow_add, Nat.mul_comm (2 ^ (e + 1074).toNat), Nat.mul_div_mul_right _ _ (Nat.two_pow_pos _)]; simp
def wholeOf (x : Nat) : Option Int := match unitOf x with
  | some u => if -4503599627370496 * K ≤ u ∧ u ≤ 4503599627370496 * K ∧ u.tdiv K * K = u then some (u.tdiv K) else none
  | none => none
theorem tdiv_mul (n : Int) : (n * K).tdiv K = n := Int.mul_tdiv_cancel n (by have := K_pos; omega)
theorem mul_le (a b : Int) : a * K ≤ b * K ↔ a ≤ b := ⟨fun h => Int.le_of_mul_le_mul_right h K_pos, fun h => Int.mul_le_mul_of_nonneg_right h (Int.le_of_lt K_pos)⟩
theorem wholeOf_some {x : Nat} {n : Int} : wholeOf x = some n ↔ unitOf x = some (n * K) ∧ -4503599627370496 ≤ n ∧ n ≤ 4503599627370496 := by
  unfold wholeOf
  constructor
  · intro h
    cases hu : unitOf x with
    | none => rw [hu] at h; cases h
    | some u =>
      rw [hu] at h
      simp only at h
      split at h
      · rename_i hc
        injection h with h
        obtain ⟨h1, h2, h3⟩ := hc
        rw [h] at h3
        rw [← h3] at h1 h2
        rw [h3]
        exact ⟨rfl, (mul_le _ _).1 h1, (mul_le _ _).1 h2⟩
      · cases h
  · rintro ⟨hu, h1, h2⟩
    rw [hu]
    simp only [tdiv_mul]
    rw [if_pos ⟨(mul_le _ _).2 h1, (mul_le _ _).2 h2, trivial⟩]
theorem tdiv_bound {u : Int} (h1 : -4503599627370496 * K ≤ u) (h2 : u ≤ 4503599627370496 * K) : -4503599627370496 ≤ u.tdiv K ∧ u.tdiv K ≤ 4503599627370496 := by
  have hk := K_pos
  rcases Int.le_total 0 u with h | h
  · rw [Int.tdiv_eq_ediv_of_nonneg h]
    have h3 : u / K ≤ 4503599627370496 := Int.ediv_le_of_le_mul hk h2
    have h4 : 0 ≤ u / K := Int.ediv_nonneg h (Int.le_of_lt hk)
    omega
  · have e : u = -(-u) := by omega
    rw [e, Int.neg_tdiv, Int.tdiv_eq_ediv_of_nonneg (by omega)]
    have h3 : -u / K ≤ 4503599627370496 := Int.ediv_le_of_le_mul hk (by omega)
    have h4 : 0 ≤ -u / K := Int.ediv_nonneg (by omega) (Int.le_of_lt hk)
    omega
theorem trunc_units {x : Nat} {u : Int} (h : unitOf x = some u) (h1 : -4503599627370496 * K ≤ u) (h2 : u ≤ 4503599627370496 * K) : unitOf (double.write ((double.read x).integral .zero)) = some (u.tdiv K * K) := by
  obtain ⟨s, q, hi, ht, _⟩ := integral_units h
  have hb := tdiv_bound h1 h2
  have hq : q < 9007199254740992 := by
    rw [ht] at hb
    cases s <;> simp at hb <;> omega
  rw [hi]
  show unitOf (double.nearest s q 0) = _
  rw [nearest_units s q hq, ht, Int.mul_assoc]
theorem toInt_units {x : Nat} {u : Int} (h : unitOf x = some u) : (double.read x).toInt .zero = some (u.tdiv K) := by
  obtain ⟨s, q, hi, ht, _⟩ := integral_units h
  rw [Datum.toInt, hi, ht]
  show some (signed s q 0) = _
  rw [signed_eq]; simp
theorem ofInt_whole (n : Int) (h0 : -4503599627370496 ≤ n) (h1 : n ≤ 4503599627370496) : wholeOf (double.write (.number (n < 0) n.natAbs 0)) = some n :=
  wholeOf_some.2 ⟨ofInt_units n (by omega), h0, h1⟩
end Punnet.Flt
end
section
namespace Go.Proofs.YtdfbohaohjaloaaGreatDoor
open Go.RowKit Punnet.Flt
theorem decode64 (x : Nat) : FloatKind.f64.decode x = Ieee.double.read x := rfl
section
attribute [local irreducible] FloatKind.decode
theorem call_archTrunc (x : Nat) (u : Int) (hu : unitOf x = some u) (w : World) :
    (callFunc 412 #[.float .f64 x]).run Tryz.prog w = .ok (.value (.float .f64 (Ieee.double.write ((Ieee.double.read x).integral .zero)))) w := by
  rw [run_callFunc_extern (P := Tryz.prog) (f := 412) (fn := Tryz.f412) (e := Extern.MathFloor.toIntegral "math.archTrunc" .zero) (by kernel_rfl) (by kernel_rfl) (by kernel_rfl) (by kernel_rfl) (by kernel_rfl)]
  obtain ⟨s, m, e, hr, _, _⟩ := number_of_unit hu
  have h : (Extern.MathFloor.toIntegral "math.archTrunc" .zero #[.float .f64 x]).run Tryz.prog w = .ok (.float .f64 (Ieee.double.write ((Ieee.double.read x).integral .zero))) w := by
    have hd : FloatKind.f64.decode x = .number s m e := (decode64 x).trans hr
    conv => lhs; arg 2; whnf
    rw [hd, hr]
    rfl
  rw [h]; rfl
end
set_option maxHeartbeats 400000 in
theorem trunc_any (x : Nat) (u : Int) (hu : unitOf x = some u) (w : World) :
    Calls Tryz.prog 377 #[.float .f64 x] w fun e w' => e = .returned (.float .f64 (Ieee.double.write ((Ieee.double.read x).integral .zero))) ∧ w = w' := by
  have hc := call_archTrunc x u hu
  clear hu
  generalize Ieee.double.write ((Ieee.double.read x).integral .zero) = t at *
  go_enter Tryz.func377, Tryz.ntmps377
  go_wp2
  go_ret
  exact ⟨rfl, rfl⟩
theorem store_float (P : Program) (w : World) (a : Addr) (m : Mode) (k : FloatKind) (b : Nat) : (store a (.float k b) m).run P w = stored P w a (.float k b) m := run_store P w a _ m rfl
attribute [local go_sem] store_float
set_option maxHeartbeats 400000 in
theorem parts_any (a b : Nat) (w : World) :
    Calls Tryz.prog 376 #[.complex .f64 a b] w fun e w' => e = .returned (.agg #[.float .f64 a, .float .f64 b]) ∧ Below w.heap.size w w' := by
  go_enter Tryz.func376, Tryz.ntmps376
  go_wp2
  exact bodyPost_ret (v := .agg #[.float .f64 a, .float .f64 b]) (by simp [results, Tryz.results376, go_sem]) rfl ⟨rfl, (Below.refl _ _).alloc (Nat.le_refl _) _⟩
def okB (x : Nat) (M : Int) : Bool := match wholeOf x with
  | some n => decide (-M ≤ n ∧ n ≤ M)
  | none => false
theorem okB_units {x : Nat} {u M : Int} (hu : unitOf x = some u) (hM : M ≤ 4503599627370496) : okB x M = decide (-M * K ≤ u ∧ u ≤ M * K ∧ u.tdiv K * K = u) := by
  have hk := K_pos
  unfold okB
  cases hw : wholeOf x with
  | some n =>
    obtain ⟨h1, h2, h3⟩ := wholeOf_some.1 hw
    rw [hu] at h1
    injection h1 with h1
    subst h1
    simp only [tdiv_mul, and_true, mul_le]
  | none =>
    symm
    rw [decide_eq_false_iff_not]
    rintro ⟨h1, h2, h3⟩
    rw [← h3] at h1 h2
    rw [mul_le] at h1 h2
    have : wholeOf x = some (u.tdiv K) := wholeOf_some.2 ⟨by rw [hu, h3], by omega, by omega⟩
    rw [hw] at this
    cases this
theorem okB_none {x : Nat} {M : Int} (hu : unitOf x = none) : okB x M = false := by
  unfold okB wholeOf; rw [hu]
set_option maxHeartbeats 800000 in
theorem within_any (a b mb : Nat) (M : Int) (w : World) (hm : unitOf mb = some (M * K)) (hn : unitOf (Op.negFloat .f64 mb) = some (-M * K)) (hM : M ≤ 4503599627370496) :
    Calls Tryz.prog 293 #[.complex .f64 a b, .float .f64 mb] w fun e w' => e = .returned (.bool (okB a M && okB b M)) ∧ Below w.heap.size w w' := by
  have i0 : ∀ w, (Instr.index 463 (.agg #[.float .f64 a, .float .f64 b]) (.int .i64 0)).run Tryz.prog w = .ok (.float .f64 a) w := fun _ => by kernel_rfl
  have i1 : ∀ w, (Instr.index 463 (.agg #[.float .f64 a, .float .f64 b]) (.int .i64 1)).run Tryz.prog w = .ok (.float .f64 b) w := fun _ => by kernel_rfl
  have hneg : ∀ w, (Op.unary .neg (.float .f64 mb)).run Tryz.prog w = .ok (.float .f64 (Op.negFloat .f64 mb)) w := fun _ => rfl
  generalize Op.negFloat .f64 mb = nm at *
  have key : ∀ x, (geB x nm = false ∧ okB x M = false) ∨ (geB x nm = true ∧ leB x mb = false ∧ okB x M = false) ∨ (geB x nm = true ∧ leB x mb = true ∧ ∃ u, unitOf x = some u ∧ -4503599627370496 * K ≤ u ∧ u ≤ 4503599627370496 * K ∧ okB x M = decide (u.tdiv K * K = u)) := by
    intro x
    cases hx : unitOf x with
    | none =>
      have hf := not_within hx hn hm
      have ho := okB_none (M := M) hx
      cases hg : geB x nm with
      | false => exact .inl ⟨rfl, ho⟩
      | true => rw [hg, Bool.true_and] at hf; exact .inr (.inl ⟨rfl, hf, ho⟩)
    | some u =>
      have ho := okB_units hx hM
      have h1 := geB_units hx hn
      have h2 := leB_units hx hm
      by_cases c1 : -M * K ≤ u
      · by_cases c2 : u ≤ M * K
        · have c3 : -4503599627370496 * K ≤ u := Int.le_trans ((mul_le _ _).2 (by omega)) c1
          have c4 : u ≤ 4503599627370496 * K := Int.le_trans c2 ((mul_le _ _).2 hM)
          refine .inr (.inr ⟨by rw [h1, decide_eq_true c1], by rw [h2, decide_eq_true c2], u, rfl, c3, c4, ?_⟩)
          rw [ho, decide_eq_decide]
          exact ⟨fun h => h.2.2, fun h => ⟨c1, c2, h⟩⟩
        · refine .inr (.inl ⟨by rw [h1, decide_eq_true c1], by rw [h2, decide_eq_false c2], ?_⟩)
          rw [ho, decide_eq_false]
          exact fun h => c2 h.2.1
      · refine .inl ⟨by rw [h1, decide_eq_false c1], ?_⟩
        rw [ho, decide_eq_false]
        exact fun h => c1 h.1
  have tr : ∀ x u, unitOf x = some u → -4503599627370496 * K ≤ u → u ≤ 4503599627370496 * K → eqB (Ieee.double.write ((Ieee.double.read x).integral .zero)) x = decide (u.tdiv K * K = u) := by
    intro x u hx c3 c4
    exact eqB_units (trunc_units hx c3 c4) hx
  have ords : ∀ x y, ∃ o, FloatKind.f64.format.order x y = o ∧ geB x y = (o == some .gt || o == some .eq) ∧ leB x y = (o == some .lt || o == some .eq) ∧ eqB x y = (o == some .eq) := fun x y => ⟨_, rfl, rfl, rfl, rfl⟩
  obtain ⟨oa, ea, ga, _, _⟩ := ords a nm
  obtain ⟨pa, fa, _, la, _⟩ := ords a mb
  obtain ⟨ob, eb, gb, _, _⟩ := ords b nm
  obtain ⟨pb, fb, _, lb, _⟩ := ords b mb
  rcases key a with ⟨g1, o1⟩ | ⟨g1, g2, o1⟩ | ⟨g1, g2, u, hu, c3, c4, o1⟩
  · have HV := Lib.hid (show (okB a M && okB b M) = false by rw [o1]; rfl)
    rw [ga] at g1
    clear hm hn hM o1 key tr ords ga la gb lb
    go_enter Tryz.func293, Tryz.ntmps293
    go_wp2_with (go_at_call 376; refine (parts_any _ _ _).mono ?_; rintro e w1 ⟨rfl, hb1⟩)
    refine wp_loop_rounds 1 ?_
    rw [rounds_succ]
    go_wp2
    go_ret
    exact ⟨ret_bool HV.out.symm, hb1⟩
  · have HV := Lib.hid (show (okB a M && okB b M) = false by rw [o1]; rfl)
    rw [ga] at g1
    rw [la] at g2
    clear hm hn hM o1 key tr ords ga la gb lb
    go_enter Tryz.func293, Tryz.ntmps293
    go_wp2_with (go_at_call 376; refine (parts_any _ _ _).mono ?_; rintro e w1 ⟨rfl, hb1⟩)
    refine wp_loop_rounds 1 ?_
    rw [rounds_succ]
    go_wp2
    go_ret
    exact ⟨ret_bool HV.out.symm, hb1⟩
  · have HT := Lib.hid (trunc_any a u hu)
    have ht := tr a u hu c3 c4
    rw [← o1] at ht
    generalize Ieee.double.write ((Ieee.double.read a).integral .zero) = ta at *
    obtain ⟨ot, et, _, _, ht2⟩ := ords ta a
    rw [ht2] at ht
    rw [ga] at g1
    rw [la] at g2
    clear hm hn hM o1 hu c3 c4 ht2
    cases ho : okB a M with
    | false =>
      rw [ho] at ht
      have HV := Lib.hid (show (false && okB b M) = false from rfl)
      have ht' : (ot != some .eq) = true := by rw [bne, ht]; rfl
      clear key tr ho ords ga la gb lb
      go_enter Tryz.func293, Tryz.ntmps293
      go_wp2_with (go_at_call 376; refine (parts_any _ _ _).mono ?_; rintro e w1 ⟨rfl, hb1⟩)
      refine wp_loop_rounds 1 ?_
      rw [rounds_succ]
      go_wp2_with (go_at_call 377; refine (HT.out _).mono ?_; rintro e w2 ⟨rfl, rfl⟩)
      go_ret
      exact ⟨ret_bool HV.out.symm, hb1⟩
    | true =>
      rw [ho] at ht
      have ht' : (ot != some .eq) = false := by rw [bne, ht]; rfl
      rcases key b with ⟨k1, o1⟩ | ⟨k1, k2, o1⟩ | ⟨k1, k2, v, hv, c3, c4, o1⟩
      · have HV := Lib.hid (show (true && okB b M) = false by rw [o1]; rfl)
        rw [gb] at k1
        clear key tr ho o1 ords ga la gb lb
        go_enter Tryz.func293, Tryz.ntmps293
        go_wp2_with (go_at_call 376; refine (parts_any _ _ _).mono ?_; rintro e w1 ⟨rfl, hb1⟩)
        refine wp_loop_rounds 2 ?_
        rw [rounds_succ]
        go_wp2_with (go_at_call 377; refine (HT.out _).mono ?_; rintro e w2 ⟨rfl, rfl⟩)
        rw [rounds_succ]
        go_wp2
        go_ret
        exact ⟨ret_bool HV.out.symm, hb1⟩
      · have HV := Lib.hid (show (true && okB b M) = false by rw [o1]; rfl)
        rw [gb] at k1
        rw [lb] at k2
        clear key tr ho o1 ords ga la gb lb
        go_enter Tryz.func293, Tryz.ntmps293
        go_wp2_with (go_at_call 376; refine (parts_any _ _ _).mono ?_; rintro e w1 ⟨rfl, hb1⟩)
        refine wp_loop_rounds 2 ?_
        rw [rounds_succ]
        go_wp2_with (go_at_call 377; refine (HT.out _).mono ?_; rintro e w2 ⟨rfl, rfl⟩)
        rw [rounds_succ]
        go_wp2
        go_ret
        exact ⟨ret_bool HV.out.symm, hb1⟩
      · have HT2 := Lib.hid (trunc_any b v hv)
        have hs := tr b v hv c3 c4
        rw [← o1] at hs
        generalize Ieee.double.write ((Ieee.double.read b).integral .zero) = tb at *
        obtain ⟨os, es, _, _, hs2⟩ := ords tb b
        rw [hs2] at hs
        rw [gb] at k1
        rw [lb] at k2
        clear key tr ho o1 ords ga la gb lb hs2 hv c3 c4
        cases hob : okB b M with
        | false =>
          rw [hob] at hs
          have hs' : (os != some .eq) = true := by rw [bne, hs]; rfl
          clear hob
          go_enter Tryz.func293, Tryz.ntmps293
          go_wp2_with (go_at_call 376; refine (parts_any _ _ _).mono ?_; rintro e w1 ⟨rfl, hb1⟩)
          refine wp_loop_rounds 2 ?_
          rw [rounds_succ]
          go_wp2_with (go_at_call 377; refine (HT.out _).mono ?_; rintro e w2 ⟨rfl, rfl⟩)
          rw [rounds_succ]
          go_wp2_with (go_at_call 377; refine (HT2.out _).mono ?_; rintro e w2 ⟨rfl, rfl⟩)
          go_ret
          exact ⟨rfl, hb1⟩
        | true =>
          rw [hob] at hs
          have hs' : (os != some .eq) = false := by rw [bne, hs]; rfl
          clear hob
          go_enter Tryz.func293, Tryz.ntmps293
          go_wp2_with (go_at_call 376; refine (parts_any _ _ _).mono ?_; rintro e w1 ⟨rfl, hb1⟩)
          refine wp_loop_rounds 3 ?_
          rw [rounds_succ]
          go_wp2_with (go_at_call 377; refine (HT.out _).mono ?_; rintro e w2 ⟨rfl, rfl⟩)
          rw [rounds_succ]
          go_wp2_with (go_at_call 377; refine (HT2.out _).mono ?_; rintro e w2 ⟨rfl, rfl⟩)
          rw [rounds_succ]
          go_wp2
          go_ret
          exact ⟨rfl, hb1⟩
end Go.Proofs.YtdfbohaohjaloaaGreatDoor
end
section
namespace Go.Proofs.YtdfbohaohjaloaaGreatDoor
open Go.RowKit Punnet.Flt
theorem unit_most : unitOf 4841369599423283200 = some (4503599627370496 * K) := ofInt_units 4503599627370496 (by decide)
theorem unit_least : unitOf 14064741636278059008 = some (-4503599627370496 * K) := by
  have h := ofInt_units (-4503599627370496) (by decide)
  rw [show Ieee.double.write (.number (decide ((-4503599627370496 : Int) < 0)) (-4503599627370496 : Int).natAbs 0) = 14064741636278059008 by decide +kernel] at h
  exact h
theorem unit_small : unitOf 4719772409484279808 = some (33554432 * K) := ofInt_units 33554432 (by decide)
theorem unit_small_neg : unitOf 13943144446339055616 = some (-33554432 * K) := by
  have h := ofInt_units (-33554432) (by decide)
  rw [show Ieee.double.write (.number (decide ((-33554432 : Int) < 0)) (-33554432 : Int).natAbs 0) = 13943144446339055616 by decide +kernel] at h
  exact h
set_option maxHeartbeats 400000 in
theorem whole_any (a b : Nat) (w : World) : Calls Tryz.prog 382 #[.complex .f64 a b] w fun e w' => e = .returned (.bool (okB a 4503599627370496 && okB b 4503599627370496)) ∧ Below w.heap.size w w' := by
  have H := Lib.hid (within_any a b 4841369599423283200 4503599627370496 w unit_most unit_least (by omega))
  go_enter Tryz.func382, Tryz.ntmps382
  go_wp2_with (go_at_call 293; refine H.out.mono ?_; rintro e w1 ⟨rfl, hb1⟩)
  go_ret
  exact ⟨rfl, hb1⟩
set_option maxHeartbeats 400000 in
theorem small_any (a b : Nat) (w : World) : Calls Tryz.prog 201 #[.complex .f64 a b] w fun e w' => e = .returned (.bool (okB a 33554432 && okB b 33554432)) ∧ Below w.heap.size w w' := by
  have H := Lib.hid (within_any a b 4719772409484279808 33554432 w unit_small unit_small_neg (by omega))
  go_enter Tryz.func201, Tryz.ntmps201
  go_wp2_with (go_at_call 293; refine H.out.mono ?_; rintro e w1 ⟨rfl, hb1⟩)
  go_ret
  exact ⟨rfl, hb1⟩
def IsAt (x : Nat) (n M : Int) : Prop := wholeOf x = some n ∧ -M ≤ n ∧ n ≤ M
theorem okB_iff {x : Nat} {M : Int} : okB x M = true ↔ ∃ n, IsAt x n M := by
  unfold okB IsAt
  cases h : wholeOf x with
  | none => simp
  | some n => simp
theorem IsAt.ok {x : Nat} {n M : Int} (h : IsAt x n M) : okB x M = true := okB_iff.2 ⟨n, h⟩
theorem IsAt.unit {x : Nat} {n M : Int} (h : IsAt x n M) : unitOf x = some (n * K) := (wholeOf_some.1 h.1).1
theorem IsAt.bound {x : Nat} {n M : Int} (h : IsAt x n M) : -4503599627370496 ≤ n ∧ n ≤ 4503599627370496 := (wholeOf_some.1 h.1).2
theorem IsAt.more {x : Nat} {n M M' : Int} (h : IsAt x n M) (hM : M ≤ M') : IsAt x n M' := ⟨h.1, by have := h.2; omega, by have := h.2; omega⟩
theorem IsAt.whole {x : Nat} {n M : Int} (h : IsAt x n M) : IsAt x n 4503599627370496 := ⟨h.1, h.bound⟩
theorem IsAt.toInt {x : Nat} {n M : Int} (h : IsAt x n M) : floatToIntVal .f64 x .i64 = some n := by
  have hb := h.bound
  have ht : (FloatKind.f64.decode x).toInt .zero = some n := by
    have := toInt_units h.unit
    rw [tdiv_mul] at this
    exact this
  unfold floatToIntVal
  rw [ht]
  simp only
  rw [if_pos]
  show -9223372036854775808 ≤ n ∧ n ≤ 9223372036854775807
  omega
theorem isAt_fl (n : Int) {M : Int} (h0 : -M ≤ n) (h1 : n ≤ M) (hM : M ≤ 4503599627370496) : IsAt (floatOfInt .f64 n) n M := ⟨ofInt_whole n (by omega) (by omega), h0, h1⟩
theorem IsAt.order {x y : Nat} {n m M M' : Int} (h : IsAt x n M) (h' : IsAt y m M') : FloatKind.f64.format.order x y = some (compare n m) := by
  have := order_units h.unit h'.unit
  rw [compare_scale _ _ _ K_pos] at this
  exact this
theorem IsAt.same {x y : Nat} {n M M' : Int} (h : IsAt x n M) (h' : IsAt y n M') : FloatKind.f64.format.order x y = some .eq := by
  rw [h.order h', compare_eq]
theorem isAt_zero : IsAt 0 0 0 := ⟨wholeOf_some.2 ⟨(nearest_zero false).trans (by simp), by omega, by omega⟩, by omega, by omega⟩
theorem both_cases (a b : Nat) (M : Int) : (∃ n m, IsAt a n M ∧ IsAt b m M) ∨ (okB a M && okB b M) = false := by
  cases ha : okB a M with
  | false => exact .inr rfl
  | true =>
    cases hb : okB b M with
    | false => exact .inr rfl
    | true =>
      obtain ⟨n, hn⟩ := okB_iff.1 ha
      obtain ⟨m, hm⟩ := okB_iff.1 hb
      exact .inl ⟨n, m, hn, hm⟩
theorem both_ok {a b : Nat} {n m M : Int} (ha : IsAt a n M) (hb : IsAt b m M) : (okB a M && okB b M) = true := by rw [ha.ok, hb.ok]; rfl
set_option maxHeartbeats 400000 in
theorem parts_yes {a b : Nat} {n m : Int} (ha : IsAt a n 4503599627370496) (hb : IsAt b m 4503599627370496) (w : World) :
    Calls Tryz.prog 312 #[.complex .f64 a b] w fun e w' => e = .returned (.tuple #[.int .i64 n, .int .i64 m, .int .i64 0]) ∧ Below w.heap.size w w' := by
  have H := Lib.hid (whole_any a b w)
  rw [both_ok ha hb] at H
  have c1 := fun w => run_convert_float_int (P := Tryz.prog) w 384 2 .f64 .i64 a n (by kernel_rfl) Tryz.underlying2 ha.toInt
  have c2 := fun w => run_convert_float_int (P := Tryz.prog) w 384 2 .f64 .i64 b m (by kernel_rfl) Tryz.underlying2 hb.toInt
  clear ha hb
  go_enter Tryz.func312, Tryz.ntmps312
  go_wp2_with (go_at_call 382; refine H.out.mono ?_; rintro e w1 ⟨rfl, hb1⟩)
  go_ret3
  exact ⟨rfl, hb1⟩
set_option maxHeartbeats 400000 in
theorem parts_no {a b : Nat} (h : (okB a 4503599627370496 && okB b 4503599627370496) = false) (w : World) :
    Calls Tryz.prog 312 #[.complex .f64 a b] w fun e w' => e = .returned (.tuple #[.int .i64 0, .int .i64 0, .int .i64 5]) ∧ Below w.heap.size w w' := by
  have H := Lib.hid (whole_any a b w)
  rw [h] at H
  clear h
  go_enter Tryz.func312, Tryz.ntmps312
  go_wp2_with (go_at_call 382; refine H.out.mono ?_; rintro e w1 ⟨rfl, hb1⟩)
  go_ret3
  exact ⟨rfl, hb1⟩
def fitsB (n : Int) : Bool := decide (-4503599627370496 ≤ n ∧ n ≤ 4503599627370496)
theorem fits_any (n : Int) (w : World) : Calls Tryz.prog 292 #[.int .i64 n] w fun e w' => e = .returned (.bool (fitsB n)) ∧ w = w' := by
  by_cases h1 : -4503599627370496 ≤ n
  · by_cases h2 : n ≤ 4503599627370496
    · have HV := Lib.hid (show fitsB n = true from decide_eq_true ⟨h1, h2⟩)
      go_enter Tryz.func292, Tryz.ntmps292
      go_wp2
      go_ret
      exact ⟨ret_bool (by rw [HV.out]), rfl⟩
    · have HV := Lib.hid (show fitsB n = false from decide_eq_false fun h => h2 h.2)
      go_enter Tryz.func292, Tryz.ntmps292
      go_wp2
      go_ret
      exact ⟨ret_bool (by rw [HV.out]), rfl⟩
  · have HV := Lib.hid (show fitsB n = false from decide_eq_false fun h => h1 h.1)
    go_enter Tryz.func292, Tryz.ntmps292
    go_wp2
    go_ret
    exact ⟨ret_bool (by rw [HV.out]), rfl⟩
set_option maxHeartbeats 400000 in
theorem of_yes {n m : Int} (h1 : -4503599627370496 ≤ n) (h2 : n ≤ 4503599627370496) (h3 : -4503599627370496 ≤ m) (h4 : m ≤ 4503599627370496) (w : World) :
    Calls Tryz.prog 200 #[.int .i64 n, .int .i64 m] w fun e w' => e = .returned (.tuple #[.complex .f64 (floatOfInt .f64 n) (floatOfInt .f64 m), .int .i64 0]) ∧ w = w' := by
  have F1 := Lib.hid (fits_any n w)
  have F2 := Lib.hid (fits_any m w)
  rw [show fitsB n = true from decide_eq_true ⟨h1, h2⟩] at F1
  rw [show fitsB m = true from decide_eq_true ⟨h3, h4⟩] at F2
  go_enter Tryz.func200, Tryz.ntmps200
  go_wp2_with fail
  refine F1.out.mono ?_
  rintro e w1 ⟨rfl, rfl⟩
  go_wp2_with fail
  refine F2.out.mono ?_
  rintro e w1 ⟨rfl, rfl⟩
  go_wp2_with fail
  go_ret2
  exact ⟨rfl, rfl⟩
set_option maxHeartbeats 400000 in
theorem of_no {n m : Int} (h : ¬ (-4503599627370496 ≤ n ∧ n ≤ 4503599627370496 ∧ -4503599627370496 ≤ m ∧ m ≤ 4503599627370496)) (w : World) :
    Calls Tryz.prog 200 #[.int .i64 n, .int .i64 m] w fun e w' => e = .returned (.tuple #[.complex .f64 0 0, .int .i64 3]) ∧ w = w' := by
  have F1 := Lib.hid (fits_any n w)
  have F2 := Lib.hid (fits_any m w)
  by_cases hn : -4503599627370496 ≤ n ∧ n ≤ 4503599627370496
  · have hm : ¬ (-4503599627370496 ≤ m ∧ m ≤ 4503599627370496) := fun hm => h ⟨hn.1, hn.2, hm⟩
    rw [show fitsB n = true from decide_eq_true hn] at F1
    rw [show fitsB m = false from decide_eq_false hm] at F2
    clear h hn hm
    go_enter Tryz.func200, Tryz.ntmps200
    go_wp2_with fail
    refine F1.out.mono ?_
    rintro e w1 ⟨rfl, rfl⟩
    go_wp2_with fail
    refine F2.out.mono ?_
    rintro e w1 ⟨rfl, rfl⟩
    go_wp2_with fail
    go_ret2
    exact ⟨rfl, rfl⟩
  · rw [show fitsB n = false from decide_eq_false hn] at F1
    clear h hn
    go_enter Tryz.func200, Tryz.ntmps200
    go_wp2_with fail
    refine F1.out.mono ?_
    rintro e w1 ⟨rfl, rfl⟩
    go_wp2_with fail
    go_ret2
    exact ⟨rfl, rfl⟩
end Go.Proofs.YtdfbohaohjaloaaGreatDoor
end
section
namespace Go.Proofs.YtdfbohaohjaloaaGreatDoor
open Go.RowKit Punnet.Flt
def ofR (n m : Int) : Nat × Nat × Int := if -4503599627370496 ≤ n ∧ n ≤ 4503599627370496 ∧ -4503599627370496 ≤ m ∧ m ≤ 4503599627370496 then (floatOfInt .f64 n, floatOfInt .f64 m, 0) else (0, 0, 3)
theorem of_any (n m : Int) (w : World) : Calls Tryz.prog 200 #[.int .i64 n, .int .i64 m] w fun e w' => e = .returned (.tuple #[.complex .f64 (ofR n m).1 (ofR n m).2.1, .int .i64 (ofR n m).2.2]) ∧ w = w' := by
  unfold ofR
  by_cases h : -4503599627370496 ≤ n ∧ n ≤ 4503599627370496 ∧ -4503599627370496 ≤ m ∧ m ≤ 4503599627370496
  · rw [if_pos h]; exact of_yes h.1 h.2.1 h.2.2.1 h.2.2.2 w
  · rw [if_neg h]; exact of_no h w
set_option maxHeartbeats 400000 in
theorem plus_yes {a b c d : Nat} {n m n' m' : Int} (ha : IsAt a n 4503599627370496) (hb : IsAt b m 4503599627370496) (hc : IsAt c n' 4503599627370496) (hd : IsAt d m' 4503599627370496) (w : World) :
    Calls Tryz.prog 405 #[.complex .f64 a b, .complex .f64 c d] w fun e w' => e = .returned (.tuple #[.complex .f64 (ofR (n + n') (m + m')).1 (ofR (n + n') (m + m')).2.1, .int .i64 (ofR (n + n') (m + m')).2.2]) ∧ Below w.heap.size w w' := by
  have S1 := Lib.hid (whole_any a b)
  have S2 := Lib.hid (whole_any c d)
  rw [both_ok ha hb] at S1
  rw [both_ok hc hd] at S2
  have P1 := Lib.hid (parts_yes ha hb)
  have P2 := Lib.hid (parts_yes hc hd)
  obtain ⟨b1, b2⟩ := ha.bound
  obtain ⟨b3, b4⟩ := hb.bound
  obtain ⟨b5, b6⟩ := hc.bound
  obtain ⟨b7, b8⟩ := hd.bound
  have O := Lib.hid (of_any (n + n') (m + m'))
  generalize ofR (n + n') (m + m') = R at *
  clear ha hb hc hd
  go_enter Tryz.func405, Tryz.ntmps405
  go_wp2_with fail
  refine (S1.out _).mono ?_
  rintro e w1 ⟨rfl, hb1⟩
  go_wp2_with fail
  refine (S2.out _).mono ?_
  rintro e w2 ⟨rfl, hb2⟩
  go_wp2_with fail
  refine (P1.out _).mono ?_
  rintro e w3 ⟨rfl, hb3⟩
  go_wp2_with fail
  refine (P2.out _).mono ?_
  rintro e w4 ⟨rfl, hb4⟩
  go_wp2_with fail
  refine (O.out _).mono ?_
  rintro e w5 ⟨rfl, rfl⟩
  go_wp2_with fail
  go_ret2
  exact ⟨rfl, by repeat (first | exact Below.refl _ _ | assumption | refine below_two ?_ (by assumption))⟩
set_option maxHeartbeats 400000 in
theorem plus_no {a b c d : Nat} (h : (okB a 4503599627370496 && okB b 4503599627370496 && (okB c 4503599627370496 && okB d 4503599627370496)) = false) (w : World) :
    Calls Tryz.prog 405 #[.complex .f64 a b, .complex .f64 c d] w fun e w' => e = .returned (.tuple #[.complex .f64 0 0, .int .i64 5]) ∧ Below w.heap.size w w' := by
  have S1 := Lib.hid (whole_any a b)
  have S2 := Lib.hid (whole_any c d)
  cases h1 : (okB a 4503599627370496 && okB b 4503599627370496) with
  | false =>
    rw [h1] at S1
    clear h h1
    go_enter Tryz.func405, Tryz.ntmps405
    go_wp2_with fail
    refine (S1.out _).mono ?_
    rintro e w1 ⟨rfl, hb1⟩
    go_wp2_with fail
    go_ret2
    exact ⟨rfl, hb1⟩
  | true =>
    rw [h1, Bool.true_and] at h
    rw [h1] at S1
    rw [h] at S2
    clear h h1
    go_enter Tryz.func405, Tryz.ntmps405
    go_wp2_with fail
    refine (S1.out _).mono ?_
    rintro e w1 ⟨rfl, hb1⟩
    go_wp2_with fail
    refine (S2.out _).mono ?_
    rintro e w2 ⟨rfl, hb2⟩
    go_wp2_with fail
    go_ret2
    exact ⟨rfl, below_two hb1 hb2⟩
end Go.Proofs.YtdfbohaohjaloaaGreatDoor
end
section
namespace Go.Proofs.YtdfbohaohjaloaaGreatDoor
open Go.RowKit Punnet.Flt
end Go.Proofs.YtdfbohaohjaloaaGreatDoor
end
section
namespace Go.Vm
open Go.RowKit Punnet.Flt Go.Proofs Go.Proofs.YtdfbohaohjaloaaGreatDoor
def cOf (n m : Int) : Nat × Nat := ((ofR n m).1, (ofR n m).2.1)
def okN (n : Int) : Prop := -4503599627370496 ≤ n ∧ n ≤ 4503599627370496
def IsC (x : Nat × Nat) (n m : Int) : Prop := IsAt x.1 n 4503599627370496 ∧ IsAt x.2 m 4503599627370496
theorem isC_of {n m : Int} (hn : okN n) (hm : okN m) : IsC (cOf n m) n m := by
  unfold cOf ofR
  rw [if_pos ⟨hn.1, hn.2, hm.1, hm.2⟩]
  exact ⟨isAt_fl n hn.1 hn.2 (by omega), isAt_fl m hm.1 hm.2 (by omega)⟩
theorem isC_zero : IsC (0, 0) 0 0 := ⟨⟨isAt_zero.1, by decide, by decide⟩, ⟨isAt_zero.1, by decide, by decide⟩⟩
theorem isC_uniq {x : Nat × Nat} {n m n' m' : Int} (h : IsC x n m) (k : IsC x n' m') : n = n' ∧ m = m' := by
  have a := h.1.1; have b := k.1.1; have c := h.2.1; have d := k.2.1
  rw [a] at b; rw [c] at d
  injection b with b; injection d with d
  exact ⟨b, d⟩
noncomputable def partsR (x : Nat × Nat) : Int × Int × Int := open Classical in if h : ∃ n m, IsC x n m then (h.choose, h.choose_spec.choose, 0) else (0, 0, 5)
noncomputable def plusR (x y : Nat × Nat) : Nat × Nat × Int := ofR' (partsR x) (partsR y)
where ofR' (a b : Int × Int × Int) : Nat × Nat × Int := if a.2.2 = 0 ∧ b.2.2 = 0 then ofR (a.1 + b.1) (a.2.1 + b.2.1) else (0, 0, 5)
theorem partsR_yes {x : Nat × Nat} {n m : Int} (h : IsC x n m) : partsR x = (n, m, 0) := by
  unfold partsR
  have hh : ∃ n m, IsC x n m := ⟨n, m, h⟩
  rw [dif_pos hh]
  obtain ⟨a, b⟩ := isC_uniq hh.choose_spec.choose_spec h
  rw [b]
  simp only [a]
theorem partsR_no {x : Nat × Nat} (h : ¬ ∃ n m, IsC x n m) : partsR x = (0, 0, 5) := by unfold partsR; rw [dif_neg h]
theorem isC_cases (x : Nat × Nat) : (∃ n m, IsC x n m) ∨ (okB x.1 4503599627370496 && okB x.2 4503599627370496) = false := by
  rcases both_cases x.1 x.2 4503599627370496 with ⟨n, m, hn, hm⟩ | h
  · exact .inl ⟨n, m, hn, hm⟩
  · exact .inr h
theorem isC_not {x : Nat × Nat} (h : (okB x.1 4503599627370496 && okB x.2 4503599627370496) = false) : ¬ ∃ n m, IsC x n m := by
  rintro ⟨n, m, hn, hm⟩
  rw [both_ok hn hm] at h; cases h
theorem planeOf_any (n m : Int) : Contract Tryz.prog 200 [.sc (.int .i64 n), .sc (.int .i64 m)] [.d (.sc (.complex .f64 (cOf n m).1 (cOf n m).2)), .d (.sc (.int .i64 (ofR n m).2.2))] :=
  old_tup (us := [.int .i64 n, .int .i64 m]) (rs := []) (by simp [plainV]) fun w => (of_any n m w).mono fun e w' h => ⟨h.1, by rw [h.2]; exact Below.refl _ _⟩
theorem planeParts_any (x : Nat × Nat) : Contract Tryz.prog 312 [.sc (.complex .f64 x.1 x.2)] [.d (.sc (.int .i64 (partsR x).1)), .d (.sc (.int .i64 (partsR x).2.1)), .d (.sc (.int .i64 (partsR x).2.2))] := by
  refine old_tup (us := [.complex .f64 x.1 x.2]) (rs := [.int .i64 (partsR x).2.2]) (by simp [plainV]) fun w => ?_
  rcases isC_cases x with ⟨n, m, h⟩ | h
  · rw [partsR_yes h]; exact parts_yes h.1 h.2 w
  · rw [partsR_no (isC_not h)]; exact parts_no h w
theorem planePlus_any (x y : Nat × Nat) : Contract Tryz.prog 405 [.sc (.complex .f64 x.1 x.2), .sc (.complex .f64 y.1 y.2)] [.d (.sc (.complex .f64 (plusR x y).1 (plusR x y).2.1)), .d (.sc (.int .i64 (plusR x y).2.2))] := by
  refine old_tup (us := [.complex .f64 x.1 x.2, .complex .f64 y.1 y.2]) (rs := []) (by simp [plainV]) fun w => ?_
  unfold plusR plusR.ofR'
  rcases isC_cases x with ⟨n, m, h⟩ | h
  · rcases isC_cases y with ⟨n', m', k⟩ | k
    · rw [partsR_yes h, partsR_yes k, if_pos ⟨rfl, rfl⟩]; exact plus_yes h.1 h.2 k.1 k.2 w
    · rw [partsR_no (isC_not k), if_neg (by simp)]; exact plus_no (by rw [k, Bool.and_false]) w
  · rw [partsR_no (isC_not h), if_neg (by simp)]; exact plus_no (by rw [h]; rfl) w
end Go.Vm
end
