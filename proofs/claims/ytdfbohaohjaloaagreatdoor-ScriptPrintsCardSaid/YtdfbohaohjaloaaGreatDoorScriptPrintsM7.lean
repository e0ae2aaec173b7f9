/- Part 7. -/
import Derived.Test.YtdfbohaohjaloaaGreatDoorProg
import Derived.KernelRfl
import Ieee.Arith
import Derived.Laws.Externs
import Derived.Laws.FloatArith
import Derived.Deep.QuietTactic
import Derived.BigQuiet
import Derived.Test.YtdfbohaohjaloaaGreatDoorScriptPrintsM6
set_option linter.unusedVariables false
set_option linter.unusedSimpArgs false
set_option maxHeartbeats 1000000
section
namespace Go.Rn
open Go.RowKit
open Go.Vm (AY Dt Ez Bl CU DL Fz enters Closed JJ F8 EI QN)
set_option linter.unusedSectionVars false
variable [Cx]
section
variable {P:Program} {N base:Nat} {w0:World} {ops:Array Oper} {Ts:Nat→Tr V} {mem:Nat→Tr Blk×Nat} {b:Nat→Nat} {B kf:Nat}
theorem At.done {listed:Array Bool}{s:St}{q:Nat}(A:At ops Ts mem b B kf listed s q none)(F:Facts P N ops Ts mem b B kf)(h:∀j,j<ops.size→listed.getD j false=true):s=stT (Ts ops.size) (mem B).1 (mem B).2:=by
 have hq:q=B:=by
  rcases Nat.lt_or_ge q B with h1|h1
  ·have:=A.no q (Nat.le_refl _) h1 (fun _=>rfl)
   rw [h _ (F.lt q h1)] at this;cases this
  ·have:=A.le;omega
 subst hq
 obtain ⟨t,hp,n⟩:=s
 have h1:hp=(mem q).1.get:=A.h
 have h2:n=(mem q).2:=A.n
 subst h1 h2
 simp only [stT]
 congr 1
 funext u
 by_cases hu:∃(j:Nat) (o:Oper),ops[j]? = some o∧o.dst=some u
 ·obtain ⟨j,o,h3,h4⟩:=hu
  have hlt:=EI h3
  rw [show t u=_ from A.slot j o u h3 (h j hlt) h4 (fun _=>rfl),F.past h3 h4 hlt (Nat.le_refl _)]
 ·have hst:=F.stay (u:=u) ops.size 0 (by omega) fun j o _ _ h3 h4=>hu ⟨j,o,h3,h4⟩
  rw [Nat.zero_add] at hst
  rw [show t u=_ from A.rest u fun j o h3 _ h4=>hu ⟨j,o,h3,h4⟩,hst]
theorem Mem.float {n:Nat}{π:Pi}{h:Hp}{w:World}(hm:Mem base w0 π h n w)(o:Obj):Mem base w0 ⟨π.pl,π.op,(w.heap.size,o)::π.fl⟩ h n (w.alloc o):=by
 have hbl:Below w.heap.size w (w.alloc o):=(Below.refl _ w).alloc (Nat.le_refl _) o
 have hk:=hm.keep hbl
 have hsub:π.sub ⟨π.pl,π.op,(w.heap.size,o)::π.fl⟩:=⟨fun _ _ h=>h,rfl⟩
 refine ⟨fun k c hc=>?_,hm.sep,hm.fresh,hk.lt,hk.below,hk.size,hm.ctx,fun x hx=>?_⟩
 ·obtain ⟨q,h1,h2,h3⟩:=hk.place k c hc
  exact ⟨q,h1,h2.sub hsub,h3⟩
 ·rcases List.mem_cons.1 hx with rfl|hx
  ·exact ⟨hm.size,heap_alloc_new w o,fun id p hp=>by have:=hm.lt id p hp;simp only;omega⟩
  ·exact hk.fl x hx
theorem Mem.land {n x:Nat}{π:Pi}{h:Hp}{w:World}(hm:Mem base w0 π h n w){z:Array Value}{e:TypeId}{l:List (Nat×Obj)}(hfl:π.fl=(x,.cells z e (0,0))::l)(hnd:∀y∈l,y.1≠x)(ho:z.toList.all (·.oneCell')=true) :
 π.sub ⟨fun k=>if k=n then some ⟨x,0,z.size,1⟩ else π.pl k,π.op,l⟩∧Mem base w0 ⟨fun k=>if k=n then some ⟨x,0,z.size,1⟩ else π.pl k,π.op,l⟩ (hset h n (some (.cells (z.toList.map .sc)))) (n+1) w:=by
 have hsub:π.sub ⟨fun k=>if k=n then some ⟨x,0,z.size,1⟩ else π.pl k,π.op,l⟩:=⟨fun k q hq=>by
  show (if k=n then _ else π.pl k)=some q
  rw [if_neg (by rintro rfl;rw [hm.fresh k (Nat.le_refl _)] at hq;cases hq)]
  exact hq,rfl⟩
 obtain ⟨x1,x2,x3⟩:=hm.fl (x,.cells z e (0,0)) (by rw [hfl];exact List.mem_cons_self ..)
 have hne:∀k c,h k=some c→k≠n:=by
  rintro k c h0 rfl
  obtain ⟨q,h1,_⟩:=hm.place k c h0
  rw [hm.fresh k (Nat.le_refl _)] at h1;cases h1
 have hpl:∀k q,(if k=n then some (⟨x,0,z.size,1⟩:Pl) else π.pl k)=some q→(k=n∧q=⟨x,0,z.size,1⟩)∨(k≠n∧π.pl k=some q):=fun k q hq=>by
  split at hq
  ·rename_i e1;injection hq with hq;exact .inl ⟨e1,hq.symm⟩
  ·rename_i e1;exact .inr ⟨e1,hq⟩
 refine ⟨hsub,fun k c hc=>?_,fun k k' c c' q q' hc hc' r r' hq hq' e=>?_,fun k hk=>?_,fun k q hq=>?_,hm.below,hm.size,hm.ctx,fun y hy=>?_⟩
 ·unfold hset at hc
  split at hc
  ·rename_i e1;subst e1;injection hc with hc;subst hc
   refine ⟨⟨x,0,z.size,1⟩,if_pos rfl,⟨z,e,z.toList,x2,by simp,MC ho,List.all_eq_true.1 ho,by simp,fun j u hj=>by simpa using hj⟩,fun _=>x1,fun h0=>by cases h0⟩
  ·rename_i e1
   obtain ⟨q,h1,h2,h3⟩:=hm.place k c hc
   exact ⟨q,hsub.1 k q h1,h2.sub hsub,h3⟩
 ·unfold hset at hc hc'
  rcases hpl k q hq with ⟨e1,e2⟩|⟨e1,e2⟩<;>rcases hpl k' q' hq' with ⟨e3,e4⟩|⟨e3,e4⟩
  ·rw [e1,e3]
  ·exact absurd (by rw [←e,e2]) (x3 k' q' e4)
  ·exact absurd (by rw [e,e4]) (x3 k q e2)
  ·rw [if_neg e1] at hc
   rw [if_neg e3] at hc'
   exact hm.sep k k' c c' q q' hc hc' r r' e2 e4 e
 ·show (if k=n then _ else π.pl k)=none
  rw [if_neg (by omega)];exact hm.fresh k (by omega)
 ·rcases hpl k q hq with ⟨_,e2⟩|⟨_,e2⟩
  ·rw [e2];exact (Array.getElem?_eq_some_iff.1 x2).1
  ·exact hm.lt k q e2
 ·obtain ⟨y1,y2,y3⟩:=hm.fl y (by rw [hfl];exact List.mem_cons_of_mem _ hy)
  refine ⟨y1,y2,fun k q hq=>?_⟩
  rcases hpl k q hq with ⟨_,e2⟩|⟨_,e2⟩
  ·rw [e2];exact fun e3=>hnd y hy e3.symm
  ·exact y3 k q e2
theorem At.land {listed:Array Bool}{s:St}{x d:Nat}{o:Oper}(A:At ops Ts mem b B kf listed s kf (some x))(F:Facts P N ops Ts mem b B kf)(ho:ops[b kf]? = some o)(hd:o.dst=some d)(hts:(Ts (b kf+1)).get d=some (.ptr (mem kf).2 0)) :
 At ops Ts mem b B kf listed { (s.put (some d) (.ptr (mem kf).2 0)) with h:=(mem (kf+1)).1.get,n:=(mem (kf+1)).2 } (kf+1) none:=by
 obtain ⟨_,f2,f3,_⟩:=A.fl x rfl
 have ht:∀u,(s.put (some d) (.ptr (mem kf).2 0)).t u=if u=d then some (.ptr (mem kf).2 0) else s.t u:=fun u=>rfl
 refine ⟨A.size,A.closed,by omega,fun k hk=>?_,fun k h1 h2 _=>A.no k (by omega) h2 (fun e=>by omega),rfl,rfl,fun j o' u h1 h2 h3 _=>?_,fun u h=>?_,fun x hx=>by cases hx⟩
 ·by_cases e:k=kf
  ·subst e;exact f3
  ·exact A.yes k (by omega)
 ·show (s.put (some d) (.ptr (mem kf).2 0)).t u=_
  rw [ht]
  by_cases e:j=b kf
  ·subst e
   rw [ho] at h1;injection h1 with h1;subst h1
   rw [hd] at h3;injection h3 with h3;subst h3
   rw [if_pos rfl];exact hts.symm
  ·have:¬u=d:=fun h4=>e (F.one h1 ho h3 (by rw [hd,h4]))
   rw [if_neg this]
   exact A.slot j o' u h1 h2 h3 (fun h4=>absurd h4 e)
 ·show (s.put (some d) (.ptr (mem kf).2 0)).t u=_
  rw [ht,if_neg (fun e=>h (b kf) o ho f3 (by rw [hd,e]))]
  exact A.rest u h
def FlR (P:Program)(ops:Array Oper)(b:Nat→Nat)(kf:Nat)(π0 π:Pi):Option Nat→Prop
 |none=>π.fl=π0.fl
 |some x=>∃(z:Array Value) (e:TypeId),π.fl=(x,.cells z e (0,0))::π0.fl∧(∀y∈π0.fl,y.1≠x)∧z.toList.all (·.oneCell')=true∧∀o T cs,ops[b kf]? = some o→o.op=.alloc T→zeroV P T=some cs→cs=z.toList.map .sc
theorem FlR.le {π0 π π':Pi}{fa:Option Nat}(h:FlR P ops b kf π0 π fa)(hl:π.le π'):FlR P ops b kf π0 π' fa:=by
 cases fa with
 |none=>exact hl.2.2.trans h
 |some x=>
  obtain ⟨z,e,h1,h2⟩:=h
  exact ⟨z,e,hl.2.2.trans h1,h2⟩
theorem Aqe (F:Facts P N ops Ts mem b B kf){Q:Exit→Act→World→Prop}{π0:Pi}(hQ:∀π' a' w',π0.le π'→Rel base N w0 π' (stT (Ts ops.size) (mem B).1 (mem B).2) a' w'→Q .normal a' w'):∀(fuel:Nat) (listed:Array Bool) (s:St) (q:Nat) (fa:Option Nat) (π:Pi) (a:Act) (w:World),At ops Ts mem b B kf listed s q fa→(∀x,fa=some x→q<kf)→Rel base N w0 π s a w→π0.sub π→FlR P ops b kf π0 π fa→(Ji ops listed).length≤fuel →
 wpAny P .any ops Q fuel listed a w:=by
 have none_of:∀{listed:Array Bool} {s:St} {q:Nat} {fa:Option Nat},At ops Ts mem b B kf listed s q fa→(∀x,fa=some x→q<kf)→(∀j,j<ops.size→listed.getD j false=true)→fa=none:=by
  intro listed s q fa A hqf h
  cases fa with
  |none=>rfl
  |some x=>
   exfalso
   have f1:=hqf x rfl
   obtain ⟨_,f2,_⟩:=A.fl x rfl
   have:=A.no q (Nat.le_refl _) (by omega) (fun e=>by omega)
   rw [h _ (F.lt q (by omega))] at this;cases this
 intro fuel
 induction fuel with
 |zero=>
  intro listed s q fa π a w A hqf hr hsub hfl hu
  have hall:∀j,j<ops.size→listed.getD j false=true:=by
   intro j hj
   by_cases h:listed.getD j false=true
   ·exact h
   ·exfalso
    have:j∈Ji ops listed:=by
     unfold Ji
     rw [List.mem_filter]
     exact ⟨List.mem_range.2 hj,by simpa using h⟩
    have h1:Ji ops listed= []:=List.length_eq_zero_iff.1 (by omega)
    rw [h1] at this;cases this
  refine ⟨?_,?_⟩
  ·apply List.eq_nil_iff_forall_not_mem.2
   intro i hi
   obtain ⟨h1,o,h2,_⟩:=mem_ready.1 hi
   exact F8 (hall i (EI h2)) h1
  ·obtain rfl:=none_of A hqf hall
   rw [A.done F hall] at hr
   exact hQ π a w ⟨hsub.1,hsub.2,hfl⟩ hr
 |succ fuel ih=>
  intro listed s q fa π a w A hqf hr hsub hfl hu
  refine ⟨fun h0=>?_,fun i hi=>?_⟩
  ·obtain rfl:=none_of A hqf (AcY F A.size h0)
   rw [A.done F (AcY F A.size h0)] at hr
   exact hQ π a w ⟨hsub.1,hsub.2,hfl⟩ hr
  ·obtain ⟨hun,o,ho,hall⟩:=mem_ready.1 hi
   have hlt:=EI ho
   have hunf:listed.getD i false=false:=by
    cases h:listed.getD i false with
    |true=>exact (F8 h hun).elim
    |false=>rfl
   have hfuel:(Ji ops (listed.setIfInBounds i true)).length≤fuel:=by
    have:=Asr A.size hlt hunf;omega
   have hread:∀u,u∈o.looksAt ops→s.t u=(Ts i).get u:=fun u hu=>A.reads F hqf hi ho hu
   have hag:AgO o (Ts i) s:=by
    intro x v hx hv
    cases x with
    |tmp u=>rw [show Ap s (.tmp u)=s.t u from rfl,hread u (QN hx)];exact hv
    |const c=>exact hv
    |func f=>exact hv
    |global g=>exact hv
   obtain ⟨r,hr1,hr2,hr3,run,hw,hskip,hrun⟩:=(F.op i o ho).upd
   have hw':Hz ops o s.t run:=by
    unfold Hz at *
    cases hg:o.guard with
    |none=>rw [hg] at hw;exact hw
    |some p=>
     obtain ⟨j,want⟩:=p
     rw [hg] at hw
     obtain ⟨oj,u,h1,h2,h3⟩:=hw
     have hm:u∈o.looksAt ops:=by
      unfold Oper.looksAt
      rw [hg]
      simp [h1,h2]
     rw [←hread u hm] at h3
     exact ⟨oj,u,h1,h2,h3⟩
   have hput:∀(s1:St) (u:Nat),(s1.upd o.dst r).t u=if o.dst=some u then (Ts (i+1)).get u else s1.t u:=by
    intro s1 u
    cases hd:o.dst with
    |none=>rw [hr1 hd];simp [St.upd]
    |some d=>
     obtain ⟨_,h2⟩:=hr2 d hd
     cases hrr:r with
     |none=>exact absurd hrr h2
     |some v=>
      simp only [St.upd,St.put]
      by_cases e:u=d
      ·subst e
       rw [if_pos rfl,if_pos rfl,hr3,if_pos hd,hrr]
      ·rw [if_neg e,if_neg (fun h=>e (by injection h with h;exact h.symm))]
   unfold wpOp
   rw [ho]
   simp only
   cases run with
   |false=>
    rw [if_neg (by rw [SB hr hw'];decide)]
    obtain ⟨hs1,hs2⟩:=hskip rfl
    have hsk:=hr.skipped (d:=o.dst) (fun u hu=>(hr2 u hu).1)
    refine ih _ (s.put o.dst (.tup [])) q fa π _ w (A.next F hi ho (fun u=>?_) (.inl ⟨rfl,hs2⟩) (fun x hx=>Nat.le_of_lt (hqf x hx)) ?_ ?_) hqf hsk hsub hfl hfuel
    ·have:=hput s u
     rw [←this]
     rcases hs1 with e|e
     ·rw [e]
      cases hd:o.dst with
      |none=>rfl
      |some d=>exact absurd e (hr2 d hd).2
     ·rw [e];rfl
    ·cases hd:o.dst<;>exact A.h
    ·cases hd:o.dst<;>exact A.n
   |true=>
    rw [if_pos (SB hr hw')]
    refine .inl ?_
    have hqn:q=kf→fa=none:=fun e=>by
     cases hfa:fa with
     |none=>rfl
     |some x=>have:=hqf x hfa;omega
    rcases hrun rfl with ⟨k,h1,h2,h3⟩|⟨h1,lo,hi2,hlB,h2,h3,h4⟩
    ·rcases Nat.lt_trichotomy k q with h|h|h
     ·have:=A.yes k h
      rw [h2] at this
      exact (F8 this hun).elim
     ·subst h
      refine h3 s hag A.h A.n base w0 π a w hr _ Q fun π' a' w' hle hr'=>?_
      have A':=A.next F hi ho (fun u=>hput s u) (.inr ⟨rfl,h1,h2⟩) (s':={ (s.upd o.dst r) with h:=(mem (k+1)).1.get,n:=(mem (k+1)).2 }) (fun x hx=>hqf x hx) rfl rfl
      have hfl':=hfl.le hle
      have hsub':=Pi.RN hsub hle.sub
      by_cases hadopt:k+1=kf∧∃x,fa=some x
      ·obtain ⟨e1,x,hx⟩:=hadopt
       subst hx
       obtain ⟨_,f2,f3,f4⟩:=A'.fl x rfl
       obtain ⟨of,Tf,df,csf,g1,g2,g3,g4,g5,g6,g7,g8,_⟩:=F.flo f2
       obtain ⟨z,e,l1,l2,l3,l4⟩:=hfl'
       have hcs:=l4 of Tf csf g1 g2 g5
       have hlast:=f4 df of g1 g3
       obtain ⟨m1,m2⟩:=hr'.mem.land l1 l2 l3
       have A2:At ops Ts mem b B kf (listed.setIfInBounds i true) { (s.upd o.dst r) with h:=(mem (k+1)).1.get,n:=(mem (k+1)).2 } kf (some x):=e1▸A'
       have A3:=A2.land F g1 g3 g8
       have hlt:∀x,(none:Option Nat)=some x→kf+1<kf:=fun x hx=>by cases hx
       refine ih _ _ (kf+1) none _ a' w' A3 hlt ⟨?_,hr'.tsz,hr'.defs,fun u v hv=>?_⟩ (Pi.RN hsub' m1) rfl hfuel
       ·show Mem base w0 _ (mem (kf+1)).1.get (mem (kf+1)).2 w'
        rw [g6,g7,hcs,←e1]
        exact m2
       ·have hv:(if u=df then some (V.ptr (mem kf).2 0) else (s.upd o.dst r).t u)=some v:=hv
        split at hv
        ·rename_i eu
         injection hv with hv
         subst hv eu
         obtain ⟨y,y1,y2⟩:=hr'.slot u _ hlast
         refine ⟨y,y1,?_⟩
         rw [Ai] at y2
         have y2:some (Value.pointer (some ⟨x,0,none⟩))=some y:=y2
         rw [Ai]
         have:(if (mem kf).2=(mem (k+1)).2 then some (⟨x,0,z.size,1⟩:Pl) else π'.pl (mem kf).2)=some ⟨x,0,z.size,1⟩:=if_pos (by rw [e1])
         show (match (if (mem kf).2=(mem (k+1)).2 then some (⟨x,0,z.size,1⟩:Pl) else π'.pl (mem kf).2) with
          |some p=>some (Value.pointer (some ⟨p.b,p.base+0,none⟩))
          |none=>none)=some y
         rw [this]
         exact y2
        ·obtain ⟨y,y1,y2⟩:=hr'.slot u v hv
         exact ⟨y,y1,Ol m1 y2⟩
      ·refine ih _ _ (k+1) fa π' a' w' A' (fun x hx=>?_) hr' hsub' hfl' hfuel
       have h4:=hqf x hx
       rcases Nat.lt_or_ge (k+1) kf with h5|h5
       ·exact h5
       ·exact absurd ⟨by omega,x,hx⟩ hadopt
     ·by_cases hk:k=kf
      ·subst hk
       have hfa:fa=none:=by
        cases hfa:fa with
        |none=>rfl
        |some x=>
         exfalso
         obtain ⟨_,_,f3,_⟩:=A.fl x hfa
         rw [h2] at f3
         exact F8 f3 hun
       subst hfa
       obtain ⟨of,Tf,df,csf,g1,g2,g3,g4,g5,g6,g7,g8,_⟩:=F.flo h1
       rw [h2,ho] at g1;injection g1 with g1;subst g1
       obtain ⟨inf,z,z1,z2,z3,z4⟩:=OG g5
       have hexec:(execOp a.eval o).run P w=.ok (.value (.pointer (some ⟨w.heap.size,0,none⟩))) (w.alloc (.cells z.cells Tf)):=by simp [execOp,g2,Instr.alloc,zeroValue,typeInfo,z1,z2,newVar,newRow]
       unfold Oper.wp
       rw [hexec,Oper.upon_value,g3]
       have hsubf:π.sub ⟨π.pl,π.op,(w.heap.size,.cells z.cells Tf (0,0))::π.fl⟩:=⟨fun _ _ h=>h,rfl⟩
       have hmf:=hr.mem.float (.cells z.cells Tf (0,0))
       have hrf:Rel base N w0 ⟨π.pl,π.op,(w.heap.size,.cells z.cells Tf (0,0))::π.fl⟩ (s.put (some df) (.sc (.pointer (some ⟨w.heap.size,0,none⟩)))) (a.put (some df) (.pointer (some ⟨w.heap.size,0,none⟩))) (w.alloc (.cells z.cells Tf (0,0))):=by
        refine ⟨hmf,by simp [Act.put,hr.tsz],hr.defs,fun u v hv=>?_⟩
        have hv:(if u=df then some (V.sc (.pointer (some ⟨w.heap.size,0,none⟩))) else s.t u)=some v:=hv
        split at hv
        ·rename_i eu
         injection hv with hv
         subst hv eu
         exact ⟨.pointer (some ⟨w.heap.size,0,none⟩),by simp [Act.put,hr.tsz,g4],by rw [Ai,if_pos (by rfl)]⟩
        ·rename_i eu
         obtain ⟨y,y1,y2⟩:=hr.slot u v hv
         refine ⟨y,?_,Ol hsubf y2⟩
         rw [←y1]
         simp [Act.put,Array.getElem?_setIfInBounds_ne (fun q=>eu q.symm)]
       have hil:i<listed.size:=by rw [A.size];exact hlt
       refine ih _ (s.put (some df) (.sc (.pointer (some ⟨w.heap.size,0,none⟩)))) q (some w.heap.size) _ _ _ ⟨by simp [A.size],A.closed.next hi,A.le,fun k' hk'=>(Il hil).2 (.inr (A.yes k' hk')),fun k' q1 q2 q3=>?_,A.h,A.n,fun j o' u q1 q2 q3 q4=>?_,fun u hu=>?_,fun x hx=>?_⟩ (fun x _=>h) hrf (Pi.RN hsub hsubf) ?_ hfuel
       ·have hne:k'≠k:=fun e=>by have:=q3 e;cases this
        have h6:=A.no k' q1 q2 (fun _=>rfl)
        have h7:b k'≠i:=by
         rcases Nat.lt_or_gt_of_ne hne with h8|h8
         ·intro e;exact F.inj k' k h8 h1 (by rw [e,h2])
         ·intro e;exact F.inj k k' h8 q2 (by rw [e,h2])
        have h5:¬(listed.setIfInBounds i true).getD (b k') false=true:=by
         rw [Il hil,h6];simp [h7]
        simpa using h5
       ·have hji:j≠i:=fun e=>by have:=q4 (by rw [e,h2]);cases this
        have hud:¬u=df:=fun e=>hji (F.one q1 ho q3 (by rw [g3,e]))
        show (if u=df then _ else s.t u)=_
        rw [if_neg hud]
        exact A.slot j o' u q1 (((Il hil).1 q2).resolve_left hji) q3 (fun _=>rfl)
       ·have hud:¬u=df:=fun e=>hu i o ho ((Il hil).2 (.inl rfl)) (by rw [g3,e])
        show (if u=df then _ else s.t u)=_
        rw [if_neg hud]
        exact A.rest u fun j o' q1 q2=>hu j o' q1 ((Il hil).2 (.inr q2))
       ·injection hx with hx
        subst hx
        refine ⟨Nat.le_of_lt h,h1,by rw [h2];exact (Il hil).2 (.inl rfl),fun d o' q1 q2=>?_⟩
        rw [h2,ho] at q1;injection q1 with q1;subst q1
        rw [g3] at q2;injection q2 with q2;subst q2
        exact if_pos rfl
       ·refine ⟨z.cells,Tf,by rw [show π.fl=π0.fl from hfl],fun y hy=>?_,List.all_eq_true.2 z4,fun o' T' cs' q1 q2 q3=>?_⟩
        ·have:=(hr.mem.fl y (by rw [show π.fl=π0.fl from hfl];exact hy)).2.1
         have:=(Array.getElem?_eq_some_iff.1 this).1
         omega
        ·rw [h2,ho] at q1;injection q1 with q1;subst q1
         rw [g2] at q2;injection q2 with q2;subst q2
         rw [g5] at q3;injection q3 with q3;subst q3
         exact z3
      ·have hre:=F.chain q k h h1 hk
       rw [h2] at hre
       have h5:=SV A.closed hre (.inl hi)
       have h6:=A.no q (Nat.le_refl _) (by omega) hqn
       rw [h6] at h5;cases h5
    ·have hlo:lo≤q:=by
      rcases Nat.lt_or_ge q lo with h|h
      ·exfalso
       have h6:=SV A.closed (h2 q h) (.inl hi)
       rw [A.no q (Nat.le_refl _) (by omega) hqn] at h6;cases h6
      ·exact h
     have hhi:q≤hi2:=by
      rcases Nat.lt_or_ge hi2 q with h|h
      ·exfalso
       have h5:=A.yes hi2 h
       have h6:=SV A.closed (h3 (by have:=A.le;omega)) (.inr h5)
       exact F8 h6 hun
      ·exact h
     refine h4 q hlo hhi s hag A.h A.n base w0 π a w hr _ Q fun π' a' w' hle hr'=>?_
     refine ih _ _ q fa π' a' w' (A.next F hi ho (fun u=>hput s u) (.inl ⟨rfl,h1⟩) (fun x hx=>Nat.le_of_lt (hqf x hx)) ?_ ?_) hqf hr' (Pi.RN hsub hle.sub) (hfl.le hle) hfuel
     ·cases r<;>cases hd:o.dst<;>exact A.h
     ·cases r<;>cases hd:o.dst<;>exact A.n
theorem AnM (hm:P.follows .mixedOrders=true)(F:Facts P N ops Ts mem b B kf)(id:Nat):RC P N (.region id ops true) (stT (Ts 0) (mem 0).1 (mem 0).2) .normal (stT (Ts ops.size) (mem B).1 (mem B).2):=by
 intro base w0 π a w hr Q hQ
 refine wp_region_any hm (Aqe F (π0:=π) hQ ops.size _ (stT (Ts 0) (mem 0).1 (mem 0).2) 0 none π a _ ⟨by simp,?_,Nat.zero_le _,fun k h=>by omega,fun k _ h _=>?_,rfl,rfl,fun j o u h1 h2=>?_,fun u _=>rfl,fun x hx=>by cases hx⟩ (fun x hx=>by cases hx) ?_ ⟨fun _ _ h=>h,rfl⟩ rfl ?_)
 ·intro k o ho hl
  exfalso
  have hlt:=EI ho
  simp [hlt] at hl
 ·simp [F.lt k h]
 ·exfalso
  simp [EI h1] at h2
 ·exact ⟨hr.mem.keep ((Below.refl _ _).drew),hr.tsz,hr.defs,hr.slot⟩
 ·unfold Ji
  refine Nat.le_trans (List.length_filter_le _ _) (by simp)
end
end Go.Rn
end
section
namespace Go.Rn
open Go.RowKit
open Go.Vm (AY Dt Ez Bl CU DL Fz enters Closed JJ F8 EI QN)
set_option linter.unusedSectionVars false
noncomputable def Xh (a b:Value):Bool:=match a,b with
 | .int k i,.int k' j=>match JL k k' with
  |true=>eqI i j
  |false=>false
 | .bool true,.bool true=>true
 | .bool false,.bool false=>true
 | .string s,.string r=>eqB s.data.toList r.data.toList
 | .pointer none,.pointer none=>true
 | .map none,.map none=>true
 | .slice none 0 0,.slice none 0 0=>true
 | .nilFunc,.nilFunc=>true
 | .complex .f64 a b,.complex .f64 c d=>match Nat.beq a c with
  |true=>Nat.beq b d
  |false=>false
 |_,_=>false
theorem Av2 {a b:Value}(h:Xh a b=true):a=b:=by
 unfold Xh at h
 split at h
 ·split at h
  ·rename_i hs
   cases KY hs
   rw [Vz] at h
   rw [of_decide_eq_true h]
  ·cases h
 ·rfl
 ·rfl
 ·rw [eqS] at h;rw [of_decide_eq_true h]
 ·rfl
 ·rfl
 ·rfl
 ·rfl
 ·split at h
  ·rename_i h1
   rw [Nat.eq_of_beq_eq_true h1,Nat.eq_of_beq_eq_true h]
  ·cases h
 ·cases h
def eqC (a b:Option Nat):Bool:=match a,b with
 |none,none=>true
 |some a,some b=>Nat.beq a b
 |_,_=>false
theorem AjG {a b:Option Nat}(h:eqC a b=true):a=b:=by
 cases a<;>cases b<;>first|rfl|(cases h;done)|(rw [Nat.eq_of_beq_eq_true (show Nat.beq _ _=true from h)])
noncomputable def eqO (a b:V):Bool:=match a,b with
 | .sc x,.sc y=>Xh x y
 | .ptr i o,.ptr i' o'=>match Nat.beq i i' with
  |true=>Nat.beq o o'
  |false=>false
 | .sl i o s n c,.sl i' o' s' n' c'=>match Nat.beq i i' with
  |true=>match Nat.beq o o' with
   |true=>match Nat.beq s s' with
    |true=>match Nat.beq n n' with
     |true=>eqC c c'
     |false=>false
    |false=>false
   |false=>false
  |false=>false
 | .mp i,.mp i'=>Nat.beq i i'
 | .fn f [],.fn f' []=>Nat.beq f f'
 | .opq k,.opq k'=>Nat.beq k k'
 |_,_=>false
theorem YQ {a b:V}(h:eqO a b=true):a=b:=by
 unfold eqO at h
 split at h
 ·rw [Av2 h]
 ·split at h
  ·rename_i h1;rw [Nat.eq_of_beq_eq_true h1,Nat.eq_of_beq_eq_true h]
  ·cases h
 ·split at h
  ·rename_i h1
   split at h
   ·rename_i h2
    split at h
    ·rename_i h3
     split at h
     ·rename_i h4
      rw [Nat.eq_of_beq_eq_true h1,Nat.eq_of_beq_eq_true h2,Nat.eq_of_beq_eq_true h3,Nat.eq_of_beq_eq_true h4,AjG h]
     ·cases h
    ·cases h
   ·cases h
  ·cases h
 ·rw [Nat.eq_of_beq_eq_true h]
 ·rw [Nat.eq_of_beq_eq_true h]
 ·rw [Nat.eq_of_beq_eq_true h]
 ·cases h
noncomputable def eqL (l:List V):List V→Bool:=@List.rec V (fun _=>List V→Bool) (fun m=>match m with
 | []=>true
 |_::_=>false) (fun a _ ih m=>match m with
 | []=>false
 |b::m=>match eqO a b with
  |true=>ih m
  |false=>false) l
theorem AaP:∀{l m:List V},eqL l m=true→l=m
 | [],[],_=>rfl
 | [],_::_,h=>by cases h
 |_::_,[],h=>by cases h
 |a::l,b::m,h=>by
  have h:(match eqO a b with|true=>eqL l m|false=>false)=true:=h
  split at h
  ·rename_i h1;rw [YQ h1,AaP h]
  ·cases h
noncomputable def eqV (a b:V):Bool:=match a,b with
 | .agg l,.agg m=>eqL l m
 |a,b=>eqO a b
theorem VA {a b:V}(h:eqV a b=true):a=b:=by
 unfold eqV at h
 split at h
 ·rw [AaP h]
 ·exact YQ h
structure Pd where
 i:Nat
 id:Nat
 off:Nat
 k:Nat
 ag:Bool
 v:V
def PQ (h:Hp)(p:Pd):Prop:=∃b cs,h p.id=some b∧b.cs=some cs∧IE (p.ag,p.k) cs p.off=some p.v
noncomputable def OC (m:Tr Blk)(p:Pd)(K:Prop):Prop:=match m.get p.id with
 |some b=>match b.cs with
  |some cs=>Gt p.ag p.k cs p.off fun v=>match eqV p.v v with
   |true=>K
   |false=>False
  |none=>False
 |none=>False
theorem Ado {m:Tr Blk}{p:Pd}{K:Prop}(h:OC m p K):PQ m.get p∧K:=by
 unfold OC at h
 split at h
 ·rename_i b hb
  split at h
  ·rename_i cs hcs
   obtain ⟨v,h1,h2⟩:=G9 h
   split at h2
   ·rename_i he
    rw [←VA he] at h1
    exact ⟨⟨b,cs,hb,hcs,h1⟩,h2⟩
   ·exact h2.elim
  ·exact h.elim
 ·exact h.elim
abbrev Sn:=List (Nat×Tr Blk×Nat)
noncomputable def VM (mask:Nat)(p:Pd)(l:Sn):Prop→Prop:=@List.rec (Nat×Tr Blk×Nat) (fun _=>Prop→Prop) (fun K=>K) (fun e _ ih K=>match waits mask e.1 with
 |true=>K
 |false=>OC e.2.1 p (ih K)) l
noncomputable def QW (mask:Nat)(m:Tr Blk)(l:List Pd):(List Pd→Prop)→Prop:=@List.rec Pd (fun _=>(List Pd→Prop)→Prop) (fun K=>K []) (fun p _ ih K=>match waits mask p.i with
 |true=>ih K
 |false=>OC m p (ih fun l=>K (p::l))) l
def XW (o:Oper):Bool:=match o.op with
 | .call c=>match c.callee with
  | .builtin .len=>false
  | .builtin .min=>false
  | .builtin .max=>false
  |_=>true
 | .box _ _=>true
 | .alloc _=>true
 | .buildSlice _ _ _=>true
 | .makeSlice _ _ _=>true
 | .makeMap _ _=>true
 | .range _ _=>true
 | .store _ _ _=>true
 | .mapEntry _ _ _=>true
 | .entryStore _ _ _ _=>true
 |_=>false
noncomputable def isText (o:Oper)(t:Tr V):Bool:=match o.op with
 | .convert _ _ (.tmp u)=>match t.get u with
  |some (.sl _ _ _ _ _)=>true
  |_=>false
 | .lookup _ _ _ _=>true
 |_=>false
def orB (a b:Bool):Bool:=match a with
 |true=>true
 |false=>b
noncomputable def Pz (P:Program)(ck:CK)(N:Nat)(o:Oper)(t:Tr V)(m:Tr Blk)(n:Nat)(K:Tr V→Tr Blk→Nat→Prop):Prop:=match o.dst with
 |none=>Q8 P o t m fun m=>K t m n
 |some d=>match Nat.ble N d with
  |true=>False
  |false=>match o.op with
   | .call c=>match c.callee with
    | .value f=>ovK t f fun g=>match g with
     | .fn f caps=>Uk t c.args.toList fun vs=>JH vs caps fun vs=>ck f vs m n fun v m n=>AQ t d (some v) fun t=>K t m n
     |_=>False
    |_=>Gy P o t m n fun v m n=>AQ t d (some v) fun t=>K t m n
   | .convert _ _ _=>QM P o t m (fun v=>AQ t d (some v) fun t=>K t m n) False
   | .lookup _ _ _ _=>JU P o t m fun v=>AQ t d (some v) fun t=>K t m n
   |_=>Gy P o t m n fun v m n=>AQ t d (some v) fun t=>K t m n
abbrev DW:=Bool→Nat→List Nat→Tr V→Tr Blk→Nat→Sn→List Pd→(Tr V→Tr Blk→Nat→Prop)→Prop
def V4 (mask:Nat)(l:Sn):Bool:=match l with
 | []=>true
 |e::_=>waits mask e.1
def okF (all:Array Oper)(o:Oper)(i:Nat)(l:Sn):Bool:=match o.op with
 | .alloc _=>match o.dst with
  |some d=>(List.range all.size).all fun j=>Nat.beq j i||(match all[j]?,(masks all.toList)[j]? with
   |some o',some mk=>(!((o'.looksAt all).contains d) && !(waits mk i))||l.all fun e=>waits mk e.1
   |_,_=>true)
  |none=>false
 |_=>false
noncomputable def dwB (P:Program)(ck:CK)(N:Nat)(all:Array Oper)(o:Oper)(ih:DW):DW:=fun fl i ml t m n sn pd K=>match ml with
 | []=>False
 |mask::ml=>gK all o t fun run=>match run with
  |false=>match o.dst with
   |some d=>match Nat.ble N d with
    |true=>False
    |false=>AQ t d (some (.tup [])) fun t=>ih fl (Nat.succ i) ml t m n sn pd K
   |none=>ih fl (Nat.succ i) ml t m n sn pd K
  |true=>match orB (XW o) (isText o t) with
   |true=>match V4 mask sn with
    |true=>Pz P ck N o t m n fun t' m' n'=>QW mask m' pd fun pd=>ih fl (Nat.succ i) ml t' m' n' ((i,m,n)::sn) pd K
    |false=>match fl with
     |true=>False
     |false=>match okF all o i sn with
      |true=>Pz P ck N o t m n fun t' m' n'=>QW mask m' pd fun pd=>ih true (Nat.succ i) ml t' m' n' ((i,m,n)::sn) pd K
      |false=>False
   |false=>match o.dst with
    |none=>False
    |some d=>match Nat.ble N d with
     |true=>False
     |false=>match o.op with
      | .load _ (.global _)=>JU P o t m fun v=>AQ t d (some v) fun t=>ih fl (Nat.succ i) ml t m n sn pd K
      | .load T x=>ovK t x fun u=>match u with
       | .ptr id off=>match m.get id with
        |some b=>match b.cs with
         |some cs=>match Bl P T with
          |some (ag,k)=>Gt ag k cs off fun v=>VM mask ⟨i,id,off,k,ag,v⟩ sn (AQ t d (some v) fun t=>ih fl (Nat.succ i) ml t m n sn (⟨i,id,off,k,ag,v⟩::pd) K)
          |none=>False
         |none=>False
        |none=>False
       |_=>False
      |_=>match Ja o with
       |true=>JU P o t m fun v=>AQ t d (some v) fun t=>ih fl (Nat.succ i) ml t m n sn pd K
       |false=>False
noncomputable def dw (P:Program)(ck:CK)(N:Nat)(all:Array Oper)(l:List Oper):DW:=@List.rec Oper (fun _=>DW) (fun _ _ _ t m n _ _ K=>K t m n) (fun o _ ih=>dwB P ck N all o ih) l
noncomputable def WO (P:Program)(ck:CK)(N:Nat)(ops:Array Oper):XL:=fun t m n K=>match P.follows .mixedOrders with
 |true=>match okR ops with
  |true=>dw P ck N ops ops.toList false 0 (masks ops.toList) t m n [] [] K
  |false=>False
 |false=>False
variable [Cx]
def J3 (mem:Nat→Tr Blk×Nat)(b:Nat→Nat):Sn→Nat→Prop
 | [],q=>q=0
 |e::l,q=>∃q',q=q' + 1∧b q'=e.1∧mem q'=e.2∧J3 mem b l q'
section
variable {P:Program} {N:Nat} {ops:Array Oper} {ck:CK} {mem:Nat→Tr Blk×Nat} {b:Nat→Nat}
theorem Aa9 {mask i:Nat}{fq:Option Nat}(hmask:∀j,mask.testBit j=true→Reach ops i j)(hf:∀k0,fq=some k0→mask.testBit (b k0)=true→∀k,k<k0→Reach ops i (b k)){p:Pd}:∀{l:Sn} {q:Nat} {K:Prop},J3 mem b l q→(∀k k',k<k'→k' < q→fq≠some k'→Reach ops (b k') (b k))→VM mask p l K→(∃lo,lo≤q∧(∀k,k<lo→Reach ops i (b k))∧∀k,lo≤k→k<q→PQ (mem k).1.get p)∧K
 | [],q,K,hs,_,h=>by
  have hs:q=0:=hs
  subst hs
  exact ⟨⟨0,Nat.le_refl _,fun k hk=>by omega,fun k _ hk=>by omega⟩,h⟩
 |e::l,q,K,hs,hc,h=>by
  obtain ⟨q',rfl,h1,h2,h3⟩:=hs
  have h:(match waits mask e.1 with|true=>K|false=>OC e.2.1 p (VM mask p l K)):=h
  split at h
  ·rename_i hw
   rw [P9] at hw
   have hr:=hmask _ hw
   rw [←h1] at hr hw
   refine ⟨⟨q' + 1,Nat.le_refl _,fun k hk=>?_,fun k h4 h5=>by omega⟩,h⟩
   by_cases e:k=q'
   ·subst e;exact hr
   ·by_cases e2:fq=some q'
    ·exact hf q' e2 hw k (by omega)
    ·exact .more hr (hc k q' (by omega) (by omega) e2)
  ·obtain ⟨h4,h5⟩:=Ado h
   obtain ⟨⟨lo,h6,h7,h8⟩,h9⟩:=Aa9 hmask hf (l:=l) h3 (fun k k' h1 h2=>hc k k' h1 (by omega)) h5
   refine ⟨⟨lo,by omega,h7,fun k h10 h11=>?_⟩,h9⟩
   by_cases e:k=q'
   ·subst e;rw [h2];exact h4
   ·exact h8 k h10 (by omega)
def AdN (ops:Array Oper)(mem:Nat→Tr Blk×Nat)(b:Nat→Nat)(B q:Nat)(p:Pd):Prop:=∃hi,q≤hi∧hi≤B∧(hi<B→Reach ops (b hi) p.i)∧∀k,q<k→k≤hi→PQ (mem k).1.get p
theorem S9 {mask:Nat}{m:Tr Blk}:∀{l:List Pd} {K:List Pd→Prop},QW mask m l K→∃l',(∀p∈l,mask.testBit p.i=true∨(p∈l'∧PQ m.get p))∧K l'
 | [],K,h=>⟨[],by simp,h⟩
 |p::l,K,h=>by
  have h:(match waits mask p.i with|true=>QW mask m l K|false=>OC m p (QW mask m l fun l=>K (p::l))):=h
  split at h
  ·rename_i hw
   obtain ⟨l',h1,h2⟩:=S9 (l:=l) h
   rw [P9] at hw
   refine ⟨l',fun r hr=>?_,h2⟩
   rcases List.mem_cons.1 hr with rfl|hr
   ·exact .inl hw
   ·exact h1 r hr
  ·obtain ⟨h3,h4⟩:=Ado h
   obtain ⟨l',h1,h2⟩:=S9 (l:=l) (K:=fun l=>K (p::l)) h4
   refine ⟨p::l',fun r hr=>?_,h2⟩
   rcases List.mem_cons.1 hr with rfl|hr
   ·exact .inr ⟨List.mem_cons_self ..,h3⟩
   ·exact (h1 r hr).imp id fun ⟨q1,q2⟩=>⟨List.mem_cons_of_mem _ q1,q2⟩
def XB (P:Program)(N:Nat)(o:Oper)(t:Tr V)(m:Tr Blk)(n:Nat)(K:Tr V→Tr Blk→Nat→Prop):Prop:=∃r t' m' n',(o.dst=none→r=none)∧(∀d,o.dst=some d→d<N∧r≠none)∧(∀u,t'.get u=if o.dst=some u then r else t.get u) ∧
 (∀s:St,AgO o t s→s.h=m.get→s.n=n→Step P N o s { (s.upd o.dst r) with h:=m'.get,n:=n' })∧K t' m' n'
theorem Am3 {o:Oper}{T:TypeId}{d:Nat}{t:Tr V}{m:Tr Blk}{n:Nat}{K:Tr V→Tr Blk→Nat→Prop}(hop:o.op=.alloc T)(hdst:o.dst=some d)(h:Pz P ck N o t m n K):∃cs t' m',d<N∧zeroV P T=some cs∧m'.get=hset m.get n (some (.cells cs))∧(∀u,t'.get u=if u=d then some (.ptr n 0) else t.get u) ∧
 (∀s:St,AgO o t s→s.h=m.get→s.n=n→Step P N o s { (s.upd o.dst (some (.ptr n 0))) with h:=m'.get,n:=n+1 })∧K t' m' (n+1):=by
 unfold Pz at h
 rw [hdst] at h
 simp only [hop] at h
 split at h
 ·exact h.elim
 ·rename_i hN
  have hd:=OY hN
  unfold Gy at h
  simp only [hop] at h
  split at h
  ·rename_i cs hz
   have h2:=Py h
   obtain ⟨m',q,h5⟩:=Ie h2
   obtain ⟨t',h3,h4⟩:=Bh h5
   refine ⟨cs,t',m',hd,hz,q,h3,fun s _ hh hn=>?_,h4⟩
   have:=AbV (P:=P) (s:=s) hop hz hdst hd
   rw [hh,hn] at this
   rw [q,hdst]
   exact this
  ·exact h.elim
theorem ApE (hck:I5 P ck){o:Oper}{t:Tr V}{m:Tr Blk}{n:Nat}{K:Tr V→Tr Blk→Nat→Prop}(h:Pz P ck N o t m n K):XB P N o t m n K:=by
 unfold Pz at h
 have done:∀{d:Nat} {v:V} {t1:Tr V} {m1:Tr Blk} {n1:Nat},o.dst=some d→d<N→(∀s:St,AgO o t s→s.h=m.get→s.n=n→Step P N o s { (s.put (some d) v) with h:=m1.get,n:=n1 })→(∀u,t1.get u=if u=d then some v else t.get u)→K t1 m1 n1 →
  XB P N o t m n K:=by
  intro d v t1 m1 n1 hdst hd hst ht hK
  refine ⟨some v,t1,m1,n1,(fun e=>by rw [hdst] at e;cases e),(fun d' e=>by rw [hdst] at e;injection e with e;subst e;exact ⟨hd,by simp⟩),fun u=>?_,fun s ha h1 h2=>?_,hK⟩
  ·rw [ht,hdst]
   by_cases e:u=d
   ·subst e;simp
   ·rw [if_neg e,if_neg (fun h=>e (by injection h with h;exact h.symm))]
  ·rw [hdst];exact hst s ha h1 h2
 split at h
 ·rename_i hdst
  obtain ⟨m',h1,h2⟩:=AdC h
  refine ⟨none,t,m',n,fun _=>rfl,(fun d e=>by rw [hdst] at e;cases e),(fun u=>by rw [hdst];simp),fun s ha h3 h4=>?_,h2⟩
  have:=h1 N s ha h3 h4 hdst
  rw [hdst];exact this
 ·rename_i d hdst
  split at h
  ·exact h.elim
  ·rename_i hN
   have hd:=OY hN
   have mem:(Gy P o t m n fun v m n=>AQ t d (some v) fun t=>K t m n)→XB P N o t m n K:=fun h=>by
    obtain ⟨v,m',n',h1,h2⟩:=Zc h
    obtain ⟨t',h3,h4⟩:=Bh h2
    exact done hdst hd (fun s ha hh hn=>h1 N s d ha hh hn hdst hd) h3 h4
   split at h
   ·rename_i c hop
    split at h
    ·rename_i f hc
     obtain ⟨g,h1,h2⟩:=Bj h
     clear h
     split at h2
     ·rename_i f' caps
      obtain ⟨vs,h3,h4⟩:=TD h2
      have h5:=O0 h4
      obtain ⟨v,m',n',h6,h7,h8⟩:=hck _ _ _ _ _ h5
      obtain ⟨t',h9,h10⟩:=Bh h8
      refine done hdst hd (fun s ha hh hn=>?_) h9 h10
      have hmem:∀x,x∈c.args.toList→x∈o.op.operands:=fun x hx=>by simp [hop,Op.operands,Call.operands];exact .inr (by simpa using hx)
      have hf:f∈o.op.operands:=by simp [hop,Op.operands,Call.operands,hc]
      exact YT (P:=P) (N:=N) (s:=s) hop hc (ha f _ hf (h1 _ _)) (h3 s fun x v hx hv=>ha x v (hmem x hx) hv) h6 (by rw [hh,hn];exact h7) hdst hd
     ·exact h2.elim
    ·exact mem h
   ·rcases AaS h with h|⟨v,h1,h2⟩
    ·exact h.elim
    ·obtain ⟨t',h3,h4⟩:=Bh h2
     exact done hdst hd (fun s ha hh hn=>by
      have:=h1 N s d ha hh hdst hd
      have e:({ (s.put (some d) v) with h:=m.get,n:=n }:St)=s.put (some d) v:=by
       rw [←hh,←hn];rfl
      rw [e];exact this) h3 h4
   ·obtain ⟨v,h1,h2⟩:=Su h
    obtain ⟨t',h3,h4⟩:=Bh h2
    exact done hdst hd (fun s ha hh hn=>by
     have:=h1.1 N s d ha hh hdst hd
     have e:({ (s.put (some d) v) with h:=m.get,n:=n }:St)=s.put (some d) v:=by
      rw [←hh,←hn];rfl
     rw [e];exact this) h3 h4
   ·exact mem h
end
end Go.Rn
end
section
namespace Go.Rn
open Go.RowKit
open Go.Vm (AY Dt Ez Bl CU DL Fz enters Closed JJ F8 EI QN)
set_option linter.unusedSectionVars false
variable [Cx]
def JA {α:Type}(f:Nat→α)(i:Nat)(v:α):Nat→α:=fun j=>if j=i then v else f j
theorem Gf {α:Type}(f:Nat→α)(i:Nat)(v:α):JA f i v i=v:=if_pos rfl
theorem D9 {α:Type}{f:Nat→α}{i j:Nat}{v:α}(h:j≠i):JA f i v j=f j:=if_neg h
section
variable {P:Program} {N:Nat} {ops:Array Oper} {ck:CK}
theorem Qg.congr {Ts Ts':Nat→Tr V}{mem:Nat→Tr Blk×Nat}{b:Nat→Nat}{B j:Nat}{o:Oper}(h:Qg P N ops Ts' mem b B j o)(h1:Ts j=Ts' j)(h2:Ts (j+1)=Ts' (j+1)):Qg P N ops Ts mem b B j o:=by
 obtain ⟨r,q1,q2,q3,q4⟩:=h.upd
 exact ⟨r,q1,q2,by rw [h1,h2];exact q3,by rw [h1];exact q4⟩
theorem QH.congr {Ts Ts':Nat→Tr V}{mem:Nat→Tr Blk×Nat}{b:Nat→Nat}{k:Nat}(h:QH P N ops Ts' mem b k)(h1:Ts (b k+1)=Ts' (b k+1)):QH P N ops Ts mem b k:=by
 obtain ⟨o,T,d,cs,g1,g2,g3,g4,g5,g6,g7,g8,g9⟩:=h
 exact ⟨o,T,d,cs,g1,g2,g3,g4,g5,g6,g7,by rw [h1];exact g8,g9⟩
theorem J3.congr {mem mem':Nat→Tr Blk×Nat}{b b':Nat→Nat}:∀{l:Sn} {q:Nat},J3 mem b l q→(∀k,k<q→mem' k=mem k)→(∀k,k<q→b' k=b k)→J3 mem' b' l q
 | [],q,h,_,_=>h
 |e::l,q,h,h1,h2=>by
  obtain ⟨q',rfl,q1,q2,q3⟩:=h
  exact ⟨q',rfl,(h2 q' (by omega)).trans q1,(h1 q' (by omega)).trans q2,J3.congr q3 (fun k hk=>h1 k (by omega)) fun k hk=>h2 k (by omega)⟩
def Rest (P:Program)(N:Nat)(ops:Array Oper)(i:Nat)(t:Tr V)(mem0:Nat→Tr Blk×Nat)(b0:Nat→Nat)(q:Nat)(pd:List Pd)(K:Tr V→Tr Blk→Nat→Prop)(fq:Option Nat):Prop:=
 ∃(B:Nat) (mem:Nat→Tr Blk×Nat) (b:Nat→Nat) (Ts:Nat→Tr V) (kf:Nat),((∀k0,fq=some k0→kf=k0)∧(fq=none→q≤kf))∧(∀k k',q≤k→k<k'→k' < B→b k≠b k')∧(q≤kf→kf<B→QH P N ops Ts mem b kf)∧q≤B∧(∀k,k≤q→mem k=mem0 k)∧(∀k,k<q→b k=b0 k)∧Ts i=t∧(∀k,q≤k→k<B→i≤b k∧b k<ops.size)∧(∀k k',k<k'→k' < B→k'≠kf→Reach ops (b k') (b k)) ∧
  (∀p∈pd,AdN ops mem b B q p)∧(∀j o,i≤j→ops[j]? = some o→Qg P N ops Ts mem b B j o)∧K (Ts ops.size) (mem B).1 (mem B).2
theorem Rest.plain {i q:Nat}{o:Oper}{t t1:Tr V}{mem0:Nat→Tr Blk×Nat}{b0:Nat→Nat}{pd pd':List Pd}{K:Tr V→Tr Blk→Nat→Prop}{fq:Option Nat}(hi:ops[i]? = some o)(hb0:∀k,k<q→b0 k<i)(hpd:∀p∈pd,p∈pd'){r:Option V}(hr1:o.dst=none→r=none)(hr2:∀d,o.dst=some d→d<N∧r≠none)(ht:∀u,t1.get u=if o.dst=some u then r else t.get u)
 {run:Bool} (hw:Hz ops o t.get run) (hskip:run=false→(r=none∨r=some (.tup [])))
 (hrun:run=true→∀(B:Nat) (mem:Nat→Tr Blk×Nat) (b:Nat→Nat),q≤B→(∀k,k≤q→mem k=mem0 k)→(∀k,k<q→b k=b0 k)→(∀p∈pd',AdN ops mem b B q p)→∃lo hi,lo≤B∧(∀k,k<lo→Reach ops i (b k))∧(hi<B→Reach ops (b hi) i)∧∀q',lo≤q'→q'≤hi→∀s:St,AgO o t s→s.h=(mem q').1.get→s.n=(mem q').2→Step P N o s (s.upd o.dst r))
 (h:Rest P N ops (i+1) t1 mem0 b0 q pd' K fq):Rest P N ops i t mem0 b0 q pd K fq:=by
 obtain ⟨B,mem,b,Ts,kf,f1,f2,f3,h1,h2,h3,h4,h5,h6,h7,h8,h9⟩:=h
 have hlt:=EI hi
 have hne:∀k,k<B→b k≠i:=by
  intro k hk
  rcases Nat.lt_or_ge k q with h|h
  ·rw [h3 k h];have:=hb0 k h;omega
  ·have:=(h5 k h hk).1;omega
 refine ⟨B,mem,b,JA Ts i t,kf,f1,f2,fun z1 z2=>(f3 z1 z2).congr (D9 (by have:=(h5 kf z1 z2).1;omega)),h1,h2,h3,Gf ..,fun k q1 q2=>⟨by have:=(h5 k q1 q2).1;omega,(h5 k q1 q2).2⟩,h6,fun p hp=>h7 p (hpd p hp),fun j o' hj ho'=>?_,by rw [D9 (by omega)];exact h9⟩
 by_cases e:j=i
 ·subst e
  rw [hi] at ho';injection ho' with ho';subst ho'
  refine ⟨r,hr1,hr2,?_,run,?_,fun hf=>⟨hskip hf,hne⟩,fun hf=>.inr ⟨hne,?_⟩⟩
  ·rw [Gf,D9 (by omega),h4];exact ht
  ·rw [Gf];exact hw
  ·rw [Gf];exact hrun hf B mem b h1 h2 h3 h7
 ·exact (h8 j o' (by omega) ho').congr (D9 e) (D9 (by omega))
theorem Rest.bar {i q:Nat}{o:Oper}{t t1:Tr V}{m':Tr Blk}{n':Nat}{mem0:Nat→Tr Blk×Nat}{b0:Nat→Nat}{pd pd':List Pd}{K:Tr V→Tr Blk→Nat→Prop}{fq fq':Option Nat}(hi:ops[i]? = some o)(hb0:∀k,k<q→b0 k<i){r:Option V}(hr1:o.dst=none→r=none)(hr2:∀d,o.dst=some d→d<N∧r≠none)(ht:∀u,t1.get u=if o.dst=some u then r else t.get u)
 (hw:Hz ops o t.get true) (hst:∀s:St,AgO o t s→s.h=(mem0 q).1.get→s.n=(mem0 q).2→Step P N o s { (s.upd o.dst r) with h:=m'.get,n:=n' })
 (hpd:∀p∈pd,Reach ops i p.i∨(p∈pd'∧PQ m'.get p))
 (hnf:fq≠some q) (hfq:fq'=fq∨(fq=none∧fq'=some q∧∃T d cs,o.op=.alloc T∧o.dst=some d∧d<N∧zeroV P T=some cs∧m'.get=hset (mem0 q).1.get (mem0 q).2 (some (.cells cs))∧n'=(mem0 q).2+1∧t1.get d=some (.ptr (mem0 q).2 0)∧∀j o',ops[j]? = some o'→j≠i→d∈o'.looksAt ops→∀k',k' < q→Reach ops j (b0 k')))
 (h:Rest P N ops (i+1) t1 (JA mem0 (q+1) (m',n')) (JA b0 q i) (q+1) pd' K fq'):Rest P N ops i t mem0 b0 q pd K fq:=by
 obtain ⟨B,mem,b,Ts,kf,f1,f2,f3,h1,h2,h3,h4,h5,h6,h7,h8,h9⟩:=h
 have hlt:=EI hi
 have hbq:b q=i:=by rw [h3 q (by omega),Gf]
 have hmq:mem q=mem0 q:=by rw [h2 q (by omega),D9 (by omega)]
 have hmq1:mem (q+1)=(m',n'):=by rw [h2 (q+1) (Nat.le_refl _),Gf]
 refine ⟨B,mem,b,JA Ts i t,kf,?_,fun k k' q1 q2 q3=>?_,fun z1 z2=>?_,by omega,fun k hk=>?_,fun k hk=>?_,Gf ..,fun k q1 q2=>?_,h6,fun p hp=>?_,fun j o' hj ho'=>?_,by rw [D9 (by omega)];exact h9⟩
 ·rcases hfq with rfl|⟨rfl,rfl,_⟩
  ·exact ⟨f1.1,fun e=>by have:=f1.2 e;omega⟩
  ·exact ⟨(fun k0 e=>by cases e),fun _=>by have:=f1.1 q rfl;omega⟩
 ·by_cases e:k=q
  ·subst e
   rw [hbq]
   have:=(h5 k' (by omega) q3).1
   omega
  ·exact f2 k k' (by omega) q2 q3
 ·by_cases e:kf=q
  ·subst e
   rcases hfq with rfl|⟨_,rfl,T,d,cs,g1,g2,g3,g4,g5,g6,g7,g8⟩
   ·exfalso
    cases hq:fq' with
    |none=>have:=f1.2 hq;omega
    |some k0=>
     have:=f1.1 k0 hq
     subst this
     exact hnf hq
   ·refine ⟨o,T,d,cs,by rw [hbq];exact hi,g1,g2,g3,g4,by rw [hmq1,hmq];exact g5,by rw [hmq1,hmq];exact g6,by rw [hbq,D9 (by omega),h4,hmq];exact g7,fun j o' q1 q2 q3 k' hk'=>?_⟩
    rw [hbq] at q2
    rw [h3 k' (by omega),D9 (by omega)]
    exact g8 j o' q1 q2 q3 k' hk'
  ·exact (f3 (by omega) z2).congr (D9 (by have:=(h5 kf (by omega) z2).1;omega))
 ·rw [h2 k (by omega),D9 (by omega)]
 ·rw [h3 k (by omega),D9 (by omega)]
 ·by_cases e:k=q
  ·subst e;rw [hbq];exact ⟨Nat.le_refl _,hlt⟩
  ·have:=h5 k (by omega) q2;exact ⟨by omega,this.2⟩
 ·rcases hpd p hp with hr|⟨hm,hl⟩
  ·exact ⟨q,Nat.le_refl _,by omega,fun _=>by rw [hbq];exact hr,fun k q1 q2=>by omega⟩
  ·obtain ⟨hi2,q1,q2,q3,q4⟩:=h7 p hm
   refine ⟨hi2,by omega,q2,q3,fun k q5 q6=>?_⟩
   by_cases e:k=q+1
   ·subst e;rw [hmq1];exact hl
   ·exact q4 k (by omega) q6
 ·by_cases e:j=i
  ·subst e
   rw [hi] at ho';injection ho' with ho';subst ho'
   refine ⟨r,hr1,hr2,?_,true,?_,(fun hf=>by cases hf),fun _=>.inl ⟨q,by omega,hbq,?_⟩⟩
   ·rw [Gf,D9 (by omega),h4];exact ht
   ·rw [Gf];exact hw
   ·rw [Gf,hmq,hmq1];exact hst
  ·exact (h8 j o' (by omega) ho').congr (D9 e) (D9 (by omega))
theorem AiP {mask i q:Nat}{mem0:Nat→Tr Blk×Nat}{b0:Nat→Nat}{sn:Sn}{fq:Option Nat}(hmask:∀j,mask.testBit j=true→Reach ops i j)(hf:∀k0,fq=some k0→mask.testBit (b0 k0)=true→∀k,k<k0→Reach ops i (b0 k))(hs:J3 mem0 b0 sn q)(hc:∀k k',k<k'→k' < q→fq≠some k'→Reach ops (b0 k') (b0 k))(h:V4 mask sn=true):∀k,k<q→Reach ops i (b0 k):=by
 unfold V4 at h
 split at h
 ·have hs:q=0:=hs
  exact fun k hk=>by omega
 ·rename_i e l
  obtain ⟨q',rfl,h1,h2,h3⟩:=hs
  rw [P9] at h
  have hr:=hmask _ h
  rw [←h1] at hr h
  refine fun k hk=>?_
  by_cases e:k=q'
  ·subst e;exact hr
  ·by_cases e2:fq=some q'
   ·exact hf q' e2 h k (by omega)
   ·exact .more hr (hc k q' (by omega) (by omega) e2)
theorem Xn {mk j:Nat}(hmk:∀k,mk.testBit k=true→Reach ops j k){mem0:Nat→Tr Blk×Nat}{b0:Nat→Nat}:∀{sn:Sn} {q:Nat},J3 mem0 b0 sn q→(sn.all fun e=>waits mk e.1)=true→∀k,k<q→Reach ops j (b0 k)
 | [],q,hs,_,k,hk=>by
  have hs:q=0:=hs
  omega
 |e::l,q,hs,h,k,hk=>by
  obtain ⟨q',rfl,h1,h2,h3⟩:=hs
  rw [List.all_cons,Bool.and_eq_true] at h
  by_cases e2:k=q'
  ·subst e2
   rw [h1]
   exact hmk _ (by rw [←P9];exact h.1)
  ·exact Xn hmk h3 h.2 k (by omega)
theorem Avd {o:Oper}{i q:Nat}{sn:Sn}{mem0:Nat→Tr Blk×Nat}{b0:Nat→Nat}(hmk:∀(j m:Nat),(masks ops.toList)[j]? = some m→∀k,m.testBit k=true→Reach ops j k)(hml:(masks ops.toList).length=ops.size)(hs:J3 mem0 b0 sn q)(h:okF ops o i sn=true) :
 ∃T d,o.op=.alloc T∧o.dst=some d∧(∀j o',ops[j]? = some o'→j≠i→d∈o'.looksAt ops→∀k,k<q→Reach ops j (b0 k))∧∀j mk,j≠i→j<ops.size→(masks ops.toList)[j]? = some mk→mk.testBit i=true→∀k,k<q→Reach ops j (b0 k):=by
 unfold okF at h
 split at h
 ·rename_i T hop
  split at h
  ·rename_i d hdst
   have key:∀j o' mk,ops[j]? = some o'→(masks ops.toList)[j]? = some mk→j≠i→(!((o'.looksAt ops).contains d) && !(waits mk i))=true∨(sn.all fun e=>waits mk e.1)=true:=by
    intro j o' mk h1 h2 hne
    have h3:=List.all_eq_true.1 h j (List.mem_range.2 (EI h1))
    rw [h1,h2] at h3
    simp only [Bool.or_eq_true] at h3
    rcases h3 with h3|h3|h3
    ·exact absurd (Nat.eq_of_beq_eq_true h3) hne
    ·exact .inl h3
    ·exact .inr h3
   refine ⟨T,d,hop,hdst,fun j o' h1 hne hd k hk=>?_,fun j mk hne hj h2 hb k hk=>?_⟩
   ·have hlt:=EI h1
    have h2:(masks ops.toList)[j]? = some ((masks ops.toList)[j]'(by omega)):=List.getElem?_eq_getElem (by omega)
    rcases key j o' _ h1 h2 hne with h3|h3
    ·simp only [Bool.and_eq_true,Bool.not_eq_true'] at h3
     have:(o'.looksAt ops).contains d=true:=by simpa using hd
     rw [this] at h3;cases h3.1
    ·exact Xn (hmk j _ h2) hs h3 k hk
   ·rcases key j ops[j] mk (Array.getElem?_eq_getElem hj) h2 hne with h3|h3
    ·simp only [Bool.and_eq_true,Bool.not_eq_true'] at h3
     rw [←P9] at hb
     rw [hb] at h3;cases h3.2
    ·exact Xn (hmk j _ h2) hs h3 k hk
  ·cases h
 ·cases h
theorem Ak3 (hck:I5 P ck)(hmk:∀(j m:Nat),(masks ops.toList)[j]? = some m→∀k,m.testBit k=true→Reach ops j k)(hmz:(masks ops.toList).length=ops.size):∀(l:List Oper) (ml:List Nat) (i:Nat) (t:Tr V) (m:Tr Blk) (n:Nat) (sn:Sn) (pd:List Pd) (K:Tr V→Tr Blk→Nat→Prop) (mem0:Nat→Tr Blk×Nat) (b0:Nat→Nat) (q:Nat) (fl:Bool) (fq:Option Nat),
 (∀j,l[j]? = ops[i+j]?)→(∀j,ml[j]? = (masks ops.toList)[i+j]?)→i+l.length=ops.size→J3 mem0 b0 sn q→mem0 q=(m,n)→(∀k,k<q→b0 k<i)→(∀k k',k<k'→k' < q→fq≠some k'→Reach ops (b0 k') (b0 k))→(fl=false→fq=none)→(∀k0,fq=some k0→k0<q∧∀j mk,i≤j→j<ops.size→(masks ops.toList)[j]? = some mk→mk.testBit (b0 k0)=true→∀k,k<k0→Reach ops j (b0 k))→dw P ck N ops l fl i ml t m n sn pd K→Rest P N ops i t mem0 b0 q pd K fq:=by
 intro l
 induction l with
 |nil=>
  intro ml i t m n sn pd K mem0 b0 q fl fq hl hml hlen hs hm hb0 hch hfl hff h
  have h:K t m n:=h
  have hi:i=ops.size:=by simpa using hlen
  refine ⟨q,mem0,b0,fun _=>t,(match fq with|some k0=>k0|none=>q),⟨fun k0 e=>by subst e;rfl,fun e=>by subst e;exact Nat.le_refl _⟩,fun k k' q1 q2 q3=>by omega,fun q1 q2=>by omega,Nat.le_refl _,fun _ _=>rfl,fun _ _=>rfl,rfl,fun k q1 q2=>by omega,fun k k' q1 q2 q3=>hch k k' q1 q2 (fun e=>q3 (by subst e;rfl)),fun p _=>⟨q,Nat.le_refl _,Nat.le_refl _,fun h=>by omega,fun k q1 q2=>by omega⟩,fun j o q1 q2=>?_,by rw [hm];exact h⟩
  have:=EI q2;omega
 |cons o l ih=>
  intro ml i t m n sn pd K mem0 b0 q fl fq hl hml hlen hs hm hb0 hch hfl hff h
  have h:dwB P ck N ops o (dw P ck N ops l) fl i ml t m n sn pd K:=h
  have hi:ops[i]? = some o:=by simpa using (hl 0).symm
  have hl':∀j,l[j]? = ops[i+1+j]? := fun j=>by have:=hl (j+1);simpa [Nat.add_assoc,Nat.add_comm 1 j] using this
  have hlen':i+1+l.length=ops.size:=by simp at hlen;omega
  have hb1:∀k,k<q→b0 k<i+1:=fun k hk=>by have:=hb0 k hk;omega
  cases ml with
  |nil=>exact h.elim
  |cons mask ml=>
   have hml':∀j,ml[j]? = (masks ops.toList)[i+1+j]? := by
    intro j
    have h9:=hml (j+1)
    rw [List.getElem?_cons_succ] at h9
    rw [h9,Nat.add_assoc,Nat.add_comm 1 j]
   simp only [dwB] at h
   have hmask:∀j,mask.testBit j=true→Reach ops i j:=hmk i mask (by simpa using (hml 0).symm)
   have hilt:=EI hi
   have hf:∀k0,fq=some k0→mask.testBit (b0 k0)=true→∀k,k<k0→Reach ops i (b0 k):=fun k0 e hb=>(hff k0 e).2 i mask (Nat.le_refl _) hilt (by simpa using (hml 0).symm) hb
   have hff':∀k0,fq=some k0→k0<q∧∀j mk,i+1≤j→j<ops.size→(masks ops.toList)[j]? = some mk→mk.testBit (b0 k0)=true→∀k,k<k0→Reach ops j (b0 k):=fun k0 e=>⟨(hff k0 e).1,fun j mk h1=>(hff k0 e).2 j mk (by omega)⟩
   obtain ⟨run,hw,h2⟩:=Ad2 h
   clear h
   cases run with
   |false=>
    simp only at h2
    split at h2
    ·rename_i d hdst
     split at h2
     ·exact h2.elim
     ·rename_i hN
      have hd:=OY hN
      obtain ⟨t1,h3,h4⟩:=Bh h2
      have h5:=ih ml (i+1) t1 m n sn pd K mem0 b0 q fl fq hl' hml' hlen' hs hm hb1 hch hfl hff' h4
      refine h5.plain hi hb0 (fun p hp=>hp) (r:=some (.tup [])) (fun e=>by rw [hdst] at e;cases e) (fun d' e=>?_) (fun u=>?_) hw (fun _=>.inr rfl) (fun e=>by cases e)
      ·rw [hdst] at e;injection e with e;subst e;exact ⟨hd,by simp⟩
      ·rw [h3,hdst]
       by_cases e:u=d
       ·subst e;simp
       ·rw [if_neg e,if_neg (fun h=>e (by injection h with h;exact h.symm))]
    ·rename_i hdst
     have h5:=ih ml (i+1) t m n sn pd K mem0 b0 q fl fq hl' hml' hlen' hs hm hb1 hch hfl hff' h2
     exact h5.plain hi hb0 (fun p hp=>hp) (r:=none) (fun _=>rfl) (fun d' e=>by rw [hdst] at e;cases e) (fun u=>by rw [hdst];simp) hw (fun _=>.inl rfl) (fun e=>by cases e)
   |true=>
    simp only at h2
    split at h2
    ·have hbn:∀k,k<q+1→JA b0 q i k<i+1:=fun k hk=>by
      by_cases e:k=q
      ·rw [e,Gf];omega
      ·rw [D9 e];have:=hb0 k (by omega);omega
     have hnf:fq≠some q:=fun e=>by have:=(hff q e).1;omega
     split at h2
     ·rename_i hck2
      have hcq:=AiP hmask hf hs hch hck2
      obtain ⟨r,t1,m1,n1,q1,q2,q3,q4,h4⟩:=ApE hck h2
      obtain ⟨pd',h5,h6⟩:=S9 h4
      have h7:=ih ml (i+1) t1 m1 n1 ((i,m,n)::sn) pd' K (JA mem0 (q+1) (m1,n1)) (JA b0 q i) (q+1) fl fq hl' hml' hlen'
       ⟨q,rfl,Gf ..,by rw [D9 (by omega)];exact hm,hs.congr (fun k hk=>D9 (by omega)) (fun k hk=>D9 (by omega))⟩ (Gf ..) hbn
       (fun k k' hk hk' hn=>by
         by_cases e:k'=q
         ·rw [e,Gf,D9 (by omega)];exact hcq k (by omega)
         ·rw [D9 e,D9 (by omega)];exact hch k k' hk (by omega) hn) hfl
       (fun k0 e=>by
         obtain ⟨g1,g2⟩:=hff' k0 e
         refine ⟨by omega,fun j mk x1 x2 x3 x4 k hk=>?_⟩
         rw [D9 (by omega)] at x4 ⊢
         exact g2 j mk x1 x2 x3 x4 k hk) h6
      exact h7.bar hi hb0 q1 q2 q3 hw (by rw [hm];exact q4) (fun p hp=>(h5 p hp).imp (fun h=>hmask _ h) fun h=>h) hnf (.inl rfl)
     ·split at h2
      ·exact h2.elim
      ·rename_i hfe
       have hfn:=hfl rfl
       subst hfn
       split at h2
       ·rename_i hokf
        obtain ⟨T,d,hop,hdst,k1,k2⟩:=Avd hmk hmz hs hokf
        obtain ⟨cs,t1,m1,hd,hz,hm1,ht1,hst,h4⟩:=Am3 hop hdst h2
        obtain ⟨pd',h5,h6⟩:=S9 h4
        have h7:=ih ml (i+1) t1 m1 (n+1) ((i,m,n)::sn) pd' K (JA mem0 (q+1) (m1,n+1)) (JA b0 q i) (q+1) true (some q) hl' hml' hlen'
         ⟨q,rfl,Gf ..,by rw [D9 (by omega)];exact hm,hs.congr (fun k hk=>D9 (by omega)) (fun k hk=>D9 (by omega))⟩ (Gf ..) hbn
         (fun k k' hk hk' hn=>by
           by_cases e:k'=q
           ·exact absurd (by rw [e]) hn
           ·rw [D9 e,D9 (by omega)];exact hch k k' hk (by omega) (by simp)) (fun e=>by cases e)
         (fun k0 e=>by
           injection e with e
           subst e
           refine ⟨by omega,fun j mk x1 x2 x3 x4 k hk=>?_⟩
           rw [Gf] at x4
           rw [D9 (by omega)]
           exact k2 j mk (by omega) x2 x3 x4 k hk) h6
        refine h7.bar hi hb0 (r:=some (.ptr n 0)) (fun e=>by rw [hdst] at e;cases e) (fun d' e=>by rw [hdst] at e;injection e with e;subst e;exact ⟨hd,by simp⟩) (fun u=>?_) hw (by rw [hm];exact hst) (fun p hp=>(h5 p hp).imp (fun h=>hmask _ h) fun h=>h) hnf
         (.inr ⟨rfl,rfl,T,d,cs,hop,hdst,hd,hz,by rw [hm];exact hm1,by rw [hm],by rw [ht1,if_pos rfl,hm],k1⟩)
        rw [ht1,hdst]
        by_cases e:u=d
        ·subst e;simp
        ·rw [if_neg e,if_neg (fun h=>e (by injection h with h;exact h.symm))]
       ·exact h2.elim
    ·split at h2
     ·exact h2.elim
     ·rename_i d hdst
      split at h2
      ·exact h2.elim
      ·rename_i hN
       have hd:=OY hN
       have hr2:∀(v:V) d',o.dst=some d'→d' < N∧some v≠none:=fun v d' e=>by rw [hdst] at e;injection e with e;subst e;exact ⟨hd,by simp⟩
       have hr1:∀v:V,o.dst=none→some v=none:=fun v e=>by rw [hdst] at e;cases e
       have hget:∀{t1:Tr V} {v:V},(∀u,t1.get u=if u=d then some v else t.get u)→∀u,t1.get u=if o.dst=some u then some v else t.get u:=fun {t1 v} h u=>by
        rw [h,hdst]
        by_cases e:u=d
        ·subst e;simp
        ·rw [if_neg e,if_neg (fun h=>e (by injection h with h;exact h.symm))]
       split at h2
       ·rename_i T g hop
        have hmf:Ja o=true:=by simp [Ja,hop]
        obtain ⟨v,g1,g2⟩:=Su h2
        obtain ⟨t1,g3,g4⟩:=Bh g2
        have h5:=ih ml (i+1) t1 m n sn pd K mem0 b0 q fl fq hl' hml' hlen' hs hm hb1 hch hfl hff' g4
        refine h5.plain hi hb0 (fun p hp=>hp) (hr1 v) (hr2 v) (hget g3) hw (fun e=>by cases e) fun _ B mem b z1 z2 z3 z4=>?_
        refine ⟨0,B,Nat.zero_le _,fun k hk=>by omega,fun h=>by omega,fun q' _ _ s ha hh hn=>?_⟩
        rw [hdst]
        exact g1.2 hmf N s d ha hdst hd
       ·rename_i T x _ hop
        obtain ⟨u,g1,g2⟩:=Bj h2
        clear h2
        split at g2
        ·rename_i id off
         split at g2
         ·rename_i bk hbk
          split at g2
          ·rename_i cs hcs
           split at g2
           ·rename_i ag k hsh
            obtain ⟨v,g3,g4⟩:=G9 g2
            obtain ⟨⟨lo,g5,g6,g7⟩,g8⟩:=Aa9 hmask hf hs hch g4
            obtain ⟨t1,g9,g10⟩:=Bh g8
            have h5:=ih ml (i+1) t1 m n sn _ K mem0 b0 q fl fq hl' hml' hlen' hs hm hb1 hch hfl hff' g10
            refine h5.plain hi hb0 (fun p hp=>List.mem_cons_of_mem _ hp) (hr1 v) (hr2 v) (hget g9) hw (fun e=>by cases e) fun _ B mem b z1 z2 z3 z4=>?_
            obtain ⟨hi2,y1,y2,y3,y4⟩:=z4 _ (List.mem_cons_self ..)
            refine ⟨lo,hi2,by omega,fun k' hk'=>by rw [z3 k' (by omega)];exact g6 k' hk',y3,fun q' x1 x2 s ha hh hn=>?_⟩
            have hload:PQ (mem q').1.get ⟨i,id,off,k,ag,v⟩:=by
             rcases Nat.lt_trichotomy q' q with e|e|e
             ·rw [z2 q' (by omega)];exact g7 q' x1 e
             ·subst e;rw [z2 q' (Nat.le_refl _),hm];exact ⟨bk,cs,hbk,hcs,g3⟩
             ·exact y4 q' e x2
            obtain ⟨bk',cs',w1,w2,w3⟩:=hload
            rw [hdst]
            exact AcE (P:=P) (N:=N) (s:=s) hop (ha x _ (by simp [hop,Op.operands]) (g1 _ _)) (by rw [hh];exact w1) w2 hsh w3 hdst hd
           ·exact g2.elim
          ·exact g2.elim
         ·exact g2.elim
        ·exact g2.elim
       ·split at h2
        ·rename_i hmf
         obtain ⟨v,g1,g2⟩:=Su h2
         obtain ⟨t1,g3,g4⟩:=Bh g2
         have h5:=ih ml (i+1) t1 m n sn pd K mem0 b0 q fl fq hl' hml' hlen' hs hm hb1 hch hfl hff' g4
         refine h5.plain hi hb0 (fun p hp=>hp) (hr1 v) (hr2 v) (hget g3) hw (fun e=>by cases e) fun _ B mem b z1 z2 z3 z4=>?_
         refine ⟨0,B,Nat.zero_le _,fun k hk=>by omega,fun h=>by omega,fun q' _ _ s ha hh hn=>?_⟩
         rw [hdst]
         exact g1.2 hmf N s d ha hdst hd
        ·exact h2.elim
theorem AgE (hck:I5 P ck):Xb P (WO P ck):=by
 intro N ops t m n K h
 unfold WO at h
 split at h
 ·rename_i hm
  split at h
  ·rename_i hok
   obtain ⟨B,mem,b,Ts,kf,f1,f2,f3,h1,h2,h3,h4,h5,h6,h7,h8,h9⟩:=Ak3 hck AhE Aiq ops.toList (masks ops.toList) 0 t m n [] [] K (fun _=>(m,n)) (fun _=>0) 0 false none (by simp) (by simp) (by simp) rfl rfl (fun k hk=>by omega) (fun k k' h1 h2=>by omega) (fun _=>rfl) (fun k0 e=>by cases e) h
   have F:Facts P N ops Ts mem b B kf:=⟨hok,fun k hk=>(h5 k (Nat.zero_le _) hk).2,h6,fun k k' q1 q2=>f2 k k' (Nat.zero_le _) q1 q2,f3 (Nat.zero_le _),fun i o hi=>h8 i o (Nat.zero_le _) hi⟩
   refine ⟨_,_,_,fun id=>?_,h9⟩
   have:=AnM (P:=P) (N:=N) hm F id
   rw [h4,h2 0 (Nat.le_refl _)] at this
   exact this
  ·exact h.elim
 ·exact h.elim
end
end Go.Rn
end
section
namespace Go.Rn
open Go.RowKit
open Go.Vm (enters)
set_option linter.unusedSectionVars false
abbrev Orc:=List (FuncId×List V×V)
noncomputable def Rw (l:List V):List V→Bool:=@List.rec V (fun _=>List V→Bool) (fun m=>match m with
 | []=>true
 |_::_=>false) (fun a _ ih m=>match m with
 | []=>false
 |b::m=>match eqV a b with
  |true=>ih m
  |false=>false) l
theorem AcR:∀{l m:List V},Rw l m=true→l=m
 | [],[],_=>rfl
 | [],_::_,h=>by cases h
 |_::_,[],h=>by cases h
 |a::l,b::m,h=>by
  have h:(match eqV a b with|true=>Rw l m|false=>false)=true:=h
  split at h
  ·rename_i h1;rw [VA h1,AcR h]
  ·cases h
noncomputable def TK (l:Orc)(ck:CK):CK:=@List.rec (FuncId×List V×V) (fun _=>CK) ck (fun e _ ih f vs m n K=>match Nat.beq f e.1 with
 |true=>match Rw e.2.1 vs with
  |true=>K e.2.2 m n
  |false=>ih f vs m n K
 |false=>ih f vs m n K) l
noncomputable def run (P:Program)(F:Tr Func)(l:Orc)(fuel depth:Nat):CK:=@Nat.rec (fun _=>CK) (fun _ _ _ _ _=>False) (fun _ ck=>TK l (VT P F (WO P) fuel ck)) depth
section
variable [Cx] {P:Program} {ck:CK}
def Ld (P:Program)(l:Orc):Prop:=∀e∈l,enters P e.1=true∧∀h n,Dx P e.1 e.2.1 h n e.2.2 h n
theorem Ad9 (hck:I5 P ck):∀{l:Orc},Ld P l→I5 P (TK l ck)
 | [],_=>hck
 |e::l,hl=>by
  intro f vs m n K h
  have ih:=Ad9 hck (l:=l) fun x hx=>hl x (List.mem_cons_of_mem _ hx)
  replace h:(match Nat.beq f e.1 with
   |true=>match Rw e.2.1 vs with
    |true=>K e.2.2 m n
    |false=>TK l ck f vs m n K
   |false=>TK l ck f vs m n K):=h
  split at h
  ·rename_i h1
   have h1:=Nat.eq_of_beq_eq_true h1
   split at h
   ·rename_i h2
    have h2:=AcR h2
    subst h1 h2
    obtain ⟨q1,q2⟩:=hl e (List.mem_cons_self ..)
    exact ⟨_,m,n,q1,q2 _ _,h⟩
   ·exact ih _ _ _ _ _ h
  ·exact ih _ _ _ _ _ h
theorem Zi {F:Tr Func}(hF:Fok P F){l:Orc}(hl:Ld P l){fuel:Nat}:∀{depth:Nat},I5 P (run P F l fuel depth)
 |0=>fun f vs m n K h=>h.elim
 |d+1=>Ad9 (ArQ hF (fun ck h=>AgE h) (Zi hF hl (depth:=d))) hl
end
@[reducible] def trivCx:Cx:=⟨fun base w0 _=>KX base w0,fun _ _ _ h=>h⟩
def Xx (op:Nat→Value):Pi:=⟨fun _=>none,op,[]⟩
theorem Zx (w:World)(op:Nat→Value)(hG:KX w.heap.size w:=by intro g cs h;cases h):@Mem trivCx w.heap.size w (Xx op) (fun _=>none) 0 w:=by
 letI:=trivCx
 exact ⟨(fun id b h=>by cases h),(fun id id' b b' p p' h=>by cases h),fun _ _=>rfl,(fun id p h=>by cases h),Below.refl _ _,Nat.le_refl _,hG,(fun x h=>by cases h)⟩
theorem known {P:Program}{f:FuncId}{v:V}{u:Value}{h':Hp}{n':Nat}(hr:@Dx trivCx P f [] (fun _=>none) 0 v h' n')(hu:toV v=some u)(hc:∀π,Ai π v=some u) [Cx](h:Hp)(n:Nat):Dx P f [] h n v h n:=by
 intro base w0 π w us hm hus
 have hus:us= []:=by rw [AO] at hus;injection hus with hus;exact hus.symm
 subst hus
 refine (hr w.heap.size w (Xx π.op) w [] (Zx w _ (hm.KU.keep (Below.refl _ _) hm.size)) (by rw [AO])).mono ?_
 rintro e w' ⟨π',u',rfl,hle,hm',hv⟩
 have hbl:Below w.heap.size w w':=by
  letI:=trivCx
  exact hm'.below
 have:u'=u:=KZ hu hv
 subst this
 exact ⟨π,u',rfl,π.le_refl,hm.keep hbl,hc π⟩
def TN (p:Nat→Func→Prop):Tr Func→Nat→Nat→Prop
 | .leaf,_,_=>True
 | .node v l r,a,b=>(match v with
  |some x=>p b x
  |none=>True)∧TN p l (2*a) (a+b)∧TN p r (2*a) (2*a+b)
theorem VI {p:Nat→Func→Prop}:∀{t:Tr Func} {a b n:Nat} {x:Func},TN p t a b→t.get n=some x→p (a*n+b) x
 | .leaf,_,_,_,_,_,h=>by cases h
 | .node v l r,a,b,n,x,⟨h1,h2,h3⟩,h=>by
  rw [LZ] at h
  by_cases h0:n=0
  ·subst h0
   rw [if_pos rfl] at h
   subst h
   simpa using h1
  ·rw [if_neg h0] at h
   by_cases hp:n % 2=1
   ·rw [if_pos hp] at h
    have:=VI h2 h
    have e:2*a*(n / 2)+(a+b)=a*n+b:=by
     have:n=2*(n / 2)+1:=by omega
     have h9:a*n=a*(2*(n / 2)+1):=by rw [←this]
     rw [h9,Nat.mul_add,Nat.mul_one,←Nat.mul_assoc,Nat.mul_comm a 2];omega
    rwa [e] at this
   ·rw [if_neg hp] at h
    have:=VI h3 h
    have e:2*a*(n / 2-1)+(2*a+b)=a*n+b:=by
     have:n=2*(n / 2-1)+2:=by omega
     have h9:a*n=a*(2*(n / 2-1)+2):=by rw [←this]
     rw [h9,Nat.mul_add,←Nat.mul_assoc,Nat.mul_comm a 2];omega
    rwa [e] at this
abbrev Aj (P : Program) (f : Nat) (fn : Func) : Prop := P.funcs[f]? = some fn ∧ (fn.name != "runtime.NumGoroutine") = true
theorem AvF {P:Program}{F:Tr Func}(h:TN (Aj P) F 1 0):Fok P F:=fun f fn hf=>by
 have:=VI h hf
 rwa [Nat.one_mul] at this
end Go.Rn
end
section
namespace Go.Rn
open Go.RowKit
open Go.Vm (enters AP Rep D Aq FI Evo Grow AX)
set_option linter.unusedSectionVars false
def okV (v:V):Bool:=match v with
 | .sc x=>x.oneCell'
 | .agg cs=>cs.all V.one&&(match scL cs with
  |some vs=>vs.all (·.oneCell')
  |none=>false)
 |_=>false
theorem YV {π:Pi}:∀{cs:List V} {vs:List Value},scL cs=some vs→vs.all (·.oneCell')=true→AO π cs=some vs
 | [],vs,h,_=>by rw [scL] at h;injection h with h;subst h;rw [AO]
 | .sc v::l,vs,h,ha=>by
  rw [scL] at h
  obtain ⟨vs',h1,rfl⟩:=Option.map_eq_some_iff.1 h
  rw [List.all_cons,Bool.and_eq_true] at ha
  rw [AO,Ai,if_pos ha.1,YV h1 ha.2]
 | .agg _::_,_,h,_=>by simp [scL] at h
 | .tup _::_,_,h,_=>by simp [scL] at h
 | .ptr _ _::_,_,h,_=>by simp [scL] at h
 | .sl _ _ _ _ _::_,_,h,_=>by simp [scL] at h
 | .mp _::_,_,h,_=>by simp [scL] at h
 | .it _::_,_,h,_=>by simp [scL] at h
 | .fn _ _::_,_,h,_=>by simp [scL] at h
 | .opq _::_,_,h,_=>by simp [scL] at h
theorem Ag3 {v:V}{u:Value}(h:toV v=some u)(ho:okV v=true)(π:Pi):Ai π v=some u:=by
 cases v with
 |sc x=>rw [toV] at h;injection h with h;subst h;rw [Ai];exact if_pos ho
 |agg cs=>
  rw [toV] at h
  obtain ⟨vs,h1,rfl⟩:=Option.map_eq_some_iff.1 h
  simp only [okV,h1,Bool.and_eq_true] at ho
  rw [Ai,if_pos ho.1,YV h1 ho.2];rfl
 |_=>simp [toV] at h
@[reducible] def lawCx (W:World) (OP:Nat→Value):Cx:=⟨fun base w0 op=>base=W.heap.size∧w0=W∧op=OP∧KX base w0,fun _ _ _ h=>h.2.2.2⟩
theorem AeY [Cx]{base:Nat}{w:World}(h:KX base w)(hs:base≤w.heap.size):Go.Vm.RF Go.Vm.FI w:=fun g cs hg=>by
 obtain ⟨h1,h3⟩:=h g cs hg
 exact ⟨by omega,rfl,h3⟩
noncomputable def isV (x v:V):Prop:=match eqV x v with
 |true=>True
 |false=>False
theorem Aso {x v:V}(h:isV x v):v=x:=by
 unfold isV at h
 split at h
 ·rename_i h1;exact (VA h1).symm
 ·exact h.elim
theorem Aaw [Cx]{P:Program}:Ld P []:=fun e he=>by cases he
theorem EP [Cx]{P:Program}{f:FuncId}{vs:List V}{v:V}{l:Orc}(he:enters P f=true)(h:∀hp n,Dx P f vs hp n v hp n)(hl:Ld P l):Ld P ((f,vs,v)::l):=by
 intro e hm
 rcases List.mem_cons.1 hm with rfl|hm
 ·exact ⟨he,h⟩
 ·exact hl e hm
structure Td (p:Prop):Prop where
 out:p
theorem AtN [Cx]{P:Program}{F:Tr Func}(hF:Fok P F){l:Orc}(hl:Ld P l){fuel depth:Nat}{f:FuncId}{vs:List V}{m:Tr Blk}{n:Nat}{K:V→Tr Blk→Nat→Prop}(h:Td (run P F l fuel depth f vs m n K)):∃v m' n',enters P f=true∧Dx P f vs m.get n v m'.get n'∧K v m' n':=Zi hF hl (depth:=depth) _ _ _ _ _ h.out
theorem AbY {P:Program}{F:Tr Func}(hF:Fok P F){l:Orc}(hl:∀[Cx],Ld P l){f:FuncId}{x:V}{u:Value}(hr:Td (run P F l 1000000 1000 f [] .leaf 0 (fun v _ _=>isV x v)))(hu:toV x=some u)(ho:okV x=true):enters P f=true∧∀[Cx] h n,Dx P f [] h n x h n:=by
 obtain ⟨v,m',n',q1,q2,q3⟩:=@AtN trivCx P F hF l (@hl trivCx) 1000000 1000 _ _ _ _ _ hr
 rw [Aso q3] at q2
 exact ⟨q1,fun h n=>known q2 hu (Ag3 hu ho) h n⟩
end Go.Rn
end
section
namespace Go.Rn
open Go.RowKit
open Go.Vm (enters AP Rep D Aq FI Evo Grow AX BB EN CV)
theorem AsA {P:Program}{f:FuncId}{x:V}{u:Value}{d:D}(h:∀[Cx] hp n,Dx P f [] hp n x hp n)(hc:∀π,Ai π x=some u)(hr:∀ro w,Rep ro w u d):AP P f [] [.d d]:=by
 intro ro w vs τ hnew huniq hlen _
 obtain rfl:vs = #[]:=Array.eq_empty_of_size_eq_zero (by simpa using hlen)
 refine (@h trivCx (fun _=>none) 0 w.heap.size w (Xx fun _=>.bool false) w [] (Zx w _ (fun g cs hg=>by obtain ⟨q1,_,q3⟩:=hnew.KU g cs hg;exact ⟨q1,q3⟩)) (by rw [AO])).mono ?_
 rintro e w' ⟨π',u',rfl,hle,hm,hv⟩
 have hb:Below w.heap.size w w':=by
  letI:=trivCx
  exact hm.below
 rw [hc] at hv
 injection hv with hv
 subst hv
 have hw:∀b,w'.heap.size≤b→ro b=.frozen:=fun b h=>hnew.new b (Nat.le_trans hb.size h)
 exact ⟨u,ro,rfl,⟨hb,fun _ _=>rfl,hw,fun b id k h e=>by rw [hnew.new b h] at e;cases e⟩,hr ro w'⟩
theorem Af7 {P:Program}{f:FuncId}{b:Bool}(h:∀[Cx] hp n,Dx P f [] hp n (.sc (.bool b)) hp n):AP P f [] [.d (.sc (.bool b))]:=
 AsA h (fun π=>by rw [Ai];exact if_pos rfl) (fun ro w=>.sc rfl)
theorem Asb {ro:Aq}{w:World}:∀{vs:List Value},(∀v∈vs,Go.Vm.BN v=true)→AX ro w vs (vs.map .sc):=by
 intro vs h
 refine ⟨by simp,fun u hu=>Go.Vm.LQ (h u hu),fun j u c hu hc=>?_⟩
 rw [List.getElem?_map,hu] at hc
 simp only [Option.map_some,Option.some.injEq] at hc
 subst hc
 exact .sc (h u (List.mem_of_getElem? hu))
theorem AsU {π:Pi} [Cx]{us:List Value}(h:us.all (·.oneCell')=true):AO π (us.map .sc)=some us:=MC h
end Go.Rn
end
section
namespace Go.Rn
open Go.RowKit
open Go.Vm (enters AP Rep D C Aq FI Evo Grow AX BN LQ)
def scD:D→Option Value
 | .sc v=>if BN v=true then some v else none
 |_=>none
def QD:List D→Option (List Value)
 | []=>some []
 |d::ds=>match scD d,QD ds with
  |some v,some vs=>some (v::vs)
  |_,_=>none
def rV:D→Option V
 | .sc v=>if BN v=true then some (.sc v) else none
 | .agg cs=>(QD cs).map fun vs=>.agg (vs.map .sc)
 |_=>none
def rVs:List D→Option (List V)
 | []=>some []
 |d::ds=>match rV d,rVs ds with
  |some v,some vs=>some (v::vs)
  |_,_=>none
def cV:C→Option V
 | .d x=>rV x
 |_=>none
def cVs:List C→Option (List V)
 | []=>some []
 |d::ds=>match cV d,cVs ds with
  |some v,some vs=>some (v::vs)
  |_,_=>none
def resV:List C→Option V
 | [c]=>cV c
 |cs=>(cVs cs).map .tup
theorem Ajm {d:D}{v:Value}(h:scD d=some v):d=.sc v∧BN v=true:=by
 cases d with
 |sc u=>
  have h:(if BN u=true then some u else none)=some v:=h
  split at h
  ·rename_i hp;injection h with h;subst h;exact ⟨rfl,hp⟩
  ·cases h
 |_=>cases h
theorem VO:∀{cs:List D} {vs:List Value},QD cs=some vs→cs=vs.map .sc∧∀v∈vs,BN v=true
 | [],vs,h=>by rw [QD] at h;injection h with h;subst h;exact ⟨rfl,by simp⟩
 |d::ds,vs,h=>by
  rw [QD] at h
  split at h
  ·rename_i v us h1 h2
   injection h with h;subst h
   obtain ⟨rfl,q1⟩:=Ajm h1
   obtain ⟨rfl,q2⟩:=VO h2
   exact ⟨rfl,fun u hu=>by rcases List.mem_cons.1 hu with rfl|hu;exact q1;exact q2 u hu⟩
  ·cases h
theorem YA {π:Pi}{vs:List Value}(h:∀v∈vs,BN v=true):Ai π (.agg (vs.map .sc))=some (.agg vs.toArray):=by
 letI:=trivCx
 rw [Ai,if_pos (by rw [List.all_map];exact List.all_eq_true.2 fun _ _=>rfl),AsU (List.all_eq_true.2 fun v hv=>LQ (h v hv))]
 rfl
theorem Ade {ro:Aq}{w:World}{d:D}{x:V}{v:Value}(h:rV d=some x)(hr:Rep ro w v d)(π:Pi):Ai π x=some v:=by
 cases d with
 |sc u=>
  have h:(if BN u=true then some (V.sc u) else none)=some x:=h
  split at h
  ·rename_i hp
   injection h with h;subst h
   obtain ⟨rfl,_⟩:=Go.Vm.EL hr
   rw [Ai];exact if_pos (LQ hp)
  ·cases h
 |agg cs=>
  obtain ⟨vs,h1,rfl⟩:=Option.map_eq_some_iff.1 h
  obtain ⟨rfl,h2⟩:=VO h1
  rw [YA h2]
  obtain ⟨arr,rfl,hl,ho,hq⟩:∃arr:Array Value,v=.agg arr∧arr.size=(vs.map D.sc).length∧(∀u∈arr.toList,u.oneCell'=true)∧∀(i:Nat) (u:Value) (c:D),arr.toList[i]? = some u→(vs.map D.sc)[i]? = some c→Rep ro w u c:=by
   generalize hd:D.agg (vs.map D.sc)=d at hr
   cases hr with
   |agg hl h1 h=>injection hd with hd;subst hd;exact ⟨_,rfl,hl,h1,h⟩
   |_=>cases hd
  congr 2
  apply Array.ext
  ·simpa using hl.symm
  ·intro i h3 h4
   have h5:i<vs.length:=by simpa using h3
   have:=hq i arr[i] (.sc vs[i]) (by simp [h4]) (by rw [List.getElem?_map,List.getElem?_eq_getElem h5];rfl)
   obtain ⟨q,_⟩:=Go.Vm.EL this
   rw [q];simp
 |_=>cases h
theorem AsZ {ro:Aq}{w:World}{d:D}{x:V}{v:Value}{π:Pi}(h:rV d=some x)(hc:Ai π x=some v):Rep ro w v d:=by
 cases d with
 |sc u=>
  have h:(if BN u=true then some (V.sc u) else none)=some x:=h
  split at h
  ·rename_i hp
   injection h with h;subst h
   rw [Ai,if_pos (LQ hp)] at hc
   injection hc with hc;subst hc
   exact .sc hp
  ·cases h
 |agg cs=>
  obtain ⟨vs,h1,rfl⟩:=Option.map_eq_some_iff.1 h
  obtain ⟨rfl,h2⟩:=VO h1
  rw [YA h2] at hc
  injection hc with hc;subst hc
  have hr:=Asb (ro:=ro) (w:=w) h2
  exact .agg (by simp) (by simpa using fun v hv=>LQ (h2 v hv)) (by simpa using hr.2.2)
 |_=>cases h
theorem AaA {ro:Aq}{w:World}{π:Pi}:∀{ds:List D} {vs:List V} {us:List Value},rVs ds=some vs→AO π vs=some us→us.length=ds.length∧∀(i:Nat) (u:Value) (d:D),us[i]? = some u→ds[i]? = some d→Rep ro w u d
 | [],vs,us,h,hc=>by
  rw [rVs] at h;injection h with h;subst h
  rw [AO] at hc;injection hc with hc;subst hc
  exact ⟨rfl,fun i u d h=>by simp at h⟩
 |d::ds,vs,us,h,hc=>by
  rw [rVs] at h
  split at h
  ·rename_i x xs h1 h2
   injection h with h;subst h
   obtain ⟨u,us',k1,k2,rfl⟩:=L8 hc
   obtain ⟨q1,q2⟩:=AaA (ro:=ro) (w:=w) h2 k2
   refine ⟨by simp [q1],fun i a b ha hb=>?_⟩
   cases i with
   |zero=>simp at ha hb;subst ha;subst hb;exact AsZ h1 k1
   |succ i=>exact q2 i a b (by simpa using ha) (by simpa using hb)
  ·cases h
theorem U6 {P:Program}{base:Nat}{ro:Aq}{w:World}{π:Pi}:∀{cs:List C} {xs:List V} {us:List Value},cVs cs=some xs→us.length=cs.length→(∀(i:Nat) (u:Value) (c:C),us[i]? = some u→cs[i]? = some c→Go.Vm.CV P base ro w u c)→AO π xs=some us
 | [],xs,us,h,hl,_=>by
  rw [cVs] at h;injection h with h;subst h
  obtain rfl:us= []:=List.length_eq_zero_iff.1 (by simpa using hl)
  rw [AO]
 |c::cs,xs,us,h,hl,hs=>by
  rw [cVs] at h
  split at h
  ·rename_i x xs' h1 h2
   injection h with h;subst h
   match us,hl with
   |u::us',hl=>
    have k1:=hs 0 u c rfl rfl
    have k2:Ai π x=some u:=by
     cases c with
     |d d=>exact Ade h1 k1 π
     |_=>cases h1
    rw [AO,k2,U6 h2 (by simpa using hl) fun i a b ha hb=>hs (i+1) a b (by simpa using ha) (by simpa using hb)]
  ·cases h
theorem Z4 {τ:Nat}{c:C}{x:V}(h:cV c=some x):Go.Vm.Ew τ c=c:=by cases c<;>first|rfl|cases h
theorem AdJ {τ:Nat}:∀{cs:List C} {xs:List V},cVs cs=some xs→cs.map (Go.Vm.Ew τ)=cs
 | [],_,_=>rfl
 |c::cs,xs,h=>by
  rw [cVs] at h
  split at h
  ·rename_i x xs' h1 h2
   rw [List.map_cons,Z4 h1,AdJ h2]
  ·cases h
theorem Fq {P:Program}{f:FuncId}{ds:List D}{vs:List V}{cs:List C}{x:V}(hd:rVs ds=some vs)(hx:resV cs=some x)(hc:AP P f ds cs) [Cx](h:Hp)(n:Nat):Dx P f vs h n x h n:=by
 intro base w0 π w us' hm hus'
 obtain ⟨q1,q2⟩:=AaA (ro:=Go.Vm.FI) (w:=w) hd hus'
 refine (hc Go.Vm.FI w us'.toArray 0 ⟨fun _ _=>rfl,AeY hm.KU hm.size⟩ (fun b b' id k k' h=>by cases h) (by simpa using q1) (fun i u d h2 h3=>q2 i u d (by simpa using h2) h3)).mono ?_
 rintro e w' ⟨y,ro',rfl,hg,hs⟩
 refine ⟨π,y,rfl,π.le_refl,hm.keep hg.below,?_⟩
 match cs,hx,hs with
 | [],hx,hs=>
  have hx:(cVs []).map V.tup=some x:=hx
  obtain ⟨xs,k1,rfl⟩:=Option.map_eq_some_iff.1 hx
  have hs:∃arr:Array Value,y=.tuple arr∧arr.size=0∧∀(i:Nat) (u:Value) (a:C),arr.toList[i]? = some u→([]:List C)[i]? = some a→Go.Vm.CV P w.heap.size ro' w' u a:=hs
  obtain ⟨arr,rfl,k2,k3⟩:=hs
  rw [Ai,U6 k1 (us:=arr.toList) (by simpa using k2) k3];simp
 | [c],hx,hs=>
  have hx:cV c=some x:=hx
  have hs:Go.Vm.CV P w.heap.size ro' w' y (Go.Vm.Ew 0 c):=hs
  rw [Z4 hx] at hs
  cases c with
  |d d=>exact Ade hx hs π
  |_=>cases hx
 |c::c'::l,hx,hs=>
  have hx:(cVs (c::c'::l)).map V.tup=some x:=hx
  obtain ⟨xs,k1,rfl⟩:=Option.map_eq_some_iff.1 hx
  have e:=AdJ (τ:=0) k1
  have hs:∃arr:Array Value,y=.tuple arr∧arr.size=((c::c'::l).map (Go.Vm.Ew 0)).length∧∀(i:Nat) (u:Value) (a:C),arr.toList[i]? = some u→((c::c'::l).map (Go.Vm.Ew 0))[i]? = some a→Go.Vm.CV P w.heap.size ro' w' u a:=hs
  rw [e] at hs
  obtain ⟨arr,rfl,k2,k3⟩:=hs
  rw [Ai,U6 k1 (us:=arr.toList) (by simpa using k2) k3];simp
end Go.Rn
end
section
namespace Go.Rn
open Go.Proofs.Tryz
open Go.RowKit
theorem fo7:Aj prog 7 f7:=⟨func7,by kernel_rfl⟩
theorem fo9:Aj prog 9 f9:=⟨func9,by kernel_rfl⟩
theorem As6:Aj prog 13 f13:=⟨func13,by kernel_rfl⟩
theorem Agy:Aj prog 14 f14:=⟨func14,by kernel_rfl⟩
theorem AsM:Aj prog 16 f16:=⟨func16,by kernel_rfl⟩
theorem Ar3:Aj prog 17 f17:=⟨func17,by kernel_rfl⟩
theorem Amm:Aj prog 23 f23:=⟨func23,by kernel_rfl⟩
theorem Ato:Aj prog 24 f24:=⟨func24,by kernel_rfl⟩
theorem AlF:Aj prog 28 f28:=⟨func28,by kernel_rfl⟩
theorem AlS:Aj prog 29 f29:=⟨func29,by kernel_rfl⟩
theorem ApT:Aj prog 31 f31:=⟨func31,by kernel_rfl⟩
theorem Aim:Aj prog 32 f32:=⟨func32,by kernel_rfl⟩
theorem Aqg:Aj prog 39 f39:=⟨func39,by kernel_rfl⟩
theorem Avq:Aj prog 40 f40:=⟨func40,by kernel_rfl⟩
theorem Apu:Aj prog 41 f41:=⟨func41,by kernel_rfl⟩
theorem AuX:Aj prog 42 f42:=⟨func42,by kernel_rfl⟩
theorem AjE:Aj prog 43 f43:=⟨func43,by kernel_rfl⟩
theorem AkG:Aj prog 45 f45:=⟨func45,by kernel_rfl⟩
theorem Atb:Aj prog 54 f54:=⟨func54,by kernel_rfl⟩
theorem Afx:Aj prog 55 f55:=⟨func55,by kernel_rfl⟩
theorem Am5:Aj prog 60 f60:=⟨func60,by kernel_rfl⟩
theorem AjX:Aj prog 62 f62:=⟨func62,by kernel_rfl⟩
theorem Arw:Aj prog 64 f64:=⟨func64,by kernel_rfl⟩
theorem AfZ:Aj prog 65 f65:=⟨func65,by kernel_rfl⟩
theorem Agk:Aj prog 75 f75:=⟨func75,by kernel_rfl⟩
theorem Auq:Aj prog 83 f83:=⟨func83,by kernel_rfl⟩
theorem AlZ:Aj prog 84 f84:=⟨func84,by kernel_rfl⟩
theorem AiB:Aj prog 85 f85:=⟨func85,by kernel_rfl⟩
theorem AmC:Aj prog 99 f99:=⟨func99,by kernel_rfl⟩
theorem AgA:Aj prog 100 f100:=⟨func100,by kernel_rfl⟩
theorem AtY:Aj prog 101 f101:=⟨func101,by kernel_rfl⟩
theorem Asy:Aj prog 102 f102:=⟨func102,by kernel_rfl⟩
theorem Ah6:Aj prog 103 f103:=⟨func103,by kernel_rfl⟩
theorem AeF:Aj prog 104 f104:=⟨func104,by kernel_rfl⟩
theorem Atl:Aj prog 105 f105:=⟨func105,by kernel_rfl⟩
theorem AsY:Aj prog 106 f106:=⟨func106,by kernel_rfl⟩
theorem Apl:Aj prog 109 f109:=⟨func109,by kernel_rfl⟩
theorem Ajr:Aj prog 112 f112:=⟨func112,by kernel_rfl⟩
theorem AkP:Aj prog 114 f114:=⟨func114,by kernel_rfl⟩
theorem Aod:Aj prog 115 f115:=⟨func115,by kernel_rfl⟩
theorem Aly:Aj prog 117 f117:=⟨func117,by kernel_rfl⟩
theorem Ako:Aj prog 127 f127:=⟨func127,by kernel_rfl⟩
theorem Agl:Aj prog 130 f130:=⟨func130,by kernel_rfl⟩
theorem AqN:Aj prog 131 f131:=⟨func131,by kernel_rfl⟩
theorem Asa:Aj prog 134 f134:=⟨func134,by kernel_rfl⟩
theorem AmK:Aj prog 135 f135:=⟨func135,by kernel_rfl⟩
theorem Avk:Aj prog 140 f140:=⟨func140,by kernel_rfl⟩
theorem ApF:Aj prog 141 f141:=⟨func141,by kernel_rfl⟩
theorem AnY:Aj prog 154 f154:=⟨func154,by kernel_rfl⟩
theorem ApW:Aj prog 156 f156:=⟨func156,by kernel_rfl⟩
theorem Asf:Aj prog 157 f157:=⟨func157,by kernel_rfl⟩
theorem AtA:Aj prog 158 f158:=⟨func158,by kernel_rfl⟩
theorem Apc:Aj prog 159 f159:=⟨func159,by kernel_rfl⟩
theorem AjF:Aj prog 160 f160:=⟨func160,by kernel_rfl⟩
theorem AiE:Aj prog 164 f164:=⟨func164,by kernel_rfl⟩
theorem Aox:Aj prog 165 f165:=⟨func165,by kernel_rfl⟩
theorem AeO:Aj prog 169 f169:=⟨func169,by kernel_rfl⟩
theorem AeZ:Aj prog 170 f170:=⟨func170,by kernel_rfl⟩
theorem AvM:Aj prog 171 f171:=⟨func171,by kernel_rfl⟩
theorem ArR:Aj prog 172 f172:=⟨func172,by kernel_rfl⟩
theorem AhF:Aj prog 173 f173:=⟨func173,by kernel_rfl⟩
theorem Af0:Aj prog 174 f174:=⟨func174,by kernel_rfl⟩
theorem Ata:Aj prog 175 f175:=⟨func175,by kernel_rfl⟩
theorem At1:Aj prog 176 f176:=⟨func176,by kernel_rfl⟩
theorem AsV:Aj prog 177 f177:=⟨func177,by kernel_rfl⟩
theorem AmG:Aj prog 185 f185:=⟨func185,by kernel_rfl⟩
theorem Alc:Aj prog 200 f200:=⟨func200,by kernel_rfl⟩
theorem AuQ:Aj prog 201 f201:=⟨func201,by kernel_rfl⟩
theorem Anj:Aj prog 202 f202:=⟨func202,by kernel_rfl⟩
theorem AjR:Aj prog 203 f203:=⟨func203,by kernel_rfl⟩
theorem Al0:Aj prog 208 f208:=⟨func208,by kernel_rfl⟩
theorem AkN:Aj prog 209 f209:=⟨func209,by kernel_rfl⟩
theorem Ai8:Aj prog 210 f210:=⟨func210,by kernel_rfl⟩
theorem Aga:Aj prog 211 f211:=⟨func211,by kernel_rfl⟩
theorem AkZ:Aj prog 212 f212:=⟨func212,by kernel_rfl⟩
theorem Ap3:Aj prog 213 f213:=⟨func213,by kernel_rfl⟩
theorem AiR:Aj prog 215 f215:=⟨func215,by kernel_rfl⟩
theorem AkS:Aj prog 219 f219:=⟨func219,by kernel_rfl⟩
theorem As4:Aj prog 220 f220:=⟨func220,by kernel_rfl⟩
theorem AuG:Aj prog 229 f229:=⟨func229,by kernel_rfl⟩
theorem Ao6:Aj prog 230 f230:=⟨func230,by kernel_rfl⟩
theorem AqI:Aj prog 231 f231:=⟨func231,by kernel_rfl⟩
theorem AfY:Aj prog 232 f232:=⟨func232,by kernel_rfl⟩
theorem Ah3:Aj prog 233 f233:=⟨func233,by kernel_rfl⟩
theorem AvP:Aj prog 234 f234:=⟨func234,by kernel_rfl⟩
theorem AvZ:Aj prog 235 f235:=⟨func235,by kernel_rfl⟩
theorem Ag7:Aj prog 236 f236:=⟨func236,by kernel_rfl⟩
theorem AuV:Aj prog 237 f237:=⟨func237,by kernel_rfl⟩
theorem Aps:Aj prog 238 f238:=⟨func238,by kernel_rfl⟩
theorem Aia:Aj prog 250 f250:=⟨func250,by kernel_rfl⟩
theorem AjL:Aj prog 251 f251:=⟨func251,by kernel_rfl⟩
theorem Aor:Aj prog 252 f252:=⟨func252,by kernel_rfl⟩
theorem AmD:Aj prog 253 f253:=⟨func253,by kernel_rfl⟩
theorem Ahx:Aj prog 254 f254:=⟨func254,by kernel_rfl⟩
theorem Ar1:Aj prog 255 f255:=⟨func255,by kernel_rfl⟩
theorem Aeq:Aj prog 256 f256:=⟨func256,by kernel_rfl⟩
theorem Aiz:Aj prog 257 f257:=⟨func257,by kernel_rfl⟩
theorem Ai5:Aj prog 258 f258:=⟨func258,by kernel_rfl⟩
theorem AsE:Aj prog 259 f259:=⟨func259,by kernel_rfl⟩
theorem Akz:Aj prog 260 f260:=⟨func260,by kernel_rfl⟩
theorem AoW:Aj prog 261 f261:=⟨func261,by kernel_rfl⟩
theorem Ak2:Aj prog 262 f262:=⟨func262,by kernel_rfl⟩
theorem AeS:Aj prog 263 f263:=⟨func263,by kernel_rfl⟩
theorem ApA:Aj prog 272 f272:=⟨func272,by kernel_rfl⟩
theorem Afg:Aj prog 274 f274:=⟨func274,by kernel_rfl⟩
theorem AoC:Aj prog 275 f275:=⟨func275,by kernel_rfl⟩
theorem ApV:Aj prog 285 f285:=⟨func285,by kernel_rfl⟩
theorem AeA:Aj prog 287 f287:=⟨func287,by kernel_rfl⟩
theorem Au0:Aj prog 292 f292:=⟨func292,by kernel_rfl⟩
theorem Ag8:Aj prog 293 f293:=⟨func293,by kernel_rfl⟩
theorem Aup:Aj prog 294 f294:=⟨func294,by kernel_rfl⟩
theorem Ahc:Aj prog 295 f295:=⟨func295,by kernel_rfl⟩
theorem Ak5:Aj prog 296 f296:=⟨func296,by kernel_rfl⟩
theorem As9:Aj prog 299 f299:=⟨func299,by kernel_rfl⟩
theorem Arf:Aj prog 300 f300:=⟨func300,by kernel_rfl⟩
theorem AsP:Aj prog 301 f301:=⟨func301,by kernel_rfl⟩
theorem Aff:Aj prog 302 f302:=⟨func302,by kernel_rfl⟩
theorem AiU:Aj prog 303 f303:=⟨func303,by kernel_rfl⟩
theorem Apg:Aj prog 304 f304:=⟨func304,by kernel_rfl⟩
theorem AiH:Aj prog 305 f305:=⟨func305,by kernel_rfl⟩
theorem AmO:Aj prog 306 f306:=⟨func306,by kernel_rfl⟩
theorem Aq5:Aj prog 307 f307:=⟨func307,by kernel_rfl⟩
theorem AtW:Aj prog 309 f309:=⟨func309,by kernel_rfl⟩
theorem Ana:Aj prog 310 f310:=⟨func310,by kernel_rfl⟩
theorem AlO:Aj prog 311 f311:=⟨func311,by kernel_rfl⟩
theorem Ai6:Aj prog 312 f312:=⟨func312,by kernel_rfl⟩
theorem ArF:Aj prog 314 f314:=⟨func314,by kernel_rfl⟩
theorem Afn:Aj prog 323 f323:=⟨func323,by kernel_rfl⟩
theorem AjI:Aj prog 324 f324:=⟨func324,by kernel_rfl⟩
theorem ApP:Aj prog 325 f325:=⟨func325,by kernel_rfl⟩
theorem Air:Aj prog 329 f329:=⟨func329,by kernel_rfl⟩
theorem Aht:Aj prog 330 f330:=⟨func330,by kernel_rfl⟩
theorem AqC:Aj prog 331 f331:=⟨func331,by kernel_rfl⟩
theorem AhS:Aj prog 338 f338:=⟨func338,by kernel_rfl⟩
theorem Arp:Aj prog 343 f343:=⟨func343,by kernel_rfl⟩
theorem Aik:Aj prog 346 f346:=⟨func346,by kernel_rfl⟩
theorem AvN:Aj prog 347 f347:=⟨func347,by kernel_rfl⟩
theorem AkQ:Aj prog 348 f348:=⟨func348,by kernel_rfl⟩
theorem AhL:Aj prog 349 f349:=⟨func349,by kernel_rfl⟩
theorem AqY:Aj prog 350 f350:=⟨func350,by kernel_rfl⟩
theorem Alp:Aj prog 351 f351:=⟨func351,by kernel_rfl⟩
theorem AgH:Aj prog 352 f352:=⟨func352,by kernel_rfl⟩
theorem Avm:Aj prog 353 f353:=⟨func353,by kernel_rfl⟩
theorem AhB:Aj prog 354 f354:=⟨func354,by kernel_rfl⟩
theorem Ap8:Aj prog 355 f355:=⟨func355,by kernel_rfl⟩
theorem Av9:Aj prog 356 f356:=⟨func356,by kernel_rfl⟩
theorem Aju:Aj prog 357 f357:=⟨func357,by kernel_rfl⟩
theorem Ajk:Aj prog 358 f358:=⟨func358,by kernel_rfl⟩
theorem Ags:Aj prog 359 f359:=⟨func359,by kernel_rfl⟩
theorem Atw:Aj prog 367 f367:=⟨func367,by kernel_rfl⟩
theorem An2:Aj prog 368 f368:=⟨func368,by kernel_rfl⟩
theorem Apj:Aj prog 372 f372:=⟨func372,by kernel_rfl⟩
theorem ApU:Aj prog 373 f373:=⟨func373,by kernel_rfl⟩
theorem Ala:Aj prog 374 f374:=⟨func374,by kernel_rfl⟩
theorem Ak7:Aj prog 375 f375:=⟨func375,by kernel_rfl⟩
theorem AeP:Aj prog 376 f376:=⟨func376,by kernel_rfl⟩
theorem AuT:Aj prog 377 f377:=⟨func377,by kernel_rfl⟩
theorem Ao5:Aj prog 378 f378:=⟨func378,by kernel_rfl⟩
theorem Aj6:Aj prog 379 f379:=⟨func379,by kernel_rfl⟩
theorem Ahf:Aj prog 382 f382:=⟨func382,by kernel_rfl⟩
theorem Aip:Aj prog 391 f391:=⟨func391,by kernel_rfl⟩
theorem AfM:Aj prog 392 f392:=⟨func392,by kernel_rfl⟩
theorem Anx:Aj prog 394 f394:=⟨func394,by kernel_rfl⟩
theorem Aif:Aj prog 399 f399:=⟨func399,by kernel_rfl⟩
theorem Ary:Aj prog 401 f401:=⟨func401,by kernel_rfl⟩
theorem Avh:Aj prog 402 f402:=⟨func402,by kernel_rfl⟩
theorem AfA:Aj prog 403 f403:=⟨func403,by kernel_rfl⟩
theorem Ars:Aj prog 404 f404:=⟨func404,by kernel_rfl⟩
theorem AvD:Aj prog 405 f405:=⟨func405,by kernel_rfl⟩
theorem Aiy:Aj prog 406 f406:=⟨func406,by kernel_rfl⟩
theorem At3:Aj prog 407 f407:=⟨func407,by kernel_rfl⟩
theorem Amo:Aj prog 415 f415:=⟨func415,by kernel_rfl⟩
theorem Ao2:Aj prog 420 f420:=⟨func420,by kernel_rfl⟩
theorem ApG:Aj prog 421 f421:=⟨func421,by kernel_rfl⟩
theorem AvW:Aj prog 423 f423:=⟨func423,by kernel_rfl⟩
theorem Akn:Aj prog 424 f424:=⟨func424,by kernel_rfl⟩
theorem AqW:Aj prog 441 f441:=⟨func441,by kernel_rfl⟩
noncomputable def ft:Tr Func:=(.node none (.node none (.node none (.node (some f7) (.node none (.node (some f31) (.node none (.node (some f127) (.node (some f255) .leaf .leaf) .leaf) .leaf) (.node none (.node (some f159) (.node (some f287) .leaf .leaf) (.node (some f415) .leaf .leaf)) (.node none (.node (some f351) .leaf .leaf) .leaf))) (.node none (.node none (.node none .leaf (.node (some f399) .leaf .leaf)) .leaf) (.node none (.node (some f175) (.node (some f303) .leaf .leaf) .leaf) (.node none (.node (some f367) .leaf .leaf) .leaf)))) (.node (some f23) (.node (some f39) (.node none (.node (some f135) (.node (some f263) .leaf .leaf) (.node (some f391) .leaf .leaf)) .leaf) (.node (some f103) (.node none (.node (some f295) .leaf .leaf) (.node (some f423) .leaf .leaf)) (.node (some f231) (.node (some f359) .leaf .leaf) .leaf))) (.node (some f55) (.node none (.node none .leaf (.node (some f407) .leaf .leaf)) (.node (some f215) (.node (some f343) .leaf .leaf) .leaf)) (.node none (.node none (.node (some f311) .leaf .leaf) .leaf) (.node none (.node (some f375) .leaf .leaf) .leaf))))) (.node none (.node none (.node none (.node none (.node (some f131) (.node (some f259) .leaf .leaf) .leaf) (.node none (.node (some f323) .leaf .leaf) .leaf)) (.node (some f99) .leaf (.node none (.node (some f355) .leaf .leaf) .leaf))) (.node none (.node (some f83) (.node none (.node (some f275) .leaf .leaf) (.node (some f403) .leaf .leaf)) (.node (some f211) .leaf .leaf)) (.node (some f115) (.node none (.node (some f307) .leaf .leaf) .leaf) .leaf))) (.node none (.node (some f43) (.node (some f75) .leaf (.node (some f203) (.node (some f331) .leaf .leaf) .leaf)) (.node none (.node (some f171) (.node (some f299) .leaf .leaf) .leaf) (.node (some f235) .leaf .leaf))) (.node none (.node none .leaf (.node (some f219) (.node (some f347) .leaf .leaf) .leaf)) (.node none .leaf (.node (some f251) (.node (some f379) .leaf .leaf) .leaf)))))) (.node none (.node (some f9) (.node (some f17) (.node none (.node (some f65) (.node none (.node (some f257) .leaf .leaf) .leaf) .leaf) (.node none .leaf (.node none (.node (some f353) .leaf .leaf) .leaf))) (.node none (.node none (.node none .leaf (.node (some f401) .leaf .leaf)) (.node (some f209) .leaf .leaf)) (.node none (.node (some f177) (.node (some f305) .leaf .leaf) .leaf) .leaf))) (.node none (.node (some f41) (.node none .leaf (.node (some f201) (.node (some f329) .leaf .leaf) .leaf)) (.node (some f105) (.node (some f169) .leaf .leaf) (.node (some f233) .leaf .leaf))) (.node none .leaf (.node none (.node (some f185) .leaf (.node (some f441) .leaf .leaf)) (.node none (.node (some f377) .leaf .leaf) .leaf))))) (.node (some f13) (.node none (.node none (.node none (.node none (.node (some f261) .leaf .leaf) .leaf) (.node none (.node (some f325) .leaf .leaf) .leaf)) (.node (some f101) (.node (some f165) (.node (some f293) .leaf .leaf) (.node (some f421) .leaf .leaf)) (.node (some f229) (.node (some f357) .leaf .leaf) .leaf))) (.node none (.node (some f85) (.node none .leaf (.node (some f405) .leaf .leaf)) (.node (some f213) .leaf .leaf)) (.node (some f117) (.node none (.node (some f309) .leaf .leaf) .leaf) (.node none (.node (some f373) .leaf .leaf) .leaf)))) (.node (some f29) (.node (some f45) (.node none (.node (some f141) .leaf .leaf) .leaf) (.node (some f109) (.node (some f173) (.node (some f301) .leaf .leaf) .leaf) (.node (some f237) .leaf .leaf))) (.node none (.node none (.node (some f157) (.node (some f285) .leaf .leaf) .leaf) (.node none (.node (some f349) .leaf .leaf) .leaf)) (.node none .leaf (.node (some f253) .leaf .leaf))))))) (.node none (.node none (.node none (.node (some f16) (.node (some f32) (.node (some f64) (.node none (.node (some f256) .leaf .leaf) .leaf) .leaf) (.node none (.node (some f160) .leaf .leaf) (.node none (.node (some f352) .leaf .leaf) .leaf))) (.node none (.node none (.node none (.node (some f272) .leaf .leaf) .leaf) (.node (some f208) .leaf .leaf)) (.node (some f112) (.node (some f176) (.node (some f304) .leaf .leaf) .leaf) (.node none (.node (some f368) .leaf .leaf) .leaf)))) (.node (some f24) (.node (some f40) (.node none (.node none .leaf (.node (some f392) .leaf .leaf)) (.node (some f200) .leaf .leaf)) (.node (some f104) (.node none (.node (some f296) .leaf .leaf) (.node (some f424) .leaf .leaf)) (.node (some f232) .leaf .leaf))) (.node none .leaf (.node none (.node none (.node (some f312) .leaf .leaf) .leaf) (.node none (.node (some f376) .leaf .leaf) .leaf))))) (.node none (.node none (.node none (.node none (.node none (.node (some f260) .leaf .leaf) .leaf) (.node none (.node (some f324) .leaf .leaf) .leaf)) (.node (some f100) (.node (some f164) (.node (some f292) .leaf .leaf) (.node (some f420) .leaf .leaf)) (.node none (.node (some f356) .leaf .leaf) .leaf))) (.node none (.node (some f84) (.node none .leaf (.node (some f404) .leaf .leaf)) (.node (some f212) .leaf .leaf)) (.node none .leaf (.node none (.node (some f372) .leaf .leaf) .leaf)))) (.node (some f28) (.node none (.node none (.node (some f140) .leaf .leaf) .leaf) (.node none (.node (some f172) (.node (some f300) .leaf .leaf) .leaf) (.node (some f236) .leaf .leaf))) (.node (some f60) (.node none (.node (some f156) .leaf .leaf) (.node (some f220) (.node (some f348) .leaf .leaf) .leaf)) (.node none .leaf (.node (some f252) .leaf .leaf)))))) (.node none (.node none (.node none (.node none (.node none (.node (some f130) (.node (some f258) .leaf .leaf) .leaf) .leaf) (.node none .leaf (.node none (.node (some f354) .leaf .leaf) .leaf))) (.node none (.node none (.node none (.node (some f274) .leaf .leaf) (.node (some f402) .leaf .leaf)) (.node (some f210) (.node (some f338) .leaf .leaf) .leaf)) (.node (some f114) (.node none (.node (some f306) .leaf .leaf) .leaf) .leaf))) (.node none (.node (some f42) (.node none (.node none .leaf (.node (some f394) .leaf .leaf)) (.node (some f202) (.node (some f330) .leaf .leaf) .leaf)) (.node (some f106) (.node (some f170) .leaf .leaf) (.node (some f234) .leaf .leaf))) (.node none (.node none (.node (some f154) .leaf .leaf) (.node none (.node (some f346) .leaf .leaf) .leaf)) (.node none (.node none (.node (some f314) .leaf .leaf) .leaf) (.node (some f250) (.node (some f378) .leaf .leaf) .leaf))))) (.node (some f14) (.node none (.node none (.node none (.node (some f134) (.node (some f262) .leaf .leaf) .leaf) .leaf) (.node (some f102) (.node none (.node (some f294) .leaf .leaf) .leaf) (.node (some f230) (.node (some f358) .leaf .leaf) .leaf))) (.node (some f54) (.node none (.node none .leaf (.node (some f406) .leaf .leaf)) .leaf) (.node none (.node none (.node (some f310) .leaf .leaf) .leaf) (.node none (.node (some f374) .leaf .leaf) .leaf)))) (.node none (.node none .leaf (.node none (.node (some f174) (.node (some f302) .leaf .leaf) .leaf) (.node (some f238) .leaf .leaf))) (.node (some f62) (.node none (.node (some f158) .leaf .leaf) (.node none (.node (some f350) .leaf .leaf) .leaf)) (.node none .leaf (.node (some f254) (.node (some f382) .leaf .leaf) .leaf))))))))
theorem AbL:Fok prog ft:=AvF (⟨trivial,⟨trivial,⟨trivial,⟨fo7,⟨trivial,⟨ApT,⟨trivial,⟨Ako,⟨Ar1,trivial,trivial⟩,trivial⟩,trivial⟩,⟨trivial,⟨Apc,⟨AeA,trivial,trivial⟩,⟨Amo,trivial,trivial⟩⟩,⟨trivial,⟨Alp,trivial,trivial⟩,trivial⟩⟩⟩,⟨trivial,⟨trivial,⟨trivial,trivial,⟨Aif,trivial,trivial⟩⟩,trivial⟩,⟨trivial,⟨Ata,⟨AiU,trivial,trivial⟩,trivial⟩,⟨trivial,⟨Atw,trivial,trivial⟩,trivial⟩⟩⟩⟩,⟨Amm,⟨Aqg,⟨trivial,⟨AmK,⟨AeS,trivial,trivial⟩,⟨Aip,trivial,trivial⟩⟩,trivial⟩,⟨Ah6,⟨trivial,⟨Ahc,trivial,trivial⟩,⟨AvW,trivial,trivial⟩⟩,⟨AqI,⟨Ags,trivial,trivial⟩,trivial⟩⟩⟩,⟨Afx,⟨trivial,⟨trivial,trivial,⟨At3,trivial,trivial⟩⟩,⟨AiR,⟨Arp,trivial,trivial⟩,trivial⟩⟩,⟨trivial,⟨trivial,⟨AlO,trivial,trivial⟩,trivial⟩,⟨trivial,⟨Ak7,trivial,trivial⟩,trivial⟩⟩⟩⟩⟩,⟨trivial,⟨trivial,⟨trivial,⟨trivial,⟨AqN,⟨AsE,trivial,trivial⟩,trivial⟩,⟨trivial,⟨Afn,trivial,trivial⟩,trivial⟩⟩,⟨AmC,trivial,⟨trivial,⟨Ap8,trivial,trivial⟩,trivial⟩⟩⟩,⟨trivial,⟨Auq,⟨trivial,⟨AoC,trivial,trivial⟩,⟨AfA,trivial,trivial⟩⟩,⟨Aga,trivial,trivial⟩⟩,⟨Aod,⟨trivial,⟨Aq5,trivial,trivial⟩,trivial⟩,trivial⟩⟩⟩,⟨trivial,⟨AjE,⟨Agk,trivial,⟨AjR,⟨AqC,trivial,trivial⟩,trivial⟩⟩,⟨trivial,⟨AvM,⟨As9,trivial,trivial⟩,trivial⟩,⟨AvZ,trivial,trivial⟩⟩⟩,⟨trivial,⟨trivial,trivial,⟨AkS,⟨AvN,trivial,trivial⟩,trivial⟩⟩,⟨trivial,trivial,⟨AjL,⟨Aj6,trivial,trivial⟩,trivial⟩⟩⟩⟩⟩⟩,⟨trivial,⟨fo9,⟨Ar3,⟨trivial,⟨AfZ,⟨trivial,⟨Aiz,trivial,trivial⟩,trivial⟩,trivial⟩,⟨trivial,trivial,⟨trivial,⟨Avm,trivial,trivial⟩,trivial⟩⟩⟩,⟨trivial,⟨trivial,⟨trivial,trivial,⟨Ary,trivial,trivial⟩⟩,⟨AkN,trivial,trivial⟩⟩,⟨trivial,⟨AsV,⟨AiH,trivial,trivial⟩,trivial⟩,trivial⟩⟩⟩,⟨trivial,⟨Apu,⟨trivial,trivial,⟨AuQ,⟨Air,trivial,trivial⟩,trivial⟩⟩,⟨Atl,⟨AeO,trivial,trivial⟩,⟨Ah3,trivial,trivial⟩⟩⟩,⟨trivial,trivial,⟨trivial,⟨AmG,trivial,⟨AqW,trivial,trivial⟩⟩,⟨trivial,⟨AuT,trivial,trivial⟩,trivial⟩⟩⟩⟩⟩,⟨As6,⟨trivial,⟨trivial,⟨trivial,⟨trivial,⟨AoW,trivial,trivial⟩,trivial⟩,⟨trivial,⟨ApP,trivial,trivial⟩,trivial⟩⟩,⟨AtY,⟨Aox,⟨Ag8,trivial,trivial⟩,⟨ApG,trivial,trivial⟩⟩,⟨AuG,⟨Aju,trivial,trivial⟩,trivial⟩⟩⟩,⟨trivial,⟨AiB,⟨trivial,trivial,⟨AvD,trivial,trivial⟩⟩,⟨Ap3,trivial,trivial⟩⟩,⟨Aly,⟨trivial,⟨AtW,trivial,trivial⟩,trivial⟩,⟨trivial,⟨ApU,trivial,trivial⟩,trivial⟩⟩⟩⟩,⟨AlS,⟨AkG,⟨trivial,⟨ApF,trivial,trivial⟩,trivial⟩,⟨Apl,⟨AhF,⟨AsP,trivial,trivial⟩,trivial⟩,⟨AuV,trivial,trivial⟩⟩⟩,⟨trivial,⟨trivial,⟨Asf,⟨ApV,trivial,trivial⟩,trivial⟩,⟨trivial,⟨AhL,trivial,trivial⟩,trivial⟩⟩,⟨trivial,trivial,⟨AmD,trivial,trivial⟩⟩⟩⟩⟩⟩⟩,⟨trivial,⟨trivial,⟨trivial,⟨AsM,⟨Aim,⟨Arw,⟨trivial,⟨Aeq,trivial,trivial⟩,trivial⟩,trivial⟩,⟨trivial,⟨AjF,trivial,trivial⟩,⟨trivial,⟨AgH,trivial,trivial⟩,trivial⟩⟩⟩,⟨trivial,⟨trivial,⟨trivial,⟨ApA,trivial,trivial⟩,trivial⟩,⟨Al0,trivial,trivial⟩⟩,⟨Ajr,⟨At1,⟨Apg,trivial,trivial⟩,trivial⟩,⟨trivial,⟨An2,trivial,trivial⟩,trivial⟩⟩⟩⟩,⟨Ato,⟨Avq,⟨trivial,⟨trivial,trivial,⟨AfM,trivial,trivial⟩⟩,⟨Alc,trivial,trivial⟩⟩,⟨AeF,⟨trivial,⟨Ak5,trivial,trivial⟩,⟨Akn,trivial,trivial⟩⟩,⟨AfY,trivial,trivial⟩⟩⟩,⟨trivial,trivial,⟨trivial,⟨trivial,⟨Ai6,trivial,trivial⟩,trivial⟩,⟨trivial,⟨AeP,trivial,trivial⟩,trivial⟩⟩⟩⟩⟩,⟨trivial,⟨trivial,⟨trivial,⟨trivial,⟨trivial,⟨Akz,trivial,trivial⟩,trivial⟩,⟨trivial,⟨AjI,trivial,trivial⟩,trivial⟩⟩,⟨AgA,⟨AiE,⟨Au0,trivial,trivial⟩,⟨Ao2,trivial,trivial⟩⟩,⟨trivial,⟨Av9,trivial,trivial⟩,trivial⟩⟩⟩,⟨trivial,⟨AlZ,⟨trivial,trivial,⟨Ars,trivial,trivial⟩⟩,⟨AkZ,trivial,trivial⟩⟩,⟨trivial,trivial,⟨trivial,⟨Apj,trivial,trivial⟩,trivial⟩⟩⟩⟩,⟨AlF,⟨trivial,⟨trivial,⟨Avk,trivial,trivial⟩,trivial⟩,⟨trivial,⟨ArR,⟨Arf,trivial,trivial⟩,trivial⟩,⟨Ag7,trivial,trivial⟩⟩⟩,⟨Am5,⟨trivial,⟨ApW,trivial,trivial⟩,⟨As4,⟨AkQ,trivial,trivial⟩,trivial⟩⟩,⟨trivial,trivial,⟨Aor,trivial,trivial⟩⟩⟩⟩⟩⟩,⟨trivial,⟨trivial,⟨trivial,⟨trivial,⟨trivial,⟨Agl,⟨Ai5,trivial,trivial⟩,trivial⟩,trivial⟩,⟨trivial,trivial,⟨trivial,⟨AhB,trivial,trivial⟩,trivial⟩⟩⟩,⟨trivial,⟨trivial,⟨trivial,⟨Afg,trivial,trivial⟩,⟨Avh,trivial,trivial⟩⟩,⟨Ai8,⟨AhS,trivial,trivial⟩,trivial⟩⟩,⟨AkP,⟨trivial,⟨AmO,trivial,trivial⟩,trivial⟩,trivial⟩⟩⟩,⟨trivial,⟨AuX,⟨trivial,⟨trivial,trivial,⟨Anx,trivial,trivial⟩⟩,⟨Anj,⟨Aht,trivial,trivial⟩,trivial⟩⟩,⟨AsY,⟨AeZ,trivial,trivial⟩,⟨AvP,trivial,trivial⟩⟩⟩,⟨trivial,⟨trivial,⟨AnY,trivial,trivial⟩,⟨trivial,⟨Aik,trivial,trivial⟩,trivial⟩⟩,⟨trivial,⟨trivial,⟨ArF,trivial,trivial⟩,trivial⟩,⟨Aia,⟨Ao5,trivial,trivial⟩,trivial⟩⟩⟩⟩⟩,⟨Agy,⟨trivial,⟨trivial,⟨trivial,⟨Asa,⟨Ak2,trivial,trivial⟩,trivial⟩,trivial⟩,⟨Asy,⟨trivial,⟨Aup,trivial,trivial⟩,trivial⟩,⟨Ao6,⟨Ajk,trivial,trivial⟩,trivial⟩⟩⟩,⟨Atb,⟨trivial,⟨trivial,trivial,⟨Aiy,trivial,trivial⟩⟩,trivial⟩,⟨trivial,⟨trivial,⟨Ana,trivial,trivial⟩,trivial⟩,⟨trivial,⟨Ala,trivial,trivial⟩,trivial⟩⟩⟩⟩,⟨trivial,⟨trivial,trivial,⟨trivial,⟨Af0,⟨Aff,trivial,trivial⟩,trivial⟩,⟨Aps,trivial,trivial⟩⟩⟩,⟨AjX,⟨trivial,⟨AtA,trivial,trivial⟩,⟨trivial,⟨AqY,trivial,trivial⟩,trivial⟩⟩,⟨trivial,trivial,⟨Ahx,⟨Ahf,trivial,trivial⟩,trivial⟩⟩⟩⟩⟩⟩⟩⟩)
end Go.Rn
end
section
namespace Go.Rn
open Go.RowKit
open Go.Vm (enters)
set_option maxRecDepth 1000000
def ZQ:Nat→Nat→Nat
 |0,c=>c
 |k+1,c=>ZQ k (match Nat.beq (Nat.mod c 2) 1 with
  |true=>Nat.xor (Nat.div c 2) 3988292384
  |false=>Nat.div c 2)
def Nl:V:=.agg ((List.range 256).map fun i=>.sc (.int .u32 (Int.ofNat (ZQ 8 i))))
def Yx:Value:=(toV Nl).getD (.int .u32 0)
set_option maxHeartbeats 100000000 in
theorem AgD:Td (run Go.Proofs.Tryz.prog ft [] 1000000 1000 102 [] .leaf 0 (fun v _ _=>isV Nl v)):=⟨of_eq_true (by kernel_rfl)⟩
theorem Ajz:toV Nl=some Yx:=by kernel_rfl
theorem Ahy:okV Nl=true:=by kernel_rfl
theorem AdM:enters Go.Proofs.Tryz.prog 102=true∧∀[Cx] h n,Dx Go.Proofs.Tryz.prog 102 [] h n Nl h n:=AbY (P:=Go.Proofs.Tryz.prog) (F:=ft) (l:=[]) (f:=102) (x:=Nl) (u:=Yx) AbL (fun [Cx]=>Aaw) AgD Ajz Ahy
abbrev Adf:Orc:=[(102,[],Nl)]
theorem AqR [Cx]:Ld Go.Proofs.Tryz.prog Adf:=EP AdM.1 AdM.2 Aaw
end Go.Rn
end
section
namespace Punnet.Flt
open Ieee
def far:Nat:=1074
theorem Qs:far=1074:=rfl
def K:Int:=2 ^ far
theorem PY:0<K:=Int.pow_pos (by decide)
theorem Acm (x:Nat):double.read x =
 (if x % 9223372036854775808<4503599627370496 then Datum.number (x / 9223372036854775808 % 2==1) (x % 9223372036854775808) (-1074)
   else if x % 9223372036854775808<9218868437227405312 then .number (x / 9223372036854775808 % 2==1) (4503599627370496+x % 9223372036854775808 % 4503599627370496) (-1074+((x % 9223372036854775808 / 4503599627370496-1:Nat):Int))
   else if x % 9223372036854775808=9218868437227405312 then .infinity (x / 9223372036854775808 % 2==1)
   else .nan (x / 9223372036854775808 % 2==1) (x % 9223372036854775808-9218868437227405312)):=rfl
theorem Aom {x m:Nat}{s:Bool}{e:Int}(h:double.read x=.number s m e) : -1074≤e:=by
 rw [Acm] at h
 split at h
 ·injection h with _ _ h;omega
 ·split at h
  ·injection h with _ _ h;omega
  ·split at h<;>cases h
theorem N7 (s:Bool)(m a:Nat):signed s m a=(if s then -1 else 1)*((m:Int)*2 ^ a):=by
 have h:((m <<< a:Nat):Int)=(m:Int)*2 ^ a:=by rw [Nat.shiftLeft_eq];simp
 unfold signed
 cases s<;>simp [h]
theorem Yy (s:Bool)(m a b:Nat):signed s m (a+b)=signed s m a*2 ^ b:=by
 rw [N7,N7,Int.pow_add,Int.mul_assoc,Int.mul_assoc]
def BZ (x:Nat):Option Int:=match double.read x with
 | .number s m e=>some (signed s m (e+1074).toNat)
 |_=>none
theorem AcL {x m:Nat}{s:Bool}{e:Int}(h:double.read x=.number s m e):BZ x=some (signed s m (e+1074).toNat):=by
 rw [BZ,h]
theorem Oi {x:Nat}{u:Int}(h:BZ x=some u):∃s m e,double.read x=.number s m e∧-1074≤e∧u=signed s m (e+1074).toNat:=by
 unfold BZ at h
 cases hr:double.read x with
 |number s m e=>rw [hr] at h;injection h with h;exact ⟨s,m,e,rfl,Aom hr,h.symm⟩
 |infinity s=>rw [hr] at h;cases h
 |nan s t=>rw [hr] at h;cases h
theorem Ahw (a b k:Int)(hk:0<k):compare (a*k) (b*k)=compare a b:=by
 simp only [compare,compareOfLessAndEq]
 have h1:a*k<b*k↔a<b:=⟨fun h=>Int.lt_of_mul_lt_mul_right h (Int.le_of_lt hk),fun h=>Int.mul_lt_mul_of_pos_right h hk⟩
 have h2:a*k=b*k↔a=b:=⟨fun h=>Int.eq_of_mul_eq_mul_right (by omega) h,fun h=>by rw [h]⟩
 simp only [h1,h2]
theorem Xd {x y:Nat}{u v:Int}(hx:BZ x=some u)(hy:BZ y=some v):double.order x y=some (compare u v):=by
 obtain ⟨s,m,i,hr,hi,rfl⟩:=Oi hx
 obtain ⟨t,n,j,hr2,hj,rfl⟩:=Oi hy
 rw [Format.order,hr,hr2,Datum.order]
 have e1:(i+1074).toNat=(i-min i j).toNat+(min i j+1074).toNat:=by omega
 have e2:(j+1074).toNat=(j-min i j).toNat+(min i j+1074).toNat:=by omega
 have hk:(0:Int)<2 ^ (min i j+1074).toNat:=Int.pow_pos (by decide)
 show some (compare (signed s m (i-min i j).toNat) (signed t n (j-min i j).toNat))=_
 rw [e1,e2,Yy,Yy,Ahw _ _ _ hk]
theorem Ae3 {a b:Int}(h:a<b):compare a b=.lt:=by simp [compare,compareOfLessAndEq,h]
theorem Amz (a:Int):compare a a=.eq:=by simp [compare,compareOfLessAndEq]
theorem Apx {a b:Int}(h:b<a):compare a b=.gt:=by
 have h1:¬a<b:=by omega
 have h2:¬a=b:=by omega
 simp [compare,compareOfLessAndEq,h1,h2]
theorem WT {x y:Nat}{u v:Int}(hx:BZ x=some u)(hy:BZ y=some v)(h:u<v):double.order x y=some .lt:=by rw [Xd hx hy,Ae3 h]
theorem Xu {x y:Nat}{u:Int}(hx:BZ x=some u)(hy:BZ y=some u):double.order x y=some .eq:=by rw [Xd hx hy,Amz]
theorem WU {x y:Nat}{u v:Int}(hx:BZ x=some u)(hy:BZ y=some v)(h:v<u):double.order x y=some .gt:=by rw [Xd hx hy,Apx h]
def geB (x y:Nat):Bool:=double.order x y==some .gt||double.order x y==some .eq
def leB (x y:Nat):Bool:=double.order x y==some .lt||double.order x y==some .eq
def eqB (x y:Nat):Bool:=double.order x y==some .eq
theorem Aqn {x y:Nat}{u v:Int}(hx:BZ x=some u)(hy:BZ y=some v):geB x y=decide (v≤u):=by
 rw [geB]
 rcases Int.lt_trichotomy u v with h|rfl|h
 ·rw [WT hx hy h,decide_eq_false (by omega)];rfl
 ·rw [Xu hx hy,decide_eq_true (by omega)];rfl
 ·rw [WU hx hy h,decide_eq_true (by omega)];rfl
theorem Asz {x y:Nat}{u v:Int}(hx:BZ x=some u)(hy:BZ y=some v):leB x y=decide (u≤v):=by
 rw [leB]
 rcases Int.lt_trichotomy u v with h|rfl|h
 ·rw [WT hx hy h,decide_eq_true (by omega)];rfl
 ·rw [Xu hx hy,decide_eq_true (by omega)];rfl
 ·rw [WU hx hy h,decide_eq_false (by omega)];rfl
theorem AlA {x y:Nat}{u v:Int}(hx:BZ x=some u)(hy:BZ y=some v):eqB x y=decide (u=v):=by
 rw [eqB]
 rcases Int.lt_trichotomy u v with h|rfl|h
 ·rw [WT hx hy h,decide_eq_false (by omega)];rfl
 ·rw [Xu hx hy,decide_eq_true rfl];rfl
 ·rw [WU hx hy h,decide_eq_false (by omega)];rfl
theorem At9 {x y z:Nat}{v v':Int}(hx:BZ x=none)(hy:BZ y=some v)(hz:BZ z=some v'):(geB x y&&leB x z)=false:=by
 obtain ⟨t,n,j,hr,_,_⟩:=Oi hy
 obtain ⟨t',n',j',hr',_,_⟩:=Oi hz
 rw [geB,leB,Format.order,Format.order,hr,hr']
 cases h:double.read x with
 |number s m e=>rw [BZ,h] at hx;cases hx
 |nan s f=>rfl
 |infinity s=>cases s<;>rfl
theorem AnO {neg:Bool}{rung:Nat}(h0:4503599627370496≤rung)(h1:rung<9218868437227405312) :
 double.read (double.word neg rung)=.number neg (4503599627370496+rung % 4503599627370496) (-1074+((rung / 4503599627370496-1:Nat):Int)):=by
 have hx:double.word neg rung % 9223372036854775808=rung:=by
  cases neg
  ·show rung % _=_;omega
  ·show (9223372036854775808+rung) % _=_;omega
 have hs:(double.word neg rung / 9223372036854775808 % 2==1)=neg:=by
  cases neg
  ·show (rung / 9223372036854775808 % 2==1)=false
   rw [show rung / 9223372036854775808=0 by omega];rfl
  ·show ((9223372036854775808+rung) / 9223372036854775808 % 2==1)=true
   rw [show (9223372036854775808+rung) / 9223372036854775808=1 by omega];rfl
 rw [Acm,hx,hs,if_neg (by omega),if_pos h1]
theorem Acf (neg:Bool):BZ (double.nearest neg 0 0)=some 0:=by
 have h:double.read (double.nearest neg 0 0)=.number neg 0 (-1074):=by cases neg<;>rfl
 rw [AcL h,N7];simp
theorem Ar4 (neg:Bool)(n:Nat):Toward.even.cut neg n 0=n:=by
 simp [Toward.cut,Nat.mod_one]
theorem Abg (neg:Bool)(m:Nat)(hm:m<9007199254740992):BZ (double.nearest neg m 0)=some ((if neg then -1 else 1)*((m:Int)*K)):=by
 rcases Nat.eq_zero_or_pos m with rfl|h0
 ·rw [Acf];simp
 have hne:m≠0:=by omega
 have hlo:2 ^ m.log2≤m:=Nat.log2_self_le hne
 have hhi:m<2 ^ (m.log2+1):=Nat.lt_log2_self
 have hL:m.log2≤52:=by
  rcases Nat.lt_or_ge 52 m.log2 with h|h
  ·have:2 ^ 53≤2 ^ m.log2:=Nat.pow_le_pow_right (by omega) h
   omega
  ·exact h
 have hM:2 ^ m.log2*2 ^ (52-m.log2)=4503599627370496:=by
  rw [←Nat.pow_add,show m.log2+(52-m.log2)=52 by omega]
 have hM2:2 ^ (m.log2+1)*2 ^ (52-m.log2)=9007199254740992:=by
  rw [←Nat.pow_add,show m.log2+1+(52-m.log2)=53 by omega]
 have hMlo:4503599627370496≤m*2 ^ (52-m.log2):=by rw [←hM];exact Nat.mul_le_mul_right _ hlo
 have hMhi:m*2 ^ (52-m.log2)<9007199254740992:=by rw [←hM2];exact Nat.mul_lt_mul_of_pos_right hhi (Nat.two_pow_pos _)
 have hw:double.nearest neg m 0=double.word neg ((m.log2+1022)*4503599627370496+m*2 ^ (52-m.log2)):=by
  unfold Format.nearest
  rw [if_neg hne]
  have hl:max ((0:Int)+(m.log2:Int)-(double.fractionBits:Int)) double.leastPlace=(m.log2:Int)-52:=by
   show max ((0:Int)+(m.log2:Int)-52) (-1074)=_
   omega
  simp only [hl]
  rw [show ((0:Int)-((m.log2:Int)-52)).toNat=52-m.log2 by omega,show ((m.log2:Int)-52-0).toNat=0 by omega,Ar4,Nat.shiftLeft_eq]
  rw [show ((m.log2:Int)-52-double.leastPlace).toNat=m.log2+1022 by show ((m.log2:Int)-52-(-1074)).toNat=_;omega]
  congr 1
  show min ((m.log2+1022)*4503599627370496+m*2 ^ (52-m.log2)) 9218868437227405312=_
  omega
 generalize hMe:m*2 ^ (52-m.log2)=M at *
 have hr:=AnO (neg:=neg) (rung:=(m.log2+1022)*4503599627370496+M) (by omega) (by omega)
 rw [←hw] at hr
 have e1:4503599627370496+((m.log2+1022)*4503599627370496+M) % 4503599627370496=M:=by omega
 have e2:(-1074:Int)+(((((m.log2+1022)*4503599627370496+M) / 4503599627370496-1:Nat)):Int)=(m.log2:Int)-52:=by omega
 rw [e1,e2] at hr
 have e3:K=2 ^ (52-m.log2)*2 ^ (m.log2+1022):=by
  rw [K,←Int.pow_add,show 52-m.log2+(m.log2+1022)=far by rw [Qs];omega]
 have e4:(M:Int)*2 ^ (m.log2+1022)=(m:Int)*K:=by
  rw [e3,←hMe,Int.natCast_mul,Int.natCast_pow,Int.mul_assoc];simp
 rw [AcL hr,N7,show ((m.log2:Int)-52+1074).toNat=m.log2+1022 by omega,e4]
theorem QG (n:Int)(h:n.natAbs<9007199254740992):BZ (double.write (.number (n<0) n.natAbs 0))=some (n*K):=by
 show BZ (double.nearest (n<0) n.natAbs 0)=_
 rw [Abg _ _ h]
 congr 1
 by_cases hn:n<0
 ·rw [if_pos (by simpa using hn),show ((n.natAbs:Nat):Int) = -n by omega,Int.neg_mul,Int.neg_mul,Int.one_mul,Int.neg_neg]
 ·rw [if_neg (by simpa using hn),show ((n.natAbs:Nat):Int)=n by omega,Int.one_mul]
theorem Aae {m d:Nat}(h:m.log2+2<d):m / 2 ^ d=0∧m / 2 ^ (m.log2+2)=0:=by
 have hhi:m<2 ^ (m.log2+1):=Nat.lt_log2_self
 have h1:2 ^ (m.log2+1)≤2 ^ d:=Nat.pow_le_pow_right (by omega) (by omega)
 have h2:2 ^ (m.log2+1)≤2 ^ (m.log2+2):=Nat.pow_le_pow_right (by omega) (by omega)
 exact ⟨Nat.div_eq_of_lt (by omega),Nat.div_eq_of_lt (by omega)⟩
theorem Av4 (neg:Bool)(n d:Nat):Toward.zero.cut neg n d=n / 2 ^ d:=by
 have h:Toward.zero.cut neg n d=n / 2 ^ min d (n.log2+2):=by simp [Toward.cut,Nat.shiftLeft_eq]
 rw [h]
 rcases Nat.lt_or_ge (n.log2+2) d with h1|h1
 ·rw [Nat.min_eq_right (by omega),(Aae h1).1,(Aae h1).2]
 ·rw [Nat.min_eq_left h1]
theorem Acu {x:Nat}{u:Int}(h:BZ x=some u):∃(s:Bool) (q:Nat),(double.read x).integral .zero=.number s q 0∧u.tdiv K=(if s then -1 else 1)*(q:Int)∧u.natAbs / (2 ^ far)=q:=by
 obtain ⟨s,m,e,hr,he,rfl⟩:=Oi h
 refine ⟨s,m*2 ^ e.toNat / 2 ^ (-e).toNat,by rw [hr,Datum.integral,Av4,Nat.shiftLeft_eq],?_,?_⟩
 ·have hq:(m*2 ^ e.toNat / 2 ^ (-e).toNat:Nat)=m*2 ^ (e+1074).toNat / 2 ^ far:=by
   rcases Int.le_total 0 e with h0|h0
   ·rw [show (-e).toNat=0 by omega,show (e+1074).toNat=e.toNat+far by rw [Qs];omega,Nat.pow_add,←Nat.mul_assoc,Nat.mul_div_cancel _ (Nat.two_pow_pos _)];simp
   ·rw [show e.toNat=0 by omega,show far=(e+1074).toNat+(-e).toNat by rw [Qs];omega,Nat.pow_add,Nat.mul_comm (2 ^ (e+1074).toNat),Nat.mul_div_mul_right _ _ (Nat.two_pow_pos _)];simp
  rw [hq,N7,K]
  have e1:((m:Int)*2 ^ (e+1074).toNat)=((m*2 ^ (e+1074).toNat:Nat):Int):=by simp
  have e2:((2:Int) ^ far)=((2 ^ far:Nat):Int):=by rw [Int.natCast_pow];rfl
  rw [e1,e2]
  cases s
  ·simp only [Bool.false_eq_true,if_false,Int.one_mul];rfl
  ·simp only [if_true]
   rw [Int.neg_mul,Int.one_mul,Int.neg_mul,Int.one_mul,Int.neg_tdiv];rfl
 ·rw [N7]
  have e1:((if s=true then (-1:Int) else 1)*((m:Int)*2 ^ (e+1074).toNat)).natAbs=m*2 ^ (e+1074).toNat:=by
   rw [Int.natAbs_mul]
   have e3:((m:Int)*2 ^ (e+1074).toNat).natAbs=m*2 ^ (e+1074).toNat:=by
    have:((m:Int)*2 ^ (e+1074).toNat)=((m*2 ^ (e+1074).toNat:Nat):Int):=by simp
    rw [this];rfl
   rw [e3]
   cases s<;>simp
  rw [e1]
  rcases Int.le_total 0 e with h0|h0
  ·rw [show (-e).toNat=0 by omega,show (e+1074).toNat=e.toNat+far by rw [Qs];omega,Nat.pow_add,←Nat.mul_assoc,Nat.mul_div_cancel _ (Nat.two_pow_pos _)];simp
  ·rw [show e.toNat=0 by omega,show far=(e+1074).toNat+(-e).toNat by rw [Qs];omega,Nat.pow_add,Nat.mul_comm (2 ^ (e+1074).toNat),Nat.mul_div_mul_right _ _ (Nat.two_pow_pos _)];simp
def KR (x:Nat):Option Int:=match BZ x with
 |some u=>if -4503599627370496*K≤u∧u≤4503599627370496*K∧u.tdiv K*K=u then some (u.tdiv K) else none
 |none=>none
theorem VH (n:Int):(n*K).tdiv K=n:=Int.mul_tdiv_cancel n (by have:=PY;omega)
theorem LX (a b:Int):a*K≤b*K↔a≤b:=⟨fun h=>Int.le_of_mul_le_mul_right h PY,fun h=>Int.mul_le_mul_of_nonneg_right h (Int.le_of_lt PY)⟩
theorem OA {x:Nat}{n:Int}:KR x=some n↔BZ x=some (n*K)∧-4503599627370496≤n∧n≤4503599627370496:=by
 unfold KR
 constructor
 ·intro h
  cases hu:BZ x with
  |none=>rw [hu] at h;cases h
  |some u=>
   rw [hu] at h
   simp only at h
   split at h
   ·rename_i hc
    injection h with h
    obtain ⟨h1,h2,h3⟩:=hc
    rw [h] at h3
    rw [←h3] at h1 h2
    rw [h3]
    exact ⟨rfl,(LX _ _).1 h1,(LX _ _).1 h2⟩
   ·cases h
 ·rintro ⟨hu,h1,h2⟩
  rw [hu]
  simp only [VH]
  rw [if_pos ⟨(LX _ _).2 h1,(LX _ _).2 h2,trivial⟩]
theorem Aoj {u:Int}(h1 : -4503599627370496*K≤u)(h2:u≤4503599627370496*K) : -4503599627370496≤u.tdiv K∧u.tdiv K≤4503599627370496:=by
 have hk:=PY
 rcases Int.le_total 0 u with h|h
 ·rw [Int.tdiv_eq_ediv_of_nonneg h]
  have h3:u / K≤4503599627370496:=Int.ediv_le_of_le_mul hk h2
  have h4:0≤u / K:=Int.ediv_nonneg h (Int.le_of_lt hk)
  omega
 ·have e:u = -(-u):=by omega
  rw [e,Int.neg_tdiv,Int.tdiv_eq_ediv_of_nonneg (by omega)]
  have h3 : -u / K≤4503599627370496:=Int.ediv_le_of_le_mul hk (by omega)
  have h4:0≤-u / K:=Int.ediv_nonneg (by omega) (Int.le_of_lt hk)
  omega
theorem Aqv {x:Nat}{u:Int}(h:BZ x=some u)(h1 : -4503599627370496*K≤u)(h2:u≤4503599627370496*K):BZ (double.write ((double.read x).integral .zero))=some (u.tdiv K*K):=by
 obtain ⟨s,q,hi,ht,_⟩:=Acu h
 have hb:=Aoj h1 h2
 have hq:q<9007199254740992:=by
  rw [ht] at hb
  cases s<;>simp at hb<;>omega
 rw [hi]
 show BZ (double.nearest s q 0)=_
 rw [Abg s q hq,ht,Int.mul_assoc]
theorem Aoi {x:Nat}{u:Int}(h:BZ x=some u):(double.read x).toInt .zero=some (u.tdiv K):=by
 obtain ⟨s,q,hi,ht,_⟩:=Acu h
 rw [Datum.toInt,hi,ht]
 show some (signed s q 0)=_
 rw [N7];simp
theorem Aq9 (n:Int)(h0 : -4503599627370496≤n)(h1:n≤4503599627370496):KR (double.write (.number (n<0) n.natAbs 0))=some n:=
 OA.2 ⟨QG n (by omega),h0,h1⟩
end Punnet.Flt
end
section
namespace Go.Proofs.YtdfbohaohjaloaaGreatDoor
open Go.RowKit Punnet.Flt
theorem Agn (x:Nat):FloatKind.f64.decode x=Ieee.double.read x:=rfl
section
attribute [local irreducible] FloatKind.decode
theorem AfH (x:Nat)(u:Int)(hu:BZ x=some u)(w:World) :
 (callFunc 412 #[.float .f64 x]).run Tryz.prog w=.ok (.value (.float .f64 (Ieee.double.write ((Ieee.double.read x).integral .zero)))) w:=by
 rw [run_callFunc_extern (P := Tryz.prog) (f := 412) (fn := Tryz.f412) (e := Extern.MathFloor.toIntegral "math.archTrunc" .zero) (by kernel_rfl) (by kernel_rfl) (by kernel_rfl) (by kernel_rfl) (by kernel_rfl)]
 obtain ⟨s,m,e,hr,_,_⟩:=Oi hu
 have h : (Extern.MathFloor.toIntegral "math.archTrunc" .zero #[.float .f64 x]).run Tryz.prog w = .ok (.float .f64 (Ieee.double.write ((Ieee.double.read x).integral .zero))) w := by
  have hd:FloatKind.f64.decode x=.number s m e:=(Agn x).trans hr
  conv=>lhs;arg 2;whnf
  rw [hd,hr]
  rfl
 rw [h];rfl
end
set_option maxHeartbeats 400000 in
theorem ZI (x:Nat)(u:Int)(hu:BZ x=some u)(w:World) :
 Calls Tryz.prog 377 #[.float .f64 x] w fun e w'=>e=.returned (.float .f64 (Ieee.double.write ((Ieee.double.read x).integral .zero)))∧w=w':=by
 have hc:=AfH x u hu
 clear hu
 generalize Ieee.double.write ((Ieee.double.read x).integral .zero)=t at *
 go_enter Tryz.func377,Tryz.ntmps377
 go_wp2
 go_ret
 exact ⟨rfl,rfl⟩
theorem Ano (P:Program)(w:World)(a:Addr)(m:Mode)(k:FloatKind)(b:Nat):(store a (.float k b) m).run P w=stored P w a (.float k b) m:=run_store P w a _ m rfl
attribute [local go_sem] Ano
set_option maxHeartbeats 400000 in
theorem Oc (a b:Nat)(w:World) :
 Calls Tryz.prog 376 #[.complex .f64 a b] w fun e w'=>e=.returned (.agg #[.float .f64 a,.float .f64 b])∧Below w.heap.size w w':=by
 go_enter Tryz.func376,Tryz.ntmps376
 go_wp2
 exact bodyPost_ret (v:=.agg #[.float .f64 a,.float .f64 b]) (by simp [results,Tryz.results376,go_sem]) rfl ⟨rfl,(Below.refl _ _).alloc (Nat.le_refl _) _⟩
def okB (x:Nat)(M:Int):Bool:=match KR x with
 |some n=>decide (-M≤n∧n≤M)
 |none=>false
theorem Av8 {x:Nat}{u M:Int}(hu:BZ x=some u)(hM:M≤4503599627370496):okB x M=decide (-M*K≤u∧u≤M*K∧u.tdiv K*K=u):=by
 have hk:=PY
 unfold okB
 cases hw:KR x with
 |some n=>
  obtain ⟨h1,h2,h3⟩:=OA.1 hw
  rw [hu] at h1
  injection h1 with h1
  subst h1
  simp only [VH,and_true,LX]
 |none=>
  symm
  rw [decide_eq_false_iff_not]
  rintro ⟨h1,h2,h3⟩
  rw [←h3] at h1 h2
  rw [LX] at h1 h2
  have:KR x=some (u.tdiv K):=OA.2 ⟨by rw [hu,h3],by omega,by omega⟩
  rw [hw] at this
  cases this
theorem Ajv {x:Nat}{M:Int}(hu:BZ x=none):okB x M=false:=by
 unfold okB KR;rw [hu]
set_option maxHeartbeats 800000 in
theorem AaR (a b mb:Nat)(M:Int)(w:World)(hm:BZ mb=some (M*K))(hn:BZ (Op.negFloat .f64 mb)=some (-M*K))(hM:M≤4503599627370496) :
 Calls Tryz.prog 293 #[.complex .f64 a b,.float .f64 mb] w fun e w'=>e=.returned (.bool (okB a M&&okB b M))∧Below w.heap.size w w':=by
 have i0:∀w,(Instr.index 463 (.agg #[.float .f64 a,.float .f64 b]) (.int .i64 0)).run Tryz.prog w=.ok (.float .f64 a) w:=fun _=>by kernel_rfl
 have i1:∀w,(Instr.index 463 (.agg #[.float .f64 a,.float .f64 b]) (.int .i64 1)).run Tryz.prog w=.ok (.float .f64 b) w:=fun _=>by kernel_rfl
 have hneg:∀w,(Op.unary .neg (.float .f64 mb)).run Tryz.prog w=.ok (.float .f64 (Op.negFloat .f64 mb)) w:=fun _=>rfl
 generalize Op.negFloat .f64 mb=nm at *
 have key:∀x,(geB x nm=false∧okB x M=false)∨(geB x nm=true∧leB x mb=false∧okB x M=false)∨(geB x nm=true∧leB x mb=true∧∃u,BZ x=some u∧-4503599627370496*K≤u∧u≤4503599627370496*K∧okB x M=decide (u.tdiv K*K=u)):=by
  intro x
  cases hx:BZ x with
  |none=>
   have hf:=At9 hx hn hm
   have ho:=Ajv (M:=M) hx
   cases hg:geB x nm with
   |false=>exact .inl ⟨rfl,ho⟩
   |true=>rw [hg,Bool.true_and] at hf;exact .inr (.inl ⟨rfl,hf,ho⟩)
  |some u=>
   have ho:=Av8 hx hM
   have h1:=Aqn hx hn
   have h2:=Asz hx hm
   by_cases c1 : -M*K≤u
   ·by_cases c2:u≤M*K
    ·have c3 : -4503599627370496*K≤u:=Int.le_trans ((LX _ _).2 (by omega)) c1
     have c4:u≤4503599627370496*K:=Int.le_trans c2 ((LX _ _).2 hM)
     refine .inr (.inr ⟨by rw [h1,decide_eq_true c1],by rw [h2,decide_eq_true c2],u,rfl,c3,c4,?_⟩)
     rw [ho,decide_eq_decide]
     exact ⟨fun h=>h.2.2,fun h=>⟨c1,c2,h⟩⟩
    ·refine .inr (.inl ⟨by rw [h1,decide_eq_true c1],by rw [h2,decide_eq_false c2],?_⟩)
     rw [ho,decide_eq_false]
     exact fun h=>c2 h.2.1
   ·refine .inl ⟨by rw [h1,decide_eq_false c1],?_⟩
    rw [ho,decide_eq_false]
    exact fun h=>c1 h.1
 have tr:∀x u,BZ x=some u→-4503599627370496*K≤u→u≤4503599627370496*K→eqB (Ieee.double.write ((Ieee.double.read x).integral .zero)) x=decide (u.tdiv K*K=u):=by
  intro x u hx c3 c4
  exact AlA (Aqv hx c3 c4) hx
 have ords:∀x y,∃o,FloatKind.f64.format.order x y=o∧geB x y=(o==some .gt||o==some .eq)∧leB x y=(o==some .lt||o==some .eq)∧eqB x y=(o==some .eq):=fun x y=>⟨_,rfl,rfl,rfl,rfl⟩
 obtain ⟨oa,ea,ga,_,_⟩:=ords a nm
 obtain ⟨pa,fa,_,la,_⟩:=ords a mb
 obtain ⟨ob,eb,gb,_,_⟩:=ords b nm
 obtain ⟨pb,fb,_,lb,_⟩:=ords b mb
 rcases key a with ⟨g1,o1⟩|⟨g1,g2,o1⟩|⟨g1,g2,u,hu,c3,c4,o1⟩
 ·have HV:=Lib.hid (show (okB a M&&okB b M)=false by rw [o1];rfl)
  rw [ga] at g1
  clear hm hn hM o1 key tr ords ga la gb lb
  go_enter Tryz.func293,Tryz.ntmps293
  go_wp2_with (go_at_call 376;refine (Oc _ _ _).mono ?_;rintro e w1 ⟨rfl,hb1⟩)
  refine wp_loop_rounds 1 ?_
  rw [rounds_succ]
  go_wp2
  go_ret
  exact ⟨FM HV.out.symm,hb1⟩
 ·have HV:=Lib.hid (show (okB a M&&okB b M)=false by rw [o1];rfl)
  rw [ga] at g1
  rw [la] at g2
  clear hm hn hM o1 key tr ords ga la gb lb
  go_enter Tryz.func293,Tryz.ntmps293
  go_wp2_with (go_at_call 376;refine (Oc _ _ _).mono ?_;rintro e w1 ⟨rfl,hb1⟩)
  refine wp_loop_rounds 1 ?_
  rw [rounds_succ]
  go_wp2
  go_ret
  exact ⟨FM HV.out.symm,hb1⟩
 ·have HT:=Lib.hid (ZI a u hu)
  have ht:=tr a u hu c3 c4
  rw [←o1] at ht
  generalize Ieee.double.write ((Ieee.double.read a).integral .zero)=ta at *
  obtain ⟨ot,et,_,_,ht2⟩:=ords ta a
  rw [ht2] at ht
  rw [ga] at g1
  rw [la] at g2
  clear hm hn hM o1 hu c3 c4 ht2
  cases ho:okB a M with
  |false=>
   rw [ho] at ht
   have HV:=Lib.hid (show (false&&okB b M)=false from rfl)
   have ht':(ot != some .eq)=true:=by rw [bne,ht];rfl
   clear key tr ho ords ga la gb lb
   go_enter Tryz.func293,Tryz.ntmps293
   go_wp2_with (go_at_call 376;refine (Oc _ _ _).mono ?_;rintro e w1 ⟨rfl,hb1⟩)
   refine wp_loop_rounds 1 ?_
   rw [rounds_succ]
   go_wp2_with (go_at_call 377;refine (HT.out _).mono ?_;rintro e w2 ⟨rfl,rfl⟩)
   go_ret
   exact ⟨FM HV.out.symm,hb1⟩
  |true=>
   rw [ho] at ht
   have ht':(ot != some .eq)=false:=by rw [bne,ht];rfl
   rcases key b with ⟨k1,o1⟩|⟨k1,k2,o1⟩|⟨k1,k2,v,hv,c3,c4,o1⟩
   ·have HV:=Lib.hid (show (true&&okB b M)=false by rw [o1];rfl)
    rw [gb] at k1
    clear key tr ho o1 ords ga la gb lb
    go_enter Tryz.func293,Tryz.ntmps293
    go_wp2_with (go_at_call 376;refine (Oc _ _ _).mono ?_;rintro e w1 ⟨rfl,hb1⟩)
    refine wp_loop_rounds 2 ?_
    rw [rounds_succ]
    go_wp2_with (go_at_call 377;refine (HT.out _).mono ?_;rintro e w2 ⟨rfl,rfl⟩)
    rw [rounds_succ]
    go_wp2
    go_ret
    exact ⟨FM HV.out.symm,hb1⟩
   ·have HV:=Lib.hid (show (true&&okB b M)=false by rw [o1];rfl)
    rw [gb] at k1
    rw [lb] at k2
    clear key tr ho o1 ords ga la gb lb
    go_enter Tryz.func293,Tryz.ntmps293
    go_wp2_with (go_at_call 376;refine (Oc _ _ _).mono ?_;rintro e w1 ⟨rfl,hb1⟩)
    refine wp_loop_rounds 2 ?_
    rw [rounds_succ]
    go_wp2_with (go_at_call 377;refine (HT.out _).mono ?_;rintro e w2 ⟨rfl,rfl⟩)
    rw [rounds_succ]
    go_wp2
    go_ret
    exact ⟨FM HV.out.symm,hb1⟩
   ·have HT2:=Lib.hid (ZI b v hv)
    have hs:=tr b v hv c3 c4
    rw [←o1] at hs
    generalize Ieee.double.write ((Ieee.double.read b).integral .zero)=tb at *
    obtain ⟨os,es,_,_,hs2⟩:=ords tb b
    rw [hs2] at hs
    rw [gb] at k1
    rw [lb] at k2
    clear key tr ho o1 ords ga la gb lb hs2 hv c3 c4
    cases hob:okB b M with
    |false=>
     rw [hob] at hs
     have hs':(os != some .eq)=true:=by rw [bne,hs];rfl
     clear hob
     go_enter Tryz.func293,Tryz.ntmps293
     go_wp2_with (go_at_call 376;refine (Oc _ _ _).mono ?_;rintro e w1 ⟨rfl,hb1⟩)
     refine wp_loop_rounds 2 ?_
     rw [rounds_succ]
     go_wp2_with (go_at_call 377;refine (HT.out _).mono ?_;rintro e w2 ⟨rfl,rfl⟩)
     rw [rounds_succ]
     go_wp2_with (go_at_call 377;refine (HT2.out _).mono ?_;rintro e w2 ⟨rfl,rfl⟩)
     go_ret
     exact ⟨rfl,hb1⟩
    |true=>
     rw [hob] at hs
     have hs':(os != some .eq)=false:=by rw [bne,hs];rfl
     clear hob
     go_enter Tryz.func293,Tryz.ntmps293
     go_wp2_with (go_at_call 376;refine (Oc _ _ _).mono ?_;rintro e w1 ⟨rfl,hb1⟩)
     refine wp_loop_rounds 3 ?_
     rw [rounds_succ]
     go_wp2_with (go_at_call 377;refine (HT.out _).mono ?_;rintro e w2 ⟨rfl,rfl⟩)
     rw [rounds_succ]
     go_wp2_with (go_at_call 377;refine (HT2.out _).mono ?_;rintro e w2 ⟨rfl,rfl⟩)
     rw [rounds_succ]
     go_wp2
     go_ret
     exact ⟨rfl,hb1⟩
end Go.Proofs.YtdfbohaohjaloaaGreatDoor
end
section
namespace Go.Proofs.YtdfbohaohjaloaaGreatDoor
open Go.RowKit Punnet.Flt
theorem Art:BZ 4841369599423283200=some (4503599627370496*K):=QG 4503599627370496 (by decide)
theorem AgQ:BZ 14064741636278059008=some (-4503599627370496*K):=by
 have h:=QG (-4503599627370496) (by decide)
 rw [show Ieee.double.write (.number (decide ((-4503599627370496:Int)<0)) (-4503599627370496:Int).natAbs 0)=14064741636278059008 by decide +kernel] at h
 exact h
theorem AfC:BZ 4719772409484279808=some (33554432*K):=QG 33554432 (by decide)
theorem Awh:BZ 13943144446339055616=some (-33554432*K):=by
 have h:=QG (-33554432) (by decide)
 rw [show Ieee.double.write (.number (decide ((-33554432:Int)<0)) (-33554432:Int).natAbs 0)=13943144446339055616 by decide +kernel] at h
 exact h
set_option maxHeartbeats 400000 in
theorem OM (a b:Nat)(w:World):Calls Tryz.prog 382 #[.complex .f64 a b] w fun e w'=>e=.returned (.bool (okB a 4503599627370496&&okB b 4503599627370496))∧Below w.heap.size w w':=by
 have H:=Lib.hid (AaR a b 4841369599423283200 4503599627370496 w Art AgQ (by omega))
 go_enter Tryz.func382,Tryz.ntmps382
 go_wp2_with (go_at_call 293;refine H.out.mono ?_;rintro e w1 ⟨rfl,hb1⟩)
 go_ret
 exact ⟨rfl,hb1⟩
set_option maxHeartbeats 400000 in
theorem AvC (a b:Nat)(w:World):Calls Tryz.prog 201 #[.complex .f64 a b] w fun e w'=>e=.returned (.bool (okB a 33554432&&okB b 33554432))∧Below w.heap.size w w':=by
 have H:=Lib.hid (AaR a b 4719772409484279808 33554432 w AfC Awh (by omega))
 go_enter Tryz.func201,Tryz.ntmps201
 go_wp2_with (go_at_call 293;refine H.out.mono ?_;rintro e w1 ⟨rfl,hb1⟩)
 go_ret
 exact ⟨rfl,hb1⟩
def EC (x:Nat)(n M:Int):Prop:=KR x=some n∧-M≤n∧n≤M
theorem U2 {x:Nat}{M:Int}:okB x M=true↔∃n,EC x n M:=by
 unfold okB EC
 cases h:KR x with
 |none=>simp
 |some n=>simp
theorem EC.ok {x:Nat}{n M:Int}(h:EC x n M):okB x M=true:=U2.2 ⟨n,h⟩
theorem EC.unit {x:Nat}{n M:Int}(h:EC x n M):BZ x=some (n*K):=(OA.1 h.1).1
theorem EC.bound {x:Nat}{n M:Int}(h:EC x n M) : -4503599627370496≤n∧n≤4503599627370496:=(OA.1 h.1).2
theorem EC.toInt {x:Nat}{n M:Int}(h:EC x n M):floatToIntVal .f64 x .i64=some n:=by
 have hb:=h.bound
 have ht:(FloatKind.f64.decode x).toInt .zero=some n:=by
  have:=Aoi h.unit
  rw [VH] at this
  exact this
 unfold floatToIntVal
 rw [ht]
 simp only
 rw [if_pos]
 show -9223372036854775808≤n∧n≤9223372036854775807
 omega
theorem Y6 (n:Int){M:Int}(h0 : -M≤n)(h1:n≤M)(hM:M≤4503599627370496):EC (floatOfInt .f64 n) n M:=⟨Aq9 n (by omega) (by omega),h0,h1⟩
theorem Adq:EC 0 0 0:=⟨OA.2 ⟨(Acf false).trans (by simp),by omega,by omega⟩,by omega,by omega⟩
theorem AmI (a b:Nat)(M:Int):(∃n m,EC a n M∧EC b m M)∨(okB a M&&okB b M)=false:=by
 cases ha:okB a M with
 |false=>exact .inr rfl
 |true=>
  cases hb:okB b M with
  |false=>exact .inr rfl
  |true=>
   obtain ⟨n,hn⟩:=U2.1 ha
   obtain ⟨m,hm⟩:=U2.1 hb
   exact .inl ⟨n,m,hn,hm⟩
theorem both_ok {a b:Nat}{n m M:Int}(ha:EC a n M)(hb:EC b m M):(okB a M&&okB b M)=true:=by rw [ha.ok,hb.ok];rfl
set_option maxHeartbeats 400000 in
theorem Vr {a b:Nat}{n m:Int}(ha:EC a n 4503599627370496)(hb:EC b m 4503599627370496)(w:World) :
 Calls Tryz.prog 312 #[.complex .f64 a b] w fun e w'=>e=.returned (.tuple #[.int .i64 n,.int .i64 m,.int .i64 0])∧Below w.heap.size w w':=by
 have H:=Lib.hid (OM a b w)
 rw [both_ok ha hb] at H
 have c1:=fun w=>run_convert_float_int (P:=Tryz.prog) w 384 2 .f64 .i64 a n (by kernel_rfl) Tryz.underlying2 ha.toInt
 have c2:=fun w=>run_convert_float_int (P:=Tryz.prog) w 384 2 .f64 .i64 b m (by kernel_rfl) Tryz.underlying2 hb.toInt
 clear ha hb
 go_enter Tryz.func312,Tryz.ntmps312
 go_wp2_with (go_at_call 382;refine H.out.mono ?_;rintro e w1 ⟨rfl,hb1⟩)
 go_ret3
 exact ⟨rfl,hb1⟩
set_option maxHeartbeats 400000 in
theorem AlY {a b:Nat}(h:(okB a 4503599627370496&&okB b 4503599627370496)=false)(w:World) :
 Calls Tryz.prog 312 #[.complex .f64 a b] w fun e w'=>e=.returned (.tuple #[.int .i64 0,.int .i64 0,.int .i64 5])∧Below w.heap.size w w':=by
 have H:=Lib.hid (OM a b w)
 rw [h] at H
 clear h
 go_enter Tryz.func312,Tryz.ntmps312
 go_wp2_with (go_at_call 382;refine H.out.mono ?_;rintro e w1 ⟨rfl,hb1⟩)
 go_ret3
 exact ⟨rfl,hb1⟩
def Ls (n:Int):Bool:=decide (-4503599627370496≤n∧n≤4503599627370496)
theorem fits_any (n:Int)(w:World):Calls Tryz.prog 292 #[.int .i64 n] w fun e w'=>e=.returned (.bool (Ls n))∧w=w':=by
 by_cases h1 : -4503599627370496≤n
 ·by_cases h2:n≤4503599627370496
  ·have HV:=Lib.hid (show Ls n=true from decide_eq_true ⟨h1,h2⟩)
   go_enter Tryz.func292,Tryz.ntmps292
   go_wp2
   go_ret
   exact ⟨FM (by rw [HV.out]),rfl⟩
  ·have HV:=Lib.hid (show Ls n=false from decide_eq_false fun h=>h2 h.2)
   go_enter Tryz.func292,Tryz.ntmps292
   go_wp2
   go_ret
   exact ⟨FM (by rw [HV.out]),rfl⟩
 ·have HV:=Lib.hid (show Ls n=false from decide_eq_false fun h=>h1 h.1)
  go_enter Tryz.func292,Tryz.ntmps292
  go_wp2
  go_ret
  exact ⟨FM (by rw [HV.out]),rfl⟩
set_option maxHeartbeats 400000 in
theorem Ae5 {n m:Int}(h1 : -4503599627370496≤n)(h2:n≤4503599627370496)(h3 : -4503599627370496≤m)(h4:m≤4503599627370496)(w:World) :
 Calls Tryz.prog 200 #[.int .i64 n,.int .i64 m] w fun e w'=>e=.returned (.tuple #[.complex .f64 (floatOfInt .f64 n) (floatOfInt .f64 m),.int .i64 0])∧w=w':=by
 have F1:=Lib.hid (fits_any n w)
 have F2:=Lib.hid (fits_any m w)
 rw [show Ls n=true from decide_eq_true ⟨h1,h2⟩] at F1
 rw [show Ls m=true from decide_eq_true ⟨h3,h4⟩] at F2
 go_enter Tryz.func200,Tryz.ntmps200
 go_wp2_with fail
 refine F1.out.mono ?_
 rintro e w1 ⟨rfl,rfl⟩
 go_wp2_with fail
 refine F2.out.mono ?_
 rintro e w1 ⟨rfl,rfl⟩
 go_wp2_with fail
 go_ret2
 exact ⟨rfl,rfl⟩
set_option maxHeartbeats 400000 in
theorem Am0 {n m:Int}(h:¬(-4503599627370496≤n∧n≤4503599627370496∧-4503599627370496≤m∧m≤4503599627370496))(w:World) :
 Calls Tryz.prog 200 #[.int .i64 n,.int .i64 m] w fun e w'=>e=.returned (.tuple #[.complex .f64 0 0,.int .i64 3])∧w=w':=by
 have F1:=Lib.hid (fits_any n w)
 have F2:=Lib.hid (fits_any m w)
 by_cases hn : -4503599627370496≤n∧n≤4503599627370496
 ·have hm:¬(-4503599627370496≤m∧m≤4503599627370496):=fun hm=>h ⟨hn.1,hn.2,hm⟩
  rw [show Ls n=true from decide_eq_true hn] at F1
  rw [show Ls m=false from decide_eq_false hm] at F2
  clear h hn hm
  go_enter Tryz.func200,Tryz.ntmps200
  go_wp2_with fail
  refine F1.out.mono ?_
  rintro e w1 ⟨rfl,rfl⟩
  go_wp2_with fail
  refine F2.out.mono ?_
  rintro e w1 ⟨rfl,rfl⟩
  go_wp2_with fail
  go_ret2
  exact ⟨rfl,rfl⟩
 ·rw [show Ls n=false from decide_eq_false hn] at F1
  clear h hn
  go_enter Tryz.func200,Tryz.ntmps200
  go_wp2_with fail
  refine F1.out.mono ?_
  rintro e w1 ⟨rfl,rfl⟩
  go_wp2_with fail
  go_ret2
  exact ⟨rfl,rfl⟩
end Go.Proofs.YtdfbohaohjaloaaGreatDoor
end
section
namespace Go.Proofs.YtdfbohaohjaloaaGreatDoor
open Go.RowKit Punnet.Flt
def ofR (n m:Int):Nat×Nat×Int:=if -4503599627370496≤n∧n≤4503599627370496∧-4503599627370496≤m∧m≤4503599627370496 then (floatOfInt .f64 n,floatOfInt .f64 m,0) else (0,0,3)
theorem Acd (n m:Int)(w:World):Calls Tryz.prog 200 #[.int .i64 n,.int .i64 m] w fun e w'=>e=.returned (.tuple #[.complex .f64 (ofR n m).1 (ofR n m).2.1,.int .i64 (ofR n m).2.2])∧w=w':=by
 unfold ofR
 by_cases h : -4503599627370496≤n∧n≤4503599627370496∧-4503599627370496≤m∧m≤4503599627370496
 ·rw [if_pos h];exact Ae5 h.1 h.2.1 h.2.2.1 h.2.2.2 w
 ·rw [if_neg h];exact Am0 h w
set_option maxHeartbeats 400000 in
theorem AfN {a b c d:Nat}{n m n' m':Int}(ha:EC a n 4503599627370496)(hb:EC b m 4503599627370496)(hc:EC c n' 4503599627370496)(hd:EC d m' 4503599627370496)(w:World) :
 Calls Tryz.prog 405 #[.complex .f64 a b,.complex .f64 c d] w fun e w'=>e=.returned (.tuple #[.complex .f64 (ofR (n+n') (m+m')).1 (ofR (n+n') (m+m')).2.1,.int .i64 (ofR (n+n') (m+m')).2.2])∧Below w.heap.size w w':=by
 have S1:=Lib.hid (OM a b)
 have S2:=Lib.hid (OM c d)
 rw [both_ok ha hb] at S1
 rw [both_ok hc hd] at S2
 have P1:=Lib.hid (Vr ha hb)
 have P2:=Lib.hid (Vr hc hd)
 obtain ⟨b1,b2⟩:=ha.bound
 obtain ⟨b3,b4⟩:=hb.bound
 obtain ⟨b5,b6⟩:=hc.bound
 obtain ⟨b7,b8⟩:=hd.bound
 have O:=Lib.hid (Acd (n+n') (m+m'))
 generalize ofR (n+n') (m+m')=R at *
 clear ha hb hc hd
 go_enter Tryz.func405,Tryz.ntmps405
 go_wp2_with fail
 refine (S1.out _).mono ?_
 rintro e w1 ⟨rfl,hb1⟩
 go_wp2_with fail
 refine (S2.out _).mono ?_
 rintro e w2 ⟨rfl,hb2⟩
 go_wp2_with fail
 refine (P1.out _).mono ?_
 rintro e w3 ⟨rfl,hb3⟩
 go_wp2_with fail
 refine (P2.out _).mono ?_
 rintro e w4 ⟨rfl,hb4⟩
 go_wp2_with fail
 refine (O.out _).mono ?_
 rintro e w5 ⟨rfl,rfl⟩
 go_wp2_with fail
 go_ret2
 exact ⟨rfl,by repeat (first|exact Below.refl _ _|assumption|refine Ti ?_ (by assumption))⟩
set_option maxHeartbeats 400000 in
theorem Ab4 {a b c d:Nat}(h:(okB a 4503599627370496&&okB b 4503599627370496&&(okB c 4503599627370496&&okB d 4503599627370496))=false)(w:World) :
 Calls Tryz.prog 405 #[.complex .f64 a b,.complex .f64 c d] w fun e w'=>e=.returned (.tuple #[.complex .f64 0 0,.int .i64 5])∧Below w.heap.size w w':=by
 have S1:=Lib.hid (OM a b)
 have S2:=Lib.hid (OM c d)
 cases h1:(okB a 4503599627370496&&okB b 4503599627370496) with
 |false=>
  rw [h1] at S1
  clear h h1
  go_enter Tryz.func405,Tryz.ntmps405
  go_wp2_with fail
  refine (S1.out _).mono ?_
  rintro e w1 ⟨rfl,hb1⟩
  go_wp2_with fail
  go_ret2
  exact ⟨rfl,hb1⟩
 |true=>
  rw [h1,Bool.true_and] at h
  rw [h1] at S1
  rw [h] at S2
  clear h h1
  go_enter Tryz.func405,Tryz.ntmps405
  go_wp2_with fail
  refine (S1.out _).mono ?_
  rintro e w1 ⟨rfl,hb1⟩
  go_wp2_with fail
  refine (S2.out _).mono ?_
  rintro e w2 ⟨rfl,hb2⟩
  go_wp2_with fail
  go_ret2
  exact ⟨rfl,Ti hb1 hb2⟩
end Go.Proofs.YtdfbohaohjaloaaGreatDoor
end
section
namespace Go.Proofs.YtdfbohaohjaloaaGreatDoor
open Go.RowKit Punnet.Flt
end Go.Proofs.YtdfbohaohjaloaaGreatDoor
end
section
namespace Go.Vm
open Go.RowKit Punnet.Flt Go.Proofs Go.Proofs.YtdfbohaohjaloaaGreatDoor
def cOf (n m:Int):Nat×Nat:=((ofR n m).1,(ofR n m).2.1)
def okN (n:Int):Prop:=-4503599627370496≤n∧n≤4503599627370496
def IsC (x:Nat×Nat)(n m:Int):Prop:=EC x.1 n 4503599627370496∧EC x.2 m 4503599627370496
theorem Ajx {n m:Int}(hn:okN n)(hm:okN m):IsC (cOf n m) n m:=by
 unfold cOf ofR
 rw [if_pos ⟨hn.1,hn.2,hm.1,hm.2⟩]
 exact ⟨Y6 n hn.1 hn.2 (by omega),Y6 m hm.1 hm.2 (by omega)⟩
theorem Acb:IsC (0,0) 0 0:=⟨⟨Adq.1,by decide,by decide⟩,⟨Adq.1,by decide,by decide⟩⟩
theorem Av5 {x:Nat×Nat}{n m n' m':Int}(h:IsC x n m)(k:IsC x n' m'):n=n'∧m=m':=by
 have a:=h.1.1;have b:=k.1.1;have c:=h.2.1;have d:=k.2.1
 rw [a] at b;rw [c] at d
 injection b with b;injection d with d
 exact ⟨b,d⟩
noncomputable def J4 (x:Nat×Nat):Int×Int×Int:=open Classical in if h:∃n m,IsC x n m then (h.choose,h.choose_spec.choose,0) else (0,0,5)
noncomputable def LY (x y:Nat×Nat):Nat×Nat×Int:=ofR' (J4 x) (J4 y)
where ofR' (a b:Int×Int×Int):Nat×Nat×Int:=if a.2.2=0∧b.2.2=0 then ofR (a.1+b.1) (a.2.1+b.2.1) else (0,0,5)
theorem Nz {x:Nat×Nat}{n m:Int}(h:IsC x n m):J4 x=(n,m,0):=by
 unfold J4
 have hh:∃n m,IsC x n m:=⟨n,m,h⟩
 rw [dif_pos hh]
 obtain ⟨a,b⟩:=Av5 hh.choose_spec.choose_spec h
 rw [b]
 simp only [a]
theorem V3 {x:Nat×Nat}(h:¬∃n m,IsC x n m):J4 x=(0,0,5):=by unfold J4;rw [dif_neg h]
theorem Vd (x:Nat×Nat):(∃n m,IsC x n m)∨(okB x.1 4503599627370496&&okB x.2 4503599627370496)=false:=by
 rcases AmI x.1 x.2 4503599627370496 with ⟨n,m,hn,hm⟩|h
 ·exact .inl ⟨n,m,hn,hm⟩
 ·exact .inr h
theorem Xe {x:Nat×Nat}(h:(okB x.1 4503599627370496&&okB x.2 4503599627370496)=false):¬∃n m,IsC x n m:=by
 rintro ⟨n,m,hn,hm⟩
 rw [both_ok hn hm] at h;cases h
theorem Ach (n m:Int):AP Tryz.prog 200 [.sc (.int .i64 n),.sc (.int .i64 m)] [.d (.sc (.complex .f64 (cOf n m).1 (cOf n m).2)),.d (.sc (.int .i64 (ofR n m).2.2))]:=
 La (us:=[.int .i64 n,.int .i64 m]) (rs:=[]) (by simp [BN]) fun w=>(Acd n m w).mono fun e w' h=>⟨h.1,by rw [h.2];exact Below.refl _ _⟩
theorem Y8 (x:Nat×Nat):AP Tryz.prog 312 [.sc (.complex .f64 x.1 x.2)] [.d (.sc (.int .i64 (J4 x).1)),.d (.sc (.int .i64 (J4 x).2.1)),.d (.sc (.int .i64 (J4 x).2.2))]:=by
 refine La (us:=[.complex .f64 x.1 x.2]) (rs:=[.int .i64 (J4 x).2.2]) (by simp [BN]) fun w=>?_
 rcases Vd x with ⟨n,m,h⟩|h
 ·rw [Nz h];exact Vr h.1 h.2 w
 ·rw [V3 (Xe h)];exact AlY h w
theorem AiT (x y:Nat×Nat):AP Tryz.prog 405 [.sc (.complex .f64 x.1 x.2),.sc (.complex .f64 y.1 y.2)] [.d (.sc (.complex .f64 (LY x y).1 (LY x y).2.1)),.d (.sc (.int .i64 (LY x y).2.2))]:=by
 refine La (us:=[.complex .f64 x.1 x.2,.complex .f64 y.1 y.2]) (rs:=[]) (by simp [BN]) fun w=>?_
 unfold LY LY.ofR'
 rcases Vd x with ⟨n,m,h⟩|h
 ·rcases Vd y with ⟨n',m',k⟩|k
  ·rw [Nz h,Nz k,if_pos ⟨rfl,rfl⟩];exact AfN h.1 h.2 k.1 k.2 w
  ·rw [V3 (Xe k),if_neg (by simp)];exact Ab4 (by rw [k,Bool.and_false]) w
 ·rw [V3 (Xe h),if_neg (by simp)];exact Ab4 (by rw [h];rfl) w
end Go.Vm
end
section
namespace Go.Vm
open Go.RowKit Go.Proofs Go.Proofs.YtdfbohaohjaloaaGreatDoor Punnet.Name Punnet.Num Punnet.Flt
set_option maxRecDepth 1000000
theorem Abi:AP Go.Proofs.Tryz.prog 23 [.sc (.string ⟨#[57,48,48,48]⟩)] [.d (.sc (.int .i64 9000)),.d (.sc (.int .i64 0))]:=by
 have h:=MF ⟨#[57,48,48,48]⟩ (by decide)
 rw [show AU (⟨#[57,48,48,48]⟩:ByteArray)=(9000,0) from by kernel_rfl] at h
 exact h
theorem AbC:AP Go.Proofs.Tryz.prog 23 [.sc (.string ⟨#[50]⟩)] [.d (.sc (.int .i64 2)),.d (.sc (.int .i64 0))]:=by
 have h:=MF ⟨#[50]⟩ (by decide)
 rw [show AU (⟨#[50]⟩:ByteArray)=(2,0) from by kernel_rfl] at h
 exact h
theorem Ad8:AP Go.Proofs.Tryz.prog 23 [.sc (.string ⟨#[48]⟩)] [.d (.sc (.int .i64 0)),.d (.sc (.int .i64 0))]:=by
 have h:=MF ⟨#[48]⟩ (by decide)
 rw [show AU (⟨#[48]⟩:ByteArray)=(0,0) from by kernel_rfl] at h
 exact h
theorem AdX:AP Go.Proofs.Tryz.prog 23 [.sc (.string ⟨#[49]⟩)] [.d (.sc (.int .i64 1)),.d (.sc (.int .i64 0))]:=by
 have h:=MF ⟨#[49]⟩ (by decide)
 rw [show AU (⟨#[49]⟩:ByteArray)=(1,0) from by kernel_rfl] at h
 exact h
theorem Abh:AP Go.Proofs.Tryz.prog 23 [.sc (.string ⟨#[51]⟩)] [.d (.sc (.int .i64 3)),.d (.sc (.int .i64 0))]:=by
 have h:=MF ⟨#[51]⟩ (by decide)
 rw [show AU (⟨#[51]⟩:ByteArray)=(3,0) from by kernel_rfl] at h
 exact h
theorem ZP:AP Go.Proofs.Tryz.prog 24 [.sc (.int .i64 0)] [.d (.sc (.string ⟨#[48]⟩))]:=by
 have h:=FB 0 (by decide)
 rw [show DY 0=⟨#[48]⟩ from by kernel_rfl] at h
 exact h
theorem ZW:AP Go.Proofs.Tryz.prog 24 [.sc (.int .i64 1)] [.d (.sc (.string ⟨#[49]⟩))]:=by
 have h:=FB 1 (by decide)
 rw [show DY 1=⟨#[49]⟩ from by kernel_rfl] at h
 exact h
theorem Ac4:AP Go.Proofs.Tryz.prog 24 [.sc (.int .i64 2)] [.d (.sc (.string ⟨#[50]⟩))]:=by
 have h:=FB 2 (by decide)
 rw [show DY 2=⟨#[50]⟩ from by kernel_rfl] at h
 exact h
theorem AdO:AP Go.Proofs.Tryz.prog 24 [.sc (.int .i64 3)] [.d (.sc (.string ⟨#[51]⟩))]:=by
 have h:=FB 3 (by decide)
 rw [show DY 3=⟨#[51]⟩ from by kernel_rfl] at h
 exact h
theorem Zm:AP Go.Proofs.Tryz.prog 141 [.sc (.string ⟨#[108,105,110,101,46,113,116,121]⟩)] [.d (.agg [.sc (.int .i64 1),.sc (.string ⟨#[]⟩),.sc (.string ⟨#[113,116,121]⟩)]),.d (.sc (.int .i64 0))]:=by
 have h:=Z8 ⟨#[108,105,110,101,46,113,116,121]⟩ (by decide)
 rw [Jv (r:=(⟨1,⟨#[]⟩,⟨#[113,116,121]⟩⟩:Bv)) (by kernel_rfl) (s:=⟨#[108,105,110,101,46,113,116,121]⟩) (by kernel_rfl)] at h
 exact h
theorem ZY:AP Go.Proofs.Tryz.prog 134 [.agg [.sc (.int .i64 0),.sc (.string ⟨#[]⟩),.sc (.string ⟨#[99,111,117,112,111,110]⟩)]] [.d (.sc (.string ⟨#[104,101,97,100,46,99,111,117,112,111,110]⟩))]:=by
 have h:=Ci (⟨0,⟨#[]⟩,⟨#[99,111,117,112,111,110]⟩⟩:Bv)
 rw [show (if Bz (⟨0,⟨#[]⟩,⟨#[99,111,117,112,111,110]⟩⟩:Bv)=true then BF (⟨0,⟨#[]⟩,⟨#[99,111,117,112,111,110]⟩⟩:Bv) else ⟨#[63]⟩)=(⟨#[104,101,97,100,46,99,111,117,112,111,110]⟩:ByteArray) from by kernel_rfl] at h
 exact h
theorem Aco:AP Go.Proofs.Tryz.prog 134 [.agg [.sc (.int .i64 1),.sc (.string ⟨#[]⟩),.sc (.string ⟨#[110,111,116,101]⟩)]] [.d (.sc (.string ⟨#[108,105,110,101,46,110,111,116,101]⟩))]:=by
 have h:=Ci (⟨1,⟨#[]⟩,⟨#[110,111,116,101]⟩⟩:Bv)
 rw [show (if Bz (⟨1,⟨#[]⟩,⟨#[110,111,116,101]⟩⟩:Bv)=true then BF (⟨1,⟨#[]⟩,⟨#[110,111,116,101]⟩⟩:Bv) else ⟨#[63]⟩)=(⟨#[108,105,110,101,46,110,111,116,101]⟩:ByteArray) from by kernel_rfl] at h
 exact h
theorem Aao:AP Go.Proofs.Tryz.prog 134 [.agg [.sc (.int .i64 1),.sc (.string ⟨#[]⟩),.sc (.string ⟨#[113,116,121]⟩)]] [.d (.sc (.string ⟨#[108,105,110,101,46,113,116,121]⟩))]:=by
 have h:=Ci (⟨1,⟨#[]⟩,⟨#[113,116,121]⟩⟩:Bv)
 rw [show (if Bz (⟨1,⟨#[]⟩,⟨#[113,116,121]⟩⟩:Bv)=true then BF (⟨1,⟨#[]⟩,⟨#[113,116,121]⟩⟩:Bv) else ⟨#[63]⟩)=(⟨#[108,105,110,101,46,113,116,121]⟩:ByteArray) from by kernel_rfl] at h
 exact h
theorem YZ:AP Go.Proofs.Tryz.prog 134 [.agg [.sc (.int .i64 1),.sc (.string ⟨#[]⟩),.sc (.string ⟨#[115,105,122,101]⟩)]] [.d (.sc (.string ⟨#[108,105,110,101,46,115,105,122,101]⟩))]:=by
 have h:=Ci (⟨1,⟨#[]⟩,⟨#[115,105,122,101]⟩⟩:Bv)
 rw [show (if Bz (⟨1,⟨#[]⟩,⟨#[115,105,122,101]⟩⟩:Bv)=true then BF (⟨1,⟨#[]⟩,⟨#[115,105,122,101]⟩⟩:Bv) else ⟨#[63]⟩)=(⟨#[108,105,110,101,46,115,105,122,101]⟩:ByteArray) from by kernel_rfl] at h
 exact h
theorem Aat:AP Go.Proofs.Tryz.prog 134 [.agg [.sc (.int .i64 1),.sc (.string ⟨#[]⟩),.sc (.string ⟨#[116,97,103,115]⟩)]] [.d (.sc (.string ⟨#[108,105,110,101,46,116,97,103,115]⟩))]:=by
 have h:=Ci (⟨1,⟨#[]⟩,⟨#[116,97,103,115]⟩⟩:Bv)
 rw [show (if Bz (⟨1,⟨#[]⟩,⟨#[116,97,103,115]⟩⟩:Bv)=true then BF (⟨1,⟨#[]⟩,⟨#[116,97,103,115]⟩⟩:Bv) else ⟨#[63]⟩)=(⟨#[108,105,110,101,46,116,97,103,115]⟩:ByteArray) from by kernel_rfl] at h
 exact h
theorem c3:cOf 3 0=(4613937818241073152,0):=by kernel_rfl
theorem Zg:IsC (4613937818241073152,0) 3 0:=by have:=Ajx (n:=3) (m:=0) (by unfold okN;decide) (by unfold okN;decide);rwa [c3] at this
theorem Adk:AP Go.Proofs.Tryz.prog 200 [.sc (.int .i64 0),.sc (.int .i64 0)] [.d (.sc (.complex .f64 0 0)),.d (.sc (.int .i64 0))]:=by
 have h:=Ach 0 0
 rw [show cOf 0 0=(0,0) from by kernel_rfl] at h
 rw [show (ofR 0 0).2.2=0 from by kernel_rfl] at h
 exact h
theorem YK:AP Go.Proofs.Tryz.prog 312 [.sc (.complex .f64 0 0)] [.d (.sc (.int .i64 0)),.d (.sc (.int .i64 0)),.d (.sc (.int .i64 0))]:=by
 have h:=Y8 (0,0)
 rw [Nz Acb] at h
 exact h
theorem Acw:AP Go.Proofs.Tryz.prog 200 [.sc (.int .i64 3),.sc (.int .i64 0)] [.d (.sc (.complex .f64 4613937818241073152 0)),.d (.sc (.int .i64 0))]:=by
 have h:=Ach 3 0
 rw [show cOf 3 0=(4613937818241073152,0) from by kernel_rfl] at h
 rw [show (ofR 3 0).2.2=0 from by kernel_rfl] at h
 exact h
theorem Aa2:AP Go.Proofs.Tryz.prog 312 [.sc (.complex .f64 4613937818241073152 0)] [.d (.sc (.int .i64 3)),.d (.sc (.int .i64 0)),.d (.sc (.int .i64 0))]:=by
 have h:=Y8 (4613937818241073152,0)
 rw [Nz Zg] at h
 exact h
theorem Aa4:AP Go.Proofs.Tryz.prog 405 [.sc (.complex .f64 0 0),.sc (.complex .f64 4613937818241073152 0)] [.d (.sc (.complex .f64 4613937818241073152 0)),.d (.sc (.int .i64 0))]:=by
 have h:=AiT (0,0) (4613937818241073152,0)
 rw [show LY (0,0) (4613937818241073152,0)=(4613937818241073152,0,0) from by unfold LY LY.ofR';rw [Nz Acb,Nz Zg];kernel_rfl] at h
 exact h
theorem Aay:AP Go.Proofs.Tryz.prog 201 [.sc (.complex .f64 0 0)] [.d (.sc (.bool true))]:=by
 have h:=Yf (us:=[.complex .f64 0 0]) (r:=.bool true) rfl (fun w=>(AvC 0 0 w).mono (by rintro e w1 ⟨rfl,hb⟩;exact ⟨by rw [show (okB 0 33554432&&okB 0 33554432)=true from by kernel_rfl],hb⟩))
 exact h
end Go.Vm
namespace Go.Rn
open Go.RowKit
open Go.Vm (enters D C Abi AbC Ad8 AdX Abh ZP ZW Ac4 AdO Zm ZY Aco Aao YZ Aat Adk YK Acw Aa2 Aa4 Aay)
theorem AlI [Cx](h:Hp)(n:Nat):Dx Go.Proofs.Tryz.prog 23 [.sc (.string ⟨#[57,48,48,48]⟩)] h n (.tup [.sc (.int .i64 9000),.sc (.int .i64 0)]) h n:=Fq (ds:=[.sc (.string ⟨#[57,48,48,48]⟩)]) (cs:=[.d (.sc (.int .i64 9000)),.d (.sc (.int .i64 0))]) (by kernel_rfl) (by kernel_rfl) Abi h n
theorem Amj [Cx](h:Hp)(n:Nat):Dx Go.Proofs.Tryz.prog 23 [.sc (.string ⟨#[50]⟩)] h n (.tup [.sc (.int .i64 2),.sc (.int .i64 0)]) h n:=Fq (ds:=[.sc (.string ⟨#[50]⟩)]) (cs:=[.d (.sc (.int .i64 2)),.d (.sc (.int .i64 0))]) (by kernel_rfl) (by kernel_rfl) AbC h n
theorem Ajg [Cx](h:Hp)(n:Nat):Dx Go.Proofs.Tryz.prog 23 [.sc (.string ⟨#[48]⟩)] h n (.tup [.sc (.int .i64 0),.sc (.int .i64 0)]) h n:=Fq (ds:=[.sc (.string ⟨#[48]⟩)]) (cs:=[.d (.sc (.int .i64 0)),.d (.sc (.int .i64 0))]) (by kernel_rfl) (by kernel_rfl) Ad8 h n
theorem Aid [Cx](h:Hp)(n:Nat):Dx Go.Proofs.Tryz.prog 23 [.sc (.string ⟨#[49]⟩)] h n (.tup [.sc (.int .i64 1),.sc (.int .i64 0)]) h n:=Fq (ds:=[.sc (.string ⟨#[49]⟩)]) (cs:=[.d (.sc (.int .i64 1)),.d (.sc (.int .i64 0))]) (by kernel_rfl) (by kernel_rfl) AdX h n
theorem Aha [Cx](h:Hp)(n:Nat):Dx Go.Proofs.Tryz.prog 23 [.sc (.string ⟨#[51]⟩)] h n (.tup [.sc (.int .i64 3),.sc (.int .i64 0)]) h n:=Fq (ds:=[.sc (.string ⟨#[51]⟩)]) (cs:=[.d (.sc (.int .i64 3)),.d (.sc (.int .i64 0))]) (by kernel_rfl) (by kernel_rfl) Abh h n
theorem AoL [Cx](h:Hp)(n:Nat):Dx Go.Proofs.Tryz.prog 24 [.sc (.int .i64 0)] h n (.sc (.string ⟨#[48]⟩)) h n:=Fq (ds:=[.sc (.int .i64 0)]) (cs:=[.d (.sc (.string ⟨#[48]⟩))]) (by kernel_rfl) (by kernel_rfl) ZP h n
theorem Ali [Cx](h:Hp)(n:Nat):Dx Go.Proofs.Tryz.prog 24 [.sc (.int .i64 1)] h n (.sc (.string ⟨#[49]⟩)) h n:=Fq (ds:=[.sc (.int .i64 1)]) (cs:=[.d (.sc (.string ⟨#[49]⟩))]) (by kernel_rfl) (by kernel_rfl) ZW h n
theorem Aoh [Cx](h:Hp)(n:Nat):Dx Go.Proofs.Tryz.prog 24 [.sc (.int .i64 2)] h n (.sc (.string ⟨#[50]⟩)) h n:=Fq (ds:=[.sc (.int .i64 2)]) (cs:=[.d (.sc (.string ⟨#[50]⟩))]) (by kernel_rfl) (by kernel_rfl) Ac4 h n
theorem ApQ [Cx](h:Hp)(n:Nat):Dx Go.Proofs.Tryz.prog 24 [.sc (.int .i64 3)] h n (.sc (.string ⟨#[51]⟩)) h n:=Fq (ds:=[.sc (.int .i64 3)]) (cs:=[.d (.sc (.string ⟨#[51]⟩))]) (by kernel_rfl) (by kernel_rfl) AdO h n
theorem Aml [Cx](h:Hp)(n:Nat):Dx Go.Proofs.Tryz.prog 141 [.sc (.string ⟨#[108,105,110,101,46,113,116,121]⟩)] h n (.tup [.agg [.sc (.int .i64 1),.sc (.string ⟨#[]⟩),.sc (.string ⟨#[113,116,121]⟩)],.sc (.int .i64 0)]) h n:=Fq (ds:=[.sc (.string ⟨#[108,105,110,101,46,113,116,121]⟩)]) (cs:=[.d (.agg [.sc (.int .i64 1),.sc (.string ⟨#[]⟩),.sc (.string ⟨#[113,116,121]⟩)]),.d (.sc (.int .i64 0))]) (by kernel_rfl) (by kernel_rfl) Zm h n
theorem AgY [Cx](h:Hp)(n:Nat):Dx Go.Proofs.Tryz.prog 134 [.agg [.sc (.int .i64 0),.sc (.string ⟨#[]⟩),.sc (.string ⟨#[99,111,117,112,111,110]⟩)]] h n (.sc (.string ⟨#[104,101,97,100,46,99,111,117,112,111,110]⟩)) h n:=Fq (ds:=[.agg [.sc (.int .i64 0),.sc (.string ⟨#[]⟩),.sc (.string ⟨#[99,111,117,112,111,110]⟩)]]) (cs:=[.d (.sc (.string ⟨#[104,101,97,100,46,99,111,117,112,111,110]⟩))]) (by kernel_rfl) (by kernel_rfl) ZY h n
theorem AqX [Cx](h:Hp)(n:Nat):Dx Go.Proofs.Tryz.prog 134 [.agg [.sc (.int .i64 1),.sc (.string ⟨#[]⟩),.sc (.string ⟨#[110,111,116,101]⟩)]] h n (.sc (.string ⟨#[108,105,110,101,46,110,111,116,101]⟩)) h n:=Fq (ds:=[.agg [.sc (.int .i64 1),.sc (.string ⟨#[]⟩),.sc (.string ⟨#[110,111,116,101]⟩)]]) (cs:=[.d (.sc (.string ⟨#[108,105,110,101,46,110,111,116,101]⟩))]) (by kernel_rfl) (by kernel_rfl) Aco h n
theorem Al9 [Cx](h:Hp)(n:Nat):Dx Go.Proofs.Tryz.prog 134 [.agg [.sc (.int .i64 1),.sc (.string ⟨#[]⟩),.sc (.string ⟨#[113,116,121]⟩)]] h n (.sc (.string ⟨#[108,105,110,101,46,113,116,121]⟩)) h n:=Fq (ds:=[.agg [.sc (.int .i64 1),.sc (.string ⟨#[]⟩),.sc (.string ⟨#[113,116,121]⟩)]]) (cs:=[.d (.sc (.string ⟨#[108,105,110,101,46,113,116,121]⟩))]) (by kernel_rfl) (by kernel_rfl) Aao h n
theorem Avu [Cx](h:Hp)(n:Nat):Dx Go.Proofs.Tryz.prog 134 [.agg [.sc (.int .i64 1),.sc (.string ⟨#[]⟩),.sc (.string ⟨#[115,105,122,101]⟩)]] h n (.sc (.string ⟨#[108,105,110,101,46,115,105,122,101]⟩)) h n:=Fq (ds:=[.agg [.sc (.int .i64 1),.sc (.string ⟨#[]⟩),.sc (.string ⟨#[115,105,122,101]⟩)]]) (cs:=[.d (.sc (.string ⟨#[108,105,110,101,46,115,105,122,101]⟩))]) (by kernel_rfl) (by kernel_rfl) YZ h n
theorem AgN [Cx](h:Hp)(n:Nat):Dx Go.Proofs.Tryz.prog 134 [.agg [.sc (.int .i64 1),.sc (.string ⟨#[]⟩),.sc (.string ⟨#[116,97,103,115]⟩)]] h n (.sc (.string ⟨#[108,105,110,101,46,116,97,103,115]⟩)) h n:=Fq (ds:=[.agg [.sc (.int .i64 1),.sc (.string ⟨#[]⟩),.sc (.string ⟨#[116,97,103,115]⟩)]]) (cs:=[.d (.sc (.string ⟨#[108,105,110,101,46,116,97,103,115]⟩))]) (by kernel_rfl) (by kernel_rfl) Aat h n
theorem AuZ [Cx](h:Hp)(n:Nat):Dx Go.Proofs.Tryz.prog 200 [.sc (.int .i64 0),.sc (.int .i64 0)] h n (.tup [.sc (.complex .f64 0 0),.sc (.int .i64 0)]) h n:=Fq (ds:=[.sc (.int .i64 0),.sc (.int .i64 0)]) (cs:=[.d (.sc (.complex .f64 0 0)),.d (.sc (.int .i64 0))]) (by kernel_rfl) (by kernel_rfl) Adk h n
theorem AvH [Cx](h:Hp)(n:Nat):Dx Go.Proofs.Tryz.prog 312 [.sc (.complex .f64 0 0)] h n (.tup [.sc (.int .i64 0),.sc (.int .i64 0),.sc (.int .i64 0)]) h n:=Fq (ds:=[.sc (.complex .f64 0 0)]) (cs:=[.d (.sc (.int .i64 0)),.d (.sc (.int .i64 0)),.d (.sc (.int .i64 0))]) (by kernel_rfl) (by kernel_rfl) YK h n
theorem Atx [Cx](h:Hp)(n:Nat):Dx Go.Proofs.Tryz.prog 200 [.sc (.int .i64 3),.sc (.int .i64 0)] h n (.tup [.sc (.complex .f64 4613937818241073152 0),.sc (.int .i64 0)]) h n:=Fq (ds:=[.sc (.int .i64 3),.sc (.int .i64 0)]) (cs:=[.d (.sc (.complex .f64 4613937818241073152 0)),.d (.sc (.int .i64 0))]) (by kernel_rfl) (by kernel_rfl) Acw h n
theorem AgF [Cx](h:Hp)(n:Nat):Dx Go.Proofs.Tryz.prog 312 [.sc (.complex .f64 4613937818241073152 0)] h n (.tup [.sc (.int .i64 3),.sc (.int .i64 0),.sc (.int .i64 0)]) h n:=Fq (ds:=[.sc (.complex .f64 4613937818241073152 0)]) (cs:=[.d (.sc (.int .i64 3)),.d (.sc (.int .i64 0)),.d (.sc (.int .i64 0))]) (by kernel_rfl) (by kernel_rfl) Aa2 h n
theorem AlX [Cx](h:Hp)(n:Nat):Dx Go.Proofs.Tryz.prog 405 [.sc (.complex .f64 0 0),.sc (.complex .f64 4613937818241073152 0)] h n (.tup [.sc (.complex .f64 4613937818241073152 0),.sc (.int .i64 0)]) h n:=Fq (ds:=[.sc (.complex .f64 0 0),.sc (.complex .f64 4613937818241073152 0)]) (cs:=[.d (.sc (.complex .f64 4613937818241073152 0)),.d (.sc (.int .i64 0))]) (by kernel_rfl) (by kernel_rfl) Aa4 h n
theorem ApX [Cx](h:Hp)(n:Nat):Dx Go.Proofs.Tryz.prog 201 [.sc (.complex .f64 0 0)] h n (.sc (.bool true)) h n:=Fq (ds:=[.sc (.complex .f64 0 0)]) (cs:=[.d (.sc (.bool true))]) (by kernel_rfl) (by kernel_rfl) Aay h n
abbrev WH:Orc:=(23,[.sc (.string ⟨#[57,48,48,48]⟩)],.tup [.sc (.int .i64 9000),.sc (.int .i64 0)])::(23,[.sc (.string ⟨#[50]⟩)],.tup [.sc (.int .i64 2),.sc (.int .i64 0)])::(23,[.sc (.string ⟨#[48]⟩)],.tup [.sc (.int .i64 0),.sc (.int .i64 0)])::(23,[.sc (.string ⟨#[49]⟩)],.tup [.sc (.int .i64 1),.sc (.int .i64 0)])::(23,[.sc (.string ⟨#[51]⟩)],.tup [.sc (.int .i64 3),.sc (.int .i64 0)])::(24,[.sc (.int .i64 0)],.sc (.string ⟨#[48]⟩))::(24,[.sc (.int .i64 1)],.sc (.string ⟨#[49]⟩))::(24,[.sc (.int .i64 2)],.sc (.string ⟨#[50]⟩))::(24,[.sc (.int .i64 3)],.sc (.string ⟨#[51]⟩))::(141,[.sc (.string ⟨#[108,105,110,101,46,113,116,121]⟩)],.tup [.agg [.sc (.int .i64 1),.sc (.string ⟨#[]⟩),.sc (.string ⟨#[113,116,121]⟩)],.sc (.int .i64 0)])::(134,[.agg [.sc (.int .i64 0),.sc (.string ⟨#[]⟩),.sc (.string ⟨#[99,111,117,112,111,110]⟩)]],.sc (.string ⟨#[104,101,97,100,46,99,111,117,112,111,110]⟩))::(134,[.agg [.sc (.int .i64 1),.sc (.string ⟨#[]⟩),.sc (.string ⟨#[110,111,116,101]⟩)]],.sc (.string ⟨#[108,105,110,101,46,110,111,116,101]⟩))::(134,[.agg [.sc (.int .i64 1),.sc (.string ⟨#[]⟩),.sc (.string ⟨#[113,116,121]⟩)]],.sc (.string ⟨#[108,105,110,101,46,113,116,121]⟩))::(134,[.agg [.sc (.int .i64 1),.sc (.string ⟨#[]⟩),.sc (.string ⟨#[115,105,122,101]⟩)]],.sc (.string ⟨#[108,105,110,101,46,115,105,122,101]⟩))::(134,[.agg [.sc (.int .i64 1),.sc (.string ⟨#[]⟩),.sc (.string ⟨#[116,97,103,115]⟩)]],.sc (.string ⟨#[108,105,110,101,46,116,97,103,115]⟩))::(200,[.sc (.int .i64 0),.sc (.int .i64 0)],.tup [.sc (.complex .f64 0 0),.sc (.int .i64 0)])::(312,[.sc (.complex .f64 0 0)],.tup [.sc (.int .i64 0),.sc (.int .i64 0),.sc (.int .i64 0)])::(200,[.sc (.int .i64 3),.sc (.int .i64 0)],.tup [.sc (.complex .f64 4613937818241073152 0),.sc (.int .i64 0)])::(312,[.sc (.complex .f64 4613937818241073152 0)],.tup [.sc (.int .i64 3),.sc (.int .i64 0),.sc (.int .i64 0)])::(405,[.sc (.complex .f64 0 0),.sc (.complex .f64 4613937818241073152 0)],.tup [.sc (.complex .f64 4613937818241073152 0),.sc (.int .i64 0)])::(201,[.sc (.complex .f64 0 0)],.sc (.bool true))::Adf
theorem AiX [Cx]:Ld Go.Proofs.Tryz.prog WH:=(EP (by kernel_rfl) AlI (EP (by kernel_rfl) Amj (EP (by kernel_rfl) Ajg (EP (by kernel_rfl) Aid (EP (by kernel_rfl) Aha (EP (by kernel_rfl) AoL (EP (by kernel_rfl) Ali (EP (by kernel_rfl) Aoh (EP (by kernel_rfl) ApQ (EP (by kernel_rfl) Aml (EP (by kernel_rfl) AgY (EP (by kernel_rfl) AqX (EP (by kernel_rfl) Al9 (EP (by kernel_rfl) Avu (EP (by kernel_rfl) AgN (EP (by kernel_rfl) AuZ (EP (by kernel_rfl) AvH (EP (by kernel_rfl) Atx (EP (by kernel_rfl) AgF (EP (by kernel_rfl) AlX (EP (by kernel_rfl) ApX AqR)))))))))))))))))))))
end Go.Rn
end
section
namespace Go.Rn
open Go.RowKit
open Go.Vm (enters)
set_option maxRecDepth 1000000
set_option maxHeartbeats 100000000 in
theorem AuC:Td (run Go.Proofs.Tryz.prog ft WH 1000000 1000 7 [] .leaf 0 (fun v _ _=>isV (.sc (.bool true)) v)):=⟨of_eq_true (by kernel_rfl)⟩
theorem Ag6:enters Go.Proofs.Tryz.prog 7=true∧∀[Cx] h n,Dx Go.Proofs.Tryz.prog 7 [] h n (.sc (.bool true)) h n:=AbY (P:=Go.Proofs.Tryz.prog) (F:=ft) (l:=WH) (f:=7) (x:=.sc (.bool true)) (u:=.bool true) AbL (fun [Cx]=>AiX) AuC rfl rfl
end Go.Rn
end
section
namespace Go.Vm
open Go.RowKit Go.Proofs
set_option maxRecDepth 10000
open Go.Proofs Go.Proofs.YtdfbohaohjaloaaGreatDoor Punnet.Name Punnet.Num
theorem Ao7:AP Tryz.prog 7 [] [.d (.sc (.bool (true)))]:=Go.Rn.Af7 Go.Rn.Ag6.2
end Go.Vm
end
section
namespace Go.Vm
open Go.RowKit Go.Proofs
set_option maxRecDepth 10000
open Go.Proofs Go.Proofs.YtdfbohaohjaloaaGreatDoor Punnet.Name Punnet.Num
set_option maxHeartbeats 16000000 in
theorem QE (s0:ByteArray) : AP Tryz.prog 148 [.sc (.string s0)] [.d (.sc (.string (Kw s0)))]:=by
 generalize h:Kw s0=r
 refine T.fn [] Tryz.func148 ?_
 unfold Kw at h
 refine Ar T.Als (Apy s0) ?_
 refine br (fun c1=>?c1y) (fun c1=>?c1n)
 case' c1y=>
  replace h:=Ac h c1
  subst h
 case' c1n=>
  replace h:=Ad h (fun k=>k c1)
  subst h
 all_goals (refine CJ ?_;simp only [Bo,fits,C.asD,and_true]<;>(first|exact rfl|trivial|exact ⟨rfl,rfl⟩|exact ⟨rfl,rfl,rfl⟩|(simp [*];done)|(simp_all;done)|(simp only [Dy] at *;simp_all;first|done|rfl)))
set_option maxHeartbeats 16000000 in
theorem OH (s0:ByteArray) : AP Tryz.prog 147 [.sc (.string s0)] [.d (.sc (.string (KG s0)))]:=by
 generalize h:KG s0=r
 refine T.fn [] Tryz.func147 ?_
 unfold KG at h
 refine br (fun c1=>?c1y) (fun c1=>?c1n)
 case' c1y=>
  replace h:=Ac h c1
  subst h
 case' c1n=>
  replace h:=Ad h c1
  subst h
 all_goals (refine CJ ?_;simp only [Bo,fits,C.asD,and_true]<;>(first|exact rfl|trivial|exact ⟨rfl,rfl⟩|exact ⟨rfl,rfl,rfl⟩|(simp [*];done)|(simp_all;done)|(simp only [Dy] at *;simp_all;first|done|rfl)))
set_option maxHeartbeats 16000000 in
theorem WB (x:AL) (r:(List ByteArray))(h:EU x=some r):AP Tryz.prog 146 [lD x] [.d (.row (List.map strD r))]:=by
 refine T.fn [4,44,1033] Tryz.func146 ?_
 unfold EU at h
 refine And.intro ⟨T.mixed,by decide +kernel⟩ ?_
 refine Y7 (r:=JV Df) ?_ rfl rfl rfl rfl
 refine Aa h fun r7 q1 h=>?_
 refine Ar T.Ux (Rx Df x.kind r7 q1) ?_
 refine Ar T.IM (Ci x.at_) ?_
 refine br (fun c1=>?c1y) (fun c1=>?c1n)
 case' c1y=>
  refine brT ?_
  replace h:=Ac h (.inl c1)
  refine Aa h fun z21 q2 h=>?_
  refine DJ (f:=strD) (bytes:=16) ?_ (CB _ fun _=>rfl) q2
  cases h
 case' c1n=>
  refine br (fun c2=>?c2y) (fun c2=>?c2n)
  case' c2y=>
   replace h:=Ac h (.inr c2)
   refine Aa h fun z21 q3 h=>?_
   refine DJ (f:=strD) (bytes:=16) ?_ (CB _ fun _=>rfl) q3
   cases h
  case' c2n=>skip
  replace h:=Ad h (fun k=>k.elim c1 c2)
  refine br (fun c3=>?c3y) (fun c3=>?c3n)
  case' c3y=>
   replace h:=Ac h c3
   refine And.intro ⟨T.mixed,by decide +kernel⟩ ?_
   refine Ce h fun g1 h=>?_
   refine Ar T.Gx (FB x.factor g1) ?_
   refine Aa h fun z33 q4 h=>?_
   refine DJ (f:=strD) (bytes:=16) ?_ (CB _ fun _=>rfl) q4
   cases h
  case' c3n=>skip
  replace h:=Ad h c3
  refine br (fun c4=>?c4y) (fun c4=>?c4n)
  case' c4y=>
   replace h:=Ac h c4
   refine Ar T.QB (QE x.other) ?_
   refine Aa h fun z41 q5 h=>?_
   refine DJ (f:=strD) (bytes:=16) ?_ (CB _ fun _=>rfl) q5
   cases h
  case' c4n=>skip
  replace h:=Ad h c4
  refine br (fun c5=>?c5y) (fun c5=>?c5n)
  case' c5y=>
   replace h:=Ac h c5
   refine And.intro ⟨T.mixed,by decide +kernel⟩ ?_
   refine Y7 (r:=JV D6) ?_ rfl rfl rfl rfl
   refine Aa h fun r48 q6 h=>?_
   refine Ar T.Ux (Rx D6 x.field.kind r48 q6) ?_
   refine Ar T.IM (Ci x.field.at_) ?_
   refine br (fun c6=>?c6y) (fun c6=>?c6n)
   case' c6y=>
    replace h:=Ac h c6
    refine Ce h fun g2 h=>?_
    refine Ar T.Gx (FB x.field.worth g2) ?_
    refine Aa h fun z65 q7 h=>?_
    refine DJ (f:=strD) (bytes:=16) ?_ (CB _ fun _=>rfl) q7
    cases h
   case' c6n=>skip
   replace h:=Ad h c6
   refine br (fun c7=>?c7y) (fun c7=>?c7n)
   case' c7y=>
    replace h:=Ac h c7
    refine Ar T.QB (QE x.field.deft) ?_
    refine Aa h fun z74 q8 h=>?_
    refine DJ (f:=strD) (bytes:=16) ?_ (CB _ fun _=>rfl) q8
    cases h
   case' c7n=>skip
   replace h:=Ad h c7
   cases h
  case' c5n=>skip
  replace h:=Ad h c5
  cases h
 all_goals (refine CJ ?_;simp only [Bo,fits,C.asD,and_true]<;>(first|exact rfl|trivial|exact ⟨rfl,rfl⟩|exact ⟨rfl,rfl,rfl⟩|(simp [*];done)|(simp_all;done)|(simp only [Dy] at *;simp_all;first|done|rfl)))
set_option maxHeartbeats 16000000 in
theorem AlP (who:Int)(d:AV) (r:(List ByteArray))(h:Gj who d=some r):AP Tryz.prog 92 [.sc (.int .i64 who),Um d] [.d (.row (List.map strD r))]:=by
 refine T.fn [6,1022,1026,1064,1080,8017] Tryz.func92 ?_
 unfold Gj at h
 refine OB (r:=JV BI) ?_ rfl rfl rfl rfl
 refine Aa h fun r9 q1 h=>?_
 refine Ar T.Ux (Rx BI d.kind r9 q1) ?_
 refine Ce h fun g1 h=>?_
 refine Ar T.Gx (FB who g1) ?_
 refine br (fun c1=>?c1y) (fun c1=>?c1n)
 case' c1y=>
  replace h:=Ac h c1
  refine Exists.intro (.one 0 (.one 1 (.one 2 (.one 3 (.one 4 (.alt 5 (.one 6 (.one 7 (.one 8 (.one 9 (.one 10 (.fin)))))) (.alt 6 (.alt 5 (.one 7 (.one 8 (.one 9 (.one 10 (.fin))))) (.alt 7 (.one 5 (.one 8 (.one 9 (.one 10 (.fin))))) (.no))) (.no))))))):F6) (And.intro ⟨T.mixed,by decide +kernel⟩ ?_)
  refine Ce h fun g2 h=>?_
  refine Ar T.RY (TL d.tag g2) ?_
  refine And.intro ?a1b (And.intro ?a1c (trivial))
  case' a1b=>
   refine Aa h fun z22 q2 h=>?_
   refine DJ (f:=strD) (bytes:=16) ?_ (CB _ fun _=>rfl) q2
   refine Aa h fun r25 q3 h=>?_
   refine Ar T.Ya (WB d.lens r25 q3) ?_
   refine Aa h fun z26 q4 h=>?_
   refine DJ (f:=strD) (bytes:=16) ?_ (CB _ fun _=>rfl) q4
   cases h
  case' a1c=>
   refine And.intro ?a2b (And.intro ?a2c (trivial))
   case' a2b=>
    refine Aa h fun z22 q5 h=>?_
    refine DJ (f:=strD) (bytes:=16) ?_ (CB _ fun _=>rfl) q5
    refine Aa h fun r25 q6 h=>?_
    refine Ar T.Ya (WB d.lens r25 q6) ?_
    refine Aa h fun z26 q7 h=>?_
    refine DJ (f:=strD) (bytes:=16) ?_ (CB _ fun _=>rfl) q7
    cases h
   case' a2c=>
    refine Aa h fun z22 q8 h=>?_
    refine DJ (f:=strD) (bytes:=16) ?_ (CB _ fun _=>rfl) q8
    refine Aa h fun r25 q9 h=>?_
    refine Ar T.Ya (WB d.lens r25 q9) ?_
    refine Aa h fun z26 q10 h=>?_
    refine DJ (f:=strD) (bytes:=16) ?_ (CB _ fun _=>rfl) q10
    cases h
 case' c1n=>
  replace h:=Ad h c1
  refine br (fun c2=>?c2y) (fun c2=>?c2n)
  case' c2y=>
   replace h:=Ac h c2
   refine Ce h fun g3 h=>?_
   refine Ar T.RY (TL d.tag g3) ?_
   refine Aa h fun z34 q11 h=>?_
   refine DJ (f:=strD) (bytes:=16) ?_ (CB _ fun _=>rfl) q11
   cases h
  case' c2n=>skip
  replace h:=Ad h c2
  refine Aa h fun z39 q12 h=>?_
  refine DJ (f:=strD) (bytes:=16) ?_ (CB _ fun _=>rfl) q12
  refine br (fun c3=>?c3y) (fun c3=>?c3n)
  case' c3y=>
   refine brT ?_
   replace h:=Ac h (.inl c3)
   refine Ar T.PM (OH d.item) ?_
   refine Aa h fun z50 q13 h=>?_
   refine DJ (f:=strD) (bytes:=16) ?_ (CB _ fun _=>rfl) q13
   cases h
  case' c3n=>skip
  refine br (fun c4=>?c4y) (fun c4=>?c4n)
  case' c4y=>
   replace h:=Ac h (.inr c4)
   refine Ar T.PM (OH d.item) ?_
   refine Aa h fun z50 q14 h=>?_
   refine DJ (f:=strD) (bytes:=16) ?_ (CB _ fun _=>rfl) q14
   cases h
  case' c4n=>skip
  replace h:=Ad h (fun k=>k.elim c3 c4)
  refine br (fun c5=>?c5y) (fun c5=>?c5n)
  case' c5y=>
   replace h:=Ac h c5
   refine And.intro ⟨T.mixed,by decide +kernel⟩ ?_
   refine Ar T.PM (OH d.item) ?_
   refine Ar T.IM (Ci d.at_) ?_
   refine Ce h fun g4 h=>?_
   refine Ar T.Gx (FB d.n g4) ?_
   refine Aa h fun z64 q15 h=>?_
   refine DJ (f:=strD) (bytes:=16) ?_ (CB _ fun _=>rfl) q15
   cases h
  case' c5n=>skip
  replace h:=Ad h c5
  refine br (fun c6=>?c6y) (fun c6=>?c6n)
  case' c6y=>
   refine brT ?_
   replace h:=Ac h (.inl c6)
   refine And.intro ⟨T.mixed,by decide +kernel⟩ ?_
   refine Ar T.PM (OH d.item) ?_
   refine Ar T.IM (Ci d.at_) ?_
   refine Ar T.QB (QE d.text) ?_
   refine Aa h fun z80 q16 h=>?_
   refine DJ (f:=strD) (bytes:=16) ?_ (CB _ fun _=>rfl) q16
   cases h
  case' c6n=>skip
  refine br (fun c7=>?c7y) (fun c7=>?c7n)
  case' c7y=>
   refine brT ?_
   replace h:=Ac h (.inr (.inl c7))
   refine And.intro ⟨T.mixed,by decide +kernel⟩ ?_
   refine Ar T.PM (OH d.item) ?_
   refine Ar T.IM (Ci d.at_) ?_
   refine Ar T.QB (QE d.text) ?_
   refine Aa h fun z80 q17 h=>?_
   refine DJ (f:=strD) (bytes:=16) ?_ (CB _ fun _=>rfl) q17
   cases h
  case' c7n=>skip
  refine br (fun c8=>?c8y) (fun c8=>?c8n)
  case' c8y=>
   replace h:=Ac h (.inr (.inr c8))
   refine And.intro ⟨T.mixed,by decide +kernel⟩ ?_
   refine Ar T.PM (OH d.item) ?_
   refine Ar T.IM (Ci d.at_) ?_
   refine Ar T.QB (QE d.text) ?_
   refine Aa h fun z80 q18 h=>?_
   refine DJ (f:=strD) (bytes:=16) ?_ (CB _ fun _=>rfl) q18
   cases h
  case' c8n=>skip
  replace h:=Ad h (fun k=>k.elim c6 (fun k=>k.elim c7 c8))
  refine br (fun c9=>?c9y) (fun c9=>?c9n)
  case' c9y=>
   refine brT ?_
   replace h:=Ac h (.inl c9)
   refine Ce h fun g5 h=>?_
   refine Ar T.RY (TL d.tag g5) ?_
   refine Aa h fun z89 q19 h=>?_
   refine DJ (f:=strD) (bytes:=16) ?_ (CB _ fun _=>rfl) q19
   cases h
  case' c9n=>skip
  refine br (fun c10=>?c10y) (fun c10=>?c10n)
  case' c10y=>
   replace h:=Ac h (.inr c10)
   refine Ce h fun g6 h=>?_
   refine Ar T.RY (TL d.tag g6) ?_
   refine Aa h fun z89 q20 h=>?_
   refine DJ (f:=strD) (bytes:=16) ?_ (CB _ fun _=>rfl) q20
   cases h
  case' c10n=>skip
  replace h:=Ad h (fun k=>k.elim c9 c10)
  cases h
 all_goals (refine CJ ?_;simp only [Bo,fits,C.asD,and_true]<;>(first|exact rfl|trivial|exact ⟨rfl,rfl⟩|exact ⟨rfl,rfl,rfl⟩|(simp [*];done)|(simp_all;done)|(simp only [Dy] at *;simp_all;first|done|rfl)))
set_option maxHeartbeats 16000000 in
theorem Afl (m:Au) (r:(List ByteArray))(h:Cc m=some r):AP Tryz.prog 46 [Jl m] [.d (.row (List.map strD r))]:=by
 refine T.fn [15] Tryz.func46 ?_
 unfold Cc at h
 refine br (fun c1=>?c1y) (fun c1=>?c1n)
 case' c1y=>
  replace h:=Ac h c1
  refine Aa h fun r14 q1 h=>?_
  refine Ar T.AiJ (AlP m.who m.deed r14 q1) ?_
  cases h
 case' c1n=>
  replace h:=Ad h c1
  refine OB (r:=JV CW) ?_ rfl rfl rfl rfl
  refine Aa h fun r18 q2 h=>?_
  refine Ar T.Ux (Rx CW m.kind r18 q2) ?_
  refine br (fun c2=>?c2y) (fun c2=>?c2n)
  case' c2y=>
   refine brT ?_
   replace h:=Ac h (.inl c2)
   unfold Ej at h
   refine Aw ?_
   refine Ce h fun g1 h=>?_
   refine Aa h fun o1 H1 h=>?_
   refine Ep (fb:=[15]) T.ok (Nat.le_of_ble_eq_true rfl) [59,60] (fun (s:Nat×(List ByteArray))=>[(61,.c (.d (.sc (.int .i64 ((s.1:Nat):Int))))),(3,.c (.own 19 9 (List.map strD s.2)))]) (fun s=>s.1≤[m.who,m.to_].length∧CQ (List.drop s.1 [m.who,m.to_]) s.2=some o1) (fun s=>[m.who,m.to_].length-s.1) (0,[r18]) ⟨Nat.zero_le _,H1⟩ (Am rfl (Am rfl trivial)) ?_
   rintro ⟨kl1,v3l1⟩ ⟨b1,h1⟩
   try dsimp only at b1 h1
   refine br (fun c3=>?c3y) (fun c3=>?c3n)
   case' c3y=>
    refine Ip (l:=[m.who,m.to_]) c3 fun xl1 X1=>?_
    rw [drop_cons X1,CQ] at h1
    refine Eb (Ag (f:=fun x=>.sc (.int .i64 x)) X1) ?_
    refine Ce h1 fun g2 h1=>?_
    refine Ar T.Gx (FB xl1 g2) ?_
    refine Aa h1 fun z69 q3 h1=>?_
    refine DJ (f:=strD) (bytes:=16) ?_ (CB _ fun _=>rfl) q3
    refine CO ?_ (lt_inc g1 c3)
    refine BV ((kl1+1,z69)) ⟨Ef X1,h1⟩ (by have:=Ef X1;(try dsimp only);omega) rfl (Am rfl (Am rfl trivial)) rfl
   case' c3n=>skip
   rw [drop_end (l:=[m.who,m.to_]) c3,CQ] at h1
   cases h1
   try dsimp only at h
   cases h
  case' c2n=>skip
  refine br (fun c4=>?c4y) (fun c4=>?c4n)
  case' c4y=>
   replace h:=Ac h (.inr c4)
   unfold Ej at h
   refine Aw ?_
   refine Ce h fun g3 h=>?_
   refine Aa h fun o2 H2 h=>?_
   refine Ep (fb:=[15]) T.ok (Nat.le_of_ble_eq_true rfl) [59,60] (fun (s:Nat×(List ByteArray))=>[(61,.c (.d (.sc (.int .i64 ((s.1:Nat):Int))))),(3,.c (.own 19 9 (List.map strD s.2)))]) (fun s=>s.1≤[m.who,m.to_].length∧CQ (List.drop s.1 [m.who,m.to_]) s.2=some o2) (fun s=>[m.who,m.to_].length-s.1) (0,[r18]) ⟨Nat.zero_le _,H2⟩ (Am rfl (Am rfl trivial)) ?_
   rintro ⟨kl1,v3l1⟩ ⟨b2,h2⟩
   try dsimp only at b2 h2
   refine br (fun c5=>?c5y) (fun c5=>?c5n)
   case' c5y=>
    refine Ip (l:=[m.who,m.to_]) c5 fun xl1 X2=>?_
    rw [drop_cons X2,CQ] at h2
    refine Eb (Ag (f:=fun x=>.sc (.int .i64 x)) X2) ?_
    refine Ce h2 fun g4 h2=>?_
    refine Ar T.Gx (FB xl1 g4) ?_
    refine Aa h2 fun z69 q4 h2=>?_
    refine DJ (f:=strD) (bytes:=16) ?_ (CB _ fun _=>rfl) q4
    refine CO ?_ (lt_inc g3 c5)
    refine BV ((kl1+1,z69)) ⟨Ef X2,h2⟩ (by have:=Ef X2;(try dsimp only);omega) rfl (Am rfl (Am rfl trivial)) rfl
   case' c5n=>skip
   rw [drop_end (l:=[m.who,m.to_]) c5,CQ] at h2
   cases h2
   try dsimp only at h
   cases h
  case' c4n=>skip
  replace h:=Ad h (fun k=>k.elim c2 c4)
  refine br (fun c6=>?c6y) (fun c6=>?c6n)
  case' c6y=>
   refine brT ?_
   replace h:=Ac h (.inl c6)
   unfold Ej at h
   refine Aw ?_
   refine Ce h fun g5 h=>?_
   refine Aa h fun o3 H3 h=>?_
   refine Ep (fb:=[15]) T.ok (Nat.le_of_ble_eq_true rfl) [59,60] (fun (s:Nat×(List ByteArray))=>[(61,.c (.d (.sc (.int .i64 ((s.1:Nat):Int))))),(3,.c (.own 19 9 (List.map strD s.2)))]) (fun s=>s.1≤[m.n].length∧CQ (List.drop s.1 [m.n]) s.2=some o3) (fun s=>[m.n].length-s.1) (0,[r18]) ⟨Nat.zero_le _,H3⟩ (Am rfl (Am rfl trivial)) ?_
   rintro ⟨kl1,v3l1⟩ ⟨b3,h3⟩
   try dsimp only at b3 h3
   refine br (fun c7=>?c7y) (fun c7=>?c7n)
   case' c7y=>
    refine Ip (l:=[m.n]) c7 fun xl1 X3=>?_
    rw [drop_cons X3,CQ] at h3
    refine Eb (Ag (f:=fun x=>.sc (.int .i64 x)) X3) ?_
    refine Ce h3 fun g6 h3=>?_
    refine Ar T.Gx (FB xl1 g6) ?_
    refine Aa h3 fun z69 q5 h3=>?_
    refine DJ (f:=strD) (bytes:=16) ?_ (CB _ fun _=>rfl) q5
    refine CO ?_ (lt_inc g5 c7)
    refine BV ((kl1+1,z69)) ⟨Ef X3,h3⟩ (by have:=Ef X3;(try dsimp only);omega) rfl (Am rfl (Am rfl trivial)) rfl
   case' c7n=>skip
   rw [drop_end (l:=[m.n]) c7,CQ] at h3
   cases h3
   try dsimp only at h
   cases h
  case' c6n=>skip
  refine br (fun c8=>?c8y) (fun c8=>?c8n)
  case' c8y=>
   refine brT ?_
   replace h:=Ac h (.inr (.inl c8))
   unfold Ej at h
   refine Aw ?_
   refine Ce h fun g7 h=>?_
   refine Aa h fun o4 H4 h=>?_
   refine Ep (fb:=[15]) T.ok (Nat.le_of_ble_eq_true rfl) [59,60] (fun (s:Nat×(List ByteArray))=>[(61,.c (.d (.sc (.int .i64 ((s.1:Nat):Int))))),(3,.c (.own 19 9 (List.map strD s.2)))]) (fun s=>s.1≤[m.n].length∧CQ (List.drop s.1 [m.n]) s.2=some o4) (fun s=>[m.n].length-s.1) (0,[r18]) ⟨Nat.zero_le _,H4⟩ (Am rfl (Am rfl trivial)) ?_
   rintro ⟨kl1,v3l1⟩ ⟨b4,h4⟩
   try dsimp only at b4 h4
   refine br (fun c9=>?c9y) (fun c9=>?c9n)
   case' c9y=>
    refine Ip (l:=[m.n]) c9 fun xl1 X4=>?_
    rw [drop_cons X4,CQ] at h4
    refine Eb (Ag (f:=fun x=>.sc (.int .i64 x)) X4) ?_
    refine Ce h4 fun g8 h4=>?_
    refine Ar T.Gx (FB xl1 g8) ?_
    refine Aa h4 fun z69 q6 h4=>?_
    refine DJ (f:=strD) (bytes:=16) ?_ (CB _ fun _=>rfl) q6
    refine CO ?_ (lt_inc g7 c9)
    refine BV ((kl1+1,z69)) ⟨Ef X4,h4⟩ (by have:=Ef X4;(try dsimp only);omega) rfl (Am rfl (Am rfl trivial)) rfl
   case' c9n=>skip
   rw [drop_end (l:=[m.n]) c9,CQ] at h4
   cases h4
   try dsimp only at h
   cases h
  case' c8n=>skip
  refine br (fun c10=>?c10y) (fun c10=>?c10n)
  case' c10y=>
   replace h:=Ac h (.inr (.inr c10))
   unfold Ej at h
   refine Aw ?_
   refine Ce h fun g9 h=>?_
   refine Aa h fun o5 H5 h=>?_
   refine Ep (fb:=[15]) T.ok (Nat.le_of_ble_eq_true rfl) [59,60] (fun (s:Nat×(List ByteArray))=>[(61,.c (.d (.sc (.int .i64 ((s.1:Nat):Int))))),(3,.c (.own 19 9 (List.map strD s.2)))]) (fun s=>s.1≤[m.n].length∧CQ (List.drop s.1 [m.n]) s.2=some o5) (fun s=>[m.n].length-s.1) (0,[r18]) ⟨Nat.zero_le _,H5⟩ (Am rfl (Am rfl trivial)) ?_
   rintro ⟨kl1,v3l1⟩ ⟨b5,h5⟩
   try dsimp only at b5 h5
   refine br (fun c11=>?c11y) (fun c11=>?c11n)
   case' c11y=>
    refine Ip (l:=[m.n]) c11 fun xl1 X5=>?_
    rw [drop_cons X5,CQ] at h5
    refine Eb (Ag (f:=fun x=>.sc (.int .i64 x)) X5) ?_
    refine Ce h5 fun g10 h5=>?_
    refine Ar T.Gx (FB xl1 g10) ?_
    refine Aa h5 fun z69 q7 h5=>?_
    refine DJ (f:=strD) (bytes:=16) ?_ (CB _ fun _=>rfl) q7
    refine CO ?_ (lt_inc g9 c11)
    refine BV ((kl1+1,z69)) ⟨Ef X5,h5⟩ (by have:=Ef X5;(try dsimp only);omega) rfl (Am rfl (Am rfl trivial)) rfl
   case' c11n=>skip
   rw [drop_end (l:=[m.n]) c11,CQ] at h5
   cases h5
   try dsimp only at h
   cases h
  case' c10n=>skip
  replace h:=Ad h (fun k=>k.elim c6 (fun k=>k.elim c8 c10))
  refine br (fun c12=>?c12y) (fun c12=>?c12n)
  case' c12y=>
   replace h:=Ac h c12
   unfold Ej at h
   refine Aw ?_
   refine Ce h fun g11 h=>?_
   refine Aa h fun o6 H6 h=>?_
   refine Ep (fb:=[15]) T.ok (Nat.le_of_ble_eq_true rfl) [59,60] (fun (s:Nat×(List ByteArray))=>[(61,.c (.d (.sc (.int .i64 ((s.1:Nat):Int))))),(3,.c (.own 19 9 (List.map strD s.2)))]) (fun s=>s.1≤[m.re,m.im,m.off].length∧CQ (List.drop s.1 [m.re,m.im,m.off]) s.2=some o6) (fun s=>[m.re,m.im,m.off].length-s.1) (0,[r18]) ⟨Nat.zero_le _,H6⟩ (Am rfl (Am rfl trivial)) ?_
   rintro ⟨kl1,v3l1⟩ ⟨b6,h6⟩
   try dsimp only at b6 h6
   refine br (fun c13=>?c13y) (fun c13=>?c13n)
   case' c13y=>
    refine Ip (l:=[m.re,m.im,m.off]) c13 fun xl1 X6=>?_
    rw [drop_cons X6,CQ] at h6
    refine Eb (Ag (f:=fun x=>.sc (.int .i64 x)) X6) ?_
    refine Ce h6 fun g12 h6=>?_
    refine Ar T.Gx (FB xl1 g12) ?_
    refine Aa h6 fun z69 q8 h6=>?_
    refine DJ (f:=strD) (bytes:=16) ?_ (CB _ fun _=>rfl) q8
    refine CO ?_ (lt_inc g11 c13)
    refine BV ((kl1+1,z69)) ⟨Ef X6,h6⟩ (by have:=Ef X6;(try dsimp only);omega) rfl (Am rfl (Am rfl trivial)) rfl
   case' c13n=>skip
   rw [drop_end (l:=[m.re,m.im,m.off]) c13,CQ] at h6
   cases h6
   try dsimp only at h
   cases h
  case' c12n=>skip
  replace h:=Ad h c12
  refine br (fun c14=>?c14y) (fun c14=>?c14n)
  case' c14y=>
   refine brT ?_
   replace h:=Ac h (.inl c14)
   unfold Ej at h
   refine Aw ?_
   refine Ce h fun g13 h=>?_
   refine Aa h fun o7 H7 h=>?_
   refine Ep (fb:=[15]) T.ok (Nat.le_of_ble_eq_true rfl) [59,60] (fun (s:Nat×(List ByteArray))=>[(61,.c (.d (.sc (.int .i64 ((s.1:Nat):Int))))),(3,.c (.own 19 9 (List.map strD s.2)))]) (fun s=>s.1≤[m.who,m.n].length∧CQ (List.drop s.1 [m.who,m.n]) s.2=some o7) (fun s=>[m.who,m.n].length-s.1) (0,[r18]) ⟨Nat.zero_le _,H7⟩ (Am rfl (Am rfl trivial)) ?_
   rintro ⟨kl1,v3l1⟩ ⟨b7,h7⟩
   try dsimp only at b7 h7
   refine br (fun c15=>?c15y) (fun c15=>?c15n)
   case' c15y=>
    refine Ip (l:=[m.who,m.n]) c15 fun xl1 X7=>?_
    rw [drop_cons X7,CQ] at h7
    refine Eb (Ag (f:=fun x=>.sc (.int .i64 x)) X7) ?_
    refine Ce h7 fun g14 h7=>?_
    refine Ar T.Gx (FB xl1 g14) ?_
    refine Aa h7 fun z69 q9 h7=>?_
    refine DJ (f:=strD) (bytes:=16) ?_ (CB _ fun _=>rfl) q9
    refine CO ?_ (lt_inc g13 c15)
    refine BV ((kl1+1,z69)) ⟨Ef X7,h7⟩ (by have:=Ef X7;(try dsimp only);omega) rfl (Am rfl (Am rfl trivial)) rfl
   case' c15n=>skip
   rw [drop_end (l:=[m.who,m.n]) c15,CQ] at h7
   cases h7
   try dsimp only at h
   cases h
  case' c14n=>skip
  refine br (fun c16=>?c16y) (fun c16=>?c16n)
  case' c16y=>
   replace h:=Ac h (.inr c16)
   unfold Ej at h
   refine Aw ?_
   refine Ce h fun g15 h=>?_
   refine Aa h fun o8 H8 h=>?_
   refine Ep (fb:=[15]) T.ok (Nat.le_of_ble_eq_true rfl) [59,60] (fun (s:Nat×(List ByteArray))=>[(61,.c (.d (.sc (.int .i64 ((s.1:Nat):Int))))),(3,.c (.own 19 9 (List.map strD s.2)))]) (fun s=>s.1≤[m.who,m.n].length∧CQ (List.drop s.1 [m.who,m.n]) s.2=some o8) (fun s=>[m.who,m.n].length-s.1) (0,[r18]) ⟨Nat.zero_le _,H8⟩ (Am rfl (Am rfl trivial)) ?_
   rintro ⟨kl1,v3l1⟩ ⟨b8,h8⟩
   try dsimp only at b8 h8
   refine br (fun c17=>?c17y) (fun c17=>?c17n)
   case' c17y=>
    refine Ip (l:=[m.who,m.n]) c17 fun xl1 X8=>?_
    rw [drop_cons X8,CQ] at h8
    refine Eb (Ag (f:=fun x=>.sc (.int .i64 x)) X8) ?_
    refine Ce h8 fun g16 h8=>?_
    refine Ar T.Gx (FB xl1 g16) ?_
    refine Aa h8 fun z69 q10 h8=>?_
    refine DJ (f:=strD) (bytes:=16) ?_ (CB _ fun _=>rfl) q10
    refine CO ?_ (lt_inc g15 c17)
    refine BV ((kl1+1,z69)) ⟨Ef X8,h8⟩ (by have:=Ef X8;(try dsimp only);omega) rfl (Am rfl (Am rfl trivial)) rfl
   case' c17n=>skip
   rw [drop_end (l:=[m.who,m.n]) c17,CQ] at h8
   cases h8
   try dsimp only at h
   cases h
  case' c16n=>skip
  replace h:=Ad h (fun k=>k.elim c14 c16)
  refine br (fun c18=>?c18y) (fun c18=>?c18n)
  case' c18y=>
   replace h:=Ac h c18
   unfold Ej at h
   refine Aw ?_
   refine Ce h fun g17 h=>?_
   refine Aa h fun o9 H9 h=>?_
   refine Ep (fb:=[15]) T.ok (Nat.le_of_ble_eq_true rfl) [59,60] (fun (s:Nat×(List ByteArray))=>[(61,.c (.d (.sc (.int .i64 ((s.1:Nat):Int))))),(3,.c (.own 19 9 (List.map strD s.2)))]) (fun s=>s.1≤[m.who].length∧CQ (List.drop s.1 [m.who]) s.2=some o9) (fun s=>[m.who].length-s.1) (0,[r18]) ⟨Nat.zero_le _,H9⟩ (Am rfl (Am rfl trivial)) ?_
   rintro ⟨kl1,v3l1⟩ ⟨b9,h9⟩
   try dsimp only at b9 h9
   refine br (fun c19=>?c19y) (fun c19=>?c19n)
   case' c19y=>
    refine Ip (l:=[m.who]) c19 fun xl1 X9=>?_
    rw [drop_cons X9,CQ] at h9
    refine Eb (Ag (f:=fun x=>.sc (.int .i64 x)) X9) ?_
    refine Ce h9 fun g18 h9=>?_
    refine Ar T.Gx (FB xl1 g18) ?_
    refine Aa h9 fun z69 q11 h9=>?_
    refine DJ (f:=strD) (bytes:=16) ?_ (CB _ fun _=>rfl) q11
    refine CO ?_ (lt_inc g17 c19)
    refine BV ((kl1+1,z69)) ⟨Ef X9,h9⟩ (by have:=Ef X9;(try dsimp only);omega) rfl (Am rfl (Am rfl trivial)) rfl
   case' c19n=>skip
   rw [drop_end (l:=[m.who]) c19,CQ] at h9
   cases h9
   try dsimp only at h
   cases h
  case' c18n=>skip
  replace h:=Ad h c18
  unfold Ej at h
  refine Aw ?_
  refine Ce h fun g19 h=>?_
  refine Aa h fun o10 H10 h=>?_
  refine Ep (fb:=[15]) T.ok (Nat.le_of_ble_eq_true rfl) [59,60] (fun (s:Nat×(List ByteArray))=>[(61,.c (.d (.sc (.int .i64 ((s.1:Nat):Int))))),(3,.c (.own 19 9 (List.map strD s.2)))]) (fun s=>s.1≤([]:List Int).length∧CQ (List.drop s.1 ([]:List Int)) s.2=some o10) (fun s=>([]:List Int).length-s.1) (0,[r18]) ⟨Nat.zero_le _,H10⟩ (Am rfl (Am rfl trivial)) ?_
  rintro ⟨kl1,v3l1⟩ ⟨b10,h10⟩
  try dsimp only at b10 h10
  refine br (fun c20=>?c20y) (fun c20=>?c20n)
  case' c20y=>
   refine Ip (l:=([]:List Int)) c20 fun xl1 X10=>?_
   rw [drop_cons X10,CQ] at h10
   refine Eb (Ag (f:=fun x=>.sc (.int .i64 x)) X10) ?_
   refine Ce h10 fun g20 h10=>?_
   refine Ar T.Gx (FB xl1 g20) ?_
   refine Aa h10 fun z69 q12 h10=>?_
   refine DJ (f:=strD) (bytes:=16) ?_ (CB _ fun _=>rfl) q12
   refine CO ?_ (lt_inc g19 c20)
   refine BV ((kl1+1,z69)) ⟨Ef X10,h10⟩ (by have:=Ef X10;(try dsimp only);omega) rfl (Am rfl (Am rfl trivial)) rfl
  case' c20n=>skip
  rw [drop_end (l:=([]:List Int)) c20,CQ] at h10
  cases h10
  try dsimp only at h
  cases h
 all_goals (refine CJ ?_;simp only [Bo,fits,C.asD,and_true]<;>(first|exact rfl|trivial|exact ⟨rfl,rfl⟩|exact ⟨rfl,rfl,rfl⟩|(simp [*];done)|(simp_all;done)|(simp only [Dy] at *;simp_all;first|done|rfl)))
set_option maxHeartbeats 16000000 in
theorem AeI (a:Au)(b:Au) (r:Bool)(h:Oj a b=some r):AP Tryz.prog 47 [Jl a,Jl b] [.d (.sc (.bool r))]:=by
 refine T.fn [] Tryz.func47 ?_
 unfold Oj at h
 refine And.intro ⟨T.mixed,by decide +kernel⟩ ?_
 refine And.intro ⟨T.mixed,by decide +kernel⟩ ?_
 refine br (fun c1=>?c1y) (fun c1=>?c1n)
 case' c1y=>
  replace h:=Ac h c1
  refine br (fun c2=>?c2y) (fun c2=>?c2n)
  case' c2y=>
   replace h:=Ac h c2
   refine br (fun c3=>?c3y) (fun c3=>?c3n)
   case' c3y=>
    replace h:=Ac h c3
    refine br (fun c4=>?c4y) (fun c4=>?c4n)
    case' c4y=>
     replace h:=Ac h c4
     refine br (fun c5=>?c5y) (fun c5=>?c5n)
     case' c5y=>
      replace h:=Ac h c5
      refine br (fun c6=>?c6y) (fun c6=>?c6n)
      case' c6y=>
       replace h:=Ac h c6
       refine br (fun c7=>?c7y) (fun c7=>?c7n)
       case' c7y=>
        replace h:=Ac h c7
        refine br (fun c8=>?c8y) (fun c8=>?c8n)
        case' c8y=>
         replace h:=Ac h c8
         refine br (fun c9=>?c9y) (fun c9=>?c9n)
         case' c9y=>
          replace h:=Ac h c9
          refine br (fun c10=>?c10y) (fun c10=>?c10n)
          case' c10y=>
           replace h:=Ac h c10
           refine IL a.deed.at_ b.deed.at_ ?_
           refine br (fun c11=>?c11y) (fun c11=>?c11n)
           case' c11y=>
            replace h:=Ac h c11
            refine br (fun c12=>?c12y) (fun c12=>?c12n)
            case' c12y=>
             replace h:=Ac h c12
             refine br (fun c13=>?c13y) (fun c13=>?c13n)
             case' c13y=>
              replace h:=Ac h c13
              refine AaZ a.deed.tag b.deed.tag ?_
              refine br (fun c14=>?c14y) (fun c14=>?c14n)
              case' c14y=>
               replace h:=Ac h c14
               refine br (fun c15=>?c15y) (fun c15=>?c15n)
               case' c15y=>
                replace h:=Ac h c15
                refine IL a.deed.lens.at_ b.deed.lens.at_ ?_
                refine br (fun c16=>?c16y) (fun c16=>?c16n)
                case' c16y=>
                 replace h:=Ac h c16
                 refine br (fun c17=>?c17y) (fun c17=>?c17n)
                 case' c17y=>
                  replace h:=Ac h c17
                  refine br (fun c18=>?c18y) (fun c18=>?c18n)
                  case' c18y=>
                   replace h:=Ac h c18
                   refine br (fun c19=>?c19y) (fun c19=>?c19n)
                   case' c19y=>
                    replace h:=Ac h c19
                    refine Ce h fun g1 h=>?_
                    refine Ar T.AnH (AkK a.deed.lens.field b.deed.lens.field g1) ?_
                    refine br (fun c20=>?c20y) (fun c20=>?c20n)
                    case' c20y=>
                     replace h:=Ac h c20
                     refine Ce h fun g2 h=>?_
                     refine Ar T.ZL (YM a.deed.lens.forth b.deed.lens.forth g2) ?_
                     refine br (fun c21=>?c21y) (fun c21=>?c21n)
                     case' c21y=>
                      replace h:=Ac h c21
                      refine Ce h fun g3 h=>?_
                      refine Ar T.ZL (YM a.deed.lens.back b.deed.lens.back g3) ?_
                      cases h
                     case' c21n=>skip
                     replace h:=Ad h c21
                     cases h
                    case' c20n=>skip
                    replace h:=Ad h c20
                    refine brF ?_
                    cases h
                   case' c19n=>skip
                   replace h:=Ad h c19
                   refine brF ?_
                   refine brF ?_
                   cases h
                  case' c18n=>skip
                  replace h:=Ad h c18
                  refine brF ?_
                  refine brF ?_
                  refine brF ?_
                  cases h
                 case' c17n=>skip
                 replace h:=Ad h c17
                 refine brF ?_
                 refine brF ?_
                 refine brF ?_
                 refine brF ?_
                 cases h
                case' c16n=>skip
                replace h:=Ad h c16
                refine brF ?_
                refine brF ?_
                refine brF ?_
                refine brF ?_
                refine brF ?_
                cases h
               case' c15n=>skip
               replace h:=Ad h c15
               refine brF ?_
               refine brF ?_
               refine brF ?_
               refine brF ?_
               refine brF ?_
               refine brF ?_
               cases h
              case' c14n=>skip
              replace h:=Ad h c14
              refine brF ?_
              refine brF ?_
              refine brF ?_
              refine brF ?_
              refine brF ?_
              refine brF ?_
              refine brF ?_
              cases h
             case' c13n=>skip
             replace h:=Ad h c13
             refine brF ?_
             refine brF ?_
             refine brF ?_
             refine brF ?_
             refine brF ?_
             refine brF ?_
             refine brF ?_
             refine brF ?_
             cases h
            case' c12n=>skip
            replace h:=Ad h c12
            refine brF ?_
            refine brF ?_
            refine brF ?_
            refine brF ?_
            refine brF ?_
            refine brF ?_
            refine brF ?_
            refine brF ?_
            refine brF ?_
            cases h
           case' c11n=>skip
           replace h:=Ad h c11
           refine brF ?_
           refine brF ?_
           refine brF ?_
           refine brF ?_
           refine brF ?_
           refine brF ?_
           refine brF ?_
           refine brF ?_
           refine brF ?_
           refine brF ?_
           cases h
          case' c10n=>skip
          replace h:=Ad h c10
          refine brF ?_
          refine brF ?_
          refine brF ?_
          refine brF ?_
          refine brF ?_
          refine brF ?_
          refine brF ?_
          refine brF ?_
          refine brF ?_
          refine brF ?_
          refine brF ?_
          cases h
         case' c9n=>skip
         replace h:=Ad h c9
         refine brF ?_
         refine brF ?_
         refine brF ?_
         refine brF ?_
         refine brF ?_
         refine brF ?_
         refine brF ?_
         refine brF ?_
         refine brF ?_
         refine brF ?_
         refine brF ?_
         refine brF ?_
         cases h
        case' c8n=>skip
        replace h:=Ad h c8
        refine brF ?_
        refine brF ?_
        refine brF ?_
        refine brF ?_
        refine brF ?_
        refine brF ?_
        refine brF ?_
        refine brF ?_
        refine brF ?_
        refine brF ?_
        refine brF ?_
        refine brF ?_
        refine brF ?_
        cases h
       case' c7n=>skip
       replace h:=Ad h c7
       refine brF ?_
       refine brF ?_
       refine brF ?_
       refine brF ?_
       refine brF ?_
       refine brF ?_
       refine brF ?_
       refine brF ?_
       refine brF ?_
       refine brF ?_
       refine brF ?_
       refine brF ?_
       refine brF ?_
       refine brF ?_
       cases h
      case' c6n=>skip
      replace h:=Ad h c6
      refine brF ?_
      refine brF ?_
      refine brF ?_
      refine brF ?_
      refine brF ?_
      refine brF ?_
      refine brF ?_
      refine brF ?_
      refine brF ?_
      refine brF ?_
      refine brF ?_
      refine brF ?_
      refine brF ?_
      refine brF ?_
      refine brF ?_
      cases h
     case' c5n=>skip
     replace h:=Ad h c5
     refine brF ?_
     refine brF ?_
     refine brF ?_
     refine brF ?_
     refine brF ?_
     refine brF ?_
     refine brF ?_
     refine brF ?_
     refine brF ?_
     refine brF ?_
     refine brF ?_
     refine brF ?_
     refine brF ?_
     refine brF ?_
     refine brF ?_
     refine brF ?_
     cases h
    case' c4n=>skip
    replace h:=Ad h c4
    refine brF ?_
    refine brF ?_
    refine brF ?_
    refine brF ?_
    refine brF ?_
    refine brF ?_
    refine brF ?_
    refine brF ?_
    refine brF ?_
    refine brF ?_
    refine brF ?_
    refine brF ?_
    refine brF ?_
    refine brF ?_
    refine brF ?_
    refine brF ?_
    refine brF ?_
    cases h
   case' c3n=>skip
   replace h:=Ad h c3
   refine brF ?_
   refine brF ?_
   refine brF ?_
   refine brF ?_
   refine brF ?_
   refine brF ?_
   refine brF ?_
   refine brF ?_
   refine brF ?_
   refine brF ?_
   refine brF ?_
   refine brF ?_
   refine brF ?_
   refine brF ?_
   refine brF ?_
   refine brF ?_
   refine brF ?_
   refine brF ?_
   cases h
  case' c2n=>skip
  replace h:=Ad h c2
  refine brF ?_
  refine brF ?_
  refine brF ?_
  refine brF ?_
  refine brF ?_
  refine brF ?_
  refine brF ?_
  refine brF ?_
  refine brF ?_
  refine brF ?_
  refine brF ?_
  refine brF ?_
  refine brF ?_
  refine brF ?_
  refine brF ?_
  refine brF ?_
  refine brF ?_
  refine brF ?_
  refine brF ?_
  cases h
 case' c1n=>
  replace h:=Ad h c1
  refine brF ?_
  refine brF ?_
  refine brF ?_
  refine brF ?_
  refine brF ?_
  refine brF ?_
  refine brF ?_
  refine brF ?_
  refine brF ?_
  refine brF ?_
  refine brF ?_
  refine brF ?_
  refine brF ?_
  refine brF ?_
  refine brF ?_
  refine brF ?_
  refine brF ?_
  refine brF ?_
  refine brF ?_
  refine brF ?_
  cases h
 all_goals (refine CJ ?_;simp only [Bo,fits,C.asD,and_true]<;>(first|exact rfl|trivial|exact ⟨rfl,rfl⟩|exact ⟨rfl,rfl,rfl⟩|(simp [*];done)|(simp_all;done)|(simp only [Dy] at *;simp_all;first|done|rfl)))
set_option maxHeartbeats 16000000 in
theorem AtX (m:Au) (r:ByteArray×Int)(h:QJ m=some r):AP Tryz.prog 19 [Jl m] [.d (.sc (.string r.1)),.d (.sc (.int .i64 r.2))]:=by
 refine T.fn [] Tryz.func19 ?_
 unfold QJ at h
 refine Aa h fun r8 q1 h=>?_
 refine Ar T.Awe (Afl m r8 q1) ?_
 refine Ce h fun g1 h=>?_
 refine Ce h fun g2 h=>?_
 refine Ar T.AhP (AeK 32 r8 g1 g2) ?_
 refine Aa h fun r12 q2 h=>?_
 refine Ar T.YI (Aar (Gp 32 r8) r12 q2) ?_
 refine br (fun c1=>?c1y) (fun c1=>?c1n)
 case' c1y=>
  replace h:=Ac h c1
  refine brT ?_
  cases h
 case' c1n=>
  replace h:=Ad h (fun k=>k c1)
  refine Aa h fun r20 q3 h=>?_
  refine Ar T.ArJ (AeI m r12.1 r20 q3) ?_
  refine br (fun c2=>?c2y) (fun c2=>?c2n)
  case' c2y=>
   replace h:=Ac h (nf c2)
   cases h
  case' c2n=>skip
  replace h:=Ad h (fun k=>k c2)
  cases h
 all_goals (refine CJ ?_;simp only [Bo,fits,C.asD,and_true]<;>(first|exact rfl|trivial|exact ⟨rfl,rfl⟩|exact ⟨rfl,rfl,rfl⟩|(simp [*];done)|(simp_all;done)|(simp only [Dy] at *;simp_all;first|done|rfl)))
end Go.Vm
end
section
namespace Go.Vm
open Go.RowKit Go.Proofs
set_option maxRecDepth 10000
open Go.Proofs Go.Proofs.YtdfbohaohjaloaaGreatDoor Punnet.Name Punnet.Num
set_option maxHeartbeats 16000000 in
theorem AeM (d:AV) : AP Tryz.prog 20 [Um d] [.d (.sc (.bool (OQ d)))]:=by
 generalize h:OQ d=r
 refine T.fn [] Tryz.func20 ?_
 unfold OQ at h
 refine Aw ?_
 refine br (fun c1=>?c1y) (fun c1=>?c1n)
 case' c1y=>
  refine brT ?_
  refine brT ?_
  refine brT ?_
  subst h
 case' c1n=>
  refine Aw ?_
  refine br (fun c2=>?c2y) (fun c2=>?c2n)
  case' c2y=>
   refine brT ?_
   refine brT ?_
   subst h
  case' c2n=>skip
  refine Aw ?_
  refine br (fun c3=>?c3y) (fun c3=>?c3n)
  case' c3y=>
   refine brT ?_
   subst h
  case' c3n=>skip
  refine Aw ?_
  refine br (fun c4=>?c4y) (fun c4=>?c4n)
  case' c4y=>
   subst h
  case' c4n=>skip
  refine Aw ?_
  subst h
 all_goals (refine CJ ?_;simp only [Bo,fits,C.asD,and_true]<;>(first|exact rfl|trivial|exact ⟨rfl,rfl⟩|exact ⟨rfl,rfl,rfl⟩|(simp [*];done)|(simp_all;done)|(simp only [Dy] at *;simp_all;first|done|rfl)))
set_option maxHeartbeats 16000000 in
theorem Asl (f:AB) (r:Bool)(h:QR f=some r):AP Tryz.prog 48 [fD f] [.d (.sc (.bool r))]:=by
 refine T.fn [] Tryz.func48 ?_
 unfold QR at h
 refine Aw ?_
 refine br (fun c1=>?c1y) (fun c1=>?c1n)
 case' c1y=>
  refine brT ?_
  refine brT ?_
  refine brT ?_
  replace h:=Ac h (.inl (.inl (.inl c1)))
  cases h
 case' c1n=>
  refine Aw ?_
  refine br (fun c2=>?c2y) (fun c2=>?c2n)
  case' c2y=>
   refine brT ?_
   refine brT ?_
   replace h:=Ac h (.inl (.inl (.inr c2)))
   cases h
  case' c2n=>skip
  refine Aw ?_
  refine br (fun c3=>?c3y) (fun c3=>?c3n)
  case' c3y=>
   refine brT ?_
   replace h:=Ac h (.inl (.inr c3))
   cases h
  case' c3n=>skip
  refine Aw ?_
  refine br (fun c4=>?c4y) (fun c4=>?c4n)
  case' c4y=>
   replace h:=Ac h (.inr c4)
   cases h
  case' c4n=>skip
  replace h:=Ad h (fun k=>k.elim (fun k=>k.elim (fun k=>k.elim c1 c2) c3) c4)
  refine Ce h fun g1 h=>?_
  refine Aa h fun o1 H1 h=>?_
  refine Ep (fb:=[]) T.ok (Nat.le_of_ble_eq_true rfl) [1] (fun (s:Nat)=>[(3,.c (.d (.sc (.int .i64 ((s:Nat):Int)))))]) (fun s=>s≤f.cases.length∧NT (List.drop s f.cases)=some o1) (fun s=>f.cases.length-s) 0 ⟨Nat.zero_le _,H1⟩ (Am rfl trivial) ?_
  rintro kl1 ⟨b1,h1⟩
  try dsimp only at b1 h1
  refine Aw ?_
  refine br (fun c5=>?c5y) (fun c5=>?c5n)
  case' c5y=>
   refine Ip (l:=f.cases) c5 fun xl1 X1=>?_
   rw [drop_cons X1,NT] at h1
   refine Eb (Ag X1) ?_
   refine Aw ?_
   refine br (fun c6=>?c6y) (fun c6=>?c6n)
   case' c6y=>
    replace h1:=Ac h1 c6
    cases h1
    try dsimp only at h
    cases h
   case' c6n=>skip
   replace h1:=Ad h1 c6
   refine CO ?_ (lt_inc g1 c5)
   refine BV (kl1+1) ⟨Ef X1,h1⟩ (by have:=Ef X1;(try dsimp only);omega) rfl (Am rfl trivial) rfl
  case' c5n=>skip
  rw [drop_end (l:=f.cases) c5,NT] at h1
  cases h1
  try dsimp only at h
  cases h
 all_goals (refine CJ ?_;simp only [Bo,fits,C.asD,and_true]<;>(first|exact rfl|trivial|exact ⟨rfl,rfl⟩|exact ⟨rfl,rfl,rfl⟩|(simp [*];done)|(simp_all;done)|(simp only [Dy] at *;simp_all;first|done|rfl)))
set_option maxHeartbeats 16000000 in
theorem Zq (l:(List (ByteArray×ByteArray))) (r:Bool)(h:OV l=some r):AP Tryz.prog 49 [.row (List.map G6 l)] [.d (.sc (.bool r))]:=by
 refine T.fn [] Tryz.func49 ?_
 unfold OV at h
 refine Aw ?_
 refine br (fun c1=>?c1y) (fun c1=>?c1n)
 case' c1y=>
  replace h:=Ac h c1
  cases h
 case' c1n=>
  replace h:=Ad h c1
  refine Ce h fun g1 h=>?_
  refine Aa h fun o1 H1 h=>?_
  refine Ep (fb:=[]) T.ok (Nat.le_of_ble_eq_true rfl) [0] (fun (s:Nat)=>[(3,.c (.d (.sc (.int .i64 ((s:Nat):Int)))))]) (fun s=>s≤l.length∧MN (List.drop s l)=some o1) (fun s=>l.length-s) 0 ⟨Nat.zero_le _,H1⟩ (Am rfl trivial) ?_
  rintro kl1 ⟨b1,h1⟩
  try dsimp only at b1 h1
  refine Aw ?_
  refine br (fun c2=>?c2y) (fun c2=>?c2n)
  case' c2y=>
   refine Ip (l:=l) c2 fun xl1 X1=>?_
   rw [drop_cons X1,MN] at h1
   refine Eb (Ag X1) ?_
   refine Aw ?_
   refine br (fun c3=>?c3y) (fun c3=>?c3n)
   case' c3y=>
    replace h1:=Ac h1 c3
    refine brT ?_
    cases h1
    try dsimp only at h
    cases h
   case' c3n=>skip
   replace h1:=Ad h1 c3
   refine Eb (Ag X1) ?_
   refine Aw ?_
   refine br (fun c4=>?c4y) (fun c4=>?c4n)
   case' c4y=>
    replace h1:=Ac h1 c4
    cases h1
    try dsimp only at h
    cases h
   case' c4n=>skip
   replace h1:=Ad h1 c4
   refine CO ?_ (lt_inc g1 c2)
   refine BV (kl1+1) ⟨Ef X1,h1⟩ (by have:=Ef X1;(try dsimp only);omega) rfl (Am rfl trivial) rfl
  case' c2n=>skip
  rw [drop_end (l:=l) c2,MN] at h1
  cases h1
  try dsimp only at h
  cases h
 all_goals (refine CJ ?_;simp only [Bo,fits,C.asD,and_true]<;>(first|exact rfl|trivial|exact ⟨rfl,rfl⟩|exact ⟨rfl,rfl,rfl⟩|(simp [*];done)|(simp_all;done)|(simp only [Dy] at *;simp_all;first|done|rfl)))
set_option maxHeartbeats 16000000 in
theorem Ai4 (x:AL) (r:Bool)(h:Qj x=some r):AP Tryz.prog 21 [lD x] [.d (.sc (.bool r))]:=by
 refine T.fn [] Tryz.func21 ?_
 unfold Qj at h
 refine Aw ?_
 refine br (fun c1=>?c1y) (fun c1=>?c1n)
 case' c1y=>
  replace h:=Ac h c1
  refine brT ?_
  refine brT ?_
  refine brT ?_
  refine brT ?_
  refine brT ?_
  cases h
 case' c1n=>
  replace h:=Ad h c1
  refine Aw ?_
  refine br (fun c2=>?c2y) (fun c2=>?c2n)
  case' c2y=>
   replace h:=Ac h c2
   refine brT ?_
   refine brT ?_
   refine brT ?_
   refine brT ?_
   cases h
  case' c2n=>skip
  replace h:=Ad h c2
  refine Aw ?_
  refine br (fun c3=>?c3y) (fun c3=>?c3n)
  case' c3y=>
   replace h:=Ac h c3
   refine brT ?_
   refine brT ?_
   refine brT ?_
   cases h
  case' c3n=>skip
  replace h:=Ad h c3
  refine Aw ?_
  refine br (fun c4=>?c4y) (fun c4=>?c4n)
  case' c4y=>
   replace h:=Ac h c4
   refine brT ?_
   refine brT ?_
   cases h
  case' c4n=>skip
  replace h:=Ad h c4
  refine Aa h fun r30 q1 h=>?_
  refine Ar T.ArZ (Asl x.field r30 q1) ?_
  refine br (fun c5=>?c5y) (fun c5=>?c5n)
  case' c5y=>
   replace h:=Ac h c5
   refine brT ?_
   cases h
  case' c5n=>skip
  replace h:=Ad h (nf c5)
  refine Aa h fun r35 q2 h=>?_
  refine Ar T.AbT (Zq x.forth r35 q2) ?_
  refine br (fun c6=>?c6y) (fun c6=>?c6n)
  case' c6y=>
   replace h:=Ac h c6
   cases h
  case' c6n=>skip
  replace h:=Ad h (nf c6)
  refine Aa h fun r40 q3 h=>?_
  refine Ar T.AbT (Zq x.back r40 q3) ?_
  cases h
 all_goals (refine CJ ?_;simp only [Bo,fits,C.asD,and_true]<;>(first|exact rfl|trivial|exact ⟨rfl,rfl⟩|exact ⟨rfl,rfl,rfl⟩|(simp [*];done)|(simp_all;done)|(simp only [Dy] at *;simp_all;first|done|rfl)))
set_option maxHeartbeats 16000000 in
theorem Aey (m:Au) (r:Bool)(h:Uy m=some r):AP Tryz.prog 6 [Jl m] [.d (.sc (.bool r))]:=by
 refine T.fn [] Tryz.func6 ?_
 unfold Uy at h
 refine Ar T.AkD (Ao7) ?_
 refine br (fun c1=>?c1y) (fun c1=>?c1n)
 case' c1y=>
  replace h:=Ac h (nf c1)
  cases h
 case' c1n=>
  replace h:=Ad h (fun k=>k c1)
  refine Ar T.Aje (AeM m.deed) ?_
  refine br (fun c2=>?c2y) (fun c2=>?c2n)
  case' c2y=>
   replace h:=Ac h c2
   refine brT ?_
   cases h
  case' c2n=>skip
  replace h:=Ad h (nf c2)
  refine Aa h fun r18 q1 h=>?_
  refine Ar T.AkF (Ai4 m.deed.lens r18 q1) ?_
  refine br (fun c3=>?c3y) (fun c3=>?c3n)
  case' c3y=>
   replace h:=Ac h c3
   cases h
  case' c3n=>skip
  replace h:=Ad h (nf c3)
  refine Aa h fun r22 q2 h=>?_
  refine Ar T.Ae4 (AtX m r22 q2) ?_
  refine br (fun c4=>?c4y) (fun c4=>?c4n)
  case' c4y=>
   replace h:=Ac h c4
   refine br (fun c5=>?c5y) (fun c5=>?c5n)
   case' c5y=>
    cases h
   case' c5n=>skip
   cases h
  case' c4n=>skip
  replace h:=Ad h (fun k=>k c4)
  refine Aa h fun r35 q3 h=>?_
  refine Ar T.YI (Aar r22.1 r35 q3) ?_
  refine Aa h fun r40 q4 h=>?_
  refine Ar T.AjW (Avt r22.1 r40 q4) ?_
  refine br (fun c6=>?c6y) (fun c6=>?c6n)
  case' c6y=>
   replace h:=Ac h c6
   refine br (fun c7=>?c7y) (fun c7=>?c7n)
   case' c7y=>
    replace h:=Ac h c7
    refine Aa h fun r51 q5 h=>?_
    refine Ar T.ZT (Abd r35.1 m r51 q5) ?_
    refine br (fun c8=>?c8y) (fun c8=>?c8n)
    case' c8y=>
     replace h:=Ac h c8
     refine Aa h fun r56 q6 h=>?_
     refine Ar T.ZT (Abd r40.1 m r56 q6) ?_
     cases h
    case' c8n=>skip
    replace h:=Ad h (nf c8)
    cases h
   case' c7n=>skip
   replace h:=Ad h (nf c7)
   refine brF ?_
   cases h
  case' c6n=>skip
  replace h:=Ad h c6
  refine brF ?_
  refine brF ?_
  cases h
 all_goals (refine CJ ?_;simp only [Bo,fits,C.asD,and_true]<;>(first|exact rfl|trivial|exact ⟨rfl,rfl⟩|exact ⟨rfl,rfl,rfl⟩|(simp [*];done)|(simp_all;done)|(simp only [Dy] at *;simp_all;first|done|rfl)))
end Go.Vm
end
section
namespace Go.Vm
open Go.Proofs Go.Proofs.YtdfbohaohjaloaaGreatDoor Punnet.Name Punnet.Num
end Go.Vm
end
section
namespace Go.Vm
open Go.Proofs Go.Proofs.YtdfbohaohjaloaaGreatDoor Punnet.Name Punnet.Num
inductive RK where
 |n|t|p|m|i|q
abbrev Oo:ByteArray:=⟨#[45]⟩
noncomputable def okK:RK→ByteArray→Bool
 | .n,a=>decide ((AU a).2=0)
 | .t,a=>(C9 a).isSome
 | .p,a=>(placeOf a).isSome
 | .m,a=>nameB a
 | .i,a=>decide (a=Oo)||nameB a
 | .q,a=>decide ((Ea a).2=0)
noncomputable def nxt (k:RK):Ba→Ba
 |⟨[],_⟩=>⟨[],true⟩
 |⟨a::l,b⟩=>⟨l,b || !okK k a⟩
def wrd:Ba→ByteArray
 |⟨[],_⟩=>noB
 |⟨a::_,_⟩=>a
def Ee (a:ByteArray):ByteArray:=if a=Oo then noB else a
def Sm (r:Ba):Prop:=∀a∈r.words,a.size≤1000000 
theorem Sm.nxt {r:Ba}(h:Sm r)(k:RK):Sm (nxt k r):=by
 obtain ⟨l,b⟩:=r
 cases l with
 |nil=>intro a ha;cases ha
 |cons x l=>intro a ha;exact h a (List.mem_cons_of_mem _ ha)
theorem Sm.wrd {r:Ba}(h:Sm r):(wrd r).size≤1000000:=by
 obtain ⟨l,b⟩:=r
 cases l with
 |nil=>exact Nat.zero_le _
 |cons x l=>exact h x (List.mem_cons_self ..)
theorem Ns {b:Bool}:IG ⟨[],b⟩=some (noB,⟨[],true⟩):=rfl
theorem Dh {a:ByteArray}{l:List ByteArray}{b:Bool}:IG ⟨a::l,b⟩=some (a,⟨l,b⟩):=by
 unfold IG
 rw [if_neg (by simp;omega),show (0:Int)=((0:Nat):Int) from rfl,Abf]
 show ((some a).bind fun p=>_)=_
 rw [Option.bind_some,show (1:Int)=((1:Nat):Int) from rfl,Xy (by simp)]
 rfl
theorem OI {b:Bool}{p:Prop} [Decidable p]{c:Bool}(h:c=decide p):decide ((b=true)∨¬p)=(b || !c):=by
 subst h;cases b<;>by_cases hp:p<;>simp [hp]
theorem number_eq {r:Ba}(h:Sm r):JG r=some ((AU (wrd r)).1,nxt .n r):=by
 have hw:=h.wrd
 obtain ⟨l,b⟩:=r
 unfold JG
 cases l with
 |nil=>rw [Ns,Option.bind_some,AA (by decide)];simp [nxt,wrd]
 |cons a l=>have hw:a.size≤1000000:=hw;rw [Dh,Option.bind_some];dsimp only;rw [AA hw];simp only [nxt,wrd];rw [OI (c:=okK .n a) rfl]
theorem EH {r:Ba}(h:Sm r):Jt r=some ((AU (wrd r)).1,nxt .n r):=by
 unfold Jt;rw [number_eq h];rfl
theorem Adp {α:Type}{x:Option α}:(¬((if x.isSome=true then (0:Int) else 4)=0))↔¬(x.isSome=true):=by cases x<;>simp
theorem SS {r:Ba}(h:Sm r):Na r=some ((C9 (wrd r)).getD AZ,nxt .t r):=by
 have hw:=h.wrd
 obtain ⟨l,b⟩:=r
 unfold Na
 cases l with
 |nil=>rw [Ns,Option.bind_some,AA (by decide)];simp [nxt,wrd]
 |cons a l=>
  have hw:a.size≤1000000:=hw
  rw [Dh,Option.bind_some];dsimp only;rw [AA hw]
  simp only [nxt,wrd,Adp]
  rw [OI (c:=okK .t a) (by show (C9 a).isSome=_;cases (C9 a).isSome<;>rfl)]
theorem Hw {r:Ba}(h:Sm r):Ju r=some ((placeOf (wrd r)).getD Ae,nxt .p r):=by
 have hw:=h.wrd
 obtain ⟨l,b⟩:=r
 unfold Ju
 cases l with
 |nil=>rw [Ns,Option.bind_some,AA (by decide)];simp [nxt,wrd]
 |cons a l=>
  have hw:a.size≤1000000:=hw
  rw [Dh,Option.bind_some];dsimp only;rw [AA hw]
  simp only [nxt,wrd,Adp]
  rw [OI (c:=okK .p a) (by show (placeOf a).isSome=_;cases (placeOf a).isSome<;>rfl)]
theorem Hg {r:Ba}:LU r=some (wrd r,nxt .m r):=by
 obtain ⟨l,b⟩:=r
 unfold LU
 cases l with
 |nil=>rw [Ns,Option.bind_some];simp [nxt,wrd]
 |cons a l=>rw [Dh,Option.bind_some];simp only [nxt,wrd];rw [OI (c:=okK .m a) (by simp [okK])]
theorem PO {r:Ba}:Nc r=some (Ee (wrd r),nxt .i r):=by
 obtain ⟨l,b⟩:=r
 unfold Nc
 cases l with
 |nil=>rw [Ns,Option.bind_some,if_neg (by decide)];simp [nxt,wrd,Ee]
 |cons a l=>
  rw [Dh,Option.bind_some]
  by_cases ha:a=Oo
  ·rw [if_pos ha];simp [nxt,wrd,Ee,okK,ha]
  ·rw [if_neg ha,OI (c:=okK .i a) (by simp [okK,ha])]
   show some (a,_)=some (Ee a,_)
   rw [Ee,if_neg ha];rfl
theorem text_eq {r:Ba}(h:Sm r):Nb r=some ((Ea (wrd r)).1,nxt .q r):=by
 have hw:=h.wrd
 obtain ⟨l,b⟩:=r
 unfold Nb
 cases l with
 |nil=>rw [Ns,Option.bind_some,AA (by decide)];simp [nxt,wrd]
 |cons a l=>have hw:a.size≤1000000:=hw;rw [Dh,Option.bind_some];dsimp only;rw [AA hw];simp only [nxt,wrd];rw [OI (c:=okK .q a) rfl]
noncomputable def okF:List RK→List ByteArray→Bool
 | [],[]=>true
 |k::ks,a::l=>okK k a&&okF ks l
 |_,_=>false
noncomputable def CP (ks:List RK)(r:Ba):Ba:=ks.foldl (fun r k=>nxt k r) r
def good (r:Ba):Bool:=!r.bad&&r.words.isEmpty
theorem JF:∀(ks:List RK) (l:List ByteArray) (b:Bool),good (CP ks ⟨l,b⟩)=(!b&&okF ks l)
 | [],[],b=>by simp [CP,good,okF]
 | [],a::l,b=>by simp [CP,good,okF]
 |k::ks,[],b=>by
  show good (CP ks (nxt k ⟨[],b⟩))=_
  rw [nxt,JF ks [] true];simp [okF]
 |k::ks,a::l,b=>by
  show good (CP ks (nxt k ⟨a::l,b⟩))=_
  rw [nxt,JF ks l _,okF];cases b<;>cases okK k a<;>rfl
theorem AbM {r:Ba}:((r.bad=true)∨(0<((r.words.length:Nat):Int)))↔good r=false:=by
 obtain ⟨l,b⟩:=r
 cases b<;>cases l<;>simp [good]<;>omega
end Go.Vm
end
