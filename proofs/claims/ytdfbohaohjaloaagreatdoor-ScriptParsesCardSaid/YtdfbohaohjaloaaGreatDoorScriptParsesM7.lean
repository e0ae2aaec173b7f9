/- Part 7. -/
import Derived.Orders
import Derived.Test.YtdfbohaohjaloaaGreatDoorProg
import Derived.KernelRfl
import Ieee.Arith
import Derived.Laws.Externs
import Derived.Laws.FloatArith
import Derived.Deep.QuietTactic
import Derived.BigQuiet
import Derived.Test.YtdfbohaohjaloaaGreatDoorScriptParsesM6
set_option linter.unusedVariables false
set_option linter.unusedSimpArgs false
set_option maxHeartbeats 1000000
section
namespace Go.Rn
open Go.RowKit
open Go.Vm (AX Dn Es Bl CU DK FB enters Closed JE FX Ey)
set_option linter.unusedSectionVars false
variable [Cx]
def OV (o:Oper)(j:Nat):Bool:=o.after.any fun e=>Region.binds .any e&&e.on==j
theorem Xy {o:Oper}{j:Nat}(h:OV o j=true):∃e∈o.after,Region.binds .any e=true∧e.on=j:=by
 unfold OV at h
 rw [Array.any_eq_true] at h
 obtain ⟨i,hi,h⟩:=h
 simp only [Bool.and_eq_true,beq_iff_eq] at h
 exact ⟨_,Array.getElem_mem hi,h.1,h.2⟩
def okR (ops:Array Oper):Bool:=(List.range ops.size).all fun i=>match ops[i]? with
 | some o=>(o.after.all fun e=>!Region.binds .any e||decide (e.on<i))&&(List.range ops.size).all fun j=>i==j||(match ops[j]? with
  | some o'=>match o'.dst with
   | some u=>(o.dst != some u)&&(!(o.looksAt ops).contains u||(if j<i then OV o j else OV o' i))
   | none=>true
  | none=>true)
 | none=>true
section
variable {ops:Array Oper}
theorem Sv (h:okR ops=true){i:Nat}{o:Oper}(hi:ops[i]? = some o):(∀e∈o.after,Region.binds .any e=true→e.on<i)∧∀j o' u,ops[j]? = some o'→j≠i→o'.dst=some u→o.dst≠some u∧(u∈o.looksAt ops→(j<i→OV o j=true)∧(i<j→OV o' i=true)):=by
 have hlt:=Ey hi
 have h1:=List.all_eq_true.1 h i (List.mem_range.2 hlt)
 rw [hi] at h1
 simp only [Bool.and_eq_true] at h1
 obtain ⟨h1,h2⟩:=h1
 refine ⟨fun e he hb=>?_,fun j o' u hj hne hu=>?_⟩
 ·rw [Array.all_eq_true] at h1
  obtain ⟨k,hk,rfl⟩:=Array.mem_iff_getElem.1 he
  have:=h1 k hk
  simp only [Bool.or_eq_true,Bool.not_eq_true',decide_eq_true_eq] at this
  rcases this with h3 | h3
  ·rw [hb] at h3;cases h3
  ·exact h3
 ·have h3:=List.all_eq_true.1 h2 j (List.mem_range.2 (Ey hj))
  rw [hj] at h3
  simp only [hu,Bool.or_eq_true,Bool.and_eq_true,beq_iff_eq,bne_iff_ne,ne_eq,Bool.not_eq_true'] at h3
  rcases h3 with h3 | ⟨h3,h4⟩
  ·exact absurd h3.symm hne
  ·refine ⟨h3,fun hm=>?_⟩
   have hc:(o.looksAt ops).contains u=true:=by simpa using hm
   rw [hc] at h4
   rcases h4 with h4 | h4
   ·cases h4
   ·refine ⟨fun hl=>?_,fun hl=>?_⟩
    ·rw [if_pos hl] at h4;exact h4
    ·rw [if_neg (by omega)] at h4;exact h4
inductive Reach (ops:Array Oper):Nat→Nat→Prop where
 | one {i j:Nat} {o:Oper} {e:Edge} (h1:ops[i]? = some o) (h2:e∈o.after) (h3:Region.binds .any e=true) (h4:e.on=j):Reach ops i j
 | more {i j k:Nat} (h1:Reach ops i k) (h2:Reach ops k j):Reach ops i j
theorem RJ {listed:Array Bool}(hc:Closed .any ops listed){i j:Nat}(h:Reach ops i j):((i∈Region.ready .any ops listed)∨listed.getD i false=true)→listed.getD j false=true:=by
 induction h with
 | one h1 h2 h3 h4=>
  intro h
  subst h4
  rcases h with h | h
  ·obtain ⟨_,o',ho',hall⟩:=mem_ready.1 h
   rw [h1] at ho';injection ho' with ho';subst ho'
   exact hall _ h2 h3
  ·exact hc _ _ h1 (JE h) _ h2 h3
 | more _ _ ih1 ih2=>intro h;exact ih2 (.inr (ih1 h))
def Pg (acc:List Nat)(o:Oper):Nat:=o.after.toList.foldl (fun m e=>match Region.binds .any e with
 | true=>Nat.lor (Nat.lor m (Nat.shiftLeft 1 e.on)) (acc.getD e.on 0)
 | false=>m) 0
def masks (l:List Oper):List Nat:=l.foldl (fun acc o=>acc ++ [Pg acc o]) []
def waits (mask j:Nat):Bool:=Nat.beq (Nat.land (Nat.shiftRight mask j) 1) 1
theorem O9 (m j:Nat):waits m j=m.testBit j:=by
 unfold waits
 rw [EN,Nat.testBit]
 have e:Nat.land (Nat.shiftRight m j) 1=1 &&& m >>> j:=by rw [Nat.and_comm];rfl
 rw [e,Nat.one_and_eq_mod_two]
 have:=Nat.mod_two_eq_zero_or_one (m >>> j)
 rcases this with h | h<;>rw [h]<;>rfl
theorem mask_spec {acc:List Nat}{i:Nat}{o:Oper}(hi:ops[i]? = some o)(hacc:∀(k m:Nat),acc[k]? = some m→∀j,m.testBit j=true→Reach ops k j):∀j,(Pg acc o).testBit j=true→Reach ops i j:=by
 unfold Pg
 have key:∀(l:List Edge) (m:Nat),(∀e∈l,e∈o.after)→(∀j,m.testBit j=true→Reach ops i j)→∀j,(l.foldl (fun m e=>match Region.binds .any e with
  | true=>Nat.lor (Nat.lor m (Nat.shiftLeft 1 e.on)) (acc.getD e.on 0)
  | false=>m) m).testBit j=true→Reach ops i j:=by
  intro l
  induction l with
  | nil=>intro m _ hm j h;exact hm j h
  | cons e l ih=>
   intro m hl hm j h
   refine ih _ (fun x hx=>hl x (List.mem_cons_of_mem _ hx)) ?_ j h
   intro j' h'
   cases hb:Region.binds .any e with
   | true=>
    have he:=hl e (List.mem_cons_self ..)
    simp only [hb] at h'
    have h2:((m ||| (1 <<< e.on)) ||| acc.getD e.on 0).testBit j'=true:=h'
    rw [Nat.testBit_or,Nat.testBit_or,Bool.or_eq_true,Bool.or_eq_true] at h2
    rcases h2 with (h2 | h2) | h2
    ·exact hm j' h2
    ·rw [Nat.one_shiftLeft,Nat.testBit_two_pow] at h2
     exact .one hi he hb (by simpa using h2)
    ·cases ha:acc[e.on]? with
     | none=>simp [List.getD_eq_getElem?_getD,ha] at h2
     | some mm=>
      simp only [List.getD_eq_getElem?_getD,ha,Option.getD_some] at h2
      exact .more (.one hi he hb rfl) (hacc _ _ ha _ h2)
   | false=>
    simp only [hb] at h'
    exact hm j' h'
 exact key _ _ (fun e he=>by simpa using he) (by simp)
theorem masks_spec (j m:Nat)(h:(masks ops.toList)[j]? = some m):∀k,m.testBit k=true→Reach ops j k:=by
 have key:∀(l:List Oper) (acc:List Nat),(∀i o,l[i]? = some o→ops[acc.length+i]? = some o)→(∀(k m:Nat),acc[k]? = some m→∀j,m.testBit j=true→Reach ops k j) →
  ∀(k m:Nat),(l.foldl (fun acc o=>acc ++ [Pg acc o]) acc)[k]? = some m→∀j,m.testBit j=true→Reach ops k j:=by
  intro l
  induction l with
  | nil=>intro acc _ h k m hk j hj;exact h k m hk j hj
  | cons o l ih=>
   intro acc hl hacc k m hk j hj
   refine ih _ (fun i o' hi=>?_) ?_ k m hk j hj
   ·have:=hl (i+1) o' (by simpa using hi)
    rw [List.length_append,List.length_singleton,Nat.add_assoc,Nat.add_comm 1 i];exact this
   ·intro k m hk j hj
    rw [List.getElem?_append] at hk
    split at hk
    ·exact hacc k m hk j hj
    ·rename_i hge
     have h0:=hl 0 o rfl
     have hke:k=acc.length:=by
      have:=(List.getElem?_eq_some_iff.1 hk).1
      simp at this;omega
     subst hke
     simp at hk
     subst hk
     exact mask_spec (by simpa using h0) hacc j hj
 exact key ops.toList [] (by simp) (by simp) j m h
theorem masks_len:(masks ops.toList).length=ops.size:=by
 have key:∀(l:List Oper) (acc:List Nat),(l.foldl (fun acc o=>acc ++ [Pg acc o]) acc).length=acc.length+l.length:=by
  intro l
  induction l with
  | nil=>intro acc;rfl
  | cons o l ih=>intro acc;rw [List.foldl_cons,ih];simp;omega
 have:=key ops.toList []
 simpa [masks] using this
end
end Go.Rn
end
section
namespace Go.Rn
open Go.RowKit
open Go.Vm (AX Dn Es Bl CU DK FB enters Closed JE FX Ey)
set_option linter.unusedSectionVars false
variable [Cx]
def St.upd (s:St)(d:Option Nat)(r:Option V):St:=match r with
 | some v=>s.put d v
 | none=>s
structure PW (P:Program) (N:Nat) (ops:Array Oper) (Ts:Nat→Tr V) (mem:Nat→Tr Blk×Nat) (b:Nat→Nat) (B i:Nat) (o:Oper):Prop where
 upd:∃r:Option V,(o.dst=none→r=none)∧(∀d,o.dst=some d→d<N∧r≠none)∧(∀u,(Ts (i+1)).get u=if o.dst=some u then r else (Ts i).get u) ∧
  ∃run,Hf ops o (Ts i).get run∧(run=false→(r=none∨r=some (.tup []))∧∀k,k<B→b k≠i) ∧
  (run=true→(∃k,k<B∧b k=i∧∀s:St,AgO o (Ts i) s→s.h=(mem k).1.get→s.n=(mem k).2→Step P N o s { (s.upd o.dst r) with h:=(mem (k+1)).1.get,n:=(mem (k+1)).2 }) ∨
    ((∀k,k<B→b k≠i)∧∃lo hi,lo≤B∧(∀k,k<lo→Reach ops i (b k))∧(hi<B→Reach ops (b hi) i)∧∀q,lo≤q→q≤hi→∀s:St,AgO o (Ts i) s→s.h=(mem q).1.get→s.n=(mem q).2→Step P N o s (s.upd o.dst r)))
def PN (P:Program)(N:Nat)(ops:Array Oper)(Ts:Nat→Tr V)(mem:Nat→Tr Blk×Nat)(b:Nat→Nat)(k:Nat):Prop:=
 ∃o T d cs,ops[b k]? = some o∧o.op=.alloc T∧o.dst=some d∧d<N∧zeroV P T=some cs∧(mem (k+1)).1.get=hset (mem k).1.get (mem k).2 (some (.cells cs))∧(mem (k+1)).2=(mem k).2+1∧(Ts (b k+1)).get d=some (.ptr (mem k).2 0) ∧
  ∀j o',ops[j]? = some o'→j≠b k→d∈o'.looksAt ops→∀k',k' < k→Reach ops j (b k')
structure Facts (P:Program) (N:Nat) (ops:Array Oper) (Ts:Nat→Tr V) (mem:Nat→Tr Blk×Nat) (b:Nat→Nat) (B kf:Nat):Prop where
 ok:okR ops=true
 lt:∀k,k<B→b k<ops.size
 chain:∀k k',k<k'→k' < B→k'≠kf→Reach ops (b k') (b k)
 inj:∀k k',k<k'→k' < B→b k≠b k'
 flo:kf<B→PN P N ops Ts mem b kf
 op:∀i o,ops[i]? = some o→PW P N ops Ts mem b B i o
section
variable {P:Program} {N base:Nat} {w0:World} {ops:Array Oper} {Ts:Nat→Tr V} {mem:Nat→Tr Blk×Nat} {b:Nat→Nat} {B kf:Nat}
theorem Facts.stay (F:Facts P N ops Ts mem b B kf){u:Nat}:∀(n i:Nat),i+n≤ops.size→(∀j o,i≤j→j<i+n→ops[j]? = some o→o.dst≠some u)→(Ts (i+n)).get u=(Ts i).get u
 | 0,i,_,_=>rfl
 | n+1,i,hle,h=>by
  have hlt:i+n<ops.size:=by omega
  have ho:ops[i+n]? = some ops[i+n]:=Array.getElem?_eq_getElem hlt
  obtain ⟨r,_,_,h2,_⟩:=(F.op _ _ ho).upd
  rw [show i+(n+1)=i+n+1 from rfl,h2,if_neg (h (i+n) _ (by omega) (by omega) ho)]
  exact F.stay n i (by omega) fun j o h1 h2 h3=>h j o h1 (by omega) h3
theorem Facts.one (F:Facts P N ops Ts mem b B kf){i j:Nat}{o o':Oper}{u:Nat}(hi:ops[i]? = some o)(hj:ops[j]? = some o')(hu:o.dst=some u)(hu':o'.dst=some u):i=j:=by
 by_cases e:i=j
 ·exact e
 ·exact absurd hu ((Sv F.ok hi).2 j o' u hj (fun h=>e h.symm) hu').1
theorem Facts.past (F:Facts P N ops Ts mem b B kf){j i:Nat}{o:Oper}{u:Nat}(hj:ops[j]? = some o)(hu:o.dst=some u)(hlt:j<i)(hi:i≤ops.size):(Ts i).get u=(Ts (j+1)).get u:=by
 have:=F.stay (u:=u) (i-(j+1)) (j+1) (by omega) fun k o' h1 h2 h3 h4=>by
  have:=F.one h3 hj h4 hu;omega
 rwa [show j+1+(i-(j+1))=i by omega] at this
structure At (ops:Array Oper) (Ts:Nat→Tr V) (mem:Nat→Tr Blk×Nat) (b:Nat→Nat) (B kf:Nat) (listed:Array Bool) (s:St) (q:Nat) (fa:Option Nat):Prop where
 size:listed.size=ops.size
 closed:Closed .any ops listed
 le:q≤B
 yes:∀k,k<q→listed.getD (b k) false=true
 no:∀k,q≤k→k<B→(k=kf→fa=none)→listed.getD (b k) false=false
 h:s.h=(mem q).1.get
 n:s.n=(mem q).2
 slot:∀j o u,ops[j]? = some o→listed.getD j false=true→o.dst=some u→(j=b kf→fa=none)→s.t u=(Ts (j+1)).get u
 rest:∀u,(∀j o,ops[j]? = some o→listed.getD j false=true→o.dst≠some u)→s.t u=(Ts 0).get u
 fl:∀x,fa=some x→q≤kf∧kf<B∧listed.getD (b kf) false=true∧∀d o,ops[b kf]? = some o→o.dst=some d→s.t d=some (.sc (.pointer (some ⟨x,0,none⟩)))
theorem getD_not {l:Array Bool}{k:Nat}(h:l.getD k false≠true)(hk:k<l.size):l.getD k true=false:=by
 simp [Array.getD_eq_getD_getElem?,Array.getElem?_eq_getElem hk] at h ⊢
 exact h
theorem Iq {l:Array Bool}{i k:Nat}(hi:i<l.size):(l.setIfInBounds i true).getD k false=true↔(k=i∨l.getD k false=true):=by
 simp only [Array.getD_eq_getD_getElem?,Array.getElem?_setIfInBounds]
 by_cases e:i=k
 ·subst e;simp [hi]
 ·rw [if_neg e]
  have:¬k=i:=fun h=>e h.symm
  simp [this]
variable {listed:Array Bool} {s:St} {q:Nat} {fa:Option Nat}
theorem At.reads (A:At ops Ts mem b B kf listed s q fa)(F:Facts P N ops Ts mem b B kf)(hqf:∀x,fa=some x→q<kf){i:Nat}{o:Oper}(hr:i∈Region.ready .any ops listed)(hi:ops[i]? = some o){u:Nat}(hu:u∈o.looksAt ops):s.t u=(Ts i).get u:=by
 obtain ⟨hun,o1,ho1,hall⟩:=mem_ready.1 hr
 rw [hi] at ho1;injection ho1 with ho1;subst ho1
 have hlt:=Ey hi
 by_cases h:∃j o',j<i∧ops[j]? = some o'∧o'.dst=some u
 ·obtain ⟨j,o',h1,h2,h3⟩:=h
  have hed:=((Sv F.ok hi).2 j o' u h2 (by omega) h3).2 hu |>.1 h1
  obtain ⟨e,he,hb,hon⟩:=Xy hed
  have hlist:=hall e he hb
  rw [hon] at hlist
  refine (A.slot j o' u h2 hlist h3 fun hj=>?_).trans (by rw [F.past h2 h3 h1 (by omega)])
  cases hfa:fa with
  | none=>rfl
  | some x=>
   exfalso
   obtain ⟨_,f2,_⟩:=A.fl x hfa
   have f1:=hqf x hfa
   obtain ⟨of,Tf,df,csf,g1,_,g2,_,_,_,_,_,g3⟩:=F.flo f2
   rw [←hj,h2] at g1;injection g1 with g1;subst g1
   rw [h3] at g2;injection g2 with g2;subst g2
   have hre:=g3 i o hi (by omega) hu q f1
   have:=RJ A.closed hre (.inl hr)
   rw [A.no q (Nat.le_refl _) (by omega) (fun e=>by omega)] at this
   cases this
 ·have hst:=F.stay (u:=u) i 0 (by omega) fun j o' _ h2 h3 h4=>h ⟨j,o',by omega,h3,h4⟩
  rw [Nat.zero_add] at hst
  rw [hst]
  refine A.rest u fun j o' h1 h2 h3=>?_
  have hge:i≤j:=by
   rcases Nat.lt_or_ge j i with hlt2 | hge
   ·exact absurd ⟨j,o',hlt2,h1,h3⟩ h
   ·exact hge
  by_cases e:j=i
  ·subst e;exact FX h2 hun
  ·have hed:=((Sv F.ok hi).2 j o' u h1 e h3).2 hu |>.2 (by omega)
   obtain ⟨e2,he,hb,hon⟩:=Xy hed
   have:=A.closed j o' h1 (JE h2) e2 he hb
   rw [hon] at this
   exact FX this hun
theorem At.next (A:At ops Ts mem b B kf listed s q fa)(F:Facts P N ops Ts mem b B kf){i:Nat}{o:Oper}(hr:i∈Region.ready .any ops listed)(hi:ops[i]? = some o){s':St}{q':Nat}(hs:∀u,s'.t u=if o.dst=some u then (Ts (i+1)).get u else s.t u)
 (hq:(q'=q∧∀k,k<B→b k≠i)∨(q'=q+1∧q<B∧b q=i)) (hfl:∀x,fa=some x→q'≤kf) (hh:s'.h=(mem q').1.get) (hn:s'.n=(mem q').2):At ops Ts mem b B kf (listed.setIfInBounds i true) s' q' fa:=by
 have hlt:=Ey hi
 have hil:i<listed.size:=by rw [A.size];exact hlt
 obtain ⟨hun,_⟩:=mem_ready.1 hr
 have hikf:∀x,fa=some x→i≠b kf:=fun x hx e=>by
  obtain ⟨_,_,f3,_⟩:=A.fl x hx
  rw [←e] at f3
  exact FX f3 hun
 refine ⟨by simp [A.size],A.closed.next hr,?_,fun k hk=>?_,fun k h1 h2 hkf=>?_,hh,hn,fun j o' u h1 h2 h3 hjf=>?_,fun u h=>?_,fun x hx=>?_⟩
 rotate_right
 ·obtain ⟨f1,f2,f3,f4⟩:=A.fl x hx
  refine ⟨hfl x hx,f2,(Iq hil).2 (.inr f3),fun d o' h1 h2=>?_⟩
  rw [hs,if_neg (fun h4=>hikf x hx (F.one hi h1 h4 h2))]
  exact f4 d o' h1 h2
 ·rcases hq with ⟨rfl,_⟩ | ⟨rfl,h1,_⟩
  ·exact A.le
  ·omega
 ·rw [Iq hil]
  rcases hq with ⟨rfl,_⟩ | ⟨rfl,h1,h2⟩
  ·exact .inr (A.yes k hk)
  ·by_cases e:k=q
   ·subst e;exact .inl h2
   ·exact .inr (A.yes k (by omega))
 ·have hne:b k≠i:=by
   rcases hq with ⟨rfl,h3⟩ | ⟨rfl,h3,h4⟩
   ·exact h3 k h2
   ·intro e
    exact F.inj q k (by omega) h2 (by rw [h4,e])
  have hq2:q≤k:=by rcases hq with ⟨rfl,_⟩ | ⟨rfl,_⟩<;>omega
  have:=A.no k hq2 h2 hkf
  have h5:¬(listed.setIfInBounds i true).getD (b k) false=true:=by
   rw [Iq hil,this];simp [hne]
  simpa using h5
 ·rw [Iq hil] at h2
  rw [hs]
  by_cases e:j=i
  ·subst e
   rw [hi] at h1;injection h1 with h1;subst h1
   rw [if_pos h3]
  ·rw [if_neg (fun h4=>e (F.one h1 hi h3 h4))]
   exact A.slot j o' u h1 (h2.resolve_left e) h3 hjf
 ·rw [hs,if_neg (h i o hi ((Iq hil).2 (.inl rfl)))]
  exact A.rest u fun j o' h1 h2=>h j o' h1 ((Iq hil).2 (.inr h2))
def IE (ops:Array Oper)(listed:Array Bool):List Nat:=(List.range ops.size).filter fun j=>!listed.getD j false
theorem Aag {i:Nat}(hs:listed.size=ops.size)(hi:i<ops.size)(hun:listed.getD i false=false):(IE ops (listed.setIfInBounds i true)).length<(IE ops listed).length:=by
 have e:IE ops (listed.setIfInBounds i true)=(IE ops listed).filter fun j=>!(j==i):=by
  unfold IE
  rw [List.filter_filter]
  apply List.filter_congr
  intro j hj
  have:=Iq (l:=listed) (i:=i) (k:=j) (by omega)
  cases h1:(listed.setIfInBounds i true).getD j false with
  | true=>
   rw [this] at h1
   rcases h1 with h1 | h1
   ·simp [h1]
   ·simp [h1]
  | false=>
   have h2:¬((listed.setIfInBounds i true).getD j false=true):=by rw [h1];simp
   rw [this] at h2
   have h3:¬j=i:=fun h=>h2 (.inl h)
   have h4:listed.getD j false=false:=by
    cases h5:listed.getD j false with
    | true=>exact absurd (.inr h5) h2
    | false=>rfl
   simp [h3,h4]
 rw [e]
 refine List.length_filter_lt_length_iff_exists.2 ⟨i,?_,by simp⟩
 unfold IE
 rw [List.mem_filter]
 exact ⟨List.mem_range.2 hi,by simp [hun]⟩
theorem VA (F:Facts P N ops Ts mem b B kf)(hs:listed.size=ops.size)(h0:Region.ready .any ops listed= []):∀j,j<ops.size→listed.getD j false=true:=by
 intro j
 induction j using Nat.strongRecOn with
 | _ j ih=>
  intro hj
  by_cases h:listed.getD j false=true
  ·exact h
  ·exfalso
   have ho:ops[j]? = some ops[j]:=Array.getElem?_eq_getElem hj
   have:j∈Region.ready .any ops listed:=mem_ready.2 ⟨getD_not h (by omega),_,ho,fun e he hb=>by
    have hlt:=(Sv F.ok ho).1 e he hb
    exact ih _ hlt (by omega)⟩
   rw [h0] at this;cases this
end
end Go.Rn
end
section
namespace Go.Rn
open Go.RowKit
open Go.Vm (AX Dn Es Bl CU DK FB enters Closed JE FX Ey P6)
set_option linter.unusedSectionVars false
variable [Cx]
section
variable {P:Program} {N base:Nat} {w0:World} {ops:Array Oper} {Ts:Nat→Tr V} {mem:Nat→Tr Blk×Nat} {b:Nat→Nat} {B kf:Nat}
theorem At.done {listed:Array Bool}{s:St}{q:Nat}(A:At ops Ts mem b B kf listed s q none)(F:Facts P N ops Ts mem b B kf)(h:∀j,j<ops.size→listed.getD j false=true):s=stT (Ts ops.size) (mem B).1 (mem B).2:=by
 have hq:q=B:=by
  rcases Nat.lt_or_ge q B with h1 | h1
  ·have:=A.no q (Nat.le_refl _) h1 (fun _=>rfl)
   rw [h _ (F.lt q h1)] at this;cases this
  ·have:=A.le;omega
 subst hq
 obtain ⟨t,hp,n⟩:=s
 have h1:hp=(mem q).1.get:=A.h
 have h2:n=(mem q).2:=A.n
 subst h1 h2
 simp only [stT]
 congr 1
 funext u
 by_cases hu:∃(j:Nat) (o:Oper),ops[j]? = some o∧o.dst=some u
 ·obtain ⟨j,o,h3,h4⟩:=hu
  have hlt:=Ey h3
  rw [show t u=_ from A.slot j o u h3 (h j hlt) h4 (fun _=>rfl),F.past h3 h4 hlt (Nat.le_refl _)]
 ·have hst:=F.stay (u:=u) ops.size 0 (by omega) fun j o _ _ h3 h4=>hu ⟨j,o,h3,h4⟩
  rw [Nat.zero_add] at hst
  rw [show t u=_ from A.rest u fun j o h3 _ h4=>hu ⟨j,o,h3,h4⟩,hst]
theorem Mem.float {n:Nat}{π:Pi}{h:Hp}{w:World}(hm:Mem base w0 π h n w)(o:Obj):Mem base w0 ⟨π.pl,π.op,(w.heap.size,o)::π.fl⟩ h n (w.alloc o):=by
 have hbl:Below w.heap.size w (w.alloc o):=(Below.refl _ w).alloc (Nat.le_refl _) o
 have hk:=hm.keep hbl
 have hsub:π.sub ⟨π.pl,π.op,(w.heap.size,o)::π.fl⟩:=⟨fun _ _ h=>h,rfl⟩
 refine ⟨fun k c hc=>?_,hm.sep,hm.fresh,hk.lt,hk.below,hk.size,hm.ctx,fun x hx=>?_⟩
 ·obtain ⟨q,h1,h2,h3⟩:=hk.place k c hc
  exact ⟨q,h1,h2.sub hsub,h3⟩
 ·rcases List.mem_cons.1 hx with rfl | hx
  ·exact ⟨hm.size,heap_alloc_new w o,fun id p hp=>by have:=hm.lt id p hp;simp only;omega⟩
  ·exact hk.fl x hx
theorem Mem.land {n x:Nat}{π:Pi}{h:Hp}{w:World}(hm:Mem base w0 π h n w){z:Array Value}{e:TypeId}{l:List (Nat×Obj)}(hfl:π.fl=(x,.cells z e (0,0))::l)(hnd:∀y∈l,y.1≠x)(ho:z.toList.all (·.oneCell')=true) :
 π.sub ⟨fun k=>if k=n then some ⟨x,0,z.size,1⟩ else π.pl k,π.op,l⟩∧Mem base w0 ⟨fun k=>if k=n then some ⟨x,0,z.size,1⟩ else π.pl k,π.op,l⟩ (hset h n (some (.cells (z.toList.map .sc)))) (n+1) w:=by
 have hsub:π.sub ⟨fun k=>if k=n then some ⟨x,0,z.size,1⟩ else π.pl k,π.op,l⟩:=⟨fun k q hq=>by
  show (if k=n then _ else π.pl k)=some q
  rw [if_neg (by rintro rfl;rw [hm.fresh k (Nat.le_refl _)] at hq;cases hq)]
  exact hq,rfl⟩
 obtain ⟨x1,x2,x3⟩:=hm.fl (x,.cells z e (0,0)) (by rw [hfl];exact List.mem_cons_self ..)
 have hne:∀k c,h k=some c→k≠n:=by
  rintro k c h0 rfl
  obtain ⟨q,h1,_⟩:=hm.place k c h0
  rw [hm.fresh k (Nat.le_refl _)] at h1;cases h1
 have hpl:∀k q,(if k=n then some (⟨x,0,z.size,1⟩:Pl) else π.pl k)=some q→(k=n∧q=⟨x,0,z.size,1⟩)∨(k≠n∧π.pl k=some q):=fun k q hq=>by
  split at hq
  ·rename_i e1;injection hq with hq;exact .inl ⟨e1,hq.symm⟩
  ·rename_i e1;exact .inr ⟨e1,hq⟩
 refine ⟨hsub,fun k c hc=>?_,fun k k' c c' q q' hc hc' r r' hq hq' e=>?_,fun k hk=>?_,fun k q hq=>?_,hm.below,hm.size,hm.ctx,fun y hy=>?_⟩
 ·unfold hset at hc
  split at hc
  ·rename_i e1;subst e1;injection hc with hc;subst hc
   refine ⟨⟨x,0,z.size,1⟩,if_pos rfl,⟨z,e,z.toList,x2,by simp,LW ho,List.all_eq_true.1 ho,by simp,fun j u hj=>by simpa using hj⟩,fun _=>x1,fun h0=>by cases h0⟩
  ·rename_i e1
   obtain ⟨q,h1,h2,h3⟩:=hm.place k c hc
   exact ⟨q,hsub.1 k q h1,h2.sub hsub,h3⟩
 ·unfold hset at hc hc'
  rcases hpl k q hq with ⟨e1,e2⟩ | ⟨e1,e2⟩<;>rcases hpl k' q' hq' with ⟨e3,e4⟩ | ⟨e3,e4⟩
  ·rw [e1,e3]
  ·exact absurd (by rw [←e,e2]) (x3 k' q' e4)
  ·exact absurd (by rw [e,e4]) (x3 k q e2)
  ·rw [if_neg e1] at hc
   rw [if_neg e3] at hc'
   exact hm.sep k k' c c' q q' hc hc' r r' e2 e4 e
 ·show (if k=n then _ else π.pl k)=none
  rw [if_neg (by omega)];exact hm.fresh k (by omega)
 ·rcases hpl k q hq with ⟨_,e2⟩ | ⟨_,e2⟩
  ·rw [e2];exact (Array.getElem?_eq_some_iff.1 x2).1
  ·exact hm.lt k q e2
 ·obtain ⟨y1,y2,y3⟩:=hm.fl y (by rw [hfl];exact List.mem_cons_of_mem _ hy)
  refine ⟨y1,y2,fun k q hq=>?_⟩
  rcases hpl k q hq with ⟨_,e2⟩ | ⟨_,e2⟩
  ·rw [e2];exact fun e3=>hnd y hy e3.symm
  ·exact y3 k q e2
theorem At.land {listed:Array Bool}{s:St}{x d:Nat}{o:Oper}(A:At ops Ts mem b B kf listed s kf (some x))(F:Facts P N ops Ts mem b B kf)(ho:ops[b kf]? = some o)(hd:o.dst=some d)(hts:(Ts (b kf+1)).get d=some (.ptr (mem kf).2 0)) :
 At ops Ts mem b B kf listed { (s.put (some d) (.ptr (mem kf).2 0)) with h:=(mem (kf+1)).1.get,n:=(mem (kf+1)).2 } (kf+1) none:=by
 obtain ⟨_,f2,f3,_⟩:=A.fl x rfl
 have ht:∀u,(s.put (some d) (.ptr (mem kf).2 0)).t u=if u=d then some (.ptr (mem kf).2 0) else s.t u:=fun u=>rfl
 refine ⟨A.size,A.closed,by omega,fun k hk=>?_,fun k h1 h2 _=>A.no k (by omega) h2 (fun e=>by omega),rfl,rfl,fun j o' u h1 h2 h3 _=>?_,fun u h=>?_,fun x hx=>by cases hx⟩
 ·by_cases e:k=kf
  ·subst e;exact f3
  ·exact A.yes k (by omega)
 ·show (s.put (some d) (.ptr (mem kf).2 0)).t u=_
  rw [ht]
  by_cases e:j=b kf
  ·subst e
   rw [ho] at h1;injection h1 with h1;subst h1
   rw [hd] at h3;injection h3 with h3;subst h3
   rw [if_pos rfl];exact hts.symm
  ·have:¬u=d:=fun h4=>e (F.one h1 ho h3 (by rw [hd,h4]))
   rw [if_neg this]
   exact A.slot j o' u h1 h2 h3 (fun h4=>absurd h4 e)
 ·show (s.put (some d) (.ptr (mem kf).2 0)).t u=_
  rw [ht,if_neg (fun e=>h (b kf) o ho f3 (by rw [hd,e]))]
  exact A.rest u h
def FlR (P:Program)(ops:Array Oper)(b:Nat→Nat)(kf:Nat)(π0 π:Pi):Option Nat→Prop
 | none=>π.fl=π0.fl
 | some x=>∃(z:Array Value) (e:TypeId),π.fl=(x,.cells z e (0,0))::π0.fl∧(∀y∈π0.fl,y.1≠x)∧z.toList.all (·.oneCell')=true∧∀o T cs,ops[b kf]? = some o→o.op=.alloc T→zeroV P T=some cs→cs=z.toList.map .sc
theorem FlR.le {π0 π π':Pi}{fa:Option Nat}(h:FlR P ops b kf π0 π fa)(hl:π.le π'):FlR P ops b kf π0 π' fa:=by
 cases fa with
 | none=>exact hl.2.2.trans h
 | some x=>
  obtain ⟨z,e,h1,h2⟩:=h
  exact ⟨z,e,hl.2.2.trans h1,h2⟩
theorem wpAny_of (F:Facts P N ops Ts mem b B kf){Q:Exit→Act→World→Prop}{π0:Pi}(hQ:∀π' a' w',π0.le π'→Rel base N w0 π' (stT (Ts ops.size) (mem B).1 (mem B).2) a' w'→Q .normal a' w'):∀(fuel:Nat) (listed:Array Bool) (s:St) (q:Nat) (fa:Option Nat) (π:Pi) (a:Act) (w:World),At ops Ts mem b B kf listed s q fa→(∀x,fa=some x→q<kf)→Rel base N w0 π s a w→π0.sub π→FlR P ops b kf π0 π fa→(IE ops listed).length≤fuel →
 wpAny P .any ops Q fuel listed a w:=by
 have none_of:∀{listed:Array Bool} {s:St} {q:Nat} {fa:Option Nat},At ops Ts mem b B kf listed s q fa→(∀x,fa=some x→q<kf)→(∀j,j<ops.size→listed.getD j false=true)→fa=none:=by
  intro listed s q fa A hqf h
  cases fa with
  | none=>rfl
  | some x=>
   exfalso
   have f1:=hqf x rfl
   obtain ⟨_,f2,_⟩:=A.fl x rfl
   have:=A.no q (Nat.le_refl _) (by omega) (fun e=>by omega)
   rw [h _ (F.lt q (by omega))] at this;cases this
 intro fuel
 induction fuel with
 | zero=>
  intro listed s q fa π a w A hqf hr hsub hfl hu
  have hall:∀j,j<ops.size→listed.getD j false=true:=by
   intro j hj
   by_cases h:listed.getD j false=true
   ·exact h
   ·exfalso
    have:j∈IE ops listed:=by
     unfold IE
     rw [List.mem_filter]
     exact ⟨List.mem_range.2 hj,by simpa using h⟩
    have h1:IE ops listed= []:=List.length_eq_zero_iff.1 (by omega)
    rw [h1] at this;cases this
  refine ⟨?_,?_⟩
  ·apply List.eq_nil_iff_forall_not_mem.2
   intro i hi
   obtain ⟨h1,o,h2,_⟩:=mem_ready.1 hi
   exact FX (hall i (Ey h2)) h1
  ·obtain rfl:=none_of A hqf hall
   rw [A.done F hall] at hr
   exact hQ π a w ⟨hsub.1,hsub.2,hfl⟩ hr
 | succ fuel ih=>
  intro listed s q fa π a w A hqf hr hsub hfl hu
  refine ⟨fun h0=>?_,fun i hi=>?_⟩
  ·obtain rfl:=none_of A hqf (VA F A.size h0)
   rw [A.done F (VA F A.size h0)] at hr
   exact hQ π a w ⟨hsub.1,hsub.2,hfl⟩ hr
  ·obtain ⟨hun,o,ho,hall⟩:=mem_ready.1 hi
   have hlt:=Ey ho
   have hunf:listed.getD i false=false:=by
    cases h:listed.getD i false with
    | true=>exact (FX h hun).elim
    | false=>rfl
   have hfuel:(IE ops (listed.setIfInBounds i true)).length≤fuel:=by
    have:=Aag A.size hlt hunf;omega
   have hread:∀u,u∈o.looksAt ops→s.t u=(Ts i).get u:=fun u hu=>A.reads F hqf hi ho hu
   have hag:AgO o (Ts i) s:=by
    intro x v hx hv
    cases x with
    | tmp u=>rw [show Am s (.tmp u)=s.t u from rfl,hread u (P6 hx)];exact hv
    | const c=>exact hv
    | func f=>exact hv
    | global g=>exact hv
   obtain ⟨r,hr1,hr2,hr3,run,hw,hskip,hrun⟩:=(F.op i o ho).upd
   have hw':Hf ops o s.t run:=by
    unfold Hf at *
    cases hg:o.guard with
    | none=>rw [hg] at hw;exact hw
    | some p=>
     obtain ⟨j,want⟩:=p
     rw [hg] at hw
     obtain ⟨oj,u,h1,h2,h3⟩:=hw
     have hm:u∈o.looksAt ops:=by
      unfold Oper.looksAt
      rw [hg]
      simp [h1,h2]
     rw [←hread u hm] at h3
     exact ⟨oj,u,h1,h2,h3⟩
   have hput:∀(s1:St) (u:Nat),(s1.upd o.dst r).t u=if o.dst=some u then (Ts (i+1)).get u else s1.t u:=by
    intro s1 u
    cases hd:o.dst with
    | none=>rw [hr1 hd];simp [St.upd]
    | some d=>
     obtain ⟨_,h2⟩:=hr2 d hd
     cases hrr:r with
     | none=>exact absurd hrr h2
     | some v=>
      simp only [St.upd,St.put]
      by_cases e:u=d
      ·subst e
       rw [if_pos rfl,if_pos rfl,hr3,if_pos hd,hrr]
      ·rw [if_neg e,if_neg (fun h=>e (by injection h with h;exact h.symm))]
   unfold wpOp
   rw [ho]
   simp only
   cases run with
   | false=>
    rw [if_neg (by rw [Rf hr hw'];decide)]
    obtain ⟨hs1,hs2⟩:=hskip rfl
    have hsk:=hr.skipped (d:=o.dst) (fun u hu=>(hr2 u hu).1)
    refine ih _ (s.put o.dst (.tup [])) q fa π _ w (A.next F hi ho (fun u=>?_) (.inl ⟨rfl,hs2⟩) (fun x hx=>Nat.le_of_lt (hqf x hx)) ?_ ?_) hqf hsk hsub hfl hfuel
    ·have:=hput s u
     rw [←this]
     rcases hs1 with e | e
     ·rw [e]
      cases hd:o.dst with
      | none=>rfl
      | some d=>exact absurd e (hr2 d hd).2
     ·rw [e];rfl
    ·cases hd:o.dst<;>exact A.h
    ·cases hd:o.dst<;>exact A.n
   | true=>
    rw [if_pos (Rf hr hw')]
    refine .inl ?_
    have hqn:q=kf→fa=none:=fun e=>by
     cases hfa:fa with
     | none=>rfl
     | some x=>have:=hqf x hfa;omega
    rcases hrun rfl with ⟨k,h1,h2,h3⟩ | ⟨h1,lo,hi2,hlB,h2,h3,h4⟩
    ·rcases Nat.lt_trichotomy k q with h | h | h
     ·have:=A.yes k h
      rw [h2] at this
      exact (FX this hun).elim
     ·subst h
      refine h3 s hag A.h A.n base w0 π a w hr _ Q fun π' a' w' hle hr'=>?_
      have A':=A.next F hi ho (fun u=>hput s u) (.inr ⟨rfl,h1,h2⟩) (s':={ (s.upd o.dst r) with h:=(mem (k+1)).1.get,n:=(mem (k+1)).2 }) (fun x hx=>hqf x hx) rfl rfl
      have hfl':=hfl.le hle
      have hsub':=Pi.Ru hsub hle.sub
      by_cases hadopt:k+1=kf∧∃x,fa=some x
      ·obtain ⟨e1,x,hx⟩:=hadopt
       subst hx
       obtain ⟨_,f2,f3,f4⟩:=A'.fl x rfl
       obtain ⟨of,Tf,df,csf,g1,g2,g3,g4,g5,g6,g7,g8,_⟩:=F.flo f2
       obtain ⟨z,e,l1,l2,l3,l4⟩:=hfl'
       have hcs:=l4 of Tf csf g1 g2 g5
       have hlast:=f4 df of g1 g3
       obtain ⟨m1,m2⟩:=hr'.mem.land l1 l2 l3
       have A2:At ops Ts mem b B kf (listed.setIfInBounds i true) { (s.upd o.dst r) with h:=(mem (k+1)).1.get,n:=(mem (k+1)).2 } kf (some x):=e1▸A'
       have A3:=A2.land F g1 g3 g8
       have hlt:∀x,(none:Option Nat)=some x→kf+1<kf:=fun x hx=>by cases hx
       refine ih _ _ (kf+1) none _ a' w' A3 hlt ⟨?_,hr'.tsz,hr'.defs,fun u v hv=>?_⟩ (Pi.Ru hsub' m1) rfl hfuel
       ·show Mem base w0 _ (mem (kf+1)).1.get (mem (kf+1)).2 w'
        rw [g6,g7,hcs,←e1]
        exact m2
       ·have hv:(if u=df then some (V.ptr (mem kf).2 0) else (s.upd o.dst r).t u)=some v:=hv
        split at hv
        ·rename_i eu
         injection hv with hv
         subst hv eu
         obtain ⟨y,y1,y2⟩:=hr'.slot u _ hlast
         refine ⟨y,y1,?_⟩
         rw [Ai] at y2
         have y2:some (Value.pointer (some ⟨x,0,none⟩))=some y:=y2
         rw [Ai]
         have:(if (mem kf).2=(mem (k+1)).2 then some (⟨x,0,z.size,1⟩:Pl) else π'.pl (mem kf).2)=some ⟨x,0,z.size,1⟩:=if_pos (by rw [e1])
         show (match (if (mem kf).2=(mem (k+1)).2 then some (⟨x,0,z.size,1⟩:Pl) else π'.pl (mem kf).2) with
          | some p=>some (Value.pointer (some ⟨p.b,p.base+0,none⟩))
          | none=>none)=some y
         rw [this]
         exact y2
        ·obtain ⟨y,y1,y2⟩:=hr'.slot u v hv
         exact ⟨y,y1,Ot m1 y2⟩
      ·refine ih _ _ (k+1) fa π' a' w' A' (fun x hx=>?_) hr' hsub' hfl' hfuel
       have h4:=hqf x hx
       rcases Nat.lt_or_ge (k+1) kf with h5 | h5
       ·exact h5
       ·exact absurd ⟨by omega,x,hx⟩ hadopt
     ·by_cases hk:k=kf
      ·subst hk
       have hfa:fa=none:=by
        cases hfa:fa with
        | none=>rfl
        | some x=>
         exfalso
         obtain ⟨_,_,f3,_⟩:=A.fl x hfa
         rw [h2] at f3
         exact FX f3 hun
       subst hfa
       obtain ⟨of,Tf,df,csf,g1,g2,g3,g4,g5,g6,g7,g8,_⟩:=F.flo h1
       rw [h2,ho] at g1;injection g1 with g1;subst g1
       obtain ⟨inf,z,z1,z2,z3,z4⟩:=NY g5
       have hexec:(execOp a.eval o).run P w=.ok (.value (.pointer (some ⟨w.heap.size,0,none⟩))) (w.alloc (.cells z.cells Tf)):=by simp [execOp,g2,Instr.alloc,zeroValue,typeInfo,z1,z2,newVar,newRow]
       unfold Oper.wp
       rw [hexec,Oper.upon_value,g3]
       have hsubf:π.sub ⟨π.pl,π.op,(w.heap.size,.cells z.cells Tf (0,0))::π.fl⟩:=⟨fun _ _ h=>h,rfl⟩
       have hmf:=hr.mem.float (.cells z.cells Tf (0,0))
       have hrf:Rel base N w0 ⟨π.pl,π.op,(w.heap.size,.cells z.cells Tf (0,0))::π.fl⟩ (s.put (some df) (.sc (.pointer (some ⟨w.heap.size,0,none⟩)))) (a.put (some df) (.pointer (some ⟨w.heap.size,0,none⟩))) (w.alloc (.cells z.cells Tf (0,0))):=by
        refine ⟨hmf,by simp [Act.put,hr.tsz],hr.defs,fun u v hv=>?_⟩
        have hv:(if u=df then some (V.sc (.pointer (some ⟨w.heap.size,0,none⟩))) else s.t u)=some v:=hv
        split at hv
        ·rename_i eu
         injection hv with hv
         subst hv eu
         exact ⟨.pointer (some ⟨w.heap.size,0,none⟩),by simp [Act.put,hr.tsz,g4],by rw [Ai,if_pos (by rfl)]⟩
        ·rename_i eu
         obtain ⟨y,y1,y2⟩:=hr.slot u v hv
         refine ⟨y,?_,Ot hsubf y2⟩
         rw [←y1]
         simp [Act.put,Array.getElem?_setIfInBounds_ne (fun q=>eu q.symm)]
       have hil:i<listed.size:=by rw [A.size];exact hlt
       refine ih _ (s.put (some df) (.sc (.pointer (some ⟨w.heap.size,0,none⟩)))) q (some w.heap.size) _ _ _ ⟨by simp [A.size],A.closed.next hi,A.le,fun k' hk'=>(Iq hil).2 (.inr (A.yes k' hk')),fun k' q1 q2 q3=>?_,A.h,A.n,fun j o' u q1 q2 q3 q4=>?_,fun u hu=>?_,fun x hx=>?_⟩ (fun x _=>h) hrf (Pi.Ru hsub hsubf) ?_ hfuel
       ·have hne:k'≠k:=fun e=>by have:=q3 e;cases this
        have h6:=A.no k' q1 q2 (fun _=>rfl)
        have h7:b k'≠i:=by
         rcases Nat.lt_or_gt_of_ne hne with h8 | h8
         ·intro e;exact F.inj k' k h8 h1 (by rw [e,h2])
         ·intro e;exact F.inj k k' h8 q2 (by rw [e,h2])
        have h5:¬(listed.setIfInBounds i true).getD (b k') false=true:=by
         rw [Iq hil,h6];simp [h7]
        simpa using h5
       ·have hji:j≠i:=fun e=>by have:=q4 (by rw [e,h2]);cases this
        have hud:¬u=df:=fun e=>hji (F.one q1 ho q3 (by rw [g3,e]))
        show (if u=df then _ else s.t u)=_
        rw [if_neg hud]
        exact A.slot j o' u q1 (((Iq hil).1 q2).resolve_left hji) q3 (fun _=>rfl)
       ·have hud:¬u=df:=fun e=>hu i o ho ((Iq hil).2 (.inl rfl)) (by rw [g3,e])
        show (if u=df then _ else s.t u)=_
        rw [if_neg hud]
        exact A.rest u fun j o' q1 q2=>hu j o' q1 ((Iq hil).2 (.inr q2))
       ·injection hx with hx
        subst hx
        refine ⟨Nat.le_of_lt h,h1,by rw [h2];exact (Iq hil).2 (.inl rfl),fun d o' q1 q2=>?_⟩
        rw [h2,ho] at q1;injection q1 with q1;subst q1
        rw [g3] at q2;injection q2 with q2;subst q2
        exact if_pos rfl
       ·refine ⟨z.cells,Tf,by rw [show π.fl=π0.fl from hfl],fun y hy=>?_,List.all_eq_true.2 z4,fun o' T' cs' q1 q2 q3=>?_⟩
        ·have:=(hr.mem.fl y (by rw [show π.fl=π0.fl from hfl];exact hy)).2.1
         have:=(Array.getElem?_eq_some_iff.1 this).1
         omega
        ·rw [h2,ho] at q1;injection q1 with q1;subst q1
         rw [g2] at q2;injection q2 with q2;subst q2
         rw [g5] at q3;injection q3 with q3;subst q3
         exact z3
      ·have hre:=F.chain q k h h1 hk
       rw [h2] at hre
       have h5:=RJ A.closed hre (.inl hi)
       have h6:=A.no q (Nat.le_refl _) (by omega) hqn
       rw [h6] at h5;cases h5
    ·have hlo:lo≤q:=by
      rcases Nat.lt_or_ge q lo with h | h
      ·exfalso
       have h6:=RJ A.closed (h2 q h) (.inl hi)
       rw [A.no q (Nat.le_refl _) (by omega) hqn] at h6;cases h6
      ·exact h
     have hhi:q≤hi2:=by
      rcases Nat.lt_or_ge hi2 q with h | h
      ·exfalso
       have h5:=A.yes hi2 h
       have h6:=RJ A.closed (h3 (by have:=A.le;omega)) (.inr h5)
       exact FX h6 hun
      ·exact h
     refine h4 q hlo hhi s hag A.h A.n base w0 π a w hr _ Q fun π' a' w' hle hr'=>?_
     refine ih _ _ q fa π' a' w' (A.next F hi ho (fun u=>hput s u) (.inl ⟨rfl,h1⟩) (fun x hx=>Nat.le_of_lt (hqf x hx)) ?_ ?_) hqf hr' (Pi.Ru hsub hle.sub) (hfl.le hle) hfuel
     ·cases r<;>cases hd:o.dst<;>exact A.h
     ·cases r<;>cases hd:o.dst<;>exact A.n
theorem rc_drawn (hm:P.follows .mixedOrders=true)(F:Facts P N ops Ts mem b B kf)(id:Nat):RC P N (.region id ops true) (stT (Ts 0) (mem 0).1 (mem 0).2) .normal (stT (Ts ops.size) (mem B).1 (mem B).2):=by
 intro base w0 π a w hr Q hQ
 refine wp_region_any hm (wpAny_of F (π0:=π) hQ ops.size _ (stT (Ts 0) (mem 0).1 (mem 0).2) 0 none π a _ ⟨by simp,?_,Nat.zero_le _,fun k h=>by omega,fun k _ h _=>?_,rfl,rfl,fun j o u h1 h2=>?_,fun u _=>rfl,fun x hx=>by cases hx⟩ (fun x hx=>by cases hx) ?_ ⟨fun _ _ h=>h,rfl⟩ rfl ?_)
 ·intro k o ho hl
  exfalso
  have hlt:=Ey ho
  simp [hlt] at hl
 ·simp [F.lt k h]
 ·exfalso
  simp [Ey h1] at h2
 ·exact ⟨hr.mem.keep ((Below.refl _ _).drew),hr.tsz,hr.defs,hr.slot⟩
 ·unfold IE
  refine Nat.le_trans (List.length_filter_le _ _) (by simp)
end
end Go.Rn
end
section
namespace Go.Rn
open Go.RowKit
open Go.Vm (AX Dn Es Bl CU DK FB enters Closed JE FX Ey P6)
set_option linter.unusedSectionVars false
noncomputable def eqSc (a b:Value):Bool:=match a,b with
 | .int k i,.int k' j=>match JC k k' with
  | true=>eqI i j
  | false=>false
 | .bool true,.bool true=>true
 | .bool false,.bool false=>true
 | .string s,.string r=>eqB s.data.toList r.data.toList
 | .pointer none,.pointer none=>true
 | .map none,.map none=>true
 | .slice none 0 0,.slice none 0 0=>true
 | .nilFunc,.nilFunc=>true
 | .complex .f64 a b,.complex .f64 c d=>match Nat.beq a c with
  | true=>Nat.beq b d
  | false=>false
 | _,_=>false
theorem eqSc_spec {a b:Value}(h:eqSc a b=true):a=b:=by
 unfold eqSc at h
 split at h
 ·split at h
  ·rename_i hs
   cases Lj hs
   rw [eqI_eq] at h
   rw [of_decide_eq_true h]
  ·cases h
 ·rfl
 ·rfl
 ·rw [eqS] at h;rw [of_decide_eq_true h]
 ·rfl
 ·rfl
 ·rfl
 ·rfl
 ·split at h
  ·rename_i h1
   rw [Nat.eq_of_beq_eq_true h1,Nat.eq_of_beq_eq_true h]
  ·cases h
 ·cases h
def eqC (a b:Option Nat):Bool:=match a,b with
 | none,none=>true
 | some a,some b=>Nat.beq a b
 | _,_=>false
theorem eqC_spec {a b:Option Nat}(h:eqC a b=true):a=b:=by
 cases a<;>cases b<;>first | rfl | (cases h;done) | (rw [Nat.eq_of_beq_eq_true (show Nat.beq _ _=true from h)])
noncomputable def eqO (a b:V):Bool:=match a,b with
 | .sc x,.sc y=>eqSc x y
 | .ptr i o,.ptr i' o'=>match Nat.beq i i' with
  | true=>Nat.beq o o'
  | false=>false
 | .sl i o s n c,.sl i' o' s' n' c'=>match Nat.beq i i' with
  | true=>match Nat.beq o o' with
   | true=>match Nat.beq s s' with
    | true=>match Nat.beq n n' with
     | true=>eqC c c'
     | false=>false
    | false=>false
   | false=>false
  | false=>false
 | .mp i,.mp i'=>Nat.beq i i'
 | .fn f [],.fn f' []=>Nat.beq f f'
 | .opq k,.opq k'=>Nat.beq k k'
 | _,_=>false
theorem eqO_spec {a b:V}(h:eqO a b=true):a=b:=by
 unfold eqO at h
 split at h
 ·rw [eqSc_spec h]
 ·split at h
  ·rename_i h1;rw [Nat.eq_of_beq_eq_true h1,Nat.eq_of_beq_eq_true h]
  ·cases h
 ·split at h
  ·rename_i h1
   split at h
   ·rename_i h2
    split at h
    ·rename_i h3
     split at h
     ·rename_i h4
      rw [Nat.eq_of_beq_eq_true h1,Nat.eq_of_beq_eq_true h2,Nat.eq_of_beq_eq_true h3,Nat.eq_of_beq_eq_true h4,eqC_spec h]
     ·cases h
    ·cases h
   ·cases h
  ·cases h
 ·rw [Nat.eq_of_beq_eq_true h]
 ·rw [Nat.eq_of_beq_eq_true h]
 ·rw [Nat.eq_of_beq_eq_true h]
 ·cases h
noncomputable def eqL (l:List V):List V→Bool:=@List.rec V (fun _=>List V→Bool) (fun m=>match m with
 | []=>true
 | _::_=>false) (fun a _ ih m=>match m with
 | []=>false
 | b::m=>match eqO a b with
  | true=>ih m
  | false=>false) l
theorem eqL_spec:∀{l m:List V},eqL l m=true→l=m
 | [],[],_=>rfl
 | [],_::_,h=>by cases h
 | _::_,[],h=>by cases h
 | a::l,b::m,h=>by
  have h:(match eqO a b with | true=>eqL l m | false=>false)=true:=h
  split at h
  ·rename_i h1;rw [eqO_spec h1,eqL_spec h]
  ·cases h
noncomputable def eqV (a b:V):Bool:=match a,b with
 | .agg l,.agg m=>eqL l m
 | a,b=>eqO a b
theorem TY {a b:V}(h:eqV a b=true):a=b:=by
 unfold eqV at h
 split at h
 ·rw [eqL_spec h]
 ·exact eqO_spec h
structure Pd where
 i:Nat
 id:Nat
 off:Nat
 k:Nat
 ag:Bool
 v:V
def OQ (h:Hp)(p:Pd):Prop:=∃b cs,h p.id=some b∧b.cs=some cs∧Ih (p.ag,p.k) cs p.off=some p.v
noncomputable def seeK (m:Tr Blk)(p:Pd)(K:Prop):Prop:=match m.get p.id with
 | some b=>match b.cs with
  | some cs=>Gu p.ag p.k cs p.off fun v=>match eqV p.v v with
   | true=>K
   | false=>False
  | none=>False
 | none=>False
theorem WC {m:Tr Blk}{p:Pd}{K:Prop}(h:seeK m p K):OQ m.get p∧K:=by
 unfold seeK at h
 split at h
 ·rename_i b hb
  split at h
  ·rename_i cs hcs
   obtain ⟨v,h1,h2⟩:=Hm h
   split at h2
   ·rename_i he
    rw [←TY he] at h1
    exact ⟨⟨b,cs,hb,hcs,h1⟩,h2⟩
   ·exact h2.elim
  ·exact h.elim
 ·exact h.elim
abbrev Sn:=List (Nat×Tr Blk×Nat)
noncomputable def prevK (mask:Nat)(p:Pd)(l:Sn):Prop→Prop:=@List.rec (Nat×Tr Blk×Nat) (fun _=>Prop→Prop) (fun K=>K) (fun e _ ih K=>match waits mask e.1 with
 | true=>K
 | false=>seeK e.2.1 p (ih K)) l
noncomputable def pendK (mask:Nat)(m:Tr Blk)(l:List Pd):(List Pd→Prop)→Prop:=@List.rec Pd (fun _=>(List Pd→Prop)→Prop) (fun K=>K []) (fun p _ ih K=>match waits mask p.i with
 | true=>ih K
 | false=>seeK m p (ih fun l=>K (p::l))) l
def isBar (o:Oper):Bool:=match o.op with
 | .call c=>match c.callee with
  | .builtin .len=>false
  | .builtin .min=>false
  | .builtin .max=>false
  | _=>true
 | .box _ _=>true
 | .alloc _=>true
 | .buildSlice _ _ _=>true
 | .makeSlice _ _ _=>true
 | .makeMap _ _=>true
 | .range _ _=>true
 | .store _ _ _=>true
 | .mapEntry _ _ _=>true
 | .entryStore _ _ _ _=>true
 | _=>false
noncomputable def isText (o:Oper)(t:Tr V):Bool:=match o.op with
 | .convert _ _ (.tmp u)=>match t.get u with
  | some (.sl _ _ _ _ _)=>true
  | _=>false
 | .lookup _ _ _ _=>true
 | _=>false
def orB (a b:Bool):Bool:=match a with
 | true=>true
 | false=>b
noncomputable def xbar (P:Program)(ck:CK)(N:Nat)(o:Oper)(t:Tr V)(m:Tr Blk)(n:Nat)(K:Tr V→Tr Blk→Nat→Prop):Prop:=match o.dst with
 | none=>xsto P o t m fun m=>K t m n
 | some d=>match Nat.ble N d with
  | true=>False
  | false=>match o.op with
   | .call c=>match c.callee with
    | .value f=>ovK t f fun g=>match g with
     | .fn f caps=>opsK t c.args.toList fun vs=>JD vs caps fun vs=>ck f vs m n fun v m n=>AV t d (some v) fun t=>K t m n
     | _=>False
    | _=>Gt P o t m n fun v m n=>AV t d (some v) fun t=>K t m n
   | .convert _ _ _=>tosK P o t m (fun v=>AV t d (some v) fun t=>K t m n) False
   | .lookup _ _ _ _=>Kq P o t m fun v=>AV t d (some v) fun t=>K t m n
   | _=>Gt P o t m n fun v m n=>AV t d (some v) fun t=>K t m n
abbrev DW:=Bool→Nat→List Nat→Tr V→Tr Blk→Nat→Sn→List Pd→(Tr V→Tr Blk→Nat→Prop)→Prop
def chainK (mask:Nat)(l:Sn):Bool:=match l with
 | []=>true
 | e::_=>waits mask e.1
def okF (all:Array Oper)(o:Oper)(i:Nat)(l:Sn):Bool:=match o.op with
 | .alloc _=>match o.dst with
  | some d=>(List.range all.size).all fun j=>Nat.beq j i||(match all[j]?,(masks all.toList)[j]? with
   | some o',some mk=>(!((o'.looksAt all).contains d) && !(waits mk i))||l.all fun e=>waits mk e.1
   | _,_=>true)
  | none=>false
 | _=>false
noncomputable def dwB (P:Program)(ck:CK)(N:Nat)(all:Array Oper)(o:Oper)(ih:DW):DW:=fun fl i ml t m n sn pd K=>match ml with
 | []=>False
 | mask::ml=>gK all o t fun run=>match run with
  | false=>match o.dst with
   | some d=>match Nat.ble N d with
    | true=>False
    | false=>AV t d (some (.tup [])) fun t=>ih fl (Nat.succ i) ml t m n sn pd K
   | none=>ih fl (Nat.succ i) ml t m n sn pd K
  | true=>match orB (isBar o) (isText o t) with
   | true=>match chainK mask sn with
    | true=>xbar P ck N o t m n fun t' m' n'=>pendK mask m' pd fun pd=>ih fl (Nat.succ i) ml t' m' n' ((i,m,n)::sn) pd K
    | false=>match fl with
     | true=>False
     | false=>match okF all o i sn with
      | true=>xbar P ck N o t m n fun t' m' n'=>pendK mask m' pd fun pd=>ih true (Nat.succ i) ml t' m' n' ((i,m,n)::sn) pd K
      | false=>False
   | false=>match o.dst with
    | none=>False
    | some d=>match Nat.ble N d with
     | true=>False
     | false=>match o.op with
      | .load _ (.global _)=>Kq P o t m fun v=>AV t d (some v) fun t=>ih fl (Nat.succ i) ml t m n sn pd K
      | .load T x=>ovK t x fun u=>match u with
       | .ptr id off=>match m.get id with
        | some b=>match b.cs with
         | some cs=>match Bl P T with
          | some (ag,k)=>Gu ag k cs off fun v=>prevK mask ⟨i,id,off,k,ag,v⟩ sn (AV t d (some v) fun t=>ih fl (Nat.succ i) ml t m n sn (⟨i,id,off,k,ag,v⟩::pd) K)
          | none=>False
         | none=>False
        | none=>False
       | _=>False
      | _=>match IL o with
       | true=>Kq P o t m fun v=>AV t d (some v) fun t=>ih fl (Nat.succ i) ml t m n sn pd K
       | false=>False
noncomputable def dw (P:Program)(ck:CK)(N:Nat)(all:Array Oper)(l:List Oper):DW:=@List.rec Oper (fun _=>DW) (fun _ _ _ t m n _ _ K=>K t m n) (fun o _ ih=>dwB P ck N all o ih) l
noncomputable def xdrawn (P:Program)(ck:CK)(N:Nat)(ops:Array Oper):XL:=fun t m n K=>match P.follows .mixedOrders with
 | true=>match okR ops with
  | true=>dw P ck N ops ops.toList false 0 (masks ops.toList) t m n [] [] K
  | false=>False
 | false=>False
variable [Cx]
def J3 (mem:Nat→Tr Blk×Nat)(b:Nat→Nat):Sn→Nat→Prop
 | [],q=>q=0
 | e::l,q=>∃q',q=q' + 1∧b q'=e.1∧mem q'=e.2∧J3 mem b l q'
section
variable {P:Program} {N:Nat} {ops:Array Oper} {ck:CK} {mem:Nat→Tr Blk×Nat} {b:Nat→Nat}
theorem Xo {mask i:Nat}{fq:Option Nat}(hmask:∀j,mask.testBit j=true→Reach ops i j)(hf:∀k0,fq=some k0→mask.testBit (b k0)=true→∀k,k<k0→Reach ops i (b k)){p:Pd}:∀{l:Sn} {q:Nat} {K:Prop},J3 mem b l q→(∀k k',k<k'→k' < q→fq≠some k'→Reach ops (b k') (b k))→prevK mask p l K→(∃lo,lo≤q∧(∀k,k<lo→Reach ops i (b k))∧∀k,lo≤k→k<q→OQ (mem k).1.get p)∧K
 | [],q,K,hs,_,h=>by
  have hs:q=0:=hs
  subst hs
  exact ⟨⟨0,Nat.le_refl _,fun k hk=>by omega,fun k _ hk=>by omega⟩,h⟩
 | e::l,q,K,hs,hc,h=>by
  obtain ⟨q',rfl,h1,h2,h3⟩:=hs
  have h:(match waits mask e.1 with | true=>K | false=>seeK e.2.1 p (prevK mask p l K)):=h
  split at h
  ·rename_i hw
   rw [O9] at hw
   have hr:=hmask _ hw
   rw [←h1] at hr hw
   refine ⟨⟨q' + 1,Nat.le_refl _,fun k hk=>?_,fun k h4 h5=>by omega⟩,h⟩
   by_cases e:k=q'
   ·subst e;exact hr
   ·by_cases e2:fq=some q'
    ·exact hf q' e2 hw k (by omega)
    ·exact .more hr (hc k q' (by omega) (by omega) e2)
  ·obtain ⟨h4,h5⟩:=WC h
   obtain ⟨⟨lo,h6,h7,h8⟩,h9⟩:=Xo hmask hf (l:=l) h3 (fun k k' h1 h2=>hc k k' h1 (by omega)) h5
   refine ⟨⟨lo,by omega,h7,fun k h10 h11=>?_⟩,h9⟩
   by_cases e:k=q'
   ·subst e;rw [h2];exact h4
   ·exact h8 k h10 (by omega)
def PdOk (ops:Array Oper)(mem:Nat→Tr Blk×Nat)(b:Nat→Nat)(B q:Nat)(p:Pd):Prop:=∃hi,q≤hi∧hi≤B∧(hi<B→Reach ops (b hi) p.i)∧∀k,q<k→k≤hi→OQ (mem k).1.get p
theorem Rx {mask:Nat}{m:Tr Blk}:∀{l:List Pd} {K:List Pd→Prop},pendK mask m l K→∃l',(∀p∈l,mask.testBit p.i=true∨(p∈l'∧OQ m.get p))∧K l'
 | [],K,h=>⟨[],by simp,h⟩
 | p::l,K,h=>by
  have h:(match waits mask p.i with | true=>pendK mask m l K | false=>seeK m p (pendK mask m l fun l=>K (p::l))):=h
  split at h
  ·rename_i hw
   obtain ⟨l',h1,h2⟩:=Rx (l:=l) h
   rw [O9] at hw
   refine ⟨l',fun r hr=>?_,h2⟩
   rcases List.mem_cons.1 hr with rfl | hr
   ·exact .inl hw
   ·exact h1 r hr
  ·obtain ⟨h3,h4⟩:=WC h
   obtain ⟨l',h1,h2⟩:=Rx (l:=l) (K:=fun l=>K (p::l)) h4
   refine ⟨p::l',fun r hr=>?_,h2⟩
   rcases List.mem_cons.1 hr with rfl | hr
   ·exact .inr ⟨List.mem_cons_self ..,h3⟩
   ·exact (h1 r hr).imp id fun ⟨q1,q2⟩=>⟨List.mem_cons_of_mem _ q1,q2⟩
def XB (P:Program)(N:Nat)(o:Oper)(t:Tr V)(m:Tr Blk)(n:Nat)(K:Tr V→Tr Blk→Nat→Prop):Prop:=∃r t' m' n',(o.dst=none→r=none)∧(∀d,o.dst=some d→d<N∧r≠none)∧(∀u,t'.get u=if o.dst=some u then r else t.get u) ∧
 (∀s:St,AgO o t s→s.h=m.get→s.n=n→Step P N o s { (s.upd o.dst r) with h:=m'.get,n:=n' })∧K t' m' n'
theorem xbar_alloc {o:Oper}{T:TypeId}{d:Nat}{t:Tr V}{m:Tr Blk}{n:Nat}{K:Tr V→Tr Blk→Nat→Prop}(hop:o.op=.alloc T)(hdst:o.dst=some d)(h:xbar P ck N o t m n K):∃cs t' m',d<N∧zeroV P T=some cs∧m'.get=hset m.get n (some (.cells cs))∧(∀u,t'.get u=if u=d then some (.ptr n 0) else t.get u) ∧
 (∀s:St,AgO o t s→s.h=m.get→s.n=n→Step P N o s { (s.upd o.dst (some (.ptr n 0))) with h:=m'.get,n:=n+1 })∧K t' m' (n+1):=by
 unfold xbar at h
 rw [hdst] at h
 simp only [hop] at h
 split at h
 ·exact h.elim
 ·rename_i hN
  have hd:=Og hN
  unfold Gt at h
  simp only [hop] at h
  split at h
  ·rename_i cs hz
   have h2:=Ou h
   obtain ⟨m',q,h5⟩:=Io h2
   obtain ⟨t',h3,h4⟩:=Bh h5
   refine ⟨cs,t',m',hd,hz,q,h3,fun s _ hh hn=>?_,h4⟩
   have:=r_alloc (P:=P) (s:=s) hop hz hdst hd
   rw [hh,hn] at this
   rw [q,hdst]
   exact this
  ·exact h.elim
theorem xbar_spec (hck:I5 P ck){o:Oper}{t:Tr V}{m:Tr Blk}{n:Nat}{K:Tr V→Tr Blk→Nat→Prop}(h:xbar P ck N o t m n K):XB P N o t m n K:=by
 unfold xbar at h
 have done:∀{d:Nat} {v:V} {t1:Tr V} {m1:Tr Blk} {n1:Nat},o.dst=some d→d<N→(∀s:St,AgO o t s→s.h=m.get→s.n=n→Step P N o s { (s.put (some d) v) with h:=m1.get,n:=n1 })→(∀u,t1.get u=if u=d then some v else t.get u)→K t1 m1 n1 →
  XB P N o t m n K:=by
  intro d v t1 m1 n1 hdst hd hst ht hK
  refine ⟨some v,t1,m1,n1,(fun e=>by rw [hdst] at e;cases e),(fun d' e=>by rw [hdst] at e;injection e with e;subst e;exact ⟨hd,by simp⟩),fun u=>?_,fun s ha h1 h2=>?_,hK⟩
  ·rw [ht,hdst]
   by_cases e:u=d
   ·subst e;simp
   ·rw [if_neg e,if_neg (fun h=>e (by injection h with h;exact h.symm))]
  ·rw [hdst];exact hst s ha h1 h2
 split at h
 ·rename_i hdst
  obtain ⟨m',h1,h2⟩:=Xf h
  refine ⟨none,t,m',n,fun _=>rfl,(fun d e=>by rw [hdst] at e;cases e),(fun u=>by rw [hdst];simp),fun s ha h3 h4=>?_,h2⟩
  have:=h1 N s ha h3 h4 hdst
  rw [hdst];exact this
 ·rename_i d hdst
  split at h
  ·exact h.elim
  ·rename_i hN
   have hd:=Og hN
   have mem:(Gt P o t m n fun v m n=>AV t d (some v) fun t=>K t m n)→XB P N o t m n K:=fun h=>by
    obtain ⟨v,m',n',h1,h2⟩:=WW h
    obtain ⟨t',h3,h4⟩:=Bh h2
    exact done hdst hd (fun s ha hh hn=>h1 N s d ha hh hn hdst hd) h3 h4
   split at h
   ·rename_i c hop
    split at h
    ·rename_i f hc
     obtain ⟨g,h1,h2⟩:=Bi h
     clear h
     split at h2
     ·rename_i f' caps
      obtain ⟨vs,h3,h4⟩:=Rk h2
      have h5:=OO h4
      obtain ⟨v,m',n',h6,h7,h8⟩:=hck _ _ _ _ _ h5
      obtain ⟨t',h9,h10⟩:=Bh h8
      refine done hdst hd (fun s ha hh hn=>?_) h9 h10
      have hmem:∀x,x∈c.args.toList→x∈o.op.operands:=fun x hx=>by simp [hop,Op.operands,Call.operands];exact .inr (by simpa using hx)
      have hf:f∈o.op.operands:=by simp [hop,Op.operands,Call.operands,hc]
      exact r_call (P:=P) (N:=N) (s:=s) hop hc (ha f _ hf (h1 _ _)) (h3 s fun x v hx hv=>ha x v (hmem x hx) hv) h6 (by rw [hh,hn];exact h7) hdst hd
     ·exact h2.elim
    ·exact mem h
   ·rcases Vk h with h | ⟨v,h1,h2⟩
    ·exact h.elim
    ·obtain ⟨t',h3,h4⟩:=Bh h2
     exact done hdst hd (fun s ha hh hn=>by
      have:=h1 N s d ha hh hdst hd
      have e:({ (s.put (some d) v) with h:=m.get,n:=n }:St)=s.put (some d) v:=by
       rw [←hh,←hn];rfl
      rw [e];exact this) h3 h4
   ·obtain ⟨v,h1,h2⟩:=RH h
    obtain ⟨t',h3,h4⟩:=Bh h2
    exact done hdst hd (fun s ha hh hn=>by
     have:=h1.1 N s d ha hh hdst hd
     have e:({ (s.put (some d) v) with h:=m.get,n:=n }:St)=s.put (some d) v:=by
      rw [←hh,←hn];rfl
     rw [e];exact this) h3 h4
   ·exact mem h
end
end Go.Rn
end
section
namespace Go.Rn
open Go.RowKit
open Go.Vm (AX Dn Es Bl CU DK FB enters Closed JE FX Ey P6)
set_option linter.unusedSectionVars false
variable [Cx]
def JB {α:Type}(f:Nat→α)(i:Nat)(v:α):Nat→α:=fun j=>if j=i then v else f j
theorem F6 {α:Type}(f:Nat→α)(i:Nat)(v:α):JB f i v i=v:=if_pos rfl
theorem D6 {α:Type}{f:Nat→α}{i j:Nat}{v:α}(h:j≠i):JB f i v j=f j:=if_neg h
section
variable {P:Program} {N:Nat} {ops:Array Oper} {ck:CK}
theorem PW.congr {Ts Ts':Nat→Tr V}{mem:Nat→Tr Blk×Nat}{b:Nat→Nat}{B j:Nat}{o:Oper}(h:PW P N ops Ts' mem b B j o)(h1:Ts j=Ts' j)(h2:Ts (j+1)=Ts' (j+1)):PW P N ops Ts mem b B j o:=by
 obtain ⟨r,q1,q2,q3,q4⟩:=h.upd
 exact ⟨r,q1,q2,by rw [h1,h2];exact q3,by rw [h1];exact q4⟩
theorem PN.congr {Ts Ts':Nat→Tr V}{mem:Nat→Tr Blk×Nat}{b:Nat→Nat}{k:Nat}(h:PN P N ops Ts' mem b k)(h1:Ts (b k+1)=Ts' (b k+1)):PN P N ops Ts mem b k:=by
 obtain ⟨o,T,d,cs,g1,g2,g3,g4,g5,g6,g7,g8,g9⟩:=h
 exact ⟨o,T,d,cs,g1,g2,g3,g4,g5,g6,g7,by rw [h1];exact g8,g9⟩
theorem J3.congr {mem mem':Nat→Tr Blk×Nat}{b b':Nat→Nat}:∀{l:Sn} {q:Nat},J3 mem b l q→(∀k,k<q→mem' k=mem k)→(∀k,k<q→b' k=b k)→J3 mem' b' l q
 | [],q,h,_,_=>h
 | e::l,q,h,h1,h2=>by
  obtain ⟨q',rfl,q1,q2,q3⟩:=h
  exact ⟨q',rfl,(h2 q' (by omega)).trans q1,(h1 q' (by omega)).trans q2,J3.congr q3 (fun k hk=>h1 k (by omega)) fun k hk=>h2 k (by omega)⟩
def Rest (P:Program)(N:Nat)(ops:Array Oper)(i:Nat)(t:Tr V)(mem0:Nat→Tr Blk×Nat)(b0:Nat→Nat)(q:Nat)(pd:List Pd)(K:Tr V→Tr Blk→Nat→Prop)(fq:Option Nat):Prop:=
 ∃(B:Nat) (mem:Nat→Tr Blk×Nat) (b:Nat→Nat) (Ts:Nat→Tr V) (kf:Nat),((∀k0,fq=some k0→kf=k0)∧(fq=none→q≤kf))∧(∀k k',q≤k→k<k'→k' < B→b k≠b k')∧(q≤kf→kf<B→PN P N ops Ts mem b kf)∧q≤B∧(∀k,k≤q→mem k=mem0 k)∧(∀k,k<q→b k=b0 k)∧Ts i=t∧(∀k,q≤k→k<B→i≤b k∧b k<ops.size)∧(∀k k',k<k'→k' < B→k'≠kf→Reach ops (b k') (b k)) ∧
  (∀p∈pd,PdOk ops mem b B q p)∧(∀j o,i≤j→ops[j]? = some o→PW P N ops Ts mem b B j o)∧K (Ts ops.size) (mem B).1 (mem B).2
theorem Rest.plain {i q:Nat}{o:Oper}{t t1:Tr V}{mem0:Nat→Tr Blk×Nat}{b0:Nat→Nat}{pd pd':List Pd}{K:Tr V→Tr Blk→Nat→Prop}{fq:Option Nat}(hi:ops[i]? = some o)(hb0:∀k,k<q→b0 k<i)(hpd:∀p∈pd,p∈pd'){r:Option V}(hr1:o.dst=none→r=none)(hr2:∀d,o.dst=some d→d<N∧r≠none)(ht:∀u,t1.get u=if o.dst=some u then r else t.get u)
 {run:Bool} (hw:Hf ops o t.get run) (hskip:run=false→(r=none∨r=some (.tup [])))
 (hrun:run=true→∀(B:Nat) (mem:Nat→Tr Blk×Nat) (b:Nat→Nat),q≤B→(∀k,k≤q→mem k=mem0 k)→(∀k,k<q→b k=b0 k)→(∀p∈pd',PdOk ops mem b B q p)→∃lo hi,lo≤B∧(∀k,k<lo→Reach ops i (b k))∧(hi<B→Reach ops (b hi) i)∧∀q',lo≤q'→q'≤hi→∀s:St,AgO o t s→s.h=(mem q').1.get→s.n=(mem q').2→Step P N o s (s.upd o.dst r))
 (h:Rest P N ops (i+1) t1 mem0 b0 q pd' K fq):Rest P N ops i t mem0 b0 q pd K fq:=by
 obtain ⟨B,mem,b,Ts,kf,f1,f2,f3,h1,h2,h3,h4,h5,h6,h7,h8,h9⟩:=h
 have hlt:=Ey hi
 have hne:∀k,k<B→b k≠i:=by
  intro k hk
  rcases Nat.lt_or_ge k q with h | h
  ·rw [h3 k h];have:=hb0 k h;omega
  ·have:=(h5 k h hk).1;omega
 refine ⟨B,mem,b,JB Ts i t,kf,f1,f2,fun z1 z2=>(f3 z1 z2).congr (D6 (by have:=(h5 kf z1 z2).1;omega)),h1,h2,h3,F6 ..,fun k q1 q2=>⟨by have:=(h5 k q1 q2).1;omega,(h5 k q1 q2).2⟩,h6,fun p hp=>h7 p (hpd p hp),fun j o' hj ho'=>?_,by rw [D6 (by omega)];exact h9⟩
 by_cases e:j=i
 ·subst e
  rw [hi] at ho';injection ho' with ho';subst ho'
  refine ⟨r,hr1,hr2,?_,run,?_,fun hf=>⟨hskip hf,hne⟩,fun hf=>.inr ⟨hne,?_⟩⟩
  ·rw [F6,D6 (by omega),h4];exact ht
  ·rw [F6];exact hw
  ·rw [F6];exact hrun hf B mem b h1 h2 h3 h7
 ·exact (h8 j o' (by omega) ho').congr (D6 e) (D6 (by omega))
theorem Rest.bar {i q:Nat}{o:Oper}{t t1:Tr V}{m':Tr Blk}{n':Nat}{mem0:Nat→Tr Blk×Nat}{b0:Nat→Nat}{pd pd':List Pd}{K:Tr V→Tr Blk→Nat→Prop}{fq fq':Option Nat}(hi:ops[i]? = some o)(hb0:∀k,k<q→b0 k<i){r:Option V}(hr1:o.dst=none→r=none)(hr2:∀d,o.dst=some d→d<N∧r≠none)(ht:∀u,t1.get u=if o.dst=some u then r else t.get u)
 (hw:Hf ops o t.get true) (hst:∀s:St,AgO o t s→s.h=(mem0 q).1.get→s.n=(mem0 q).2→Step P N o s { (s.upd o.dst r) with h:=m'.get,n:=n' })
 (hpd:∀p∈pd,Reach ops i p.i∨(p∈pd'∧OQ m'.get p))
 (hnf:fq≠some q) (hfq:fq'=fq∨(fq=none∧fq'=some q∧∃T d cs,o.op=.alloc T∧o.dst=some d∧d<N∧zeroV P T=some cs∧m'.get=hset (mem0 q).1.get (mem0 q).2 (some (.cells cs))∧n'=(mem0 q).2+1∧t1.get d=some (.ptr (mem0 q).2 0)∧∀j o',ops[j]? = some o'→j≠i→d∈o'.looksAt ops→∀k',k' < q→Reach ops j (b0 k')))
 (h:Rest P N ops (i+1) t1 (JB mem0 (q+1) (m',n')) (JB b0 q i) (q+1) pd' K fq'):Rest P N ops i t mem0 b0 q pd K fq:=by
 obtain ⟨B,mem,b,Ts,kf,f1,f2,f3,h1,h2,h3,h4,h5,h6,h7,h8,h9⟩:=h
 have hlt:=Ey hi
 have hbq:b q=i:=by rw [h3 q (by omega),F6]
 have hmq:mem q=mem0 q:=by rw [h2 q (by omega),D6 (by omega)]
 have hmq1:mem (q+1)=(m',n'):=by rw [h2 (q+1) (Nat.le_refl _),F6]
 refine ⟨B,mem,b,JB Ts i t,kf,?_,fun k k' q1 q2 q3=>?_,fun z1 z2=>?_,by omega,fun k hk=>?_,fun k hk=>?_,F6 ..,fun k q1 q2=>?_,h6,fun p hp=>?_,fun j o' hj ho'=>?_,by rw [D6 (by omega)];exact h9⟩
 ·rcases hfq with rfl | ⟨rfl,rfl,_⟩
  ·exact ⟨f1.1,fun e=>by have:=f1.2 e;omega⟩
  ·exact ⟨(fun k0 e=>by cases e),fun _=>by have:=f1.1 q rfl;omega⟩
 ·by_cases e:k=q
  ·subst e
   rw [hbq]
   have:=(h5 k' (by omega) q3).1
   omega
  ·exact f2 k k' (by omega) q2 q3
 ·by_cases e:kf=q
  ·subst e
   rcases hfq with rfl | ⟨_,rfl,T,d,cs,g1,g2,g3,g4,g5,g6,g7,g8⟩
   ·exfalso
    cases hq:fq' with
    | none=>have:=f1.2 hq;omega
    | some k0=>
     have:=f1.1 k0 hq
     subst this
     exact hnf hq
   ·refine ⟨o,T,d,cs,by rw [hbq];exact hi,g1,g2,g3,g4,by rw [hmq1,hmq];exact g5,by rw [hmq1,hmq];exact g6,by rw [hbq,D6 (by omega),h4,hmq];exact g7,fun j o' q1 q2 q3 k' hk'=>?_⟩
    rw [hbq] at q2
    rw [h3 k' (by omega),D6 (by omega)]
    exact g8 j o' q1 q2 q3 k' hk'
  ·exact (f3 (by omega) z2).congr (D6 (by have:=(h5 kf (by omega) z2).1;omega))
 ·rw [h2 k (by omega),D6 (by omega)]
 ·rw [h3 k (by omega),D6 (by omega)]
 ·by_cases e:k=q
  ·subst e;rw [hbq];exact ⟨Nat.le_refl _,hlt⟩
  ·have:=h5 k (by omega) q2;exact ⟨by omega,this.2⟩
 ·rcases hpd p hp with hr | ⟨hm,hl⟩
  ·exact ⟨q,Nat.le_refl _,by omega,fun _=>by rw [hbq];exact hr,fun k q1 q2=>by omega⟩
  ·obtain ⟨hi2,q1,q2,q3,q4⟩:=h7 p hm
   refine ⟨hi2,by omega,q2,q3,fun k q5 q6=>?_⟩
   by_cases e:k=q+1
   ·subst e;rw [hmq1];exact hl
   ·exact q4 k (by omega) q6
 ·by_cases e:j=i
  ·subst e
   rw [hi] at ho';injection ho' with ho';subst ho'
   refine ⟨r,hr1,hr2,?_,true,?_,(fun hf=>by cases hf),fun _=>.inl ⟨q,by omega,hbq,?_⟩⟩
   ·rw [F6,D6 (by omega),h4];exact ht
   ·rw [F6];exact hw
   ·rw [F6,hmq,hmq1];exact hst
  ·exact (h8 j o' (by omega) ho').congr (D6 e) (D6 (by omega))
theorem chainK_spec {mask i q:Nat}{mem0:Nat→Tr Blk×Nat}{b0:Nat→Nat}{sn:Sn}{fq:Option Nat}(hmask:∀j,mask.testBit j=true→Reach ops i j)(hf:∀k0,fq=some k0→mask.testBit (b0 k0)=true→∀k,k<k0→Reach ops i (b0 k))(hs:J3 mem0 b0 sn q)(hc:∀k k',k<k'→k' < q→fq≠some k'→Reach ops (b0 k') (b0 k))(h:chainK mask sn=true):∀k,k<q→Reach ops i (b0 k):=by
 unfold chainK at h
 split at h
 ·have hs:q=0:=hs
  exact fun k hk=>by omega
 ·rename_i e l
  obtain ⟨q',rfl,h1,h2,h3⟩:=hs
  rw [O9] at h
  have hr:=hmask _ h
  rw [←h1] at hr h
  refine fun k hk=>?_
  by_cases e:k=q'
  ·subst e;exact hr
  ·by_cases e2:fq=some q'
   ·exact hf q' e2 h k (by omega)
   ·exact .more hr (hc k q' (by omega) (by omega) e2)
theorem snAll {mk j:Nat}(hmk:∀k,mk.testBit k=true→Reach ops j k){mem0:Nat→Tr Blk×Nat}{b0:Nat→Nat}:∀{sn:Sn} {q:Nat},J3 mem0 b0 sn q→(sn.all fun e=>waits mk e.1)=true→∀k,k<q→Reach ops j (b0 k)
 | [],q,hs,_,k,hk=>by
  have hs:q=0:=hs
  omega
 | e::l,q,hs,h,k,hk=>by
  obtain ⟨q',rfl,h1,h2,h3⟩:=hs
  rw [List.all_cons,Bool.and_eq_true] at h
  by_cases e2:k=q'
  ·subst e2
   rw [h1]
   exact hmk _ (by rw [←O9];exact h.1)
  ·exact snAll hmk h3 h.2 k (by omega)
theorem okF_spec {o:Oper}{i q:Nat}{sn:Sn}{mem0:Nat→Tr Blk×Nat}{b0:Nat→Nat}(hmk:∀(j m:Nat),(masks ops.toList)[j]? = some m→∀k,m.testBit k=true→Reach ops j k)(hml:(masks ops.toList).length=ops.size)(hs:J3 mem0 b0 sn q)(h:okF ops o i sn=true) :
 ∃T d,o.op=.alloc T∧o.dst=some d∧(∀j o',ops[j]? = some o'→j≠i→d∈o'.looksAt ops→∀k,k<q→Reach ops j (b0 k))∧∀j mk,j≠i→j<ops.size→(masks ops.toList)[j]? = some mk→mk.testBit i=true→∀k,k<q→Reach ops j (b0 k):=by
 unfold okF at h
 split at h
 ·rename_i T hop
  split at h
  ·rename_i d hdst
   have key:∀j o' mk,ops[j]? = some o'→(masks ops.toList)[j]? = some mk→j≠i→(!((o'.looksAt ops).contains d) && !(waits mk i))=true∨(sn.all fun e=>waits mk e.1)=true:=by
    intro j o' mk h1 h2 hne
    have h3:=List.all_eq_true.1 h j (List.mem_range.2 (Ey h1))
    rw [h1,h2] at h3
    simp only [Bool.or_eq_true] at h3
    rcases h3 with h3 | h3 | h3
    ·exact absurd (Nat.eq_of_beq_eq_true h3) hne
    ·exact .inl h3
    ·exact .inr h3
   refine ⟨T,d,hop,hdst,fun j o' h1 hne hd k hk=>?_,fun j mk hne hj h2 hb k hk=>?_⟩
   ·have hlt:=Ey h1
    have h2:(masks ops.toList)[j]? = some ((masks ops.toList)[j]'(by omega)):=List.getElem?_eq_getElem (by omega)
    rcases key j o' _ h1 h2 hne with h3 | h3
    ·simp only [Bool.and_eq_true,Bool.not_eq_true'] at h3
     have:(o'.looksAt ops).contains d=true:=by simpa using hd
     rw [this] at h3;cases h3.1
    ·exact snAll (hmk j _ h2) hs h3 k hk
   ·rcases key j ops[j] mk (Array.getElem?_eq_getElem hj) h2 hne with h3 | h3
    ·simp only [Bool.and_eq_true,Bool.not_eq_true'] at h3
     rw [←O9] at hb
     rw [hb] at h3;cases h3.2
    ·exact snAll (hmk j _ h2) hs h3 k hk
  ·cases h
 ·cases h
theorem dw_spec (hck:I5 P ck)(hmk:∀(j m:Nat),(masks ops.toList)[j]? = some m→∀k,m.testBit k=true→Reach ops j k)(hmz:(masks ops.toList).length=ops.size):∀(l:List Oper) (ml:List Nat) (i:Nat) (t:Tr V) (m:Tr Blk) (n:Nat) (sn:Sn) (pd:List Pd) (K:Tr V→Tr Blk→Nat→Prop) (mem0:Nat→Tr Blk×Nat) (b0:Nat→Nat) (q:Nat) (fl:Bool) (fq:Option Nat),
 (∀j,l[j]? = ops[i+j]?)→(∀j,ml[j]? = (masks ops.toList)[i+j]?)→i+l.length=ops.size→J3 mem0 b0 sn q→mem0 q=(m,n)→(∀k,k<q→b0 k<i)→(∀k k',k<k'→k' < q→fq≠some k'→Reach ops (b0 k') (b0 k))→(fl=false→fq=none)→(∀k0,fq=some k0→k0<q∧∀j mk,i≤j→j<ops.size→(masks ops.toList)[j]? = some mk→mk.testBit (b0 k0)=true→∀k,k<k0→Reach ops j (b0 k))→dw P ck N ops l fl i ml t m n sn pd K→Rest P N ops i t mem0 b0 q pd K fq:=by
 intro l
 induction l with
 | nil=>
  intro ml i t m n sn pd K mem0 b0 q fl fq hl hml hlen hs hm hb0 hch hfl hff h
  have h:K t m n:=h
  have hi:i=ops.size:=by simpa using hlen
  refine ⟨q,mem0,b0,fun _=>t,(match fq with | some k0=>k0 | none=>q),⟨fun k0 e=>by subst e;rfl,fun e=>by subst e;exact Nat.le_refl _⟩,fun k k' q1 q2 q3=>by omega,fun q1 q2=>by omega,Nat.le_refl _,fun _ _=>rfl,fun _ _=>rfl,rfl,fun k q1 q2=>by omega,fun k k' q1 q2 q3=>hch k k' q1 q2 (fun e=>q3 (by subst e;rfl)),fun p _=>⟨q,Nat.le_refl _,Nat.le_refl _,fun h=>by omega,fun k q1 q2=>by omega⟩,fun j o q1 q2=>?_,by rw [hm];exact h⟩
  have:=Ey q2;omega
 | cons o l ih=>
  intro ml i t m n sn pd K mem0 b0 q fl fq hl hml hlen hs hm hb0 hch hfl hff h
  have h:dwB P ck N ops o (dw P ck N ops l) fl i ml t m n sn pd K:=h
  have hi:ops[i]? = some o:=by simpa using (hl 0).symm
  have hl':∀j,l[j]? = ops[i+1+j]? := fun j=>by have:=hl (j+1);simpa [Nat.add_assoc,Nat.add_comm 1 j] using this
  have hlen':i+1+l.length=ops.size:=by simp at hlen;omega
  have hb1:∀k,k<q→b0 k<i+1:=fun k hk=>by have:=hb0 k hk;omega
  cases ml with
  | nil=>exact h.elim
  | cons mask ml=>
   have hml':∀j,ml[j]? = (masks ops.toList)[i+1+j]? := by
    intro j
    have h9:=hml (j+1)
    rw [List.getElem?_cons_succ] at h9
    rw [h9,Nat.add_assoc,Nat.add_comm 1 j]
   simp only [dwB] at h
   have hmask:∀j,mask.testBit j=true→Reach ops i j:=hmk i mask (by simpa using (hml 0).symm)
   have hilt:=Ey hi
   have hf:∀k0,fq=some k0→mask.testBit (b0 k0)=true→∀k,k<k0→Reach ops i (b0 k):=fun k0 e hb=>(hff k0 e).2 i mask (Nat.le_refl _) hilt (by simpa using (hml 0).symm) hb
   have hff':∀k0,fq=some k0→k0<q∧∀j mk,i+1≤j→j<ops.size→(masks ops.toList)[j]? = some mk→mk.testBit (b0 k0)=true→∀k,k<k0→Reach ops j (b0 k):=fun k0 e=>⟨(hff k0 e).1,fun j mk h1=>(hff k0 e).2 j mk (by omega)⟩
   obtain ⟨run,hw,h2⟩:=gK_spec h
   clear h
   cases run with
   | false=>
    simp only at h2
    split at h2
    ·rename_i d hdst
     split at h2
     ·exact h2.elim
     ·rename_i hN
      have hd:=Og hN
      obtain ⟨t1,h3,h4⟩:=Bh h2
      have h5:=ih ml (i+1) t1 m n sn pd K mem0 b0 q fl fq hl' hml' hlen' hs hm hb1 hch hfl hff' h4
      refine h5.plain hi hb0 (fun p hp=>hp) (r:=some (.tup [])) (fun e=>by rw [hdst] at e;cases e) (fun d' e=>?_) (fun u=>?_) hw (fun _=>.inr rfl) (fun e=>by cases e)
      ·rw [hdst] at e;injection e with e;subst e;exact ⟨hd,by simp⟩
      ·rw [h3,hdst]
       by_cases e:u=d
       ·subst e;simp
       ·rw [if_neg e,if_neg (fun h=>e (by injection h with h;exact h.symm))]
    ·rename_i hdst
     have h5:=ih ml (i+1) t m n sn pd K mem0 b0 q fl fq hl' hml' hlen' hs hm hb1 hch hfl hff' h2
     exact h5.plain hi hb0 (fun p hp=>hp) (r:=none) (fun _=>rfl) (fun d' e=>by rw [hdst] at e;cases e) (fun u=>by rw [hdst];simp) hw (fun _=>.inl rfl) (fun e=>by cases e)
   | true=>
    simp only at h2
    split at h2
    ·have hbn:∀k,k<q+1→JB b0 q i k<i+1:=fun k hk=>by
      by_cases e:k=q
      ·rw [e,F6];omega
      ·rw [D6 e];have:=hb0 k (by omega);omega
     have hnf:fq≠some q:=fun e=>by have:=(hff q e).1;omega
     split at h2
     ·rename_i hck2
      have hcq:=chainK_spec hmask hf hs hch hck2
      obtain ⟨r,t1,m1,n1,q1,q2,q3,q4,h4⟩:=xbar_spec hck h2
      obtain ⟨pd',h5,h6⟩:=Rx h4
      have h7:=ih ml (i+1) t1 m1 n1 ((i,m,n)::sn) pd' K (JB mem0 (q+1) (m1,n1)) (JB b0 q i) (q+1) fl fq hl' hml' hlen'
       ⟨q,rfl,F6 ..,by rw [D6 (by omega)];exact hm,hs.congr (fun k hk=>D6 (by omega)) (fun k hk=>D6 (by omega))⟩ (F6 ..) hbn
       (fun k k' hk hk' hn=>by
         by_cases e:k'=q
         ·rw [e,F6,D6 (by omega)];exact hcq k (by omega)
         ·rw [D6 e,D6 (by omega)];exact hch k k' hk (by omega) hn) hfl
       (fun k0 e=>by
         obtain ⟨g1,g2⟩:=hff' k0 e
         refine ⟨by omega,fun j mk x1 x2 x3 x4 k hk=>?_⟩
         rw [D6 (by omega)] at x4 ⊢
         exact g2 j mk x1 x2 x3 x4 k hk) h6
      exact h7.bar hi hb0 q1 q2 q3 hw (by rw [hm];exact q4) (fun p hp=>(h5 p hp).imp (fun h=>hmask _ h) fun h=>h) hnf (.inl rfl)
     ·split at h2
      ·exact h2.elim
      ·rename_i hfe
       have hfn:=hfl rfl
       subst hfn
       split at h2
       ·rename_i hokf
        obtain ⟨T,d,hop,hdst,k1,k2⟩:=okF_spec hmk hmz hs hokf
        obtain ⟨cs,t1,m1,hd,hz,hm1,ht1,hst,h4⟩:=xbar_alloc hop hdst h2
        obtain ⟨pd',h5,h6⟩:=Rx h4
        have h7:=ih ml (i+1) t1 m1 (n+1) ((i,m,n)::sn) pd' K (JB mem0 (q+1) (m1,n+1)) (JB b0 q i) (q+1) true (some q) hl' hml' hlen'
         ⟨q,rfl,F6 ..,by rw [D6 (by omega)];exact hm,hs.congr (fun k hk=>D6 (by omega)) (fun k hk=>D6 (by omega))⟩ (F6 ..) hbn
         (fun k k' hk hk' hn=>by
           by_cases e:k'=q
           ·exact absurd (by rw [e]) hn
           ·rw [D6 e,D6 (by omega)];exact hch k k' hk (by omega) (by simp)) (fun e=>by cases e)
         (fun k0 e=>by
           injection e with e
           subst e
           refine ⟨by omega,fun j mk x1 x2 x3 x4 k hk=>?_⟩
           rw [F6] at x4
           rw [D6 (by omega)]
           exact k2 j mk (by omega) x2 x3 x4 k hk) h6
        refine h7.bar hi hb0 (r:=some (.ptr n 0)) (fun e=>by rw [hdst] at e;cases e) (fun d' e=>by rw [hdst] at e;injection e with e;subst e;exact ⟨hd,by simp⟩) (fun u=>?_) hw (by rw [hm];exact hst) (fun p hp=>(h5 p hp).imp (fun h=>hmask _ h) fun h=>h) hnf
         (.inr ⟨rfl,rfl,T,d,cs,hop,hdst,hd,hz,by rw [hm];exact hm1,by rw [hm],by rw [ht1,if_pos rfl,hm],k1⟩)
        rw [ht1,hdst]
        by_cases e:u=d
        ·subst e;simp
        ·rw [if_neg e,if_neg (fun h=>e (by injection h with h;exact h.symm))]
       ·exact h2.elim
    ·split at h2
     ·exact h2.elim
     ·rename_i d hdst
      split at h2
      ·exact h2.elim
      ·rename_i hN
       have hd:=Og hN
       have hr2:∀(v:V) d',o.dst=some d'→d' < N∧some v≠none:=fun v d' e=>by rw [hdst] at e;injection e with e;subst e;exact ⟨hd,by simp⟩
       have hr1:∀v:V,o.dst=none→some v=none:=fun v e=>by rw [hdst] at e;cases e
       have hget:∀{t1:Tr V} {v:V},(∀u,t1.get u=if u=d then some v else t.get u)→∀u,t1.get u=if o.dst=some u then some v else t.get u:=fun {t1 v} h u=>by
        rw [h,hdst]
        by_cases e:u=d
        ·subst e;simp
        ·rw [if_neg e,if_neg (fun h=>e (by injection h with h;exact h.symm))]
       split at h2
       ·rename_i T g hop
        have hmf:IL o=true:=by simp [IL,hop]
        obtain ⟨v,g1,g2⟩:=RH h2
        obtain ⟨t1,g3,g4⟩:=Bh g2
        have h5:=ih ml (i+1) t1 m n sn pd K mem0 b0 q fl fq hl' hml' hlen' hs hm hb1 hch hfl hff' g4
        refine h5.plain hi hb0 (fun p hp=>hp) (hr1 v) (hr2 v) (hget g3) hw (fun e=>by cases e) fun _ B mem b z1 z2 z3 z4=>?_
        refine ⟨0,B,Nat.zero_le _,fun k hk=>by omega,fun h=>by omega,fun q' _ _ s ha hh hn=>?_⟩
        rw [hdst]
        exact g1.2 hmf N s d ha hdst hd
       ·rename_i T x _ hop
        obtain ⟨u,g1,g2⟩:=Bi h2
        clear h2
        split at g2
        ·rename_i id off
         split at g2
         ·rename_i bk hbk
          split at g2
          ·rename_i cs hcs
           split at g2
           ·rename_i ag k hsh
            obtain ⟨v,g3,g4⟩:=Hm g2
            obtain ⟨⟨lo,g5,g6,g7⟩,g8⟩:=Xo hmask hf hs hch g4
            obtain ⟨t1,g9,g10⟩:=Bh g8
            have h5:=ih ml (i+1) t1 m n sn _ K mem0 b0 q fl fq hl' hml' hlen' hs hm hb1 hch hfl hff' g10
            refine h5.plain hi hb0 (fun p hp=>List.mem_cons_of_mem _ hp) (hr1 v) (hr2 v) (hget g9) hw (fun e=>by cases e) fun _ B mem b z1 z2 z3 z4=>?_
            obtain ⟨hi2,y1,y2,y3,y4⟩:=z4 _ (List.mem_cons_self ..)
            refine ⟨lo,hi2,by omega,fun k' hk'=>by rw [z3 k' (by omega)];exact g6 k' hk',y3,fun q' x1 x2 s ha hh hn=>?_⟩
            have hload:OQ (mem q').1.get ⟨i,id,off,k,ag,v⟩:=by
             rcases Nat.lt_trichotomy q' q with e | e | e
             ·rw [z2 q' (by omega)];exact g7 q' x1 e
             ·subst e;rw [z2 q' (Nat.le_refl _),hm];exact ⟨bk,cs,hbk,hcs,g3⟩
             ·exact y4 q' e x2
            obtain ⟨bk',cs',w1,w2,w3⟩:=hload
            rw [hdst]
            exact r_load (P:=P) (N:=N) (s:=s) hop (ha x _ (by simp [hop,Op.operands]) (g1 _ _)) (by rw [hh];exact w1) w2 hsh w3 hdst hd
           ·exact g2.elim
          ·exact g2.elim
         ·exact g2.elim
        ·exact g2.elim
       ·split at h2
        ·rename_i hmf
         obtain ⟨v,g1,g2⟩:=RH h2
         obtain ⟨t1,g3,g4⟩:=Bh g2
         have h5:=ih ml (i+1) t1 m n sn pd K mem0 b0 q fl fq hl' hml' hlen' hs hm hb1 hch hfl hff' g4
         refine h5.plain hi hb0 (fun p hp=>hp) (hr1 v) (hr2 v) (hget g3) hw (fun e=>by cases e) fun _ B mem b z1 z2 z3 z4=>?_
         refine ⟨0,B,Nat.zero_le _,fun k hk=>by omega,fun h=>by omega,fun q' _ _ s ha hh hn=>?_⟩
         rw [hdst]
         exact g1.2 hmf N s d ha hdst hd
        ·exact h2.elim
theorem xdrawn_spec (hck:I5 P ck):DRok P (xdrawn P ck):=by
 intro N ops t m n K h
 unfold xdrawn at h
 split at h
 ·rename_i hm
  split at h
  ·rename_i hok
   obtain ⟨B,mem,b,Ts,kf,f1,f2,f3,h1,h2,h3,h4,h5,h6,h7,h8,h9⟩:=dw_spec hck masks_spec masks_len ops.toList (masks ops.toList) 0 t m n [] [] K (fun _=>(m,n)) (fun _=>0) 0 false none (by simp) (by simp) (by simp) rfl rfl (fun k hk=>by omega) (fun k k' h1 h2=>by omega) (fun _=>rfl) (fun k0 e=>by cases e) h
   have F:Facts P N ops Ts mem b B kf:=⟨hok,fun k hk=>(h5 k (Nat.zero_le _) hk).2,h6,fun k k' q1 q2=>f2 k k' (Nat.zero_le _) q1 q2,f3 (Nat.zero_le _),fun i o hi=>h8 i o (Nat.zero_le _) hi⟩
   refine ⟨_,_,_,fun id=>?_,h9⟩
   have:=rc_drawn (P:=P) (N:=N) hm F id
   rw [h4,h2 0 (Nat.le_refl _)] at this
   exact this
  ·exact h.elim
 ·exact h.elim
end
end Go.Rn
end
section
namespace Go.Rn
open Go.RowKit
open Go.Vm (enters)
set_option linter.unusedSectionVars false
abbrev Orc:=List (FuncId×List V×V)
noncomputable def eqVs (l:List V):List V→Bool:=@List.rec V (fun _=>List V→Bool) (fun m=>match m with
 | []=>true
 | _::_=>false) (fun a _ ih m=>match m with
 | []=>false
 | b::m=>match eqV a b with
  | true=>ih m
  | false=>false) l
theorem WL:∀{l m:List V},eqVs l m=true→l=m
 | [],[],_=>rfl
 | [],_::_,h=>by cases h
 | _::_,[],h=>by cases h
 | a::l,b::m,h=>by
  have h:(match eqV a b with | true=>eqVs l m | false=>false)=true:=h
  split at h
  ·rename_i h1;rw [TY h1,WL h]
  ·cases h
noncomputable def orcK (l:Orc)(ck:CK):CK:=@List.rec (FuncId×List V×V) (fun _=>CK) ck (fun e _ ih f vs m n K=>match Nat.beq f e.1 with
 | true=>match eqVs e.2.1 vs with
  | true=>K e.2.2 m n
  | false=>ih f vs m n K
 | false=>ih f vs m n K) l
noncomputable def run (P:Program)(F:Tr Func)(l:Orc)(fuel depth:Nat):CK:=@Nat.rec (fun _=>CK) (fun _ _ _ _ _=>False) (fun _ ck=>orcK l (callB P F (xdrawn P) fuel ck)) depth
section
variable [Cx] {P:Program} {ck:CK}
def KY (P:Program)(l:Orc):Prop:=∀e∈l,enters P e.1=true∧∀h n,Dt P e.1 e.2.1 h n e.2.2 h n
theorem VO (hck:I5 P ck):∀{l:Orc},KY P l→I5 P (orcK l ck)
 | [],_=>hck
 | e::l,hl=>by
  intro f vs m n K h
  have ih:=VO hck (l:=l) fun x hx=>hl x (List.mem_cons_of_mem _ hx)
  replace h:(match Nat.beq f e.1 with
   | true=>match eqVs e.2.1 vs with
    | true=>K e.2.2 m n
    | false=>orcK l ck f vs m n K
   | false=>orcK l ck f vs m n K):=h
  split at h
  ·rename_i h1
   have h1:=Nat.eq_of_beq_eq_true h1
   split at h
   ·rename_i h2
    have h2:=WL h2
    subst h1 h2
    obtain ⟨q1,q2⟩:=hl e (List.mem_cons_self ..)
    exact ⟨_,m,n,q1,q2 _ _,h⟩
   ·exact ih _ _ _ _ _ h
  ·exact ih _ _ _ _ _ h
theorem run_spec {F:Tr Func}(hF:Fok P F){l:Orc}(hl:KY P l){fuel:Nat}:∀{depth:Nat},I5 P (run P F l fuel depth)
 | 0=>fun f vs m n K h=>h.elim
 | d+1=>VO (callB_spec hF (fun ck h=>xdrawn_spec h) (run_spec hF hl (depth:=d))) hl
end
@[reducible] def trivCx:Cx:=⟨fun base w0 _=>KO base w0,fun _ _ _ h=>h⟩
def noPi (op:Nat→Value):Pi:=⟨fun _=>none,op,[]⟩
theorem mem_none (w:World)(op:Nat→Value)(hG:KO w.heap.size w:=by intro g cs h;cases h):@Mem trivCx w.heap.size w (noPi op) (fun _=>none) 0 w:=by
 letI:=trivCx
 exact ⟨(fun id b h=>by cases h),(fun id id' b b' p p' h=>by cases h),fun _ _=>rfl,(fun id p h=>by cases h),Below.refl _ _,Nat.le_refl _,hG,(fun x h=>by cases h)⟩
theorem known {P:Program}{f:FuncId}{v:V}{u:Value}{h':Hp}{n':Nat}(hr:@Dt trivCx P f [] (fun _=>none) 0 v h' n')(hu:toV v=some u)(hc:∀π,Ai π v=some u) [Cx](h:Hp)(n:Nat):Dt P f [] h n v h n:=by
 intro base w0 π w us hm hus
 have hus:us= []:=by rw [AL] at hus;injection hus with hus;exact hus.symm
 subst hus
 refine (hr w.heap.size w (noPi π.op) w [] (mem_none w _ (hm.KZ.keep (Below.refl _ _) hm.size)) (by rw [AL])).mono ?_
 rintro e w' ⟨π',u',rfl,hle,hm',hv⟩
 have hbl:Below w.heap.size w w':=by
  letI:=trivCx
  exact hm'.below
 have:u'=u:=Le hu hv
 subst this
 exact ⟨π,u',rfl,π.le_refl,hm.keep hbl,hc π⟩
def allF (p:Nat→Func→Prop):Tr Func→Nat→Nat→Prop
 | .leaf,_,_=>True
 | .node v l r,a,b=>(match v with
  | some x=>p b x
  | none=>True)∧allF p l (2*a) (a+b)∧allF p r (2*a) (2*a+b)
theorem TI {p:Nat→Func→Prop}:∀{t:Tr Func} {a b n:Nat} {x:Func},allF p t a b→t.get n=some x→p (a*n+b) x
 | .leaf,_,_,_,_,_,h=>by cases h
 | .node v l r,a,b,n,x,⟨h1,h2,h3⟩,h=>by
  rw [Ls] at h
  by_cases h0:n=0
  ·subst h0
   rw [if_pos rfl] at h
   subst h
   simpa using h1
  ·rw [if_neg h0] at h
   by_cases hp:n % 2=1
   ·rw [if_pos hp] at h
    have:=TI h2 h
    have e:2*a*(n / 2)+(a+b)=a*n+b:=by
     have:n=2*(n / 2)+1:=by omega
     have h9:a*n=a*(2*(n / 2)+1):=by rw [←this]
     rw [h9,Nat.mul_add,Nat.mul_one,←Nat.mul_assoc,Nat.mul_comm a 2];omega
    rwa [e] at this
   ·rw [if_neg hp] at h
    have:=TI h3 h
    have e:2*a*(n / 2-1)+(2*a+b)=a*n+b:=by
     have:n=2*(n / 2-1)+2:=by omega
     have h9:a*n=a*(2*(n / 2-1)+2):=by rw [←this]
     rw [h9,Nat.mul_add,←Nat.mul_assoc,Nat.mul_comm a 2];omega
    rwa [e] at this
abbrev Aj (P : Program) (f : Nat) (fn : Func) : Prop := P.funcs[f]? = some fn ∧ (fn.name != "runtime.NumGoroutine") = true
theorem fok_of {P:Program}{F:Tr Func}(h:allF (Aj P) F 1 0):Fok P F:=fun f fn hf=>by
 have:=TI h hf
 rwa [Nat.one_mul] at this
end Go.Rn
end
section
namespace Go.Rn
open Go.RowKit
open Go.Vm (enters AQ Rep D Aq KF Evo Grow Bg)
set_option linter.unusedSectionVars false
def okV (v:V):Bool:=match v with
 | .sc x=>x.oneCell'
 | .agg cs=>cs.all V.one&&(match scL cs with
  | some vs=>vs.all (·.oneCell')
  | none=>false)
 | _=>false
theorem scL_all {π:Pi}:∀{cs:List V} {vs:List Value},scL cs=some vs→vs.all (·.oneCell')=true→AL π cs=some vs
 | [],vs,h,_=>by rw [scL] at h;injection h with h;subst h;rw [AL]
 | .sc v::l,vs,h,ha=>by
  rw [scL] at h
  obtain ⟨vs',h1,rfl⟩:=Option.map_eq_some_iff.1 h
  rw [List.all_cons,Bool.and_eq_true] at ha
  rw [AL,Ai,if_pos ha.1,scL_all h1 ha.2]
 | .agg _::_,_,h,_=>by simp [scL] at h
 | .tup _::_,_,h,_=>by simp [scL] at h
 | .ptr _ _::_,_,h,_=>by simp [scL] at h
 | .sl _ _ _ _ _::_,_,h,_=>by simp [scL] at h
 | .mp _::_,_,h,_=>by simp [scL] at h
 | .it _::_,_,h,_=>by simp [scL] at h
 | .fn _ _::_,_,h,_=>by simp [scL] at h
 | .opq _::_,_,h,_=>by simp [scL] at h
theorem okV_conc {v:V}{u:Value}(h:toV v=some u)(ho:okV v=true)(π:Pi):Ai π v=some u:=by
 cases v with
 | sc x=>rw [toV] at h;injection h with h;subst h;rw [Ai];exact if_pos ho
 | agg cs=>
  rw [toV] at h
  obtain ⟨vs,h1,rfl⟩:=Option.map_eq_some_iff.1 h
  simp only [okV,h1,Bool.and_eq_true] at ho
  rw [Ai,if_pos ho.1,scL_all h1 ho.2];rfl
 | _=>simp [toV] at h
@[reducible] def lawCx (W:World) (OP:Nat→Value):Cx:=⟨fun base w0 op=>base=W.heap.size∧w0=W∧op=OP∧KO base w0,fun _ _ _ h=>h.2.2.2⟩
theorem globW_of [Cx]{base:Nat}{w:World}(h:KO base w)(hs:base≤w.heap.size):Go.Vm.GlobW Go.Vm.KF w:=fun g cs hg=>by
 obtain ⟨h1,h3⟩:=h g cs hg
 exact ⟨by omega,rfl,h3⟩
noncomputable def isV (x v:V):Prop:=match eqV x v with
 | true=>True
 | false=>False
theorem isV_spec {x v:V}(h:isV x v):v=x:=by
 unfold isV at h
 split at h
 ·rename_i h1;exact (TY h1).symm
 ·exact h.elim
theorem Xb [Cx]{P:Program}:KY P []:=fun e he=>by cases he
theorem EU [Cx]{P:Program}{f:FuncId}{vs:List V}{v:V}{l:Orc}(he:enters P f=true)(h:∀hp n,Dt P f vs hp n v hp n)(hl:KY P l):KY P ((f,vs,v)::l):=by
 intro e hm
 rcases List.mem_cons.1 hm with rfl | hm
 ·exact ⟨he,h⟩
 ·exact hl e hm
structure Hold (p:Prop):Prop where
 out:p
theorem run_hold [Cx]{P:Program}{F:Tr Func}(hF:Fok P F){l:Orc}(hl:KY P l){fuel depth:Nat}{f:FuncId}{vs:List V}{m:Tr Blk}{n:Nat}{K:V→Tr Blk→Nat→Prop}(h:Hold (run P F l fuel depth f vs m n K)):∃v m' n',enters P f=true∧Dt P f vs m.get n v m'.get n'∧K v m' n':=run_spec hF hl (depth:=depth) _ _ _ _ _ h.out
theorem VW {P:Program}{F:Tr Func}(hF:Fok P F){l:Orc}(hl:∀[Cx],KY P l){f:FuncId}{x:V}{u:Value}(hr:Hold (run P F l 1000000 1000 f [] .leaf 0 (fun v _ _=>isV x v)))(hu:toV x=some u)(ho:okV x=true):enters P f=true∧∀[Cx] h n,Dt P f [] h n x h n:=by
 obtain ⟨v,m',n',q1,q2,q3⟩:=@run_hold trivCx P F hF l (@hl trivCx) 1000000 1000 _ _ _ _ _ hr
 rw [isV_spec q3] at q2
 exact ⟨q1,fun h n=>known q2 hu (okV_conc hu ho) h n⟩
end Go.Rn
end
section
namespace Go.Rn
open Go.RowKit
open Go.Vm (enters AQ Rep D Aq KF Evo Grow Bg BB EI CP)
theorem Ya {P:Program}{f:FuncId}{x:V}{u:Value}{d:D}(h:∀[Cx] hp n,Dt P f [] hp n x hp n)(hc:∀π,Ai π x=some u)(hr:∀ro w,Rep ro w u d):AQ P f [] [.d d]:=by
 intro ro w vs τ hnew huniq hlen _
 obtain rfl:vs = #[]:=Array.eq_empty_of_size_eq_zero (by simpa using hlen)
 refine (@h trivCx (fun _=>none) 0 w.heap.size w (noPi fun _=>.bool false) w [] (mem_none w _ (fun g cs hg=>by obtain ⟨q1,_,q3⟩:=hnew.KZ g cs hg;exact ⟨q1,q3⟩)) (by rw [AL])).mono ?_
 rintro e w' ⟨π',u',rfl,hle,hm,hv⟩
 have hb:Below w.heap.size w w':=by
  letI:=trivCx
  exact hm.below
 rw [hc] at hv
 injection hv with hv
 subst hv
 have hw:∀b,w'.heap.size≤b→ro b=.frozen:=fun b h=>hnew.new b (Nat.le_trans hb.size h)
 exact ⟨u,ro,rfl,⟨hb,fun _ _=>rfl,hw,fun b id k h e=>by rw [hnew.new b h] at e;cases e⟩,hr ro w'⟩
theorem Aat {P:Program}{f:FuncId}{b:Bool}(h:∀[Cx] hp n,Dt P f [] hp n (.sc (.bool b)) hp n):AQ P f [] [.d (.sc (.bool b))]:=
 Ya h (fun π=>by rw [Ai];exact if_pos rfl) (fun ro w=>.sc rfl)
theorem reps_plain {ro:Aq}{w:World}:∀{vs:List Value},(∀v∈vs,Go.Vm.BL v=true)→Bg ro w vs (vs.map .sc):=by
 intro vs h
 refine ⟨by simp,fun u hu=>Go.Vm.Lt (h u hu),fun j u c hu hc=>?_⟩
 rw [List.getElem?_map,hu] at hc
 simp only [Option.map_some,Option.some.injEq] at hc
 subst hc
 exact .sc (h u (List.mem_of_getElem? hu))
theorem concL_plain {π:Pi} [Cx]{us:List Value}(h:us.all (·.oneCell')=true):AL π (us.map .sc)=some us:=LW h
end Go.Rn
end
section
namespace Go.Rn
open Go.RowKit
open Go.Vm (enters AQ Rep D C Aq KF Evo Grow Bg BL Lt)
def scD:D→Option Value
 | .sc v=>if BL v=true then some v else none
 | _=>none
def scDs:List D→Option (List Value)
 | []=>some []
 | d::ds=>match scD d,scDs ds with
  | some v,some vs=>some (v::vs)
  | _,_=>none
def rV:D→Option V
 | .sc v=>if BL v=true then some (.sc v) else none
 | .agg cs=>(scDs cs).map fun vs=>.agg (vs.map .sc)
 | _=>none
def rVs:List D→Option (List V)
 | []=>some []
 | d::ds=>match rV d,rVs ds with
  | some v,some vs=>some (v::vs)
  | _,_=>none
def cV:C→Option V
 | .d x=>rV x
 | _=>none
def cVs:List C→Option (List V)
 | []=>some []
 | d::ds=>match cV d,cVs ds with
  | some v,some vs=>some (v::vs)
  | _,_=>none
def resV:List C→Option V
 | [c]=>cV c
 | cs=>(cVs cs).map .tup
theorem scD_eq {d:D}{v:Value}(h:scD d=some v):d=.sc v∧BL v=true:=by
 cases d with
 | sc u=>
  have h:(if BL u=true then some u else none)=some v:=h
  split at h
  ·rename_i hp;injection h with h;subst h;exact ⟨rfl,hp⟩
  ·cases h
 | _=>cases h
theorem Ui:∀{cs:List D} {vs:List Value},scDs cs=some vs→cs=vs.map .sc∧∀v∈vs,BL v=true
 | [],vs,h=>by rw [scDs] at h;injection h with h;subst h;exact ⟨rfl,by simp⟩
 | d::ds,vs,h=>by
  rw [scDs] at h
  split at h
  ·rename_i v us h1 h2
   injection h with h;subst h
   obtain ⟨rfl,q1⟩:=scD_eq h1
   obtain ⟨rfl,q2⟩:=Ui h2
   exact ⟨rfl,fun u hu=>by rcases List.mem_cons.1 hu with rfl | hu;exact q1;exact q2 u hu⟩
  ·cases h
theorem VH {π:Pi}{vs:List Value}(h:∀v∈vs,BL v=true):Ai π (.agg (vs.map .sc))=some (.agg vs.toArray):=by
 letI:=trivCx
 rw [Ai,if_pos (by rw [List.all_map];exact List.all_eq_true.2 fun _ _=>rfl),concL_plain (List.all_eq_true.2 fun v hv=>Lt (h v hv))]
 rfl
theorem rV_conc {ro:Aq}{w:World}{d:D}{x:V}{v:Value}(h:rV d=some x)(hr:Rep ro w v d)(π:Pi):Ai π x=some v:=by
 cases d with
 | sc u=>
  have h:(if BL u=true then some (V.sc u) else none)=some x:=h
  split at h
  ·rename_i hp
   injection h with h;subst h
   obtain ⟨rfl,_⟩:=Go.Vm.EF hr
   rw [Ai];exact if_pos (Lt hp)
  ·cases h
 | agg cs=>
  obtain ⟨vs,h1,rfl⟩:=Option.map_eq_some_iff.1 h
  obtain ⟨rfl,h2⟩:=Ui h1
  rw [VH h2]
  obtain ⟨arr,rfl,hl,ho,hq⟩:∃arr:Array Value,v=.agg arr∧arr.size=(vs.map D.sc).length∧(∀u∈arr.toList,u.oneCell'=true)∧∀(i:Nat) (u:Value) (c:D),arr.toList[i]? = some u→(vs.map D.sc)[i]? = some c→Rep ro w u c:=by
   generalize hd:D.agg (vs.map D.sc)=d at hr
   cases hr with
   | agg hl h1 h=>injection hd with hd;subst hd;exact ⟨_,rfl,hl,h1,h⟩
   | _=>cases hd
  congr 2
  apply Array.ext
  ·simpa using hl.symm
  ·intro i h3 h4
   have h5:i<vs.length:=by simpa using h3
   have:=hq i arr[i] (.sc vs[i]) (by simp [h4]) (by rw [List.getElem?_map,List.getElem?_eq_getElem h5];rfl)
   obtain ⟨q,_⟩:=Go.Vm.EF this
   rw [q];simp
 | _=>cases h
theorem rV_rep {ro:Aq}{w:World}{d:D}{x:V}{v:Value}{π:Pi}(h:rV d=some x)(hc:Ai π x=some v):Rep ro w v d:=by
 cases d with
 | sc u=>
  have h:(if BL u=true then some (V.sc u) else none)=some x:=h
  split at h
  ·rename_i hp
   injection h with h;subst h
   rw [Ai,if_pos (Lt hp)] at hc
   injection hc with hc;subst hc
   exact .sc hp
  ·cases h
 | agg cs=>
  obtain ⟨vs,h1,rfl⟩:=Option.map_eq_some_iff.1 h
  obtain ⟨rfl,h2⟩:=Ui h1
  rw [VH h2] at hc
  injection hc with hc;subst hc
  have hr:=reps_plain (ro:=ro) (w:=w) h2
  exact .agg (by simp) (by simpa using fun v hv=>Lt (h2 v hv)) (by simpa using hr.2.2)
 | _=>cases h
theorem rVs_rep {ro:Aq}{w:World}{π:Pi}:∀{ds:List D} {vs:List V} {us:List Value},rVs ds=some vs→AL π vs=some us→us.length=ds.length∧∀(i:Nat) (u:Value) (d:D),us[i]? = some u→ds[i]? = some d→Rep ro w u d
 | [],vs,us,h,hc=>by
  rw [rVs] at h;injection h with h;subst h
  rw [AL] at hc;injection hc with hc;subst hc
  exact ⟨rfl,fun i u d h=>by simp at h⟩
 | d::ds,vs,us,h,hc=>by
  rw [rVs] at h
  split at h
  ·rename_i x xs h1 h2
   injection h with h;subst h
   obtain ⟨u,us',k1,k2,rfl⟩:=LK hc
   obtain ⟨q1,q2⟩:=rVs_rep (ro:=ro) (w:=w) h2 k2
   refine ⟨by simp [q1],fun i a b ha hb=>?_⟩
   cases i with
   | zero=>simp at ha hb;subst ha;subst hb;exact rV_rep h1 k1
   | succ i=>exact q2 i a b (by simpa using ha) (by simpa using hb)
  ·cases h
theorem TB {P:Program}{base:Nat}{ro:Aq}{w:World}{π:Pi}:∀{cs:List C} {xs:List V} {us:List Value},cVs cs=some xs→us.length=cs.length→(∀(i:Nat) (u:Value) (c:C),us[i]? = some u→cs[i]? = some c→Go.Vm.CP P base ro w u c)→AL π xs=some us
 | [],xs,us,h,hl,_=>by
  rw [cVs] at h;injection h with h;subst h
  obtain rfl:us= []:=List.length_eq_zero_iff.1 (by simpa using hl)
  rw [AL]
 | c::cs,xs,us,h,hl,hs=>by
  rw [cVs] at h
  split at h
  ·rename_i x xs' h1 h2
   injection h with h;subst h
   match us,hl with
   | u::us',hl=>
    have k1:=hs 0 u c rfl rfl
    have k2:Ai π x=some u:=by
     cases c with
     | d d=>exact rV_conc h1 k1 π
     | _=>cases h1
    rw [AL,k2,TB h2 (by simpa using hl) fun i a b ha hb=>hs (i+1) a b (by simpa using ha) (by simpa using hb)]
  ·cases h
theorem cV_tok {τ:Nat}{c:C}{x:V}(h:cV c=some x):Go.Vm.En τ c=c:=by cases c<;>first | rfl | cases h
theorem cVs_tok {τ:Nat}:∀{cs:List C} {xs:List V},cVs cs=some xs→cs.map (Go.Vm.En τ)=cs
 | [],_,_=>rfl
 | c::cs,xs,h=>by
  rw [cVs] at h
  split at h
  ·rename_i x xs' h1 h2
   rw [List.map_cons,cV_tok h1,cVs_tok h2]
  ·cases h
theorem Fg {P:Program}{f:FuncId}{ds:List D}{vs:List V}{cs:List C}{x:V}(hd:rVs ds=some vs)(hx:resV cs=some x)(hc:AQ P f ds cs) [Cx](h:Hp)(n:Nat):Dt P f vs h n x h n:=by
 intro base w0 π w us' hm hus'
 obtain ⟨q1,q2⟩:=rVs_rep (ro:=Go.Vm.KF) (w:=w) hd hus'
 refine (hc Go.Vm.KF w us'.toArray 0 ⟨fun _ _=>rfl,globW_of hm.KZ hm.size⟩ (fun b b' id k k' h=>by cases h) (by simpa using q1) (fun i u d h2 h3=>q2 i u d (by simpa using h2) h3)).mono ?_
 rintro e w' ⟨y,ro',rfl,hg,hs⟩
 refine ⟨π,y,rfl,π.le_refl,hm.keep hg.below,?_⟩
 match cs,hx,hs with
 | [],hx,hs=>
  have hx:(cVs []).map V.tup=some x:=hx
  obtain ⟨xs,k1,rfl⟩:=Option.map_eq_some_iff.1 hx
  have hs:∃arr:Array Value,y=.tuple arr∧arr.size=0∧∀(i:Nat) (u:Value) (a:C),arr.toList[i]? = some u→([]:List C)[i]? = some a→Go.Vm.CP P w.heap.size ro' w' u a:=hs
  obtain ⟨arr,rfl,k2,k3⟩:=hs
  rw [Ai,TB k1 (us:=arr.toList) (by simpa using k2) k3];simp
 | [c],hx,hs=>
  have hx:cV c=some x:=hx
  have hs:Go.Vm.CP P w.heap.size ro' w' y (Go.Vm.En 0 c):=hs
  rw [cV_tok hx] at hs
  cases c with
  | d d=>exact rV_conc hx hs π
  | _=>cases hx
 | c::c'::l,hx,hs=>
  have hx:(cVs (c::c'::l)).map V.tup=some x:=hx
  obtain ⟨xs,k1,rfl⟩:=Option.map_eq_some_iff.1 hx
  have e:=cVs_tok (τ:=0) k1
  have hs:∃arr:Array Value,y=.tuple arr∧arr.size=((c::c'::l).map (Go.Vm.En 0)).length∧∀(i:Nat) (u:Value) (a:C),arr.toList[i]? = some u→((c::c'::l).map (Go.Vm.En 0))[i]? = some a→Go.Vm.CP P w.heap.size ro' w' u a:=hs
  rw [e] at hs
  obtain ⟨arr,rfl,k2,k3⟩:=hs
  rw [Ai,TB k1 (us:=arr.toList) (by simpa using k2) k3];simp
end Go.Rn
end
section
namespace Go.Rn
open Go.Proofs.Tryz
open Go.RowKit
theorem fo7:Aj prog 7 f7:=⟨func7,by kernel_rfl⟩
theorem fo9:Aj prog 9 f9:=⟨func9,by kernel_rfl⟩
theorem fo13:Aj prog 13 f13:=⟨func13,by kernel_rfl⟩
theorem fo14:Aj prog 14 f14:=⟨func14,by kernel_rfl⟩
theorem fo16:Aj prog 16 f16:=⟨func16,by kernel_rfl⟩
theorem fo17:Aj prog 17 f17:=⟨func17,by kernel_rfl⟩
theorem fo23:Aj prog 23 f23:=⟨func23,by kernel_rfl⟩
theorem fo24:Aj prog 24 f24:=⟨func24,by kernel_rfl⟩
theorem fo28:Aj prog 28 f28:=⟨func28,by kernel_rfl⟩
theorem fo29:Aj prog 29 f29:=⟨func29,by kernel_rfl⟩
theorem fo31:Aj prog 31 f31:=⟨func31,by kernel_rfl⟩
theorem fo32:Aj prog 32 f32:=⟨func32,by kernel_rfl⟩
theorem fo39:Aj prog 39 f39:=⟨func39,by kernel_rfl⟩
theorem fo40:Aj prog 40 f40:=⟨func40,by kernel_rfl⟩
theorem fo41:Aj prog 41 f41:=⟨func41,by kernel_rfl⟩
theorem fo42:Aj prog 42 f42:=⟨func42,by kernel_rfl⟩
theorem fo43:Aj prog 43 f43:=⟨func43,by kernel_rfl⟩
theorem fo45:Aj prog 45 f45:=⟨func45,by kernel_rfl⟩
theorem fo54:Aj prog 54 f54:=⟨func54,by kernel_rfl⟩
theorem fo55:Aj prog 55 f55:=⟨func55,by kernel_rfl⟩
theorem fo60:Aj prog 60 f60:=⟨func60,by kernel_rfl⟩
theorem fo62:Aj prog 62 f62:=⟨func62,by kernel_rfl⟩
theorem fo64:Aj prog 64 f64:=⟨func64,by kernel_rfl⟩
theorem fo65:Aj prog 65 f65:=⟨func65,by kernel_rfl⟩
theorem fo75:Aj prog 75 f75:=⟨func75,by kernel_rfl⟩
theorem fo83:Aj prog 83 f83:=⟨func83,by kernel_rfl⟩
theorem fo84:Aj prog 84 f84:=⟨func84,by kernel_rfl⟩
theorem fo85:Aj prog 85 f85:=⟨func85,by kernel_rfl⟩
theorem fo99:Aj prog 99 f99:=⟨func99,by kernel_rfl⟩
theorem fo100:Aj prog 100 f100:=⟨func100,by kernel_rfl⟩
theorem fo101:Aj prog 101 f101:=⟨func101,by kernel_rfl⟩
theorem fo102:Aj prog 102 f102:=⟨func102,by kernel_rfl⟩
theorem fo103:Aj prog 103 f103:=⟨func103,by kernel_rfl⟩
theorem fo104:Aj prog 104 f104:=⟨func104,by kernel_rfl⟩
theorem fo105:Aj prog 105 f105:=⟨func105,by kernel_rfl⟩
theorem fo106:Aj prog 106 f106:=⟨func106,by kernel_rfl⟩
theorem fo109:Aj prog 109 f109:=⟨func109,by kernel_rfl⟩
theorem fo112:Aj prog 112 f112:=⟨func112,by kernel_rfl⟩
theorem fo114:Aj prog 114 f114:=⟨func114,by kernel_rfl⟩
theorem fo115:Aj prog 115 f115:=⟨func115,by kernel_rfl⟩
theorem fo117:Aj prog 117 f117:=⟨func117,by kernel_rfl⟩
theorem fo127:Aj prog 127 f127:=⟨func127,by kernel_rfl⟩
theorem fo130:Aj prog 130 f130:=⟨func130,by kernel_rfl⟩
theorem fo131:Aj prog 131 f131:=⟨func131,by kernel_rfl⟩
theorem fo134:Aj prog 134 f134:=⟨func134,by kernel_rfl⟩
theorem fo135:Aj prog 135 f135:=⟨func135,by kernel_rfl⟩
theorem fo140:Aj prog 140 f140:=⟨func140,by kernel_rfl⟩
theorem fo141:Aj prog 141 f141:=⟨func141,by kernel_rfl⟩
theorem fo154:Aj prog 154 f154:=⟨func154,by kernel_rfl⟩
theorem fo156:Aj prog 156 f156:=⟨func156,by kernel_rfl⟩
theorem fo157:Aj prog 157 f157:=⟨func157,by kernel_rfl⟩
theorem fo158:Aj prog 158 f158:=⟨func158,by kernel_rfl⟩
theorem fo159:Aj prog 159 f159:=⟨func159,by kernel_rfl⟩
theorem fo160:Aj prog 160 f160:=⟨func160,by kernel_rfl⟩
theorem fo164:Aj prog 164 f164:=⟨func164,by kernel_rfl⟩
theorem fo165:Aj prog 165 f165:=⟨func165,by kernel_rfl⟩
theorem fo169:Aj prog 169 f169:=⟨func169,by kernel_rfl⟩
theorem fo170:Aj prog 170 f170:=⟨func170,by kernel_rfl⟩
theorem fo171:Aj prog 171 f171:=⟨func171,by kernel_rfl⟩
theorem fo172:Aj prog 172 f172:=⟨func172,by kernel_rfl⟩
theorem fo173:Aj prog 173 f173:=⟨func173,by kernel_rfl⟩
theorem fo174:Aj prog 174 f174:=⟨func174,by kernel_rfl⟩
theorem fo175:Aj prog 175 f175:=⟨func175,by kernel_rfl⟩
theorem fo176:Aj prog 176 f176:=⟨func176,by kernel_rfl⟩
theorem fo177:Aj prog 177 f177:=⟨func177,by kernel_rfl⟩
theorem fo185:Aj prog 185 f185:=⟨func185,by kernel_rfl⟩
theorem fo200:Aj prog 200 f200:=⟨func200,by kernel_rfl⟩
theorem fo201:Aj prog 201 f201:=⟨func201,by kernel_rfl⟩
theorem fo202:Aj prog 202 f202:=⟨func202,by kernel_rfl⟩
theorem fo203:Aj prog 203 f203:=⟨func203,by kernel_rfl⟩
theorem fo208:Aj prog 208 f208:=⟨func208,by kernel_rfl⟩
theorem fo209:Aj prog 209 f209:=⟨func209,by kernel_rfl⟩
theorem fo210:Aj prog 210 f210:=⟨func210,by kernel_rfl⟩
theorem fo211:Aj prog 211 f211:=⟨func211,by kernel_rfl⟩
theorem fo212:Aj prog 212 f212:=⟨func212,by kernel_rfl⟩
theorem fo213:Aj prog 213 f213:=⟨func213,by kernel_rfl⟩
theorem fo215:Aj prog 215 f215:=⟨func215,by kernel_rfl⟩
theorem fo219:Aj prog 219 f219:=⟨func219,by kernel_rfl⟩
theorem fo220:Aj prog 220 f220:=⟨func220,by kernel_rfl⟩
theorem fo229:Aj prog 229 f229:=⟨func229,by kernel_rfl⟩
theorem fo230:Aj prog 230 f230:=⟨func230,by kernel_rfl⟩
theorem fo231:Aj prog 231 f231:=⟨func231,by kernel_rfl⟩
theorem fo232:Aj prog 232 f232:=⟨func232,by kernel_rfl⟩
theorem fo233:Aj prog 233 f233:=⟨func233,by kernel_rfl⟩
theorem fo234:Aj prog 234 f234:=⟨func234,by kernel_rfl⟩
theorem fo235:Aj prog 235 f235:=⟨func235,by kernel_rfl⟩
theorem fo236:Aj prog 236 f236:=⟨func236,by kernel_rfl⟩
theorem fo237:Aj prog 237 f237:=⟨func237,by kernel_rfl⟩
theorem fo238:Aj prog 238 f238:=⟨func238,by kernel_rfl⟩
theorem fo250:Aj prog 250 f250:=⟨func250,by kernel_rfl⟩
theorem fo251:Aj prog 251 f251:=⟨func251,by kernel_rfl⟩
theorem fo252:Aj prog 252 f252:=⟨func252,by kernel_rfl⟩
theorem fo253:Aj prog 253 f253:=⟨func253,by kernel_rfl⟩
theorem fo254:Aj prog 254 f254:=⟨func254,by kernel_rfl⟩
theorem fo255:Aj prog 255 f255:=⟨func255,by kernel_rfl⟩
theorem fo256:Aj prog 256 f256:=⟨func256,by kernel_rfl⟩
theorem fo257:Aj prog 257 f257:=⟨func257,by kernel_rfl⟩
theorem fo258:Aj prog 258 f258:=⟨func258,by kernel_rfl⟩
theorem fo259:Aj prog 259 f259:=⟨func259,by kernel_rfl⟩
theorem fo260:Aj prog 260 f260:=⟨func260,by kernel_rfl⟩
theorem fo261:Aj prog 261 f261:=⟨func261,by kernel_rfl⟩
theorem fo262:Aj prog 262 f262:=⟨func262,by kernel_rfl⟩
theorem fo263:Aj prog 263 f263:=⟨func263,by kernel_rfl⟩
theorem fo272:Aj prog 272 f272:=⟨func272,by kernel_rfl⟩
theorem fo274:Aj prog 274 f274:=⟨func274,by kernel_rfl⟩
theorem fo275:Aj prog 275 f275:=⟨func275,by kernel_rfl⟩
theorem fo285:Aj prog 285 f285:=⟨func285,by kernel_rfl⟩
theorem fo287:Aj prog 287 f287:=⟨func287,by kernel_rfl⟩
theorem fo292:Aj prog 292 f292:=⟨func292,by kernel_rfl⟩
theorem fo293:Aj prog 293 f293:=⟨func293,by kernel_rfl⟩
theorem fo294:Aj prog 294 f294:=⟨func294,by kernel_rfl⟩
theorem fo295:Aj prog 295 f295:=⟨func295,by kernel_rfl⟩
theorem fo296:Aj prog 296 f296:=⟨func296,by kernel_rfl⟩
theorem fo299:Aj prog 299 f299:=⟨func299,by kernel_rfl⟩
theorem fo300:Aj prog 300 f300:=⟨func300,by kernel_rfl⟩
theorem fo301:Aj prog 301 f301:=⟨func301,by kernel_rfl⟩
theorem fo302:Aj prog 302 f302:=⟨func302,by kernel_rfl⟩
theorem fo303:Aj prog 303 f303:=⟨func303,by kernel_rfl⟩
theorem fo304:Aj prog 304 f304:=⟨func304,by kernel_rfl⟩
theorem fo305:Aj prog 305 f305:=⟨func305,by kernel_rfl⟩
theorem fo306:Aj prog 306 f306:=⟨func306,by kernel_rfl⟩
theorem fo307:Aj prog 307 f307:=⟨func307,by kernel_rfl⟩
theorem fo309:Aj prog 309 f309:=⟨func309,by kernel_rfl⟩
theorem fo310:Aj prog 310 f310:=⟨func310,by kernel_rfl⟩
theorem fo311:Aj prog 311 f311:=⟨func311,by kernel_rfl⟩
theorem fo312:Aj prog 312 f312:=⟨func312,by kernel_rfl⟩
theorem fo314:Aj prog 314 f314:=⟨func314,by kernel_rfl⟩
theorem fo323:Aj prog 323 f323:=⟨func323,by kernel_rfl⟩
theorem fo324:Aj prog 324 f324:=⟨func324,by kernel_rfl⟩
theorem fo325:Aj prog 325 f325:=⟨func325,by kernel_rfl⟩
theorem fo329:Aj prog 329 f329:=⟨func329,by kernel_rfl⟩
theorem fo330:Aj prog 330 f330:=⟨func330,by kernel_rfl⟩
theorem fo331:Aj prog 331 f331:=⟨func331,by kernel_rfl⟩
theorem fo338:Aj prog 338 f338:=⟨func338,by kernel_rfl⟩
theorem fo343:Aj prog 343 f343:=⟨func343,by kernel_rfl⟩
theorem fo346:Aj prog 346 f346:=⟨func346,by kernel_rfl⟩
theorem fo347:Aj prog 347 f347:=⟨func347,by kernel_rfl⟩
theorem fo348:Aj prog 348 f348:=⟨func348,by kernel_rfl⟩
theorem fo349:Aj prog 349 f349:=⟨func349,by kernel_rfl⟩
theorem fo350:Aj prog 350 f350:=⟨func350,by kernel_rfl⟩
theorem fo351:Aj prog 351 f351:=⟨func351,by kernel_rfl⟩
theorem fo352:Aj prog 352 f352:=⟨func352,by kernel_rfl⟩
theorem fo353:Aj prog 353 f353:=⟨func353,by kernel_rfl⟩
theorem fo354:Aj prog 354 f354:=⟨func354,by kernel_rfl⟩
theorem fo355:Aj prog 355 f355:=⟨func355,by kernel_rfl⟩
theorem fo356:Aj prog 356 f356:=⟨func356,by kernel_rfl⟩
theorem fo357:Aj prog 357 f357:=⟨func357,by kernel_rfl⟩
theorem fo358:Aj prog 358 f358:=⟨func358,by kernel_rfl⟩
theorem fo359:Aj prog 359 f359:=⟨func359,by kernel_rfl⟩
theorem fo367:Aj prog 367 f367:=⟨func367,by kernel_rfl⟩
theorem fo368:Aj prog 368 f368:=⟨func368,by kernel_rfl⟩
theorem fo372:Aj prog 372 f372:=⟨func372,by kernel_rfl⟩
theorem fo373:Aj prog 373 f373:=⟨func373,by kernel_rfl⟩
theorem fo374:Aj prog 374 f374:=⟨func374,by kernel_rfl⟩
theorem fo375:Aj prog 375 f375:=⟨func375,by kernel_rfl⟩
theorem fo376:Aj prog 376 f376:=⟨func376,by kernel_rfl⟩
theorem fo377:Aj prog 377 f377:=⟨func377,by kernel_rfl⟩
theorem fo378:Aj prog 378 f378:=⟨func378,by kernel_rfl⟩
theorem fo379:Aj prog 379 f379:=⟨func379,by kernel_rfl⟩
theorem fo382:Aj prog 382 f382:=⟨func382,by kernel_rfl⟩
theorem fo391:Aj prog 391 f391:=⟨func391,by kernel_rfl⟩
theorem fo392:Aj prog 392 f392:=⟨func392,by kernel_rfl⟩
theorem fo394:Aj prog 394 f394:=⟨func394,by kernel_rfl⟩
theorem fo399:Aj prog 399 f399:=⟨func399,by kernel_rfl⟩
theorem fo401:Aj prog 401 f401:=⟨func401,by kernel_rfl⟩
theorem fo402:Aj prog 402 f402:=⟨func402,by kernel_rfl⟩
theorem fo403:Aj prog 403 f403:=⟨func403,by kernel_rfl⟩
theorem fo404:Aj prog 404 f404:=⟨func404,by kernel_rfl⟩
theorem fo405:Aj prog 405 f405:=⟨func405,by kernel_rfl⟩
theorem fo406:Aj prog 406 f406:=⟨func406,by kernel_rfl⟩
theorem fo407:Aj prog 407 f407:=⟨func407,by kernel_rfl⟩
theorem fo415:Aj prog 415 f415:=⟨func415,by kernel_rfl⟩
theorem fo420:Aj prog 420 f420:=⟨func420,by kernel_rfl⟩
theorem fo421:Aj prog 421 f421:=⟨func421,by kernel_rfl⟩
theorem fo423:Aj prog 423 f423:=⟨func423,by kernel_rfl⟩
theorem fo424:Aj prog 424 f424:=⟨func424,by kernel_rfl⟩
theorem fo441:Aj prog 441 f441:=⟨func441,by kernel_rfl⟩
noncomputable def ft:Tr Func:=(.node none (.node none (.node none (.node (some f7) (.node none (.node (some f31) (.node none (.node (some f127) (.node (some f255) .leaf .leaf) .leaf) .leaf) (.node none (.node (some f159) (.node (some f287) .leaf .leaf) (.node (some f415) .leaf .leaf)) (.node none (.node (some f351) .leaf .leaf) .leaf))) (.node none (.node none (.node none .leaf (.node (some f399) .leaf .leaf)) .leaf) (.node none (.node (some f175) (.node (some f303) .leaf .leaf) .leaf) (.node none (.node (some f367) .leaf .leaf) .leaf)))) (.node (some f23) (.node (some f39) (.node none (.node (some f135) (.node (some f263) .leaf .leaf) (.node (some f391) .leaf .leaf)) .leaf) (.node (some f103) (.node none (.node (some f295) .leaf .leaf) (.node (some f423) .leaf .leaf)) (.node (some f231) (.node (some f359) .leaf .leaf) .leaf))) (.node (some f55) (.node none (.node none .leaf (.node (some f407) .leaf .leaf)) (.node (some f215) (.node (some f343) .leaf .leaf) .leaf)) (.node none (.node none (.node (some f311) .leaf .leaf) .leaf) (.node none (.node (some f375) .leaf .leaf) .leaf))))) (.node none (.node none (.node none (.node none (.node (some f131) (.node (some f259) .leaf .leaf) .leaf) (.node none (.node (some f323) .leaf .leaf) .leaf)) (.node (some f99) .leaf (.node none (.node (some f355) .leaf .leaf) .leaf))) (.node none (.node (some f83) (.node none (.node (some f275) .leaf .leaf) (.node (some f403) .leaf .leaf)) (.node (some f211) .leaf .leaf)) (.node (some f115) (.node none (.node (some f307) .leaf .leaf) .leaf) .leaf))) (.node none (.node (some f43) (.node (some f75) .leaf (.node (some f203) (.node (some f331) .leaf .leaf) .leaf)) (.node none (.node (some f171) (.node (some f299) .leaf .leaf) .leaf) (.node (some f235) .leaf .leaf))) (.node none (.node none .leaf (.node (some f219) (.node (some f347) .leaf .leaf) .leaf)) (.node none .leaf (.node (some f251) (.node (some f379) .leaf .leaf) .leaf)))))) (.node none (.node (some f9) (.node (some f17) (.node none (.node (some f65) (.node none (.node (some f257) .leaf .leaf) .leaf) .leaf) (.node none .leaf (.node none (.node (some f353) .leaf .leaf) .leaf))) (.node none (.node none (.node none .leaf (.node (some f401) .leaf .leaf)) (.node (some f209) .leaf .leaf)) (.node none (.node (some f177) (.node (some f305) .leaf .leaf) .leaf) .leaf))) (.node none (.node (some f41) (.node none .leaf (.node (some f201) (.node (some f329) .leaf .leaf) .leaf)) (.node (some f105) (.node (some f169) .leaf .leaf) (.node (some f233) .leaf .leaf))) (.node none .leaf (.node none (.node (some f185) .leaf (.node (some f441) .leaf .leaf)) (.node none (.node (some f377) .leaf .leaf) .leaf))))) (.node (some f13) (.node none (.node none (.node none (.node none (.node (some f261) .leaf .leaf) .leaf) (.node none (.node (some f325) .leaf .leaf) .leaf)) (.node (some f101) (.node (some f165) (.node (some f293) .leaf .leaf) (.node (some f421) .leaf .leaf)) (.node (some f229) (.node (some f357) .leaf .leaf) .leaf))) (.node none (.node (some f85) (.node none .leaf (.node (some f405) .leaf .leaf)) (.node (some f213) .leaf .leaf)) (.node (some f117) (.node none (.node (some f309) .leaf .leaf) .leaf) (.node none (.node (some f373) .leaf .leaf) .leaf)))) (.node (some f29) (.node (some f45) (.node none (.node (some f141) .leaf .leaf) .leaf) (.node (some f109) (.node (some f173) (.node (some f301) .leaf .leaf) .leaf) (.node (some f237) .leaf .leaf))) (.node none (.node none (.node (some f157) (.node (some f285) .leaf .leaf) .leaf) (.node none (.node (some f349) .leaf .leaf) .leaf)) (.node none .leaf (.node (some f253) .leaf .leaf))))))) (.node none (.node none (.node none (.node (some f16) (.node (some f32) (.node (some f64) (.node none (.node (some f256) .leaf .leaf) .leaf) .leaf) (.node none (.node (some f160) .leaf .leaf) (.node none (.node (some f352) .leaf .leaf) .leaf))) (.node none (.node none (.node none (.node (some f272) .leaf .leaf) .leaf) (.node (some f208) .leaf .leaf)) (.node (some f112) (.node (some f176) (.node (some f304) .leaf .leaf) .leaf) (.node none (.node (some f368) .leaf .leaf) .leaf)))) (.node (some f24) (.node (some f40) (.node none (.node none .leaf (.node (some f392) .leaf .leaf)) (.node (some f200) .leaf .leaf)) (.node (some f104) (.node none (.node (some f296) .leaf .leaf) (.node (some f424) .leaf .leaf)) (.node (some f232) .leaf .leaf))) (.node none .leaf (.node none (.node none (.node (some f312) .leaf .leaf) .leaf) (.node none (.node (some f376) .leaf .leaf) .leaf))))) (.node none (.node none (.node none (.node none (.node none (.node (some f260) .leaf .leaf) .leaf) (.node none (.node (some f324) .leaf .leaf) .leaf)) (.node (some f100) (.node (some f164) (.node (some f292) .leaf .leaf) (.node (some f420) .leaf .leaf)) (.node none (.node (some f356) .leaf .leaf) .leaf))) (.node none (.node (some f84) (.node none .leaf (.node (some f404) .leaf .leaf)) (.node (some f212) .leaf .leaf)) (.node none .leaf (.node none (.node (some f372) .leaf .leaf) .leaf)))) (.node (some f28) (.node none (.node none (.node (some f140) .leaf .leaf) .leaf) (.node none (.node (some f172) (.node (some f300) .leaf .leaf) .leaf) (.node (some f236) .leaf .leaf))) (.node (some f60) (.node none (.node (some f156) .leaf .leaf) (.node (some f220) (.node (some f348) .leaf .leaf) .leaf)) (.node none .leaf (.node (some f252) .leaf .leaf)))))) (.node none (.node none (.node none (.node none (.node none (.node (some f130) (.node (some f258) .leaf .leaf) .leaf) .leaf) (.node none .leaf (.node none (.node (some f354) .leaf .leaf) .leaf))) (.node none (.node none (.node none (.node (some f274) .leaf .leaf) (.node (some f402) .leaf .leaf)) (.node (some f210) (.node (some f338) .leaf .leaf) .leaf)) (.node (some f114) (.node none (.node (some f306) .leaf .leaf) .leaf) .leaf))) (.node none (.node (some f42) (.node none (.node none .leaf (.node (some f394) .leaf .leaf)) (.node (some f202) (.node (some f330) .leaf .leaf) .leaf)) (.node (some f106) (.node (some f170) .leaf .leaf) (.node (some f234) .leaf .leaf))) (.node none (.node none (.node (some f154) .leaf .leaf) (.node none (.node (some f346) .leaf .leaf) .leaf)) (.node none (.node none (.node (some f314) .leaf .leaf) .leaf) (.node (some f250) (.node (some f378) .leaf .leaf) .leaf))))) (.node (some f14) (.node none (.node none (.node none (.node (some f134) (.node (some f262) .leaf .leaf) .leaf) .leaf) (.node (some f102) (.node none (.node (some f294) .leaf .leaf) .leaf) (.node (some f230) (.node (some f358) .leaf .leaf) .leaf))) (.node (some f54) (.node none (.node none .leaf (.node (some f406) .leaf .leaf)) .leaf) (.node none (.node none (.node (some f310) .leaf .leaf) .leaf) (.node none (.node (some f374) .leaf .leaf) .leaf)))) (.node none (.node none .leaf (.node none (.node (some f174) (.node (some f302) .leaf .leaf) .leaf) (.node (some f238) .leaf .leaf))) (.node (some f62) (.node none (.node (some f158) .leaf .leaf) (.node none (.node (some f350) .leaf .leaf) .leaf)) (.node none .leaf (.node (some f254) (.node (some f382) .leaf .leaf) .leaf))))))))
theorem ft_ok:Fok prog ft:=fok_of (⟨trivial,⟨trivial,⟨trivial,⟨fo7,⟨trivial,⟨fo31,⟨trivial,⟨fo127,⟨fo255,trivial,trivial⟩,trivial⟩,trivial⟩,⟨trivial,⟨fo159,⟨fo287,trivial,trivial⟩,⟨fo415,trivial,trivial⟩⟩,⟨trivial,⟨fo351,trivial,trivial⟩,trivial⟩⟩⟩,⟨trivial,⟨trivial,⟨trivial,trivial,⟨fo399,trivial,trivial⟩⟩,trivial⟩,⟨trivial,⟨fo175,⟨fo303,trivial,trivial⟩,trivial⟩,⟨trivial,⟨fo367,trivial,trivial⟩,trivial⟩⟩⟩⟩,⟨fo23,⟨fo39,⟨trivial,⟨fo135,⟨fo263,trivial,trivial⟩,⟨fo391,trivial,trivial⟩⟩,trivial⟩,⟨fo103,⟨trivial,⟨fo295,trivial,trivial⟩,⟨fo423,trivial,trivial⟩⟩,⟨fo231,⟨fo359,trivial,trivial⟩,trivial⟩⟩⟩,⟨fo55,⟨trivial,⟨trivial,trivial,⟨fo407,trivial,trivial⟩⟩,⟨fo215,⟨fo343,trivial,trivial⟩,trivial⟩⟩,⟨trivial,⟨trivial,⟨fo311,trivial,trivial⟩,trivial⟩,⟨trivial,⟨fo375,trivial,trivial⟩,trivial⟩⟩⟩⟩⟩,⟨trivial,⟨trivial,⟨trivial,⟨trivial,⟨fo131,⟨fo259,trivial,trivial⟩,trivial⟩,⟨trivial,⟨fo323,trivial,trivial⟩,trivial⟩⟩,⟨fo99,trivial,⟨trivial,⟨fo355,trivial,trivial⟩,trivial⟩⟩⟩,⟨trivial,⟨fo83,⟨trivial,⟨fo275,trivial,trivial⟩,⟨fo403,trivial,trivial⟩⟩,⟨fo211,trivial,trivial⟩⟩,⟨fo115,⟨trivial,⟨fo307,trivial,trivial⟩,trivial⟩,trivial⟩⟩⟩,⟨trivial,⟨fo43,⟨fo75,trivial,⟨fo203,⟨fo331,trivial,trivial⟩,trivial⟩⟩,⟨trivial,⟨fo171,⟨fo299,trivial,trivial⟩,trivial⟩,⟨fo235,trivial,trivial⟩⟩⟩,⟨trivial,⟨trivial,trivial,⟨fo219,⟨fo347,trivial,trivial⟩,trivial⟩⟩,⟨trivial,trivial,⟨fo251,⟨fo379,trivial,trivial⟩,trivial⟩⟩⟩⟩⟩⟩,⟨trivial,⟨fo9,⟨fo17,⟨trivial,⟨fo65,⟨trivial,⟨fo257,trivial,trivial⟩,trivial⟩,trivial⟩,⟨trivial,trivial,⟨trivial,⟨fo353,trivial,trivial⟩,trivial⟩⟩⟩,⟨trivial,⟨trivial,⟨trivial,trivial,⟨fo401,trivial,trivial⟩⟩,⟨fo209,trivial,trivial⟩⟩,⟨trivial,⟨fo177,⟨fo305,trivial,trivial⟩,trivial⟩,trivial⟩⟩⟩,⟨trivial,⟨fo41,⟨trivial,trivial,⟨fo201,⟨fo329,trivial,trivial⟩,trivial⟩⟩,⟨fo105,⟨fo169,trivial,trivial⟩,⟨fo233,trivial,trivial⟩⟩⟩,⟨trivial,trivial,⟨trivial,⟨fo185,trivial,⟨fo441,trivial,trivial⟩⟩,⟨trivial,⟨fo377,trivial,trivial⟩,trivial⟩⟩⟩⟩⟩,⟨fo13,⟨trivial,⟨trivial,⟨trivial,⟨trivial,⟨fo261,trivial,trivial⟩,trivial⟩,⟨trivial,⟨fo325,trivial,trivial⟩,trivial⟩⟩,⟨fo101,⟨fo165,⟨fo293,trivial,trivial⟩,⟨fo421,trivial,trivial⟩⟩,⟨fo229,⟨fo357,trivial,trivial⟩,trivial⟩⟩⟩,⟨trivial,⟨fo85,⟨trivial,trivial,⟨fo405,trivial,trivial⟩⟩,⟨fo213,trivial,trivial⟩⟩,⟨fo117,⟨trivial,⟨fo309,trivial,trivial⟩,trivial⟩,⟨trivial,⟨fo373,trivial,trivial⟩,trivial⟩⟩⟩⟩,⟨fo29,⟨fo45,⟨trivial,⟨fo141,trivial,trivial⟩,trivial⟩,⟨fo109,⟨fo173,⟨fo301,trivial,trivial⟩,trivial⟩,⟨fo237,trivial,trivial⟩⟩⟩,⟨trivial,⟨trivial,⟨fo157,⟨fo285,trivial,trivial⟩,trivial⟩,⟨trivial,⟨fo349,trivial,trivial⟩,trivial⟩⟩,⟨trivial,trivial,⟨fo253,trivial,trivial⟩⟩⟩⟩⟩⟩⟩,⟨trivial,⟨trivial,⟨trivial,⟨fo16,⟨fo32,⟨fo64,⟨trivial,⟨fo256,trivial,trivial⟩,trivial⟩,trivial⟩,⟨trivial,⟨fo160,trivial,trivial⟩,⟨trivial,⟨fo352,trivial,trivial⟩,trivial⟩⟩⟩,⟨trivial,⟨trivial,⟨trivial,⟨fo272,trivial,trivial⟩,trivial⟩,⟨fo208,trivial,trivial⟩⟩,⟨fo112,⟨fo176,⟨fo304,trivial,trivial⟩,trivial⟩,⟨trivial,⟨fo368,trivial,trivial⟩,trivial⟩⟩⟩⟩,⟨fo24,⟨fo40,⟨trivial,⟨trivial,trivial,⟨fo392,trivial,trivial⟩⟩,⟨fo200,trivial,trivial⟩⟩,⟨fo104,⟨trivial,⟨fo296,trivial,trivial⟩,⟨fo424,trivial,trivial⟩⟩,⟨fo232,trivial,trivial⟩⟩⟩,⟨trivial,trivial,⟨trivial,⟨trivial,⟨fo312,trivial,trivial⟩,trivial⟩,⟨trivial,⟨fo376,trivial,trivial⟩,trivial⟩⟩⟩⟩⟩,⟨trivial,⟨trivial,⟨trivial,⟨trivial,⟨trivial,⟨fo260,trivial,trivial⟩,trivial⟩,⟨trivial,⟨fo324,trivial,trivial⟩,trivial⟩⟩,⟨fo100,⟨fo164,⟨fo292,trivial,trivial⟩,⟨fo420,trivial,trivial⟩⟩,⟨trivial,⟨fo356,trivial,trivial⟩,trivial⟩⟩⟩,⟨trivial,⟨fo84,⟨trivial,trivial,⟨fo404,trivial,trivial⟩⟩,⟨fo212,trivial,trivial⟩⟩,⟨trivial,trivial,⟨trivial,⟨fo372,trivial,trivial⟩,trivial⟩⟩⟩⟩,⟨fo28,⟨trivial,⟨trivial,⟨fo140,trivial,trivial⟩,trivial⟩,⟨trivial,⟨fo172,⟨fo300,trivial,trivial⟩,trivial⟩,⟨fo236,trivial,trivial⟩⟩⟩,⟨fo60,⟨trivial,⟨fo156,trivial,trivial⟩,⟨fo220,⟨fo348,trivial,trivial⟩,trivial⟩⟩,⟨trivial,trivial,⟨fo252,trivial,trivial⟩⟩⟩⟩⟩⟩,⟨trivial,⟨trivial,⟨trivial,⟨trivial,⟨trivial,⟨fo130,⟨fo258,trivial,trivial⟩,trivial⟩,trivial⟩,⟨trivial,trivial,⟨trivial,⟨fo354,trivial,trivial⟩,trivial⟩⟩⟩,⟨trivial,⟨trivial,⟨trivial,⟨fo274,trivial,trivial⟩,⟨fo402,trivial,trivial⟩⟩,⟨fo210,⟨fo338,trivial,trivial⟩,trivial⟩⟩,⟨fo114,⟨trivial,⟨fo306,trivial,trivial⟩,trivial⟩,trivial⟩⟩⟩,⟨trivial,⟨fo42,⟨trivial,⟨trivial,trivial,⟨fo394,trivial,trivial⟩⟩,⟨fo202,⟨fo330,trivial,trivial⟩,trivial⟩⟩,⟨fo106,⟨fo170,trivial,trivial⟩,⟨fo234,trivial,trivial⟩⟩⟩,⟨trivial,⟨trivial,⟨fo154,trivial,trivial⟩,⟨trivial,⟨fo346,trivial,trivial⟩,trivial⟩⟩,⟨trivial,⟨trivial,⟨fo314,trivial,trivial⟩,trivial⟩,⟨fo250,⟨fo378,trivial,trivial⟩,trivial⟩⟩⟩⟩⟩,⟨fo14,⟨trivial,⟨trivial,⟨trivial,⟨fo134,⟨fo262,trivial,trivial⟩,trivial⟩,trivial⟩,⟨fo102,⟨trivial,⟨fo294,trivial,trivial⟩,trivial⟩,⟨fo230,⟨fo358,trivial,trivial⟩,trivial⟩⟩⟩,⟨fo54,⟨trivial,⟨trivial,trivial,⟨fo406,trivial,trivial⟩⟩,trivial⟩,⟨trivial,⟨trivial,⟨fo310,trivial,trivial⟩,trivial⟩,⟨trivial,⟨fo374,trivial,trivial⟩,trivial⟩⟩⟩⟩,⟨trivial,⟨trivial,trivial,⟨trivial,⟨fo174,⟨fo302,trivial,trivial⟩,trivial⟩,⟨fo238,trivial,trivial⟩⟩⟩,⟨fo62,⟨trivial,⟨fo158,trivial,trivial⟩,⟨trivial,⟨fo350,trivial,trivial⟩,trivial⟩⟩,⟨trivial,trivial,⟨fo254,⟨fo382,trivial,trivial⟩,trivial⟩⟩⟩⟩⟩⟩⟩⟩)
end Go.Rn
end
section
namespace Go.Rn
open Go.RowKit
open Go.Vm (enters)
set_option maxRecDepth 1000000
def MF:V:=.agg [.sc (.int .u32 0),.sc (.int .u32 1996959894),.sc (.int .u32 3993919788),.sc (.int .u32 2567524794),.sc (.int .u32 124634137),.sc (.int .u32 1886057615),.sc (.int .u32 3915621685),.sc (.int .u32 2657392035),.sc (.int .u32 249268274),.sc (.int .u32 2044508324),.sc (.int .u32 3772115230),.sc (.int .u32 2547177864),.sc (.int .u32 162941995),.sc (.int .u32 2125561021),.sc (.int .u32 3887607047),.sc (.int .u32 2428444049),.sc (.int .u32 498536548),.sc (.int .u32 1789927666),.sc (.int .u32 4089016648),.sc (.int .u32 2227061214),.sc (.int .u32 450548861),.sc (.int .u32 1843258603),.sc (.int .u32 4107580753),.sc (.int .u32 2211677639),.sc (.int .u32 325883990),.sc (.int .u32 1684777152),.sc (.int .u32 4251122042),.sc (.int .u32 2321926636),.sc (.int .u32 335633487),.sc (.int .u32 1661365465),.sc (.int .u32 4195302755),.sc (.int .u32 2366115317),.sc (.int .u32 997073096),.sc (.int .u32 1281953886),.sc (.int .u32 3579855332),.sc (.int .u32 2724688242),.sc (.int .u32 1006888145),.sc (.int .u32 1258607687),.sc (.int .u32 3524101629),.sc (.int .u32 2768942443),.sc (.int .u32 901097722),.sc (.int .u32 1119000684),.sc (.int .u32 3686517206),.sc (.int .u32 2898065728),.sc (.int .u32 853044451),.sc (.int .u32 1172266101),.sc (.int .u32 3705015759),.sc (.int .u32 2882616665),.sc (.int .u32 651767980),.sc (.int .u32 1373503546),.sc (.int .u32 3369554304),.sc (.int .u32 3218104598),.sc (.int .u32 565507253),.sc (.int .u32 1454621731),.sc (.int .u32 3485111705),.sc (.int .u32 3099436303),.sc (.int .u32 671266974),.sc (.int .u32 1594198024),.sc (.int .u32 3322730930),.sc (.int .u32 2970347812),.sc (.int .u32 795835527),.sc (.int .u32 1483230225),.sc (.int .u32 3244367275),.sc (.int .u32 3060149565),.sc (.int .u32 1994146192),.sc (.int .u32 31158534),.sc (.int .u32 2563907772),.sc (.int .u32 4023717930),.sc (.int .u32 1907459465),.sc (.int .u32 112637215),.sc (.int .u32 2680153253),.sc (.int .u32 3904427059),.sc (.int .u32 2013776290),.sc (.int .u32 251722036),.sc (.int .u32 2517215374),.sc (.int .u32 3775830040),.sc (.int .u32 2137656763),.sc (.int .u32 141376813),.sc (.int .u32 2439277719),.sc (.int .u32 3865271297),.sc (.int .u32 1802195444),.sc (.int .u32 476864866),.sc (.int .u32 2238001368),.sc (.int .u32 4066508878),.sc (.int .u32 1812370925),.sc (.int .u32 453092731),.sc (.int .u32 2181625025),.sc (.int .u32 4111451223),.sc (.int .u32 1706088902),.sc (.int .u32 314042704),.sc (.int .u32 2344532202),.sc (.int .u32 4240017532),.sc (.int .u32 1658658271),.sc (.int .u32 366619977),.sc (.int .u32 2362670323),.sc (.int .u32 4224994405),.sc (.int .u32 1303535960),.sc (.int .u32 984961486),.sc (.int .u32 2747007092),.sc (.int .u32 3569037538),.sc (.int .u32 1256170817),.sc (.int .u32 1037604311),.sc (.int .u32 2765210733),.sc (.int .u32 3554079995),.sc (.int .u32 1131014506),.sc (.int .u32 879679996),.sc (.int .u32 2909243462),.sc (.int .u32 3663771856),.sc (.int .u32 1141124467),.sc (.int .u32 855842277),.sc (.int .u32 2852801631),.sc (.int .u32 3708648649),.sc (.int .u32 1342533948),.sc (.int .u32 654459306),.sc (.int .u32 3188396048),.sc (.int .u32 3373015174),.sc (.int .u32 1466479909),.sc (.int .u32 544179635),.sc (.int .u32 3110523913),.sc (.int .u32 3462522015),.sc (.int .u32 1591671054),.sc (.int .u32 702138776),.sc (.int .u32 2966460450),.sc (.int .u32 3352799412),.sc (.int .u32 1504918807),.sc (.int .u32 783551873),.sc (.int .u32 3082640443),.sc (.int .u32 3233442989),.sc (.int .u32 3988292384),.sc (.int .u32 2596254646),.sc (.int .u32 62317068),.sc (.int .u32 1957810842),.sc (.int .u32 3939845945),.sc (.int .u32 2647816111),.sc (.int .u32 81470997),.sc (.int .u32 1943803523),.sc (.int .u32 3814918930),.sc (.int .u32 2489596804),.sc (.int .u32 225274430),.sc (.int .u32 2053790376),.sc (.int .u32 3826175755),.sc (.int .u32 2466906013),.sc (.int .u32 167816743),.sc (.int .u32 2097651377),.sc (.int .u32 4027552580),.sc (.int .u32 2265490386),.sc (.int .u32 503444072),.sc (.int .u32 1762050814),.sc (.int .u32 4150417245),.sc (.int .u32 2154129355),.sc (.int .u32 426522225),.sc (.int .u32 1852507879),.sc (.int .u32 4275313526),.sc (.int .u32 2312317920),.sc (.int .u32 282753626),.sc (.int .u32 1742555852),.sc (.int .u32 4189708143),.sc (.int .u32 2394877945),.sc (.int .u32 397917763),.sc (.int .u32 1622183637),.sc (.int .u32 3604390888),.sc (.int .u32 2714866558),.sc (.int .u32 953729732),.sc (.int .u32 1340076626),.sc (.int .u32 3518719985),.sc (.int .u32 2797360999),.sc (.int .u32 1068828381),.sc (.int .u32 1219638859),.sc (.int .u32 3624741850),.sc (.int .u32 2936675148),.sc (.int .u32 906185462),.sc (.int .u32 1090812512),.sc (.int .u32 3747672003),.sc (.int .u32 2825379669),.sc (.int .u32 829329135),.sc (.int .u32 1181335161),.sc (.int .u32 3412177804),.sc (.int .u32 3160834842),.sc (.int .u32 628085408),.sc (.int .u32 1382605366),.sc (.int .u32 3423369109),.sc (.int .u32 3138078467),.sc (.int .u32 570562233),.sc (.int .u32 1426400815),.sc (.int .u32 3317316542),.sc (.int .u32 2998733608),.sc (.int .u32 733239954),.sc (.int .u32 1555261956),.sc (.int .u32 3268935591),.sc (.int .u32 3050360625),.sc (.int .u32 752459403),.sc (.int .u32 1541320221),.sc (.int .u32 2607071920),.sc (.int .u32 3965973030),.sc (.int .u32 1969922972),.sc (.int .u32 40735498),.sc (.int .u32 2617837225),.sc (.int .u32 3943577151),.sc (.int .u32 1913087877),.sc (.int .u32 83908371),.sc (.int .u32 2512341634),.sc (.int .u32 3803740692),.sc (.int .u32 2075208622),.sc (.int .u32 213261112),.sc (.int .u32 2463272603),.sc (.int .u32 3855990285),.sc (.int .u32 2094854071),.sc (.int .u32 198958881),.sc (.int .u32 2262029012),.sc (.int .u32 4057260610),.sc (.int .u32 1759359992),.sc (.int .u32 534414190),.sc (.int .u32 2176718541),.sc (.int .u32 4139329115),.sc (.int .u32 1873836001),.sc (.int .u32 414664567),.sc (.int .u32 2282248934),.sc (.int .u32 4279200368),.sc (.int .u32 1711684554),.sc (.int .u32 285281116),.sc (.int .u32 2405801727),.sc (.int .u32 4167216745),.sc (.int .u32 1634467795),.sc (.int .u32 376229701),.sc (.int .u32 2685067896),.sc (.int .u32 3608007406),.sc (.int .u32 1308918612),.sc (.int .u32 956543938),.sc (.int .u32 2808555105),.sc (.int .u32 3495958263),.sc (.int .u32 1231636301),.sc (.int .u32 1047427035),.sc (.int .u32 2932959818),.sc (.int .u32 3654703836),.sc (.int .u32 1088359270),.sc (.int .u32 936918000),.sc (.int .u32 2847714899),.sc (.int .u32 3736837829),.sc (.int .u32 1202900863),.sc (.int .u32 817233897),.sc (.int .u32 3183342108),.sc (.int .u32 3401237130),.sc (.int .u32 1404277552),.sc (.int .u32 615818150),.sc (.int .u32 3134207493),.sc (.int .u32 3453421203),.sc (.int .u32 1423857449),.sc (.int .u32 601450431),.sc (.int .u32 3009837614),.sc (.int .u32 3294710456),.sc (.int .u32 1567103746),.sc (.int .u32 711928724),.sc (.int .u32 3020668471),.sc (.int .u32 3272380065),.sc (.int .u32 1510334235),.sc (.int .u32 755167117)]
def sumVal:Value:=(toV MF).getD (.int .u32 0)
set_option maxHeartbeats 100000000 in
theorem sum_run:Hold (run Go.Proofs.Tryz.prog ft [] 1000000 1000 102 [] .leaf 0 (fun v _ _=>isV MF v)):=⟨of_eq_true (by kernel_rfl)⟩
theorem sum_toV:toV MF=some sumVal:=by kernel_rfl
theorem sum_okV:okV MF=true:=by kernel_rfl
theorem WR:enters Go.Proofs.Tryz.prog 102=true∧∀[Cx] h n,Dt Go.Proofs.Tryz.prog 102 [] h n MF h n:=VW (P:=Go.Proofs.Tryz.prog) (F:=ft) (l:=[]) (f:=102) (x:=MF) (u:=sumVal) ft_ok (fun [Cx]=>Xb) sum_run sum_toV sum_okV
abbrev orcS:Orc:=[(102,[],MF)]
theorem orcS_ok [Cx]:KY Go.Proofs.Tryz.prog orcS:=EU WR.1 WR.2 Xb
end Go.Rn
end
section
namespace Punnet.Flt
open Ieee
def far:Nat:=1074
theorem PX:far=1074:=rfl
def K:Int:=2 ^ far
theorem OG:0<K:=Int.pow_pos (by decide)
theorem read_eq (x:Nat):double.read x =
 (if x % 9223372036854775808<4503599627370496 then Datum.number (x / 9223372036854775808 % 2==1) (x % 9223372036854775808) (-1074)
   else if x % 9223372036854775808<9218868437227405312 then .number (x / 9223372036854775808 % 2==1) (4503599627370496+x % 9223372036854775808 % 4503599627370496) (-1074+((x % 9223372036854775808 / 4503599627370496-1:Nat):Int))
   else if x % 9223372036854775808=9218868437227405312 then .infinity (x / 9223372036854775808 % 2==1)
   else .nan (x / 9223372036854775808 % 2==1) (x % 9223372036854775808-9218868437227405312)):=rfl
theorem place_ge {x m:Nat}{s:Bool}{e:Int}(h:double.read x=.number s m e) : -1074≤e:=by
 rw [read_eq] at h
 split at h
 ·injection h with _ _ h;omega
 ·split at h
  ·injection h with _ _ h;omega
  ·split at h<;>cases h
theorem Na (s:Bool)(m a:Nat):signed s m a=(if s then -1 else 1)*((m:Int)*2 ^ a):=by
 have h:((m <<< a:Nat):Int)=(m:Int)*2 ^ a:=by rw [Nat.shiftLeft_eq];simp
 unfold signed
 cases s<;>simp [h]
theorem XT (s:Bool)(m a b:Nat):signed s m (a+b)=signed s m a*2 ^ b:=by
 rw [Na,Na,Int.pow_add,Int.mul_assoc,Int.mul_assoc]
def BR (x:Nat):Option Int:=match double.read x with
 | .number s m e=>some (signed s m (e+1074).toNat)
 | _=>none
theorem XG {x m:Nat}{s:Bool}{e:Int}(h:double.read x=.number s m e):BR x=some (signed s m (e+1074).toNat):=by
 rw [BR,h]
theorem OY {x:Nat}{u:Int}(h:BR x=some u):∃s m e,double.read x=.number s m e∧-1074≤e∧u=signed s m (e+1074).toNat:=by
 unfold BR at h
 cases hr:double.read x with
 | number s m e=>rw [hr] at h;injection h with h;exact ⟨s,m,e,rfl,place_ge hr,h.symm⟩
 | infinity s=>rw [hr] at h;cases h
 | nan s t=>rw [hr] at h;cases h
theorem Ve (a b k:Int)(hk:0<k):compare (a*k) (b*k)=compare a b:=by
 simp only [compare,compareOfLessAndEq]
 have h1:a*k<b*k↔a<b:=⟨fun h=>Int.lt_of_mul_lt_mul_right h (Int.le_of_lt hk),fun h=>Int.mul_lt_mul_of_pos_right h hk⟩
 have h2:a*k=b*k↔a=b:=⟨fun h=>Int.eq_of_mul_eq_mul_right (by omega) h,fun h=>by rw [h]⟩
 simp only [h1,h2]
theorem Q5 {x y:Nat}{u v:Int}(hx:BR x=some u)(hy:BR y=some v):double.order x y=some (compare u v):=by
 obtain ⟨s,m,i,hr,hi,rfl⟩:=OY hx
 obtain ⟨t,n,j,hr2,hj,rfl⟩:=OY hy
 rw [Format.order,hr,hr2,Datum.order]
 have e1:(i+1074).toNat=(i-min i j).toNat+(min i j+1074).toNat:=by omega
 have e2:(j+1074).toNat=(j-min i j).toNat+(min i j+1074).toNat:=by omega
 have hk:(0:Int)<2 ^ (min i j+1074).toNat:=Int.pow_pos (by decide)
 show some (compare (signed s m (i-min i j).toNat) (signed t n (j-min i j).toNat))=_
 rw [e1,e2,XT,XT,Ve _ _ _ hk]
theorem compare_lt {a b:Int}(h:a<b):compare a b=.lt:=by simp [compare,compareOfLessAndEq,h]
theorem XP (a:Int):compare a a=.eq:=by simp [compare,compareOfLessAndEq]
theorem compare_gt {a b:Int}(h:b<a):compare a b=.gt:=by
 have h1:¬a<b:=by omega
 have h2:¬a=b:=by omega
 simp [compare,compareOfLessAndEq,h1,h2]
theorem TA {x y:Nat}{u v:Int}(hx:BR x=some u)(hy:BR y=some v)(h:u<v):double.order x y=some .lt:=by rw [Q5 hx hy,compare_lt h]
theorem Uc {x y:Nat}{u:Int}(hx:BR x=some u)(hy:BR y=some u):double.order x y=some .eq:=by rw [Q5 hx hy,XP]
theorem Us {x y:Nat}{u v:Int}(hx:BR x=some u)(hy:BR y=some v)(h:v<u):double.order x y=some .gt:=by rw [Q5 hx hy,compare_gt h]
def geB (x y:Nat):Bool:=double.order x y==some .gt||double.order x y==some .eq
def leB (x y:Nat):Bool:=double.order x y==some .lt||double.order x y==some .eq
def eqB (x y:Nat):Bool:=double.order x y==some .eq
theorem geB_units {x y:Nat}{u v:Int}(hx:BR x=some u)(hy:BR y=some v):geB x y=decide (v≤u):=by
 rw [geB]
 rcases Int.lt_trichotomy u v with h | rfl | h
 ·rw [TA hx hy h,decide_eq_false (by omega)];rfl
 ·rw [Uc hx hy,decide_eq_true (by omega)];rfl
 ·rw [Us hx hy h,decide_eq_true (by omega)];rfl
theorem leB_units {x y:Nat}{u v:Int}(hx:BR x=some u)(hy:BR y=some v):leB x y=decide (u≤v):=by
 rw [leB]
 rcases Int.lt_trichotomy u v with h | rfl | h
 ·rw [TA hx hy h,decide_eq_true (by omega)];rfl
 ·rw [Uc hx hy,decide_eq_true (by omega)];rfl
 ·rw [Us hx hy h,decide_eq_false (by omega)];rfl
theorem eqB_units {x y:Nat}{u v:Int}(hx:BR x=some u)(hy:BR y=some v):eqB x y=decide (u=v):=by
 rw [eqB]
 rcases Int.lt_trichotomy u v with h | rfl | h
 ·rw [TA hx hy h,decide_eq_false (by omega)];rfl
 ·rw [Uc hx hy,decide_eq_true rfl];rfl
 ·rw [Us hx hy h,decide_eq_false (by omega)];rfl
theorem not_within {x y z:Nat}{v v':Int}(hx:BR x=none)(hy:BR y=some v)(hz:BR z=some v'):(geB x y&&leB x z)=false:=by
 obtain ⟨t,n,j,hr,_,_⟩:=OY hy
 obtain ⟨t',n',j',hr',_,_⟩:=OY hz
 rw [geB,leB,Format.order,Format.order,hr,hr']
 cases h:double.read x with
 | number s m e=>rw [BR,h] at hx;cases hx
 | nan s f=>rfl
 | infinity s=>cases s<;>rfl
theorem word_read {neg:Bool}{rung:Nat}(h0:4503599627370496≤rung)(h1:rung<9218868437227405312) :
 double.read (double.word neg rung)=.number neg (4503599627370496+rung % 4503599627370496) (-1074+((rung / 4503599627370496-1:Nat):Int)):=by
 have hx:double.word neg rung % 9223372036854775808=rung:=by
  cases neg
  ·show rung % _=_;omega
  ·show (9223372036854775808+rung) % _=_;omega
 have hs:(double.word neg rung / 9223372036854775808 % 2==1)=neg:=by
  cases neg
  ·show (rung / 9223372036854775808 % 2==1)=false
   rw [show rung / 9223372036854775808=0 by omega];rfl
  ·show ((9223372036854775808+rung) / 9223372036854775808 % 2==1)=true
   rw [show (9223372036854775808+rung) / 9223372036854775808=1 by omega];rfl
 rw [read_eq,hx,hs,if_neg (by omega),if_pos h1]
theorem XN (neg:Bool):BR (double.nearest neg 0 0)=some 0:=by
 have h:double.read (double.nearest neg 0 0)=.number neg 0 (-1074):=by cases neg<;>rfl
 rw [XG h,Na];simp
theorem cut_none (neg:Bool)(n:Nat):Toward.even.cut neg n 0=n:=by
 simp [Toward.cut,Nat.mod_one]
theorem Xi (neg:Bool)(m:Nat)(hm:m<9007199254740992):BR (double.nearest neg m 0)=some ((if neg then -1 else 1)*((m:Int)*K)):=by
 rcases Nat.eq_zero_or_pos m with rfl | h0
 ·rw [XN];simp
 have hne:m≠0:=by omega
 have hlo:2 ^ m.log2≤m:=Nat.log2_self_le hne
 have hhi:m<2 ^ (m.log2+1):=Nat.lt_log2_self
 have hL:m.log2≤52:=by
  rcases Nat.lt_or_ge 52 m.log2 with h | h
  ·have:2 ^ 53≤2 ^ m.log2:=Nat.pow_le_pow_right (by omega) h
   omega
  ·exact h
 have hM:2 ^ m.log2*2 ^ (52-m.log2)=4503599627370496:=by
  rw [←Nat.pow_add,show m.log2+(52-m.log2)=52 by omega]
 have hM2:2 ^ (m.log2+1)*2 ^ (52-m.log2)=9007199254740992:=by
  rw [←Nat.pow_add,show m.log2+1+(52-m.log2)=53 by omega]
 have hMlo:4503599627370496≤m*2 ^ (52-m.log2):=by rw [←hM];exact Nat.mul_le_mul_right _ hlo
 have hMhi:m*2 ^ (52-m.log2)<9007199254740992:=by rw [←hM2];exact Nat.mul_lt_mul_of_pos_right hhi (Nat.two_pow_pos _)
 have hw:double.nearest neg m 0=double.word neg ((m.log2+1022)*4503599627370496+m*2 ^ (52-m.log2)):=by
  unfold Format.nearest
  rw [if_neg hne]
  have hl:max ((0:Int)+(m.log2:Int)-(double.fractionBits:Int)) double.leastPlace=(m.log2:Int)-52:=by
   show max ((0:Int)+(m.log2:Int)-52) (-1074)=_
   omega
  simp only [hl]
  rw [show ((0:Int)-((m.log2:Int)-52)).toNat=52-m.log2 by omega,show ((m.log2:Int)-52-0).toNat=0 by omega,cut_none,Nat.shiftLeft_eq]
  rw [show ((m.log2:Int)-52-double.leastPlace).toNat=m.log2+1022 by show ((m.log2:Int)-52-(-1074)).toNat=_;omega]
  congr 1
  show min ((m.log2+1022)*4503599627370496+m*2 ^ (52-m.log2)) 9218868437227405312=_
  omega
 generalize hMe:m*2 ^ (52-m.log2)=M at *
 have hr:=word_read (neg:=neg) (rung:=(m.log2+1022)*4503599627370496+M) (by omega) (by omega)
 rw [←hw] at hr
 have e1:4503599627370496+((m.log2+1022)*4503599627370496+M) % 4503599627370496=M:=by omega
 have e2:(-1074:Int)+(((((m.log2+1022)*4503599627370496+M) / 4503599627370496-1:Nat)):Int)=(m.log2:Int)-52:=by omega
 rw [e1,e2] at hr
 have e3:K=2 ^ (52-m.log2)*2 ^ (m.log2+1022):=by
  rw [K,←Int.pow_add,show 52-m.log2+(m.log2+1022)=far by rw [PX];omega]
 have e4:(M:Int)*2 ^ (m.log2+1022)=(m:Int)*K:=by
  rw [e3,←hMe,Int.natCast_mul,Int.natCast_pow,Int.mul_assoc];simp
 rw [XG hr,Na,show ((m.log2:Int)-52+1074).toNat=m.log2+1022 by omega,e4]
theorem O8 (n:Int)(h:n.natAbs<9007199254740992):BR (double.write (.number (n<0) n.natAbs 0))=some (n*K):=by
 show BR (double.nearest (n<0) n.natAbs 0)=_
 rw [Xi _ _ h]
 congr 1
 by_cases hn:n<0
 ·rw [if_pos (by simpa using hn),show ((n.natAbs:Nat):Int) = -n by omega,Int.neg_mul,Int.neg_mul,Int.one_mul,Int.neg_neg]
 ·rw [if_neg (by simpa using hn),show ((n.natAbs:Nat):Int)=n by omega,Int.one_mul]
theorem Vt {m d:Nat}(h:m.log2+2<d):m / 2 ^ d=0∧m / 2 ^ (m.log2+2)=0:=by
 have hhi:m<2 ^ (m.log2+1):=Nat.lt_log2_self
 have h1:2 ^ (m.log2+1)≤2 ^ d:=Nat.pow_le_pow_right (by omega) (by omega)
 have h2:2 ^ (m.log2+1)≤2 ^ (m.log2+2):=Nat.pow_le_pow_right (by omega) (by omega)
 exact ⟨Nat.div_eq_of_lt (by omega),Nat.div_eq_of_lt (by omega)⟩
theorem cut_zero (neg:Bool)(n d:Nat):Toward.zero.cut neg n d=n / 2 ^ d:=by
 have h:Toward.zero.cut neg n d=n / 2 ^ min d (n.log2+2):=by simp [Toward.cut,Nat.shiftLeft_eq]
 rw [h]
 rcases Nat.lt_or_ge (n.log2+2) d with h1 | h1
 ·rw [Nat.min_eq_right (by omega),(Vt h1).1,(Vt h1).2]
 ·rw [Nat.min_eq_left h1]
theorem Xz {x:Nat}{u:Int}(h:BR x=some u):∃(s:Bool) (q:Nat),(double.read x).integral .zero=.number s q 0∧u.tdiv K=(if s then -1 else 1)*(q:Int)∧u.natAbs / (2 ^ far)=q:=by
 obtain ⟨s,m,e,hr,he,rfl⟩:=OY h
 refine ⟨s,m*2 ^ e.toNat / 2 ^ (-e).toNat,by rw [hr,Datum.integral,cut_zero,Nat.shiftLeft_eq],?_,?_⟩
 ·have hq:(m*2 ^ e.toNat / 2 ^ (-e).toNat:Nat)=m*2 ^ (e+1074).toNat / 2 ^ far:=by
   rcases Int.le_total 0 e with h0 | h0
   ·rw [show (-e).toNat=0 by omega,show (e+1074).toNat=e.toNat+far by rw [PX];omega,Nat.pow_add,←Nat.mul_assoc,Nat.mul_div_cancel _ (Nat.two_pow_pos _)];simp
   ·rw [show e.toNat=0 by omega,show far=(e+1074).toNat+(-e).toNat by rw [PX];omega,Nat.pow_add,Nat.mul_comm (2 ^ (e+1074).toNat),Nat.mul_div_mul_right _ _ (Nat.two_pow_pos _)];simp
  rw [hq,Na,K]
  have e1:((m:Int)*2 ^ (e+1074).toNat)=((m*2 ^ (e+1074).toNat:Nat):Int):=by simp
  have e2:((2:Int) ^ far)=((2 ^ far:Nat):Int):=by rw [Int.natCast_pow];rfl
  rw [e1,e2]
  cases s
  ·simp only [Bool.false_eq_true,if_false,Int.one_mul];rfl
  ·simp only [if_true]
   rw [Int.neg_mul,Int.one_mul,Int.neg_mul,Int.one_mul,Int.neg_tdiv];rfl
 ·rw [Na]
  have e1:((if s=true then (-1:Int) else 1)*((m:Int)*2 ^ (e+1074).toNat)).natAbs=m*2 ^ (e+1074).toNat:=by
   rw [Int.natAbs_mul]
   have e3:((m:Int)*2 ^ (e+1074).toNat).natAbs=m*2 ^ (e+1074).toNat:=by
    have:((m:Int)*2 ^ (e+1074).toNat)=((m*2 ^ (e+1074).toNat:Nat):Int):=by simp
    rw [this];rfl
   rw [e3]
   cases s<;>simp
  rw [e1]
  rcases Int.le_total 0 e with h0 | h0
  ·rw [show (-e).toNat=0 by omega,show (e+1074).toNat=e.toNat+far by rw [PX];omega,Nat.pow_add,←Nat.mul_assoc,Nat.mul_div_cancel _ (Nat.two_pow_pos _)];simp
  ·rw [show e.toNat=0 by omega,show far=(e+1074).toNat+(-e).toNat by rw [PX];omega,Nat.pow_add,Nat.mul_comm (2 ^ (e+1074).toNat),Nat.mul_div_mul_right _ _ (Nat.two_pow_pos _)];simp
def Ll (x:Nat):Option Int:=match BR x with
 | some u=>if -4503599627370496*K≤u∧u≤4503599627370496*K∧u.tdiv K*K=u then some (u.tdiv K) else none
 | none=>none
theorem Ud (n:Int):(n*K).tdiv K=n:=Int.mul_tdiv_cancel n (by have:=OG;omega)
theorem LM (a b:Int):a*K≤b*K↔a≤b:=⟨fun h=>Int.le_of_mul_le_mul_right h OG,fun h=>Int.mul_le_mul_of_nonneg_right h (Int.le_of_lt OG)⟩
theorem N8 {x:Nat}{n:Int}:Ll x=some n↔BR x=some (n*K)∧-4503599627370496≤n∧n≤4503599627370496:=by
 unfold Ll
 constructor
 ·intro h
  cases hu:BR x with
  | none=>rw [hu] at h;cases h
  | some u=>
   rw [hu] at h
   simp only at h
   split at h
   ·rename_i hc
    injection h with h
    obtain ⟨h1,h2,h3⟩:=hc
    rw [h] at h3
    rw [←h3] at h1 h2
    rw [h3]
    exact ⟨rfl,(LM _ _).1 h1,(LM _ _).1 h2⟩
   ·cases h
 ·rintro ⟨hu,h1,h2⟩
  rw [hu]
  simp only [Ud]
  rw [if_pos ⟨(LM _ _).2 h1,(LM _ _).2 h2,trivial⟩]
theorem tdiv_bound {u:Int}(h1 : -4503599627370496*K≤u)(h2:u≤4503599627370496*K) : -4503599627370496≤u.tdiv K∧u.tdiv K≤4503599627370496:=by
 have hk:=OG
 rcases Int.le_total 0 u with h | h
 ·rw [Int.tdiv_eq_ediv_of_nonneg h]
  have h3:u / K≤4503599627370496:=Int.ediv_le_of_le_mul hk h2
  have h4:0≤u / K:=Int.ediv_nonneg h (Int.le_of_lt hk)
  omega
 ·have e:u = -(-u):=by omega
  rw [e,Int.neg_tdiv,Int.tdiv_eq_ediv_of_nonneg (by omega)]
  have h3 : -u / K≤4503599627370496:=Int.ediv_le_of_le_mul hk (by omega)
  have h4:0≤-u / K:=Int.ediv_nonneg (by omega) (Int.le_of_lt hk)
  omega
theorem trunc_units {x:Nat}{u:Int}(h:BR x=some u)(h1 : -4503599627370496*K≤u)(h2:u≤4503599627370496*K):BR (double.write ((double.read x).integral .zero))=some (u.tdiv K*K):=by
 obtain ⟨s,q,hi,ht,_⟩:=Xz h
 have hb:=tdiv_bound h1 h2
 have hq:q<9007199254740992:=by
  rw [ht] at hb
  cases s<;>simp at hb<;>omega
 rw [hi]
 show BR (double.nearest s q 0)=_
 rw [Xi s q hq,ht,Int.mul_assoc]
theorem toInt_units {x:Nat}{u:Int}(h:BR x=some u):(double.read x).toInt .zero=some (u.tdiv K):=by
 obtain ⟨s,q,hi,ht,_⟩:=Xz h
 rw [Datum.toInt,hi,ht]
 show some (signed s q 0)=_
 rw [Na];simp
theorem ofInt_whole (n:Int)(h0 : -4503599627370496≤n)(h1:n≤4503599627370496):Ll (double.write (.number (n<0) n.natAbs 0))=some n:=
 N8.2 ⟨O8 n (by omega),h0,h1⟩
end Punnet.Flt
end
section
namespace Go.Proofs.YtdfbohaohjaloaaGreatDoor
open Go.RowKit Punnet.Flt
theorem decode64 (x:Nat):FloatKind.f64.decode x=Ieee.double.read x:=rfl
section
attribute [local irreducible] FloatKind.decode
theorem ZP (x:Nat)(u:Int)(hu:BR x=some u)(w:World) :
 (callFunc 412 #[.float .f64 x]).run Tryz.prog w=.ok (.value (.float .f64 (Ieee.double.write ((Ieee.double.read x).integral .zero)))) w:=by
 rw [run_callFunc_extern (P := Tryz.prog) (f := 412) (fn := Tryz.f412) (e := Extern.MathFloor.toIntegral "math.archTrunc" .zero) (by kernel_rfl) (by kernel_rfl) (by kernel_rfl) (by kernel_rfl) (by kernel_rfl)]
 obtain ⟨s,m,e,hr,_,_⟩:=OY hu
 have h : (Extern.MathFloor.toIntegral "math.archTrunc" .zero #[.float .f64 x]).run Tryz.prog w = .ok (.float .f64 (Ieee.double.write ((Ieee.double.read x).integral .zero))) w := by
  have hd:FloatKind.f64.decode x=.number s m e:=(decode64 x).trans hr
  conv=>lhs;arg 2;whnf
  rw [hd,hr]
  rfl
 rw [h];rfl
end
set_option maxHeartbeats 400000 in
theorem XM (x:Nat)(u:Int)(hu:BR x=some u)(w:World) :
 Calls Tryz.prog 377 #[.float .f64 x] w fun e w'=>e=.returned (.float .f64 (Ieee.double.write ((Ieee.double.read x).integral .zero)))∧w=w':=by
 have hc:=ZP x u hu
 clear hu
 generalize Ieee.double.write ((Ieee.double.read x).integral .zero)=t at *
 go_enter Tryz.func377,Tryz.ntmps377
 go_wp2
 go_ret
 exact ⟨rfl,rfl⟩
theorem store_float (P:Program)(w:World)(a:Addr)(m:Mode)(k:FloatKind)(b:Nat):(store a (.float k b) m).run P w=stored P w a (.float k b) m:=run_store P w a _ m rfl
attribute [local go_sem] store_float
set_option maxHeartbeats 400000 in
theorem NI (a b:Nat)(w:World) :
 Calls Tryz.prog 376 #[.complex .f64 a b] w fun e w'=>e=.returned (.agg #[.float .f64 a,.float .f64 b])∧Below w.heap.size w w':=by
 go_enter Tryz.func376,Tryz.ntmps376
 go_wp2
 exact bodyPost_ret (v:=.agg #[.float .f64 a,.float .f64 b]) (by simp [results,Tryz.results376,go_sem]) rfl ⟨rfl,(Below.refl _ _).alloc (Nat.le_refl _) _⟩
def okB (x:Nat)(M:Int):Bool:=match Ll x with
 | some n=>decide (-M≤n∧n≤M)
 | none=>false
theorem okB_units {x:Nat}{u M:Int}(hu:BR x=some u)(hM:M≤4503599627370496):okB x M=decide (-M*K≤u∧u≤M*K∧u.tdiv K*K=u):=by
 have hk:=OG
 unfold okB
 cases hw:Ll x with
 | some n=>
  obtain ⟨h1,h2,h3⟩:=N8.1 hw
  rw [hu] at h1
  injection h1 with h1
  subst h1
  simp only [Ud,and_true,LM]
 | none=>
  symm
  rw [decide_eq_false_iff_not]
  rintro ⟨h1,h2,h3⟩
  rw [←h3] at h1 h2
  rw [LM] at h1 h2
  have:Ll x=some (u.tdiv K):=N8.2 ⟨by rw [hu,h3],by omega,by omega⟩
  rw [hw] at this
  cases this
theorem okB_none {x:Nat}{M:Int}(hu:BR x=none):okB x M=false:=by
 unfold okB Ll;rw [hu]
set_option maxHeartbeats 800000 in
theorem Xd (a b mb:Nat)(M:Int)(w:World)(hm:BR mb=some (M*K))(hn:BR (Op.negFloat .f64 mb)=some (-M*K))(hM:M≤4503599627370496) :
 Calls Tryz.prog 293 #[.complex .f64 a b,.float .f64 mb] w fun e w'=>e=.returned (.bool (okB a M&&okB b M))∧Below w.heap.size w w':=by
 have i0:∀w,(Instr.index 463 (.agg #[.float .f64 a,.float .f64 b]) (.int .i64 0)).run Tryz.prog w=.ok (.float .f64 a) w:=fun _=>by kernel_rfl
 have i1:∀w,(Instr.index 463 (.agg #[.float .f64 a,.float .f64 b]) (.int .i64 1)).run Tryz.prog w=.ok (.float .f64 b) w:=fun _=>by kernel_rfl
 have hneg:∀w,(Op.unary .neg (.float .f64 mb)).run Tryz.prog w=.ok (.float .f64 (Op.negFloat .f64 mb)) w:=fun _=>rfl
 generalize Op.negFloat .f64 mb=nm at *
 have key:∀x,(geB x nm=false∧okB x M=false)∨(geB x nm=true∧leB x mb=false∧okB x M=false)∨(geB x nm=true∧leB x mb=true∧∃u,BR x=some u∧-4503599627370496*K≤u∧u≤4503599627370496*K∧okB x M=decide (u.tdiv K*K=u)):=by
  intro x
  cases hx:BR x with
  | none=>
   have hf:=not_within hx hn hm
   have ho:=okB_none (M:=M) hx
   cases hg:geB x nm with
   | false=>exact .inl ⟨rfl,ho⟩
   | true=>rw [hg,Bool.true_and] at hf;exact .inr (.inl ⟨rfl,hf,ho⟩)
  | some u=>
   have ho:=okB_units hx hM
   have h1:=geB_units hx hn
   have h2:=leB_units hx hm
   by_cases c1 : -M*K≤u
   ·by_cases c2:u≤M*K
    ·have c3 : -4503599627370496*K≤u:=Int.le_trans ((LM _ _).2 (by omega)) c1
     have c4:u≤4503599627370496*K:=Int.le_trans c2 ((LM _ _).2 hM)
     refine .inr (.inr ⟨by rw [h1,decide_eq_true c1],by rw [h2,decide_eq_true c2],u,rfl,c3,c4,?_⟩)
     rw [ho,decide_eq_decide]
     exact ⟨fun h=>h.2.2,fun h=>⟨c1,c2,h⟩⟩
    ·refine .inr (.inl ⟨by rw [h1,decide_eq_true c1],by rw [h2,decide_eq_false c2],?_⟩)
     rw [ho,decide_eq_false]
     exact fun h=>c2 h.2.1
   ·refine .inl ⟨by rw [h1,decide_eq_false c1],?_⟩
    rw [ho,decide_eq_false]
    exact fun h=>c1 h.1
 have tr:∀x u,BR x=some u→-4503599627370496*K≤u→u≤4503599627370496*K→eqB (Ieee.double.write ((Ieee.double.read x).integral .zero)) x=decide (u.tdiv K*K=u):=by
  intro x u hx c3 c4
  exact eqB_units (trunc_units hx c3 c4) hx
 have ords:∀x y,∃o,FloatKind.f64.format.order x y=o∧geB x y=(o==some .gt||o==some .eq)∧leB x y=(o==some .lt||o==some .eq)∧eqB x y=(o==some .eq):=fun x y=>⟨_,rfl,rfl,rfl,rfl⟩
 obtain ⟨oa,ea,ga,_,_⟩:=ords a nm
 obtain ⟨pa,fa,_,la,_⟩:=ords a mb
 obtain ⟨ob,eb,gb,_,_⟩:=ords b nm
 obtain ⟨pb,fb,_,lb,_⟩:=ords b mb
 rcases key a with ⟨g1,o1⟩ | ⟨g1,g2,o1⟩ | ⟨g1,g2,u,hu,c3,c4,o1⟩
 ·have HV:=Lib.hid (show (okB a M&&okB b M)=false by rw [o1];rfl)
  rw [ga] at g1
  clear hm hn hM o1 key tr ords ga la gb lb
  go_enter Tryz.func293,Tryz.ntmps293
  go_wp2_with (go_at_call 376;refine (NI _ _ _).mono ?_;rintro e w1 ⟨rfl,hb1⟩)
  refine wp_loop_rounds 1 ?_
  rw [rounds_succ]
  go_wp2
  go_ret
  exact ⟨Fh HV.out.symm,hb1⟩
 ·have HV:=Lib.hid (show (okB a M&&okB b M)=false by rw [o1];rfl)
  rw [ga] at g1
  rw [la] at g2
  clear hm hn hM o1 key tr ords ga la gb lb
  go_enter Tryz.func293,Tryz.ntmps293
  go_wp2_with (go_at_call 376;refine (NI _ _ _).mono ?_;rintro e w1 ⟨rfl,hb1⟩)
  refine wp_loop_rounds 1 ?_
  rw [rounds_succ]
  go_wp2
  go_ret
  exact ⟨Fh HV.out.symm,hb1⟩
 ·have HT:=Lib.hid (XM a u hu)
  have ht:=tr a u hu c3 c4
  rw [←o1] at ht
  generalize Ieee.double.write ((Ieee.double.read a).integral .zero)=ta at *
  obtain ⟨ot,et,_,_,ht2⟩:=ords ta a
  rw [ht2] at ht
  rw [ga] at g1
  rw [la] at g2
  clear hm hn hM o1 hu c3 c4 ht2
  cases ho:okB a M with
  | false=>
   rw [ho] at ht
   have HV:=Lib.hid (show (false&&okB b M)=false from rfl)
   have ht':(ot != some .eq)=true:=by rw [bne,ht];rfl
   clear key tr ho ords ga la gb lb
   go_enter Tryz.func293,Tryz.ntmps293
   go_wp2_with (go_at_call 376;refine (NI _ _ _).mono ?_;rintro e w1 ⟨rfl,hb1⟩)
   refine wp_loop_rounds 1 ?_
   rw [rounds_succ]
   go_wp2_with (go_at_call 377;refine (HT.out _).mono ?_;rintro e w2 ⟨rfl,rfl⟩)
   go_ret
   exact ⟨Fh HV.out.symm,hb1⟩
  | true=>
   rw [ho] at ht
   have ht':(ot != some .eq)=false:=by rw [bne,ht];rfl
   rcases key b with ⟨k1,o1⟩ | ⟨k1,k2,o1⟩ | ⟨k1,k2,v,hv,c3,c4,o1⟩
   ·have HV:=Lib.hid (show (true&&okB b M)=false by rw [o1];rfl)
    rw [gb] at k1
    clear key tr ho o1 ords ga la gb lb
    go_enter Tryz.func293,Tryz.ntmps293
    go_wp2_with (go_at_call 376;refine (NI _ _ _).mono ?_;rintro e w1 ⟨rfl,hb1⟩)
    refine wp_loop_rounds 2 ?_
    rw [rounds_succ]
    go_wp2_with (go_at_call 377;refine (HT.out _).mono ?_;rintro e w2 ⟨rfl,rfl⟩)
    rw [rounds_succ]
    go_wp2
    go_ret
    exact ⟨Fh HV.out.symm,hb1⟩
   ·have HV:=Lib.hid (show (true&&okB b M)=false by rw [o1];rfl)
    rw [gb] at k1
    rw [lb] at k2
    clear key tr ho o1 ords ga la gb lb
    go_enter Tryz.func293,Tryz.ntmps293
    go_wp2_with (go_at_call 376;refine (NI _ _ _).mono ?_;rintro e w1 ⟨rfl,hb1⟩)
    refine wp_loop_rounds 2 ?_
    rw [rounds_succ]
    go_wp2_with (go_at_call 377;refine (HT.out _).mono ?_;rintro e w2 ⟨rfl,rfl⟩)
    rw [rounds_succ]
    go_wp2
    go_ret
    exact ⟨Fh HV.out.symm,hb1⟩
   ·have HT2:=Lib.hid (XM b v hv)
    have hs:=tr b v hv c3 c4
    rw [←o1] at hs
    generalize Ieee.double.write ((Ieee.double.read b).integral .zero)=tb at *
    obtain ⟨os,es,_,_,hs2⟩:=ords tb b
    rw [hs2] at hs
    rw [gb] at k1
    rw [lb] at k2
    clear key tr ho o1 ords ga la gb lb hs2 hv c3 c4
    cases hob:okB b M with
    | false=>
     rw [hob] at hs
     have hs':(os != some .eq)=true:=by rw [bne,hs];rfl
     clear hob
     go_enter Tryz.func293,Tryz.ntmps293
     go_wp2_with (go_at_call 376;refine (NI _ _ _).mono ?_;rintro e w1 ⟨rfl,hb1⟩)
     refine wp_loop_rounds 2 ?_
     rw [rounds_succ]
     go_wp2_with (go_at_call 377;refine (HT.out _).mono ?_;rintro e w2 ⟨rfl,rfl⟩)
     rw [rounds_succ]
     go_wp2_with (go_at_call 377;refine (HT2.out _).mono ?_;rintro e w2 ⟨rfl,rfl⟩)
     go_ret
     exact ⟨rfl,hb1⟩
    | true=>
     rw [hob] at hs
     have hs':(os != some .eq)=false:=by rw [bne,hs];rfl
     clear hob
     go_enter Tryz.func293,Tryz.ntmps293
     go_wp2_with (go_at_call 376;refine (NI _ _ _).mono ?_;rintro e w1 ⟨rfl,hb1⟩)
     refine wp_loop_rounds 3 ?_
     rw [rounds_succ]
     go_wp2_with (go_at_call 377;refine (HT.out _).mono ?_;rintro e w2 ⟨rfl,rfl⟩)
     rw [rounds_succ]
     go_wp2_with (go_at_call 377;refine (HT2.out _).mono ?_;rintro e w2 ⟨rfl,rfl⟩)
     rw [rounds_succ]
     go_wp2
     go_ret
     exact ⟨rfl,hb1⟩
end Go.Proofs.YtdfbohaohjaloaaGreatDoor
end
section
namespace Go.Proofs.YtdfbohaohjaloaaGreatDoor
open Go.RowKit Punnet.Flt
theorem unit_most:BR 4841369599423283200=some (4503599627370496*K):=O8 4503599627370496 (by decide)
theorem unit_least:BR 14064741636278059008=some (-4503599627370496*K):=by
 have h:=O8 (-4503599627370496) (by decide)
 rw [show Ieee.double.write (.number (decide ((-4503599627370496:Int)<0)) (-4503599627370496:Int).natAbs 0)=14064741636278059008 by decide +kernel] at h
 exact h
theorem unit_small:BR 4719772409484279808=some (33554432*K):=O8 33554432 (by decide)
theorem Za:BR 13943144446339055616=some (-33554432*K):=by
 have h:=O8 (-33554432) (by decide)
 rw [show Ieee.double.write (.number (decide ((-33554432:Int)<0)) (-33554432:Int).natAbs 0)=13943144446339055616 by decide +kernel] at h
 exact h
set_option maxHeartbeats 400000 in
theorem NS (a b:Nat)(w:World):Calls Tryz.prog 382 #[.complex .f64 a b] w fun e w'=>e=.returned (.bool (okB a 4503599627370496&&okB b 4503599627370496))∧Below w.heap.size w w':=by
 have H:=Lib.hid (Xd a b 4841369599423283200 4503599627370496 w unit_most unit_least (by omega))
 go_enter Tryz.func382,Tryz.ntmps382
 go_wp2_with (go_at_call 293;refine H.out.mono ?_;rintro e w1 ⟨rfl,hb1⟩)
 go_ret
 exact ⟨rfl,hb1⟩
set_option maxHeartbeats 400000 in
theorem small_any (a b:Nat)(w:World):Calls Tryz.prog 201 #[.complex .f64 a b] w fun e w'=>e=.returned (.bool (okB a 33554432&&okB b 33554432))∧Below w.heap.size w w':=by
 have H:=Lib.hid (Xd a b 4719772409484279808 33554432 w unit_small Za (by omega))
 go_enter Tryz.func201,Tryz.ntmps201
 go_wp2_with (go_at_call 293;refine H.out.mono ?_;rintro e w1 ⟨rfl,hb1⟩)
 go_ret
 exact ⟨rfl,hb1⟩
def DV (x:Nat)(n M:Int):Prop:=Ll x=some n∧-M≤n∧n≤M
theorem UM {x:Nat}{M:Int}:okB x M=true↔∃n,DV x n M:=by
 unfold okB DV
 cases h:Ll x with
 | none=>simp
 | some n=>simp
theorem DV.ok {x:Nat}{n M:Int}(h:DV x n M):okB x M=true:=UM.2 ⟨n,h⟩
theorem DV.unit {x:Nat}{n M:Int}(h:DV x n M):BR x=some (n*K):=(N8.1 h.1).1
theorem DV.bound {x:Nat}{n M:Int}(h:DV x n M) : -4503599627370496≤n∧n≤4503599627370496:=(N8.1 h.1).2
theorem DV.toInt {x:Nat}{n M:Int}(h:DV x n M):floatToIntVal .f64 x .i64=some n:=by
 have hb:=h.bound
 have ht:(FloatKind.f64.decode x).toInt .zero=some n:=by
  have:=toInt_units h.unit
  rw [Ud] at this
  exact this
 unfold floatToIntVal
 rw [ht]
 simp only
 rw [if_pos]
 show -9223372036854775808≤n∧n≤9223372036854775807
 omega
theorem isAt_fl (n:Int){M:Int}(h0 : -M≤n)(h1:n≤M)(hM:M≤4503599627370496):DV (floatOfInt .f64 n) n M:=⟨ofInt_whole n (by omega) (by omega),h0,h1⟩
theorem DV.order {x y:Nat}{n m M M':Int}(h:DV x n M)(h':DV y m M'):FloatKind.f64.format.order x y=some (compare n m):=by
 have:=Q5 h.unit h'.unit
 rw [Ve _ _ _ OG] at this
 exact this
theorem DV.same {x y:Nat}{n M M':Int}(h:DV x n M)(h':DV y n M'):FloatKind.f64.format.order x y=some .eq:=by
 rw [h.order h',XP]
theorem Xc:DV 0 0 0:=⟨N8.2 ⟨(XN false).trans (by simp),by omega,by omega⟩,by omega,by omega⟩
theorem both_cases (a b:Nat)(M:Int):(∃n m,DV a n M∧DV b m M)∨(okB a M&&okB b M)=false:=by
 cases ha:okB a M with
 | false=>exact .inr rfl
 | true=>
  cases hb:okB b M with
  | false=>exact .inr rfl
  | true=>
   obtain ⟨n,hn⟩:=UM.1 ha
   obtain ⟨m,hm⟩:=UM.1 hb
   exact .inl ⟨n,m,hn,hm⟩
theorem both_ok {a b:Nat}{n m M:Int}(ha:DV a n M)(hb:DV b m M):(okB a M&&okB b M)=true:=by rw [ha.ok,hb.ok];rfl
set_option maxHeartbeats 400000 in
theorem UJ {a b:Nat}{n m:Int}(ha:DV a n 4503599627370496)(hb:DV b m 4503599627370496)(w:World) :
 Calls Tryz.prog 312 #[.complex .f64 a b] w fun e w'=>e=.returned (.tuple #[.int .i64 n,.int .i64 m,.int .i64 0])∧Below w.heap.size w w':=by
 have H:=Lib.hid (NS a b w)
 rw [both_ok ha hb] at H
 have c1:=fun w=>run_convert_float_int (P:=Tryz.prog) w 384 2 .f64 .i64 a n (by kernel_rfl) Tryz.underlying2 ha.toInt
 have c2:=fun w=>run_convert_float_int (P:=Tryz.prog) w 384 2 .f64 .i64 b m (by kernel_rfl) Tryz.underlying2 hb.toInt
 clear ha hb
 go_enter Tryz.func312,Tryz.ntmps312
 go_wp2_with (go_at_call 382;refine H.out.mono ?_;rintro e w1 ⟨rfl,hb1⟩)
 go_ret3
 exact ⟨rfl,hb1⟩
set_option maxHeartbeats 400000 in
theorem parts_no {a b:Nat}(h:(okB a 4503599627370496&&okB b 4503599627370496)=false)(w:World) :
 Calls Tryz.prog 312 #[.complex .f64 a b] w fun e w'=>e=.returned (.tuple #[.int .i64 0,.int .i64 0,.int .i64 5])∧Below w.heap.size w w':=by
 have H:=Lib.hid (NS a b w)
 rw [h] at H
 clear h
 go_enter Tryz.func312,Tryz.ntmps312
 go_wp2_with (go_at_call 382;refine H.out.mono ?_;rintro e w1 ⟨rfl,hb1⟩)
 go_ret3
 exact ⟨rfl,hb1⟩
def KG (n:Int):Bool:=decide (-4503599627370496≤n∧n≤4503599627370496)
theorem fits_any (n:Int)(w:World):Calls Tryz.prog 292 #[.int .i64 n] w fun e w'=>e=.returned (.bool (KG n))∧w=w':=by
 by_cases h1 : -4503599627370496≤n
 ·by_cases h2:n≤4503599627370496
  ·have HV:=Lib.hid (show KG n=true from decide_eq_true ⟨h1,h2⟩)
   go_enter Tryz.func292,Tryz.ntmps292
   go_wp2
   go_ret
   exact ⟨Fh (by rw [HV.out]),rfl⟩
  ·have HV:=Lib.hid (show KG n=false from decide_eq_false fun h=>h2 h.2)
   go_enter Tryz.func292,Tryz.ntmps292
   go_wp2
   go_ret
   exact ⟨Fh (by rw [HV.out]),rfl⟩
 ·have HV:=Lib.hid (show KG n=false from decide_eq_false fun h=>h1 h.1)
  go_enter Tryz.func292,Tryz.ntmps292
  go_wp2
  go_ret
  exact ⟨Fh (by rw [HV.out]),rfl⟩
set_option maxHeartbeats 400000 in
theorem of_yes {n m:Int}(h1 : -4503599627370496≤n)(h2:n≤4503599627370496)(h3 : -4503599627370496≤m)(h4:m≤4503599627370496)(w:World) :
 Calls Tryz.prog 200 #[.int .i64 n,.int .i64 m] w fun e w'=>e=.returned (.tuple #[.complex .f64 (floatOfInt .f64 n) (floatOfInt .f64 m),.int .i64 0])∧w=w':=by
 have F1:=Lib.hid (fits_any n w)
 have F2:=Lib.hid (fits_any m w)
 rw [show KG n=true from decide_eq_true ⟨h1,h2⟩] at F1
 rw [show KG m=true from decide_eq_true ⟨h3,h4⟩] at F2
 go_enter Tryz.func200,Tryz.ntmps200
 go_wp2_with fail
 refine F1.out.mono ?_
 rintro e w1 ⟨rfl,rfl⟩
 go_wp2_with fail
 refine F2.out.mono ?_
 rintro e w1 ⟨rfl,rfl⟩
 go_wp2_with fail
 go_ret2
 exact ⟨rfl,rfl⟩
set_option maxHeartbeats 400000 in
theorem of_no {n m:Int}(h:¬(-4503599627370496≤n∧n≤4503599627370496∧-4503599627370496≤m∧m≤4503599627370496))(w:World) :
 Calls Tryz.prog 200 #[.int .i64 n,.int .i64 m] w fun e w'=>e=.returned (.tuple #[.complex .f64 0 0,.int .i64 3])∧w=w':=by
 have F1:=Lib.hid (fits_any n w)
 have F2:=Lib.hid (fits_any m w)
 by_cases hn : -4503599627370496≤n∧n≤4503599627370496
 ·have hm:¬(-4503599627370496≤m∧m≤4503599627370496):=fun hm=>h ⟨hn.1,hn.2,hm⟩
  rw [show KG n=true from decide_eq_true hn] at F1
  rw [show KG m=false from decide_eq_false hm] at F2
  clear h hn hm
  go_enter Tryz.func200,Tryz.ntmps200
  go_wp2_with fail
  refine F1.out.mono ?_
  rintro e w1 ⟨rfl,rfl⟩
  go_wp2_with fail
  refine F2.out.mono ?_
  rintro e w1 ⟨rfl,rfl⟩
  go_wp2_with fail
  go_ret2
  exact ⟨rfl,rfl⟩
 ·rw [show KG n=false from decide_eq_false hn] at F1
  clear h hn
  go_enter Tryz.func200,Tryz.ntmps200
  go_wp2_with fail
  refine F1.out.mono ?_
  rintro e w1 ⟨rfl,rfl⟩
  go_wp2_with fail
  go_ret2
  exact ⟨rfl,rfl⟩
end Go.Proofs.YtdfbohaohjaloaaGreatDoor
end
section
namespace Go.Proofs.YtdfbohaohjaloaaGreatDoor
open Go.RowKit Punnet.Flt
def ofR (n m:Int):Nat×Nat×Int:=if -4503599627370496≤n∧n≤4503599627370496∧-4503599627370496≤m∧m≤4503599627370496 then (floatOfInt .f64 n,floatOfInt .f64 m,0) else (0,0,3)
theorem of_any (n m:Int)(w:World):Calls Tryz.prog 200 #[.int .i64 n,.int .i64 m] w fun e w'=>e=.returned (.tuple #[.complex .f64 (ofR n m).1 (ofR n m).2.1,.int .i64 (ofR n m).2.2])∧w=w':=by
 unfold ofR
 by_cases h : -4503599627370496≤n∧n≤4503599627370496∧-4503599627370496≤m∧m≤4503599627370496
 ·rw [if_pos h];exact of_yes h.1 h.2.1 h.2.2.1 h.2.2.2 w
 ·rw [if_neg h];exact of_no h w
set_option maxHeartbeats 400000 in
theorem plus_yes {a b c d:Nat}{n m n' m':Int}(ha:DV a n 4503599627370496)(hb:DV b m 4503599627370496)(hc:DV c n' 4503599627370496)(hd:DV d m' 4503599627370496)(w:World) :
 Calls Tryz.prog 405 #[.complex .f64 a b,.complex .f64 c d] w fun e w'=>e=.returned (.tuple #[.complex .f64 (ofR (n+n') (m+m')).1 (ofR (n+n') (m+m')).2.1,.int .i64 (ofR (n+n') (m+m')).2.2])∧Below w.heap.size w w':=by
 have S1:=Lib.hid (NS a b)
 have S2:=Lib.hid (NS c d)
 rw [both_ok ha hb] at S1
 rw [both_ok hc hd] at S2
 have P1:=Lib.hid (UJ ha hb)
 have P2:=Lib.hid (UJ hc hd)
 obtain ⟨b1,b2⟩:=ha.bound
 obtain ⟨b3,b4⟩:=hb.bound
 obtain ⟨b5,b6⟩:=hc.bound
 obtain ⟨b7,b8⟩:=hd.bound
 have O:=Lib.hid (of_any (n+n') (m+m'))
 generalize ofR (n+n') (m+m')=R at *
 clear ha hb hc hd
 go_enter Tryz.func405,Tryz.ntmps405
 go_wp2_with fail
 refine (S1.out _).mono ?_
 rintro e w1 ⟨rfl,hb1⟩
 go_wp2_with fail
 refine (S2.out _).mono ?_
 rintro e w2 ⟨rfl,hb2⟩
 go_wp2_with fail
 refine (P1.out _).mono ?_
 rintro e w3 ⟨rfl,hb3⟩
 go_wp2_with fail
 refine (P2.out _).mono ?_
 rintro e w4 ⟨rfl,hb4⟩
 go_wp2_with fail
 refine (O.out _).mono ?_
 rintro e w5 ⟨rfl,rfl⟩
 go_wp2_with fail
 go_ret2
 exact ⟨rfl,by repeat (first | exact Below.refl _ _ | assumption | refine Q8 ?_ (by assumption))⟩
set_option maxHeartbeats 400000 in
theorem plus_no {a b c d:Nat}(h:(okB a 4503599627370496&&okB b 4503599627370496&&(okB c 4503599627370496&&okB d 4503599627370496))=false)(w:World) :
 Calls Tryz.prog 405 #[.complex .f64 a b,.complex .f64 c d] w fun e w'=>e=.returned (.tuple #[.complex .f64 0 0,.int .i64 5])∧Below w.heap.size w w':=by
 have S1:=Lib.hid (NS a b)
 have S2:=Lib.hid (NS c d)
 cases h1:(okB a 4503599627370496&&okB b 4503599627370496) with
 | false=>
  rw [h1] at S1
  clear h h1
  go_enter Tryz.func405,Tryz.ntmps405
  go_wp2_with fail
  refine (S1.out _).mono ?_
  rintro e w1 ⟨rfl,hb1⟩
  go_wp2_with fail
  go_ret2
  exact ⟨rfl,hb1⟩
 | true=>
  rw [h1,Bool.true_and] at h
  rw [h1] at S1
  rw [h] at S2
  clear h h1
  go_enter Tryz.func405,Tryz.ntmps405
  go_wp2_with fail
  refine (S1.out _).mono ?_
  rintro e w1 ⟨rfl,hb1⟩
  go_wp2_with fail
  refine (S2.out _).mono ?_
  rintro e w2 ⟨rfl,hb2⟩
  go_wp2_with fail
  go_ret2
  exact ⟨rfl,Q8 hb1 hb2⟩
end Go.Proofs.YtdfbohaohjaloaaGreatDoor
end
section
namespace Go.Proofs.YtdfbohaohjaloaaGreatDoor
open Go.RowKit Punnet.Flt
end Go.Proofs.YtdfbohaohjaloaaGreatDoor
end
section
namespace Go.Vm
open Go.RowKit Punnet.Flt Go.Proofs Go.Proofs.YtdfbohaohjaloaaGreatDoor
def cOf (n m:Int):Nat×Nat:=((ofR n m).1,(ofR n m).2.1)
def okN (n:Int):Prop:=-4503599627370496≤n∧n≤4503599627370496
def IsC (x:Nat×Nat)(n m:Int):Prop:=DV x.1 n 4503599627370496∧DV x.2 m 4503599627370496
theorem isC_of {n m:Int}(hn:okN n)(hm:okN m):IsC (cOf n m) n m:=by
 unfold cOf ofR
 rw [if_pos ⟨hn.1,hn.2,hm.1,hm.2⟩]
 exact ⟨isAt_fl n hn.1 hn.2 (by omega),isAt_fl m hm.1 hm.2 (by omega)⟩
theorem isC_zero:IsC (0,0) 0 0:=⟨⟨Xc.1,by decide,by decide⟩,⟨Xc.1,by decide,by decide⟩⟩
theorem isC_uniq {x:Nat×Nat}{n m n' m':Int}(h:IsC x n m)(k:IsC x n' m'):n=n'∧m=m':=by
 have a:=h.1.1;have b:=k.1.1;have c:=h.2.1;have d:=k.2.1
 rw [a] at b;rw [c] at d
 injection b with b;injection d with d
 exact ⟨b,d⟩
noncomputable def JR (x:Nat×Nat):Int×Int×Int:=open Classical in if h:∃n m,IsC x n m then (h.choose,h.choose_spec.choose,0) else (0,0,5)
noncomputable def Mc (x y:Nat×Nat):Nat×Nat×Int:=ofR' (JR x) (JR y)
where ofR' (a b:Int×Int×Int):Nat×Nat×Int:=if a.2.2=0∧b.2.2=0 then ofR (a.1+b.1) (a.2.1+b.2.1) else (0,0,5)
theorem MZ {x:Nat×Nat}{n m:Int}(h:IsC x n m):JR x=(n,m,0):=by
 unfold JR
 have hh:∃n m,IsC x n m:=⟨n,m,h⟩
 rw [dif_pos hh]
 obtain ⟨a,b⟩:=isC_uniq hh.choose_spec.choose_spec h
 rw [b]
 simp only [a]
theorem TU {x:Nat×Nat}(h:¬∃n m,IsC x n m):JR x=(0,0,5):=by unfold JR;rw [dif_neg h]
theorem Uy (x:Nat×Nat):(∃n m,IsC x n m)∨(okB x.1 4503599627370496&&okB x.2 4503599627370496)=false:=by
 rcases both_cases x.1 x.2 4503599627370496 with ⟨n,m,hn,hm⟩ | h
 ·exact .inl ⟨n,m,hn,hm⟩
 ·exact .inr h
theorem TL {x:Nat×Nat}(h:(okB x.1 4503599627370496&&okB x.2 4503599627370496)=false):¬∃n m,IsC x n m:=by
 rintro ⟨n,m,hn,hm⟩
 rw [both_ok hn hm] at h;cases h
theorem XA (n m:Int):AQ Tryz.prog 200 [.sc (.int .i64 n),.sc (.int .i64 m)] [.d (.sc (.complex .f64 (cOf n m).1 (cOf n m).2)),.d (.sc (.int .i64 (ofR n m).2.2))]:=
 KH (us:=[.int .i64 n,.int .i64 m]) (rs:=[]) (by simp [BL]) fun w=>(of_any n m w).mono fun e w' h=>⟨h.1,by rw [h.2];exact Below.refl _ _⟩
theorem Xx (x:Nat×Nat):AQ Tryz.prog 312 [.sc (.complex .f64 x.1 x.2)] [.d (.sc (.int .i64 (JR x).1)),.d (.sc (.int .i64 (JR x).2.1)),.d (.sc (.int .i64 (JR x).2.2))]:=by
 refine KH (us:=[.complex .f64 x.1 x.2]) (rs:=[.int .i64 (JR x).2.2]) (by simp [BL]) fun w=>?_
 rcases Uy x with ⟨n,m,h⟩ | h
 ·rw [MZ h];exact UJ h.1 h.2 w
 ·rw [TU (TL h)];exact parts_no h w
theorem Yt (x y:Nat×Nat):AQ Tryz.prog 405 [.sc (.complex .f64 x.1 x.2),.sc (.complex .f64 y.1 y.2)] [.d (.sc (.complex .f64 (Mc x y).1 (Mc x y).2.1)),.d (.sc (.int .i64 (Mc x y).2.2))]:=by
 refine KH (us:=[.complex .f64 x.1 x.2,.complex .f64 y.1 y.2]) (rs:=[]) (by simp [BL]) fun w=>?_
 unfold Mc Mc.ofR'
 rcases Uy x with ⟨n,m,h⟩ | h
 ·rcases Uy y with ⟨n',m',k⟩ | k
  ·rw [MZ h,MZ k,if_pos ⟨rfl,rfl⟩];exact plus_yes h.1 h.2 k.1 k.2 w
  ·rw [TU (TL k),if_neg (by simp)];exact plus_no (by rw [k,Bool.and_false]) w
 ·rw [TU (TL h),if_neg (by simp)];exact plus_no (by rw [h];rfl) w
end Go.Vm
end
section
namespace Go.Vm
open Go.RowKit Go.Proofs Go.Proofs.YtdfbohaohjaloaaGreatDoor Punnet.Name Punnet.Num Punnet.Flt
set_option maxRecDepth 1000000
theorem WG:AQ Go.Proofs.Tryz.prog 23 [.sc (.string ⟨#[57,48,48,48]⟩)] [.d (.sc (.int .i64 9000)),.d (.sc (.int .i64 0))]:=by
 have h:=MB ⟨#[57,48,48,48]⟩ (by decide)
 rw [show Aw (⟨#[57,48,48,48]⟩:ByteArray)=(9000,0) from by kernel_rfl] at h
 exact h
theorem read2_c:AQ Go.Proofs.Tryz.prog 23 [.sc (.string ⟨#[50]⟩)] [.d (.sc (.int .i64 2)),.d (.sc (.int .i64 0))]:=by
 have h:=MB ⟨#[50]⟩ (by decide)
 rw [show Aw (⟨#[50]⟩:ByteArray)=(2,0) from by kernel_rfl] at h
 exact h
theorem read0_c:AQ Go.Proofs.Tryz.prog 23 [.sc (.string ⟨#[48]⟩)] [.d (.sc (.int .i64 0)),.d (.sc (.int .i64 0))]:=by
 have h:=MB ⟨#[48]⟩ (by decide)
 rw [show Aw (⟨#[48]⟩:ByteArray)=(0,0) from by kernel_rfl] at h
 exact h
theorem read1_c:AQ Go.Proofs.Tryz.prog 23 [.sc (.string ⟨#[49]⟩)] [.d (.sc (.int .i64 1)),.d (.sc (.int .i64 0))]:=by
 have h:=MB ⟨#[49]⟩ (by decide)
 rw [show Aw (⟨#[49]⟩:ByteArray)=(1,0) from by kernel_rfl] at h
 exact h
theorem read3_c:AQ Go.Proofs.Tryz.prog 23 [.sc (.string ⟨#[51]⟩)] [.d (.sc (.int .i64 3)),.d (.sc (.int .i64 0))]:=by
 have h:=MB ⟨#[51]⟩ (by decide)
 rw [show Aw (⟨#[51]⟩:ByteArray)=(3,0) from by kernel_rfl] at h
 exact h
theorem prin0_c:AQ Go.Proofs.Tryz.prog 24 [.sc (.int .i64 0)] [.d (.sc (.string ⟨#[48]⟩))]:=by
 have h:=Fj 0 (by decide)
 rw [show EZ 0=⟨#[48]⟩ from by kernel_rfl] at h
 exact h
theorem prin1_c:AQ Go.Proofs.Tryz.prog 24 [.sc (.int .i64 1)] [.d (.sc (.string ⟨#[49]⟩))]:=by
 have h:=Fj 1 (by decide)
 rw [show EZ 1=⟨#[49]⟩ from by kernel_rfl] at h
 exact h
theorem prin2_c:AQ Go.Proofs.Tryz.prog 24 [.sc (.int .i64 2)] [.d (.sc (.string ⟨#[50]⟩))]:=by
 have h:=Fj 2 (by decide)
 rw [show EZ 2=⟨#[50]⟩ from by kernel_rfl] at h
 exact h
theorem prin3_c:AQ Go.Proofs.Tryz.prog 24 [.sc (.int .i64 3)] [.d (.sc (.string ⟨#[51]⟩))]:=by
 have h:=Fj 3 (by decide)
 rw [show EZ 3=⟨#[51]⟩ from by kernel_rfl] at h
 exact h
theorem fread0_c:AQ Go.Proofs.Tryz.prog 141 [.sc (.string ⟨#[108,105,110,101,46,113,116,121]⟩)] [.d (.agg [.sc (.int .i64 1),.sc (.string ⟨#[]⟩),.sc (.string ⟨#[113,116,121]⟩)]),.d (.sc (.int .i64 0))]:=by
 have h:=V8 ⟨#[108,105,110,101,46,113,116,121]⟩ (by decide)
 rw [Jm (r:=(⟨1,⟨#[]⟩,⟨#[113,116,121]⟩⟩:Bv)) (by kernel_rfl) (s:=⟨#[108,105,110,101,46,113,116,121]⟩) (by kernel_rfl)] at h
 exact h
theorem fprin0_c:AQ Go.Proofs.Tryz.prog 134 [.agg [.sc (.int .i64 0),.sc (.string ⟨#[]⟩),.sc (.string ⟨#[99,111,117,112,111,110]⟩)]] [.d (.sc (.string ⟨#[104,101,97,100,46,99,111,117,112,111,110]⟩))]:=by
 have h:=Cb (⟨0,⟨#[]⟩,⟨#[99,111,117,112,111,110]⟩⟩:Bv)
 rw [show (if BF (⟨0,⟨#[]⟩,⟨#[99,111,117,112,111,110]⟩⟩:Bv)=true then BJ (⟨0,⟨#[]⟩,⟨#[99,111,117,112,111,110]⟩⟩:Bv) else ⟨#[63]⟩)=(⟨#[104,101,97,100,46,99,111,117,112,111,110]⟩:ByteArray) from by kernel_rfl] at h
 exact h
theorem fprin1_c:AQ Go.Proofs.Tryz.prog 134 [.agg [.sc (.int .i64 1),.sc (.string ⟨#[]⟩),.sc (.string ⟨#[110,111,116,101]⟩)]] [.d (.sc (.string ⟨#[108,105,110,101,46,110,111,116,101]⟩))]:=by
 have h:=Cb (⟨1,⟨#[]⟩,⟨#[110,111,116,101]⟩⟩:Bv)
 rw [show (if BF (⟨1,⟨#[]⟩,⟨#[110,111,116,101]⟩⟩:Bv)=true then BJ (⟨1,⟨#[]⟩,⟨#[110,111,116,101]⟩⟩:Bv) else ⟨#[63]⟩)=(⟨#[108,105,110,101,46,110,111,116,101]⟩:ByteArray) from by kernel_rfl] at h
 exact h
theorem fprin2_c:AQ Go.Proofs.Tryz.prog 134 [.agg [.sc (.int .i64 1),.sc (.string ⟨#[]⟩),.sc (.string ⟨#[113,116,121]⟩)]] [.d (.sc (.string ⟨#[108,105,110,101,46,113,116,121]⟩))]:=by
 have h:=Cb (⟨1,⟨#[]⟩,⟨#[113,116,121]⟩⟩:Bv)
 rw [show (if BF (⟨1,⟨#[]⟩,⟨#[113,116,121]⟩⟩:Bv)=true then BJ (⟨1,⟨#[]⟩,⟨#[113,116,121]⟩⟩:Bv) else ⟨#[63]⟩)=(⟨#[108,105,110,101,46,113,116,121]⟩:ByteArray) from by kernel_rfl] at h
 exact h
theorem fprin3_c:AQ Go.Proofs.Tryz.prog 134 [.agg [.sc (.int .i64 1),.sc (.string ⟨#[]⟩),.sc (.string ⟨#[115,105,122,101]⟩)]] [.d (.sc (.string ⟨#[108,105,110,101,46,115,105,122,101]⟩))]:=by
 have h:=Cb (⟨1,⟨#[]⟩,⟨#[115,105,122,101]⟩⟩:Bv)
 rw [show (if BF (⟨1,⟨#[]⟩,⟨#[115,105,122,101]⟩⟩:Bv)=true then BJ (⟨1,⟨#[]⟩,⟨#[115,105,122,101]⟩⟩:Bv) else ⟨#[63]⟩)=(⟨#[108,105,110,101,46,115,105,122,101]⟩:ByteArray) from by kernel_rfl] at h
 exact h
theorem fprin4_c:AQ Go.Proofs.Tryz.prog 134 [.agg [.sc (.int .i64 1),.sc (.string ⟨#[]⟩),.sc (.string ⟨#[116,97,103,115]⟩)]] [.d (.sc (.string ⟨#[108,105,110,101,46,116,97,103,115]⟩))]:=by
 have h:=Cb (⟨1,⟨#[]⟩,⟨#[116,97,103,115]⟩⟩:Bv)
 rw [show (if BF (⟨1,⟨#[]⟩,⟨#[116,97,103,115]⟩⟩:Bv)=true then BJ (⟨1,⟨#[]⟩,⟨#[116,97,103,115]⟩⟩:Bv) else ⟨#[63]⟩)=(⟨#[108,105,110,101,46,116,97,103,115]⟩:ByteArray) from by kernel_rfl] at h
 exact h
theorem c3:cOf 3 0=(4613937818241073152,0):=by kernel_rfl
theorem isC3:IsC (4613937818241073152,0) 3 0:=by have:=isC_of (n:=3) (m:=0) (by unfold okN;decide) (by unfold okN;decide);rwa [c3] at this
theorem pof0_c:AQ Go.Proofs.Tryz.prog 200 [.sc (.int .i64 0),.sc (.int .i64 0)] [.d (.sc (.complex .f64 0 0)),.d (.sc (.int .i64 0))]:=by
 have h:=XA 0 0
 rw [show cOf 0 0=(0,0) from by kernel_rfl] at h
 rw [show (ofR 0 0).2.2=0 from by kernel_rfl] at h
 exact h
theorem ppart0_c:AQ Go.Proofs.Tryz.prog 312 [.sc (.complex .f64 0 0)] [.d (.sc (.int .i64 0)),.d (.sc (.int .i64 0)),.d (.sc (.int .i64 0))]:=by
 have h:=Xx (0,0)
 rw [MZ isC_zero] at h
 exact h
theorem pof3_c:AQ Go.Proofs.Tryz.prog 200 [.sc (.int .i64 3),.sc (.int .i64 0)] [.d (.sc (.complex .f64 4613937818241073152 0)),.d (.sc (.int .i64 0))]:=by
 have h:=XA 3 0
 rw [show cOf 3 0=(4613937818241073152,0) from by kernel_rfl] at h
 rw [show (ofR 3 0).2.2=0 from by kernel_rfl] at h
 exact h
theorem ppart3_c:AQ Go.Proofs.Tryz.prog 312 [.sc (.complex .f64 4613937818241073152 0)] [.d (.sc (.int .i64 3)),.d (.sc (.int .i64 0)),.d (.sc (.int .i64 0))]:=by
 have h:=Xx (4613937818241073152,0)
 rw [MZ isC3] at h
 exact h
theorem pplus_c:AQ Go.Proofs.Tryz.prog 405 [.sc (.complex .f64 0 0),.sc (.complex .f64 4613937818241073152 0)] [.d (.sc (.complex .f64 4613937818241073152 0)),.d (.sc (.int .i64 0))]:=by
 have h:=Yt (0,0) (4613937818241073152,0)
 rw [show Mc (0,0) (4613937818241073152,0)=(4613937818241073152,0,0) from by unfold Mc Mc.ofR';rw [MZ isC_zero,MZ isC3];kernel_rfl] at h
 exact h
theorem psmall_c:AQ Go.Proofs.Tryz.prog 201 [.sc (.complex .f64 0 0)] [.d (.sc (.bool true))]:=by
 have h:=UT (us:=[.complex .f64 0 0]) (r:=.bool true) rfl (fun w=>(small_any 0 0 w).mono (by rintro e w1 ⟨rfl,hb⟩;exact ⟨by rw [show (okB 0 33554432&&okB 0 33554432)=true from by kernel_rfl],hb⟩))
 exact h
end Go.Vm
namespace Go.Rn
open Go.RowKit
open Go.Vm (enters D C WG read2_c read0_c read1_c read3_c prin0_c prin1_c prin2_c prin3_c fread0_c fprin0_c fprin1_c fprin2_c fprin3_c fprin4_c pof0_c ppart0_c pof3_c ppart3_c pplus_c psmall_c)
theorem read9000_r [Cx](h:Hp)(n:Nat):Dt Go.Proofs.Tryz.prog 23 [.sc (.string ⟨#[57,48,48,48]⟩)] h n (.tup [.sc (.int .i64 9000),.sc (.int .i64 0)]) h n:=Fg (ds:=[.sc (.string ⟨#[57,48,48,48]⟩)]) (cs:=[.d (.sc (.int .i64 9000)),.d (.sc (.int .i64 0))]) (by kernel_rfl) (by kernel_rfl) WG h n
theorem read2_r [Cx](h:Hp)(n:Nat):Dt Go.Proofs.Tryz.prog 23 [.sc (.string ⟨#[50]⟩)] h n (.tup [.sc (.int .i64 2),.sc (.int .i64 0)]) h n:=Fg (ds:=[.sc (.string ⟨#[50]⟩)]) (cs:=[.d (.sc (.int .i64 2)),.d (.sc (.int .i64 0))]) (by kernel_rfl) (by kernel_rfl) read2_c h n
theorem read0_r [Cx](h:Hp)(n:Nat):Dt Go.Proofs.Tryz.prog 23 [.sc (.string ⟨#[48]⟩)] h n (.tup [.sc (.int .i64 0),.sc (.int .i64 0)]) h n:=Fg (ds:=[.sc (.string ⟨#[48]⟩)]) (cs:=[.d (.sc (.int .i64 0)),.d (.sc (.int .i64 0))]) (by kernel_rfl) (by kernel_rfl) read0_c h n
theorem read1_r [Cx](h:Hp)(n:Nat):Dt Go.Proofs.Tryz.prog 23 [.sc (.string ⟨#[49]⟩)] h n (.tup [.sc (.int .i64 1),.sc (.int .i64 0)]) h n:=Fg (ds:=[.sc (.string ⟨#[49]⟩)]) (cs:=[.d (.sc (.int .i64 1)),.d (.sc (.int .i64 0))]) (by kernel_rfl) (by kernel_rfl) read1_c h n
theorem read3_r [Cx](h:Hp)(n:Nat):Dt Go.Proofs.Tryz.prog 23 [.sc (.string ⟨#[51]⟩)] h n (.tup [.sc (.int .i64 3),.sc (.int .i64 0)]) h n:=Fg (ds:=[.sc (.string ⟨#[51]⟩)]) (cs:=[.d (.sc (.int .i64 3)),.d (.sc (.int .i64 0))]) (by kernel_rfl) (by kernel_rfl) read3_c h n
theorem prin0_r [Cx](h:Hp)(n:Nat):Dt Go.Proofs.Tryz.prog 24 [.sc (.int .i64 0)] h n (.sc (.string ⟨#[48]⟩)) h n:=Fg (ds:=[.sc (.int .i64 0)]) (cs:=[.d (.sc (.string ⟨#[48]⟩))]) (by kernel_rfl) (by kernel_rfl) prin0_c h n
theorem prin1_r [Cx](h:Hp)(n:Nat):Dt Go.Proofs.Tryz.prog 24 [.sc (.int .i64 1)] h n (.sc (.string ⟨#[49]⟩)) h n:=Fg (ds:=[.sc (.int .i64 1)]) (cs:=[.d (.sc (.string ⟨#[49]⟩))]) (by kernel_rfl) (by kernel_rfl) prin1_c h n
theorem prin2_r [Cx](h:Hp)(n:Nat):Dt Go.Proofs.Tryz.prog 24 [.sc (.int .i64 2)] h n (.sc (.string ⟨#[50]⟩)) h n:=Fg (ds:=[.sc (.int .i64 2)]) (cs:=[.d (.sc (.string ⟨#[50]⟩))]) (by kernel_rfl) (by kernel_rfl) prin2_c h n
theorem prin3_r [Cx](h:Hp)(n:Nat):Dt Go.Proofs.Tryz.prog 24 [.sc (.int .i64 3)] h n (.sc (.string ⟨#[51]⟩)) h n:=Fg (ds:=[.sc (.int .i64 3)]) (cs:=[.d (.sc (.string ⟨#[51]⟩))]) (by kernel_rfl) (by kernel_rfl) prin3_c h n
theorem fread0_r [Cx](h:Hp)(n:Nat):Dt Go.Proofs.Tryz.prog 141 [.sc (.string ⟨#[108,105,110,101,46,113,116,121]⟩)] h n (.tup [.agg [.sc (.int .i64 1),.sc (.string ⟨#[]⟩),.sc (.string ⟨#[113,116,121]⟩)],.sc (.int .i64 0)]) h n:=Fg (ds:=[.sc (.string ⟨#[108,105,110,101,46,113,116,121]⟩)]) (cs:=[.d (.agg [.sc (.int .i64 1),.sc (.string ⟨#[]⟩),.sc (.string ⟨#[113,116,121]⟩)]),.d (.sc (.int .i64 0))]) (by kernel_rfl) (by kernel_rfl) fread0_c h n
theorem fprin0_r [Cx](h:Hp)(n:Nat):Dt Go.Proofs.Tryz.prog 134 [.agg [.sc (.int .i64 0),.sc (.string ⟨#[]⟩),.sc (.string ⟨#[99,111,117,112,111,110]⟩)]] h n (.sc (.string ⟨#[104,101,97,100,46,99,111,117,112,111,110]⟩)) h n:=Fg (ds:=[.agg [.sc (.int .i64 0),.sc (.string ⟨#[]⟩),.sc (.string ⟨#[99,111,117,112,111,110]⟩)]]) (cs:=[.d (.sc (.string ⟨#[104,101,97,100,46,99,111,117,112,111,110]⟩))]) (by kernel_rfl) (by kernel_rfl) fprin0_c h n
theorem fprin1_r [Cx](h:Hp)(n:Nat):Dt Go.Proofs.Tryz.prog 134 [.agg [.sc (.int .i64 1),.sc (.string ⟨#[]⟩),.sc (.string ⟨#[110,111,116,101]⟩)]] h n (.sc (.string ⟨#[108,105,110,101,46,110,111,116,101]⟩)) h n:=Fg (ds:=[.agg [.sc (.int .i64 1),.sc (.string ⟨#[]⟩),.sc (.string ⟨#[110,111,116,101]⟩)]]) (cs:=[.d (.sc (.string ⟨#[108,105,110,101,46,110,111,116,101]⟩))]) (by kernel_rfl) (by kernel_rfl) fprin1_c h n
theorem fprin2_r [Cx](h:Hp)(n:Nat):Dt Go.Proofs.Tryz.prog 134 [.agg [.sc (.int .i64 1),.sc (.string ⟨#[]⟩),.sc (.string ⟨#[113,116,121]⟩)]] h n (.sc (.string ⟨#[108,105,110,101,46,113,116,121]⟩)) h n:=Fg (ds:=[.agg [.sc (.int .i64 1),.sc (.string ⟨#[]⟩),.sc (.string ⟨#[113,116,121]⟩)]]) (cs:=[.d (.sc (.string ⟨#[108,105,110,101,46,113,116,121]⟩))]) (by kernel_rfl) (by kernel_rfl) fprin2_c h n
theorem fprin3_r [Cx](h:Hp)(n:Nat):Dt Go.Proofs.Tryz.prog 134 [.agg [.sc (.int .i64 1),.sc (.string ⟨#[]⟩),.sc (.string ⟨#[115,105,122,101]⟩)]] h n (.sc (.string ⟨#[108,105,110,101,46,115,105,122,101]⟩)) h n:=Fg (ds:=[.agg [.sc (.int .i64 1),.sc (.string ⟨#[]⟩),.sc (.string ⟨#[115,105,122,101]⟩)]]) (cs:=[.d (.sc (.string ⟨#[108,105,110,101,46,115,105,122,101]⟩))]) (by kernel_rfl) (by kernel_rfl) fprin3_c h n
theorem fprin4_r [Cx](h:Hp)(n:Nat):Dt Go.Proofs.Tryz.prog 134 [.agg [.sc (.int .i64 1),.sc (.string ⟨#[]⟩),.sc (.string ⟨#[116,97,103,115]⟩)]] h n (.sc (.string ⟨#[108,105,110,101,46,116,97,103,115]⟩)) h n:=Fg (ds:=[.agg [.sc (.int .i64 1),.sc (.string ⟨#[]⟩),.sc (.string ⟨#[116,97,103,115]⟩)]]) (cs:=[.d (.sc (.string ⟨#[108,105,110,101,46,116,97,103,115]⟩))]) (by kernel_rfl) (by kernel_rfl) fprin4_c h n
theorem pof0_r [Cx](h:Hp)(n:Nat):Dt Go.Proofs.Tryz.prog 200 [.sc (.int .i64 0),.sc (.int .i64 0)] h n (.tup [.sc (.complex .f64 0 0),.sc (.int .i64 0)]) h n:=Fg (ds:=[.sc (.int .i64 0),.sc (.int .i64 0)]) (cs:=[.d (.sc (.complex .f64 0 0)),.d (.sc (.int .i64 0))]) (by kernel_rfl) (by kernel_rfl) pof0_c h n
theorem ppart0_r [Cx](h:Hp)(n:Nat):Dt Go.Proofs.Tryz.prog 312 [.sc (.complex .f64 0 0)] h n (.tup [.sc (.int .i64 0),.sc (.int .i64 0),.sc (.int .i64 0)]) h n:=Fg (ds:=[.sc (.complex .f64 0 0)]) (cs:=[.d (.sc (.int .i64 0)),.d (.sc (.int .i64 0)),.d (.sc (.int .i64 0))]) (by kernel_rfl) (by kernel_rfl) ppart0_c h n
theorem pof3_r [Cx](h:Hp)(n:Nat):Dt Go.Proofs.Tryz.prog 200 [.sc (.int .i64 3),.sc (.int .i64 0)] h n (.tup [.sc (.complex .f64 4613937818241073152 0),.sc (.int .i64 0)]) h n:=Fg (ds:=[.sc (.int .i64 3),.sc (.int .i64 0)]) (cs:=[.d (.sc (.complex .f64 4613937818241073152 0)),.d (.sc (.int .i64 0))]) (by kernel_rfl) (by kernel_rfl) pof3_c h n
theorem ppart3_r [Cx](h:Hp)(n:Nat):Dt Go.Proofs.Tryz.prog 312 [.sc (.complex .f64 4613937818241073152 0)] h n (.tup [.sc (.int .i64 3),.sc (.int .i64 0),.sc (.int .i64 0)]) h n:=Fg (ds:=[.sc (.complex .f64 4613937818241073152 0)]) (cs:=[.d (.sc (.int .i64 3)),.d (.sc (.int .i64 0)),.d (.sc (.int .i64 0))]) (by kernel_rfl) (by kernel_rfl) ppart3_c h n
theorem pplus_r [Cx](h:Hp)(n:Nat):Dt Go.Proofs.Tryz.prog 405 [.sc (.complex .f64 0 0),.sc (.complex .f64 4613937818241073152 0)] h n (.tup [.sc (.complex .f64 4613937818241073152 0),.sc (.int .i64 0)]) h n:=Fg (ds:=[.sc (.complex .f64 0 0),.sc (.complex .f64 4613937818241073152 0)]) (cs:=[.d (.sc (.complex .f64 4613937818241073152 0)),.d (.sc (.int .i64 0))]) (by kernel_rfl) (by kernel_rfl) pplus_c h n
theorem psmall_r [Cx](h:Hp)(n:Nat):Dt Go.Proofs.Tryz.prog 201 [.sc (.complex .f64 0 0)] h n (.sc (.bool true)) h n:=Fg (ds:=[.sc (.complex .f64 0 0)]) (cs:=[.d (.sc (.bool true))]) (by kernel_rfl) (by kernel_rfl) psmall_c h n
abbrev orcP:Orc:=(23,[.sc (.string ⟨#[57,48,48,48]⟩)],.tup [.sc (.int .i64 9000),.sc (.int .i64 0)])::(23,[.sc (.string ⟨#[50]⟩)],.tup [.sc (.int .i64 2),.sc (.int .i64 0)])::(23,[.sc (.string ⟨#[48]⟩)],.tup [.sc (.int .i64 0),.sc (.int .i64 0)])::(23,[.sc (.string ⟨#[49]⟩)],.tup [.sc (.int .i64 1),.sc (.int .i64 0)])::(23,[.sc (.string ⟨#[51]⟩)],.tup [.sc (.int .i64 3),.sc (.int .i64 0)])::(24,[.sc (.int .i64 0)],.sc (.string ⟨#[48]⟩))::(24,[.sc (.int .i64 1)],.sc (.string ⟨#[49]⟩))::(24,[.sc (.int .i64 2)],.sc (.string ⟨#[50]⟩))::(24,[.sc (.int .i64 3)],.sc (.string ⟨#[51]⟩))::(141,[.sc (.string ⟨#[108,105,110,101,46,113,116,121]⟩)],.tup [.agg [.sc (.int .i64 1),.sc (.string ⟨#[]⟩),.sc (.string ⟨#[113,116,121]⟩)],.sc (.int .i64 0)])::(134,[.agg [.sc (.int .i64 0),.sc (.string ⟨#[]⟩),.sc (.string ⟨#[99,111,117,112,111,110]⟩)]],.sc (.string ⟨#[104,101,97,100,46,99,111,117,112,111,110]⟩))::(134,[.agg [.sc (.int .i64 1),.sc (.string ⟨#[]⟩),.sc (.string ⟨#[110,111,116,101]⟩)]],.sc (.string ⟨#[108,105,110,101,46,110,111,116,101]⟩))::(134,[.agg [.sc (.int .i64 1),.sc (.string ⟨#[]⟩),.sc (.string ⟨#[113,116,121]⟩)]],.sc (.string ⟨#[108,105,110,101,46,113,116,121]⟩))::(134,[.agg [.sc (.int .i64 1),.sc (.string ⟨#[]⟩),.sc (.string ⟨#[115,105,122,101]⟩)]],.sc (.string ⟨#[108,105,110,101,46,115,105,122,101]⟩))::(134,[.agg [.sc (.int .i64 1),.sc (.string ⟨#[]⟩),.sc (.string ⟨#[116,97,103,115]⟩)]],.sc (.string ⟨#[108,105,110,101,46,116,97,103,115]⟩))::(200,[.sc (.int .i64 0),.sc (.int .i64 0)],.tup [.sc (.complex .f64 0 0),.sc (.int .i64 0)])::(312,[.sc (.complex .f64 0 0)],.tup [.sc (.int .i64 0),.sc (.int .i64 0),.sc (.int .i64 0)])::(200,[.sc (.int .i64 3),.sc (.int .i64 0)],.tup [.sc (.complex .f64 4613937818241073152 0),.sc (.int .i64 0)])::(312,[.sc (.complex .f64 4613937818241073152 0)],.tup [.sc (.int .i64 3),.sc (.int .i64 0),.sc (.int .i64 0)])::(405,[.sc (.complex .f64 0 0),.sc (.complex .f64 4613937818241073152 0)],.tup [.sc (.complex .f64 4613937818241073152 0),.sc (.int .i64 0)])::(201,[.sc (.complex .f64 0 0)],.sc (.bool true))::orcS
theorem orcP_ok [Cx]:KY Go.Proofs.Tryz.prog orcP:=(EU (by kernel_rfl) read9000_r (EU (by kernel_rfl) read2_r (EU (by kernel_rfl) read0_r (EU (by kernel_rfl) read1_r (EU (by kernel_rfl) read3_r (EU (by kernel_rfl) prin0_r (EU (by kernel_rfl) prin1_r (EU (by kernel_rfl) prin2_r (EU (by kernel_rfl) prin3_r (EU (by kernel_rfl) fread0_r (EU (by kernel_rfl) fprin0_r (EU (by kernel_rfl) fprin1_r (EU (by kernel_rfl) fprin2_r (EU (by kernel_rfl) fprin3_r (EU (by kernel_rfl) fprin4_r (EU (by kernel_rfl) pof0_r (EU (by kernel_rfl) ppart0_r (EU (by kernel_rfl) pof3_r (EU (by kernel_rfl) ppart3_r (EU (by kernel_rfl) pplus_r (EU (by kernel_rfl) psmall_r orcS_ok)))))))))))))))))))))
end Go.Rn
end
section
namespace Go.Rn
open Go.RowKit
open Go.Vm (enters)
set_option maxRecDepth 1000000
set_option maxHeartbeats 100000000 in
theorem awake34_run:Hold (run Go.Proofs.Tryz.prog ft orcP 1000000 1000 7 [] .leaf 0 (fun v _ _=>isV (.sc (.bool true)) v)):=⟨of_eq_true (by kernel_rfl)⟩
theorem Yw:enters Go.Proofs.Tryz.prog 7=true∧∀[Cx] h n,Dt Go.Proofs.Tryz.prog 7 [] h n (.sc (.bool true)) h n:=VW (P:=Go.Proofs.Tryz.prog) (F:=ft) (l:=orcP) (f:=7) (x:=.sc (.bool true)) (u:=.bool true) ft_ok (fun [Cx]=>orcP_ok) awake34_run rfl rfl
end Go.Rn
end
section
namespace Go.Vm
open Go.RowKit Go.Proofs
set_option maxRecDepth 10000
open Go.Proofs Go.Proofs.YtdfbohaohjaloaaGreatDoor Punnet.Name Punnet.Num
theorem awake34_any:AQ Tryz.prog 7 [] [.d (.sc (.bool (true)))]:=Go.Rn.Aat Go.Rn.Yw.2
end Go.Vm
end
