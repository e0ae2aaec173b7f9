/- Part 3. -/
import Derived.IntWalk
import Derived.Laws.StructEq
import Derived.KernelRfl
import Derived.Laws.IdiomStrings
import Derived.Lib.Join
import Derived.Lib.SplitLaws
import Derived.Lib.CutLaws
import Derived.Lib.IndexBytes
import Derived.Deep.QuietTactic
import Derived.BigQuiet
import Derived.Lib.SmallJoins
import Derived.StillTailTactics
import Derived.Outline
import Derived.Deep.RegionHeld3
import Derived.Deep.AppendLies
import Derived.Test.YtdfbohaohjaloaaGreatDoorScriptPrintsM2
set_option linter.unusedVariables false
set_option linter.unusedSimpArgs false
set_option maxHeartbeats 1000000
section
namespace Go.Vm
open Go.RowKit
def AnR (K:Exit→Tr→Hp→Prop):Exit→Env→Prop:=fun e env=>∃t h,env=Af t h∧K e t h
section
variable {P:Program} {tt:TT} {N:Nat} {fb:List Nat} {t:Tr} {h:Hp} {K:Exit→Tr→Hp→Prop}
theorem AaB (htt:FX P tt)(hNB:N≤BIG):∀{c:Code} {t:Tr} {h:Hp} {K:Exit→Tr→Hp→Prop},Jr P tt N fb c t h K→VC P N c (Af t h) (AnR K):=by
 intro c
 induction c with
 |skip=>intro t h K hk;exact Afm ⟨t,h,rfl,hk⟩
 |label l=>intro t h K hk;exact Ak4 ⟨t,h,rfl,hk⟩
 |ret=>intro t h K hk;exact Agm ⟨t,h,rfl,hk⟩
 |exit id=>intro t h K hk;exact AvX ⟨t,h,rfl,hk⟩
 |goto l=>intro t h K hk;exact Anl ⟨t,h,rfl,hk⟩
 |region id ops draw=>
  intro t h K hk
  cases draw with
  |false=>
   obtain ⟨l⟩:=ops
   exact Ajn (Pm htt hNB hk)
  |true=>
   obtain ⟨l⟩:=ops
   change Xt P tt N fb l.toArray true t h K at hk
   unfold Xt at hk
   simp only at hk
   split at hk
   ·obtain ⟨⟨h1,h2⟩,h3⟩:=hk
    exact AoB htt hNB (fun t h hk=>⟨t,h,rfl,hk⟩) h1 h2 h3
   ·obtain ⟨p,⟨h1,h2⟩,h3⟩:=hk
    exact Ajw htt hNB (fun t h hk=>⟨t,h,rfl,hk⟩) h1 h2 h3
 |seq a b iha ihb=>
  intro t h K hk
  refine AoR (Pj (iha hk) ?_)
  rintro e env ⟨t',h',rfl,hk'⟩
  cases e with
  |normal=>exact ihb hk'
  |_=>exact ⟨t',h',rfl,hk'⟩
 |cond c a b iha ihb=>
  intro t h K hk
  have hk:=Bj (h:=h) hk
  split at hk
  ·rename_i p hp
   have hv:vd (Af t h) c=some (.sc (.bool p)):=by unfold vd;rw [hp];rfl
   cases c with
   |tmp u=>
    simp only at hk
    split at hk
    ·exact hk.elim
    ·rename_i hb
     have hlt:=Iw hb
     have hs:(Af t h) u=.c (.d (.sc (.bool p))):=by
      have h2:DK u (Af t h u)=.c (.d (.sc (.bool p))):=hp
      cases hx:Af t h u with
      |c x=>rw [hx] at h2;exact h2
      |_=>rw [hx] at h2;cases h2
     have key:∀t',(∀v,t'.get v=if v=u then .c (.d (.sc (.bool p))) else t.get v)→Af t' h=Af t h:=by
      intro t' h1
      rw [Ed hlt h1]
      funext v
      simp only [upd]
      split
      ·rename_i e;subst e;exact hs.symm
      ·rfl
     refine AdA hv (fun e=>?_) (fun e=>?_)
     ·obtain ⟨t',h1,h2⟩:=Bh (hk.1 e)
      rw [←key t' (by rw [e];exact h1)]
      exact iha h2
     ·obtain ⟨t',h1,h2⟩:=Bh (hk.2 e)
      rw [←key t' (by rw [e];exact h1)]
      exact ihb h2
   |_=>exact AdA hv (fun e=>iha (hk.1 e)) (fun e=>ihb (hk.2 e))
  ·exact hk.elim
 |block id b ih=>
  intro t h K hk
  refine Aev (Pj (ih hk) ?_)
  rintro e env ⟨t',h',rfl,hk'⟩
  cases e with
  |exit i=>
   simp only at hk'
   show if i=id then _ else _
   split at hk'
   ·rename_i hb;rw [if_pos (Nat.eq_of_beq_eq_true hb)];exact ⟨t',h',rfl,hk'⟩
   ·rename_i hb;rw [if_neg (fun e=>by rw [e,Nat.beq_refl] at hb;cases hb)];exact ⟨t',h',rfl,hk'⟩
  |_=>exact ⟨t',h',rfl,hk'⟩
 |_=>intro t h K hk;exact hk.out
def Yj:List Nat→Tr→Tr→(Tr→Prop)→Prop
 | [],_,t1,K=>K t1
 |a::L,t,t1,K=>sK (t.get a) fun s=>AQ 20 t1 a s fun t1=>Yj L t t1 K
theorem Acn:∀{L:List Nat} {t t1:Tr} {K:Tr→Prop},Yj L t t1 K→∃t',(∀u,t'.get u=if L.contains u then t.get u else t1.get u)∧K t'
 | [],t,t1,K,h=>⟨t1,by simp,h⟩
 |a::L,t,t1,K,h=>by
  obtain ⟨t2,h1,h2⟩:=Bh (Ll h)
  obtain ⟨t3,h3,h4⟩:=Acn h2
  refine ⟨t3,fun u=>?_,h4⟩
  rw [h3,h1,List.contains_cons]
  by_cases e:u=a
  ·subst e;simp
  ·have:(u==a)=false:=by simpa using e
   simp [this,e]
def XJ:List (Nat×S)→Tr→(Tr→Prop)→Prop
 | [],t,K=>K t
 | (a,s)::F,t,K=>AQ 20 t a s fun t=>XJ F t K
theorem Adr:∀{F:List (Nat×S)} {t:Tr} {K:Tr→Prop},XJ F t K→∃t',(∀u,(∃s,(u,s)∈F∧t'.get u=s)∨((∀s,(u,s) ∉ F)∧t'.get u=t.get u))∧K t'
 | [],t,K,h=>⟨t,fun u=>.inr ⟨by simp,rfl⟩,h⟩
 | (a,s)::F,t,K,h=>by
  obtain ⟨t1,h1,h2⟩:=Bh h
  obtain ⟨t2,h3,h4⟩:=Adr h2
  refine ⟨t2,fun u=>?_,h4⟩
  rcases h3 u with ⟨s',k1,k2⟩|⟨k1,k2⟩
  ·exact .inl ⟨s',List.mem_cons_of_mem _ k1,k2⟩
  ·rw [h1] at k2
   by_cases e:u=a
   ·subst e
    exact .inl ⟨s,List.mem_cons_self ..,by simpa using k2⟩
   ·refine .inr ⟨fun s' hm=>?_,by simpa [e] using k2⟩
    rcases List.mem_cons.1 hm with h|h
    ·injection h with h;exact e h
    ·exact k1 s' h
def XH (L:List Nat)(F:List (Nat×S))(t:Tr)(K:Tr→Prop):Prop:=Yj L t .leaf fun t1=>XJ F t1 K
def ent (t:Tr):List (Nat×S)→Prop
 | []=>True
 | (a,s)::F=>t.get a=s∧ent t F
theorem Aab {t:Tr}:∀{F:List (Nat×S)},ent t F→∀a s,(a,s)∈F→t.get a=s
 | [],_,a,s,h=>by cases h
 | (a',s')::F,⟨h1,h2⟩,a,s,h=>by
  rcases List.mem_cons.1 h with h|h
  ·injection h with e1 e2;subst e1 e2;exact h1
  ·exact Aab h2 a s h
theorem AdD {α β:Type}{f g:α→β}:∀{L:List α},L.map f=L.map g→∀a∈L,f a=g a
 | [],_,a,h=>by cases h
 |b::L,h,a,ha=>by
  simp only [List.map_cons,List.cons.injEq] at h
  rcases List.mem_cons.1 ha with rfl|ha
  ·exact h.1
  ·exact AdD h.2 a ha
theorem ApL {L:List Nat}{F:List (Nat×S)}{t0 t:Tr}{h:Hp}{K:Tr→Prop}(hs:XH L F t0 K)(hL:L.map t.get=L.map t0.get)(hF:ent t F):∃t1,(∀u,Af t1 h u=Af t h u∨Af t1 h u=.junk)∧K t1:=by
 obtain ⟨t1,h1,h2⟩:=Acn hs
 obtain ⟨t2,h3,h4⟩:=Adr h2
 refine ⟨t2,fun u=>?_,h4⟩
 by_cases hu:u<NAM
 ·rw [CE hu,CE hu]
  rcases h3 u with ⟨s,k1,k2⟩|⟨k1,k2⟩
  ·left;rw [k2,Aab hF u s k1]
  ·rw [k2,h1]
   by_cases hc:L.contains u=true
   ·left;rw [if_pos hc];exact (AdD hL u (by simpa using hc)).symm
   ·right;rw [if_neg hc];rfl
 ·left;simp only [Af,if_neg hu]
def YB {σ:Type}(L:List Nat)(F:σ→List (Nat×S))(G:σ→Hp)(I:σ→Prop)(μ:σ→Nat)(t0:Tr)(m:Nat)(K:Exit→Tr→Hp→Prop):Exit→Tr→Hp→Prop
 | .normal,t,h=>∃s,I s∧μ s<m∧L.map t.get=L.map t0.get∧ent t (F s)∧G s=h
 |e,t,h=>K e t h
theorem AoV (htt:FX P tt)(hNB:N≤BIG){body:Code}(L:List Nat){σ:Type}(F:σ→List (Nat×S))(G:σ→Hp)(I:σ→Prop)(μ:σ→Nat)(s0:σ)(h0:I s0)(hF:ent t (F s0))(hG:G s0=h)
 (round:∀s,I s→XH L (F s) t fun t1=>Jr P tt N fb body t1 (G s) (YB L F G I μ t (μ s) K)):MM (VC P N (.loop body) (Af t h) fun e env=>∃t h,env=Af t h∧K e t h):=by
 refine ⟨AfR (fun n env=>∃s t',I s∧n=μ s∧L.map t'.get=L.map t.get∧ent t' (F s)∧env=Af t' (G s)) (n:=μ s0) ⟨s0,t,h0,rfl,rfl,hF,by rw [hG]⟩ ?_⟩
 rintro n env ⟨s,t',h1,rfl,h2,h3,rfl⟩
 obtain ⟨t1,h4,h5⟩:=ApL (h:=G s) (round s h1) h2 h3
 refine Xk h4 (Pj (AaB htt hNB h5) ?_)
 rintro e env ⟨t2,h2,rfl,hk⟩
 cases e with
 |normal=>
  obtain ⟨s',k1,k2,k3,k4,k5⟩:=hk
  exact ⟨_,k2,s',t2,k1,rfl,k3,k4,by rw [k5]⟩
 |_=>exact ⟨t2,h2,rfl,hk⟩
theorem Ep (htt:FX P tt)(hNB:N≤BIG){body:Code}(L:List Nat){σ:Type}(F:σ→List (Nat×S))(I:σ→Prop)(μ:σ→Nat)(s0:σ)(h0:I s0)(hF:ent t (F s0))
 (round:∀s,I s→XH L (F s) t fun t1=>Jr P tt N fb body t1 h (YB L F (fun _=>h) I μ t (μ s) K)):MM (VC P N (.loop body) (Af t h) fun e env=>∃t h,env=Af t h∧K e t h):=
 AoV htt hNB L F (fun _=>h) I μ s0 h0 hF rfl round
end
end Go.Vm
end
section
namespace Go.Vm
open Go.RowKit
section
variable {P:Program} {tt:TT} {N:Nat} {fb stop:List Nat} {t:Tr} {h:Hp} {K:Exit→Tr→Hp→Prop}
def Pg:Nat→List D→Tr→(Tr→Prop)→Prop
 |_,[],t,K=>K t
 |k,d::l,t,K=>AQ 20 t k (.c (.d d)) fun t=>Pg (Nat.succ k) l t K
theorem AbJ:∀{l:List D} {k:Nat} {t:Tr} {K:Tr→Prop},Pg k l t K→∃t',(∀u,t'.get u=if u<k then t.get u else match l[u-k]? with|some d=>.c (.d d)|none=>t.get u)∧K t'
 | [],k,t,K,h=>⟨t,by simp,h⟩
 |d::l,k,t,K,h=>by
  obtain ⟨t1,h1,h2⟩:=Bh h
  obtain ⟨t2,h3,h4⟩:=AbJ h2
  refine ⟨t2,fun u=>?_,h4⟩
  rw [h3,h1]
  rcases Nat.lt_trichotomy u k with e|e|e
  ·rw [if_pos (show u<Nat.succ k by omega),if_neg (by omega),if_pos e]
  ·subst e;rw [if_pos (show u<Nat.succ u by omega),if_pos rfl,if_neg (by omega),Nat.sub_self];rfl
  ·rw [if_neg (show ¬u<Nat.succ k by omega),if_neg (show ¬u=k by omega),if_neg (show ¬u<k by omega),show u-k=(u-Nat.succ k)+1 by omega,List.getElem?_cons_succ]
def Kr (tt:TT)(t:Tr):List ResultVar→(List C→Prop)→Prop
 | [],K=>K []
 | .tmp u::l,K=>match Nat.ble 1000000 u,t.get u with
  |false,.c (.d x)=>Kr tt t l fun cs=>K (.d x::cs)
  |false,.c (.own τ e xs)=>Kr tt t l fun cs=>K (.own τ e xs::cs)
  |false,.c .nil=>Kr tt t l fun cs=>K (.nil::cs)
  |_,_=>False
 | .cell u T::l,K=>match Nat.ble 1000000 u,t.get u,tt.get T with
  |false,.box cs,some i=>Gt (shI i) cs 0 fun d=>Kr tt t l fun cs=>K (.d d::cs)
  |_,_,_=>False
theorem Wy (htt:FX P tt):∀{l:List ResultVar} {K:List C→Prop},Kr tt t l K→∃cs,Ko P (Af t h) l=some cs∧K cs
 | [],K,hk=>⟨[],rfl,hk⟩
 | .tmp u::l,K,hk=>by
  simp only [Kr] at hk
  split at hk
  all_goals first|exact hk.elim|skip
  all_goals
   rename_i hb hs
   obtain ⟨cs,h1,h2⟩:=Wy htt hk
   refine ⟨_::cs,?_,h2⟩
   simp only [Ko,Qw,CE (Iw hb),hs,h1]
 | .cell u T::l,K,hk=>by
  simp only [Kr] at hk
  split at hk
  ·rename_i cs i hb hs hi
   obtain ⟨d,h1,h2⟩:=G9 hk
   obtain ⟨cs',h3,h4⟩:=Wy htt h2
   exact ⟨_,by simp only [Ko,Qw,CE (Iw hb),hs,Hy (htt _ _ hi),h1,h3,Option.map_some],h4⟩
  ·exact hk.elim
def Oz (h:Hp):List (Nat×S)→Prop
 | []=>True
 | (n,s)::l=>(NAM≤n∧h n=s)∧Oz h l
theorem Ae0 {post:List (Nat×S)}(h1:Oz h post)(h2:∀p∈post,thing p.2=true):∀p∈post,Af t h p.1=p.2:=by
 induction post with
 |nil=>intro p hp;cases hp
 |cons q l ih=>
  obtain ⟨n,s⟩:=q
  intro p hp
  rcases List.mem_cons.1 hp with rfl|hp
  ·have ht:=h2 (n,s) (List.mem_cons_self ..)
   simp only [Lj h1.1.1,h1.1.2]
   cases s<;>first|rfl|cases ht
  ·exact ih h1.2 (fun q hq=>h2 q (List.mem_cons_of_mem _ hq)) p hp
def Rq (P:Program)(tt:TT)(rs:List ResultVar)(res:List C)(post:List (Nat×S)):Exit→Tr→Hp→Prop
 | .normal,t,h=>Kr tt t rs fun cs=>MM (Bo P cs res∧Oz h post)
 | .ret,t,h=>Kr tt t rs fun cs=>MM (Bo P cs res∧Oz h post)
 |_,_,_=>False
def hOf:List (Nat×S)→Hp
 | []=>fun _=>.junk
 | (n,s)::l=>hset (hOf l) n s
theorem YN:∀(l:List (Nat×S)) (u:Nat),hOf l u=match l.find? fun p=>p.1==u with|some p=>p.2|none=>.junk
 | [],u=>rfl
 | (n,s)::l,u=>by
  simp only [hOf,hset,List.find?_cons]
  by_cases e:u=n
  ·subst e;simp
  ·have:(n==u)=false:=by simpa using fun h=>e h.symm
   simp only [if_neg e,this];exact YN l u
theorem AdR (htt:FX P tt){f:FuncId}{fn:Func}{c:Code}{args:List D}{res:List C}{pre post:List (Nat×S)}{rs:List ResultVar}(fb:List Nat)(hf:P.funcs[f]? = some fn)(hb:fn.body=some c)(hN:fn.ntmps=N)(hrs:fn.results.toList=rs)(hargs:args.length≤N)(hNB:N≤BIG)
 (hbig:∀p∈pre,NAM≤p.1) (hp:∀p∈pre,thing p.2=true) (hq:∀p∈post,thing p.2=true) (hk:Pg 0 args .leaf fun t=>Jr P tt N fb c t (hOf pre) (Rq P tt rs res post)):FO P f args pre res post:=by
 subst hrs
 refine Ahk hf hb hN hargs hp hq ?_
 obtain ⟨t,h1,h2⟩:=AbJ hk
 have e:PD args pre=Af t (hOf pre):=by
  funext u
  unfold PD
  by_cases hu:u<NAM
  ·rw [CE hu,h1]
   simp only [Nat.not_lt_zero,if_false,Nat.sub_zero]
   cases args[u]? with
   |some d=>rfl
   |none=>
    have:(pre.find? fun p=>p.1==u)=none:=by
     rw [List.find?_eq_none]
     intro p hm
     have:=hbig p hm
     simp only [beq_iff_eq];omega
    simp only [this];rfl
  ·have hge:NAM≤u:=by omega
   have hbn:BIG≤NAM:=by decide
   rw [Lj hge,YN,List.getElem?_eq_none (by omega)]
   cases hfd:pre.find? fun p=>p.1==u with
   |none=>rfl
   |some p=>
    have:=hp p (List.mem_of_find?_eq_some hfd)
    simp only
    cases hs:p.2<;>rw [hs] at this<;>first|rfl|cases this
 rw [e]
 refine Pj (AaB htt hNB h2) ?_
 rintro e env ⟨t',h',rfl,hk⟩
 have key:(Kr tt t' fn.results.toList fun cs=>MM (Bo P cs res∧Oz h' post))→(∃cs,Ko P (Af t' h') fn.results.toList=some cs∧Bo P cs res)∧∀p∈post,Af t' h' p.1=p.2:=by
  intro hk
  obtain ⟨cs,h1,⟨h2,h3⟩⟩:=Wy (h:=h') htt hk
  exact ⟨⟨cs,h1,h2⟩,Ae0 h3 hq⟩
 cases e with
 |normal=>exact ⟨.inl rfl,key hk⟩
 |ret=>exact ⟨.inr rfl,key hk⟩
 |_=>exact hk.elim
theorem xfn (htt:FX P tt){f:FuncId}{fn:Func}{c:Code}{args:List D}{res:List C}{rs:List ResultVar}(fb:List Nat)(hf:P.funcs[f]? = some fn)(hb:fn.body=some c)(hN:fn.ntmps=N)(hrs:fn.results.toList=rs)(hargs:args.length≤N)(hNB:N≤BIG)
 (hk:Pg 0 args .leaf fun t=>Jr P tt N fb c t (fun _=>.junk) (Rq P tt rs res [])):AP P f args res:=by
 have hc:=AdR (pre:=[]) (post:=[]) htt fb hf hb hN hrs hargs hNB (by simp) (by simp) (by simp) hk
 intro ro w vs τ h1 h2 h3 h4
 refine (hc ro w vs τ h1 h2 h3 h4 (by simp)).mono ?_
 rintro e w' ⟨v,ro',rfl,hg,hs,_⟩
 exact ⟨v,ro',rfl,hg.plain,hs⟩
end
end Go.Vm
end
section
namespace Go.Vm
open Go.RowKit
section
variable {P:Program} {T:TypeId} {x y:Operand}
theorem DU {k:IntKind}{a b c:Int}{K:Value→Prop}(hK:K (.int k c))(h:k.wrap (a+b)=c:=by first|exact IntWalk.i64_in _ (by first|omega|(simp only [List.length_map,List.length_append,List.length_nil,List.length_cons,List.length_take,List.length_drop];omega))|rfl):∃r,AY P (do eqGuard .add T x y (.int k a) (.int k b);binOp .add T (.int k a) (.int k b):Sem Value)=some r∧BN r=true∧K r:=⟨_,TR h,rfl,hK⟩
theorem CO {n:Nat}{K:Value→Prop}(hK:K (.int .i64 ((n+1:Nat):Int)))(h:n+1≤9223372036854775807:=by first|omega|(simp only [List.length_map,List.length_append,List.length_nil,List.length_cons,List.length_take,List.length_drop];omega)):∃r,AY P (do eqGuard .add T x y (.int .i64 (n:Int)) (.int .i64 1);binOp .add T (.int .i64 (n:Int)) (.int .i64 1):Sem Value)=some r∧BN r=true∧K r:=⟨_,TR (IntWalk.i64_in _ (by omega)),rfl,hK⟩
theorem Vl {op:BinOp}{du dv:D}{u v r:Value}{K:Value→Prop}(hu:Ai du=some u)(hv:Ai dv=some v)(h:∀w,(do eqGuard op T x y u v;binOp op T u v:Sem Value).run P w=.ok r w)(hp:BN r=true)(hK:K r) :
 ∃u v r,(Ai du=some u∧Ai dv=some v)∧(∀w,(do eqGuard op T x y u v;binOp op T u v:Sem Value).run P w=.ok r w)∧BN r=true∧K r:=⟨u,v,r,⟨hu,hv⟩,h,hp,hK⟩
end
theorem Eb {xs:List D}{j:Nat}{y:D}{i:Int}{K:Nat→D→Prop}(hy:xs[j]? = some y)(hK:K j y)(hi:i=(j:Int):=by rfl):∃(j:Nat) (y:D),i=(j:Int)∧xs[j]? = some y∧K j y:=⟨j,y,hi,hy,hK⟩
theorem Ah {xs:List D}{y:D}{i:Int}{K:Nat→D→Prop}(hy:xs[i.toNat]? = some y)(hK:K i.toNat y)(h0:0≤i:=by omega):∃(j:Nat) (y:D),i=(j:Int)∧xs[j]? = some y∧K j y:=⟨i.toNat,y,(Int.toNat_of_nonneg h0).symm,hy,hK⟩
theorem FW {s:ByteArray}{j:Nat}{y:UInt8}{i:Int}{K:Nat→UInt8→Prop}(hy:s[j]? = some y)(hK:K j y)(hi:i=(j:Int):=by rfl):∃(j:Nat) (y:UInt8),i=(j:Int)∧s[j]? = some y∧K j y:=⟨j,y,hi,hy,hK⟩
theorem Fh {s:ByteArray}{y:UInt8}{i:Int}{K:Nat→UInt8→Prop}(hy:s[i.toNat]? = some y)(hK:K i.toNat y)(h0:0≤i:=by omega):∃(j:Nat) (y:UInt8),i=(j:Int)∧s[j]? = some y∧K j y:=⟨i.toNat,y,(Int.toNat_of_nonneg h0).symm,hy,hK⟩
theorem FC {i:Int}{j:Nat}{K:Nat→Prop}(hK:K j)(hi:i=(j:Int):=by rfl):∃j:Nat,i=(j:Int)∧K j:=⟨j,hi,hK⟩
theorem Es {i:Int}{K:Nat→Prop}(hK:K i.toNat)(h0:0≤i:=by omega):∃j:Nat,i=(j:Int)∧K j:=⟨i.toNat,(Int.toNat_of_nonneg h0).symm,hK⟩
theorem Aw {α:Type}{a n:α}{K:α→Prop}(hK:K n)(h:a=n:=by first|exact List.length_map .. | rfl):∃n,a=n∧K n:=⟨n,h,hK⟩
theorem GH {s s':ByteArray}{l hh:Nat}{K:ByteArray→Prop}(hK:K s')(h1:l≤hh:=by first|omega|(simp only [List.length_map,List.length_append,List.length_nil,List.length_cons,List.length_take,List.length_drop];omega))(h2:hh≤s.size:=by first|omega|(simp only [List.length_map,List.length_append,List.length_nil,List.length_cons,List.length_take,List.length_drop];omega))(hy:s.extract l hh=s':=by rfl):l≤hh∧hh≤s.size∧∃s',s.extract l hh=s'∧K s':=⟨h1,h2,s',hy,hK⟩
theorem E8 {a b:ByteArray}{K:Prop}(hK:K)(h:a.size+b.size≤9223372036854775807:=by first|omega|(simp only [List.length_map,List.length_append,List.length_nil,List.length_cons,List.length_take,List.length_drop];omega)):a.size+b.size≤9223372036854775807∧K:=⟨h,hK⟩
theorem Ar {P:Program}{f:FuncId}{ds:List D}{res:List C}{K:List C→Prop}(he:enters P f=true)(hc:AP P f ds res)(hK:K res):∃res,(enters P f=true∧AP P f ds res)∧K res:=⟨res,⟨he,hc⟩,hK⟩
theorem TQ {P:Program}{N d:Nat}{o:Oper}{t:Tr}{h:Hp}{s:S}{K:S→Hp→Prop}(hy:Cf P N o (Af t h) s)(hK:K s h)(hd:o.dst=some d:=by rfl):∃(s:S) (h':Hp),Step P N o (Af t h) (upd (Af t h') (some d) s)∧K s h':=⟨s,h,by have:=hy.step;rwa [hd] at this,hK⟩
theorem CG {h:Hp}{id:Nat}{cs:List D}{K:List D→Prop}(hb:NAM≤id)(hh:h id=.obj cs)(hK:K cs):∃cs,(NAM≤id∧h id=.obj cs)∧K cs:=⟨cs,⟨hb,hh⟩,hK⟩
theorem BV {σ:Type}{L:List Nat}{F:σ→List (Nat×S)}{G:σ→Hp}{I:σ→Prop}{μ:σ→Nat}{t0 t:Tr}{h:Hp}{m:Nat}(s:σ)(hI:I s)(hm:μ s<m)(hL:L.map t.get=L.map t0.get)(hE:ent t (F s))(hG:G s=h):∃s,I s∧μ s<m∧L.map t.get=L.map t0.get∧ent t (F s)∧G s=h:=⟨s,hI,hm,hL,hE,hG⟩
theorem Am {t:Tr}{a:Nat}{s:S}{F:List (Nat×S)}(h:t.get a=s)(h':ent t F):ent t ((a,s)::F):=⟨h,h'⟩
theorem CJ {P:Program}{cs res:List C}{h:Hp}(hf:Bo P cs res):MM (Bo P cs res∧Oz h []):=⟨hf,trivial⟩
class BP (b:Bool) (p q:outParam Prop):Prop where
 yes:b=true→p
 no:b=false→q
instance bp_dec (p:Prop) [d:Decidable p]:BP (@decide p d) p (¬p):=⟨of_decide_eq_true,of_decide_eq_false⟩
instance bp_not (b:Bool) (p q:Prop) [h:BP b p q]:BP (!b) q p:=⟨fun e=>h.no (by cases b<;>simp_all),fun e=>h.yes (by cases b<;>simp_all)⟩
instance (priority:=low) bp_any (b:Bool):BP b (b=true) (b=false):=⟨id,id⟩
theorem br {b:Bool}{p q A B:Prop} [h:BP b p q](hA:p→A)(hB:q→B):(b=true→A)∧(b=false→B):=⟨fun e=>hA (h.yes e),fun e=>hB (h.no e)⟩
theorem brT {A B:Prop}(hA:A):(true=true→A)∧(true=false→B):=⟨fun _=>hA,fun h=>nomatch h⟩
theorem brF {A B:Prop}(hB:B):(false=true→A)∧(false=false→B):=⟨(fun h=>nomatch h),fun _=>hB⟩
end Go.Vm
end
section
namespace Go.Vm
instance lawfulBytes:LawfulBEq ByteArray where
 eq_of_beq:=by intro a b h;rw [beq_toListBytes,Oe] at h;exact of_decide_eq_true h
 rfl:=by intro a;rw [beq_toListBytes,Oe];simp
structure Bv where
 scope:Int
 group:ByteArray
 name:ByteArray
 deriving DecidableEq
structure AB where
 at_:Bv
 kind:Int
 deft:ByteArray
 cases:List ByteArray
 worth:Int
 deriving DecidableEq
structure AL where
 kind:Int
 at_:Bv
 name:ByteArray
 other:ByteArray
 factor:Int
 field:AB
 forth:List (ByteArray×ByteArray)
 back:List (ByteArray×ByteArray)
 deriving DecidableEq
abbrev noB:ByteArray:=⟨#[]⟩
def Ae:Bv:=⟨0,noB,noB⟩
def Vb:AB:=⟨Ae,0,noB,[],0⟩
def Asd:AL:=⟨0,Ae,noB,noB,0,Vb,[],[]⟩
def G6 (p:ByteArray×ByteArray):D:=.agg [.sc (.string p.1),.sc (.string p.2)]
def rD (r:Bv):D:=.agg [.sc (.int .i64 r.scope),.sc (.string r.group),.sc (.string r.name)]
def fD (f:AB):D:=.agg [.sc (.int .i64 f.at_.scope),.sc (.string f.at_.group),.sc (.string f.at_.name),.sc (.int .i64 f.kind),.sc (.string f.deft),.row (f.cases.map strD),.sc (.int .i64 f.worth)]
def lD (x:AL):D:=.agg [.sc (.int .i64 x.kind),.sc (.int .i64 x.at_.scope),.sc (.string x.at_.group),.sc (.string x.at_.name),.sc (.string x.name),.sc (.string x.other),.sc (.int .i64 x.factor),
 .sc (.int .i64 x.field.at_.scope),.sc (.string x.field.at_.group),.sc (.string x.field.at_.name),.sc (.int .i64 x.field.kind),.sc (.string x.field.deft),.row (x.field.cases.map strD),.sc (.int .i64 x.field.worth),.row (x.forth.map G6),.row (x.back.map G6)]
def GV (c:Int)(j:Nat):Bool:=(decide (97≤c)&&decide (c≤122))||(decide (48≤c)&&decide (c≤57) && !decide (j=0))
def Po (s:ByteArray)(k:Nat):Prop:=∀j (b:UInt8),j<k→s[j]? = some b→GV b.toNat j=true
def nameB (s:ByteArray):Bool:=decide (1≤s.size∧s.size≤12)&&(List.range s.size).all fun j=>match s[j]? with
 |some b=>GV b.toNat j
 |none=>true
theorem Aba {s:ByteArray}{k:Nat}(h1:1≤s.size)(h2:s.size≤12)(hk:s.size≤k)(h:Po s k):nameB s=true:=by
 unfold nameB
 rw [decide_eq_true (show 1≤s.size∧s.size≤12 from ⟨h1,h2⟩),Bool.true_and,List.all_eq_true]
 intro j hj
 split
 ·rename_i b hb;exact h j b (by have:=List.mem_range.1 hj;omega) hb
 ·rfl
theorem YR {s:ByteArray}{j:Nat}{b:UInt8}(hj:j<s.size)(hb:s[j]? = some b)(h:GV b.toNat j=false):nameB s=false:=by
 unfold nameB
 rw [Bool.and_eq_false_iff]
 right
 rw [List.all_eq_false]
 exact ⟨j,List.mem_range.2 hj,by rw [hb];simp [h]⟩
theorem Ac7 {s:ByteArray}(h:s.size<1):nameB s=false:=by unfold nameB;rw [decide_eq_false (fun k=>by omega)];rfl
theorem AaC {s:ByteArray}(h:12<s.size):nameB s=false:=by unfold nameB;rw [decide_eq_false (fun k=>by omega)];rfl
theorem AaY (s:ByteArray):Po s 0:=fun j b hj=>by omega
theorem MB {s:ByteArray}{k:Nat}{b:UInt8}(h:Po s k)(hb:s[k]? = some b)(hc:GV b.toNat k=true):Po s (k+1):=by
 intro j b' hj hb'
 by_cases e:j=k
 ·subst e;rw [hb] at hb';injection hb' with e;subst e;exact hc
 ·exact h j b' (by omega) hb'
theorem F5 {s:ByteArray}{k:Nat}{b:UInt8}(h:s[k]? = some b):k<s.size:=by
 rcases Nat.lt_or_ge k s.size with h1|h1
 ·exact h1
 ·simp [show ¬k<s.size by omega] at h
def Bz (r:Bv):Bool:=(decide (r.scope=0)||decide (r.scope=1))&&nameB r.name&&(decide (r.group=noB)||nameB r.group)
def ltB (a b:ByteArray):Bool:=Op.bytesLess a.toList b.toList
def KA (a b:Bv):Bool:=if a.scope≠b.scope then decide (a.scope<b.scope) else if a.group≠b.group then ltB a.group b.group else ltB a.name b.name
def okC (l:List ByteArray)(k:Nat):Bool:=(List.range k).all fun j=>match l[j]? with
 |some c=>nameB c && !decide (c∈l.take j)
 |none=>true
def Api (l:List ByteArray):Bool:=decide (1≤l.length)&&decide (l.length≤6)&&okC l l.length
def Xp (f:AB):Bool:=Bz f.at_ &&
 (if f.kind=1 then decide (f.deft=noB)&&decide (f.cases.length=0)&&decide (1≤f.worth)&&decide (f.worth≤1048576)
   else if f.kind=2 then decide (f.deft.size≤40)&&decide (f.cases.length=0)&&decide (f.worth=0)
   else if f.kind=3 then Api f.cases&&decide (f.deft∈f.cases)&&decide (f.worth=0)
   else if f.kind=4 then decide (f.deft=noB)&&decide (f.cases.length=0)&&decide (f.worth=0)
   else false)
end Go.Vm
end
section
namespace Go.Vm.T
open Go.Proofs.Tryz
open Go.RowKit
theorem k_1:Be prog 1 (.one [.sc .nilFunc]):=⟨by kernel_rfl,by kernel_rfl⟩
theorem k_2:Be prog 2 (.one [.sc (.int .i64 0)]):=⟨by kernel_rfl,by kernel_rfl⟩
theorem k_3:Be prog 3 (.one [.sc (.int .i64 0)]):=⟨by kernel_rfl,by kernel_rfl⟩
theorem k_4:Be prog 4 (.one [.sc (.bool false)]):=⟨by kernel_rfl,by kernel_rfl⟩
theorem k_5:Be prog 5 (.one [.sc (.int .u8 0)]):=⟨by kernel_rfl,by kernel_rfl⟩
theorem k_6:Be prog 6 (.one [.sc (.int .u8 0)]):=⟨by kernel_rfl,by kernel_rfl⟩
abbrev i_7:TyI:=.agg [(0,1),(1,1),(2,1),(3,1)] [.sc (.int .i64 0),.sc (.int .i64 0),.sc (.bool false),.sc (.int .u8 0)]
theorem k_7:Be prog 7 (i_7):=⟨by kernel_rfl,by kernel_rfl,by kernel_rfl⟩
abbrev i_8:TyI:=.agg [(0,1),(1,1),(2,1),(3,1)] [.sc (.int .i64 0),.sc (.int .i64 0),.sc (.bool false),.sc (.int .u8 0)]
theorem k_8:Be prog 8 (i_8):=⟨by kernel_rfl,by kernel_rfl,by kernel_rfl⟩
theorem k_9:Be prog 9 (.str):=⟨by kernel_rfl,by kernel_rfl,by kernel_rfl⟩
theorem Aof:Be prog 10 (.str):=⟨by kernel_rfl,by kernel_rfl,by kernel_rfl⟩
theorem AnF:Be prog 11 (.str):=⟨by kernel_rfl,by kernel_rfl,by kernel_rfl⟩
theorem Aqa:Be prog 12 (.one [.sc (.int .u64 0)]):=⟨by kernel_rfl,by kernel_rfl⟩
abbrev Abj:TyI:=.agg [(0,1),(1,1)] [.sc (.string ⟨#[]⟩),.sc (.int .u64 0)]
theorem AfV:Be prog 13 (Abj):=⟨by kernel_rfl,by kernel_rfl,by kernel_rfl⟩
abbrev YH:TyI:=.agg [(0,1),(1,1)] [.sc (.string ⟨#[]⟩),.sc (.int .u64 0)]
theorem Agz:Be prog 14 (YH):=⟨by kernel_rfl,by kernel_rfl,by kernel_rfl⟩
theorem Aj7:Be prog 15 (.one [.sc (.pointer none)]):=⟨by kernel_rfl,by kernel_rfl⟩
theorem Afd:Be prog 16 (.one [.sc (.pointer none)]):=⟨by kernel_rfl,by kernel_rfl⟩
theorem Au2:Be prog 17 (.one [.sc (.pointer none)]):=⟨by kernel_rfl,by kernel_rfl⟩
theorem Agj:Be prog 21 (.one [.sc (.int .i32 0)]):=⟨by kernel_rfl,by kernel_rfl⟩
abbrev Abm:TyI:=.agg [(0,1),(1,1)] [.sc (.int .i64 0),.sc (.int .i64 0)]
theorem AjJ:Be prog 23 (Abm):=⟨by kernel_rfl,by kernel_rfl,by kernel_rfl⟩
theorem Ale:Be prog 25 (.one [.sc (.int .i64 0)]):=⟨by kernel_rfl,by kernel_rfl⟩
theorem Ahj:Be prog 34 (.slice 9 1 16):=⟨by kernel_rfl,by kernel_rfl,by kernel_rfl,by kernel_rfl⟩
abbrev Adw:TyI:=.agg [(0,1),(1,1),(2,1)] [.sc (.int .i64 0),.sc (.string ⟨#[]⟩),.sc (.string ⟨#[]⟩)]
theorem AvU:Be prog 38 (Adw):=⟨by kernel_rfl,by kernel_rfl,by kernel_rfl⟩
abbrev AaG:TyI:=.agg [(0,3),(3,1),(4,1),(5,1),(6,1)] [.sc (.int .i64 0),.sc (.string ⟨#[]⟩),.sc (.string ⟨#[]⟩),.sc (.int .i64 0),.sc (.string ⟨#[]⟩),.row [],.sc (.int .i64 0)]
theorem Anw:Be prog 40 (AaG):=⟨by kernel_rfl,by kernel_rfl,by kernel_rfl⟩
theorem AfO:Be prog 41 (.slice 172 2 32):=⟨by kernel_rfl,by kernel_rfl,by kernel_rfl,by kernel_rfl⟩
abbrev Zp:TyI:=.agg [(0,1),(1,3),(4,1),(5,1),(6,1),(7,7),(14,1),(15,1)] [.sc (.int .i64 0),.sc (.int .i64 0),.sc (.string ⟨#[]⟩),.sc (.string ⟨#[]⟩),.sc (.string ⟨#[]⟩),.sc (.string ⟨#[]⟩),.sc (.int .i64 0),.sc (.int .i64 0),.sc (.string ⟨#[]⟩),.sc (.string ⟨#[]⟩),.sc (.int .i64 0),.sc (.string ⟨#[]⟩),.row [],.sc (.int .i64 0),.row [],.row []]
theorem AhN:Be prog 43 (Zp):=⟨by kernel_rfl,by kernel_rfl,by kernel_rfl⟩
abbrev Abb:TyI:=.agg [(0,1),(1,1),(2,1),(3,3),(6,1),(7,1),(8,2),(10,16)] [.sc (.int .i64 0),.sc (.string ⟨#[]⟩),.sc (.string ⟨#[]⟩),.sc (.int .i64 0),.sc (.string ⟨#[]⟩),.sc (.string ⟨#[]⟩),.sc (.int .i64 0),.sc (.string ⟨#[]⟩),.sc (.int .i64 0),.sc (.int .i64 0),.sc (.int .i64 0),.sc (.int .i64 0),.sc (.string ⟨#[]⟩),.sc (.string ⟨#[]⟩),.sc (.string ⟨#[]⟩),.sc (.string ⟨#[]⟩),.sc (.int .i64 0),.sc (.int .i64 0),.sc (.string ⟨#[]⟩),.sc (.string ⟨#[]⟩),.sc (.int .i64 0),.sc (.string ⟨#[]⟩),.row [],.sc (.int .i64 0),.row [],.row []]
theorem AmT:Be prog 45 (Abb):=⟨by kernel_rfl,by kernel_rfl,by kernel_rfl⟩
abbrev Y1:TyI:=.agg [(0,1),(1,1),(2,1),(3,1),(4,1),(5,1),(6,1),(7,26)] [.sc (.int .i64 0),.sc (.int .i64 0),.sc (.int .i64 0),.sc (.int .i64 0),.sc (.int .i64 0),.sc (.int .i64 0),.sc (.int .i64 0),.sc (.int .i64 0),.sc (.string ⟨#[]⟩),.sc (.string ⟨#[]⟩),.sc (.int .i64 0),.sc (.string ⟨#[]⟩),.sc (.string ⟨#[]⟩),.sc (.int .i64 0),.sc (.string ⟨#[]⟩),.sc (.int .i64 0),.sc (.int .i64 0),.sc (.int .i64 0),.sc (.int .i64 0),.sc (.string ⟨#[]⟩),.sc (.string ⟨#[]⟩),.sc (.string ⟨#[]⟩),.sc (.string ⟨#[]⟩),.sc (.int .i64 0),.sc (.int .i64 0),.sc (.string ⟨#[]⟩),.sc (.string ⟨#[]⟩),.sc (.int .i64 0),.sc (.string ⟨#[]⟩),.row [],.sc (.int .i64 0),.row [],.row []]
theorem AkH:Be prog 47 (Y1):=⟨by kernel_rfl,by kernel_rfl,by kernel_rfl⟩
theorem Ang:Be prog 80 (.slice 91 2 32):=⟨by kernel_rfl,by kernel_rfl,by kernel_rfl,by kernel_rfl⟩
theorem AkI:Be prog 83 (.slice 2 1 8):=⟨by kernel_rfl,by kernel_rfl,by kernel_rfl,by kernel_rfl⟩
theorem An3:Be prog 84 (.slice 23 2 16):=⟨by kernel_rfl,by kernel_rfl,by kernel_rfl,by kernel_rfl⟩
theorem Asp:Be prog 85 (.slice 38 3 40):=⟨by kernel_rfl,by kernel_rfl,by kernel_rfl,by kernel_rfl⟩
abbrev AbW:TyI:=.agg [(0,1),(1,1),(2,1),(3,1),(4,1)] [.row [],.row [],.row [],.row [],.row []]
theorem AlB:Be prog 87 (AbW):=⟨by kernel_rfl,by kernel_rfl,by kernel_rfl⟩
abbrev Ad5:TyI:=.agg [(0,1),(1,1)] [.sc (.string ⟨#[]⟩),.sc (.string ⟨#[]⟩)]
theorem Ajo:Be prog 91 (Ad5):=⟨by kernel_rfl,by kernel_rfl,by kernel_rfl⟩
theorem Ajs:Be prog 92 (.one [.sc (.pointer none)]):=⟨by kernel_rfl,by kernel_rfl⟩
abbrev Zz:TyI:=.agg [(0,1),(1,1)] [.row [],.sc (.bool false)]
theorem Ahv:Be prog 94 (Zz):=⟨by kernel_rfl,by kernel_rfl,by kernel_rfl⟩
theorem Ara:Be prog 95 (.one [.sc .nilFunc]):=⟨by kernel_rfl,by kernel_rfl⟩
abbrev Aeo:TyI:=.arr 13 9 1 [.sc (.string ⟨#[]⟩),.sc (.string ⟨#[]⟩),.sc (.string ⟨#[]⟩),.sc (.string ⟨#[]⟩),.sc (.string ⟨#[]⟩),.sc (.string ⟨#[]⟩),.sc (.string ⟨#[]⟩),.sc (.string ⟨#[]⟩),.sc (.string ⟨#[]⟩),.sc (.string ⟨#[]⟩),.sc (.string ⟨#[]⟩),.sc (.string ⟨#[]⟩),.sc (.string ⟨#[]⟩)]
theorem Anm:Be prog 97 (Aeo):=⟨by kernel_rfl,by kernel_rfl,by kernel_rfl⟩
abbrev Ael:TyI:=.arr 20 5 1 [.sc (.int .u8 0),.sc (.int .u8 0),.sc (.int .u8 0),.sc (.int .u8 0),.sc (.int .u8 0),.sc (.int .u8 0),.sc (.int .u8 0),.sc (.int .u8 0),.sc (.int .u8 0),.sc (.int .u8 0),.sc (.int .u8 0),.sc (.int .u8 0),.sc (.int .u8 0),.sc (.int .u8 0),.sc (.int .u8 0),.sc (.int .u8 0),.sc (.int .u8 0),.sc (.int .u8 0),.sc (.int .u8 0),.sc (.int .u8 0)]
theorem Aq0:Be prog 107 (Ael):=⟨by kernel_rfl,by kernel_rfl,by kernel_rfl⟩
theorem AfD:Be prog 108 (.one [.sc (.int .u64 0)]):=⟨by kernel_rfl,by kernel_rfl⟩
theorem AvV:Be prog 109 (.slice 5 1 1):=⟨by kernel_rfl,by kernel_rfl,by kernel_rfl,by kernel_rfl⟩
theorem Aes:Be prog 127 (.one [.sc (.pointer none)]):=⟨by kernel_rfl,by kernel_rfl⟩
theorem Avo:Be prog 132 (.one [.sc (.int .u32 0)]):=⟨by kernel_rfl,by kernel_rfl⟩
theorem AlT:Be prog 134 (.arrB 256 132 1):=⟨by kernel_rfl,by kernel_rfl⟩
theorem Ats:Be prog 162 (.one [.sc (.pointer none)]):=⟨by kernel_rfl,by kernel_rfl⟩
abbrev Adv:TyI:=.agg [(0,1),(1,1)] [.sc (.pointer none),.row []]
theorem Awd:Be prog 164 (Adv):=⟨by kernel_rfl,by kernel_rfl,by kernel_rfl⟩
abbrev AcW:TyI:=.agg [(0,1),(1,1)] [.sc (.string ⟨#[]⟩),.sc (.string ⟨#[]⟩)]
theorem Ar2:Be prog 172 (AcW):=⟨by kernel_rfl,by kernel_rfl,by kernel_rfl⟩
theorem ArX:Be prog 185 (.one [.sc (.pointer none)]):=⟨by kernel_rfl,by kernel_rfl⟩
theorem AgG:Be prog 225 (.one [.sc (.complex .f64 0 0)]):=⟨by kernel_rfl,by kernel_rfl⟩
abbrev AaJ:TyI:=.arr 4 109 1 [.row [],.row [],.row [],.row []]
theorem Ao1:Be prog 231 (AaJ):=⟨by kernel_rfl,by kernel_rfl,by kernel_rfl⟩
theorem Ao9:Be prog 232 (.slice 387 4 48):=⟨by kernel_rfl,by kernel_rfl,by kernel_rfl,by kernel_rfl⟩
abbrev Aa0:TyI:=.agg [(0,1),(1,4),(5,4),(9,1),(10,1),(11,1),(12,1),(13,1),(14,1)] [.sc (.int .i64 0),.row [],.row [],.row [],.row [],.row [],.row [],.row [],.row [],.row [],.sc (.int .i64 0),.sc (.int .i64 0),.sc (.bool false),.sc (.int .i64 0),.sc (.bool false)]
theorem AgR:Be prog 234 (Aa0):=⟨by kernel_rfl,by kernel_rfl,by kernel_rfl⟩
theorem Ai1:Be prog 247 (.one [.sc (.pointer none)]):=⟨by kernel_rfl,by kernel_rfl⟩
theorem AsF:Be prog 252 (.one [.sc (.int .u64 0)]):=⟨by kernel_rfl,by kernel_rfl⟩
theorem Ak9:Be prog 307 (.one [.sc (.pointer none)]):=⟨by kernel_rfl,by kernel_rfl⟩
theorem Ahu:Be prog 308 (.one [.sc (.pointer none)]):=⟨by kernel_rfl,by kernel_rfl⟩
theorem Avn:Be prog 384 (.one [.sc (.float .f64 0)]):=⟨by kernel_rfl,by kernel_rfl⟩
abbrev Aeg:TyI:=.agg [(0,1),(1,1),(2,1),(3,1)] [.sc (.int .i64 0),.sc (.bool false),.sc (.int .i64 0),.row []]
theorem AoS:Be prog 387 (Aeg):=⟨by kernel_rfl,by kernel_rfl,by kernel_rfl⟩
abbrev AbQ:TyI:=.arr 2 384 1 [.sc (.float .f64 0),.sc (.float .f64 0)]
theorem AsW:Be prog 463 (AbQ):=⟨by kernel_rfl,by kernel_rfl,by kernel_rfl⟩
theorem AsC:Be prog 514 (.arrB 256 5 1):=⟨by kernel_rfl,by kernel_rfl⟩
abbrev YY:TyI:=.agg [(0,1),(1,1)] [.sc (.int .u8 0),.sc (.int .u8 0)]
theorem Arr:Be prog 516 (YY):=⟨by kernel_rfl,by kernel_rfl,by kernel_rfl⟩
abbrev YL:TyI:=.arr 16 516 2 [.sc (.int .u8 0),.sc (.int .u8 0),.sc (.int .u8 0),.sc (.int .u8 0),.sc (.int .u8 0),.sc (.int .u8 0),.sc (.int .u8 0),.sc (.int .u8 0),.sc (.int .u8 0),.sc (.int .u8 0),.sc (.int .u8 0),.sc (.int .u8 0),.sc (.int .u8 0),.sc (.int .u8 0),.sc (.int .u8 0),.sc (.int .u8 0),.sc (.int .u8 0),.sc (.int .u8 0),.sc (.int .u8 0),.sc (.int .u8 0),.sc (.int .u8 0),.sc (.int .u8 0),.sc (.int .u8 0),.sc (.int .u8 0),.sc (.int .u8 0),.sc (.int .u8 0),.sc (.int .u8 0),.sc (.int .u8 0),.sc (.int .u8 0),.sc (.int .u8 0),.sc (.int .u8 0),.sc (.int .u8 0)]
theorem As3:Be prog 517 (YL):=⟨by kernel_rfl,by kernel_rfl,by kernel_rfl⟩
abbrev Ab3:TyI:=.agg [(0,1),(1,1),(2,1),(3,1)] [.sc (.pointer none),.sc (.pointer none),.sc (.pointer none),.sc (.string ⟨#[]⟩)]
theorem Arm:Be prog 522 (Ab3):=⟨by kernel_rfl,by kernel_rfl,by kernel_rfl⟩
theorem Ajq:Be prog 523 (.arr 0 16 1 []):=⟨by kernel_rfl,by kernel_rfl,by kernel_rfl⟩
theorem AnV:Be prog 525 (.agg [(0,0)] []):=⟨by kernel_rfl,by kernel_rfl,by kernel_rfl⟩
theorem Avz:Be prog 526 (.one [.sc (.int .u8 0)]):=⟨by kernel_rfl,by kernel_rfl⟩
theorem Aur:Be prog 527 (.one [.sc (.int .u8 0)]):=⟨by kernel_rfl,by kernel_rfl⟩
theorem AnD:Be prog 528 (.one [.sc .nilFunc]):=⟨by kernel_rfl,by kernel_rfl⟩
theorem Aih:Be prog 529 (.one [.sc (.int .i32 0)]):=⟨by kernel_rfl,by kernel_rfl⟩
theorem AgJ:Be prog 530 (.one [.sc (.int .i32 0)]):=⟨by kernel_rfl,by kernel_rfl⟩
abbrev Ac5:TyI:=.agg [(0,1),(1,1),(2,1),(3,1),(4,1),(5,1),(6,1),(7,1),(8,1),(9,1),(10,1)] [.sc (.int .u64 0),.sc (.int .u64 0),.sc (.int .u32 0),.sc (.int .u8 0),.sc (.int .u8 0),.sc (.int .u8 0),.sc (.int .u8 0),.sc .nilFunc,.sc (.pointer none),.sc (.int .i32 0),.sc (.int .i32 0)]
theorem Ao0:Be prog 532 (Ac5):=⟨by kernel_rfl,by kernel_rfl,by kernel_rfl⟩
theorem sm {p:TyI→Prop}{a:TyI}(h:p a):∀i,some a=some i→p i:=fun i e=>by injection e with e;subst e;exact h
theorem nn {p:TyI→Prop}:∀i,(none:Option TyI)=some i→p i:=fun i e=>by cases e
def tt:TT:=.node (none) (.node (some (.one [.sc .nilFunc])) (.node (some (.one [.sc (.int .i64 0)])) (.node (some (i_7)) (.node (some (.one [.sc (.pointer none)])) (.node (none) (.node (none) (.node (some (.one [.sc (.pointer none)])) (.leaf) (.leaf)) (.leaf)) (.node (some (.one [.sc .nilFunc])) (.leaf) (.leaf))) (.node (some (Y1)) (.node (none) (.node (none) (.node (none) (.node (some (.one [.sc (.int .u8 0)])) (.leaf) (.leaf)) (.leaf)) (.leaf)) (.node (none) (.leaf) (.node (some (AbQ)) (.leaf) (.leaf)))) (.leaf))) (.node (some (Abm)) (.node (none) (.leaf) (.node (none) (.leaf) (.node (some (AaJ)) (.leaf) (.leaf)))) (.node (none) (.node (some (AbW)) (.leaf) (.leaf)) (.node (none) (.leaf) (.node (some (.one [.sc (.pointer none)])) (.leaf) (.leaf)))))) (.node (some (.str)) (.node (none) (.node (none) (.node (none) (.node (none) (.leaf) (.node (some (Aeg)) (.leaf) (.leaf))) (.leaf)) (.leaf)) (.node (none) (.node (some (.slice 2 1 8)) (.leaf) (.leaf)) (.node (none) (.node (none) (.node (some (.one [.sc (.pointer none)])) (.leaf) (.leaf)) (.leaf)) (.leaf)))) (.node (none) (.node (some (Zp)) (.node (none) (.node (none) (.node (none) (.node (some (.arr 0 16 1 [])) (.leaf) (.leaf)) (.leaf)) (.leaf)) (.leaf)) (.node (some (Ael)) (.leaf) (.leaf))) (.node (none) (.node (some (Ad5)) (.leaf) (.leaf)) (.leaf))))) (.node (some (.one [.sc (.int .u8 0)])) (.node (some (.str)) (.node (some (.one [.sc (.pointer none)])) (.node (none) (.leaf) (.node (some (Aeo)) (.leaf) (.node (some (.one [.sc (.complex .f64 0 0)])) (.leaf) (.leaf)))) (.node (none) (.node (none) (.node (none) (.node (none) (.node (some (.one [.sc (.int .i32 0)])) (.leaf) (.leaf)) (.leaf)) (.leaf)) (.leaf)) (.leaf))) (.node (some (.one [.sc (.int .i64 0)])) (.node (some (.slice 172 2 32)) (.leaf) (.leaf)) (.node (none) (.leaf) (.node (none) (.node (some (.one [.sc (.pointer none)])) (.leaf) (.leaf)) (.leaf))))) (.node (some (Abj)) (.node (some (.one [.sc (.int .i32 0)])) (.node (none) (.node (none) (.node (none) (.node (none) (.node (some (YL)) (.leaf) (.leaf)) (.leaf)) (.leaf)) (.leaf)) (.leaf)) (.node (none) (.node (some (.slice 38 3 40)) (.leaf) (.leaf)) (.leaf))) (.node (none) (.node (some (Abb)) (.node (none) (.node (none) (.node (none) (.node (some (.agg [(0,0)] [])) (.leaf) (.leaf)) (.leaf)) (.leaf)) (.leaf)) (.node (some (.slice 5 1 1)) (.leaf) (.leaf))) (.leaf))))) (.node (some (.one [.sc (.int .i64 0)])) (.node (some (.one [.sc (.bool false)])) (.node (some (i_8)) (.node (some (.one [.sc (.pointer none)])) (.node (none) (.node (none) (.node (none) (.leaf) (.node (some (.one [.sc (.float .f64 0)])) (.leaf) (.leaf))) (.leaf)) (.leaf)) (.node (none) (.node (some (.slice 91 2 32)) (.node (none) (.node (none) (.node (some (.one [.sc .nilFunc])) (.leaf) (.leaf)) (.leaf)) (.leaf)) (.leaf)) (.leaf))) (.node (none) (.node (some (AaG)) (.leaf) (.node (none) (.leaf) (.node (some (.slice 387 4 48)) (.leaf) (.leaf)))) (.leaf))) (.node (some (.one [.sc (.int .u64 0)])) (.node (none) (.node (none) (.node (none) (.node (some (.one [.sc (.int .u32 0)])) (.node (none) (.node (some (YY)) (.leaf) (.leaf)) (.leaf)) (.leaf)) (.leaf)) (.node (none) (.node (some (Adv)) (.leaf) (.leaf)) (.leaf))) (.node (none) (.node (some (.slice 23 2 16)) (.node (none) (.node (none) (.node (some (Ac5)) (.leaf) (.leaf)) (.leaf)) (.leaf)) (.leaf)) (.node (none) (.node (none) (.node (some (.one [.sc (.pointer none)])) (.leaf) (.leaf)) (.leaf)) (.leaf)))) (.node (none) (.node (none) (.leaf) (.node (some (.one [.sc (.int .u64 0)])) (.node (some (AcW)) (.leaf) (.leaf)) (.leaf))) (.node (none) (.node (some (.one [.sc (.pointer none)])) (.leaf) (.leaf)) (.node (none) (.leaf) (.node (some (.one [.sc (.int .u64 0)])) (.leaf) (.leaf))))))) (.node (some (.one [.sc (.int .u8 0)])) (.node (some (.str)) (.node (none) (.node (some (.slice 9 1 16)) (.node (none) (.node (none) (.node (none) (.node (some (.arrB 256 5 1)) (.leaf) (.leaf)) (.leaf)) (.leaf)) (.leaf)) (.node (none) (.node (some (.one [.sc (.pointer none)])) (.leaf) (.leaf)) (.leaf))) (.node (none) (.node (none) (.node (none) (.node (none) (.node (some (.one [.sc (.int .i32 0)])) (.leaf) (.leaf)) (.leaf)) (.leaf)) (.leaf)) (.leaf))) (.node (none) (.node (none) (.node (none) (.node (none) (.node (none) (.node (some (Ab3)) (.leaf) (.leaf)) (.leaf)) (.leaf)) (.leaf)) (.node (none) (.leaf) (.node (some (Aa0)) (.leaf) (.leaf)))) (.leaf))) (.node (some (YH)) (.node (none) (.node (some (Adw)) (.node (none) (.node (some (.arrB 256 132 1)) (.leaf) (.leaf)) (.leaf)) (.leaf)) (.leaf)) (.node (none) (.node (none) (.node (none) (.node (none) (.node (none) (.node (some (.one [.sc (.int .u8 0)])) (.leaf) (.leaf)) (.leaf)) (.leaf)) (.leaf)) (.leaf)) (.node (none) (.node (some (Zz)) (.leaf) (.leaf)) (.leaf))))))
theorem all:tt.all (Be prog):=(TT.mk nn (TT.mk (sm k_1) (TT.mk (sm k_3) (TT.mk (sm k_7) (TT.mk (sm Aj7) (TT.mk nn (TT.mk nn (TT.mk (sm Aes) trivial trivial) trivial) (TT.mk (sm Ara) trivial trivial)) (TT.mk (sm AkH) (TT.mk nn (TT.mk nn (TT.mk nn (TT.mk (sm Aur) trivial trivial) trivial) trivial) (TT.mk nn trivial (TT.mk (sm AsW) trivial trivial))) trivial)) (TT.mk (sm AjJ) (TT.mk nn trivial (TT.mk nn trivial (TT.mk (sm Ao1) trivial trivial))) (TT.mk nn (TT.mk (sm AlB) trivial trivial) (TT.mk nn trivial (TT.mk (sm Ai1) trivial trivial))))) (TT.mk (sm AnF) (TT.mk nn (TT.mk nn (TT.mk nn (TT.mk nn trivial (TT.mk (sm AoS) trivial trivial)) trivial) trivial) (TT.mk nn (TT.mk (sm AkI) trivial trivial) (TT.mk nn (TT.mk nn (TT.mk (sm Ak9) trivial trivial) trivial) trivial))) (TT.mk nn (TT.mk (sm AhN) (TT.mk nn (TT.mk nn (TT.mk nn (TT.mk (sm Ajq) trivial trivial) trivial) trivial) trivial) (TT.mk (sm Aq0) trivial trivial)) (TT.mk nn (TT.mk (sm Ajo) trivial trivial) trivial)))) (TT.mk (sm k_5) (TT.mk (sm k_9) (TT.mk (sm Au2) (TT.mk nn trivial (TT.mk (sm Anm) trivial (TT.mk (sm AgG) trivial trivial))) (TT.mk nn (TT.mk nn (TT.mk nn (TT.mk nn (TT.mk (sm Aih) trivial trivial) trivial) trivial) trivial) trivial)) (TT.mk (sm Ale) (TT.mk (sm AfO) trivial trivial) (TT.mk nn trivial (TT.mk nn (TT.mk (sm ArX) trivial trivial) trivial)))) (TT.mk (sm AfV) (TT.mk (sm Agj) (TT.mk nn (TT.mk nn (TT.mk nn (TT.mk nn (TT.mk (sm As3) trivial trivial) trivial) trivial) trivial) trivial) (TT.mk nn (TT.mk (sm Asp) trivial trivial) trivial)) (TT.mk nn (TT.mk (sm AmT) (TT.mk nn (TT.mk nn (TT.mk nn (TT.mk (sm AnV) trivial trivial) trivial) trivial) trivial) (TT.mk (sm AvV) trivial trivial)) trivial)))) (TT.mk (sm k_2) (TT.mk (sm k_4) (TT.mk (sm k_8) (TT.mk (sm Afd) (TT.mk nn (TT.mk nn (TT.mk nn trivial (TT.mk (sm Avn) trivial trivial)) trivial) trivial) (TT.mk nn (TT.mk (sm Ang) (TT.mk nn (TT.mk nn (TT.mk (sm AnD) trivial trivial) trivial) trivial) trivial) trivial)) (TT.mk nn (TT.mk (sm Anw) trivial (TT.mk nn trivial (TT.mk (sm Ao9) trivial trivial))) trivial)) (TT.mk (sm Aqa) (TT.mk nn (TT.mk nn (TT.mk nn (TT.mk (sm Avo) (TT.mk nn (TT.mk (sm Arr) trivial trivial) trivial) trivial) trivial) (TT.mk nn (TT.mk (sm Awd) trivial trivial) trivial)) (TT.mk nn (TT.mk (sm An3) (TT.mk nn (TT.mk nn (TT.mk (sm Ao0) trivial trivial) trivial) trivial) trivial) (TT.mk nn (TT.mk nn (TT.mk (sm Ahu) trivial trivial) trivial) trivial))) (TT.mk nn (TT.mk nn trivial (TT.mk (sm AfD) (TT.mk (sm Ar2) trivial trivial) trivial)) (TT.mk nn (TT.mk (sm Ajs) trivial trivial) (TT.mk nn trivial (TT.mk (sm AsF) trivial trivial)))))) (TT.mk (sm k_6) (TT.mk (sm Aof) (TT.mk nn (TT.mk (sm Ahj) (TT.mk nn (TT.mk nn (TT.mk nn (TT.mk (sm AsC) trivial trivial) trivial) trivial) trivial) (TT.mk nn (TT.mk (sm Ats) trivial trivial) trivial)) (TT.mk nn (TT.mk nn (TT.mk nn (TT.mk nn (TT.mk (sm AgJ) trivial trivial) trivial) trivial) trivial) trivial)) (TT.mk nn (TT.mk nn (TT.mk nn (TT.mk nn (TT.mk nn (TT.mk (sm Arm) trivial trivial) trivial) trivial) trivial) (TT.mk nn trivial (TT.mk (sm AgR) trivial trivial))) trivial)) (TT.mk (sm Agz) (TT.mk nn (TT.mk (sm AvU) (TT.mk nn (TT.mk (sm AlT) trivial trivial) trivial) trivial) trivial) (TT.mk nn (TT.mk nn (TT.mk nn (TT.mk nn (TT.mk nn (TT.mk (sm Avz) trivial trivial) trivial) trivial) trivial) trivial) (TT.mk nn (TT.mk (sm Ahv) trivial trivial) trivial))))))
theorem ok:FX prog tt:=fun t i h=>TT.UX all t i h
theorem AkD:enters prog 7=true:=by kernel_rfl
theorem Aq4:enters prog 8=true:=by kernel_rfl
theorem RY:enters prog 9=true:=by kernel_rfl
theorem AmP:enters prog 10=true:=by kernel_rfl
theorem Anv:enters prog 12=true:=by kernel_rfl
theorem AjW:enters prog 15=true:=by kernel_rfl
theorem YI:enters prog 17=true:=by kernel_rfl
theorem ZT:enters prog 18=true:=by kernel_rfl
theorem Ae4:enters prog 19=true:=by kernel_rfl
theorem Aje:enters prog 20=true:=by kernel_rfl
theorem AkF:enters prog 21=true:=by kernel_rfl
theorem Aoo:enters prog 22=true:=by kernel_rfl
theorem Vx:enters prog 23=true:=by kernel_rfl
theorem Gx:enters prog 24=true:=by kernel_rfl
theorem RU:enters prog 25=true:=by kernel_rfl
theorem Agq:enters prog 28=true:=by kernel_rfl
theorem AqH:enters prog 33=true:=by kernel_rfl
theorem Yl:enters prog 34=true:=by kernel_rfl
theorem XR:enters prog 35=true:=by kernel_rfl
theorem Aqs:enters prog 36=true:=by kernel_rfl
theorem Ad4:enters prog 37=true:=by kernel_rfl
theorem SE:enters prog 38=true:=by kernel_rfl
theorem LG:enters prog 39=true:=by kernel_rfl
theorem Uo:enters prog 40=true:=by kernel_rfl
theorem Iy:enters prog 41=true:=by kernel_rfl
theorem AmA:enters prog 42=true:=by kernel_rfl
theorem Ob:enters prog 43=true:=by kernel_rfl
theorem Aqz:enters prog 44=true:=by kernel_rfl
theorem AhP:enters prog 45=true:=by kernel_rfl
theorem Awe:enters prog 46=true:=by kernel_rfl
theorem ArJ:enters prog 47=true:=by kernel_rfl
theorem ArZ:enters prog 48=true:=by kernel_rfl
theorem AbT:enters prog 49=true:=by kernel_rfl
theorem Amn:enters prog 50=true:=by kernel_rfl
theorem Avw:enters prog 53=true:=by kernel_rfl
theorem AhV:enters prog 77=true:=by kernel_rfl
theorem Ah7:enters prog 78=true:=by kernel_rfl
theorem ArN:enters prog 79=true:=by kernel_rfl
theorem Uw:enters prog 80=true:=by kernel_rfl
theorem Ul:enters prog 81=true:=by kernel_rfl
theorem AeR:enters prog 82=true:=by kernel_rfl
theorem Qb:enters prog 83=true:=by kernel_rfl
theorem PK:enters prog 84=true:=by kernel_rfl
theorem KJ:enters prog 85=true:=by kernel_rfl
theorem PT:enters prog 86=true:=by kernel_rfl
theorem AuS:enters prog 87=true:=by kernel_rfl
theorem Aen:enters prog 88=true:=by kernel_rfl
theorem AiJ:enters prog 92=true:=by kernel_rfl
theorem Ux:enters prog 93=true:=by kernel_rfl
theorem AnH:enters prog 94=true:=by kernel_rfl
theorem ZL:enters prog 95=true:=by kernel_rfl
theorem Ate:enters prog 96=true:=by kernel_rfl
theorem IM:enters prog 134=true:=by kernel_rfl
theorem Als:enters prog 135=true:=by kernel_rfl
theorem Ab2:enters prog 137=true:=by kernel_rfl
theorem Qu:enters prog 138=true:=by kernel_rfl
theorem TZ:enters prog 139=true:=by kernel_rfl
theorem Pq:enters prog 140=true:=by kernel_rfl
theorem Akm:enters prog 141=true:=by kernel_rfl
theorem Aua:enters prog 142=true:=by kernel_rfl
theorem Ap0:enters prog 143=true:=by kernel_rfl
theorem Ya:enters prog 146=true:=by kernel_rfl
theorem PM:enters prog 147=true:=by kernel_rfl
theorem QB:enters prog 148=true:=by kernel_rfl
theorem AhX:enters prog 149=true:=by kernel_rfl
theorem NS:enters prog 219=true:=by kernel_rfl
theorem Akb:enters prog 222=true:=by kernel_rfl
theorem mixed:prog.follows .mixedOrders=true:=by kernel_rfl
theorem fn {N:Nat}{f:FuncId}{fn:Func}{c:Code}{args:List D}{res:List C}{rs:List ResultVar}(fb:List Nat)(hf:prog.funcs[f]? = some fn)(hk:Pg 0 args .leaf fun t=>Jr prog tt N fb c t (fun _=>.junk) (Rq prog tt rs res []))
 (hb:fn.body=some c:=by rfl) (hN:fn.ntmps=N:=by rfl) (hrs:fn.results.toList=rs:=by rfl) (hargs:args.length≤N:=by exact Nat.le_of_ble_eq_true rfl) (hNB:N≤BIG:=by exact Nat.le_of_ble_eq_true rfl):AP prog f args res:=xfn ok fb hf hb hN hrs hargs hNB hk
theorem fnH {N:Nat}{f:FuncId}{fn:Func}{c:Code}{args:List D}{res:List C}{pre post:List (Nat×S)}{rs:List ResultVar}(fb:List Nat)(hf:prog.funcs[f]? = some fn)(hk:Pg 0 args .leaf fun t=>Jr prog tt N fb c t (hOf pre) (Rq prog tt rs res post))
 (hbig:∀p∈pre,NAM≤p.1) (hp:∀p∈pre,thing p.2=true) (hq:∀p∈post,thing p.2=true) (hb:fn.body=some c:=by rfl) (hN:fn.ntmps=N:=by rfl) (hrs:fn.results.toList=rs:=by rfl) (hargs:args.length≤N:=by exact Nat.le_of_ble_eq_true rfl) (hNB:N≤BIG:=by exact Nat.le_of_ble_eq_true rfl):FO prog f args pre res post:=AdR ok fb hf hb hN hrs hargs hNB hbig hp hq hk
end Go.Vm.T
end
section
namespace Go.Vm
open Go.RowKit Go.Proofs
set_option maxRecDepth 10000
theorem emp:ByteArray.empty=noB:=rfl
theorem scb {a b:Bool}(h:a=b):D.sc (.bool a)=D.sc (.bool b):=by rw [h]
theorem RQ {α:Type}{l:List α}{k:Nat}(h:(k:Int)<(l.length:Int)):∃p,l[k]? = some p:=by
 have:k<l.length:=by omega
 exact ⟨_,List.getElem?_eq_getElem this⟩
theorem AbR {s:ByteArray}{k:Nat}(h:(k:Int)<(s.size:Int)):∃b,s[k]? = some b:=⟨s[k]'(by omega),by rw [getElem?_pos]⟩
theorem DR {α:Type}{f:α→D}{l:List α}{k:Nat}{x:α}(h:l[k]? = some x):(l.map f)[k]? = some (f x):=by
 rw [List.getElem?_map,h];rfl
theorem name_any (s:ByteArray):AP Tryz.prog 140 [.sc (.string s)] [.d (.sc (.bool (nameB s)))]:=by
 refine T.fn [] Tryz.func140 ?_
 refine Aw ?_
 refine br (fun hg1=>?y1) (fun hg1=>?n1)
 case' y1=>
  refine brT ?_
 case' n1=>
  refine Aw ?_
  refine br (fun hc3=>?y3) (fun hc3=>?n3)
  case' n3=>
   have hlo:1≤s.size:=by omega
   have hhi:s.size≤12:=by omega
   refine Aw ?_
   refine Ep (fb:=[]) T.ok (Nat.le_of_ble_eq_true rfl) [0,15] (fun (k:Nat)=>[(16,.c (.d (.sc (.int .i64 (k:Nat)))))]) (fun k=>k≤s.size∧Po s k∧1≤s.size∧s.size≤12) (fun k=>s.size-k) 0 ⟨Nat.zero_le _,AaY s,hlo,hhi⟩ (Am (by first|rfl|(simp only [Tr.get];simp;done)) trivial) ?_
   rintro k ⟨hk,hok,hlo,hhi⟩
   refine br (fun hc4=>?y4) (fun hc4=>?n4)
   case' y4=>
    obtain ⟨b,hb⟩:=AbR hc4
    first|refine FW (by exact hb) ?_|refine Fh (by exact hb) ?_
    refine br (fun hg5=>?y5) (fun hg5=>?n5)
    case' y5=>
     first|refine FW (by exact hb) ?_|refine Fh (by exact hb) ?_
     first|refine FW (by exact hb) ?_|refine Fh (by exact hb) ?_
     refine br (fun hg6=>?y6) (fun hg6=>?n6)
     case' y6=>
      first|refine FW (by exact hb) ?_|refine Fh (by exact hb) ?_
      refine br (fun hg7=>?y7) (fun hg7=>?n7)
      case' y7=>
       refine br (fun hg8=>?y8) (fun hg8=>?n8)
       case' y8=>
        refine brT ?_
       case' n8=>
        refine br (fun hc10=>?y10) (fun hc10=>?n10)
        case' n10=>
         first|refine CO ?_|refine DU ?_|refine x_bin rfl rfl ?_
         refine BV (k+1) ⟨F5 hb,MB hok hb (by (simp only [GV,decide_eq_true_eq,decide_eq_false_iff_not,Bool.not_eq_true',Bool.not_eq_false',Bool.and_eq_true,Bool.or_eq_true,Bool.or_eq_false_iff,Bool.and_eq_false_iff,beq_iff_eq,beq_eq_false_iff_ne,ne_eq,Bool.not_true,Bool.not_false,Bool.false_eq_true,Bool.true_eq_false] at *<;>omega)),hlo,hhi⟩ (by (try dsimp only);have:=F5 hb;omega) rfl (Am (by first|rfl|(simp only [Tr.get];simp;done)) trivial) (by first|rfl|(funext u;simp only [hdrop,hset,hpost,hOf];(repeat' split)<;>rfl))
      case' n7=>
       refine brF ?_
       first|refine CO ?_|refine DU ?_|refine x_bin rfl rfl ?_
       refine BV (k+1) ⟨F5 hb,MB hok hb (by (simp only [GV,decide_eq_true_eq,decide_eq_false_iff_not,Bool.not_eq_true',Bool.not_eq_false',Bool.and_eq_true,Bool.or_eq_true,Bool.or_eq_false_iff,Bool.and_eq_false_iff,beq_iff_eq,beq_eq_false_iff_ne,ne_eq,Bool.not_true,Bool.not_false,Bool.false_eq_true,Bool.true_eq_false] at *<;>omega)),hlo,hhi⟩ (by (try dsimp only);have:=F5 hb;omega) rfl (Am (by first|rfl|(simp only [Tr.get];simp;done)) trivial) (by first|rfl|(funext u;simp only [hdrop,hset,hpost,hOf];(repeat' split)<;>rfl))
     case' n6=>
      refine br (fun hg12=>?y12) (fun hg12=>?n12)
      case' y12=>
       refine brT ?_
       refine brT ?_
      case' n12=>
       refine brF ?_
       first|refine CO ?_|refine DU ?_|refine x_bin rfl rfl ?_
       refine BV (k+1) ⟨F5 hb,MB hok hb (by (simp only [GV,decide_eq_true_eq,decide_eq_false_iff_not,Bool.not_eq_true',Bool.not_eq_false',Bool.and_eq_true,Bool.or_eq_true,Bool.or_eq_false_iff,Bool.and_eq_false_iff,beq_iff_eq,beq_eq_false_iff_ne,ne_eq,Bool.not_true,Bool.not_false,Bool.false_eq_true,Bool.true_eq_false] at *<;>omega)),hlo,hhi⟩ (by (try dsimp only);have:=F5 hb;omega) rfl (Am (by first|rfl|(simp only [Tr.get];simp;done)) trivial) (by first|rfl|(funext u;simp only [hdrop,hset,hpost,hOf];(repeat' split)<;>rfl))
    case' n5=>
     first|refine FW (by exact hb) ?_|refine Fh (by exact hb) ?_
     refine br (fun hg16=>?y16) (fun hg16=>?n16)
     case' y16=>
      first|refine FW (by exact hb) ?_|refine Fh (by exact hb) ?_
      refine brT ?_
      refine br (fun hg18=>?y18) (fun hg18=>?n18)
      case' y18=>
       refine brT ?_
      case' n18=>
       refine br (fun hc20=>?y20) (fun hc20=>?n20)
       case' n20=>
        first|refine CO ?_|refine DU ?_|refine x_bin rfl rfl ?_
        refine BV (k+1) ⟨F5 hb,MB hok hb (by (simp only [GV,decide_eq_true_eq,decide_eq_false_iff_not,Bool.not_eq_true',Bool.not_eq_false',Bool.and_eq_true,Bool.or_eq_true,Bool.or_eq_false_iff,Bool.and_eq_false_iff,beq_iff_eq,beq_eq_false_iff_ne,ne_eq,Bool.not_true,Bool.not_false,Bool.false_eq_true,Bool.true_eq_false] at *<;>omega)),hlo,hhi⟩ (by (try dsimp only);have:=F5 hb;omega) rfl (Am (by first|rfl|(simp only [Tr.get];simp;done)) trivial) (by first|rfl|(funext u;simp only [hdrop,hset,hpost,hOf];(repeat' split)<;>rfl))
     case' n16=>
      refine brT ?_
      refine brT ?_
      refine brT ?_
 all_goals (refine CJ ?_;simp only [Bo,fits,C.asD,and_true]<;>(refine scb ?_;first|(refine (Ac7 ?_).symm;omega;done)|(refine (AaC ?_).symm;omega;done)|(refine (YR (F5 hb) hb ?_).symm;(simp only [GV,decide_eq_true_eq,decide_eq_false_iff_not,Bool.not_eq_true',Bool.not_eq_false',Bool.and_eq_true,Bool.or_eq_true,Bool.or_eq_false_iff,Bool.and_eq_false_iff,beq_iff_eq,beq_eq_false_iff_ne,ne_eq,Bool.not_true,Bool.not_false,Bool.false_eq_true,Bool.true_eq_false] at *<;>omega);done)|(refine (Aba hlo hhi ?_ hok).symm;omega;done)))
theorem UG (s:ByteArray):AP Tryz.prog 80 [.sc (.string s)] [.d (.sc (.bool (nameB s)))]:=by
 refine T.fn [] Tryz.func80 ?_
 refine Aw ?_
 refine br (fun hg1=>?y1) (fun hg1=>?n1)
 case' y1=>
  refine brT ?_
 case' n1=>
  refine Aw ?_
  refine br (fun hc3=>?y3) (fun hc3=>?n3)
  case' n3=>
   have hlo:1≤s.size:=by omega
   have hhi:s.size≤12:=by omega
   refine Ep (fb:=[]) T.ok (Nat.le_of_ble_eq_true rfl) [0] (fun (k:Nat)=>[(3,.c (.d (.sc (.int .i64 (k:Nat)))))]) (fun k=>k≤s.size∧Po s k∧1≤s.size∧s.size≤12) (fun k=>s.size-k) 0 ⟨Nat.zero_le _,AaY s,hlo,hhi⟩ (Am (by first|rfl|(simp only [Tr.get];simp;done)) trivial) ?_
   rintro k ⟨hk,hok,hlo,hhi⟩
   refine Aw ?_
   refine br (fun hc4=>?y4) (fun hc4=>?n4)
   case' y4=>
    obtain ⟨b,hb⟩:=AbR hc4
    first|refine FW (by exact hb) ?_|refine Fh (by exact hb) ?_
    refine br (fun hg5=>?y5) (fun hg5=>?n5)
    case' y5=>
     first|refine FW (by exact hb) ?_|refine Fh (by exact hb) ?_
     first|refine FW (by exact hb) ?_|refine Fh (by exact hb) ?_
     refine br (fun hg6=>?y6) (fun hg6=>?n6)
     case' y6=>
      first|refine FW (by exact hb) ?_|refine Fh (by exact hb) ?_
      refine br (fun hg7=>?y7) (fun hg7=>?n7)
      case' y7=>
       refine br (fun hg8=>?y8) (fun hg8=>?n8)
       case' y8=>
        refine brT ?_
       case' n8=>
        refine br (fun hc10=>?y10) (fun hc10=>?n10)
        case' n10=>
         first|refine CO ?_|refine DU ?_|refine x_bin rfl rfl ?_
         refine BV (k+1) ⟨F5 hb,MB hok hb (by (simp only [GV,decide_eq_true_eq,decide_eq_false_iff_not,Bool.not_eq_true',Bool.not_eq_false',Bool.and_eq_true,Bool.or_eq_true,Bool.or_eq_false_iff,Bool.and_eq_false_iff,beq_iff_eq,beq_eq_false_iff_ne,ne_eq,Bool.not_true,Bool.not_false,Bool.false_eq_true,Bool.true_eq_false] at *<;>omega)),hlo,hhi⟩ (by (try dsimp only);have:=F5 hb;omega) rfl (Am (by first|rfl|(simp only [Tr.get];simp;done)) trivial) (by first|rfl|(funext u;simp only [hdrop,hset,hpost,hOf];(repeat' split)<;>rfl))
      case' n7=>
       refine brF ?_
       first|refine CO ?_|refine DU ?_|refine x_bin rfl rfl ?_
       refine BV (k+1) ⟨F5 hb,MB hok hb (by (simp only [GV,decide_eq_true_eq,decide_eq_false_iff_not,Bool.not_eq_true',Bool.not_eq_false',Bool.and_eq_true,Bool.or_eq_true,Bool.or_eq_false_iff,Bool.and_eq_false_iff,beq_iff_eq,beq_eq_false_iff_ne,ne_eq,Bool.not_true,Bool.not_false,Bool.false_eq_true,Bool.true_eq_false] at *<;>omega)),hlo,hhi⟩ (by (try dsimp only);have:=F5 hb;omega) rfl (Am (by first|rfl|(simp only [Tr.get];simp;done)) trivial) (by first|rfl|(funext u;simp only [hdrop,hset,hpost,hOf];(repeat' split)<;>rfl))
     case' n6=>
      refine br (fun hg12=>?y12) (fun hg12=>?n12)
      case' y12=>
       refine brT ?_
       refine brT ?_
      case' n12=>
       refine brF ?_
       first|refine CO ?_|refine DU ?_|refine x_bin rfl rfl ?_
       refine BV (k+1) ⟨F5 hb,MB hok hb (by (simp only [GV,decide_eq_true_eq,decide_eq_false_iff_not,Bool.not_eq_true',Bool.not_eq_false',Bool.and_eq_true,Bool.or_eq_true,Bool.or_eq_false_iff,Bool.and_eq_false_iff,beq_iff_eq,beq_eq_false_iff_ne,ne_eq,Bool.not_true,Bool.not_false,Bool.false_eq_true,Bool.true_eq_false] at *<;>omega)),hlo,hhi⟩ (by (try dsimp only);have:=F5 hb;omega) rfl (Am (by first|rfl|(simp only [Tr.get];simp;done)) trivial) (by first|rfl|(funext u;simp only [hdrop,hset,hpost,hOf];(repeat' split)<;>rfl))
    case' n5=>
     first|refine FW (by exact hb) ?_|refine Fh (by exact hb) ?_
     refine br (fun hg16=>?y16) (fun hg16=>?n16)
     case' y16=>
      first|refine FW (by exact hb) ?_|refine Fh (by exact hb) ?_
      refine brT ?_
      refine br (fun hg18=>?y18) (fun hg18=>?n18)
      case' y18=>
       refine brT ?_
      case' n18=>
       refine br (fun hc20=>?y20) (fun hc20=>?n20)
       case' n20=>
        first|refine CO ?_|refine DU ?_|refine x_bin rfl rfl ?_
        refine BV (k+1) ⟨F5 hb,MB hok hb (by (simp only [GV,decide_eq_true_eq,decide_eq_false_iff_not,Bool.not_eq_true',Bool.not_eq_false',Bool.and_eq_true,Bool.or_eq_true,Bool.or_eq_false_iff,Bool.and_eq_false_iff,beq_iff_eq,beq_eq_false_iff_ne,ne_eq,Bool.not_true,Bool.not_false,Bool.false_eq_true,Bool.true_eq_false] at *<;>omega)),hlo,hhi⟩ (by (try dsimp only);have:=F5 hb;omega) rfl (Am (by first|rfl|(simp only [Tr.get];simp;done)) trivial) (by first|rfl|(funext u;simp only [hdrop,hset,hpost,hOf];(repeat' split)<;>rfl))
     case' n16=>
      refine brT ?_
      refine brT ?_
      refine brT ?_
 all_goals (refine CJ ?_;simp only [Bo,fits,C.asD,and_true]<;>(refine scb ?_;first|(refine (Ac7 ?_).symm;omega;done)|(refine (AaC ?_).symm;omega;done)|(refine (YR (F5 hb) hb ?_).symm;(simp only [GV,decide_eq_true_eq,decide_eq_false_iff_not,Bool.not_eq_true',Bool.not_eq_false',Bool.and_eq_true,Bool.or_eq_true,Bool.or_eq_false_iff,Bool.and_eq_false_iff,beq_iff_eq,beq_eq_false_iff_ne,ne_eq,Bool.not_true,Bool.not_false,Bool.false_eq_true,Bool.true_eq_false] at *<;>omega);done)|(refine (Aba hlo hhi ?_ hok).symm;omega;done)))
end Go.Vm
end
section
namespace Go.Vm
open Go.RowKit Go.Proofs
set_option maxRecDepth 10000
theorem Dj (r:Bv):AP Tryz.prog 219 [rD r] [.d (.sc (.bool (Bz r)))]:=by
 refine T.fn [] Tryz.func219 ?_
 refine br (fun hg1=>?y1) (fun hg1=>?n1)
 case' y1=>
  refine br (fun hc2=>?y2) (fun hc2=>?n2)
  case' n2=>
   refine Ar T.Pq (name_any _) ?_
   refine br (fun hg3=>?y3) (fun hg3=>?n3)
   case' y3=>
    refine br (fun hg4=>?y4) (fun hg4=>?n4)
    case' n4=>
     refine Ar T.Pq (name_any _) ?_
 case' n1=>
  refine brF ?_
  refine Ar T.Pq (name_any _) ?_
  refine br (fun hg6=>?y6) (fun hg6=>?n6)
  case' y6=>
   refine br (fun hg7=>?y7) (fun hg7=>?n7)
   case' n7=>
    refine Ar T.Pq (name_any _) ?_
 all_goals (refine CJ ?_;simp only [Bo,fits,C.asD,and_true]<;>(refine scb ?_;rcases (show r.scope=0∨r.scope=1∨(r.scope≠0∧r.scope≠1) by omega) with h|h|h<;>simp_all [Bz,emp]<;>omega))
theorem P6 (r:Bv):AP Tryz.prog 138 [rD r] [.d (.sc (.bool (Bz r)))]:=by
 refine T.fn [] Tryz.func138 ?_
 refine br (fun hg1=>?y1) (fun hg1=>?n1)
 case' y1=>
  refine br (fun hg2=>?y2) (fun hg2=>?n2)
  case' y2=>
   refine Ar T.Uw (UG _) ?_
   refine br (fun hg3=>?y3) (fun hg3=>?n3)
   case' y3=>
    refine Aw ?_
    refine br (fun hg4=>?y4) (fun hg4=>?n4)
    case' n4=>
     refine Ar T.Uw (UG _) ?_
  case' n2=>
   refine brF ?_
 case' n1=>
  refine brF ?_
  refine brF ?_
 all_goals (refine CJ ?_;simp only [Bo,fits,C.asD,and_true]<;>(refine scb ?_;rcases (show r.scope=0∨r.scope=1∨(r.scope≠0∧r.scope≠1) by omega) with h|h|h<;>simp_all [Bz,emp]<;>omega))
end Go.Vm
end
section
namespace Go.Vm
open Go.RowKit Go.Proofs
set_option maxRecDepth 10000
theorem Aea (x:Bv):Ai (rD x)=some (.agg #[.int .i64 x.scope,.string x.group,.string x.name]):=rfl
theorem Af5 (r s:Bv)(x y:Operand)(w:World):(do eqGuard .eql 38 x y (.agg #[.int .i64 r.scope,.string r.group,.string r.name]) (.agg #[.int .i64 s.scope,.string s.group,.string s.name]);binOp .eql 38 (.agg #[.int .i64 r.scope,.string r.group,.string r.name]) (.agg #[.int .i64 s.scope,.string s.group,.string s.name]):Sem Value).run Tryz.prog w=.ok (.bool (decide (r=s))) w:=by
 obtain ⟨a,b,c⟩:=r
 obtain ⟨a',b',c'⟩:=s
 simp [go_sem,Oe]
 repeat (first|(split<;>simp_all;done)|split)
 all_goals simp_all
theorem IL {x y:Operand}{K:Value→Prop}(r s:Bv)(hK:K (.bool (decide (r=s)))):∃u v r',(Ai (rD r)=some u∧Ai (rD s)=some v)∧(∀w,(do eqGuard .eql 38 x y u v;binOp .eql 38 u v:Sem Value).run Tryz.prog w=.ok r' w)∧BN r'=true∧K r':=Vl (Aea r) (Aea s) (fun w=>Af5 r s x y w) rfl hK
theorem AaD (x:(ByteArray×ByteArray)):Ai (G6 x)=some (.agg #[.string x.1,.string x.2]):=rfl
theorem Avp (r s:(ByteArray×ByteArray))(x y:Operand)(w:World):(do eqGuard .neq 172 x y (.agg #[.string r.1,.string r.2]) (.agg #[.string s.1,.string s.2]);binOp .neq 172 (.agg #[.string r.1,.string r.2]) (.agg #[.string s.1,.string s.2]):Sem Value).run Tryz.prog w=.ok (.bool (!decide (r=s))) w:=by
 obtain ⟨a,b⟩:=r
 obtain ⟨a',b'⟩:=s
 simp [go_sem,Oe]
 repeat (first|(split<;>simp_all;done)|split)
 all_goals simp_all
theorem Y2 {x y:Operand}{K:Value→Prop}(r s:(ByteArray×ByteArray))(hK:K (.bool (!decide (r=s)))):∃u v r',(Ai (G6 r)=some u∧Ai (G6 s)=some v)∧(∀w,(do eqGuard .neq 172 x y u v;binOp .neq 172 u v:Sem Value).run Tryz.prog w=.ok r' w)∧BN r'=true∧K r':=Vl (AaD r) (AaD s) (fun w=>Avp r s x y w) rfl hK
end Go.Vm
end
section
namespace Go.Vm
open Go.RowKit Go.Proofs
set_option maxRecDepth 10000
theorem SH {α:Type}{l:List α}{k:Nat}(h:¬(k:Int)<(l.length:Int)):l.length≤k:=by omega
theorem KF {α:Type}{l:List α}{k:Nat}{p:α}(hp:l[k]? = some p):k<l.length:=(List.getElem?_eq_some_iff.1 hp).1
theorem Rz {α:Type}{l m:List α}{p q:α}{k:Nat}(hp:l[k]? = some p)(hq:m[k]? = some q)(h:l.take k=m.take k)(hn:p=q):l.take (k+1)=m.take (k+1):=by
 rw [List.take_add_one,List.take_add_one,hp,hq,h,hn]
theorem TS {α:Type}{l m:List α}{k:Nat}(hl:l.length=m.length)(hk:l.length≤k)(h:l.take k=m.take k):l=m:=by
 rwa [List.take_of_length_le hk,List.take_of_length_le (by omega)] at h
theorem Tu {α β:Type}{l:List α}{m:List β}{k:Nat}{p:α}(hp:l[k]? = some p)(hl:l.length=m.length):∃q,m[k]? = some q:=⟨_,List.getElem?_eq_getElem (by have:=KF hp;omega)⟩
theorem Ajc (l m:List ByteArray)(hl:l.length≤1000000):AP Tryz.prog 149 [.row (l.map strD),.row (m.map strD)] [.d (.sc (.bool (decide (l=m))))]:=by
 refine T.fn [] Tryz.func149 ?_
 refine Aw ?_
 refine Aw ?_
 refine br (fun hc1=>?y1) (fun hc1=>?n1)
 case' n1=>
  have hlen:l.length=m.length:=by omega
  refine Aw ?_
  refine Ep (fb:=[]) T.ok (Nat.le_of_ble_eq_true rfl) [0,1,12] (fun (k:Nat)=>[(13,.c (.d (.sc (.int .i64 (k:Nat)))))]) (fun k=>k≤l.length∧l.take k=m.take k) (fun k=>l.length-k) 0 ⟨Nat.zero_le _,rfl⟩ (Am (by first|rfl|(simp only [Tr.get];simp;done)) trivial) ?_
  rintro k ⟨hk,hi⟩
  refine br (fun hc2=>?y2) (fun hc2=>?n2)
  case' y2=>
   obtain ⟨p,hp⟩:=RQ hc2
   obtain ⟨q,hq⟩:=Tu hp hlen
   refine And.intro ⟨T.mixed,by decide +kernel⟩ ?_
   first|refine Eb (by first|exact DR hp|exact DR hq) ?_|refine Ah (by first|exact DR hp|exact DR hq) ?_
   first|refine Eb (by first|exact DR hp|exact DR hq) ?_|refine Ah (by first|exact DR hp|exact DR hq) ?_
   refine br (fun hc3=>?y3) (fun hc3=>?n3)
   case' n3=>
    first|refine CO ?_|refine DU ?_|refine x_bin rfl rfl ?_
    refine BV (k+1) ⟨KF hp,Rz hp hq hi (by simp_all)⟩ (by (try dsimp only);have:=KF hp;omega) rfl (Am (by first|rfl|(simp only [Tr.get];simp;done)) trivial) (by first|rfl|(funext u;simp only [hdrop,hset,hpost,hOf];(repeat' split)<;>rfl))
 all_goals (refine CJ ?_;simp only [Bo,fits,C.asD,and_true]<;>(refine scb ?_;first|exact (decide_eq_false (fun e=>by simp_all)).symm|exact (decide_eq_false (ne_at hp hq (fun e=>by simp_all))).symm|exact (decide_eq_true (TS hlen (SH (by assumption)) hi)).symm))
theorem Aul (l m:List ByteArray)(hl:l.length≤1000000):AP Tryz.prog 12 [.row (l.map strD),.row (m.map strD)] [.d (.sc (.bool (decide (l=m))))]:=by
 refine T.fn [] Tryz.func12 ?_
 refine Aw ?_
 refine Aw ?_
 refine br (fun hc1=>?y1) (fun hc1=>?n1)
 case' n1=>
  have hlen:l.length=m.length:=by omega
  refine Ep (fb:=[]) T.ok (Nat.le_of_ble_eq_true rfl) [0,1] (fun (k:Nat)=>[(5,.c (.d (.sc (.int .i64 (k:Nat)))))]) (fun k=>k≤l.length∧l.take k=m.take k) (fun k=>l.length-k) 0 ⟨Nat.zero_le _,rfl⟩ (Am (by first|rfl|(simp only [Tr.get];simp;done)) trivial) ?_
  rintro k ⟨hk,hi⟩
  refine Aw ?_
  refine br (fun hc2=>?y2) (fun hc2=>?n2)
  case' y2=>
   obtain ⟨p,hp⟩:=RQ hc2
   obtain ⟨q,hq⟩:=Tu hp hlen
   refine And.intro ⟨T.mixed,by decide +kernel⟩ ?_
   first|refine Eb (by first|exact DR hp|exact DR hq) ?_|refine Ah (by first|exact DR hp|exact DR hq) ?_
   first|refine Eb (by first|exact DR hp|exact DR hq) ?_|refine Ah (by first|exact DR hp|exact DR hq) ?_
   refine br (fun hc3=>?y3) (fun hc3=>?n3)
   case' n3=>
    first|refine CO ?_|refine DU ?_|refine x_bin rfl rfl ?_
    refine BV (k+1) ⟨KF hp,Rz hp hq hi (by simp_all)⟩ (by (try dsimp only);have:=KF hp;omega) rfl (Am (by first|rfl|(simp only [Tr.get];simp;done)) trivial) (by first|rfl|(funext u;simp only [hdrop,hset,hpost,hOf];(repeat' split)<;>rfl))
 all_goals (refine CJ ?_;simp only [Bo,fits,C.asD,and_true]<;>(refine scb ?_;first|exact (decide_eq_false (fun e=>by simp_all)).symm|exact (decide_eq_false (ne_at hp hq (fun e=>by simp_all))).symm|exact (decide_eq_true (TS hlen (SH (by assumption)) hi)).symm))
end Go.Vm
end
section
namespace Go.Vm
open Go.RowKit Go.Proofs
set_option maxRecDepth 10000
theorem AkK (f g:AB)(hl:f.cases.length≤1000000):AP Tryz.prog 94 [fD f,fD g] [.d (.sc (.bool (decide (f=g))))]:=by
 refine T.fn [] Tryz.func94 ?_
 first|refine IL _ _ ?_|refine IL _ Ae ?_|refine IL Ae _ ?_
 refine br (fun hg1=>?y1) (fun hg1=>?n1)
 case' y1=>
  refine br (fun hg2=>?y2) (fun hg2=>?n2)
  case' y2=>
   refine br (fun hg3=>?y3) (fun hg3=>?n3)
   case' y3=>
    refine Ar T.AhX (Ajc _ _ (by assumption)) ?_
    refine br (fun hg4=>?y4) (fun hg4=>?n4)
   case' n3=>
    refine brF ?_
  case' n2=>
   refine brF ?_
   refine brF ?_
 case' n1=>
  refine brF ?_
  refine brF ?_
  refine brF ?_
 all_goals (refine CJ ?_;simp only [Bo,fits,C.asD,and_true]<;>(refine scb ?_;cases f;cases g;simp_all))
theorem Aj9 (l m:List ByteArray)(hl:l.length≤1000000):AP Tryz.prog 143 [.row (l.map strD),.row (m.map strD)] [.d (.sc (.bool (decide (l=m))))]:=by
 refine T.fn [] Tryz.func143 ?_
 refine Ar T.Anv (Aul _ _ (by assumption)) ?_
 all_goals (refine CJ ?_;simp only [Bo,fits,C.asD,and_true]<;>(first|rfl|trivial))
theorem Am4 (f g:AB)(hl:f.cases.length≤1000000):AP Tryz.prog 87 [fD f,fD g] [.d (.sc (.bool (decide (f=g))))]:=by
 refine T.fn [] Tryz.func87 ?_
 first|refine IL _ _ ?_|refine IL _ Ae ?_|refine IL Ae _ ?_
 refine br (fun hg1=>?y1) (fun hg1=>?n1)
 case' y1=>
  refine br (fun hg2=>?y2) (fun hg2=>?n2)
  case' y2=>
   refine br (fun hg3=>?y3) (fun hg3=>?n3)
   case' y3=>
    refine br (fun hg4=>?y4) (fun hg4=>?n4)
    case' y4=>
     refine Ar T.Ap0 (Aj9 _ _ (by assumption)) ?_
   case' n3=>
    refine brF ?_
  case' n2=>
   refine brF ?_
   refine brF ?_
 case' n1=>
  refine brF ?_
  refine brF ?_
  refine brF ?_
 all_goals (refine CJ ?_;simp only [Bo,fits,C.asD,and_true]<;>(refine scb ?_;cases f;cases g;simp_all))
end Go.Vm
end
section
namespace Go.Vm
def Aj8 (l:List AB)(k:Nat):Bool:=(List.range k).all fun j=>match l[j]? with
 |some f=>Xp f&&(match l[j-1]? with|some g=>decide (j=0)||KA g.at_ f.at_|none=>true)
 |none=>true
def Yz (l:List AB):Bool:=decide (l.length≤16)&&Aj8 l l.length
def X0 (l:List AB)(r:Bv):Int:=if (l.findIdx fun f=>decide (f.at_=r))<l.length then ((l.findIdx fun f=>decide (f.at_=r):Nat):Int) else -1
def fieldAt (l:List AB)(r:Bv):AB:=match l[(X0 l r).toNat]? with
 |some f=>f
 |none=>Vb
def Aiv (l:List AB)(f:AB):List AB:=(l.takeWhile fun g=>KA g.at_ f.at_)++f::(l.dropWhile fun g=>KA g.at_ f.at_)
def AdS (l:List AB)(f:AB):List AB×Int:=
 if (Yz l&&Xp f)=false then ([],5) else if 0≤X0 l f.at_ then ([],7) else if 16≤l.length then ([],14) else (Aiv l f,0)
def Amy (l:List AB)(r:Bv):List AB:=l.filter fun f=>!decide (f.at_=r)
end Go.Vm
end
section
namespace Go.Vm
def caseT (t:List (ByteArray×ByteArray))(s:ByteArray):ByteArray×Bool:=match t.find? fun p=>decide (p.1=s) with
 |some p=>(p.2,true)
 |none=>(noB,false)
def TM (t:List (ByteArray×ByteArray)):List ByteArray:=t.map (·.1)
def okT (t o:List (ByteArray×ByteArray))(k:Nat):Bool:=(List.range k).all fun j=>match t[j]? with
 |some p=>nameB p.1 && !decide (p.1∈TM (t.take j))&&decide (p.2∈TM o)
 |none=>true
def Ac6 (t o:List (ByteArray×ByteArray)):Bool:=decide (1≤t.length)&&decide (t.length≤6)&&okT t o t.length
def ArB (x:AL):Bool:=
 if x.kind=2∨x.kind=3 then decide (x.at_=Ae)&&decide (x.name=noB)&&decide (x.other=noB)&&decide (x.factor=0)&&decide (x.forth.length=0)&&decide (x.back.length=0)&&Xp x.field
 else Bz x.at_&&decide (x.field=Vb) &&
  (if x.kind=8 then decide (x.factor=0)&&Ac6 x.forth x.back&&Ac6 x.back x.forth&&decide (caseT x.forth x.name=(x.other,true))&&decide (caseT x.back x.other=(x.name,true))
    else decide (x.forth.length=0)&&decide (x.back.length=0) &&
     (if x.kind=6∨x.kind=9 then nameB x.name&&nameB x.other && !decide (x.name=x.other)&&decide (2≤x.factor)&&decide (x.factor≤1000)
       else decide (x.factor=0) &&
        (if x.kind=7∨x.kind=10 then decide (x.name=noB)&&decide (x.other.size≤40)
          else decide (x.other=noB)&&(if x.kind=1 then nameB x.name else if x.kind=4 then decide (x.name=noB) && !decide (x.at_.group=noB) else if x.kind=5 then decide (x.at_.group=noB)&&nameB x.name else false))))
def named (r:Bv)(s:ByteArray):Bv:=⟨r.scope,r.group,s⟩
def AcV (x:AL):List Bv:=if x.kind=2 then [] else if x.kind=3 then [x.field.at_] else if x.kind=9 then [named x.at_ x.name,named x.at_ x.other] else [x.at_]
def Am7 (x:AL):List Bv:=if x.kind=2 then [x.field.at_] else if x.kind=3 then [] else if x.kind=6 then [named x.at_ x.name,named x.at_ x.other] else if x.kind=1 then [named x.at_ x.name]
 else if x.kind=4 then [⟨x.at_.scope,noB,x.at_.name⟩] else if x.kind=5 then [⟨x.at_.scope,x.name,x.at_.name⟩] else [x.at_]
def AnA (l:List AB)(x:AL):Option (List AB):=
 if x.kind=2 then some [x.field]
 else if x.kind=3 then (if fieldAt l x.field.at_=x.field then some [] else none)
 else if x.kind=9 then (if (fieldAt l (named x.at_ x.name)).kind=1∧(fieldAt l (named x.at_ x.other)).kind=1∧(fieldAt l (named x.at_ x.other)).worth=(fieldAt l (named x.at_ x.name)).worth*x.factor then some [⟨x.at_,1,noB,[],(fieldAt l (named x.at_ x.name)).worth⟩] else none)
 else if x.kind=6 then (if (fieldAt l x.at_).kind=1 then some [⟨named x.at_ x.name,1,noB,[],(fieldAt l x.at_).worth⟩,⟨named x.at_ x.other,1,noB,[],(fieldAt l x.at_).worth*x.factor⟩] else none)
 else if x.kind=7 then (if (fieldAt l x.at_).kind=2∧(fieldAt l x.at_).deft=x.other then some [⟨x.at_,4,noB,[],0⟩] else none)
 else if x.kind=10 then (if (fieldAt l x.at_).kind=4 then some [⟨x.at_,2,x.other,[],0⟩] else none)
 else if x.kind=8 then (if fieldAt l x.at_=⟨x.at_,3,x.name,TM x.forth,0⟩ then some [⟨x.at_,3,x.other,TM x.back,0⟩] else none)
 else some (match Am7 x with | []=>[]|c::_=>[⟨c,(fieldAt l x.at_).kind,(fieldAt l x.at_).deft,(fieldAt l x.at_).cases,(fieldAt l x.at_).worth⟩])
def AbN:List AB→List AB→List AB×Int
 |l,[]=>(l,0)
 |l,f::fs=>if (AdS l f).2=0 then AbN (AdS l f).1 fs else ([],16)
def AuK (l:List AB)(rs:List Bv):List AB:=rs.foldl Amy l
def Aad (l:List AB)(x:AL):List AB×Int:=
 if (Yz l&&ArB x)=false then ([],5)
 else if (AcV x).any (fun g=>decide (X0 l g<0)) then ([],16)
 else match AnA l x with
  |none=>([],16)
  |some fs=>AbN (AuK l (AcV x)) fs
end Go.Vm
end
section
namespace Go.Vm
open Go.RowKit Go.Proofs
set_option maxRecDepth 10000
end Go.Vm
end
section
namespace Go.Vm
open Go.RowKit Go.Proofs
set_option maxRecDepth 10000
end Go.Vm
end
section
namespace Go.Vm
open Go.RowKit Go.Proofs
set_option maxRecDepth 10000
end Go.Vm
end
section
namespace Go.Vm
open Go.RowKit Go.Proofs
set_option maxRecDepth 10000
end Go.Vm
end
section
namespace Go.Vm
end Go.Vm
end
section
namespace Go.Vm
def okX (x:AL):Prop:=x.field.cases.length≤1000000∧x.forth.length≤1000∧x.back.length≤1000
end Go.Vm
end
section
namespace Go.Vm
open Go.RowKit Go.Proofs
set_option maxRecDepth 10000
theorem take_length {α:Type}{l:List α}{k:Nat}(h:k<l.length):(l.take k).length=k:=by rw [List.length_take];omega
theorem AaQ (l m:(List (ByteArray×ByteArray)))(hl:l.length≤1000):AP Tryz.prog 88 [.row (l.map G6),.row (m.map G6)] [.d (.sc (.bool (decide (l=m))))]:=by
 refine T.fn [] Tryz.func88 ?_
 refine Aw ?_
 refine Aw ?_
 refine br (fun hc1=>?y1) (fun hc1=>?n1)
 case' n1=>
  have hlen:l.length=m.length:=by omega
  refine Ep (fb:=[]) T.ok (Nat.le_of_ble_eq_true rfl) [0,1] (fun (k:Nat)=>[(5,.c (.d (.sc (.int .i64 (k:Nat)))))]) (fun k=>k≤l.length∧l.take k=m.take k) (fun k=>l.length-k) 0 ⟨Nat.zero_le _,rfl⟩ (Am (by first|rfl|(simp only [Tr.get];simp;done)) trivial) ?_
  rintro k ⟨hk,hi⟩
  refine Aw ?_
  refine br (fun hc2=>?y2) (fun hc2=>?n2)
  case' y2=>
   obtain ⟨p,hp⟩:=RQ hc2
   have hkl:=KF hp
   obtain ⟨q,hq⟩:=Tu hp hlen
   refine And.intro ⟨T.mixed,by decide +kernel⟩ ?_
   first|refine Eb (by first|exact DR hp|exact DR hq) ?_|refine Ah (by first|exact DR hp|exact DR hq) ?_
   first|refine Eb (by first|exact DR hp|exact DR hq) ?_|refine Ah (by first|exact DR hp|exact DR hq) ?_
   refine Y2 _ _ ?_
   refine br (fun hc3=>?y3) (fun hc3=>?n3)
   case' n3=>
    first|refine CO ?_|refine DU ?_|refine x_bin rfl rfl ?_
    refine BV (k+1) ⟨KF hp,Rz hp hq hi (by simp_all)⟩ (by (try dsimp only);have:=KF hp;omega) rfl (Am (by first|rfl|(simp only [Tr.get];simp;done)) trivial) (by first|rfl|(funext u;simp only [hdrop,hset,hpost,hOf];(repeat' split)<;>rfl))
 all_goals (refine CJ ?_;simp only [Bo,fits,C.asD,and_true]<;>(refine scb ?_;first|exact (decide_eq_false (fun e=>by simp_all)).symm|exact (decide_eq_false (ne_at hp hq (fun e=>by simp_all))).symm|exact (decide_eq_true (TS hlen (SH (by assumption)) hi)).symm))
end Go.Vm
end
section
namespace Go.Vm
open Go.RowKit Go.Proofs
set_option maxRecDepth 10000
theorem Aq8 (x y:AL)(hx0:okX x):AP Tryz.prog 44 [lD x,lD y] [.d (.sc (.bool (decide (x=y))))]:=by
 refine T.fn [] Tryz.func44 ?_
 refine br (fun hg1=>?y1) (fun hg1=>?n1)
 case' y1=>
  first|refine IL _ _ ?_|refine IL _ Ae ?_|refine IL Ae _ ?_
  refine br (fun hg2=>?y2) (fun hg2=>?n2)
  case' y2=>
   refine br (fun hg3=>?y3) (fun hg3=>?n3)
   case' y3=>
    refine br (fun hg4=>?y4) (fun hg4=>?n4)
    case' y4=>
     refine br (fun hg5=>?y5) (fun hg5=>?n5)
     case' y5=>
      refine Ar T.AuS (Am4 _ _ (by first|assumption|exact hx0.1)) ?_
      refine br (fun hg6=>?y6) (fun hg6=>?n6)
      case' y6=>
       refine Ar T.Aen (AaQ _ _ (by first|assumption|exact hx0.2.1|exact hx0.2.2)) ?_
       refine br (fun hg7=>?y7) (fun hg7=>?n7)
       case' y7=>
        refine Ar T.Aen (AaQ _ _ (by first|assumption|exact hx0.2.1|exact hx0.2.2)) ?_
      case' n6=>
       refine brF ?_
     case' n5=>
      refine brF ?_
      refine brF ?_
    case' n4=>
     refine brF ?_
     refine brF ?_
     refine brF ?_
   case' n3=>
    refine brF ?_
    refine brF ?_
    refine brF ?_
    refine brF ?_
  case' n2=>
   refine brF ?_
   refine brF ?_
   refine brF ?_
   refine brF ?_
   refine brF ?_
 case' n1=>
  refine brF ?_
  refine brF ?_
  refine brF ?_
  refine brF ?_
  refine brF ?_
  refine brF ?_
 all_goals (refine CJ ?_;simp only [Bo,fits,C.asD,and_true]<;>(refine scb ?_;clear hx0;cases x;cases y;simp_all))
end Go.Vm
end
section
namespace Go.Vm
open Go.RowKit Go.Proofs
set_option maxRecDepth 10000
end Go.Vm
end
section
namespace Go.Vm
open Go.RowKit Go.Proofs
set_option maxRecDepth 10000
end Go.Vm
end
section
namespace Go.Vm
open Go.RowKit Go.Proofs
set_option maxRecDepth 10000
end Go.Vm
end
section
namespace Go.Vm
open Go.RowKit Go.Proofs
set_option maxRecDepth 10000
end Go.Vm
end
section
namespace Go.Vm
open Go.RowKit Go.Proofs
set_option maxRecDepth 10000
end Go.Vm
end
section
namespace Go.Vm
open Go.RowKit Go.Proofs
set_option maxRecDepth 10000
end Go.Vm
end
section
namespace Go.Vm
open Go.RowKit Go.Proofs
set_option maxRecDepth 10000
end Go.Vm
end
section
namespace Go.Vm
open Go.RowKit
section
variable {P:Program} {N:Nat} {t:Tr} {h:Hp} {o:Oper}
theorem Ahg {id:Nat}(hb:NAM≤id)(hm:h id=.free):Af t h id=.free:=by rw [Lj hb,hm];rfl
theorem AuY {ops:Array Oper}{fb:List Nat}{d:Nat}{s:S}(hy:XD P N o (Af t h) s)(hd:o.dst=some d)(hdN:d<N)(hNB:N≤BIG)(hg:D7 ops o (Af t h)=some true)(hn:nb s=true)(hr:NY o (Af t h) s=true)(hdr:Jb ops o (Af t h)=true)(hcl:Nat.beq (FT fb o) 0=false):DG P N fb ops o (Af t h) (.slot (some d) s):=by
 have:=AcG (fb:=fb) hg hy (fun e=>by rw [e] at hcl;cases hcl) hn hr hdr (fun u hu=>by rw [hd] at hu;injection hu with hu;exact hu▸Nat.lt_of_lt_of_le hdN hNB)
 rwa [hd] at this
theorem Aut {T:TypeId}{x:Nat}{d:Nat}{r:D}{cs:List D}{K:S→Hp→Prop}(n:Nat)(hK:K (.c (.d (.ptr n 0))) (hset h n (.obj cs)))(hm:NAM≤n∧h n=.free)(hc:r.cells=cs:=by rfl)(hop:o.op=.box T (.tmp x):=by rfl)(hx:vd (Af t h) (.tmp x)=some r:=by rfl)(hd:o.dst=some d:=by rfl)(hdN:d<N:=by exact Nat.le_of_ble_eq_true rfl)(hNB:N≤BIG:=by exact Nat.le_of_ble_eq_true rfl) :
 ∃(s:S) (h':Hp),Step P N o (Af t h) (upd (Af t h') (some d) s)∧K s h':=by
 subst hc
 refine ⟨_,_,?_,hK⟩
 unfold hset
 rw [Ql hm.1]
 exact Aqj hop hx (Ahg hm.1 hm.2) hd hdN (by have:=Yg hm.1;omega)
def hpost (h:Hp):List (Nat×S)→Hp
 | []=>h
 | (n,s)::l=>hset (hpost h l) n s
theorem ZO:∀(l:List (Nat×S)) (h:Hp) (u:Nat),hpost h l u=match l.find? fun p=>p.1==u with|some p=>p.2|none=>h u
 | [],h,u=>rfl
 | (n,s)::l,h,u=>by
  simp only [hpost,hset,List.find?_cons]
  by_cases e:u=n
  ·subst e;simp
  ·have:(n==u)=false:=by simpa using fun h=>e h.symm
   simp only [if_neg e,this];exact ZO l h u
def Ou (h:Hp):List (Nat×S)→Prop
 | []=>True
 | (n,s)::l=>(NAM≤n∧h n=s)∧Ou h l
theorem UC:∀{pre:List (Nat×S)},Ou h pre→∀p∈pre,NAM≤p.1∧h p.1=p.2
 | [],_,p,hp=>by cases hp
 | (n,s)::l,⟨h1,h2⟩,p,hp=>by
  rcases List.mem_cons.1 hp with rfl|hp
  ·exact h1
  ·exact UC h2 p hp
theorem Atv {pre post:List (Nat×S)}(hpre:Ou h pre)(hq:∀p∈post,live p.2=true∧BL pre p.1=true)(hall:∀p∈pre,BL post p.1=true):setH pre post (Af t h)=Af t (hpost h post):=by
 have hp:=UC hpre
 have hbig:∀p∈post,NAM≤p.1:=fun p hm=>by
  obtain ⟨s,hs⟩:=MQ (hq p hm).2
  exact (hp _ hs).1
 funext u
 unfold setH
 by_cases hu:u<NAM
 ·have h1:(post.find? fun p=>p.1==u)=none:=by
   rw [List.find?_eq_none];intro p hm;have:=hbig p hm;simp only [beq_iff_eq];omega
  have h2:BL pre u=false:=by
   unfold BL
   rw [List.any_eq_false]
   intro p hm;have:=(hp p hm).1;simp only [beq_iff_eq];omega
  rw [h1,h2,CE hu,CE hu];rfl
 ·have hge:NAM≤u:=by omega
  have e2:Af t (hpost h post) u=FP (hpost h post u):=Lj hge
  rw [e2,ZO]
  cases hf:post.find? fun p=>p.1==u with
  |some p=>
   have hl:=(hq p (List.mem_of_find?_eq_some hf)).1
   simp only
   cases hs:p.2<;>rw [hs] at hl<;>first|rfl|cases hl
  |none=>
   simp only
   have h2:BL pre u=false:=by
    cases h3:BL pre u with
    |false=>rfl
    |true=>
     obtain ⟨s,hs⟩:=MQ h3
     have h4:=hall _ hs
     obtain ⟨s',hs'⟩:=MQ h4
     have:=List.find?_eq_none.1 hf _ hs'
     simp at this
   rw [h2,Lj hge];rfl
theorem Aog {pre:List (Nat×S)}(hpre:Ou h pre)(hl:∀p∈pre,live p.2=true∨p.2=.free):∀p∈pre,Af t h p.1=p.2∧(live p.2=true∨p.2=.free):=by
 intro p hm
 refine ⟨?_,hl p hm⟩
 obtain ⟨h1,h2⟩:=UC hpre p hm
 rw [Lj h1,h2]
 rcases hl p hm with h3|h3
 ·cases hs:p.2<;>rw [hs] at h3<;>first|rfl|cases h3
 ·rw [h3];rfl
theorem ApH {pre post:List (Nat×S)}(hpre:Ou h pre)(hq:∀p∈post,live p.2=true∧BL pre p.1=true):∀p∈post,live p.2=true∧BL pre p.1=true∧BIG≤p.1:=fun p hm=>by
 obtain ⟨s,hs⟩:=MQ (hq p hm).2
 exact ⟨(hq p hm).1,(hq p hm).2,Yg (UC hpre _ hs).1⟩
theorem BC {f:FuncId}{xs:Array Operand}{ts:Array TypeId}{ds:List D}{res:List C}{d:Nat}{pre post:List (Nat×S)}{K:S→Hp→Prop}(he:enters P f=true)(hc:FO P f ds pre res post)(hK:K (EN (res.map (Ew d))) (hpost h post))(hpre:Ou h pre)
 (hl:∀p∈pre,live p.2=true∨p.2=.free:=by simp [live]) (hq:∀p∈post,live p.2=true∧BL pre p.1=true:=by simp [live,BL]) (hall:∀p∈pre,BL post p.1=true:=by simp [BL])
 (hop:o.op=.call { callee:=.value (.func f),args:=xs,argTypes:=ts }:=by rfl) (hx:Ia (Af t h) xs.toList=some ds:=by rfl) (hd:o.dst=some d:=by rfl) (hdN:d<N:=by exact Nat.le_of_ble_eq_true rfl) (hNB:N≤BIG:=by exact Nat.le_of_ble_eq_true rfl) :
 ∃(s:S) (h':Hp),Step P N o (Af t h) (upd (Af t h') (some d) s)∧K s h':=by
 refine ⟨_,_,?_,hK⟩
 have:=Aui (N:=N) (env:=Af t h) hop he hx hc (Aog hpre hl) (ApH hpre hq) hd hdN hNB
 rwa [Atv hpre hq hall] at this
end
end Go.Vm
end
section
namespace Go.Vm
open Go.RowKit
structure BQ where
 r:Int
 n:Int
 deriving DecidableEq
def AZ:BQ:=⟨0,0⟩
structure EZ where
 id:BQ
 parent:BQ
 lens:AL
 deriving DecidableEq
structure GR where
 edge:EZ
 state:Int
 schema:List AB
 depth:Int
 deriving DecidableEq
def tD (t:BQ):D:=.agg [.sc (.int .i64 t.r),.sc (.int .i64 t.n)]
def AnB (x:AL):List D:=[.sc (.int .i64 x.kind),.sc (.int .i64 x.at_.scope),.sc (.string x.at_.group),.sc (.string x.at_.name),.sc (.string x.name),.sc (.string x.other),.sc (.int .i64 x.factor),
 .sc (.int .i64 x.field.at_.scope),.sc (.string x.field.at_.group),.sc (.string x.field.at_.name),.sc (.int .i64 x.field.kind),.sc (.string x.field.deft),.row (x.field.cases.map strD),.sc (.int .i64 x.field.worth),.row (x.forth.map G6),.row (x.back.map G6)]
def Vk:EZ:=⟨AZ,AZ,Asd⟩
def WA:GR:=⟨Vk,0,[],0⟩
def Lc {β:Type}(k:BQ):List (BQ×β)→Option β
 | []=>none
 |p::l=>if k=p.1 then some p.2 else Lc k l
def QC:List AB:=[⟨⟨0,noB,⟨#[99,111,117,112,111,110]⟩⟩,2,noB,[],0⟩,⟨⟨1,noB,⟨#[110,111,116,101]⟩⟩,2,noB,[],0⟩,⟨⟨1,noB,⟨#[113,116,121]⟩⟩,1,noB,[],1⟩,⟨⟨1,noB,⟨#[115,105,122,101]⟩⟩,3,⟨#[109,101,100,105,117,109]⟩,[⟨#[115,109,97,108,108]⟩,⟨#[109,101,100,105,117,109]⟩,⟨#[108,97,114,103,101]⟩],0⟩,⟨⟨1,noB,⟨#[116,97,103,115]⟩⟩,4,noB,[],0⟩]
def Rh (E:List EZ)(id:BQ):Option EZ:=E.find? fun e=>decide (e.id=id)
def AfF (r:Int×List AB×Int)(x:AL):Int×List AB×Int:=
 if r.1=2 then (if (Aad r.2.1 x).2=0 then (2,(Aad r.2.1 x).1,r.2.2+1) else (3,[],0)) else if r.1=3 then (3,[],0) else (1,[],0)
def comes:Nat→List EZ→BQ→Int×List AB×Int
 |0,_,_=>(1,[],0)
 |n+1,E,id=>if id=AZ then (2,QC,0) else match Rh E id with
  |none=>(0,[],0)
  |some e=>AfF (comes n E e.parent) e.lens
def pend (e:EZ):GR:=⟨e,1,[],0⟩
def AuF (E:List EZ)(e:EZ):GR:=let r:=comes (E.length+1) E e.id;⟨e,r.1,r.2.1,r.2.2⟩
def atT (l:List (BQ×GR))(id:BQ):GR:=if id=AZ then ⟨Vk,2,QC,0⟩ else (Lc id l).getD WA
theorem at_root {l:List (BQ×GR)}{id:BQ}(h:id=AZ):atT l id=⟨Vk,2,QC,0⟩:=if_pos h
theorem Ajy {l:List (BQ×GR)}{id:BQ}(h:¬id=AZ):atT l id=(Lc id l).getD WA:=if_neg h
end Go.Vm
end
section
namespace Go.Vm
open Go.RowKit
structure OpD where
 id:BQ
 schema:BQ
 time:Int
 cart:ByteArray
 kind:Int
 item:ByteArray
 at_:Bv
 delta:Int
 has:Bool
 text:ByteArray
 drops:List BQ
 deriving DecidableEq
structure Atm where
 v1:Int
 v2:Int
 v3:Int
 v4:Int
 v5:Int
 v6:Int
 deriving DecidableEq
structure Awj where
 kind:Int
 who:Int
 format:Int
 have_:Atm
 tags:List BQ
 edges:List EZ
 ops:List OpD
 deriving DecidableEq
structure AV where
 kind:Int
 cart:ByteArray
 item:ByteArray
 at_:Bv
 n:Int
 text:ByteArray
 tag:BQ
 lens:AL
 deriving DecidableEq
def AgU (d:AV):List D:=.sc (.int .i64 d.kind) :: .sc (.string d.cart) :: .sc (.string d.item) :: .sc (.int .i64 d.at_.scope) :: .sc (.string d.at_.group) :: .sc (.string d.at_.name) :: .sc (.int .i64 d.n) :: .sc (.string d.text) :: .sc (.int .i64 d.tag.r) :: .sc (.int .i64 d.tag.n)::AnB d.lens
def Um (d:AV):D:=.agg (AgU d)
end Go.Vm
end
section
namespace Go.Vm
abbrev Came:=Int×List AB×Int
theorem AtI {n:Nat}{E:List EZ}:comes (n+1) E AZ=(2,QC,0):=by simp [comes]
def Om (E:List EZ)(id:BQ):Came:=comes (E.length+1) E id
theorem AhD {E:List EZ}:Om E AZ=(2,QC,0):=AtI
structure Good (E:List EZ):Prop where
 ok:∀e∈E,okX e.lens
 tag:∀e∈E,¬e.id=AZ
 uniq:E.Pairwise fun a b=>¬a.id=b.id
structure Half (E:List EZ) (l:List (BQ×GR)):Prop where
 edges:l.map (fun p=>p.2.edge)=E
 each:∀p∈l,p.1=p.2.edge.id∧(p.2=AuF E p.2.edge∨p.2=pend p.2.edge)
theorem Abe {β:Type}{k:BQ}:∀{l:List (BQ×β)} {n:β},Lc k l=some n→(k,n)∈l
 | [],n,h=>by cases h
 |p::l,n,h=>by
  unfold Lc at h
  split at h
  ·rename_i e;injection h with h;subst h e;exact List.mem_cons_self ..
  ·exact List.mem_cons_of_mem _ (Abe h)
theorem AeL {l:List (BQ×GR)}{k:BQ}:(∀p∈l,p.1=p.2.edge.id)→Rh (l.map fun p=>p.2.edge) k=(Lc k l).map (·.edge):=by
 induction l with
 |nil=>intro _;rfl
 |cons p l ih=>
  intro h
  have hp:=h p (List.mem_cons_self ..)
  unfold Rh Lc
  simp only [List.map_cons]
  by_cases e:k=p.1
  ·rw [if_pos e,List.find?_cons_of_pos (by simp [e,hp])];rfl
  ·rw [if_neg e,List.find?_cons_of_neg (by simp only [decide_eq_true_eq];intro e2;exact e (by rw [hp,e2]))]
   exact ih fun q hq=>h q (List.mem_cons_of_mem _ hq)
theorem Half.edge {E:List EZ}{l:List (BQ×GR)}(h:Half E l)(k:BQ):Rh E k=(Lc k l).map (·.edge):=by
 have:=AeL (k:=k) fun p hp=>(h.each p hp).1
 rwa [h.edges] at this
theorem Half.at {E:List EZ}{l:List (BQ×GR)}(h:Half E l){id:BQ}(hs:(atT l id).state=2∨(atT l id).state=3):(atT l id).state=(Om E id).1∧(atT l id).schema=(Om E id).2.1∧(atT l id).depth=(Om E id).2.2:=by
 by_cases h0:id=AZ
 ·subst h0;rw [at_root rfl,AhD];exact ⟨rfl,rfl,rfl⟩
 ·rw [Ajy h0] at hs ⊢
  cases hf:Lc id l with
  |none=>rw [hf] at hs;simp [WA] at hs
  |some n=>
   rw [hf] at hs
   simp only [Option.getD_some] at hs ⊢
   obtain ⟨h1,h2⟩:=h.each _ (Abe hf)
   simp only at h1 h2
   rcases h2 with h2|h2
   ·rw [h2,h1];exact ⟨rfl,rfl,rfl⟩
   ·rw [h2] at hs;simp [pend] at hs
theorem Half.uniq {E:List EZ}{l:List (BQ×GR)}(hg:Good E)(h:Half E l){i j:Nat}{p q:BQ×GR}(hp:l[i]? = some p)(hq:l[j]? = some q)(hlt:i<j):¬p.1=q.1:=by
 have h1:E[i]? = some p.2.edge:=by rw [←h.edges,List.getElem?_map,hp];rfl
 have h2:E[j]? = some q.2.edge:=by rw [←h.edges,List.getElem?_map,hq];rfl
 obtain ⟨hi,e1⟩:=List.getElem?_eq_some_iff.1 h1
 obtain ⟨hj,e2⟩:=List.getElem?_eq_some_iff.1 h2
 have:=(List.pairwise_iff_getElem.1 hg.uniq) i j hi hj hlt
 rw [e1,e2] at this
 rw [(h.each p (List.mem_of_getElem? hp)).1,(h.each q (List.mem_of_getElem? hq)).1]
 exact this
section
variable {E:List EZ} {l:List (BQ×GR)} {e:EZ} {n:GR}
end
section
variable {E:List EZ} {e f:EZ}
end
end Go.Vm
end
section
namespace Go.Vm
end Go.Vm
end
section
namespace Go.Vm
end Go.Vm
end
section
namespace Go.Vm
open Go.RowKit
def LP (id:Nat):List D→(List D→Prop)→Prop
 | [],K=>K []
 | .rr a b c::l,K=>match Nat.beq a id with
  |true=>LP id l fun l'=>K (.stale::l')
  |false=>LP id l fun l'=>K (.rr a b c::l')
 |x::l,K=>LP id l fun l'=>K (x::l')
theorem Oq {id:Nat}:∀{l:List D} {K:List D→Prop},LP id l K→K (l.map (Kz id))
 | [],K,h=>h
 |d::l,K,h=>by
  cases d with
  |rr a b c=>
   simp only [LP] at h
   split at h
   ·rename_i hb
    have:=Oq (K:=fun l'=>K (.stale::l')) h
    simp only [List.map_cons,Kz,if_pos (Nat.eq_of_beq_eq_true hb)];exact this
   ·rename_i hb
    have:=Oq (K:=fun l'=>K (.rr a b c::l')) h
    have hne:¬a=id:=fun e=>by rw [e,Nat.beq_refl] at hb;cases hb
    simp only [List.map_cons,Kz,if_neg hne];exact this
  |_=>exact Oq (K:=fun l'=>K (_::l')) h
def Me (id:Nat)(s:S)(K:S→Prop):Prop:=match s with
 | .sref u sz n=>match Nat.beq u id with
  |true=>K .junk
  |false=>K (.sref u sz n)
 | .gref u sz n=>match Nat.beq u id with
  |true=>K .junk
  |false=>K (.gref u sz n)
 | .ref u off=>match Nat.beq u id with
  |true=>K .junk
  |false=>K (.ref u off)
 | .ubox cs=>LP id cs fun cs'=>K (.ubox cs')
 | .uagg cs=>LP id cs fun cs'=>K (.uagg cs')
 | .uobj cs=>LP id cs fun cs'=>K (.uobj cs')
 |s=>sK s K
theorem WJ {id:Nat}(s:S)(K:S→Prop)(h:Me id s K):K (Du id s):=by
 cases s with
 |sref u sz n=>
  simp only [Me] at h
  show K (if u=id then .junk else .sref u sz n)
  split at h
  ·rename_i hb;rw [if_pos (Nat.eq_of_beq_eq_true hb)];exact h
  ·rename_i hb;rw [if_neg (fun e=>by rw [e,Nat.beq_refl] at hb;cases hb)];exact h
 |gref u sz n=>
  simp only [Me] at h
  show K (if u=id then .junk else .gref u sz n)
  split at h
  ·rename_i hb;rw [if_pos (Nat.eq_of_beq_eq_true hb)];exact h
  ·rename_i hb;rw [if_neg (fun e=>by rw [e,Nat.beq_refl] at hb;cases hb)];exact h
 |ref u off=>
  simp only [Me] at h
  show K (if u=id then .junk else .ref u off)
  split at h
  ·rename_i hb;rw [if_pos (Nat.eq_of_beq_eq_true hb)];exact h
  ·rename_i hb;rw [if_neg (fun e=>by rw [e,Nat.beq_refl] at hb;cases hb)];exact h
 |ubox cs=>exact Oq (K:=fun cs'=>K (.ubox cs')) h
 |uagg cs=>exact Oq (K:=fun cs'=>K (.uagg cs')) h
 |uobj cs=>exact Oq (K:=fun cs'=>K (.uobj cs')) h
 |c x=>cases x<;>exact h
 |_=>exact h
def hdrop (id:Nat)(h:Hp):Hp:=fun u=>Du id (h u)
theorem Vf {id:Nat}(s:S):Du id (FP s)=FP (Du id s):=by
 cases s with
 |sref i sz n=>simp only [Du,FP];by_cases e:i=id<;>simp [e]
 |gref i sz n=>simp only [Du,FP];by_cases e:i=id<;>simp [e]
 |ref i n=>simp only [Du,FP];by_cases e:i=id<;>simp [e]
 |_=>rfl
theorem Al5 {t t1 t2 t3:Tr}{h:Hp}{id d:Nat}{s g:S}(hd:d<NAM)(hid:id<NAM)(hdi:d≠id)(h1:∀u,t1.get u=Du id (t.get u))(h2:∀u,t2.get u=if u=id then g else t1.get u)(h3:∀u,t3.get u=if u=d then s else t2.get u):Af t3 (hdrop id h)=appG (Af t h) id d s g:=by
 funext u
 simp only [Af,appG,h3,h2,h1]
 by_cases e:u=d
 ·subst e;simp [hd]
 ·simp only [if_neg e]
  by_cases e2:u=id
  ·subst e2;simp [hid]
  ·simp only [if_neg e2]
   split
   ·rfl
   ·exact (Vf _).symm
section
variable {P:Program} {N:Nat} {t:Tr} {h:Hp} {o:Oper}
theorem XK {id sz:Nat}{xs:List D}(hi:id<NAM)(hg:t.get id=.gbox sz xs):Af t h id=.gbox sz xs:=by rw [CE hi,hg]
theorem AfL {T e:TypeId}{sz bytes id n d m:Nat}{x y:Operand}{xs ys zs:List D}{K:Tr→Hp→Prop}(hT:CU P T=some (e,sz,bytes))
 (hx:Ap (Af t h) x=.sref id sz n) (hg:t.get id=.gbox sz xs) (hy:vd (Af t h) y=some (.row ys)) (hn:xs.length=n) (hw:∀y∈ys,y.cells.length=sz) (h63:n+ys.length≤maxLen) (hby:(n+ys.length)*bytes≤140737488355328) (hz:xs++ys=zs) (hm:n+ys.length=m)
 (hk:Gl (Me id) t fun t1=>AQ 20 t1 id (.gbox sz zs) fun t2=>AQ 20 t2 d (.sref id sz m) fun t3=>K t3 (hdrop id h))
 (hop:o.op=.call { callee:=.builtin .append,args:=#[x,y],argTypes:=#[T,T] }:=by rfl) (hd:o.dst=some d:=by rfl) (hdN:d<N:=by exact Nat.le_of_ble_eq_true rfl) (hNB:N≤BIG:=by exact Nat.le_of_ble_eq_true rfl) (hid:BIG≤id:=by exact Nat.le_of_ble_eq_true rfl) (hid2:id<NAM:=by exact Nat.le_of_ble_eq_true rfl) :
 FZ P N o (Af t h) fun e=>∃(t':Tr) (h':Hp),e=Af t' h'∧K t' h':=by
 refine NH ?_
 subst hz hm
 obtain ⟨t1,k1,hk⟩:=II (f:=Du id) rfl WJ hk
 obtain ⟨t2,k2,hk⟩:=Bh hk
 obtain ⟨t3,k3,hk⟩:=Bh hk
 have hdB:d<BIG:=Nat.lt_of_lt_of_le hdN hNB
 exact ⟨t3,hdrop id h,by rw [Al5 (nam hdB) hid2 (by omega) k1 k2 k3];exact ArO hop hT hx (XK hid2 hg) hn hy hw h63 hby hd hdN hdB,hk⟩
end
section
variable {P:Program} {N:Nat} {env:Env} {t:Tr} {h:Hp} {o:Oper}
end
end Go.Vm
end
section
namespace Go.Vm
open Go.RowKit
section
variable {P:Program} {N:Nat} {env:Env} {t:Tr} {h:Hp} {o:Oper}
end
section
variable {P:Program} {t t':TypeId} {x y:Operand} {k k' yk:IntKind} {a b n c:Int}
end
end Go.Vm
end
section
namespace Go.Vm
def w64 (x:Int):Int:=IntKind.i64.wrap x
theorem AtV {x:Int}(h1 : -9223372036854775808≤x)(h2:x≤9223372036854775807):w64 x=x:=IntWalk.i64_in _ (by omega)
noncomputable def grd {α:Type}(p:Prop)(x:Option α):Option α:=open Classical in if p then x else none
theorem YG {α:Type}{p:Prop}{x:Option α}{r:α}(h:grd p x=some r):p∧x=some r:=by
 unfold grd at h
 split at h
 ·exact ⟨by assumption,h⟩
 ·cases h
theorem AA {α:Type}{p:Prop}{x:Option α}(h:p):grd p x=x:=if_pos h
theorem AqL {α β:Type}{a:Option α}{f:α→Option β}{r:β}(h:a.bind f=some r):∃o,a=some o∧f o=some r:=by
 cases a with
 |none=>cases h
 |some o=>exact ⟨o,rfl,h⟩
theorem Ac {α:Type}{c:Prop} [Decidable c]{a b r:α}(h:(if c then a else b)=r)(hc:c):a=r:=by rwa [if_pos hc] at h
theorem Ad {α:Type}{c:Prop} [Decidable c]{a b r:α}(h:(if c then a else b)=r)(hc:¬c):b=r:=by rwa [if_neg hc] at h
theorem nf {b:Bool}(h:b=false):¬b=true:=by rw [h];exact Bool.false_ne_true
def idx {α:Type}(l:List α)(i:Int):Option α:=if 0≤i then l[i.toNat]? else none
theorem AcU {α:Type}{l:List α}{i:Int}{p:α}(h:idx l i=some p):0≤i∧l[i.toNat]? = some p:=by
 unfold idx at h
 split at h
 ·exact ⟨by assumption,h⟩
 ·cases h
theorem Abf {α:Type}{l:List α}{i:Nat}:idx l (i:Int)=l[i]? := by unfold idx;rw [if_pos (by omega),Int.toNat_natCast]
def Gu {α:Type}(l:List α)(lo hi:Int):Option (List α):=if 0≤lo∧lo≤hi∧hi≤(l.length:Int) then some ((l.take hi.toNat).drop lo.toNat) else none
theorem TV {α:Type}{l y:List α}{lo hi:Int}(h:Gu l lo hi=some y):0≤lo∧lo≤hi∧hi≤(l.length:Int)∧(l.take hi.toNat).drop lo.toNat=y:=by
 unfold Gu at h
 split at h
 ·rename_i h1;injection h with h;exact ⟨h1.1,h1.2.1,h1.2.2,h⟩
 ·cases h
theorem AnS {α:Type}{l:List α}{k:Nat}(h:k≤l.length):Gu l 0 (k:Int)=some (l.take k):=by
 unfold Gu;rw [if_pos ⟨by omega,by omega,by omega⟩];simp
theorem Xy {α:Type}{l:List α}{k:Nat}(h:k≤l.length):Gu l (k:Int) (l.length:Int)=some (l.drop k):=by
 unfold Gu;rw [if_pos ⟨by omega,by omega,by omega⟩];simp
def BD {α:Type}(a b:List α):Option (List α):=if a.length+b.length≤1000000000 then some (a++b) else none
theorem AdE {α:Type}{a b z:List α}(h:BD a b=some z):a.length+b.length≤1000000000∧a++b=z:=by
 unfold BD at h
 split at h
 ·injection h with h;exact ⟨by assumption,h⟩
 ·cases h
theorem Arb {α:Type}{a b:List α}(h:a.length+b.length≤1000000000):BD a b=some (a++b):=if_pos h
theorem Aa {α β:Type}{a:Option α}{f:α→Option β}{r:β}{G:Prop}(h:a.bind f=some r)(g:∀o,a=some o→f o=some r→G):G:=by
 obtain ⟨o,h1,h2⟩:=AqL h;exact g o h1 h2
theorem Ce {α:Type}{p:Prop}{x:Option α}{r:α}{G:Prop}(h:grd p x=some r)(g:p→x=some r→G):G:=g (YG h).1 (YG h).2
theorem Ak {α:Type}{l:List α}{i:Int}{p:α}{G:Prop}(h:idx l i=some p)(g:0≤i→l[i.toNat]? = some p→G):G:=g (AcU h).1 (AcU h).2
theorem OL {α:Type}{l y:List α}{lo hi:Int}{G:Prop}(h:Gu l lo hi=some y)(g:0≤lo→lo≤hi→hi≤(l.length:Int)→(l.take hi.toNat).drop lo.toNat=y→G):G:=g (TV h).1 (TV h).2.1 (TV h).2.2.1 (TV h).2.2.2
theorem Ip {α:Type}{l:List α}{k:Nat}{G:Prop}(h:(k:Int)<(l.length:Int))(g:∀p,l[k]? = some p→G):G:=by
 have:k<l.length:=by omega
 exact g l[k] (by simp [this])
theorem AhG {α:Type}{l:List α}{k:Nat}{x:α}(h:l[k]? = some x):idx l (k:Int)=some x:=Abf.trans h
def Nj (s:ByteArray)(i:Int):Option UInt8:=if 0≤i then s[i.toNat]? else none
theorem Abt {s:ByteArray}{i:Int}{p:UInt8}(h:Nj s i=some p):0≤i∧s[i.toNat]? = some p:=by
 unfold Nj at h
 split at h
 ·exact ⟨by assumption,h⟩
 ·cases h
theorem ZC {s:ByteArray}{i:Int}{p:UInt8}{G:Prop}(h:Nj s i=some p)(g:0≤i→s[i.toNat]? = some p→G):G:=g (Abt h).1 (Abt h).2
abbrev intD (x:Int):D:=.sc (.int .i64 x)
def Dy (E:List EZ)(id:BQ):Int:=if (Om E id).1=2 then 0 else if (Om E id).1=3 then 16 else 13
end Go.Vm
end
section
namespace Go.Vm
theorem GN {a b:ByteArray}(h:a.data.toList=b.data.toList):a=b:=by
 obtain ⟨⟨a⟩⟩:=a
 obtain ⟨⟨b⟩⟩:=b
 simp only at h
 rw [h]
abbrev mkB (l:List UInt8):ByteArray:=⟨l.toArray⟩
theorem ED (l:List UInt8):(mkB l).data.toList=l:=by simp
theorem MW (s:ByteArray):mkB s.data.toList=s:=GN (ED _)
theorem Vt (a b:ByteArray):(a++b).data.toList=a.data.toList++b.data.toList:=by rw [ByteArray.data_append];simp
theorem Ei (a:ByteArray):a.data.toList.length=a.size:=rfl
section
variable {c:UInt8}
def Iq (c:UInt8):List UInt8→List (List UInt8)
 | []=>[[]]
 |b::l=>if b=c then []::Iq c l else match Iq c l with
  | []=>[[b]]
  |w::ws=>(b::w)::ws
def G5 (c:UInt8):List (List UInt8)→List UInt8
 | []=>[]
 | [w]=>w
 |w::v::r=>w++c::G5 c (v::r)
theorem AfI (l:List UInt8):Iq c l≠[]:=by
 cases l with
 |nil=>simp [Iq]
 |cons b l=>unfold Iq;split;simp;split<;>simp
theorem PL:∀{w:List UInt8},c ∉ w→Iq c w= [w]
 | [],_=>rfl
 |b::w,h=>by
  have hb:¬b=c:=fun e=>h (by rw [e];exact List.mem_cons_self ..)
  have ih:=PL (w:=w) fun k=>h (List.mem_cons_of_mem _ k)
  unfold Iq
  rw [if_neg hb,ih]
theorem LM:∀{w:List UInt8} (l:List UInt8),c ∉ w→Iq c (w++c::l)=w::Iq c l
 | [],l,_=>by simp [Iq]
 |b::w,l,h=>by
  have hb:¬b=c:=fun e=>h (by rw [e];exact List.mem_cons_self ..)
  have ih:=LM (w:=w) l fun k=>h (List.mem_cons_of_mem _ k)
  rw [List.cons_append,Iq,if_neg hb,ih]
theorem Q9:∀l:List UInt8,(Lib.index l [c] = -1∧c ∉ l)∨∃a r,l=a++c::r∧c ∉ a∧Lib.index l [c] = (a.length:Int)
 | []=>.inl ⟨rfl,by simp⟩
 |b::l=>by
  by_cases e:c=b
  ·subst e
   exact .inr ⟨[],l,rfl,by simp,by unfold Lib.index;rw [if_pos (by simp)];rfl⟩
  ·have hp:¬[c].isPrefixOf (b::l)=true:=by simp [List.isPrefixOf,e]
   rcases Q9 l with ⟨h1,h2⟩|⟨a,r,rfl,h2,h3⟩
   ·refine .inl ⟨by unfold Lib.index;rw [if_neg hp,h1];rfl,fun k=>?_⟩
    rcases List.mem_cons.1 k with k|k
    ·exact e k
    ·exact h2 k
   ·refine .inr ⟨b::a,r,rfl,fun k=>?_,?_⟩
    ·rcases List.mem_cons.1 k with k|k
     ·exact e k
     ·exact h2 k
    ·unfold Lib.index
     rw [if_neg hp,h3,if_neg (by simp),List.length_cons];omega
theorem Aeb:∀(k:Nat) (l:List UInt8),l.count c=k→Lib.splitK [c] 0 k l=Iq c l
 |0,l,h=>by
  rw [PL (List.count_eq_zero.1 h)];rfl
 |k+1,l,h=>by
  rcases Q9 (c:=c) l with ⟨h1,h2⟩|⟨a,r,rfl,h2,h3⟩
  ·rw [List.count_eq_zero.2 h2] at h;cases h
  ·rw [LM _ h2]
   unfold Lib.splitK
   rw [h3,if_neg (by simp)]
   rw [List.count_append,List.count_cons_self,List.count_eq_zero.2 h2] at h
   have hd:(a++c::r).drop (((a.length:Int)).toNat + [c].length)=r:=by
    rw [Int.toNat_natCast,List.length_singleton,←List.drop_drop,List.drop_left];rfl
   rw [hd,Aeb k r (by omega),Int.toNat_natCast,Nat.add_zero,List.take_left]
def Az (c:UInt8)(s:ByteArray):List ByteArray:=(Iq c s.data.toList).map mkB
theorem Aos (s:ByteArray):Lib.splitB ⟨#[c]⟩ 0 (Lib.countB s ⟨#[c]⟩) s=Az c s:=by
 have h:=Lib.splitB_data ⟨#[c]⟩ 0 (Lib.countB s ⟨#[c]⟩) s
 have hc:Lib.countB s ⟨#[c]⟩=s.data.toList.count c:=Lib.count_one c _
 rw [show (⟨#[c]⟩:ByteArray).data.toList= [c] from rfl,hc,Aeb _ _ rfl] at h
 rw [←hc] at h
 unfold Az
 rw [←h,List.map_map]
 conv=>lhs;rw [←List.map_id (Lib.splitB _ _ _ _)]
 exact List.map_congr_left fun a _=>(MW a).symm
theorem Afo (s:ByteArray):Az c s≠[]:=by unfold Az;simp [AfI]
def Gp (c:UInt8)(l:List ByteArray):ByteArray:=mkB (G5 c (l.map (·.data.toList)))
theorem Xa:∀l:List (List UInt8),Lib.join l [c] = G5 c l
 | []=>rfl
 | [w]=>Lib.join_one w [c]
 |w::v::r=>by
  have ih:=Xa (v::r)
  rw [Lib.join_cons] at ih ⊢
  rw [G5,←ih]
  simp [Lib.joinTail]
theorem UH (l:List ByteArray):(Gp c l).data.toList=G5 c (l.map (·.data.toList)):=ED _
def Cm (c:UInt8)(l:List UInt8):List UInt8×List UInt8×Bool:=if c∈l then (l.takeWhile (fun b=>!decide (b=c)),(l.dropWhile (fun b=>!decide (b=c))).drop 1,true) else (l,[],false)
theorem Wl:∀{a:List UInt8} (r:List UInt8),c ∉ a→(a++c::r).takeWhile (fun b=>!decide (b=c))=a∧(a++c::r).dropWhile (fun b=>!decide (b=c))=c::r
 | [],r,_=>by simp
 |b::a,r,h=>by
  have hb:¬b=c:=fun e=>h (by rw [e];exact List.mem_cons_self ..)
  have ih:=Wl (a:=a) r fun k=>h (List.mem_cons_of_mem _ k)
  simp [hb,ih.1,ih.2]
theorem PX {a r:List UInt8}(h:c ∉ a):Cm c (a++c::r)=(a,r,true):=by
 unfold Cm
 rw [if_pos (by simp),(Wl r h).1,(Wl r h).2];rfl
theorem TF {l:List UInt8}(h:c ∉ l):Cm c l=(l,[],false):=by unfold Cm;rw [if_neg h]
theorem Agt {l:List UInt8}(h:c∈l):∃a r,l=a++c::r∧c ∉ a:=by
 rcases Q9 (c:=c) l with ⟨_,h2⟩|⟨a,r,h1,h2,_⟩
 ·exact absurd h h2
 ·exact ⟨a,r,h1,h2⟩
end
-- names
theorem Ave {s:ByteArray}(h:nameB s=true):∀c∈s.data.toList,(97≤c.toNat∧c.toNat≤122)∨(48≤c.toNat∧c.toNat≤57):=by
 intro c hc
 unfold nameB at h
 simp only [Bool.and_eq_true,List.all_eq_true] at h
 obtain ⟨i,hi,rfl⟩:=List.getElem_of_mem hc
 have:=h.2 i (List.mem_range.2 hi)
 have he:s[i]? = some s.data.toList[i]:=by
  rw [getElem?_pos s i hi]
  rfl
 rw [he] at this
 simp only [GV,Bool.or_eq_true,Bool.and_eq_true,decide_eq_true_eq] at this
 omega
theorem Yw {s:ByteArray}(h:nameB s=true):s.data.toList≠[]:=by
 unfold nameB at h
 simp only [Bool.and_eq_true,decide_eq_true_eq] at h
 intro e
 have:s.size=0:=by rw [←Ei,e];rfl
 omega
theorem QZ {s:ByteArray}(h:nameB s=true){c:UInt8}(hc:c.toNat<48∨(57<c.toNat∧c.toNat<97)):c ∉ s.data.toList:=fun k=>by have:=Ave h c k;omega
end Go.Vm
end
section
namespace Punnet.Name
set_option maxRecDepth 10000
def Fb (c:UInt8):Bool:=decide (32≤c.toNat)&&decide (c.toNat≤126)&&decide (c.toNat≠34)&&decide (c.toNat≠92)
def hexD (c:UInt8):Option Nat:=if 48≤c.toNat∧c.toNat≤57 then some (c.toNat-48) else if 97≤c.toNat∧c.toNat≤102 then some (c.toNat-87) else none
def hexOf (n:Nat):UInt8:=UInt8.ofNat (if n<10 then 48+n else 87+n)
def IK (a b:UInt8):Option UInt8:=match hexD a,hexD b with
 |some h,some l=>if Fb (UInt8.ofNat (16*h+l)) then none else some (UInt8.ofNat (16*h+l))
 |_,_=>none
def Sj:List UInt8→Option (UInt8×Nat)
 |a::b::_=>(IK a b).map fun x=>(x,2)
 |_=>none
def sign:List UInt8→Option (UInt8×Nat)
 | []=>none
 |c::r=>if c.toNat=92 then Sj r else if Fb c then some (c,0) else none
def ES (l:List UInt8)(k:Nat):Option (List UInt8×Nat):=
 if h:k<l.length then
  if l[k].toNat=34 then some ([],k+1)
  else match sign (l.drop k) with
   |none=>none
   |some (c,n)=>(ES l (k+n+1)).map fun p=>(c::p.1,p.2)
 else none
 termination_by l.length-k
def DX (l:List UInt8)(k:Nat):Option (List UInt8×Nat):=
 if h:k<l.length then (if l[k].toNat=34 then ES l (k+1) else none) else none
theorem UA {l:List UInt8}{k:Nat}(h:¬k<l.length):ES l k=none:=by rw [ES,dif_neg h]
theorem RX {l:List UInt8}{k:Nat}(h:k<l.length)(hq:l[k].toNat=34):ES l k=some ([],k+1):=by rw [ES,dif_pos h,if_pos hq]
theorem Oh {l:List UInt8}{k:Nat}(h:k<l.length)(hq:l[k].toNat≠34)(hs:sign (l.drop k)=none):ES l k=none:=by
 rw [ES,dif_pos h,if_neg hq,hs]
theorem TJ {l:List UInt8}{k n:Nat}{c:UInt8}(h:k<l.length)(hq:l[k].toNat≠34)(hs:sign (l.drop k)=some (c,n)):ES l k=(ES l (k+n+1)).map fun p=>(c::p.1,p.2):=by
 rw [ES,dif_pos h,if_neg hq,hs]
theorem drop_cons {l:List UInt8}{k:Nat}(h:k<l.length):l.drop k=l[k]::l.drop (k+1):=List.drop_eq_getElem_cons h
theorem Afu {l:List UInt8}{k:Nat}(h:k<l.length)(h1:l[k].toNat≠92)(h2:Fb l[k] = true):sign (l.drop k)=some (l[k],0):=by
 rw [drop_cons h,sign,if_neg h1,if_pos h2]
theorem AvB {l:List UInt8}{k:Nat}(h:k<l.length)(h1:l[k].toNat≠92)(h2:Fb l[k] = false):sign (l.drop k)=none:=by
 rw [drop_cons h,sign,if_neg h1,if_neg (by rw [h2];decide)]
theorem AqS {l:List UInt8}{k:Nat}(h:k<l.length)(h1:l[k].toNat=92)(h2:l.length<k+3):sign (l.drop k)=none:=by
 rw [drop_cons h,sign,if_pos h1]
 have hl:(l.drop (k+1)).length<2:=by rw [List.length_drop];omega
 match l.drop (k+1),hl with
 | [],_=>rfl
 | [_],_=>rfl
theorem Ant {l:List UInt8}{k:Nat}(h:k+2<l.length)(h1:l[k].toNat=92):sign (l.drop k)=(IK l[k+1] l[k+2]).map fun x=>(x,2):=by
 rw [drop_cons (by omega),sign,if_pos h1,drop_cons (show k+1<l.length by omega),drop_cons (show k+1+1<l.length by omega)];rfl
theorem Atu {l:List UInt8}:∀{k e:Nat} {t:List UInt8},ES l k=some (t,e)→k<e∧e≤l.length:=by
 intro k
 induction hn:l.length-k using Nat.strongRecOn generalizing k with
 |_ n ih=>
  intro e t h
  by_cases hk:k<l.length
  ·by_cases hq:l[k].toNat=34
   ·rw [RX hk hq] at h
    injection h with h
    injection h with h1 h2
    omega
   ·cases hs:sign (l.drop k) with
    |none=>rw [Oh hk hq hs] at h;cases h
    |some p=>
     obtain ⟨c,m⟩:=p
     rw [TJ hk hq hs] at h
     cases hb:ES l (k+m+1) with
     |none=>rw [hb] at h;cases h
     |some p=>
      obtain ⟨t',e'⟩:=p
      rw [hb] at h
      injection h with h
      injection h with h1 h2
      have:=ih (l.length-(k+m+1)) (by omega) rfl hb
      omega
  ·rw [UA hk] at h;cases h
theorem Qd {l:List UInt8}{k e:Nat}{t:List UInt8}(h:DX l k=some (t,e)):k<e∧e≤l.length:=by
 unfold DX at h
 split at h
 ·split at h
  ·have:=Atu h;omega
  ·cases h
 ·cases h
end Punnet.Name
end
section
namespace Go.Proofs.YtdfbohaohjaloaaGreatDoor
set_option maxRecDepth 10000
open Go.RowKit Punnet.Name
theorem TB (c:UInt8)(w:World):Calls Tryz.prog 154 #[.int .u8 (c.toNat:Int)] w fun e w'=>e=.returned (.bool (Fb c))∧w=w':=by
 have H:=Lib.hid (show Fb c=(decide (32≤c.toNat)&&decide (c.toNat≤126)&&decide (c.toNat≠34)&&decide (c.toNat≠92)) from rfl)
 have key:(c.toNat<32∧Fb c=false)∨(32≤c.toNat∧126<c.toNat∧Fb c=false)∨(32≤c.toNat∧c.toNat≤126∧(((c.toNat:Int) != 34)=false)∧Fb c=false) ∨
  (32≤c.toNat∧c.toNat≤126∧(((c.toNat:Int) != 34)=true)∧(((c.toNat:Int) != 92)=false)∧Fb c=false)∨(32≤c.toNat∧c.toNat≤126∧(((c.toNat:Int) != 34)=true)∧(((c.toNat:Int) != 92)=true)∧Fb c=true):=by
  rw [H.out]
  generalize c.toNat=n
  by_cases h1:32≤n
  ·by_cases h2:n≤126
   ·by_cases h3:n=34
    ·right;right;left;subst h3;exact ⟨h1,h2,rfl,rfl⟩
    ·have b3:((n:Int) != 34)=true:=by rw [bne_iff_ne];omega
     by_cases h4:n=92
     ·right;right;right;left;subst h4;exact ⟨h1,h2,rfl,rfl,rfl⟩
     ·have b4:((n:Int) != 92)=true:=by rw [bne_iff_ne];omega
      right;right;right;right;exact ⟨h1,h2,b3,b4,by simp [h1,h2,h3,h4]⟩
   ·right;left;exact ⟨h1,by omega,by simp [h2]⟩
  ·left;exact ⟨by omega,by simp [h1]⟩
 clear H
 rcases key with ⟨h1,h⟩|⟨h1,h2,h⟩|⟨h1,h2,h3,h⟩|⟨h1,h2,h3,h4,h⟩|⟨h1,h2,h3,h4,h⟩
 all_goals
  have HV:=Lib.hid h
  clear h
  go_enter Tryz.func154,Tryz.ntmps154
  go_wp2
  go_ret
  exact ⟨FM (by rw [HV.out]),rfl⟩
theorem Qk {c:UInt8}{h:Nat}(hh:hexD c=some h)(w:World):Calls Tryz.prog 228 #[.int .u8 (c.toNat:Int)] w fun e w'=>e=.returned (.tuple #[.int .u8 (h:Int),.bool true])∧w=w':=by
 unfold hexD at hh
 split at hh
 ·rename_i hc
  injection hh with hh
  obtain ⟨h1,h2⟩:=hc
  have HE:=Lib.hid (show ((c.toNat:Int)-48)=(h:Int) by omega)
  clear hh
  go_enter Tryz.func228,Tryz.ntmps228
  go_wp2
  go_ret2
  exact ⟨by rw [←HE.out];rfl,rfl⟩
 ·split at hh
  ·rename_i hc
   injection hh with hh
   obtain ⟨h1,h2⟩:=hc
   have h3:¬(c.toNat:Int)≤57:=by omega
   have HE:=Lib.hid (show ((c.toNat:Int)-97+10)=(h:Int) by omega)
   clear hh
   go_enter Tryz.func228,Tryz.ntmps228
   go_wp2
   go_ret2
   exact ⟨by rw [←HE.out];rfl,rfl⟩
  ·cases hh
theorem UR {c:UInt8}(hh:hexD c=none)(w:World):Calls Tryz.prog 228 #[.int .u8 (c.toNat:Int)] w fun e w'=>e=.returned (.tuple #[.int .u8 0,.bool false])∧w=w':=by
 unfold hexD at hh
 split at hh
 ·cases hh
 ·rename_i h1
  split at hh
  ·cases hh
  ·rename_i h2
   have key:c.toNat<48∨(57<c.toNat∧c.toNat<97)∨102<c.toNat:=by omega
   clear h1 h2 hh
   rcases key with h|⟨h,h'⟩|h
   all_goals
    go_enter Tryz.func228,Tryz.ntmps228
    go_wp2
    go_ret2
    exact ⟨rfl,rfl⟩
theorem QQ {c:UInt8}{h:Nat}(hh:hexD c=some h):h<16:=by
 unfold hexD at hh
 split at hh
 ·injection hh;omega
 ·split at hh
  ·injection hh;omega
  ·cases hh
theorem ZF {a b:Nat}(ha:a<16)(hb:b<16):bits .or .u8 ((a:Int)*16) (b:Int)=((16*a+b:Nat):Int):=by
 have h:=u8_or_nat (a*16) b (by omega) (by omega)
 have e:a*16 ||| b=16*a+b:=by
  have:=Nat.shiftLeft_add_eq_or_of_lt (i:=4) (b:=b) (by omega) a
  rw [Nat.shiftLeft_eq] at this
  rw [←this];omega
 rw [e] at h
 rw [←h]
 congr 1
set_option maxHeartbeats 400000 in
theorem AeV (s:ByteArray)(k:Nat)(w:World)(hs:s.size≤maxLen)(hk:k<s.size)(h:s.size<k+3) :
 Calls Tryz.prog 155 #[.string s,.int .i64 k] w fun e w'=>e=.returned (.tuple #[.int .u8 0,.bool false])∧w=w':=by
 unfold maxLen at hs
 have h':(s.size:Int)-k<3:=by omega
 go_enter Tryz.func155,Tryz.ntmps155
 go_wp2
 go_ret2
 exact ⟨rfl,rfl⟩
set_option maxHeartbeats 400000 in
theorem Auy (s:ByteArray)(k:Nat)(w:World)(hs:s.size≤maxLen)(hk:k+2<s.size){x:UInt8}(h:IK s[k+1] s[k+2] = some x) :
 Calls Tryz.prog 155 #[.string s,.int .i64 k] w fun e w'=>e=.returned (.tuple #[.int .u8 (x.toNat:Int),.bool true])∧w=w':=by
 unfold maxLen at hs
 unfold IK at h
 cases h1:hexD s[k+1] with
 |none=>rw [h1] at h;cases h
 |some a=>
  cases h2:hexD s[k+2] with
  |none=>rw [h1,h2] at h;cases h
  |some b=>
   rw [h1,h2] at h
   simp only at h
   split at h
   ·cases h
   ·rename_i hp
    injection h with h
    have D1:=Lib.hid (Qk h1)
    have D2:=Lib.hid (Qk h2)
    have la:=QQ h1
    have lb:=QQ h2
    have P:=Lib.hid (TB (UInt8.ofNat (16*a+b)))
    rw [Bool.not_eq_true] at hp
    rw [hp] at P
    have hx:x.toNat=16*a+b:=by rw [←h,UInt8.toNat_ofNat'];omega
    rw [h] at P
    have hor:bits .or .u8 ((a:Int)*16) (b:Int)=(x.toNat:Int):=by rw [ZF la lb,hx]
    clear h1 h2 hp h hx
    have hb:¬(s.size:Int)-k<3:=by omega
    go_enter Tryz.func155,Tryz.ntmps155
    go_wp2_with fail
    refine (D1.out _).mono ?_
    rintro e w1 ⟨rfl,rfl⟩
    go_wp2_with fail
    refine (D2.out _).mono ?_
    rintro e w1 ⟨rfl,rfl⟩
    go_wp2_with fail
    refine (P.out _).mono ?_
    rintro e w1 ⟨rfl,rfl⟩
    go_wp2_with fail
    go_ret2
    exact ⟨rfl,rfl⟩
def AuB (w:World)(e:Ending)(w':World):Prop:=∃n:Int,e=.returned (.tuple #[.int .u8 n,.bool false])∧w=w'
set_option maxHeartbeats 800000 in
theorem Afe (s:ByteArray)(k:Nat)(w:World)(hs:s.size≤maxLen)(hk:k+2<s.size)(h:IK s[k+1] s[k+2] = none) :
 Calls Tryz.prog 155 #[.string s,.int .i64 k] w (AuB w):=by
 unfold maxLen at hs
 have hb:¬(s.size:Int)-k<3:=by omega
 unfold IK at h
 cases h1:hexD s[k+1] with
 |none=>
  have D1:=Lib.hid (UR h1)
  cases h2:hexD s[k+2] with
  |none=>
   have D2:=Lib.hid (UR h2)
   clear h1 h2 h
   go_enter Tryz.func155,Tryz.ntmps155
   go_wp2_with fail
   refine (D1.out _).mono ?_
   rintro e w1 ⟨rfl,rfl⟩
   go_wp2_with fail
   refine (D2.out _).mono ?_
   rintro e w1 ⟨rfl,rfl⟩
   go_wp2_with fail
   go_ret2
   exact ⟨_,rfl,rfl⟩
  |some b=>
   have D2:=Lib.hid (Qk h2)
   have lb:=QQ h2
   clear h1 h2 h
   go_enter Tryz.func155,Tryz.ntmps155
   go_wp2_with fail
   refine (D1.out _).mono ?_
   rintro e w1 ⟨rfl,rfl⟩
   go_wp2_with fail
   refine (D2.out _).mono ?_
   rintro e w1 ⟨rfl,rfl⟩
   go_wp2_with fail
   go_ret2
   exact ⟨_,rfl,rfl⟩
 |some a=>
  have D1:=Lib.hid (Qk h1)
  have la:=QQ h1
  cases h2:hexD s[k+2] with
  |none=>
   have D2:=Lib.hid (UR h2)
   clear h1 h2 h
   go_enter Tryz.func155,Tryz.ntmps155
   go_wp2_with fail
   refine (D1.out _).mono ?_
   rintro e w1 ⟨rfl,rfl⟩
   go_wp2_with fail
   refine (D2.out _).mono ?_
   rintro e w1 ⟨rfl,rfl⟩
   go_wp2_with fail
   go_ret2
   exact ⟨_,rfl,rfl⟩
  |some b=>
   rw [h1,h2] at h
   simp only at h
   split at h
   ·rename_i hp
    have D2:=Lib.hid (Qk h2)
    have lb:=QQ h2
    have P:=Lib.hid (TB (UInt8.ofNat (16*a+b)))
    rw [hp] at P
    have hx:(UInt8.ofNat (16*a+b)).toNat=16*a+b:=by rw [UInt8.toNat_ofNat'];omega
    have hor:bits .or .u8 ((a:Int)*16) (b:Int)=((UInt8.ofNat (16*a+b)).toNat:Int):=by rw [ZF la lb,hx]
    clear h1 h2 hp h hx
    generalize UInt8.ofNat (16*a+b)=x at *
    go_enter Tryz.func155,Tryz.ntmps155
    go_wp2_with fail
    refine (D1.out _).mono ?_
    rintro e w1 ⟨rfl,rfl⟩
    go_wp2_with fail
    refine (D2.out _).mono ?_
    rintro e w1 ⟨rfl,rfl⟩
    go_wp2_with fail
    refine (P.out _).mono ?_
    rintro e w1 ⟨rfl,rfl⟩
    go_wp2_with fail
    go_ret2
    exact ⟨_,rfl,rfl⟩
   ·cases h
end Go.Proofs.YtdfbohaohjaloaaGreatDoor
end
section
namespace Go.Proofs.YtdfbohaohjaloaaGreatDoor
set_option maxRecDepth 10000
open Go.RowKit Punnet.Name
theorem E5 (s:ByteArray)(k:Nat)(h:k<s.size):s.data.toList[k]'(by simpa using h)=s[k]:=by simp;rfl
def cellsOf (l:List UInt8):List Value:=l.map fun b=>.int .u8 (b.toNat:Int)
theorem Yv (l:List UInt8)(b:UInt8):cellsOf (l ++ [b])=cellsOf l ++ [.int .u8 (b.toNat:Int)]:=by simp [cellsOf]
theorem Aaj:(Tryz.prog.info? 5).map (fun i=>(i.zero,i.size,i.bytes))=some (some (.int .u8 0),1,1):=by kernel_rfl
def MX (s:ByteArray)(k0:Nat)(w:World)(k:Nat)(T:List UInt8)(v:Value)(w':World):Prop:=
 k≤s.size∧T.length≤k∧w'.ownsRow w.heap.size 5 1 v T.length (cellsOf T)∧Below w.heap.size w w'∧DX s.data.toList k0=(ES s.data.toList k).map fun p=>(T++p.1,p.2)
def Quoted (s:ByteArray)(k0:Nat)(w:World)(e:Ending)(w':World):Prop:=
 (DX s.data.toList k0=none∧e=.returned (.tuple #[.slice none 0 0,.int .i64 0,.bool false])∧Below w.heap.size w w') ∨
 ∃(t:List UInt8) (n:Nat) (v:Value),DX s.data.toList k0=some (t,n)∧e=.returned (.tuple #[v,.int .i64 (n:Int),.bool true])∧w'.ownsRow w.heap.size 5 1 v t.length (cellsOf t)∧Below w.heap.size w w'
def AnU (s:ByteArray)(k0:Nat)(w:World)(a':Act)(w':World):Prop:=
 ∃(k:Nat) (T:List UInt8) (v:Value) (u8 u9 u10 u11 u12 u13 u14 u15 u16 u17 u18 u19 u20 u21 u22 u23 u24 u25 u26 u27 u28 u29 u30 u31 u32 u33 u34 u35 u36 u37 u38 u39 u40 u41 u42 u43 u44 u45 u46 u47 u48 u49 u50 u51 u52 u53 u54 u55 u56 u57 u58:Value),a' = { tmps:=#[.string s,.int .i64 (k:Int),undef,undef,.slice none 0 0,.int .i64 0,.bool false,v,u8,u9,u10,u11,u12,u13,u14,u15,u16,u17,u18,u19,u20,u21,u22,u23,u24,u25,u26,u27,u28,u29,u30,u31,u32,u33,u34,u35,u36,u37,u38,u39,u40,u41,u42,u43,u44,u45,u46,u47,u48,u49,u50,u51,u52,u53,u54,u55,u56,u57,u58],defers:=[] }∧MX s k0 w k T v w'
def AuD (s:ByteArray)(k0:Nat)(w:World)(a':Act)(w':World):Prop:=
 ∃(k:Nat) (T:List UInt8) (v:Value) (u8 u9 u10 u11 u12 u13 u14 u15 u16 u17 u18 u19 u20 u21 u22 u23 u24 u25 u26 u27 u28 u29 u30 u31 u32 u33 u34 u35 u36 u37 u38 u39 u40 u41 u42 u43 u44 u45 u46 u47 u48 u49 u50 u51 u52 u53 u54 u55 u56 u57 u58:Value),a' = { tmps:=#[.string s,.int .i64 (k:Int),undef,undef,.slice none 0 0,.int .i64 0,.bool false,v,u8,u9,u10,u11,u12,u13,u14,u15,u16,u17,u18,u19,u20,u21,u22,u23,u24,u25,u26,u27,u28,u29,u30,u31,u32,u33,u34,u35,u36,u37,u38,u39,u40,u41,u42,u43,u44,u45,u46,u47,u48,u49,u50,u51,u52,u53,u54,u55,u56,u57,u58],defers:=[] }∧MX s k0 w k T v w'∧∃h:k<s.size,s[k].toNat=92
def Aoe (s:ByteArray)(k0:Nat)(w:World)(a':Act)(w':World):Prop:=
 ∃(k:Nat) (T:List UInt8) (v:Value) (u8 u9 u10 u11 u12 u13 u14 u15 u16 u17 u18 u19 u20 u21 u22 u23 u24 u25 u26 u27 u28 u29 u30 u31 u32 u33 u34 u35 u36 u37 u38 u39 u40 u41 u42 u43 u44 u45 u46 u47 u48 u49 u50 u51 u52 u53 u54 u55 u56 u57 u58:Value),a' = { tmps:=#[.string s,.int .i64 (k:Int),undef,undef,.slice none 0 0,.int .i64 0,.bool false,v,u8,u9,u10,u11,u12,u13,u14,u15,u16,u17,u18,u19,u20,u21,u22,u23,u24,u25,u26,u27,u28,u29,u30,u31,u32,u33,u34,u35,u36,u37,u38,u39,u40,u41,u42,u43,u44,u45,u46,u47,u48,u49,u50,u51,u52,u53,u54,u55,u56,u57,u58],defers:=[] }∧MX s k0 w k T v w'∧∃h:k<s.size,s[k].toNat=34
theorem Tq {s:ByteArray}{k0:Nat}{w:World}{k:Nat}{T:List UInt8}{v:Value}{w':World}(h:MX s k0 w k T v w')(hb:ES s.data.toList k=none):DX s.data.toList k0=none:=by rw [h.2.2.2.2,hb];rfl
theorem AqJ {s:ByteArray}{k0:Nat}{w:World}{k:Nat}{T:List UInt8}{v:Value}{w':World}(h:MX s k0 w k T v w')(hk:k<s.size)(hq:s[k].toNat=34):DX s.data.toList k0=some (T,k+1):=by
 rw [h.2.2.2.2,RX (by simpa using hk) (by rw [E5 s k hk];exact hq)];simp
theorem ZA {s:ByteArray}{k0:Nat}{w:World}{k:Nat}{T:List UInt8}{v v':Value}{w' w2:World}(h:MX s k0 w k T v w')(hk:k<s.size)(hq:s[k].toNat≠34){c:UInt8}{n:Nat}(hs:sign (s.data.toList.drop k)=some (c,n))(hn:k+n+1≤s.size)
 (ho:w2.ownsRow w.heap.size 5 1 v' (T.length+1) (cellsOf T ++ [.int .u8 (c.toNat:Int)])) (hb:Below w.heap.size w' w2):MX s k0 w (k+n+1) (T ++ [c]) v' w2:=by
 obtain ⟨h1,h2,h3,h4,h5⟩:=h
 refine ⟨hn,by simp;omega,by rw [Yv,List.length_append,List.length_singleton];exact ho,h4.trans hb,?_⟩
 rw [h5,TJ (by simpa using hk) (by rw [E5 s k hk];exact hq) hs]
 cases ES s.data.toList (k+n+1) with
 |none=>rfl
 |some p=>simp
set_option maxHeartbeats 2000000 in
theorem ApY (s:ByteArray)(k0:Nat)(w:World)(hs:s.size≤16777216)(hk0:k0<s.size)(hq:s[k0].toNat=34) :
 Calls Tryz.prog 99 #[.string s,.int .i64 (k0:Int)] w (Quoted s k0 w):=by
 obtain ⟨i0,hi0,hz0,hz1,hz2⟩:=info_parts Aaj
 have hk0':¬(s.size:Int)≤k0:=by omega
 have b34:((s[k0].toNat:Int) != 34)=false:=by rw [bne_eq_false_iff_eq];omega
 have hml:s.size≤9223372036854775807:=by omega
 go_enter Tryz.func99,Tryz.ntmps99
 go_wp2
 refine Avg (AnU s k0 w) (Aoe s k0 w) (AuD s k0 w) (fun a' _=>3*(s.size-(intOf (a'.tmps.getD 1 undef)).toNat)+2) (fun _ _=>0) (fun a' _=>3*(s.size-(intOf (a'.tmps.getD 1 undef)).toNat)+1) rfl rfl rfl ?_ ?_ ?_ ?_
 ·clear b34 hk0' hq
  rintro a' w' ⟨k,T,v,u8,u9,u10,u11,u12,u13,u14,u15,u16,u17,u18,u19,u20,u21,u22,u23,u24,u25,u26,u27,u28,u29,u30,u31,u32,u33,u34,u35,u36,u37,u38,u39,u40,u41,u42,u43,u44,u45,u46,u47,u48,u49,u50,u51,u52,u53,u54,u55,u56,u57,u58,rfl,hr⟩
  have hks:=hr.1
  have hT:=hr.2.1
  have hown:=Lib.hid hr.2.2.1
  have hbw:=hr.2.2.2.1
  have HR:=Lib.hid hr
  clear hr
  by_cases hlt:k<s.size
  ·have hlt':¬(s.size:Int)≤k:=by omega
   have hl:k<s.data.toList.length:=by simpa using hlt
   by_cases h34:s[k].toNat=34
   ·have b1:((s[k].toNat:Int)==34)=true:=beq_iff_eq.2 (by omega)
    have H34:=Lib.hid h34
    clear h34
    go_wp2
    go_step3
    refine ⟨⟨_,_,_,_,_,_,_,_,_,_,_,_,_,_,_,_,_,_,_,_,_,_,_,_,_,_,_,_,_,_,_,_,_,_,_,_,_,_,_,_,_,_,_,_,_,_,_,_,_,_,_,_,_,_,rfl,HR.out,hlt,H34.out⟩,?_⟩
    show 0 < _
    omega
   ·have b1:((s[k].toNat:Int)==34)=false:=beq_eq_false_iff_ne.2 (by omega)
    by_cases h92:s[k].toNat=92
    ·have b2:((s[k].toNat:Int)==92)=true:=beq_iff_eq.2 (by omega)
     have H92:=Lib.hid h92
     clear h92 h34
     go_wp2
     go_step3
     refine ⟨⟨_,_,_,_,_,_,_,_,_,_,_,_,_,_,_,_,_,_,_,_,_,_,_,_,_,_,_,_,_,_,_,_,_,_,_,_,_,_,_,_,_,_,_,_,_,_,_,_,_,_,_,_,_,_,rfl,HR.out,hlt,H92.out⟩,?_⟩
     show 3*(s.size-(intOf (Value.int .i64 (k:Int))).toNat)+1<3*(s.size-(intOf (Value.int .i64 (k:Int))).toNat)+2
     omega
    ·have b2:((s[k].toNat:Int)==92)=false:=beq_eq_false_iff_ne.2 (by omega)
     have P:=Lib.hid (TB s[k])
     cases hp:Fb s[k] with
     |true=>
      rw [hp] at P
      have HN:=Lib.hid (fun v' w2=>ZA (v':=v') (w2:=w2) HR.out hlt h34 (Afu hl (by rw [E5 s k hlt];exact h92) (by rw [E5 s k hlt];exact hp)))
      rw [E5 s k hlt] at HN
      clear hp h34 h92
      go_wp2_with (first|(go_at_call 154;refine (P.out _).mono ?_;rintro e w1 ⟨rfl,rfl⟩)|(at_builtin;go_must (refine JR rfl (.tmp 36) (.tmp 38) _ rfl w.heap.size 5 i0 _ 1 Tryz.underlying109 hi0 hz0 hz1 hz2 rfl 5 (.int .u8 (s[k].toNat:Int)) rfl v T.length (cellsOf T) rfl hown.out rfl (by simp only [maxLen];omega) (by omega) hbw.size ?_;intro v1 w1 ho1 hb1)))
      go_step3
      refine ⟨⟨_,_,_,_,_,_,_,_,_,_,_,_,_,_,_,_,_,_,_,_,_,_,_,_,_,_,_,_,_,_,_,_,_,_,_,_,_,_,_,_,_,_,_,_,_,_,_,_,_,_,_,_,_,_,rfl,HN.out v1 w1 (by omega) ho1 hb1⟩,?_⟩
      show 3*(s.size-(intOf (Value.int .i64 ((k:Int)+1))).toNat)+2<3*(s.size-(intOf (Value.int .i64 (k:Int))).toNat)+2
      simp only [intOf]
      omega
     |false=>
      rw [hp] at P
      have HQ:=Lib.hid (Tq HR.out (Oh hl (by rw [E5 s k hlt];exact h34) (AvB hl (by rw [E5 s k hlt];exact h92) (by rw [E5 s k hlt];exact hp))))
      clear hp h34 h92
      go_wp2_with (go_at_call 154;refine (P.out _).mono ?_;rintro e w1 ⟨rfl,rfl⟩)
      simp only [Exit.jumps]
      go_ret3
      exact .inl ⟨HQ.out,rfl,hbw⟩
  ·have hlt':(s.size:Int)≤k:=by omega
   have HQ:=Lib.hid (Tq HR.out (UA (by simpa using hlt)))
   go_wp2
   simp only [Exit.jumps]
   go_ret3
   exact .inl ⟨HQ.out,rfl,hbw⟩
 ·clear b34 hk0' hq
  rintro a' w' ⟨k,T,v,u8,u9,u10,u11,u12,u13,u14,u15,u16,u17,u18,u19,u20,u21,u22,u23,u24,u25,u26,u27,u28,u29,u30,u31,u32,u33,u34,u35,u36,u37,u38,u39,u40,u41,u42,u43,u44,u45,u46,u47,u48,u49,u50,u51,u52,u53,u54,u55,u56,u57,u58,rfl,hr,hk,h34⟩
  have HE:=Lib.hid (AqJ hr hk h34)
  have hown:=Lib.hid hr.2.2.1
  have hbw:=hr.2.2.2.1
  clear hr h34
  go_wp2
  simp only [Exit.jumps]
  go_ret3
  exact .inr ⟨T,k+1,v,HE.out,rfl,hown.out,hbw⟩
 ·rintro a' w' ⟨k,T,v,u8,u9,u10,u11,u12,u13,u14,u15,u16,u17,u18,u19,u20,u21,u22,u23,u24,u25,u26,u27,u28,u29,u30,u31,u32,u33,u34,u35,u36,u37,u38,u39,u40,u41,u42,u43,u44,u45,u46,u47,u48,u49,u50,u51,u52,u53,u54,u55,u56,u57,u58,rfl,hr,hk,h92⟩
  clear b34 hk0' hq
  have hks:=hr.1
  have hT:=hr.2.1
  have hown:=Lib.hid hr.2.2.1
  have hbw:=hr.2.2.2.1
  have HR:=Lib.hid hr
  clear hr
  have hl:k<s.data.toList.length:=by simpa using hk
  have hms:s.size≤maxLen:=by simp only [maxLen];omega
  have g92:s.data.toList[k].toNat=92:=by rw [E5 s k hk];exact h92
  have g34:s.data.toList[k].toNat≠34:=by omega
  by_cases h3:k+2<s.size
  ·have hsg:=Ant (l:=s.data.toList) (k:=k) (by simpa using h3) g92
   rw [E5 s (k+1) (by omega),E5 s (k+2) h3] at hsg
   cases hc:IK s[k+1] s[k+2] with
   |none=>
    rw [hc] at hsg
    have C:=Lib.hid (fun w=>Afe s k w hms h3 hc)
    have HQ:=Lib.hid (Tq HR.out (Oh hl g34 hsg))
    clear hc hsg g92 g34 h92
    go_wp2_with (go_at_call 155;refine (C.out _).mono ?_;rintro e w1 ⟨n,rfl,rfl⟩)
    simp only [Exit.jumps]
    go_ret3
    exact .inl ⟨HQ.out,rfl,hbw⟩
   |some x=>
    rw [hc] at hsg
    have C:=Lib.hid (fun w=>Auy s k w hms h3 hc)
    have HN:=Lib.hid (fun v' w2=>ZA (v':=v') (w2:=w2) (n:=2) HR.out hk (by omega) hsg)
    clear hc hsg g92 g34 h92
    go_wp2_with (first|(go_at_call 155;refine (C.out _).mono ?_;rintro e w1 ⟨rfl,rfl⟩)|(at_builtin;go_must (refine JR rfl (.tmp 50) (.tmp 52) _ rfl w.heap.size 5 i0 _ 1 Tryz.underlying109 hi0 hz0 hz1 hz2 rfl 5 (.int .u8 (x.toNat:Int)) rfl v T.length (cellsOf T) rfl hown.out rfl (by simp only [maxLen];omega) (by omega) hbw.size ?_;intro v1 w1 ho1 hb1)))
    go_step3
    refine ⟨⟨_,_,_,_,_,_,_,_,_,_,_,_,_,_,_,_,_,_,_,_,_,_,_,_,_,_,_,_,_,_,_,_,_,_,_,_,_,_,_,_,_,_,_,_,_,_,_,_,_,_,_,_,_,_,rfl,HN.out v1 w1 (by omega) ho1 hb1⟩,?_⟩
    show 3*(s.size-(intOf (Value.int .i64 ((k:Int)+3))).toNat)+2<3*(s.size-(intOf (Value.int .i64 (k:Int))).toNat)+1
    simp only [intOf]
    omega
  ·have C:=Lib.hid (fun w=>AeV s k w hms hk (by omega))
   have HQ:=Lib.hid (Tq HR.out (Oh hl g34 (AqS hl g92 (by simp;omega))))
   clear g92 g34 h92
   go_wp2_with (go_at_call 155;refine (C.out _).mono ?_;rintro e w1 ⟨rfl,rfl⟩)
   simp only [Exit.jumps]
   go_ret3
   exact .inl ⟨HQ.out,rfl,hbw⟩
 ·intro HL
  go_wp2
  go_step3
  refine (‹∀(a:Act) (w:World),Code.wp _ _ _ a w→_› : _) _ _ (HL.out _ _ ?_)
  refine ⟨k0+1,[],.slice none 0 0,_,_,_,_,_,_,_,_,_,_,_,_,_,_,_,_,_,_,_,_,_,_,_,_,_,_,_,_,_,_,_,_,_,_,_,_,_,_,_,_,_,_,_,_,_,_,_,_,_,_,_,rfl,by omega,by simp,⟨rfl,.inl ⟨rfl,rfl⟩⟩,Below.refl _ _,?_⟩
  rw [DX,dif_pos (by simpa using hk0),if_pos (by rw [E5 s k0 hk0];exact hq)]
  simp
end Go.Proofs.YtdfbohaohjaloaaGreatDoor
end
section
namespace Go.Proofs.YtdfbohaohjaloaaGreatDoor
set_option maxRecDepth 10000
open Go.RowKit Punnet.Name
theorem Au1 (s:ByteArray)(k0:Nat)(w:World)(hs:s.size≤16777216)(h:∀hk:k0<s.size,s[k0].toNat≠34) :
 Calls Tryz.prog 99 #[.string s,.int .i64 (k0:Int)] w (Quoted s k0 w):=by
 have hq:DX s.data.toList k0=none:=by
  unfold DX
  split
  ·rename_i hk
   have hk':k0<s.size:=by simpa using hk
   rw [if_neg (by rw [E5 s k0 hk'];exact h hk')]
  ·rfl
 have HQ:=Lib.hid hq
 clear hq
 by_cases hk:k0<s.size
 ·have hk':¬(s.size:Int)≤k0:=by omega
  have h1:=h hk
  have b34:((s[k0].toNat:Int) != 34)=true:=by rw [bne_iff_ne];omega
  clear h h1
  go_enter Tryz.func99,Tryz.ntmps99
  go_wp2
  go_step3
  go_wp2
  rw [Exit.noGoto_ret]
  go_ret3
  exact .inl ⟨HQ.out,rfl,Below.refl _ _⟩
 ·have hk':(s.size:Int)≤k0:=by omega
  clear h
  go_enter Tryz.func99,Tryz.ntmps99
  go_wp2
  go_step3
  go_wp2
  rw [Exit.noGoto_ret]
  go_ret3
  exact .inl ⟨HQ.out,rfl,Below.refl _ _⟩
theorem Acz (s:ByteArray)(k0:Nat)(w:World)(hs:s.size≤16777216) :
 Calls Tryz.prog 99 #[.string s,.int .i64 (k0:Int)] w (Quoted s k0 w):=by
 by_cases h:∃hk:k0<s.size,s[k0].toNat=34
 ·obtain ⟨hk,h34⟩:=h
  exact ApY s k0 w hs hk h34
 ·exact Au1 s k0 w hs fun hk h34=>h ⟨hk,h34⟩
def FK (l:List UInt8)(k:Nat):Nat:=k+((l.drop k).takeWhile fun b=>decide (b.toNat≠32)).length
def BK (l:List UInt8)(k:Nat):Nat:=match DX l k with
 |some (_,e)=>if e=l.length∨l[e]? = some 32 then e else FK l k
 |none=>FK l k
theorem Amh {l:List UInt8}{k e:Nat}(hk:k≤e)(he:e≤l.length)(ha:∀j (h:j<l.length),k≤j→j<e→l[j].toNat≠32)(hs:∀h:e<l.length,l[e].toNat=32):FK l k=e:=by
 have h:∀(n:Nat) (m:List UInt8),n≤m.length→(∀j (h:j<m.length),j<n→m[j].toNat≠32)→(∀h:n<m.length,m[n].toNat=32)→(m.takeWhile fun b=>decide (b.toNat≠32)).length=n:=by
  intro n m
  induction m generalizing n with
  |nil=>intro hn _ _;simp at hn;simp [hn]
  |cons b r ih=>
   intro hn ha hs
   cases n with
   |zero=>
    have hb:b.toNat=32:=hs (by simp)
    rw [List.takeWhile_cons,if_neg (by simp [hb])];rfl
   |succ n=>
    have hb:b.toNat≠32:=ha 0 (by simp) (by omega)
    rw [List.takeWhile_cons,if_pos (by simp [hb]),List.length_cons,ih n (by simpa using hn) (fun j h hj=>ha (j+1) (by simpa using h) (by omega)) (fun h=>hs (by simpa using h))]
 rw [FK,h (e-k) (l.drop k) (by rw [List.length_drop];omega)]
 ·omega
 ·intro j hj hje
  rw [List.length_drop] at hj
  rw [List.getElem_drop]
  exact ha _ _ (by omega) (by omega)
 ·intro hj
  rw [List.length_drop] at hj
  rw [List.getElem_drop]
  have:=hs (by omega)
  rw [show l[k+(e-k)]'(by omega)=l[e]'(by omega) from by congr 1;omega]
  exact this
theorem LH {s:ByteArray}{k j:Nat}(h1:k≤j)(h2:j≤s.size)(hd:∀x (h:x<s.size),k≤x→x<j→s[x].toNat≠32)(hs:∀h:j<s.size,s[j].toNat=32):FK s.data.toList k=j:=by
 have hlen:s.data.toList.length=s.size:=by simp
 refine Amh h1 (by omega) (fun x h hk hx=>?_) (fun h=>?_)
 ·rw [E5 s x (by omega)];exact hd x _ hk hx
 ·rw [E5 s j (by omega)];exact hs _
theorem AjT (s:ByteArray)(k:Nat)(w:World)(hs:s.size≤16777216)(hk:k≤s.size) :
 Calls Tryz.prog 54 #[.string s,.int .i64 (k:Int)] w fun e w'=>e=.returned (.int .i64 (BK s.data.toList k:Int))∧Below w.heap.size w w':=by
 have hml:s.size≤9223372036854775807:=by omega
 go_enter Tryz.func54,Tryz.ntmps54
 go_wp2_with fail
 refine (Acz s k w hs).mono ?_
 rintro e w1 (⟨hq,rfl,hb1⟩|⟨t,n,v,hq,rfl,hown,hb1⟩)
 ·have HW:=Lib.hid (show BK s.data.toList k=FK s.data.toList k by unfold BK;rw [hq])
  clear hq
  go_wp2_with fail
  go_loop [6] (fun i=>∃j:Nat,k≤j∧j≤s.size∧i=.int .i64 (j:Int)∧∀x (h:x<s.size),k≤x→x<j→s[x].toNat≠32) (fun i=>s.size-(intOf i).toNat)
  case atStart=>exact ⟨k,Nat.le_refl _,hk,rfl,fun _ _ h1 h2=>absurd h1 (by omega)⟩
  case round=>
   obtain ⟨j,hj1,hj2,rfl,hd⟩:=hrel
   have HD:=Lib.hid hd
   clear hd
   by_cases hlt:j<s.size
   ·have hlt':(j:Int)<s.size:=by omega
    by_cases hb:s[j].toNat=32
    ·have b32:((s[j].toNat:Int) != 32)=false:=by rw [bne_eq_false_iff_eq];omega
     have HE:=Lib.hid (show BK s.data.toList k=j by rw [HW.out];exact LH hj1 hj2 HD.out (fun _=>hb))
     clear hb
     go_wp2_with fail
     go_ret
     exact ⟨KC (by rw [HE.out]),hb1⟩
    ·have b32:((s[j].toNat:Int) != 32)=true:=by rw [bne_iff_ne];omega
     have HD2:=Lib.hid (show ∀x (h:x<s.size),k≤x→x<j+1→s[x].toNat≠32 from fun x h h1 h2=>by
      by_cases e:x=j
      ·subst e;exact hb
      ·exact HD.out x h h1 (by omega))
     clear hb
     go_wp2_with fail
     go_round
     case rel=>exact ⟨j+1,by omega,by omega,by go_num,HD2.out⟩
     case measure=>simp [intOf];omega
   ·have hlt':¬(j:Int)<s.size:=by omega
    have HE:=Lib.hid (show BK s.data.toList k=j by rw [HW.out];exact LH hj1 hj2 HD.out (fun h=>absurd h hlt))
    go_wp2_with fail
    go_ret
    exact ⟨KC (by rw [HE.out]),hb1⟩
 ·have hle:=Qd hq
  have hlen:s.data.toList.length=s.size:=by simp
  have hn:n≤s.size:=by omega
  have hwe:BK s.data.toList k=if n=s.size∨s.data.toList[n]? = some 32 then n else FK s.data.toList k:=by unfold BK;rw [hq,hlen]
  clear hq hle hown hlen
  by_cases he:n=s.size
  ·have HW:=Lib.hid (show BK s.data.toList k=n by rw [hwe,if_pos (.inl he)])
   have b1:((n:Int)==(s.size:Int))=true:=beq_iff_eq.2 (by omega)
   clear he hwe
   go_wp2_with fail
   go_ret
   exact ⟨KC (by rw [HW.out]),hb1⟩
  ·have b1:((n:Int)==(s.size:Int))=false:=beq_eq_false_iff_ne.2 (by omega)
   have hlt:n<s.size:=by omega
   have hlt':(n:Int)<s.size:=by omega
   have hg:s.data.toList[n]? = some s[n]:=by rw [List.getElem?_eq_getElem (by simpa using hlt),E5 s n hlt]
   by_cases hb:s[n].toNat=32
   ·have HW:=Lib.hid (show BK s.data.toList k=n by
     rw [hwe,if_pos (.inr (by rw [hg];congr 1;exact UInt8.toNat_inj.1 hb))])
    have b2:((s[n].toNat:Int)==32)=true:=beq_iff_eq.2 (by omega)
    clear he hwe hg hb
    go_wp2_with fail
    go_ret
    exact ⟨KC (by rw [HW.out]),hb1⟩
   ·have HW:=Lib.hid (show BK s.data.toList k=FK s.data.toList k by
     rw [hwe,if_neg]
     rintro (h|h)
     ·exact he h
     ·rw [hg] at h;injection h with h;exact hb (by rw [h];rfl))
    have b2:((s[n].toNat:Int)==32)=false:=beq_eq_false_iff_ne.2 (by omega)
    clear he hwe hg hb
    go_wp2_with fail
    go_loop [6] (fun i=>∃j:Nat,k≤j∧j≤s.size∧i=.int .i64 (j:Int)∧∀x (h:x<s.size),k≤x→x<j→s[x].toNat≠32) (fun i=>s.size-(intOf i).toNat)
    case atStart=>exact ⟨k,Nat.le_refl _,hk,rfl,fun _ _ h1 h2=>absurd h1 (by omega)⟩
    case round=>
     obtain ⟨j,hj1,hj2,rfl,hd⟩:=hrel
     have HD:=Lib.hid hd
     clear hd
     by_cases hlt3:j<s.size
     ·have hlt3':(j:Int)<s.size:=by omega
      by_cases hb:s[j].toNat=32
      ·have b32:((s[j].toNat:Int) != 32)=false:=by rw [bne_eq_false_iff_eq];omega
       have HE:=Lib.hid (show BK s.data.toList k=j by rw [HW.out];exact LH hj1 hj2 HD.out (fun _=>hb))
       clear hb
       go_wp2_with fail
       go_ret
       exact ⟨KC (by rw [HE.out]),hb1⟩
      ·have b32:((s[j].toNat:Int) != 32)=true:=by rw [bne_iff_ne];omega
       have HD2:=Lib.hid (show ∀x (h:x<s.size),k≤x→x<j+1→s[x].toNat≠32 from fun x h h1 h2=>by
        by_cases e:x=j
        ·subst e;exact hb
        ·exact HD.out x h h1 (by omega))
       clear hb
       go_wp2_with fail
       go_round
       case rel=>exact ⟨j+1,by omega,by omega,by go_num,HD2.out⟩
       case measure=>simp [intOf];omega
     ·have hlt3':¬(j:Int)<s.size:=by omega
      have HE:=Lib.hid (show BK s.data.toList k=j by rw [HW.out];exact LH hj1 hj2 HD.out (fun h=>absurd h hlt3))
      go_wp2_with fail
      go_ret
      exact ⟨KC (by rw [HE.out]),hb1⟩
end Go.Proofs.YtdfbohaohjaloaaGreatDoor
end
section
namespace Go.Proofs.YtdfbohaohjaloaaGreatDoor
set_option maxRecDepth 10000
open Go.RowKit Punnet.Name
theorem AkC (p:UInt8→Bool)(l:List UInt8):(l.takeWhile p).length≤l.length:=by
 induction l with
 |nil=>simp
 |cons b r ih=>rw [List.takeWhile_cons];split<;>simp<;>omega
theorem AlK (l:List UInt8){k:Nat}(hk:k≤l.length):k≤FK l k∧FK l k≤l.length:=by
 unfold FK
 have h:=AkC (fun b=>decide (b.toNat≠32)) (l.drop k)
 rw [List.length_drop] at h
 omega
theorem Yc (l:List UInt8){k:Nat}(hk:k≤l.length):k≤BK l k∧BK l k≤l.length:=by
 have hb:=AlK l hk
 unfold BK
 cases hq:DX l k with
 |none=>exact hb
 |some p=>
  obtain ⟨t,e⟩:=p
  have:=Qd hq
  simp only
  split
  ·omega
  ·exact hb
def splitB (s:ByteArray)(k:Nat):List ByteArray:=
 if h:k≤s.size∧BK s.data.toList k<s.size then
  s.extract k (BK s.data.toList k)::splitB s (BK s.data.toList k+1)
 else [s.extract k (BK s.data.toList k)]
 termination_by s.size-k
 decreasing_by
  have h1:s.data.toList.length=s.size:=by simp
  have:=Yc s.data.toList (k:=k) (by omega)
  omega
theorem Z9 {s:ByteArray}{k:Nat}(h:¬BK s.data.toList k<s.size):splitB s k= [s.extract k (BK s.data.toList k)]:=by rw [splitB,dif_neg (fun x=>h x.2)]
theorem Ac2 {s:ByteArray}{k:Nat}(hk:k≤s.size)(h:BK s.data.toList k<s.size):splitB s k=s.extract k (BK s.data.toList k)::splitB s (BK s.data.toList k+1):=by rw [splitB,dif_pos ⟨hk,h⟩]
theorem Aan:(Tryz.prog.info? 9).map (fun i=>(i.zero,i.size,i.bytes))=some (some (.string ⟨#[]⟩),1,16):=by kernel_rfl
def strsOf (l:List ByteArray):List Value:=l.map Value.string
theorem Ab6 (l:List ByteArray)(b:ByteArray):strsOf (l ++ [b])=strsOf l ++ [.string b]:=by simp [strsOf]
def Words (w:World)(l:List ByteArray)(e:Ending)(w':World):Prop:=
 ∃v,e=.returned v∧w'.ownsRow w.heap.size 9 1 v l.length (strsOf l)∧Below w.heap.size w w'
def JB (s:ByteArray)(w:World)(k:Nat)(v:Value)(W:List ByteArray)(w':World):Prop:=
 w'.ownsRow w.heap.size 9 1 v W.length (strsOf W)∧Below w.heap.size w w'∧splitB s 0=W++splitB s k
theorem JB.more {s:ByteArray}{w:World}{k:Nat}{v v':Value}{W:List ByteArray}{w1 w2 w3:World}(h:JB s w k v W w1)(hk:k≤s.size)(he:BK s.data.toList k<s.size)(hb:Below w1.heap.size w1 w2)
 (ho:w3.ownsRow w.heap.size 9 1 v' (W.length+1) (strsOf W ++ [.string (s.extract k (BK s.data.toList k))])) (hb2:Below w.heap.size w2 w3):JB s w (BK s.data.toList k+1) v' (W ++ [s.extract k (BK s.data.toList k)]) w3:=by
 obtain ⟨h1,h2,h3⟩:=h
 refine ⟨by rw [Ab6,List.length_append,List.length_singleton];exact ho,(h2.trans (hb.mono h2.size)).trans hb2,?_⟩
 rw [h3,Ac2 hk he];simp
theorem JB.done {s:ByteArray}{w:World}{k:Nat}{v v':Value}{W:List ByteArray}{w1 w2 w3:World}(h:JB s w k v W w1)(he:¬BK s.data.toList k<s.size)(hb:Below w1.heap.size w1 w2)
 (ho:w3.ownsRow w.heap.size 9 1 v' (W.length+1) (strsOf W ++ [.string (s.extract k (BK s.data.toList k))])) (hb2:Below w.heap.size w2 w3):Words w (splitB s 0) (.returned v') w3:=by
 obtain ⟨h1,h2,h3⟩:=h
 rw [h3,Z9 he]
 exact ⟨v',rfl,by rw [Ab6,List.length_append,List.length_singleton];exact ho,(h2.trans (hb.mono h2.size)).trans hb2⟩
theorem Agb (s:ByteArray)(w:World)(hs:s.size≤16777216):Calls Tryz.prog 28 #[.string s] w (Words w (splitB s 0)):=by
 obtain ⟨i0,hi0,hz0,hz1,hz2⟩:=info_parts Aan
 have hlen:s.data.toList.length=s.size:=by simp
 have hml:s.size≤9223372036854775807:=by omega
 have HL:=Lib.hid hlen
 clear hlen
 go_enter Tryz.func28,Tryz.ntmps28
 go_wp2_with fail
 go_loopw [3,4] (fun v i wr=>∃(k:Nat) (W:List ByteArray),i=.int .i64 (k:Int)∧k≤s.size∧W.length≤k∧JB s w k v W wr) (fun _ i _=>s.size-(intOf i).toNat)
 case atStart=>exact ⟨0,[],rfl,Nat.zero_le _,Nat.le_refl _,⟨rfl,.inl ⟨rfl,rfl⟩⟩,Below.refl _ _,by simp⟩
 case round=>
  obtain ⟨k,W,rfl,hk,hW,hr⟩:=hrel
  obtain ⟨e1,e2⟩:=Yc s.data.toList (k:=k) (by have:=HL.out;omega)
  have e3:BK s.data.toList k≤s.size:=by have:=HL.out;omega
  have E:=Lib.hid (fun w=>AjT s k w hs hk)
  have hown:=Lib.hid hr.1
  have hbw:=hr.2.1
  have HM:=Lib.hid (fun he v' w2 w3=>JB.more (v':=v') (w2:=w2) (w3:=w3) hr hk he)
  have HE:=Lib.hid (fun he v' w2 w3=>JB.done (v':=v') (w2:=w2) (w3:=w3) hr he)
  clear hr e2
  generalize BK s.data.toList k=n at *
  have hn1:(k:Int)≤n:=by omega
  have hn2:(n:Int)≤s.size:=by omega
  by_cases he:n<s.size
  ·have b1:((n:Int)==(s.size:Int))=false:=beq_eq_false_iff_ne.2 (by omega)
   have HM:=Lib.hid (HM.out he)
   clear HE
   go_wp2_with (first|(go_at_call 54;refine (E.out _).mono ?_;rintro e w1 ⟨rfl,hb1⟩)|(at_builtin;go_must (refine JR rfl (.tmp 9) (.tmp 14) _ rfl w.heap.size 9 i0 _ 16 Tryz.underlying34 hi0 hz0 hz1 hz2 rfl 9 (.string (s.extract k n)) rfl _ W.length (strsOf W) rfl (L6 hown.out hb1) rfl (by simp only [maxLen];omega) (by omega) (Nat.le_trans hbw.size hb1.size) ?_;intro v1 w2 ho1 hb2)))
   go_roundw
   case rel=>exact ⟨n+1,W ++ [s.extract k n],by go_num,by omega,by simp;omega,HM.out v1 w1 w2 hb1 ho1 hb2⟩
   case measure=>simp [intOf];omega
  ·have b1:((n:Int)==(s.size:Int))=true:=beq_iff_eq.2 (by omega)
   have HE:=Lib.hid (HE.out he)
   clear HM
   go_wp2_with (first|(go_at_call 54;refine (E.out _).mono ?_;rintro e w1 ⟨rfl,hb1⟩)|(at_builtin;go_must (refine JR rfl (.tmp 9) (.tmp 14) _ rfl w.heap.size 9 i0 _ 16 Tryz.underlying34 hi0 hz0 hz1 hz2 rfl 9 (.string (s.extract k n)) rfl _ W.length (strsOf W) rfl (L6 hown.out hb1) rfl (by simp only [maxLen];omega) (by omega) (Nat.le_trans hbw.size hb1.size) ?_;intro v1 w2 ho1 hb2)))
   go_ret
   exact HE.out v1 w1 w2 hb1 ho1 hb2
end Go.Proofs.YtdfbohaohjaloaaGreatDoor
end
section
namespace Punnet.Name
set_option maxRecDepth 10000
def Dc (c:UInt8):List UInt8:=if Fb c then [c] else [92,hexOf (c.toNat / 16),hexOf (c.toNat % 16)]
theorem AbZ {n:Nat}(h:n<16):hexD (hexOf n)=some n:=by
 unfold hexD hexOf
 by_cases h1:n<10
 ·rw [if_pos h1,UInt8.toNat_ofNat',Nat.mod_eq_of_lt (by omega),if_pos (by omega)]
  congr 1
  omega
 ·rw [if_neg h1,UInt8.toNat_ofNat',Nat.mod_eq_of_lt (by omega),if_neg (by omega),if_pos (by omega)]
  congr 1
  omega
theorem ZN {c:UInt8}{n:Nat}(h:hexD c=some n):hexOf n=c∧n<16:=by
 unfold hexD at h
 split at h
 ·injection h with h
  refine ⟨?_,by omega⟩
  unfold hexOf
  apply UInt8.toNat_inj.1
  rw [if_pos (by omega),UInt8.toNat_ofNat'];omega
 ·split at h
  ·injection h with h
   refine ⟨?_,by omega⟩
   unfold hexOf
   apply UInt8.toNat_inj.1
   rw [if_neg (by omega),UInt8.toNat_ofNat'];omega
  ·cases h
theorem Aii {c:UInt8}(h:Fb c=false):IK (hexOf (c.toNat / 16)) (hexOf (c.toNat % 16))=some c:=by
 have hc:=c.toNat_lt
 unfold IK
 rw [AbZ (by omega),AbZ (by omega)]
 simp only
 have e:UInt8.ofNat (16*(c.toNat / 16)+c.toNat % 16)=c:=by
  rw [Nat.div_add_mod];simp
 rw [e,h]
 rfl
theorem AiO {a b c:UInt8}(h:IK a b=some c):Fb c=false∧a=hexOf (c.toNat / 16)∧b=hexOf (c.toNat % 16):=by
 unfold IK at h
 cases h1:hexD a with
 |none=>rw [h1] at h;cases h
 |some x=>
  cases h2:hexD b with
  |none=>rw [h1,h2] at h;cases h
  |some y=>
   rw [h1,h2] at h
   simp only at h
   split at h
   ·cases h
   ·rename_i hp
    injection h with h
    obtain ⟨e1,l1⟩:=ZN h1
    obtain ⟨e2,l2⟩:=ZN h2
    have hx:c.toNat=16*x+y:=by rw [←h,UInt8.toNat_ofNat'];omega
    refine ⟨by rw [←h];simpa using hp,?_,?_⟩
    ·rw [hx,show (16*x+y) / 16=x by omega,e1]
    ·rw [hx,show (16*x+y) % 16=y by omega,e2]
theorem Aun {c:UInt8}(h:Fb c=true):c.toNat≠92∧c.toNat≠34:=by
 unfold Fb at h
 simp only [Bool.and_eq_true,decide_eq_true_iff] at h
 exact ⟨h.2,h.1.2⟩
theorem Auh (c:UInt8)(r:List UInt8):sign (Dc c++r)=some (c,(Dc c).length-1):=by
 unfold Dc
 cases hp:Fb c with
 |true=>
  rw [if_pos rfl]
  show sign (c::r)=_
  rw [sign,if_neg (Aun hp).1,if_pos hp];rfl
 |false=>
  rw [if_neg (by decide)]
  show sign (92::hexOf (c.toNat / 16)::hexOf (c.toNat % 16)::r)=_
  rw [sign,if_pos (show (92:UInt8).toNat=92 from rfl),Sj,Aii hp];rfl
theorem Va {m:List UInt8}{c:UInt8}{n:Nat}(h:sign m=some (c,n)):∃r,m=Dc c++r∧n+1=(Dc c).length:=by
 match m,h with
 | [],h=>cases h
 |x::r,h=>
  rw [sign] at h
  split at h
  ·rename_i h92
   have e92:x=92:=UInt8.toNat_inj.1 h92
   subst e92
   match r,h with
   | [],h=>cases h
   | [_],h=>cases h
   |a::b::r',h=>
    rw [Sj] at h
    cases hc:IK a b with
    |none=>rw [hc] at h;cases h
    |some y=>
     rw [hc] at h
     injection h with h
     injection h with h1 h2
     subst h1 h2
     obtain ⟨hp,e1,e2⟩:=AiO hc
     refine ⟨r',?_,?_⟩
     ·unfold Dc;rw [hp,if_neg (by decide),e1,e2];rfl
     ·unfold Dc;rw [hp,if_neg (by decide)];rfl
  ·split at h
   ·rename_i hp
    injection h with h
    injection h with h1 h2
    subst h1 h2
    refine ⟨r,?_,?_⟩
    ·unfold Dc;rw [hp,if_pos rfl];rfl
    ·unfold Dc;rw [hp,if_pos rfl];rfl
   ·cases h
end Punnet.Name
end
section
namespace Go.Proofs.YtdfbohaohjaloaaGreatDoor
set_option maxRecDepth 10000
open Go.RowKit Punnet.Name
theorem Uj (W:World)(d:UInt8)(z:Int)(hz:z=d.toNat)(t:TypeId) :
 (convert 109 9 (.slice (some ⟨W.heap.size,0,none⟩) 1 1)).run Tryz.prog (W.alloc (.cells #[.int .u8 z] t))=.ok (.string ⟨#[d]⟩) (W.alloc (.cells #[.int .u8 z] t)):=by
 subst hz
 refine run_convert_bytes_back _ 109 9 5 _ _ [d] Tryz.underlying109 Tryz.underlying5 Tryz.underlying9 fun j hj=>?_
 obtain rfl:j=0:=by simpa using hj
 exact World.cell?_alloc_new _ _ _ _
theorem YO (n:Int)(h0:0≤n)(h1:n<16)(w:World):Calls Tryz.prog 221 #[.int .u8 n] w fun e w'=>e=.returned (.string ⟨#[hexOf n.toNat]⟩)∧Below w.heap.size w w':=by
 by_cases h:n<10
 ·have hcv:=fun W t=>Uj W (hexOf n.toNat) (48+n) (by unfold hexOf;rw [if_pos (by omega),UInt8.toNat_ofNat'];omega) t
  generalize hexOf n.toNat=d at *
  go_enter Tryz.func221,Tryz.ntmps221
  go_wp2
  go_ret
  exact ⟨rfl,(Below.refl _ _).alloc (Nat.le_refl _) _⟩
 ·have hcv:=fun W t=>Uj W (hexOf n.toNat) (87+n) (by unfold hexOf;rw [if_neg (by omega),UInt8.toNat_ofNat'];omega) t
  generalize hexOf n.toNat=d at *
  go_enter Tryz.func221,Tryz.ntmps221
  go_wp2
  go_ret
  exact ⟨rfl,(Below.refl _ _).alloc (Nat.le_refl _) _⟩
def Gi (c:UInt8):ByteArray:=⟨(Dc c).toArray⟩
theorem AaL (c:UInt8):(Gi c).data.toList=Dc c:=by simp [Gi]
theorem TP (c:UInt8):(Gi c).size=(Dc c).length:=by rw [←AaL];simp
set_option maxHeartbeats 800000 in
theorem Arq (c:UInt8)(w:World):Calls Tryz.prog 136 #[.int .u8 (c.toNat:Int)] w fun e w'=>e=.returned (.string (Gi c))∧Below w.heap.size w w':=by
 have hc:=c.toNat_lt
 have H:=Lib.hid (show Fb c=(decide (32≤c.toNat)&&decide (c.toNat≤126)&&decide (c.toNat≠34)&&decide (c.toNat≠92)) from rfl)
 cases hp:Fb c with
 |true=>
  have HB:=Lib.hid (show Gi c=⟨#[c]⟩ by unfold Gi Dc;rw [hp];rfl)
  rw [H.out] at hp
  simp only [Bool.and_eq_true,decide_eq_true_iff] at hp
  obtain ⟨⟨⟨h1,h2⟩,h3⟩,h4⟩:=hp
  have b3:((c.toNat:Int)==34)=false:=beq_eq_false_iff_ne.2 (by omega)
  have b4:((c.toNat:Int)==92)=false:=beq_eq_false_iff_ne.2 (by omega)
  have hcv:=fun W t=>Uj W c (c.toNat:Int) rfl t
  clear H h3 h4
  go_enter Tryz.func136,Tryz.ntmps136
  go_wp2_with fail
  go_ret
  exact ⟨by rw [HB.out];rfl,(Below.refl _ _).alloc (Nat.le_refl _) _⟩
 |false=>
  have HB:=Lib.hid (show Gi c=⟨#[92]⟩++⟨#[hexOf (c.toNat / 16)]⟩++⟨#[hexOf (c.toNat % 16)]⟩ by unfold Gi Dc;rw [hp];rfl)
  have X1:=Lib.hid (YO ((c.toNat:Int) / 16) (by omega) (by omega))
  have X2:=Lib.hid (YO ((c.toNat:Int) % 16) (by omega) (by omega))
  rw [show ((c.toNat:Int) / 16).toNat=c.toNat / 16 by omega] at X1
  rw [show ((c.toNat:Int) % 16).toNat=c.toNat % 16 by omega] at X2
  have key:c.toNat<32∨(32≤c.toNat∧126<c.toNat)∨(32≤c.toNat∧c.toNat≤126∧((c.toNat:Int)==34)=true)∨(32≤c.toNat∧c.toNat≤126∧((c.toNat:Int)==34)=false∧((c.toNat:Int)==92)=true):=by
   rw [H.out] at hp
   by_cases h1:32≤c.toNat
   ·by_cases h2:c.toNat≤126
    ·by_cases h3:c.toNat=34
     ·right;right;left;exact ⟨h1,h2,beq_iff_eq.2 (by omega)⟩
     ·right;right;right
      refine ⟨h1,h2,beq_eq_false_iff_ne.2 (by omega),beq_iff_eq.2 ?_⟩
      by_cases h4:c.toNat=92
      ·omega
      ·simp [h1,h2,h3,h4] at hp
    ·right;left;omega
   ·left;omega
  clear H hp
  generalize hexOf (c.toNat / 16)=d1 at *
  generalize hexOf (c.toNat % 16)=d2 at *
  rcases key with h|⟨h,h'⟩|⟨h,h',h''⟩|⟨h,h',h'',h3⟩
  all_goals
   go_enter Tryz.func136,Tryz.ntmps136
   go_wp2_with fail
   refine (X1.out _).mono ?_
   rintro e w1 ⟨rfl,hb1⟩
   go_wp2_with fail
   refine (X2.out _).mono ?_
   rintro e w2 ⟨rfl,hb2⟩
   go_wp2_with fail
   go_ret
   exact ⟨by rw [HB.out];rfl,Ti hb1 hb2⟩
end Go.Proofs.YtdfbohaohjaloaaGreatDoor
end
section
namespace Go.Proofs.YtdfbohaohjaloaaGreatDoor
set_option maxRecDepth 10000
open Go.RowKit Punnet.Name
theorem Ag5 (n:Nat)(h:n<256)(w:World):Calls Tryz.prog 136 #[.int .u8 (n:Int)] w fun e w'=>e=.returned (.string (Gi (UInt8.ofNat n)))∧Below w.heap.size w w':=by
 have:=Arq (UInt8.ofNat n) w
 rw [show ((UInt8.ofNat n).toNat:Int)=(n:Int) by rw [UInt8.toNat_ofNat'];omega] at this
 exact this
theorem Avb (s:ByteArray)(k:Nat)(hk:k<s.size)(x:UInt8) :
 (k+(Gi x).size≤s.size∧((s.extract k (k+(Gi x).size)).toList==(Gi x).toList)=true)↔sign (s.data.toList.drop k)=some (x,(Gi x).size-1):=by
 rw [TP,Lib.toList_data,Lib.toList_data,Lib.extract_data,AaL,beq_iff_eq]
 have hlen:s.data.toList.length=s.size:=by simp
 constructor
 ·rintro ⟨h1,h2⟩
  have h3:s.data.toList.drop k=Dc x++(s.data.toList.drop k).drop (Dc x).length:=by
   conv=>lhs;rw [←List.take_append_drop (Dc x).length (s.data.toList.drop k)]
   rw [show k+(Dc x).length-k=(Dc x).length by omega] at h2
   rw [h2]
  rw [h3]
  exact Auh x _
 ·intro h
  obtain ⟨r,h1,h2⟩:=Va h
  have hl:=congrArg List.length h1
  rw [List.length_drop,List.length_append] at hl
  refine ⟨by omega,?_⟩
  rw [h1,show k+(Dc x).length-k=(Dc x).length by omega,List.take_left]
theorem Ad1 (c:UInt8):(Dc c).length≤3:=by unfold Dc;split<;>simp
theorem Aqd (c:UInt8):1≤(Dc c).length:=by unfold Dc;split<;>simp
theorem AfK (T:List UInt8)(x:UInt8):(⟨(T ++ [x]).toArray⟩:ByteArray)=⟨T.toArray⟩++⟨#[x]⟩:=by
 rw [ByteArray.ext_iff,ByteArray.data_append];simp
theorem Aci {r:List UInt8}{C z:Nat}(hq:∀n,sign r=some (UInt8.ofNat C,n)→n=z)(hn:∀j<C,∀n,sign r≠some (UInt8.ofNat j,n))(h:sign r≠some (UInt8.ofNat C,z)):∀j<C+1,∀n,sign r≠some (UInt8.ofNat j,n):=by
 intro j hj n he
 by_cases e:j=C
 ·subst e
  obtain rfl:=hq n he
  exact h he
 ·exact hn j (by omega) n he
def AlL (s:ByteArray)(k0:Nat)(w:World)(k:Nat)(T:List UInt8)(w':World):Prop:=
 Below w.heap.size w w'∧DX s.data.toList k0=(ES s.data.toList k).map fun p=>(T++p.1,p.2)
def AnT (s:ByteArray)(w:World)(k:Nat)(T:List UInt8)(a o f c:Value)(w':World):Prop:=
 Below w.heap.size w w'∧∃C:Nat,c=.int .i64 (C:Int)∧C≤256 ∧
  ((a=.int .i64 (k:Int)∧o=.string ⟨T.toArray⟩∧f=.bool false∧∀j<C,∀n,sign (s.data.toList.drop k)≠some (UInt8.ofNat j,n)) ∨
     ∃(x:UInt8) (n:Nat),a=.int .i64 ((k+n+1:Nat):Int)∧o=.string ⟨(T ++ [x]).toArray⟩∧f=.bool true∧sign (s.data.toList.drop k)=some (x,n)∧k+n+1≤s.size)
def VY (s:ByteArray)(k0:Nat)(w:World)(e:Ending)(w':World):Prop:=
 Below w.heap.size w w'∧((DX s.data.toList k0=none∧e=.returned (.tuple #[.string ⟨#[]⟩,.int .i64 0,.bool false])) ∨
 ∃(t:List UInt8) (n:Nat),DX s.data.toList k0=some (t,n)∧e=.returned (.tuple #[.string ⟨t.toArray⟩,.int .i64 (n:Int),.bool true]))
set_option maxHeartbeats 2000000 in
theorem Aex (s:ByteArray)(k0:Nat)(w:World)(hs:s.size≤16777216)(hk0:k0<s.size)(hq:s[k0].toNat=34) :
 Calls Tryz.prog 76 #[.string s,.int .i64 (k0:Int)] w (VY s k0 w):=by
 have hk0':¬(s.size:Int)≤k0:=by omega
 have b34:((s[k0].toNat:Int) != 34)=false:=by rw [bne_eq_false_iff_eq];omega
 have hml:s.size≤9223372036854775807:=by omega
 have hstart:DX s.data.toList k0=ES s.data.toList (k0+1):=by
  rw [DX,dif_pos (by simpa using hk0),if_pos (by rw [E5 s k0 hk0];exact hq)]
 have HS:=Lib.hid hstart
 clear hq hstart
 go_enter Tryz.func76,Tryz.ntmps76
 go_wp2_with fail
 go_loopw [1,7] (fun a o wr=>∃(k:Nat) (T:List UInt8),a=.int .i64 (k:Int)∧o=.string ⟨T.toArray⟩∧k≤s.size∧T.length≤k∧AlL s k0 w k T wr) (fun a _ _=>s.size-(intOf a).toNat)
 case atStart=>exact ⟨k0+1,[],by go_num,rfl,by omega,by simp,Below.refl _ _,by rw [HS.out];simp⟩
 case round=>
  obtain ⟨k,T,rfl,rfl,hk,hT,hr⟩:=hrel
  obtain ⟨wo,rfl⟩:∃wo:World,wo=wr:=⟨_,rfl⟩
  have hbw:=hr.1
  have HB:=Lib.hid hr.2
  clear hr hk0' b34
  by_cases hlt:k<s.size
  ·have hlt':(k:Int)<s.size:=by omega
   have hl:k<s.data.toList.length:=by simpa using hlt
   by_cases h34:s[k].toNat=34
   ·have b1:((s[k].toNat:Int)==34)=true:=beq_iff_eq.2 (by omega)
    have HE:=Lib.hid (show DX s.data.toList k0=some (T,k+1) by rw [HB.out,RX hl (by rw [E5 s k hlt];exact h34)];simp)
    clear h34
    go_wp2_with fail
    go_ret3
    exact ⟨hbw,.inr ⟨T,k+1,HE.out,rfl⟩⟩
   ·have b1:((s[k].toNat:Int)==34)=false:=beq_eq_false_iff_ne.2 (by omega)
    have g34:s.data.toList[k].toNat≠34:=by rw [E5 s k hlt];exact h34
    have HNO:=Lib.hid (fun h=>show DX s.data.toList k0=none by rw [HB.out,Oh hl g34 h];rfl)
    have HYES:=Lib.hid (fun x n (h:sign (s.data.toList.drop k)=some (x,n))=>show DX s.data.toList k0=(ES s.data.toList (k+n+1)).map fun p=>(T ++ [x]++p.1,p.2) by
     rw [HB.out,TJ hl g34 h]
     cases ES s.data.toList (k+n+1) with
     |none=>rfl
     |some p=>simp)
    clear h34 g34 HB
    go_wp2_with fail
    go_loopw [1,7,8,9] (fun a o f c wr=>AnT s w k T a o f c wr) (fun _ _ _ c _=>257-(intOf c).toNat)
    case atStart=>exact ⟨hbw,0,rfl,by omega,.inl ⟨rfl,rfl,rfl,fun j hj=>absurd hj (by omega)⟩⟩
    case round=>
     obtain ⟨hbc,C,rfl,hC,h⟩:=hrel
     rcases h with ⟨rfl,rfl,rfl,hn⟩|⟨x,n,rfl,rfl,rfl,hx,hle⟩
     ·by_cases hc:C<256
      ·have hc':(C:Int)<256:=by omega
       have XB:=Lib.hid (Ag5 C hc)
       have hcv:=fun W t=>Uj W (UInt8.ofNat C) (C:Int) (by rw [UInt8.toNat_ofNat'];omega) t
       have hm:=Avb s k hlt (UInt8.ofNat C)
       have hz1:(Gi (UInt8.ofNat C)).size≤3:=by rw [TP];exact Ad1 _
       have hz0:1≤(Gi (UInt8.ofNat C)).size:=by rw [TP];exact Aqd _
       have HQ:∀n,sign (s.data.toList.drop k)=some (UInt8.ofNat C,n)→n=(Gi (UInt8.ofNat C)).size-1:=fun n h=>by rw [TP];obtain ⟨r,h1,h2⟩:=Va h;omega
       generalize Gi (UInt8.ofNat C)=q at *
       have HN:=Lib.hid hn
       clear hn
       by_cases h1:k+q.size≤s.size
       ·have h1':(k:Int)+q.size≤s.size:=by omega
        cases h2:((s.extract k (k+q.size)).toList==q.toList) with
        |true=>
         have HM:=Lib.hid (hm.1 ⟨h1,h2⟩)
         clear hm HQ
         go_wp2_with (go_at_call 136;refine (XB.out _).mono ?_;rintro e w1 ⟨rfl,hb1⟩)
         go_roundw
         case rel=>
          refine ⟨?_,C+1,by go_num,by omega,.inr ⟨UInt8.ofNat C,q.size-1,?_,?_,rfl,HM.out,by omega⟩⟩
          ·exact (hbc.trans (hb1.mono hbc.size)).alloc (Nat.le_trans hbc.size hb1.size) _
          ·congr 1;omega
          ·rw [AfK]
         case measure=>simp [intOf];omega
        |false=>
         have HM:=Lib.hid (Aci HQ HN.out fun h=>by rw [(hm.2 h).2] at h2;cases h2)
         clear hm HQ
         go_wp2_with (go_at_call 136;refine (XB.out _).mono ?_;rintro e w1 ⟨rfl,hb1⟩)
         go_roundw
         case rel=>exact ⟨hbc.trans (hb1.mono hbc.size),C+1,by go_num,by omega,.inl ⟨rfl,rfl,rfl,HM.out⟩⟩
         case measure=>simp [intOf];omega
       ·have h1':¬(k:Int)+q.size≤s.size:=by omega
        have HM:=Lib.hid (Aci HQ HN.out fun h=>h1 (hm.2 h).1)
        clear hm HQ h1 HNO HYES
        have b2:decide ((k:Int)+(q.size:Int)≤(s.size:Int))=false:=decide_eq_false h1'
        clear h1'
        go_wp2_with (go_at_call 136;refine (XB.out _).mono ?_;rintro e w1 ⟨rfl,hb1⟩)
        go_roundw
        case rel=>exact ⟨hbc.trans (hb1.mono hbc.size),C+1,by go_num,by omega,.inl ⟨rfl,rfl,rfl,HM.out⟩⟩
        case measure=>simp [intOf];omega
      ·have hc':¬(C:Int)<256:=by omega
       have hC2:256≤C:=by omega
       have HE:=Lib.hid (HNO.out (by
        cases h:sign (s.data.toList.drop k) with
        |none=>rfl
        |some p=>obtain ⟨x,n⟩:=p;exact absurd (by rw [h,UInt8.ofNat_toNat]) (hn x.toNat (by have:=x.toNat_lt;omega) n)))
       clear hn
       go_wp2_with fail
       go_ret3
       exact ⟨hbc,.inl ⟨HE.out,rfl⟩⟩
     ·have HY:=Lib.hid (HYES.out x n hx)
      by_cases hc:C<256
      ·have hc':(C:Int)<256:=by omega
       go_wp2_with fail
       go_roundw
       case rel=>exact ⟨k+n+1,T ++ [x],rfl,rfl,hle,by simp;omega,hbc,HY.out⟩
       case measure=>simp [intOf];omega
      ·have hc':¬(C:Int)<256:=by omega
       go_wp2_with fail
       go_roundw
       case rel=>exact ⟨k+n+1,T ++ [x],rfl,rfl,hle,by simp;omega,hbc,HY.out⟩
       case measure=>simp [intOf];omega
  ·have hlt':¬(k:Int)<s.size:=by omega
   have HE:=Lib.hid (show DX s.data.toList k0=none by rw [HB.out,UA (by simpa using hlt)];rfl)
   go_wp2_with fail
   go_ret3
   exact ⟨hbw,.inl ⟨HE.out,rfl⟩⟩
theorem Apk (s:ByteArray)(k0:Nat)(w:World)(hs:s.size≤16777216)(h:∀hk:k0<s.size,s[k0].toNat≠34) :
 Calls Tryz.prog 76 #[.string s,.int .i64 (k0:Int)] w (VY s k0 w):=by
 have hq:DX s.data.toList k0=none:=by
  unfold DX
  split
  ·rename_i hk
   have hk':k0<s.size:=by simpa using hk
   rw [if_neg (by rw [E5 s k0 hk'];exact h hk')]
  ·rfl
 have HQ:=Lib.hid hq
 clear hq
 by_cases hk:k0<s.size
 ·have hk':¬(s.size:Int)≤k0:=by omega
  have h1:=h hk
  have b34:((s[k0].toNat:Int) != 34)=true:=by rw [bne_iff_ne];omega
  clear h h1
  go_enter Tryz.func76,Tryz.ntmps76
  go_wp2_with fail
  go_ret3
  exact ⟨Below.refl _ _,.inl ⟨HQ.out,rfl⟩⟩
 ·have hk':(s.size:Int)≤k0:=by omega
  clear h
  go_enter Tryz.func76,Tryz.ntmps76
  go_wp2_with fail
  go_ret3
  exact ⟨Below.refl _ _,.inl ⟨HQ.out,rfl⟩⟩
theorem AbU (s:ByteArray)(k0:Nat)(w:World)(hs:s.size≤16777216) :
 Calls Tryz.prog 76 #[.string s,.int .i64 (k0:Int)] w (VY s k0 w):=by
 by_cases h:∃hk:k0<s.size,s[k0].toNat=34
 ·obtain ⟨hk,h34⟩:=h
  exact Aex s k0 w hs hk h34
 ·exact Apk s k0 w hs fun hk h34=>h ⟨hk,h34⟩
end Go.Proofs.YtdfbohaohjaloaaGreatDoor
end
section
namespace Go.Proofs.YtdfbohaohjaloaaGreatDoor
set_option maxRecDepth 10000
open Go.RowKit Punnet.Name
set_option maxHeartbeats 4000000 in
theorem Alm (s:ByteArray)(w:World)(hs:s.size≤16777216):Calls Tryz.prog 33 #[.string s] w (Words w (splitB s 0)):=by
 obtain ⟨i0,hi0,hz0,hz1,hz2⟩:=info_parts Aan
 have hlen:s.data.toList.length=s.size:=by simp
 have hml:s.size≤9223372036854775807:=by omega
 have HL:=Lib.hid hlen
 clear hlen
 go_enter Tryz.func33,Tryz.ntmps33
 go_wp2_with fail
 go_loopw [3,4] (fun v i wr=>∃(k:Nat) (W:List ByteArray),i=.int .i64 (k:Int)∧k≤s.size∧W.length≤k∧JB s w k v W wr) (fun _ i _=>s.size-(intOf i).toNat)
 case atStart=>
  refine ⟨0,[],rfl,Nat.zero_le _,Nat.le_refl _,?_,?_,by simp⟩
  ·exact ⟨rfl,.inr ⟨w.heap.size,0,#[],rfl,Nat.le_refl _,heap_alloc_new _ _,Nat.le_refl _,by simp [maxLen],rfl,rfl⟩⟩
  ·exact (Below.refl _ _).alloc (Nat.le_refl _) _
 case round=>
  obtain ⟨k,W,rfl,hk,hW,hr⟩:=hrel
  have hown:=Lib.hid hr.1
  have hbw:=hr.2.1
  have HM:=Lib.hid (fun he v' w2 w3=>JB.more (v':=v') (w2:=w2) (w3:=w3) hr hk he)
  have HD:=Lib.hid (fun he v' w2 w3=>JB.done (v':=v') (w2:=w2) (w3:=w3) hr he)
  clear hr
  go_wp2_with fail
  refine (AbU s k _ hs).mono ?_
  rintro e w1 ⟨hb1,⟨hq,rfl⟩|⟨t,n,hq,rfl⟩⟩
  ·have HW:=Lib.hid (show BK s.data.toList k=FK s.data.toList k by unfold BK;rw [hq])
   clear hq
   go_wp2_with fail
   go_loop [6] (fun i=>∃j:Nat,k≤j∧j≤s.size∧i=.int .i64 (j:Int)∧∀x (h:x<s.size),k≤x→x<j→s[x].toNat≠32) (fun i=>s.size-(intOf i).toNat)
   case atStart=>exact ⟨k,Nat.le_refl _,hk,rfl,fun _ _ h1 h2=>absurd h1 (by omega)⟩
   case round=>
    obtain ⟨j,hj1,hj2,rfl,hd⟩:=hrel
    have HJ:=Lib.hid hd
    clear hd
    have hj3:(k:Int)≤j:=by omega
    have hj4:(j:Int)≤s.size:=by omega
    by_cases hlt:j<s.size
    ·have hlt':(j:Int)<s.size:=by omega
     by_cases hb:s[j].toNat=32
     ·have b32:((s[j].toNat:Int) != 32)=false:=by rw [bne_eq_false_iff_eq];omega
      have HE:=Lib.hid (show BK s.data.toList k=j by rw [HW.out];exact LH hj1 hj2 HJ.out (fun _=>hb))
      have be:((j:Int)==(s.size:Int))=false:=beq_eq_false_iff_ne.2 (by omega)
      clear hb HJ
      have HM2:=Lib.hid (HM.out (by rw [HE.out];exact hlt))
      rw [HE.out] at HM2
      clear HM HD
      go_wp2_with (at_builtin;go_must (refine JR rfl (.tmp 43) (.tmp 48) _ rfl w.heap.size 9 i0 _ 16 Tryz.underlying34 hi0 hz0 hz1 hz2 rfl 9 (.string (s.extract k j)) rfl _ W.length (strsOf W) rfl (L6 hown.out hb1) rfl (by simp only [maxLen];omega) (by omega) (Nat.le_trans hbw.size hb1.size) ?_;intro v1 w2 ho1 hb2))
      go_roundw
      case rel=>exact ⟨j+1,W ++ [s.extract k j],by go_num,by omega,by simp;omega,HM2.out v1 w1 w2 hb1 ho1 hb2⟩
      case measure=>simp [intOf];omega
     ·have b32:((s[j].toNat:Int) != 32)=true:=by rw [bne_iff_ne];omega
      have HD2:=Lib.hid (show ∀x (h:x<s.size),k≤x→x<j+1→s[x].toNat≠32 from fun x h h1 h2=>by
       by_cases e:x=j
       ·subst e;exact hb
       ·exact HJ.out x h h1 (by omega))
      clear hb
      go_wp2_with fail
      go_round
      case rel=>exact ⟨j+1,by omega,by omega,by go_num,HD2.out⟩
      case measure=>simp [intOf];omega
    ·have hlt':¬(j:Int)<s.size:=by omega
     have HE:=Lib.hid (show BK s.data.toList k=j by rw [HW.out];exact LH hj1 hj2 HJ.out (fun h=>absurd h hlt))
     have be:((j:Int)==(s.size:Int))=true:=beq_iff_eq.2 (by omega)
     clear HJ
     have HD2:=Lib.hid (HD.out (by rw [HE.out];omega))
     rw [HE.out] at HD2
     clear HM HD
     go_wp2_with (at_builtin;go_must (refine JR rfl (.tmp 43) (.tmp 48) _ rfl w.heap.size 9 i0 _ 16 Tryz.underlying34 hi0 hz0 hz1 hz2 rfl 9 (.string (s.extract k j)) rfl _ W.length (strsOf W) rfl (L6 hown.out hb1) rfl (by simp only [maxLen];omega) (by omega) (Nat.le_trans hbw.size hb1.size) ?_;intro v1 w2 ho1 hb2))
     go_ret
     exact HD2.out v1 w1 w2 hb1 ho1 hb2
  ·have hle:=Qd hq
   have hlen:=HL.out
   have hn:n≤s.size:=by omega
   have hwe:BK s.data.toList k=if n=s.size∨s.data.toList[n]? = some 32 then n else FK s.data.toList k:=by unfold BK;rw [hq,hlen]
   have hj1:k≤n:=by omega
   have hj3:(k:Int)≤n:=by omega
   have hj4:(n:Int)≤s.size:=by omega
   clear hq hle hlen
   by_cases he:n=s.size
   ·have HE:=Lib.hid (show BK s.data.toList k=n by rw [hwe,if_pos (.inl he)])
    have be:((n:Int)==(s.size:Int))=true:=beq_iff_eq.2 (by omega)
    have hlt':¬(n:Int)<s.size:=by omega
    have hlt:¬n<s.size:=by omega
    clear he hwe
    have HD2:=Lib.hid (HD.out (by rw [HE.out];omega))
    rw [HE.out] at HD2
    clear HM HD
    go_wp2_with (at_builtin;go_must (refine JR rfl (.tmp 43) (.tmp 48) _ rfl w.heap.size 9 i0 _ 16 Tryz.underlying34 hi0 hz0 hz1 hz2 rfl 9 (.string (s.extract k n)) rfl _ W.length (strsOf W) rfl (L6 hown.out hb1) rfl (by simp only [maxLen];omega) (by omega) (Nat.le_trans hbw.size hb1.size) ?_;intro v1 w2 ho1 hb2))
    go_ret
    exact HD2.out v1 w1 w2 hb1 ho1 hb2
   ·have be:((n:Int)==(s.size:Int))=false:=beq_eq_false_iff_ne.2 (by omega)
    have hlt:n<s.size:=by omega
    have hlt':(n:Int)<s.size:=by omega
    have hg:s.data.toList[n]? = some s[n]:=by rw [List.getElem?_eq_getElem (by simpa using hlt),E5 s n hlt]
    by_cases hb:s[n].toNat=32
    ·have HE:=Lib.hid (show BK s.data.toList k=n by
      rw [hwe,if_pos (.inr (by rw [hg];congr 1;exact UInt8.toNat_inj.1 hb))])
     have b2:((s[n].toNat:Int) != 32)=false:=by rw [bne_eq_false_iff_eq];omega
     clear he hwe hg hb
     have HM2:=Lib.hid (HM.out (by rw [HE.out];exact hlt))
     rw [HE.out] at HM2
     clear HM HD
     go_wp2_with (at_builtin;go_must (refine JR rfl (.tmp 43) (.tmp 48) _ rfl w.heap.size 9 i0 _ 16 Tryz.underlying34 hi0 hz0 hz1 hz2 rfl 9 (.string (s.extract k n)) rfl _ W.length (strsOf W) rfl (L6 hown.out hb1) rfl (by simp only [maxLen];omega) (by omega) (Nat.le_trans hbw.size hb1.size) ?_;intro v1 w2 ho1 hb2))
     go_roundw
     case rel=>exact ⟨n+1,W ++ [s.extract k n],by go_num,by omega,by simp;omega,HM2.out v1 w1 w2 hb1 ho1 hb2⟩
     case measure=>simp [intOf];omega
    ·have HW:=Lib.hid (show BK s.data.toList k=FK s.data.toList k by
      rw [hwe,if_neg]
      rintro (h|h)
      ·exact he h
      ·rw [hg] at h;injection h with h;exact hb (by rw [h];rfl))
     have b2:((s[n].toNat:Int) != 32)=true:=by rw [bne_iff_ne];omega
     clear he hwe hg hb be
     go_wp2_with fail
     go_loop [6] (fun i=>∃j:Nat,k≤j∧j≤s.size∧i=.int .i64 (j:Int)∧∀x (h:x<s.size),k≤x→x<j→s[x].toNat≠32) (fun i=>s.size-(intOf i).toNat)
     case atStart=>exact ⟨k,Nat.le_refl _,hk,rfl,fun _ _ h1 h2=>absurd h1 (by omega)⟩
     case round=>
      obtain ⟨j,hj1,hj2,rfl,hd⟩:=hrel
      have HJ:=Lib.hid hd
      clear hd
      have hj3:(k:Int)≤j:=by omega
      have hj4:(j:Int)≤s.size:=by omega
      by_cases hlt:j<s.size
      ·have hlt':(j:Int)<s.size:=by omega
       by_cases hb:s[j].toNat=32
       ·have b32:((s[j].toNat:Int) != 32)=false:=by rw [bne_eq_false_iff_eq];omega
        have HE:=Lib.hid (show BK s.data.toList k=j by rw [HW.out];exact LH hj1 hj2 HJ.out (fun _=>hb))
        have be:((j:Int)==(s.size:Int))=false:=beq_eq_false_iff_ne.2 (by omega)
        clear hb HJ
        have HM2:=Lib.hid (HM.out (by rw [HE.out];exact hlt))
        rw [HE.out] at HM2
        clear HM HD
        go_wp2_with (at_builtin;go_must (refine JR rfl (.tmp 43) (.tmp 48) _ rfl w.heap.size 9 i0 _ 16 Tryz.underlying34 hi0 hz0 hz1 hz2 rfl 9 (.string (s.extract k j)) rfl _ W.length (strsOf W) rfl (L6 hown.out hb1) rfl (by simp only [maxLen];omega) (by omega) (Nat.le_trans hbw.size hb1.size) ?_;intro v1 w2 ho1 hb2))
        go_roundw
        case rel=>exact ⟨j+1,W ++ [s.extract k j],by go_num,by omega,by simp;omega,HM2.out v1 w1 w2 hb1 ho1 hb2⟩
        case measure=>simp [intOf];omega
       ·have b32:((s[j].toNat:Int) != 32)=true:=by rw [bne_iff_ne];omega
        have HD2:=Lib.hid (show ∀x (h:x<s.size),k≤x→x<j+1→s[x].toNat≠32 from fun x h h1 h2=>by
         by_cases e:x=j
         ·subst e;exact hb
         ·exact HJ.out x h h1 (by omega))
        clear hb
        go_wp2_with fail
        go_round
        case rel=>exact ⟨j+1,by omega,by omega,by go_num,HD2.out⟩
        case measure=>simp [intOf];omega
      ·have hlt':¬(j:Int)<s.size:=by omega
       have HE:=Lib.hid (show BK s.data.toList k=j by rw [HW.out];exact LH hj1 hj2 HJ.out (fun h=>absurd h hlt))
       have be:((j:Int)==(s.size:Int))=true:=beq_iff_eq.2 (by omega)
       clear HJ
       have HD2:=Lib.hid (HD.out (by rw [HE.out];omega))
       rw [HE.out] at HD2
       clear HM HD
       go_wp2_with (at_builtin;go_must (refine JR rfl (.tmp 43) (.tmp 48) _ rfl w.heap.size 9 i0 _ 16 Tryz.underlying34 hi0 hz0 hz1 hz2 rfl 9 (.string (s.extract k j)) rfl _ W.length (strsOf W) rfl (L6 hown.out hb1) rfl (by simp only [maxLen];omega) (by omega) (Nat.le_trans hbw.size hb1.size) ?_;intro v1 w2 ho1 hb2))
       go_ret
       exact HD2.out v1 w1 w2 hb1 ho1 hb2
end Go.Proofs.YtdfbohaohjaloaaGreatDoor
end
section
namespace Go.Proofs.YtdfbohaohjaloaaGreatDoor
set_option maxRecDepth 10000
open Go.RowKit Punnet.Name
end Go.Proofs.YtdfbohaohjaloaaGreatDoor
end
section
namespace Go.Proofs.YtdfbohaohjaloaaGreatDoor
set_option maxRecDepth 10000
open Go.RowKit Punnet.Name
def DD (c k:Nat):Bool:=decide (97≤c∧c≤122)||(decide (48≤c∧c≤57)&&decide (k≠0))
end Go.Proofs.YtdfbohaohjaloaaGreatDoor
end
section
namespace Go.Proofs.YtdfbohaohjaloaaGreatDoor
set_option maxRecDepth 10000
open Go.RowKit
theorem Ack (s:ByteArray)(w:World):Calls Tryz.prog 220 #[.string s] w fun e w'=>e=.returned (.bool (decide (s.size≤40)))∧w=w':=by
 go_enter Tryz.func220,Tryz.ntmps220
 go_wp2_with fail
 go_ret
 exact ⟨FM (by rw [decide_eq_decide];omega),rfl⟩
end Go.Proofs.YtdfbohaohjaloaaGreatDoor
end
section
namespace Go.Proofs.YtdfbohaohjaloaaGreatDoor
set_option maxRecDepth 10000
open Go.RowKit Punnet.Name
def Ib (l:List UInt8):List UInt8:=34::(l.flatMap Dc ++ [34])
def FH (s:ByteArray)(k:Nat):List UInt8:=34::(s.data.toList.take k).flatMap Dc
theorem Avv {s:ByteArray}{k:Nat}(h:k<s.size):FH s (k+1)=FH s k++Dc s[k]:=by
 unfold FH
 rw [List.take_succ_eq_append_getElem (by simpa using h),List.flatMap_append,E5 s k h]
 simp
theorem Aop {s:ByteArray}:FH s s.size ++ [34] = Ib s.data.toList:=by
 unfold FH Ib
 rw [List.take_of_length_le (by simp)];rfl
theorem Agg {s:ByteArray}{k:Nat}(h:k≤s.size):(FH s k).length≤3*k+1:=by
 unfold FH
 induction k with
 |zero=>simp
 |succ k ih=>
  have h':k<s.data.toList.length:=by simp;omega
  rw [List.take_succ_eq_append_getElem h',List.flatMap_append]
  have:=ih (by omega)
  have h3:=Ad1 (s.data.toList[k]'h')
  simp at this ⊢;simp at h3;omega
end Go.Proofs.YtdfbohaohjaloaaGreatDoor
end
section
namespace Go.Proofs.YtdfbohaohjaloaaGreatDoor
set_option maxRecDepth 10000
open Go.RowKit Punnet.Name
theorem Ady (n:Nat)(h:n<16)(i:Int)(hi:i=n)(W:World):(Instr.index 9 (.string ⟨#[48,49,50,51,52,53,54,55,56,57,97,98,99,100,101,102]⟩) (.int .u8 i)).run Tryz.prog W=.ok (.int .u8 ((hexOf n).toNat:Int)) W:=by
 subst hi
 rw [run_index_string W 9 _ _ _ Tryz.underlying9,dif_pos ⟨by omega,by show (n:Int)<16;omega⟩]
 have:∀n:Fin 16,((⟨#[48,49,50,51,52,53,54,55,56,57,97,98,99,100,101,102]⟩:ByteArray)[n.val]'n.isLt)=hexOf n.val:=by decide
 have h2:=this ⟨n,h⟩
 congr 2
 simp only [Int.toNat_natCast]
 rw [h2]
theorem Abp {w:World}{base:Nat}{v:Value}{l:List UInt8}(h:w.ownsRow base 5 1 v l.length (cellsOf l)):(convert 109 9 v).run Tryz.prog w=.ok (.string ⟨l.toArray⟩) w:=by
 rcases h.2 with ⟨rfl,h0⟩|⟨g,cap,cur,rfl,hb,hg,h1,h2,h3,h4⟩
 ·obtain rfl:l= []:=by simpa using h0
  rw [run_convert_bytes_string w 109 9 5 none 0 0 Tryz.underlying109 Tryz.underlying5 Tryz.underlying9]
  rfl
 ·refine run_convert_bytes_back _ 109 9 5 _ _ l Tryz.underlying109 Tryz.underlying5 Tryz.underlying9 fun j hj=>?_
  have h5:cur.toList[j]? = some (.int .u8 (l[j].toNat:Int)):=by
   have:=congrArg (fun x=>x[j]?) h4
   simp only [Nat.mul_one] at this
   rw [List.getElem?_take,if_pos hj] at this
   rw [this];simp [cellsOf,hj]
  have hadd:(⟨g,0,none⟩:Addr).add j=⟨g,j,none⟩:=by unfold Addr.add;split<;>simp_all
  rw [hadd]
  simp [World.cell?,hg]
  simpa using h5
def An7 (s:ByteArray)(w:World)(k:Nat)(v:Value)(w':World):Prop:=
 w'.ownsRow w.heap.size 5 1 v (FH s k).length (cellsOf (FH s k))∧Below w.heap.size w w'
theorem AfT (s:ByteArray)(w:World)(hs:s.size≤40):Calls Tryz.prog 135 #[.string s] w fun e w'=>e=.returned (.tuple #[.string ⟨(Ib s.data.toList).toArray⟩,.int .i64 0])∧Below w.heap.size w w':=by
 obtain ⟨i0,hi0,hz0,hz1,hz2⟩:=info_parts Aaj
 have T:=Lib.hid (Ack s)
 have hd:decide (s.size≤40)=true:=by simp [hs]
 rw [hd] at T
 clear hd
 go_enter Tryz.func135,Tryz.ntmps135
 go_wp2_with fail
 refine (T.out _).mono ?_
 rintro e w1 ⟨rfl,rfl⟩
 go_wp2_with fail
 go_loopw [4,12] (fun v i wr=>∃k:Nat,k≤s.size∧i=.int .i64 (k:Int)∧An7 s w k v wr) (fun _ i _=>s.size-(intOf i).toNat)
 case atStart=>exact ⟨0,by omega,rfl,⟨rfl,.inr ⟨w.heap.size,1,#[.int .u8 34],rfl,Nat.le_refl _,heap_alloc_new w _,Nat.le_refl _,by decide,rfl,rfl⟩⟩,(Below.refl _ _).alloc (Nat.le_refl _) _⟩
 case round=>
  obtain ⟨k,hk,rfl,ho,hb⟩:=hrel
  have HO:=Lib.hid ho
  clear ho
  have hlen:=Agg (s:=s) (k:=k) hk
  by_cases hlt:k<s.size
  ·have hlt':(k:Int)<s.size:=by omega
   have P:=Lib.hid (TB s[k])
   have HS:=Lib.hid (Avv hlt)
   cases hp:Fb s[k] with
   |true=>
    rw [hp] at P
    have hsg:Dc s[k] = [s[k]]:=by unfold Dc;rw [if_pos hp]
    rw [hsg] at HS
    clear hp hsg
    go_wp2_with fail
    refine (P.out _).mono ?_
    rintro e w1 ⟨rfl,rfl⟩
    go_wp2_with (at_builtin;go_must (refine JR rfl (.tmp 19) (.tmp 23) _ rfl w.heap.size 5 i0 _ 1 Tryz.underlying109 hi0 hz0 hz1 hz2 rfl 5 (.int .u8 (s[k].toNat:Int)) rfl u4 (FH s k).length (cellsOf (FH s k)) rfl HO.out rfl (by simp only [maxLen];omega) (by omega) hb.size ?_;intro v1 w1 ho1 hb1))
    go_roundw
    case rel=>exact ⟨k+1,by omega,by go_num,by rw [HS.out,Yv,List.length_append,List.length_singleton];exact ho1,hb.trans hb1⟩
    case measure=>simp [intOf];omega
   |false=>
    rw [hp] at P
    have hsg:Dc s[k] = [92,hexOf (s[k].toNat / 16),hexOf (s[k].toNat % 16)]:=by unfold Dc;rw [if_neg (by rw [hp];decide)]
    rw [hsg] at HS
    have hc:=(s[k]).toNat_lt
    have ha:=u8_and15 (x:=(s[k].toNat:Int)) (by omega) (by omega)
    have x1:=fun W=>Ady (s[k].toNat / 16) (by omega) ((s[k].toNat:Int) / 16) (by omega) W
    have x2:=fun W=>Ady (s[k].toNat % 16) (by omega) ((s[k].toNat:Int) % 16) (by omega) W
    clear hp hsg
    generalize hexOf (s[k].toNat / 16)=d1 at *
    generalize hexOf (s[k].toNat % 16)=d2 at *
    go_wp2_with fail
    refine (P.out _).mono ?_
    rintro e w1 ⟨rfl,rfl⟩
    go_wp2_with fail
    go_region_held3 (fun w'=>True) (trivial)
     ((refine step_append_lies _ (by rfl) _ _ _ (by rfl) w.heap.size 5 i0 _ 1 1 Tryz.underlying109 hi0 hz0 hz1 hz2 rfl (by omega) u4 (FH s k).length (cellsOf (FH s k)) (by rfl) ((HO.out.alloc _).drew)
           ⟨wr.heap.size,0,none⟩ 3 3 [.int .u8 92,.int .u8 (d1.toNat:Int),.int .u8 (d2.toNat:Int)] (by rfl) (by rfl) (World.news_of_block (cs:=#[.int .u8 92,.int .u8 (d1.toNat:Int),.int .u8 (d2.toNat:Int)]) (t:=5) (fr:=(0,0)) (heap_alloc_new wr _)) (by simp [Value.oneCell'])
           (by omega) (by simp only [maxLen];omega) (by omega) (by simp;have:=hb.size;omega) (wr.heap.size+1) (by simp) ?_;intro gg cap w1 hown1 hgrow hat hlt))
    all_goals
     go_wp2_with fail
     go_roundw
     case rel=>exact ⟨k+1,by omega,by go_num,by rw [HS.out,List.length_append];unfold cellsOf;rw [List.map_append];exact hown1,hb.trans (AbD HO.out (((Below.refl _ _).alloc hb.size _).drew) (by simp;have:=hb.size;omega) hgrow)⟩
     case measure=>simp [intOf];omega
  ·have hlt':¬(k:Int)<s.size:=by omega
   obtain rfl:k=s.size:=by omega
   have hcv:∀g cap (w2:World),w2.ownsRow w.heap.size 5 1 (.slice (some ⟨g,0,none⟩) ((FH s s.size).length+1) cap) ((FH s s.size).length+1) (cellsOf (FH s s.size) ++ [.int .u8 34]) →
    (convert 109 9 (.slice (some ⟨g,0,none⟩) ((FH s s.size).length+1) cap)).run Tryz.prog w2=.ok (.string ⟨(Ib s.data.toList).toArray⟩) w2:=by
    intro g cap w2 h
    have:=Abp (l:=Ib s.data.toList) (v:=.slice (some ⟨g,0,none⟩) ((FH s s.size).length+1) cap) (w:=w2) (base:=w.heap.size) (by rw [←Aop,List.length_append];unfold cellsOf;rw [List.map_append];exact h)
    exact this
   go_wp2_with (at_builtin;go_must (refine wpList_append_lies _ rfl (.tmp 39) (.tmp 40) _ rfl w.heap.size 5 i0 _ 1 1 Tryz.underlying109 hi0 hz0 hz1 hz2 rfl (by omega) u4 (FH s s.size).length (cellsOf (FH s s.size)) rfl (HO.out.alloc _) ⟨wr.heap.size,0,none⟩ 1 1 [.int .u8 34] rfl rfl (cell_one_new _ _ _) (by simp [Value.oneCell']) (by omega) (by simp only [maxLen];omega) (by omega) (by simp;have:=hb.size;omega) _ rfl ?_;intro g cap w1 ho1 hg1 _ _;have hcv1:=hcv g cap w1 ho1;clear hcv))
   go_ret2
   exact ⟨rfl,hb.trans (AbD HO.out ((Below.refl _ _).alloc hb.size _) (by simp;have:=hb.size;omega) hg1)⟩
theorem AsI (s:ByteArray)(w:World)(hs:40<s.size):Calls Tryz.prog 135 #[.string s] w fun e w'=>e=.returned (.tuple #[.string ⟨#[]⟩,.int .i64 14])∧Below w.heap.size w w':=by
 have T:=Lib.hid (Ack s)
 have hd:decide (s.size≤40)=false:=by simp;omega
 rw [hd] at T
 clear hd
 go_enter Tryz.func135,Tryz.ntmps135
 go_wp2_with fail
 refine (T.out _).mono ?_
 rintro e w1 ⟨rfl,rfl⟩
 go_wp2_with fail
 go_ret2
 exact ⟨rfl,Below.refl _ _⟩
end Go.Proofs.YtdfbohaohjaloaaGreatDoor
end
section
namespace Go.Proofs.YtdfbohaohjaloaaGreatDoor
set_option maxRecDepth 10000
open Go.RowKit Punnet.Name
def Dw (s:ByteArray)(at_:Int):ByteArray×Nat×Int:=
 if at_<0∨(s.size:Int)<at_ then (⟨#[]⟩,0,2) else
 match DX s.data.toList at_.toNat with
 |none=>(⟨#[]⟩,0,4)
 |some (t,n)=>if 40<t.length then (⟨#[]⟩,0,14) else (⟨t.toArray⟩,n,0)
def PI (r:ByteArray×Nat×Int):Value:=.tuple #[.string r.1,.int .i64 (r.2.1:Int),.int .i64 r.2.2]
theorem Sz {s:ByteArray}{i:Int}(h:i<0∨(s.size:Int)<i):Dw s i=(⟨#[]⟩,0,2):=by unfold Dw;rw [if_pos h]
theorem Xo {s:ByteArray}{k:Nat}(h:k≤s.size)(hq:DX s.data.toList k=none):Dw s (k:Int)=(⟨#[]⟩,0,4):=by
 unfold Dw;rw [if_neg (by omega),Int.toNat_natCast,hq]
theorem XI {s:ByteArray}{k n:Nat}{t:List UInt8}(h:k≤s.size)(hq:DX s.data.toList k=some (t,n))(hl:40<t.length):Dw s (k:Int)=(⟨#[]⟩,0,14):=by
 unfold Dw;rw [if_neg (by omega),Int.toNat_natCast,hq];simp only;rw [if_pos hl]
theorem V5 {s:ByteArray}{k n:Nat}{t:List UInt8}(h:k≤s.size)(hq:DX s.data.toList k=some (t,n))(hl:¬40<t.length):Dw s (k:Int)=(⟨t.toArray⟩,n,0):=by
 unfold Dw;rw [if_neg (by omega),Int.toNat_natCast,hq];simp only;rw [if_neg hl]
theorem J8 {r:ByteArray×Nat×Int}{a:ByteArray}{b:Nat}{c:Int}(h:r=(a,b,c)):Ending.returned (.tuple #[.string a,.int .i64 (b:Int),.int .i64 c])=.returned (PI r):=by rw [h];rfl
theorem Ark {w:World}{base n:Nat}{e:TypeId}{v:Value}{xs:List Value}(h:w.ownsRow base e 1 v n xs):∃a cap,v=.slice a n cap:=by
 rcases h.2 with ⟨rfl,rfl⟩|⟨g,cap,cur,rfl,_⟩
 ·exact ⟨_,_,rfl⟩
 ·exact ⟨_,_,rfl⟩
theorem Alz (s:ByteArray)(i:Int)(w:World)(hs:s.size≤16777216)(hi : -9223372036854775808≤i∧i≤9223372036854775807) :
 Calls Tryz.prog 223 #[.string s,.int .i64 i] w fun e w'=>e=.returned (PI (Dw s i))∧Below w.heap.size w w':=by
 by_cases h0:i<0
 ·have HE:=Lib.hid (Sz (s:=s) (.inl h0))
  go_enter Tryz.func223,Tryz.ntmps223
  go_wp2_with fail
  go_ret3
  exact ⟨J8 HE.out,Below.refl _ _⟩
 by_cases h1:(s.size:Int)<i
 ·have HE:=Lib.hid (Sz (s:=s) (.inr h1))
  go_enter Tryz.func223,Tryz.ntmps223
  go_wp2_with fail
  go_ret3
  exact ⟨J8 HE.out,Below.refl _ _⟩
 obtain ⟨k,rfl⟩:∃k:Nat,i=k:=⟨i.toNat,by omega⟩
 have hk:k≤s.size:=by omega
 go_enter Tryz.func223,Tryz.ntmps223
 go_wp2_with fail
 refine (Acz s k _ hs).mono ?_
 rintro e w1 (⟨hq,rfl,hb⟩|⟨t,n,v,hq,rfl,ho,hb⟩)
 ·have HE:=Lib.hid (Xo hk hq)
  clear hq
  go_wp2_with fail
  go_ret3
  exact ⟨J8 HE.out,hb⟩
 ·have hn:=(Qd hq).2
  have hn':n≤s.size:=by simpa using hn
  have HO:=Lib.hid (Abp ho)
  obtain ⟨a,cap,rfl⟩:=Ark ho
  by_cases hl:40<t.length
  ·have HE:=Lib.hid (XI hk hq hl)
   have hl':(40:Int)<t.length:=by omega
   clear hq ho hn
   go_wp2_with fail
   go_ret3
   exact ⟨J8 HE.out,hb⟩
  ·have HE:=Lib.hid (V5 hk hq hl)
   have hl':¬(40:Int)<t.length:=by omega
   have hcv:=HO.out
   clear hq ho hn HO
   go_wp2_with fail
   go_ret3
   exact ⟨J8 HE.out,hb⟩
theorem AgL (s:ByteArray)(i:Int)(w:World)(hs:s.size≤16777216)(hi : -9223372036854775808≤i∧i≤9223372036854775807) :
 Calls Tryz.prog 79 #[.string s,.int .i64 i] w fun e w'=>e=.returned (PI (Dw s i))∧Below w.heap.size w w':=by
 by_cases h0:i<0
 ·have HE:=Lib.hid (Sz (s:=s) (.inl h0))
  go_enter Tryz.func79,Tryz.ntmps79
  go_wp2_with fail
  go_ret3
  exact ⟨J8 HE.out,Below.refl _ _⟩
 by_cases h1:(s.size:Int)<i
 ·have HE:=Lib.hid (Sz (s:=s) (.inr h1))
  go_enter Tryz.func79,Tryz.ntmps79
  go_wp2_with fail
  go_ret3
  exact ⟨J8 HE.out,Below.refl _ _⟩
 obtain ⟨k,rfl⟩:∃k:Nat,i=k:=⟨i.toNat,by omega⟩
 have hk:k≤s.size:=by omega
 go_enter Tryz.func79,Tryz.ntmps79
 go_wp2_with fail
 refine (AbU s k _ hs).mono ?_
 rintro e w1 ⟨hb,⟨hq,rfl⟩|⟨t,n,hq,rfl⟩⟩
 ·have HE:=Lib.hid (Xo hk hq)
  clear hq
  go_wp2_with fail
  go_ret3
  exact ⟨J8 HE.out,hb⟩
 ·have hn:=(Qd hq).2
  have hn':n≤s.size:=by simpa using hn
  have hz:(⟨t.toArray⟩:ByteArray).size=t.length:=by simp [ByteArray.size]
  by_cases hl:40<t.length
  ·have HE:=Lib.hid (XI hk hq hl)
   have hl':(40:Int)<(⟨t.toArray⟩:ByteArray).size:=by omega
   generalize (⟨t.toArray⟩:ByteArray)=tb at *
   clear hq hn hz
   go_wp2_with fail
   go_ret3
   exact ⟨J8 HE.out,hb⟩
  ·have HE:=Lib.hid (V5 hk hq hl)
   have hl':¬(40:Int)<(⟨t.toArray⟩:ByteArray).size:=by omega
   generalize (⟨t.toArray⟩:ByteArray)=tb at *
   clear hq hn hz
   go_wp2_with fail
   go_ret3
   exact ⟨J8 HE.out,hb⟩
def Ea (s:ByteArray):ByteArray×Int:=
 if (Dw s 0).2.2=0 then (if (Dw s 0).2.1=s.size then ((Dw s 0).1,0) else (⟨#[]⟩,4)) else (⟨#[]⟩,(Dw s 0).2.2)
theorem Wv {r:ByteArray×Int}{a:ByteArray}{c:Int}(h:r=(a,c)):Ending.returned (.tuple #[.string a,.int .i64 c])=.returned (.tuple #[.string r.1,.int .i64 r.2]):=by rw [h]
theorem Aqc (s:ByteArray)(w:World)(hs:s.size≤16777216) :
 Calls Tryz.prog 142 #[.string s] w fun e w'=>e=.returned (.tuple #[.string (Ea s).1,.int .i64 (Ea s).2])∧Below w.heap.size w w':=by
 have S:=Lib.hid (fun w=>Alz s 0 w hs (by omega))
 have key:∃t n c,Dw s 0=(t,n,c):=⟨_,_,_,rfl⟩
 obtain ⟨t,n,c,hsc⟩:=key
 rw [hsc] at S
 have hu:Ea s=if c=0 then (if n=s.size then (t,0) else (⟨#[]⟩,4)) else (⟨#[]⟩,c):=by unfold Ea;rw [hsc]
 by_cases hc:c=0
 ·subst hc
  rw [if_pos rfl] at hu
  by_cases hn:n=s.size
  ·rw [if_pos hn] at hu
   have HU:=Lib.hid hu
   have hn':((n:Int) != (s.size:Int))=false:=bne_eq_false_iff_eq.2 (by omega)
   clear hu hn hsc
   go_enter Tryz.func142,Tryz.ntmps142
   go_wp2_with fail
   refine (S.out _).mono ?_
   rintro e w1 ⟨rfl,hb⟩
   unfold PI
   go_wp2_with fail
   go_ret2
   exact ⟨Wv HU.out,hb⟩
  ·rw [if_neg hn] at hu
   have HU:=Lib.hid hu
   have hn':((n:Int) != (s.size:Int))=true:=bne_iff_ne.2 (by omega)
   clear hu hn hsc
   go_enter Tryz.func142,Tryz.ntmps142
   go_wp2_with fail
   refine (S.out _).mono ?_
   rintro e w1 ⟨rfl,hb⟩
   unfold PI
   go_wp2_with fail
   go_ret2
   exact ⟨Wv HU.out,hb⟩
 ·rw [if_neg hc] at hu
  have HU:=Lib.hid hu
  have hc':(c != 0)=true:=bne_iff_ne.2 hc
  clear hu hc hsc
  go_enter Tryz.func142,Tryz.ntmps142
  go_wp2_with fail
  refine (S.out _).mono ?_
  rintro e w1 ⟨rfl,hb⟩
  unfold PI
  go_wp2_with fail
  go_ret2
  exact ⟨Wv HU.out,hb⟩
end Go.Proofs.YtdfbohaohjaloaaGreatDoor
end
section
namespace Go.Proofs.YtdfbohaohjaloaaGreatDoor
set_option maxRecDepth 10000
open Go.RowKit Punnet.Name
theorem AjC {l m r:List UInt8}{k:Nat}(h:l.drop k=m++r):l.drop (k+m.length)=r:=by
 rw [←List.drop_drop,h,List.drop_append_of_le_length (Nat.le_refl _),List.drop_length];rfl
theorem Ak1 {l:List UInt8}:∀(N k:Nat) (t:List UInt8) (n:Nat),l.length-k=N→ES l k=some (t,n)→l.drop k=t.flatMap Dc++34::l.drop n∧n=k+(t.flatMap Dc).length+1:=by
 intro N
 induction N using Nat.strongRecOn with
 |_ N ih=>
  intro k t n hN h
  by_cases hk:k<l.length
  ·by_cases hq:l[k].toNat=34
   ·rw [RX hk hq] at h
    injection h with h;injection h with h1 h2;subst h1;subst h2
    refine ⟨?_,by simp⟩
    rw [List.drop_eq_getElem_cons hk]
    have:l[k] = 34:=by rw [←UInt8.toNat_inj,hq];rfl
    simp [this]
   ·cases hs:sign (l.drop k) with
    |none=>rw [Oh hk hq hs] at h;cases h
    |some p=>
     obtain ⟨c,m⟩:=p
     rw [TJ hk hq hs] at h
     cases hb:ES l (k+m+1) with
     |none=>rw [hb] at h;cases h
     |some p=>
      obtain ⟨t',n'⟩:=p
      rw [hb] at h
      simp only [Option.map_some] at h
      injection h with h;injection h with h1 h2;subst h1;subst h2
      have hi:=ih (l.length-(k+m+1)) (by omega) (k+m+1) t' n' rfl hb
      obtain ⟨r,hr,hm⟩:=Va hs
      have hd:=AjC hr
      rw [show k+(Dc c).length=k+m+1 by omega] at hd
      refine ⟨?_,by rw [List.flatMap_cons,List.length_append];omega⟩
      rw [hr,←hd,hi.1,List.flatMap_cons,List.append_assoc]
  ·rw [UA hk] at h;cases h
theorem Auk {l:List UInt8}{k n:Nat}{t:List UInt8}(h:DX l k=some (t,n)):l.drop k=Ib t++l.drop n∧n=k+(Ib t).length:=by
 unfold DX at h
 split at h
 ·rename_i hk
  split at h
  ·rename_i hq
   obtain ⟨h1,h2⟩:=Ak1 _ _ _ _ rfl h
   have:l[k] = 34:=by rw [←UInt8.toNat_inj,hq];rfl
   refine ⟨?_,by unfold Ib;rw [List.length_cons,List.length_append,List.length_singleton];omega⟩
   rw [List.drop_eq_getElem_cons hk,h1,this];unfold Ib;simp
  ·cases h
 ·cases h
theorem Amu (l:List UInt8)(k:Nat)(h:FK l k<l.length):l[FK l k] = 32:=by
 unfold FK at *
 generalize hp:(fun b:UInt8=>decide (b.toNat≠32))=p at *
 have key:∀(m:List UInt8) (h:(m.takeWhile p).length<m.length),p (m[(m.takeWhile p).length])=false:=by
  intro m
  induction m with
  |nil=>intro h;simp at h
  |cons a m ih=>
   intro h
   cases ha:p a with
   |true=>
    rw [List.takeWhile_cons,if_pos ha] at h
    simp only [List.takeWhile_cons,ha,if_true,List.length_cons,List.getElem_cons_succ]
    exact ih (by simpa using h)
   |false=>simp only [List.takeWhile_cons,ha];simpa using ha
 have h1:((l.drop k).takeWhile p).length<(l.drop k).length:=by rw [List.length_drop];omega
 have h2:=key _ h1
 rw [List.getElem_drop] at h2
 have h3:∀c:UInt8,p c=false→c=32:=by
  intro c hc
  rw [←hp] at hc
  simp only [decide_eq_false_iff_not,ne_eq,Decidable.not_not] at hc
  rw [←UInt8.toNat_inj,hc];rfl
 exact h3 _ h2
theorem Av6 (l:List UInt8)(k:Nat)(h:BK l k<l.length):l[BK l k] = 32:=by
 have hb:=fun h=>Amu l k h
 unfold BK at *
 split at h
 ·rename_i x t e hq
  by_cases hc:e=l.length∨l[e]? = some 32
  ·have e1:(if e=l.length∨l[e]? = some 32 then e else FK l k)=e:=if_pos hc
   simp only [e1] at h ⊢
   rcases hc with hc|hc
   ·omega
   ·rw [List.getElem?_eq_getElem h] at hc;injection hc
  ·have e1:(if e=l.length∨l[e]? = some 32 then e else FK l k)=FK l k:=if_neg hc
   simp only [e1] at h ⊢
   exact hb h
 ·exact hb h
def joinL:List ByteArray→List UInt8
 | []=>[]
 | [a]=>a.data.toList
 |a::b::r=>a.data.toList++32::joinL (b::r)
theorem Abq (s:ByteArray)(k:Nat):∃a r,splitB s k=a::r:=by
 rw [splitB];split
 ·exact ⟨_,_,rfl⟩
 ·exact ⟨_,_,rfl⟩
theorem AsN (a:ByteArray){l:List ByteArray}(h:∃b r,l=b::r):joinL (a::l)=a.data.toList++32::joinL l:=by
 obtain ⟨b,r,rfl⟩:=h;rfl
theorem Atp (s:ByteArray):∀(N k:Nat),s.size-k=N→k≤s.size→joinL (splitB s k)=s.data.toList.drop k:=by
 have hlen:s.data.toList.length=s.size:=by simp
 intro N
 induction N using Nat.strongRecOn with
 |_ N ih=>
  intro k hN hk
  obtain ⟨b1,b2⟩:=Yc s.data.toList (k:=k) (by omega)
  have hst:=Av6 s.data.toList k
  by_cases h:BK s.data.toList k<s.size
  ·rw [Ac2 hk h,AsN _ (Abq _ _),ih (s.size-(BK s.data.toList k+1)) (by omega) _ rfl (by omega),Lib.extract_data]
   have h1:=List.drop_eq_getElem_cons (l:=s.data.toList) (i:=BK s.data.toList k) (by omega)
   rw [hst (by omega)] at h1
   rw [←h1]
   have h2:=List.take_append_drop (BK s.data.toList k-k) (s.data.toList.drop k)
   rw [List.drop_drop,show k+(BK s.data.toList k-k)=BK s.data.toList k by omega] at h2
   exact h2
  ·rw [Z9 h]
   show (s.extract k (BK s.data.toList k)).data.toList=_
   rw [Lib.extract_data,List.take_of_length_le (by rw [List.length_drop];omega)]
end Go.Proofs.YtdfbohaohjaloaaGreatDoor
end
section
namespace Punnet.Num
set_option maxRecDepth 10000
def BJ (m:Nat):List UInt8:=if m<10 then [UInt8.ofNat (48+m)] else BJ (m / 10) ++ [UInt8.ofNat (48+m % 10)]
 termination_by m
 decreasing_by omega
theorem JO {m:Nat}(h:m<10):BJ m= [UInt8.ofNat (48+m)]:=by rw [BJ,if_pos h]
theorem O3 {m:Nat}(h:¬m<10):BJ m=BJ (m / 10) ++ [UInt8.ofNat (48+m % 10)]:=by rw [BJ,if_neg h]
theorem ML (m:Nat):BJ m≠[]:=by rw [BJ];split<;>simp
def print (n:Int):List UInt8:=if n<0 then 45::BJ n.natAbs else BJ n.natAbs
def DY (n:Int):ByteArray:=⟨(print n).toArray⟩
theorem YS (n:Int):(DY n).data.toList=print n:=by simp [DY]
theorem Auo (n:Int):(DY n).size=(print n).length:=by
 rw [←YS];simp
def dig (b:UInt8):Bool:=decide (48≤b.toNat∧b.toNat≤57)
def neg:List UInt8→Nat
 |b::_=>if b.toNat=45 then 1 else 0
 | []=>0
theorem AmV (l:List UInt8):neg l≤l.length:=by
 cases l with
 |nil=>simp [neg]
 |cons b r=>simp only [neg,List.length_cons];split<;>omega
theorem Acp (l:List UInt8):neg l≤1:=by
 cases l with
 |nil=>simp [neg]
 |cons b r=>simp only [neg];split<;>omega
def Ey (l:List UInt8):Nat:=
 if ((l.drop (neg l)).takeWhile dig).length=0 then 0 else neg l+((l.drop (neg l)).takeWhile dig).length
def Gq (l:List UInt8)(k D E:Nat):Prop:=
 k≤l.length∧(k=0→D=0∧E=0)∧(0<k→D+neg l=k∧E=if D=0 then 0 else k)∧∀j (h:j<l.length),neg l≤j→j<k→dig l[j] = true
theorem Gq.start (l:List UInt8):Gq l 0 0 0:=⟨Nat.zero_le _,fun _=>⟨rfl,rfl⟩,fun h=>absurd h (by omega),fun _ _ _ h=>absurd h (by omega)⟩
theorem Gq.skip {l:List UInt8}{D E:Nat}(h:Gq l 0 D E)(hl:0<l.length)(hb:l[0].toNat=45):Gq l 1 D E:=by
 obtain ⟨_,h0,_,_⟩:=h
 obtain ⟨rfl,rfl⟩:=h0 rfl
 have hn:neg l=1:=by
  cases l with
  |nil=>simp at hl
  |cons b r=>simpa [neg] using hb
 exact ⟨hl,fun h=>absurd h (by omega),fun _=>⟨by omega,by simp⟩,fun j _ h1 h2=>absurd h2 (by omega)⟩
theorem NU {l:List UInt8}(hl:0<l.length)(hb:l[0].toNat≠45):neg l=0:=by
 cases l with
 |nil=>rfl
 |cons b r=>simp only [neg];exact if_neg (by simpa using hb)
theorem UE {l:List UInt8}(hl:0<l.length)(hb:l[0].toNat=45):neg l=1:=by
 cases l with
 |nil=>simp at hl
 |cons b r=>simp only [neg];exact if_pos (by simpa using hb)
theorem Gq.more {l:List UInt8}{k D E:Nat}(h:Gq l k D E)(hl:k<l.length)(hb:48≤l[k].toNat)(hb':l[k].toNat≤57):Gq l (k+1) (D+1) (k+1):=by
 obtain ⟨_,h0,h1,h2⟩:=h
 have hd:D+neg l=k:=by
  rcases Nat.eq_zero_or_pos k with rfl|hp
  ·rw [NU hl (by omega)];exact (h0 rfl).1
  ·exact (h1 hp).1
 refine ⟨hl,fun h=>absurd h (by omega),fun _=>⟨by omega,by simp⟩,fun j hj hn hjk=>?_⟩
 by_cases e:j=k
 ·subst e;simp [dig,hb,hb']
 ·exact h2 j hj hn (by omega)
theorem AeW {p:UInt8→Bool}{l:List UInt8}{n:Nat}(hn:n≤l.length)(ha:∀j (h:j<l.length),j<n→p l[j] = true)(he:∀h:n<l.length,p l[n] = false):(l.takeWhile p).length=n:=by
 induction l generalizing n with
 |nil=>simp at hn;simp [hn]
 |cons b r ih=>
  cases n with
  |zero=>
   have hb:p b=false:=he (by simp)
   rw [List.takeWhile_cons,if_neg (by simp [hb])];rfl
  |succ n=>
   have hb:p b=true:=ha 0 (by simp) (by omega)
   rw [List.takeWhile_cons,if_pos hb,List.length_cons,ih (by simpa using hn) (fun j h hj=>ha (j+1) (by simpa using h) (by omega)) (fun h=>he (by simpa using h))]
theorem Gq.stop {l:List UInt8}{k D E:Nat}(h:Gq l k D E)(he:∀h:k<l.length,¬(48≤l[k].toNat∧l[k].toNat≤57)∧¬(k=0∧l[k].toNat=45)):Ey l=if D=0 then 0 else E:=by
 obtain ⟨hk,h0,h1,h2⟩:=h
 have hd:D+neg l=k:=by
  rcases Nat.eq_zero_or_pos k with rfl|hp
  ·have hn:neg l=0:=by
    cases l with
    |nil=>rfl
    |cons b r=>exact NU (by simp) (fun e=>(he (by simp)).2 ⟨rfl,e⟩)
   rw [hn];exact (h0 rfl).1
  ·exact (h1 hp).1
 have hlen:((l.drop (neg l)).takeWhile dig).length=D:=by
  refine AeW (by rw [List.length_drop];omega) (fun j h hj=>?_) (fun h=>?_)
  ·rw [List.getElem_drop];exact h2 _ _ (by omega) (by omega)
  ·rw [List.getElem_drop]
   have hh:k<l.length:=by rw [List.length_drop] at h;omega
   have:=(he hh).1
   subst hd
   simp only [dig,decide_eq_false_iff_not]
   rw [show l[neg l+D]'(by omega)=l[D+neg l]'hh from by congr 1;omega]
   exact this
 rw [Ey,hlen]
 by_cases hD:D=0
 ·simp [hD]
 ·rw [if_neg hD,if_neg hD,(h1 (by omega)).2,if_neg hD];omega
theorem Af4 {p:UInt8→Bool}{l:List UInt8}(h:(l.takeWhile p).length=l.length):∀j (hj:j<l.length),p l[j] = true:=by
 induction l with
 |nil=>intro j hj;simp at hj
 |cons b r ih=>
  intro j hj
  rw [List.takeWhile_cons] at h
  by_cases hb:p b=true
  ·rw [if_pos hb] at h
   cases j with
   |zero=>exact hb
   |succ j=>exact ih (by simpa using h) j (by simpa using hj)
  ·rw [if_neg hb] at h;simp at h
theorem Aho (p:UInt8→Bool)(l:List UInt8):(l.takeWhile p).length≤l.length:=by
 induction l with
 |nil=>simp
 |cons b r ih=>rw [List.takeWhile_cons];split<;>simp<;>omega
theorem YF {l:List UInt8}(hp:Ey l=l.length)(hl:0<l.length):neg l<l.length:=by
 rw [Ey] at hp
 split at hp<;>omega
theorem AaW {l:List UInt8}(hp:Ey l=l.length)(hl:0<l.length)(k:Nat)(hk:k<l.length)(hn:neg l≤k):dig l[k] = true:=by
 have hw:((l.drop (neg l)).takeWhile dig).length=(l.drop (neg l)).length:=by
  rw [List.length_drop]
  rw [Ey] at hp
  split at hp<;>omega
 have:=Af4 hw (k-neg l) (by rw [List.length_drop];omega)
 rw [List.getElem_drop] at this
 rw [←this]
 congr 2
 omega
def Bq (l:List UInt8):Nat:=l.foldl (fun a b=>10*a+(b.toNat-48)) 0
theorem Ue (l:List UInt8)(b:UInt8):Bq (l ++ [b])=10*Bq l+(b.toNat-48):=by simp [Bq]
theorem Ad3 {l:List UInt8}{k:Nat}(h:k<l.length):Bq (l.take (k+1))=10*Bq (l.take k)+(l[k].toNat-48):=by
 rw [List.take_succ_eq_append_getElem h,Ue]
theorem AsL (l:List UInt8):∀a:Nat,a≤l.foldl (fun a b=>10*a+(b.toNat-48)) a:=by
 induction l with
 |nil=>exact fun a=>Nat.le_refl _
 |cons b r ih=>exact fun a=>Nat.le_trans (show a≤10*a+(b.toNat-48) by omega) (ih _)
theorem V8 (l:List UInt8)(k:Nat):Bq (l.take k)≤Bq l:=by
 have h:Bq l=(l.drop k).foldl (fun a b=>10*a+(b.toNat-48)) (Bq (l.take k)):=by
  rw [Bq,Bq,←List.foldl_append,List.take_append_drop]
 rw [h]
 exact AsL _ _
def valueOf (l:List UInt8):Int×Int:=
 if (l.drop (neg l)).head? = some 48∧(neg l=1∨1<(l.drop (neg l)).length) then (0,4)
 else if neg l=1 then (if 9223372036854775808<Bq (l.drop (neg l)) then (0,3) else (-(Bq (l.drop (neg l)):Int),0))
 else (if 9223372036854775807<Bq (l.drop (neg l)) then (0,3) else ((Bq (l.drop (neg l)):Int),0))
def BU (l:List UInt8):Int×Int:=if Ey l=0∨Ey l≠l.length then (0,4) else valueOf l
theorem AvK (l:List UInt8):Ey l≤l.length:=by
 have h1:=Aho dig (l.drop (neg l))
 have h2:=AmV l
 rw [List.length_drop] at h1
 rw [Ey]
 split<;>omega
end Punnet.Num
end
