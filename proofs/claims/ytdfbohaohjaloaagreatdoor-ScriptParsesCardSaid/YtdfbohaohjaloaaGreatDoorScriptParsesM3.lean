/- Part 3. -/
import Derived.IntWalk
import Derived.Laws.StructEq
import Derived.KernelRfl
import Derived.Laws.IdiomStrings
import Derived.Lib.Join
import Derived.Lib.SplitLaws
import Derived.Lib.CutLaws
import Derived.Lib.IndexBytes
import Derived.Deep.QuietTactic
import Derived.BigQuiet
import Derived.Lib.SmallJoins
import Derived.StillTailTactics
import Derived.Outline
import Derived.Deep.RegionHeld3
import Derived.Deep.AppendLies
import Derived.Test.YtdfbohaohjaloaaGreatDoorScriptParsesM2
set_option linter.unusedVariables false
set_option linter.unusedSimpArgs false
set_option maxHeartbeats 1000000
section
namespace Go.Vm
open Go.RowKit
def liftK (K:Exit→Tr→Hp→Prop):Exit→Env→Prop:=fun e env=>∃t h,env=Af t h∧K e t h
section
variable {P:Program} {tt:TT} {N:Nat} {fb:List Nat} {t:Tr} {h:Hp} {K:Exit→Tr→Hp→Prop}
theorem VQ (htt:FI P tt)(hNB:N≤BIG):∀{c:Code} {t:Tr} {h:Hp} {K:Exit→Tr→Hp→Prop},Js P tt N fb c t h K→VC P N c (Af t h) (liftK K):=by
 intro c
 induction c with
 | skip=>intro t h K hk;exact vc_skip ⟨t,h,rfl,hk⟩
 | label l=>intro t h K hk;exact vc_label ⟨t,h,rfl,hk⟩
 | ret=>intro t h K hk;exact vc_ret ⟨t,h,rfl,hk⟩
 | exit id=>intro t h K hk;exact vc_exit ⟨t,h,rfl,hk⟩
 | goto l=>intro t h K hk;exact vc_goto ⟨t,h,rfl,hk⟩
 | region id ops draw=>
  intro t h K hk
  cases draw with
  | false=>
   obtain ⟨l⟩:=ops
   exact vc_region (Oi htt hNB hk)
  | true=>
   obtain ⟨l⟩:=ops
   change TN P tt N fb l.toArray true t h K at hk
   unfold TN at hk
   simp only at hk
   split at hk
   ·obtain ⟨⟨h1,h2⟩,h3⟩:=hk
    exact Aaj htt hNB (fun t h hk=>⟨t,h,rfl,hk⟩) h1 h2 h3
   ·obtain ⟨p,⟨h1,h2⟩,h3⟩:=hk
    exact xplan_sound htt hNB (fun t h hk=>⟨t,h,rfl,hk⟩) h1 h2 h3
 | seq a b iha ihb=>
  intro t h K hk
  refine vc_then (OD (iha hk) ?_)
  rintro e env ⟨t',h',rfl,hk'⟩
  cases e with
  | normal=>exact ihb hk'
  | _=>exact ⟨t',h',rfl,hk'⟩
 | cond c a b iha ihb=>
  intro t h K hk
  have hk:=Bi (h:=h) hk
  split at hk
  ·rename_i p hp
   have hv:vd (Af t h) c=some (.sc (.bool p)):=by unfold vd;rw [hp];rfl
   cases c with
   | tmp u=>
    simp only at hk
    split at hk
    ·exact hk.elim
    ·rename_i hb
     have hlt:=Ht hb
     have hs:(Af t h) u=.c (.d (.sc (.bool p))):=by
      have h2:DI u (Af t h u)=.c (.d (.sc (.bool p))):=hp
      cases hx:Af t h u with
      | c x=>rw [hx] at h2;exact h2
      | _=>rw [hx] at h2;cases h2
     have key:∀t',(∀v,t'.get v=if v=u then .c (.d (.sc (.bool p))) else t.get v)→Af t' h=Af t h:=by
      intro t' h1
      rw [Ea hlt h1]
      funext v
      simp only [upd]
      split
      ·rename_i e;subst e;exact hs.symm
      ·rfl
     refine vc_if hv (fun e=>?_) (fun e=>?_)
     ·obtain ⟨t',h1,h2⟩:=Bh (hk.1 e)
      rw [←key t' (by rw [e];exact h1)]
      exact iha h2
     ·obtain ⟨t',h1,h2⟩:=Bh (hk.2 e)
      rw [←key t' (by rw [e];exact h1)]
      exact ihb h2
   | _=>exact vc_if hv (fun e=>iha (hk.1 e)) (fun e=>ihb (hk.2 e))
  ·exact hk.elim
 | block id b ih=>
  intro t h K hk
  refine vc_block (OD (ih hk) ?_)
  rintro e env ⟨t',h',rfl,hk'⟩
  cases e with
  | exit i=>
   simp only at hk'
   show if i=id then _ else _
   split at hk'
   ·rename_i hb;rw [if_pos (Nat.eq_of_beq_eq_true hb)];exact ⟨t',h',rfl,hk'⟩
   ·rename_i hb;rw [if_neg (fun e=>by rw [e,Nat.beq_refl] at hb;cases hb)];exact ⟨t',h',rfl,hk'⟩
  | _=>exact ⟨t',h',rfl,hk'⟩
 | _=>intro t h K hk;exact hk.out
def copyK:List Nat→Tr→Tr→(Tr→Prop)→Prop
 | [],_,t1,K=>K t1
 | a::L,t,t1,K=>sK (t.get a) fun s=>AV 20 t1 a s fun t1=>copyK L t t1 K
theorem Wn:∀{L:List Nat} {t t1:Tr} {K:Tr→Prop},copyK L t t1 K→∃t',(∀u,t'.get u=if L.contains u then t.get u else t1.get u)∧K t'
 | [],t,t1,K,h=>⟨t1,by simp,h⟩
 | a::L,t,t1,K,h=>by
  obtain ⟨t2,h1,h2⟩:=Bh (KN h)
  obtain ⟨t3,h3,h4⟩:=Wn h2
  refine ⟨t3,fun u=>?_,h4⟩
  rw [h3,h1,List.contains_cons]
  by_cases e:u=a
  ·subst e;simp
  ·have:(u==a)=false:=by simpa using e
   simp [this,e]
def setsK:List (Nat×S)→Tr→(Tr→Prop)→Prop
 | [],t,K=>K t
 | (a,s)::F,t,K=>AV 20 t a s fun t=>setsK F t K
theorem Vj:∀{F:List (Nat×S)} {t:Tr} {K:Tr→Prop},setsK F t K→∃t',(∀u,(∃s,(u,s)∈F∧t'.get u=s)∨((∀s,(u,s) ∉ F)∧t'.get u=t.get u))∧K t'
 | [],t,K,h=>⟨t,fun u=>.inr ⟨by simp,rfl⟩,h⟩
 | (a,s)::F,t,K,h=>by
  obtain ⟨t1,h1,h2⟩:=Bh h
  obtain ⟨t2,h3,h4⟩:=Vj h2
  refine ⟨t2,fun u=>?_,h4⟩
  rcases h3 u with ⟨s',k1,k2⟩ | ⟨k1,k2⟩
  ·exact .inl ⟨s',List.mem_cons_of_mem _ k1,k2⟩
  ·rw [h1] at k2
   by_cases e:u=a
   ·subst e
    exact .inl ⟨s,List.mem_cons_self ..,by simpa using k2⟩
   ·refine .inr ⟨fun s' hm=>?_,by simpa [e] using k2⟩
    rcases List.mem_cons.1 hm with h | h
    ·injection h with h;exact e h
    ·exact k1 s' h
def startK (L:List Nat)(F:List (Nat×S))(t:Tr)(K:Tr→Prop):Prop:=copyK L t .leaf fun t1=>setsK F t1 K
def ent (t:Tr):List (Nat×S)→Prop
 | []=>True
 | (a,s)::F=>t.get a=s∧ent t F
theorem ent_mem {t:Tr}:∀{F:List (Nat×S)},ent t F→∀a s,(a,s)∈F→t.get a=s
 | [],_,a,s,h=>by cases h
 | (a',s')::F,⟨h1,h2⟩,a,s,h=>by
  rcases List.mem_cons.1 h with h | h
  ·injection h with e1 e2;subst e1 e2;exact h1
  ·exact ent_mem h2 a s h
theorem mapf_at {α β:Type}{f g:α→β}:∀{L:List α},L.map f=L.map g→∀a∈L,f a=g a
 | [],_,a,h=>by cases h
 | b::L,h,a,ha=>by
  simp only [List.map_cons,List.cons.injEq] at h
  rcases List.mem_cons.1 ha with rfl | ha
  ·exact h.1
  ·exact mapf_at h.2 a ha
theorem start_sub {L:List Nat}{F:List (Nat×S)}{t0 t:Tr}{h:Hp}{K:Tr→Prop}(hs:startK L F t0 K)(hL:L.map t.get=L.map t0.get)(hF:ent t F):∃t1,(∀u,Af t1 h u=Af t h u∨Af t1 h u=.junk)∧K t1:=by
 obtain ⟨t1,h1,h2⟩:=Wn hs
 obtain ⟨t2,h3,h4⟩:=Vj h2
 refine ⟨t2,fun u=>?_,h4⟩
 by_cases hu:u<NAM
 ·rw [Cm hu,Cm hu]
  rcases h3 u with ⟨s,k1,k2⟩ | ⟨k1,k2⟩
  ·left;rw [k2,ent_mem hF u s k1]
  ·rw [k2,h1]
   by_cases hc:L.contains u=true
   ·left;rw [if_pos hc];exact (mapf_at hL u (by simpa using hc)).symm
   ·right;rw [if_neg hc];rfl
 ·left;simp only [Af,if_neg hu]
def rndK {σ:Type}(L:List Nat)(F:σ→List (Nat×S))(G:σ→Hp)(I:σ→Prop)(μ:σ→Nat)(t0:Tr)(m:Nat)(K:Exit→Tr→Hp→Prop):Exit→Tr→Hp→Prop
 | .normal,t,h=>∃s,I s∧μ s<m∧L.map t.get=L.map t0.get∧ent t (F s)∧G s=h
 | e,t,h=>K e t h
theorem xloop (htt:FI P tt)(hNB:N≤BIG){body:Code}(L:List Nat){σ:Type}(F:σ→List (Nat×S))(G:σ→Hp)(I:σ→Prop)(μ:σ→Nat)(s0:σ)(h0:I s0)(hF:ent t (F s0))(hG:G s0=h)
 (round:∀s,I s→startK L (F s) t fun t1=>Js P tt N fb body t1 (G s) (rndK L F G I μ t (μ s) K)):Leaf (VC P N (.loop body) (Af t h) fun e env=>∃t h,env=Af t h∧K e t h):=by
 refine ⟨vc_loop (fun n env=>∃s t',I s∧n=μ s∧L.map t'.get=L.map t.get∧ent t' (F s)∧env=Af t' (G s)) (n:=μ s0) ⟨s0,t,h0,rfl,rfl,hF,by rw [hG]⟩ ?_⟩
 rintro n env ⟨s,t',h1,rfl,h2,h3,rfl⟩
 obtain ⟨t1,h4,h5⟩:=start_sub (h:=G s) (round s h1) h2 h3
 refine Uk h4 (OD (VQ htt hNB h5) ?_)
 rintro e env ⟨t2,h2,rfl,hk⟩
 cases e with
 | normal=>
  obtain ⟨s',k1,k2,k3,k4,k5⟩:=hk
  exact ⟨_,k2,s',t2,k1,rfl,k3,k4,by rw [k5]⟩
 | _=>exact ⟨t2,h2,rfl,hk⟩
theorem Et (htt:FI P tt)(hNB:N≤BIG){body:Code}(L:List Nat){σ:Type}(F:σ→List (Nat×S))(I:σ→Prop)(μ:σ→Nat)(s0:σ)(h0:I s0)(hF:ent t (F s0))
 (round:∀s,I s→startK L (F s) t fun t1=>Js P tt N fb body t1 h (rndK L F (fun _=>h) I μ t (μ s) K)):Leaf (VC P N (.loop body) (Af t h) fun e env=>∃t h,env=Af t h∧K e t h):=
 xloop htt hNB L F (fun _=>h) I μ s0 h0 hF rfl round
end
end Go.Vm
end
section
namespace Go.Vm
open Go.RowKit
section
variable {P:Program} {tt:TT} {N:Nat} {fb stop:List Nat} {t:Tr} {h:Hp} {K:Exit→Tr→Hp→Prop}
def Oe:Nat→List D→Tr→(Tr→Prop)→Prop
 | _,[],t,K=>K t
 | k,d::l,t,K=>AV 20 t k (.c (.d d)) fun t=>Oe (Nat.succ k) l t K
theorem W9:∀{l:List D} {k:Nat} {t:Tr} {K:Tr→Prop},Oe k l t K→∃t',(∀u,t'.get u=if u<k then t.get u else match l[u-k]? with | some d=>.c (.d d) | none=>t.get u)∧K t'
 | [],k,t,K,h=>⟨t,by simp,h⟩
 | d::l,k,t,K,h=>by
  obtain ⟨t1,h1,h2⟩:=Bh h
  obtain ⟨t2,h3,h4⟩:=W9 h2
  refine ⟨t2,fun u=>?_,h4⟩
  rw [h3,h1]
  rcases Nat.lt_trichotomy u k with e | e | e
  ·rw [if_pos (show u<Nat.succ k by omega),if_neg (by omega),if_pos e]
  ·subst e;rw [if_pos (show u<Nat.succ u by omega),if_pos rfl,if_neg (by omega),Nat.sub_self];rfl
  ·rw [if_neg (show ¬u<Nat.succ k by omega),if_neg (show ¬u=k by omega),if_neg (show ¬u<k by omega),show u-k=(u-Nat.succ k)+1 by omega,List.getElem?_cons_succ]
def JX (tt:TT)(t:Tr):List ResultVar→(List C→Prop)→Prop
 | [],K=>K []
 | .tmp u::l,K=>match Nat.ble 1000000 u,t.get u with
  | false,.c (.d x)=>JX tt t l fun cs=>K (.d x::cs)
  | false,.c (.own τ e xs)=>JX tt t l fun cs=>K (.own τ e xs::cs)
  | false,.c .nil=>JX tt t l fun cs=>K (.nil::cs)
  | _,_=>False
 | .cell u T::l,K=>match Nat.ble 1000000 u,t.get u,tt.get T with
  | false,.box cs,some i=>Gu (shI i) cs 0 fun d=>JX tt t l fun cs=>K (.d d::cs)
  | _,_,_=>False
theorem UO (htt:FI P tt):∀{l:List ResultVar} {K:List C→Prop},JX tt t l K→∃cs,JO P (Af t h) l=some cs∧K cs
 | [],K,hk=>⟨[],rfl,hk⟩
 | .tmp u::l,K,hk=>by
  simp only [JX] at hk
  split at hk
  all_goals first | exact hk.elim | skip
  all_goals
   rename_i hb hs
   obtain ⟨cs,h1,h2⟩:=UO htt hk
   refine ⟨_::cs,?_,h2⟩
   simp only [JO,vres1,Cm (Ht hb),hs,h1]
 | .cell u T::l,K,hk=>by
  simp only [JX] at hk
  split at hk
  ·rename_i cs i hb hs hi
   obtain ⟨d,h1,h2⟩:=Hm hk
   obtain ⟨cs',h3,h4⟩:=UO htt h2
   exact ⟨_,by simp only [JO,vres1,Cm (Ht hb),hs,GU (htt _ _ hi),h1,h3,Option.map_some],h4⟩
  ·exact hk.elim
def O3 (h:Hp):List (Nat×S)→Prop
 | []=>True
 | (n,s)::l=>(NAM≤n∧h n=s)∧O3 h l
theorem postL_spec {post:List (Nat×S)}(h1:O3 h post)(h2:∀p∈post,thing p.2=true):∀p∈post,Af t h p.1=p.2:=by
 induction post with
 | nil=>intro p hp;cases hp
 | cons q l ih=>
  obtain ⟨n,s⟩:=q
  intro p hp
  rcases List.mem_cons.1 hp with rfl | hp
  ·have ht:=h2 (n,s) (List.mem_cons_self ..)
   simp only [KQ h1.1.1,h1.1.2]
   cases s<;>first | rfl | cases ht
  ·exact ih h1.2 (fun q hq=>h2 q (List.mem_cons_of_mem _ hq)) p hp
def finK (P:Program)(tt:TT)(rs:List ResultVar)(res:List C)(post:List (Nat×S)):Exit→Tr→Hp→Prop
 | .normal,t,h=>JX tt t rs fun cs=>Leaf (Bq P cs res∧O3 h post)
 | .ret,t,h=>JX tt t rs fun cs=>Leaf (Bq P cs res∧O3 h post)
 | _,_,_=>False
def hOf:List (Nat×S)→Hp
 | []=>fun _=>.junk
 | (n,s)::l=>hset (hOf l) n s
theorem hOf_find:∀(l:List (Nat×S)) (u:Nat),hOf l u=match l.find? fun p=>p.1==u with | some p=>p.2 | none=>.junk
 | [],u=>rfl
 | (n,s)::l,u=>by
  simp only [hOf,hset,List.find?_cons]
  by_cases e:u=n
  ·subst e;simp
  ·have:(n==u)=false:=by simpa using fun h=>e h.symm
   simp only [if_neg e,this];exact hOf_find l u
theorem xfnH (htt:FI P tt){f:FuncId}{fn:Func}{c:Code}{args:List D}{res:List C}{pre post:List (Nat×S)}{rs:List ResultVar}(fb:List Nat)(hf:P.funcs[f]? = some fn)(hb:fn.body=some c)(hN:fn.ntmps=N)(hrs:fn.results.toList=rs)(hargs:args.length≤N)(hNB:N≤BIG)
 (hbig:∀p∈pre,NAM≤p.1) (hp:∀p∈pre,thing p.2=true) (hq:∀p∈post,thing p.2=true) (hk:Oe 0 args .leaf fun t=>Js P tt N fb c t (hOf pre) (finK P tt rs res post)):FK P f args pre res post:=by
 subst hrs
 refine YV hf hb hN hargs hp hq ?_
 obtain ⟨t,h1,h2⟩:=W9 hk
 have e:envH args pre=Af t (hOf pre):=by
  funext u
  unfold envH
  by_cases hu:u<NAM
  ·rw [Cm hu,h1]
   simp only [Nat.not_lt_zero,if_false,Nat.sub_zero]
   cases args[u]? with
   | some d=>rfl
   | none=>
    have:(pre.find? fun p=>p.1==u)=none:=by
     rw [List.find?_eq_none]
     intro p hm
     have:=hbig p hm
     simp only [beq_iff_eq];omega
    simp only [this];rfl
  ·have hge:NAM≤u:=by omega
   have hbn:BIG≤NAM:=by decide
   rw [KQ hge,hOf_find,List.getElem?_eq_none (by omega)]
   cases hfd:pre.find? fun p=>p.1==u with
   | none=>rfl
   | some p=>
    have:=hp p (List.mem_of_find?_eq_some hfd)
    simp only
    cases hs:p.2<;>rw [hs] at this<;>first | rfl | cases this
 rw [e]
 refine OD (VQ htt hNB h2) ?_
 rintro e env ⟨t',h',rfl,hk⟩
 have key:(JX tt t' fn.results.toList fun cs=>Leaf (Bq P cs res∧O3 h' post))→(∃cs,JO P (Af t' h') fn.results.toList=some cs∧Bq P cs res)∧∀p∈post,Af t' h' p.1=p.2:=by
  intro hk
  obtain ⟨cs,h1,⟨h2,h3⟩⟩:=UO (h:=h') htt hk
  exact ⟨⟨cs,h1,h2⟩,postL_spec h3 hq⟩
 cases e with
 | normal=>exact ⟨.inl rfl,key hk⟩
 | ret=>exact ⟨.inr rfl,key hk⟩
 | _=>exact hk.elim
theorem xfn (htt:FI P tt){f:FuncId}{fn:Func}{c:Code}{args:List D}{res:List C}{rs:List ResultVar}(fb:List Nat)(hf:P.funcs[f]? = some fn)(hb:fn.body=some c)(hN:fn.ntmps=N)(hrs:fn.results.toList=rs)(hargs:args.length≤N)(hNB:N≤BIG)
 (hk:Oe 0 args .leaf fun t=>Js P tt N fb c t (fun _=>.junk) (finK P tt rs res [])):AQ P f args res:=by
 have hc:=xfnH (pre:=[]) (post:=[]) htt fb hf hb hN hrs hargs hNB (by simp) (by simp) (by simp) hk
 intro ro w vs τ h1 h2 h3 h4
 refine (hc ro w vs τ h1 h2 h3 h4 (by simp)).mono ?_
 rintro e w' ⟨v,ro',rfl,hg,hs,_⟩
 exact ⟨v,ro',rfl,hg.plain,hs⟩
end
end Go.Vm
end
section
namespace Go.Vm
open Go.RowKit
section
variable {P:Program} {T:TypeId} {x y:Operand}
theorem DC {op:BinOp}{u v r:Value}{K:Value→Prop}(h:AX P (do eqGuard op T x y u v;binOp op T u v:Sem Value)=some r)(hp:BL r=true)(hK:K r):∃r,AX P (do eqGuard op T x y u v;binOp op T u v:Sem Value)=some r∧BL r=true∧K r:=⟨r,h,hp,hK⟩
theorem DN {k:IntKind}{a b c:Int}{K:Value→Prop}(hK:K (.int k c))(h:k.wrap (a+b)=c:=by first | exact IntWalk.i64_in _ (by first | omega | (simp only [List.length_map,List.length_append,List.length_nil,List.length_cons,List.length_take,List.length_drop];omega)) | rfl):∃r,AX P (do eqGuard .add T x y (.int k a) (.int k b);binOp .add T (.int k a) (.int k b):Sem Value)=some r∧BL r=true∧K r:=⟨_,Qs h,rfl,hK⟩
theorem CJ {n:Nat}{K:Value→Prop}(hK:K (.int .i64 ((n+1:Nat):Int)))(h:n+1≤9223372036854775807:=by first | omega | (simp only [List.length_map,List.length_append,List.length_nil,List.length_cons,List.length_take,List.length_drop];omega)):∃r,AX P (do eqGuard .add T x y (.int .i64 (n:Int)) (.int .i64 1);binOp .add T (.int .i64 (n:Int)) (.int .i64 1):Sem Value)=some r∧BL r=true∧K r:=⟨_,Qs (IntWalk.i64_in _ (by omega)),rfl,hK⟩
theorem x_eqS {op:BinOp}{du dv:D}{u v r:Value}{K:Value→Prop}(hu:Ai du=some u)(hv:Ai dv=some v)(h:∀w,(do eqGuard op T x y u v;binOp op T u v:Sem Value).run P w=.ok r w)(hp:BL r=true)(hK:K r) :
 ∃u v r,(Ai du=some u∧Ai dv=some v)∧(∀w,(do eqGuard op T x y u v;binOp op T u v:Sem Value).run P w=.ok r w)∧BL r=true∧K r:=⟨u,v,r,⟨hu,hv⟩,h,hp,hK⟩
end
theorem Ef {xs:List D}{j:Nat}{y:D}{i:Int}{K:Nat→D→Prop}(hy:xs[j]? = some y)(hK:K j y)(hi:i=(j:Int):=by rfl):∃(j:Nat) (y:D),i=(j:Int)∧xs[j]? = some y∧K j y:=⟨j,y,hi,hy,hK⟩
theorem Ag {xs:List D}{y:D}{i:Int}{K:Nat→D→Prop}(hy:xs[i.toNat]? = some y)(hK:K i.toNat y)(h0:0≤i:=by omega):∃(j:Nat) (y:D),i=(j:Int)∧xs[j]? = some y∧K j y:=⟨i.toNat,y,(Int.toNat_of_nonneg h0).symm,hy,hK⟩
theorem FQ {s:ByteArray}{j:Nat}{y:UInt8}{i:Int}{K:Nat→UInt8→Prop}(hy:s[j]? = some y)(hK:K j y)(hi:i=(j:Int):=by rfl):∃(j:Nat) (y:UInt8),i=(j:Int)∧s[j]? = some y∧K j y:=⟨j,y,hi,hy,hK⟩
theorem E8 {s:ByteArray}{y:UInt8}{i:Int}{K:Nat→UInt8→Prop}(hy:s[i.toNat]? = some y)(hK:K i.toNat y)(h0:0≤i:=by omega):∃(j:Nat) (y:UInt8),i=(j:Int)∧s[j]? = some y∧K j y:=⟨i.toNat,y,(Int.toNat_of_nonneg h0).symm,hy,hK⟩
theorem Fq {i:Int}{j:Nat}{K:Nat→Prop}(hK:K j)(hi:i=(j:Int):=by rfl):∃j:Nat,i=(j:Int)∧K j:=⟨j,hi,hK⟩
theorem Ee {i:Int}{K:Nat→Prop}(hK:K i.toNat)(h0:0≤i:=by omega):∃j:Nat,i=(j:Int)∧K j:=⟨i.toNat,(Int.toNat_of_nonneg h0).symm,hK⟩
theorem Az {α:Type}{a n:α}{K:α→Prop}(hK:K n)(h:a=n:=by first | exact List.length_map .. | rfl):∃n,a=n∧K n:=⟨n,h,hK⟩
theorem Gi {s s':ByteArray}{l hh:Nat}{K:ByteArray→Prop}(hK:K s')(h1:l≤hh:=by first | omega | (simp only [List.length_map,List.length_append,List.length_nil,List.length_cons,List.length_take,List.length_drop];omega))(h2:hh≤s.size:=by first | omega | (simp only [List.length_map,List.length_append,List.length_nil,List.length_cons,List.length_take,List.length_drop];omega))(hy:s.extract l hh=s':=by rfl):l≤hh∧hh≤s.size∧∃s',s.extract l hh=s'∧K s':=⟨h1,h2,s',hy,hK⟩
theorem EP {a b:ByteArray}{K:Prop}(hK:K)(h:a.size+b.size≤9223372036854775807:=by first | omega | (simp only [List.length_map,List.length_append,List.length_nil,List.length_cons,List.length_take,List.length_drop];omega)):a.size+b.size≤9223372036854775807∧K:=⟨h,hK⟩
theorem Ar {P:Program}{f:FuncId}{ds:List D}{res:List C}{K:List C→Prop}(he:enters P f=true)(hc:AQ P f ds res)(hK:K res):∃res,(enters P f=true∧AQ P f ds res)∧K res:=⟨res,⟨he,hc⟩,hK⟩
theorem x_fy {P:Program}{N d:Nat}{o:Oper}{t:Tr}{h:Hp}{s:S}{K:S→Hp→Prop}(hy:BX P N o (Af t h) s)(hK:K s h)(hd:o.dst=some d:=by rfl):∃(s:S) (h':Hp),Step P N o (Af t h) (upd (Af t h') (some d) s)∧K s h':=⟨s,h,by have:=hy.step;rwa [hd] at this,hK⟩
theorem Cf {h:Hp}{id:Nat}{cs:List D}{K:List D→Prop}(hb:NAM≤id)(hh:h id=.obj cs)(hK:K cs):∃cs,(NAM≤id∧h id=.obj cs)∧K cs:=⟨cs,⟨hb,hh⟩,hK⟩
theorem Cc {σ:Type}{L:List Nat}{F:σ→List (Nat×S)}{G:σ→Hp}{I:σ→Prop}{μ:σ→Nat}{t0 t:Tr}{h:Hp}{m:Nat}(s:σ)(hI:I s)(hm:μ s<m)(hL:L.map t.get=L.map t0.get)(hE:ent t (F s))(hG:G s=h):∃s,I s∧μ s<m∧L.map t.get=L.map t0.get∧ent t (F s)∧G s=h:=⟨s,hI,hm,hL,hE,hG⟩
theorem Ap {t:Tr}{a:Nat}{s:S}{F:List (Nat×S)}(h:t.get a=s)(h':ent t F):ent t ((a,s)::F):=⟨h,h'⟩
theorem CV {P:Program}{cs res:List C}{h:Hp}(hf:Bq P cs res):Leaf (Bq P cs res∧O3 h []):=⟨hf,trivial⟩
class BP (b:Bool) (p q:outParam Prop):Prop where
 yes:b=true→p
 no:b=false→q
instance bp_dec (p:Prop) [d:Decidable p]:BP (@decide p d) p (¬p):=⟨of_decide_eq_true,of_decide_eq_false⟩
instance bp_not (b:Bool) (p q:Prop) [h:BP b p q]:BP (!b) q p:=⟨fun e=>h.no (by cases b<;>simp_all),fun e=>h.yes (by cases b<;>simp_all)⟩
instance (priority:=low) bp_any (b:Bool):BP b (b=true) (b=false):=⟨id,id⟩
theorem br {b:Bool}{p q A B:Prop} [h:BP b p q](hA:p→A)(hB:q→B):(b=true→A)∧(b=false→B):=⟨fun e=>hA (h.yes e),fun e=>hB (h.no e)⟩
theorem brT {A B:Prop}(hA:A):(true=true→A)∧(true=false→B):=⟨fun _=>hA,fun h=>nomatch h⟩
theorem brF {A B:Prop}(hB:B):(false=true→A)∧(false=false→B):=⟨(fun h=>nomatch h),fun _=>hB⟩
end Go.Vm
end
section
namespace Go.Vm
instance lawfulBytes:LawfulBEq ByteArray where
 eq_of_beq:=by intro a b h;rw [beq_toListBytes,MG] at h;exact of_decide_eq_true h
 rfl:=by intro a;rw [beq_toListBytes,MG];simp
structure Bv where
 scope:Int
 group:ByteArray
 name:ByteArray
 deriving DecidableEq
structure AB where
 at_:Bv
 kind:Int
 deft:ByteArray
 cases:List ByteArray
 worth:Int
 deriving DecidableEq
structure AP where
 kind:Int
 at_:Bv
 name:ByteArray
 other:ByteArray
 factor:Int
 field:AB
 forth:List (ByteArray×ByteArray)
 back:List (ByteArray×ByteArray)
 deriving DecidableEq
abbrev noB:ByteArray:=⟨#[]⟩
def Ae:Bv:=⟨0,noB,noB⟩
def TE:AB:=⟨Ae,0,noB,[],0⟩
def noLens:AP:=⟨0,Ae,noB,noB,0,TE,[],[]⟩
def Ii (p:ByteArray×ByteArray):D:=.agg [.sc (.string p.1),.sc (.string p.2)]
def rD (r:Bv):D:=.agg [.sc (.int .i64 r.scope),.sc (.string r.group),.sc (.string r.name)]
def fD (f:AB):D:=.agg [.sc (.int .i64 f.at_.scope),.sc (.string f.at_.group),.sc (.string f.at_.name),.sc (.int .i64 f.kind),.sc (.string f.deft),.row (f.cases.map strD),.sc (.int .i64 f.worth)]
def lD (x:AP):D:=.agg [.sc (.int .i64 x.kind),.sc (.int .i64 x.at_.scope),.sc (.string x.at_.group),.sc (.string x.at_.name),.sc (.string x.name),.sc (.string x.other),.sc (.int .i64 x.factor),
 .sc (.int .i64 x.field.at_.scope),.sc (.string x.field.at_.group),.sc (.string x.field.at_.name),.sc (.int .i64 x.field.kind),.sc (.string x.field.deft),.row (x.field.cases.map strD),.sc (.int .i64 x.field.worth),.row (x.forth.map Ii),.row (x.back.map Ii)]
def GL (c:Int)(j:Nat):Bool:=(decide (97≤c)&&decide (c≤122))||(decide (48≤c)&&decide (c≤57) && !decide (j=0))
def okTo (s:ByteArray)(k:Nat):Prop:=∀j (b:UInt8),j<k→s[j]? = some b→GL b.toNat j=true
def nameB (s:ByteArray):Bool:=decide (1≤s.size∧s.size≤12)&&(List.range s.size).all fun j=>match s[j]? with
 | some b=>GL b.toNat j
 | none=>true
theorem name_yes {s:ByteArray}{k:Nat}(h1:1≤s.size)(h2:s.size≤12)(hk:s.size≤k)(h:okTo s k):nameB s=true:=by
 unfold nameB
 rw [decide_eq_true (show 1≤s.size∧s.size≤12 from ⟨h1,h2⟩),Bool.true_and,List.all_eq_true]
 intro j hj
 split
 ·rename_i b hb;exact h j b (by have:=List.mem_range.1 hj;omega) hb
 ·rfl
theorem name_no {s:ByteArray}{j:Nat}{b:UInt8}(hj:j<s.size)(hb:s[j]? = some b)(h:GL b.toNat j=false):nameB s=false:=by
 unfold nameB
 rw [Bool.and_eq_false_iff]
 right
 rw [List.all_eq_false]
 exact ⟨j,List.mem_range.2 hj,by rw [hb];simp [h]⟩
theorem XZ {s:ByteArray}(h:s.size<1):nameB s=false:=by unfold nameB;rw [decide_eq_false (fun k=>by omega)];rfl
theorem XX {s:ByteArray}(h:12<s.size):nameB s=false:=by unfold nameB;rw [decide_eq_false (fun k=>by omega)];rfl
theorem XU (s:ByteArray):okTo s 0:=fun j b hj=>by omega
theorem LH {s:ByteArray}{k:Nat}{b:UInt8}(h:okTo s k)(hb:s[k]? = some b)(hc:GL b.toNat k=true):okTo s (k+1):=by
 intro j b' hj hb'
 by_cases e:j=k
 ·subst e;rw [hb] at hb';injection hb' with e;subst e;exact hc
 ·exact h j b' (by omega) hb'
theorem FY {s:ByteArray}{k:Nat}{b:UInt8}(h:s[k]? = some b):k<s.size:=by
 rcases Nat.lt_or_ge k s.size with h1 | h1
 ·exact h1
 ·simp [show ¬k<s.size by omega] at h
def BF (r:Bv):Bool:=(decide (r.scope=0)||decide (r.scope=1))&&nameB r.name&&(decide (r.group=noB)||nameB r.group)
def ltB (a b:ByteArray):Bool:=Op.bytesLess a.toList b.toList
def KC (a b:Bv):Bool:=if a.scope≠b.scope then decide (a.scope<b.scope) else if a.group≠b.group then ltB a.group b.group else ltB a.name b.name
def okC (l:List ByteArray)(k:Nat):Bool:=(List.range k).all fun j=>match l[j]? with
 | some c=>nameB c && !decide (c∈l.take j)
 | none=>true
def casesB (l:List ByteArray):Bool:=decide (1≤l.length)&&decide (l.length≤6)&&okC l l.length
def rightF (f:AB):Bool:=BF f.at_ &&
 (if f.kind=1 then decide (f.deft=noB)&&decide (f.cases.length=0)&&decide (1≤f.worth)&&decide (f.worth≤1048576)
   else if f.kind=2 then decide (f.deft.size≤40)&&decide (f.cases.length=0)&&decide (f.worth=0)
   else if f.kind=3 then casesB f.cases&&decide (f.deft∈f.cases)&&decide (f.worth=0)
   else if f.kind=4 then decide (f.deft=noB)&&decide (f.cases.length=0)&&decide (f.worth=0)
   else false)
end Go.Vm
end
section
namespace Go.Vm.T
open Go.Proofs.Tryz
open Go.RowKit
theorem k_1:Bd prog 1 (.one [.sc .nilFunc]):=⟨by kernel_rfl,by kernel_rfl⟩
theorem k_2:Bd prog 2 (.one [.sc (.int .i64 0)]):=⟨by kernel_rfl,by kernel_rfl⟩
theorem k_3:Bd prog 3 (.one [.sc (.int .i64 0)]):=⟨by kernel_rfl,by kernel_rfl⟩
theorem k_4:Bd prog 4 (.one [.sc (.bool false)]):=⟨by kernel_rfl,by kernel_rfl⟩
theorem k_5:Bd prog 5 (.one [.sc (.int .u8 0)]):=⟨by kernel_rfl,by kernel_rfl⟩
theorem k_6:Bd prog 6 (.one [.sc (.int .u8 0)]):=⟨by kernel_rfl,by kernel_rfl⟩
theorem k_7:Bd prog 7 (.agg [(0,1),(1,1),(2,1),(3,1)] [.sc (.int .i64 0),.sc (.int .i64 0),.sc (.bool false),.sc (.int .u8 0)]):=⟨by kernel_rfl,by kernel_rfl,by kernel_rfl⟩
theorem k_8:Bd prog 8 (.agg [(0,1),(1,1),(2,1),(3,1)] [.sc (.int .i64 0),.sc (.int .i64 0),.sc (.bool false),.sc (.int .u8 0)]):=⟨by kernel_rfl,by kernel_rfl,by kernel_rfl⟩
theorem k_9:Bd prog 9 (.str):=⟨by kernel_rfl,by kernel_rfl,by kernel_rfl⟩
theorem k_10:Bd prog 10 (.str):=⟨by kernel_rfl,by kernel_rfl,by kernel_rfl⟩
theorem k_11:Bd prog 11 (.str):=⟨by kernel_rfl,by kernel_rfl,by kernel_rfl⟩
theorem k_12:Bd prog 12 (.one [.sc (.int .u64 0)]):=⟨by kernel_rfl,by kernel_rfl⟩
theorem k_13:Bd prog 13 (.agg [(0,1),(1,1)] [.sc (.string ⟨#[]⟩),.sc (.int .u64 0)]):=⟨by kernel_rfl,by kernel_rfl,by kernel_rfl⟩
theorem k_14:Bd prog 14 (.agg [(0,1),(1,1)] [.sc (.string ⟨#[]⟩),.sc (.int .u64 0)]):=⟨by kernel_rfl,by kernel_rfl,by kernel_rfl⟩
theorem k_15:Bd prog 15 (.one [.sc (.pointer none)]):=⟨by kernel_rfl,by kernel_rfl⟩
theorem k_16:Bd prog 16 (.one [.sc (.pointer none)]):=⟨by kernel_rfl,by kernel_rfl⟩
theorem k_17:Bd prog 17 (.one [.sc (.pointer none)]):=⟨by kernel_rfl,by kernel_rfl⟩
theorem k_21:Bd prog 21 (.one [.sc (.int .i32 0)]):=⟨by kernel_rfl,by kernel_rfl⟩
theorem k_23:Bd prog 23 (.agg [(0,1),(1,1)] [.sc (.int .i64 0),.sc (.int .i64 0)]):=⟨by kernel_rfl,by kernel_rfl,by kernel_rfl⟩
theorem k_25:Bd prog 25 (.one [.sc (.int .i64 0)]):=⟨by kernel_rfl,by kernel_rfl⟩
theorem k_34:Bd prog 34 (.slice 9 1 16):=⟨by kernel_rfl,by kernel_rfl,by kernel_rfl,by kernel_rfl⟩
theorem k_38:Bd prog 38 (.agg [(0,1),(1,1),(2,1)] [.sc (.int .i64 0),.sc (.string ⟨#[]⟩),.sc (.string ⟨#[]⟩)]):=⟨by kernel_rfl,by kernel_rfl,by kernel_rfl⟩
theorem k_40:Bd prog 40 (.agg [(0,3),(3,1),(4,1),(5,1),(6,1)] [.sc (.int .i64 0),.sc (.string ⟨#[]⟩),.sc (.string ⟨#[]⟩),.sc (.int .i64 0),.sc (.string ⟨#[]⟩),.row [],.sc (.int .i64 0)]):=⟨by kernel_rfl,by kernel_rfl,by kernel_rfl⟩
theorem k_41:Bd prog 41 (.slice 172 2 32):=⟨by kernel_rfl,by kernel_rfl,by kernel_rfl,by kernel_rfl⟩
theorem k_43:Bd prog 43 (.agg [(0,1),(1,3),(4,1),(5,1),(6,1),(7,7),(14,1),(15,1)] [.sc (.int .i64 0),.sc (.int .i64 0),.sc (.string ⟨#[]⟩),.sc (.string ⟨#[]⟩),.sc (.string ⟨#[]⟩),.sc (.string ⟨#[]⟩),.sc (.int .i64 0),.sc (.int .i64 0),.sc (.string ⟨#[]⟩),.sc (.string ⟨#[]⟩),.sc (.int .i64 0),.sc (.string ⟨#[]⟩),.row [],.sc (.int .i64 0),.row [],.row []]):=⟨by kernel_rfl,by kernel_rfl,by kernel_rfl⟩
theorem k_45:Bd prog 45 (.agg [(0,1),(1,1),(2,1),(3,3),(6,1),(7,1),(8,2),(10,16)] [.sc (.int .i64 0),.sc (.string ⟨#[]⟩),.sc (.string ⟨#[]⟩),.sc (.int .i64 0),.sc (.string ⟨#[]⟩),.sc (.string ⟨#[]⟩),.sc (.int .i64 0),.sc (.string ⟨#[]⟩),.sc (.int .i64 0),.sc (.int .i64 0),.sc (.int .i64 0),.sc (.int .i64 0),.sc (.string ⟨#[]⟩),.sc (.string ⟨#[]⟩),.sc (.string ⟨#[]⟩),.sc (.string ⟨#[]⟩),.sc (.int .i64 0),.sc (.int .i64 0),.sc (.string ⟨#[]⟩),.sc (.string ⟨#[]⟩),.sc (.int .i64 0),.sc (.string ⟨#[]⟩),.row [],.sc (.int .i64 0),.row [],.row []]):=⟨by kernel_rfl,by kernel_rfl,by kernel_rfl⟩
theorem k_47:Bd prog 47 (.agg [(0,1),(1,1),(2,1),(3,1),(4,1),(5,1),(6,1),(7,26)] [.sc (.int .i64 0),.sc (.int .i64 0),.sc (.int .i64 0),.sc (.int .i64 0),.sc (.int .i64 0),.sc (.int .i64 0),.sc (.int .i64 0),.sc (.int .i64 0),.sc (.string ⟨#[]⟩),.sc (.string ⟨#[]⟩),.sc (.int .i64 0),.sc (.string ⟨#[]⟩),.sc (.string ⟨#[]⟩),.sc (.int .i64 0),.sc (.string ⟨#[]⟩),.sc (.int .i64 0),.sc (.int .i64 0),.sc (.int .i64 0),.sc (.int .i64 0),.sc (.string ⟨#[]⟩),.sc (.string ⟨#[]⟩),.sc (.string ⟨#[]⟩),.sc (.string ⟨#[]⟩),.sc (.int .i64 0),.sc (.int .i64 0),.sc (.string ⟨#[]⟩),.sc (.string ⟨#[]⟩),.sc (.int .i64 0),.sc (.string ⟨#[]⟩),.row [],.sc (.int .i64 0),.row [],.row []]):=⟨by kernel_rfl,by kernel_rfl,by kernel_rfl⟩
theorem k_80:Bd prog 80 (.slice 91 2 32):=⟨by kernel_rfl,by kernel_rfl,by kernel_rfl,by kernel_rfl⟩
theorem k_83:Bd prog 83 (.slice 2 1 8):=⟨by kernel_rfl,by kernel_rfl,by kernel_rfl,by kernel_rfl⟩
theorem k_84:Bd prog 84 (.slice 23 2 16):=⟨by kernel_rfl,by kernel_rfl,by kernel_rfl,by kernel_rfl⟩
theorem k_85:Bd prog 85 (.slice 38 3 40):=⟨by kernel_rfl,by kernel_rfl,by kernel_rfl,by kernel_rfl⟩
theorem k_87:Bd prog 87 (.agg [(0,1),(1,1),(2,1),(3,1),(4,1)] [.row [],.row [],.row [],.row [],.row []]):=⟨by kernel_rfl,by kernel_rfl,by kernel_rfl⟩
theorem k_91:Bd prog 91 (.agg [(0,1),(1,1)] [.sc (.string ⟨#[]⟩),.sc (.string ⟨#[]⟩)]):=⟨by kernel_rfl,by kernel_rfl,by kernel_rfl⟩
theorem k_92:Bd prog 92 (.one [.sc (.pointer none)]):=⟨by kernel_rfl,by kernel_rfl⟩
theorem k_94:Bd prog 94 (.agg [(0,1),(1,1)] [.row [],.sc (.bool false)]):=⟨by kernel_rfl,by kernel_rfl,by kernel_rfl⟩
theorem k_95:Bd prog 95 (.one [.sc .nilFunc]):=⟨by kernel_rfl,by kernel_rfl⟩
theorem k_97:Bd prog 97 (.arr 13 9 1 [.sc (.string ⟨#[]⟩),.sc (.string ⟨#[]⟩),.sc (.string ⟨#[]⟩),.sc (.string ⟨#[]⟩),.sc (.string ⟨#[]⟩),.sc (.string ⟨#[]⟩),.sc (.string ⟨#[]⟩),.sc (.string ⟨#[]⟩),.sc (.string ⟨#[]⟩),.sc (.string ⟨#[]⟩),.sc (.string ⟨#[]⟩),.sc (.string ⟨#[]⟩),.sc (.string ⟨#[]⟩)]):=⟨by kernel_rfl,by kernel_rfl,by kernel_rfl⟩
theorem k_107:Bd prog 107 (.arr 20 5 1 [.sc (.int .u8 0),.sc (.int .u8 0),.sc (.int .u8 0),.sc (.int .u8 0),.sc (.int .u8 0),.sc (.int .u8 0),.sc (.int .u8 0),.sc (.int .u8 0),.sc (.int .u8 0),.sc (.int .u8 0),.sc (.int .u8 0),.sc (.int .u8 0),.sc (.int .u8 0),.sc (.int .u8 0),.sc (.int .u8 0),.sc (.int .u8 0),.sc (.int .u8 0),.sc (.int .u8 0),.sc (.int .u8 0),.sc (.int .u8 0)]):=⟨by kernel_rfl,by kernel_rfl,by kernel_rfl⟩
theorem k_108:Bd prog 108 (.one [.sc (.int .u64 0)]):=⟨by kernel_rfl,by kernel_rfl⟩
theorem k_109:Bd prog 109 (.slice 5 1 1):=⟨by kernel_rfl,by kernel_rfl,by kernel_rfl,by kernel_rfl⟩
theorem k_127:Bd prog 127 (.one [.sc (.pointer none)]):=⟨by kernel_rfl,by kernel_rfl⟩
theorem k_132:Bd prog 132 (.one [.sc (.int .u32 0)]):=⟨by kernel_rfl,by kernel_rfl⟩
theorem k_134:Bd prog 134 (.arrB 256 132 1):=⟨by kernel_rfl,by kernel_rfl⟩
theorem k_162:Bd prog 162 (.one [.sc (.pointer none)]):=⟨by kernel_rfl,by kernel_rfl⟩
theorem k_164:Bd prog 164 (.agg [(0,1),(1,1)] [.sc (.pointer none),.row []]):=⟨by kernel_rfl,by kernel_rfl,by kernel_rfl⟩
theorem k_172:Bd prog 172 (.agg [(0,1),(1,1)] [.sc (.string ⟨#[]⟩),.sc (.string ⟨#[]⟩)]):=⟨by kernel_rfl,by kernel_rfl,by kernel_rfl⟩
theorem k_185:Bd prog 185 (.one [.sc (.pointer none)]):=⟨by kernel_rfl,by kernel_rfl⟩
theorem k_225:Bd prog 225 (.one [.sc (.complex .f64 0 0)]):=⟨by kernel_rfl,by kernel_rfl⟩
theorem k_231:Bd prog 231 (.arr 4 109 1 [.row [],.row [],.row [],.row []]):=⟨by kernel_rfl,by kernel_rfl,by kernel_rfl⟩
theorem k_232:Bd prog 232 (.slice 387 4 48):=⟨by kernel_rfl,by kernel_rfl,by kernel_rfl,by kernel_rfl⟩
theorem k_234:Bd prog 234 (.agg [(0,1),(1,4),(5,4),(9,1),(10,1),(11,1),(12,1),(13,1),(14,1)] [.sc (.int .i64 0),.row [],.row [],.row [],.row [],.row [],.row [],.row [],.row [],.row [],.sc (.int .i64 0),.sc (.int .i64 0),.sc (.bool false),.sc (.int .i64 0),.sc (.bool false)]):=⟨by kernel_rfl,by kernel_rfl,by kernel_rfl⟩
theorem k_247:Bd prog 247 (.one [.sc (.pointer none)]):=⟨by kernel_rfl,by kernel_rfl⟩
theorem k_252:Bd prog 252 (.one [.sc (.int .u64 0)]):=⟨by kernel_rfl,by kernel_rfl⟩
theorem k_307:Bd prog 307 (.one [.sc (.pointer none)]):=⟨by kernel_rfl,by kernel_rfl⟩
theorem k_308:Bd prog 308 (.one [.sc (.pointer none)]):=⟨by kernel_rfl,by kernel_rfl⟩
theorem k_384:Bd prog 384 (.one [.sc (.float .f64 0)]):=⟨by kernel_rfl,by kernel_rfl⟩
theorem k_387:Bd prog 387 (.agg [(0,1),(1,1),(2,1),(3,1)] [.sc (.int .i64 0),.sc (.bool false),.sc (.int .i64 0),.row []]):=⟨by kernel_rfl,by kernel_rfl,by kernel_rfl⟩
theorem k_463:Bd prog 463 (.arr 2 384 1 [.sc (.float .f64 0),.sc (.float .f64 0)]):=⟨by kernel_rfl,by kernel_rfl,by kernel_rfl⟩
theorem k_514:Bd prog 514 (.arrB 256 5 1):=⟨by kernel_rfl,by kernel_rfl⟩
theorem k_516:Bd prog 516 (.agg [(0,1),(1,1)] [.sc (.int .u8 0),.sc (.int .u8 0)]):=⟨by kernel_rfl,by kernel_rfl,by kernel_rfl⟩
theorem k_517:Bd prog 517 (.arr 16 516 2 [.sc (.int .u8 0),.sc (.int .u8 0),.sc (.int .u8 0),.sc (.int .u8 0),.sc (.int .u8 0),.sc (.int .u8 0),.sc (.int .u8 0),.sc (.int .u8 0),.sc (.int .u8 0),.sc (.int .u8 0),.sc (.int .u8 0),.sc (.int .u8 0),.sc (.int .u8 0),.sc (.int .u8 0),.sc (.int .u8 0),.sc (.int .u8 0),.sc (.int .u8 0),.sc (.int .u8 0),.sc (.int .u8 0),.sc (.int .u8 0),.sc (.int .u8 0),.sc (.int .u8 0),.sc (.int .u8 0),.sc (.int .u8 0),.sc (.int .u8 0),.sc (.int .u8 0),.sc (.int .u8 0),.sc (.int .u8 0),.sc (.int .u8 0),.sc (.int .u8 0),.sc (.int .u8 0),.sc (.int .u8 0)]):=⟨by kernel_rfl,by kernel_rfl,by kernel_rfl⟩
theorem k_522:Bd prog 522 (.agg [(0,1),(1,1),(2,1),(3,1)] [.sc (.pointer none),.sc (.pointer none),.sc (.pointer none),.sc (.string ⟨#[]⟩)]):=⟨by kernel_rfl,by kernel_rfl,by kernel_rfl⟩
theorem k_523:Bd prog 523 (.arr 0 16 1 []):=⟨by kernel_rfl,by kernel_rfl,by kernel_rfl⟩
theorem k_525:Bd prog 525 (.agg [(0,0)] []):=⟨by kernel_rfl,by kernel_rfl,by kernel_rfl⟩
theorem k_526:Bd prog 526 (.one [.sc (.int .u8 0)]):=⟨by kernel_rfl,by kernel_rfl⟩
theorem k_527:Bd prog 527 (.one [.sc (.int .u8 0)]):=⟨by kernel_rfl,by kernel_rfl⟩
theorem k_528:Bd prog 528 (.one [.sc .nilFunc]):=⟨by kernel_rfl,by kernel_rfl⟩
theorem k_529:Bd prog 529 (.one [.sc (.int .i32 0)]):=⟨by kernel_rfl,by kernel_rfl⟩
theorem k_530:Bd prog 530 (.one [.sc (.int .i32 0)]):=⟨by kernel_rfl,by kernel_rfl⟩
theorem k_532:Bd prog 532 (.agg [(0,1),(1,1),(2,1),(3,1),(4,1),(5,1),(6,1),(7,1),(8,1),(9,1),(10,1)] [.sc (.int .u64 0),.sc (.int .u64 0),.sc (.int .u32 0),.sc (.int .u8 0),.sc (.int .u8 0),.sc (.int .u8 0),.sc (.int .u8 0),.sc .nilFunc,.sc (.pointer none),.sc (.int .i32 0),.sc (.int .i32 0)]):=⟨by kernel_rfl,by kernel_rfl,by kernel_rfl⟩
theorem sm {p:TyI→Prop}{a:TyI}(h:p a):∀i,some a=some i→p i:=fun i e=>by injection e with e;subst e;exact h
theorem nn {p:TyI→Prop}:∀i,(none:Option TyI)=some i→p i:=fun i e=>by cases e
def tt:TT:=.node (none) (.node (some (.one [.sc .nilFunc])) (.node (some (.one [.sc (.int .i64 0)])) (.node (some (.agg [(0,1),(1,1),(2,1),(3,1)] [.sc (.int .i64 0),.sc (.int .i64 0),.sc (.bool false),.sc (.int .u8 0)])) (.node (some (.one [.sc (.pointer none)])) (.node (none) (.node (none) (.node (some (.one [.sc (.pointer none)])) (.leaf) (.leaf)) (.leaf)) (.node (some (.one [.sc .nilFunc])) (.leaf) (.leaf))) (.node (some (.agg [(0,1),(1,1),(2,1),(3,1),(4,1),(5,1),(6,1),(7,26)] [.sc (.int .i64 0),.sc (.int .i64 0),.sc (.int .i64 0),.sc (.int .i64 0),.sc (.int .i64 0),.sc (.int .i64 0),.sc (.int .i64 0),.sc (.int .i64 0),.sc (.string ⟨#[]⟩),.sc (.string ⟨#[]⟩),.sc (.int .i64 0),.sc (.string ⟨#[]⟩),.sc (.string ⟨#[]⟩),.sc (.int .i64 0),.sc (.string ⟨#[]⟩),.sc (.int .i64 0),.sc (.int .i64 0),.sc (.int .i64 0),.sc (.int .i64 0),.sc (.string ⟨#[]⟩),.sc (.string ⟨#[]⟩),.sc (.string ⟨#[]⟩),.sc (.string ⟨#[]⟩),.sc (.int .i64 0),.sc (.int .i64 0),.sc (.string ⟨#[]⟩),.sc (.string ⟨#[]⟩),.sc (.int .i64 0),.sc (.string ⟨#[]⟩),.row [],.sc (.int .i64 0),.row [],.row []])) (.node (none) (.node (none) (.node (none) (.node (some (.one [.sc (.int .u8 0)])) (.leaf) (.leaf)) (.leaf)) (.leaf)) (.node (none) (.leaf) (.node (some (.arr 2 384 1 [.sc (.float .f64 0),.sc (.float .f64 0)])) (.leaf) (.leaf)))) (.leaf))) (.node (some (.agg [(0,1),(1,1)] [.sc (.int .i64 0),.sc (.int .i64 0)])) (.node (none) (.leaf) (.node (none) (.leaf) (.node (some (.arr 4 109 1 [.row [],.row [],.row [],.row []])) (.leaf) (.leaf)))) (.node (none) (.node (some (.agg [(0,1),(1,1),(2,1),(3,1),(4,1)] [.row [],.row [],.row [],.row [],.row []])) (.leaf) (.leaf)) (.node (none) (.leaf) (.node (some (.one [.sc (.pointer none)])) (.leaf) (.leaf)))))) (.node (some (.str)) (.node (none) (.node (none) (.node (none) (.node (none) (.leaf) (.node (some (.agg [(0,1),(1,1),(2,1),(3,1)] [.sc (.int .i64 0),.sc (.bool false),.sc (.int .i64 0),.row []])) (.leaf) (.leaf))) (.leaf)) (.leaf)) (.node (none) (.node (some (.slice 2 1 8)) (.leaf) (.leaf)) (.node (none) (.node (none) (.node (some (.one [.sc (.pointer none)])) (.leaf) (.leaf)) (.leaf)) (.leaf)))) (.node (none) (.node (some (.agg [(0,1),(1,3),(4,1),(5,1),(6,1),(7,7),(14,1),(15,1)] [.sc (.int .i64 0),.sc (.int .i64 0),.sc (.string ⟨#[]⟩),.sc (.string ⟨#[]⟩),.sc (.string ⟨#[]⟩),.sc (.string ⟨#[]⟩),.sc (.int .i64 0),.sc (.int .i64 0),.sc (.string ⟨#[]⟩),.sc (.string ⟨#[]⟩),.sc (.int .i64 0),.sc (.string ⟨#[]⟩),.row [],.sc (.int .i64 0),.row [],.row []])) (.node (none) (.node (none) (.node (none) (.node (some (.arr 0 16 1 [])) (.leaf) (.leaf)) (.leaf)) (.leaf)) (.leaf)) (.node (some (.arr 20 5 1 [.sc (.int .u8 0),.sc (.int .u8 0),.sc (.int .u8 0),.sc (.int .u8 0),.sc (.int .u8 0),.sc (.int .u8 0),.sc (.int .u8 0),.sc (.int .u8 0),.sc (.int .u8 0),.sc (.int .u8 0),.sc (.int .u8 0),.sc (.int .u8 0),.sc (.int .u8 0),.sc (.int .u8 0),.sc (.int .u8 0),.sc (.int .u8 0),.sc (.int .u8 0),.sc (.int .u8 0),.sc (.int .u8 0),.sc (.int .u8 0)])) (.leaf) (.leaf))) (.node (none) (.node (some (.agg [(0,1),(1,1)] [.sc (.string ⟨#[]⟩),.sc (.string ⟨#[]⟩)])) (.leaf) (.leaf)) (.leaf))))) (.node (some (.one [.sc (.int .u8 0)])) (.node (some (.str)) (.node (some (.one [.sc (.pointer none)])) (.node (none) (.leaf) (.node (some (.arr 13 9 1 [.sc (.string ⟨#[]⟩),.sc (.string ⟨#[]⟩),.sc (.string ⟨#[]⟩),.sc (.string ⟨#[]⟩),.sc (.string ⟨#[]⟩),.sc (.string ⟨#[]⟩),.sc (.string ⟨#[]⟩),.sc (.string ⟨#[]⟩),.sc (.string ⟨#[]⟩),.sc (.string ⟨#[]⟩),.sc (.string ⟨#[]⟩),.sc (.string ⟨#[]⟩),.sc (.string ⟨#[]⟩)])) (.leaf) (.node (some (.one [.sc (.complex .f64 0 0)])) (.leaf) (.leaf)))) (.node (none) (.node (none) (.node (none) (.node (none) (.node (some (.one [.sc (.int .i32 0)])) (.leaf) (.leaf)) (.leaf)) (.leaf)) (.leaf)) (.leaf))) (.node (some (.one [.sc (.int .i64 0)])) (.node (some (.slice 172 2 32)) (.leaf) (.leaf)) (.node (none) (.leaf) (.node (none) (.node (some (.one [.sc (.pointer none)])) (.leaf) (.leaf)) (.leaf))))) (.node (some (.agg [(0,1),(1,1)] [.sc (.string ⟨#[]⟩),.sc (.int .u64 0)])) (.node (some (.one [.sc (.int .i32 0)])) (.node (none) (.node (none) (.node (none) (.node (none) (.node (some (.arr 16 516 2 [.sc (.int .u8 0),.sc (.int .u8 0),.sc (.int .u8 0),.sc (.int .u8 0),.sc (.int .u8 0),.sc (.int .u8 0),.sc (.int .u8 0),.sc (.int .u8 0),.sc (.int .u8 0),.sc (.int .u8 0),.sc (.int .u8 0),.sc (.int .u8 0),.sc (.int .u8 0),.sc (.int .u8 0),.sc (.int .u8 0),.sc (.int .u8 0),.sc (.int .u8 0),.sc (.int .u8 0),.sc (.int .u8 0),.sc (.int .u8 0),.sc (.int .u8 0),.sc (.int .u8 0),.sc (.int .u8 0),.sc (.int .u8 0),.sc (.int .u8 0),.sc (.int .u8 0),.sc (.int .u8 0),.sc (.int .u8 0),.sc (.int .u8 0),.sc (.int .u8 0),.sc (.int .u8 0),.sc (.int .u8 0)])) (.leaf) (.leaf)) (.leaf)) (.leaf)) (.leaf)) (.leaf)) (.node (none) (.node (some (.slice 38 3 40)) (.leaf) (.leaf)) (.leaf))) (.node (none) (.node (some (.agg [(0,1),(1,1),(2,1),(3,3),(6,1),(7,1),(8,2),(10,16)] [.sc (.int .i64 0),.sc (.string ⟨#[]⟩),.sc (.string ⟨#[]⟩),.sc (.int .i64 0),.sc (.string ⟨#[]⟩),.sc (.string ⟨#[]⟩),.sc (.int .i64 0),.sc (.string ⟨#[]⟩),.sc (.int .i64 0),.sc (.int .i64 0),.sc (.int .i64 0),.sc (.int .i64 0),.sc (.string ⟨#[]⟩),.sc (.string ⟨#[]⟩),.sc (.string ⟨#[]⟩),.sc (.string ⟨#[]⟩),.sc (.int .i64 0),.sc (.int .i64 0),.sc (.string ⟨#[]⟩),.sc (.string ⟨#[]⟩),.sc (.int .i64 0),.sc (.string ⟨#[]⟩),.row [],.sc (.int .i64 0),.row [],.row []])) (.node (none) (.node (none) (.node (none) (.node (some (.agg [(0,0)] [])) (.leaf) (.leaf)) (.leaf)) (.leaf)) (.leaf)) (.node (some (.slice 5 1 1)) (.leaf) (.leaf))) (.leaf))))) (.node (some (.one [.sc (.int .i64 0)])) (.node (some (.one [.sc (.bool false)])) (.node (some (.agg [(0,1),(1,1),(2,1),(3,1)] [.sc (.int .i64 0),.sc (.int .i64 0),.sc (.bool false),.sc (.int .u8 0)])) (.node (some (.one [.sc (.pointer none)])) (.node (none) (.node (none) (.node (none) (.leaf) (.node (some (.one [.sc (.float .f64 0)])) (.leaf) (.leaf))) (.leaf)) (.leaf)) (.node (none) (.node (some (.slice 91 2 32)) (.node (none) (.node (none) (.node (some (.one [.sc .nilFunc])) (.leaf) (.leaf)) (.leaf)) (.leaf)) (.leaf)) (.leaf))) (.node (none) (.node (some (.agg [(0,3),(3,1),(4,1),(5,1),(6,1)] [.sc (.int .i64 0),.sc (.string ⟨#[]⟩),.sc (.string ⟨#[]⟩),.sc (.int .i64 0),.sc (.string ⟨#[]⟩),.row [],.sc (.int .i64 0)])) (.leaf) (.node (none) (.leaf) (.node (some (.slice 387 4 48)) (.leaf) (.leaf)))) (.leaf))) (.node (some (.one [.sc (.int .u64 0)])) (.node (none) (.node (none) (.node (none) (.node (some (.one [.sc (.int .u32 0)])) (.node (none) (.node (some (.agg [(0,1),(1,1)] [.sc (.int .u8 0),.sc (.int .u8 0)])) (.leaf) (.leaf)) (.leaf)) (.leaf)) (.leaf)) (.node (none) (.node (some (.agg [(0,1),(1,1)] [.sc (.pointer none),.row []])) (.leaf) (.leaf)) (.leaf))) (.node (none) (.node (some (.slice 23 2 16)) (.node (none) (.node (none) (.node (some (.agg [(0,1),(1,1),(2,1),(3,1),(4,1),(5,1),(6,1),(7,1),(8,1),(9,1),(10,1)] [.sc (.int .u64 0),.sc (.int .u64 0),.sc (.int .u32 0),.sc (.int .u8 0),.sc (.int .u8 0),.sc (.int .u8 0),.sc (.int .u8 0),.sc .nilFunc,.sc (.pointer none),.sc (.int .i32 0),.sc (.int .i32 0)])) (.leaf) (.leaf)) (.leaf)) (.leaf)) (.leaf)) (.node (none) (.node (none) (.node (some (.one [.sc (.pointer none)])) (.leaf) (.leaf)) (.leaf)) (.leaf)))) (.node (none) (.node (none) (.leaf) (.node (some (.one [.sc (.int .u64 0)])) (.node (some (.agg [(0,1),(1,1)] [.sc (.string ⟨#[]⟩),.sc (.string ⟨#[]⟩)])) (.leaf) (.leaf)) (.leaf))) (.node (none) (.node (some (.one [.sc (.pointer none)])) (.leaf) (.leaf)) (.node (none) (.leaf) (.node (some (.one [.sc (.int .u64 0)])) (.leaf) (.leaf))))))) (.node (some (.one [.sc (.int .u8 0)])) (.node (some (.str)) (.node (none) (.node (some (.slice 9 1 16)) (.node (none) (.node (none) (.node (none) (.node (some (.arrB 256 5 1)) (.leaf) (.leaf)) (.leaf)) (.leaf)) (.leaf)) (.node (none) (.node (some (.one [.sc (.pointer none)])) (.leaf) (.leaf)) (.leaf))) (.node (none) (.node (none) (.node (none) (.node (none) (.node (some (.one [.sc (.int .i32 0)])) (.leaf) (.leaf)) (.leaf)) (.leaf)) (.leaf)) (.leaf))) (.node (none) (.node (none) (.node (none) (.node (none) (.node (none) (.node (some (.agg [(0,1),(1,1),(2,1),(3,1)] [.sc (.pointer none),.sc (.pointer none),.sc (.pointer none),.sc (.string ⟨#[]⟩)])) (.leaf) (.leaf)) (.leaf)) (.leaf)) (.leaf)) (.node (none) (.leaf) (.node (some (.agg [(0,1),(1,4),(5,4),(9,1),(10,1),(11,1),(12,1),(13,1),(14,1)] [.sc (.int .i64 0),.row [],.row [],.row [],.row [],.row [],.row [],.row [],.row [],.row [],.sc (.int .i64 0),.sc (.int .i64 0),.sc (.bool false),.sc (.int .i64 0),.sc (.bool false)])) (.leaf) (.leaf)))) (.leaf))) (.node (some (.agg [(0,1),(1,1)] [.sc (.string ⟨#[]⟩),.sc (.int .u64 0)])) (.node (none) (.node (some (.agg [(0,1),(1,1),(2,1)] [.sc (.int .i64 0),.sc (.string ⟨#[]⟩),.sc (.string ⟨#[]⟩)])) (.node (none) (.node (some (.arrB 256 132 1)) (.leaf) (.leaf)) (.leaf)) (.leaf)) (.leaf)) (.node (none) (.node (none) (.node (none) (.node (none) (.node (none) (.node (some (.one [.sc (.int .u8 0)])) (.leaf) (.leaf)) (.leaf)) (.leaf)) (.leaf)) (.leaf)) (.node (none) (.node (some (.agg [(0,1),(1,1)] [.row [],.sc (.bool false)])) (.leaf) (.leaf)) (.leaf))))))
theorem all:tt.all (Bd prog):=(TT.mk nn (TT.mk (sm k_1) (TT.mk (sm k_3) (TT.mk (sm k_7) (TT.mk (sm k_15) (TT.mk nn (TT.mk nn (TT.mk (sm k_127) trivial trivial) trivial) (TT.mk (sm k_95) trivial trivial)) (TT.mk (sm k_47) (TT.mk nn (TT.mk nn (TT.mk nn (TT.mk (sm k_527) trivial trivial) trivial) trivial) (TT.mk nn trivial (TT.mk (sm k_463) trivial trivial))) trivial)) (TT.mk (sm k_23) (TT.mk nn trivial (TT.mk nn trivial (TT.mk (sm k_231) trivial trivial))) (TT.mk nn (TT.mk (sm k_87) trivial trivial) (TT.mk nn trivial (TT.mk (sm k_247) trivial trivial))))) (TT.mk (sm k_11) (TT.mk nn (TT.mk nn (TT.mk nn (TT.mk nn trivial (TT.mk (sm k_387) trivial trivial)) trivial) trivial) (TT.mk nn (TT.mk (sm k_83) trivial trivial) (TT.mk nn (TT.mk nn (TT.mk (sm k_307) trivial trivial) trivial) trivial))) (TT.mk nn (TT.mk (sm k_43) (TT.mk nn (TT.mk nn (TT.mk nn (TT.mk (sm k_523) trivial trivial) trivial) trivial) trivial) (TT.mk (sm k_107) trivial trivial)) (TT.mk nn (TT.mk (sm k_91) trivial trivial) trivial)))) (TT.mk (sm k_5) (TT.mk (sm k_9) (TT.mk (sm k_17) (TT.mk nn trivial (TT.mk (sm k_97) trivial (TT.mk (sm k_225) trivial trivial))) (TT.mk nn (TT.mk nn (TT.mk nn (TT.mk nn (TT.mk (sm k_529) trivial trivial) trivial) trivial) trivial) trivial)) (TT.mk (sm k_25) (TT.mk (sm k_41) trivial trivial) (TT.mk nn trivial (TT.mk nn (TT.mk (sm k_185) trivial trivial) trivial)))) (TT.mk (sm k_13) (TT.mk (sm k_21) (TT.mk nn (TT.mk nn (TT.mk nn (TT.mk nn (TT.mk (sm k_517) trivial trivial) trivial) trivial) trivial) trivial) (TT.mk nn (TT.mk (sm k_85) trivial trivial) trivial)) (TT.mk nn (TT.mk (sm k_45) (TT.mk nn (TT.mk nn (TT.mk nn (TT.mk (sm k_525) trivial trivial) trivial) trivial) trivial) (TT.mk (sm k_109) trivial trivial)) trivial)))) (TT.mk (sm k_2) (TT.mk (sm k_4) (TT.mk (sm k_8) (TT.mk (sm k_16) (TT.mk nn (TT.mk nn (TT.mk nn trivial (TT.mk (sm k_384) trivial trivial)) trivial) trivial) (TT.mk nn (TT.mk (sm k_80) (TT.mk nn (TT.mk nn (TT.mk (sm k_528) trivial trivial) trivial) trivial) trivial) trivial)) (TT.mk nn (TT.mk (sm k_40) trivial (TT.mk nn trivial (TT.mk (sm k_232) trivial trivial))) trivial)) (TT.mk (sm k_12) (TT.mk nn (TT.mk nn (TT.mk nn (TT.mk (sm k_132) (TT.mk nn (TT.mk (sm k_516) trivial trivial) trivial) trivial) trivial) (TT.mk nn (TT.mk (sm k_164) trivial trivial) trivial)) (TT.mk nn (TT.mk (sm k_84) (TT.mk nn (TT.mk nn (TT.mk (sm k_532) trivial trivial) trivial) trivial) trivial) (TT.mk nn (TT.mk nn (TT.mk (sm k_308) trivial trivial) trivial) trivial))) (TT.mk nn (TT.mk nn trivial (TT.mk (sm k_108) (TT.mk (sm k_172) trivial trivial) trivial)) (TT.mk nn (TT.mk (sm k_92) trivial trivial) (TT.mk nn trivial (TT.mk (sm k_252) trivial trivial)))))) (TT.mk (sm k_6) (TT.mk (sm k_10) (TT.mk nn (TT.mk (sm k_34) (TT.mk nn (TT.mk nn (TT.mk nn (TT.mk (sm k_514) trivial trivial) trivial) trivial) trivial) (TT.mk nn (TT.mk (sm k_162) trivial trivial) trivial)) (TT.mk nn (TT.mk nn (TT.mk nn (TT.mk nn (TT.mk (sm k_530) trivial trivial) trivial) trivial) trivial) trivial)) (TT.mk nn (TT.mk nn (TT.mk nn (TT.mk nn (TT.mk nn (TT.mk (sm k_522) trivial trivial) trivial) trivial) trivial) (TT.mk nn trivial (TT.mk (sm k_234) trivial trivial))) trivial)) (TT.mk (sm k_14) (TT.mk nn (TT.mk (sm k_38) (TT.mk nn (TT.mk (sm k_134) trivial trivial) trivial) trivial) trivial) (TT.mk nn (TT.mk nn (TT.mk nn (TT.mk nn (TT.mk nn (TT.mk (sm k_526) trivial trivial) trivial) trivial) trivial) trivial) (TT.mk nn (TT.mk (sm k_94) trivial trivial) trivial))))))
theorem ok:FI prog tt:=fun t i h=>TT.TK all t i h
theorem en_7:enters prog 7=true:=by kernel_rfl
theorem en_8:enters prog 8=true:=by kernel_rfl
theorem en_9:enters prog 9=true:=by kernel_rfl
theorem en_10:enters prog 10=true:=by kernel_rfl
theorem en_12:enters prog 12=true:=by kernel_rfl
theorem en_15:enters prog 15=true:=by kernel_rfl
theorem en_17:enters prog 17=true:=by kernel_rfl
theorem en_18:enters prog 18=true:=by kernel_rfl
theorem en_19:enters prog 19=true:=by kernel_rfl
theorem en_22:enters prog 22=true:=by kernel_rfl
theorem en_23:enters prog 23=true:=by kernel_rfl
theorem Gq:enters prog 24=true:=by kernel_rfl
theorem en_25:enters prog 25=true:=by kernel_rfl
theorem en_28:enters prog 28=true:=by kernel_rfl
theorem en_33:enters prog 33=true:=by kernel_rfl
theorem en_34:enters prog 34=true:=by kernel_rfl
theorem en_35:enters prog 35=true:=by kernel_rfl
theorem en_36:enters prog 36=true:=by kernel_rfl
theorem en_37:enters prog 37=true:=by kernel_rfl
theorem en_38:enters prog 38=true:=by kernel_rfl
theorem LC:enters prog 39=true:=by kernel_rfl
theorem en_40:enters prog 40=true:=by kernel_rfl
theorem Hz:enters prog 41=true:=by kernel_rfl
theorem en_42:enters prog 42=true:=by kernel_rfl
theorem NF:enters prog 43=true:=by kernel_rfl
theorem en_44:enters prog 44=true:=by kernel_rfl
theorem en_45:enters prog 45=true:=by kernel_rfl
theorem en_46:enters prog 46=true:=by kernel_rfl
theorem en_47:enters prog 47=true:=by kernel_rfl
theorem en_50:enters prog 50=true:=by kernel_rfl
theorem en_53:enters prog 53=true:=by kernel_rfl
theorem en_77:enters prog 77=true:=by kernel_rfl
theorem en_78:enters prog 78=true:=by kernel_rfl
theorem en_79:enters prog 79=true:=by kernel_rfl
theorem en_80:enters prog 80=true:=by kernel_rfl
theorem en_81:enters prog 81=true:=by kernel_rfl
theorem en_82:enters prog 82=true:=by kernel_rfl
theorem en_83:enters prog 83=true:=by kernel_rfl
theorem OM:enters prog 84=true:=by kernel_rfl
theorem J7:enters prog 85=true:=by kernel_rfl
theorem en_86:enters prog 86=true:=by kernel_rfl
theorem en_87:enters prog 87=true:=by kernel_rfl
theorem en_88:enters prog 88=true:=by kernel_rfl
theorem en_92:enters prog 92=true:=by kernel_rfl
theorem en_93:enters prog 93=true:=by kernel_rfl
theorem en_94:enters prog 94=true:=by kernel_rfl
theorem en_95:enters prog 95=true:=by kernel_rfl
theorem en_96:enters prog 96=true:=by kernel_rfl
theorem I7:enters prog 134=true:=by kernel_rfl
theorem en_135:enters prog 135=true:=by kernel_rfl
theorem en_137:enters prog 137=true:=by kernel_rfl
theorem Px:enters prog 138=true:=by kernel_rfl
theorem QO:enters prog 139=true:=by kernel_rfl
theorem NV:enters prog 140=true:=by kernel_rfl
theorem en_141:enters prog 141=true:=by kernel_rfl
theorem en_142:enters prog 142=true:=by kernel_rfl
theorem en_143:enters prog 143=true:=by kernel_rfl
theorem en_146:enters prog 146=true:=by kernel_rfl
theorem O1:enters prog 147=true:=by kernel_rfl
theorem PD:enters prog 148=true:=by kernel_rfl
theorem en_149:enters prog 149=true:=by kernel_rfl
theorem Nv:enters prog 219=true:=by kernel_rfl
theorem en_222:enters prog 222=true:=by kernel_rfl
theorem mixed:prog.follows .mixedOrders=true:=by kernel_rfl
theorem fn {N:Nat}{f:FuncId}{fn:Func}{c:Code}{args:List D}{res:List C}{rs:List ResultVar}(fb:List Nat)(hf:prog.funcs[f]? = some fn)(hk:Oe 0 args .leaf fun t=>Js prog tt N fb c t (fun _=>.junk) (finK prog tt rs res []))
 (hb:fn.body=some c:=by rfl) (hN:fn.ntmps=N:=by rfl) (hrs:fn.results.toList=rs:=by rfl) (hargs:args.length≤N:=by exact Nat.le_of_ble_eq_true rfl) (hNB:N≤BIG:=by exact Nat.le_of_ble_eq_true rfl):AQ prog f args res:=xfn ok fb hf hb hN hrs hargs hNB hk
theorem fnH {N:Nat}{f:FuncId}{fn:Func}{c:Code}{args:List D}{res:List C}{pre post:List (Nat×S)}{rs:List ResultVar}(fb:List Nat)(hf:prog.funcs[f]? = some fn)(hk:Oe 0 args .leaf fun t=>Js prog tt N fb c t (hOf pre) (finK prog tt rs res post))
 (hbig:∀p∈pre,NAM≤p.1) (hp:∀p∈pre,thing p.2=true) (hq:∀p∈post,thing p.2=true) (hb:fn.body=some c:=by rfl) (hN:fn.ntmps=N:=by rfl) (hrs:fn.results.toList=rs:=by rfl) (hargs:args.length≤N:=by exact Nat.le_of_ble_eq_true rfl) (hNB:N≤BIG:=by exact Nat.le_of_ble_eq_true rfl):FK prog f args pre res post:=xfnH ok fb hf hb hN hrs hargs hNB hbig hp hq hk
end Go.Vm.T
end
section
namespace Go.Vm
open Go.RowKit Go.Proofs
set_option maxRecDepth 10000
theorem emp:ByteArray.empty=noB:=rfl
theorem scb {a b:Bool}(h:a=b):D.sc (.bool a)=D.sc (.bool b):=by rw [h]
theorem QS {α:Type}{l:List α}{k:Nat}(h:(k:Int)<(l.length:Int)):∃p,l[k]? = some p:=by
 have:k<l.length:=by omega
 exact ⟨_,List.getElem?_eq_getElem this⟩
theorem charAt {s:ByteArray}{k:Nat}(h:(k:Int)<(s.size:Int)):∃b,s[k]? = some b:=⟨s[k]'(by omega),by rw [getElem?_pos]⟩
theorem DJ {α:Type}{f:α→D}{l:List α}{k:Nat}{x:α}(h:l[k]? = some x):(l.map f)[k]? = some (f x):=by
 rw [List.getElem?_map,h];rfl
theorem name_any (s:ByteArray):AQ Tryz.prog 140 [.sc (.string s)] [.d (.sc (.bool (nameB s)))]:=by
 refine T.fn [] Tryz.func140 ?_
 refine Az ?_
 refine br (fun hg1=>?y1) (fun hg1=>?n1)
 case' y1=>
  refine brT ?_
 case' n1=>
  refine Az ?_
  refine br (fun hc3=>?y3) (fun hc3=>?n3)
  case' n3=>
   have hlo:1≤s.size:=by omega
   have hhi:s.size≤12:=by omega
   refine Az ?_
   refine Et (fb:=[]) T.ok (Nat.le_of_ble_eq_true rfl) [0,15] (fun (k:Nat)=>[(16,.c (.d (.sc (.int .i64 (k:Nat)))))]) (fun k=>k≤s.size∧okTo s k∧1≤s.size∧s.size≤12) (fun k=>s.size-k) 0 ⟨Nat.zero_le _,XU s,hlo,hhi⟩ (Ap (by first | rfl | (simp only [Tr.get];simp;done)) trivial) ?_
   rintro k ⟨hk,hok,hlo,hhi⟩
   refine br (fun hc4=>?y4) (fun hc4=>?n4)
   case' y4=>
    obtain ⟨b,hb⟩:=charAt hc4
    first | refine FQ (by exact hb) ?_ | refine E8 (by exact hb) ?_
    refine br (fun hg5=>?y5) (fun hg5=>?n5)
    case' y5=>
     first | refine FQ (by exact hb) ?_ | refine E8 (by exact hb) ?_
     first | refine FQ (by exact hb) ?_ | refine E8 (by exact hb) ?_
     refine br (fun hg6=>?y6) (fun hg6=>?n6)
     case' y6=>
      first | refine FQ (by exact hb) ?_ | refine E8 (by exact hb) ?_
      refine br (fun hg7=>?y7) (fun hg7=>?n7)
      case' y7=>
       refine br (fun hg8=>?y8) (fun hg8=>?n8)
       case' y8=>
        refine brT ?_
       case' n8=>
        refine br (fun hc10=>?y10) (fun hc10=>?n10)
        case' n10=>
         first | refine CJ ?_ | refine DN ?_ | refine DC rfl rfl ?_
         refine Cc (k+1) ⟨FY hb,LH hok hb (by (simp only [GL,decide_eq_true_eq,decide_eq_false_iff_not,Bool.not_eq_true',Bool.not_eq_false',Bool.and_eq_true,Bool.or_eq_true,Bool.or_eq_false_iff,Bool.and_eq_false_iff,beq_iff_eq,beq_eq_false_iff_ne,ne_eq,Bool.not_true,Bool.not_false,Bool.false_eq_true,Bool.true_eq_false] at *<;>omega)),hlo,hhi⟩ (by (try dsimp only);have:=FY hb;omega) rfl (Ap (by first | rfl | (simp only [Tr.get];simp;done)) trivial) (by first | rfl | (funext u;simp only [hdrop,hset,hpost,hOf];(repeat' split)<;>rfl))
      case' n7=>
       refine brF ?_
       first | refine CJ ?_ | refine DN ?_ | refine DC rfl rfl ?_
       refine Cc (k+1) ⟨FY hb,LH hok hb (by (simp only [GL,decide_eq_true_eq,decide_eq_false_iff_not,Bool.not_eq_true',Bool.not_eq_false',Bool.and_eq_true,Bool.or_eq_true,Bool.or_eq_false_iff,Bool.and_eq_false_iff,beq_iff_eq,beq_eq_false_iff_ne,ne_eq,Bool.not_true,Bool.not_false,Bool.false_eq_true,Bool.true_eq_false] at *<;>omega)),hlo,hhi⟩ (by (try dsimp only);have:=FY hb;omega) rfl (Ap (by first | rfl | (simp only [Tr.get];simp;done)) trivial) (by first | rfl | (funext u;simp only [hdrop,hset,hpost,hOf];(repeat' split)<;>rfl))
     case' n6=>
      refine br (fun hg12=>?y12) (fun hg12=>?n12)
      case' y12=>
       refine brT ?_
       refine brT ?_
      case' n12=>
       refine brF ?_
       first | refine CJ ?_ | refine DN ?_ | refine DC rfl rfl ?_
       refine Cc (k+1) ⟨FY hb,LH hok hb (by (simp only [GL,decide_eq_true_eq,decide_eq_false_iff_not,Bool.not_eq_true',Bool.not_eq_false',Bool.and_eq_true,Bool.or_eq_true,Bool.or_eq_false_iff,Bool.and_eq_false_iff,beq_iff_eq,beq_eq_false_iff_ne,ne_eq,Bool.not_true,Bool.not_false,Bool.false_eq_true,Bool.true_eq_false] at *<;>omega)),hlo,hhi⟩ (by (try dsimp only);have:=FY hb;omega) rfl (Ap (by first | rfl | (simp only [Tr.get];simp;done)) trivial) (by first | rfl | (funext u;simp only [hdrop,hset,hpost,hOf];(repeat' split)<;>rfl))
    case' n5=>
     first | refine FQ (by exact hb) ?_ | refine E8 (by exact hb) ?_
     refine br (fun hg16=>?y16) (fun hg16=>?n16)
     case' y16=>
      first | refine FQ (by exact hb) ?_ | refine E8 (by exact hb) ?_
      refine brT ?_
      refine br (fun hg18=>?y18) (fun hg18=>?n18)
      case' y18=>
       refine brT ?_
      case' n18=>
       refine br (fun hc20=>?y20) (fun hc20=>?n20)
       case' n20=>
        first | refine CJ ?_ | refine DN ?_ | refine DC rfl rfl ?_
        refine Cc (k+1) ⟨FY hb,LH hok hb (by (simp only [GL,decide_eq_true_eq,decide_eq_false_iff_not,Bool.not_eq_true',Bool.not_eq_false',Bool.and_eq_true,Bool.or_eq_true,Bool.or_eq_false_iff,Bool.and_eq_false_iff,beq_iff_eq,beq_eq_false_iff_ne,ne_eq,Bool.not_true,Bool.not_false,Bool.false_eq_true,Bool.true_eq_false] at *<;>omega)),hlo,hhi⟩ (by (try dsimp only);have:=FY hb;omega) rfl (Ap (by first | rfl | (simp only [Tr.get];simp;done)) trivial) (by first | rfl | (funext u;simp only [hdrop,hset,hpost,hOf];(repeat' split)<;>rfl))
     case' n16=>
      refine brT ?_
      refine brT ?_
      refine brT ?_
 all_goals (refine CV ?_;simp only [Bq,fits,C.asD,and_true]<;>(refine scb ?_;first | (refine (XZ ?_).symm;omega;done) | (refine (XX ?_).symm;omega;done) | (refine (name_no (FY hb) hb ?_).symm;(simp only [GL,decide_eq_true_eq,decide_eq_false_iff_not,Bool.not_eq_true',Bool.not_eq_false',Bool.and_eq_true,Bool.or_eq_true,Bool.or_eq_false_iff,Bool.and_eq_false_iff,beq_iff_eq,beq_eq_false_iff_ne,ne_eq,Bool.not_true,Bool.not_false,Bool.false_eq_true,Bool.true_eq_false] at *<;>omega);done) | (refine (name_yes hlo hhi ?_ hok).symm;omega;done)))
theorem QY (s:ByteArray):AQ Tryz.prog 80 [.sc (.string s)] [.d (.sc (.bool (nameB s)))]:=by
 refine T.fn [] Tryz.func80 ?_
 refine Az ?_
 refine br (fun hg1=>?y1) (fun hg1=>?n1)
 case' y1=>
  refine brT ?_
 case' n1=>
  refine Az ?_
  refine br (fun hc3=>?y3) (fun hc3=>?n3)
  case' n3=>
   have hlo:1≤s.size:=by omega
   have hhi:s.size≤12:=by omega
   refine Et (fb:=[]) T.ok (Nat.le_of_ble_eq_true rfl) [0] (fun (k:Nat)=>[(3,.c (.d (.sc (.int .i64 (k:Nat)))))]) (fun k=>k≤s.size∧okTo s k∧1≤s.size∧s.size≤12) (fun k=>s.size-k) 0 ⟨Nat.zero_le _,XU s,hlo,hhi⟩ (Ap (by first | rfl | (simp only [Tr.get];simp;done)) trivial) ?_
   rintro k ⟨hk,hok,hlo,hhi⟩
   refine Az ?_
   refine br (fun hc4=>?y4) (fun hc4=>?n4)
   case' y4=>
    obtain ⟨b,hb⟩:=charAt hc4
    first | refine FQ (by exact hb) ?_ | refine E8 (by exact hb) ?_
    refine br (fun hg5=>?y5) (fun hg5=>?n5)
    case' y5=>
     first | refine FQ (by exact hb) ?_ | refine E8 (by exact hb) ?_
     first | refine FQ (by exact hb) ?_ | refine E8 (by exact hb) ?_
     refine br (fun hg6=>?y6) (fun hg6=>?n6)
     case' y6=>
      first | refine FQ (by exact hb) ?_ | refine E8 (by exact hb) ?_
      refine br (fun hg7=>?y7) (fun hg7=>?n7)
      case' y7=>
       refine br (fun hg8=>?y8) (fun hg8=>?n8)
       case' y8=>
        refine brT ?_
       case' n8=>
        refine br (fun hc10=>?y10) (fun hc10=>?n10)
        case' n10=>
         first | refine CJ ?_ | refine DN ?_ | refine DC rfl rfl ?_
         refine Cc (k+1) ⟨FY hb,LH hok hb (by (simp only [GL,decide_eq_true_eq,decide_eq_false_iff_not,Bool.not_eq_true',Bool.not_eq_false',Bool.and_eq_true,Bool.or_eq_true,Bool.or_eq_false_iff,Bool.and_eq_false_iff,beq_iff_eq,beq_eq_false_iff_ne,ne_eq,Bool.not_true,Bool.not_false,Bool.false_eq_true,Bool.true_eq_false] at *<;>omega)),hlo,hhi⟩ (by (try dsimp only);have:=FY hb;omega) rfl (Ap (by first | rfl | (simp only [Tr.get];simp;done)) trivial) (by first | rfl | (funext u;simp only [hdrop,hset,hpost,hOf];(repeat' split)<;>rfl))
      case' n7=>
       refine brF ?_
       first | refine CJ ?_ | refine DN ?_ | refine DC rfl rfl ?_
       refine Cc (k+1) ⟨FY hb,LH hok hb (by (simp only [GL,decide_eq_true_eq,decide_eq_false_iff_not,Bool.not_eq_true',Bool.not_eq_false',Bool.and_eq_true,Bool.or_eq_true,Bool.or_eq_false_iff,Bool.and_eq_false_iff,beq_iff_eq,beq_eq_false_iff_ne,ne_eq,Bool.not_true,Bool.not_false,Bool.false_eq_true,Bool.true_eq_false] at *<;>omega)),hlo,hhi⟩ (by (try dsimp only);have:=FY hb;omega) rfl (Ap (by first | rfl | (simp only [Tr.get];simp;done)) trivial) (by first | rfl | (funext u;simp only [hdrop,hset,hpost,hOf];(repeat' split)<;>rfl))
     case' n6=>
      refine br (fun hg12=>?y12) (fun hg12=>?n12)
      case' y12=>
       refine brT ?_
       refine brT ?_
      case' n12=>
       refine brF ?_
       first | refine CJ ?_ | refine DN ?_ | refine DC rfl rfl ?_
       refine Cc (k+1) ⟨FY hb,LH hok hb (by (simp only [GL,decide_eq_true_eq,decide_eq_false_iff_not,Bool.not_eq_true',Bool.not_eq_false',Bool.and_eq_true,Bool.or_eq_true,Bool.or_eq_false_iff,Bool.and_eq_false_iff,beq_iff_eq,beq_eq_false_iff_ne,ne_eq,Bool.not_true,Bool.not_false,Bool.false_eq_true,Bool.true_eq_false] at *<;>omega)),hlo,hhi⟩ (by (try dsimp only);have:=FY hb;omega) rfl (Ap (by first | rfl | (simp only [Tr.get];simp;done)) trivial) (by first | rfl | (funext u;simp only [hdrop,hset,hpost,hOf];(repeat' split)<;>rfl))
    case' n5=>
     first | refine FQ (by exact hb) ?_ | refine E8 (by exact hb) ?_
     refine br (fun hg16=>?y16) (fun hg16=>?n16)
     case' y16=>
      first | refine FQ (by exact hb) ?_ | refine E8 (by exact hb) ?_
      refine brT ?_
      refine br (fun hg18=>?y18) (fun hg18=>?n18)
      case' y18=>
       refine brT ?_
      case' n18=>
       refine br (fun hc20=>?y20) (fun hc20=>?n20)
       case' n20=>
        first | refine CJ ?_ | refine DN ?_ | refine DC rfl rfl ?_
        refine Cc (k+1) ⟨FY hb,LH hok hb (by (simp only [GL,decide_eq_true_eq,decide_eq_false_iff_not,Bool.not_eq_true',Bool.not_eq_false',Bool.and_eq_true,Bool.or_eq_true,Bool.or_eq_false_iff,Bool.and_eq_false_iff,beq_iff_eq,beq_eq_false_iff_ne,ne_eq,Bool.not_true,Bool.not_false,Bool.false_eq_true,Bool.true_eq_false] at *<;>omega)),hlo,hhi⟩ (by (try dsimp only);have:=FY hb;omega) rfl (Ap (by first | rfl | (simp only [Tr.get];simp;done)) trivial) (by first | rfl | (funext u;simp only [hdrop,hset,hpost,hOf];(repeat' split)<;>rfl))
     case' n16=>
      refine brT ?_
      refine brT ?_
      refine brT ?_
 all_goals (refine CV ?_;simp only [Bq,fits,C.asD,and_true]<;>(refine scb ?_;first | (refine (XZ ?_).symm;omega;done) | (refine (XX ?_).symm;omega;done) | (refine (name_no (FY hb) hb ?_).symm;(simp only [GL,decide_eq_true_eq,decide_eq_false_iff_not,Bool.not_eq_true',Bool.not_eq_false',Bool.and_eq_true,Bool.or_eq_true,Bool.or_eq_false_iff,Bool.and_eq_false_iff,beq_iff_eq,beq_eq_false_iff_ne,ne_eq,Bool.not_true,Bool.not_false,Bool.false_eq_true,Bool.true_eq_false] at *<;>omega);done) | (refine (name_yes hlo hhi ?_ hok).symm;omega;done)))
end Go.Vm
end
section
namespace Go.Vm
open Go.RowKit Go.Proofs
set_option maxRecDepth 10000
theorem Dc (r:Bv):AQ Tryz.prog 219 [rD r] [.d (.sc (.bool (BF r)))]:=by
 refine T.fn [] Tryz.func219 ?_
 refine br (fun hg1=>?y1) (fun hg1=>?n1)
 case' y1=>
  refine br (fun hc2=>?y2) (fun hc2=>?n2)
  case' n2=>
   refine Ar T.NV (name_any _) ?_
   refine br (fun hg3=>?y3) (fun hg3=>?n3)
   case' y3=>
    refine br (fun hg4=>?y4) (fun hg4=>?n4)
    case' n4=>
     refine Ar T.NV (name_any _) ?_
 case' n1=>
  refine brF ?_
  refine Ar T.NV (name_any _) ?_
  refine br (fun hg6=>?y6) (fun hg6=>?n6)
  case' y6=>
   refine br (fun hg7=>?y7) (fun hg7=>?n7)
   case' n7=>
    refine Ar T.NV (name_any _) ?_
 all_goals (refine CV ?_;simp only [Bq,fits,C.asD,and_true]<;>(refine scb ?_;rcases (show r.scope=0∨r.scope=1∨(r.scope≠0∧r.scope≠1) by omega) with h | h | h<;>simp_all [BF,emp]<;>omega))
theorem Pz (r:Bv):AQ Tryz.prog 138 [rD r] [.d (.sc (.bool (BF r)))]:=by
 refine T.fn [] Tryz.func138 ?_
 refine br (fun hg1=>?y1) (fun hg1=>?n1)
 case' y1=>
  refine br (fun hg2=>?y2) (fun hg2=>?n2)
  case' y2=>
   refine Ar T.en_80 (QY _) ?_
   refine br (fun hg3=>?y3) (fun hg3=>?n3)
   case' y3=>
    refine Az ?_
    refine br (fun hg4=>?y4) (fun hg4=>?n4)
    case' n4=>
     refine Ar T.en_80 (QY _) ?_
  case' n2=>
   refine brF ?_
 case' n1=>
  refine brF ?_
  refine brF ?_
 all_goals (refine CV ?_;simp only [Bq,fits,C.asD,and_true]<;>(refine scb ?_;rcases (show r.scope=0∨r.scope=1∨(r.scope≠0∧r.scope≠1) by omega) with h | h | h<;>simp_all [BF,emp]<;>omega))
end Go.Vm
end
section
namespace Go.Vm
open Go.RowKit Go.Proofs
set_option maxRecDepth 10000
theorem v_38 (x:Bv):Ai (rD x)=some (.agg #[.int .i64 x.scope,.string x.group,.string x.name]):=rfl
theorem rune_38 (r s:Bv)(x y:Operand)(w:World):(do eqGuard .eql 38 x y (.agg #[.int .i64 r.scope,.string r.group,.string r.name]) (.agg #[.int .i64 s.scope,.string s.group,.string s.name]);binOp .eql 38 (.agg #[.int .i64 r.scope,.string r.group,.string r.name]) (.agg #[.int .i64 s.scope,.string s.group,.string s.name]):Sem Value).run Tryz.prog w=.ok (.bool (decide (r=s))) w:=by
 obtain ⟨a,b,c⟩:=r
 obtain ⟨a',b',c'⟩:=s
 simp [go_sem,MG]
 repeat (first | (split<;>simp_all;done) | split)
 all_goals simp_all
theorem II {x y:Operand}{K:Value→Prop}(r s:Bv)(hK:K (.bool (decide (r=s)))):∃u v r',(Ai (rD r)=some u∧Ai (rD s)=some v)∧(∀w,(do eqGuard .eql 38 x y u v;binOp .eql 38 u v:Sem Value).run Tryz.prog w=.ok r' w)∧BL r'=true∧K r':=x_eqS (v_38 r) (v_38 s) (fun w=>rune_38 r s x y w) rfl hK
theorem v_172 (x:(ByteArray×ByteArray)):Ai (Ii x)=some (.agg #[.string x.1,.string x.2]):=rfl
theorem runn_172 (r s:(ByteArray×ByteArray))(x y:Operand)(w:World):(do eqGuard .neq 172 x y (.agg #[.string r.1,.string r.2]) (.agg #[.string s.1,.string s.2]);binOp .neq 172 (.agg #[.string r.1,.string r.2]) (.agg #[.string s.1,.string s.2]):Sem Value).run Tryz.prog w=.ok (.bool (!decide (r=s))) w:=by
 obtain ⟨a,b⟩:=r
 obtain ⟨a',b'⟩:=s
 simp [go_sem,MG]
 repeat (first | (split<;>simp_all;done) | split)
 all_goals simp_all
theorem xeq_172n {x y:Operand}{K:Value→Prop}(r s:(ByteArray×ByteArray))(hK:K (.bool (!decide (r=s)))):∃u v r',(Ai (Ii r)=some u∧Ai (Ii s)=some v)∧(∀w,(do eqGuard .neq 172 x y u v;binOp .neq 172 u v:Sem Value).run Tryz.prog w=.ok r' w)∧BL r'=true∧K r':=x_eqS (v_172 r) (v_172 s) (fun w=>runn_172 r s x y w) rfl hK
end Go.Vm
end
section
namespace Go.Vm
open Go.RowKit Go.Proofs
set_option maxRecDepth 10000
theorem QD {α:Type}{l:List α}{k:Nat}(h:¬(k:Int)<(l.length:Int)):l.length≤k:=by omega
theorem JZ {α:Type}{l:List α}{k:Nat}{p:α}(hp:l[k]? = some p):k<l.length:=(List.getElem?_eq_some_iff.1 hp).1
theorem QP {α:Type}{l m:List α}{p q:α}{k:Nat}(hp:l[k]? = some p)(hq:m[k]? = some q)(h:l.take k=m.take k)(hn:p=q):l.take (k+1)=m.take (k+1):=by
 rw [List.take_add_one,List.take_add_one,hp,hq,h,hn]
theorem Sr {α:Type}{l m:List α}{k:Nat}(hl:l.length=m.length)(hk:l.length≤k)(h:l.take k=m.take k):l=m:=by
 rwa [List.take_of_length_le hk,List.take_of_length_le (by omega)] at h
theorem Qo {α β:Type}{l:List α}{m:List β}{k:Nat}{p:α}(hp:l[k]? = some p)(hl:l.length=m.length):∃q,m[k]? = some q:=⟨_,List.getElem?_eq_getElem (by have:=JZ hp;omega)⟩
theorem equal_any (l m:List ByteArray)(hl:l.length≤1000000):AQ Tryz.prog 149 [.row (l.map strD),.row (m.map strD)] [.d (.sc (.bool (decide (l=m))))]:=by
 refine T.fn [] Tryz.func149 ?_
 refine Az ?_
 refine Az ?_
 refine br (fun hc1=>?y1) (fun hc1=>?n1)
 case' n1=>
  have hlen:l.length=m.length:=by omega
  refine Az ?_
  refine Et (fb:=[]) T.ok (Nat.le_of_ble_eq_true rfl) [0,1,12] (fun (k:Nat)=>[(13,.c (.d (.sc (.int .i64 (k:Nat)))))]) (fun k=>k≤l.length∧l.take k=m.take k) (fun k=>l.length-k) 0 ⟨Nat.zero_le _,rfl⟩ (Ap (by first | rfl | (simp only [Tr.get];simp;done)) trivial) ?_
  rintro k ⟨hk,hi⟩
  refine br (fun hc2=>?y2) (fun hc2=>?n2)
  case' y2=>
   obtain ⟨p,hp⟩:=QS hc2
   obtain ⟨q,hq⟩:=Qo hp hlen
   refine And.intro ⟨T.mixed,by decide +kernel⟩ ?_
   first | refine Ef (by first | exact DJ hp | exact DJ hq) ?_ | refine Ag (by first | exact DJ hp | exact DJ hq) ?_
   first | refine Ef (by first | exact DJ hp | exact DJ hq) ?_ | refine Ag (by first | exact DJ hp | exact DJ hq) ?_
   refine br (fun hc3=>?y3) (fun hc3=>?n3)
   case' n3=>
    first | refine CJ ?_ | refine DN ?_ | refine DC rfl rfl ?_
    refine Cc (k+1) ⟨JZ hp,QP hp hq hi (by simp_all)⟩ (by (try dsimp only);have:=JZ hp;omega) rfl (Ap (by first | rfl | (simp only [Tr.get];simp;done)) trivial) (by first | rfl | (funext u;simp only [hdrop,hset,hpost,hOf];(repeat' split)<;>rfl))
 all_goals (refine CV ?_;simp only [Bq,fits,C.asD,and_true]<;>(refine scb ?_;first | exact (decide_eq_false (fun e=>by simp_all)).symm | exact (decide_eq_false (ne_at hp hq (fun e=>by simp_all))).symm | exact (decide_eq_true (Sr hlen (QD (by assumption)) hi)).symm))
theorem YY (l m:List ByteArray)(hl:l.length≤1000000):AQ Tryz.prog 12 [.row (l.map strD),.row (m.map strD)] [.d (.sc (.bool (decide (l=m))))]:=by
 refine T.fn [] Tryz.func12 ?_
 refine Az ?_
 refine Az ?_
 refine br (fun hc1=>?y1) (fun hc1=>?n1)
 case' n1=>
  have hlen:l.length=m.length:=by omega
  refine Et (fb:=[]) T.ok (Nat.le_of_ble_eq_true rfl) [0,1] (fun (k:Nat)=>[(5,.c (.d (.sc (.int .i64 (k:Nat)))))]) (fun k=>k≤l.length∧l.take k=m.take k) (fun k=>l.length-k) 0 ⟨Nat.zero_le _,rfl⟩ (Ap (by first | rfl | (simp only [Tr.get];simp;done)) trivial) ?_
  rintro k ⟨hk,hi⟩
  refine Az ?_
  refine br (fun hc2=>?y2) (fun hc2=>?n2)
  case' y2=>
   obtain ⟨p,hp⟩:=QS hc2
   obtain ⟨q,hq⟩:=Qo hp hlen
   refine And.intro ⟨T.mixed,by decide +kernel⟩ ?_
   first | refine Ef (by first | exact DJ hp | exact DJ hq) ?_ | refine Ag (by first | exact DJ hp | exact DJ hq) ?_
   first | refine Ef (by first | exact DJ hp | exact DJ hq) ?_ | refine Ag (by first | exact DJ hp | exact DJ hq) ?_
   refine br (fun hc3=>?y3) (fun hc3=>?n3)
   case' n3=>
    first | refine CJ ?_ | refine DN ?_ | refine DC rfl rfl ?_
    refine Cc (k+1) ⟨JZ hp,QP hp hq hi (by simp_all)⟩ (by (try dsimp only);have:=JZ hp;omega) rfl (Ap (by first | rfl | (simp only [Tr.get];simp;done)) trivial) (by first | rfl | (funext u;simp only [hdrop,hset,hpost,hOf];(repeat' split)<;>rfl))
 all_goals (refine CV ?_;simp only [Bq,fits,C.asD,and_true]<;>(refine scb ?_;first | exact (decide_eq_false (fun e=>by simp_all)).symm | exact (decide_eq_false (ne_at hp hq (fun e=>by simp_all))).symm | exact (decide_eq_true (Sr hlen (QD (by assumption)) hi)).symm))
end Go.Vm
end
section
namespace Go.Vm
open Go.RowKit Go.Proofs
set_option maxRecDepth 10000
theorem Y5 (f g:AB)(hl:f.cases.length≤1000000):AQ Tryz.prog 94 [fD f,fD g] [.d (.sc (.bool (decide (f=g))))]:=by
 refine T.fn [] Tryz.func94 ?_
 first | refine II _ _ ?_ | refine II _ Ae ?_ | refine II Ae _ ?_
 refine br (fun hg1=>?y1) (fun hg1=>?n1)
 case' y1=>
  refine br (fun hg2=>?y2) (fun hg2=>?n2)
  case' y2=>
   refine br (fun hg3=>?y3) (fun hg3=>?n3)
   case' y3=>
    refine Ar T.en_149 (equal_any _ _ (by assumption)) ?_
    refine br (fun hg4=>?y4) (fun hg4=>?n4)
   case' n3=>
    refine brF ?_
  case' n2=>
   refine brF ?_
   refine brF ?_
 case' n1=>
  refine brF ?_
  refine brF ?_
  refine brF ?_
 all_goals (refine CV ?_;simp only [Bq,fits,C.asD,and_true]<;>(refine scb ?_;cases f;cases g;simp_all))
theorem Aac (l m:List ByteArray)(hl:l.length≤1000000):AQ Tryz.prog 143 [.row (l.map strD),.row (m.map strD)] [.d (.sc (.bool (decide (l=m))))]:=by
 refine T.fn [] Tryz.func143 ?_
 refine Ar T.en_12 (YY _ _ (by assumption)) ?_
 all_goals (refine CV ?_;simp only [Bq,fits,C.asD,and_true]<;>(first | rfl | trivial))
theorem ZW (f g:AB)(hl:f.cases.length≤1000000):AQ Tryz.prog 87 [fD f,fD g] [.d (.sc (.bool (decide (f=g))))]:=by
 refine T.fn [] Tryz.func87 ?_
 first | refine II _ _ ?_ | refine II _ Ae ?_ | refine II Ae _ ?_
 refine br (fun hg1=>?y1) (fun hg1=>?n1)
 case' y1=>
  refine br (fun hg2=>?y2) (fun hg2=>?n2)
  case' y2=>
   refine br (fun hg3=>?y3) (fun hg3=>?n3)
   case' y3=>
    refine br (fun hg4=>?y4) (fun hg4=>?n4)
    case' y4=>
     refine Ar T.en_143 (Aac _ _ (by assumption)) ?_
   case' n3=>
    refine brF ?_
  case' n2=>
   refine brF ?_
   refine brF ?_
 case' n1=>
  refine brF ?_
  refine brF ?_
  refine brF ?_
 all_goals (refine CV ?_;simp only [Bq,fits,C.asD,and_true]<;>(refine scb ?_;cases f;cases g;simp_all))
end Go.Vm
end
section
namespace Go.Vm
def okSk (l:List AB)(k:Nat):Bool:=(List.range k).all fun j=>match l[j]? with
 | some f=>rightF f&&(match l[j-1]? with | some g=>decide (j=0)||KC g.at_ f.at_ | none=>true)
 | none=>true
def rightS (l:List AB):Bool:=decide (l.length≤16)&&okSk l l.length
def indexS (l:List AB)(r:Bv):Int:=if (l.findIdx fun f=>decide (f.at_=r))<l.length then ((l.findIdx fun f=>decide (f.at_=r):Nat):Int) else -1
def fieldAt (l:List AB)(r:Bv):AB:=match l[(indexS l r).toNat]? with
 | some f=>f
 | none=>TE
def insF (l:List AB)(f:AB):List AB:=(l.takeWhile fun g=>KC g.at_ f.at_)++f::(l.dropWhile fun g=>KC g.at_ f.at_)
def withS (l:List AB)(f:AB):List AB×Int:=
 if (rightS l&&rightF f)=false then ([],5) else if 0≤indexS l f.at_ then ([],7) else if 16≤l.length then ([],14) else (insF l f,0)
def delF (l:List AB)(r:Bv):List AB:=l.filter fun f=>!decide (f.at_=r)
end Go.Vm
end
section
namespace Go.Vm
def caseT (t:List (ByteArray×ByteArray))(s:ByteArray):ByteArray×Bool:=match t.find? fun p=>decide (p.1=s) with
 | some p=>(p.2,true)
 | none=>(noB,false)
def froms (t:List (ByteArray×ByteArray)):List ByteArray:=t.map (·.1)
def okT (t o:List (ByteArray×ByteArray))(k:Nat):Bool:=(List.range k).all fun j=>match t[j]? with
 | some p=>nameB p.1 && !decide (p.1∈froms (t.take j))&&decide (p.2∈froms o)
 | none=>true
def rightT (t o:List (ByteArray×ByteArray)):Bool:=decide (1≤t.length)&&decide (t.length≤6)&&okT t o t.length
def rightL (x:AP):Bool:=
 if x.kind=2∨x.kind=3 then decide (x.at_=Ae)&&decide (x.name=noB)&&decide (x.other=noB)&&decide (x.factor=0)&&decide (x.forth.length=0)&&decide (x.back.length=0)&&rightF x.field
 else BF x.at_&&decide (x.field=TE) &&
  (if x.kind=8 then decide (x.factor=0)&&rightT x.forth x.back&&rightT x.back x.forth&&decide (caseT x.forth x.name=(x.other,true))&&decide (caseT x.back x.other=(x.name,true))
    else decide (x.forth.length=0)&&decide (x.back.length=0) &&
     (if x.kind=6∨x.kind=9 then nameB x.name&&nameB x.other && !decide (x.name=x.other)&&decide (2≤x.factor)&&decide (x.factor≤1000)
       else decide (x.factor=0) &&
        (if x.kind=7∨x.kind=10 then decide (x.name=noB)&&decide (x.other.size≤40)
          else decide (x.other=noB)&&(if x.kind=1 then nameB x.name else if x.kind=4 then decide (x.name=noB) && !decide (x.at_.group=noB) else if x.kind=5 then decide (x.at_.group=noB)&&nameB x.name else false))))
def named (r:Bv)(s:ByteArray):Bv:=⟨r.scope,r.group,s⟩
def goesL (x:AP):List Bv:=if x.kind=2 then [] else if x.kind=3 then [x.field.at_] else if x.kind=9 then [named x.at_ x.name,named x.at_ x.other] else [x.at_]
def comesL (x:AP):List Bv:=if x.kind=2 then [x.field.at_] else if x.kind=3 then [] else if x.kind=6 then [named x.at_ x.name,named x.at_ x.other] else if x.kind=1 then [named x.at_ x.name]
 else if x.kind=4 then [⟨x.at_.scope,noB,x.at_.name⟩] else if x.kind=5 then [⟨x.at_.scope,x.name,x.at_.name⟩] else [x.at_]
def newsL (l:List AB)(x:AP):Option (List AB):=
 if x.kind=2 then some [x.field]
 else if x.kind=3 then (if fieldAt l x.field.at_=x.field then some [] else none)
 else if x.kind=9 then (if (fieldAt l (named x.at_ x.name)).kind=1∧(fieldAt l (named x.at_ x.other)).kind=1∧(fieldAt l (named x.at_ x.other)).worth=(fieldAt l (named x.at_ x.name)).worth*x.factor then some [⟨x.at_,1,noB,[],(fieldAt l (named x.at_ x.name)).worth⟩] else none)
 else if x.kind=6 then (if (fieldAt l x.at_).kind=1 then some [⟨named x.at_ x.name,1,noB,[],(fieldAt l x.at_).worth⟩,⟨named x.at_ x.other,1,noB,[],(fieldAt l x.at_).worth*x.factor⟩] else none)
 else if x.kind=7 then (if (fieldAt l x.at_).kind=2∧(fieldAt l x.at_).deft=x.other then some [⟨x.at_,4,noB,[],0⟩] else none)
 else if x.kind=10 then (if (fieldAt l x.at_).kind=4 then some [⟨x.at_,2,x.other,[],0⟩] else none)
 else if x.kind=8 then (if fieldAt l x.at_=⟨x.at_,3,x.name,froms x.forth,0⟩ then some [⟨x.at_,3,x.other,froms x.back,0⟩] else none)
 else some (match comesL x with | []=>[] | c::_=>[⟨c,(fieldAt l x.at_).kind,(fieldAt l x.at_).deft,(fieldAt l x.at_).cases,(fieldAt l x.at_).worth⟩])
def withAll:List AB→List AB→List AB×Int
 | l,[]=>(l,0)
 | l,f::fs=>if (withS l f).2=0 then withAll (withS l f).1 fs else ([],16)
def delAll (l:List AB)(rs:List Bv):List AB:=rs.foldl delF l
def applyS (l:List AB)(x:AP):List AB×Int:=
 if (rightS l&&rightL x)=false then ([],5)
 else if (goesL x).any (fun g=>decide (indexS l g<0)) then ([],16)
 else match newsL l x with
  | none=>([],16)
  | some fs=>withAll (delAll l (goesL x)) fs
end Go.Vm
end
section
namespace Go.Vm
open Go.RowKit Go.Proofs
set_option maxRecDepth 10000
end Go.Vm
end
section
namespace Go.Vm
open Go.RowKit Go.Proofs
set_option maxRecDepth 10000
end Go.Vm
end
section
namespace Go.Vm
open Go.RowKit Go.Proofs
set_option maxRecDepth 10000
end Go.Vm
end
section
namespace Go.Vm
open Go.RowKit Go.Proofs
set_option maxRecDepth 10000
end Go.Vm
end
section
namespace Go.Vm
end Go.Vm
end
section
namespace Go.Vm
def okX (x:AP):Prop:=x.field.cases.length≤1000000∧x.forth.length≤1000∧x.back.length≤1000
end Go.Vm
end
section
namespace Go.Vm
open Go.RowKit Go.Proofs
set_option maxRecDepth 10000
theorem take_length {α:Type}{l:List α}{k:Nat}(h:k<l.length):(l.take k).length=k:=by rw [List.length_take];omega
theorem Va (l m:(List (ByteArray×ByteArray)))(hl:l.length≤1000):AQ Tryz.prog 88 [.row (l.map Ii),.row (m.map Ii)] [.d (.sc (.bool (decide (l=m))))]:=by
 refine T.fn [] Tryz.func88 ?_
 refine Az ?_
 refine Az ?_
 refine br (fun hc1=>?y1) (fun hc1=>?n1)
 case' n1=>
  have hlen:l.length=m.length:=by omega
  refine Et (fb:=[]) T.ok (Nat.le_of_ble_eq_true rfl) [0,1] (fun (k:Nat)=>[(5,.c (.d (.sc (.int .i64 (k:Nat)))))]) (fun k=>k≤l.length∧l.take k=m.take k) (fun k=>l.length-k) 0 ⟨Nat.zero_le _,rfl⟩ (Ap (by first | rfl | (simp only [Tr.get];simp;done)) trivial) ?_
  rintro k ⟨hk,hi⟩
  refine Az ?_
  refine br (fun hc2=>?y2) (fun hc2=>?n2)
  case' y2=>
   obtain ⟨p,hp⟩:=QS hc2
   have hkl:=JZ hp
   obtain ⟨q,hq⟩:=Qo hp hlen
   refine And.intro ⟨T.mixed,by decide +kernel⟩ ?_
   first | refine Ef (by first | exact DJ hp | exact DJ hq) ?_ | refine Ag (by first | exact DJ hp | exact DJ hq) ?_
   first | refine Ef (by first | exact DJ hp | exact DJ hq) ?_ | refine Ag (by first | exact DJ hp | exact DJ hq) ?_
   refine xeq_172n _ _ ?_
   refine br (fun hc3=>?y3) (fun hc3=>?n3)
   case' n3=>
    first | refine CJ ?_ | refine DN ?_ | refine DC rfl rfl ?_
    refine Cc (k+1) ⟨JZ hp,QP hp hq hi (by simp_all)⟩ (by (try dsimp only);have:=JZ hp;omega) rfl (Ap (by first | rfl | (simp only [Tr.get];simp;done)) trivial) (by first | rfl | (funext u;simp only [hdrop,hset,hpost,hOf];(repeat' split)<;>rfl))
 all_goals (refine CV ?_;simp only [Bq,fits,C.asD,and_true]<;>(refine scb ?_;first | exact (decide_eq_false (fun e=>by simp_all)).symm | exact (decide_eq_false (ne_at hp hq (fun e=>by simp_all))).symm | exact (decide_eq_true (Sr hlen (QD (by assumption)) hi)).symm))
end Go.Vm
end
section
namespace Go.Vm
open Go.RowKit Go.Proofs
set_option maxRecDepth 10000
theorem YE (x y:AP)(hx0:okX x):AQ Tryz.prog 44 [lD x,lD y] [.d (.sc (.bool (decide (x=y))))]:=by
 refine T.fn [] Tryz.func44 ?_
 refine br (fun hg1=>?y1) (fun hg1=>?n1)
 case' y1=>
  first | refine II _ _ ?_ | refine II _ Ae ?_ | refine II Ae _ ?_
  refine br (fun hg2=>?y2) (fun hg2=>?n2)
  case' y2=>
   refine br (fun hg3=>?y3) (fun hg3=>?n3)
   case' y3=>
    refine br (fun hg4=>?y4) (fun hg4=>?n4)
    case' y4=>
     refine br (fun hg5=>?y5) (fun hg5=>?n5)
     case' y5=>
      refine Ar T.en_87 (ZW _ _ (by first | assumption | exact hx0.1)) ?_
      refine br (fun hg6=>?y6) (fun hg6=>?n6)
      case' y6=>
       refine Ar T.en_88 (Va _ _ (by first | assumption | exact hx0.2.1 | exact hx0.2.2)) ?_
       refine br (fun hg7=>?y7) (fun hg7=>?n7)
       case' y7=>
        refine Ar T.en_88 (Va _ _ (by first | assumption | exact hx0.2.1 | exact hx0.2.2)) ?_
      case' n6=>
       refine brF ?_
     case' n5=>
      refine brF ?_
      refine brF ?_
    case' n4=>
     refine brF ?_
     refine brF ?_
     refine brF ?_
   case' n3=>
    refine brF ?_
    refine brF ?_
    refine brF ?_
    refine brF ?_
  case' n2=>
   refine brF ?_
   refine brF ?_
   refine brF ?_
   refine brF ?_
   refine brF ?_
 case' n1=>
  refine brF ?_
  refine brF ?_
  refine brF ?_
  refine brF ?_
  refine brF ?_
  refine brF ?_
 all_goals (refine CV ?_;simp only [Bq,fits,C.asD,and_true]<;>(refine scb ?_;clear hx0;cases x;cases y;simp_all))
end Go.Vm
end
section
namespace Go.Vm
open Go.RowKit Go.Proofs
set_option maxRecDepth 10000
end Go.Vm
end
section
namespace Go.Vm
open Go.RowKit Go.Proofs
set_option maxRecDepth 10000
end Go.Vm
end
section
namespace Go.Vm
open Go.RowKit Go.Proofs
set_option maxRecDepth 10000
end Go.Vm
end
section
namespace Go.Vm
open Go.RowKit Go.Proofs
set_option maxRecDepth 10000
end Go.Vm
end
section
namespace Go.Vm
open Go.RowKit Go.Proofs
set_option maxRecDepth 10000
end Go.Vm
end
section
namespace Go.Vm
open Go.RowKit Go.Proofs
set_option maxRecDepth 10000
end Go.Vm
end
section
namespace Go.Vm
open Go.RowKit Go.Proofs
set_option maxRecDepth 10000
end Go.Vm
end
section
namespace Go.Vm
open Go.RowKit
section
variable {P:Program} {N:Nat} {t:Tr} {h:Hp} {o:Oper}
theorem at_free {id:Nat}(hb:NAM≤id)(hm:h id=.free):Af t h id=.free:=by rw [KQ hb,hm];rfl
theorem dg_of {ops:Array Oper}{fb:List Nat}{d:Nat}{s:S}(hy:YieldS P N o (Af t h) s)(hd:o.dst=some d)(hdN:d<N)(hNB:N≤BIG)(hg:D5 ops o (Af t h)=some true)(hn:nb s=true)(hr:MQ o (Af t h) s=true)(hdr:IV ops o (Af t h)=true)(hcl:Nat.beq (FM fb o) 0=false):DG P N fb ops o (Af t h) (.slot (some d) s):=by
 have:=dg_yield (fb:=fb) hg hy (fun e=>by rw [e] at hcl;cases hcl) hn hr hdr (fun u hu=>by rw [hd] at hu;injection hu with hu;exact hu▸Nat.lt_of_lt_of_le hdN hNB)
 rwa [hd] at this
theorem x_newbox {T:TypeId}{x:Nat}{d:Nat}{r:D}{cs:List D}{K:S→Hp→Prop}(n:Nat)(hK:K (.c (.d (.ptr n 0))) (hset h n (.obj cs)))(hm:NAM≤n∧h n=.free)(hc:r.cells=cs:=by rfl)(hop:o.op=.box T (.tmp x):=by rfl)(hx:vd (Af t h) (.tmp x)=some r:=by rfl)(hd:o.dst=some d:=by rfl)(hdN:d<N:=by exact Nat.le_of_ble_eq_true rfl)(hNB:N≤BIG:=by exact Nat.le_of_ble_eq_true rfl) :
 ∃(s:S) (h':Hp),Step P N o (Af t h) (upd (Af t h') (some d) s)∧K s h':=by
 subst hc
 refine ⟨_,_,?_,hK⟩
 unfold hset
 rw [PE hm.1]
 exact s_new_box hop hx (at_free hm.1 hm.2) hd hdN (by have:=namb hm.1;omega)
def hpost (h:Hp):List (Nat×S)→Hp
 | []=>h
 | (n,s)::l=>hset (hpost h l) n s
theorem WQ:∀(l:List (Nat×S)) (h:Hp) (u:Nat),hpost h l u=match l.find? fun p=>p.1==u with | some p=>p.2 | none=>h u
 | [],h,u=>rfl
 | (n,s)::l,h,u=>by
  simp only [hpost,hset,List.find?_cons]
  by_cases e:u=n
  ·subst e;simp
  ·have:(n==u)=false:=by simpa using fun h=>e h.symm
   simp only [if_neg e,this];exact WQ l h u
def O6 (h:Hp):List (Nat×S)→Prop
 | []=>True
 | (n,s)::l=>(NAM≤n∧h n=s)∧O6 h l
theorem QG:∀{pre:List (Nat×S)},O6 h pre→∀p∈pre,NAM≤p.1∧h p.1=p.2
 | [],_,p,hp=>by cases hp
 | (n,s)::l,⟨h1,h2⟩,p,hp=>by
  rcases List.mem_cons.1 hp with rfl | hp
  ·exact h1
  ·exact QG h2 p hp
theorem setH_env {pre post:List (Nat×S)}(hpre:O6 h pre)(hq:∀p∈post,live p.2=true∧BK pre p.1=true)(hall:∀p∈pre,BK post p.1=true):setH pre post (Af t h)=Af t (hpost h post):=by
 have hp:=QG hpre
 have hbig:∀p∈post,NAM≤p.1:=fun p hm=>by
  obtain ⟨s,hs⟩:=Nc (hq p hm).2
  exact (hp _ hs).1
 funext u
 unfold setH
 by_cases hu:u<NAM
 ·have h1:(post.find? fun p=>p.1==u)=none:=by
   rw [List.find?_eq_none];intro p hm;have:=hbig p hm;simp only [beq_iff_eq];omega
  have h2:BK pre u=false:=by
   unfold BK
   rw [List.any_eq_false]
   intro p hm;have:=(hp p hm).1;simp only [beq_iff_eq];omega
  rw [h1,h2,Cm hu,Cm hu];rfl
 ·have hge:NAM≤u:=by omega
  have e2:Af t (hpost h post) u=FH (hpost h post u):=KQ hge
  rw [e2,WQ]
  cases hf:post.find? fun p=>p.1==u with
  | some p=>
   have hl:=(hq p (List.mem_of_find?_eq_some hf)).1
   simp only
   cases hs:p.2<;>rw [hs] at hl<;>first | rfl | cases hl
  | none=>
   simp only
   have h2:BK pre u=false:=by
    cases h3:BK pre u with
    | false=>rfl
    | true=>
     obtain ⟨s,hs⟩:=Nc h3
     have h4:=hall _ hs
     obtain ⟨s',hs'⟩:=Nc h4
     have:=List.find?_eq_none.1 hf _ hs'
     simp at this
   rw [h2,KQ hge];rfl
theorem pre_env {pre:List (Nat×S)}(hpre:O6 h pre)(hl:∀p∈pre,live p.2=true∨p.2=.free):∀p∈pre,Af t h p.1=p.2∧(live p.2=true∨p.2=.free):=by
 intro p hm
 refine ⟨?_,hl p hm⟩
 obtain ⟨h1,h2⟩:=QG hpre p hm
 rw [KQ h1,h2]
 rcases hl p hm with h3 | h3
 ·cases hs:p.2<;>rw [hs] at h3<;>first | rfl | cases h3
 ·rw [h3];rfl
theorem post_big {pre post:List (Nat×S)}(hpre:O6 h pre)(hq:∀p∈post,live p.2=true∧BK pre p.1=true):∀p∈post,live p.2=true∧BK pre p.1=true∧BIG≤p.1:=fun p hm=>by
 obtain ⟨s,hs⟩:=Nc (hq p hm).2
 exact ⟨(hq p hm).1,(hq p hm).2,namb (QG hpre _ hs).1⟩
theorem BA {f:FuncId}{xs:Array Operand}{ts:Array TypeId}{ds:List D}{res:List C}{d:Nat}{pre post:List (Nat×S)}{K:S→Hp→Prop}(he:enters P f=true)(hc:FK P f ds pre res post)(hK:K (EI (res.map (En d))) (hpost h post))(hpre:O6 h pre)
 (hl:∀p∈pre,live p.2=true∨p.2=.free:=by simp [live]) (hq:∀p∈post,live p.2=true∧BK pre p.1=true:=by simp [live,BK]) (hall:∀p∈pre,BK post p.1=true:=by simp [BK])
 (hop:o.op=.call { callee:=.value (.func f),args:=xs,argTypes:=ts }:=by rfl) (hx:G5 (Af t h) xs.toList=some ds:=by rfl) (hd:o.dst=some d:=by rfl) (hdN:d<N:=by exact Nat.le_of_ble_eq_true rfl) (hNB:N≤BIG:=by exact Nat.le_of_ble_eq_true rfl) :
 ∃(s:S) (h':Hp),Step P N o (Af t h) (upd (Af t h') (some d) s)∧K s h':=by
 refine ⟨_,_,?_,hK⟩
 have:=s_callH (N:=N) (env:=Af t h) hop he hx hc (pre_env hpre hl) (post_big hpre hq) hd hdN hNB
 rwa [setH_env hpre hq hall] at this
end
end Go.Vm
end
section
namespace Go.Vm
open Go.RowKit
structure BZ where
 r:Int
 n:Int
 deriving DecidableEq
def AU:BZ:=⟨0,0⟩
structure EX where
 id:BZ
 parent:BZ
 lens:AP
 deriving DecidableEq
structure GN where
 edge:EX
 state:Int
 schema:List AB
 depth:Int
 deriving DecidableEq
def tD (t:BZ):D:=.agg [.sc (.int .i64 t.r),.sc (.int .i64 t.n)]
def lensC (x:AP):List D:=[.sc (.int .i64 x.kind),.sc (.int .i64 x.at_.scope),.sc (.string x.at_.group),.sc (.string x.at_.name),.sc (.string x.name),.sc (.string x.other),.sc (.int .i64 x.factor),
 .sc (.int .i64 x.field.at_.scope),.sc (.string x.field.at_.group),.sc (.string x.field.at_.name),.sc (.int .i64 x.field.kind),.sc (.string x.field.deft),.row (x.field.cases.map strD),.sc (.int .i64 x.field.worth),.row (x.forth.map Ii),.row (x.back.map Ii)]
def noEdge:EX:=⟨AU,AU,noLens⟩
def noNode:GN:=⟨noEdge,0,[],0⟩
def La {β:Type}(k:BZ):List (BZ×β)→Option β
 | []=>none
 | p::l=>if k=p.1 then some p.2 else La k l
def rootS:List AB:=[⟨⟨0,noB,⟨#[99,111,117,112,111,110]⟩⟩,2,noB,[],0⟩,⟨⟨1,noB,⟨#[110,111,116,101]⟩⟩,2,noB,[],0⟩,⟨⟨1,noB,⟨#[113,116,121]⟩⟩,1,noB,[],1⟩,⟨⟨1,noB,⟨#[115,105,122,101]⟩⟩,3,⟨#[109,101,100,105,117,109]⟩,[⟨#[115,109,97,108,108]⟩,⟨#[109,101,100,105,117,109]⟩,⟨#[108,97,114,103,101]⟩],0⟩,⟨⟨1,noB,⟨#[116,97,103,115]⟩⟩,4,noB,[],0⟩]
def Qh (E:List EX)(id:BZ):Option EX:=E.find? fun e=>decide (e.id=id)
def stepC (r:Int×List AB×Int)(x:AP):Int×List AB×Int:=
 if r.1=2 then (if (applyS r.2.1 x).2=0 then (2,(applyS r.2.1 x).1,r.2.2+1) else (3,[],0)) else if r.1=3 then (3,[],0) else (1,[],0)
def comes:Nat→List EX→BZ→Int×List AB×Int
 | 0,_,_=>(1,[],0)
 | n+1,E,id=>if id=AU then (2,rootS,0) else match Qh E id with
  | none=>(0,[],0)
  | some e=>stepC (comes n E e.parent) e.lens
def pend (e:EX):GN:=⟨e,1,[],0⟩
def nodeOf (E:List EX)(e:EX):GN:=let r:=comes (E.length+1) E e.id;⟨e,r.1,r.2.1,r.2.2⟩
def atT (l:List (BZ×GN))(id:BZ):GN:=if id=AU then ⟨noEdge,2,rootS,0⟩ else (La id l).getD noNode
theorem at_root {l:List (BZ×GN)}{id:BZ}(h:id=AU):atT l id=⟨noEdge,2,rootS,0⟩:=if_pos h
theorem at_other {l:List (BZ×GN)}{id:BZ}(h:¬id=AU):atT l id=(La id l).getD noNode:=if_neg h
end Go.Vm
end
section
namespace Go.Vm
open Go.RowKit
structure OpD where
 id:BZ
 schema:BZ
 time:Int
 cart:ByteArray
 kind:Int
 item:ByteArray
 at_:Bv
 delta:Int
 has:Bool
 text:ByteArray
 drops:List BZ
 deriving DecidableEq
structure VecD where
 v1:Int
 v2:Int
 v3:Int
 v4:Int
 v5:Int
 v6:Int
 deriving DecidableEq
structure NoteD where
 kind:Int
 who:Int
 format:Int
 have_:VecD
 tags:List BZ
 edges:List EX
 ops:List OpD
 deriving DecidableEq
structure AY where
 kind:Int
 cart:ByteArray
 item:ByteArray
 at_:Bv
 n:Int
 text:ByteArray
 tag:BZ
 lens:AP
 deriving DecidableEq
def deedC (d:AY):List D:=.sc (.int .i64 d.kind) :: .sc (.string d.cart) :: .sc (.string d.item) :: .sc (.int .i64 d.at_.scope) :: .sc (.string d.at_.group) :: .sc (.string d.at_.name) :: .sc (.int .i64 d.n) :: .sc (.string d.text) :: .sc (.int .i64 d.tag.r) :: .sc (.int .i64 d.tag.n)::lensC d.lens
def deedD (d:AY):D:=.agg (deedC d)
end Go.Vm
end
section
namespace Go.Vm
abbrev Came:=Int×List AB×Int
theorem comes_root {n:Nat}{E:List EX}:comes (n+1) E AU=(2,rootS,0):=by simp [comes]
def OH (E:List EX)(id:BZ):Came:=comes (E.length+1) E id
theorem came_root {E:List EX}:OH E AU=(2,rootS,0):=comes_root
structure Good (E:List EX):Prop where
 ok:∀e∈E,okX e.lens
 tag:∀e∈E,¬e.id=AU
 uniq:E.Pairwise fun a b=>¬a.id=b.id
structure Half (E:List EX) (l:List (BZ×GN)):Prop where
 edges:l.map (fun p=>p.2.edge)=E
 each:∀p∈l,p.1=p.2.edge.id∧(p.2=nodeOf E p.2.edge∨p.2=pend p.2.edge)
theorem V4 {β:Type}{k:BZ}:∀{l:List (BZ×β)} {n:β},La k l=some n→(k,n)∈l
 | [],n,h=>by cases h
 | p::l,n,h=>by
  unfold La at h
  split at h
  ·rename_i e;injection h with h;subst h e;exact List.mem_cons_self ..
  ·exact List.mem_cons_of_mem _ (V4 h)
theorem edge_find {l:List (BZ×GN)}{k:BZ}:(∀p∈l,p.1=p.2.edge.id)→Qh (l.map fun p=>p.2.edge) k=(La k l).map (·.edge):=by
 induction l with
 | nil=>intro _;rfl
 | cons p l ih=>
  intro h
  have hp:=h p (List.mem_cons_self ..)
  unfold Qh La
  simp only [List.map_cons]
  by_cases e:k=p.1
  ·rw [if_pos e,List.find?_cons_of_pos (by simp [e,hp])];rfl
  ·rw [if_neg e,List.find?_cons_of_neg (by simp only [decide_eq_true_eq];intro e2;exact e (by rw [hp,e2]))]
   exact ih fun q hq=>h q (List.mem_cons_of_mem _ hq)
theorem Half.edge {E:List EX}{l:List (BZ×GN)}(h:Half E l)(k:BZ):Qh E k=(La k l).map (·.edge):=by
 have:=edge_find (k:=k) fun p hp=>(h.each p hp).1
 rwa [h.edges] at this
theorem Half.at {E:List EX}{l:List (BZ×GN)}(h:Half E l){id:BZ}(hs:(atT l id).state=2∨(atT l id).state=3):(atT l id).state=(OH E id).1∧(atT l id).schema=(OH E id).2.1∧(atT l id).depth=(OH E id).2.2:=by
 by_cases h0:id=AU
 ·subst h0;rw [at_root rfl,came_root];exact ⟨rfl,rfl,rfl⟩
 ·rw [at_other h0] at hs ⊢
  cases hf:La id l with
  | none=>rw [hf] at hs;simp [noNode] at hs
  | some n=>
   rw [hf] at hs
   simp only [Option.getD_some] at hs ⊢
   obtain ⟨h1,h2⟩:=h.each _ (V4 hf)
   simp only at h1 h2
   rcases h2 with h2 | h2
   ·rw [h2,h1];exact ⟨rfl,rfl,rfl⟩
   ·rw [h2] at hs;simp [pend] at hs
theorem Half.uniq {E:List EX}{l:List (BZ×GN)}(hg:Good E)(h:Half E l){i j:Nat}{p q:BZ×GN}(hp:l[i]? = some p)(hq:l[j]? = some q)(hlt:i<j):¬p.1=q.1:=by
 have h1:E[i]? = some p.2.edge:=by rw [←h.edges,List.getElem?_map,hp];rfl
 have h2:E[j]? = some q.2.edge:=by rw [←h.edges,List.getElem?_map,hq];rfl
 obtain ⟨hi,e1⟩:=List.getElem?_eq_some_iff.1 h1
 obtain ⟨hj,e2⟩:=List.getElem?_eq_some_iff.1 h2
 have:=(List.pairwise_iff_getElem.1 hg.uniq) i j hi hj hlt
 rw [e1,e2] at this
 rw [(h.each p (List.mem_of_getElem? hp)).1,(h.each q (List.mem_of_getElem? hq)).1]
 exact this
section
variable {E:List EX} {l:List (BZ×GN)} {e:EX} {n:GN}
end
section
variable {E:List EX} {e f:EX}
end
end Go.Vm
end
section
namespace Go.Vm
end Go.Vm
end
section
namespace Go.Vm
end Go.Vm
end
section
namespace Go.Vm
open Go.RowKit
def LU (id:Nat):List D→(List D→Prop)→Prop
 | [],K=>K []
 | .rr a b c::l,K=>match Nat.beq a id with
  | true=>LU id l fun l'=>K (.stale::l')
  | false=>LU id l fun l'=>K (.rr a b c::l')
 | x::l,K=>LU id l fun l'=>K (x::l')
theorem NP {id:Nat}:∀{l:List D} {K:List D→Prop},LU id l K→K (l.map (KA id))
 | [],K,h=>h
 | d::l,K,h=>by
  cases d with
  | rr a b c=>
   simp only [LU] at h
   split at h
   ·rename_i hb
    have:=NP (K:=fun l'=>K (.stale::l')) h
    simp only [List.map_cons,KA,if_pos (Nat.eq_of_beq_eq_true hb)];exact this
   ·rename_i hb
    have:=NP (K:=fun l'=>K (.rr a b c::l')) h
    have hne:¬a=id:=fun e=>by rw [e,Nat.beq_refl] at hb;cases hb
    simp only [List.map_cons,KA,if_neg hne];exact this
  | _=>exact NP (K:=fun l'=>K (_::l')) h
def LP (id:Nat)(s:S)(K:S→Prop):Prop:=match s with
 | .sref u sz n=>match Nat.beq u id with
  | true=>K .junk
  | false=>K (.sref u sz n)
 | .gref u sz n=>match Nat.beq u id with
  | true=>K .junk
  | false=>K (.gref u sz n)
 | .ref u off=>match Nat.beq u id with
  | true=>K .junk
  | false=>K (.ref u off)
 | .ubox cs=>LU id cs fun cs'=>K (.ubox cs')
 | .uagg cs=>LU id cs fun cs'=>K (.uagg cs')
 | .uobj cs=>LU id cs fun cs'=>K (.uobj cs')
 | s=>sK s K
theorem TW {id:Nat}(s:S)(K:S→Prop)(h:LP id s K):K (Dj id s):=by
 cases s with
 | sref u sz n=>
  simp only [LP] at h
  show K (if u=id then .junk else .sref u sz n)
  split at h
  ·rename_i hb;rw [if_pos (Nat.eq_of_beq_eq_true hb)];exact h
  ·rename_i hb;rw [if_neg (fun e=>by rw [e,Nat.beq_refl] at hb;cases hb)];exact h
 | gref u sz n=>
  simp only [LP] at h
  show K (if u=id then .junk else .gref u sz n)
  split at h
  ·rename_i hb;rw [if_pos (Nat.eq_of_beq_eq_true hb)];exact h
  ·rename_i hb;rw [if_neg (fun e=>by rw [e,Nat.beq_refl] at hb;cases hb)];exact h
 | ref u off=>
  simp only [LP] at h
  show K (if u=id then .junk else .ref u off)
  split at h
  ·rename_i hb;rw [if_pos (Nat.eq_of_beq_eq_true hb)];exact h
  ·rename_i hb;rw [if_neg (fun e=>by rw [e,Nat.beq_refl] at hb;cases hb)];exact h
 | ubox cs=>exact NP (K:=fun cs'=>K (.ubox cs')) h
 | uagg cs=>exact NP (K:=fun cs'=>K (.uagg cs')) h
 | uobj cs=>exact NP (K:=fun cs'=>K (.uobj cs')) h
 | c x=>cases x<;>exact h
 | _=>exact h
def hdrop (id:Nat)(h:Hp):Hp:=fun u=>Dj id (h u)
theorem UX {id:Nat}(s:S):Dj id (FH s)=FH (Dj id s):=by
 cases s with
 | sref i sz n=>simp only [Dj,FH];by_cases e:i=id<;>simp [e]
 | gref i sz n=>simp only [Dj,FH];by_cases e:i=id<;>simp [e]
 | ref i n=>simp only [Dj,FH];by_cases e:i=id<;>simp [e]
 | _=>rfl
theorem envT_appG {t t1 t2 t3:Tr}{h:Hp}{id d:Nat}{s g:S}(hd:d<NAM)(hid:id<NAM)(hdi:d≠id)(h1:∀u,t1.get u=Dj id (t.get u))(h2:∀u,t2.get u=if u=id then g else t1.get u)(h3:∀u,t3.get u=if u=d then s else t2.get u):Af t3 (hdrop id h)=appG (Af t h) id d s g:=by
 funext u
 simp only [Af,appG,h3,h2,h1]
 by_cases e:u=d
 ·subst e;simp [hd]
 ·simp only [if_neg e]
  by_cases e2:u=id
  ·subst e2;simp [hid]
  ·simp only [if_neg e2]
   split
   ·rfl
   ·exact (UX _).symm
section
variable {P:Program} {N:Nat} {t:Tr} {h:Hp} {o:Oper}
theorem at_row {id sz:Nat}{xs:List D}(hi:id<NAM)(hg:t.get id=.gbox sz xs):Af t h id=.gbox sz xs:=by rw [Cm hi,hg]
theorem x_appG {T e:TypeId}{sz bytes id n d m:Nat}{x y:Operand}{xs ys zs:List D}{K:Tr→Hp→Prop}(hT:CU P T=some (e,sz,bytes))
 (hx:Am (Af t h) x=.sref id sz n) (hg:t.get id=.gbox sz xs) (hy:vd (Af t h) y=some (.row ys)) (hn:xs.length=n) (hw:∀y∈ys,y.cells.length=sz) (h63:n+ys.length≤maxLen) (hby:(n+ys.length)*bytes≤140737488355328) (hz:xs++ys=zs) (hm:n+ys.length=m)
 (hk:Gh (LP id) t fun t1=>AV 20 t1 id (.gbox sz zs) fun t2=>AV 20 t2 d (.sref id sz m) fun t3=>K t3 (hdrop id h))
 (hop:o.op=.call { callee:=.builtin .append,args:=#[x,y],argTypes:=#[T,T] }:=by rfl) (hd:o.dst=some d:=by rfl) (hdN:d<N:=by exact Nat.le_of_ble_eq_true rfl) (hNB:N≤BIG:=by exact Nat.le_of_ble_eq_true rfl) (hid:BIG≤id:=by exact Nat.le_of_ble_eq_true rfl) (hid2:id<NAM:=by exact Nat.le_of_ble_eq_true rfl) :
 FN P N o (Af t h) fun e=>∃(t':Tr) (h':Hp),e=Af t' h'∧K t' h':=by
 refine Nw ?_
 subst hz hm
 obtain ⟨t1,k1,hk⟩:=IP (f:=Dj id) rfl TW hk
 obtain ⟨t2,k2,hk⟩:=Bh hk
 obtain ⟨t3,k3,hk⟩:=Bh hk
 have hdB:d<BIG:=Nat.lt_of_lt_of_le hdN hNB
 exact ⟨t3,hdrop id h,by rw [envT_appG (nam hdB) hid2 (by omega) k1 k2 k3];exact s_appendG hop hT hx (at_row hid2 hg) hn hy hw h63 hby hd hdN hdB,hk⟩
end
section
variable {P:Program} {N:Nat} {env:Env} {t:Tr} {h:Hp} {o:Oper}
end
end Go.Vm
end
section
namespace Go.Vm
open Go.RowKit
section
variable {P:Program} {N:Nat} {env:Env} {t:Tr} {h:Hp} {o:Oper}
end
section
variable {P:Program} {t t':TypeId} {x y:Operand} {k k' yk:IntKind} {a b n c:Int}
end
end Go.Vm
end
section
namespace Go.Vm
def w64 (x:Int):Int:=IntKind.i64.wrap x
theorem w64_id {x:Int}(h1 : -9223372036854775808≤x)(h2:x≤9223372036854775807):w64 x=x:=IntWalk.i64_in _ (by omega)
noncomputable def grd {α:Type}(p:Prop)(x:Option α):Option α:=open Classical in if p then x else none
theorem grd_of {α:Type}{p:Prop}{x:Option α}{r:α}(h:grd p x=some r):p∧x=some r:=by
 unfold grd at h
 split at h
 ·exact ⟨by assumption,h⟩
 ·cases h
theorem AO {α:Type}{p:Prop}{x:Option α}(h:p):grd p x=x:=if_pos h
theorem bind_of {α β:Type}{a:Option α}{f:α→Option β}{r:β}(h:a.bind f=some r):∃o,a=some o∧f o=some r:=by
 cases a with
 | none=>cases h
 | some o=>exact ⟨o,rfl,h⟩
theorem Ac {α:Type}{c:Prop} [Decidable c]{a b r:α}(h:(if c then a else b)=r)(hc:c):a=r:=by rwa [if_pos hc] at h
theorem Ad {α:Type}{c:Prop} [Decidable c]{a b r:α}(h:(if c then a else b)=r)(hc:¬c):b=r:=by rwa [if_neg hc] at h
theorem nf {b:Bool}(h:b=false):¬b=true:=by rw [h];exact Bool.false_ne_true
def idx {α:Type}(l:List α)(i:Int):Option α:=if 0≤i then l[i.toNat]? else none
theorem idx_of {α:Type}{l:List α}{i:Int}{p:α}(h:idx l i=some p):0≤i∧l[i.toNat]? = some p:=by
 unfold idx at h
 split at h
 ·exact ⟨by assumption,h⟩
 ·cases h
theorem idx_nat {α:Type}{l:List α}{i:Nat}:idx l (i:Int)=l[i]? := by unfold idx;rw [if_pos (by omega),Int.toNat_natCast]
def Gv {α:Type}(l:List α)(lo hi:Int):Option (List α):=if 0≤lo∧lo≤hi∧hi≤(l.length:Int) then some ((l.take hi.toNat).drop lo.toNat) else none
theorem RY {α:Type}{l y:List α}{lo hi:Int}(h:Gv l lo hi=some y):0≤lo∧lo≤hi∧hi≤(l.length:Int)∧(l.take hi.toNat).drop lo.toNat=y:=by
 unfold Gv at h
 split at h
 ·rename_i h1;injection h with h;exact ⟨h1.1,h1.2.1,h1.2.2,h⟩
 ·cases h
theorem subL_to {α:Type}{l:List α}{k:Nat}(h:k≤l.length):Gv l 0 (k:Int)=some (l.take k):=by
 unfold Gv;rw [if_pos ⟨by omega,by omega,by omega⟩];simp
theorem UH {α:Type}{l:List α}{k:Nat}(h:k≤l.length):Gv l (k:Int) (l.length:Int)=some (l.drop k):=by
 unfold Gv;rw [if_pos ⟨by omega,by omega,by omega⟩];simp
def BG {α:Type}(a b:List α):Option (List α):=if a.length+b.length≤1000000000 then some (a++b) else none
theorem appL_of {α:Type}{a b z:List α}(h:BG a b=some z):a.length+b.length≤1000000000∧a++b=z:=by
 unfold BG at h
 split at h
 ·injection h with h;exact ⟨by assumption,h⟩
 ·cases h
theorem appL_ok {α:Type}{a b:List α}(h:a.length+b.length≤1000000000):BG a b=some (a++b):=if_pos h
theorem Aa {α β:Type}{a:Option α}{f:α→Option β}{r:β}{G:Prop}(h:a.bind f=some r)(g:∀o,a=some o→f o=some r→G):G:=by
 obtain ⟨o,h1,h2⟩:=bind_of h;exact g o h1 h2
theorem CB {α:Type}{p:Prop}{x:Option α}{r:α}{G:Prop}(h:grd p x=some r)(g:p→x=some r→G):G:=g (grd_of h).1 (grd_of h).2
theorem Ak {α:Type}{l:List α}{i:Int}{p:α}{G:Prop}(h:idx l i=some p)(g:0≤i→l[i.toNat]? = some p→G):G:=g (idx_of h).1 (idx_of h).2
theorem OW {α:Type}{l y:List α}{lo hi:Int}{G:Prop}(h:Gv l lo hi=some y)(g:0≤lo→lo≤hi→hi≤(l.length:Int)→(l.take hi.toNat).drop lo.toNat=y→G):G:=g (RY h).1 (RY h).2.1 (RY h).2.2.1 (RY h).2.2.2
theorem Ji {α:Type}{l:List α}{k:Nat}{G:Prop}(h:(k:Int)<(l.length:Int))(g:∀p,l[k]? = some p→G):G:=by
 have:k<l.length:=by omega
 exact g l[k] (by simp [this])
theorem idxN {α:Type}{l:List α}{k:Nat}{x:α}(h:l[k]? = some x):idx l (k:Int)=some x:=idx_nat.trans h
def idxS (s:ByteArray)(i:Int):Option UInt8:=if 0≤i then s[i.toNat]? else none
theorem idxS_of {s:ByteArray}{i:Int}{p:UInt8}(h:idxS s i=some p):0≤i∧s[i.toNat]? = some p:=by
 unfold idxS at h
 split at h
 ·exact ⟨by assumption,h⟩
 ·cases h
theorem idxSG {s:ByteArray}{i:Int}{p:UInt8}{G:Prop}(h:idxS s i=some p)(g:0≤i→s[i.toNat]? = some p→G):G:=g (idxS_of h).1 (idxS_of h).2
abbrev intD (x:Int):D:=.sc (.int .i64 x)
def DZ (E:List EX)(id:BZ):Int:=if (OH E id).1=2 then 0 else if (OH E id).1=3 then 16 else 13
end Go.Vm
end
section
namespace Go.Vm
theorem GI {a b:ByteArray}(h:a.data.toList=b.data.toList):a=b:=by
 obtain ⟨⟨a⟩⟩:=a
 obtain ⟨⟨b⟩⟩:=b
 simp only at h
 rw [h]
abbrev mkB (l:List UInt8):ByteArray:=⟨l.toArray⟩
theorem EY (l:List UInt8):(mkB l).data.toList=l:=by simp
theorem NK (s:ByteArray):mkB s.data.toList=s:=GI (EY _)
theorem ba_app (a b:ByteArray):(a++b).data.toList=a.data.toList++b.data.toList:=by rw [ByteArray.data_append];simp
theorem FT (a:ByteArray):a.data.toList.length=a.size:=rfl
section
variable {c:UInt8}
def Iw (c:UInt8):List UInt8→List (List UInt8)
 | []=>[[]]
 | b::l=>if b=c then []::Iw c l else match Iw c l with
  | []=>[[b]]
  | w::ws=>(b::w)::ws
def Jt (c:UInt8):List (List UInt8)→List UInt8
 | []=>[]
 | [w]=>w
 | w::v::r=>w++c::Jt c (v::r)
theorem splitC_ne (l:List UInt8):Iw c l≠[]:=by
 cases l with
 | nil=>simp [Iw]
 | cons b l=>unfold Iw;split;simp;split<;>simp
theorem O7:∀{w:List UInt8},c ∉ w→Iw c w= [w]
 | [],_=>rfl
 | b::w,h=>by
  have hb:¬b=c:=fun e=>h (by rw [e];exact List.mem_cons_self ..)
  have ih:=O7 (w:=w) fun k=>h (List.mem_cons_of_mem _ k)
  unfold Iw
  rw [if_neg hb,ih]
theorem LJ:∀{w:List UInt8} (l:List UInt8),c ∉ w→Iw c (w++c::l)=w::Iw c l
 | [],l,_=>by simp [Iw]
 | b::w,l,h=>by
  have hb:¬b=c:=fun e=>h (by rw [e];exact List.mem_cons_self ..)
  have ih:=LJ (w:=w) l fun k=>h (List.mem_cons_of_mem _ k)
  rw [List.cons_append,Iw,if_neg hb,ih]
theorem Ri:∀l:List UInt8,(Lib.index l [c] = -1∧c ∉ l)∨∃a r,l=a++c::r∧c ∉ a∧Lib.index l [c] = (a.length:Int)
 | []=>.inl ⟨rfl,by simp⟩
 | b::l=>by
  by_cases e:c=b
  ·subst e
   exact .inr ⟨[],l,rfl,by simp,by unfold Lib.index;rw [if_pos (by simp)];rfl⟩
  ·have hp:¬[c].isPrefixOf (b::l)=true:=by simp [List.isPrefixOf,e]
   rcases Ri l with ⟨h1,h2⟩ | ⟨a,r,rfl,h2,h3⟩
   ·refine .inl ⟨by unfold Lib.index;rw [if_neg hp,h1];rfl,fun k=>?_⟩
    rcases List.mem_cons.1 k with k | k
    ·exact e k
    ·exact h2 k
   ·refine .inr ⟨b::a,r,rfl,fun k=>?_,?_⟩
    ·rcases List.mem_cons.1 k with k | k
     ·exact e k
     ·exact h2 k
    ·unfold Lib.index
     rw [if_neg hp,h3,if_neg (by simp),List.length_cons];omega
theorem splitK_C:∀(k:Nat) (l:List UInt8),l.count c=k→Lib.splitK [c] 0 k l=Iw c l
 | 0,l,h=>by
  rw [O7 (List.count_eq_zero.1 h)];rfl
 | k+1,l,h=>by
  rcases Ri (c:=c) l with ⟨h1,h2⟩ | ⟨a,r,rfl,h2,h3⟩
  ·rw [List.count_eq_zero.2 h2] at h;cases h
  ·rw [LJ _ h2]
   unfold Lib.splitK
   rw [h3,if_neg (by simp)]
   rw [List.count_append,List.count_cons_self,List.count_eq_zero.2 h2] at h
   have hd:(a++c::r).drop (((a.length:Int)).toNat + [c].length)=r:=by
    rw [Int.toNat_natCast,List.length_singleton,←List.drop_drop,List.drop_left];rfl
   rw [hd,splitK_C k r (by omega),Int.toNat_natCast,Nat.add_zero,List.take_left]
def AA (c:UInt8)(s:ByteArray):List ByteArray:=(Iw c s.data.toList).map mkB
theorem splitW_lib (s:ByteArray):Lib.splitB ⟨#[c]⟩ 0 (Lib.countB s ⟨#[c]⟩) s=AA c s:=by
 have h:=Lib.splitB_data ⟨#[c]⟩ 0 (Lib.countB s ⟨#[c]⟩) s
 have hc:Lib.countB s ⟨#[c]⟩=s.data.toList.count c:=Lib.count_one c _
 rw [show (⟨#[c]⟩:ByteArray).data.toList= [c] from rfl,hc,splitK_C _ _ rfl] at h
 rw [←hc] at h
 unfold AA
 rw [←h,List.map_map]
 conv=>lhs;rw [←List.map_id (Lib.splitB _ _ _ _)]
 exact List.map_congr_left fun a _=>(NK a).symm
theorem splitW_ne (s:ByteArray):AA c s≠[]:=by unfold AA;simp [splitC_ne]
def GR (c:UInt8)(l:List ByteArray):ByteArray:=mkB (Jt c (l.map (·.data.toList)))
theorem TS:∀l:List (List UInt8),Lib.join l [c] = Jt c l
 | []=>rfl
 | [w]=>Lib.join_one w [c]
 | w::v::r=>by
  have ih:=TS (v::r)
  rw [Lib.join_cons] at ih ⊢
  rw [Jt,←ih]
  simp [Lib.joinTail]
theorem Tj (l:List ByteArray):(GR c l).data.toList=Jt c (l.map (·.data.toList)):=EY _
def CE (c:UInt8)(l:List UInt8):List UInt8×List UInt8×Bool:=if c∈l then (l.takeWhile (fun b=>!decide (b=c)),(l.dropWhile (fun b=>!decide (b=c))).drop 1,true) else (l,[],false)
theorem TR:∀{a:List UInt8} (r:List UInt8),c ∉ a→(a++c::r).takeWhile (fun b=>!decide (b=c))=a∧(a++c::r).dropWhile (fun b=>!decide (b=c))=c::r
 | [],r,_=>by simp
 | b::a,r,h=>by
  have hb:¬b=c:=fun e=>h (by rw [e];exact List.mem_cons_self ..)
  have ih:=TR (a:=a) r fun k=>h (List.mem_cons_of_mem _ k)
  simp [hb,ih.1,ih.2]
theorem PM {a r:List UInt8}(h:c ∉ a):CE c (a++c::r)=(a,r,true):=by
 unfold CE
 rw [if_pos (by simp),(TR r h).1,(TR r h).2];rfl
theorem RQ {l:List UInt8}(h:c ∉ l):CE c l=(l,[],false):=by unfold CE;rw [if_neg h]
theorem mem_split {l:List UInt8}(h:c∈l):∃a r,l=a++c::r∧c ∉ a:=by
 rcases Ri (c:=c) l with ⟨_,h2⟩ | ⟨a,r,h1,h2,_⟩
 ·exact absurd h h2
 ·exact ⟨a,r,h1,h2⟩
end
-- names
theorem nameB_bytes {s:ByteArray}(h:nameB s=true):∀c∈s.data.toList,(97≤c.toNat∧c.toNat≤122)∨(48≤c.toNat∧c.toNat≤57):=by
 intro c hc
 unfold nameB at h
 simp only [Bool.and_eq_true,List.all_eq_true] at h
 obtain ⟨i,hi,rfl⟩:=List.getElem_of_mem hc
 have:=h.2 i (List.mem_range.2 hi)
 have he:s[i]? = some s.data.toList[i]:=by
  rw [getElem?_pos s i hi]
  rfl
 rw [he] at this
 simp only [GL,Bool.or_eq_true,Bool.and_eq_true,decide_eq_true_eq] at this
 omega
theorem nameB_ne {s:ByteArray}(h:nameB s=true):s.data.toList≠[]:=by
 unfold nameB at h
 simp only [Bool.and_eq_true,decide_eq_true_eq] at h
 intro e
 have:s.size=0:=by rw [←FT,e];rfl
 omega
theorem Rj {s:ByteArray}(h:nameB s=true){c:UInt8}(hc:c.toNat<48∨(57<c.toNat∧c.toNat<97)):c ∉ s.data.toList:=fun k=>by have:=nameB_bytes h c k;omega
end Go.Vm
end
section
namespace Punnet.Name
set_option maxRecDepth 10000
def Fb (c:UInt8):Bool:=decide (32≤c.toNat)&&decide (c.toNat≤126)&&decide (c.toNat≠34)&&decide (c.toNat≠92)
def hexD (c:UInt8):Option Nat:=if 48≤c.toNat∧c.toNat≤57 then some (c.toNat-48) else if 97≤c.toNat∧c.toNat≤102 then some (c.toNat-87) else none
def hexOf (n:Nat):UInt8:=UInt8.ofNat (if n<10 then 48+n else 87+n)
def Jg (a b:UInt8):Option UInt8:=match hexD a,hexD b with
 | some h,some l=>if Fb (UInt8.ofNat (16*h+l)) then none else some (UInt8.ofNat (16*h+l))
 | _,_=>none
def coded:List UInt8→Option (UInt8×Nat)
 | a::b::_=>(Jg a b).map fun x=>(x,2)
 | _=>none
def sign:List UInt8→Option (UInt8×Nat)
 | []=>none
 | c::r=>if c.toNat=92 then coded r else if Fb c then some (c,0) else none
def EJ (l:List UInt8)(k:Nat):Option (List UInt8×Nat):=
 if h:k<l.length then
  if l[k].toNat=34 then some ([],k+1)
  else match sign (l.drop k) with
   | none=>none
   | some (c,n)=>(EJ l (k+n+1)).map fun p=>(c::p.1,p.2)
 else none
 termination_by l.length-k
def DY (l:List UInt8)(k:Nat):Option (List UInt8×Nat):=
 if h:k<l.length then (if l[k].toNat=34 then EJ l (k+1) else none) else none
theorem QJ {l:List UInt8}{k:Nat}(h:¬k<l.length):EJ l k=none:=by rw [EJ,dif_neg h]
theorem QB {l:List UInt8}{k:Nat}(h:k<l.length)(hq:l[k].toNat=34):EJ l k=some ([],k+1):=by rw [EJ,dif_pos h,if_pos hq]
theorem O4 {l:List UInt8}{k:Nat}(h:k<l.length)(hq:l[k].toNat≠34)(hs:sign (l.drop k)=none):EJ l k=none:=by
 rw [EJ,dif_pos h,if_neg hq,hs]
theorem Qm {l:List UInt8}{k n:Nat}{c:UInt8}(h:k<l.length)(hq:l[k].toNat≠34)(hs:sign (l.drop k)=some (c,n)):EJ l k=(EJ l (k+n+1)).map fun p=>(c::p.1,p.2):=by
 rw [EJ,dif_pos h,if_neg hq,hs]
theorem drop_cons {l:List UInt8}{k:Nat}(h:k<l.length):l.drop k=l[k]::l.drop (k+1):=List.drop_eq_getElem_cons h
theorem sign_plain {l:List UInt8}{k:Nat}(h:k<l.length)(h1:l[k].toNat≠92)(h2:Fb l[k] = true):sign (l.drop k)=some (l[k],0):=by
 rw [drop_cons h,sign,if_neg h1,if_pos h2]
theorem sign_other {l:List UInt8}{k:Nat}(h:k<l.length)(h1:l[k].toNat≠92)(h2:Fb l[k] = false):sign (l.drop k)=none:=by
 rw [drop_cons h,sign,if_neg h1,if_neg (by rw [h2];decide)]
theorem sign_short {l:List UInt8}{k:Nat}(h:k<l.length)(h1:l[k].toNat=92)(h2:l.length<k+3):sign (l.drop k)=none:=by
 rw [drop_cons h,sign,if_pos h1]
 have hl:(l.drop (k+1)).length<2:=by rw [List.length_drop];omega
 match l.drop (k+1),hl with
 | [],_=>rfl
 | [_],_=>rfl
theorem sign_code {l:List UInt8}{k:Nat}(h:k+2<l.length)(h1:l[k].toNat=92):sign (l.drop k)=(Jg l[k+1] l[k+2]).map fun x=>(x,2):=by
 rw [drop_cons (by omega),sign,if_pos h1,drop_cons (show k+1<l.length by omega),drop_cons (show k+1+1<l.length by omega)];rfl
theorem bodyAt_le {l:List UInt8}:∀{k e:Nat} {t:List UInt8},EJ l k=some (t,e)→k<e∧e≤l.length:=by
 intro k
 induction hn:l.length-k using Nat.strongRecOn generalizing k with
 | _ n ih=>
  intro e t h
  by_cases hk:k<l.length
  ·by_cases hq:l[k].toNat=34
   ·rw [QB hk hq] at h
    injection h with h
    injection h with h1 h2
    omega
   ·cases hs:sign (l.drop k) with
    | none=>rw [O4 hk hq hs] at h;cases h
    | some p=>
     obtain ⟨c,m⟩:=p
     rw [Qm hk hq hs] at h
     cases hb:EJ l (k+m+1) with
     | none=>rw [hb] at h;cases h
     | some p=>
      obtain ⟨t',e'⟩:=p
      rw [hb] at h
      injection h with h
      injection h with h1 h2
      have:=ih (l.length-(k+m+1)) (by omega) rfl hb
      omega
  ·rw [QJ hk] at h;cases h
theorem Pn {l:List UInt8}{k e:Nat}{t:List UInt8}(h:DY l k=some (t,e)):k<e∧e≤l.length:=by
 unfold DY at h
 split at h
 ·split at h
  ·have:=bodyAt_le h;omega
  ·cases h
 ·cases h
end Punnet.Name
end
section
namespace Go.Proofs.YtdfbohaohjaloaaGreatDoor
set_option maxRecDepth 10000
open Go.RowKit Punnet.Name
theorem Qy (c:UInt8)(w:World):Calls Tryz.prog 154 #[.int .u8 (c.toNat:Int)] w fun e w'=>e=.returned (.bool (Fb c))∧w=w':=by
 have H:=Lib.hid (show Fb c=(decide (32≤c.toNat)&&decide (c.toNat≤126)&&decide (c.toNat≠34)&&decide (c.toNat≠92)) from rfl)
 have key:(c.toNat<32∧Fb c=false)∨(32≤c.toNat∧126<c.toNat∧Fb c=false)∨(32≤c.toNat∧c.toNat≤126∧(((c.toNat:Int) != 34)=false)∧Fb c=false) ∨
  (32≤c.toNat∧c.toNat≤126∧(((c.toNat:Int) != 34)=true)∧(((c.toNat:Int) != 92)=false)∧Fb c=false)∨(32≤c.toNat∧c.toNat≤126∧(((c.toNat:Int) != 34)=true)∧(((c.toNat:Int) != 92)=true)∧Fb c=true):=by
  rw [H.out]
  generalize c.toNat=n
  by_cases h1:32≤n
  ·by_cases h2:n≤126
   ·by_cases h3:n=34
    ·right;right;left;subst h3;exact ⟨h1,h2,rfl,rfl⟩
    ·have b3:((n:Int) != 34)=true:=by rw [bne_iff_ne];omega
     by_cases h4:n=92
     ·right;right;right;left;subst h4;exact ⟨h1,h2,rfl,rfl,rfl⟩
     ·have b4:((n:Int) != 92)=true:=by rw [bne_iff_ne];omega
      right;right;right;right;exact ⟨h1,h2,b3,b4,by simp [h1,h2,h3,h4]⟩
   ·right;left;exact ⟨h1,by omega,by simp [h2]⟩
  ·left;exact ⟨by omega,by simp [h1]⟩
 clear H
 rcases key with ⟨h1,h⟩ | ⟨h1,h2,h⟩ | ⟨h1,h2,h3,h⟩ | ⟨h1,h2,h3,h4,h⟩ | ⟨h1,h2,h3,h4,h⟩
 all_goals
  have HV:=Lib.hid h
  clear h
  go_enter Tryz.func154,Tryz.ntmps154
  go_wp2
  go_ret
  exact ⟨Fh (by rw [HV.out]),rfl⟩
theorem P9 {c:UInt8}{h:Nat}(hh:hexD c=some h)(w:World):Calls Tryz.prog 228 #[.int .u8 (c.toNat:Int)] w fun e w'=>e=.returned (.tuple #[.int .u8 (h:Int),.bool true])∧w=w':=by
 unfold hexD at hh
 split at hh
 ·rename_i hc
  injection hh with hh
  obtain ⟨h1,h2⟩:=hc
  have HE:=Lib.hid (show ((c.toNat:Int)-48)=(h:Int) by omega)
  clear hh
  go_enter Tryz.func228,Tryz.ntmps228
  go_wp2
  go_ret2
  exact ⟨by rw [←HE.out];rfl,rfl⟩
 ·split at hh
  ·rename_i hc
   injection hh with hh
   obtain ⟨h1,h2⟩:=hc
   have h3:¬(c.toNat:Int)≤57:=by omega
   have HE:=Lib.hid (show ((c.toNat:Int)-97+10)=(h:Int) by omega)
   clear hh
   go_enter Tryz.func228,Tryz.ntmps228
   go_wp2
   go_ret2
   exact ⟨by rw [←HE.out];rfl,rfl⟩
  ·cases hh
theorem Ut {c:UInt8}(hh:hexD c=none)(w:World):Calls Tryz.prog 228 #[.int .u8 (c.toNat:Int)] w fun e w'=>e=.returned (.tuple #[.int .u8 0,.bool false])∧w=w':=by
 unfold hexD at hh
 split at hh
 ·cases hh
 ·rename_i h1
  split at hh
  ·cases hh
  ·rename_i h2
   have key:c.toNat<48∨(57<c.toNat∧c.toNat<97)∨102<c.toNat:=by omega
   clear h1 h2 hh
   rcases key with h | ⟨h,h'⟩ | h
   all_goals
    go_enter Tryz.func228,Tryz.ntmps228
    go_wp2
    go_ret2
    exact ⟨rfl,rfl⟩
theorem PI {c:UInt8}{h:Nat}(hh:hexD c=some h):h<16:=by
 unfold hexD at hh
 split at hh
 ·injection hh;omega
 ·split at hh
  ·injection hh;omega
  ·cases hh
theorem or_nat {a b:Nat}(ha:a<16)(hb:b<16):bits .or .u8 ((a:Int)*16) (b:Int)=((16*a+b:Nat):Int):=by
 have h:=u8_or_nat (a*16) b (by omega) (by omega)
 have e:a*16 ||| b=16*a+b:=by
  have:=Nat.shiftLeft_add_eq_or_of_lt (i:=4) (b:=b) (by omega) a
  rw [Nat.shiftLeft_eq] at this
  rw [←this];omega
 rw [e] at h
 rw [←h]
 congr 1
set_option maxHeartbeats 400000 in
theorem coded_short (s:ByteArray)(k:Nat)(w:World)(hs:s.size≤maxLen)(hk:k<s.size)(h:s.size<k+3) :
 Calls Tryz.prog 155 #[.string s,.int .i64 k] w fun e w'=>e=.returned (.tuple #[.int .u8 0,.bool false])∧w=w':=by
 unfold maxLen at hs
 have h':(s.size:Int)-k<3:=by omega
 go_enter Tryz.func155,Tryz.ntmps155
 go_wp2
 go_ret2
 exact ⟨rfl,rfl⟩
set_option maxHeartbeats 400000 in
theorem coded_yes (s:ByteArray)(k:Nat)(w:World)(hs:s.size≤maxLen)(hk:k+2<s.size){x:UInt8}(h:Jg s[k+1] s[k+2] = some x) :
 Calls Tryz.prog 155 #[.string s,.int .i64 k] w fun e w'=>e=.returned (.tuple #[.int .u8 (x.toNat:Int),.bool true])∧w=w':=by
 unfold maxLen at hs
 unfold Jg at h
 cases h1:hexD s[k+1] with
 | none=>rw [h1] at h;cases h
 | some a=>
  cases h2:hexD s[k+2] with
  | none=>rw [h1,h2] at h;cases h
  | some b=>
   rw [h1,h2] at h
   simp only at h
   split at h
   ·cases h
   ·rename_i hp
    injection h with h
    have D1:=Lib.hid (P9 h1)
    have D2:=Lib.hid (P9 h2)
    have la:=PI h1
    have lb:=PI h2
    have P:=Lib.hid (Qy (UInt8.ofNat (16*a+b)))
    rw [Bool.not_eq_true] at hp
    rw [hp] at P
    have hx:x.toNat=16*a+b:=by rw [←h,UInt8.toNat_ofNat'];omega
    rw [h] at P
    have hor:bits .or .u8 ((a:Int)*16) (b:Int)=(x.toNat:Int):=by rw [or_nat la lb,hx]
    clear h1 h2 hp h hx
    have hb:¬(s.size:Int)-k<3:=by omega
    go_enter Tryz.func155,Tryz.ntmps155
    go_wp2_with fail
    refine (D1.out _).mono ?_
    rintro e w1 ⟨rfl,rfl⟩
    go_wp2_with fail
    refine (D2.out _).mono ?_
    rintro e w1 ⟨rfl,rfl⟩
    go_wp2_with fail
    refine (P.out _).mono ?_
    rintro e w1 ⟨rfl,rfl⟩
    go_wp2_with fail
    go_ret2
    exact ⟨rfl,rfl⟩
def NoCode (w:World)(e:Ending)(w':World):Prop:=∃n:Int,e=.returned (.tuple #[.int .u8 n,.bool false])∧w=w'
set_option maxHeartbeats 800000 in
theorem coded_no (s:ByteArray)(k:Nat)(w:World)(hs:s.size≤maxLen)(hk:k+2<s.size)(h:Jg s[k+1] s[k+2] = none) :
 Calls Tryz.prog 155 #[.string s,.int .i64 k] w (NoCode w):=by
 unfold maxLen at hs
 have hb:¬(s.size:Int)-k<3:=by omega
 unfold Jg at h
 cases h1:hexD s[k+1] with
 | none=>
  have D1:=Lib.hid (Ut h1)
  cases h2:hexD s[k+2] with
  | none=>
   have D2:=Lib.hid (Ut h2)
   clear h1 h2 h
   go_enter Tryz.func155,Tryz.ntmps155
   go_wp2_with fail
   refine (D1.out _).mono ?_
   rintro e w1 ⟨rfl,rfl⟩
   go_wp2_with fail
   refine (D2.out _).mono ?_
   rintro e w1 ⟨rfl,rfl⟩
   go_wp2_with fail
   go_ret2
   exact ⟨_,rfl,rfl⟩
  | some b=>
   have D2:=Lib.hid (P9 h2)
   have lb:=PI h2
   clear h1 h2 h
   go_enter Tryz.func155,Tryz.ntmps155
   go_wp2_with fail
   refine (D1.out _).mono ?_
   rintro e w1 ⟨rfl,rfl⟩
   go_wp2_with fail
   refine (D2.out _).mono ?_
   rintro e w1 ⟨rfl,rfl⟩
   go_wp2_with fail
   go_ret2
   exact ⟨_,rfl,rfl⟩
 | some a=>
  have D1:=Lib.hid (P9 h1)
  have la:=PI h1
  cases h2:hexD s[k+2] with
  | none=>
   have D2:=Lib.hid (Ut h2)
   clear h1 h2 h
   go_enter Tryz.func155,Tryz.ntmps155
   go_wp2_with fail
   refine (D1.out _).mono ?_
   rintro e w1 ⟨rfl,rfl⟩
   go_wp2_with fail
   refine (D2.out _).mono ?_
   rintro e w1 ⟨rfl,rfl⟩
   go_wp2_with fail
   go_ret2
   exact ⟨_,rfl,rfl⟩
  | some b=>
   rw [h1,h2] at h
   simp only at h
   split at h
   ·rename_i hp
    have D2:=Lib.hid (P9 h2)
    have lb:=PI h2
    have P:=Lib.hid (Qy (UInt8.ofNat (16*a+b)))
    rw [hp] at P
    have hx:(UInt8.ofNat (16*a+b)).toNat=16*a+b:=by rw [UInt8.toNat_ofNat'];omega
    have hor:bits .or .u8 ((a:Int)*16) (b:Int)=((UInt8.ofNat (16*a+b)).toNat:Int):=by rw [or_nat la lb,hx]
    clear h1 h2 hp h hx
    generalize UInt8.ofNat (16*a+b)=x at *
    go_enter Tryz.func155,Tryz.ntmps155
    go_wp2_with fail
    refine (D1.out _).mono ?_
    rintro e w1 ⟨rfl,rfl⟩
    go_wp2_with fail
    refine (D2.out _).mono ?_
    rintro e w1 ⟨rfl,rfl⟩
    go_wp2_with fail
    refine (P.out _).mono ?_
    rintro e w1 ⟨rfl,rfl⟩
    go_wp2_with fail
    go_ret2
    exact ⟨_,rfl,rfl⟩
   ·cases h
end Go.Proofs.YtdfbohaohjaloaaGreatDoor
end
section
namespace Go.Proofs.YtdfbohaohjaloaaGreatDoor
set_option maxRecDepth 10000
open Go.RowKit Punnet.Name
theorem ES (s:ByteArray)(k:Nat)(h:k<s.size):s.data.toList[k]'(by simpa using h)=s[k]:=by simp;rfl
def cellsOf (l:List UInt8):List Value:=l.map fun b=>.int .u8 (b.toNat:Int)
theorem XH (l:List UInt8)(b:UInt8):cellsOf (l ++ [b])=cellsOf l ++ [.int .u8 (b.toNat:Int)]:=by simp [cellsOf]
theorem u8_info:(Tryz.prog.info? 5).map (fun i=>(i.zero,i.size,i.bytes))=some (some (.int .u8 0),1,1):=by kernel_rfl
def QRel (s:ByteArray)(k0:Nat)(w:World)(k:Nat)(T:List UInt8)(v:Value)(w':World):Prop:=
 k≤s.size∧T.length≤k∧w'.ownsRow w.heap.size 5 1 v T.length (cellsOf T)∧Below w.heap.size w w'∧DY s.data.toList k0=(EJ s.data.toList k).map fun p=>(T++p.1,p.2)
def Quoted (s:ByteArray)(k0:Nat)(w:World)(e:Ending)(w':World):Prop:=
 (DY s.data.toList k0=none∧e=.returned (.tuple #[.slice none 0 0,.int .i64 0,.bool false])∧Below w.heap.size w w') ∨
 ∃(t:List UInt8) (n:Nat) (v:Value),DY s.data.toList k0=some (t,n)∧e=.returned (.tuple #[v,.int .i64 (n:Int),.bool true])∧w'.ownsRow w.heap.size 5 1 v t.length (cellsOf t)∧Below w.heap.size w w'
def QSign (s:ByteArray)(k0:Nat)(w:World)(a':Act)(w':World):Prop:=
 ∃(k:Nat) (T:List UInt8) (v:Value) (u8 u9 u10 u11 u12 u13 u14 u15 u16 u17 u18 u19 u20 u21 u22 u23 u24 u25 u26 u27 u28 u29 u30 u31 u32 u33 u34 u35 u36 u37 u38 u39 u40 u41 u42 u43 u44 u45 u46 u47 u48 u49 u50 u51 u52 u53 u54 u55 u56 u57 u58:Value),a' = { tmps:=#[.string s,.int .i64 (k:Int),undef,undef,.slice none 0 0,.int .i64 0,.bool false,v,u8,u9,u10,u11,u12,u13,u14,u15,u16,u17,u18,u19,u20,u21,u22,u23,u24,u25,u26,u27,u28,u29,u30,u31,u32,u33,u34,u35,u36,u37,u38,u39,u40,u41,u42,u43,u44,u45,u46,u47,u48,u49,u50,u51,u52,u53,u54,u55,u56,u57,u58],defers:=[] }∧QRel s k0 w k T v w'
def QCode (s:ByteArray)(k0:Nat)(w:World)(a':Act)(w':World):Prop:=
 ∃(k:Nat) (T:List UInt8) (v:Value) (u8 u9 u10 u11 u12 u13 u14 u15 u16 u17 u18 u19 u20 u21 u22 u23 u24 u25 u26 u27 u28 u29 u30 u31 u32 u33 u34 u35 u36 u37 u38 u39 u40 u41 u42 u43 u44 u45 u46 u47 u48 u49 u50 u51 u52 u53 u54 u55 u56 u57 u58:Value),a' = { tmps:=#[.string s,.int .i64 (k:Int),undef,undef,.slice none 0 0,.int .i64 0,.bool false,v,u8,u9,u10,u11,u12,u13,u14,u15,u16,u17,u18,u19,u20,u21,u22,u23,u24,u25,u26,u27,u28,u29,u30,u31,u32,u33,u34,u35,u36,u37,u38,u39,u40,u41,u42,u43,u44,u45,u46,u47,u48,u49,u50,u51,u52,u53,u54,u55,u56,u57,u58],defers:=[] }∧QRel s k0 w k T v w'∧∃h:k<s.size,s[k].toNat=92
def QEnd (s:ByteArray)(k0:Nat)(w:World)(a':Act)(w':World):Prop:=
 ∃(k:Nat) (T:List UInt8) (v:Value) (u8 u9 u10 u11 u12 u13 u14 u15 u16 u17 u18 u19 u20 u21 u22 u23 u24 u25 u26 u27 u28 u29 u30 u31 u32 u33 u34 u35 u36 u37 u38 u39 u40 u41 u42 u43 u44 u45 u46 u47 u48 u49 u50 u51 u52 u53 u54 u55 u56 u57 u58:Value),a' = { tmps:=#[.string s,.int .i64 (k:Int),undef,undef,.slice none 0 0,.int .i64 0,.bool false,v,u8,u9,u10,u11,u12,u13,u14,u15,u16,u17,u18,u19,u20,u21,u22,u23,u24,u25,u26,u27,u28,u29,u30,u31,u32,u33,u34,u35,u36,u37,u38,u39,u40,u41,u42,u43,u44,u45,u46,u47,u48,u49,u50,u51,u52,u53,u54,u55,u56,u57,u58],defers:=[] }∧QRel s k0 w k T v w'∧∃h:k<s.size,s[k].toNat=34
theorem Si {s:ByteArray}{k0:Nat}{w:World}{k:Nat}{T:List UInt8}{v:Value}{w':World}(h:QRel s k0 w k T v w')(hb:EJ s.data.toList k=none):DY s.data.toList k0=none:=by rw [h.2.2.2.2,hb];rfl
theorem end_map {s:ByteArray}{k0:Nat}{w:World}{k:Nat}{T:List UInt8}{v:Value}{w':World}(h:QRel s k0 w k T v w')(hk:k<s.size)(hq:s[k].toNat=34):DY s.data.toList k0=some (T,k+1):=by
 rw [h.2.2.2.2,QB (by simpa using hk) (by rw [ES s k hk];exact hq)];simp
theorem next_map {s:ByteArray}{k0:Nat}{w:World}{k:Nat}{T:List UInt8}{v v':Value}{w' w2:World}(h:QRel s k0 w k T v w')(hk:k<s.size)(hq:s[k].toNat≠34){c:UInt8}{n:Nat}(hs:sign (s.data.toList.drop k)=some (c,n))(hn:k+n+1≤s.size)
 (ho:w2.ownsRow w.heap.size 5 1 v' (T.length+1) (cellsOf T ++ [.int .u8 (c.toNat:Int)])) (hb:Below w.heap.size w' w2):QRel s k0 w (k+n+1) (T ++ [c]) v' w2:=by
 obtain ⟨h1,h2,h3,h4,h5⟩:=h
 refine ⟨hn,by simp;omega,by rw [XH,List.length_append,List.length_singleton];exact ho,h4.trans hb,?_⟩
 rw [h5,Qm (by simpa using hk) (by rw [ES s k hk];exact hq) hs]
 cases EJ s.data.toList (k+n+1) with
 | none=>rfl
 | some p=>simp
set_option maxHeartbeats 2000000 in
theorem quoted_go (s:ByteArray)(k0:Nat)(w:World)(hs:s.size≤16777216)(hk0:k0<s.size)(hq:s[k0].toNat=34) :
 Calls Tryz.prog 99 #[.string s,.int .i64 (k0:Int)] w (Quoted s k0 w):=by
 obtain ⟨i0,hi0,hz0,hz1,hz2⟩:=info_parts u8_info
 have hk0':¬(s.size:Int)≤k0:=by omega
 have b34:((s[k0].toNat:Int) != 34)=false:=by rw [bne_eq_false_iff_eq];omega
 have hml:s.size≤9223372036854775807:=by omega
 go_enter Tryz.func99,Tryz.ntmps99
 go_wp2
 refine Y6 (QSign s k0 w) (QEnd s k0 w) (QCode s k0 w) (fun a' _=>3*(s.size-(intOf (a'.tmps.getD 1 undef)).toNat)+2) (fun _ _=>0) (fun a' _=>3*(s.size-(intOf (a'.tmps.getD 1 undef)).toNat)+1) rfl rfl rfl ?_ ?_ ?_ ?_
 ·clear b34 hk0' hq
  rintro a' w' ⟨k,T,v,u8,u9,u10,u11,u12,u13,u14,u15,u16,u17,u18,u19,u20,u21,u22,u23,u24,u25,u26,u27,u28,u29,u30,u31,u32,u33,u34,u35,u36,u37,u38,u39,u40,u41,u42,u43,u44,u45,u46,u47,u48,u49,u50,u51,u52,u53,u54,u55,u56,u57,u58,rfl,hr⟩
  have hks:=hr.1
  have hT:=hr.2.1
  have hown:=Lib.hid hr.2.2.1
  have hbw:=hr.2.2.2.1
  have HR:=Lib.hid hr
  clear hr
  by_cases hlt:k<s.size
  ·have hlt':¬(s.size:Int)≤k:=by omega
   have hl:k<s.data.toList.length:=by simpa using hlt
   by_cases h34:s[k].toNat=34
   ·have b1:((s[k].toNat:Int)==34)=true:=beq_iff_eq.2 (by omega)
    have H34:=Lib.hid h34
    clear h34
    go_wp2
    go_step3
    refine ⟨⟨_,_,_,_,_,_,_,_,_,_,_,_,_,_,_,_,_,_,_,_,_,_,_,_,_,_,_,_,_,_,_,_,_,_,_,_,_,_,_,_,_,_,_,_,_,_,_,_,_,_,_,_,_,_,rfl,HR.out,hlt,H34.out⟩,?_⟩
    show 0 < _
    omega
   ·have b1:((s[k].toNat:Int)==34)=false:=beq_eq_false_iff_ne.2 (by omega)
    by_cases h92:s[k].toNat=92
    ·have b2:((s[k].toNat:Int)==92)=true:=beq_iff_eq.2 (by omega)
     have H92:=Lib.hid h92
     clear h92 h34
     go_wp2
     go_step3
     refine ⟨⟨_,_,_,_,_,_,_,_,_,_,_,_,_,_,_,_,_,_,_,_,_,_,_,_,_,_,_,_,_,_,_,_,_,_,_,_,_,_,_,_,_,_,_,_,_,_,_,_,_,_,_,_,_,_,rfl,HR.out,hlt,H92.out⟩,?_⟩
     show 3*(s.size-(intOf (Value.int .i64 (k:Int))).toNat)+1<3*(s.size-(intOf (Value.int .i64 (k:Int))).toNat)+2
     omega
    ·have b2:((s[k].toNat:Int)==92)=false:=beq_eq_false_iff_ne.2 (by omega)
     have P:=Lib.hid (Qy s[k])
     cases hp:Fb s[k] with
     | true=>
      rw [hp] at P
      have HN:=Lib.hid (fun v' w2=>next_map (v':=v') (w2:=w2) HR.out hlt h34 (sign_plain hl (by rw [ES s k hlt];exact h92) (by rw [ES s k hlt];exact hp)))
      rw [ES s k hlt] at HN
      clear hp h34 h92
      go_wp2_with (first | (go_at_call 154;refine (P.out _).mono ?_;rintro e w1 ⟨rfl,rfl⟩) | (at_builtin;go_must (refine JA rfl (.tmp 36) (.tmp 38) _ rfl w.heap.size 5 i0 _ 1 Tryz.underlying109 hi0 hz0 hz1 hz2 rfl 5 (.int .u8 (s[k].toNat:Int)) rfl v T.length (cellsOf T) rfl hown.out rfl (by simp only [maxLen];omega) (by omega) hbw.size ?_;intro v1 w1 ho1 hb1)))
      go_step3
      refine ⟨⟨_,_,_,_,_,_,_,_,_,_,_,_,_,_,_,_,_,_,_,_,_,_,_,_,_,_,_,_,_,_,_,_,_,_,_,_,_,_,_,_,_,_,_,_,_,_,_,_,_,_,_,_,_,_,rfl,HN.out v1 w1 (by omega) ho1 hb1⟩,?_⟩
      show 3*(s.size-(intOf (Value.int .i64 ((k:Int)+1))).toNat)+2<3*(s.size-(intOf (Value.int .i64 (k:Int))).toNat)+2
      simp only [intOf]
      omega
     | false=>
      rw [hp] at P
      have HQ:=Lib.hid (Si HR.out (O4 hl (by rw [ES s k hlt];exact h34) (sign_other hl (by rw [ES s k hlt];exact h92) (by rw [ES s k hlt];exact hp))))
      clear hp h34 h92
      go_wp2_with (go_at_call 154;refine (P.out _).mono ?_;rintro e w1 ⟨rfl,rfl⟩)
      simp only [Exit.jumps]
      go_ret3
      exact .inl ⟨HQ.out,rfl,hbw⟩
  ·have hlt':(s.size:Int)≤k:=by omega
   have HQ:=Lib.hid (Si HR.out (QJ (by simpa using hlt)))
   go_wp2
   simp only [Exit.jumps]
   go_ret3
   exact .inl ⟨HQ.out,rfl,hbw⟩
 ·clear b34 hk0' hq
  rintro a' w' ⟨k,T,v,u8,u9,u10,u11,u12,u13,u14,u15,u16,u17,u18,u19,u20,u21,u22,u23,u24,u25,u26,u27,u28,u29,u30,u31,u32,u33,u34,u35,u36,u37,u38,u39,u40,u41,u42,u43,u44,u45,u46,u47,u48,u49,u50,u51,u52,u53,u54,u55,u56,u57,u58,rfl,hr,hk,h34⟩
  have HE:=Lib.hid (end_map hr hk h34)
  have hown:=Lib.hid hr.2.2.1
  have hbw:=hr.2.2.2.1
  clear hr h34
  go_wp2
  simp only [Exit.jumps]
  go_ret3
  exact .inr ⟨T,k+1,v,HE.out,rfl,hown.out,hbw⟩
 ·rintro a' w' ⟨k,T,v,u8,u9,u10,u11,u12,u13,u14,u15,u16,u17,u18,u19,u20,u21,u22,u23,u24,u25,u26,u27,u28,u29,u30,u31,u32,u33,u34,u35,u36,u37,u38,u39,u40,u41,u42,u43,u44,u45,u46,u47,u48,u49,u50,u51,u52,u53,u54,u55,u56,u57,u58,rfl,hr,hk,h92⟩
  clear b34 hk0' hq
  have hks:=hr.1
  have hT:=hr.2.1
  have hown:=Lib.hid hr.2.2.1
  have hbw:=hr.2.2.2.1
  have HR:=Lib.hid hr
  clear hr
  have hl:k<s.data.toList.length:=by simpa using hk
  have hms:s.size≤maxLen:=by simp only [maxLen];omega
  have g92:s.data.toList[k].toNat=92:=by rw [ES s k hk];exact h92
  have g34:s.data.toList[k].toNat≠34:=by omega
  by_cases h3:k+2<s.size
  ·have hsg:=sign_code (l:=s.data.toList) (k:=k) (by simpa using h3) g92
   rw [ES s (k+1) (by omega),ES s (k+2) h3] at hsg
   cases hc:Jg s[k+1] s[k+2] with
   | none=>
    rw [hc] at hsg
    have C:=Lib.hid (fun w=>coded_no s k w hms h3 hc)
    have HQ:=Lib.hid (Si HR.out (O4 hl g34 hsg))
    clear hc hsg g92 g34 h92
    go_wp2_with (go_at_call 155;refine (C.out _).mono ?_;rintro e w1 ⟨n,rfl,rfl⟩)
    simp only [Exit.jumps]
    go_ret3
    exact .inl ⟨HQ.out,rfl,hbw⟩
   | some x=>
    rw [hc] at hsg
    have C:=Lib.hid (fun w=>coded_yes s k w hms h3 hc)
    have HN:=Lib.hid (fun v' w2=>next_map (v':=v') (w2:=w2) (n:=2) HR.out hk (by omega) hsg)
    clear hc hsg g92 g34 h92
    go_wp2_with (first | (go_at_call 155;refine (C.out _).mono ?_;rintro e w1 ⟨rfl,rfl⟩) | (at_builtin;go_must (refine JA rfl (.tmp 50) (.tmp 52) _ rfl w.heap.size 5 i0 _ 1 Tryz.underlying109 hi0 hz0 hz1 hz2 rfl 5 (.int .u8 (x.toNat:Int)) rfl v T.length (cellsOf T) rfl hown.out rfl (by simp only [maxLen];omega) (by omega) hbw.size ?_;intro v1 w1 ho1 hb1)))
    go_step3
    refine ⟨⟨_,_,_,_,_,_,_,_,_,_,_,_,_,_,_,_,_,_,_,_,_,_,_,_,_,_,_,_,_,_,_,_,_,_,_,_,_,_,_,_,_,_,_,_,_,_,_,_,_,_,_,_,_,_,rfl,HN.out v1 w1 (by omega) ho1 hb1⟩,?_⟩
    show 3*(s.size-(intOf (Value.int .i64 ((k:Int)+3))).toNat)+2<3*(s.size-(intOf (Value.int .i64 (k:Int))).toNat)+1
    simp only [intOf]
    omega
  ·have C:=Lib.hid (fun w=>coded_short s k w hms hk (by omega))
   have HQ:=Lib.hid (Si HR.out (O4 hl g34 (sign_short hl g92 (by simp;omega))))
   clear g92 g34 h92
   go_wp2_with (go_at_call 155;refine (C.out _).mono ?_;rintro e w1 ⟨rfl,rfl⟩)
   simp only [Exit.jumps]
   go_ret3
   exact .inl ⟨HQ.out,rfl,hbw⟩
 ·intro HL
  go_wp2
  go_step3
  refine (‹∀(a:Act) (w:World),Code.wp _ _ _ a w→_› : _) _ _ (HL.out _ _ ?_)
  refine ⟨k0+1,[],.slice none 0 0,_,_,_,_,_,_,_,_,_,_,_,_,_,_,_,_,_,_,_,_,_,_,_,_,_,_,_,_,_,_,_,_,_,_,_,_,_,_,_,_,_,_,_,_,_,_,_,_,_,_,_,rfl,by omega,by simp,⟨rfl,.inl ⟨rfl,rfl⟩⟩,Below.refl _ _,?_⟩
  rw [DY,dif_pos (by simpa using hk0),if_pos (by rw [ES s k0 hk0];exact hq)]
  simp
end Go.Proofs.YtdfbohaohjaloaaGreatDoor
end
section
namespace Go.Proofs.YtdfbohaohjaloaaGreatDoor
set_option maxRecDepth 10000
open Go.RowKit Punnet.Name
theorem quoted_no (s:ByteArray)(k0:Nat)(w:World)(hs:s.size≤16777216)(h:∀hk:k0<s.size,s[k0].toNat≠34) :
 Calls Tryz.prog 99 #[.string s,.int .i64 (k0:Int)] w (Quoted s k0 w):=by
 have hq:DY s.data.toList k0=none:=by
  unfold DY
  split
  ·rename_i hk
   have hk':k0<s.size:=by simpa using hk
   rw [if_neg (by rw [ES s k0 hk'];exact h hk')]
  ·rfl
 have HQ:=Lib.hid hq
 clear hq
 by_cases hk:k0<s.size
 ·have hk':¬(s.size:Int)≤k0:=by omega
  have h1:=h hk
  have b34:((s[k0].toNat:Int) != 34)=true:=by rw [bne_iff_ne];omega
  clear h h1
  go_enter Tryz.func99,Tryz.ntmps99
  go_wp2
  go_step3
  go_wp2
  rw [Exit.noGoto_ret]
  go_ret3
  exact .inl ⟨HQ.out,rfl,Below.refl _ _⟩
 ·have hk':(s.size:Int)≤k0:=by omega
  clear h
  go_enter Tryz.func99,Tryz.ntmps99
  go_wp2
  go_step3
  go_wp2
  rw [Exit.noGoto_ret]
  go_ret3
  exact .inl ⟨HQ.out,rfl,Below.refl _ _⟩
theorem XE (s:ByteArray)(k0:Nat)(w:World)(hs:s.size≤16777216) :
 Calls Tryz.prog 99 #[.string s,.int .i64 (k0:Int)] w (Quoted s k0 w):=by
 by_cases h:∃hk:k0<s.size,s[k0].toNat=34
 ·obtain ⟨hk,h34⟩:=h
  exact quoted_go s k0 w hs hk h34
 ·exact quoted_no s k0 w hs fun hk h34=>h ⟨hk,h34⟩
def FC (l:List UInt8)(k:Nat):Nat:=k+((l.drop k).takeWhile fun b=>decide (b.toNat≠32)).length
def BI (l:List UInt8)(k:Nat):Nat:=match DY l k with
 | some (_,e)=>if e=l.length∨l[e]? = some 32 then e else FC l k
 | none=>FC l k
theorem blankAt_eq {l:List UInt8}{k e:Nat}(hk:k≤e)(he:e≤l.length)(ha:∀j (h:j<l.length),k≤j→j<e→l[j].toNat≠32)(hs:∀h:e<l.length,l[e].toNat=32):FC l k=e:=by
 have h:∀(n:Nat) (m:List UInt8),n≤m.length→(∀j (h:j<m.length),j<n→m[j].toNat≠32)→(∀h:n<m.length,m[n].toNat=32)→(m.takeWhile fun b=>decide (b.toNat≠32)).length=n:=by
  intro n m
  induction m generalizing n with
  | nil=>intro hn _ _;simp at hn;simp [hn]
  | cons b r ih=>
   intro hn ha hs
   cases n with
   | zero=>
    have hb:b.toNat=32:=hs (by simp)
    rw [List.takeWhile_cons,if_neg (by simp [hb])];rfl
   | succ n=>
    have hb:b.toNat≠32:=ha 0 (by simp) (by omega)
    rw [List.takeWhile_cons,if_pos (by simp [hb]),List.length_cons,ih n (by simpa using hn) (fun j h hj=>ha (j+1) (by simpa using h) (by omega)) (fun h=>hs (by simpa using h))]
 rw [FC,h (e-k) (l.drop k) (by rw [List.length_drop];omega)]
 ·omega
 ·intro j hj hje
  rw [List.length_drop] at hj
  rw [List.getElem_drop]
  exact ha _ _ (by omega) (by omega)
 ·intro hj
  rw [List.length_drop] at hj
  rw [List.getElem_drop]
  have:=hs (by omega)
  rw [show l[k+(e-k)]'(by omega)=l[e]'(by omega) from by congr 1;omega]
  exact this
theorem Me {s:ByteArray}{k j:Nat}(h1:k≤j)(h2:j≤s.size)(hd:∀x (h:x<s.size),k≤x→x<j→s[x].toNat≠32)(hs:∀h:j<s.size,s[j].toNat=32):FC s.data.toList k=j:=by
 have hlen:s.data.toList.length=s.size:=by simp
 refine blankAt_eq h1 (by omega) (fun x h hk hx=>?_) (fun h=>?_)
 ·rw [ES s x (by omega)];exact hd x _ hk hx
 ·rw [ES s j (by omega)];exact hs _
theorem wordEnd_any (s:ByteArray)(k:Nat)(w:World)(hs:s.size≤16777216)(hk:k≤s.size) :
 Calls Tryz.prog 54 #[.string s,.int .i64 (k:Int)] w fun e w'=>e=.returned (.int .i64 (BI s.data.toList k:Int))∧Below w.heap.size w w':=by
 have hml:s.size≤9223372036854775807:=by omega
 go_enter Tryz.func54,Tryz.ntmps54
 go_wp2_with fail
 refine (XE s k w hs).mono ?_
 rintro e w1 (⟨hq,rfl,hb1⟩ | ⟨t,n,v,hq,rfl,hown,hb1⟩)
 ·have HW:=Lib.hid (show BI s.data.toList k=FC s.data.toList k by unfold BI;rw [hq])
  clear hq
  go_wp2_with fail
  go_loop [6] (fun i=>∃j:Nat,k≤j∧j≤s.size∧i=.int .i64 (j:Int)∧∀x (h:x<s.size),k≤x→x<j→s[x].toNat≠32) (fun i=>s.size-(intOf i).toNat)
  case atStart=>exact ⟨k,Nat.le_refl _,hk,rfl,fun _ _ h1 h2=>absurd h1 (by omega)⟩
  case round=>
   obtain ⟨j,hj1,hj2,rfl,hd⟩:=hrel
   have HD:=Lib.hid hd
   clear hd
   by_cases hlt:j<s.size
   ·have hlt':(j:Int)<s.size:=by omega
    by_cases hb:s[j].toNat=32
    ·have b32:((s[j].toNat:Int) != 32)=false:=by rw [bne_eq_false_iff_eq];omega
     have HE:=Lib.hid (show BI s.data.toList k=j by rw [HW.out];exact Me hj1 hj2 HD.out (fun _=>hb))
     clear hb
     go_wp2_with fail
     go_ret
     exact ⟨J8 (by rw [HE.out]),hb1⟩
    ·have b32:((s[j].toNat:Int) != 32)=true:=by rw [bne_iff_ne];omega
     have HD2:=Lib.hid (show ∀x (h:x<s.size),k≤x→x<j+1→s[x].toNat≠32 from fun x h h1 h2=>by
      by_cases e:x=j
      ·subst e;exact hb
      ·exact HD.out x h h1 (by omega))
     clear hb
     go_wp2_with fail
     go_round
     case rel=>exact ⟨j+1,by omega,by omega,by go_num,HD2.out⟩
     case measure=>simp [intOf];omega
   ·have hlt':¬(j:Int)<s.size:=by omega
    have HE:=Lib.hid (show BI s.data.toList k=j by rw [HW.out];exact Me hj1 hj2 HD.out (fun h=>absurd h hlt))
    go_wp2_with fail
    go_ret
    exact ⟨J8 (by rw [HE.out]),hb1⟩
 ·have hle:=Pn hq
  have hlen:s.data.toList.length=s.size:=by simp
  have hn:n≤s.size:=by omega
  have hwe:BI s.data.toList k=if n=s.size∨s.data.toList[n]? = some 32 then n else FC s.data.toList k:=by unfold BI;rw [hq,hlen]
  clear hq hle hown hlen
  by_cases he:n=s.size
  ·have HW:=Lib.hid (show BI s.data.toList k=n by rw [hwe,if_pos (.inl he)])
   have b1:((n:Int)==(s.size:Int))=true:=beq_iff_eq.2 (by omega)
   clear he hwe
   go_wp2_with fail
   go_ret
   exact ⟨J8 (by rw [HW.out]),hb1⟩
  ·have b1:((n:Int)==(s.size:Int))=false:=beq_eq_false_iff_ne.2 (by omega)
   have hlt:n<s.size:=by omega
   have hlt':(n:Int)<s.size:=by omega
   have hg:s.data.toList[n]? = some s[n]:=by rw [List.getElem?_eq_getElem (by simpa using hlt),ES s n hlt]
   by_cases hb:s[n].toNat=32
   ·have HW:=Lib.hid (show BI s.data.toList k=n by
     rw [hwe,if_pos (.inr (by rw [hg];congr 1;exact UInt8.toNat_inj.1 hb))])
    have b2:((s[n].toNat:Int)==32)=true:=beq_iff_eq.2 (by omega)
    clear he hwe hg hb
    go_wp2_with fail
    go_ret
    exact ⟨J8 (by rw [HW.out]),hb1⟩
   ·have HW:=Lib.hid (show BI s.data.toList k=FC s.data.toList k by
     rw [hwe,if_neg]
     rintro (h | h)
     ·exact he h
     ·rw [hg] at h;injection h with h;exact hb (by rw [h];rfl))
    have b2:((s[n].toNat:Int)==32)=false:=beq_eq_false_iff_ne.2 (by omega)
    clear he hwe hg hb
    go_wp2_with fail
    go_loop [6] (fun i=>∃j:Nat,k≤j∧j≤s.size∧i=.int .i64 (j:Int)∧∀x (h:x<s.size),k≤x→x<j→s[x].toNat≠32) (fun i=>s.size-(intOf i).toNat)
    case atStart=>exact ⟨k,Nat.le_refl _,hk,rfl,fun _ _ h1 h2=>absurd h1 (by omega)⟩
    case round=>
     obtain ⟨j,hj1,hj2,rfl,hd⟩:=hrel
     have HD:=Lib.hid hd
     clear hd
     by_cases hlt3:j<s.size
     ·have hlt3':(j:Int)<s.size:=by omega
      by_cases hb:s[j].toNat=32
      ·have b32:((s[j].toNat:Int) != 32)=false:=by rw [bne_eq_false_iff_eq];omega
       have HE:=Lib.hid (show BI s.data.toList k=j by rw [HW.out];exact Me hj1 hj2 HD.out (fun _=>hb))
       clear hb
       go_wp2_with fail
       go_ret
       exact ⟨J8 (by rw [HE.out]),hb1⟩
      ·have b32:((s[j].toNat:Int) != 32)=true:=by rw [bne_iff_ne];omega
       have HD2:=Lib.hid (show ∀x (h:x<s.size),k≤x→x<j+1→s[x].toNat≠32 from fun x h h1 h2=>by
        by_cases e:x=j
        ·subst e;exact hb
        ·exact HD.out x h h1 (by omega))
       clear hb
       go_wp2_with fail
       go_round
       case rel=>exact ⟨j+1,by omega,by omega,by go_num,HD2.out⟩
       case measure=>simp [intOf];omega
     ·have hlt3':¬(j:Int)<s.size:=by omega
      have HE:=Lib.hid (show BI s.data.toList k=j by rw [HW.out];exact Me hj1 hj2 HD.out (fun h=>absurd h hlt3))
      go_wp2_with fail
      go_ret
      exact ⟨J8 (by rw [HE.out]),hb1⟩
end Go.Proofs.YtdfbohaohjaloaaGreatDoor
end
section
namespace Go.Proofs.YtdfbohaohjaloaaGreatDoor
set_option maxRecDepth 10000
open Go.RowKit Punnet.Name
theorem YX (p:UInt8→Bool)(l:List UInt8):(l.takeWhile p).length≤l.length:=by
 induction l with
 | nil=>simp
 | cons b r ih=>rw [List.takeWhile_cons];split<;>simp<;>omega
theorem YG (l:List UInt8){k:Nat}(hk:k≤l.length):k≤FC l k∧FC l k≤l.length:=by
 unfold FC
 have h:=YX (fun b=>decide (b.toNat≠32)) (l.drop k)
 rw [List.length_drop] at h
 omega
theorem TG (l:List UInt8){k:Nat}(hk:k≤l.length):k≤BI l k∧BI l k≤l.length:=by
 have hb:=YG l hk
 unfold BI
 cases hq:DY l k with
 | none=>exact hb
 | some p=>
  obtain ⟨t,e⟩:=p
  have:=Pn hq
  simp only
  split
  ·omega
  ·exact hb
def splitB (s:ByteArray)(k:Nat):List ByteArray:=
 if h:k≤s.size∧BI s.data.toList k<s.size then
  s.extract k (BI s.data.toList k)::splitB s (BI s.data.toList k+1)
 else [s.extract k (BI s.data.toList k)]
 termination_by s.size-k
 decreasing_by
  have h1:s.data.toList.length=s.size:=by simp
  have:=TG s.data.toList (k:=k) (by omega)
  omega
theorem Wv {s:ByteArray}{k:Nat}(h:¬BI s.data.toList k<s.size):splitB s k= [s.extract k (BI s.data.toList k)]:=by rw [splitB,dif_neg (fun x=>h x.2)]
theorem VF {s:ByteArray}{k:Nat}(hk:k≤s.size)(h:BI s.data.toList k<s.size):splitB s k=s.extract k (BI s.data.toList k)::splitB s (BI s.data.toList k+1):=by rw [splitB,dif_pos ⟨hk,h⟩]
theorem str_info:(Tryz.prog.info? 9).map (fun i=>(i.zero,i.size,i.bytes))=some (some (.string ⟨#[]⟩),1,16):=by kernel_rfl
def strsOf (l:List ByteArray):List Value:=l.map Value.string
theorem Vz (l:List ByteArray)(b:ByteArray):strsOf (l ++ [b])=strsOf l ++ [.string b]:=by simp [strsOf]
def Words (w:World)(l:List ByteArray)(e:Ending)(w':World):Prop:=
 ∃v,e=.returned v∧w'.ownsRow w.heap.size 9 1 v l.length (strsOf l)∧Below w.heap.size w w'
def Ju (s:ByteArray)(w:World)(k:Nat)(v:Value)(W:List ByteArray)(w':World):Prop:=
 w'.ownsRow w.heap.size 9 1 v W.length (strsOf W)∧Below w.heap.size w w'∧splitB s 0=W++splitB s k
theorem Ju.more {s:ByteArray}{w:World}{k:Nat}{v v':Value}{W:List ByteArray}{w1 w2 w3:World}(h:Ju s w k v W w1)(hk:k≤s.size)(he:BI s.data.toList k<s.size)(hb:Below w1.heap.size w1 w2)
 (ho:w3.ownsRow w.heap.size 9 1 v' (W.length+1) (strsOf W ++ [.string (s.extract k (BI s.data.toList k))])) (hb2:Below w.heap.size w2 w3):Ju s w (BI s.data.toList k+1) v' (W ++ [s.extract k (BI s.data.toList k)]) w3:=by
 obtain ⟨h1,h2,h3⟩:=h
 refine ⟨by rw [Vz,List.length_append,List.length_singleton];exact ho,(h2.trans (hb.mono h2.size)).trans hb2,?_⟩
 rw [h3,VF hk he];simp
theorem Ju.done {s:ByteArray}{w:World}{k:Nat}{v v':Value}{W:List ByteArray}{w1 w2 w3:World}(h:Ju s w k v W w1)(he:¬BI s.data.toList k<s.size)(hb:Below w1.heap.size w1 w2)
 (ho:w3.ownsRow w.heap.size 9 1 v' (W.length+1) (strsOf W ++ [.string (s.extract k (BI s.data.toList k))])) (hb2:Below w.heap.size w2 w3):Words w (splitB s 0) (.returned v') w3:=by
 obtain ⟨h1,h2,h3⟩:=h
 rw [h3,Wv he]
 exact ⟨v',rfl,by rw [Vz,List.length_append,List.length_singleton];exact ho,(h2.trans (hb.mono h2.size)).trans hb2⟩
theorem split_any (s:ByteArray)(w:World)(hs:s.size≤16777216):Calls Tryz.prog 28 #[.string s] w (Words w (splitB s 0)):=by
 obtain ⟨i0,hi0,hz0,hz1,hz2⟩:=info_parts str_info
 have hlen:s.data.toList.length=s.size:=by simp
 have hml:s.size≤9223372036854775807:=by omega
 have HL:=Lib.hid hlen
 clear hlen
 go_enter Tryz.func28,Tryz.ntmps28
 go_wp2_with fail
 go_loopw [3,4] (fun v i wr=>∃(k:Nat) (W:List ByteArray),i=.int .i64 (k:Int)∧k≤s.size∧W.length≤k∧Ju s w k v W wr) (fun _ i _=>s.size-(intOf i).toNat)
 case atStart=>exact ⟨0,[],rfl,Nat.zero_le _,Nat.le_refl _,⟨rfl,.inl ⟨rfl,rfl⟩⟩,Below.refl _ _,by simp⟩
 case round=>
  obtain ⟨k,W,rfl,hk,hW,hr⟩:=hrel
  obtain ⟨e1,e2⟩:=TG s.data.toList (k:=k) (by have:=HL.out;omega)
  have e3:BI s.data.toList k≤s.size:=by have:=HL.out;omega
  have E:=Lib.hid (fun w=>wordEnd_any s k w hs hk)
  have hown:=Lib.hid hr.1
  have hbw:=hr.2.1
  have HM:=Lib.hid (fun he v' w2 w3=>Ju.more (v':=v') (w2:=w2) (w3:=w3) hr hk he)
  have HE:=Lib.hid (fun he v' w2 w3=>Ju.done (v':=v') (w2:=w2) (w3:=w3) hr he)
  clear hr e2
  generalize BI s.data.toList k=n at *
  have hn1:(k:Int)≤n:=by omega
  have hn2:(n:Int)≤s.size:=by omega
  by_cases he:n<s.size
  ·have b1:((n:Int)==(s.size:Int))=false:=beq_eq_false_iff_ne.2 (by omega)
   have HM:=Lib.hid (HM.out he)
   clear HE
   go_wp2_with (first | (go_at_call 54;refine (E.out _).mono ?_;rintro e w1 ⟨rfl,hb1⟩) | (at_builtin;go_must (refine JA rfl (.tmp 9) (.tmp 14) _ rfl w.heap.size 9 i0 _ 16 Tryz.underlying34 hi0 hz0 hz1 hz2 rfl 9 (.string (s.extract k n)) rfl _ W.length (strsOf W) rfl (L9 hown.out hb1) rfl (by simp only [maxLen];omega) (by omega) (Nat.le_trans hbw.size hb1.size) ?_;intro v1 w2 ho1 hb2)))
   go_roundw
   case rel=>exact ⟨n+1,W ++ [s.extract k n],by go_num,by omega,by simp;omega,HM.out v1 w1 w2 hb1 ho1 hb2⟩
   case measure=>simp [intOf];omega
  ·have b1:((n:Int)==(s.size:Int))=true:=beq_iff_eq.2 (by omega)
   have HE:=Lib.hid (HE.out he)
   clear HM
   go_wp2_with (first | (go_at_call 54;refine (E.out _).mono ?_;rintro e w1 ⟨rfl,hb1⟩) | (at_builtin;go_must (refine JA rfl (.tmp 9) (.tmp 14) _ rfl w.heap.size 9 i0 _ 16 Tryz.underlying34 hi0 hz0 hz1 hz2 rfl 9 (.string (s.extract k n)) rfl _ W.length (strsOf W) rfl (L9 hown.out hb1) rfl (by simp only [maxLen];omega) (by omega) (Nat.le_trans hbw.size hb1.size) ?_;intro v1 w2 ho1 hb2)))
   go_ret
   exact HE.out v1 w1 w2 hb1 ho1 hb2
end Go.Proofs.YtdfbohaohjaloaaGreatDoor
end
section
namespace Punnet.Name
set_option maxRecDepth 10000
def Dp (c:UInt8):List UInt8:=if Fb c then [c] else [92,hexOf (c.toNat / 16),hexOf (c.toNat % 16)]
theorem Vq {n:Nat}(h:n<16):hexD (hexOf n)=some n:=by
 unfold hexD hexOf
 by_cases h1:n<10
 ·rw [if_pos h1,UInt8.toNat_ofNat',Nat.mod_eq_of_lt (by omega),if_pos (by omega)]
  congr 1
  omega
 ·rw [if_neg h1,UInt8.toNat_ofNat',Nat.mod_eq_of_lt (by omega),if_neg (by omega),if_pos (by omega)]
  congr 1
  omega
theorem VJ {c:UInt8}{n:Nat}(h:hexD c=some n):hexOf n=c∧n<16:=by
 unfold hexD at h
 split at h
 ·injection h with h
  refine ⟨?_,by omega⟩
  unfold hexOf
  apply UInt8.toNat_inj.1
  rw [if_pos (by omega),UInt8.toNat_ofNat'];omega
 ·split at h
  ·injection h with h
   refine ⟨?_,by omega⟩
   unfold hexOf
   apply UInt8.toNat_inj.1
   rw [if_neg (by omega),UInt8.toNat_ofNat'];omega
  ·cases h
theorem code2_of {c:UInt8}(h:Fb c=false):Jg (hexOf (c.toNat / 16)) (hexOf (c.toNat % 16))=some c:=by
 have hc:=c.toNat_lt
 unfold Jg
 rw [Vq (by omega),Vq (by omega)]
 simp only
 have e:UInt8.ofNat (16*(c.toNat / 16)+c.toNat % 16)=c:=by
  rw [Nat.div_add_mod];simp
 rw [e,h]
 rfl
theorem code2_inv {a b c:UInt8}(h:Jg a b=some c):Fb c=false∧a=hexOf (c.toNat / 16)∧b=hexOf (c.toNat % 16):=by
 unfold Jg at h
 cases h1:hexD a with
 | none=>rw [h1] at h;cases h
 | some x=>
  cases h2:hexD b with
  | none=>rw [h1,h2] at h;cases h
  | some y=>
   rw [h1,h2] at h
   simp only at h
   split at h
   ·cases h
   ·rename_i hp
    injection h with h
    obtain ⟨e1,l1⟩:=VJ h1
    obtain ⟨e2,l2⟩:=VJ h2
    have hx:c.toNat=16*x+y:=by rw [←h,UInt8.toNat_ofNat'];omega
    refine ⟨by rw [←h];simpa using hp,?_,?_⟩
    ·rw [hx,show (16*x+y) / 16=x by omega,e1]
    ·rw [hx,show (16*x+y) % 16=y by omega,e2]
theorem plain_ne {c:UInt8}(h:Fb c=true):c.toNat≠92∧c.toNat≠34:=by
 unfold Fb at h
 simp only [Bool.and_eq_true,decide_eq_true_iff] at h
 exact ⟨h.2,h.1.2⟩
theorem sign_signOf (c:UInt8)(r:List UInt8):sign (Dp c++r)=some (c,(Dp c).length-1):=by
 unfold Dp
 cases hp:Fb c with
 | true=>
  rw [if_pos rfl]
  show sign (c::r)=_
  rw [sign,if_neg (plain_ne hp).1,if_pos hp];rfl
 | false=>
  rw [if_neg (by decide)]
  show sign (92::hexOf (c.toNat / 16)::hexOf (c.toNat % 16)::r)=_
  rw [sign,if_pos (show (92:UInt8).toNat=92 from rfl),coded,code2_of hp];rfl
theorem Tc {m:List UInt8}{c:UInt8}{n:Nat}(h:sign m=some (c,n)):∃r,m=Dp c++r∧n+1=(Dp c).length:=by
 match m,h with
 | [],h=>cases h
 | x::r,h=>
  rw [sign] at h
  split at h
  ·rename_i h92
   have e92:x=92:=UInt8.toNat_inj.1 h92
   subst e92
   match r,h with
   | [],h=>cases h
   | [_],h=>cases h
   | a::b::r',h=>
    rw [coded] at h
    cases hc:Jg a b with
    | none=>rw [hc] at h;cases h
    | some y=>
     rw [hc] at h
     injection h with h
     injection h with h1 h2
     subst h1 h2
     obtain ⟨hp,e1,e2⟩:=code2_inv hc
     refine ⟨r',?_,?_⟩
     ·unfold Dp;rw [hp,if_neg (by decide),e1,e2];rfl
     ·unfold Dp;rw [hp,if_neg (by decide)];rfl
  ·split at h
   ·rename_i hp
    injection h with h
    injection h with h1 h2
    subst h1 h2
    refine ⟨r,?_,?_⟩
    ·unfold Dp;rw [hp,if_pos rfl];rfl
    ·unfold Dp;rw [hp,if_pos rfl];rfl
   ·cases h
end Punnet.Name
end
section
namespace Go.Proofs.YtdfbohaohjaloaaGreatDoor
set_option maxRecDepth 10000
open Go.RowKit Punnet.Name
theorem Qp (W:World)(d:UInt8)(z:Int)(hz:z=d.toNat)(t:TypeId) :
 (convert 109 9 (.slice (some ⟨W.heap.size,0,none⟩) 1 1)).run Tryz.prog (W.alloc (.cells #[.int .u8 z] t))=.ok (.string ⟨#[d]⟩) (W.alloc (.cells #[.int .u8 z] t)):=by
 subst hz
 refine run_convert_bytes_back _ 109 9 5 _ _ [d] Tryz.underlying109 Tryz.underlying5 Tryz.underlying9 fun j hj=>?_
 obtain rfl:j=0:=by simpa using hj
 exact World.cell?_alloc_new _ _ _ _
theorem hex_any (n:Int)(h0:0≤n)(h1:n<16)(w:World):Calls Tryz.prog 221 #[.int .u8 n] w fun e w'=>e=.returned (.string ⟨#[hexOf n.toNat]⟩)∧Below w.heap.size w w':=by
 by_cases h:n<10
 ·have hcv:=fun W t=>Qp W (hexOf n.toNat) (48+n) (by unfold hexOf;rw [if_pos (by omega),UInt8.toNat_ofNat'];omega) t
  generalize hexOf n.toNat=d at *
  go_enter Tryz.func221,Tryz.ntmps221
  go_wp2
  go_ret
  exact ⟨rfl,(Below.refl _ _).alloc (Nat.le_refl _) _⟩
 ·have hcv:=fun W t=>Qp W (hexOf n.toNat) (87+n) (by unfold hexOf;rw [if_neg (by omega),UInt8.toNat_ofNat'];omega) t
  generalize hexOf n.toNat=d at *
  go_enter Tryz.func221,Tryz.ntmps221
  go_wp2
  go_ret
  exact ⟨rfl,(Below.refl _ _).alloc (Nat.le_refl _) _⟩
def F8 (c:UInt8):ByteArray:=⟨(Dp c).toArray⟩
theorem VU (c:UInt8):(F8 c).data.toList=Dp c:=by simp [F8]
theorem QZ (c:UInt8):(F8 c).size=(Dp c).length:=by rw [←VU];simp
set_option maxHeartbeats 800000 in
theorem byte_any (c:UInt8)(w:World):Calls Tryz.prog 136 #[.int .u8 (c.toNat:Int)] w fun e w'=>e=.returned (.string (F8 c))∧Below w.heap.size w w':=by
 have hc:=c.toNat_lt
 have H:=Lib.hid (show Fb c=(decide (32≤c.toNat)&&decide (c.toNat≤126)&&decide (c.toNat≠34)&&decide (c.toNat≠92)) from rfl)
 cases hp:Fb c with
 | true=>
  have HB:=Lib.hid (show F8 c=⟨#[c]⟩ by unfold F8 Dp;rw [hp];rfl)
  rw [H.out] at hp
  simp only [Bool.and_eq_true,decide_eq_true_iff] at hp
  obtain ⟨⟨⟨h1,h2⟩,h3⟩,h4⟩:=hp
  have b3:((c.toNat:Int)==34)=false:=beq_eq_false_iff_ne.2 (by omega)
  have b4:((c.toNat:Int)==92)=false:=beq_eq_false_iff_ne.2 (by omega)
  have hcv:=fun W t=>Qp W c (c.toNat:Int) rfl t
  clear H h3 h4
  go_enter Tryz.func136,Tryz.ntmps136
  go_wp2_with fail
  go_ret
  exact ⟨by rw [HB.out];rfl,(Below.refl _ _).alloc (Nat.le_refl _) _⟩
 | false=>
  have HB:=Lib.hid (show F8 c=⟨#[92]⟩++⟨#[hexOf (c.toNat / 16)]⟩++⟨#[hexOf (c.toNat % 16)]⟩ by unfold F8 Dp;rw [hp];rfl)
  have X1:=Lib.hid (hex_any ((c.toNat:Int) / 16) (by omega) (by omega))
  have X2:=Lib.hid (hex_any ((c.toNat:Int) % 16) (by omega) (by omega))
  rw [show ((c.toNat:Int) / 16).toNat=c.toNat / 16 by omega] at X1
  rw [show ((c.toNat:Int) % 16).toNat=c.toNat % 16 by omega] at X2
  have key:c.toNat<32∨(32≤c.toNat∧126<c.toNat)∨(32≤c.toNat∧c.toNat≤126∧((c.toNat:Int)==34)=true)∨(32≤c.toNat∧c.toNat≤126∧((c.toNat:Int)==34)=false∧((c.toNat:Int)==92)=true):=by
   rw [H.out] at hp
   by_cases h1:32≤c.toNat
   ·by_cases h2:c.toNat≤126
    ·by_cases h3:c.toNat=34
     ·right;right;left;exact ⟨h1,h2,beq_iff_eq.2 (by omega)⟩
     ·right;right;right
      refine ⟨h1,h2,beq_eq_false_iff_ne.2 (by omega),beq_iff_eq.2 ?_⟩
      by_cases h4:c.toNat=92
      ·omega
      ·simp [h1,h2,h3,h4] at hp
    ·right;left;omega
   ·left;omega
  clear H hp
  generalize hexOf (c.toNat / 16)=d1 at *
  generalize hexOf (c.toNat % 16)=d2 at *
  rcases key with h | ⟨h,h'⟩ | ⟨h,h',h''⟩ | ⟨h,h',h'',h3⟩
  all_goals
   go_enter Tryz.func136,Tryz.ntmps136
   go_wp2_with fail
   refine (X1.out _).mono ?_
   rintro e w1 ⟨rfl,hb1⟩
   go_wp2_with fail
   refine (X2.out _).mono ?_
   rintro e w2 ⟨rfl,hb2⟩
   go_wp2_with fail
   go_ret
   exact ⟨by rw [HB.out];rfl,Q8 hb1 hb2⟩
end Go.Proofs.YtdfbohaohjaloaaGreatDoor
end
section
namespace Go.Proofs.YtdfbohaohjaloaaGreatDoor
set_option maxRecDepth 10000
open Go.RowKit Punnet.Name
theorem byteN_any (n:Nat)(h:n<256)(w:World):Calls Tryz.prog 136 #[.int .u8 (n:Int)] w fun e w'=>e=.returned (.string (F8 (UInt8.ofNat n)))∧Below w.heap.size w w':=by
 have:=byte_any (UInt8.ofNat n) w
 rw [show ((UInt8.ofNat n).toNat:Int)=(n:Int) by rw [UInt8.toNat_ofNat'];omega] at this
 exact this
theorem match_iff (s:ByteArray)(k:Nat)(hk:k<s.size)(x:UInt8) :
 (k+(F8 x).size≤s.size∧((s.extract k (k+(F8 x).size)).toList==(F8 x).toList)=true)↔sign (s.data.toList.drop k)=some (x,(F8 x).size-1):=by
 rw [QZ,Lib.toList_data,Lib.toList_data,Lib.extract_data,VU,beq_iff_eq]
 have hlen:s.data.toList.length=s.size:=by simp
 constructor
 ·rintro ⟨h1,h2⟩
  have h3:s.data.toList.drop k=Dp x++(s.data.toList.drop k).drop (Dp x).length:=by
   conv=>lhs;rw [←List.take_append_drop (Dp x).length (s.data.toList.drop k)]
   rw [show k+(Dp x).length-k=(Dp x).length by omega] at h2
   rw [h2]
  rw [h3]
  exact sign_signOf x _
 ·intro h
  obtain ⟨r,h1,h2⟩:=Tc h
  have hl:=congrArg List.length h1
  rw [List.length_drop,List.length_append] at hl
  refine ⟨by omega,?_⟩
  rw [h1,show k+(Dp x).length-k=(Dp x).length by omega,List.take_left]
theorem Xk (c:UInt8):(Dp c).length≤3:=by unfold Dp;split<;>simp
theorem signOf_pos (c:UInt8):1≤(Dp c).length:=by unfold Dp;split<;>simp
theorem cat_one (T:List UInt8)(x:UInt8):(⟨(T ++ [x]).toArray⟩:ByteArray)=⟨T.toArray⟩++⟨#[x]⟩:=by
 rw [ByteArray.ext_iff,ByteArray.data_append];simp
theorem next_no {r:List UInt8}{C z:Nat}(hq:∀n,sign r=some (UInt8.ofNat C,n)→n=z)(hn:∀j<C,∀n,sign r≠some (UInt8.ofNat j,n))(h:sign r≠some (UInt8.ofNat C,z)):∀j<C+1,∀n,sign r≠some (UInt8.ofNat j,n):=by
 intro j hj n he
 by_cases e:j=C
 ·subst e
  obtain rfl:=hq n he
  exact h he
 ·exact hn j (by omega) n he
def BRel (s:ByteArray)(k0:Nat)(w:World)(k:Nat)(T:List UInt8)(w':World):Prop:=
 Below w.heap.size w w'∧DY s.data.toList k0=(EJ s.data.toList k).map fun p=>(T++p.1,p.2)
def CRel (s:ByteArray)(w:World)(k:Nat)(T:List UInt8)(a o f c:Value)(w':World):Prop:=
 Below w.heap.size w w'∧∃C:Nat,c=.int .i64 (C:Int)∧C≤256 ∧
  ((a=.int .i64 (k:Int)∧o=.string ⟨T.toArray⟩∧f=.bool false∧∀j<C,∀n,sign (s.data.toList.drop k)≠some (UInt8.ofNat j,n)) ∨
     ∃(x:UInt8) (n:Nat),a=.int .i64 ((k+n+1:Nat):Int)∧o=.string ⟨(T ++ [x]).toArray⟩∧f=.bool true∧sign (s.data.toList.drop k)=some (x,n)∧k+n+1≤s.size)
def Begun (s:ByteArray)(k0:Nat)(w:World)(e:Ending)(w':World):Prop:=
 Below w.heap.size w w'∧((DY s.data.toList k0=none∧e=.returned (.tuple #[.string ⟨#[]⟩,.int .i64 0,.bool false])) ∨
 ∃(t:List UInt8) (n:Nat),DY s.data.toList k0=some (t,n)∧e=.returned (.tuple #[.string ⟨t.toArray⟩,.int .i64 (n:Int),.bool true]))
set_option maxHeartbeats 2000000 in
theorem begins_go (s:ByteArray)(k0:Nat)(w:World)(hs:s.size≤16777216)(hk0:k0<s.size)(hq:s[k0].toNat=34) :
 Calls Tryz.prog 76 #[.string s,.int .i64 (k0:Int)] w (Begun s k0 w):=by
 have hk0':¬(s.size:Int)≤k0:=by omega
 have b34:((s[k0].toNat:Int) != 34)=false:=by rw [bne_eq_false_iff_eq];omega
 have hml:s.size≤9223372036854775807:=by omega
 have hstart:DY s.data.toList k0=EJ s.data.toList (k0+1):=by
  rw [DY,dif_pos (by simpa using hk0),if_pos (by rw [ES s k0 hk0];exact hq)]
 have HS:=Lib.hid hstart
 clear hq hstart
 go_enter Tryz.func76,Tryz.ntmps76
 go_wp2_with fail
 go_loopw [1,7] (fun a o wr=>∃(k:Nat) (T:List UInt8),a=.int .i64 (k:Int)∧o=.string ⟨T.toArray⟩∧k≤s.size∧T.length≤k∧BRel s k0 w k T wr) (fun a _ _=>s.size-(intOf a).toNat)
 case atStart=>exact ⟨k0+1,[],by go_num,rfl,by omega,by simp,Below.refl _ _,by rw [HS.out];simp⟩
 case round=>
  obtain ⟨k,T,rfl,rfl,hk,hT,hr⟩:=hrel
  obtain ⟨wo,rfl⟩:∃wo:World,wo=wr:=⟨_,rfl⟩
  have hbw:=hr.1
  have HB:=Lib.hid hr.2
  clear hr hk0' b34
  by_cases hlt:k<s.size
  ·have hlt':(k:Int)<s.size:=by omega
   have hl:k<s.data.toList.length:=by simpa using hlt
   by_cases h34:s[k].toNat=34
   ·have b1:((s[k].toNat:Int)==34)=true:=beq_iff_eq.2 (by omega)
    have HE:=Lib.hid (show DY s.data.toList k0=some (T,k+1) by rw [HB.out,QB hl (by rw [ES s k hlt];exact h34)];simp)
    clear h34
    go_wp2_with fail
    go_ret3
    exact ⟨hbw,.inr ⟨T,k+1,HE.out,rfl⟩⟩
   ·have b1:((s[k].toNat:Int)==34)=false:=beq_eq_false_iff_ne.2 (by omega)
    have g34:s.data.toList[k].toNat≠34:=by rw [ES s k hlt];exact h34
    have HNO:=Lib.hid (fun h=>show DY s.data.toList k0=none by rw [HB.out,O4 hl g34 h];rfl)
    have HYES:=Lib.hid (fun x n (h:sign (s.data.toList.drop k)=some (x,n))=>show DY s.data.toList k0=(EJ s.data.toList (k+n+1)).map fun p=>(T ++ [x]++p.1,p.2) by
     rw [HB.out,Qm hl g34 h]
     cases EJ s.data.toList (k+n+1) with
     | none=>rfl
     | some p=>simp)
    clear h34 g34 HB
    go_wp2_with fail
    go_loopw [1,7,8,9] (fun a o f c wr=>CRel s w k T a o f c wr) (fun _ _ _ c _=>257-(intOf c).toNat)
    case atStart=>exact ⟨hbw,0,rfl,by omega,.inl ⟨rfl,rfl,rfl,fun j hj=>absurd hj (by omega)⟩⟩
    case round=>
     obtain ⟨hbc,C,rfl,hC,h⟩:=hrel
     rcases h with ⟨rfl,rfl,rfl,hn⟩ | ⟨x,n,rfl,rfl,rfl,hx,hle⟩
     ·by_cases hc:C<256
      ·have hc':(C:Int)<256:=by omega
       have XB:=Lib.hid (byteN_any C hc)
       have hcv:=fun W t=>Qp W (UInt8.ofNat C) (C:Int) (by rw [UInt8.toNat_ofNat'];omega) t
       have hm:=match_iff s k hlt (UInt8.ofNat C)
       have hz1:(F8 (UInt8.ofNat C)).size≤3:=by rw [QZ];exact Xk _
       have hz0:1≤(F8 (UInt8.ofNat C)).size:=by rw [QZ];exact signOf_pos _
       have HQ:∀n,sign (s.data.toList.drop k)=some (UInt8.ofNat C,n)→n=(F8 (UInt8.ofNat C)).size-1:=fun n h=>by rw [QZ];obtain ⟨r,h1,h2⟩:=Tc h;omega
       generalize F8 (UInt8.ofNat C)=q at *
       have HN:=Lib.hid hn
       clear hn
       by_cases h1:k+q.size≤s.size
       ·have h1':(k:Int)+q.size≤s.size:=by omega
        cases h2:((s.extract k (k+q.size)).toList==q.toList) with
        | true=>
         have HM:=Lib.hid (hm.1 ⟨h1,h2⟩)
         clear hm HQ
         go_wp2_with (go_at_call 136;refine (XB.out _).mono ?_;rintro e w1 ⟨rfl,hb1⟩)
         go_roundw
         case rel=>
          refine ⟨?_,C+1,by go_num,by omega,.inr ⟨UInt8.ofNat C,q.size-1,?_,?_,rfl,HM.out,by omega⟩⟩
          ·exact (hbc.trans (hb1.mono hbc.size)).alloc (Nat.le_trans hbc.size hb1.size) _
          ·congr 1;omega
          ·rw [cat_one]
         case measure=>simp [intOf];omega
        | false=>
         have HM:=Lib.hid (next_no HQ HN.out fun h=>by rw [(hm.2 h).2] at h2;cases h2)
         clear hm HQ
         go_wp2_with (go_at_call 136;refine (XB.out _).mono ?_;rintro e w1 ⟨rfl,hb1⟩)
         go_roundw
         case rel=>exact ⟨hbc.trans (hb1.mono hbc.size),C+1,by go_num,by omega,.inl ⟨rfl,rfl,rfl,HM.out⟩⟩
         case measure=>simp [intOf];omega
       ·have h1':¬(k:Int)+q.size≤s.size:=by omega
        have HM:=Lib.hid (next_no HQ HN.out fun h=>h1 (hm.2 h).1)
        clear hm HQ h1 HNO HYES
        have b2:decide ((k:Int)+(q.size:Int)≤(s.size:Int))=false:=decide_eq_false h1'
        clear h1'
        go_wp2_with (go_at_call 136;refine (XB.out _).mono ?_;rintro e w1 ⟨rfl,hb1⟩)
        go_roundw
        case rel=>exact ⟨hbc.trans (hb1.mono hbc.size),C+1,by go_num,by omega,.inl ⟨rfl,rfl,rfl,HM.out⟩⟩
        case measure=>simp [intOf];omega
      ·have hc':¬(C:Int)<256:=by omega
       have hC2:256≤C:=by omega
       have HE:=Lib.hid (HNO.out (by
        cases h:sign (s.data.toList.drop k) with
        | none=>rfl
        | some p=>obtain ⟨x,n⟩:=p;exact absurd (by rw [h,UInt8.ofNat_toNat]) (hn x.toNat (by have:=x.toNat_lt;omega) n)))
       clear hn
       go_wp2_with fail
       go_ret3
       exact ⟨hbc,.inl ⟨HE.out,rfl⟩⟩
     ·have HY:=Lib.hid (HYES.out x n hx)
      by_cases hc:C<256
      ·have hc':(C:Int)<256:=by omega
       go_wp2_with fail
       go_roundw
       case rel=>exact ⟨k+n+1,T ++ [x],rfl,rfl,hle,by simp;omega,hbc,HY.out⟩
       case measure=>simp [intOf];omega
      ·have hc':¬(C:Int)<256:=by omega
       go_wp2_with fail
       go_roundw
       case rel=>exact ⟨k+n+1,T ++ [x],rfl,rfl,hle,by simp;omega,hbc,HY.out⟩
       case measure=>simp [intOf];omega
  ·have hlt':¬(k:Int)<s.size:=by omega
   have HE:=Lib.hid (show DY s.data.toList k0=none by rw [HB.out,QJ (by simpa using hlt)];rfl)
   go_wp2_with fail
   go_ret3
   exact ⟨hbw,.inl ⟨HE.out,rfl⟩⟩
theorem begins_no (s:ByteArray)(k0:Nat)(w:World)(hs:s.size≤16777216)(h:∀hk:k0<s.size,s[k0].toNat≠34) :
 Calls Tryz.prog 76 #[.string s,.int .i64 (k0:Int)] w (Begun s k0 w):=by
 have hq:DY s.data.toList k0=none:=by
  unfold DY
  split
  ·rename_i hk
   have hk':k0<s.size:=by simpa using hk
   rw [if_neg (by rw [ES s k0 hk'];exact h hk')]
  ·rfl
 have HQ:=Lib.hid hq
 clear hq
 by_cases hk:k0<s.size
 ·have hk':¬(s.size:Int)≤k0:=by omega
  have h1:=h hk
  have b34:((s[k0].toNat:Int) != 34)=true:=by rw [bne_iff_ne];omega
  clear h h1
  go_enter Tryz.func76,Tryz.ntmps76
  go_wp2_with fail
  go_ret3
  exact ⟨Below.refl _ _,.inl ⟨HQ.out,rfl⟩⟩
 ·have hk':(s.size:Int)≤k0:=by omega
  clear h
  go_enter Tryz.func76,Tryz.ntmps76
  go_wp2_with fail
  go_ret3
  exact ⟨Below.refl _ _,.inl ⟨HQ.out,rfl⟩⟩
theorem XV (s:ByteArray)(k0:Nat)(w:World)(hs:s.size≤16777216) :
 Calls Tryz.prog 76 #[.string s,.int .i64 (k0:Int)] w (Begun s k0 w):=by
 by_cases h:∃hk:k0<s.size,s[k0].toNat=34
 ·obtain ⟨hk,h34⟩:=h
  exact begins_go s k0 w hs hk h34
 ·exact begins_no s k0 w hs fun hk h34=>h ⟨hk,h34⟩
end Go.Proofs.YtdfbohaohjaloaaGreatDoor
end
section
namespace Go.Proofs.YtdfbohaohjaloaaGreatDoor
set_option maxRecDepth 10000
open Go.RowKit Punnet.Name
set_option maxHeartbeats 4000000 in
theorem Aam (s:ByteArray)(w:World)(hs:s.size≤16777216):Calls Tryz.prog 33 #[.string s] w (Words w (splitB s 0)):=by
 obtain ⟨i0,hi0,hz0,hz1,hz2⟩:=info_parts str_info
 have hlen:s.data.toList.length=s.size:=by simp
 have hml:s.size≤9223372036854775807:=by omega
 have HL:=Lib.hid hlen
 clear hlen
 go_enter Tryz.func33,Tryz.ntmps33
 go_wp2_with fail
 go_loopw [3,4] (fun v i wr=>∃(k:Nat) (W:List ByteArray),i=.int .i64 (k:Int)∧k≤s.size∧W.length≤k∧Ju s w k v W wr) (fun _ i _=>s.size-(intOf i).toNat)
 case atStart=>
  refine ⟨0,[],rfl,Nat.zero_le _,Nat.le_refl _,?_,?_,by simp⟩
  ·exact ⟨rfl,.inr ⟨w.heap.size,0,#[],rfl,Nat.le_refl _,heap_alloc_new _ _,Nat.le_refl _,by simp [maxLen],rfl,rfl⟩⟩
  ·exact (Below.refl _ _).alloc (Nat.le_refl _) _
 case round=>
  obtain ⟨k,W,rfl,hk,hW,hr⟩:=hrel
  have hown:=Lib.hid hr.1
  have hbw:=hr.2.1
  have HM:=Lib.hid (fun he v' w2 w3=>Ju.more (v':=v') (w2:=w2) (w3:=w3) hr hk he)
  have HD:=Lib.hid (fun he v' w2 w3=>Ju.done (v':=v') (w2:=w2) (w3:=w3) hr he)
  clear hr
  go_wp2_with fail
  refine (XV s k _ hs).mono ?_
  rintro e w1 ⟨hb1,⟨hq,rfl⟩ | ⟨t,n,hq,rfl⟩⟩
  ·have HW:=Lib.hid (show BI s.data.toList k=FC s.data.toList k by unfold BI;rw [hq])
   clear hq
   go_wp2_with fail
   go_loop [6] (fun i=>∃j:Nat,k≤j∧j≤s.size∧i=.int .i64 (j:Int)∧∀x (h:x<s.size),k≤x→x<j→s[x].toNat≠32) (fun i=>s.size-(intOf i).toNat)
   case atStart=>exact ⟨k,Nat.le_refl _,hk,rfl,fun _ _ h1 h2=>absurd h1 (by omega)⟩
   case round=>
    obtain ⟨j,hj1,hj2,rfl,hd⟩:=hrel
    have HJ:=Lib.hid hd
    clear hd
    have hj3:(k:Int)≤j:=by omega
    have hj4:(j:Int)≤s.size:=by omega
    by_cases hlt:j<s.size
    ·have hlt':(j:Int)<s.size:=by omega
     by_cases hb:s[j].toNat=32
     ·have b32:((s[j].toNat:Int) != 32)=false:=by rw [bne_eq_false_iff_eq];omega
      have HE:=Lib.hid (show BI s.data.toList k=j by rw [HW.out];exact Me hj1 hj2 HJ.out (fun _=>hb))
      have be:((j:Int)==(s.size:Int))=false:=beq_eq_false_iff_ne.2 (by omega)
      clear hb HJ
      have HM2:=Lib.hid (HM.out (by rw [HE.out];exact hlt))
      rw [HE.out] at HM2
      clear HM HD
      go_wp2_with (at_builtin;go_must (refine JA rfl (.tmp 43) (.tmp 48) _ rfl w.heap.size 9 i0 _ 16 Tryz.underlying34 hi0 hz0 hz1 hz2 rfl 9 (.string (s.extract k j)) rfl _ W.length (strsOf W) rfl (L9 hown.out hb1) rfl (by simp only [maxLen];omega) (by omega) (Nat.le_trans hbw.size hb1.size) ?_;intro v1 w2 ho1 hb2))
      go_roundw
      case rel=>exact ⟨j+1,W ++ [s.extract k j],by go_num,by omega,by simp;omega,HM2.out v1 w1 w2 hb1 ho1 hb2⟩
      case measure=>simp [intOf];omega
     ·have b32:((s[j].toNat:Int) != 32)=true:=by rw [bne_iff_ne];omega
      have HD2:=Lib.hid (show ∀x (h:x<s.size),k≤x→x<j+1→s[x].toNat≠32 from fun x h h1 h2=>by
       by_cases e:x=j
       ·subst e;exact hb
       ·exact HJ.out x h h1 (by omega))
      clear hb
      go_wp2_with fail
      go_round
      case rel=>exact ⟨j+1,by omega,by omega,by go_num,HD2.out⟩
      case measure=>simp [intOf];omega
    ·have hlt':¬(j:Int)<s.size:=by omega
     have HE:=Lib.hid (show BI s.data.toList k=j by rw [HW.out];exact Me hj1 hj2 HJ.out (fun h=>absurd h hlt))
     have be:((j:Int)==(s.size:Int))=true:=beq_iff_eq.2 (by omega)
     clear HJ
     have HD2:=Lib.hid (HD.out (by rw [HE.out];omega))
     rw [HE.out] at HD2
     clear HM HD
     go_wp2_with (at_builtin;go_must (refine JA rfl (.tmp 43) (.tmp 48) _ rfl w.heap.size 9 i0 _ 16 Tryz.underlying34 hi0 hz0 hz1 hz2 rfl 9 (.string (s.extract k j)) rfl _ W.length (strsOf W) rfl (L9 hown.out hb1) rfl (by simp only [maxLen];omega) (by omega) (Nat.le_trans hbw.size hb1.size) ?_;intro v1 w2 ho1 hb2))
     go_ret
     exact HD2.out v1 w1 w2 hb1 ho1 hb2
  ·have hle:=Pn hq
   have hlen:=HL.out
   have hn:n≤s.size:=by omega
   have hwe:BI s.data.toList k=if n=s.size∨s.data.toList[n]? = some 32 then n else FC s.data.toList k:=by unfold BI;rw [hq,hlen]
   have hj1:k≤n:=by omega
   have hj3:(k:Int)≤n:=by omega
   have hj4:(n:Int)≤s.size:=by omega
   clear hq hle hlen
   by_cases he:n=s.size
   ·have HE:=Lib.hid (show BI s.data.toList k=n by rw [hwe,if_pos (.inl he)])
    have be:((n:Int)==(s.size:Int))=true:=beq_iff_eq.2 (by omega)
    have hlt':¬(n:Int)<s.size:=by omega
    have hlt:¬n<s.size:=by omega
    clear he hwe
    have HD2:=Lib.hid (HD.out (by rw [HE.out];omega))
    rw [HE.out] at HD2
    clear HM HD
    go_wp2_with (at_builtin;go_must (refine JA rfl (.tmp 43) (.tmp 48) _ rfl w.heap.size 9 i0 _ 16 Tryz.underlying34 hi0 hz0 hz1 hz2 rfl 9 (.string (s.extract k n)) rfl _ W.length (strsOf W) rfl (L9 hown.out hb1) rfl (by simp only [maxLen];omega) (by omega) (Nat.le_trans hbw.size hb1.size) ?_;intro v1 w2 ho1 hb2))
    go_ret
    exact HD2.out v1 w1 w2 hb1 ho1 hb2
   ·have be:((n:Int)==(s.size:Int))=false:=beq_eq_false_iff_ne.2 (by omega)
    have hlt:n<s.size:=by omega
    have hlt':(n:Int)<s.size:=by omega
    have hg:s.data.toList[n]? = some s[n]:=by rw [List.getElem?_eq_getElem (by simpa using hlt),ES s n hlt]
    by_cases hb:s[n].toNat=32
    ·have HE:=Lib.hid (show BI s.data.toList k=n by
      rw [hwe,if_pos (.inr (by rw [hg];congr 1;exact UInt8.toNat_inj.1 hb))])
     have b2:((s[n].toNat:Int) != 32)=false:=by rw [bne_eq_false_iff_eq];omega
     clear he hwe hg hb
     have HM2:=Lib.hid (HM.out (by rw [HE.out];exact hlt))
     rw [HE.out] at HM2
     clear HM HD
     go_wp2_with (at_builtin;go_must (refine JA rfl (.tmp 43) (.tmp 48) _ rfl w.heap.size 9 i0 _ 16 Tryz.underlying34 hi0 hz0 hz1 hz2 rfl 9 (.string (s.extract k n)) rfl _ W.length (strsOf W) rfl (L9 hown.out hb1) rfl (by simp only [maxLen];omega) (by omega) (Nat.le_trans hbw.size hb1.size) ?_;intro v1 w2 ho1 hb2))
     go_roundw
     case rel=>exact ⟨n+1,W ++ [s.extract k n],by go_num,by omega,by simp;omega,HM2.out v1 w1 w2 hb1 ho1 hb2⟩
     case measure=>simp [intOf];omega
    ·have HW:=Lib.hid (show BI s.data.toList k=FC s.data.toList k by
      rw [hwe,if_neg]
      rintro (h | h)
      ·exact he h
      ·rw [hg] at h;injection h with h;exact hb (by rw [h];rfl))
     have b2:((s[n].toNat:Int) != 32)=true:=by rw [bne_iff_ne];omega
     clear he hwe hg hb be
     go_wp2_with fail
     go_loop [6] (fun i=>∃j:Nat,k≤j∧j≤s.size∧i=.int .i64 (j:Int)∧∀x (h:x<s.size),k≤x→x<j→s[x].toNat≠32) (fun i=>s.size-(intOf i).toNat)
     case atStart=>exact ⟨k,Nat.le_refl _,hk,rfl,fun _ _ h1 h2=>absurd h1 (by omega)⟩
     case round=>
      obtain ⟨j,hj1,hj2,rfl,hd⟩:=hrel
      have HJ:=Lib.hid hd
      clear hd
      have hj3:(k:Int)≤j:=by omega
      have hj4:(j:Int)≤s.size:=by omega
      by_cases hlt:j<s.size
      ·have hlt':(j:Int)<s.size:=by omega
       by_cases hb:s[j].toNat=32
       ·have b32:((s[j].toNat:Int) != 32)=false:=by rw [bne_eq_false_iff_eq];omega
        have HE:=Lib.hid (show BI s.data.toList k=j by rw [HW.out];exact Me hj1 hj2 HJ.out (fun _=>hb))
        have be:((j:Int)==(s.size:Int))=false:=beq_eq_false_iff_ne.2 (by omega)
        clear hb HJ
        have HM2:=Lib.hid (HM.out (by rw [HE.out];exact hlt))
        rw [HE.out] at HM2
        clear HM HD
        go_wp2_with (at_builtin;go_must (refine JA rfl (.tmp 43) (.tmp 48) _ rfl w.heap.size 9 i0 _ 16 Tryz.underlying34 hi0 hz0 hz1 hz2 rfl 9 (.string (s.extract k j)) rfl _ W.length (strsOf W) rfl (L9 hown.out hb1) rfl (by simp only [maxLen];omega) (by omega) (Nat.le_trans hbw.size hb1.size) ?_;intro v1 w2 ho1 hb2))
        go_roundw
        case rel=>exact ⟨j+1,W ++ [s.extract k j],by go_num,by omega,by simp;omega,HM2.out v1 w1 w2 hb1 ho1 hb2⟩
        case measure=>simp [intOf];omega
       ·have b32:((s[j].toNat:Int) != 32)=true:=by rw [bne_iff_ne];omega
        have HD2:=Lib.hid (show ∀x (h:x<s.size),k≤x→x<j+1→s[x].toNat≠32 from fun x h h1 h2=>by
         by_cases e:x=j
         ·subst e;exact hb
         ·exact HJ.out x h h1 (by omega))
        clear hb
        go_wp2_with fail
        go_round
        case rel=>exact ⟨j+1,by omega,by omega,by go_num,HD2.out⟩
        case measure=>simp [intOf];omega
      ·have hlt':¬(j:Int)<s.size:=by omega
       have HE:=Lib.hid (show BI s.data.toList k=j by rw [HW.out];exact Me hj1 hj2 HJ.out (fun h=>absurd h hlt))
       have be:((j:Int)==(s.size:Int))=true:=beq_iff_eq.2 (by omega)
       clear HJ
       have HD2:=Lib.hid (HD.out (by rw [HE.out];omega))
       rw [HE.out] at HD2
       clear HM HD
       go_wp2_with (at_builtin;go_must (refine JA rfl (.tmp 43) (.tmp 48) _ rfl w.heap.size 9 i0 _ 16 Tryz.underlying34 hi0 hz0 hz1 hz2 rfl 9 (.string (s.extract k j)) rfl _ W.length (strsOf W) rfl (L9 hown.out hb1) rfl (by simp only [maxLen];omega) (by omega) (Nat.le_trans hbw.size hb1.size) ?_;intro v1 w2 ho1 hb2))
       go_ret
       exact HD2.out v1 w1 w2 hb1 ho1 hb2
end Go.Proofs.YtdfbohaohjaloaaGreatDoor
end
section
namespace Go.Proofs.YtdfbohaohjaloaaGreatDoor
set_option maxRecDepth 10000
open Go.RowKit Punnet.Name
end Go.Proofs.YtdfbohaohjaloaaGreatDoor
end
section
namespace Go.Proofs.YtdfbohaohjaloaaGreatDoor
set_option maxRecDepth 10000
open Go.RowKit Punnet.Name
def DF (c k:Nat):Bool:=decide (97≤c∧c≤122)||(decide (48≤c∧c≤57)&&decide (k≠0))
end Go.Proofs.YtdfbohaohjaloaaGreatDoor
end
section
namespace Go.Proofs.YtdfbohaohjaloaaGreatDoor
set_option maxRecDepth 10000
open Go.RowKit
theorem text_any (s:ByteArray)(w:World):Calls Tryz.prog 220 #[.string s] w fun e w'=>e=.returned (.bool (decide (s.size≤40)))∧w=w':=by
 go_enter Tryz.func220,Tryz.ntmps220
 go_wp2_with fail
 go_ret
 exact ⟨Fh (by rw [decide_eq_decide];omega),rfl⟩
end Go.Proofs.YtdfbohaohjaloaaGreatDoor
end
section
namespace Go.Proofs.YtdfbohaohjaloaaGreatDoor
set_option maxRecDepth 10000
open Go.RowKit Punnet.Name
def JK (l:List UInt8):List UInt8:=34::(l.flatMap Dp ++ [34])
def FD (s:ByteArray)(k:Nat):List UInt8:=34::(s.data.toList.take k).flatMap Dp
theorem ZE {s:ByteArray}{k:Nat}(h:k<s.size):FD s (k+1)=FD s k++Dp s[k]:=by
 unfold FD
 rw [List.take_succ_eq_append_getElem (by simpa using h),List.flatMap_append,ES s k h]
 simp
theorem quoteTo_all {s:ByteArray}:FD s s.size ++ [34] = JK s.data.toList:=by
 unfold FD JK
 rw [List.take_of_length_le (by simp)];rfl
theorem quoteTo_len {s:ByteArray}{k:Nat}(h:k≤s.size):(FD s k).length≤3*k+1:=by
 unfold FD
 induction k with
 | zero=>simp
 | succ k ih=>
  have h':k<s.data.toList.length:=by simp;omega
  rw [List.take_succ_eq_append_getElem h',List.flatMap_append]
  have:=ih (by omega)
  have h3:=Xk (s.data.toList[k]'h')
  simp at this ⊢;simp at h3;omega
end Go.Proofs.YtdfbohaohjaloaaGreatDoor
end
section
namespace Go.Proofs.YtdfbohaohjaloaaGreatDoor
set_option maxRecDepth 10000
open Go.RowKit Punnet.Name
theorem digit_at (n:Nat)(h:n<16)(i:Int)(hi:i=n)(W:World):(Instr.index 9 (.string ⟨#[48,49,50,51,52,53,54,55,56,57,97,98,99,100,101,102]⟩) (.int .u8 i)).run Tryz.prog W=.ok (.int .u8 ((hexOf n).toNat:Int)) W:=by
 subst hi
 rw [run_index_string W 9 _ _ _ Tryz.underlying9,dif_pos ⟨by omega,by show (n:Int)<16;omega⟩]
 have:∀n:Fin 16,((⟨#[48,49,50,51,52,53,54,55,56,57,97,98,99,100,101,102]⟩:ByteArray)[n.val]'n.isLt)=hexOf n.val:=by decide
 have h2:=this ⟨n,h⟩
 congr 2
 simp only [Int.toNat_natCast]
 rw [h2]
theorem conv_row {w:World}{base:Nat}{v:Value}{l:List UInt8}(h:w.ownsRow base 5 1 v l.length (cellsOf l)):(convert 109 9 v).run Tryz.prog w=.ok (.string ⟨l.toArray⟩) w:=by
 rcases h.2 with ⟨rfl,h0⟩ | ⟨g,cap,cur,rfl,hb,hg,h1,h2,h3,h4⟩
 ·obtain rfl:l= []:=by simpa using h0
  rw [run_convert_bytes_string w 109 9 5 none 0 0 Tryz.underlying109 Tryz.underlying5 Tryz.underlying9]
  rfl
 ·refine run_convert_bytes_back _ 109 9 5 _ _ l Tryz.underlying109 Tryz.underlying5 Tryz.underlying9 fun j hj=>?_
  have h5:cur.toList[j]? = some (.int .u8 (l[j].toNat:Int)):=by
   have:=congrArg (fun x=>x[j]?) h4
   simp only [Nat.mul_one] at this
   rw [List.getElem?_take,if_pos hj] at this
   rw [this];simp [cellsOf,hj]
  have hadd:(⟨g,0,none⟩:Addr).add j=⟨g,j,none⟩:=by unfold Addr.add;split<;>simp_all
  rw [hadd]
  simp [World.cell?,hg]
  simpa using h5
def QuRel (s:ByteArray)(w:World)(k:Nat)(v:Value)(w':World):Prop:=
 w'.ownsRow w.heap.size 5 1 v (FD s k).length (cellsOf (FD s k))∧Below w.heap.size w w'
theorem quote_go (s:ByteArray)(w:World)(hs:s.size≤40):Calls Tryz.prog 135 #[.string s] w fun e w'=>e=.returned (.tuple #[.string ⟨(JK s.data.toList).toArray⟩,.int .i64 0])∧Below w.heap.size w w':=by
 obtain ⟨i0,hi0,hz0,hz1,hz2⟩:=info_parts u8_info
 have T:=Lib.hid (text_any s)
 have hd:decide (s.size≤40)=true:=by simp [hs]
 rw [hd] at T
 clear hd
 go_enter Tryz.func135,Tryz.ntmps135
 go_wp2_with fail
 refine (T.out _).mono ?_
 rintro e w1 ⟨rfl,rfl⟩
 go_wp2_with fail
 go_loopw [4,12] (fun v i wr=>∃k:Nat,k≤s.size∧i=.int .i64 (k:Int)∧QuRel s w k v wr) (fun _ i _=>s.size-(intOf i).toNat)
 case atStart=>exact ⟨0,by omega,rfl,⟨rfl,.inr ⟨w.heap.size,1,#[.int .u8 34],rfl,Nat.le_refl _,heap_alloc_new w _,Nat.le_refl _,by decide,rfl,rfl⟩⟩,(Below.refl _ _).alloc (Nat.le_refl _) _⟩
 case round=>
  obtain ⟨k,hk,rfl,ho,hb⟩:=hrel
  have HO:=Lib.hid ho
  clear ho
  have hlen:=quoteTo_len (s:=s) (k:=k) hk
  by_cases hlt:k<s.size
  ·have hlt':(k:Int)<s.size:=by omega
   have P:=Lib.hid (Qy s[k])
   have HS:=Lib.hid (ZE hlt)
   cases hp:Fb s[k] with
   | true=>
    rw [hp] at P
    have hsg:Dp s[k] = [s[k]]:=by unfold Dp;rw [if_pos hp]
    rw [hsg] at HS
    clear hp hsg
    go_wp2_with fail
    refine (P.out _).mono ?_
    rintro e w1 ⟨rfl,rfl⟩
    go_wp2_with (at_builtin;go_must (refine JA rfl (.tmp 19) (.tmp 23) _ rfl w.heap.size 5 i0 _ 1 Tryz.underlying109 hi0 hz0 hz1 hz2 rfl 5 (.int .u8 (s[k].toNat:Int)) rfl u4 (FD s k).length (cellsOf (FD s k)) rfl HO.out rfl (by simp only [maxLen];omega) (by omega) hb.size ?_;intro v1 w1 ho1 hb1))
    go_roundw
    case rel=>exact ⟨k+1,by omega,by go_num,by rw [HS.out,XH,List.length_append,List.length_singleton];exact ho1,hb.trans hb1⟩
    case measure=>simp [intOf];omega
   | false=>
    rw [hp] at P
    have hsg:Dp s[k] = [92,hexOf (s[k].toNat / 16),hexOf (s[k].toNat % 16)]:=by unfold Dp;rw [if_neg (by rw [hp];decide)]
    rw [hsg] at HS
    have hc:=(s[k]).toNat_lt
    have ha:=u8_and15 (x:=(s[k].toNat:Int)) (by omega) (by omega)
    have x1:=fun W=>digit_at (s[k].toNat / 16) (by omega) ((s[k].toNat:Int) / 16) (by omega) W
    have x2:=fun W=>digit_at (s[k].toNat % 16) (by omega) ((s[k].toNat:Int) % 16) (by omega) W
    clear hp hsg
    generalize hexOf (s[k].toNat / 16)=d1 at *
    generalize hexOf (s[k].toNat % 16)=d2 at *
    go_wp2_with fail
    refine (P.out _).mono ?_
    rintro e w1 ⟨rfl,rfl⟩
    go_wp2_with fail
    go_region_held3 (fun w'=>True) (trivial)
     ((refine step_append_lies _ (by rfl) _ _ _ (by rfl) w.heap.size 5 i0 _ 1 1 Tryz.underlying109 hi0 hz0 hz1 hz2 rfl (by omega) u4 (FD s k).length (cellsOf (FD s k)) (by rfl) ((HO.out.alloc _).drew)
           ⟨wr.heap.size,0,none⟩ 3 3 [.int .u8 92,.int .u8 (d1.toNat:Int),.int .u8 (d2.toNat:Int)] (by rfl) (by rfl) (World.news_of_block (cs:=#[.int .u8 92,.int .u8 (d1.toNat:Int),.int .u8 (d2.toNat:Int)]) (t:=5) (fr:=(0,0)) (heap_alloc_new wr _)) (by simp [Value.oneCell'])
           (by omega) (by simp only [maxLen];omega) (by omega) (by simp;have:=hb.size;omega) (wr.heap.size+1) (by simp) ?_;intro gg cap w1 hown1 hgrow hat hlt))
    all_goals
     go_wp2_with fail
     go_roundw
     case rel=>exact ⟨k+1,by omega,by go_num,by rw [HS.out,List.length_append];unfold cellsOf;rw [List.map_append];exact hown1,hb.trans (WH HO.out (((Below.refl _ _).alloc hb.size _).drew) (by simp;have:=hb.size;omega) hgrow)⟩
     case measure=>simp [intOf];omega
  ·have hlt':¬(k:Int)<s.size:=by omega
   obtain rfl:k=s.size:=by omega
   have hcv:∀g cap (w2:World),w2.ownsRow w.heap.size 5 1 (.slice (some ⟨g,0,none⟩) ((FD s s.size).length+1) cap) ((FD s s.size).length+1) (cellsOf (FD s s.size) ++ [.int .u8 34]) →
    (convert 109 9 (.slice (some ⟨g,0,none⟩) ((FD s s.size).length+1) cap)).run Tryz.prog w2=.ok (.string ⟨(JK s.data.toList).toArray⟩) w2:=by
    intro g cap w2 h
    have:=conv_row (l:=JK s.data.toList) (v:=.slice (some ⟨g,0,none⟩) ((FD s s.size).length+1) cap) (w:=w2) (base:=w.heap.size) (by rw [←quoteTo_all,List.length_append];unfold cellsOf;rw [List.map_append];exact h)
    exact this
   go_wp2_with (at_builtin;go_must (refine wpList_append_lies _ rfl (.tmp 39) (.tmp 40) _ rfl w.heap.size 5 i0 _ 1 1 Tryz.underlying109 hi0 hz0 hz1 hz2 rfl (by omega) u4 (FD s s.size).length (cellsOf (FD s s.size)) rfl (HO.out.alloc _) ⟨wr.heap.size,0,none⟩ 1 1 [.int .u8 34] rfl rfl (cell_one_new _ _ _) (by simp [Value.oneCell']) (by omega) (by simp only [maxLen];omega) (by omega) (by simp;have:=hb.size;omega) _ rfl ?_;intro g cap w1 ho1 hg1 _ _;have hcv1:=hcv g cap w1 ho1;clear hcv))
   go_ret2
   exact ⟨rfl,hb.trans (WH HO.out ((Below.refl _ _).alloc hb.size _) (by simp;have:=hb.size;omega) hg1)⟩
theorem quote_long (s:ByteArray)(w:World)(hs:40<s.size):Calls Tryz.prog 135 #[.string s] w fun e w'=>e=.returned (.tuple #[.string ⟨#[]⟩,.int .i64 14])∧Below w.heap.size w w':=by
 have T:=Lib.hid (text_any s)
 have hd:decide (s.size≤40)=false:=by simp;omega
 rw [hd] at T
 clear hd
 go_enter Tryz.func135,Tryz.ntmps135
 go_wp2_with fail
 refine (T.out _).mono ?_
 rintro e w1 ⟨rfl,rfl⟩
 go_wp2_with fail
 go_ret2
 exact ⟨rfl,Below.refl _ _⟩
end Go.Proofs.YtdfbohaohjaloaaGreatDoor
end
section
namespace Go.Proofs.YtdfbohaohjaloaaGreatDoor
set_option maxRecDepth 10000
open Go.RowKit Punnet.Name
def Dq (s:ByteArray)(at_:Int):ByteArray×Nat×Int:=
 if at_<0∨(s.size:Int)<at_ then (⟨#[]⟩,0,2) else
 match DY s.data.toList at_.toNat with
 | none=>(⟨#[]⟩,0,4)
 | some (t,n)=>if 40<t.length then (⟨#[]⟩,0,14) else (⟨t.toArray⟩,n,0)
def Ox (r:ByteArray×Nat×Int):Value:=.tuple #[.string r.1,.int .i64 (r.2.1:Int),.int .i64 r.2.2]
theorem QW {s:ByteArray}{i:Int}(h:i<0∨(s.size:Int)<i):Dq s i=(⟨#[]⟩,0,2):=by unfold Dq;rw [if_pos h]
theorem SV {s:ByteArray}{k:Nat}(h:k≤s.size)(hq:DY s.data.toList k=none):Dq s (k:Int)=(⟨#[]⟩,0,4):=by
 unfold Dq;rw [if_neg (by omega),Int.toNat_natCast,hq]
theorem SX {s:ByteArray}{k n:Nat}{t:List UInt8}(h:k≤s.size)(hq:DY s.data.toList k=some (t,n))(hl:40<t.length):Dq s (k:Int)=(⟨#[]⟩,0,14):=by
 unfold Dq;rw [if_neg (by omega),Int.toNat_natCast,hq];simp only;rw [if_pos hl]
theorem TF {s:ByteArray}{k n:Nat}{t:List UInt8}(h:k≤s.size)(hq:DY s.data.toList k=some (t,n))(hl:¬40<t.length):Dq s (k:Int)=(⟨t.toArray⟩,n,0):=by
 unfold Dq;rw [if_neg (by omega),Int.toNat_natCast,hq];simp only;rw [if_neg hl]
theorem JY {r:ByteArray×Nat×Int}{a:ByteArray}{b:Nat}{c:Int}(h:r=(a,b,c)):Ending.returned (.tuple #[.string a,.int .i64 (b:Int),.int .i64 c])=.returned (Ox r):=by rw [h];rfl
theorem row_slice {w:World}{base n:Nat}{e:TypeId}{v:Value}{xs:List Value}(h:w.ownsRow base e 1 v n xs):∃a cap,v=.slice a n cap:=by
 rcases h.2 with ⟨rfl,rfl⟩ | ⟨g,cap,cur,rfl,_⟩
 ·exact ⟨_,_,rfl⟩
 ·exact ⟨_,_,rfl⟩
theorem scan_any (s:ByteArray)(i:Int)(w:World)(hs:s.size≤16777216)(hi : -9223372036854775808≤i∧i≤9223372036854775807) :
 Calls Tryz.prog 223 #[.string s,.int .i64 i] w fun e w'=>e=.returned (Ox (Dq s i))∧Below w.heap.size w w':=by
 by_cases h0:i<0
 ·have HE:=Lib.hid (QW (s:=s) (.inl h0))
  go_enter Tryz.func223,Tryz.ntmps223
  go_wp2_with fail
  go_ret3
  exact ⟨JY HE.out,Below.refl _ _⟩
 by_cases h1:(s.size:Int)<i
 ·have HE:=Lib.hid (QW (s:=s) (.inr h1))
  go_enter Tryz.func223,Tryz.ntmps223
  go_wp2_with fail
  go_ret3
  exact ⟨JY HE.out,Below.refl _ _⟩
 obtain ⟨k,rfl⟩:∃k:Nat,i=k:=⟨i.toNat,by omega⟩
 have hk:k≤s.size:=by omega
 go_enter Tryz.func223,Tryz.ntmps223
 go_wp2_with fail
 refine (XE s k _ hs).mono ?_
 rintro e w1 (⟨hq,rfl,hb⟩ | ⟨t,n,v,hq,rfl,ho,hb⟩)
 ·have HE:=Lib.hid (SV hk hq)
  clear hq
  go_wp2_with fail
  go_ret3
  exact ⟨JY HE.out,hb⟩
 ·have hn:=(Pn hq).2
  have hn':n≤s.size:=by simpa using hn
  have HO:=Lib.hid (conv_row ho)
  obtain ⟨a,cap,rfl⟩:=row_slice ho
  by_cases hl:40<t.length
  ·have HE:=Lib.hid (SX hk hq hl)
   have hl':(40:Int)<t.length:=by omega
   clear hq ho hn
   go_wp2_with fail
   go_ret3
   exact ⟨JY HE.out,hb⟩
  ·have HE:=Lib.hid (TF hk hq hl)
   have hl':¬(40:Int)<t.length:=by omega
   have hcv:=HO.out
   clear hq ho hn HO
   go_wp2_with fail
   go_ret3
   exact ⟨JY HE.out,hb⟩
theorem refScan_any (s:ByteArray)(i:Int)(w:World)(hs:s.size≤16777216)(hi : -9223372036854775808≤i∧i≤9223372036854775807) :
 Calls Tryz.prog 79 #[.string s,.int .i64 i] w fun e w'=>e=.returned (Ox (Dq s i))∧Below w.heap.size w w':=by
 by_cases h0:i<0
 ·have HE:=Lib.hid (QW (s:=s) (.inl h0))
  go_enter Tryz.func79,Tryz.ntmps79
  go_wp2_with fail
  go_ret3
  exact ⟨JY HE.out,Below.refl _ _⟩
 by_cases h1:(s.size:Int)<i
 ·have HE:=Lib.hid (QW (s:=s) (.inr h1))
  go_enter Tryz.func79,Tryz.ntmps79
  go_wp2_with fail
  go_ret3
  exact ⟨JY HE.out,Below.refl _ _⟩
 obtain ⟨k,rfl⟩:∃k:Nat,i=k:=⟨i.toNat,by omega⟩
 have hk:k≤s.size:=by omega
 go_enter Tryz.func79,Tryz.ntmps79
 go_wp2_with fail
 refine (XV s k _ hs).mono ?_
 rintro e w1 ⟨hb,⟨hq,rfl⟩ | ⟨t,n,hq,rfl⟩⟩
 ·have HE:=Lib.hid (SV hk hq)
  clear hq
  go_wp2_with fail
  go_ret3
  exact ⟨JY HE.out,hb⟩
 ·have hn:=(Pn hq).2
  have hn':n≤s.size:=by simpa using hn
  have hz:(⟨t.toArray⟩:ByteArray).size=t.length:=by simp [ByteArray.size]
  by_cases hl:40<t.length
  ·have HE:=Lib.hid (SX hk hq hl)
   have hl':(40:Int)<(⟨t.toArray⟩:ByteArray).size:=by omega
   generalize (⟨t.toArray⟩:ByteArray)=tb at *
   clear hq hn hz
   go_wp2_with fail
   go_ret3
   exact ⟨JY HE.out,hb⟩
  ·have HE:=Lib.hid (TF hk hq hl)
   have hl':¬(40:Int)<(⟨t.toArray⟩:ByteArray).size:=by omega
   generalize (⟨t.toArray⟩:ByteArray)=tb at *
   clear hq hn hz
   go_wp2_with fail
   go_ret3
   exact ⟨JY HE.out,hb⟩
def DD (s:ByteArray):ByteArray×Int:=
 if (Dq s 0).2.2=0 then (if (Dq s 0).2.1=s.size then ((Dq s 0).1,0) else (⟨#[]⟩,4)) else (⟨#[]⟩,(Dq s 0).2.2)
theorem UE {r:ByteArray×Int}{a:ByteArray}{c:Int}(h:r=(a,c)):Ending.returned (.tuple #[.string a,.int .i64 c])=.returned (.tuple #[.string r.1,.int .i64 r.2]):=by rw [h]
theorem unquote_any (s:ByteArray)(w:World)(hs:s.size≤16777216) :
 Calls Tryz.prog 142 #[.string s] w fun e w'=>e=.returned (.tuple #[.string (DD s).1,.int .i64 (DD s).2])∧Below w.heap.size w w':=by
 have S:=Lib.hid (fun w=>scan_any s 0 w hs (by omega))
 have key:∃t n c,Dq s 0=(t,n,c):=⟨_,_,_,rfl⟩
 obtain ⟨t,n,c,hsc⟩:=key
 rw [hsc] at S
 have hu:DD s=if c=0 then (if n=s.size then (t,0) else (⟨#[]⟩,4)) else (⟨#[]⟩,c):=by unfold DD;rw [hsc]
 by_cases hc:c=0
 ·subst hc
  rw [if_pos rfl] at hu
  by_cases hn:n=s.size
  ·rw [if_pos hn] at hu
   have HU:=Lib.hid hu
   have hn':((n:Int) != (s.size:Int))=false:=bne_eq_false_iff_eq.2 (by omega)
   clear hu hn hsc
   go_enter Tryz.func142,Tryz.ntmps142
   go_wp2_with fail
   refine (S.out _).mono ?_
   rintro e w1 ⟨rfl,hb⟩
   unfold Ox
   go_wp2_with fail
   go_ret2
   exact ⟨UE HU.out,hb⟩
  ·rw [if_neg hn] at hu
   have HU:=Lib.hid hu
   have hn':((n:Int) != (s.size:Int))=true:=bne_iff_ne.2 (by omega)
   clear hu hn hsc
   go_enter Tryz.func142,Tryz.ntmps142
   go_wp2_with fail
   refine (S.out _).mono ?_
   rintro e w1 ⟨rfl,hb⟩
   unfold Ox
   go_wp2_with fail
   go_ret2
   exact ⟨UE HU.out,hb⟩
 ·rw [if_neg hc] at hu
  have HU:=Lib.hid hu
  have hc':(c != 0)=true:=bne_iff_ne.2 hc
  clear hu hc hsc
  go_enter Tryz.func142,Tryz.ntmps142
  go_wp2_with fail
  refine (S.out _).mono ?_
  rintro e w1 ⟨rfl,hb⟩
  unfold Ox
  go_wp2_with fail
  go_ret2
  exact ⟨UE HU.out,hb⟩
end Go.Proofs.YtdfbohaohjaloaaGreatDoor
end
section
namespace Go.Proofs.YtdfbohaohjaloaaGreatDoor
set_option maxRecDepth 10000
open Go.RowKit Punnet.Name
theorem drop_more {l m r:List UInt8}{k:Nat}(h:l.drop k=m++r):l.drop (k+m.length)=r:=by
 rw [←List.drop_drop,h,List.drop_append_of_le_length (Nat.le_refl _),List.drop_length];rfl
theorem bodyAt_inv {l:List UInt8}:∀(N k:Nat) (t:List UInt8) (n:Nat),l.length-k=N→EJ l k=some (t,n)→l.drop k=t.flatMap Dp++34::l.drop n∧n=k+(t.flatMap Dp).length+1:=by
 intro N
 induction N using Nat.strongRecOn with
 | _ N ih=>
  intro k t n hN h
  by_cases hk:k<l.length
  ·by_cases hq:l[k].toNat=34
   ·rw [QB hk hq] at h
    injection h with h;injection h with h1 h2;subst h1;subst h2
    refine ⟨?_,by simp⟩
    rw [List.drop_eq_getElem_cons hk]
    have:l[k] = 34:=by rw [←UInt8.toNat_inj,hq];rfl
    simp [this]
   ·cases hs:sign (l.drop k) with
    | none=>rw [O4 hk hq hs] at h;cases h
    | some p=>
     obtain ⟨c,m⟩:=p
     rw [Qm hk hq hs] at h
     cases hb:EJ l (k+m+1) with
     | none=>rw [hb] at h;cases h
     | some p=>
      obtain ⟨t',n'⟩:=p
      rw [hb] at h
      simp only [Option.map_some] at h
      injection h with h;injection h with h1 h2;subst h1;subst h2
      have hi:=ih (l.length-(k+m+1)) (by omega) (k+m+1) t' n' rfl hb
      obtain ⟨r,hr,hm⟩:=Tc hs
      have hd:=drop_more hr
      rw [show k+(Dp c).length=k+m+1 by omega] at hd
      refine ⟨?_,by rw [List.flatMap_cons,List.length_append];omega⟩
      rw [hr,←hd,hi.1,List.flatMap_cons,List.append_assoc]
  ·rw [QJ hk] at h;cases h
theorem Yk {l:List UInt8}{k n:Nat}{t:List UInt8}(h:DY l k=some (t,n)):l.drop k=JK t++l.drop n∧n=k+(JK t).length:=by
 unfold DY at h
 split at h
 ·rename_i hk
  split at h
  ·rename_i hq
   obtain ⟨h1,h2⟩:=bodyAt_inv _ _ _ _ rfl h
   have:l[k] = 34:=by rw [←UInt8.toNat_inj,hq];rfl
   refine ⟨?_,by unfold JK;rw [List.length_cons,List.length_append,List.length_singleton];omega⟩
   rw [List.drop_eq_getElem_cons hk,h1,this];unfold JK;simp
  ·cases h
 ·cases h
theorem YO (l:List UInt8)(k:Nat)(h:FC l k<l.length):l[FC l k] = 32:=by
 unfold FC at *
 generalize hp:(fun b:UInt8=>decide (b.toNat≠32))=p at *
 have key:∀(m:List UInt8) (h:(m.takeWhile p).length<m.length),p (m[(m.takeWhile p).length])=false:=by
  intro m
  induction m with
  | nil=>intro h;simp at h
  | cons a m ih=>
   intro h
   cases ha:p a with
   | true=>
    rw [List.takeWhile_cons,if_pos ha] at h
    simp only [List.takeWhile_cons,ha,if_true,List.length_cons,List.getElem_cons_succ]
    exact ih (by simpa using h)
   | false=>simp only [List.takeWhile_cons,ha];simpa using ha
 have h1:((l.drop k).takeWhile p).length<(l.drop k).length:=by rw [List.length_drop];omega
 have h2:=key _ h1
 rw [List.getElem_drop] at h2
 have h3:∀c:UInt8,p c=false→c=32:=by
  intro c hc
  rw [←hp] at hc
  simp only [decide_eq_false_iff_not,ne_eq,Decidable.not_not] at hc
  rw [←UInt8.toNat_inj,hc];rfl
 exact h3 _ h2
theorem Aah (l:List UInt8)(k:Nat)(h:BI l k<l.length):l[BI l k] = 32:=by
 have hb:=fun h=>YO l k h
 unfold BI at *
 split at h
 ·rename_i x t e hq
  by_cases hc:e=l.length∨l[e]? = some 32
  ·have e1:(if e=l.length∨l[e]? = some 32 then e else FC l k)=e:=if_pos hc
   simp only [e1] at h ⊢
   rcases hc with hc | hc
   ·omega
   ·rw [List.getElem?_eq_getElem h] at hc;injection hc
  ·have e1:(if e=l.length∨l[e]? = some 32 then e else FC l k)=FC l k:=if_neg hc
   simp only [e1] at h ⊢
   exact hb h
 ·exact hb h
def joinL:List ByteArray→List UInt8
 | []=>[]
 | [a]=>a.data.toList
 | a::b::r=>a.data.toList++32::joinL (b::r)
theorem Xv (s:ByteArray)(k:Nat):∃a r,splitB s k=a::r:=by
 rw [splitB];split
 ·exact ⟨_,_,rfl⟩
 ·exact ⟨_,_,rfl⟩
theorem joinL_cons (a:ByteArray){l:List ByteArray}(h:∃b r,l=b::r):joinL (a::l)=a.data.toList++32::joinL l:=by
 obtain ⟨b,r,rfl⟩:=h;rfl
theorem join_split (s:ByteArray):∀(N k:Nat),s.size-k=N→k≤s.size→joinL (splitB s k)=s.data.toList.drop k:=by
 have hlen:s.data.toList.length=s.size:=by simp
 intro N
 induction N using Nat.strongRecOn with
 | _ N ih=>
  intro k hN hk
  obtain ⟨b1,b2⟩:=TG s.data.toList (k:=k) (by omega)
  have hst:=Aah s.data.toList k
  by_cases h:BI s.data.toList k<s.size
  ·rw [VF hk h,joinL_cons _ (Xv _ _),ih (s.size-(BI s.data.toList k+1)) (by omega) _ rfl (by omega),Lib.extract_data]
   have h1:=List.drop_eq_getElem_cons (l:=s.data.toList) (i:=BI s.data.toList k) (by omega)
   rw [hst (by omega)] at h1
   rw [←h1]
   have h2:=List.take_append_drop (BI s.data.toList k-k) (s.data.toList.drop k)
   rw [List.drop_drop,show k+(BI s.data.toList k-k)=BI s.data.toList k by omega] at h2
   exact h2
  ·rw [Wv h]
   show (s.extract k (BI s.data.toList k)).data.toList=_
   rw [Lib.extract_data,List.take_of_length_le (by rw [List.length_drop];omega)]
end Go.Proofs.YtdfbohaohjaloaaGreatDoor
end
