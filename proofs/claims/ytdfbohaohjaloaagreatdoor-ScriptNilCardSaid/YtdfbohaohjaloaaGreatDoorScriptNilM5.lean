/- Part 5 of what the proof of ScriptNil stands on: ScQ, ScR, ScS, ScU, ScC, ScD, XgV, XgG, VmH, FgW, FwS1. -/
import Derived.Test.YtdfbohaohjaloaaGreatDoorScriptNilM4
set_option linter.unusedVariables false
set_option linter.unusedSimpArgs false
set_option maxHeartbeats 1000000
section
namespace Go.Vm
open Go.Proofs Go.Proofs.YtdfbohaohjaloaaGreatDoor Punnet.Name Punnet.Num
inductive RK where
 | n | t | p | m | i | q
abbrev DASH:ByteArray:=⟨#[45]⟩
noncomputable def okK:RK→ByteArray→Bool
 | .n,a=>decide ((Au a).2=0)
 | .t,a=>(Cj a).isSome
 | .p,a=>(placeOf a).isSome
 | .m,a=>nameB a
 | .i,a=>decide (a=DASH)||nameB a
 | .q,a=>decide ((Di a).2=0)
noncomputable def nxt (k:RK):A8→A8
 | ⟨[],_⟩=>⟨[],true⟩
 | ⟨a::l,b⟩=>⟨l,b || !okK k a⟩
def wrd:A8→ByteArray
 | ⟨[],_⟩=>noB
 | ⟨a::_,_⟩=>a
def C9 (a:ByteArray):ByteArray:=if a=DASH then noB else a
def Sm (r:A8):Prop:=∀a∈r.words,a.size≤1000000 
theorem Sm.nxt {r:A8}(h:Sm r)(k:RK):Sm (nxt k r):=by
 obtain ⟨l,b⟩:=r
 cases l with
 | nil=>intro a ha;cases ha
 | cons x l=>intro a ha;exact h a (List.mem_cons_of_mem _ ha)
theorem Sm.wrd {r:A8}(h:Sm r):(wrd r).size≤1000000:=by
 obtain ⟨l,b⟩:=r
 cases l with
 | nil=>exact Nat.zero_le _
 | cons x l=>exact h x (List.mem_cons_self ..)
theorem word_nil {b:Bool}:EI ⟨[],b⟩=some (noB,⟨[],true⟩):=rfl
theorem CG {a:ByteArray}{l:List ByteArray}{b:Bool}:EI ⟨a::l,b⟩=some (a,⟨l,b⟩):=by
 unfold EI
 rw [if_neg (by simp;omega),show (0:Int)=((0:Nat):Int) from rfl,idx_nat]
 show ((some a).bind fun p=>_)=_
 rw [Option.bind_some,show (1:Int)=((1:Nat):Int) from rfl,subL_on (by simp)]
 rfl
theorem dec_or {b:Bool}{p:Prop} [Decidable p]{c:Bool}(h:c=decide p):decide ((b=true)∨¬p)=(b || !c):=by
 subst h;cases b<;>by_cases hp:p<;>simp [hp]
theorem number_eq {r:A8}(h:Sm r):EN r=some ((Au (wrd r)).1,nxt .n r):=by
 have hw:=h.wrd
 obtain ⟨l,b⟩:=r
 unfold EN
 cases l with
 | nil=>rw [word_nil,Option.bind_some,AL (by decide)];simp [nxt,wrd]
 | cons a l=>have hw:a.size≤1000000:=hw;rw [CG,Option.bind_some];dsimp only;rw [AL hw];simp only [nxt,wrd];rw [dec_or (c:=okK .n a) rfl]
theorem DU {r:A8}(h:Sm r):EL r=some ((Au (wrd r)).1,nxt .n r):=by
 unfold EL;rw [number_eq h];rfl
theorem some4 {α:Type}{x:Option α}:(¬((if x.isSome=true then (0:Int) else 4)=0))↔¬(x.isSome=true):=by cases x<;>simp
theorem tag_eq {r:A8}(h:Sm r):E5 r=some ((Cj (wrd r)).getD AU,nxt .t r):=by
 have hw:=h.wrd
 obtain ⟨l,b⟩:=r
 unfold E5
 cases l with
 | nil=>rw [word_nil,Option.bind_some,AL (by decide)];simp [nxt,wrd]
 | cons a l=>
  have hw:a.size≤1000000:=hw
  rw [CG,Option.bind_some];dsimp only;rw [AL hw]
  simp only [nxt,wrd,some4]
  rw [dec_or (c:=okK .t a) (by show (Cj a).isSome=_;cases (Cj a).isSome<;>rfl)]
theorem place_eq {r:A8}(h:Sm r):EM r=some ((placeOf (wrd r)).getD Ac,nxt .p r):=by
 have hw:=h.wrd
 obtain ⟨l,b⟩:=r
 unfold EM
 cases l with
 | nil=>rw [word_nil,Option.bind_some,AL (by decide)];simp [nxt,wrd]
 | cons a l=>
  have hw:a.size≤1000000:=hw
  rw [CG,Option.bind_some];dsimp only;rw [AL hw]
  simp only [nxt,wrd,some4]
  rw [dec_or (c:=okK .p a) (by show (placeOf a).isSome=_;cases (placeOf a).isSome<;>rfl)]
theorem name_eq {r:A8}:EX r=some (wrd r,nxt .m r):=by
 obtain ⟨l,b⟩:=r
 unfold EX
 cases l with
 | nil=>rw [word_nil,Option.bind_some];simp [nxt,wrd]
 | cons a l=>rw [CG,Option.bind_some];simp only [nxt,wrd];rw [dec_or (c:=okK .m a) (by simp [okK])]
theorem item_eq {r:A8}:E8 r=some (C9 (wrd r),nxt .i r):=by
 obtain ⟨l,b⟩:=r
 unfold E8
 cases l with
 | nil=>rw [word_nil,Option.bind_some,if_neg (by decide)];simp [nxt,wrd,C9]
 | cons a l=>
  rw [CG,Option.bind_some]
  by_cases ha:a=DASH
  ·rw [if_pos ha];simp [nxt,wrd,C9,okK,ha]
  ·rw [if_neg ha,dec_or (c:=okK .i a) (by simp [okK,ha])]
   show some (a,_)=some (C9 a,_)
   rw [C9,if_neg ha];rfl
theorem text_eq {r:A8}(h:Sm r):EZ r=some ((Di (wrd r)).1,nxt .q r):=by
 have hw:=h.wrd
 obtain ⟨l,b⟩:=r
 unfold EZ
 cases l with
 | nil=>rw [word_nil,Option.bind_some,AL (by decide)];simp [nxt,wrd]
 | cons a l=>have hw:a.size≤1000000:=hw;rw [CG,Option.bind_some];dsimp only;rw [AL hw];simp only [nxt,wrd];rw [dec_or (c:=okK .q a) rfl]
noncomputable def okF:List RK→List ByteArray→Bool
 | [],[]=>true
 | k::ks,a::l=>okK k a&&okF ks l
 | _,_=>false
noncomputable def runF (ks:List RK)(r:A8):A8:=ks.foldl (fun r k=>nxt k r) r
def good (r:A8):Bool:=!r.bad&&r.words.isEmpty
theorem runF_good:∀(ks:List RK) (l:List ByteArray) (b:Bool),good (runF ks ⟨l,b⟩)=(!b&&okF ks l)
 | [],[],b=>by simp [runF,good,okF]
 | [],a::l,b=>by simp [runF,good,okF]
 | k::ks,[],b=>by
  show good (runF ks (nxt k ⟨[],b⟩))=_
  rw [nxt,runF_good ks [] true];simp [okF]
 | k::ks,a::l,b=>by
  show good (runF ks (nxt k ⟨a::l,b⟩))=_
  rw [nxt,runF_good ks l _,okF];cases b<;>cases okK k a<;>rfl
theorem bad_iff {r:A8}:((r.bad=true)∨(0<((r.words.length:Nat):Int)))↔good r=false:=by
 obtain ⟨l,b⟩:=r
 cases b<;>cases l<;>simp [good]<;>omega
end Go.Vm
end
section
namespace Go.Vm
open Go.Proofs Go.Proofs.YtdfbohaohjaloaaGreatDoor Punnet.Name Punnet.Num
def kOf (c:UInt8):RK:=if c.toNat=119∨c.toNat=110 then .n else if c.toNat=116 then .t else if c.toNat=112 then .p else if c.toNat=113 then .q else if c.toNat=105 then .i else .m
noncomputable def addK (k:RK)(a:ByteArray)(g:BN):BN:=match k with
 | .n=>{ g with n:=g.n ++ [(Au a).1] }
 | .t=>{ g with t:=g.t ++ [(Cj a).getD AU] }
 | .p=>{ g with p:=g.p ++ [(placeOf a).getD Ac] }
 | .q=>{ g with q:=g.q ++ [(CY a 0).1] }
 | .i=>{ g with s:=g.s ++ [C9 a] }
 | .m=>{ g with s:=g.s ++ [a] }
noncomputable def gotF:List RK→List ByteArray→BN→BN
 | k::ks,a::l,g=>gotF ks l (addK k a g)
 | _,_,g=>g
def few (g:BN)(i:Nat):Prop:=g.n.length≤i∧g.t.length≤i∧g.s.length≤i∧g.p.length≤i∧g.q.length≤i
theorem few_add {g:BN}{i:Nat}(h:few g i)(k:RK)(a:ByteArray):few (addK k a g) (i+1):=by
 obtain ⟨h1,h2,h3,h4,h5⟩:=h
 cases k<;>simp only [addK,few,List.length_append,List.length_singleton]<;>omega
theorem okq_iff {a:ByteArray}:okK .q a=true↔(CY a 0).2.2=0∧(((CY a 0).2.1:Nat))=((a.size:Nat):Int):=by
 unfold okK Di
 rw [decide_eq_true_eq]
 by_cases h1:(CY a 0).2.2=0
 ·rw [if_pos h1]
  by_cases h2:(CY a 0).2.1=a.size
  ·rw [if_pos h2];exact ⟨fun _=>⟨h1,by rw [h2]⟩,fun _=>rfl⟩
  ·rw [if_neg h2]
   refine ⟨fun h=>absurd h (by decide),fun h=>absurd (Int.ofNat_inj.1 h.2) h2⟩
 ·rw [if_neg h1];exact ⟨fun h=>absurd h h1,fun h=>absurd h.1 h1⟩
theorem unq_scan {a:ByteArray}(h:okK .q a=true):(Di a).1=(CY a 0).1:=by
 obtain ⟨h1,h2⟩:=okq_iff.1 h
 unfold Di
 rw [if_pos h1,if_pos (Int.ofNat_inj.1 h2)]
def ksOf (form:ByteArray):List RK:=form.data.toList.map kOf
def endOf (ks:List RK)(ws:List ByteArray)(g:BN):Sum (BN×Bool) (BN×BN×Int)→Prop
 | .inl x=>x.2=false∧okF ks ws=false
 | .inr x=>okF ks ws=true∧x.2.1=gotF ks ws g
theorem appL_one {α:Type}{l:List α}{x:α}{i:Nat}(h:l.length≤i)(hi:i≤1000):BF l [x] = some (l ++ [x]):=appL_ok (by rw [List.length_singleton];omega)
theorem take_step (l:List ByteArray)(form:ByteArray)(hl:l.length=form.size)(hf:form.size≤1000)(hs:∀a∈l,a.size≤1000000):∀(n i:Nat) (v g:BN),i≤form.size→form.size-i<n→few g i →
 ∃x,EE l form n v g (i:Int)=some x∧endOf ((ksOf form).drop i) (l.drop i) g x:=by
 intro n
 induction n with
 | zero=>intro i v g hi hn _;omega
 | succ n ih=>
  intro i v g hi hn hg
  rw [EE]
  by_cases hc:(i:Int)<((form.size:Nat):Int)
  ·rw [if_pos hc]
   have hi2:i<form.size:=by omega
   obtain ⟨c,hcc⟩:∃c,form[i]? = some c:=⟨_,getElem?_pos form i hi2⟩
   obtain ⟨a,haa⟩:∃a,l[i]? = some a:=⟨_,List.getElem?_eq_getElem (by omega)⟩
   have e1:idxS form (i:Int)=some c:=by unfold idxS;rw [if_pos (by omega),Int.toNat_natCast];exact hcc
   have e2:idx l (i:Int)=some a:=idxN haa
   have hsz:=hs a (List.mem_of_getElem? haa)
   have hk:(ksOf form)[i]? = some (kOf c):=by
    unfold ksOf
    rw [List.getElem?_map,←get_data',hcc];rfl
   have d1:(ksOf form).drop i=kOf c::(ksOf form).drop (i+1):=by
    obtain ⟨h1,h2⟩:=List.getElem?_eq_some_iff.1 hk
    rw [List.drop_eq_getElem_cons h1,h2]
   have d2:l.drop i=a::l.drop (i+1):=by
    obtain ⟨h1,h2⟩:=List.getElem?_eq_some_iff.1 haa
    rw [List.drop_eq_getElem_cons h1,h2]
   have ew:w64 ((i:Int)+1)=((i+1:Nat):Int):=by rw [w64_id (by omega) (by omega)];omega
   have no:okK (kOf c) a=false→∃x,(some (Sum.inl (g,false)):Option (Sum (BN×Bool) (BN×BN×Int)))=some x∧endOf ((ksOf form).drop i) (l.drop i) g x:=fun h=>⟨_,rfl,rfl,by rw [d1,d2,okF,h];rfl⟩
   have yes:∀g',okK (kOf c) a=true→g'=addK (kOf c) a g→∃x,EE l form n v g' (w64 ((i:Int)+1))=some x∧endOf ((ksOf form).drop i) (l.drop i) g x:=by
    rintro g' h rfl
    rw [ew]
    obtain ⟨x,h1,h2⟩:=ih (i+1) v (addK (kOf c) a g) (by omega) (by omega) (few_add hg _ _)
    refine ⟨x,h1,?_⟩
    rw [d1,d2]
    cases x with
    | inl x=>exact ⟨h2.1,by rw [okF,h,h2.2];rfl⟩
    | inr x=>exact ⟨by rw [okF,h,h2.1];rfl,h2.2⟩
   obtain ⟨g1,g2,g3,g4,g5⟩:=hg
   rw [e1,Option.bind_some]
   have conv:∀k:Nat,((((c.toNat:Nat):Int)=(k:Int))↔c.toNat=k):=fun k=>Int.ofNat_inj
   have c119:=conv 119;have c110:=conv 110;have c116:=conv 116;have c112:=conv 112;have c113:=conv 113;have c105:=conv 105
   simp only [Int.cast_ofNat_Int] at c119 c110 c116 c112 c113 c105
   by_cases k1:c.toNat=119∨c.toNat=110
   ·have hk:kOf c=.n:=by unfold kOf;rw [if_pos k1]
    rw [if_pos (by rw [c119,c110];exact k1),e2,Option.bind_some,AL hsz]
    by_cases ho:(Au a).2=0
    ·rw [if_neg (fun h=>h ho),appL_one g1 (by omega),Option.bind_some]
     exact yes _ (by rw [hk];exact decide_eq_true ho) (by rw [hk];rfl)
    ·rw [if_pos (by simpa using ho)];exact no (by rw [hk];exact decide_eq_false ho)
   rw [if_neg (by rw [c119,c110];exact k1)]
   by_cases k2:c.toNat=116
   ·have hk:kOf c=.t:=by unfold kOf;rw [if_neg k1,if_pos k2]
    rw [if_pos (c116.2 k2),e2,Option.bind_some,AL hsz]
    by_cases ho:(Cj a).isSome=true
    ·rw [if_neg (fun h=>h ho),appL_one g2 (by omega),Option.bind_some]
     exact yes _ (by rw [hk];exact ho) (by rw [hk];rfl)
    ·rw [if_pos ho];exact no (by rw [hk];exact Bool.eq_false_iff.2 ho)
   rw [if_neg (fun h=>k2 (c116.1 h))]
   by_cases k3:c.toNat=112
   ·have hk:kOf c=.p:=by unfold kOf;rw [if_neg k1,if_neg k2,if_pos k3]
    rw [if_pos (c112.2 k3),e2,Option.bind_some,AL hsz]
    by_cases ho:(placeOf a).isSome=true
    ·rw [if_neg (fun h=>h ho),appL_one g4 (by omega),Option.bind_some]
     exact yes _ (by rw [hk];exact ho) (by rw [hk];rfl)
    ·rw [if_pos ho];exact no (by rw [hk];exact Bool.eq_false_iff.2 ho)
   rw [if_neg (fun h=>k3 (c112.1 h))]
   by_cases k4:c.toNat=113
   ·have hk:kOf c=.q:=by unfold kOf;rw [if_neg k1,if_neg k2,if_neg k3,if_pos k4]
    rw [if_pos (c113.2 k4),e2,Option.bind_some,AL hsz]
    by_cases ho:okK .q a=true
    ·obtain ⟨o1,o2⟩:=okq_iff.1 ho
     rw [if_neg (fun h=>h o1),Option.bind_some,if_neg (fun h=>h o2),appL_one g5 (by omega),Option.bind_some]
     exact yes _ (by rw [hk];exact ho) (by rw [hk];rfl)
    ·by_cases o1:(CY a 0).2.2=0
     ·rw [if_neg (fun h=>h o1),Option.bind_some,if_pos (fun h=>ho (okq_iff.2 ⟨o1,h⟩))];exact no (by rw [hk];exact Bool.eq_false_iff.2 ho)
     ·rw [if_pos o1];exact no (by rw [hk];exact Bool.eq_false_iff.2 ho)
   rw [if_neg (fun h=>k4 (c113.1 h)),e2,Option.bind_some,Option.bind_some]
   by_cases k5:c.toNat=105
   ·have hk:kOf c=.i:=by unfold kOf;rw [if_neg k1,if_neg k2,if_neg k3,if_neg k4,if_pos k5]
    by_cases hd:a=DASH
    ·rw [if_pos ⟨c105.2 k5,hd⟩,appL_one g3 (by omega),Option.bind_some]
     exact yes _ (by rw [hk];simp [okK,hd]) (by rw [hk,addK,C9,if_pos hd])
    ·rw [if_neg (fun h=>hd h.2)]
     by_cases ho:nameB a=true
     ·rw [if_neg (fun h=>h ho),appL_one g3 (by omega),Option.bind_some]
      exact yes _ (by rw [hk];simp [okK,ho]) (by rw [hk,addK,C9,if_neg hd])
     ·rw [if_pos ho];exact no (by rw [hk];simp [okK,hd,ho])
   ·have hk:kOf c=.m:=by unfold kOf;rw [if_neg k1,if_neg k2,if_neg k3,if_neg k4,if_neg k5]
    rw [if_neg (fun h=>k5 (c105.1 h.1))]
    by_cases ho:nameB a=true
    ·rw [if_neg (fun h=>h ho),appL_one g3 (by omega),Option.bind_some]
     exact yes _ (by rw [hk];exact ho) (by rw [hk];rfl)
    ·rw [if_pos ho];exact no (by rw [hk];exact Bool.eq_false_iff.2 ho)
  ·rw [if_neg hc]
   obtain rfl:i=form.size:=by omega
   have z1:(ksOf form).drop form.size= []:=List.drop_eq_nil_of_le (by unfold ksOf;rw [List.length_map];exact Nat.le_of_eq (ba_len form))
   have z2:l.drop form.size= []:=List.drop_eq_nil_of_le (by omega)
   refine ⟨_,rfl,?_,?_⟩
   ·rw [z1,z2];rfl
   ·rw [z1,z2];rfl
abbrev noGot:BN:=⟨[],[],[],[],[]⟩
theorem okF_len:∀{ks:List RK} {l:List ByteArray},okF ks l=true→l.length=ks.length
 | [],[],_=>rfl
 | [],_::_,h=>by cases h
 | _::_,[],h=>by cases h
 | k::ks,a::l,h=>by rw [okF,Bool.and_eq_true] at h;rw [List.length_cons,List.length_cons,okF_len h.2]
theorem Dv (l:List ByteArray)(form:ByteArray)(hf:form.size≤1000)(hs:∀a∈l,a.size≤1000000):∃g,ref34_take l form=some (g,okF (ksOf form) l)∧(okF (ksOf form) l=true→g=gotF (ksOf form) l noGot):=by
 unfold ref34_take
 by_cases hl:l.length=form.size
 ·rw [if_neg (by omega)]
  obtain ⟨x,h1,h2⟩:=take_step l form hl hf hs 1000000 0 noGot noGot (by omega) (by omega) ⟨by simp,by simp,by simp,by simp,by simp⟩
  rw [show ((0:Nat):Int)=0 from rfl] at h1
  rw [h1,Option.bind_some]
  rw [List.drop_zero,List.drop_zero] at h2
  cases x with
  | inl x=>obtain ⟨g,b⟩:=x;obtain ⟨q1,q2⟩:=h2;exact ⟨g,by rw [q2,show b=false from q1],fun h=>by rw [q2] at h;cases h⟩
  | inr x=>obtain ⟨v,g,j⟩:=x;obtain ⟨q1,q2⟩:=h2;exact ⟨g,by rw [q1],fun _=>q2⟩
 ·rw [if_pos (by omega)]
  have hno:okF (ksOf form) l=false:=by
   refine Bool.eq_false_iff.2 fun h=>hl ?_
   rw [okF_len h];unfold ksOf;rw [List.length_map];exact ba_len form
  exact ⟨noGot,by rw [hno],fun h=>by rw [hno] at h;cases h⟩
end Go.Vm
end
section
namespace Go.Vm
open Go.Proofs Go.Proofs.YtdfbohaohjaloaaGreatDoor Punnet.Name Punnet.Num
set_option maxRecDepth 10000
theorem Bz {s:ByteArray}(h:okK .n s=true):printB (Au s).1=s∧inI64 (Au s).1:=by
 obtain ⟨h1,h2,h3⟩:=read_print (of_decide_eq_true h)
 exact ⟨ba_ext (by rw [printB_data];exact h1),⟨h2,by show (BM s.data.toList).1 < _;omega⟩⟩
theorem tag_back9 {s:ByteArray}(h:okK .t s=true):tagIn ((Cj s).getD AU)∧tagT ((Cj s).getD AU)=s:=by
 have h:(Cj s).isSome=true:=h
 cases hs:Cj s with
 | none=>rw [hs] at h;cases h
 | some t=>exact tagOf_inv hs
theorem EJ {s:ByteArray}(h:okK .p s=true):(if BD ((placeOf s).getD Ac)=true then BI ((placeOf s).getD Ac) else ⟨#[63]⟩)=s:=by
 have h:(placeOf s).isSome=true:=h
 cases hs:placeOf s with
 | none=>rw [hs] at h;cases h
 | some t=>
  obtain ⟨h1,h2⟩:=placeOf_inv hs
  rw [Option.getD_some,if_pos h1,h2]
theorem quote_back9 {s:ByteArray}(h:okK .q s=true):script_quote (Di s).1=s:=by
 rw [unq_scan h]
 obtain ⟨h1,h2⟩:=okq_iff.1 h
 have hq:(quotedR s).2=true:=by
  unfold quotedR
  simp only [Bool.and_eq_true,decide_eq_true_eq]
  exact ⟨h1,h2⟩
 obtain ⟨h3,h4⟩:=quotedR_text hq
 unfold script_quote quoteR
 have h4:(CY s 0).1.size≤40:=h4
 rw [if_pos h4,if_neg (by simp)]
 exact h3
theorem item_back9 {s:ByteArray}(h:okK .i s=true):script_item (C9 s)=s:=by
 unfold script_item C9
 by_cases hd:s=DASH
 ·rw [if_pos hd,if_pos rfl,hd]
 ·rw [if_neg hd,if_neg]
  intro e
  have h:(decide (s=DASH)||nameB s)=true:=h
  rw [decide_eq_false hd,Bool.false_or] at h
  exact nameB_ne h (by rw [e])
theorem find_eq {l:List Bd}{v:ByteArray}(h:l.length≤1000000000):BQ l v=((ref34_find_l1 v l 0).bind fun m_=>match m_ with | .inl rl1=>some rl1 | .inr _=>some (-1)):=by
 unfold BQ;rw [AL h];rfl
theorem Dp {t:Vec13D}{k:Int}{v:ByteArray}(h1:¬(k<0∨13≤k))(h2:idx [t.e0,t.e1,t.e2,t.e3,t.e4,t.e5,t.e6,t.e7,t.e8,t.e9,t.e10,t.e11,t.e12] k=some v):CQ t k=some v:=by
 unfold CQ;rw [if_neg h1,h2];rfl
theorem Df {α:Type}{a:α}{l:List α}:idx (a::l) 0=some a:=rfl
theorem Dl {a:ByteArray}{l:List ByteArray}:subL (a::l) 1 (((a::l).length:Nat):Int)=some l:=by
 rw [show (1:Int)=((1:Nat):Int) from rfl,subL_on (by simp)];rfl
abbrev W_add:ByteArray:=⟨#[97,100,100]⟩
abbrev W_remove:ByteArray:=⟨#[114,101,109,111,118,101]⟩
abbrev W_adjust:ByteArray:=⟨#[97,100,106,117,115,116]⟩
abbrev W_set:ByteArray:=⟨#[115,101,116]⟩
abbrev W_put:ByteArray:=⟨#[112,117,116]⟩
abbrev W_take:ByteArray:=⟨#[116,97,107,101]⟩
abbrev W_clear:ByteArray:=⟨#[99,108,101,97,114]⟩
abbrev W_publish:ByteArray:=⟨#[112,117,98,108,105,115,104]⟩
abbrev W_switch:ByteArray:=⟨#[115,119,105,116,99,104]⟩
abbrev W_view:ByteArray:=⟨#[118,105,101,119]⟩
abbrev W_at:ByteArray:=⟨#[97,116]⟩
abbrev W_project:ByteArray:=⟨#[112,114,111,106,101,99,116]⟩
abbrev W_hello:ByteArray:=⟨#[104,101,108,108,111]⟩
abbrev Ez:ByteArray:=⟨#[100,101,108,105,118,101,114]⟩
abbrev W_lose:ByteArray:=⟨#[108,111,115,101]⟩
abbrev W_double:ByteArray:=⟨#[100,111,117,98,108,101]⟩
abbrev W_cut:ByteArray:=⟨#[99,117,116]⟩
abbrev W_fuse:ByteArray:=⟨#[102,117,115,101]⟩
abbrev W_crash:ByteArray:=⟨#[99,114,97,115,104]⟩
abbrev W_fold:ByteArray:=⟨#[102,111,108,100]⟩
abbrev W_meet:ByteArray:=⟨#[109,101,101,116]⟩
abbrev W_rename:ByteArray:=⟨#[114,101,110,97,109,101]⟩
abbrev W_hoist:ByteArray:=⟨#[104,111,105,115,116]⟩
abbrev W_plunge:ByteArray:=⟨#[112,108,117,110,103,101]⟩
abbrev W_split:ByteArray:=⟨#[115,112,108,105,116]⟩
abbrev W_wrap:ByteArray:=⟨#[119,114,97,112]⟩
abbrev W_counter:ByteArray:=⟨#[99,111,117,110,116,101,114]⟩
abbrev W_text:ByteArray:=⟨#[116,101,120,116]⟩
abbrev W_list:ByteArray:=⟨#[108,105,115,116]⟩
theorem kLenses_rename:Bv D6 W_rename=some 1:=by kernel_rfl
theorem kLenses_hoist:Bv D6 W_hoist=some 4:=by kernel_rfl
theorem kLenses_plunge:Bv D6 W_plunge=some 5:=by kernel_rfl
theorem kLenses_split:Bv D6 W_split=some 6:=by kernel_rfl
theorem kLenses_wrap:Bv D6 W_wrap=some 7:=by kernel_rfl
theorem kLenses_counter:Bv D6 W_counter=some 0:=by kernel_rfl
theorem kAdded_counter:Bv vAdded W_counter=some 1:=by kernel_rfl
theorem kLenses_text:Bv D6 W_text=some 0:=by kernel_rfl
theorem kAdded_text:Bv vAdded W_text=some 2:=by kernel_rfl
theorem kLenses_list:Bv D6 W_list=some 0:=by kernel_rfl
theorem kAdded_list:Bv vAdded W_list=some 4:=by kernel_rfl
theorem kDeeds_add:Bv Ci W_add=some 1:=by kernel_rfl
theorem kDeeds_remove:Bv Ci W_remove=some 2:=by kernel_rfl
theorem kDeeds_adjust:Bv Ci W_adjust=some 3:=by kernel_rfl
theorem kDeeds_set:Bv Ci W_set=some 4:=by kernel_rfl
theorem kDeeds_put:Bv Ci W_put=some 5:=by kernel_rfl
theorem kDeeds_take:Bv Ci W_take=some 6:=by kernel_rfl
theorem kDeeds_clear:Bv Ci W_clear=some 7:=by kernel_rfl
theorem kDeeds_publish:Bv Ci W_publish=some 8:=by kernel_rfl
theorem kDeeds_switch:Bv Ci W_switch=some 9:=by kernel_rfl
theorem kDeeds_view:Bv Ci W_view=some 10:=by kernel_rfl
theorem kDeeds_at:Bv Ci W_at=some 11:=by kernel_rfl
theorem kDeeds_project:Bv Ci W_project=some 12:=by kernel_rfl
theorem kMoves_hello:Bv DC W_hello=some 2:=by kernel_rfl
theorem kDeeds_hello:Bv Ci W_hello=some 0:=by kernel_rfl
theorem kMoves_deliver:Bv DC Ez=some 3:=by kernel_rfl
theorem kDeeds_deliver:Bv Ci Ez=some 0:=by kernel_rfl
theorem kMoves_lose:Bv DC W_lose=some 4:=by kernel_rfl
theorem kDeeds_lose:Bv Ci W_lose=some 0:=by kernel_rfl
theorem kMoves_double:Bv DC W_double=some 5:=by kernel_rfl
theorem kDeeds_double:Bv Ci W_double=some 0:=by kernel_rfl
theorem kMoves_cut:Bv DC W_cut=some 6:=by kernel_rfl
theorem kDeeds_cut:Bv Ci W_cut=some 0:=by kernel_rfl
theorem kMoves_fuse:Bv DC W_fuse=some 7:=by kernel_rfl
theorem kDeeds_fuse:Bv Ci W_fuse=some 0:=by kernel_rfl
theorem kMoves_crash:Bv DC W_crash=some 8:=by kernel_rfl
theorem kDeeds_crash:Bv Ci W_crash=some 0:=by kernel_rfl
theorem kMoves_fold:Bv DC W_fold=some 9:=by kernel_rfl
theorem kDeeds_fold:Bv Ci W_fold=some 0:=by kernel_rfl
theorem kMoves_meet:Bv DC W_meet=some 10:=by kernel_rfl
theorem kDeeds_meet:Bv Ci W_meet=some 0:=by kernel_rfl
theorem fdeeds_add:BQ Cm W_add=some 1:=by rw [find_eq (by decide)];kernel_rfl
theorem fdeeds_remove:BQ Cm W_remove=some 2:=by rw [find_eq (by decide)];kernel_rfl
theorem fdeeds_adjust:BQ Cm W_adjust=some 3:=by rw [find_eq (by decide)];kernel_rfl
theorem fdeeds_set:BQ Cm W_set=some 4:=by rw [find_eq (by decide)];kernel_rfl
theorem fdeeds_put:BQ Cm W_put=some 5:=by rw [find_eq (by decide)];kernel_rfl
theorem fdeeds_take:BQ Cm W_take=some 6:=by rw [find_eq (by decide)];kernel_rfl
theorem fdeeds_clear:BQ Cm W_clear=some 7:=by rw [find_eq (by decide)];kernel_rfl
theorem fdeeds_publish:BQ Cm W_publish=some 8:=by rw [find_eq (by decide)];kernel_rfl
theorem fdeeds_switch:BQ Cm W_switch=some 9:=by rw [find_eq (by decide)];kernel_rfl
theorem fdeeds_view:BQ Cm W_view=some 10:=by rw [find_eq (by decide)];kernel_rfl
theorem fdeeds_at:BQ Cm W_at=some 11:=by rw [find_eq (by decide)];kernel_rfl
theorem fdeeds_project:BQ Cm W_project=some 12:=by rw [find_eq (by decide)];kernel_rfl
theorem fmoves_hello:BQ DF W_hello=some 2:=by rw [find_eq (by decide)];kernel_rfl
theorem fmoves_deliver:BQ DF Ez=some 3:=by rw [find_eq (by decide)];kernel_rfl
theorem fmoves_lose:BQ DF W_lose=some 4:=by rw [find_eq (by decide)];kernel_rfl
theorem fmoves_double:BQ DF W_double=some 5:=by rw [find_eq (by decide)];kernel_rfl
theorem fmoves_cut:BQ DF W_cut=some 6:=by rw [find_eq (by decide)];kernel_rfl
theorem fmoves_fuse:BQ DF W_fuse=some 7:=by rw [find_eq (by decide)];kernel_rfl
theorem fmoves_crash:BQ DF W_crash=some 8:=by rw [find_eq (by decide)];kernel_rfl
theorem fmoves_fold:BQ DF W_fold=some 9:=by rw [find_eq (by decide)];kernel_rfl
theorem fmoves_meet:BQ DF W_meet=some 10:=by rw [find_eq (by decide)];kernel_rfl
theorem flenses_rename:BQ DY W_rename=some 1:=by rw [find_eq (by decide)];kernel_rfl
theorem flenses_hoist:BQ DY W_hoist=some 4:=by rw [find_eq (by decide)];kernel_rfl
theorem flenses_plunge:BQ DY W_plunge=some 5:=by rw [find_eq (by decide)];kernel_rfl
theorem flenses_split:BQ DY W_split=some 6:=by rw [find_eq (by decide)];kernel_rfl
theorem flenses_wrap:BQ DY W_wrap=some 7:=by rw [find_eq (by decide)];kernel_rfl
theorem flenses_counter:BQ DY W_counter=some 11:=by rw [find_eq (by decide)];kernel_rfl
theorem flenses_text:BQ DY W_text=some 12:=by rw [find_eq (by decide)];kernel_rfl
theorem flenses_list:BQ DY W_list=some 14:=by rw [find_eq (by decide)];kernel_rfl
theorem fdeeds_hello:BQ Cm W_hello=some (-1):=by rw [find_eq (by decide)];kernel_rfl
theorem fdeeds_deliver:BQ Cm Ez=some (-1):=by rw [find_eq (by decide)];kernel_rfl
theorem fdeeds_lose:BQ Cm W_lose=some (-1):=by rw [find_eq (by decide)];kernel_rfl
theorem fdeeds_double:BQ Cm W_double=some (-1):=by rw [find_eq (by decide)];kernel_rfl
theorem fdeeds_cut:BQ Cm W_cut=some (-1):=by rw [find_eq (by decide)];kernel_rfl
theorem fdeeds_fuse:BQ Cm W_fuse=some (-1):=by rw [find_eq (by decide)];kernel_rfl
theorem fdeeds_crash:BQ Cm W_crash=some (-1):=by rw [find_eq (by decide)];kernel_rfl
theorem fdeeds_fold:BQ Cm W_fold=some (-1):=by rw [find_eq (by decide)];kernel_rfl
theorem fdeeds_meet:BQ Cm W_meet=some (-1):=by rw [find_eq (by decide)];kernel_rfl
theorem vDeeds_add:CQ Ci 1=some W_add:=Dp (by decide) rfl
theorem vDeeds_remove:CQ Ci 2=some W_remove:=Dp (by decide) rfl
theorem vDeeds_adjust:CQ Ci 3=some W_adjust:=Dp (by decide) rfl
theorem vDeeds_set:CQ Ci 4=some W_set:=Dp (by decide) rfl
theorem vDeeds_put:CQ Ci 5=some W_put:=Dp (by decide) rfl
theorem vDeeds_take:CQ Ci 6=some W_take:=Dp (by decide) rfl
theorem vDeeds_clear:CQ Ci 7=some W_clear:=Dp (by decide) rfl
theorem vDeeds_publish:CQ Ci 8=some W_publish:=Dp (by decide) rfl
theorem vDeeds_switch:CQ Ci 9=some W_switch:=Dp (by decide) rfl
theorem vDeeds_view:CQ Ci 10=some W_view:=Dp (by decide) rfl
theorem vDeeds_at:CQ Ci 11=some W_at:=Dp (by decide) rfl
theorem vDeeds_project:CQ Ci 12=some W_project:=Dp (by decide) rfl
theorem vMoves_hello:CQ DC 2=some W_hello:=Dp (by decide) rfl
theorem vMoves_deliver:CQ DC 3=some Ez:=Dp (by decide) rfl
theorem vMoves_lose:CQ DC 4=some W_lose:=Dp (by decide) rfl
theorem vMoves_double:CQ DC 5=some W_double:=Dp (by decide) rfl
theorem vMoves_cut:CQ DC 6=some W_cut:=Dp (by decide) rfl
theorem vMoves_fuse:CQ DC 7=some W_fuse:=Dp (by decide) rfl
theorem vMoves_crash:CQ DC 8=some W_crash:=Dp (by decide) rfl
theorem vMoves_fold:CQ DC 9=some W_fold:=Dp (by decide) rfl
theorem vMoves_meet:CQ DC 10=some W_meet:=Dp (by decide) rfl
theorem vLenses_rename:CQ D6 1=some W_rename:=Dp (by decide) rfl
theorem vLenses_hoist:CQ D6 4=some W_hoist:=Dp (by decide) rfl
theorem vLenses_plunge:CQ D6 5=some W_plunge:=Dp (by decide) rfl
theorem vLenses_split:CQ D6 6=some W_split:=Dp (by decide) rfl
theorem vLenses_wrap:CQ D6 7=some W_wrap:=Dp (by decide) rfl
theorem vAdded_counter:CQ vAdded 1=some W_counter:=Dp (by decide) rfl
theorem vAdded_text:CQ vAdded 2=some W_text:=Dp (by decide) rfl
theorem vAdded_list:CQ vAdded 4=some W_list:=Dp (by decide) rfl
theorem vLenses_two:CQ D6 2=some noB:=Dp (by decide) rfl
theorem kind_step {t:Vec13D}{w:ByteArray}{n:Nat}{i:Int}{p:ByteArray}(hi:i<13)(h:idx [t.e0,t.e1,t.e2,t.e3,t.e4,t.e5,t.e6,t.e7,t.e8,t.e9,t.e10,t.e11,t.e12] i=some p)(hn:¬(p=w∧¬p=noB)):CO t w (n+1) i=CO t w n (w64 (i+1)):=by
 rw [CO,if_pos hi,h,Option.bind_some,if_neg hn]
theorem kind_none {t:Vec13D}{w:ByteArray}(h:∀p∈[t.e0,t.e1,t.e2,t.e3,t.e4,t.e5,t.e6,t.e7,t.e8,t.e9,t.e10,t.e11,t.e12],¬(p=w∧¬p=noB)):CO t w 1000000 0=some (.inr 13):=by
 rw [show CO t w 1000000 0=CO t w 999999 (w64 (0+1)) from kind_step (by decide) rfl (h _ (by simp)),show w64 (0+1)=1 from by decide]
 rw [show CO t w 999999 1=CO t w 999998 (w64 (1+1)) from kind_step (by decide) rfl (h _ (by simp)),show w64 (1+1)=2 from by decide]
 rw [show CO t w 999998 2=CO t w 999997 (w64 (2+1)) from kind_step (by decide) rfl (h _ (by simp)),show w64 (2+1)=3 from by decide]
 rw [show CO t w 999997 3=CO t w 999996 (w64 (3+1)) from kind_step (by decide) rfl (h _ (by simp)),show w64 (3+1)=4 from by decide]
 rw [show CO t w 999996 4=CO t w 999995 (w64 (4+1)) from kind_step (by decide) rfl (h _ (by simp)),show w64 (4+1)=5 from by decide]
 rw [show CO t w 999995 5=CO t w 999994 (w64 (5+1)) from kind_step (by decide) rfl (h _ (by simp)),show w64 (5+1)=6 from by decide]
 rw [show CO t w 999994 6=CO t w 999993 (w64 (6+1)) from kind_step (by decide) rfl (h _ (by simp)),show w64 (6+1)=7 from by decide]
 rw [show CO t w 999993 7=CO t w 999992 (w64 (7+1)) from kind_step (by decide) rfl (h _ (by simp)),show w64 (7+1)=8 from by decide]
 rw [show CO t w 999992 8=CO t w 999991 (w64 (8+1)) from kind_step (by decide) rfl (h _ (by simp)),show w64 (8+1)=9 from by decide]
 rw [show CO t w 999991 9=CO t w 999990 (w64 (9+1)) from kind_step (by decide) rfl (h _ (by simp)),show w64 (9+1)=10 from by decide]
 rw [show CO t w 999990 10=CO t w 999989 (w64 (10+1)) from kind_step (by decide) rfl (h _ (by simp)),show w64 (10+1)=11 from by decide]
 rw [show CO t w 999989 11=CO t w 999988 (w64 (11+1)) from kind_step (by decide) rfl (h _ (by simp)),show w64 (11+1)=12 from by decide]
 rw [show CO t w 999988 12=CO t w 999987 (w64 (12+1)) from kind_step (by decide) rfl (h _ (by simp)),show w64 (12+1)=13 from by decide]
 rw [show CO t w 999987 13=some (.inr 13) from by rw [CO,if_neg (by decide)]]
theorem nDeeds {w:ByteArray}(h_add:¬w=W_add)(h_remove:¬w=W_remove)(h_adjust:¬w=W_adjust)(h_set:¬w=W_set)(h_put:¬w=W_put)(h_take:¬w=W_take)(h_clear:¬w=W_clear)(h_publish:¬w=W_publish)(h_switch:¬w=W_switch)(h_view:¬w=W_view)(h_at:¬w=W_at)(h_project:¬w=W_project):Bv Ci w=some 0:=by
 unfold Bv
 rw [kind_none (t:=Ci) (w:=w) fun p hp hq=>?_]
 ·rfl
 ·obtain ⟨rfl,h0⟩:=hq
  simp only [Ci,List.mem_cons,List.not_mem_nil,or_false] at hp
  rcases hp with h | h | h | h | h | h | h | h | h | h | h | h | h<;>first | exact h0 h | (first | exact h_add h | exact h_remove h | exact h_adjust h | exact h_set h | exact h_put h | exact h_take h | exact h_clear h | exact h_publish h | exact h_switch h | exact h_view h | exact h_at h | exact h_project h)
theorem nMoves {w:ByteArray}(h_hello:¬w=W_hello)(h_deliver:¬w=Ez)(h_lose:¬w=W_lose)(h_double:¬w=W_double)(h_cut:¬w=W_cut)(h_fuse:¬w=W_fuse)(h_crash:¬w=W_crash)(h_fold:¬w=W_fold)(h_meet:¬w=W_meet):Bv DC w=some 0:=by
 unfold Bv
 rw [kind_none (t:=DC) (w:=w) fun p hp hq=>?_]
 ·rfl
 ·obtain ⟨rfl,h0⟩:=hq
  simp only [DC,List.mem_cons,List.not_mem_nil,or_false] at hp
  rcases hp with h | h | h | h | h | h | h | h | h | h | h | h | h<;>first | exact h0 h | (first | exact h_hello h | exact h_deliver h | exact h_lose h | exact h_double h | exact h_cut h | exact h_fuse h | exact h_crash h | exact h_fold h | exact h_meet h)
theorem nLenses {w:ByteArray}(h_rename:¬w=W_rename)(h_hoist:¬w=W_hoist)(h_plunge:¬w=W_plunge)(h_split:¬w=W_split)(h_wrap:¬w=W_wrap):Bv D6 w=some 0:=by
 unfold Bv
 rw [kind_none (t:=D6) (w:=w) fun p hp hq=>?_]
 ·rfl
 ·obtain ⟨rfl,h0⟩:=hq
  simp only [D6,List.mem_cons,List.not_mem_nil,or_false] at hp
  rcases hp with h | h | h | h | h | h | h | h | h | h | h | h | h<;>first | exact h0 h | (first | exact h_rename h | exact h_hoist h | exact h_plunge h | exact h_split h | exact h_wrap h)
theorem nAdded {w:ByteArray}(h_counter:¬w=W_counter)(h_text:¬w=W_text)(h_list:¬w=W_list):Bv vAdded w=some 0:=by
 unfold Bv
 rw [kind_none (t:=vAdded) (w:=w) fun p hp hq=>?_]
 ·rfl
 ·obtain ⟨rfl,h0⟩:=hq
  simp only [vAdded,List.mem_cons,List.not_mem_nil,or_false] at hp
  rcases hp with h | h | h | h | h | h | h | h | h | h | h | h | h<;>first | exact h0 h | (first | exact h_counter h | exact h_text h | exact h_list h)
theorem findF_none {v:ByteArray}:∀{l:List Bd} {k:Nat},(∀f∈l,¬(f.verb=v∧¬v=noB))→ref34_find_l1 v l k=some (.inr ())
 | [],_,_=>rfl
 | f::l,k,h=>by rw [ref34_find_l1,if_neg (h f (List.mem_cons_self ..)),findF_none fun g hg=>h g (List.mem_cons_of_mem _ hg)]
theorem mdeeds {w:ByteArray}(h_add:¬w=W_add)(h_remove:¬w=W_remove)(h_adjust:¬w=W_adjust)(h_set:¬w=W_set)(h_put:¬w=W_put)(h_take:¬w=W_take)(h_clear:¬w=W_clear)(h_publish:¬w=W_publish)(h_switch:¬w=W_switch)(h_view:¬w=W_view)(h_at:¬w=W_at)(h_project:¬w=W_project):BQ Cm w=some (-1):=by
 rw [find_eq (by decide),findF_none fun p hp hq=>?_]
 ·rfl
 ·obtain ⟨hq,h0⟩:=hq
  simp only [Cm,List.mem_cons,List.not_mem_nil,or_false] at hp
  rcases hp with h | h | h | h | h | h | h | h | h | h | h | h | h<;>subst h<;>first | exact h0 hq.symm | (first | exact h_add hq.symm | exact h_remove hq.symm | exact h_adjust hq.symm | exact h_set hq.symm | exact h_put hq.symm | exact h_take hq.symm | exact h_clear hq.symm | exact h_publish hq.symm | exact h_switch hq.symm | exact h_view hq.symm | exact h_at hq.symm | exact h_project hq.symm)
theorem mmoves {w:ByteArray}(h_hello:¬w=W_hello)(h_deliver:¬w=Ez)(h_lose:¬w=W_lose)(h_double:¬w=W_double)(h_cut:¬w=W_cut)(h_fuse:¬w=W_fuse)(h_crash:¬w=W_crash)(h_fold:¬w=W_fold)(h_meet:¬w=W_meet):BQ DF w=some (-1):=by
 rw [find_eq (by decide),findF_none fun p hp hq=>?_]
 ·rfl
 ·obtain ⟨hq,h0⟩:=hq
  simp only [DF,List.mem_cons,List.not_mem_nil,or_false] at hp
  rcases hp with h | h | h | h | h | h | h | h | h | h | h<;>subst h<;>first | exact h0 hq.symm | (first | exact h_hello hq.symm | exact h_deliver hq.symm | exact h_lose hq.symm | exact h_double hq.symm | exact h_cut hq.symm | exact h_fuse hq.symm | exact h_crash hq.symm | exact h_fold hq.symm | exact h_meet hq.symm)
theorem mlenses {w:ByteArray}(h_rename:¬w=W_rename)(h_hoist:¬w=W_hoist)(h_plunge:¬w=W_plunge)(h_split:¬w=W_split)(h_wrap:¬w=W_wrap)(h_counter:¬w=W_counter)(h_text:¬w=W_text)(h_list:¬w=W_list):BQ DY w=some (-1):=by
 rw [find_eq (by decide),findF_none fun p hp hq=>?_]
 ·rfl
 ·obtain ⟨hq,h0⟩:=hq
  simp only [DY,List.mem_cons,List.not_mem_nil,or_false] at hp
  rcases hp with h | h | h | h | h | h | h | h | h | h | h | h | h | h | h<;>subst h<;>first | exact h0 hq.symm | (first | exact h_rename hq.symm | exact h_hoist hq.symm | exact h_plunge hq.symm | exact h_split hq.symm | exact h_wrap hq.symm | exact h_counter hq.symm | exact h_text hq.symm | exact h_list hq.symm)
abbrev BU:AP:=⟨0,Ac,noB,noB,0,(⟨Ac,0,noB,[],0⟩:Az),[],[]⟩
def LensBoth (l:List ByteArray)(b:Bool):Prop:=∃(x:AP) (r:A8) (z:AP) (ok:Bool),D7 ⟨l,b⟩=some (x,r)∧good r=(!b&&ok)∧D5 l=some (z,ok)∧(ok=true→x=z∧Em x=some l∧x.forth= []∧x.back= []∧x.field.cases= [])
theorem lp_rename {l:List ByteArray}{b:Bool}(h:Sm ⟨l,b⟩):D7 ⟨W_rename::l,b⟩=some ((⟨1,((placeOf (wrd ⟨l,b⟩)).getD Ac),(wrd (nxt .p ⟨l,b⟩)),noB,0,(⟨Ac,0,noB,[],0⟩:Az),[],[]⟩:AP),runF [.p,.m] ⟨l,b⟩):=by
 unfold D7
 rw [CG,Option.bind_some]
 dsimp only
 rw [kLenses_rename,Option.bind_some]
 rw [if_pos (by decide)]
 rw [place_eq h,Option.bind_some]
 dsimp only
 rw [name_eq,Option.bind_some]
 dsimp only
 rfl
theorem lr_rename {l:List ByteArray}(hs:∀a∈l,a.size≤1000000):∃z,D5 (W_rename::l)=some (z,okF [.p,.m] l)∧(okF [.p,.m] l=true→∀bb,z=(⟨1,((placeOf (wrd ⟨l,bb⟩)).getD Ac),(wrd (nxt .p ⟨l,bb⟩)),noB,0,(⟨Ac,0,noB,[],0⟩:Az),[],[]⟩:AP)):=by
 obtain ⟨g,h1,h2⟩:=Dv l (⟨#[112,109]⟩:ByteArray) (by decide) hs
 rw [show ksOf (⟨#[112,109]⟩:ByteArray)= [.p,.m] from by kernel_rfl] at h1 h2
 unfold D5
 rw [if_neg (by simp only [List.length_cons];omega),Df,Option.bind_some,flenses_rename,Option.bind_some,if_neg (by decide),Dl,Option.bind_some]
 rw [show idx DY 1=some (⟨W_rename,(⟨#[112,109]⟩:ByteArray)⟩:Bd) from rfl,Option.bind_some]
 dsimp only
 rw [h1,Option.bind_some]
 cases hb:okF [.p,.m] l with
 | false=>exact ⟨_,by dsimp only;rw [if_pos (by decide)],fun h=>by cases h⟩
 | true=>
  obtain rfl:=h2 hb
  rcases l with _ | ⟨a,_ | ⟨b,_ | ⟨u,l⟩⟩⟩
  ·simp [okF] at hb
  ·simp [okF] at hb
  ·refine ⟨_,by dsimp only;rw [if_neg (by decide)];simp [gotF,addK,idx,EK,show w64 1=1 from by decide,show w64 2=2 from by decide,show w64 4=4 from by decide];rfl,fun _ bb=>?_⟩
   first | rfl | simp [wrd,nxt]
  ·simp [okF] at hb
theorem lw_rename {a b:ByteArray}(hb:okF [.p,.m] [a,b] = true):Em (⟨1,((placeOf a).getD Ac),b,noB,0,(⟨Ac,0,noB,[],0⟩:Az),[],[]⟩:AP)=some (W_rename :: [a,b]):=by
 simp only [okF,Bool.and_true,Bool.and_eq_true] at hb
 obtain ⟨qa,qb⟩:=hb
 unfold Em
 dsimp only
 simp [vLenses_rename,BF,EJ qa]
theorem both_rename {l:List ByteArray}{b:Bool}(hs:∀a∈l,a.size≤1000000):LensBoth (W_rename::l) b:=by
 obtain ⟨z,h1,h2⟩:=lr_rename hs
 refine ⟨_,_,z,_,lp_rename (b:=b) hs,runF_good _ l b,h1,fun hb=>⟨(h2 hb b).symm,?_,rfl,rfl,rfl⟩⟩
 rcases l with _ | ⟨a,_ | ⟨b,_ | ⟨u,l⟩⟩⟩
 ·simp [okF] at hb
 ·simp [okF] at hb
 ·exact lw_rename hb
 ·simp [okF] at hb
theorem lp_hoist {l:List ByteArray}{b:Bool}(h:Sm ⟨l,b⟩):D7 ⟨W_hoist::l,b⟩=some ((⟨4,((placeOf (wrd ⟨l,b⟩)).getD Ac),noB,noB,0,(⟨Ac,0,noB,[],0⟩:Az),[],[]⟩:AP),runF [.p] ⟨l,b⟩):=by
 unfold D7
 rw [CG,Option.bind_some]
 dsimp only
 rw [kLenses_hoist,Option.bind_some]
 rw [if_neg (by decide),if_pos rfl]
 rw [place_eq h,Option.bind_some]
 dsimp only
 rfl
theorem lr_hoist {l:List ByteArray}(hs:∀a∈l,a.size≤1000000):∃z,D5 (W_hoist::l)=some (z,okF [.p] l)∧(okF [.p] l=true→∀bb,z=(⟨4,((placeOf (wrd ⟨l,bb⟩)).getD Ac),noB,noB,0,(⟨Ac,0,noB,[],0⟩:Az),[],[]⟩:AP)):=by
 obtain ⟨g,h1,h2⟩:=Dv l (⟨#[112]⟩:ByteArray) (by decide) hs
 rw [show ksOf (⟨#[112]⟩:ByteArray)= [.p] from by kernel_rfl] at h1 h2
 unfold D5
 rw [if_neg (by simp only [List.length_cons];omega),Df,Option.bind_some,flenses_hoist,Option.bind_some,if_neg (by decide),Dl,Option.bind_some]
 rw [show idx DY 4=some (⟨W_hoist,(⟨#[112]⟩:ByteArray)⟩:Bd) from rfl,Option.bind_some]
 dsimp only
 rw [h1,Option.bind_some]
 cases hb:okF [.p] l with
 | false=>exact ⟨_,by dsimp only;rw [if_pos (by decide)],fun h=>by cases h⟩
 | true=>
  obtain rfl:=h2 hb
  rcases l with _ | ⟨a,_ | ⟨u,l⟩⟩
  ·simp [okF] at hb
  ·refine ⟨_,by dsimp only;rw [if_neg (by decide)];simp [gotF,addK,idx,EK,show w64 1=1 from by decide,show w64 2=2 from by decide,show w64 4=4 from by decide];rfl,fun _ bb=>?_⟩
   first | rfl | simp [wrd,nxt]
  ·simp [okF] at hb
theorem lw_hoist {a:ByteArray}(hb:okF [.p] [a] = true):Em (⟨4,((placeOf a).getD Ac),noB,noB,0,(⟨Ac,0,noB,[],0⟩:Az),[],[]⟩:AP)=some (W_hoist :: [a]):=by
 simp only [okF,Bool.and_true,Bool.and_eq_true] at hb
 have qa:=hb
 unfold Em
 dsimp only
 simp [vLenses_hoist,BF,EJ qa]
theorem both_hoist {l:List ByteArray}{b:Bool}(hs:∀a∈l,a.size≤1000000):LensBoth (W_hoist::l) b:=by
 obtain ⟨z,h1,h2⟩:=lr_hoist hs
 refine ⟨_,_,z,_,lp_hoist (b:=b) hs,runF_good _ l b,h1,fun hb=>⟨(h2 hb b).symm,?_,rfl,rfl,rfl⟩⟩
 rcases l with _ | ⟨a,_ | ⟨u,l⟩⟩
 ·simp [okF] at hb
 ·exact lw_hoist hb
 ·simp [okF] at hb
theorem lp_plunge {l:List ByteArray}{b:Bool}(h:Sm ⟨l,b⟩):D7 ⟨W_plunge::l,b⟩=some ((⟨5,((placeOf (wrd ⟨l,b⟩)).getD Ac),(wrd (nxt .p ⟨l,b⟩)),noB,0,(⟨Ac,0,noB,[],0⟩:Az),[],[]⟩:AP),runF [.p,.m] ⟨l,b⟩):=by
 unfold D7
 rw [CG,Option.bind_some]
 dsimp only
 rw [kLenses_plunge,Option.bind_some]
 rw [if_pos (by decide)]
 rw [place_eq h,Option.bind_some]
 dsimp only
 rw [name_eq,Option.bind_some]
 dsimp only
 rfl
theorem lr_plunge {l:List ByteArray}(hs:∀a∈l,a.size≤1000000):∃z,D5 (W_plunge::l)=some (z,okF [.p,.m] l)∧(okF [.p,.m] l=true→∀bb,z=(⟨5,((placeOf (wrd ⟨l,bb⟩)).getD Ac),(wrd (nxt .p ⟨l,bb⟩)),noB,0,(⟨Ac,0,noB,[],0⟩:Az),[],[]⟩:AP)):=by
 obtain ⟨g,h1,h2⟩:=Dv l (⟨#[112,109]⟩:ByteArray) (by decide) hs
 rw [show ksOf (⟨#[112,109]⟩:ByteArray)= [.p,.m] from by kernel_rfl] at h1 h2
 unfold D5
 rw [if_neg (by simp only [List.length_cons];omega),Df,Option.bind_some,flenses_plunge,Option.bind_some,if_neg (by decide),Dl,Option.bind_some]
 rw [show idx DY 5=some (⟨W_plunge,(⟨#[112,109]⟩:ByteArray)⟩:Bd) from rfl,Option.bind_some]
 dsimp only
 rw [h1,Option.bind_some]
 cases hb:okF [.p,.m] l with
 | false=>exact ⟨_,by dsimp only;rw [if_pos (by decide)],fun h=>by cases h⟩
 | true=>
  obtain rfl:=h2 hb
  rcases l with _ | ⟨a,_ | ⟨b,_ | ⟨u,l⟩⟩⟩
  ·simp [okF] at hb
  ·simp [okF] at hb
  ·refine ⟨_,by dsimp only;rw [if_neg (by decide)];simp [gotF,addK,idx,EK,show w64 1=1 from by decide,show w64 2=2 from by decide,show w64 4=4 from by decide];rfl,fun _ bb=>?_⟩
   first | rfl | simp [wrd,nxt]
  ·simp [okF] at hb
theorem lw_plunge {a b:ByteArray}(hb:okF [.p,.m] [a,b] = true):Em (⟨5,((placeOf a).getD Ac),b,noB,0,(⟨Ac,0,noB,[],0⟩:Az),[],[]⟩:AP)=some (W_plunge :: [a,b]):=by
 simp only [okF,Bool.and_true,Bool.and_eq_true] at hb
 obtain ⟨qa,qb⟩:=hb
 unfold Em
 dsimp only
 simp [vLenses_plunge,BF,EJ qa]
theorem both_plunge {l:List ByteArray}{b:Bool}(hs:∀a∈l,a.size≤1000000):LensBoth (W_plunge::l) b:=by
 obtain ⟨z,h1,h2⟩:=lr_plunge hs
 refine ⟨_,_,z,_,lp_plunge (b:=b) hs,runF_good _ l b,h1,fun hb=>⟨(h2 hb b).symm,?_,rfl,rfl,rfl⟩⟩
 rcases l with _ | ⟨a,_ | ⟨b,_ | ⟨u,l⟩⟩⟩
 ·simp [okF] at hb
 ·simp [okF] at hb
 ·exact lw_plunge hb
 ·simp [okF] at hb
theorem lp_split {l:List ByteArray}{b:Bool}(h:Sm ⟨l,b⟩):D7 ⟨W_split::l,b⟩=some ((⟨6,((placeOf (wrd ⟨l,b⟩)).getD Ac),(wrd (nxt .p ⟨l,b⟩)),(wrd (nxt .m (nxt .p ⟨l,b⟩))),(Au (wrd (nxt .m (nxt .m (nxt .p ⟨l,b⟩))))).1,(⟨Ac,0,noB,[],0⟩:Az),[],[]⟩:AP),runF [.p,.m,.m,.n] ⟨l,b⟩):=by
 unfold D7
 rw [CG,Option.bind_some]
 dsimp only
 rw [kLenses_split,Option.bind_some]
 rw [if_neg (by decide),if_neg (by decide),if_pos rfl]
 rw [place_eq h,Option.bind_some]
 dsimp only
 rw [name_eq,Option.bind_some]
 dsimp only
 rw [name_eq,Option.bind_some]
 dsimp only
 rw [number_eq (((h.nxt .p).nxt .m).nxt .m),Option.bind_some]
 dsimp only
 rfl
theorem lr_split {l:List ByteArray}(hs:∀a∈l,a.size≤1000000):∃z,D5 (W_split::l)=some (z,okF [.p,.m,.m,.n] l)∧(okF [.p,.m,.m,.n] l=true→∀bb,z=(⟨6,((placeOf (wrd ⟨l,bb⟩)).getD Ac),(wrd (nxt .p ⟨l,bb⟩)),(wrd (nxt .m (nxt .p ⟨l,bb⟩))),(Au (wrd (nxt .m (nxt .m (nxt .p ⟨l,bb⟩))))).1,(⟨Ac,0,noB,[],0⟩:Az),[],[]⟩:AP)):=by
 obtain ⟨g,h1,h2⟩:=Dv l (⟨#[112,109,109,110]⟩:ByteArray) (by decide) hs
 rw [show ksOf (⟨#[112,109,109,110]⟩:ByteArray)= [.p,.m,.m,.n] from by kernel_rfl] at h1 h2
 unfold D5
 rw [if_neg (by simp only [List.length_cons];omega),Df,Option.bind_some,flenses_split,Option.bind_some,if_neg (by decide),Dl,Option.bind_some]
 rw [show idx DY 6=some (⟨W_split,(⟨#[112,109,109,110]⟩:ByteArray)⟩:Bd) from rfl,Option.bind_some]
 dsimp only
 rw [h1,Option.bind_some]
 cases hb:okF [.p,.m,.m,.n] l with
 | false=>exact ⟨_,by dsimp only;rw [if_pos (by decide)],fun h=>by cases h⟩
 | true=>
  obtain rfl:=h2 hb
  rcases l with _ | ⟨a,_ | ⟨b,_ | ⟨c,_ | ⟨d,_ | ⟨u,l⟩⟩⟩⟩⟩
  ·simp [okF] at hb
  ·simp [okF] at hb
  ·simp [okF] at hb
  ·simp [okF] at hb
  ·refine ⟨_,by dsimp only;rw [if_neg (by decide)];simp [gotF,addK,idx,EK,show w64 1=1 from by decide,show w64 2=2 from by decide,show w64 4=4 from by decide];rfl,fun _ bb=>?_⟩
   first | rfl | simp [wrd,nxt]
  ·simp [okF] at hb
theorem lw_split {a b c d:ByteArray}(hb:okF [.p,.m,.m,.n] [a,b,c,d] = true):Em (⟨6,((placeOf a).getD Ac),b,c,(Au d).1,(⟨Ac,0,noB,[],0⟩:Az),[],[]⟩:AP)=some (W_split :: [a,b,c,d]):=by
 simp only [okF,Bool.and_true,Bool.and_eq_true] at hb
 obtain ⟨qa,qb,qc,qd⟩:=hb
 unfold Em
 dsimp only
 simp [vLenses_split,BF,EJ qa,AL (Bz qd).2,(Bz qd).1]
theorem both_split {l:List ByteArray}{b:Bool}(hs:∀a∈l,a.size≤1000000):LensBoth (W_split::l) b:=by
 obtain ⟨z,h1,h2⟩:=lr_split hs
 refine ⟨_,_,z,_,lp_split (b:=b) hs,runF_good _ l b,h1,fun hb=>⟨(h2 hb b).symm,?_,rfl,rfl,rfl⟩⟩
 rcases l with _ | ⟨a,_ | ⟨b,_ | ⟨c,_ | ⟨d,_ | ⟨u,l⟩⟩⟩⟩⟩
 ·simp [okF] at hb
 ·simp [okF] at hb
 ·simp [okF] at hb
 ·simp [okF] at hb
 ·exact lw_split hb
 ·simp [okF] at hb
theorem lp_wrap {l:List ByteArray}{b:Bool}(h:Sm ⟨l,b⟩):D7 ⟨W_wrap::l,b⟩=some ((⟨7,((placeOf (wrd ⟨l,b⟩)).getD Ac),noB,(Di (wrd (nxt .p ⟨l,b⟩))).1,0,(⟨Ac,0,noB,[],0⟩:Az),[],[]⟩:AP),runF [.p,.q] ⟨l,b⟩):=by
 unfold D7
 rw [CG,Option.bind_some]
 dsimp only
 rw [kLenses_wrap,Option.bind_some]
 rw [if_neg (by decide),if_neg (by decide),if_neg (by decide),if_pos rfl]
 rw [place_eq h,Option.bind_some]
 dsimp only
 rw [text_eq (h.nxt .p),Option.bind_some]
 dsimp only
 rfl
theorem lr_wrap {l:List ByteArray}(hs:∀a∈l,a.size≤1000000):∃z,D5 (W_wrap::l)=some (z,okF [.p,.q] l)∧(okF [.p,.q] l=true→∀bb,z=(⟨7,((placeOf (wrd ⟨l,bb⟩)).getD Ac),noB,(Di (wrd (nxt .p ⟨l,bb⟩))).1,0,(⟨Ac,0,noB,[],0⟩:Az),[],[]⟩:AP)):=by
 obtain ⟨g,h1,h2⟩:=Dv l (⟨#[112,113]⟩:ByteArray) (by decide) hs
 rw [show ksOf (⟨#[112,113]⟩:ByteArray)= [.p,.q] from by kernel_rfl] at h1 h2
 unfold D5
 rw [if_neg (by simp only [List.length_cons];omega),Df,Option.bind_some,flenses_wrap,Option.bind_some,if_neg (by decide),Dl,Option.bind_some]
 rw [show idx DY 7=some (⟨W_wrap,(⟨#[112,113]⟩:ByteArray)⟩:Bd) from rfl,Option.bind_some]
 dsimp only
 rw [h1,Option.bind_some]
 cases hb:okF [.p,.q] l with
 | false=>exact ⟨_,by dsimp only;rw [if_pos (by decide)],fun h=>by cases h⟩
 | true=>
  obtain rfl:=h2 hb
  rcases l with _ | ⟨a,_ | ⟨b,_ | ⟨u,l⟩⟩⟩
  ·simp [okF] at hb
  ·simp [okF] at hb
  ·refine ⟨_,by dsimp only;rw [if_neg (by decide)];simp [gotF,addK,idx,EK,show w64 1=1 from by decide,show w64 2=2 from by decide,show w64 4=4 from by decide];rfl,fun _ bb=>?_⟩
   have hq:okK .q b=true:=by simp [okF] at hb;first | exact hb.2 | exact hb
   simp [wrd,nxt,unq_scan hq]
  ·simp [okF] at hb
theorem lw_wrap {a b:ByteArray}(hb:okF [.p,.q] [a,b] = true):Em (⟨7,((placeOf a).getD Ac),noB,(Di b).1,0,(⟨Ac,0,noB,[],0⟩:Az),[],[]⟩:AP)=some (W_wrap :: [a,b]):=by
 simp only [okF,Bool.and_true,Bool.and_eq_true] at hb
 obtain ⟨qa,qb⟩:=hb
 unfold Em
 dsimp only
 simp [vLenses_wrap,BF,EJ qa,quote_back9 qb]
theorem both_wrap {l:List ByteArray}{b:Bool}(hs:∀a∈l,a.size≤1000000):LensBoth (W_wrap::l) b:=by
 obtain ⟨z,h1,h2⟩:=lr_wrap hs
 refine ⟨_,_,z,_,lp_wrap (b:=b) hs,runF_good _ l b,h1,fun hb=>⟨(h2 hb b).symm,?_,rfl,rfl,rfl⟩⟩
 rcases l with _ | ⟨a,_ | ⟨b,_ | ⟨u,l⟩⟩⟩
 ·simp [okF] at hb
 ·simp [okF] at hb
 ·exact lw_wrap hb
 ·simp [okF] at hb
theorem lp_counter {l:List ByteArray}{b:Bool}(h:Sm ⟨l,b⟩):D7 ⟨W_counter::l,b⟩=some ((⟨2,Ac,noB,noB,0,(⟨((placeOf (wrd ⟨l,b⟩)).getD Ac),1,noB,[],(Au (wrd (nxt .p ⟨l,b⟩))).1⟩:Az),[],[]⟩:AP),runF [.p,.n] ⟨l,b⟩):=by
 unfold D7
 rw [CG,Option.bind_some]
 dsimp only
 rw [kLenses_counter,Option.bind_some]
 rw [if_neg (by decide),if_neg (by decide),if_neg (by decide),if_neg (by decide)]
 rw [kAdded_counter,Option.bind_some,place_eq h,Option.bind_some]
 dsimp only
 rw [if_pos rfl]
 rw [number_eq (h.nxt .p),Option.bind_some]
 rfl
theorem lr_counter {l:List ByteArray}(hs:∀a∈l,a.size≤1000000):∃z,D5 (W_counter::l)=some (z,okF [.p,.n] l)∧(okF [.p,.n] l=true→∀bb,z=(⟨2,Ac,noB,noB,0,(⟨((placeOf (wrd ⟨l,bb⟩)).getD Ac),1,noB,[],(Au (wrd (nxt .p ⟨l,bb⟩))).1⟩:Az),[],[]⟩:AP)):=by
 obtain ⟨g,h1,h2⟩:=Dv l (⟨#[112,110]⟩:ByteArray) (by decide) hs
 rw [show ksOf (⟨#[112,110]⟩:ByteArray)= [.p,.n] from by kernel_rfl] at h1 h2
 unfold D5
 rw [if_neg (by simp only [List.length_cons];omega),Df,Option.bind_some,flenses_counter,Option.bind_some,if_neg (by decide),Dl,Option.bind_some]
 rw [show idx DY 11=some (⟨W_counter,(⟨#[112,110]⟩:ByteArray)⟩:Bd) from rfl,Option.bind_some]
 dsimp only
 rw [h1,Option.bind_some]
 cases hb:okF [.p,.n] l with
 | false=>exact ⟨_,by dsimp only;rw [if_pos (by decide)],fun h=>by cases h⟩
 | true=>
  obtain rfl:=h2 hb
  rcases l with _ | ⟨a,_ | ⟨b,_ | ⟨u,l⟩⟩⟩
  ·simp [okF] at hb
  ·simp [okF] at hb
  ·refine ⟨_,by dsimp only;rw [if_neg (by decide)];simp [gotF,addK,idx,EK,show w64 1=1 from by decide,show w64 2=2 from by decide,show w64 4=4 from by decide];rfl,fun _ bb=>?_⟩
   first | rfl | simp [wrd,nxt]
  ·simp [okF] at hb
theorem lw_counter {a b:ByteArray}(hb:okF [.p,.n] [a,b] = true):Em (⟨2,Ac,noB,noB,0,(⟨((placeOf a).getD Ac),1,noB,[],(Au b).1⟩:Az),[],[]⟩:AP)=some (W_counter :: [a,b]):=by
 simp only [okF,Bool.and_true,Bool.and_eq_true] at hb
 obtain ⟨qa,qb⟩:=hb
 unfold Em
 dsimp only
 simp [vLenses_two,vAdded_counter,BF,EJ qa,AL (Bz qb).2,(Bz qb).1]
theorem both_counter {l:List ByteArray}{b:Bool}(hs:∀a∈l,a.size≤1000000):LensBoth (W_counter::l) b:=by
 obtain ⟨z,h1,h2⟩:=lr_counter hs
 refine ⟨_,_,z,_,lp_counter (b:=b) hs,runF_good _ l b,h1,fun hb=>⟨(h2 hb b).symm,?_,rfl,rfl,rfl⟩⟩
 rcases l with _ | ⟨a,_ | ⟨b,_ | ⟨u,l⟩⟩⟩
 ·simp [okF] at hb
 ·simp [okF] at hb
 ·exact lw_counter hb
 ·simp [okF] at hb
theorem lp_text {l:List ByteArray}{b:Bool}(h:Sm ⟨l,b⟩):D7 ⟨W_text::l,b⟩=some ((⟨2,Ac,noB,noB,0,(⟨((placeOf (wrd ⟨l,b⟩)).getD Ac),2,(Di (wrd (nxt .p ⟨l,b⟩))).1,[],0⟩:Az),[],[]⟩:AP),runF [.p,.q] ⟨l,b⟩):=by
 unfold D7
 rw [CG,Option.bind_some]
 dsimp only
 rw [kLenses_text,Option.bind_some]
 rw [if_neg (by decide),if_neg (by decide),if_neg (by decide),if_neg (by decide)]
 rw [kAdded_text,Option.bind_some,place_eq h,Option.bind_some]
 dsimp only
 rw [if_neg (by decide),if_pos rfl]
 rw [text_eq (h.nxt .p),Option.bind_some]
 rfl
theorem lr_text {l:List ByteArray}(hs:∀a∈l,a.size≤1000000):∃z,D5 (W_text::l)=some (z,okF [.p,.q] l)∧(okF [.p,.q] l=true→∀bb,z=(⟨2,Ac,noB,noB,0,(⟨((placeOf (wrd ⟨l,bb⟩)).getD Ac),2,(Di (wrd (nxt .p ⟨l,bb⟩))).1,[],0⟩:Az),[],[]⟩:AP)):=by
 obtain ⟨g,h1,h2⟩:=Dv l (⟨#[112,113]⟩:ByteArray) (by decide) hs
 rw [show ksOf (⟨#[112,113]⟩:ByteArray)= [.p,.q] from by kernel_rfl] at h1 h2
 unfold D5
 rw [if_neg (by simp only [List.length_cons];omega),Df,Option.bind_some,flenses_text,Option.bind_some,if_neg (by decide),Dl,Option.bind_some]
 rw [show idx DY 12=some (⟨W_text,(⟨#[112,113]⟩:ByteArray)⟩:Bd) from rfl,Option.bind_some]
 dsimp only
 rw [h1,Option.bind_some]
 cases hb:okF [.p,.q] l with
 | false=>exact ⟨_,by dsimp only;rw [if_pos (by decide)],fun h=>by cases h⟩
 | true=>
  obtain rfl:=h2 hb
  rcases l with _ | ⟨a,_ | ⟨b,_ | ⟨u,l⟩⟩⟩
  ·simp [okF] at hb
  ·simp [okF] at hb
  ·refine ⟨_,by dsimp only;rw [if_neg (by decide)];simp [gotF,addK,idx,EK,show w64 1=1 from by decide,show w64 2=2 from by decide,show w64 4=4 from by decide];rfl,fun _ bb=>?_⟩
   have hq:okK .q b=true:=by simp [okF] at hb;first | exact hb.2 | exact hb
   simp [wrd,nxt,unq_scan hq]
  ·simp [okF] at hb
theorem lw_text {a b:ByteArray}(hb:okF [.p,.q] [a,b] = true):Em (⟨2,Ac,noB,noB,0,(⟨((placeOf a).getD Ac),2,(Di b).1,[],0⟩:Az),[],[]⟩:AP)=some (W_text :: [a,b]):=by
 simp only [okF,Bool.and_true,Bool.and_eq_true] at hb
 obtain ⟨qa,qb⟩:=hb
 unfold Em
 dsimp only
 simp [vLenses_two,vAdded_text,BF,EJ qa,quote_back9 qb]
theorem both_text {l:List ByteArray}{b:Bool}(hs:∀a∈l,a.size≤1000000):LensBoth (W_text::l) b:=by
 obtain ⟨z,h1,h2⟩:=lr_text hs
 refine ⟨_,_,z,_,lp_text (b:=b) hs,runF_good _ l b,h1,fun hb=>⟨(h2 hb b).symm,?_,rfl,rfl,rfl⟩⟩
 rcases l with _ | ⟨a,_ | ⟨b,_ | ⟨u,l⟩⟩⟩
 ·simp [okF] at hb
 ·simp [okF] at hb
 ·exact lw_text hb
 ·simp [okF] at hb
theorem lp_list {l:List ByteArray}{b:Bool}(h:Sm ⟨l,b⟩):D7 ⟨W_list::l,b⟩=some ((⟨2,Ac,noB,noB,0,(⟨((placeOf (wrd ⟨l,b⟩)).getD Ac),4,noB,[],0⟩:Az),[],[]⟩:AP),runF [.p] ⟨l,b⟩):=by
 unfold D7
 rw [CG,Option.bind_some]
 dsimp only
 rw [kLenses_list,Option.bind_some]
 rw [if_neg (by decide),if_neg (by decide),if_neg (by decide),if_neg (by decide)]
 rw [kAdded_list,Option.bind_some,place_eq h,Option.bind_some]
 dsimp only
 rw [if_neg (by decide),if_neg (by decide),if_pos rfl]
 rfl
theorem lr_list {l:List ByteArray}(hs:∀a∈l,a.size≤1000000):∃z,D5 (W_list::l)=some (z,okF [.p] l)∧(okF [.p] l=true→∀bb,z=(⟨2,Ac,noB,noB,0,(⟨((placeOf (wrd ⟨l,bb⟩)).getD Ac),4,noB,[],0⟩:Az),[],[]⟩:AP)):=by
 obtain ⟨g,h1,h2⟩:=Dv l (⟨#[112]⟩:ByteArray) (by decide) hs
 rw [show ksOf (⟨#[112]⟩:ByteArray)= [.p] from by kernel_rfl] at h1 h2
 unfold D5
 rw [if_neg (by simp only [List.length_cons];omega),Df,Option.bind_some,flenses_list,Option.bind_some,if_neg (by decide),Dl,Option.bind_some]
 rw [show idx DY 14=some (⟨W_list,(⟨#[112]⟩:ByteArray)⟩:Bd) from rfl,Option.bind_some]
 dsimp only
 rw [h1,Option.bind_some]
 cases hb:okF [.p] l with
 | false=>exact ⟨_,by dsimp only;rw [if_pos (by decide)],fun h=>by cases h⟩
 | true=>
  obtain rfl:=h2 hb
  rcases l with _ | ⟨a,_ | ⟨u,l⟩⟩
  ·simp [okF] at hb
  ·refine ⟨_,by dsimp only;rw [if_neg (by decide)];simp [gotF,addK,idx,EK,show w64 1=1 from by decide,show w64 2=2 from by decide,show w64 4=4 from by decide];rfl,fun _ bb=>?_⟩
   first | rfl | simp [wrd,nxt]
  ·simp [okF] at hb
theorem lw_list {a:ByteArray}(hb:okF [.p] [a] = true):Em (⟨2,Ac,noB,noB,0,(⟨((placeOf a).getD Ac),4,noB,[],0⟩:Az),[],[]⟩:AP)=some (W_list :: [a]):=by
 simp only [okF,Bool.and_true,Bool.and_eq_true] at hb
 have qa:=hb
 unfold Em
 dsimp only
 simp [vLenses_two,vAdded_list,BF,EJ qa]
theorem both_list {l:List ByteArray}{b:Bool}(hs:∀a∈l,a.size≤1000000):LensBoth (W_list::l) b:=by
 obtain ⟨z,h1,h2⟩:=lr_list hs
 refine ⟨_,_,z,_,lp_list (b:=b) hs,runF_good _ l b,h1,fun hb=>⟨(h2 hb b).symm,?_,rfl,rfl,rfl⟩⟩
 rcases l with _ | ⟨a,_ | ⟨u,l⟩⟩
 ·simp [okF] at hb
 ·exact lw_list hb
 ·simp [okF] at hb
theorem good_bad {l:List ByteArray}:good ⟨l,true⟩=false:=by cases l<;>rfl
theorem both_other {v:ByteArray}{l:List ByteArray}{b:Bool}(hs:∀a∈l,a.size≤1000000)(h_rename:¬v=W_rename)(h_hoist:¬v=W_hoist)(h_plunge:¬v=W_plunge)(h_split:¬v=W_split)(h_wrap:¬v=W_wrap)(h_counter:¬v=W_counter)(h_text:¬v=W_text)(h_list:¬v=W_list):LensBoth (v::l) b:=by
 have h:Sm ⟨l,b⟩:=hs
 refine ⟨(⟨2,Ac,noB,noB,0,(⟨(placeOf (wrd ⟨l,b⟩)).getD Ac,0,noB,[],0⟩:Az),[],[]⟩:AP),⟨(nxt .p ⟨l,b⟩).words,true⟩,BU,false,?_,by rw [good_bad];simp,?_,fun h=>by cases h⟩
 rotate_left 1
 ·unfold D5
  rw [if_neg (by simp only [List.length_cons];omega),Df,Option.bind_some,mlenses h_rename h_hoist h_plunge h_split h_wrap h_counter h_text h_list,Option.bind_some,if_pos (by decide)]
 ·unfold D7
  rw [CG,Option.bind_some]
  dsimp only
  rw [nLenses h_rename h_hoist h_plunge h_split h_wrap,Option.bind_some,if_neg (by decide),if_neg (by decide),if_neg (by decide),if_neg (by decide),nAdded h_counter h_text h_list,Option.bind_some,place_eq h,Option.bind_some]
  dsimp only
  rw [if_neg (by decide),if_neg (by decide),if_neg (by decide)]
theorem both_empty {b:Bool}:LensBoth [] b:=by
 refine ⟨(⟨2,Ac,noB,noB,0,(⟨(placeOf (wrd ⟨[],true⟩)).getD Ac,0,noB,[],0⟩:Az),[],[]⟩:AP),⟨(nxt .p ⟨[],true⟩).words,true⟩,BU,false,?_,by rw [good_bad];simp,?_,fun h=>by cases h⟩
 rotate_left 1
 ·unfold D5;exact if_pos rfl
 ·unfold D7
  rw [word_nil,Option.bind_some]
  dsimp only
  rw [show Bv D6 noB=some 0 from by kernel_rfl,Option.bind_some,if_neg (by decide),if_neg (by decide),if_neg (by decide),if_neg (by decide),show Bv vAdded noB=some 0 from by kernel_rfl,Option.bind_some,place_eq (r:=⟨[],true⟩) (fun a h=>by cases h),Option.bind_some]
  dsimp only
  rw [if_neg (by decide),if_neg (by decide),if_neg (by decide)]
theorem lens_both:∀(l:List ByteArray) (b:Bool),(∀a∈l,a.size≤1000000)→LensBoth l b
 | [],b,_=>both_empty
 | v::l,b,hs=>by
  have hs2:∀a∈l,a.size≤1000000:=fun a ha=>hs a (List.mem_cons_of_mem _ ha)
  by_cases h_rename:v=W_rename
  ·subst h_rename;exact both_rename hs2
  by_cases h_hoist:v=W_hoist
  ·subst h_hoist;exact both_hoist hs2
  by_cases h_plunge:v=W_plunge
  ·subst h_plunge;exact both_plunge hs2
  by_cases h_split:v=W_split
  ·subst h_split;exact both_split hs2
  by_cases h_wrap:v=W_wrap
  ·subst h_wrap;exact both_wrap hs2
  by_cases h_counter:v=W_counter
  ·subst h_counter;exact both_counter hs2
  by_cases h_text:v=W_text
  ·subst h_text;exact both_text hs2
  by_cases h_list:v=W_list
  ·subst h_list;exact both_list hs2
  exact both_other hs2 h_rename h_hoist h_plunge h_split h_wrap h_counter h_text h_list
end Go.Vm
end
section
namespace Go.Vm
open Go.Proofs Go.Proofs.YtdfbohaohjaloaaGreatDoor Punnet.Name Punnet.Num
set_option maxRecDepth 10000
abbrev Dx:AV:=⟨0,noB,noB,Ac,0,noB,AU,BU⟩
abbrev Be:Ar:=⟨0,0,0,0,0,0,0,Dx⟩
theorem fin_eq {r:A8}{x y:Ar×Int}:(if (r.bad=true)∨(0<((r.words.length:Nat):Int)) then some y else some x)=some (if good r=true then x else y):=by
 by_cases hg:good r=true
 ·rw [if_pos hg,if_neg (by rw [bad_iff,hg];decide)]
 ·rw [if_neg hg,if_pos (by rw [bad_iff];exact Bool.eq_false_iff.2 hg)]
theorem joinC_mem_len9 {c:UInt8}:∀{l:List (List UInt8)} {w:List UInt8},w∈l→w.length≤(joinC c l).length
 | [],w,h=>by cases h
 | [v],w,h=>by rw [List.mem_singleton.1 h];exact Nat.le_refl _
 | v::u::r,w,h=>by
  rw [joinC,List.length_append,List.length_cons]
  rcases List.mem_cons.1 h with rfl | h
  ·omega
  ·have:=joinC_mem_len9 (c:=c) h;omega
theorem joinC_num9 {c:UInt8}:∀{l:List (List UInt8)},l.length≤(joinC c l).length+1
 | []=>by simp
 | [v]=>by simp
 | v::u::r=>by
  have:=joinC_num9 (c:=c) (l:=u::r)
  rw [joinC,List.length_append,List.length_cons (a:=v),List.length_cons (a:=c)]
  omega
theorem split_size9 {s w:ByteArray}(h:w∈splitB s 0):w.size≤s.size:=by
 have e:=congrArg (fun x:ByteArray=>x.data.toList) (join_words s)
 simp only [lineT,joinW_data] at e
 rw [←ba_len,←ba_len s,←e]
 exact joinC_mem_len9 (List.mem_map.2 ⟨w,h,rfl⟩)
theorem split_num9 {s:ByteArray}:(splitB s 0).length≤s.size+1:=by
 have e:=congrArg (fun x:ByteArray=>x.data.toList) (join_words s)
 simp only [lineT,joinW_data] at e
 rw [←ba_len s,←e]
 have:=joinC_num9 (c:=32) (l:=(splitB s 0).map (·.data.toList))
 rwa [List.length_map] at this
def DT (line:ByteArray):Prop:=∃(m:Ar) (ok:Bool),BG line=some (m,if ok=true then 0 else 4)∧BO line=some (m,ok)∧((ok=true→Ce m=some (splitB line 0)∧m.deed.lens.forth= []∧m.deed.lens.back= []∧m.deed.lens.field.cases= [])∧(ok=false→m=Be))
variable {line:ByteArray} {l:List ByteArray}
theorem Eg {m:Ar}{ks:List RK}(h1:BG line=some (if good (runF ks ⟨l,false⟩)=true then (m,0) else (Be,4)))(h2:∃z,BO line=some (z,okF ks l)∧(okF ks l=false→z=Be)∧(okF ks l=true→z=m))
 (h3:okF ks l=true→Ce m=some (splitB line 0)∧m.deed.lens.forth= []∧m.deed.lens.back= []∧m.deed.lens.field.cases= []):DT line:=by
 obtain ⟨z,k1,k2,k3⟩:=h2
 rw [runF_good] at h1
 cases hok:okF ks l with
 | false=>rw [hok] at h1 k1;rw [k2 hok] at k1;exact ⟨Be,false,h1,k1,⟨fun h=>(by cases h),fun _=>rfl⟩⟩
 | true=>rw [hok] at h1 k1;rw [k3 hok] at k1;exact ⟨m,true,h1,k1,⟨fun _=>h3 hok,fun h=>(by cases h)⟩⟩
theorem dp_add {r:A8}(h:Sm r):DD r 1=some ((⟨1,(wrd r),(C9 (wrd (nxt .m r))),Ac,0,noB,AU,BU⟩:AV),runF [.m,.i] r):=by
 unfold DD
 rw [if_neg (by decide),if_neg (by decide)]
 rw [name_eq,Option.bind_some]
 dsimp only
 rw [if_pos (by decide)]
 rw [item_eq,Option.bind_some]
 dsimp only
 rfl
theorem pp_add (hsp:splitB line 0=W_add::l)(hz:line.size≤1000000)(hs:∀a∈l,a.size≤1000000):BG line=some (if good (runF [.n,.m,.i] ⟨l,false⟩)=true then ((⟨1,(Au (wrd ⟨l,false⟩)).1,0,0,0,0,0,(⟨1,(wrd (nxt .n ⟨l,false⟩)),(C9 (wrd (nxt .m (nxt .n ⟨l,false⟩)))),Ac,0,noB,AU,BU⟩:AV)⟩:Ar),0) else (Be,4)):=by
 have h:Sm ⟨l,false⟩:=hs
 unfold BG
 rw [AL hz,hsp,CG,Option.bind_some]
 dsimp only
 rw [kDeeds_add,Option.bind_some,if_pos (by decide),DU h,Option.bind_some]
 dsimp only
 rw [dp_add (h.nxt .n),Option.bind_some]
 exact fin_eq
theorem rr_add (hsp:splitB line 0=W_add::l)(hz:line.size≤1000000)(hs:∀a∈l,a.size≤1000000):∃z,BO line=some (z,okF [.n,.m,.i] l)∧(okF [.n,.m,.i] l=false→z=Be)∧(okF [.n,.m,.i] l=true→z=(⟨1,(Au (wrd ⟨l,false⟩)).1,0,0,0,0,0,(⟨1,(wrd (nxt .n ⟨l,false⟩)),(C9 (wrd (nxt .m (nxt .n ⟨l,false⟩)))),Ac,0,noB,AU,BU⟩:AV)⟩:Ar)):=by
 obtain ⟨g,h1,h2⟩:=Dv l (⟨#[119,99,105]⟩:ByteArray) (by decide) hs
 rw [show ksOf (⟨#[119,99,105]⟩:ByteArray)= [.n,.m,.i] from by kernel_rfl] at h1 h2
 unfold BO
 rw [AL hz,hsp,Df,Option.bind_some,fdeeds_add,Option.bind_some,if_pos (by decide),Dl,Option.bind_some]
 unfold Eo Es
 rw [if_neg (by decide),show idx Cm 1=some (⟨W_add,(⟨#[119,99,105]⟩:ByteArray)⟩:Bd) from rfl,Option.bind_some]
 dsimp only
 rw [h1,Option.bind_some]
 cases hb:okF [.n,.m,.i] l with
 | false=>exact ⟨Be,by dsimp only;rw [if_pos (by decide),Option.bind_some];rfl,fun _=>rfl,fun h=>by cases h⟩
 | true=>
  obtain rfl:=h2 hb
  rcases l with _ | ⟨a,_ | ⟨b,_ | ⟨c,_ | ⟨u,l⟩⟩⟩⟩
  ·simp [okF] at hb
  ·simp [okF] at hb
  ·simp [okF] at hb
  ·refine ⟨_,by dsimp only;rw [if_neg (by decide)];simp [gotF,addK,idx,Ej,D9,Dn,BZ];rfl,fun h=>(by cases h),fun _=>?_⟩
   first | rfl | simp [wrd,nxt]
  ·simp [okF] at hb
theorem mw_add {a b c:ByteArray}(hb:okF [.n,.m,.i] [a,b,c] = true):Ce (⟨1,(Au a).1,0,0,0,0,0,(⟨1,b,(C9 c),Ac,0,noB,AU,BU⟩:AV)⟩:Ar)=some (W_add :: [a,b,c]):=by
 simp only [okF,Bool.and_true,Bool.and_eq_true] at hb
 obtain ⟨qa,qb,qc⟩:=hb
 unfold Ce EH
 simp [vDeeds_add,BF,AL (Bz qa).2,(Bz qa).1,item_back9 qc]
theorem line_add (hsp:splitB line 0=W_add::l)(hz:line.size≤1000000)(hs:∀a∈l,a.size≤1000000):DT line:=by
 refine Eg (pp_add hsp hz hs) (rr_add hsp hz hs) fun hb=>⟨?_,rfl,rfl,rfl⟩
 rw [hsp]
 rcases l with _ | ⟨a,_ | ⟨b,_ | ⟨c,_ | ⟨u,l⟩⟩⟩⟩
 ·simp [okF] at hb
 ·simp [okF] at hb
 ·simp [okF] at hb
 ·exact mw_add hb
 ·simp [okF] at hb
theorem dp_remove {r:A8}(h:Sm r):DD r 2=some ((⟨2,(wrd r),(C9 (wrd (nxt .m r))),Ac,0,noB,AU,BU⟩:AV),runF [.m,.i] r):=by
 unfold DD
 rw [if_neg (by decide),if_neg (by decide)]
 rw [name_eq,Option.bind_some]
 dsimp only
 rw [if_pos (by decide)]
 rw [item_eq,Option.bind_some]
 dsimp only
 rfl
theorem pp_remove (hsp:splitB line 0=W_remove::l)(hz:line.size≤1000000)(hs:∀a∈l,a.size≤1000000):BG line=some (if good (runF [.n,.m,.i] ⟨l,false⟩)=true then ((⟨1,(Au (wrd ⟨l,false⟩)).1,0,0,0,0,0,(⟨2,(wrd (nxt .n ⟨l,false⟩)),(C9 (wrd (nxt .m (nxt .n ⟨l,false⟩)))),Ac,0,noB,AU,BU⟩:AV)⟩:Ar),0) else (Be,4)):=by
 have h:Sm ⟨l,false⟩:=hs
 unfold BG
 rw [AL hz,hsp,CG,Option.bind_some]
 dsimp only
 rw [kDeeds_remove,Option.bind_some,if_pos (by decide),DU h,Option.bind_some]
 dsimp only
 rw [dp_remove (h.nxt .n),Option.bind_some]
 exact fin_eq
theorem rr_remove (hsp:splitB line 0=W_remove::l)(hz:line.size≤1000000)(hs:∀a∈l,a.size≤1000000):∃z,BO line=some (z,okF [.n,.m,.i] l)∧(okF [.n,.m,.i] l=false→z=Be)∧(okF [.n,.m,.i] l=true→z=(⟨1,(Au (wrd ⟨l,false⟩)).1,0,0,0,0,0,(⟨2,(wrd (nxt .n ⟨l,false⟩)),(C9 (wrd (nxt .m (nxt .n ⟨l,false⟩)))),Ac,0,noB,AU,BU⟩:AV)⟩:Ar)):=by
 obtain ⟨g,h1,h2⟩:=Dv l (⟨#[119,99,105]⟩:ByteArray) (by decide) hs
 rw [show ksOf (⟨#[119,99,105]⟩:ByteArray)= [.n,.m,.i] from by kernel_rfl] at h1 h2
 unfold BO
 rw [AL hz,hsp,Df,Option.bind_some,fdeeds_remove,Option.bind_some,if_pos (by decide),Dl,Option.bind_some]
 unfold Eo Es
 rw [if_neg (by decide),show idx Cm 2=some (⟨W_remove,(⟨#[119,99,105]⟩:ByteArray)⟩:Bd) from rfl,Option.bind_some]
 dsimp only
 rw [h1,Option.bind_some]
 cases hb:okF [.n,.m,.i] l with
 | false=>exact ⟨Be,by dsimp only;rw [if_pos (by decide),Option.bind_some];rfl,fun _=>rfl,fun h=>by cases h⟩
 | true=>
  obtain rfl:=h2 hb
  rcases l with _ | ⟨a,_ | ⟨b,_ | ⟨c,_ | ⟨u,l⟩⟩⟩⟩
  ·simp [okF] at hb
  ·simp [okF] at hb
  ·simp [okF] at hb
  ·refine ⟨_,by dsimp only;rw [if_neg (by decide)];simp [gotF,addK,idx,Ej,D9,Dn,BZ];rfl,fun h=>(by cases h),fun _=>?_⟩
   first | rfl | simp [wrd,nxt]
  ·simp [okF] at hb
theorem mw_remove {a b c:ByteArray}(hb:okF [.n,.m,.i] [a,b,c] = true):Ce (⟨1,(Au a).1,0,0,0,0,0,(⟨2,b,(C9 c),Ac,0,noB,AU,BU⟩:AV)⟩:Ar)=some (W_remove :: [a,b,c]):=by
 simp only [okF,Bool.and_true,Bool.and_eq_true] at hb
 obtain ⟨qa,qb,qc⟩:=hb
 unfold Ce EH
 simp [vDeeds_remove,BF,AL (Bz qa).2,(Bz qa).1,item_back9 qc]
theorem line_remove (hsp:splitB line 0=W_remove::l)(hz:line.size≤1000000)(hs:∀a∈l,a.size≤1000000):DT line:=by
 refine Eg (pp_remove hsp hz hs) (rr_remove hsp hz hs) fun hb=>⟨?_,rfl,rfl,rfl⟩
 rw [hsp]
 rcases l with _ | ⟨a,_ | ⟨b,_ | ⟨c,_ | ⟨u,l⟩⟩⟩⟩
 ·simp [okF] at hb
 ·simp [okF] at hb
 ·simp [okF] at hb
 ·exact mw_remove hb
 ·simp [okF] at hb
theorem dp_adjust {r:A8}(h:Sm r):DD r 3=some ((⟨3,(wrd r),(C9 (wrd (nxt .m r))),((placeOf (wrd (nxt .i (nxt .m r)))).getD Ac),(Au (wrd (nxt .p (nxt .i (nxt .m r))))).1,noB,AU,BU⟩:AV),runF [.m,.i,.p,.n] r):=by
 unfold DD
 rw [if_neg (by decide),if_neg (by decide)]
 rw [name_eq,Option.bind_some]
 dsimp only
 rw [if_neg (by decide)]
 rw [if_pos (by decide)]
 rw [item_eq,Option.bind_some]
 dsimp only
 rw [place_eq ((h.nxt .m).nxt .i),Option.bind_some]
 dsimp only
 rw [number_eq (((h.nxt .m).nxt .i).nxt .p),Option.bind_some]
 dsimp only
 rfl
theorem pp_adjust (hsp:splitB line 0=W_adjust::l)(hz:line.size≤1000000)(hs:∀a∈l,a.size≤1000000):BG line=some (if good (runF [.n,.m,.i,.p,.n] ⟨l,false⟩)=true then ((⟨1,(Au (wrd ⟨l,false⟩)).1,0,0,0,0,0,(⟨3,(wrd (nxt .n ⟨l,false⟩)),(C9 (wrd (nxt .m (nxt .n ⟨l,false⟩)))),((placeOf (wrd (nxt .i (nxt .m (nxt .n ⟨l,false⟩))))).getD Ac),(Au (wrd (nxt .p (nxt .i (nxt .m (nxt .n ⟨l,false⟩)))))).1,noB,AU,BU⟩:AV)⟩:Ar),0) else (Be,4)):=by
 have h:Sm ⟨l,false⟩:=hs
 unfold BG
 rw [AL hz,hsp,CG,Option.bind_some]
 dsimp only
 rw [kDeeds_adjust,Option.bind_some,if_pos (by decide),DU h,Option.bind_some]
 dsimp only
 rw [dp_adjust (h.nxt .n),Option.bind_some]
 exact fin_eq
theorem rr_adjust (hsp:splitB line 0=W_adjust::l)(hz:line.size≤1000000)(hs:∀a∈l,a.size≤1000000):∃z,BO line=some (z,okF [.n,.m,.i,.p,.n] l)∧(okF [.n,.m,.i,.p,.n] l=false→z=Be)∧(okF [.n,.m,.i,.p,.n] l=true→z=(⟨1,(Au (wrd ⟨l,false⟩)).1,0,0,0,0,0,(⟨3,(wrd (nxt .n ⟨l,false⟩)),(C9 (wrd (nxt .m (nxt .n ⟨l,false⟩)))),((placeOf (wrd (nxt .i (nxt .m (nxt .n ⟨l,false⟩))))).getD Ac),(Au (wrd (nxt .p (nxt .i (nxt .m (nxt .n ⟨l,false⟩)))))).1,noB,AU,BU⟩:AV)⟩:Ar)):=by
 obtain ⟨g,h1,h2⟩:=Dv l (⟨#[119,99,105,112,110]⟩:ByteArray) (by decide) hs
 rw [show ksOf (⟨#[119,99,105,112,110]⟩:ByteArray)= [.n,.m,.i,.p,.n] from by kernel_rfl] at h1 h2
 unfold BO
 rw [AL hz,hsp,Df,Option.bind_some,fdeeds_adjust,Option.bind_some,if_pos (by decide),Dl,Option.bind_some]
 unfold Eo Es
 rw [if_neg (by decide),show idx Cm 3=some (⟨W_adjust,(⟨#[119,99,105,112,110]⟩:ByteArray)⟩:Bd) from rfl,Option.bind_some]
 dsimp only
 rw [h1,Option.bind_some]
 cases hb:okF [.n,.m,.i,.p,.n] l with
 | false=>exact ⟨Be,by dsimp only;rw [if_pos (by decide),Option.bind_some];rfl,fun _=>rfl,fun h=>by cases h⟩
 | true=>
  obtain rfl:=h2 hb
  rcases l with _ | ⟨a,_ | ⟨b,_ | ⟨c,_ | ⟨d,_ | ⟨e,_ | ⟨u,l⟩⟩⟩⟩⟩⟩
  ·simp [okF] at hb
  ·simp [okF] at hb
  ·simp [okF] at hb
  ·simp [okF] at hb
  ·simp [okF] at hb
  ·refine ⟨_,by dsimp only;rw [if_neg (by decide)];simp [gotF,addK,idx,Ej,D9,Dn,BZ];rfl,fun h=>(by cases h),fun _=>?_⟩
   first | rfl | simp [wrd,nxt]
  ·simp [okF] at hb
theorem mw_adjust {a b c d e:ByteArray}(hb:okF [.n,.m,.i,.p,.n] [a,b,c,d,e] = true):Ce (⟨1,(Au a).1,0,0,0,0,0,(⟨3,b,(C9 c),((placeOf d).getD Ac),(Au e).1,noB,AU,BU⟩:AV)⟩:Ar)=some (W_adjust :: [a,b,c,d,e]):=by
 simp only [okF,Bool.and_true,Bool.and_eq_true] at hb
 obtain ⟨qa,qb,qc,qd,qe⟩:=hb
 unfold Ce EH
 simp [vDeeds_adjust,BF,AL (Bz qa).2,(Bz qa).1,item_back9 qc,EJ qd,AL (Bz qe).2,(Bz qe).1]
theorem line_adjust (hsp:splitB line 0=W_adjust::l)(hz:line.size≤1000000)(hs:∀a∈l,a.size≤1000000):DT line:=by
 refine Eg (pp_adjust hsp hz hs) (rr_adjust hsp hz hs) fun hb=>⟨?_,rfl,rfl,rfl⟩
 rw [hsp]
 rcases l with _ | ⟨a,_ | ⟨b,_ | ⟨c,_ | ⟨d,_ | ⟨e,_ | ⟨u,l⟩⟩⟩⟩⟩⟩
 ·simp [okF] at hb
 ·simp [okF] at hb
 ·simp [okF] at hb
 ·simp [okF] at hb
 ·simp [okF] at hb
 ·exact mw_adjust hb
 ·simp [okF] at hb
theorem dp_set {r:A8}(h:Sm r):DD r 4=some ((⟨4,(wrd r),(C9 (wrd (nxt .m r))),((placeOf (wrd (nxt .i (nxt .m r)))).getD Ac),0,(Di (wrd (nxt .p (nxt .i (nxt .m r))))).1,AU,BU⟩:AV),runF [.m,.i,.p,.q] r):=by
 unfold DD
 rw [if_neg (by decide),if_neg (by decide)]
 rw [name_eq,Option.bind_some]
 dsimp only
 rw [if_neg (by decide)]
 rw [if_neg (by decide)]
 rw [if_pos (by decide)]
 rw [item_eq,Option.bind_some]
 dsimp only
 rw [place_eq ((h.nxt .m).nxt .i),Option.bind_some]
 dsimp only
 rw [text_eq (((h.nxt .m).nxt .i).nxt .p),Option.bind_some]
 dsimp only
 rfl
theorem pp_set (hsp:splitB line 0=W_set::l)(hz:line.size≤1000000)(hs:∀a∈l,a.size≤1000000):BG line=some (if good (runF [.n,.m,.i,.p,.q] ⟨l,false⟩)=true then ((⟨1,(Au (wrd ⟨l,false⟩)).1,0,0,0,0,0,(⟨4,(wrd (nxt .n ⟨l,false⟩)),(C9 (wrd (nxt .m (nxt .n ⟨l,false⟩)))),((placeOf (wrd (nxt .i (nxt .m (nxt .n ⟨l,false⟩))))).getD Ac),0,(Di (wrd (nxt .p (nxt .i (nxt .m (nxt .n ⟨l,false⟩)))))).1,AU,BU⟩:AV)⟩:Ar),0) else (Be,4)):=by
 have h:Sm ⟨l,false⟩:=hs
 unfold BG
 rw [AL hz,hsp,CG,Option.bind_some]
 dsimp only
 rw [kDeeds_set,Option.bind_some,if_pos (by decide),DU h,Option.bind_some]
 dsimp only
 rw [dp_set (h.nxt .n),Option.bind_some]
 exact fin_eq
theorem rr_set (hsp:splitB line 0=W_set::l)(hz:line.size≤1000000)(hs:∀a∈l,a.size≤1000000):∃z,BO line=some (z,okF [.n,.m,.i,.p,.q] l)∧(okF [.n,.m,.i,.p,.q] l=false→z=Be)∧(okF [.n,.m,.i,.p,.q] l=true→z=(⟨1,(Au (wrd ⟨l,false⟩)).1,0,0,0,0,0,(⟨4,(wrd (nxt .n ⟨l,false⟩)),(C9 (wrd (nxt .m (nxt .n ⟨l,false⟩)))),((placeOf (wrd (nxt .i (nxt .m (nxt .n ⟨l,false⟩))))).getD Ac),0,(Di (wrd (nxt .p (nxt .i (nxt .m (nxt .n ⟨l,false⟩)))))).1,AU,BU⟩:AV)⟩:Ar)):=by
 obtain ⟨g,h1,h2⟩:=Dv l (⟨#[119,99,105,112,113]⟩:ByteArray) (by decide) hs
 rw [show ksOf (⟨#[119,99,105,112,113]⟩:ByteArray)= [.n,.m,.i,.p,.q] from by kernel_rfl] at h1 h2
 unfold BO
 rw [AL hz,hsp,Df,Option.bind_some,fdeeds_set,Option.bind_some,if_pos (by decide),Dl,Option.bind_some]
 unfold Eo Es
 rw [if_neg (by decide),show idx Cm 4=some (⟨W_set,(⟨#[119,99,105,112,113]⟩:ByteArray)⟩:Bd) from rfl,Option.bind_some]
 dsimp only
 rw [h1,Option.bind_some]
 cases hb:okF [.n,.m,.i,.p,.q] l with
 | false=>exact ⟨Be,by dsimp only;rw [if_pos (by decide),Option.bind_some];rfl,fun _=>rfl,fun h=>by cases h⟩
 | true=>
  obtain rfl:=h2 hb
  rcases l with _ | ⟨a,_ | ⟨b,_ | ⟨c,_ | ⟨d,_ | ⟨e,_ | ⟨u,l⟩⟩⟩⟩⟩⟩
  ·simp [okF] at hb
  ·simp [okF] at hb
  ·simp [okF] at hb
  ·simp [okF] at hb
  ·simp [okF] at hb
  ·refine ⟨_,by dsimp only;rw [if_neg (by decide)];simp [gotF,addK,idx,Ej,D9,Dn,BZ];rfl,fun h=>(by cases h),fun _=>?_⟩
   have hq:okK .q e=true:=by simp only [okF,Bool.and_true,Bool.and_eq_true] at hb;exact hb.2.2.2.2
   simp [wrd,nxt,unq_scan hq]
  ·simp [okF] at hb
theorem mw_set {a b c d e:ByteArray}(hb:okF [.n,.m,.i,.p,.q] [a,b,c,d,e] = true):Ce (⟨1,(Au a).1,0,0,0,0,0,(⟨4,b,(C9 c),((placeOf d).getD Ac),0,(Di e).1,AU,BU⟩:AV)⟩:Ar)=some (W_set :: [a,b,c,d,e]):=by
 simp only [okF,Bool.and_true,Bool.and_eq_true] at hb
 obtain ⟨qa,qb,qc,qd,qe⟩:=hb
 unfold Ce EH
 simp [vDeeds_set,BF,AL (Bz qa).2,(Bz qa).1,item_back9 qc,EJ qd,quote_back9 qe]
theorem line_set (hsp:splitB line 0=W_set::l)(hz:line.size≤1000000)(hs:∀a∈l,a.size≤1000000):DT line:=by
 refine Eg (pp_set hsp hz hs) (rr_set hsp hz hs) fun hb=>⟨?_,rfl,rfl,rfl⟩
 rw [hsp]
 rcases l with _ | ⟨a,_ | ⟨b,_ | ⟨c,_ | ⟨d,_ | ⟨e,_ | ⟨u,l⟩⟩⟩⟩⟩⟩
 ·simp [okF] at hb
 ·simp [okF] at hb
 ·simp [okF] at hb
 ·simp [okF] at hb
 ·simp [okF] at hb
 ·exact mw_set hb
 ·simp [okF] at hb
theorem dp_put {r:A8}(h:Sm r):DD r 5=some ((⟨5,(wrd r),(C9 (wrd (nxt .m r))),((placeOf (wrd (nxt .i (nxt .m r)))).getD Ac),0,(Di (wrd (nxt .p (nxt .i (nxt .m r))))).1,AU,BU⟩:AV),runF [.m,.i,.p,.q] r):=by
 unfold DD
 rw [if_neg (by decide),if_neg (by decide)]
 rw [name_eq,Option.bind_some]
 dsimp only
 rw [if_neg (by decide)]
 rw [if_neg (by decide)]
 rw [if_pos (by decide)]
 rw [item_eq,Option.bind_some]
 dsimp only
 rw [place_eq ((h.nxt .m).nxt .i),Option.bind_some]
 dsimp only
 rw [text_eq (((h.nxt .m).nxt .i).nxt .p),Option.bind_some]
 dsimp only
 rfl
theorem pp_put (hsp:splitB line 0=W_put::l)(hz:line.size≤1000000)(hs:∀a∈l,a.size≤1000000):BG line=some (if good (runF [.n,.m,.i,.p,.q] ⟨l,false⟩)=true then ((⟨1,(Au (wrd ⟨l,false⟩)).1,0,0,0,0,0,(⟨5,(wrd (nxt .n ⟨l,false⟩)),(C9 (wrd (nxt .m (nxt .n ⟨l,false⟩)))),((placeOf (wrd (nxt .i (nxt .m (nxt .n ⟨l,false⟩))))).getD Ac),0,(Di (wrd (nxt .p (nxt .i (nxt .m (nxt .n ⟨l,false⟩)))))).1,AU,BU⟩:AV)⟩:Ar),0) else (Be,4)):=by
 have h:Sm ⟨l,false⟩:=hs
 unfold BG
 rw [AL hz,hsp,CG,Option.bind_some]
 dsimp only
 rw [kDeeds_put,Option.bind_some,if_pos (by decide),DU h,Option.bind_some]
 dsimp only
 rw [dp_put (h.nxt .n),Option.bind_some]
 exact fin_eq
theorem rr_put (hsp:splitB line 0=W_put::l)(hz:line.size≤1000000)(hs:∀a∈l,a.size≤1000000):∃z,BO line=some (z,okF [.n,.m,.i,.p,.q] l)∧(okF [.n,.m,.i,.p,.q] l=false→z=Be)∧(okF [.n,.m,.i,.p,.q] l=true→z=(⟨1,(Au (wrd ⟨l,false⟩)).1,0,0,0,0,0,(⟨5,(wrd (nxt .n ⟨l,false⟩)),(C9 (wrd (nxt .m (nxt .n ⟨l,false⟩)))),((placeOf (wrd (nxt .i (nxt .m (nxt .n ⟨l,false⟩))))).getD Ac),0,(Di (wrd (nxt .p (nxt .i (nxt .m (nxt .n ⟨l,false⟩)))))).1,AU,BU⟩:AV)⟩:Ar)):=by
 obtain ⟨g,h1,h2⟩:=Dv l (⟨#[119,99,105,112,113]⟩:ByteArray) (by decide) hs
 rw [show ksOf (⟨#[119,99,105,112,113]⟩:ByteArray)= [.n,.m,.i,.p,.q] from by kernel_rfl] at h1 h2
 unfold BO
 rw [AL hz,hsp,Df,Option.bind_some,fdeeds_put,Option.bind_some,if_pos (by decide),Dl,Option.bind_some]
 unfold Eo Es
 rw [if_neg (by decide),show idx Cm 5=some (⟨W_put,(⟨#[119,99,105,112,113]⟩:ByteArray)⟩:Bd) from rfl,Option.bind_some]
 dsimp only
 rw [h1,Option.bind_some]
 cases hb:okF [.n,.m,.i,.p,.q] l with
 | false=>exact ⟨Be,by dsimp only;rw [if_pos (by decide),Option.bind_some];rfl,fun _=>rfl,fun h=>by cases h⟩
 | true=>
  obtain rfl:=h2 hb
  rcases l with _ | ⟨a,_ | ⟨b,_ | ⟨c,_ | ⟨d,_ | ⟨e,_ | ⟨u,l⟩⟩⟩⟩⟩⟩
  ·simp [okF] at hb
  ·simp [okF] at hb
  ·simp [okF] at hb
  ·simp [okF] at hb
  ·simp [okF] at hb
  ·refine ⟨_,by dsimp only;rw [if_neg (by decide)];simp [gotF,addK,idx,Ej,D9,Dn,BZ];rfl,fun h=>(by cases h),fun _=>?_⟩
   have hq:okK .q e=true:=by simp only [okF,Bool.and_true,Bool.and_eq_true] at hb;exact hb.2.2.2.2
   simp [wrd,nxt,unq_scan hq]
  ·simp [okF] at hb
theorem mw_put {a b c d e:ByteArray}(hb:okF [.n,.m,.i,.p,.q] [a,b,c,d,e] = true):Ce (⟨1,(Au a).1,0,0,0,0,0,(⟨5,b,(C9 c),((placeOf d).getD Ac),0,(Di e).1,AU,BU⟩:AV)⟩:Ar)=some (W_put :: [a,b,c,d,e]):=by
 simp only [okF,Bool.and_true,Bool.and_eq_true] at hb
 obtain ⟨qa,qb,qc,qd,qe⟩:=hb
 unfold Ce EH
 simp [vDeeds_put,BF,AL (Bz qa).2,(Bz qa).1,item_back9 qc,EJ qd,quote_back9 qe]
theorem line_put (hsp:splitB line 0=W_put::l)(hz:line.size≤1000000)(hs:∀a∈l,a.size≤1000000):DT line:=by
 refine Eg (pp_put hsp hz hs) (rr_put hsp hz hs) fun hb=>⟨?_,rfl,rfl,rfl⟩
 rw [hsp]
 rcases l with _ | ⟨a,_ | ⟨b,_ | ⟨c,_ | ⟨d,_ | ⟨e,_ | ⟨u,l⟩⟩⟩⟩⟩⟩
 ·simp [okF] at hb
 ·simp [okF] at hb
 ·simp [okF] at hb
 ·simp [okF] at hb
 ·simp [okF] at hb
 ·exact mw_put hb
 ·simp [okF] at hb
theorem dp_take {r:A8}(h:Sm r):DD r 6=some ((⟨6,(wrd r),(C9 (wrd (nxt .m r))),((placeOf (wrd (nxt .i (nxt .m r)))).getD Ac),0,(Di (wrd (nxt .p (nxt .i (nxt .m r))))).1,AU,BU⟩:AV),runF [.m,.i,.p,.q] r):=by
 unfold DD
 rw [if_neg (by decide),if_neg (by decide)]
 rw [name_eq,Option.bind_some]
 dsimp only
 rw [if_neg (by decide)]
 rw [if_neg (by decide)]
 rw [if_pos (by decide)]
 rw [item_eq,Option.bind_some]
 dsimp only
 rw [place_eq ((h.nxt .m).nxt .i),Option.bind_some]
 dsimp only
 rw [text_eq (((h.nxt .m).nxt .i).nxt .p),Option.bind_some]
 dsimp only
 rfl
theorem pp_take (hsp:splitB line 0=W_take::l)(hz:line.size≤1000000)(hs:∀a∈l,a.size≤1000000):BG line=some (if good (runF [.n,.m,.i,.p,.q] ⟨l,false⟩)=true then ((⟨1,(Au (wrd ⟨l,false⟩)).1,0,0,0,0,0,(⟨6,(wrd (nxt .n ⟨l,false⟩)),(C9 (wrd (nxt .m (nxt .n ⟨l,false⟩)))),((placeOf (wrd (nxt .i (nxt .m (nxt .n ⟨l,false⟩))))).getD Ac),0,(Di (wrd (nxt .p (nxt .i (nxt .m (nxt .n ⟨l,false⟩)))))).1,AU,BU⟩:AV)⟩:Ar),0) else (Be,4)):=by
 have h:Sm ⟨l,false⟩:=hs
 unfold BG
 rw [AL hz,hsp,CG,Option.bind_some]
 dsimp only
 rw [kDeeds_take,Option.bind_some,if_pos (by decide),DU h,Option.bind_some]
 dsimp only
 rw [dp_take (h.nxt .n),Option.bind_some]
 exact fin_eq
theorem rr_take (hsp:splitB line 0=W_take::l)(hz:line.size≤1000000)(hs:∀a∈l,a.size≤1000000):∃z,BO line=some (z,okF [.n,.m,.i,.p,.q] l)∧(okF [.n,.m,.i,.p,.q] l=false→z=Be)∧(okF [.n,.m,.i,.p,.q] l=true→z=(⟨1,(Au (wrd ⟨l,false⟩)).1,0,0,0,0,0,(⟨6,(wrd (nxt .n ⟨l,false⟩)),(C9 (wrd (nxt .m (nxt .n ⟨l,false⟩)))),((placeOf (wrd (nxt .i (nxt .m (nxt .n ⟨l,false⟩))))).getD Ac),0,(Di (wrd (nxt .p (nxt .i (nxt .m (nxt .n ⟨l,false⟩)))))).1,AU,BU⟩:AV)⟩:Ar)):=by
 obtain ⟨g,h1,h2⟩:=Dv l (⟨#[119,99,105,112,113]⟩:ByteArray) (by decide) hs
 rw [show ksOf (⟨#[119,99,105,112,113]⟩:ByteArray)= [.n,.m,.i,.p,.q] from by kernel_rfl] at h1 h2
 unfold BO
 rw [AL hz,hsp,Df,Option.bind_some,fdeeds_take,Option.bind_some,if_pos (by decide),Dl,Option.bind_some]
 unfold Eo Es
 rw [if_neg (by decide),show idx Cm 6=some (⟨W_take,(⟨#[119,99,105,112,113]⟩:ByteArray)⟩:Bd) from rfl,Option.bind_some]
 dsimp only
 rw [h1,Option.bind_some]
 cases hb:okF [.n,.m,.i,.p,.q] l with
 | false=>exact ⟨Be,by dsimp only;rw [if_pos (by decide),Option.bind_some];rfl,fun _=>rfl,fun h=>by cases h⟩
 | true=>
  obtain rfl:=h2 hb
  rcases l with _ | ⟨a,_ | ⟨b,_ | ⟨c,_ | ⟨d,_ | ⟨e,_ | ⟨u,l⟩⟩⟩⟩⟩⟩
  ·simp [okF] at hb
  ·simp [okF] at hb
  ·simp [okF] at hb
  ·simp [okF] at hb
  ·simp [okF] at hb
  ·refine ⟨_,by dsimp only;rw [if_neg (by decide)];simp [gotF,addK,idx,Ej,D9,Dn,BZ];rfl,fun h=>(by cases h),fun _=>?_⟩
   have hq:okK .q e=true:=by simp only [okF,Bool.and_true,Bool.and_eq_true] at hb;exact hb.2.2.2.2
   simp [wrd,nxt,unq_scan hq]
  ·simp [okF] at hb
theorem mw_take {a b c d e:ByteArray}(hb:okF [.n,.m,.i,.p,.q] [a,b,c,d,e] = true):Ce (⟨1,(Au a).1,0,0,0,0,0,(⟨6,b,(C9 c),((placeOf d).getD Ac),0,(Di e).1,AU,BU⟩:AV)⟩:Ar)=some (W_take :: [a,b,c,d,e]):=by
 simp only [okF,Bool.and_true,Bool.and_eq_true] at hb
 obtain ⟨qa,qb,qc,qd,qe⟩:=hb
 unfold Ce EH
 simp [vDeeds_take,BF,AL (Bz qa).2,(Bz qa).1,item_back9 qc,EJ qd,quote_back9 qe]
theorem line_take (hsp:splitB line 0=W_take::l)(hz:line.size≤1000000)(hs:∀a∈l,a.size≤1000000):DT line:=by
 refine Eg (pp_take hsp hz hs) (rr_take hsp hz hs) fun hb=>⟨?_,rfl,rfl,rfl⟩
 rw [hsp]
 rcases l with _ | ⟨a,_ | ⟨b,_ | ⟨c,_ | ⟨d,_ | ⟨e,_ | ⟨u,l⟩⟩⟩⟩⟩⟩
 ·simp [okF] at hb
 ·simp [okF] at hb
 ·simp [okF] at hb
 ·simp [okF] at hb
 ·simp [okF] at hb
 ·exact mw_take hb
 ·simp [okF] at hb
theorem dp_clear {r:A8}(h:Sm r):DD r 7=some ((⟨7,(wrd r),noB,Ac,0,noB,AU,BU⟩:AV),runF [.m] r):=by
 unfold DD
 rw [if_neg (by decide),if_neg (by decide)]
 rw [name_eq,Option.bind_some]
 dsimp only
 rw [if_neg (by decide)]
 rw [if_neg (by decide)]
 rw [if_neg (by decide)]
 rw [if_neg (by decide)]
 rfl
theorem pp_clear (hsp:splitB line 0=W_clear::l)(hz:line.size≤1000000)(hs:∀a∈l,a.size≤1000000):BG line=some (if good (runF [.n,.m] ⟨l,false⟩)=true then ((⟨1,(Au (wrd ⟨l,false⟩)).1,0,0,0,0,0,(⟨7,(wrd (nxt .n ⟨l,false⟩)),noB,Ac,0,noB,AU,BU⟩:AV)⟩:Ar),0) else (Be,4)):=by
 have h:Sm ⟨l,false⟩:=hs
 unfold BG
 rw [AL hz,hsp,CG,Option.bind_some]
 dsimp only
 rw [kDeeds_clear,Option.bind_some,if_pos (by decide),DU h,Option.bind_some]
 dsimp only
 rw [dp_clear (h.nxt .n),Option.bind_some]
 exact fin_eq
theorem rr_clear (hsp:splitB line 0=W_clear::l)(hz:line.size≤1000000)(hs:∀a∈l,a.size≤1000000):∃z,BO line=some (z,okF [.n,.m] l)∧(okF [.n,.m] l=false→z=Be)∧(okF [.n,.m] l=true→z=(⟨1,(Au (wrd ⟨l,false⟩)).1,0,0,0,0,0,(⟨7,(wrd (nxt .n ⟨l,false⟩)),noB,Ac,0,noB,AU,BU⟩:AV)⟩:Ar)):=by
 obtain ⟨g,h1,h2⟩:=Dv l (⟨#[119,99]⟩:ByteArray) (by decide) hs
 rw [show ksOf (⟨#[119,99]⟩:ByteArray)= [.n,.m] from by kernel_rfl] at h1 h2
 unfold BO
 rw [AL hz,hsp,Df,Option.bind_some,fdeeds_clear,Option.bind_some,if_pos (by decide),Dl,Option.bind_some]
 unfold Eo Es
 rw [if_neg (by decide),show idx Cm 7=some (⟨W_clear,(⟨#[119,99]⟩:ByteArray)⟩:Bd) from rfl,Option.bind_some]
 dsimp only
 rw [h1,Option.bind_some]
 cases hb:okF [.n,.m] l with
 | false=>exact ⟨Be,by dsimp only;rw [if_pos (by decide),Option.bind_some];rfl,fun _=>rfl,fun h=>by cases h⟩
 | true=>
  obtain rfl:=h2 hb
  rcases l with _ | ⟨a,_ | ⟨b,_ | ⟨u,l⟩⟩⟩
  ·simp [okF] at hb
  ·simp [okF] at hb
  ·refine ⟨_,by dsimp only;rw [if_neg (by decide)];simp [gotF,addK,idx,Ej,D9,Dn,BZ];rfl,fun h=>(by cases h),fun _=>?_⟩
   first | rfl | simp [wrd,nxt]
  ·simp [okF] at hb
theorem mw_clear {a b:ByteArray}(hb:okF [.n,.m] [a,b] = true):Ce (⟨1,(Au a).1,0,0,0,0,0,(⟨7,b,noB,Ac,0,noB,AU,BU⟩:AV)⟩:Ar)=some (W_clear :: [a,b]):=by
 simp only [okF,Bool.and_true,Bool.and_eq_true] at hb
 obtain ⟨qa,qb⟩:=hb
 unfold Ce EH
 simp [vDeeds_clear,BF,AL (Bz qa).2,(Bz qa).1]
theorem line_clear (hsp:splitB line 0=W_clear::l)(hz:line.size≤1000000)(hs:∀a∈l,a.size≤1000000):DT line:=by
 refine Eg (pp_clear hsp hz hs) (rr_clear hsp hz hs) fun hb=>⟨?_,rfl,rfl,rfl⟩
 rw [hsp]
 rcases l with _ | ⟨a,_ | ⟨b,_ | ⟨u,l⟩⟩⟩
 ·simp [okF] at hb
 ·simp [okF] at hb
 ·exact mw_clear hb
 ·simp [okF] at hb
theorem dp_switch {r:A8}(h:Sm r):DD r 9=some ((⟨9,noB,noB,Ac,0,noB,((Cj (wrd r)).getD AU),BU⟩:AV),runF [.t] r):=by
 unfold DD
 rw [if_neg (by decide),if_pos rfl]
 rw [tag_eq h,Option.bind_some]
 rfl
theorem pp_switch (hsp:splitB line 0=W_switch::l)(hz:line.size≤1000000)(hs:∀a∈l,a.size≤1000000):BG line=some (if good (runF [.n,.t] ⟨l,false⟩)=true then ((⟨1,(Au (wrd ⟨l,false⟩)).1,0,0,0,0,0,(⟨9,noB,noB,Ac,0,noB,((Cj (wrd (nxt .n ⟨l,false⟩))).getD AU),BU⟩:AV)⟩:Ar),0) else (Be,4)):=by
 have h:Sm ⟨l,false⟩:=hs
 unfold BG
 rw [AL hz,hsp,CG,Option.bind_some]
 dsimp only
 rw [kDeeds_switch,Option.bind_some,if_pos (by decide),DU h,Option.bind_some]
 dsimp only
 rw [dp_switch (h.nxt .n),Option.bind_some]
 exact fin_eq
theorem rr_switch (hsp:splitB line 0=W_switch::l)(hz:line.size≤1000000)(hs:∀a∈l,a.size≤1000000):∃z,BO line=some (z,okF [.n,.t] l)∧(okF [.n,.t] l=false→z=Be)∧(okF [.n,.t] l=true→z=(⟨1,(Au (wrd ⟨l,false⟩)).1,0,0,0,0,0,(⟨9,noB,noB,Ac,0,noB,((Cj (wrd (nxt .n ⟨l,false⟩))).getD AU),BU⟩:AV)⟩:Ar)):=by
 obtain ⟨g,h1,h2⟩:=Dv l (⟨#[119,116]⟩:ByteArray) (by decide) hs
 rw [show ksOf (⟨#[119,116]⟩:ByteArray)= [.n,.t] from by kernel_rfl] at h1 h2
 unfold BO
 rw [AL hz,hsp,Df,Option.bind_some,fdeeds_switch,Option.bind_some,if_pos (by decide),Dl,Option.bind_some]
 unfold Eo Es
 rw [if_neg (by decide),show idx Cm 9=some (⟨W_switch,(⟨#[119,116]⟩:ByteArray)⟩:Bd) from rfl,Option.bind_some]
 dsimp only
 rw [h1,Option.bind_some]
 cases hb:okF [.n,.t] l with
 | false=>exact ⟨Be,by dsimp only;rw [if_pos (by decide),Option.bind_some];rfl,fun _=>rfl,fun h=>by cases h⟩
 | true=>
  obtain rfl:=h2 hb
  rcases l with _ | ⟨a,_ | ⟨b,_ | ⟨u,l⟩⟩⟩
  ·simp [okF] at hb
  ·simp [okF] at hb
  ·refine ⟨_,by dsimp only;rw [if_neg (by decide)];simp [gotF,addK,idx,Ej,D9,Dn,BZ];rfl,fun h=>(by cases h),fun _=>?_⟩
   first | rfl | simp [wrd,nxt]
  ·simp [okF] at hb
theorem mw_switch {a b:ByteArray}(hb:okF [.n,.t] [a,b] = true):Ce (⟨1,(Au a).1,0,0,0,0,0,(⟨9,noB,noB,Ac,0,noB,((Cj b).getD AU),BU⟩:AV)⟩:Ar)=some (W_switch :: [a,b]):=by
 simp only [okF,Bool.and_true,Bool.and_eq_true] at hb
 obtain ⟨qa,qb⟩:=hb
 unfold Ce EH
 simp [vDeeds_switch,BF,AL (Bz qa).2,(Bz qa).1,AL (tag_back9 qb).1,(tag_back9 qb).2]
theorem line_switch (hsp:splitB line 0=W_switch::l)(hz:line.size≤1000000)(hs:∀a∈l,a.size≤1000000):DT line:=by
 refine Eg (pp_switch hsp hz hs) (rr_switch hsp hz hs) fun hb=>⟨?_,rfl,rfl,rfl⟩
 rw [hsp]
 rcases l with _ | ⟨a,_ | ⟨b,_ | ⟨u,l⟩⟩⟩
 ·simp [okF] at hb
 ·simp [okF] at hb
 ·exact mw_switch hb
 ·simp [okF] at hb
theorem dp_view {r:A8}(h:Sm r):DD r 10=some ((⟨10,(wrd r),noB,Ac,0,noB,AU,BU⟩:AV),runF [.m] r):=by
 unfold DD
 rw [if_neg (by decide),if_neg (by decide)]
 rw [name_eq,Option.bind_some]
 dsimp only
 rw [if_neg (by decide)]
 rw [if_neg (by decide)]
 rw [if_neg (by decide)]
 rw [if_neg (by decide)]
 rfl
theorem pp_view (hsp:splitB line 0=W_view::l)(hz:line.size≤1000000)(hs:∀a∈l,a.size≤1000000):BG line=some (if good (runF [.n,.m] ⟨l,false⟩)=true then ((⟨1,(Au (wrd ⟨l,false⟩)).1,0,0,0,0,0,(⟨10,(wrd (nxt .n ⟨l,false⟩)),noB,Ac,0,noB,AU,BU⟩:AV)⟩:Ar),0) else (Be,4)):=by
 have h:Sm ⟨l,false⟩:=hs
 unfold BG
 rw [AL hz,hsp,CG,Option.bind_some]
 dsimp only
 rw [kDeeds_view,Option.bind_some,if_pos (by decide),DU h,Option.bind_some]
 dsimp only
 rw [dp_view (h.nxt .n),Option.bind_some]
 exact fin_eq
theorem rr_view (hsp:splitB line 0=W_view::l)(hz:line.size≤1000000)(hs:∀a∈l,a.size≤1000000):∃z,BO line=some (z,okF [.n,.m] l)∧(okF [.n,.m] l=false→z=Be)∧(okF [.n,.m] l=true→z=(⟨1,(Au (wrd ⟨l,false⟩)).1,0,0,0,0,0,(⟨10,(wrd (nxt .n ⟨l,false⟩)),noB,Ac,0,noB,AU,BU⟩:AV)⟩:Ar)):=by
 obtain ⟨g,h1,h2⟩:=Dv l (⟨#[119,99]⟩:ByteArray) (by decide) hs
 rw [show ksOf (⟨#[119,99]⟩:ByteArray)= [.n,.m] from by kernel_rfl] at h1 h2
 unfold BO
 rw [AL hz,hsp,Df,Option.bind_some,fdeeds_view,Option.bind_some,if_pos (by decide),Dl,Option.bind_some]
 unfold Eo Es
 rw [if_neg (by decide),show idx Cm 10=some (⟨W_view,(⟨#[119,99]⟩:ByteArray)⟩:Bd) from rfl,Option.bind_some]
 dsimp only
 rw [h1,Option.bind_some]
 cases hb:okF [.n,.m] l with
 | false=>exact ⟨Be,by dsimp only;rw [if_pos (by decide),Option.bind_some];rfl,fun _=>rfl,fun h=>by cases h⟩
 | true=>
  obtain rfl:=h2 hb
  rcases l with _ | ⟨a,_ | ⟨b,_ | ⟨u,l⟩⟩⟩
  ·simp [okF] at hb
  ·simp [okF] at hb
  ·refine ⟨_,by dsimp only;rw [if_neg (by decide)];simp [gotF,addK,idx,Ej,D9,Dn,BZ];rfl,fun h=>(by cases h),fun _=>?_⟩
   first | rfl | simp [wrd,nxt]
  ·simp [okF] at hb
theorem mw_view {a b:ByteArray}(hb:okF [.n,.m] [a,b] = true):Ce (⟨1,(Au a).1,0,0,0,0,0,(⟨10,b,noB,Ac,0,noB,AU,BU⟩:AV)⟩:Ar)=some (W_view :: [a,b]):=by
 simp only [okF,Bool.and_true,Bool.and_eq_true] at hb
 obtain ⟨qa,qb⟩:=hb
 unfold Ce EH
 simp [vDeeds_view,BF,AL (Bz qa).2,(Bz qa).1]
theorem line_view (hsp:splitB line 0=W_view::l)(hz:line.size≤1000000)(hs:∀a∈l,a.size≤1000000):DT line:=by
 refine Eg (pp_view hsp hz hs) (rr_view hsp hz hs) fun hb=>⟨?_,rfl,rfl,rfl⟩
 rw [hsp]
 rcases l with _ | ⟨a,_ | ⟨b,_ | ⟨u,l⟩⟩⟩
 ·simp [okF] at hb
 ·simp [okF] at hb
 ·exact mw_view hb
 ·simp [okF] at hb
theorem dp_at {r:A8}(h:Sm r):DD r 11=some ((⟨11,(wrd r),noB,Ac,0,noB,((Cj (wrd (nxt .m r))).getD AU),BU⟩:AV),runF [.m,.t] r):=by
 unfold DD
 rw [if_neg (by decide),if_neg (by decide)]
 rw [name_eq,Option.bind_some]
 dsimp only
 rw [if_neg (by decide)]
 rw [if_neg (by decide)]
 rw [if_neg (by decide)]
 rw [if_pos (by decide)]
 rw [tag_eq (h.nxt .m),Option.bind_some]
 dsimp only
 rfl
theorem pp_at (hsp:splitB line 0=W_at::l)(hz:line.size≤1000000)(hs:∀a∈l,a.size≤1000000):BG line=some (if good (runF [.n,.m,.t] ⟨l,false⟩)=true then ((⟨1,(Au (wrd ⟨l,false⟩)).1,0,0,0,0,0,(⟨11,(wrd (nxt .n ⟨l,false⟩)),noB,Ac,0,noB,((Cj (wrd (nxt .m (nxt .n ⟨l,false⟩)))).getD AU),BU⟩:AV)⟩:Ar),0) else (Be,4)):=by
 have h:Sm ⟨l,false⟩:=hs
 unfold BG
 rw [AL hz,hsp,CG,Option.bind_some]
 dsimp only
 rw [kDeeds_at,Option.bind_some,if_pos (by decide),DU h,Option.bind_some]
 dsimp only
 rw [dp_at (h.nxt .n),Option.bind_some]
 exact fin_eq
theorem rr_at (hsp:splitB line 0=W_at::l)(hz:line.size≤1000000)(hs:∀a∈l,a.size≤1000000):∃z,BO line=some (z,okF [.n,.m,.t] l)∧(okF [.n,.m,.t] l=false→z=Be)∧(okF [.n,.m,.t] l=true→z=(⟨1,(Au (wrd ⟨l,false⟩)).1,0,0,0,0,0,(⟨11,(wrd (nxt .n ⟨l,false⟩)),noB,Ac,0,noB,((Cj (wrd (nxt .m (nxt .n ⟨l,false⟩)))).getD AU),BU⟩:AV)⟩:Ar)):=by
 obtain ⟨g,h1,h2⟩:=Dv l (⟨#[119,99,116]⟩:ByteArray) (by decide) hs
 rw [show ksOf (⟨#[119,99,116]⟩:ByteArray)= [.n,.m,.t] from by kernel_rfl] at h1 h2
 unfold BO
 rw [AL hz,hsp,Df,Option.bind_some,fdeeds_at,Option.bind_some,if_pos (by decide),Dl,Option.bind_some]
 unfold Eo Es
 rw [if_neg (by decide),show idx Cm 11=some (⟨W_at,(⟨#[119,99,116]⟩:ByteArray)⟩:Bd) from rfl,Option.bind_some]
 dsimp only
 rw [h1,Option.bind_some]
 cases hb:okF [.n,.m,.t] l with
 | false=>exact ⟨Be,by dsimp only;rw [if_pos (by decide),Option.bind_some];rfl,fun _=>rfl,fun h=>by cases h⟩
 | true=>
  obtain rfl:=h2 hb
  rcases l with _ | ⟨a,_ | ⟨b,_ | ⟨c,_ | ⟨u,l⟩⟩⟩⟩
  ·simp [okF] at hb
  ·simp [okF] at hb
  ·simp [okF] at hb
  ·refine ⟨_,by dsimp only;rw [if_neg (by decide)];simp [gotF,addK,idx,Ej,D9,Dn,BZ];rfl,fun h=>(by cases h),fun _=>?_⟩
   first | rfl | simp [wrd,nxt]
  ·simp [okF] at hb
theorem mw_at {a b c:ByteArray}(hb:okF [.n,.m,.t] [a,b,c] = true):Ce (⟨1,(Au a).1,0,0,0,0,0,(⟨11,b,noB,Ac,0,noB,((Cj c).getD AU),BU⟩:AV)⟩:Ar)=some (W_at :: [a,b,c]):=by
 simp only [okF,Bool.and_true,Bool.and_eq_true] at hb
 obtain ⟨qa,qb,qc⟩:=hb
 unfold Ce EH
 simp [vDeeds_at,BF,AL (Bz qa).2,(Bz qa).1,AL (tag_back9 qc).1,(tag_back9 qc).2]
theorem line_at (hsp:splitB line 0=W_at::l)(hz:line.size≤1000000)(hs:∀a∈l,a.size≤1000000):DT line:=by
 refine Eg (pp_at hsp hz hs) (rr_at hsp hz hs) fun hb=>⟨?_,rfl,rfl,rfl⟩
 rw [hsp]
 rcases l with _ | ⟨a,_ | ⟨b,_ | ⟨c,_ | ⟨u,l⟩⟩⟩⟩
 ·simp [okF] at hb
 ·simp [okF] at hb
 ·simp [okF] at hb
 ·exact mw_at hb
 ·simp [okF] at hb
theorem dp_project {r:A8}(h:Sm r):DD r 12=some ((⟨12,(wrd r),noB,Ac,0,noB,((Cj (wrd (nxt .m r))).getD AU),BU⟩:AV),runF [.m,.t] r):=by
 unfold DD
 rw [if_neg (by decide),if_neg (by decide)]
 rw [name_eq,Option.bind_some]
 dsimp only
 rw [if_neg (by decide)]
 rw [if_neg (by decide)]
 rw [if_neg (by decide)]
 rw [if_pos (by decide)]
 rw [tag_eq (h.nxt .m),Option.bind_some]
 dsimp only
 rfl
theorem pp_project (hsp:splitB line 0=W_project::l)(hz:line.size≤1000000)(hs:∀a∈l,a.size≤1000000):BG line=some (if good (runF [.n,.m,.t] ⟨l,false⟩)=true then ((⟨1,(Au (wrd ⟨l,false⟩)).1,0,0,0,0,0,(⟨12,(wrd (nxt .n ⟨l,false⟩)),noB,Ac,0,noB,((Cj (wrd (nxt .m (nxt .n ⟨l,false⟩)))).getD AU),BU⟩:AV)⟩:Ar),0) else (Be,4)):=by
 have h:Sm ⟨l,false⟩:=hs
 unfold BG
 rw [AL hz,hsp,CG,Option.bind_some]
 dsimp only
 rw [kDeeds_project,Option.bind_some,if_pos (by decide),DU h,Option.bind_some]
 dsimp only
 rw [dp_project (h.nxt .n),Option.bind_some]
 exact fin_eq
theorem rr_project (hsp:splitB line 0=W_project::l)(hz:line.size≤1000000)(hs:∀a∈l,a.size≤1000000):∃z,BO line=some (z,okF [.n,.m,.t] l)∧(okF [.n,.m,.t] l=false→z=Be)∧(okF [.n,.m,.t] l=true→z=(⟨1,(Au (wrd ⟨l,false⟩)).1,0,0,0,0,0,(⟨12,(wrd (nxt .n ⟨l,false⟩)),noB,Ac,0,noB,((Cj (wrd (nxt .m (nxt .n ⟨l,false⟩)))).getD AU),BU⟩:AV)⟩:Ar)):=by
 obtain ⟨g,h1,h2⟩:=Dv l (⟨#[119,99,116]⟩:ByteArray) (by decide) hs
 rw [show ksOf (⟨#[119,99,116]⟩:ByteArray)= [.n,.m,.t] from by kernel_rfl] at h1 h2
 unfold BO
 rw [AL hz,hsp,Df,Option.bind_some,fdeeds_project,Option.bind_some,if_pos (by decide),Dl,Option.bind_some]
 unfold Eo Es
 rw [if_neg (by decide),show idx Cm 12=some (⟨W_project,(⟨#[119,99,116]⟩:ByteArray)⟩:Bd) from rfl,Option.bind_some]
 dsimp only
 rw [h1,Option.bind_some]
 cases hb:okF [.n,.m,.t] l with
 | false=>exact ⟨Be,by dsimp only;rw [if_pos (by decide),Option.bind_some];rfl,fun _=>rfl,fun h=>by cases h⟩
 | true=>
  obtain rfl:=h2 hb
  rcases l with _ | ⟨a,_ | ⟨b,_ | ⟨c,_ | ⟨u,l⟩⟩⟩⟩
  ·simp [okF] at hb
  ·simp [okF] at hb
  ·simp [okF] at hb
  ·refine ⟨_,by dsimp only;rw [if_neg (by decide)];simp [gotF,addK,idx,Ej,D9,Dn,BZ];rfl,fun h=>(by cases h),fun _=>?_⟩
   first | rfl | simp [wrd,nxt]
  ·simp [okF] at hb
theorem mw_project {a b c:ByteArray}(hb:okF [.n,.m,.t] [a,b,c] = true):Ce (⟨1,(Au a).1,0,0,0,0,0,(⟨12,b,noB,Ac,0,noB,((Cj c).getD AU),BU⟩:AV)⟩:Ar)=some (W_project :: [a,b,c]):=by
 simp only [okF,Bool.and_true,Bool.and_eq_true] at hb
 obtain ⟨qa,qb,qc⟩:=hb
 unfold Ce EH
 simp [vDeeds_project,BF,AL (Bz qa).2,(Bz qa).1,AL (tag_back9 qc).1,(tag_back9 qc).2]
theorem line_project (hsp:splitB line 0=W_project::l)(hz:line.size≤1000000)(hs:∀a∈l,a.size≤1000000):DT line:=by
 refine Eg (pp_project hsp hz hs) (rr_project hsp hz hs) fun hb=>⟨?_,rfl,rfl,rfl⟩
 rw [hsp]
 rcases l with _ | ⟨a,_ | ⟨b,_ | ⟨c,_ | ⟨u,l⟩⟩⟩⟩
 ·simp [okF] at hb
 ·simp [okF] at hb
 ·simp [okF] at hb
 ·exact mw_project hb
 ·simp [okF] at hb
theorem pp_hello (hsp:splitB line 0=W_hello::l)(hz:line.size≤1000000)(hs:∀a∈l,a.size≤1000000):BG line=some (if good (runF [.n,.n] ⟨l,false⟩)=true then ((⟨2,(Au (wrd ⟨l,false⟩)).1,(Au (wrd (nxt .n ⟨l,false⟩))).1,0,0,0,0,Dx⟩:Ar),0) else (Be,4)):=by
 have h:Sm ⟨l,false⟩:=hs
 unfold BG
 rw [AL hz,hsp,CG,Option.bind_some]
 dsimp only
 rw [kDeeds_hello,Option.bind_some,if_neg (by decide),kMoves_hello,Option.bind_some]
 rw [if_pos (by decide)]
 rw [DU h,Option.bind_some]
 dsimp only
 rw [DU (h.nxt .n),Option.bind_some]
 dsimp only
 exact fin_eq
theorem rr_hello (hsp:splitB line 0=W_hello::l)(hz:line.size≤1000000)(hs:∀a∈l,a.size≤1000000):∃z,BO line=some (z,okF [.n,.n] l)∧(okF [.n,.n] l=false→z=Be)∧(okF [.n,.n] l=true→z=(⟨2,(Au (wrd ⟨l,false⟩)).1,(Au (wrd (nxt .n ⟨l,false⟩))).1,0,0,0,0,Dx⟩:Ar)):=by
 obtain ⟨g,h1,h2⟩:=Dv l (⟨#[119,119]⟩:ByteArray) (by decide) hs
 rw [show ksOf (⟨#[119,119]⟩:ByteArray)= [.n,.n] from by kernel_rfl] at h1 h2
 unfold BO
 rw [AL hz,hsp,Df,Option.bind_some,fdeeds_hello,Option.bind_some,if_neg (by decide),Option.bind_some,fmoves_hello,Option.bind_some,if_neg (by decide),Dl,Option.bind_some,show idx DF 2=some (⟨W_hello,(⟨#[119,119]⟩:ByteArray)⟩:Bd) from rfl,Option.bind_some]
 dsimp only
 rw [h1,Option.bind_some]
 cases hb:okF [.n,.n] l with
 | false=>exact ⟨Be,by dsimp only;rw [if_pos (by decide)],fun _=>rfl,fun h=>by cases h⟩
 | true=>
  obtain rfl:=h2 hb
  rcases l with _ | ⟨a,_ | ⟨b,_ | ⟨u,l⟩⟩⟩
  ·simp [okF] at hb
  ·simp [okF] at hb
  ·refine ⟨_,by dsimp only;rw [if_neg (by decide)];simp [gotF,addK,idx];rfl,fun h=>(by cases h),fun _=>?_⟩
   first | rfl | simp [wrd,nxt]
  ·simp [okF] at hb
theorem mw_hello {a b:ByteArray}(hb:okF [.n,.n] [a,b] = true):Ce (⟨2,(Au a).1,(Au b).1,0,0,0,0,Dx⟩:Ar)=some (W_hello :: [a,b]):=by
 simp only [okF,Bool.and_true,Bool.and_eq_true] at hb
 obtain ⟨qa,qb⟩:=hb
 unfold Ce
 simp [vMoves_hello,Ew,EP,AL,BF,AL (Bz qa).2,(Bz qa).1,AL (Bz qb).2,(Bz qb).1]
theorem line_hello (hsp:splitB line 0=W_hello::l)(hz:line.size≤1000000)(hs:∀a∈l,a.size≤1000000):DT line:=by
 refine Eg (pp_hello hsp hz hs) (rr_hello hsp hz hs) fun hb=>⟨?_,rfl,rfl,rfl⟩
 rw [hsp]
 rcases l with _ | ⟨a,_ | ⟨b,_ | ⟨u,l⟩⟩⟩
 ·simp [okF] at hb
 ·simp [okF] at hb
 ·exact mw_hello hb
 ·simp [okF] at hb
theorem pp_deliver (hsp:splitB line 0=Ez::l)(hz:line.size≤1000000)(hs:∀a∈l,a.size≤1000000):BG line=some (if good (runF [.n] ⟨l,false⟩)=true then ((⟨3,0,0,(Au (wrd ⟨l,false⟩)).1,0,0,0,Dx⟩:Ar),0) else (Be,4)):=by
 have h:Sm ⟨l,false⟩:=hs
 unfold BG
 rw [AL hz,hsp,CG,Option.bind_some]
 dsimp only
 rw [kDeeds_deliver,Option.bind_some,if_neg (by decide),kMoves_deliver,Option.bind_some]
 rw [if_neg (by decide)]
 rw [if_pos (by decide)]
 rw [DU h,Option.bind_some]
 dsimp only
 exact fin_eq
theorem rr_deliver (hsp:splitB line 0=Ez::l)(hz:line.size≤1000000)(hs:∀a∈l,a.size≤1000000):∃z,BO line=some (z,okF [.n] l)∧(okF [.n] l=false→z=Be)∧(okF [.n] l=true→z=(⟨3,0,0,(Au (wrd ⟨l,false⟩)).1,0,0,0,Dx⟩:Ar)):=by
 obtain ⟨g,h1,h2⟩:=Dv l (⟨#[110]⟩:ByteArray) (by decide) hs
 rw [show ksOf (⟨#[110]⟩:ByteArray)= [.n] from by kernel_rfl] at h1 h2
 unfold BO
 rw [AL hz,hsp,Df,Option.bind_some,fdeeds_deliver,Option.bind_some,if_neg (by decide),Option.bind_some,fmoves_deliver,Option.bind_some,if_neg (by decide),Dl,Option.bind_some,show idx DF 3=some (⟨Ez,(⟨#[110]⟩:ByteArray)⟩:Bd) from rfl,Option.bind_some]
 dsimp only
 rw [h1,Option.bind_some]
 cases hb:okF [.n] l with
 | false=>exact ⟨Be,by dsimp only;rw [if_pos (by decide)],fun _=>rfl,fun h=>by cases h⟩
 | true=>
  obtain rfl:=h2 hb
  rcases l with _ | ⟨a,_ | ⟨u,l⟩⟩
  ·simp [okF] at hb
  ·refine ⟨_,by dsimp only;rw [if_neg (by decide)];simp [gotF,addK,idx];rfl,fun h=>(by cases h),fun _=>?_⟩
   first | rfl | simp [wrd,nxt]
  ·simp [okF] at hb
theorem mw_deliver {a:ByteArray}(hb:okF [.n] [a] = true):Ce (⟨3,0,0,(Au a).1,0,0,0,Dx⟩:Ar)=some (Ez :: [a]):=by
 simp only [okF,Bool.and_true,Bool.and_eq_true] at hb
 have qa:=hb
 unfold Ce
 simp [vMoves_deliver,Ew,EP,AL,BF,AL (Bz qa).2,(Bz qa).1]
theorem line_deliver (hsp:splitB line 0=Ez::l)(hz:line.size≤1000000)(hs:∀a∈l,a.size≤1000000):DT line:=by
 refine Eg (pp_deliver hsp hz hs) (rr_deliver hsp hz hs) fun hb=>⟨?_,rfl,rfl,rfl⟩
 rw [hsp]
 rcases l with _ | ⟨a,_ | ⟨u,l⟩⟩
 ·simp [okF] at hb
 ·exact mw_deliver hb
 ·simp [okF] at hb
theorem pp_lose (hsp:splitB line 0=W_lose::l)(hz:line.size≤1000000)(hs:∀a∈l,a.size≤1000000):BG line=some (if good (runF [.n] ⟨l,false⟩)=true then ((⟨4,0,0,(Au (wrd ⟨l,false⟩)).1,0,0,0,Dx⟩:Ar),0) else (Be,4)):=by
 have h:Sm ⟨l,false⟩:=hs
 unfold BG
 rw [AL hz,hsp,CG,Option.bind_some]
 dsimp only
 rw [kDeeds_lose,Option.bind_some,if_neg (by decide),kMoves_lose,Option.bind_some]
 rw [if_neg (by decide)]
 rw [if_pos (by decide)]
 rw [DU h,Option.bind_some]
 dsimp only
 exact fin_eq
theorem rr_lose (hsp:splitB line 0=W_lose::l)(hz:line.size≤1000000)(hs:∀a∈l,a.size≤1000000):∃z,BO line=some (z,okF [.n] l)∧(okF [.n] l=false→z=Be)∧(okF [.n] l=true→z=(⟨4,0,0,(Au (wrd ⟨l,false⟩)).1,0,0,0,Dx⟩:Ar)):=by
 obtain ⟨g,h1,h2⟩:=Dv l (⟨#[110]⟩:ByteArray) (by decide) hs
 rw [show ksOf (⟨#[110]⟩:ByteArray)= [.n] from by kernel_rfl] at h1 h2
 unfold BO
 rw [AL hz,hsp,Df,Option.bind_some,fdeeds_lose,Option.bind_some,if_neg (by decide),Option.bind_some,fmoves_lose,Option.bind_some,if_neg (by decide),Dl,Option.bind_some,show idx DF 4=some (⟨W_lose,(⟨#[110]⟩:ByteArray)⟩:Bd) from rfl,Option.bind_some]
 dsimp only
 rw [h1,Option.bind_some]
 cases hb:okF [.n] l with
 | false=>exact ⟨Be,by dsimp only;rw [if_pos (by decide)],fun _=>rfl,fun h=>by cases h⟩
 | true=>
  obtain rfl:=h2 hb
  rcases l with _ | ⟨a,_ | ⟨u,l⟩⟩
  ·simp [okF] at hb
  ·refine ⟨_,by dsimp only;rw [if_neg (by decide)];simp [gotF,addK,idx];rfl,fun h=>(by cases h),fun _=>?_⟩
   first | rfl | simp [wrd,nxt]
  ·simp [okF] at hb
theorem mw_lose {a:ByteArray}(hb:okF [.n] [a] = true):Ce (⟨4,0,0,(Au a).1,0,0,0,Dx⟩:Ar)=some (W_lose :: [a]):=by
 simp only [okF,Bool.and_true,Bool.and_eq_true] at hb
 have qa:=hb
 unfold Ce
 simp [vMoves_lose,Ew,EP,AL,BF,AL (Bz qa).2,(Bz qa).1]
theorem line_lose (hsp:splitB line 0=W_lose::l)(hz:line.size≤1000000)(hs:∀a∈l,a.size≤1000000):DT line:=by
 refine Eg (pp_lose hsp hz hs) (rr_lose hsp hz hs) fun hb=>⟨?_,rfl,rfl,rfl⟩
 rw [hsp]
 rcases l with _ | ⟨a,_ | ⟨u,l⟩⟩
 ·simp [okF] at hb
 ·exact mw_lose hb
 ·simp [okF] at hb
theorem pp_double (hsp:splitB line 0=W_double::l)(hz:line.size≤1000000)(hs:∀a∈l,a.size≤1000000):BG line=some (if good (runF [.n] ⟨l,false⟩)=true then ((⟨5,0,0,(Au (wrd ⟨l,false⟩)).1,0,0,0,Dx⟩:Ar),0) else (Be,4)):=by
 have h:Sm ⟨l,false⟩:=hs
 unfold BG
 rw [AL hz,hsp,CG,Option.bind_some]
 dsimp only
 rw [kDeeds_double,Option.bind_some,if_neg (by decide),kMoves_double,Option.bind_some]
 rw [if_neg (by decide)]
 rw [if_pos (by decide)]
 rw [DU h,Option.bind_some]
 dsimp only
 exact fin_eq
theorem rr_double (hsp:splitB line 0=W_double::l)(hz:line.size≤1000000)(hs:∀a∈l,a.size≤1000000):∃z,BO line=some (z,okF [.n] l)∧(okF [.n] l=false→z=Be)∧(okF [.n] l=true→z=(⟨5,0,0,(Au (wrd ⟨l,false⟩)).1,0,0,0,Dx⟩:Ar)):=by
 obtain ⟨g,h1,h2⟩:=Dv l (⟨#[110]⟩:ByteArray) (by decide) hs
 rw [show ksOf (⟨#[110]⟩:ByteArray)= [.n] from by kernel_rfl] at h1 h2
 unfold BO
 rw [AL hz,hsp,Df,Option.bind_some,fdeeds_double,Option.bind_some,if_neg (by decide),Option.bind_some,fmoves_double,Option.bind_some,if_neg (by decide),Dl,Option.bind_some,show idx DF 5=some (⟨W_double,(⟨#[110]⟩:ByteArray)⟩:Bd) from rfl,Option.bind_some]
 dsimp only
 rw [h1,Option.bind_some]
 cases hb:okF [.n] l with
 | false=>exact ⟨Be,by dsimp only;rw [if_pos (by decide)],fun _=>rfl,fun h=>by cases h⟩
 | true=>
  obtain rfl:=h2 hb
  rcases l with _ | ⟨a,_ | ⟨u,l⟩⟩
  ·simp [okF] at hb
  ·refine ⟨_,by dsimp only;rw [if_neg (by decide)];simp [gotF,addK,idx];rfl,fun h=>(by cases h),fun _=>?_⟩
   first | rfl | simp [wrd,nxt]
  ·simp [okF] at hb
theorem mw_double {a:ByteArray}(hb:okF [.n] [a] = true):Ce (⟨5,0,0,(Au a).1,0,0,0,Dx⟩:Ar)=some (W_double :: [a]):=by
 simp only [okF,Bool.and_true,Bool.and_eq_true] at hb
 have qa:=hb
 unfold Ce
 simp [vMoves_double,Ew,EP,AL,BF,AL (Bz qa).2,(Bz qa).1]
theorem line_double (hsp:splitB line 0=W_double::l)(hz:line.size≤1000000)(hs:∀a∈l,a.size≤1000000):DT line:=by
 refine Eg (pp_double hsp hz hs) (rr_double hsp hz hs) fun hb=>⟨?_,rfl,rfl,rfl⟩
 rw [hsp]
 rcases l with _ | ⟨a,_ | ⟨u,l⟩⟩
 ·simp [okF] at hb
 ·exact mw_double hb
 ·simp [okF] at hb
theorem pp_cut (hsp:splitB line 0=W_cut::l)(hz:line.size≤1000000)(hs:∀a∈l,a.size≤1000000):BG line=some (if good (runF [.n,.n,.n] ⟨l,false⟩)=true then ((⟨6,0,0,0,(Au (wrd ⟨l,false⟩)).1,(Au (wrd (nxt .n ⟨l,false⟩))).1,(Au (wrd (nxt .n (nxt .n ⟨l,false⟩)))).1,Dx⟩:Ar),0) else (Be,4)):=by
 have h:Sm ⟨l,false⟩:=hs
 unfold BG
 rw [AL hz,hsp,CG,Option.bind_some]
 dsimp only
 rw [kDeeds_cut,Option.bind_some,if_neg (by decide),kMoves_cut,Option.bind_some]
 rw [if_neg (by decide)]
 rw [if_neg (by decide)]
 rw [if_pos (by decide)]
 rw [number_eq h,Option.bind_some]
 dsimp only
 rw [number_eq (h.nxt .n),Option.bind_some]
 dsimp only
 rw [number_eq ((h.nxt .n).nxt .n),Option.bind_some]
 dsimp only
 exact fin_eq
theorem rr_cut (hsp:splitB line 0=W_cut::l)(hz:line.size≤1000000)(hs:∀a∈l,a.size≤1000000):∃z,BO line=some (z,okF [.n,.n,.n] l)∧(okF [.n,.n,.n] l=false→z=Be)∧(okF [.n,.n,.n] l=true→z=(⟨6,0,0,0,(Au (wrd ⟨l,false⟩)).1,(Au (wrd (nxt .n ⟨l,false⟩))).1,(Au (wrd (nxt .n (nxt .n ⟨l,false⟩)))).1,Dx⟩:Ar)):=by
 obtain ⟨g,h1,h2⟩:=Dv l (⟨#[110,110,110]⟩:ByteArray) (by decide) hs
 rw [show ksOf (⟨#[110,110,110]⟩:ByteArray)= [.n,.n,.n] from by kernel_rfl] at h1 h2
 unfold BO
 rw [AL hz,hsp,Df,Option.bind_some,fdeeds_cut,Option.bind_some,if_neg (by decide),Option.bind_some,fmoves_cut,Option.bind_some,if_neg (by decide),Dl,Option.bind_some,show idx DF 6=some (⟨W_cut,(⟨#[110,110,110]⟩:ByteArray)⟩:Bd) from rfl,Option.bind_some]
 dsimp only
 rw [h1,Option.bind_some]
 cases hb:okF [.n,.n,.n] l with
 | false=>exact ⟨Be,by dsimp only;rw [if_pos (by decide)],fun _=>rfl,fun h=>by cases h⟩
 | true=>
  obtain rfl:=h2 hb
  rcases l with _ | ⟨a,_ | ⟨b,_ | ⟨c,_ | ⟨u,l⟩⟩⟩⟩
  ·simp [okF] at hb
  ·simp [okF] at hb
  ·simp [okF] at hb
  ·refine ⟨_,by dsimp only;rw [if_neg (by decide)];simp [gotF,addK,idx];rfl,fun h=>(by cases h),fun _=>?_⟩
   first | rfl | simp [wrd,nxt]
  ·simp [okF] at hb
theorem mw_cut {a b c:ByteArray}(hb:okF [.n,.n,.n] [a,b,c] = true):Ce (⟨6,0,0,0,(Au a).1,(Au b).1,(Au c).1,Dx⟩:Ar)=some (W_cut :: [a,b,c]):=by
 simp only [okF,Bool.and_true,Bool.and_eq_true] at hb
 obtain ⟨qa,qb,qc⟩:=hb
 unfold Ce
 simp [vMoves_cut,Ew,EP,AL,BF,AL (Bz qa).2,(Bz qa).1,AL (Bz qb).2,(Bz qb).1,AL (Bz qc).2,(Bz qc).1]
theorem line_cut (hsp:splitB line 0=W_cut::l)(hz:line.size≤1000000)(hs:∀a∈l,a.size≤1000000):DT line:=by
 refine Eg (pp_cut hsp hz hs) (rr_cut hsp hz hs) fun hb=>⟨?_,rfl,rfl,rfl⟩
 rw [hsp]
 rcases l with _ | ⟨a,_ | ⟨b,_ | ⟨c,_ | ⟨u,l⟩⟩⟩⟩
 ·simp [okF] at hb
 ·simp [okF] at hb
 ·simp [okF] at hb
 ·exact mw_cut hb
 ·simp [okF] at hb
theorem pp_fuse (hsp:splitB line 0=W_fuse::l)(hz:line.size≤1000000)(hs:∀a∈l,a.size≤1000000):BG line=some (if good (runF [.n,.n] ⟨l,false⟩)=true then ((⟨7,(Au (wrd ⟨l,false⟩)).1,0,(Au (wrd (nxt .n ⟨l,false⟩))).1,0,0,0,Dx⟩:Ar),0) else (Be,4)):=by
 have h:Sm ⟨l,false⟩:=hs
 unfold BG
 rw [AL hz,hsp,CG,Option.bind_some]
 dsimp only
 rw [kDeeds_fuse,Option.bind_some,if_neg (by decide),kMoves_fuse,Option.bind_some]
 rw [if_neg (by decide)]
 rw [if_neg (by decide)]
 rw [if_neg (by decide)]
 rw [if_pos (by decide)]
 rw [DU h,Option.bind_some]
 dsimp only
 rw [DU (h.nxt .n),Option.bind_some]
 dsimp only
 exact fin_eq
theorem rr_fuse (hsp:splitB line 0=W_fuse::l)(hz:line.size≤1000000)(hs:∀a∈l,a.size≤1000000):∃z,BO line=some (z,okF [.n,.n] l)∧(okF [.n,.n] l=false→z=Be)∧(okF [.n,.n] l=true→z=(⟨7,(Au (wrd ⟨l,false⟩)).1,0,(Au (wrd (nxt .n ⟨l,false⟩))).1,0,0,0,Dx⟩:Ar)):=by
 obtain ⟨g,h1,h2⟩:=Dv l (⟨#[119,110]⟩:ByteArray) (by decide) hs
 rw [show ksOf (⟨#[119,110]⟩:ByteArray)= [.n,.n] from by kernel_rfl] at h1 h2
 unfold BO
 rw [AL hz,hsp,Df,Option.bind_some,fdeeds_fuse,Option.bind_some,if_neg (by decide),Option.bind_some,fmoves_fuse,Option.bind_some,if_neg (by decide),Dl,Option.bind_some,show idx DF 7=some (⟨W_fuse,(⟨#[119,110]⟩:ByteArray)⟩:Bd) from rfl,Option.bind_some]
 dsimp only
 rw [h1,Option.bind_some]
 cases hb:okF [.n,.n] l with
 | false=>exact ⟨Be,by dsimp only;rw [if_pos (by decide)],fun _=>rfl,fun h=>by cases h⟩
 | true=>
  obtain rfl:=h2 hb
  rcases l with _ | ⟨a,_ | ⟨b,_ | ⟨u,l⟩⟩⟩
  ·simp [okF] at hb
  ·simp [okF] at hb
  ·refine ⟨_,by dsimp only;rw [if_neg (by decide)];simp [gotF,addK,idx];rfl,fun h=>(by cases h),fun _=>?_⟩
   first | rfl | simp [wrd,nxt]
  ·simp [okF] at hb
theorem mw_fuse {a b:ByteArray}(hb:okF [.n,.n] [a,b] = true):Ce (⟨7,(Au a).1,0,(Au b).1,0,0,0,Dx⟩:Ar)=some (W_fuse :: [a,b]):=by
 simp only [okF,Bool.and_true,Bool.and_eq_true] at hb
 obtain ⟨qa,qb⟩:=hb
 unfold Ce
 simp [vMoves_fuse,Ew,EP,AL,BF,AL (Bz qa).2,(Bz qa).1,AL (Bz qb).2,(Bz qb).1]
theorem line_fuse (hsp:splitB line 0=W_fuse::l)(hz:line.size≤1000000)(hs:∀a∈l,a.size≤1000000):DT line:=by
 refine Eg (pp_fuse hsp hz hs) (rr_fuse hsp hz hs) fun hb=>⟨?_,rfl,rfl,rfl⟩
 rw [hsp]
 rcases l with _ | ⟨a,_ | ⟨b,_ | ⟨u,l⟩⟩⟩
 ·simp [okF] at hb
 ·simp [okF] at hb
 ·exact mw_fuse hb
 ·simp [okF] at hb
theorem pp_crash (hsp:splitB line 0=W_crash::l)(hz:line.size≤1000000)(hs:∀a∈l,a.size≤1000000):BG line=some (if good (runF [.n,.n] ⟨l,false⟩)=true then ((⟨8,(Au (wrd ⟨l,false⟩)).1,0,(Au (wrd (nxt .n ⟨l,false⟩))).1,0,0,0,Dx⟩:Ar),0) else (Be,4)):=by
 have h:Sm ⟨l,false⟩:=hs
 unfold BG
 rw [AL hz,hsp,CG,Option.bind_some]
 dsimp only
 rw [kDeeds_crash,Option.bind_some,if_neg (by decide),kMoves_crash,Option.bind_some]
 rw [if_neg (by decide)]
 rw [if_neg (by decide)]
 rw [if_neg (by decide)]
 rw [if_pos (by decide)]
 rw [DU h,Option.bind_some]
 dsimp only
 rw [DU (h.nxt .n),Option.bind_some]
 dsimp only
 exact fin_eq
theorem rr_crash (hsp:splitB line 0=W_crash::l)(hz:line.size≤1000000)(hs:∀a∈l,a.size≤1000000):∃z,BO line=some (z,okF [.n,.n] l)∧(okF [.n,.n] l=false→z=Be)∧(okF [.n,.n] l=true→z=(⟨8,(Au (wrd ⟨l,false⟩)).1,0,(Au (wrd (nxt .n ⟨l,false⟩))).1,0,0,0,Dx⟩:Ar)):=by
 obtain ⟨g,h1,h2⟩:=Dv l (⟨#[119,110]⟩:ByteArray) (by decide) hs
 rw [show ksOf (⟨#[119,110]⟩:ByteArray)= [.n,.n] from by kernel_rfl] at h1 h2
 unfold BO
 rw [AL hz,hsp,Df,Option.bind_some,fdeeds_crash,Option.bind_some,if_neg (by decide),Option.bind_some,fmoves_crash,Option.bind_some,if_neg (by decide),Dl,Option.bind_some,show idx DF 8=some (⟨W_crash,(⟨#[119,110]⟩:ByteArray)⟩:Bd) from rfl,Option.bind_some]
 dsimp only
 rw [h1,Option.bind_some]
 cases hb:okF [.n,.n] l with
 | false=>exact ⟨Be,by dsimp only;rw [if_pos (by decide)],fun _=>rfl,fun h=>by cases h⟩
 | true=>
  obtain rfl:=h2 hb
  rcases l with _ | ⟨a,_ | ⟨b,_ | ⟨u,l⟩⟩⟩
  ·simp [okF] at hb
  ·simp [okF] at hb
  ·refine ⟨_,by dsimp only;rw [if_neg (by decide)];simp [gotF,addK,idx];rfl,fun h=>(by cases h),fun _=>?_⟩
   first | rfl | simp [wrd,nxt]
  ·simp [okF] at hb
theorem mw_crash {a b:ByteArray}(hb:okF [.n,.n] [a,b] = true):Ce (⟨8,(Au a).1,0,(Au b).1,0,0,0,Dx⟩:Ar)=some (W_crash :: [a,b]):=by
 simp only [okF,Bool.and_true,Bool.and_eq_true] at hb
 obtain ⟨qa,qb⟩:=hb
 unfold Ce
 simp [vMoves_crash,Ew,EP,AL,BF,AL (Bz qa).2,(Bz qa).1,AL (Bz qb).2,(Bz qb).1]
theorem line_crash (hsp:splitB line 0=W_crash::l)(hz:line.size≤1000000)(hs:∀a∈l,a.size≤1000000):DT line:=by
 refine Eg (pp_crash hsp hz hs) (rr_crash hsp hz hs) fun hb=>⟨?_,rfl,rfl,rfl⟩
 rw [hsp]
 rcases l with _ | ⟨a,_ | ⟨b,_ | ⟨u,l⟩⟩⟩
 ·simp [okF] at hb
 ·simp [okF] at hb
 ·exact mw_crash hb
 ·simp [okF] at hb
theorem pp_fold (hsp:splitB line 0=W_fold::l)(hz:line.size≤1000000)(hs:∀a∈l,a.size≤1000000):BG line=some (if good (runF [.n] ⟨l,false⟩)=true then ((⟨9,(Au (wrd ⟨l,false⟩)).1,0,0,0,0,0,Dx⟩:Ar),0) else (Be,4)):=by
 have h:Sm ⟨l,false⟩:=hs
 unfold BG
 rw [AL hz,hsp,CG,Option.bind_some]
 dsimp only
 rw [kDeeds_fold,Option.bind_some,if_neg (by decide),kMoves_fold,Option.bind_some]
 rw [if_neg (by decide)]
 rw [if_neg (by decide)]
 rw [if_neg (by decide)]
 rw [if_neg (by decide)]
 rw [if_pos (by decide)]
 rw [DU h,Option.bind_some]
 dsimp only
 exact fin_eq
theorem rr_fold (hsp:splitB line 0=W_fold::l)(hz:line.size≤1000000)(hs:∀a∈l,a.size≤1000000):∃z,BO line=some (z,okF [.n] l)∧(okF [.n] l=false→z=Be)∧(okF [.n] l=true→z=(⟨9,(Au (wrd ⟨l,false⟩)).1,0,0,0,0,0,Dx⟩:Ar)):=by
 obtain ⟨g,h1,h2⟩:=Dv l (⟨#[119]⟩:ByteArray) (by decide) hs
 rw [show ksOf (⟨#[119]⟩:ByteArray)= [.n] from by kernel_rfl] at h1 h2
 unfold BO
 rw [AL hz,hsp,Df,Option.bind_some,fdeeds_fold,Option.bind_some,if_neg (by decide),Option.bind_some,fmoves_fold,Option.bind_some,if_neg (by decide),Dl,Option.bind_some,show idx DF 9=some (⟨W_fold,(⟨#[119]⟩:ByteArray)⟩:Bd) from rfl,Option.bind_some]
 dsimp only
 rw [h1,Option.bind_some]
 cases hb:okF [.n] l with
 | false=>exact ⟨Be,by dsimp only;rw [if_pos (by decide)],fun _=>rfl,fun h=>by cases h⟩
 | true=>
  obtain rfl:=h2 hb
  rcases l with _ | ⟨a,_ | ⟨u,l⟩⟩
  ·simp [okF] at hb
  ·refine ⟨_,by dsimp only;rw [if_neg (by decide)];simp [gotF,addK,idx];rfl,fun h=>(by cases h),fun _=>?_⟩
   first | rfl | simp [wrd,nxt]
  ·simp [okF] at hb
theorem mw_fold {a:ByteArray}(hb:okF [.n] [a] = true):Ce (⟨9,(Au a).1,0,0,0,0,0,Dx⟩:Ar)=some (W_fold :: [a]):=by
 simp only [okF,Bool.and_true,Bool.and_eq_true] at hb
 have qa:=hb
 unfold Ce
 simp [vMoves_fold,Ew,EP,AL,BF,AL (Bz qa).2,(Bz qa).1]
theorem line_fold (hsp:splitB line 0=W_fold::l)(hz:line.size≤1000000)(hs:∀a∈l,a.size≤1000000):DT line:=by
 refine Eg (pp_fold hsp hz hs) (rr_fold hsp hz hs) fun hb=>⟨?_,rfl,rfl,rfl⟩
 rw [hsp]
 rcases l with _ | ⟨a,_ | ⟨u,l⟩⟩
 ·simp [okF] at hb
 ·exact mw_fold hb
 ·simp [okF] at hb
theorem pp_meet (hsp:splitB line 0=W_meet::l)(hz:line.size≤1000000)(hs:∀a∈l,a.size≤1000000):BG line=some (if good (runF [.n,.n] ⟨l,false⟩)=true then ((⟨10,(Au (wrd ⟨l,false⟩)).1,(Au (wrd (nxt .n ⟨l,false⟩))).1,0,0,0,0,Dx⟩:Ar),0) else (Be,4)):=by
 have h:Sm ⟨l,false⟩:=hs
 unfold BG
 rw [AL hz,hsp,CG,Option.bind_some]
 dsimp only
 rw [kDeeds_meet,Option.bind_some,if_neg (by decide),kMoves_meet,Option.bind_some]
 rw [if_pos (by decide)]
 rw [DU h,Option.bind_some]
 dsimp only
 rw [DU (h.nxt .n),Option.bind_some]
 dsimp only
 exact fin_eq
theorem rr_meet (hsp:splitB line 0=W_meet::l)(hz:line.size≤1000000)(hs:∀a∈l,a.size≤1000000):∃z,BO line=some (z,okF [.n,.n] l)∧(okF [.n,.n] l=false→z=Be)∧(okF [.n,.n] l=true→z=(⟨10,(Au (wrd ⟨l,false⟩)).1,(Au (wrd (nxt .n ⟨l,false⟩))).1,0,0,0,0,Dx⟩:Ar)):=by
 obtain ⟨g,h1,h2⟩:=Dv l (⟨#[119,119]⟩:ByteArray) (by decide) hs
 rw [show ksOf (⟨#[119,119]⟩:ByteArray)= [.n,.n] from by kernel_rfl] at h1 h2
 unfold BO
 rw [AL hz,hsp,Df,Option.bind_some,fdeeds_meet,Option.bind_some,if_neg (by decide),Option.bind_some,fmoves_meet,Option.bind_some,if_neg (by decide),Dl,Option.bind_some,show idx DF 10=some (⟨W_meet,(⟨#[119,119]⟩:ByteArray)⟩:Bd) from rfl,Option.bind_some]
 dsimp only
 rw [h1,Option.bind_some]
 cases hb:okF [.n,.n] l with
 | false=>exact ⟨Be,by dsimp only;rw [if_pos (by decide)],fun _=>rfl,fun h=>by cases h⟩
 | true=>
  obtain rfl:=h2 hb
  rcases l with _ | ⟨a,_ | ⟨b,_ | ⟨u,l⟩⟩⟩
  ·simp [okF] at hb
  ·simp [okF] at hb
  ·refine ⟨_,by dsimp only;rw [if_neg (by decide)];simp [gotF,addK,idx];rfl,fun h=>(by cases h),fun _=>?_⟩
   first | rfl | simp [wrd,nxt]
  ·simp [okF] at hb
theorem mw_meet {a b:ByteArray}(hb:okF [.n,.n] [a,b] = true):Ce (⟨10,(Au a).1,(Au b).1,0,0,0,0,Dx⟩:Ar)=some (W_meet :: [a,b]):=by
 simp only [okF,Bool.and_true,Bool.and_eq_true] at hb
 obtain ⟨qa,qb⟩:=hb
 unfold Ce
 simp [vMoves_meet,Ew,EP,AL,BF,AL (Bz qa).2,(Bz qa).1,AL (Bz qb).2,(Bz qb).1]
theorem line_meet (hsp:splitB line 0=W_meet::l)(hz:line.size≤1000000)(hs:∀a∈l,a.size≤1000000):DT line:=by
 refine Eg (pp_meet hsp hz hs) (rr_meet hsp hz hs) fun hb=>⟨?_,rfl,rfl,rfl⟩
 rw [hsp]
 rcases l with _ | ⟨a,_ | ⟨b,_ | ⟨u,l⟩⟩⟩
 ·simp [okF] at hb
 ·simp [okF] at hb
 ·exact mw_meet hb
 ·simp [okF] at hb
theorem line_publish (hsp:splitB line 0=W_publish::l)(hz:line.size≤1000000)(hs:∀a∈l,a.size≤1000000)(hn:l.length≤1000000):DT line:=by
 have h:Sm ⟨l,false⟩:=hs
 obtain ⟨x,r,z,ok,e1,e2,e3,e4⟩:=lens_both (nxt .t (nxt .n ⟨l,false⟩)).words (nxt .t (nxt .n ⟨l,false⟩)).bad (((h.nxt .n).nxt .t))
 have hp:BG line=some (if good r=true then ((⟨1,(Au (wrd ⟨l,false⟩)).1,0,0,0,0,0,(⟨8,noB,noB,Ac,0,noB,((Cj (wrd (nxt .n ⟨l,false⟩))).getD AU),x⟩:AV)⟩:Ar),0) else (Be,4)):=by
  unfold BG
  rw [AL hz,hsp,CG,Option.bind_some]
  dsimp only
  rw [kDeeds_publish,Option.bind_some,if_pos (by decide),DU h,Option.bind_some]
  dsimp only
  unfold DD
  rw [if_pos rfl,tag_eq (h.nxt .n),Option.bind_some]
  dsimp only
  rw [show nxt .t (nxt .n ⟨l,false⟩)=⟨(nxt .t (nxt .n ⟨l,false⟩)).words,(nxt .t (nxt .n ⟨l,false⟩)).bad⟩ from rfl,e1,Option.bind_some]
  exact fin_eq
 rcases l with _ | ⟨a,_ | ⟨b,l⟩⟩
 ·refine ⟨Be,false,?_,?_,⟨fun h=>(by cases h),fun _=>rfl⟩⟩
  ·rw [hp,e2];rfl
  ·unfold BO
   rw [AL hz,hsp,Df,Option.bind_some,fdeeds_publish,Option.bind_some,if_pos (by decide),Dl,Option.bind_some]
   unfold Eo
   rw [if_pos rfl,if_pos (by simp),Option.bind_some];rfl
 ·refine ⟨Be,false,?_,?_,⟨fun h=>(by cases h),fun _=>rfl⟩⟩
  ·rw [hp,e2];rfl
  ·unfold BO
   rw [AL hz,hsp,Df,Option.bind_some,fdeeds_publish,Option.bind_some,if_pos (by decide),Dl,Option.bind_some]
   unfold Eo
   rw [if_pos rfl,if_pos (by simp),Option.bind_some];rfl
 ·have ew:(nxt .t (nxt .n ⟨a::b::l,false⟩)).words=l:=rfl
  have eb:(nxt .t (nxt .n ⟨a::b::l,false⟩)).bad=(false || !okK .n a || !okK .t b):=rfl
  rw [ew] at e3 e4
  rw [eb] at e2
  have hok:good r=(okF [.n,.t] [a,b]&&ok):=by rw [e2,okF,okF,okF];cases okK .n a<;>cases okK .t b<;>cases ok<;>rfl
  obtain ⟨g,h1,h2⟩:=Dv [a,b] (⟨#[119,116]⟩:ByteArray) (by decide) (fun c hc=>hs c (by simp at hc ⊢;rcases hc with rfl | rfl<;>simp))
  rw [show ksOf (⟨#[119,116]⟩:ByteArray)= [.n,.t] from by kernel_rfl] at h1 h2
  have hr:∃zz,BO line=some (zz,okF [.n,.t] [a,b]&&ok)∧((okF [.n,.t] [a,b]&&ok)=false→zz=Be)∧((okF [.n,.t] [a,b]&&ok)=true→zz=(⟨1,(Au a).1,0,0,0,0,0,(⟨8,noB,noB,Ac,0,noB,((Cj b).getD AU),z⟩:AV)⟩:Ar)):=by
   unfold BO
   rw [AL hz,hsp,Df,Option.bind_some,fdeeds_publish,Option.bind_some,if_pos (by decide),Dl,Option.bind_some]
   unfold Eo
   rw [if_pos rfl,if_neg (by simp only [List.length_cons];omega),show subL (a::b::l) 2 (((a::b::l).length:Nat):Int)=some l from by rw [show (2:Int)=((2:Nat):Int) from rfl,subL_on (by simp)];rfl,Option.bind_some,e3,Option.bind_some]
   cases hx:ok with
   | false=>exact ⟨Be,by dsimp only;rw [if_pos (by decide),Option.bind_some];simp,fun _=>rfl,fun h=>by simp at h⟩
   | true=>
    dsimp only
    rw [if_neg (by decide),show subL (a::b::l) 0 2=some [a,b] from by rw [show (2:Int)=((2:Nat):Int) from rfl,subL_to (by simp)];rfl,Option.bind_some]
    unfold Es
    rw [show idx Cm 8=some (⟨W_publish,(⟨#[119,116]⟩:ByteArray)⟩:Bd) from rfl,Option.bind_some]
    dsimp only
    rw [h1,Option.bind_some]
    cases hb:okF [.n,.t] [a,b] with
    | false=>exact ⟨Be,by dsimp only;rw [if_pos (by decide),Option.bind_some];rfl,fun _=>rfl,fun h=>by cases h⟩
    | true=>
     obtain rfl:=h2 hb
     exact ⟨_,by dsimp only;rw [if_neg (by decide)];simp [gotF,addK,idx,Ej,D9,Dn,BZ];try rfl,fun h=>(by cases h),fun _=>rfl⟩
  obtain ⟨zz,k1,k2,k3⟩:=hr
  rw [hok] at hp
  cases hall:(okF [.n,.t] [a,b]&&ok) with
  | false=>rw [hall] at hp k1;rw [k2 hall] at k1;exact ⟨Be,false,hp,k1,⟨fun h=>(by cases h),fun _=>rfl⟩⟩
  | true=>
   rw [hall] at hp k1
   rw [k3 hall] at k1
   obtain ⟨hb,hx⟩:=Bool.and_eq_true_iff.1 hall
   obtain ⟨rfl,w1,w2,w3,w4⟩:=e4 hx
   refine ⟨_,true,hp,k1,⟨fun _=>⟨?_,w2,w3,w4⟩,fun h=>(by cases h)⟩⟩
   rw [hsp]
   simp only [okF,Bool.and_true,Bool.and_eq_true] at hb
   obtain ⟨qa,qb⟩:=hb
   unfold Ce EH
   simp only [wrd,nxt]
   have hl:l.length≤1000000:=by simp only [List.length_cons] at hn;omega
   simp [vDeeds_publish,w1,BF,AL (Bz qa).2,(Bz qa).1,AL (tag_back9 qb).1,(tag_back9 qb).2,show l.length+3≤1000000000 by omega,show 1+1+1+l.length≤1000000000 by omega,show 3+l.length≤1000000000 by omega]
theorem line_other {v:ByteArray}(hsp:splitB line 0=v::l)(hz:line.size≤1000000)(h_add:¬v=W_add)(h_remove:¬v=W_remove)(h_adjust:¬v=W_adjust)(h_set:¬v=W_set)(h_put:¬v=W_put)(h_take:¬v=W_take)(h_clear:¬v=W_clear)(h_publish:¬v=W_publish)(h_switch:¬v=W_switch)(h_view:¬v=W_view)(h_at:¬v=W_at)(h_project:¬v=W_project)(h_hello:¬v=W_hello)(h_deliver:¬v=Ez)(h_lose:¬v=W_lose)(h_double:¬v=W_double)(h_cut:¬v=W_cut)(h_fuse:¬v=W_fuse)(h_crash:¬v=W_crash)(h_fold:¬v=W_fold)(h_meet:¬v=W_meet):DT line:=by
 refine ⟨Be,false,?_,?_,⟨fun h=>(by cases h),fun _=>rfl⟩⟩
 ·unfold BG
  rw [AL hz,hsp,CG,Option.bind_some]
  dsimp only
  rw [nDeeds h_add h_remove h_adjust h_set h_put h_take h_clear h_publish h_switch h_view h_at h_project,Option.bind_some,if_neg (by decide),nMoves h_hello h_deliver h_lose h_double h_cut h_fuse h_crash h_fold h_meet,Option.bind_some,if_neg (by decide),if_neg (by decide),if_neg (by decide),if_neg (by decide),if_neg (by decide)];rfl
 ·unfold BO
  rw [AL hz,hsp,Df,Option.bind_some,mdeeds h_add h_remove h_adjust h_set h_put h_take h_clear h_publish h_switch h_view h_at h_project,Option.bind_some,if_neg (by decide),Option.bind_some,mmoves h_hello h_deliver h_lose h_double h_cut h_fuse h_crash h_fold h_meet,Option.bind_some,if_pos (by decide)]
theorem line_both (line:ByteArray)(hz:line.size≤900000):DT line:=by
 obtain ⟨v,l,hsp⟩:=splitB_ne line 0
 have hsz:∀a∈l,a.size≤1000000:=fun a ha=>Nat.le_trans (split_size9 (s:=line) (by rw [hsp];exact List.mem_cons_of_mem _ ha)) (by omega)
 have hn:l.length≤1000000:=by have:=split_num9 (s:=line);rw [hsp,List.length_cons] at this;omega
 have hz1:line.size≤1000000:=by omega
 by_cases h_add:v=W_add
 ·subst h_add;exact line_add hsp hz1 hsz
 by_cases h_remove:v=W_remove
 ·subst h_remove;exact line_remove hsp hz1 hsz
 by_cases h_adjust:v=W_adjust
 ·subst h_adjust;exact line_adjust hsp hz1 hsz
 by_cases h_set:v=W_set
 ·subst h_set;exact line_set hsp hz1 hsz
 by_cases h_put:v=W_put
 ·subst h_put;exact line_put hsp hz1 hsz
 by_cases h_take:v=W_take
 ·subst h_take;exact line_take hsp hz1 hsz
 by_cases h_clear:v=W_clear
 ·subst h_clear;exact line_clear hsp hz1 hsz
 by_cases h_publish:v=W_publish
 ·subst h_publish;exact line_publish hsp hz1 hsz hn
 by_cases h_switch:v=W_switch
 ·subst h_switch;exact line_switch hsp hz1 hsz
 by_cases h_view:v=W_view
 ·subst h_view;exact line_view hsp hz1 hsz
 by_cases h_at:v=W_at
 ·subst h_at;exact line_at hsp hz1 hsz
 by_cases h_project:v=W_project
 ·subst h_project;exact line_project hsp hz1 hsz
 by_cases h_hello:v=W_hello
 ·subst h_hello;exact line_hello hsp hz1 hsz
 by_cases h_deliver:v=Ez
 ·subst h_deliver;exact line_deliver hsp hz1 hsz
 by_cases h_lose:v=W_lose
 ·subst h_lose;exact line_lose hsp hz1 hsz
 by_cases h_double:v=W_double
 ·subst h_double;exact line_double hsp hz1 hsz
 by_cases h_cut:v=W_cut
 ·subst h_cut;exact line_cut hsp hz1 hsz
 by_cases h_fuse:v=W_fuse
 ·subst h_fuse;exact line_fuse hsp hz1 hsz
 by_cases h_crash:v=W_crash
 ·subst h_crash;exact line_crash hsp hz1 hsz
 by_cases h_fold:v=W_fold
 ·subst h_fold;exact line_fold hsp hz1 hsz
 by_cases h_meet:v=W_meet
 ·subst h_meet;exact line_meet hsp hz1 hsz
 exact line_other hsp hz1 h_add h_remove h_adjust h_set h_put h_take h_clear h_publish h_switch h_view h_at h_project h_hello h_deliver h_lose h_double h_cut h_fuse h_crash h_fold h_meet
end Go.Vm
end
section
namespace Go.Vm
open Go.RowKit Go.Proofs
set_option maxRecDepth 10000
end Go.Vm
end
section
namespace Go.Vm
open Go.RowKit Go.Proofs
set_option maxRecDepth 10000
open Go.Proofs.YtdfbohaohjaloaaGreatDoor Punnet.Name Punnet.Num
theorem cut_at {s:ByteArray}{k:Nat}(hi:(46:UInt8) ∉ s.data.toList.take k)(hc:s[k]? = some 46):cutC 46 s.data.toList=(s.data.toList.take k,s.data.toList.drop (k+1),true):=by
 rw [get_data'] at hc
 have hl:=(List.getElem?_eq_some_iff.1 hc).1
 have e:s.data.toList=s.data.toList.take k++46::s.data.toList.drop (k+1):=by
  conv=>lhs;rw [←List.take_append_drop k s.data.toList]
  rw [List.drop_eq_getElem_cons hl,(List.getElem?_eq_some_iff.1 hc).2]
 conv=>lhs;rw [e]
 exact cutC_hit hi
theorem not_next {s:ByteArray}{k:Nat}{c:UInt8}(hi:(46:UInt8) ∉ s.data.toList.take k)(hc:s[k]? = some c)(hn:¬c=46):(46:UInt8) ∉ s.data.toList.take (k+1):=by
 rw [get_data'] at hc
 rw [List.take_add_one,hc]
 intro q
 rcases List.mem_append.1 q with q | q
 ·exact hi q
 ·simp at q;exact hn q.symm
theorem tag_none_of {s:ByteArray}(h:(46:UInt8) ∉ s.data.toList):Cj s=none:=tag_cutC_no (cutC_miss h) fun q=>absurd q.2 (by decide)
theorem tag_none_at {s:ByteArray}{k:Nat}(h:k=s.size)(hi:(46:UInt8) ∉ s.data.toList.take k):Cj s=none:=tag_none_of (by rw [h,←ba_len,List.take_length] at hi;exact hi)
theorem ref34ReadTag_any (s:ByteArray)(hs:s.size≤1000000):Bc Tryz.prog 10 [.sc (.string (s))] [.d (tD ((Cj s).getD AU)),.d (.sc (.bool ((Cj s).isSome)))]:=by
 refine T.fn [] Tryz.func10 ?_
 refine xloopR (fb:=[]) T.ok (Nat.le_of_ble_eq_true rfl) [0,2] (fun (k:Nat)=>[(4,.c (.d (.sc (.int .i64 (k:Nat)))))]) (fun k=>k≤s.size∧(46:UInt8) ∉ s.data.toList.take k) (fun k=>s.size-k) 0 ⟨Nat.zero_le _,by simp⟩ (Aq (by first | rfl | (simp only [Tr.get];simp;done)) trivial) ?_
 rintro k ⟨hk,hi⟩
 refine AA ?_
 refine br (fun hc1=>?y1) (fun hc1=>?n1)
 case' y1=>
  obtain ⟨c,hc⟩:∃c,s[k]? = some c:=⟨_,getElem?_pos s k (by omega)⟩
  first | refine x_ch (by exact str_ix hc) ?_ | refine x_chI (by exact str_ix hc) ?_
  refine br (fun hc2=>?y2) (fun hc2=>?n2)
  case' y2=>
   have hcm:¬c=46:=by rintro rfl;exact hc2 rfl
   first | refine x_inc ?_ (h:=by (first | omega | (simp;omega))) | refine x_add ?_ (h:=by first | exact IntWalk.i64_in _ (by (first | omega | (simp;omega))) | rfl) | refine x_bin rfl rfl ?_
   refine CZ (k+1) ⟨by omega,not_next hi hc hcm⟩ (by (try dsimp only);omega) rfl (Aq (by first | rfl | (simp only [Tr.get];simp;done)) trivial) (by first | rfl | (funext u;simp only [hdrop,hset,hpost,hOf];(repeat' split)<;>rfl))
  case' n2=>
   have hc46:c=46:=by rw [←UInt8.toNat_inj];show c.toNat=46;omega
   have hcut:=cut_at hi (by rw [←hc46];exact hc)
   have e1:Au (s.extract 0 k)=BM (s.data.toList.take k):=by show BM _=_;rw [ext_data,List.drop_zero]
   have e2:Au (s.extract (k+1) s.size)=BM (s.data.toList.drop (k+1)):=by show BM _=_;rw [ext_data,←ba_len,List.take_length]
   have hz1:(s.extract 0 k).size≤1000000:=by rw [ByteArray.size_extract];omega
   have hz2:(s.extract (k+1) s.size).size≤1000000:=by rw [ByteArray.size_extract];omega
   first | refine x_bnd ?_ | refine DI ?_
   refine x_str ?_ (h1:=by (first | omega | (simp;omega))) (h2:=by (first | omega | (simp;omega)))
   refine AY T.en_25 (by first | exact ref34Number_any (s.extract 0 k) hz1 | exact ref34Number_any (s.extract (k+1) s.size) hz2) ?_
   first | refine x_inc ?_ (h:=by (first | omega | (simp;omega))) | refine x_add ?_ (h:=by first | exact IntWalk.i64_in _ (by (first | omega | (simp;omega))) | rfl) | refine x_bin rfl rfl ?_
   first | refine x_bnd ?_ | refine DI ?_
   refine x_str ?_ (h1:=by (first | omega | (simp;omega))) (h2:=by (first | omega | (simp;omega)))
   refine AY T.en_25 (by first | exact ref34Number_any (s.extract 0 k) hz1 | exact ref34Number_any (s.extract (k+1) s.size) hz2) ?_
   refine br (fun hg3=>?y3) (fun hg3=>?n3)
   case' y3=>
    have h1:=hg3
    refine br (fun hc4=>?y4) (fun hc4=>?n4)
    case' y4=>
     have hY:=tag_cutC hcut (by rw [←e1];exact h1) (by rw [←e2];exact hc4)
    case' n4=>
     have hN:=tag_cutC_no hcut (fun q=>hc4 (by rw [e2];exact q.2))
   case' n3=>
    have hN:=tag_cutC_no hcut (fun q=>hg3 (by rw [e1];exact q.1))
    refine brF ?_
 case' n1=>
  have hN:=tag_none_at (s:=s) (k:=k) (by omega) hi
 all_goals (refine x_ret ?_;simp only [BL,fits,C.asD,and_true]<;>(first | (rw [hN];(first | rfl | (constructor<;>rfl))) | (rw [hY,e1,e2];(first | rfl | (constructor<;>rfl)))))
end Go.Vm
end
section
namespace Go.Vm
open Go.RowKit
def allocK:List (Nat×Nat×Nat)→Tr→(Tr→Prop)→Prop
 | [],t,K=>K t
 | q::l,t,K=>allocK l t fun t=>AQ 20 t q.2.1 (.gbox q.2.2 []) K
theorem allocK_spec:∀{ps:List (Nat×Nat×Nat)} {t:Tr} {K:Tr→Prop},allocK ps t K→∃t',(∀u,t'.get u=match ps.find? fun q=>q.2.1==u with
 | some q=>.gbox q.2.2 []
 | none=>t.get u)∧K t'
 | [],t,K,h=>⟨t,fun _=>rfl,h⟩
 | q::l,t,K,h=>by
  obtain ⟨t1,h1,h2⟩:=allocK_spec (ps:=l) h
  obtain ⟨t2,h3,h4⟩:=Bh h2
  refine ⟨t2,fun u=>?_,h4⟩
  rw [h3,h1,List.find?_cons]
  by_cases e:u=q.2.1
  ·subst e;simp
  ·have:(q.2.1==u)=false:=by simpa using fun e2=>e e2.symm
   simp [this,e]
section
variable {P:Program} {N:Nat} {t:Tr} {h:Hp} {o:Oper}
theorem x_allocU {T d:Nat}{zs:List D}(ps:List (Nat×Nat×Nat)){K:Tr→Hp→Prop}(hz:zeroOf P T=some zs)(hps:∀q∈ps,zs[q.1]? = some (.row [])∧BIG≤q.2.1∧0<q.2.2)(hlo:∀q∈ps,q.2.1<NAM)
 (hk:mapK (unrefK d) t fun t1=>AQ 20 t1 d (.ubox (ucells zs ps)) fun t2=>allocK ps t2 fun t3=>K t3 h)
 (hop:o.op=.alloc T:=by rfl) (hd:o.dst=some d:=by rfl) (hdN:d<N:=by exact Nat.le_of_ble_eq_true rfl) (hNB:N≤BIG:=by exact Nat.le_of_ble_eq_true rfl) :
 StepP P N o (Af t h) fun e=>∃(t':Tr) (h':Hp),e=Af t' h'∧K t' h':=by
 refine stepP_of ?_
 have hdB:d<BIG:=Nat.lt_of_lt_of_le hdN hNB
 obtain ⟨t1,k1,hk⟩:=mapK_spec (f:=unref d) rfl unrefK_spec hk
 obtain ⟨t2,k2,hk⟩:=Bh hk
 obtain ⟨t3,k3,hk⟩:=allocK_spec hk
 refine ⟨t3,h,?_,hk⟩
 have e:Af t3 h=envG ps (upd (boxEnv (Af t h) d zs) (some d) (.ubox (ucells zs ps))):=by
  funext u
  unfold envG
  by_cases hu:u<NAM
  ·rw [BV hu,k3]
   cases hf:ps.find? fun q=>q.2.1==u with
   | some q=>rfl
   | none=>
    simp only
    rw [k2,k1]
    simp only [upd,boxEnv]
    by_cases ed:u=d
    ·simp [ed]
    ·simp only [if_neg ed];rw [BV hu]
  ·have hf:(ps.find? fun q=>q.2.1==u)=none:=by
    rw [List.find?_eq_none]
    intro q hq
    have:=hlo q hq
    simp only [beq_iff_eq];omega
   rw [hf]
   have hne:¬u=d:=by have:=nam hdB;omega
   simp only [upd,boxEnv,if_neg hne]
   simp only [Af,if_neg hu]
   exact (nameS_unref _).symm
 rw [e]
 exact s_allocU hop hz hps hd hdN hdB
theorem x_buildU {T d:Nat}{parts:Array (Nat×Operand)}{zs:List D}{ps:List (Nat×Nat)}(us:List (Nat×Nat×Nat)){K:Tr→Hp→Prop}(hi:AO P T (.agg ps zs))(hus:∀q∈us,zs[q.1]? = some (.row [])∧BIG≤q.2.1∧0<q.2.2)(hlo:∀q∈us,q.2.1<NAM)
 (hk:fillK t ps parts.toList (ucells zs us) fun cs=>AQ 20 t d (.uagg cs) fun t2=>allocK us t2 fun t3=>K t3 h)
 (hop:o.op=.build T parts:=by rfl) (hd:o.dst=some d:=by rfl) (hdN:d<N:=by exact Nat.le_of_ble_eq_true rfl) (hNB:N≤BIG:=by exact Nat.le_of_ble_eq_true rfl) :
 StepP P N o (Af t h) fun e=>∃(t':Tr) (h':Hp),e=Af t' h'∧K t' h':=by
 refine stepP_of ?_
 have hdB:d<BIG:=Nat.lt_of_lt_of_le hdN hNB
 obtain ⟨ds,cs,h1,h2,hk⟩:=fillK_spec (h:=h) hk
 obtain ⟨t2,k2,hk⟩:=Bh hk
 obtain ⟨t3,k3,hk⟩:=allocK_spec hk
 refine ⟨t3,h,?_,hk⟩
 have e:Af t3 h=envG us (upd (Af t h) (some d) (.uagg cs)):=by
  funext u
  unfold envG
  by_cases hu:u<NAM
  ·rw [BV hu,k3]
   cases hf:us.find? fun q=>q.2.1==u with
   | some q=>rfl
   | none=>
    simp only
    rw [k2]
    simp only [upd]
    by_cases ed:u=d
    ·simp [ed]
    ·simp only [if_neg ed];rw [BV hu]
  ·have hf:(us.find? fun q=>q.2.1==u)=none:=by
    rw [List.find?_eq_none]
    intro q hq
    have:=hlo q hq
    simp only [beq_iff_eq];omega
   rw [hf]
   have hne:¬u=d:=by have:=nam hdB;omega
   simp only [upd,if_neg hne]
   simp only [Af,if_neg hu]
 rw [e]
 obtain ⟨_,hp,hz⟩:=hi
 unfold placesOf at hp
 split at hp
 ·rename_i fields hT
  exact s_buildU hop hT hp hz hus h1 h2 hd hdN
 ·cases hp
end
end Go.Vm
end
section
namespace Go.Vm
open Go.RowKit
theorem repsPl {ro:Ap}{w:World}{vs:List Value}(h:vs.all (fun v=>v.oneCell'&&Cc v)=true):Bf ro w vs (vs.map .sc):=by
 have h1:∀v∈vs,v.oneCell'=true∧Cc v=true:=fun v hv=>by simpa using List.all_eq_true.1 h v hv
 refine ⟨by simp,fun u hu=>(h1 u hu).1,fun j u c hu hc=>?_⟩
 rw [List.getElem?_map,hu] at hc
 simp only [Option.map_some,Option.some.injEq] at hc
 subst hc
 exact .sc (h1 u (List.mem_of_getElem? hu)).2
theorem rep_agg {ro:Ap}{w:World}{v:Value}{cs:List D}(h:Rep ro w v (.agg cs)):∃arr:Array Value,v=.agg arr∧Bf ro w arr.toList cs:=by
 generalize hd:D.agg cs=d at h
 cases h with
 | agg hl h1 h2=>injection hd with hd;subst hd;exact ⟨_,rfl,by simpa using hl,h1,h2⟩
 | _=>cases hd
section
variable {P:Program} {N:Nat} {o:Oper} {env:Env}
theorem y_loadGl {T:TypeId}{g:Nat}{cs:List Value}{sh:Bool×Nat}{r:D}(hop:o.op=.load T (.global g))(hg:gtab g=some cs)(ho:cs.all (fun v=>v.oneCell'&&Cc v)=true)(hsh:Bo P T=some sh)(hp:partD sh (cs.map .sc) 0=some r){d:Nat}(hdst:o.dst=some d)(hd:d<N):Cb P N o env (.c (.d r)):=by
 refine Dh hdst hd fun env' he base w0 ro0 ro blk a w hsim=>?_
 obtain ⟨h1,h2,h3⟩:=hsim.globW g cs hg
 obtain ⟨v,h5,h6⟩:=run_load_part (P:=P) (b:=g) (o:=0) (off:=0) hsh (repsPl (ro:=ro) (w:=w) ho) (fun j u hu=>by rw [Nat.zero_add];exact h3 j u hu) hp
 refine ⟨v,w,ro,?_,Grow.refl hsim.new,h6⟩
 rw [Nat.zero_add] at h5
 have e:a.eval (.global g)=.pointer (some ⟨g,0,none⟩):=rfl
 simp only [execOp,hop,Instr.loadAt,e,Instr.sureAddr,Sem.run_bind,Sem.run_pure,Result.andThen_ok,h5]
theorem y_ixArr {T e:TypeId}{x ix:Operand}{k:IntKind}{i:Int}{n:Nat}{cs:List D}{r:D}(hop:o.op=.index T x ix)(hx:vd env x=some (.agg cs))(hi:vd env ix=some (.sc (.int k i)))(hT:P.underlying T=some (.array n e))(he:Bo P e=some (false,1))(h0:0≤i)(hn:i<n)(hp:cs[i.toNat]? = some r){d:Nat}(hdst:o.dst=some d)(hd:d<N):Cb P N o env (.c (.d r)):=by
 refine Dh hdst hd fun env' he' base w0 ro0 ro blk a w hsim=>?_
 have h1:Rep ro w (a.eval x) (.agg cs):=hsim.getD (x:=x) (by rw [he'.getD (by simp [hop,Op.operands])];exact hx)
 have h3:=(rep_sc (hsim.getD (x:=ix) (by rw [he'.getD (by simp [hop,Op.operands])];exact hi))).1
 obtain ⟨arr,h2,h4⟩:=rep_agg h1
 have hlt:i.toNat<arr.toList.length:=by rw [h4.1];exact (List.getElem?_eq_some_iff.1 hp).1
 obtain ⟨u,hu⟩:∃u,arr.toList[i.toNat]? = some u:=⟨_,List.getElem?_eq_getElem hlt⟩
 have h5:=h4.2.2 _ u _ hu hp
 refine ⟨u,w,ro,?_,Grow.refl hsim.new,h5⟩
 obtain ⟨inf,dd,k1,k2,k3,k4⟩:=ED he
 have hagg:=run_isAgg (w:=w) k2
 rw [k3] at hagg
 have hu':arr[i.toNat]? = some u:=by simpa using hu
 simp [execOp,hop,h2,h3,Instr.index,run_underlying hT,asAgg,part,Sem.run_bind,hagg,hu',asIntOf,sizeOf,typeInfo,k1,k4,h0,hn]
end
section
variable {P:Program} {N:Nat} {t:Tr} {h:Hp} {o:Oper}
theorem x_loadGl {T:TypeId}{g d:Nat}{cs:List Value}{sh:Bool×Nat}{r:D}{K:S→Hp→Prop}(hK:K (.c (.d r)) h)(hg:gtab g=some cs)(ho:cs.all (fun v=>v.oneCell'&&Cc v)=true)(hsh:Bo P T=some sh)(hp:partD sh (cs.map .sc) 0=some r)
 (hop:o.op=.load T (.global g):=by rfl) (hd:o.dst=some d:=by rfl) (hdN:d<N:=by exact Nat.le_of_ble_eq_true rfl) :
 ∃(s:S) (h':Hp),Step P N o (Af t h) (upd (Af t h') (some d) s)∧K s h':=
 x_fy (y_loadGl hop hg ho hsh hp hd hdN) hK hd
theorem x_ixArr {T e:TypeId}{x ix:Operand}{k:IntKind}{i:Int}{n d:Nat}{cs:List D}{r:D}{K:S→Hp→Prop}(hK:K (.c (.d r)) h)(hT:P.underlying T=some (.array n e))(he:Bo P e=some (false,1))(h0:0≤i)(hp:cs[i.toNat]? = some r)(hl:cs.length=n:=by rfl)
 (hop:o.op=.index T x ix:=by rfl) (hx:vd (Af t h) x=some (.agg cs):=by rfl) (hi:vd (Af t h) ix=some (.sc (.int k i)):=by rfl) (hd:o.dst=some d:=by rfl) (hdN:d<N:=by exact Nat.le_of_ble_eq_true rfl) :
 ∃(s:S) (h':Hp),Step P N o (Af t h) (upd (Af t h') (some d) s)∧K s h':=
 x_fy (y_ixArr hop hx hi hT he h0 (by have:=(List.getElem?_eq_some_iff.1 hp).1;omega) hp hd hdN) hK hd
end
end Go.Vm
end
section
namespace Go.Vm
open Go.RowKit
mutual
def D.no (t:Nat):D→Bool
 | .sc _=>true
 | .agg cs=>D.noL t cs
 | .row xs=>D.noL t xs
 | .ptr id _=>!Nat.beq id t
 | .mp id=>!Nat.beq id t
 | .fn _ cs=>D.noL t cs
 | .rr _ _ _=>true
 | .stale=>true
def D.noL (t:Nat):List D→Bool
 | []=>true
 | c::cs=>D.no t c&&D.noL t cs
end
theorem beq_no {id t:Nat}(h:¬id=t):(!Nat.beq id t)=true:=by
 cases e:Nat.beq id t with
 | true=>exact absurd (Nat.eq_of_beq_eq_true e) h
 | false=>rfl
theorem no_beq {id t:Nat}(h:(!Nat.beq id t)=true):¬id=t:=by
 rintro rfl;rw [Nat.beq_refl] at h;cases h
mutual
theorem D.no_ex:∀d:D,∃M,∀t,M≤t→D.no t d=true
 | .sc _=>⟨0,fun _ _=>by rw [D.no]⟩
 | .agg cs=>by obtain ⟨M,h⟩:=D.noL_ex cs;exact ⟨M,fun t ht=>by rw [D.no];exact h t ht⟩
 | .row cs=>by obtain ⟨M,h⟩:=D.noL_ex cs;exact ⟨M,fun t ht=>by rw [D.no];exact h t ht⟩
 | .ptr id _=>⟨id+1,fun t ht=>by rw [D.no];exact beq_no (by omega)⟩
 | .mp id=>⟨id+1,fun t ht=>by rw [D.no];exact beq_no (by omega)⟩
 | .fn _ cs=>by obtain ⟨M,h⟩:=D.noL_ex cs;exact ⟨M,fun t ht=>by rw [D.no];exact h t ht⟩
 | .rr _ _ _=>⟨0,fun _ _=>by rw [D.no]⟩
 | .stale=>⟨0,fun _ _=>by rw [D.no]⟩
theorem D.noL_ex:∀l:List D,∃M,∀t,M≤t→D.noL t l=true
 | []=>⟨0,fun _ _=>by rw [D.noL]⟩
 | c::cs=>by
  obtain ⟨M,h⟩:=D.no_ex c
  obtain ⟨M',h'⟩:=D.noL_ex cs
  exact ⟨max M M',fun t ht=>by rw [D.noL,h t (by omega),h' t (by omega)];rfl⟩
end
theorem D.noL_mem {t:Nat}:∀{l:List D},D.noL t l=true→∀c∈l,D.no t c=true
 | [],_,c,hc=>by cases hc
 | a::l,h,c,hc=>by
  rw [D.noL,Bool.and_eq_true] at h
  rcases List.mem_cons.1 hc with rfl | hc
  ·exact h.1
  ·exact D.noL_mem h.2 c hc
theorem D.no_cells {t:Nat}{d:D}(h:D.no t d=true):∀c∈d.cells,D.no t c=true:=by
 cases d with
 | agg cs=>rw [D.no] at h;exact D.noL_mem h
 | _=>intro c hc;rw [List.mem_singleton.1 hc];exact h
theorem D.noL_flat {t:Nat}{xs:List D}(h:D.noL t xs=true):∀c∈flat xs,D.no t c=true:=by
 intro c hc
 obtain ⟨x,hx,hc⟩:=List.mem_flatMap.1 hc
 exact D.no_cells (D.noL_mem h x hx) c hc
def C.no (t:Nat):C→Bool
 | .d x=>D.no t x
 | .own _ _ xs=>D.noL t xs
 | .nil=>true
theorem C.no_ex:∀c:C,∃M,∀t,M≤t→C.no t c=true
 | .d x=>D.no_ex x
 | .own _ _ xs=>D.noL_ex xs
 | .nil=>⟨0,fun _ _=>rfl⟩
theorem C.no_tok {t τ:Nat}{c:C}:C.no t (DN τ c)=C.no t c:=by cases c<;>rfl
theorem all_ex {α:Type}{p:Nat→α→Prop}(h:∀a,∃M,∀t,M≤t→p t a):∀l:List α,∃M,∀t,M≤t→∀a∈l,p t a
 | []=>⟨0,fun _ _ a ha=>by cases ha⟩
 | a::l=>by
  obtain ⟨M,h1⟩:=h a
  obtain ⟨M',h2⟩:=all_ex h l
  refine ⟨max M M',fun t ht b hb=>?_⟩
  rcases List.mem_cons.1 hb with rfl | hb
  ·exact h1 t (by omega)
  ·exact h2 t (by omega) b hb
def S.no (t:Nat):S→Prop
 | .obj cs=>D.noL t cs=true
 | .mapo es=>∀p∈es,D.no t p.1=true∧D.no t p.2=true
 | .pack cs rows=>D.noL t cs=true∧∀r∈rows,D.noL t r.2.2=true
 | _=>True
theorem S.no_ex:∀s:S,∃M,∀t,M≤t→S.no t s:=by
 intro s
 cases s with
 | obj cs=>exact D.noL_ex cs
 | mapo es=>
  exact all_ex (p:=fun t p=>D.no t p.1=true∧D.no t p.2=true) (fun a=>by
   obtain ⟨M,h⟩:=D.no_ex a.1
   obtain ⟨M',h'⟩:=D.no_ex a.2
   exact ⟨max M M',fun t ht=>⟨h t (by omega),h' t (by omega)⟩⟩) es
 | pack cs rows=>
  obtain ⟨M,h⟩:=D.noL_ex cs
  obtain ⟨M',h'⟩:=all_ex (p:=fun t (r:Nat×Nat×List D)=>D.noL t r.2.2=true) (fun r=>D.noL_ex r.2.2) rows
  exact ⟨max M M',fun t ht=>⟨h t (by omega),h' t (by omega)⟩⟩
 | _=>exact ⟨0,fun _ _=>trivial⟩
def cover (t:Nat)(ro:Ap):Ap:=fun b=>match ro b with
 | .obj id k=>if id=t then .frozen else .obj id k
 | .priv id=>if id=t then .frozen else .priv id
 | r=>r
variable {ro ro':Ap} {t:Nat} {b:Nat} {P:Program} {w w':World} {v:Value} {base:Nat}
theorem cover_obj {id:Nat}{k:Bool}(h:ro b=.obj id k)(hn:¬id=t):cover t ro b=.obj id k:=by unfold cover;rw [h];exact if_neg hn
theorem cover_priv {id:Nat}(h:ro b=.priv id)(hn:¬id=t):cover t ro b=.priv id:=by unfold cover;rw [h];exact if_neg hn
theorem cover_obj_inv {id:Nat}{k:Bool}(h:cover t ro b=.obj id k):ro b=.obj id k∧¬id=t:=by
 unfold cover at h
 split at h
 ·rename_i id' k' e
  split at h
  ·cases h
  ·rename_i hne;injection h with h1 h2;subst h1;subst h2;exact ⟨e,hne⟩
 ·split at h<;>cases h
 ·rename_i h1 h2;exact absurd h (h1 id k)
theorem cover_priv_inv {id:Nat}(h:cover t ro b=.priv id):ro b=.priv id∧¬id=t:=by
 unfold cover at h
 split at h
 ·split at h<;>cases h
 ·rename_i id' e
  split at h
  ·cases h
  ·rename_i hne;injection h with h1;subst h1;exact ⟨e,hne⟩
 ·rename_i h1 h2;exact absurd h (h2 id)
theorem cover_row {τ n:Nat}(h:ro b=.row τ n):cover t ro b=.row τ n:=by unfold cover;rw [h]
theorem cover_frozen (h:ro b=.frozen):cover t ro b=.frozen:=by unfold cover;rw [h]
theorem cover_ok {off:Nat}(h:okAt ro b off):okAt (cover t ro) b off:=by
 unfold okAt at *
 cases hr:ro b with
 | frozen=>rw [cover_frozen hr];trivial
 | row τ n=>rw [hr] at h;rw [cover_row hr];exact h
 | _=>rw [hr] at h;exact h.elim
theorem cover_same (h1:∀id k,ro b=.obj id k→¬id=t)(h2:∀id,ro b=.priv id→¬id=t):cover t ro b=ro b:=by
 unfold cover
 cases hr:ro b with
 | obj id k=>exact if_neg (h1 id k hr)
 | priv id=>exact if_neg (h2 id hr)
 | _=>rfl
theorem cover_tame (h:tame (ro b)=true):tame (cover t ro b)=true:=by
 unfold cover
 cases hr:ro b with
 | obj id k=>rw [hr] at h;cases h
 | priv id=>dsimp only;split<;>rfl
 | _=>rw [hr] at h;exact h
theorem Rep.cover {d:D}(h:Rep ro w v d):D.no t d=true→Rep (cover t ro) w v d:=by
 induction h with
 | sc h=>intro _;exact .sc h
 | agg hl h1 _ ih=>
  intro hn;rw [D.no] at hn
  exact .agg hl h1 fun i u c hu hc=>ih i u c hu hc (D.noL_mem hn c (List.mem_of_getElem? hc))
 | nil hm=>intro _;exact .nil hm
 | row us hsz hlen hm hus hw h1 hcell _ ih=>
  intro hn;rw [D.no] at hn
  exact .row us hsz hlen hm hus hw h1 (fun j u hj=>⟨(hcell j u hj).1,cover_ok (hcell j u hj).2⟩) fun j u c hu hc=>ih j u c hu hc (D.noL_flat hn c (List.mem_of_getElem? hc))
 | ptr hb h=>intro hn;rw [D.no] at hn;exact .ptr hb (cover_obj h (no_beq hn))
 | mp hb h=>intro hn;rw [D.no] at hn;exact .mp hb (cover_obj h (no_beq hn))
 | fn hl _ ih=>
  intro hn;rw [D.no] at hn
  exact .fn hl fun i u c hu hc=>ih i u c hu hc (D.noL_mem hn c (List.mem_of_getElem? hc))
theorem Bf.cover {us:List Value}{cs:List D}(h:Bf ro w us cs)(hn:∀c∈cs,D.no t c=true):Bf (cover t ro) w us cs:=
 ⟨h.1,h.2.1,fun j u c hu hc=>(h.2.2 j u c hu hc).cover (hn c (List.mem_of_getElem? hc))⟩
theorem SatC.cover {c:C}(h:SatC P base ro w v c)(hn:C.no t c=true):SatC P base (cover t ro) w v c:=by
 cases c with
 | d x=>exact Rep.cover h hn
 | nil=>exact h
 | own τ e xs=>
  obtain ⟨sz,us,h1,h2,h3,h4,h5,h6⟩:=h
  exact ⟨sz,us,h1,h2,h3,h4,h5.cover (D.noL_flat hn),fun g hg=>cover_row (h6 g hg)⟩
theorem satRes_cover {cs:List C}{blk:Nat→Nat}{u:Nat}(h:BB P base ro blk w u v (resS cs))(hn:∀c∈cs,C.no t c=true):BB P base (cover t ro) blk w u v (resS cs):=by
 match cs,h,hn with
 | [],h,hn=>
  obtain ⟨arr,h1,h2,h3⟩:=h
  exact ⟨arr,h1,h2,fun i u c hu hc=>by simp at hc⟩
 | [c],h,hn=>exact SatC.cover h (hn c (List.mem_singleton.2 rfl))
 | c::c'::cs,h,hn=>
  obtain ⟨arr,h1,h2,h3⟩:=h
  exact ⟨arr,h1,h2,fun i u c hu hc=>(h3 i u c hu hc).cover (hn c (List.mem_of_getElem? hc))⟩
theorem PackAt.cover {id:Nat}{cs:List D}{rows:List (Nat×Nat×List D)}(h:PackAt ro w id cs rows)(hid:¬id=t)(h1:D.noL t cs=true)(h2:∀r∈rows,D.noL t r.2.2=true):PackAt (cover t ro) w id cs rows:=by
 obtain ⟨b,arr,e,bk,k1,k2,k3,k4,k5,k6⟩:=h
 have hsl:∀{b sz n u},SlAt (.priv id) ro w b sz n u→SlAt (.priv id) (Vm.cover t ro) w b sz n u:=fun hs=>hs.imp (fun x=>x) fun ⟨q1,q2⟩=>⟨cover_priv q1 hid,q2⟩
 refine ⟨b,arr,e,bk,cover_obj k1 hid,k2,⟨k3.1,k3.2.1,fun j u c hu hc=>?_⟩,fun r hr=>?_,k5,fun r hr r' hr' q1 q2=>k6 r hr r' hr' (cover_priv_inv q1).1 q2⟩
 ·have h3:=k3.2.2 j u c hu hc
  have h4:=D.noL_mem h1 c (List.mem_of_getElem? hc)
  cases c with
  | rr i sz n=>exact ⟨h3.1,hsl h3.2⟩
  | stale=>trivial
  | _=>exact Rep.cover h3 h4
 ·obtain ⟨q1,q2,q3⟩:=k4 r hr
  refine ⟨q1,q2,q3.imp (fun x=>x) fun ⟨p1,arr,e,p2,p3,p4⟩=>⟨cover_priv p1 hid,arr,e,p2,p3,p4.cover (D.noL_flat (h2 r hr))⟩⟩
theorem satThing_cover {id:Nat}{s:S}{blk:Nat→Nat}(hs:thing s=true)(hid:¬id=t)(h:BB P base ro blk w id v s)(hn:S.no t s):BB P base (cover t ro) blk w id v s:=by
 cases s with
 | obj cs=>
  obtain ⟨b,arr,e,h1,h2,h3⟩:=h
  exact ⟨b,arr,e,cover_obj h1 hid,h2,h3.cover (D.noL_mem hn)⟩
 | mapo es=>
  obtain ⟨b,ents,h1,h2⟩:=h
  exact ⟨b,ents,cover_obj h1 hid,h2.heap,h2.len,h2.born,fun i e p he hp=>⟨(h2.rep i e p he hp).1.cover (hn p (List.mem_of_getElem? hp)).1,(h2.rep i e p he hp).2.cover (hn p (List.mem_of_getElem? hp)).2⟩⟩
 | pack cs rows=>exact PackAt.cover h hid hn.1 hn.2
 | free=>intro b k hb;exact h b k (cover_obj_inv hb).1
 | junk=>trivial
 | _=>cases hs
theorem role_ex:∀n:Nat,∃M,∀b,b<n→∀id,((∃k,ro b=.obj id k)∨ro b=.priv id)→id<M
 | 0=>⟨0,fun b hb=>absurd hb (Nat.not_lt_zero b)⟩
 | n+1=>by
  obtain ⟨M,h⟩:=role_ex n
  obtain ⟨M',h'⟩:∃M',∀id,((∃k,ro n=.obj id k)∨ro n=.priv id)→id<M':=by
   cases hr:ro n with
   | obj id k=>exact ⟨id+1,fun id' h=>by rcases h with ⟨k',h⟩ | h;(· injection h with h;omega);(· cases h)⟩
   | priv id=>exact ⟨id+1,fun id' h=>by rcases h with ⟨k',h⟩ | h;(· cases h);(· injection h with h;omega)⟩
   | _=>exact ⟨0,fun id' h=>by rcases h with ⟨k',h⟩ | h<;>cases h⟩
  refine ⟨max M M',fun b hb id hid=>?_⟩
  rcases Nat.lt_or_ge b n with k | k
  ·have:=h b k id hid;omega
  ·obtain rfl:b=n:=by omega
   have:=h' id hid;omega
theorem hideH {f:FuncId}{args:List D}{pre post:List (Nat×S)}{res:List C}(h:∀t,NAM≤t→(∀y,BJ pre y=true→¬y=t)→DK P f args ((t,.free)::pre) res post)
 (hq:∀p∈post,thing p.2=true∧BJ pre p.1=true:=by simp [thing,BJ]):DK P f args pre res post:=by
 intro ro w vs τ hnew huniq hlen hrep hthings
 obtain ⟨M1,m1⟩:=role_ex (ro:=ro) w.heap.size
 obtain ⟨M2,m2⟩:=all_ex (p:=fun t (q:Nat×S)=>q.1<t) (fun q=>⟨q.1+1,fun t ht=>by omega⟩) pre
 obtain ⟨M3,m3⟩:=all_ex (p:=fun t (c:C)=>C.no t c=true) C.no_ex res
 obtain ⟨M4,m4⟩:=all_ex (p:=fun t (q:Nat×S)=>S.no t q.2) (fun q=>S.no_ex q.2) post
 obtain ⟨t,ht0,ht1,ht2,ht3,ht4⟩:∃t,NAM≤t∧M1≤t∧M2≤t∧M3≤t∧M4≤t:=⟨max NAM (max M1 (max M2 (max M3 M4))),by omega,by omega,by omega,by omega,by omega⟩
 have hro:∀b id,((∃k,ro b=.obj id k)∨ro b=.priv id)→¬id=t:=by
  intro b id hb e
  rcases Nat.lt_or_ge b w.heap.size with k | k
  ·have:=m1 b k id hb;omega
  ·rw [hnew.new b k] at hb;rcases hb with ⟨_,hb⟩ | hb<;>cases hb
 have hpre:∀y,BJ pre y=true→¬y=t:=by
  intro y hy e
  obtain ⟨q,hq1,hq2⟩:=List.any_eq_true.1 hy
  have:=m2 t ht2 q hq1
  have:q.1=y:=by simpa using hq2
  omega
 have hin:∀{id},¬id=t→BJ ((t,S.free)::pre) id=BJ pre id:=by
  intro id hid
  have:(t==id)=false:=by simpa using fun e=>hid e.symm
  simp [BJ,this]
 refine (h t ht0 hpre ro w vs τ hnew huniq hlen hrep fun p hp=>?_).mono ?_
 ·rcases List.mem_cons.1 hp with rfl | hp
  ·intro b k hb;exact hro b t (.inl ⟨k,hb⟩) rfl
  ·exact hthings p hp
 ·rintro e w' ⟨v,ro',rfl,hg,hs,hpo⟩
  refine ⟨v,cover t ro',rfl,⟨hg.os,hg.tape,hg.output,hg.size,fun b hb h1 h2=>hg.block b hb (fun id k e=>by rw [hin (hro b id (.inl ⟨k,e⟩))];exact h1 id k e) (fun id e=>by rw [hin (hro b id (.inr e))];exact h2 id e),fun b hb=>?_,fun b hb=>cover_frozen (hg.new b hb),fun b id k hb e=>?_,fun b b' id k k' e e'=>hg.uniq b b' id k k' (cover_obj_inv e).1 (cover_obj_inv e').1⟩,satRes_cover hs fun c hc=>?_,fun p hp=>?_⟩
  ·rcases hg.role b hb with e | ⟨e1,e2⟩
   ·refine .inl ?_
    rw [cover_same (fun id k q=>hro b id (.inl ⟨k,e▸q⟩)) (fun id q=>hro b id (.inr (e▸q))),e]
   ·refine .inr ⟨?_,cover_tame e2⟩
    cases hr:ro b with
    | priv id=>rw [hr] at e1;show BJ pre id=true;rw [←hin (hro b id (.inr hr))];exact e1
    | _=>rw [hr] at e1;cases e1
  ·obtain ⟨q1,q2⟩:=cover_obj_inv e
   have:=hg.names b id k hb q1
   rwa [hin q2] at this
  ·obtain ⟨c',hc',rfl⟩:=List.mem_map.1 hc
   rw [C.no_tok];exact m3 t ht3 c' hc'
  ·obtain ⟨q1,q2⟩:=hq p hp
   exact satThing_cover q1 (hpre _ q2) (hpo p hp) (m4 t ht4 p hp)
theorem contract_of_H {f:FuncId}{args:List D}{res:List C}(h:DK P f args [] res []):Bc P f args res:=by
 intro ro w vs τ hnew huniq hlen hrep
 refine (h ro w vs τ hnew huniq hlen hrep (fun p hp=>by cases hp)).mono ?_
 rintro e w' ⟨v,ro',rfl,hg,hs,_⟩
 refine ⟨v,ro',rfl,⟨⟨hg.os,hg.tape,hg.output,hg.size,fun k hk=>hg.block k hk (fun _ _ _=>rfl) (fun _ _=>rfl)⟩,fun b hb=>?_,hg.new,fun b id k hb e=>?_⟩,hs⟩
 ·rcases hg.role b hb with e | ⟨e1,_⟩
  ·exact e
  ·cases hr:ro b with
   | priv id=>rw [hr] at e1;cases e1
   | _=>rw [hr] at e1;cases e1
 ·have:=hg.names b id k hb e
  cases this
end Go.Vm
end
section
namespace Go.Vm
open Go.RowKit
section
variable {P:Program} {T:TypeId} {x y:Operand}
theorem x_addW {a b:Int}{K:Value→Prop}(hK:K (.int .i64 (w64 (a+b)))):∃r,AX P (do eqGuard .add T x y (.int .i64 a) (.int .i64 b);binOp .add T (.int .i64 a) (.int .i64 b):Sem Value)=some r∧Cc r=true∧K r:=⟨_,pr_add rfl,rfl,hK⟩
theorem x_subW {a b:Int}{K:Value→Prop}(hK:K (.int .i64 (w64 (a-b)))):∃r,AX P (do eqGuard .sub T x y (.int .i64 a) (.int .i64 b);binOp .sub T (.int .i64 a) (.int .i64 b):Sem Value)=some r∧Cc r=true∧K r:=⟨_,pr_sub rfl,rfl,hK⟩
end
theorem drop_cons {α:Type}{l:List α}{k:Nat}{x:α}(h:l[k]? = some x):l.drop k=x::l.drop (k+1):=by
 obtain ⟨h1,h2⟩:=List.getElem?_eq_some_iff.1 h
 rw [List.drop_eq_getElem_cons h1,h2]
theorem drop_end {α:Type}{l:List α}{k:Nat}(h:¬(k:Int)<(l.length:Int)):l.drop k= []:=List.drop_eq_nil_of_le (by omega)
theorem lt_inc {α:Type}{l:List α}{k:Nat}(g:l.length≤1000000000)(h:(k:Int)<(l.length:Int)):k+1≤9223372036854775807:=by omega
theorem Ai {α:Type}{f:α→D}{l:List α}{k:Nat}{x:α}(h:l[k]? = some x):(l.map f)[k]? = some (f x):=by rw [List.getElem?_map,h];rfl
theorem flt_len {α:Type}{l:List α}{k:Nat}{p:α}(hp:l[k]? = some p):k<l.length:=(List.getElem?_eq_some_iff.1 hp).1
theorem wide_map {α:Type}{f:α→D}{sz:Nat}(l:List α)(h:∀a,(f a).cells.length=sz):∀x∈l.map f,x.cells.length=sz:=by
 intro x hx;obtain ⟨a,_,rfl⟩:=List.mem_map.1 hx;exact h a
section
variable {α:Type} {f:α→D} {R z A B:List α} {sz bytes:Nat} {lo hi:Int} {K:List D→Prop}
theorem x_subH (hK:K (z.map f))(hw:∀x∈R.map f,x.cells.length=sz)(ha:(0:Int)≤0)(hb:0≤hi)(hc:hi≤(R.length:Int))(hy:(R.take hi.toNat).drop (0:Int).toNat=z):(∀x∈R.map f,x.cells.length=sz)∧0≤hi.toNat∧hi.toNat≤(R.map f).length∧∃ys,((R.map f).take hi.toNat).drop 0=ys∧K ys:=
 ⟨hw,by omega,by rw [List.length_map];omega,_,by rw [←List.map_take,←List.map_drop];exact congrArg _ hy,hK⟩
theorem x_subL (hK:K (z.map f))(hw:∀x∈R.map f,x.cells.length=sz)(ha:0≤lo)(hb:lo≤((R.length:Nat):Int))(hc:((R.length:Nat):Int)≤(R.length:Int))(hy:(R.take ((R.length:Nat):Int).toNat).drop lo.toNat=z):(∀x∈R.map f,x.cells.length=sz)∧lo.toNat≤(R.map f).length∧(R.map f).length≤(R.map f).length∧∃ys,((R.map f).take (R.map f).length).drop lo.toNat=ys∧K ys:=
 ⟨hw,by rw [List.length_map];omega,Nat.le_refl _,_,by rw [List.length_map,←List.map_take,←List.map_drop];rw [Int.toNat_natCast] at hy;rw [hy],hK⟩
end
section
variable {P:Program} {N:Nat} {t:Tr} {h:Hp} {o:Oper}
theorem x_appGL {α:Type}{f:α→D}{A B z:List α}{T e:TypeId}{sz bytes id d:Nat}{x y:Operand}{K:Tr→Hp→Prop}(q:BF A B=some z)(hT:Cf P T=some (e,sz,bytes))(hb:bytes≤100000)
 (hx:Am (Af t h) x=.sref id sz A.length) (hg:t.get id=.gbox sz (A.map f)) (hy:vd (Af t h) y=some (.row (B.map f))) (hw:∀y∈B.map f,y.cells.length=sz)
 (hk:mapK (dropGK id) t fun t1=>AQ 20 t1 id (.gbox sz (z.map f)) fun t2=>AQ 20 t2 d (.sref id sz z.length) fun t3=>K t3 (hdrop id h))
 (hop:o.op=.call { callee:=.builtin .append,args:=#[x,y],argTypes:=#[T,T] }:=by rfl) (hd:o.dst=some d:=by rfl) (hdN:d<N:=by exact Nat.le_of_ble_eq_true rfl) (hNB:N≤BIG:=by exact Nat.le_of_ble_eq_true rfl) (hid:BIG≤id:=by exact Nat.le_of_ble_eq_true rfl) (hid2:id<NAM:=by exact Nat.le_of_ble_eq_true rfl) :
 StepP P N o (Af t h) fun e=>∃(t':Tr) (h':Hp),e=Af t' h'∧K t' h':=by
 obtain ⟨h1,rfl⟩:=appL_of q
 refine x_appG hT hx hg hy (by simp) hw (by rw [List.length_map];unfold maxLen;omega) ?_ List.map_append.symm (by simp) hk hop hd hdN hNB hid hid2
 rw [List.length_map]
 exact Nat.le_trans (Nat.mul_le_mul h1 hb) (by decide)
theorem x_frzP {tv id sz:Nat}{cs cs' xs:List D}{Φ:Env→Prop}(htv:t.get tv=.ubox cs)(hg:t.get id=.gbox sz xs)(hcs:cs.map (BC id xs)=cs')(hp:cs'.all plainD=true)
 (hk:mapK (dropGK id) t fun t1=>AQ 20 t1 id (.gbox sz []) fun t2=>AQ 20 t2 tv (.box cs') fun t3=>StepP P N o (Af t3 (hdrop id h)) Φ)
 (hid:BIG≤id:=by exact Nat.le_of_ble_eq_true rfl) (hid2:id<NAM:=by exact Nat.le_of_ble_eq_true rfl) (htB:tv<BIG:=by exact Nat.le_of_ble_eq_true rfl):StepP P N o (Af t h) Φ:=by
 obtain ⟨t1,k1,hk⟩:=mapK_spec (f:=CS id) rfl dropGK_spec hk
 obtain ⟨t2,k2,hk⟩:=Bh hk
 obtain ⟨t3,k3,hk⟩:=Bh hk
 intro base w0 ro0 a w ⟨ro,blk,hs⟩ K' Q hK'
 obtain ⟨ro',hs2⟩:=hs.freezeU (tv:=tv) (id:=id) (sz:=sz) (cs:=cs) (xs:=xs) (by rw [BV (nam htB)];exact htv) (at_row hid2 hg) htB hid
 rw [hcs.symm] at hp k3
 have hs3:=hs2.plainU (tv:=tv) (cs:=cs.map (BC id xs)) (by simp [frzE]) hp
 have e:Af t3 (hdrop id h)=upd (frzE tv id sz cs xs (Af t h)) (some tv) (.box (cs.map (BC id xs))):=by
  funext u
  simp only [upd,frzE]
  by_cases hu:u<NAM
  ·rw [BV hu,k3]
   by_cases e1:u=tv
   ·simp [e1]
   ·rw [if_neg e1,if_neg e1,if_neg e1,k2]
    by_cases e2:u=id
    ·simp [e2]
    ·rw [if_neg e2,if_neg e2,k1,BV hu]
  ·have e1:¬u=tv:=fun h=>hu (h▸nam htB)
   have e2:¬u=id:=fun h=>hu (h▸hid2)
   rw [if_neg e1,if_neg e1,if_neg e2]
   simp only [Af,if_neg hu,hdrop]
   exact (nameS_dropG _).symm
 rw [←e] at hs3
 exact hk base w0 ro0 a w ⟨_,_,hs3⟩ K' Q hK'
theorem CE {tv id sz:Nat}{cs cs' xs:List D}{Φ:Env→Prop}(htv:t.get tv=.ubox cs)(hg:t.get id=.gbox sz xs)(hcs:cs.map (BC id xs)=cs')
 (hk:mapK (dropGK id) t fun t1=>AQ 20 t1 id (.gbox sz []) fun t2=>AQ 20 t2 tv (.ubox cs') fun t3=>StepP P N o (Af t3 (hdrop id h)) Φ)
 (hid:BIG≤id:=by exact Nat.le_of_ble_eq_true rfl) (hid2:id<NAM:=by exact Nat.le_of_ble_eq_true rfl) (htB:tv<BIG:=by exact Nat.le_of_ble_eq_true rfl):StepP P N o (Af t h) Φ:=by
 obtain ⟨t1,k1,hk⟩:=mapK_spec (f:=CS id) rfl dropGK_spec hk
 obtain ⟨t2,k2,hk⟩:=Bh hk
 obtain ⟨t3,k3,hk⟩:=Bh hk
 intro base w0 ro0 a w ⟨ro,blk,hs⟩ K' Q hK'
 obtain ⟨ro',hs2⟩:=hs.freezeU (tv:=tv) (id:=id) (sz:=sz) (cs:=cs) (xs:=xs) (by rw [BV (nam htB)];exact htv) (at_row hid2 hg) htB hid
 rw [hcs.symm] at k3
 have e:Af t3 (hdrop id h)=frzE tv id sz cs xs (Af t h):=by
  funext u
  simp only [frzE]
  by_cases hu:u<NAM
  ·rw [BV hu,k3]
   by_cases e1:u=tv
   ·simp [e1]
   ·rw [if_neg e1,if_neg e1,k2]
    by_cases e2:u=id
    ·simp [e2]
    ·rw [if_neg e2,if_neg e2,k1,BV hu]
  ·have e1:¬u=tv:=fun h=>hu (h▸nam htB)
   have e2:¬u=id:=fun h=>hu (h▸hid2)
   rw [if_neg e1,if_neg e2]
   simp only [Af,if_neg hu,hdrop]
   exact (nameS_dropG _).symm
 rw [←e] at hs2
 exact hk base w0 ro0 a w ⟨_,_,hs2⟩ K' Q hK'
theorem x_stepP {d:Nat}{s:S}{K:Tr→Hp→Prop}(hy:Cb P N o (Af t h) s)(hk:AQ 20 t d s fun t'=>K t' h)(hd:o.dst=some d:=by rfl)(hdN:d<N:=by exact Nat.le_of_ble_eq_true rfl)(hNB:N≤BIG:=by exact Nat.le_of_ble_eq_true rfl):StepP P N o (Af t h) fun e=>∃(t':Tr) (h':Hp),e=Af t' h'∧K t' h':=by
 refine stepP_of ?_
 obtain ⟨t',k1,k2⟩:=Bh hk
 refine ⟨t',h,?_,k2⟩
 have:=hy.step
 rw [hd] at this
 rwa [Du (nam (Nat.lt_of_lt_of_le hdN hNB)) k1]
theorem x_ldB {T:TypeId}{x:Operand}{u d:Nat}{cs:List D}{sh:Bool×Nat}{r:D}{K:Tr→Hp→Prop}(hx:Am (Af t h) x=.ref u 0)(hu:t.get u=.box cs)(hsh:Bo P T=some sh)(hp:partD sh cs 0=some r)(hk:AQ 20 t d (.c (.d r)) fun t'=>K t' h)
 (hop:o.op=.load T x:=by rfl) (hd:o.dst=some d:=by rfl) (hdN:d<N:=by exact Nat.le_of_ble_eq_true rfl) (hNB:N≤BIG:=by exact Nat.le_of_ble_eq_true rfl) (huB:u<NAM:=by exact Nat.le_of_ble_eq_true rfl):StepP P N o (Af t h) fun e=>∃(t':Tr) (h':Hp),e=Af t' h'∧K t' h':=
 x_stepP (y_load_ref hop hx (by rw [BV huB];exact hu) hsh hp hd hdN) hk hd hdN hNB
end
end Go.Vm
end
section
namespace Go.Vm
open Go.RowKit Go.Proofs
set_option maxRecDepth 10000
open Go.Proofs Go.Proofs.YtdfbohaohjaloaaGreatDoor Punnet.Name Punnet.Num
set_option maxHeartbeats 16000000 in
theorem script_kind_any (table:Vec13D)(word:ByteArray)  (r:Int)(h:Bv table word=some r):Bc Tryz.prog 40 [vec13D table,.sc (.string word)] [.d (.sc (.int .i64 r))]:=by
 refine T.fn [11] Tryz.func40 ?_
 unfold Bv at h
 refine Aa h fun o1 H1 h=>?_
 refine xloopR (fb:=[11]) T.ok (Nat.le_of_ble_eq_true rfl) [1,7] (fun (s:Nat×Int)=>[(8,.c (.d (.sc (.int .i64 s.2))))]) (fun s=>CO table word s.1 s.2=some o1) (fun s=>s.1) (1000000,0) H1 (Aq rfl trivial) ?_
 rintro ⟨nl1,v8l1⟩ h1
 try dsimp only at h1
 rcases nl1 with _ | nl1
 ·rw [CO] at h1;cases h1
 rw [CO] at h1
 refine br (fun c1=>?c1y) (fun c1=>?c1n)
 case' c1y=>
  replace h1:=Ad h1 c1
  refine Aa h1 fun p11 q1 h1=>Aj q1 fun q1n q1=>?_
  refine x_ixArr (e:=9) ?_ Tryz.underlying97 (by rfl) q1n (Ai (f:=fun x=>.sc (.string x)) q1)
  refine br (fun c2=>?c2y) (fun c2=>?c2n)
  case' c2y=>
   refine br (fun c3=>?c3y) (fun c3=>?c3n)
   case' c3y=>
    replace h1:=Ad h1 ⟨c2,c3⟩
    obtain rfl:=Option.some.inj h1
    try dsimp only at h
    obtain rfl:=Option.some.inj h
   case' c3n=>
    replace h1:=Ae h1 (fun k=>absurd k.2 (fun k=>k c3))
    refine x_addW ?_
    refine CZ ((nl1,(w64 (v8l1+1)))) h1 (by (try dsimp only);omega) rfl (Aq rfl trivial) rfl
  case' c2n=>
   refine brF ?_
   replace h1:=Ae h1 (fun k=>absurd k.1 c2)
   refine x_addW ?_
   refine CZ ((nl1,(w64 (v8l1+1)))) h1 (by (try dsimp only);omega) rfl (Aq rfl trivial) rfl
 case' c1n=>
  replace h1:=Ae h1 c1
  obtain rfl:=Option.some.inj h1
  try dsimp only at h
  obtain rfl:=Option.some.inj h
 all_goals (refine x_ret ?_;simp only [BL,fits,C.asD,and_true]<;>(first | exact rfl | trivial | exact ⟨rfl,rfl⟩ | exact ⟨rfl,rfl,rfl⟩ | (simp [*];done) | (simp_all;done) | (simp only [schC] at *;simp_all;first | done | rfl)))
set_option maxHeartbeats 16000000 in
theorem EW (t_r0:Nat)(ht_r0:NAM≤t_r0)(r0:A8)  (r:ByteArray×A8)(h:EI r0=some r):DK Tryz.prog 39 [.ptr t_r0 0] [(t_r0,.obj [.row (List.map strD r0.words),.sc (.bool r0.bad)])] [.d (.sc (.string r.1))] [(t_r0,.obj [.row (List.map strD r.2.words),.sc (.bool r.2.bad)])]:=by
 refine T.fnH [] Tryz.func39 ?_ (by simp only [List.forall_mem_cons,List.not_mem_nil,false_implies,implies_true,and_true];exact ht_r0) (by simp [thing]) (by simp [thing])
 unfold EI at h
 refine BX ht_r0 (by first | rfl | (simp only [hOf,hset,hpost,if_true,if_false,not_false_eq_true];first | done | rfl | (simp [*];done) | (simp_all;done))) ?_
 refine AA ?_
 refine br (fun c1=>?c1y) (fun c1=>?c1n)
 case' c1y=>
  replace h:=Ad h c1
  refine BX ht_r0 (by first | rfl | (simp only [hOf,hset,hpost,if_true,if_false,not_false_eq_true];first | done | rfl | (simp [*];done) | (simp_all;done))) ?_
  obtain rfl:=Option.some.inj h
 case' c1n=>
  replace h:=Ae h c1
  refine BX ht_r0 (by first | rfl | (simp only [hOf,hset,hpost,if_true,if_false,not_false_eq_true];first | done | rfl | (simp [*];done) | (simp_all;done))) ?_
  refine Aa h fun p17 q1 h=>Aj q1 fun q1n q1=>?_
  refine Ag (Ai q1) ?_ q1n
  refine BX ht_r0 (by first | rfl | (simp only [hOf,hset,hpost,if_true,if_false,not_false_eq_true];first | done | rfl | (simp [*];done) | (simp_all;done))) ?_
  refine Aa h fun y24 q2 h=>subLG q2 fun q2a q2b q2c q2=>?_
  refine DI ?_ q2a
  refine x_subL ?_ (wide_map _ fun _=>rfl) q2a q2b q2c q2
  refine BX ht_r0 (by first | rfl | (simp only [hOf,hset,hpost,if_true,if_false,not_false_eq_true];first | done | rfl | (simp [*];done) | (simp_all;done))) ?_
  obtain rfl:=Option.some.inj h
 all_goals (refine ⟨?_,⟨⟨ht_r0,(by first | rfl | (simp only [hOf,hset,hpost,if_true,if_false,not_false_eq_true];first | done | rfl | (simp [*];done) | (simp_all;done)))⟩,trivial⟩⟩;simp only [BL,fits,C.asD,and_true]<;>(first | exact rfl | trivial | exact ⟨rfl,rfl⟩ | exact ⟨rfl,rfl,rfl⟩ | (simp [*];done) | (simp_all;done) | (simp only [schC] at *;simp_all;first | done | rfl)))
set_option maxHeartbeats 16000000 in
theorem EY (t_r0:Nat)(ht_r0:NAM≤t_r0)(r0:A8)  (r:Int×A8)(h:EN r0=some r):DK Tryz.prog 43 [.ptr t_r0 0] [(t_r0,.obj [.row (List.map strD r0.words),.sc (.bool r0.bad)])] [.d (.sc (.int .i64 r.1))] [(t_r0,.obj [.row (List.map strD r.2.words),.sc (.bool r.2.bad)])]:=by
 refine T.fnH [7] Tryz.func43 ?_ (by simp only [List.forall_mem_cons,List.not_mem_nil,false_implies,implies_true,and_true];exact ht_r0) (by simp [thing]) (by simp [thing])
 unfold EN at h
 refine Aa h fun r7 q1 h=>?_
 refine Bq T.en_39 (EW t_r0 ht_r0 r0 r7 q1) ?_ ⟨⟨ht_r0,(by first | rfl | (simp only [hOf,hset,hpost,if_true,if_false,not_false_eq_true];first | done | rfl | (simp [*];done) | (simp_all;done)))⟩,trivial⟩
 refine grdG h fun g1 h=>?_
 refine AY T.en_23 (numRead_any r7.1 g1) ?_
 refine BX ht_r0 (by first | rfl | (simp only [hOf,hset,hpost,if_true,if_false,not_false_eq_true];first | done | rfl | (simp [*];done) | (simp_all;done))) ?_
 refine br (fun c1=>?c1y) (fun c1=>?c1n)
 case' c1y=>
  refine BX ht_r0 (by first | rfl | (simp only [hOf,hset,hpost,if_true,if_false,not_false_eq_true];first | done | rfl | (simp [*];done) | (simp_all;done))) ?_
  obtain rfl:=Option.some.inj h
 case' c1n=>
  refine BX ht_r0 (by first | rfl | (simp only [hOf,hset,hpost,if_true,if_false,not_false_eq_true];first | done | rfl | (simp [*];done) | (simp_all;done))) ?_
  obtain rfl:=Option.some.inj h
 all_goals (refine ⟨?_,⟨⟨ht_r0,(by first | rfl | (simp only [hOf,hset,hpost,if_true,if_false,not_false_eq_true];first | done | rfl | (simp [*];done) | (simp_all;done)))⟩,trivial⟩⟩;simp only [BL,fits,C.asD,and_true]<;>(first | exact rfl | trivial | exact ⟨rfl,rfl⟩ | exact ⟨rfl,rfl,rfl⟩ | (simp [*];done) | (simp_all;done) | (simp only [schC] at *;simp_all;first | done | rfl)))
set_option maxHeartbeats 16000000 in
theorem EF (t_r0:Nat)(ht_r0:NAM≤t_r0)(r0:A8)  (r:Int×A8)(h:EL r0=some r):DK Tryz.prog 41 [.ptr t_r0 0] [(t_r0,.obj [.row (List.map strD r0.words),.sc (.bool r0.bad)])] [.d (.sc (.int .i64 r.1))] [(t_r0,.obj [.row (List.map strD r.2.words),.sc (.bool r.2.bad)])]:=by
 refine T.fnH [4] Tryz.func41 ?_ (by simp only [List.forall_mem_cons,List.not_mem_nil,false_implies,implies_true,and_true];exact ht_r0) (by simp [thing]) (by simp [thing])
 unfold EL at h
 refine Aa h fun r4 q1 h=>?_
 refine Bq T.en_43 (EY t_r0 ht_r0 r0 r4 q1) ?_ ⟨⟨ht_r0,(by first | rfl | (simp only [hOf,hset,hpost,if_true,if_false,not_false_eq_true];first | done | rfl | (simp [*];done) | (simp_all;done)))⟩,trivial⟩
 obtain rfl:=Option.some.inj h
 all_goals (refine ⟨?_,⟨⟨ht_r0,(by first | rfl | (simp only [hOf,hset,hpost,if_true,if_false,not_false_eq_true];first | done | rfl | (simp [*];done) | (simp_all;done)))⟩,trivial⟩⟩;simp only [BL,fits,C.asD,and_true]<;>(first | exact rfl | trivial | exact ⟨rfl,rfl⟩ | exact ⟨rfl,rfl,rfl⟩ | (simp [*];done) | (simp_all;done) | (simp only [schC] at *;simp_all;first | done | rfl)))
set_option maxHeartbeats 16000000 in
theorem script_reader_tag_any (t_r0:Nat)(ht_r0:NAM≤t_r0)(r0:A8)  (r:TagD×A8)(h:E5 r0=some r):DK Tryz.prog 81 [.ptr t_r0 0] [(t_r0,.obj [.row (List.map strD r0.words),.sc (.bool r0.bad)])] [.d (tD r.1)] [(t_r0,.obj [.row (List.map strD r.2.words),.sc (.bool r.2.bad)])]:=by
 refine T.fnH [7] Tryz.func81 ?_ (by simp only [List.forall_mem_cons,List.not_mem_nil,false_implies,implies_true,and_true];exact ht_r0) (by simp [thing]) (by simp [thing])
 unfold E5 at h
 refine Aa h fun r7 q1 h=>?_
 refine Bq T.en_39 (EW t_r0 ht_r0 r0 r7 q1) ?_ ⟨⟨ht_r0,(by first | rfl | (simp only [hOf,hset,hpost,if_true,if_false,not_false_eq_true];first | done | rfl | (simp [*];done) | (simp_all;done)))⟩,trivial⟩
 refine grdG h fun g1 h=>?_
 refine AY T.en_8 (scriptReadTag_any r7.1 g1) ?_
 refine BX ht_r0 (by first | rfl | (simp only [hOf,hset,hpost,if_true,if_false,not_false_eq_true];first | done | rfl | (simp [*];done) | (simp_all;done))) ?_
 refine br (fun c1=>?c1y) (fun c1=>?c1n)
 case' c1y=>
  refine BX ht_r0 (by first | rfl | (simp only [hOf,hset,hpost,if_true,if_false,not_false_eq_true];first | done | rfl | (simp [*];done) | (simp_all;done))) ?_
  obtain rfl:=Option.some.inj h
 case' c1n=>
  refine BX ht_r0 (by first | rfl | (simp only [hOf,hset,hpost,if_true,if_false,not_false_eq_true];first | done | rfl | (simp [*];done) | (simp_all;done))) ?_
  obtain rfl:=Option.some.inj h
 all_goals (refine ⟨?_,⟨⟨ht_r0,(by first | rfl | (simp only [hOf,hset,hpost,if_true,if_false,not_false_eq_true];first | done | rfl | (simp [*];done) | (simp_all;done)))⟩,trivial⟩⟩;simp only [BL,fits,C.asD,and_true]<;>(first | exact rfl | trivial | exact ⟨rfl,rfl⟩ | exact ⟨rfl,rfl,rfl⟩ | (simp [*];done) | (simp_all;done) | (simp only [schC] at *;simp_all;first | done | rfl)))
set_option maxHeartbeats 16000000 in
theorem ES (t_r0:Nat)(ht_r0:NAM≤t_r0)(r0:A8)  (r:BA×A8)(h:EM r0=some r):DK Tryz.prog 85 [.ptr t_r0 0] [(t_r0,.obj [.row (List.map strD r0.words),.sc (.bool r0.bad)])] [.d (rD r.1)] [(t_r0,.obj [.row (List.map strD r.2.words),.sc (.bool r.2.bad)])]:=by
 refine T.fnH [7] Tryz.func85 ?_ (by simp only [List.forall_mem_cons,List.not_mem_nil,false_implies,implies_true,and_true];exact ht_r0) (by simp [thing]) (by simp [thing])
 unfold EM at h
 refine Aa h fun r7 q1 h=>?_
 refine Bq T.en_39 (EW t_r0 ht_r0 r0 r7 q1) ?_ ⟨⟨ht_r0,(by first | rfl | (simp only [hOf,hset,hpost,if_true,if_false,not_false_eq_true];first | done | rfl | (simp [*];done) | (simp_all;done)))⟩,trivial⟩
 refine grdG h fun g1 h=>?_
 refine AY T.en_141 (fieldRead_any r7.1 g1) ?_
 refine BX ht_r0 (by first | rfl | (simp only [hOf,hset,hpost,if_true,if_false,not_false_eq_true];first | done | rfl | (simp [*];done) | (simp_all;done))) ?_
 refine br (fun c1=>?c1y) (fun c1=>?c1n)
 case' c1y=>
  refine BX ht_r0 (by first | rfl | (simp only [hOf,hset,hpost,if_true,if_false,not_false_eq_true];first | done | rfl | (simp [*];done) | (simp_all;done))) ?_
  obtain rfl:=Option.some.inj h
 case' c1n=>
  refine BX ht_r0 (by first | rfl | (simp only [hOf,hset,hpost,if_true,if_false,not_false_eq_true];first | done | rfl | (simp [*];done) | (simp_all;done))) ?_
  obtain rfl:=Option.some.inj h
 all_goals (refine ⟨?_,⟨⟨ht_r0,(by first | rfl | (simp only [hOf,hset,hpost,if_true,if_false,not_false_eq_true];first | done | rfl | (simp [*];done) | (simp_all;done)))⟩,trivial⟩⟩;simp only [BL,fits,C.asD,and_true]<;>(first | exact rfl | trivial | exact ⟨rfl,rfl⟩ | exact ⟨rfl,rfl,rfl⟩ | (simp [*];done) | (simp_all;done) | (simp only [schC] at *;simp_all;first | done | rfl)))
set_option maxHeartbeats 16000000 in
theorem Fa (t_r0:Nat)(ht_r0:NAM≤t_r0)(r0:A8)  (r:ByteArray×A8)(h:EX r0=some r):DK Tryz.prog 83 [.ptr t_r0 0] [(t_r0,.obj [.row (List.map strD r0.words),.sc (.bool r0.bad)])] [.d (.sc (.string r.1))] [(t_r0,.obj [.row (List.map strD r.2.words),.sc (.bool r.2.bad)])]:=by
 refine T.fnH [5] Tryz.func83 ?_ (by simp only [List.forall_mem_cons,List.not_mem_nil,false_implies,implies_true,and_true];exact ht_r0) (by simp [thing]) (by simp [thing])
 unfold EX at h
 refine Aa h fun r5 q1 h=>?_
 refine Bq T.en_39 (EW t_r0 ht_r0 r0 r5 q1) ?_ ⟨⟨ht_r0,(by first | rfl | (simp only [hOf,hset,hpost,if_true,if_false,not_false_eq_true];first | done | rfl | (simp [*];done) | (simp_all;done)))⟩,trivial⟩
 refine BX ht_r0 (by first | rfl | (simp only [hOf,hset,hpost,if_true,if_false,not_false_eq_true];first | done | rfl | (simp [*];done) | (simp_all;done))) ?_
 refine br (fun c1=>?c1y) (fun c1=>?c1n)
 case' c1y=>
  refine BX ht_r0 (by first | rfl | (simp only [hOf,hset,hpost,if_true,if_false,not_false_eq_true];first | done | rfl | (simp [*];done) | (simp_all;done))) ?_
  obtain rfl:=Option.some.inj h
 case' c1n=>
  refine AY T.en_140 (name_any r5.1) ?_
  refine BX ht_r0 (by first | rfl | (simp only [hOf,hset,hpost,if_true,if_false,not_false_eq_true];first | done | rfl | (simp [*];done) | (simp_all;done))) ?_
  obtain rfl:=Option.some.inj h
 all_goals (refine ⟨?_,⟨⟨ht_r0,(by first | rfl | (simp only [hOf,hset,hpost,if_true,if_false,not_false_eq_true];first | done | rfl | (simp [*];done) | (simp_all;done)))⟩,trivial⟩⟩;simp only [BL,fits,C.asD,and_true]<;>(first | exact rfl | trivial | exact ⟨rfl,rfl⟩ | exact ⟨rfl,rfl,rfl⟩ | (simp [*];done) | (simp_all;done) | (simp only [schC] at *;simp_all;first | done | rfl)))
set_option maxHeartbeats 16000000 in
theorem E9 (t_r0:Nat)(ht_r0:NAM≤t_r0)(r0:A8)  (r:ByteArray×A8)(h:E8 r0=some r):DK Tryz.prog 84 [.ptr t_r0 0] [(t_r0,.obj [.row (List.map strD r0.words),.sc (.bool r0.bad)])] [.d (.sc (.string r.1))] [(t_r0,.obj [.row (List.map strD r.2.words),.sc (.bool r.2.bad)])]:=by
 refine T.fnH [5] Tryz.func84 ?_ (by simp only [List.forall_mem_cons,List.not_mem_nil,false_implies,implies_true,and_true];exact ht_r0) (by simp [thing]) (by simp [thing])
 unfold E8 at h
 refine Aa h fun r5 q1 h=>?_
 refine Bq T.en_39 (EW t_r0 ht_r0 r0 r5 q1) ?_ ⟨⟨ht_r0,(by first | rfl | (simp only [hOf,hset,hpost,if_true,if_false,not_false_eq_true];first | done | rfl | (simp [*];done) | (simp_all;done)))⟩,trivial⟩
 refine br (fun c1=>?c1y) (fun c1=>?c1n)
 case' c1y=>
  replace h:=Ad h c1
  obtain rfl:=Option.some.inj h
 case' c1n=>
  replace h:=Ae h c1
  refine BX ht_r0 (by first | rfl | (simp only [hOf,hset,hpost,if_true,if_false,not_false_eq_true];first | done | rfl | (simp [*];done) | (simp_all;done))) ?_
  refine br (fun c2=>?c2y) (fun c2=>?c2n)
  case' c2y=>
   refine BX ht_r0 (by first | rfl | (simp only [hOf,hset,hpost,if_true,if_false,not_false_eq_true];first | done | rfl | (simp [*];done) | (simp_all;done))) ?_
   obtain rfl:=Option.some.inj h
  case' c2n=>
   refine AY T.en_140 (name_any r5.1) ?_
   refine BX ht_r0 (by first | rfl | (simp only [hOf,hset,hpost,if_true,if_false,not_false_eq_true];first | done | rfl | (simp [*];done) | (simp_all;done))) ?_
   obtain rfl:=Option.some.inj h
 all_goals (refine ⟨?_,⟨⟨ht_r0,(by first | rfl | (simp only [hOf,hset,hpost,if_true,if_false,not_false_eq_true];first | done | rfl | (simp [*];done) | (simp_all;done)))⟩,trivial⟩⟩;simp only [BL,fits,C.asD,and_true]<;>(first | exact rfl | trivial | exact ⟨rfl,rfl⟩ | exact ⟨rfl,rfl,rfl⟩ | (simp [*];done) | (simp_all;done) | (simp only [schC] at *;simp_all;first | done | rfl)))
set_option maxHeartbeats 16000000 in
theorem Fb (t_r0:Nat)(ht_r0:NAM≤t_r0)(r0:A8)  (r:ByteArray×A8)(h:EZ r0=some r):DK Tryz.prog 86 [.ptr t_r0 0] [(t_r0,.obj [.row (List.map strD r0.words),.sc (.bool r0.bad)])] [.d (.sc (.string r.1))] [(t_r0,.obj [.row (List.map strD r.2.words),.sc (.bool r.2.bad)])]:=by
 refine T.fnH [7] Tryz.func86 ?_ (by simp only [List.forall_mem_cons,List.not_mem_nil,false_implies,implies_true,and_true];exact ht_r0) (by simp [thing]) (by simp [thing])
 unfold EZ at h
 refine Aa h fun r7 q1 h=>?_
 refine Bq T.en_39 (EW t_r0 ht_r0 r0 r7 q1) ?_ ⟨⟨ht_r0,(by first | rfl | (simp only [hOf,hset,hpost,if_true,if_false,not_false_eq_true];first | done | rfl | (simp [*];done) | (simp_all;done)))⟩,trivial⟩
 refine grdG h fun g1 h=>?_
 refine AY T.en_142 (unquote_c r7.1 g1) ?_
 refine BX ht_r0 (by first | rfl | (simp only [hOf,hset,hpost,if_true,if_false,not_false_eq_true];first | done | rfl | (simp [*];done) | (simp_all;done))) ?_
 refine br (fun c1=>?c1y) (fun c1=>?c1n)
 case' c1y=>
  refine BX ht_r0 (by first | rfl | (simp only [hOf,hset,hpost,if_true,if_false,not_false_eq_true];first | done | rfl | (simp [*];done) | (simp_all;done))) ?_
  obtain rfl:=Option.some.inj h
 case' c1n=>
  refine BX ht_r0 (by first | rfl | (simp only [hOf,hset,hpost,if_true,if_false,not_false_eq_true];first | done | rfl | (simp [*];done) | (simp_all;done))) ?_
  obtain rfl:=Option.some.inj h
 all_goals (refine ⟨?_,⟨⟨ht_r0,(by first | rfl | (simp only [hOf,hset,hpost,if_true,if_false,not_false_eq_true];first | done | rfl | (simp [*];done) | (simp_all;done)))⟩,trivial⟩⟩;simp only [BL,fits,C.asD,and_true]<;>(first | exact rfl | trivial | exact ⟨rfl,rfl⟩ | exact ⟨rfl,rfl,rfl⟩ | (simp [*];done) | (simp_all;done) | (simp only [schC] at *;simp_all;first | done | rfl)))
set_option maxHeartbeats 16000000 in
theorem script_reader_lens_any (t_r0:Nat)(ht_r0:NAM≤t_r0)(r0:A8)  (r:AP×A8)(h:D7 r0=some r):DK Tryz.prog 82 [.ptr t_r0 0] [(t_r0,.obj [.row (List.map strD r0.words),.sc (.bool r0.bad)])] [.d (lD r.1)] [(t_r0,.obj [.row (List.map strD r.2.words),.sc (.bool r.2.bad)])]:=by
 refine T.fnH [6,7,14,20,32,38,47,50,55,60,63,66,69,74,77] Tryz.func82 ?_ (by simp only [List.forall_mem_cons,List.not_mem_nil,false_implies,implies_true,and_true];exact ht_r0) (by simp [thing]) (by simp [thing])
 unfold D7 at h
 refine Aa h fun r6 q1 h=>?_
 refine Bq T.en_39 (EW t_r0 ht_r0 r0 r6 q1) ?_ ⟨⟨ht_r0,(by first | rfl | (simp only [hOf,hset,hpost,if_true,if_false,not_false_eq_true];first | done | rfl | (simp [*];done) | (simp_all;done)))⟩,trivial⟩
 refine x_loadGl (r:=vec13D D6) ?_ rfl rfl rfl rfl
 refine Aa h fun r9 q2 h=>?_
 refine AY T.en_40 (script_kind_any D6 r6.1 r9 q2) ?_
 refine br (fun c1=>?c1y) (fun c1=>?c1n)
 case' c1y=>
  refine brT ?_
  replace h:=Ad h (.inl c1)
  refine Aa h fun r47 q3 h=>?_
  refine Bq T.en_85 (ES t_r0 ht_r0 r6.2 r47 q3) ?_ ⟨⟨ht_r0,(by first | rfl | (simp only [hOf,hset,hpost,if_true,if_false,not_false_eq_true];first | done | rfl | (simp [*];done) | (simp_all;done)))⟩,trivial⟩
  refine Aa h fun r50 q4 h=>?_
  refine Bq T.en_83 (Fa t_r0 ht_r0 r47.2 r50 q4) ?_ ⟨⟨ht_r0,(by first | rfl | (simp only [hOf,hset,hpost,if_true,if_false,not_false_eq_true];first | done | rfl | (simp [*];done) | (simp_all;done)))⟩,trivial⟩
  obtain rfl:=Option.some.inj h
 case' c1n=>
  refine br (fun c2=>?c2y) (fun c2=>?c2n)
  case' c2y=>
   replace h:=Ad h (.inr c2)
   refine Aa h fun r47 q5 h=>?_
   refine Bq T.en_85 (ES t_r0 ht_r0 r6.2 r47 q5) ?_ ⟨⟨ht_r0,(by first | rfl | (simp only [hOf,hset,hpost,if_true,if_false,not_false_eq_true];first | done | rfl | (simp [*];done) | (simp_all;done)))⟩,trivial⟩
   refine Aa h fun r50 q6 h=>?_
   refine Bq T.en_83 (Fa t_r0 ht_r0 r47.2 r50 q6) ?_ ⟨⟨ht_r0,(by first | rfl | (simp only [hOf,hset,hpost,if_true,if_false,not_false_eq_true];first | done | rfl | (simp [*];done) | (simp_all;done)))⟩,trivial⟩
   obtain rfl:=Option.some.inj h
  case' c2n=>
   replace h:=Ae h (fun k=>k.elim c1 c2)
   refine br (fun c3=>?c3y) (fun c3=>?c3n)
   case' c3y=>
    replace h:=Ad h c3
    refine Aa h fun r55 q7 h=>?_
    refine Bq T.en_85 (ES t_r0 ht_r0 r6.2 r55 q7) ?_ ⟨⟨ht_r0,(by first | rfl | (simp only [hOf,hset,hpost,if_true,if_false,not_false_eq_true];first | done | rfl | (simp [*];done) | (simp_all;done)))⟩,trivial⟩
    obtain rfl:=Option.some.inj h
   case' c3n=>
    replace h:=Ae h c3
    refine br (fun c4=>?c4y) (fun c4=>?c4n)
    case' c4y=>
     replace h:=Ad h c4
     refine Aa h fun r60 q8 h=>?_
     refine Bq T.en_85 (ES t_r0 ht_r0 r6.2 r60 q8) ?_ ⟨⟨ht_r0,(by first | rfl | (simp only [hOf,hset,hpost,if_true,if_false,not_false_eq_true];first | done | rfl | (simp [*];done) | (simp_all;done)))⟩,trivial⟩
     refine Aa h fun r63 q9 h=>?_
     refine Bq T.en_83 (Fa t_r0 ht_r0 r60.2 r63 q9) ?_ ⟨⟨ht_r0,(by first | rfl | (simp only [hOf,hset,hpost,if_true,if_false,not_false_eq_true];first | done | rfl | (simp [*];done) | (simp_all;done)))⟩,trivial⟩
     refine Aa h fun r66 q10 h=>?_
     refine Bq T.en_83 (Fa t_r0 ht_r0 r63.2 r66 q10) ?_ ⟨⟨ht_r0,(by first | rfl | (simp only [hOf,hset,hpost,if_true,if_false,not_false_eq_true];first | done | rfl | (simp [*];done) | (simp_all;done)))⟩,trivial⟩
     refine Aa h fun r69 q11 h=>?_
     refine Bq T.en_43 (EY t_r0 ht_r0 r66.2 r69 q11) ?_ ⟨⟨ht_r0,(by first | rfl | (simp only [hOf,hset,hpost,if_true,if_false,not_false_eq_true];first | done | rfl | (simp [*];done) | (simp_all;done)))⟩,trivial⟩
     obtain rfl:=Option.some.inj h
    case' c4n=>
     replace h:=Ae h c4
     refine br (fun c5=>?c5y) (fun c5=>?c5n)
     case' c5y=>
      replace h:=Ad h c5
      refine Aa h fun r74 q12 h=>?_
      refine Bq T.en_85 (ES t_r0 ht_r0 r6.2 r74 q12) ?_ ⟨⟨ht_r0,(by first | rfl | (simp only [hOf,hset,hpost,if_true,if_false,not_false_eq_true];first | done | rfl | (simp [*];done) | (simp_all;done)))⟩,trivial⟩
      refine Aa h fun r77 q13 h=>?_
      refine Bq T.en_86 (Fb t_r0 ht_r0 r74.2 r77 q13) ?_ ⟨⟨ht_r0,(by first | rfl | (simp only [hOf,hset,hpost,if_true,if_false,not_false_eq_true];first | done | rfl | (simp [*];done) | (simp_all;done)))⟩,trivial⟩
      obtain rfl:=Option.some.inj h
     case' c5n=>
      replace h:=Ae h c5
      refine x_loadGl (r:=vec13D vAdded) ?_ rfl rfl rfl rfl
      refine Aa h fun r16 q14 h=>?_
      refine AY T.en_40 (script_kind_any vAdded r6.1 r16 q14) ?_
      refine Aa h fun r20 q15 h=>?_
      refine Bq T.en_85 (ES t_r0 ht_r0 r6.2 r20 q15) ?_ ⟨⟨ht_r0,(by first | rfl | (simp only [hOf,hset,hpost,if_true,if_false,not_false_eq_true];first | done | rfl | (simp [*];done) | (simp_all;done)))⟩,trivial⟩
      refine br (fun c6=>?c6y) (fun c6=>?c6n)
      case' c6y=>
       replace h:=Ad h c6
       refine Aa h fun r32 q16 h=>?_
       refine Bq T.en_43 (EY t_r0 ht_r0 r20.2 r32 q16) ?_ ⟨⟨ht_r0,(by first | rfl | (simp only [hOf,hset,hpost,if_true,if_false,not_false_eq_true];first | done | rfl | (simp [*];done) | (simp_all;done)))⟩,trivial⟩
       obtain rfl:=Option.some.inj h
      case' c6n=>
       replace h:=Ae h c6
       refine br (fun c7=>?c7y) (fun c7=>?c7n)
       case' c7y=>
        replace h:=Ad h c7
        refine Aa h fun r38 q17 h=>?_
        refine Bq T.en_86 (Fb t_r0 ht_r0 r20.2 r38 q17) ?_ ⟨⟨ht_r0,(by first | rfl | (simp only [hOf,hset,hpost,if_true,if_false,not_false_eq_true];first | done | rfl | (simp [*];done) | (simp_all;done)))⟩,trivial⟩
        obtain rfl:=Option.some.inj h
       case' c7n=>
        replace h:=Ae h c7
        refine br (fun c8=>?c8y) (fun c8=>?c8n)
        case' c8y=>
         replace h:=Ad h c8
         obtain rfl:=Option.some.inj h
        case' c8n=>
         replace h:=Ae h c8
         refine BX ht_r0 (by first | rfl | (simp only [hOf,hset,hpost,if_true,if_false,not_false_eq_true];first | done | rfl | (simp [*];done) | (simp_all;done))) ?_
         obtain rfl:=Option.some.inj h
 all_goals (refine ⟨?_,⟨⟨ht_r0,(by first | rfl | (simp only [hOf,hset,hpost,if_true,if_false,not_false_eq_true];first | done | rfl | (simp [*];done) | (simp_all;done)))⟩,trivial⟩⟩;simp only [BL,fits,C.asD,and_true]<;>(first | exact rfl | trivial | exact ⟨rfl,rfl⟩ | exact ⟨rfl,rfl,rfl⟩ | (simp [*];done) | (simp_all;done) | (simp only [schC] at *;simp_all;first | done | rfl)))
set_option maxHeartbeats 16000000 in
theorem script_reader_deed_any (t_r0:Nat)(ht_r0:NAM≤t_r0)(r0:A8)(kind:Int)  (r:AV×A8)(h:DD r0 kind=some r):DK Tryz.prog 42 [.ptr t_r0 0,.sc (.int .i64 kind)] [(t_r0,.obj [.row (List.map strD r0.words),.sc (.bool r0.bad)])] [.d (deedD r.1)] [(t_r0,.obj [.row (List.map strD r.2.words),.sc (.bool r.2.bad)])]:=by
 refine T.fnH [12,15,21,25,32,37,40,43,50,53,56,62] Tryz.func42 ?_ (by simp only [List.forall_mem_cons,List.not_mem_nil,false_implies,implies_true,and_true];exact ht_r0) (by simp [thing]) (by simp [thing])
 unfold DD at h
 refine br (fun c1=>?c1y) (fun c1=>?c1n)
 case' c1y=>
  replace h:=Ad h c1
  refine Aa h fun r12 q1 h=>?_
  refine Bq T.en_81 (script_reader_tag_any t_r0 ht_r0 r0 r12 q1) ?_ ⟨⟨ht_r0,(by first | rfl | (simp only [hOf,hset,hpost,if_true,if_false,not_false_eq_true];first | done | rfl | (simp [*];done) | (simp_all;done)))⟩,trivial⟩
  refine Aa h fun r15 q2 h=>?_
  refine Bq T.en_82 (script_reader_lens_any t_r0 ht_r0 r12.2 r15 q2) ?_ ⟨⟨ht_r0,(by first | rfl | (simp only [hOf,hset,hpost,if_true,if_false,not_false_eq_true];first | done | rfl | (simp [*];done) | (simp_all;done)))⟩,trivial⟩
  obtain rfl:=Option.some.inj h
 case' c1n=>
  replace h:=Ae h c1
  refine br (fun c2=>?c2y) (fun c2=>?c2n)
  case' c2y=>
   replace h:=Ad h c2
   refine Aa h fun r21 q3 h=>?_
   refine Bq T.en_81 (script_reader_tag_any t_r0 ht_r0 r0 r21 q3) ?_ ⟨⟨ht_r0,(by first | rfl | (simp only [hOf,hset,hpost,if_true,if_false,not_false_eq_true];first | done | rfl | (simp [*];done) | (simp_all;done)))⟩,trivial⟩
   obtain rfl:=Option.some.inj h
  case' c2n=>
   replace h:=Ae h c2
   refine Aa h fun r25 q4 h=>?_
   refine Bq T.en_83 (Fa t_r0 ht_r0 r0 r25 q4) ?_ ⟨⟨ht_r0,(by first | rfl | (simp only [hOf,hset,hpost,if_true,if_false,not_false_eq_true];first | done | rfl | (simp [*];done) | (simp_all;done)))⟩,trivial⟩
   refine br (fun c3=>?c3y) (fun c3=>?c3n)
   case' c3y=>
    refine brT ?_
    replace h:=Ad h (.inl c3)
    refine Aa h fun r32 q5 h=>?_
    refine Bq T.en_84 (E9 t_r0 ht_r0 r25.2 r32 q5) ?_ ⟨⟨ht_r0,(by first | rfl | (simp only [hOf,hset,hpost,if_true,if_false,not_false_eq_true];first | done | rfl | (simp [*];done) | (simp_all;done)))⟩,trivial⟩
    obtain rfl:=Option.some.inj h
   case' c3n=>
    refine br (fun c4=>?c4y) (fun c4=>?c4n)
    case' c4y=>
     replace h:=Ad h (.inr c4)
     refine Aa h fun r32 q6 h=>?_
     refine Bq T.en_84 (E9 t_r0 ht_r0 r25.2 r32 q6) ?_ ⟨⟨ht_r0,(by first | rfl | (simp only [hOf,hset,hpost,if_true,if_false,not_false_eq_true];first | done | rfl | (simp [*];done) | (simp_all;done)))⟩,trivial⟩
     obtain rfl:=Option.some.inj h
    case' c4n=>
     replace h:=Ae h (fun k=>k.elim c3 c4)
     refine br (fun c5=>?c5y) (fun c5=>?c5n)
     case' c5y=>
      replace h:=Ad h c5
      refine Aa h fun r37 q7 h=>?_
      refine Bq T.en_84 (E9 t_r0 ht_r0 r25.2 r37 q7) ?_ ⟨⟨ht_r0,(by first | rfl | (simp only [hOf,hset,hpost,if_true,if_false,not_false_eq_true];first | done | rfl | (simp [*];done) | (simp_all;done)))⟩,trivial⟩
      refine Aa h fun r40 q8 h=>?_
      refine Bq T.en_85 (ES t_r0 ht_r0 r37.2 r40 q8) ?_ ⟨⟨ht_r0,(by first | rfl | (simp only [hOf,hset,hpost,if_true,if_false,not_false_eq_true];first | done | rfl | (simp [*];done) | (simp_all;done)))⟩,trivial⟩
      refine Aa h fun r43 q9 h=>?_
      refine Bq T.en_43 (EY t_r0 ht_r0 r40.2 r43 q9) ?_ ⟨⟨ht_r0,(by first | rfl | (simp only [hOf,hset,hpost,if_true,if_false,not_false_eq_true];first | done | rfl | (simp [*];done) | (simp_all;done)))⟩,trivial⟩
      obtain rfl:=Option.some.inj h
     case' c5n=>
      replace h:=Ae h c5
      refine br (fun c6=>?c6y) (fun c6=>?c6n)
      case' c6y=>
       refine brT ?_
       replace h:=Ad h (.inl c6)
       refine Aa h fun r50 q10 h=>?_
       refine Bq T.en_84 (E9 t_r0 ht_r0 r25.2 r50 q10) ?_ ⟨⟨ht_r0,(by first | rfl | (simp only [hOf,hset,hpost,if_true,if_false,not_false_eq_true];first | done | rfl | (simp [*];done) | (simp_all;done)))⟩,trivial⟩
       refine Aa h fun r53 q11 h=>?_
       refine Bq T.en_85 (ES t_r0 ht_r0 r50.2 r53 q11) ?_ ⟨⟨ht_r0,(by first | rfl | (simp only [hOf,hset,hpost,if_true,if_false,not_false_eq_true];first | done | rfl | (simp [*];done) | (simp_all;done)))⟩,trivial⟩
       refine Aa h fun r56 q12 h=>?_
       refine Bq T.en_86 (Fb t_r0 ht_r0 r53.2 r56 q12) ?_ ⟨⟨ht_r0,(by first | rfl | (simp only [hOf,hset,hpost,if_true,if_false,not_false_eq_true];first | done | rfl | (simp [*];done) | (simp_all;done)))⟩,trivial⟩
       obtain rfl:=Option.some.inj h
      case' c6n=>
       refine br (fun c7=>?c7y) (fun c7=>?c7n)
       case' c7y=>
        refine brT ?_
        replace h:=Ad h (.inr (.inl c7))
        refine Aa h fun r50 q13 h=>?_
        refine Bq T.en_84 (E9 t_r0 ht_r0 r25.2 r50 q13) ?_ ⟨⟨ht_r0,(by first | rfl | (simp only [hOf,hset,hpost,if_true,if_false,not_false_eq_true];first | done | rfl | (simp [*];done) | (simp_all;done)))⟩,trivial⟩
        refine Aa h fun r53 q14 h=>?_
        refine Bq T.en_85 (ES t_r0 ht_r0 r50.2 r53 q14) ?_ ⟨⟨ht_r0,(by first | rfl | (simp only [hOf,hset,hpost,if_true,if_false,not_false_eq_true];first | done | rfl | (simp [*];done) | (simp_all;done)))⟩,trivial⟩
        refine Aa h fun r56 q15 h=>?_
        refine Bq T.en_86 (Fb t_r0 ht_r0 r53.2 r56 q15) ?_ ⟨⟨ht_r0,(by first | rfl | (simp only [hOf,hset,hpost,if_true,if_false,not_false_eq_true];first | done | rfl | (simp [*];done) | (simp_all;done)))⟩,trivial⟩
        obtain rfl:=Option.some.inj h
       case' c7n=>
        refine br (fun c8=>?c8y) (fun c8=>?c8n)
        case' c8y=>
         replace h:=Ad h (.inr (.inr c8))
         refine Aa h fun r50 q16 h=>?_
         refine Bq T.en_84 (E9 t_r0 ht_r0 r25.2 r50 q16) ?_ ⟨⟨ht_r0,(by first | rfl | (simp only [hOf,hset,hpost,if_true,if_false,not_false_eq_true];first | done | rfl | (simp [*];done) | (simp_all;done)))⟩,trivial⟩
         refine Aa h fun r53 q17 h=>?_
         refine Bq T.en_85 (ES t_r0 ht_r0 r50.2 r53 q17) ?_ ⟨⟨ht_r0,(by first | rfl | (simp only [hOf,hset,hpost,if_true,if_false,not_false_eq_true];first | done | rfl | (simp [*];done) | (simp_all;done)))⟩,trivial⟩
         refine Aa h fun r56 q18 h=>?_
         refine Bq T.en_86 (Fb t_r0 ht_r0 r53.2 r56 q18) ?_ ⟨⟨ht_r0,(by first | rfl | (simp only [hOf,hset,hpost,if_true,if_false,not_false_eq_true];first | done | rfl | (simp [*];done) | (simp_all;done)))⟩,trivial⟩
         obtain rfl:=Option.some.inj h
        case' c8n=>
         replace h:=Ae h (fun k=>k.elim c6 (fun k=>k.elim c7 c8))
         refine br (fun c9=>?c9y) (fun c9=>?c9n)
         case' c9y=>
          refine brT ?_
          replace h:=Ad h (.inl c9)
          refine Aa h fun r62 q19 h=>?_
          refine Bq T.en_81 (script_reader_tag_any t_r0 ht_r0 r25.2 r62 q19) ?_ ⟨⟨ht_r0,(by first | rfl | (simp only [hOf,hset,hpost,if_true,if_false,not_false_eq_true];first | done | rfl | (simp [*];done) | (simp_all;done)))⟩,trivial⟩
          obtain rfl:=Option.some.inj h
         case' c9n=>
          refine br (fun c10=>?c10y) (fun c10=>?c10n)
          case' c10y=>
           replace h:=Ad h (.inr c10)
           refine Aa h fun r62 q20 h=>?_
           refine Bq T.en_81 (script_reader_tag_any t_r0 ht_r0 r25.2 r62 q20) ?_ ⟨⟨ht_r0,(by first | rfl | (simp only [hOf,hset,hpost,if_true,if_false,not_false_eq_true];first | done | rfl | (simp [*];done) | (simp_all;done)))⟩,trivial⟩
           obtain rfl:=Option.some.inj h
          case' c10n=>
           replace h:=Ae h (fun k=>k.elim c9 c10)
           obtain rfl:=Option.some.inj h
 all_goals (refine ⟨?_,⟨⟨ht_r0,(by first | rfl | (simp only [hOf,hset,hpost,if_true,if_false,not_false_eq_true];first | done | rfl | (simp [*];done) | (simp_all;done)))⟩,trivial⟩⟩;simp only [BL,fits,C.asD,and_true]<;>(first | exact rfl | trivial | exact ⟨rfl,rfl⟩ | exact ⟨rfl,rfl,rfl⟩ | (simp [*];done) | (simp_all;done) | (simp only [schC] at *;simp_all;first | done | rfl)))
set_option maxHeartbeats 16000000 in
theorem script_Parse_hid (line:ByteArray)(tl11:Nat)(htl11:NAM≤tl11)  (r:Ar×Int)(h:BG line=some r):DK Tryz.prog 17 [.sc (.string line)] [(tl11,.free)] [.d (moveD r.1),.d (.sc (.int .i64 r.2))] []:=by
 refine T.fnH [11,13,14,21,25,27,40,43,50,55,58,61,67,70,75] Tryz.func17 ?_ (by simp only [List.forall_mem_cons,List.not_mem_nil,false_implies,implies_true,and_true];exact htl11) (by simp [thing]) (by simp [thing])
 unfold BG at h
 refine grdG h fun g1 h=>?_
 refine AY T.en_28 (nameSplit_any line g1) ?_
 refine x_newbox tl11 ?_ ⟨htl11,(by first | rfl | (simp only [hOf,hset,hpost,if_true,if_false,not_false_eq_true];first | done | rfl | (simp [*];done) | (simp_all;done)))⟩
 refine Aa h fun r13 q1 h=>?_
 refine Bq T.en_39 (EW tl11 htl11 (⟨(splitB line 0),false⟩:A8) r13 q1) ?_ ⟨⟨htl11,(by first | rfl | (simp only [hOf,hset,hpost,if_true,if_false,not_false_eq_true];first | done | rfl | (simp [*];done) | (simp_all;done)))⟩,trivial⟩
 refine x_loadGl (r:=vec13D Ci) ?_ rfl rfl rfl rfl
 refine Aa h fun r16 q2 h=>?_
 refine AY T.en_40 (script_kind_any Ci r13.1 r16 q2) ?_
 refine br (fun c1=>?c1y) (fun c1=>?c1n)
 case' c1y=>
  replace h:=Ad h c1
  refine Aa h fun r21 q3 h=>?_
  refine Bq T.en_41 (EF tl11 htl11 r13.2 r21 q3) ?_ ⟨⟨htl11,(by first | rfl | (simp only [hOf,hset,hpost,if_true,if_false,not_false_eq_true];first | done | rfl | (simp [*];done) | (simp_all;done)))⟩,trivial⟩
  refine Aa h fun r25 q4 h=>?_
  refine Bq T.en_42 (script_reader_deed_any tl11 htl11 r21.2 r16 r25 q4) ?_ ⟨⟨htl11,(by first | rfl | (simp only [hOf,hset,hpost,if_true,if_false,not_false_eq_true];first | done | rfl | (simp [*];done) | (simp_all;done)))⟩,trivial⟩
  refine BX htl11 (by first | rfl | (simp only [hOf,hset,hpost,if_true,if_false,not_false_eq_true];first | done | rfl | (simp [*];done) | (simp_all;done))) ?_
  refine br (fun c2=>?c2y) (fun c2=>?c2n)
  case' c2y=>
   refine brT ?_
   replace h:=Ad h (.inl c2)
   obtain rfl:=Option.some.inj h
  case' c2n=>
   refine BX htl11 (by first | rfl | (simp only [hOf,hset,hpost,if_true,if_false,not_false_eq_true];first | done | rfl | (simp [*];done) | (simp_all;done))) ?_
   refine AA ?_
   refine br (fun c3=>?c3y) (fun c3=>?c3n)
   case' c3y=>
    replace h:=Ad h (.inr c3)
    obtain rfl:=Option.some.inj h
   case' c3n=>
    replace h:=Ae h (fun k=>k.elim (nf c2) c3)
    obtain rfl:=Option.some.inj h
 case' c1n=>
  replace h:=Ae h (fun k=>k c1)
  refine x_loadGl (r:=vec13D DC) ?_ rfl rfl rfl rfl
  refine Aa h fun r29 q5 h=>?_
  refine AY T.en_40 (script_kind_any DC r13.1 r29 q5) ?_
  refine br (fun c4=>?c4y) (fun c4=>?c4n)
  case' c4y=>
   refine brT ?_
   replace h:=Ad h (.inl c4)
   refine Aa h fun r40 q6 h=>?_
   refine Bq T.en_41 (EF tl11 htl11 r13.2 r40 q6) ?_ ⟨⟨htl11,(by first | rfl | (simp only [hOf,hset,hpost,if_true,if_false,not_false_eq_true];first | done | rfl | (simp [*];done) | (simp_all;done)))⟩,trivial⟩
   refine Aa h fun r43 q7 h=>?_
   refine Bq T.en_41 (EF tl11 htl11 r40.2 r43 q7) ?_ ⟨⟨htl11,(by first | rfl | (simp only [hOf,hset,hpost,if_true,if_false,not_false_eq_true];first | done | rfl | (simp [*];done) | (simp_all;done)))⟩,trivial⟩
   refine BX htl11 (by first | rfl | (simp only [hOf,hset,hpost,if_true,if_false,not_false_eq_true];first | done | rfl | (simp [*];done) | (simp_all;done))) ?_
   refine br (fun c5=>?c5y) (fun c5=>?c5n)
   case' c5y=>
    refine brT ?_
    replace h:=Ad h (.inl c5)
    obtain rfl:=Option.some.inj h
   case' c5n=>
    refine BX htl11 (by first | rfl | (simp only [hOf,hset,hpost,if_true,if_false,not_false_eq_true];first | done | rfl | (simp [*];done) | (simp_all;done))) ?_
    refine AA ?_
    refine br (fun c6=>?c6y) (fun c6=>?c6n)
    case' c6y=>
     replace h:=Ad h (.inr c6)
     obtain rfl:=Option.some.inj h
    case' c6n=>
     replace h:=Ae h (fun k=>k.elim (nf c5) c6)
     obtain rfl:=Option.some.inj h
  case' c4n=>
   refine br (fun c7=>?c7y) (fun c7=>?c7n)
   case' c7y=>
    replace h:=Ad h (.inr c7)
    refine Aa h fun r40 q8 h=>?_
    refine Bq T.en_41 (EF tl11 htl11 r13.2 r40 q8) ?_ ⟨⟨htl11,(by first | rfl | (simp only [hOf,hset,hpost,if_true,if_false,not_false_eq_true];first | done | rfl | (simp [*];done) | (simp_all;done)))⟩,trivial⟩
    refine Aa h fun r43 q9 h=>?_
    refine Bq T.en_41 (EF tl11 htl11 r40.2 r43 q9) ?_ ⟨⟨htl11,(by first | rfl | (simp only [hOf,hset,hpost,if_true,if_false,not_false_eq_true];first | done | rfl | (simp [*];done) | (simp_all;done)))⟩,trivial⟩
    refine BX htl11 (by first | rfl | (simp only [hOf,hset,hpost,if_true,if_false,not_false_eq_true];first | done | rfl | (simp [*];done) | (simp_all;done))) ?_
    refine br (fun c8=>?c8y) (fun c8=>?c8n)
    case' c8y=>
     refine brT ?_
     replace h:=Ad h (.inl c8)
     obtain rfl:=Option.some.inj h
    case' c8n=>
     refine BX htl11 (by first | rfl | (simp only [hOf,hset,hpost,if_true,if_false,not_false_eq_true];first | done | rfl | (simp [*];done) | (simp_all;done))) ?_
     refine AA ?_
     refine br (fun c9=>?c9y) (fun c9=>?c9n)
     case' c9y=>
      replace h:=Ad h (.inr c9)
      obtain rfl:=Option.some.inj h
     case' c9n=>
      replace h:=Ae h (fun k=>k.elim (nf c8) c9)
      obtain rfl:=Option.some.inj h
   case' c7n=>
    replace h:=Ae h (fun k=>k.elim c4 c7)
    refine br (fun c10=>?c10y) (fun c10=>?c10n)
    case' c10y=>
     refine brT ?_
     replace h:=Ad h (.inl c10)
     refine Aa h fun r50 q10 h=>?_
     refine Bq T.en_41 (EF tl11 htl11 r13.2 r50 q10) ?_ ⟨⟨htl11,(by first | rfl | (simp only [hOf,hset,hpost,if_true,if_false,not_false_eq_true];first | done | rfl | (simp [*];done) | (simp_all;done)))⟩,trivial⟩
     refine BX htl11 (by first | rfl | (simp only [hOf,hset,hpost,if_true,if_false,not_false_eq_true];first | done | rfl | (simp [*];done) | (simp_all;done))) ?_
     refine br (fun c11=>?c11y) (fun c11=>?c11n)
     case' c11y=>
      refine brT ?_
      replace h:=Ad h (.inl c11)
      obtain rfl:=Option.some.inj h
     case' c11n=>
      refine BX htl11 (by first | rfl | (simp only [hOf,hset,hpost,if_true,if_false,not_false_eq_true];first | done | rfl | (simp [*];done) | (simp_all;done))) ?_
      refine AA ?_
      refine br (fun c12=>?c12y) (fun c12=>?c12n)
      case' c12y=>
       replace h:=Ad h (.inr c12)
       obtain rfl:=Option.some.inj h
      case' c12n=>
       replace h:=Ae h (fun k=>k.elim (nf c11) c12)
       obtain rfl:=Option.some.inj h
    case' c10n=>
     refine br (fun c13=>?c13y) (fun c13=>?c13n)
     case' c13y=>
      refine brT ?_
      replace h:=Ad h (.inr (.inl c13))
      refine Aa h fun r50 q11 h=>?_
      refine Bq T.en_41 (EF tl11 htl11 r13.2 r50 q11) ?_ ⟨⟨htl11,(by first | rfl | (simp only [hOf,hset,hpost,if_true,if_false,not_false_eq_true];first | done | rfl | (simp [*];done) | (simp_all;done)))⟩,trivial⟩
      refine BX htl11 (by first | rfl | (simp only [hOf,hset,hpost,if_true,if_false,not_false_eq_true];first | done | rfl | (simp [*];done) | (simp_all;done))) ?_
      refine br (fun c14=>?c14y) (fun c14=>?c14n)
      case' c14y=>
       refine brT ?_
       replace h:=Ad h (.inl c14)
       obtain rfl:=Option.some.inj h
      case' c14n=>
       refine BX htl11 (by first | rfl | (simp only [hOf,hset,hpost,if_true,if_false,not_false_eq_true];first | done | rfl | (simp [*];done) | (simp_all;done))) ?_
       refine AA ?_
       refine br (fun c15=>?c15y) (fun c15=>?c15n)
       case' c15y=>
        replace h:=Ad h (.inr c15)
        obtain rfl:=Option.some.inj h
       case' c15n=>
        replace h:=Ae h (fun k=>k.elim (nf c14) c15)
        obtain rfl:=Option.some.inj h
     case' c13n=>
      refine br (fun c16=>?c16y) (fun c16=>?c16n)
      case' c16y=>
       replace h:=Ad h (.inr (.inr c16))
       refine Aa h fun r50 q12 h=>?_
       refine Bq T.en_41 (EF tl11 htl11 r13.2 r50 q12) ?_ ⟨⟨htl11,(by first | rfl | (simp only [hOf,hset,hpost,if_true,if_false,not_false_eq_true];first | done | rfl | (simp [*];done) | (simp_all;done)))⟩,trivial⟩
       refine BX htl11 (by first | rfl | (simp only [hOf,hset,hpost,if_true,if_false,not_false_eq_true];first | done | rfl | (simp [*];done) | (simp_all;done))) ?_
       refine br (fun c17=>?c17y) (fun c17=>?c17n)
       case' c17y=>
        refine brT ?_
        replace h:=Ad h (.inl c17)
        obtain rfl:=Option.some.inj h
       case' c17n=>
        refine BX htl11 (by first | rfl | (simp only [hOf,hset,hpost,if_true,if_false,not_false_eq_true];first | done | rfl | (simp [*];done) | (simp_all;done))) ?_
        refine AA ?_
        refine br (fun c18=>?c18y) (fun c18=>?c18n)
        case' c18y=>
         replace h:=Ad h (.inr c18)
         obtain rfl:=Option.some.inj h
        case' c18n=>
         replace h:=Ae h (fun k=>k.elim (nf c17) c18)
         obtain rfl:=Option.some.inj h
      case' c16n=>
       replace h:=Ae h (fun k=>k.elim c10 (fun k=>k.elim c13 c16))
       refine br (fun c19=>?c19y) (fun c19=>?c19n)
       case' c19y=>
        replace h:=Ad h c19
        refine Aa h fun r55 q13 h=>?_
        refine Bq T.en_43 (EY tl11 htl11 r13.2 r55 q13) ?_ ⟨⟨htl11,(by first | rfl | (simp only [hOf,hset,hpost,if_true,if_false,not_false_eq_true];first | done | rfl | (simp [*];done) | (simp_all;done)))⟩,trivial⟩
        refine Aa h fun r58 q14 h=>?_
        refine Bq T.en_43 (EY tl11 htl11 r55.2 r58 q14) ?_ ⟨⟨htl11,(by first | rfl | (simp only [hOf,hset,hpost,if_true,if_false,not_false_eq_true];first | done | rfl | (simp [*];done) | (simp_all;done)))⟩,trivial⟩
        refine Aa h fun r61 q15 h=>?_
        refine Bq T.en_43 (EY tl11 htl11 r58.2 r61 q15) ?_ ⟨⟨htl11,(by first | rfl | (simp only [hOf,hset,hpost,if_true,if_false,not_false_eq_true];first | done | rfl | (simp [*];done) | (simp_all;done)))⟩,trivial⟩
        refine BX htl11 (by first | rfl | (simp only [hOf,hset,hpost,if_true,if_false,not_false_eq_true];first | done | rfl | (simp [*];done) | (simp_all;done))) ?_
        refine br (fun c20=>?c20y) (fun c20=>?c20n)
        case' c20y=>
         refine brT ?_
         replace h:=Ad h (.inl c20)
         obtain rfl:=Option.some.inj h
        case' c20n=>
         refine BX htl11 (by first | rfl | (simp only [hOf,hset,hpost,if_true,if_false,not_false_eq_true];first | done | rfl | (simp [*];done) | (simp_all;done))) ?_
         refine AA ?_
         refine br (fun c21=>?c21y) (fun c21=>?c21n)
         case' c21y=>
          replace h:=Ad h (.inr c21)
          obtain rfl:=Option.some.inj h
         case' c21n=>
          replace h:=Ae h (fun k=>k.elim (nf c20) c21)
          obtain rfl:=Option.some.inj h
       case' c19n=>
        replace h:=Ae h c19
        refine br (fun c22=>?c22y) (fun c22=>?c22n)
        case' c22y=>
         refine brT ?_
         replace h:=Ad h (.inl c22)
         refine Aa h fun r67 q16 h=>?_
         refine Bq T.en_41 (EF tl11 htl11 r13.2 r67 q16) ?_ ⟨⟨htl11,(by first | rfl | (simp only [hOf,hset,hpost,if_true,if_false,not_false_eq_true];first | done | rfl | (simp [*];done) | (simp_all;done)))⟩,trivial⟩
         refine Aa h fun r70 q17 h=>?_
         refine Bq T.en_41 (EF tl11 htl11 r67.2 r70 q17) ?_ ⟨⟨htl11,(by first | rfl | (simp only [hOf,hset,hpost,if_true,if_false,not_false_eq_true];first | done | rfl | (simp [*];done) | (simp_all;done)))⟩,trivial⟩
         refine BX htl11 (by first | rfl | (simp only [hOf,hset,hpost,if_true,if_false,not_false_eq_true];first | done | rfl | (simp [*];done) | (simp_all;done))) ?_
         refine br (fun c23=>?c23y) (fun c23=>?c23n)
         case' c23y=>
          refine brT ?_
          replace h:=Ad h (.inl c23)
          obtain rfl:=Option.some.inj h
         case' c23n=>
          refine BX htl11 (by first | rfl | (simp only [hOf,hset,hpost,if_true,if_false,not_false_eq_true];first | done | rfl | (simp [*];done) | (simp_all;done))) ?_
          refine AA ?_
          refine br (fun c24=>?c24y) (fun c24=>?c24n)
          case' c24y=>
           replace h:=Ad h (.inr c24)
           obtain rfl:=Option.some.inj h
          case' c24n=>
           replace h:=Ae h (fun k=>k.elim (nf c23) c24)
           obtain rfl:=Option.some.inj h
        case' c22n=>
         refine br (fun c25=>?c25y) (fun c25=>?c25n)
         case' c25y=>
          replace h:=Ad h (.inr c25)
          refine Aa h fun r67 q18 h=>?_
          refine Bq T.en_41 (EF tl11 htl11 r13.2 r67 q18) ?_ ⟨⟨htl11,(by first | rfl | (simp only [hOf,hset,hpost,if_true,if_false,not_false_eq_true];first | done | rfl | (simp [*];done) | (simp_all;done)))⟩,trivial⟩
          refine Aa h fun r70 q19 h=>?_
          refine Bq T.en_41 (EF tl11 htl11 r67.2 r70 q19) ?_ ⟨⟨htl11,(by first | rfl | (simp only [hOf,hset,hpost,if_true,if_false,not_false_eq_true];first | done | rfl | (simp [*];done) | (simp_all;done)))⟩,trivial⟩
          refine BX htl11 (by first | rfl | (simp only [hOf,hset,hpost,if_true,if_false,not_false_eq_true];first | done | rfl | (simp [*];done) | (simp_all;done))) ?_
          refine br (fun c26=>?c26y) (fun c26=>?c26n)
          case' c26y=>
           refine brT ?_
           replace h:=Ad h (.inl c26)
           obtain rfl:=Option.some.inj h
          case' c26n=>
           refine BX htl11 (by first | rfl | (simp only [hOf,hset,hpost,if_true,if_false,not_false_eq_true];first | done | rfl | (simp [*];done) | (simp_all;done))) ?_
           refine AA ?_
           refine br (fun c27=>?c27y) (fun c27=>?c27n)
           case' c27y=>
            replace h:=Ad h (.inr c27)
            obtain rfl:=Option.some.inj h
           case' c27n=>
            replace h:=Ae h (fun k=>k.elim (nf c26) c27)
            obtain rfl:=Option.some.inj h
         case' c25n=>
          replace h:=Ae h (fun k=>k.elim c22 c25)
          refine br (fun c28=>?c28y) (fun c28=>?c28n)
          case' c28y=>
           replace h:=Ad h c28
           refine Aa h fun r75 q20 h=>?_
           refine Bq T.en_41 (EF tl11 htl11 r13.2 r75 q20) ?_ ⟨⟨htl11,(by first | rfl | (simp only [hOf,hset,hpost,if_true,if_false,not_false_eq_true];first | done | rfl | (simp [*];done) | (simp_all;done)))⟩,trivial⟩
           refine BX htl11 (by first | rfl | (simp only [hOf,hset,hpost,if_true,if_false,not_false_eq_true];first | done | rfl | (simp [*];done) | (simp_all;done))) ?_
           refine br (fun c29=>?c29y) (fun c29=>?c29n)
           case' c29y=>
            refine brT ?_
            replace h:=Ad h (.inl c29)
            obtain rfl:=Option.some.inj h
           case' c29n=>
            refine BX htl11 (by first | rfl | (simp only [hOf,hset,hpost,if_true,if_false,not_false_eq_true];first | done | rfl | (simp [*];done) | (simp_all;done))) ?_
            refine AA ?_
            refine br (fun c30=>?c30y) (fun c30=>?c30n)
            case' c30y=>
             replace h:=Ad h (.inr c30)
             obtain rfl:=Option.some.inj h
            case' c30n=>
             replace h:=Ae h (fun k=>k.elim (nf c29) c30)
             obtain rfl:=Option.some.inj h
          case' c28n=>
           replace h:=Ae h c28
           refine BX htl11 (by first | rfl | (simp only [hOf,hset,hpost,if_true,if_false,not_false_eq_true];first | done | rfl | (simp [*];done) | (simp_all;done))) ?_
           refine BX htl11 (by first | rfl | (simp only [hOf,hset,hpost,if_true,if_false,not_false_eq_true];first | done | rfl | (simp [*];done) | (simp_all;done))) ?_
           refine brT ?_
           refine brT ?_
           obtain rfl:=Option.some.inj h
 all_goals (refine ⟨?_,trivial⟩;simp only [BL,fits,C.asD,and_true]<;>(first | exact rfl | trivial | exact ⟨rfl,rfl⟩ | exact ⟨rfl,rfl,rfl⟩ | (simp [*];done) | (simp_all;done) | (simp only [schC] at *;simp_all;first | done | rfl)))
theorem script_Parse_any (line:ByteArray)(r:Ar×Int)(h:BG line=some r):Bc Tryz.prog 17 [.sc (.string line)] [.d (moveD r.1),.d (.sc (.int .i64 r.2))]:=by
 refine contract_of_H ?_
 refine hideH fun tl11 htl11 hn0=>?_
 exact script_Parse_hid line tl11 htl11 r h
end Go.Vm
end
