/- Part 8. -/
import Derived.Lib.LaidTab
import Derived.Stop.LaidErr
import Derived.Below
import Derived.Test.YtdfbohaohjaloaaGreatDoorRows
import Derived.MakeChecks
import Derived.Test.YtdfbohaohjaloaaGreatDoorScriptPrintsM7
set_option linter.unusedVariables false
set_option linter.unusedSimpArgs false
set_option maxHeartbeats 1000000
section
namespace Go.Vm
open Go.Proofs Go.Proofs.YtdfbohaohjaloaaGreatDoor Punnet.Name Punnet.Num
def kOf (c:UInt8):RK:=if c.toNat=119∨c.toNat=110 then .n else if c.toNat=116 then .t else if c.toNat=112 then .p else if c.toNat=113 then .q else if c.toNat=105 then .i else .m
noncomputable def Dp (k:RK)(a:ByteArray)(g:BR):BR:=match k with
 | .n=>{ g with n:=g.n ++ [(AU a).1] }
 | .t=>{ g with t:=g.t ++ [(C9 a).getD AZ] }
 | .p=>{ g with p:=g.p ++ [(placeOf a).getD Ae] }
 | .q=>{ g with q:=g.q ++ [(Dw a 0).1] }
 | .i=>{ g with s:=g.s ++ [Ee a] }
 | .m=>{ g with s:=g.s ++ [a] }
noncomputable def DN:List RK→List ByteArray→BR→BR
 |k::ks,a::l,g=>DN ks l (Dp k a g)
 |_,_,g=>g
def few (g:BR)(i:Nat):Prop:=g.n.length≤i∧g.t.length≤i∧g.s.length≤i∧g.p.length≤i∧g.q.length≤i
theorem AsD {g:BR}{i:Nat}(h:few g i)(k:RK)(a:ByteArray):few (Dp k a g) (i+1):=by
 obtain ⟨h1,h2,h3,h4,h5⟩:=h
 cases k<;>simp only [Dp,few,List.length_append,List.length_singleton]<;>omega
theorem UI {a:ByteArray}:okK .q a=true↔(Dw a 0).2.2=0∧(((Dw a 0).2.1:Nat))=((a.size:Nat):Int):=by
 unfold okK Ea
 rw [decide_eq_true_eq]
 by_cases h1:(Dw a 0).2.2=0
 ·rw [if_pos h1]
  by_cases h2:(Dw a 0).2.1=a.size
  ·rw [if_pos h2];exact ⟨fun _=>⟨h1,by rw [h2]⟩,fun _=>rfl⟩
  ·rw [if_neg h2]
   refine ⟨fun h=>absurd h (by decide),fun h=>absurd (Int.ofNat_inj.1 h.2) h2⟩
 ·rw [if_neg h1];exact ⟨fun h=>absurd h h1,fun h=>absurd h.1 h1⟩
theorem OT {a:ByteArray}(h:okK .q a=true):(Ea a).1=(Dw a 0).1:=by
 obtain ⟨h1,h2⟩:=UI.1 h
 unfold Ea
 rw [if_pos h1,if_pos (Int.ofNat_inj.1 h2)]
def CS (form:ByteArray):List RK:=form.data.toList.map kOf
def endOf (ks:List RK)(ws:List ByteArray)(g:BR):Sum (BR×Bool) (BR×BR×Int)→Prop
 | .inl x=>x.2=false∧okF ks ws=false
 | .inr x=>okF ks ws=true∧x.2.1=DN ks ws g
theorem ND {α:Type}{l:List α}{x:α}{i:Nat}(h:l.length≤i)(hi:i≤1000):BD l [x] = some (l ++ [x]):=Arb (by rw [List.length_singleton];omega)
theorem AlN (l:List ByteArray)(form:ByteArray)(hl:l.length=form.size)(hf:form.size≤1000)(hs:∀a∈l,a.size≤1000000):∀(n i:Nat) (v g:BR),i≤form.size→form.size-i<n→few g i →
 ∃x,Ir l form n v g (i:Int)=some x∧endOf ((CS form).drop i) (l.drop i) g x:=by
 intro n
 induction n with
 |zero=>intro i v g hi hn _;omega
 |succ n ih=>
  intro i v g hi hn hg
  rw [Ir]
  by_cases hc:(i:Int)<((form.size:Nat):Int)
  ·rw [if_pos hc]
   have hi2:i<form.size:=by omega
   obtain ⟨c,hcc⟩:∃c,form[i]? = some c:=⟨_,getElem?_pos form i hi2⟩
   obtain ⟨a,haa⟩:∃a,l[i]? = some a:=⟨_,List.getElem?_eq_getElem (by omega)⟩
   have e1:Nj form (i:Int)=some c:=by unfold Nj;rw [if_pos (by omega),Int.toNat_natCast];exact hcc
   have e2:idx l (i:Int)=some a:=AhG haa
   have hsz:=hs a (List.mem_of_getElem? haa)
   have hk:(CS form)[i]? = some (kOf c):=by
    unfold CS
    rw [List.getElem?_map,←NK,hcc];rfl
   have d1:(CS form).drop i=kOf c::(CS form).drop (i+1):=by
    obtain ⟨h1,h2⟩:=List.getElem?_eq_some_iff.1 hk
    rw [List.drop_eq_getElem_cons h1,h2]
   have d2:l.drop i=a::l.drop (i+1):=by
    obtain ⟨h1,h2⟩:=List.getElem?_eq_some_iff.1 haa
    rw [List.drop_eq_getElem_cons h1,h2]
   have ew:w64 ((i:Int)+1)=((i+1:Nat):Int):=by rw [AtV (by omega) (by omega)];omega
   have no:okK (kOf c) a=false→∃x,(some (Sum.inl (g,false)):Option (Sum (BR×Bool) (BR×BR×Int)))=some x∧endOf ((CS form).drop i) (l.drop i) g x:=fun h=>⟨_,rfl,rfl,by rw [d1,d2,okF,h];rfl⟩
   have yes:∀g',okK (kOf c) a=true→g'=Dp (kOf c) a g→∃x,Ir l form n v g' (w64 ((i:Int)+1))=some x∧endOf ((CS form).drop i) (l.drop i) g x:=by
    rintro g' h rfl
    rw [ew]
    obtain ⟨x,h1,h2⟩:=ih (i+1) v (Dp (kOf c) a g) (by omega) (by omega) (AsD hg _ _)
    refine ⟨x,h1,?_⟩
    rw [d1,d2]
    cases x with
    |inl x=>exact ⟨h2.1,by rw [okF,h,h2.2];rfl⟩
    |inr x=>exact ⟨by rw [okF,h,h2.1];rfl,h2.2⟩
   obtain ⟨g1,g2,g3,g4,g5⟩:=hg
   rw [e1,Option.bind_some]
   have conv:∀k:Nat,((((c.toNat:Nat):Int)=(k:Int))↔c.toNat=k):=fun k=>Int.ofNat_inj
   have c119:=conv 119;have c110:=conv 110;have c116:=conv 116;have c112:=conv 112;have c113:=conv 113;have c105:=conv 105
   simp only [Int.cast_ofNat_Int] at c119 c110 c116 c112 c113 c105
   by_cases k1:c.toNat=119∨c.toNat=110
   ·have hk:kOf c=.n:=by unfold kOf;rw [if_pos k1]
    rw [if_pos (by rw [c119,c110];exact k1),e2,Option.bind_some,AA hsz]
    by_cases ho:(AU a).2=0
    ·rw [if_neg (fun h=>h ho),ND g1 (by omega),Option.bind_some]
     exact yes _ (by rw [hk];exact decide_eq_true ho) (by rw [hk];rfl)
    ·rw [if_pos (by simpa using ho)];exact no (by rw [hk];exact decide_eq_false ho)
   rw [if_neg (by rw [c119,c110];exact k1)]
   by_cases k2:c.toNat=116
   ·have hk:kOf c=.t:=by unfold kOf;rw [if_neg k1,if_pos k2]
    rw [if_pos (c116.2 k2),e2,Option.bind_some,AA hsz]
    by_cases ho:(C9 a).isSome=true
    ·rw [if_neg (fun h=>h ho),ND g2 (by omega),Option.bind_some]
     exact yes _ (by rw [hk];exact ho) (by rw [hk];rfl)
    ·rw [if_pos ho];exact no (by rw [hk];exact Bool.eq_false_iff.2 ho)
   rw [if_neg (fun h=>k2 (c116.1 h))]
   by_cases k3:c.toNat=112
   ·have hk:kOf c=.p:=by unfold kOf;rw [if_neg k1,if_neg k2,if_pos k3]
    rw [if_pos (c112.2 k3),e2,Option.bind_some,AA hsz]
    by_cases ho:(placeOf a).isSome=true
    ·rw [if_neg (fun h=>h ho),ND g4 (by omega),Option.bind_some]
     exact yes _ (by rw [hk];exact ho) (by rw [hk];rfl)
    ·rw [if_pos ho];exact no (by rw [hk];exact Bool.eq_false_iff.2 ho)
   rw [if_neg (fun h=>k3 (c112.1 h))]
   by_cases k4:c.toNat=113
   ·have hk:kOf c=.q:=by unfold kOf;rw [if_neg k1,if_neg k2,if_neg k3,if_pos k4]
    rw [if_pos (c113.2 k4),e2,Option.bind_some,AA hsz]
    by_cases ho:okK .q a=true
    ·obtain ⟨o1,o2⟩:=UI.1 ho
     rw [if_neg (fun h=>h o1),Option.bind_some,if_neg (fun h=>h o2),ND g5 (by omega),Option.bind_some]
     exact yes _ (by rw [hk];exact ho) (by rw [hk];rfl)
    ·by_cases o1:(Dw a 0).2.2=0
     ·rw [if_neg (fun h=>h o1),Option.bind_some,if_pos (fun h=>ho (UI.2 ⟨o1,h⟩))];exact no (by rw [hk];exact Bool.eq_false_iff.2 ho)
     ·rw [if_pos o1];exact no (by rw [hk];exact Bool.eq_false_iff.2 ho)
   rw [if_neg (fun h=>k4 (c113.1 h)),e2,Option.bind_some,Option.bind_some]
   by_cases k5:c.toNat=105
   ·have hk:kOf c=.i:=by unfold kOf;rw [if_neg k1,if_neg k2,if_neg k3,if_neg k4,if_pos k5]
    by_cases hd:a=Oo
    ·rw [if_pos ⟨c105.2 k5,hd⟩,ND g3 (by omega),Option.bind_some]
     exact yes _ (by rw [hk];simp [okK,hd]) (by rw [hk,Dp,Ee,if_pos hd])
    ·rw [if_neg (fun h=>hd h.2)]
     by_cases ho:nameB a=true
     ·rw [if_neg (fun h=>h ho),ND g3 (by omega),Option.bind_some]
      exact yes _ (by rw [hk];simp [okK,ho]) (by rw [hk,Dp,Ee,if_neg hd])
     ·rw [if_pos ho];exact no (by rw [hk];simp [okK,hd,ho])
   ·have hk:kOf c=.m:=by unfold kOf;rw [if_neg k1,if_neg k2,if_neg k3,if_neg k4,if_neg k5]
    rw [if_neg (fun h=>k5 (c105.1 h.1))]
    by_cases ho:nameB a=true
    ·rw [if_neg (fun h=>h ho),ND g3 (by omega),Option.bind_some]
     exact yes _ (by rw [hk];exact ho) (by rw [hk];rfl)
    ·rw [if_pos ho];exact no (by rw [hk];exact Bool.eq_false_iff.2 ho)
  ·rw [if_neg hc]
   obtain rfl:i=form.size:=by omega
   have z1:(CS form).drop form.size= []:=List.drop_eq_nil_of_le (by unfold CS;rw [List.length_map];exact Nat.le_of_eq (Ei form))
   have z2:l.drop form.size= []:=List.drop_eq_nil_of_le (by omega)
   refine ⟨_,rfl,?_,?_⟩
   ·rw [z1,z2];rfl
   ·rw [z1,z2];rfl
abbrev TA:BR:=⟨[],[],[],[],[]⟩
theorem Adh:∀{ks:List RK} {l:List ByteArray},okF ks l=true→l.length=ks.length
 | [],[],_=>rfl
 | [],_::_,h=>by cases h
 |_::_,[],h=>by cases h
 |k::ks,a::l,h=>by rw [okF,Bool.and_eq_true] at h;rw [List.length_cons,List.length_cons,Adh h.2]
theorem D8 (l:List ByteArray)(form:ByteArray)(hf:form.size≤1000)(hs:∀a∈l,a.size≤1000000):∃g,NL l form=some (g,okF (CS form) l)∧(okF (CS form) l=true→g=DN (CS form) l TA):=by
 unfold NL
 by_cases hl:l.length=form.size
 ·rw [if_neg (by omega)]
  obtain ⟨x,h1,h2⟩:=AlN l form hl hf hs 1000000 0 TA TA (by omega) (by omega) ⟨by simp,by simp,by simp,by simp,by simp⟩
  rw [show ((0:Nat):Int)=0 from rfl] at h1
  rw [h1,Option.bind_some]
  rw [List.drop_zero,List.drop_zero] at h2
  cases x with
  |inl x=>obtain ⟨g,b⟩:=x;obtain ⟨q1,q2⟩:=h2;exact ⟨g,by rw [q2,show b=false from q1],fun h=>by rw [q2] at h;cases h⟩
  |inr x=>obtain ⟨v,g,j⟩:=x;obtain ⟨q1,q2⟩:=h2;exact ⟨g,by rw [q1],fun _=>q2⟩
 ·rw [if_pos (by omega)]
  have hno:okF (CS form) l=false:=by
   refine Bool.eq_false_iff.2 fun h=>hl ?_
   rw [Adh h];unfold CS;rw [List.length_map];exact Ei form
  exact ⟨TA,by rw [hno],fun h=>by rw [hno] at h;cases h⟩
end Go.Vm
end
section
namespace Go.Vm
open Go.Proofs Go.Proofs.YtdfbohaohjaloaaGreatDoor Punnet.Name Punnet.Num
set_option maxRecDepth 10000
theorem BA {s:ByteArray}(h:okK .n s=true):DY (AU s).1=s∧BX (AU s).1:=by
 obtain ⟨h1,h2,h3⟩:=VZ (of_decide_eq_true h)
 exact ⟨GN (by rw [YS];exact h1),⟨h2,by show (BU s.data.toList).1 < _;omega⟩⟩
theorem MJ {s:ByteArray}(h:okK .t s=true):G7 ((C9 s).getD AZ)∧EJ ((C9 s).getD AZ)=s:=by
 have h:(C9 s).isSome=true:=h
 cases hs:C9 s with
 |none=>rw [hs] at h;cases h
 |some t=>exact UT hs
theorem Jk {s:ByteArray}(h:okK .p s=true):(if Bz ((placeOf s).getD Ae)=true then BF ((placeOf s).getD Ae) else ⟨#[63]⟩)=s:=by
 have h:(placeOf s).isSome=true:=h
 cases hs:placeOf s with
 |none=>rw [hs] at h;cases h
 |some t=>
  obtain ⟨h1,h2⟩:=Yr hs
  rw [Option.getD_some,if_pos h1,h2]
theorem P5 {s:ByteArray}(h:okK .q s=true):Kw (Ea s).1=s:=by
 rw [OT h]
 obtain ⟨h1,h2⟩:=UI.1 h
 have hq:(OJ s).2=true:=by
  unfold OJ
  simp only [Bool.and_eq_true,decide_eq_true_eq]
  exact ⟨h1,h2⟩
 obtain ⟨h3,h4⟩:=AjM hq
 unfold Kw NF
 have h4:(Dw s 0).1.size≤40:=h4
 rw [if_pos h4,if_neg (by simp)]
 exact h3
theorem PN {s:ByteArray}(h:okK .i s=true):KG (Ee s)=s:=by
 unfold KG Ee
 by_cases hd:s=Oo
 ·rw [if_pos hd,if_pos rfl,hd]
 ·rw [if_neg hd,if_neg]
  intro e
  have h:(decide (s=Oo)||nameB s)=true:=h
  rw [decide_eq_false hd,Bool.false_or] at h
  exact Yw h (by rw [e])
theorem find_eq {l:List Bd}{v:ByteArray}(h:l.length≤1000000000):Cb l v=((LW v l 0).bind fun m_=>match m_ with | .inl rl1=>some rl1 | .inr _=>some (-1)):=by
 unfold Cb;rw [AA h];rfl
theorem DZ {t:He}{k:Int}{v:ByteArray}(h1:¬(k<0∨13≤k))(h2:idx [t.e0,t.e1,t.e2,t.e3,t.e4,t.e5,t.e6,t.e7,t.e8,t.e9,t.e10,t.e11,t.e12] k=some v):CZ t k=some v:=by
 unfold CZ;rw [if_neg h1,h2];rfl
theorem DI {α:Type}{a:α}{l:List α}:idx (a::l) 0=some a:=rfl
theorem DT {a:ByteArray}{l:List ByteArray}:Gu (a::l) 1 (((a::l).length:Nat):Int)=some l:=by
 rw [show (1:Int)=((1:Nat):Int) from rfl,Xy (by simp)];rfl
abbrev IV:ByteArray:=⟨#[97,100,100]⟩
abbrev Jj:ByteArray:=⟨#[114,101,109,111,118,101]⟩
abbrev IW:ByteArray:=⟨#[97,100,106,117,115,116]⟩
abbrev IX:ByteArray:=⟨#[115,101,116]⟩
abbrev IQ:ByteArray:=⟨#[112,117,116]⟩
abbrev IY:ByteArray:=⟨#[116,97,107,101]⟩
abbrev Jd:ByteArray:=⟨#[99,108,101,97,114]⟩
abbrev KQ:ByteArray:=⟨#[112,117,98,108,105,115,104]⟩
abbrev IP:ByteArray:=⟨#[115,119,105,116,99,104]⟩
abbrev Jg:ByteArray:=⟨#[118,105,101,119]⟩
abbrev IU:ByteArray:=⟨#[97,116]⟩
abbrev I8:ByteArray:=⟨#[112,114,111,106,101,99,116]⟩
abbrev Ht:ByteArray:=⟨#[104,101,108,108,111]⟩
abbrev Hr:ByteArray:=⟨#[100,101,108,105,118,101,114]⟩
abbrev Ho:ByteArray:=⟨#[108,111,115,101]⟩
abbrev G8:ByteArray:=⟨#[100,111,117,98,108,101]⟩
abbrev Ha:ByteArray:=⟨#[99,117,116]⟩
abbrev Hu:ByteArray:=⟨#[102,117,115,101]⟩
abbrev Hm:ByteArray:=⟨#[99,114,97,115,104]⟩
abbrev Hf:ByteArray:=⟨#[102,111,108,100]⟩
abbrev Hl:ByteArray:=⟨#[109,101,101,116]⟩
abbrev Jp:ByteArray:=⟨#[114,101,110,97,109,101]⟩
abbrev IZ:ByteArray:=⟨#[104,111,105,115,116]⟩
abbrev Jo:ByteArray:=⟨#[112,108,117,110,103,101]⟩
abbrev Jh:ByteArray:=⟨#[115,112,108,105,116]⟩
abbrev Jn:ByteArray:=⟨#[119,114,97,112]⟩
abbrev Iz:ByteArray:=⟨#[99,111,117,110,116,101,114]⟩
abbrev Ii:ByteArray:=⟨#[116,101,120,116]⟩
abbrev Ic:ByteArray:=⟨#[108,105,115,116]⟩
theorem Awc:BG Df Jp=some 1:=by kernel_rfl
theorem Amq:BG Df IZ=some 4:=by kernel_rfl
theorem ArH:BG Df Jo=some 5:=by kernel_rfl
theorem Arx:BG Df Jh=some 6:=by kernel_rfl
theorem Agh:BG Df Jn=some 7:=by kernel_rfl
theorem AuM:BG Df Iz=some 0:=by kernel_rfl
theorem Akx:BG D6 Iz=some 1:=by kernel_rfl
theorem AiK:BG Df Ii=some 0:=by kernel_rfl
theorem AhJ:BG D6 Ii=some 2:=by kernel_rfl
theorem AeX:BG Df Ic=some 0:=by kernel_rfl
theorem Ae9:BG D6 Ic=some 4:=by kernel_rfl
theorem AlQ:BG BI IV=some 1:=by kernel_rfl
theorem Anp:BG BI Jj=some 2:=by kernel_rfl
theorem Ah5:BG BI IW=some 3:=by kernel_rfl
theorem AmY:BG BI IX=some 4:=by kernel_rfl
theorem AvI:BG BI IQ=some 5:=by kernel_rfl
theorem ArU:BG BI IY=some 6:=by kernel_rfl
theorem Avj:BG BI Jd=some 7:=by kernel_rfl
theorem AnK:BG BI KQ=some 8:=by kernel_rfl
theorem Aku:BG BI IP=some 9:=by kernel_rfl
theorem AvR:BG BI Jg=some 10:=by kernel_rfl
theorem AqD:BG BI IU=some 11:=by kernel_rfl
theorem Agx:BG BI I8=some 12:=by kernel_rfl
theorem AnG:BG CW Ht=some 2:=by kernel_rfl
theorem Aq2:BG BI Ht=some 0:=by kernel_rfl
theorem ArS:BG CW Hr=some 3:=by kernel_rfl
theorem Ape:BG BI Hr=some 0:=by kernel_rfl
theorem ApJ:BG CW Ho=some 4:=by kernel_rfl
theorem AjK:BG BI Ho=some 0:=by kernel_rfl
theorem Ais:BG CW G8=some 5:=by kernel_rfl
theorem AoD:BG BI G8=some 0:=by kernel_rfl
theorem Ah0:BG CW Ha=some 6:=by kernel_rfl
theorem AfX:BG BI Ha=some 0:=by kernel_rfl
theorem AfJ:BG CW Hu=some 7:=by kernel_rfl
theorem AkO:BG BI Hu=some 0:=by kernel_rfl
theorem Amt:BG CW Hm=some 8:=by kernel_rfl
theorem Akj:BG BI Hm=some 0:=by kernel_rfl
theorem AnL:BG CW Hf=some 9:=by kernel_rfl
theorem Aqf:BG BI Hf=some 0:=by kernel_rfl
theorem AiW:BG CW Hl=some 10:=by kernel_rfl
theorem Am9:BG BI Hl=some 0:=by kernel_rfl
theorem ApS:Cb CX IV=some 1:=by rw [find_eq (by decide)];kernel_rfl
theorem As1:Cb CX Jj=some 2:=by rw [find_eq (by decide)];kernel_rfl
theorem Awi:Cb CX IW=some 3:=by rw [find_eq (by decide)];kernel_rfl
theorem Afq:Cb CX IX=some 4:=by rw [find_eq (by decide)];kernel_rfl
theorem Ahe:Cb CX IQ=some 5:=by rw [find_eq (by decide)];kernel_rfl
theorem AeC:Cb CX IY=some 6:=by rw [find_eq (by decide)];kernel_rfl
theorem Ao3:Cb CX Jd=some 7:=by rw [find_eq (by decide)];kernel_rfl
theorem WV:Cb CX KQ=some 8:=by rw [find_eq (by decide)];kernel_rfl
theorem Auc:Cb CX IP=some 9:=by rw [find_eq (by decide)];kernel_rfl
theorem Aoq:Cb CX Jg=some 10:=by rw [find_eq (by decide)];kernel_rfl
theorem At7:Cb CX IU=some 11:=by rw [find_eq (by decide)];kernel_rfl
theorem Aka:Cb CX I8=some 12:=by rw [find_eq (by decide)];kernel_rfl
theorem Ar7:Cb En Ht=some 2:=by rw [find_eq (by decide)];kernel_rfl
theorem AlC:Cb En Hr=some 3:=by rw [find_eq (by decide)];kernel_rfl
theorem AoJ:Cb En Ho=some 4:=by rw [find_eq (by decide)];kernel_rfl
theorem Awg:Cb En G8=some 5:=by rw [find_eq (by decide)];kernel_rfl
theorem ArM:Cb En Ha=some 6:=by rw [find_eq (by decide)];kernel_rfl
theorem Al2:Cb En Hu=some 7:=by rw [find_eq (by decide)];kernel_rfl
theorem Anc:Cb En Hm=some 8:=by rw [find_eq (by decide)];kernel_rfl
theorem AjY:Cb En Hf=some 9:=by rw [find_eq (by decide)];kernel_rfl
theorem Ajt:Cb En Hl=some 10:=by rw [find_eq (by decide)];kernel_rfl
theorem Ai7:Cb EG Jp=some 1:=by rw [find_eq (by decide)];kernel_rfl
theorem Ah1:Cb EG IZ=some 4:=by rw [find_eq (by decide)];kernel_rfl
theorem AhW:Cb EG Jo=some 5:=by rw [find_eq (by decide)];kernel_rfl
theorem Avs:Cb EG Jh=some 6:=by rw [find_eq (by decide)];kernel_rfl
theorem Am1:Cb EG Jn=some 7:=by rw [find_eq (by decide)];kernel_rfl
theorem AgS:Cb EG Iz=some 11:=by rw [find_eq (by decide)];kernel_rfl
theorem AlH:Cb EG Ii=some 12:=by rw [find_eq (by decide)];kernel_rfl
theorem Ak0:Cb EG Ic=some 14:=by rw [find_eq (by decide)];kernel_rfl
theorem Alr:Cb CX Ht=some (-1):=by rw [find_eq (by decide)];kernel_rfl
theorem AkU:Cb CX Hr=some (-1):=by rw [find_eq (by decide)];kernel_rfl
theorem Aio:Cb CX Ho=some (-1):=by rw [find_eq (by decide)];kernel_rfl
theorem AlR:Cb CX G8=some (-1):=by rw [find_eq (by decide)];kernel_rfl
theorem Akp:Cb CX Ha=some (-1):=by rw [find_eq (by decide)];kernel_rfl
theorem Au9:Cb CX Hu=some (-1):=by rw [find_eq (by decide)];kernel_rfl
theorem Atn:Cb CX Hm=some (-1):=by rw [find_eq (by decide)];kernel_rfl
theorem Ajl:Cb CX Hf=some (-1):=by rw [find_eq (by decide)];kernel_rfl
theorem Asm:Cb CX Hl=some (-1):=by rw [find_eq (by decide)];kernel_rfl
theorem AfB:CZ BI 1=some IV:=DZ (by decide) rfl
theorem AfQ:CZ BI 2=some Jj:=DZ (by decide) rfl
theorem Atq:CZ BI 3=some IW:=DZ (by decide) rfl
theorem Aeu:CZ BI 4=some IX:=DZ (by decide) rfl
theorem Aqo:CZ BI 5=some IQ:=DZ (by decide) rfl
theorem Aln:CZ BI 6=some IY:=DZ (by decide) rfl
theorem Akc:CZ BI 7=some Jd:=DZ (by decide) rfl
theorem Alq:CZ BI 8=some KQ:=DZ (by decide) rfl
theorem AiL:CZ BI 9=some IP:=DZ (by decide) rfl
theorem AiY:CZ BI 10=some Jg:=DZ (by decide) rfl
theorem Aqx:CZ BI 11=some IU:=DZ (by decide) rfl
theorem Asu:CZ BI 12=some I8:=DZ (by decide) rfl
theorem Ahp:CZ CW 2=some Ht:=DZ (by decide) rfl
theorem AvS:CZ CW 3=some Hr:=DZ (by decide) rfl
theorem Aty:CZ CW 4=some Ho:=DZ (by decide) rfl
theorem AnP:CZ CW 5=some G8:=DZ (by decide) rfl
theorem As5:CZ CW 6=some Ha:=DZ (by decide) rfl
theorem AoI:CZ CW 7=some Hu:=DZ (by decide) rfl
theorem Aoc:CZ CW 8=some Hm:=DZ (by decide) rfl
theorem Au7:CZ CW 9=some Hf:=DZ (by decide) rfl
theorem AuE:CZ CW 10=some Hl:=DZ (by decide) rfl
theorem AlV:CZ Df 1=some Jp:=DZ (by decide) rfl
theorem Ak6:CZ Df 4=some IZ:=DZ (by decide) rfl
theorem AhZ:CZ Df 5=some Jo:=DZ (by decide) rfl
theorem AfE:CZ Df 6=some Jh:=DZ (by decide) rfl
theorem Akt:CZ Df 7=some Jn:=DZ (by decide) rfl
theorem ApK:CZ D6 1=some Iz:=DZ (by decide) rfl
theorem Ani:CZ D6 2=some Ii:=DZ (by decide) rfl
theorem Amw:CZ D6 4=some Ic:=DZ (by decide) rfl
theorem Vj:CZ Df 2=some noB:=DZ (by decide) rfl
theorem Ig {t:He}{w:ByteArray}{n:Nat}{i:Int}{p:ByteArray}(hi:i<13)(h:idx [t.e0,t.e1,t.e2,t.e3,t.e4,t.e5,t.e6,t.e7,t.e8,t.e9,t.e10,t.e11,t.e12] i=some p)(hn:¬(p=w∧¬p=noB)):Dk t w (n+1) i=Dk t w n (w64 (i+1)):=by
 rw [Dk,if_pos hi,h,Option.bind_some,if_neg hn]
theorem kind_none {t:He}{w:ByteArray}(h:∀p∈[t.e0,t.e1,t.e2,t.e3,t.e4,t.e5,t.e6,t.e7,t.e8,t.e9,t.e10,t.e11,t.e12],¬(p=w∧¬p=noB)):Dk t w 1000000 0=some (.inr 13):=by
 rw [show Dk t w 1000000 0=Dk t w 999999 (w64 (0+1)) from Ig (by decide) rfl (h _ (by simp)),show w64 (0+1)=1 from by decide]
 rw [show Dk t w 999999 1=Dk t w 999998 (w64 (1+1)) from Ig (by decide) rfl (h _ (by simp)),show w64 (1+1)=2 from by decide]
 rw [show Dk t w 999998 2=Dk t w 999997 (w64 (2+1)) from Ig (by decide) rfl (h _ (by simp)),show w64 (2+1)=3 from by decide]
 rw [show Dk t w 999997 3=Dk t w 999996 (w64 (3+1)) from Ig (by decide) rfl (h _ (by simp)),show w64 (3+1)=4 from by decide]
 rw [show Dk t w 999996 4=Dk t w 999995 (w64 (4+1)) from Ig (by decide) rfl (h _ (by simp)),show w64 (4+1)=5 from by decide]
 rw [show Dk t w 999995 5=Dk t w 999994 (w64 (5+1)) from Ig (by decide) rfl (h _ (by simp)),show w64 (5+1)=6 from by decide]
 rw [show Dk t w 999994 6=Dk t w 999993 (w64 (6+1)) from Ig (by decide) rfl (h _ (by simp)),show w64 (6+1)=7 from by decide]
 rw [show Dk t w 999993 7=Dk t w 999992 (w64 (7+1)) from Ig (by decide) rfl (h _ (by simp)),show w64 (7+1)=8 from by decide]
 rw [show Dk t w 999992 8=Dk t w 999991 (w64 (8+1)) from Ig (by decide) rfl (h _ (by simp)),show w64 (8+1)=9 from by decide]
 rw [show Dk t w 999991 9=Dk t w 999990 (w64 (9+1)) from Ig (by decide) rfl (h _ (by simp)),show w64 (9+1)=10 from by decide]
 rw [show Dk t w 999990 10=Dk t w 999989 (w64 (10+1)) from Ig (by decide) rfl (h _ (by simp)),show w64 (10+1)=11 from by decide]
 rw [show Dk t w 999989 11=Dk t w 999988 (w64 (11+1)) from Ig (by decide) rfl (h _ (by simp)),show w64 (11+1)=12 from by decide]
 rw [show Dk t w 999988 12=Dk t w 999987 (w64 (12+1)) from Ig (by decide) rfl (h _ (by simp)),show w64 (12+1)=13 from by decide]
 rw [show Dk t w 999987 13=some (.inr 13) from by rw [Dk,if_neg (by decide)]]
theorem Au3 {w:ByteArray}(h_add:¬w=IV)(h_remove:¬w=Jj)(h_adjust:¬w=IW)(h_set:¬w=IX)(h_put:¬w=IQ)(h_take:¬w=IY)(h_clear:¬w=Jd)(h_publish:¬w=KQ)(h_switch:¬w=IP)(h_view:¬w=Jg)(h_at:¬w=IU)(h_project:¬w=I8):BG BI w=some 0:=by
 unfold BG
 rw [kind_none (t:=BI) (w:=w) fun p hp hq=>?_]
 ·rfl
 ·obtain ⟨rfl,h0⟩:=hq
  simp only [BI,List.mem_cons,List.not_mem_nil,or_false] at hp
  rcases hp with h|h|h|h|h|h|h|h|h|h|h|h|h<;>first|exact h0 h|(first|exact h_add h|exact h_remove h|exact h_adjust h|exact h_set h|exact h_put h|exact h_take h|exact h_clear h|exact h_publish h|exact h_switch h|exact h_view h|exact h_at h|exact h_project h)
theorem Ao8 {w:ByteArray}(h_hello:¬w=Ht)(h_deliver:¬w=Hr)(h_lose:¬w=Ho)(h_double:¬w=G8)(h_cut:¬w=Ha)(h_fuse:¬w=Hu)(h_crash:¬w=Hm)(h_fold:¬w=Hf)(h_meet:¬w=Hl):BG CW w=some 0:=by
 unfold BG
 rw [kind_none (t:=CW) (w:=w) fun p hp hq=>?_]
 ·rfl
 ·obtain ⟨rfl,h0⟩:=hq
  simp only [CW,List.mem_cons,List.not_mem_nil,or_false] at hp
  rcases hp with h|h|h|h|h|h|h|h|h|h|h|h|h<;>first|exact h0 h|(first|exact h_hello h|exact h_deliver h|exact h_lose h|exact h_double h|exact h_cut h|exact h_fuse h|exact h_crash h|exact h_fold h|exact h_meet h)
theorem Afh {w:ByteArray}(h_rename:¬w=Jp)(h_hoist:¬w=IZ)(h_plunge:¬w=Jo)(h_split:¬w=Jh)(h_wrap:¬w=Jn):BG Df w=some 0:=by
 unfold BG
 rw [kind_none (t:=Df) (w:=w) fun p hp hq=>?_]
 ·rfl
 ·obtain ⟨rfl,h0⟩:=hq
  simp only [Df,List.mem_cons,List.not_mem_nil,or_false] at hp
  rcases hp with h|h|h|h|h|h|h|h|h|h|h|h|h<;>first|exact h0 h|(first|exact h_rename h|exact h_hoist h|exact h_plunge h|exact h_split h|exact h_wrap h)
theorem ArW {w:ByteArray}(h_counter:¬w=Iz)(h_text:¬w=Ii)(h_list:¬w=Ic):BG D6 w=some 0:=by
 unfold BG
 rw [kind_none (t:=D6) (w:=w) fun p hp hq=>?_]
 ·rfl
 ·obtain ⟨rfl,h0⟩:=hq
  simp only [D6,List.mem_cons,List.not_mem_nil,or_false] at hp
  rcases hp with h|h|h|h|h|h|h|h|h|h|h|h|h<;>first|exact h0 h|(first|exact h_counter h|exact h_text h|exact h_list h)
theorem TE {v:ByteArray}:∀{l:List Bd} {k:Nat},(∀f∈l,¬(f.verb=v∧¬v=noB))→LW v l k=some (.inr ())
 | [],_,_=>rfl
 |f::l,k,h=>by rw [LW,if_neg (h f (List.mem_cons_self ..)),TE fun g hg=>h g (List.mem_cons_of_mem _ hg)]
theorem Aqq {w:ByteArray}(h_add:¬w=IV)(h_remove:¬w=Jj)(h_adjust:¬w=IW)(h_set:¬w=IX)(h_put:¬w=IQ)(h_take:¬w=IY)(h_clear:¬w=Jd)(h_publish:¬w=KQ)(h_switch:¬w=IP)(h_view:¬w=Jg)(h_at:¬w=IU)(h_project:¬w=I8):Cb CX w=some (-1):=by
 rw [find_eq (by decide),TE fun p hp hq=>?_]
 ·rfl
 ·obtain ⟨hq,h0⟩:=hq
  simp only [CX,List.mem_cons,List.not_mem_nil,or_false] at hp
  rcases hp with h|h|h|h|h|h|h|h|h|h|h|h|h<;>subst h<;>first|exact h0 hq.symm|(first|exact h_add hq.symm|exact h_remove hq.symm|exact h_adjust hq.symm|exact h_set hq.symm|exact h_put hq.symm|exact h_take hq.symm|exact h_clear hq.symm|exact h_publish hq.symm|exact h_switch hq.symm|exact h_view hq.symm|exact h_at hq.symm|exact h_project hq.symm)
theorem AkL {w:ByteArray}(h_hello:¬w=Ht)(h_deliver:¬w=Hr)(h_lose:¬w=Ho)(h_double:¬w=G8)(h_cut:¬w=Ha)(h_fuse:¬w=Hu)(h_crash:¬w=Hm)(h_fold:¬w=Hf)(h_meet:¬w=Hl):Cb En w=some (-1):=by
 rw [find_eq (by decide),TE fun p hp hq=>?_]
 ·rfl
 ·obtain ⟨hq,h0⟩:=hq
  simp only [En,List.mem_cons,List.not_mem_nil,or_false] at hp
  rcases hp with h|h|h|h|h|h|h|h|h|h|h<;>subst h<;>first|exact h0 hq.symm|(first|exact h_hello hq.symm|exact h_deliver hq.symm|exact h_lose hq.symm|exact h_double hq.symm|exact h_cut hq.symm|exact h_fuse hq.symm|exact h_crash hq.symm|exact h_fold hq.symm|exact h_meet hq.symm)
theorem AgW {w:ByteArray}(h_rename:¬w=Jp)(h_hoist:¬w=IZ)(h_plunge:¬w=Jo)(h_split:¬w=Jh)(h_wrap:¬w=Jn)(h_counter:¬w=Iz)(h_text:¬w=Ii)(h_list:¬w=Ic):Cb EG w=some (-1):=by
 rw [find_eq (by decide),TE fun p hp hq=>?_]
 ·rfl
 ·obtain ⟨hq,h0⟩:=hq
  simp only [EG,List.mem_cons,List.not_mem_nil,or_false] at hp
  rcases hp with h|h|h|h|h|h|h|h|h|h|h|h|h|h|h<;>subst h<;>first|exact h0 hq.symm|(first|exact h_rename hq.symm|exact h_hoist hq.symm|exact h_plunge hq.symm|exact h_split hq.symm|exact h_wrap hq.symm|exact h_counter hq.symm|exact h_text hq.symm|exact h_list hq.symm)
abbrev Dq:AL:=⟨0,Ae,noB,noB,0,(⟨Ae,0,noB,[],0⟩:AB),[],[]⟩
def JQ (l:List ByteArray)(b:Bool):Prop:=∃(x:AL) (r:Ba) (z:AL) (ok:Bool),EO ⟨l,b⟩=some (x,r)∧good r=(!b&&ok)∧EX l=some (z,ok)∧(ok=true→x=z∧EU x=some l∧x.forth= []∧x.back= []∧x.field.cases= [])
theorem An4 {l:List ByteArray}{b:Bool}(h:Sm ⟨l,b⟩):EO ⟨Jp::l,b⟩=some ((⟨1,((placeOf (wrd ⟨l,b⟩)).getD Ae),(wrd (nxt .p ⟨l,b⟩)),noB,0,(⟨Ae,0,noB,[],0⟩:AB),[],[]⟩:AL),CP [.p,.m] ⟨l,b⟩):=by
 unfold EO
 rw [Dh,Option.bind_some]
 dsimp only
 rw [Awc,Option.bind_some]
 rw [if_pos (by decide)]
 rw [Hw h,Option.bind_some]
 dsimp only
 rw [Hg,Option.bind_some]
 dsimp only
 rfl
theorem Ah2 {l:List ByteArray}(hs:∀a∈l,a.size≤1000000):∃z,EX (Jp::l)=some (z,okF [.p,.m] l)∧(okF [.p,.m] l=true→∀bb,z=(⟨1,((placeOf (wrd ⟨l,bb⟩)).getD Ae),(wrd (nxt .p ⟨l,bb⟩)),noB,0,(⟨Ae,0,noB,[],0⟩:AB),[],[]⟩:AL)):=by
 obtain ⟨g,h1,h2⟩:=D8 l (⟨#[112,109]⟩:ByteArray) (by decide) hs
 rw [show CS (⟨#[112,109]⟩:ByteArray)= [.p,.m] from by kernel_rfl] at h1 h2
 unfold EX
 rw [if_neg (by simp only [List.length_cons];omega),DI,Option.bind_some,Ai7,Option.bind_some,if_neg (by decide),DT,Option.bind_some]
 rw [show idx EG 1=some (⟨Jp,(⟨#[112,109]⟩:ByteArray)⟩:Bd) from rfl,Option.bind_some]
 dsimp only
 rw [h1,Option.bind_some]
 cases hb:okF [.p,.m] l with
 |false=>exact ⟨_,by dsimp only;rw [if_pos (by decide)],fun h=>by cases h⟩
 |true=>
  obtain rfl:=h2 hb
  rcases l with _|⟨a,_|⟨b,_|⟨u,l⟩⟩⟩
  ·simp [okF] at hb
  ·simp [okF] at hb
  ·refine ⟨_,by dsimp only;rw [if_neg (by decide)];simp [DN,Dp,idx,I4,show w64 1=1 from by decide,show w64 2=2 from by decide,show w64 4=4 from by decide];rfl,fun _ bb=>?_⟩
   first|rfl|simp [wrd,nxt]
  ·simp [okF] at hb
theorem Aux {a b:ByteArray}(hb:okF [.p,.m] [a,b] = true):EU (⟨1,((placeOf a).getD Ae),b,noB,0,(⟨Ae,0,noB,[],0⟩:AB),[],[]⟩:AL)=some (Jp :: [a,b]):=by
 simp only [okF,Bool.and_true,Bool.and_eq_true] at hb
 obtain ⟨qa,qb⟩:=hb
 unfold EU
 dsimp only
 simp [AlV,BD,Jk qa]
theorem Agd {l:List ByteArray}{b:Bool}(hs:∀a∈l,a.size≤1000000):JQ (Jp::l) b:=by
 obtain ⟨z,h1,h2⟩:=Ah2 hs
 refine ⟨_,_,z,_,An4 (b:=b) hs,JF _ l b,h1,fun hb=>⟨(h2 hb b).symm,?_,rfl,rfl,rfl⟩⟩
 rcases l with _|⟨a,_|⟨b,_|⟨u,l⟩⟩⟩
 ·simp [okF] at hb
 ·simp [okF] at hb
 ·exact Aux hb
 ·simp [okF] at hb
theorem Aqk {l:List ByteArray}{b:Bool}(h:Sm ⟨l,b⟩):EO ⟨IZ::l,b⟩=some ((⟨4,((placeOf (wrd ⟨l,b⟩)).getD Ae),noB,noB,0,(⟨Ae,0,noB,[],0⟩:AB),[],[]⟩:AL),CP [.p] ⟨l,b⟩):=by
 unfold EO
 rw [Dh,Option.bind_some]
 dsimp only
 rw [Amq,Option.bind_some]
 rw [if_neg (by decide),if_pos rfl]
 rw [Hw h,Option.bind_some]
 dsimp only
 rfl
theorem Ank {l:List ByteArray}(hs:∀a∈l,a.size≤1000000):∃z,EX (IZ::l)=some (z,okF [.p] l)∧(okF [.p] l=true→∀bb,z=(⟨4,((placeOf (wrd ⟨l,bb⟩)).getD Ae),noB,noB,0,(⟨Ae,0,noB,[],0⟩:AB),[],[]⟩:AL)):=by
 obtain ⟨g,h1,h2⟩:=D8 l (⟨#[112]⟩:ByteArray) (by decide) hs
 rw [show CS (⟨#[112]⟩:ByteArray)= [.p] from by kernel_rfl] at h1 h2
 unfold EX
 rw [if_neg (by simp only [List.length_cons];omega),DI,Option.bind_some,Ah1,Option.bind_some,if_neg (by decide),DT,Option.bind_some]
 rw [show idx EG 4=some (⟨IZ,(⟨#[112]⟩:ByteArray)⟩:Bd) from rfl,Option.bind_some]
 dsimp only
 rw [h1,Option.bind_some]
 cases hb:okF [.p] l with
 |false=>exact ⟨_,by dsimp only;rw [if_pos (by decide)],fun h=>by cases h⟩
 |true=>
  obtain rfl:=h2 hb
  rcases l with _|⟨a,_|⟨u,l⟩⟩
  ·simp [okF] at hb
  ·refine ⟨_,by dsimp only;rw [if_neg (by decide)];simp [DN,Dp,idx,I4,show w64 1=1 from by decide,show w64 2=2 from by decide,show w64 4=4 from by decide];rfl,fun _ bb=>?_⟩
   first|rfl|simp [wrd,nxt]
  ·simp [okF] at hb
theorem AqU {a:ByteArray}(hb:okF [.p] [a] = true):EU (⟨4,((placeOf a).getD Ae),noB,noB,0,(⟨Ae,0,noB,[],0⟩:AB),[],[]⟩:AL)=some (IZ :: [a]):=by
 simp only [okF,Bool.and_true,Bool.and_eq_true] at hb
 have qa:=hb
 unfold EU
 dsimp only
 simp [Ak6,BD,Jk qa]
theorem Arl {l:List ByteArray}{b:Bool}(hs:∀a∈l,a.size≤1000000):JQ (IZ::l) b:=by
 obtain ⟨z,h1,h2⟩:=Ank hs
 refine ⟨_,_,z,_,Aqk (b:=b) hs,JF _ l b,h1,fun hb=>⟨(h2 hb b).symm,?_,rfl,rfl,rfl⟩⟩
 rcases l with _|⟨a,_|⟨u,l⟩⟩
 ·simp [okF] at hb
 ·exact AqU hb
 ·simp [okF] at hb
theorem Ag1 {l:List ByteArray}{b:Bool}(h:Sm ⟨l,b⟩):EO ⟨Jo::l,b⟩=some ((⟨5,((placeOf (wrd ⟨l,b⟩)).getD Ae),(wrd (nxt .p ⟨l,b⟩)),noB,0,(⟨Ae,0,noB,[],0⟩:AB),[],[]⟩:AL),CP [.p,.m] ⟨l,b⟩):=by
 unfold EO
 rw [Dh,Option.bind_some]
 dsimp only
 rw [ArH,Option.bind_some]
 rw [if_pos (by decide)]
 rw [Hw h,Option.bind_some]
 dsimp only
 rw [Hg,Option.bind_some]
 dsimp only
 rfl
theorem Ae8 {l:List ByteArray}(hs:∀a∈l,a.size≤1000000):∃z,EX (Jo::l)=some (z,okF [.p,.m] l)∧(okF [.p,.m] l=true→∀bb,z=(⟨5,((placeOf (wrd ⟨l,bb⟩)).getD Ae),(wrd (nxt .p ⟨l,bb⟩)),noB,0,(⟨Ae,0,noB,[],0⟩:AB),[],[]⟩:AL)):=by
 obtain ⟨g,h1,h2⟩:=D8 l (⟨#[112,109]⟩:ByteArray) (by decide) hs
 rw [show CS (⟨#[112,109]⟩:ByteArray)= [.p,.m] from by kernel_rfl] at h1 h2
 unfold EX
 rw [if_neg (by simp only [List.length_cons];omega),DI,Option.bind_some,AhW,Option.bind_some,if_neg (by decide),DT,Option.bind_some]
 rw [show idx EG 5=some (⟨Jo,(⟨#[112,109]⟩:ByteArray)⟩:Bd) from rfl,Option.bind_some]
 dsimp only
 rw [h1,Option.bind_some]
 cases hb:okF [.p,.m] l with
 |false=>exact ⟨_,by dsimp only;rw [if_pos (by decide)],fun h=>by cases h⟩
 |true=>
  obtain rfl:=h2 hb
  rcases l with _|⟨a,_|⟨b,_|⟨u,l⟩⟩⟩
  ·simp [okF] at hb
  ·simp [okF] at hb
  ·refine ⟨_,by dsimp only;rw [if_neg (by decide)];simp [DN,Dp,idx,I4,show w64 1=1 from by decide,show w64 2=2 from by decide,show w64 4=4 from by decide];rfl,fun _ bb=>?_⟩
   first|rfl|simp [wrd,nxt]
  ·simp [okF] at hb
theorem Ail {a b:ByteArray}(hb:okF [.p,.m] [a,b] = true):EU (⟨5,((placeOf a).getD Ae),b,noB,0,(⟨Ae,0,noB,[],0⟩:AB),[],[]⟩:AL)=some (Jo :: [a,b]):=by
 simp only [okF,Bool.and_true,Bool.and_eq_true] at hb
 obtain ⟨qa,qb⟩:=hb
 unfold EU
 dsimp only
 simp [AhZ,BD,Jk qa]
theorem AuL {l:List ByteArray}{b:Bool}(hs:∀a∈l,a.size≤1000000):JQ (Jo::l) b:=by
 obtain ⟨z,h1,h2⟩:=Ae8 hs
 refine ⟨_,_,z,_,Ag1 (b:=b) hs,JF _ l b,h1,fun hb=>⟨(h2 hb b).symm,?_,rfl,rfl,rfl⟩⟩
 rcases l with _|⟨a,_|⟨b,_|⟨u,l⟩⟩⟩
 ·simp [okF] at hb
 ·simp [okF] at hb
 ·exact Ail hb
 ·simp [okF] at hb
theorem Apr {l:List ByteArray}{b:Bool}(h:Sm ⟨l,b⟩):EO ⟨Jh::l,b⟩=some ((⟨6,((placeOf (wrd ⟨l,b⟩)).getD Ae),(wrd (nxt .p ⟨l,b⟩)),(wrd (nxt .m (nxt .p ⟨l,b⟩))),(AU (wrd (nxt .m (nxt .m (nxt .p ⟨l,b⟩))))).1,(⟨Ae,0,noB,[],0⟩:AB),[],[]⟩:AL),CP [.p,.m,.m,.n] ⟨l,b⟩):=by
 unfold EO
 rw [Dh,Option.bind_some]
 dsimp only
 rw [Arx,Option.bind_some]
 rw [if_neg (by decide),if_neg (by decide),if_pos rfl]
 rw [Hw h,Option.bind_some]
 dsimp only
 rw [Hg,Option.bind_some]
 dsimp only
 rw [Hg,Option.bind_some]
 dsimp only
 rw [number_eq (((h.nxt .p).nxt .m).nxt .m),Option.bind_some]
 dsimp only
 rfl
theorem Agf {l:List ByteArray}(hs:∀a∈l,a.size≤1000000):∃z,EX (Jh::l)=some (z,okF [.p,.m,.m,.n] l)∧(okF [.p,.m,.m,.n] l=true→∀bb,z=(⟨6,((placeOf (wrd ⟨l,bb⟩)).getD Ae),(wrd (nxt .p ⟨l,bb⟩)),(wrd (nxt .m (nxt .p ⟨l,bb⟩))),(AU (wrd (nxt .m (nxt .m (nxt .p ⟨l,bb⟩))))).1,(⟨Ae,0,noB,[],0⟩:AB),[],[]⟩:AL)):=by
 obtain ⟨g,h1,h2⟩:=D8 l (⟨#[112,109,109,110]⟩:ByteArray) (by decide) hs
 rw [show CS (⟨#[112,109,109,110]⟩:ByteArray)= [.p,.m,.m,.n] from by kernel_rfl] at h1 h2
 unfold EX
 rw [if_neg (by simp only [List.length_cons];omega),DI,Option.bind_some,Avs,Option.bind_some,if_neg (by decide),DT,Option.bind_some]
 rw [show idx EG 6=some (⟨Jh,(⟨#[112,109,109,110]⟩:ByteArray)⟩:Bd) from rfl,Option.bind_some]
 dsimp only
 rw [h1,Option.bind_some]
 cases hb:okF [.p,.m,.m,.n] l with
 |false=>exact ⟨_,by dsimp only;rw [if_pos (by decide)],fun h=>by cases h⟩
 |true=>
  obtain rfl:=h2 hb
  rcases l with _|⟨a,_|⟨b,_|⟨c,_|⟨d,_|⟨u,l⟩⟩⟩⟩⟩
  ·simp [okF] at hb
  ·simp [okF] at hb
  ·simp [okF] at hb
  ·simp [okF] at hb
  ·refine ⟨_,by dsimp only;rw [if_neg (by decide)];simp [DN,Dp,idx,I4,show w64 1=1 from by decide,show w64 2=2 from by decide,show w64 4=4 from by decide];rfl,fun _ bb=>?_⟩
   first|rfl|simp [wrd,nxt]
  ·simp [okF] at hb
theorem Atc {a b c d:ByteArray}(hb:okF [.p,.m,.m,.n] [a,b,c,d] = true):EU (⟨6,((placeOf a).getD Ae),b,c,(AU d).1,(⟨Ae,0,noB,[],0⟩:AB),[],[]⟩:AL)=some (Jh :: [a,b,c,d]):=by
 simp only [okF,Bool.and_true,Bool.and_eq_true] at hb
 obtain ⟨qa,qb,qc,qd⟩:=hb
 unfold EU
 dsimp only
 simp [AfE,BD,Jk qa,AA (BA qd).2,(BA qd).1]
theorem AoU {l:List ByteArray}{b:Bool}(hs:∀a∈l,a.size≤1000000):JQ (Jh::l) b:=by
 obtain ⟨z,h1,h2⟩:=Agf hs
 refine ⟨_,_,z,_,Apr (b:=b) hs,JF _ l b,h1,fun hb=>⟨(h2 hb b).symm,?_,rfl,rfl,rfl⟩⟩
 rcases l with _|⟨a,_|⟨b,_|⟨c,_|⟨d,_|⟨u,l⟩⟩⟩⟩⟩
 ·simp [okF] at hb
 ·simp [okF] at hb
 ·simp [okF] at hb
 ·simp [okF] at hb
 ·exact Atc hb
 ·simp [okF] at hb
theorem Apz {l:List ByteArray}{b:Bool}(h:Sm ⟨l,b⟩):EO ⟨Jn::l,b⟩=some ((⟨7,((placeOf (wrd ⟨l,b⟩)).getD Ae),noB,(Ea (wrd (nxt .p ⟨l,b⟩))).1,0,(⟨Ae,0,noB,[],0⟩:AB),[],[]⟩:AL),CP [.p,.q] ⟨l,b⟩):=by
 unfold EO
 rw [Dh,Option.bind_some]
 dsimp only
 rw [Agh,Option.bind_some]
 rw [if_neg (by decide),if_neg (by decide),if_neg (by decide),if_pos rfl]
 rw [Hw h,Option.bind_some]
 dsimp only
 rw [text_eq (h.nxt .p),Option.bind_some]
 dsimp only
 rfl
theorem Alo {l:List ByteArray}(hs:∀a∈l,a.size≤1000000):∃z,EX (Jn::l)=some (z,okF [.p,.q] l)∧(okF [.p,.q] l=true→∀bb,z=(⟨7,((placeOf (wrd ⟨l,bb⟩)).getD Ae),noB,(Ea (wrd (nxt .p ⟨l,bb⟩))).1,0,(⟨Ae,0,noB,[],0⟩:AB),[],[]⟩:AL)):=by
 obtain ⟨g,h1,h2⟩:=D8 l (⟨#[112,113]⟩:ByteArray) (by decide) hs
 rw [show CS (⟨#[112,113]⟩:ByteArray)= [.p,.q] from by kernel_rfl] at h1 h2
 unfold EX
 rw [if_neg (by simp only [List.length_cons];omega),DI,Option.bind_some,Am1,Option.bind_some,if_neg (by decide),DT,Option.bind_some]
 rw [show idx EG 7=some (⟨Jn,(⟨#[112,113]⟩:ByteArray)⟩:Bd) from rfl,Option.bind_some]
 dsimp only
 rw [h1,Option.bind_some]
 cases hb:okF [.p,.q] l with
 |false=>exact ⟨_,by dsimp only;rw [if_pos (by decide)],fun h=>by cases h⟩
 |true=>
  obtain rfl:=h2 hb
  rcases l with _|⟨a,_|⟨b,_|⟨u,l⟩⟩⟩
  ·simp [okF] at hb
  ·simp [okF] at hb
  ·refine ⟨_,by dsimp only;rw [if_neg (by decide)];simp [DN,Dp,idx,I4,show w64 1=1 from by decide,show w64 2=2 from by decide,show w64 4=4 from by decide];rfl,fun _ bb=>?_⟩
   have hq:okK .q b=true:=by simp [okF] at hb;first|exact hb.2|exact hb
   simp [wrd,nxt,OT hq]
  ·simp [okF] at hb
theorem AqO {a b:ByteArray}(hb:okF [.p,.q] [a,b] = true):EU (⟨7,((placeOf a).getD Ae),noB,(Ea b).1,0,(⟨Ae,0,noB,[],0⟩:AB),[],[]⟩:AL)=some (Jn :: [a,b]):=by
 simp only [okF,Bool.and_true,Bool.and_eq_true] at hb
 obtain ⟨qa,qb⟩:=hb
 unfold EU
 dsimp only
 simp [Akt,BD,Jk qa,P5 qb]
theorem Af9 {l:List ByteArray}{b:Bool}(hs:∀a∈l,a.size≤1000000):JQ (Jn::l) b:=by
 obtain ⟨z,h1,h2⟩:=Alo hs
 refine ⟨_,_,z,_,Apz (b:=b) hs,JF _ l b,h1,fun hb=>⟨(h2 hb b).symm,?_,rfl,rfl,rfl⟩⟩
 rcases l with _|⟨a,_|⟨b,_|⟨u,l⟩⟩⟩
 ·simp [okF] at hb
 ·simp [okF] at hb
 ·exact AqO hb
 ·simp [okF] at hb
theorem Ar8 {l:List ByteArray}{b:Bool}(h:Sm ⟨l,b⟩):EO ⟨Iz::l,b⟩=some ((⟨2,Ae,noB,noB,0,(⟨((placeOf (wrd ⟨l,b⟩)).getD Ae),1,noB,[],(AU (wrd (nxt .p ⟨l,b⟩))).1⟩:AB),[],[]⟩:AL),CP [.p,.n] ⟨l,b⟩):=by
 unfold EO
 rw [Dh,Option.bind_some]
 dsimp only
 rw [AuM,Option.bind_some]
 rw [if_neg (by decide),if_neg (by decide),if_neg (by decide),if_neg (by decide)]
 rw [Akx,Option.bind_some,Hw h,Option.bind_some]
 dsimp only
 rw [if_pos rfl]
 rw [number_eq (h.nxt .p),Option.bind_some]
 rfl
theorem Ai3 {l:List ByteArray}(hs:∀a∈l,a.size≤1000000):∃z,EX (Iz::l)=some (z,okF [.p,.n] l)∧(okF [.p,.n] l=true→∀bb,z=(⟨2,Ae,noB,noB,0,(⟨((placeOf (wrd ⟨l,bb⟩)).getD Ae),1,noB,[],(AU (wrd (nxt .p ⟨l,bb⟩))).1⟩:AB),[],[]⟩:AL)):=by
 obtain ⟨g,h1,h2⟩:=D8 l (⟨#[112,110]⟩:ByteArray) (by decide) hs
 rw [show CS (⟨#[112,110]⟩:ByteArray)= [.p,.n] from by kernel_rfl] at h1 h2
 unfold EX
 rw [if_neg (by simp only [List.length_cons];omega),DI,Option.bind_some,AgS,Option.bind_some,if_neg (by decide),DT,Option.bind_some]
 rw [show idx EG 11=some (⟨Iz,(⟨#[112,110]⟩:ByteArray)⟩:Bd) from rfl,Option.bind_some]
 dsimp only
 rw [h1,Option.bind_some]
 cases hb:okF [.p,.n] l with
 |false=>exact ⟨_,by dsimp only;rw [if_pos (by decide)],fun h=>by cases h⟩
 |true=>
  obtain rfl:=h2 hb
  rcases l with _|⟨a,_|⟨b,_|⟨u,l⟩⟩⟩
  ·simp [okF] at hb
  ·simp [okF] at hb
  ·refine ⟨_,by dsimp only;rw [if_neg (by decide)];simp [DN,Dp,idx,I4,show w64 1=1 from by decide,show w64 2=2 from by decide,show w64 4=4 from by decide];rfl,fun _ bb=>?_⟩
   first|rfl|simp [wrd,nxt]
  ·simp [okF] at hb
theorem Anf {a b:ByteArray}(hb:okF [.p,.n] [a,b] = true):EU (⟨2,Ae,noB,noB,0,(⟨((placeOf a).getD Ae),1,noB,[],(AU b).1⟩:AB),[],[]⟩:AL)=some (Iz :: [a,b]):=by
 simp only [okF,Bool.and_true,Bool.and_eq_true] at hb
 obtain ⟨qa,qb⟩:=hb
 unfold EU
 dsimp only
 simp [Vj,ApK,BD,Jk qa,AA (BA qb).2,(BA qb).1]
theorem AkA {l:List ByteArray}{b:Bool}(hs:∀a∈l,a.size≤1000000):JQ (Iz::l) b:=by
 obtain ⟨z,h1,h2⟩:=Ai3 hs
 refine ⟨_,_,z,_,Ar8 (b:=b) hs,JF _ l b,h1,fun hb=>⟨(h2 hb b).symm,?_,rfl,rfl,rfl⟩⟩
 rcases l with _|⟨a,_|⟨b,_|⟨u,l⟩⟩⟩
 ·simp [okF] at hb
 ·simp [okF] at hb
 ·exact Anf hb
 ·simp [okF] at hb
theorem Am6 {l:List ByteArray}{b:Bool}(h:Sm ⟨l,b⟩):EO ⟨Ii::l,b⟩=some ((⟨2,Ae,noB,noB,0,(⟨((placeOf (wrd ⟨l,b⟩)).getD Ae),2,(Ea (wrd (nxt .p ⟨l,b⟩))).1,[],0⟩:AB),[],[]⟩:AL),CP [.p,.q] ⟨l,b⟩):=by
 unfold EO
 rw [Dh,Option.bind_some]
 dsimp only
 rw [AiK,Option.bind_some]
 rw [if_neg (by decide),if_neg (by decide),if_neg (by decide),if_neg (by decide)]
 rw [AhJ,Option.bind_some,Hw h,Option.bind_some]
 dsimp only
 rw [if_neg (by decide),if_pos rfl]
 rw [text_eq (h.nxt .p),Option.bind_some]
 rfl
theorem Ap1 {l:List ByteArray}(hs:∀a∈l,a.size≤1000000):∃z,EX (Ii::l)=some (z,okF [.p,.q] l)∧(okF [.p,.q] l=true→∀bb,z=(⟨2,Ae,noB,noB,0,(⟨((placeOf (wrd ⟨l,bb⟩)).getD Ae),2,(Ea (wrd (nxt .p ⟨l,bb⟩))).1,[],0⟩:AB),[],[]⟩:AL)):=by
 obtain ⟨g,h1,h2⟩:=D8 l (⟨#[112,113]⟩:ByteArray) (by decide) hs
 rw [show CS (⟨#[112,113]⟩:ByteArray)= [.p,.q] from by kernel_rfl] at h1 h2
 unfold EX
 rw [if_neg (by simp only [List.length_cons];omega),DI,Option.bind_some,AlH,Option.bind_some,if_neg (by decide),DT,Option.bind_some]
 rw [show idx EG 12=some (⟨Ii,(⟨#[112,113]⟩:ByteArray)⟩:Bd) from rfl,Option.bind_some]
 dsimp only
 rw [h1,Option.bind_some]
 cases hb:okF [.p,.q] l with
 |false=>exact ⟨_,by dsimp only;rw [if_pos (by decide)],fun h=>by cases h⟩
 |true=>
  obtain rfl:=h2 hb
  rcases l with _|⟨a,_|⟨b,_|⟨u,l⟩⟩⟩
  ·simp [okF] at hb
  ·simp [okF] at hb
  ·refine ⟨_,by dsimp only;rw [if_neg (by decide)];simp [DN,Dp,idx,I4,show w64 1=1 from by decide,show w64 2=2 from by decide,show w64 4=4 from by decide];rfl,fun _ bb=>?_⟩
   have hq:okK .q b=true:=by simp [okF] at hb;first|exact hb.2|exact hb
   simp [wrd,nxt,OT hq]
  ·simp [okF] at hb
theorem Avr {a b:ByteArray}(hb:okF [.p,.q] [a,b] = true):EU (⟨2,Ae,noB,noB,0,(⟨((placeOf a).getD Ae),2,(Ea b).1,[],0⟩:AB),[],[]⟩:AL)=some (Ii :: [a,b]):=by
 simp only [okF,Bool.and_true,Bool.and_eq_true] at hb
 obtain ⟨qa,qb⟩:=hb
 unfold EU
 dsimp only
 simp [Vj,Ani,BD,Jk qa,P5 qb]
theorem Ag9 {l:List ByteArray}{b:Bool}(hs:∀a∈l,a.size≤1000000):JQ (Ii::l) b:=by
 obtain ⟨z,h1,h2⟩:=Ap1 hs
 refine ⟨_,_,z,_,Am6 (b:=b) hs,JF _ l b,h1,fun hb=>⟨(h2 hb b).symm,?_,rfl,rfl,rfl⟩⟩
 rcases l with _|⟨a,_|⟨b,_|⟨u,l⟩⟩⟩
 ·simp [okF] at hb
 ·simp [okF] at hb
 ·exact Avr hb
 ·simp [okF] at hb
theorem AfP {l:List ByteArray}{b:Bool}(h:Sm ⟨l,b⟩):EO ⟨Ic::l,b⟩=some ((⟨2,Ae,noB,noB,0,(⟨((placeOf (wrd ⟨l,b⟩)).getD Ae),4,noB,[],0⟩:AB),[],[]⟩:AL),CP [.p] ⟨l,b⟩):=by
 unfold EO
 rw [Dh,Option.bind_some]
 dsimp only
 rw [AeX,Option.bind_some]
 rw [if_neg (by decide),if_neg (by decide),if_neg (by decide),if_neg (by decide)]
 rw [Ae9,Option.bind_some,Hw h,Option.bind_some]
 dsimp only
 rw [if_neg (by decide),if_neg (by decide),if_pos rfl]
 rfl
theorem Aew {l:List ByteArray}(hs:∀a∈l,a.size≤1000000):∃z,EX (Ic::l)=some (z,okF [.p] l)∧(okF [.p] l=true→∀bb,z=(⟨2,Ae,noB,noB,0,(⟨((placeOf (wrd ⟨l,bb⟩)).getD Ae),4,noB,[],0⟩:AB),[],[]⟩:AL)):=by
 obtain ⟨g,h1,h2⟩:=D8 l (⟨#[112]⟩:ByteArray) (by decide) hs
 rw [show CS (⟨#[112]⟩:ByteArray)= [.p] from by kernel_rfl] at h1 h2
 unfold EX
 rw [if_neg (by simp only [List.length_cons];omega),DI,Option.bind_some,Ak0,Option.bind_some,if_neg (by decide),DT,Option.bind_some]
 rw [show idx EG 14=some (⟨Ic,(⟨#[112]⟩:ByteArray)⟩:Bd) from rfl,Option.bind_some]
 dsimp only
 rw [h1,Option.bind_some]
 cases hb:okF [.p] l with
 |false=>exact ⟨_,by dsimp only;rw [if_pos (by decide)],fun h=>by cases h⟩
 |true=>
  obtain rfl:=h2 hb
  rcases l with _|⟨a,_|⟨u,l⟩⟩
  ·simp [okF] at hb
  ·refine ⟨_,by dsimp only;rw [if_neg (by decide)];simp [DN,Dp,idx,I4,show w64 1=1 from by decide,show w64 2=2 from by decide,show w64 4=4 from by decide];rfl,fun _ bb=>?_⟩
   first|rfl|simp [wrd,nxt]
  ·simp [okF] at hb
theorem Aqu {a:ByteArray}(hb:okF [.p] [a] = true):EU (⟨2,Ae,noB,noB,0,(⟨((placeOf a).getD Ae),4,noB,[],0⟩:AB),[],[]⟩:AL)=some (Ic :: [a]):=by
 simp only [okF,Bool.and_true,Bool.and_eq_true] at hb
 have qa:=hb
 unfold EU
 dsimp only
 simp [Vj,Amw,BD,Jk qa]
theorem Af8 {l:List ByteArray}{b:Bool}(hs:∀a∈l,a.size≤1000000):JQ (Ic::l) b:=by
 obtain ⟨z,h1,h2⟩:=Aew hs
 refine ⟨_,_,z,_,AfP (b:=b) hs,JF _ l b,h1,fun hb=>⟨(h2 hb b).symm,?_,rfl,rfl,rfl⟩⟩
 rcases l with _|⟨a,_|⟨u,l⟩⟩
 ·simp [okF] at hb
 ·exact Aqu hb
 ·simp [okF] at hb
theorem Aai {l:List ByteArray}:good ⟨l,true⟩=false:=by cases l<;>rfl
theorem Ahh {v:ByteArray}{l:List ByteArray}{b:Bool}(hs:∀a∈l,a.size≤1000000)(h_rename:¬v=Jp)(h_hoist:¬v=IZ)(h_plunge:¬v=Jo)(h_split:¬v=Jh)(h_wrap:¬v=Jn)(h_counter:¬v=Iz)(h_text:¬v=Ii)(h_list:¬v=Ic):JQ (v::l) b:=by
 have h:Sm ⟨l,b⟩:=hs
 refine ⟨(⟨2,Ae,noB,noB,0,(⟨(placeOf (wrd ⟨l,b⟩)).getD Ae,0,noB,[],0⟩:AB),[],[]⟩:AL),⟨(nxt .p ⟨l,b⟩).words,true⟩,Dq,false,?_,by rw [Aai];simp,?_,fun h=>by cases h⟩
 rotate_left 1
 ·unfold EX
  rw [if_neg (by simp only [List.length_cons];omega),DI,Option.bind_some,AgW h_rename h_hoist h_plunge h_split h_wrap h_counter h_text h_list,Option.bind_some,if_pos (by decide)]
 ·unfold EO
  rw [Dh,Option.bind_some]
  dsimp only
  rw [Afh h_rename h_hoist h_plunge h_split h_wrap,Option.bind_some,if_neg (by decide),if_neg (by decide),if_neg (by decide),if_neg (by decide),ArW h_counter h_text h_list,Option.bind_some,Hw h,Option.bind_some]
  dsimp only
  rw [if_neg (by decide),if_neg (by decide),if_neg (by decide)]
theorem Auw {b:Bool}:JQ [] b:=by
 refine ⟨(⟨2,Ae,noB,noB,0,(⟨(placeOf (wrd ⟨[],true⟩)).getD Ae,0,noB,[],0⟩:AB),[],[]⟩:AL),⟨(nxt .p ⟨[],true⟩).words,true⟩,Dq,false,?_,by rw [Aai];simp,?_,fun h=>by cases h⟩
 rotate_left 1
 ·unfold EX;exact if_pos rfl
 ·unfold EO
  rw [Ns,Option.bind_some]
  dsimp only
  rw [show BG Df noB=some 0 from by kernel_rfl,Option.bind_some,if_neg (by decide),if_neg (by decide),if_neg (by decide),if_neg (by decide),show BG D6 noB=some 0 from by kernel_rfl,Option.bind_some,Hw (r:=⟨[],true⟩) (fun a h=>by cases h),Option.bind_some]
  dsimp only
  rw [if_neg (by decide),if_neg (by decide),if_neg (by decide)]
theorem Akf:∀(l:List ByteArray) (b:Bool),(∀a∈l,a.size≤1000000)→JQ l b
 | [],b,_=>Auw
 |v::l,b,hs=>by
  have hs2:∀a∈l,a.size≤1000000:=fun a ha=>hs a (List.mem_cons_of_mem _ ha)
  by_cases h_rename:v=Jp
  ·subst h_rename;exact Agd hs2
  by_cases h_hoist:v=IZ
  ·subst h_hoist;exact Arl hs2
  by_cases h_plunge:v=Jo
  ·subst h_plunge;exact AuL hs2
  by_cases h_split:v=Jh
  ·subst h_split;exact AoU hs2
  by_cases h_wrap:v=Jn
  ·subst h_wrap;exact Af9 hs2
  by_cases h_counter:v=Iz
  ·subst h_counter;exact AkA hs2
  by_cases h_text:v=Ii
  ·subst h_text;exact Ag9 hs2
  by_cases h_list:v=Ic
  ·subst h_list;exact Af8 hs2
  exact Ahh hs2 h_rename h_hoist h_plunge h_split h_wrap h_counter h_text h_list
end Go.Vm
end
section
namespace Go.Vm
open Go.Proofs Go.Proofs.YtdfbohaohjaloaaGreatDoor Punnet.Name Punnet.Num
set_option maxRecDepth 10000
abbrev FU:AV:=⟨0,noB,noB,Ae,0,noB,AZ,Dq⟩
abbrev Bg:Au:=⟨0,0,0,0,0,0,0,FU⟩
theorem Fj {r:Ba}{x y:Au×Int}:(if (r.bad=true)∨(0<((r.words.length:Nat):Int)) then some y else some x)=some (if good r=true then x else y):=by
 by_cases hg:good r=true
 ·rw [if_pos hg,if_neg (by rw [AbM,hg];decide)]
 ·rw [if_neg hg,if_pos (by rw [AbM];exact Bool.eq_false_iff.2 hg)]
theorem Aaq {c:UInt8}:∀{l:List (List UInt8)} {w:List UInt8},w∈l→w.length≤(G5 c l).length
 | [],w,h=>by cases h
 | [v],w,h=>by rw [List.mem_singleton.1 h];exact Nat.le_refl _
 |v::u::r,w,h=>by
  rw [G5,List.length_append,List.length_cons]
  rcases List.mem_cons.1 h with rfl|h
  ·omega
  ·have:=Aaq (c:=c) h;omega
theorem AaF {c:UInt8}:∀{l:List (List UInt8)},l.length≤(G5 c l).length+1
 | []=>by simp
 | [v]=>by simp
 |v::u::r=>by
  have:=AaF (c:=c) (l:=u::r)
  rw [G5,List.length_append,List.length_cons (a:=v),List.length_cons (a:=c)]
  omega
theorem Ass {s w:ByteArray}(h:w∈splitB s 0):w.size≤s.size:=by
 have e:=congrArg (fun x:ByteArray=>x.data.toList) (Aec s)
 simp only [VG,UH] at e
 rw [←Ei,←Ei s,←e]
 exact Aaq (List.mem_map.2 ⟨w,h,rfl⟩)
theorem AkW {s:ByteArray}:(splitB s 0).length≤s.size+1:=by
 have e:=congrArg (fun x:ByteArray=>x.data.toList) (Aec s)
 simp only [VG,UH] at e
 rw [←Ei s,←e]
 have:=AaF (c:=32) (l:=(splitB s 0).map (·.data.toList))
 rwa [List.length_map] at this
def EE (line:ByteArray):Prop:=∃(m:Au) (ok:Bool),BO line=some (m,if ok=true then 0 else 4)∧BM line=some (m,ok)∧((ok=true→Cc m=some (splitB line 0)∧m.deed.lens.forth= []∧m.deed.lens.back= []∧m.deed.lens.field.cases= [])∧(ok=false→m=Bg))
variable {line:ByteArray} {l:List ByteArray}
theorem FN {m:Au}{ks:List RK}(h1:BO line=some (if good (CP ks ⟨l,false⟩)=true then (m,0) else (Bg,4)))(h2:∃z,BM line=some (z,okF ks l)∧(okF ks l=false→z=Bg)∧(okF ks l=true→z=m))
 (h3:okF ks l=true→Cc m=some (splitB line 0)∧m.deed.lens.forth= []∧m.deed.lens.back= []∧m.deed.lens.field.cases= []):EE line:=by
 obtain ⟨z,k1,k2,k3⟩:=h2
 rw [JF] at h1
 cases hok:okF ks l with
 |false=>rw [hok] at h1 k1;rw [k2 hok] at k1;exact ⟨Bg,false,h1,k1,⟨fun h=>(by cases h),fun _=>rfl⟩⟩
 |true=>rw [hok] at h1 k1;rw [k3 hok] at k1;exact ⟨m,true,h1,k1,⟨fun _=>h3 hok,fun h=>(by cases h)⟩⟩
theorem An9 {r:Ba}(h:Sm r):Et r 1=some ((⟨1,(wrd r),(Ee (wrd (nxt .m r))),Ae,0,noB,AZ,Dq⟩:AV),CP [.m,.i] r):=by
 unfold Et
 rw [if_neg (by decide),if_neg (by decide)]
 rw [Hg,Option.bind_some]
 dsimp only
 rw [if_pos (by decide)]
 rw [PO,Option.bind_some]
 dsimp only
 rfl
noncomputable abbrev AaN (l:List ByteArray):Au:=(⟨1,(AU (wrd ⟨l,false⟩)).1,0,0,0,0,0,(⟨1,(wrd (nxt .n ⟨l,false⟩)),(Ee (wrd (nxt .m (nxt .n ⟨l,false⟩)))),Ae,0,noB,AZ,Dq⟩:AV)⟩:Au)
theorem Arj (hsp:splitB line 0=IV::l)(hz:line.size≤1000000)(hs:∀a∈l,a.size≤1000000):BO line=some (if good (CP [.n,.m,.i] ⟨l,false⟩)=true then (AaN l,0) else (Bg,4)):=by
 have h:Sm ⟨l,false⟩:=hs
 unfold BO
 rw [AA hz,hsp,Dh,Option.bind_some]
 dsimp only
 rw [AlQ,Option.bind_some,if_pos (by decide),EH h,Option.bind_some]
 dsimp only
 rw [An9 (h.nxt .n),Option.bind_some]
 exact Fj
theorem Atk (hsp:splitB line 0=IV::l)(hz:line.size≤1000000)(hs:∀a∈l,a.size≤1000000):∃z,BM line=some (z,okF [.n,.m,.i] l)∧(okF [.n,.m,.i] l=false→z=Bg)∧(okF [.n,.m,.i] l=true→z=AaN l):=by
 obtain ⟨g,h1,h2⟩:=D8 l (⟨#[119,99,105]⟩:ByteArray) (by decide) hs
 rw [show CS (⟨#[119,99,105]⟩:ByteArray)= [.n,.m,.i] from by kernel_rfl] at h1 h2
 unfold BM
 rw [AA hz,hsp,DI,Option.bind_some,ApS,Option.bind_some,if_pos (by decide),DT,Option.bind_some]
 unfold Gh Gs
 rw [if_neg (by decide),show idx CX 1=some (⟨IV,(⟨#[119,99,105]⟩:ByteArray)⟩:Bd) from rfl,Option.bind_some]
 dsimp only
 rw [h1,Option.bind_some]
 cases hb:okF [.n,.m,.i] l with
 |false=>exact ⟨Bg,by dsimp only;rw [if_pos (by decide),Option.bind_some];rfl,fun _=>rfl,fun h=>by cases h⟩
 |true=>
  obtain rfl:=h2 hb
  rcases l with _|⟨a,_|⟨b,_|⟨c,_|⟨u,l⟩⟩⟩⟩
  ·simp [okF] at hb
  ·simp [okF] at hb
  ·simp [okF] at hb
  ·refine ⟨_,by dsimp only;rw [if_neg (by decide)];simp [DN,Dp,idx,F7,EY,D5,Cj];rfl,fun h=>(by cases h),fun _=>?_⟩
   first|rfl|simp [wrd,nxt]
  ·simp [okF] at hb
theorem AiV {a b c:ByteArray}(hb:okF [.n,.m,.i] [a,b,c] = true):Cc (⟨1,(AU a).1,0,0,0,0,0,(⟨1,b,(Ee c),Ae,0,noB,AZ,Dq⟩:AV)⟩:Au)=some (IV :: [a,b,c]):=by
 simp only [okF,Bool.and_true,Bool.and_eq_true] at hb
 obtain ⟨qa,qb,qc⟩:=hb
 unfold Cc Gj
 simp [AfB,BD,AA (BA qa).2,(BA qa).1,PN qc]
theorem AjQ (hsp:splitB line 0=IV::l)(hz:line.size≤1000000)(hs:∀a∈l,a.size≤1000000):EE line:=by
 refine FN (Arj hsp hz hs) (Atk hsp hz hs) fun hb=>⟨?_,rfl,rfl,rfl⟩
 rw [hsp]
 rcases l with _|⟨a,_|⟨b,_|⟨c,_|⟨u,l⟩⟩⟩⟩
 ·simp [okF] at hb
 ·simp [okF] at hb
 ·simp [okF] at hb
 ·exact AiV hb
 ·simp [okF] at hb
theorem Aj2 {r:Ba}(h:Sm r):Et r 2=some ((⟨2,(wrd r),(Ee (wrd (nxt .m r))),Ae,0,noB,AZ,Dq⟩:AV),CP [.m,.i] r):=by
 unfold Et
 rw [if_neg (by decide),if_neg (by decide)]
 rw [Hg,Option.bind_some]
 dsimp only
 rw [if_pos (by decide)]
 rw [PO,Option.bind_some]
 dsimp only
 rfl
noncomputable abbrev Adb (l:List ByteArray):Au:=(⟨1,(AU (wrd ⟨l,false⟩)).1,0,0,0,0,0,(⟨2,(wrd (nxt .n ⟨l,false⟩)),(Ee (wrd (nxt .m (nxt .n ⟨l,false⟩)))),Ae,0,noB,AZ,Dq⟩:AV)⟩:Au)
theorem Aqi (hsp:splitB line 0=Jj::l)(hz:line.size≤1000000)(hs:∀a∈l,a.size≤1000000):BO line=some (if good (CP [.n,.m,.i] ⟨l,false⟩)=true then (Adb l,0) else (Bg,4)):=by
 have h:Sm ⟨l,false⟩:=hs
 unfold BO
 rw [AA hz,hsp,Dh,Option.bind_some]
 dsimp only
 rw [Anp,Option.bind_some,if_pos (by decide),EH h,Option.bind_some]
 dsimp only
 rw [Aj2 (h.nxt .n),Option.bind_some]
 exact Fj
theorem Ar9 (hsp:splitB line 0=Jj::l)(hz:line.size≤1000000)(hs:∀a∈l,a.size≤1000000):∃z,BM line=some (z,okF [.n,.m,.i] l)∧(okF [.n,.m,.i] l=false→z=Bg)∧(okF [.n,.m,.i] l=true→z=Adb l):=by
 obtain ⟨g,h1,h2⟩:=D8 l (⟨#[119,99,105]⟩:ByteArray) (by decide) hs
 rw [show CS (⟨#[119,99,105]⟩:ByteArray)= [.n,.m,.i] from by kernel_rfl] at h1 h2
 unfold BM
 rw [AA hz,hsp,DI,Option.bind_some,As1,Option.bind_some,if_pos (by decide),DT,Option.bind_some]
 unfold Gh Gs
 rw [if_neg (by decide),show idx CX 2=some (⟨Jj,(⟨#[119,99,105]⟩:ByteArray)⟩:Bd) from rfl,Option.bind_some]
 dsimp only
 rw [h1,Option.bind_some]
 cases hb:okF [.n,.m,.i] l with
 |false=>exact ⟨Bg,by dsimp only;rw [if_pos (by decide),Option.bind_some];rfl,fun _=>rfl,fun h=>by cases h⟩
 |true=>
  obtain rfl:=h2 hb
  rcases l with _|⟨a,_|⟨b,_|⟨c,_|⟨u,l⟩⟩⟩⟩
  ·simp [okF] at hb
  ·simp [okF] at hb
  ·simp [okF] at hb
  ·refine ⟨_,by dsimp only;rw [if_neg (by decide)];simp [DN,Dp,idx,F7,EY,D5,Cj];rfl,fun h=>(by cases h),fun _=>?_⟩
   first|rfl|simp [wrd,nxt]
  ·simp [okF] at hb
theorem Ajd {a b c:ByteArray}(hb:okF [.n,.m,.i] [a,b,c] = true):Cc (⟨1,(AU a).1,0,0,0,0,0,(⟨2,b,(Ee c),Ae,0,noB,AZ,Dq⟩:AV)⟩:Au)=some (Jj :: [a,b,c]):=by
 simp only [okF,Bool.and_true,Bool.and_eq_true] at hb
 obtain ⟨qa,qb,qc⟩:=hb
 unfold Cc Gj
 simp [AfQ,BD,AA (BA qa).2,(BA qa).1,PN qc]
theorem Ait (hsp:splitB line 0=Jj::l)(hz:line.size≤1000000)(hs:∀a∈l,a.size≤1000000):EE line:=by
 refine FN (Aqi hsp hz hs) (Ar9 hsp hz hs) fun hb=>⟨?_,rfl,rfl,rfl⟩
 rw [hsp]
 rcases l with _|⟨a,_|⟨b,_|⟨c,_|⟨u,l⟩⟩⟩⟩
 ·simp [okF] at hb
 ·simp [okF] at hb
 ·simp [okF] at hb
 ·exact Ajd hb
 ·simp [okF] at hb
theorem Aqb {r:Ba}(h:Sm r):Et r 3=some ((⟨3,(wrd r),(Ee (wrd (nxt .m r))),((placeOf (wrd (nxt .i (nxt .m r)))).getD Ae),(AU (wrd (nxt .p (nxt .i (nxt .m r))))).1,noB,AZ,Dq⟩:AV),CP [.m,.i,.p,.n] r):=by
 unfold Et
 rw [if_neg (by decide),if_neg (by decide)]
 rw [Hg,Option.bind_some]
 dsimp only
 rw [if_neg (by decide)]
 rw [if_pos (by decide)]
 rw [PO,Option.bind_some]
 dsimp only
 rw [Hw ((h.nxt .m).nxt .i),Option.bind_some]
 dsimp only
 rw [number_eq (((h.nxt .m).nxt .i).nxt .p),Option.bind_some]
 dsimp only
 rfl
noncomputable abbrev AdK (l:List ByteArray):Au:=(⟨1,(AU (wrd ⟨l,false⟩)).1,0,0,0,0,0,(⟨3,(wrd (nxt .n ⟨l,false⟩)),(Ee (wrd (nxt .m (nxt .n ⟨l,false⟩)))),((placeOf (wrd (nxt .i (nxt .m (nxt .n ⟨l,false⟩))))).getD Ae),(AU (wrd (nxt .p (nxt .i (nxt .m (nxt .n ⟨l,false⟩)))))).1,noB,AZ,Dq⟩:AV)⟩:Au)
theorem Apv (hsp:splitB line 0=IW::l)(hz:line.size≤1000000)(hs:∀a∈l,a.size≤1000000):BO line=some (if good (CP [.n,.m,.i,.p,.n] ⟨l,false⟩)=true then (AdK l,0) else (Bg,4)):=by
 have h:Sm ⟨l,false⟩:=hs
 unfold BO
 rw [AA hz,hsp,Dh,Option.bind_some]
 dsimp only
 rw [Ah5,Option.bind_some,if_pos (by decide),EH h,Option.bind_some]
 dsimp only
 rw [Aqb (h.nxt .n),Option.bind_some]
 exact Fj
theorem AnZ (hsp:splitB line 0=IW::l)(hz:line.size≤1000000)(hs:∀a∈l,a.size≤1000000):∃z,BM line=some (z,okF [.n,.m,.i,.p,.n] l)∧(okF [.n,.m,.i,.p,.n] l=false→z=Bg)∧(okF [.n,.m,.i,.p,.n] l=true→z=AdK l):=by
 obtain ⟨g,h1,h2⟩:=D8 l (⟨#[119,99,105,112,110]⟩:ByteArray) (by decide) hs
 rw [show CS (⟨#[119,99,105,112,110]⟩:ByteArray)= [.n,.m,.i,.p,.n] from by kernel_rfl] at h1 h2
 unfold BM
 rw [AA hz,hsp,DI,Option.bind_some,Awi,Option.bind_some,if_pos (by decide),DT,Option.bind_some]
 unfold Gh Gs
 rw [if_neg (by decide),show idx CX 3=some (⟨IW,(⟨#[119,99,105,112,110]⟩:ByteArray)⟩:Bd) from rfl,Option.bind_some]
 dsimp only
 rw [h1,Option.bind_some]
 cases hb:okF [.n,.m,.i,.p,.n] l with
 |false=>exact ⟨Bg,by dsimp only;rw [if_pos (by decide),Option.bind_some];rfl,fun _=>rfl,fun h=>by cases h⟩
 |true=>
  obtain rfl:=h2 hb
  rcases l with _|⟨a,_|⟨b,_|⟨c,_|⟨d,_|⟨e,_|⟨u,l⟩⟩⟩⟩⟩⟩
  ·simp [okF] at hb
  ·simp [okF] at hb
  ·simp [okF] at hb
  ·simp [okF] at hb
  ·simp [okF] at hb
  ·refine ⟨_,by dsimp only;rw [if_neg (by decide)];simp [DN,Dp,idx,F7,EY,D5,Cj];rfl,fun h=>(by cases h),fun _=>?_⟩
   first|rfl|simp [wrd,nxt]
  ·simp [okF] at hb
theorem AhQ {a b c d e:ByteArray}(hb:okF [.n,.m,.i,.p,.n] [a,b,c,d,e] = true):Cc (⟨1,(AU a).1,0,0,0,0,0,(⟨3,b,(Ee c),((placeOf d).getD Ae),(AU e).1,noB,AZ,Dq⟩:AV)⟩:Au)=some (IW :: [a,b,c,d,e]):=by
 simp only [okF,Bool.and_true,Bool.and_eq_true] at hb
 obtain ⟨qa,qb,qc,qd,qe⟩:=hb
 unfold Cc Gj
 simp [Atq,BD,AA (BA qa).2,(BA qa).1,PN qc,Jk qd,AA (BA qe).2,(BA qe).1]
theorem AhA (hsp:splitB line 0=IW::l)(hz:line.size≤1000000)(hs:∀a∈l,a.size≤1000000):EE line:=by
 refine FN (Apv hsp hz hs) (AnZ hsp hz hs) fun hb=>⟨?_,rfl,rfl,rfl⟩
 rw [hsp]
 rcases l with _|⟨a,_|⟨b,_|⟨c,_|⟨d,_|⟨e,_|⟨u,l⟩⟩⟩⟩⟩⟩
 ·simp [okF] at hb
 ·simp [okF] at hb
 ·simp [okF] at hb
 ·simp [okF] at hb
 ·simp [okF] at hb
 ·exact AhQ hb
 ·simp [okF] at hb
theorem AjP {r:Ba}(h:Sm r):Et r 4=some ((⟨4,(wrd r),(Ee (wrd (nxt .m r))),((placeOf (wrd (nxt .i (nxt .m r)))).getD Ae),0,(Ea (wrd (nxt .p (nxt .i (nxt .m r))))).1,AZ,Dq⟩:AV),CP [.m,.i,.p,.q] r):=by
 unfold Et
 rw [if_neg (by decide),if_neg (by decide)]
 rw [Hg,Option.bind_some]
 dsimp only
 rw [if_neg (by decide)]
 rw [if_neg (by decide)]
 rw [if_pos (by decide)]
 rw [PO,Option.bind_some]
 dsimp only
 rw [Hw ((h.nxt .m).nxt .i),Option.bind_some]
 dsimp only
 rw [text_eq (((h.nxt .m).nxt .i).nxt .p),Option.bind_some]
 dsimp only
 rfl
noncomputable abbrev UO (l:List ByteArray):Au:=(⟨1,(AU (wrd ⟨l,false⟩)).1,0,0,0,0,0,(⟨4,(wrd (nxt .n ⟨l,false⟩)),(Ee (wrd (nxt .m (nxt .n ⟨l,false⟩)))),((placeOf (wrd (nxt .i (nxt .m (nxt .n ⟨l,false⟩))))).getD Ae),0,(Ea (wrd (nxt .p (nxt .i (nxt .m (nxt .n ⟨l,false⟩)))))).1,AZ,Dq⟩:AV)⟩:Au)
theorem AeG (hsp:splitB line 0=IX::l)(hz:line.size≤1000000)(hs:∀a∈l,a.size≤1000000):BO line=some (if good (CP [.n,.m,.i,.p,.q] ⟨l,false⟩)=true then (UO l,0) else (Bg,4)):=by
 have h:Sm ⟨l,false⟩:=hs
 unfold BO
 rw [AA hz,hsp,Dh,Option.bind_some]
 dsimp only
 rw [AmY,Option.bind_some,if_pos (by decide),EH h,Option.bind_some]
 dsimp only
 rw [AjP (h.nxt .n),Option.bind_some]
 exact Fj
theorem Akv (hsp:splitB line 0=IX::l)(hz:line.size≤1000000)(hs:∀a∈l,a.size≤1000000):∃z,BM line=some (z,okF [.n,.m,.i,.p,.q] l)∧(okF [.n,.m,.i,.p,.q] l=false→z=Bg)∧(okF [.n,.m,.i,.p,.q] l=true→z=UO l):=by
 obtain ⟨g,h1,h2⟩:=D8 l (⟨#[119,99,105,112,113]⟩:ByteArray) (by decide) hs
 rw [show CS (⟨#[119,99,105,112,113]⟩:ByteArray)= [.n,.m,.i,.p,.q] from by kernel_rfl] at h1 h2
 unfold BM
 rw [AA hz,hsp,DI,Option.bind_some,Afq,Option.bind_some,if_pos (by decide),DT,Option.bind_some]
 unfold Gh Gs
 rw [if_neg (by decide),show idx CX 4=some (⟨IX,(⟨#[119,99,105,112,113]⟩:ByteArray)⟩:Bd) from rfl,Option.bind_some]
 dsimp only
 rw [h1,Option.bind_some]
 cases hb:okF [.n,.m,.i,.p,.q] l with
 |false=>exact ⟨Bg,by dsimp only;rw [if_pos (by decide),Option.bind_some];rfl,fun _=>rfl,fun h=>by cases h⟩
 |true=>
  obtain rfl:=h2 hb
  rcases l with _|⟨a,_|⟨b,_|⟨c,_|⟨d,_|⟨e,_|⟨u,l⟩⟩⟩⟩⟩⟩
  ·simp [okF] at hb
  ·simp [okF] at hb
  ·simp [okF] at hb
  ·simp [okF] at hb
  ·simp [okF] at hb
  ·refine ⟨_,by dsimp only;rw [if_neg (by decide)];simp [DN,Dp,idx,F7,EY,D5,Cj];rfl,fun h=>(by cases h),fun _=>?_⟩
   have hq:okK .q e=true:=by simp only [okF,Bool.and_true,Bool.and_eq_true] at hb;exact hb.2.2.2.2
   simp [UO,wrd,nxt,OT hq]
  ·simp [okF] at hb
theorem Ama {a b c d e:ByteArray}(hb:okF [.n,.m,.i,.p,.q] [a,b,c,d,e] = true):Cc (⟨1,(AU a).1,0,0,0,0,0,(⟨4,b,(Ee c),((placeOf d).getD Ae),0,(Ea e).1,AZ,Dq⟩:AV)⟩:Au)=some (IX :: [a,b,c,d,e]):=by
 simp only [okF,Bool.and_true,Bool.and_eq_true] at hb
 obtain ⟨qa,qb,qc,qd,qe⟩:=hb
 unfold Cc Gj
 simp [Aeu,BD,AA (BA qa).2,(BA qa).1,PN qc,Jk qd,P5 qe]
theorem AjN (hsp:splitB line 0=IX::l)(hz:line.size≤1000000)(hs:∀a∈l,a.size≤1000000):EE line:=by
 refine FN (AeG hsp hz hs) (Akv hsp hz hs) fun hb=>⟨?_,rfl,rfl,rfl⟩
 rw [hsp]
 rcases l with _|⟨a,_|⟨b,_|⟨c,_|⟨d,_|⟨e,_|⟨u,l⟩⟩⟩⟩⟩⟩
 ·simp [okF] at hb
 ·simp [okF] at hb
 ·simp [okF] at hb
 ·simp [okF] at hb
 ·simp [okF] at hb
 ·exact Ama hb
 ·simp [okF] at hb
theorem AjO {r:Ba}(h:Sm r):Et r 5=some ((⟨5,(wrd r),(Ee (wrd (nxt .m r))),((placeOf (wrd (nxt .i (nxt .m r)))).getD Ae),0,(Ea (wrd (nxt .p (nxt .i (nxt .m r))))).1,AZ,Dq⟩:AV),CP [.m,.i,.p,.q] r):=by
 unfold Et
 rw [if_neg (by decide),if_neg (by decide)]
 rw [Hg,Option.bind_some]
 dsimp only
 rw [if_neg (by decide)]
 rw [if_neg (by decide)]
 rw [if_pos (by decide)]
 rw [PO,Option.bind_some]
 dsimp only
 rw [Hw ((h.nxt .m).nxt .i),Option.bind_some]
 dsimp only
 rw [text_eq (((h.nxt .m).nxt .i).nxt .p),Option.bind_some]
 dsimp only
 rfl
noncomputable abbrev UN (l:List ByteArray):Au:=(⟨1,(AU (wrd ⟨l,false⟩)).1,0,0,0,0,0,(⟨5,(wrd (nxt .n ⟨l,false⟩)),(Ee (wrd (nxt .m (nxt .n ⟨l,false⟩)))),((placeOf (wrd (nxt .i (nxt .m (nxt .n ⟨l,false⟩))))).getD Ae),0,(Ea (wrd (nxt .p (nxt .i (nxt .m (nxt .n ⟨l,false⟩)))))).1,AZ,Dq⟩:AV)⟩:Au)
theorem AoP (hsp:splitB line 0=IQ::l)(hz:line.size≤1000000)(hs:∀a∈l,a.size≤1000000):BO line=some (if good (CP [.n,.m,.i,.p,.q] ⟨l,false⟩)=true then (UN l,0) else (Bg,4)):=by
 have h:Sm ⟨l,false⟩:=hs
 unfold BO
 rw [AA hz,hsp,Dh,Option.bind_some]
 dsimp only
 rw [AvI,Option.bind_some,if_pos (by decide),EH h,Option.bind_some]
 dsimp only
 rw [AjO (h.nxt .n),Option.bind_some]
 exact Fj
theorem AhC (hsp:splitB line 0=IQ::l)(hz:line.size≤1000000)(hs:∀a∈l,a.size≤1000000):∃z,BM line=some (z,okF [.n,.m,.i,.p,.q] l)∧(okF [.n,.m,.i,.p,.q] l=false→z=Bg)∧(okF [.n,.m,.i,.p,.q] l=true→z=UN l):=by
 obtain ⟨g,h1,h2⟩:=D8 l (⟨#[119,99,105,112,113]⟩:ByteArray) (by decide) hs
 rw [show CS (⟨#[119,99,105,112,113]⟩:ByteArray)= [.n,.m,.i,.p,.q] from by kernel_rfl] at h1 h2
 unfold BM
 rw [AA hz,hsp,DI,Option.bind_some,Ahe,Option.bind_some,if_pos (by decide),DT,Option.bind_some]
 unfold Gh Gs
 rw [if_neg (by decide),show idx CX 5=some (⟨IQ,(⟨#[119,99,105,112,113]⟩:ByteArray)⟩:Bd) from rfl,Option.bind_some]
 dsimp only
 rw [h1,Option.bind_some]
 cases hb:okF [.n,.m,.i,.p,.q] l with
 |false=>exact ⟨Bg,by dsimp only;rw [if_pos (by decide),Option.bind_some];rfl,fun _=>rfl,fun h=>by cases h⟩
 |true=>
  obtain rfl:=h2 hb
  rcases l with _|⟨a,_|⟨b,_|⟨c,_|⟨d,_|⟨e,_|⟨u,l⟩⟩⟩⟩⟩⟩
  ·simp [okF] at hb
  ·simp [okF] at hb
  ·simp [okF] at hb
  ·simp [okF] at hb
  ·simp [okF] at hb
  ·refine ⟨_,by dsimp only;rw [if_neg (by decide)];simp [DN,Dp,idx,F7,EY,D5,Cj];rfl,fun h=>(by cases h),fun _=>?_⟩
   have hq:okK .q e=true:=by simp only [okF,Bool.and_true,Bool.and_eq_true] at hb;exact hb.2.2.2.2
   simp [UN,wrd,nxt,OT hq]
  ·simp [okF] at hb
theorem Akw {a b c d e:ByteArray}(hb:okF [.n,.m,.i,.p,.q] [a,b,c,d,e] = true):Cc (⟨1,(AU a).1,0,0,0,0,0,(⟨5,b,(Ee c),((placeOf d).getD Ae),0,(Ea e).1,AZ,Dq⟩:AV)⟩:Au)=some (IQ :: [a,b,c,d,e]):=by
 simp only [okF,Bool.and_true,Bool.and_eq_true] at hb
 obtain ⟨qa,qb,qc,qd,qe⟩:=hb
 unfold Cc Gj
 simp [Aqo,BD,AA (BA qa).2,(BA qa).1,PN qc,Jk qd,P5 qe]
theorem Ahb (hsp:splitB line 0=IQ::l)(hz:line.size≤1000000)(hs:∀a∈l,a.size≤1000000):EE line:=by
 refine FN (AoP hsp hz hs) (AhC hsp hz hs) fun hb=>⟨?_,rfl,rfl,rfl⟩
 rw [hsp]
 rcases l with _|⟨a,_|⟨b,_|⟨c,_|⟨d,_|⟨e,_|⟨u,l⟩⟩⟩⟩⟩⟩
 ·simp [okF] at hb
 ·simp [okF] at hb
 ·simp [okF] at hb
 ·simp [okF] at hb
 ·simp [okF] at hb
 ·exact Akw hb
 ·simp [okF] at hb
theorem AeN {r:Ba}(h:Sm r):Et r 6=some ((⟨6,(wrd r),(Ee (wrd (nxt .m r))),((placeOf (wrd (nxt .i (nxt .m r)))).getD Ae),0,(Ea (wrd (nxt .p (nxt .i (nxt .m r))))).1,AZ,Dq⟩:AV),CP [.m,.i,.p,.q] r):=by
 unfold Et
 rw [if_neg (by decide),if_neg (by decide)]
 rw [Hg,Option.bind_some]
 dsimp only
 rw [if_neg (by decide)]
 rw [if_neg (by decide)]
 rw [if_pos (by decide)]
 rw [PO,Option.bind_some]
 dsimp only
 rw [Hw ((h.nxt .m).nxt .i),Option.bind_some]
 dsimp only
 rw [text_eq (((h.nxt .m).nxt .i).nxt .p),Option.bind_some]
 dsimp only
 rfl
noncomputable abbrev VW (l:List ByteArray):Au:=(⟨1,(AU (wrd ⟨l,false⟩)).1,0,0,0,0,0,(⟨6,(wrd (nxt .n ⟨l,false⟩)),(Ee (wrd (nxt .m (nxt .n ⟨l,false⟩)))),((placeOf (wrd (nxt .i (nxt .m (nxt .n ⟨l,false⟩))))).getD Ae),0,(Ea (wrd (nxt .p (nxt .i (nxt .m (nxt .n ⟨l,false⟩)))))).1,AZ,Dq⟩:AV)⟩:Au)
theorem Ag0 (hsp:splitB line 0=IY::l)(hz:line.size≤1000000)(hs:∀a∈l,a.size≤1000000):BO line=some (if good (CP [.n,.m,.i,.p,.q] ⟨l,false⟩)=true then (VW l,0) else (Bg,4)):=by
 have h:Sm ⟨l,false⟩:=hs
 unfold BO
 rw [AA hz,hsp,Dh,Option.bind_some]
 dsimp only
 rw [ArU,Option.bind_some,if_pos (by decide),EH h,Option.bind_some]
 dsimp only
 rw [AeN (h.nxt .n),Option.bind_some]
 exact Fj
theorem AhI (hsp:splitB line 0=IY::l)(hz:line.size≤1000000)(hs:∀a∈l,a.size≤1000000):∃z,BM line=some (z,okF [.n,.m,.i,.p,.q] l)∧(okF [.n,.m,.i,.p,.q] l=false→z=Bg)∧(okF [.n,.m,.i,.p,.q] l=true→z=VW l):=by
 obtain ⟨g,h1,h2⟩:=D8 l (⟨#[119,99,105,112,113]⟩:ByteArray) (by decide) hs
 rw [show CS (⟨#[119,99,105,112,113]⟩:ByteArray)= [.n,.m,.i,.p,.q] from by kernel_rfl] at h1 h2
 unfold BM
 rw [AA hz,hsp,DI,Option.bind_some,AeC,Option.bind_some,if_pos (by decide),DT,Option.bind_some]
 unfold Gh Gs
 rw [if_neg (by decide),show idx CX 6=some (⟨IY,(⟨#[119,99,105,112,113]⟩:ByteArray)⟩:Bd) from rfl,Option.bind_some]
 dsimp only
 rw [h1,Option.bind_some]
 cases hb:okF [.n,.m,.i,.p,.q] l with
 |false=>exact ⟨Bg,by dsimp only;rw [if_pos (by decide),Option.bind_some];rfl,fun _=>rfl,fun h=>by cases h⟩
 |true=>
  obtain rfl:=h2 hb
  rcases l with _|⟨a,_|⟨b,_|⟨c,_|⟨d,_|⟨e,_|⟨u,l⟩⟩⟩⟩⟩⟩
  ·simp [okF] at hb
  ·simp [okF] at hb
  ·simp [okF] at hb
  ·simp [okF] at hb
  ·simp [okF] at hb
  ·refine ⟨_,by dsimp only;rw [if_neg (by decide)];simp [DN,Dp,idx,F7,EY,D5,Cj];rfl,fun h=>(by cases h),fun _=>?_⟩
   have hq:okK .q e=true:=by simp only [okF,Bool.and_true,Bool.and_eq_true] at hb;exact hb.2.2.2.2
   simp [VW,wrd,nxt,OT hq]
  ·simp [okF] at hb
theorem As0 {a b c d e:ByteArray}(hb:okF [.n,.m,.i,.p,.q] [a,b,c,d,e] = true):Cc (⟨1,(AU a).1,0,0,0,0,0,(⟨6,b,(Ee c),((placeOf d).getD Ae),0,(Ea e).1,AZ,Dq⟩:AV)⟩:Au)=some (IY :: [a,b,c,d,e]):=by
 simp only [okF,Bool.and_true,Bool.and_eq_true] at hb
 obtain ⟨qa,qb,qc,qd,qe⟩:=hb
 unfold Cc Gj
 simp [Aln,BD,AA (BA qa).2,(BA qa).1,PN qc,Jk qd,P5 qe]
theorem Atz (hsp:splitB line 0=IY::l)(hz:line.size≤1000000)(hs:∀a∈l,a.size≤1000000):EE line:=by
 refine FN (Ag0 hsp hz hs) (AhI hsp hz hs) fun hb=>⟨?_,rfl,rfl,rfl⟩
 rw [hsp]
 rcases l with _|⟨a,_|⟨b,_|⟨c,_|⟨d,_|⟨e,_|⟨u,l⟩⟩⟩⟩⟩⟩
 ·simp [okF] at hb
 ·simp [okF] at hb
 ·simp [okF] at hb
 ·simp [okF] at hb
 ·simp [okF] at hb
 ·exact As0 hb
 ·simp [okF] at hb
theorem AgM {r:Ba}(h:Sm r):Et r 7=some ((⟨7,(wrd r),noB,Ae,0,noB,AZ,Dq⟩:AV),CP [.m] r):=by
 unfold Et
 rw [if_neg (by decide),if_neg (by decide)]
 rw [Hg,Option.bind_some]
 dsimp only
 rw [if_neg (by decide)]
 rw [if_neg (by decide)]
 rw [if_neg (by decide)]
 rw [if_neg (by decide)]
 rfl
noncomputable abbrev Aaf (l:List ByteArray):Au:=(⟨1,(AU (wrd ⟨l,false⟩)).1,0,0,0,0,0,(⟨7,(wrd (nxt .n ⟨l,false⟩)),noB,Ae,0,noB,AZ,Dq⟩:AV)⟩:Au)
theorem AmE (hsp:splitB line 0=Jd::l)(hz:line.size≤1000000)(hs:∀a∈l,a.size≤1000000):BO line=some (if good (CP [.n,.m] ⟨l,false⟩)=true then (Aaf l,0) else (Bg,4)):=by
 have h:Sm ⟨l,false⟩:=hs
 unfold BO
 rw [AA hz,hsp,Dh,Option.bind_some]
 dsimp only
 rw [Avj,Option.bind_some,if_pos (by decide),EH h,Option.bind_some]
 dsimp only
 rw [AgM (h.nxt .n),Option.bind_some]
 exact Fj
theorem AeD (hsp:splitB line 0=Jd::l)(hz:line.size≤1000000)(hs:∀a∈l,a.size≤1000000):∃z,BM line=some (z,okF [.n,.m] l)∧(okF [.n,.m] l=false→z=Bg)∧(okF [.n,.m] l=true→z=Aaf l):=by
 obtain ⟨g,h1,h2⟩:=D8 l (⟨#[119,99]⟩:ByteArray) (by decide) hs
 rw [show CS (⟨#[119,99]⟩:ByteArray)= [.n,.m] from by kernel_rfl] at h1 h2
 unfold BM
 rw [AA hz,hsp,DI,Option.bind_some,Ao3,Option.bind_some,if_pos (by decide),DT,Option.bind_some]
 unfold Gh Gs
 rw [if_neg (by decide),show idx CX 7=some (⟨Jd,(⟨#[119,99]⟩:ByteArray)⟩:Bd) from rfl,Option.bind_some]
 dsimp only
 rw [h1,Option.bind_some]
 cases hb:okF [.n,.m] l with
 |false=>exact ⟨Bg,by dsimp only;rw [if_pos (by decide),Option.bind_some];rfl,fun _=>rfl,fun h=>by cases h⟩
 |true=>
  obtain rfl:=h2 hb
  rcases l with _|⟨a,_|⟨b,_|⟨u,l⟩⟩⟩
  ·simp [okF] at hb
  ·simp [okF] at hb
  ·refine ⟨_,by dsimp only;rw [if_neg (by decide)];simp [DN,Dp,idx,F7,EY,D5,Cj];rfl,fun h=>(by cases h),fun _=>?_⟩
   first|rfl|simp [wrd,nxt]
  ·simp [okF] at hb
theorem AeE {a b:ByteArray}(hb:okF [.n,.m] [a,b] = true):Cc (⟨1,(AU a).1,0,0,0,0,0,(⟨7,b,noB,Ae,0,noB,AZ,Dq⟩:AV)⟩:Au)=some (Jd :: [a,b]):=by
 simp only [okF,Bool.and_true,Bool.and_eq_true] at hb
 obtain ⟨qa,qb⟩:=hb
 unfold Cc Gj
 simp [Akc,BD,AA (BA qa).2,(BA qa).1]
theorem Aez (hsp:splitB line 0=Jd::l)(hz:line.size≤1000000)(hs:∀a∈l,a.size≤1000000):EE line:=by
 refine FN (AmE hsp hz hs) (AeD hsp hz hs) fun hb=>⟨?_,rfl,rfl,rfl⟩
 rw [hsp]
 rcases l with _|⟨a,_|⟨b,_|⟨u,l⟩⟩⟩
 ·simp [okF] at hb
 ·simp [okF] at hb
 ·exact AeE hb
 ·simp [okF] at hb
theorem Anz {r:Ba}(h:Sm r):Et r 9=some ((⟨9,noB,noB,Ae,0,noB,((C9 (wrd r)).getD AZ),Dq⟩:AV),CP [.t] r):=by
 unfold Et
 rw [if_neg (by decide),if_pos rfl]
 rw [SS h,Option.bind_some]
 rfl
noncomputable abbrev AaK (l:List ByteArray):Au:=(⟨1,(AU (wrd ⟨l,false⟩)).1,0,0,0,0,0,(⟨9,noB,noB,Ae,0,noB,((C9 (wrd (nxt .n ⟨l,false⟩))).getD AZ),Dq⟩:AV)⟩:Au)
theorem AkT (hsp:splitB line 0=IP::l)(hz:line.size≤1000000)(hs:∀a∈l,a.size≤1000000):BO line=some (if good (CP [.n,.t] ⟨l,false⟩)=true then (AaK l,0) else (Bg,4)):=by
 have h:Sm ⟨l,false⟩:=hs
 unfold BO
 rw [AA hz,hsp,Dh,Option.bind_some]
 dsimp only
 rw [Aku,Option.bind_some,if_pos (by decide),EH h,Option.bind_some]
 dsimp only
 rw [Anz (h.nxt .n),Option.bind_some]
 exact Fj
theorem Agu (hsp:splitB line 0=IP::l)(hz:line.size≤1000000)(hs:∀a∈l,a.size≤1000000):∃z,BM line=some (z,okF [.n,.t] l)∧(okF [.n,.t] l=false→z=Bg)∧(okF [.n,.t] l=true→z=AaK l):=by
 obtain ⟨g,h1,h2⟩:=D8 l (⟨#[119,116]⟩:ByteArray) (by decide) hs
 rw [show CS (⟨#[119,116]⟩:ByteArray)= [.n,.t] from by kernel_rfl] at h1 h2
 unfold BM
 rw [AA hz,hsp,DI,Option.bind_some,Auc,Option.bind_some,if_pos (by decide),DT,Option.bind_some]
 unfold Gh Gs
 rw [if_neg (by decide),show idx CX 9=some (⟨IP,(⟨#[119,116]⟩:ByteArray)⟩:Bd) from rfl,Option.bind_some]
 dsimp only
 rw [h1,Option.bind_some]
 cases hb:okF [.n,.t] l with
 |false=>exact ⟨Bg,by dsimp only;rw [if_pos (by decide),Option.bind_some];rfl,fun _=>rfl,fun h=>by cases h⟩
 |true=>
  obtain rfl:=h2 hb
  rcases l with _|⟨a,_|⟨b,_|⟨u,l⟩⟩⟩
  ·simp [okF] at hb
  ·simp [okF] at hb
  ·refine ⟨_,by dsimp only;rw [if_neg (by decide)];simp [DN,Dp,idx,F7,EY,D5,Cj];rfl,fun h=>(by cases h),fun _=>?_⟩
   first|rfl|simp [wrd,nxt]
  ·simp [okF] at hb
theorem Aib {a b:ByteArray}(hb:okF [.n,.t] [a,b] = true):Cc (⟨1,(AU a).1,0,0,0,0,0,(⟨9,noB,noB,Ae,0,noB,((C9 b).getD AZ),Dq⟩:AV)⟩:Au)=some (IP :: [a,b]):=by
 simp only [okF,Bool.and_true,Bool.and_eq_true] at hb
 obtain ⟨qa,qb⟩:=hb
 unfold Cc Gj
 simp [AiL,BD,AA (BA qa).2,(BA qa).1,AA (MJ qb).1,(MJ qb).2]
theorem AsB (hsp:splitB line 0=IP::l)(hz:line.size≤1000000)(hs:∀a∈l,a.size≤1000000):EE line:=by
 refine FN (AkT hsp hz hs) (Agu hsp hz hs) fun hb=>⟨?_,rfl,rfl,rfl⟩
 rw [hsp]
 rcases l with _|⟨a,_|⟨b,_|⟨u,l⟩⟩⟩
 ·simp [okF] at hb
 ·simp [okF] at hb
 ·exact Aib hb
 ·simp [okF] at hb
theorem Aqh {r:Ba}(h:Sm r):Et r 10=some ((⟨10,(wrd r),noB,Ae,0,noB,AZ,Dq⟩:AV),CP [.m] r):=by
 unfold Et
 rw [if_neg (by decide),if_neg (by decide)]
 rw [Hg,Option.bind_some]
 dsimp only
 rw [if_neg (by decide)]
 rw [if_neg (by decide)]
 rw [if_neg (by decide)]
 rw [if_neg (by decide)]
 rfl
noncomputable abbrev Zh (l:List ByteArray):Au:=(⟨1,(AU (wrd ⟨l,false⟩)).1,0,0,0,0,0,(⟨10,(wrd (nxt .n ⟨l,false⟩)),noB,Ae,0,noB,AZ,Dq⟩:AV)⟩:Au)
theorem AkV (hsp:splitB line 0=Jg::l)(hz:line.size≤1000000)(hs:∀a∈l,a.size≤1000000):BO line=some (if good (CP [.n,.m] ⟨l,false⟩)=true then (Zh l,0) else (Bg,4)):=by
 have h:Sm ⟨l,false⟩:=hs
 unfold BO
 rw [AA hz,hsp,Dh,Option.bind_some]
 dsimp only
 rw [AvR,Option.bind_some,if_pos (by decide),EH h,Option.bind_some]
 dsimp only
 rw [Aqh (h.nxt .n),Option.bind_some]
 exact Fj
theorem Ahm (hsp:splitB line 0=Jg::l)(hz:line.size≤1000000)(hs:∀a∈l,a.size≤1000000):∃z,BM line=some (z,okF [.n,.m] l)∧(okF [.n,.m] l=false→z=Bg)∧(okF [.n,.m] l=true→z=Zh l):=by
 obtain ⟨g,h1,h2⟩:=D8 l (⟨#[119,99]⟩:ByteArray) (by decide) hs
 rw [show CS (⟨#[119,99]⟩:ByteArray)= [.n,.m] from by kernel_rfl] at h1 h2
 unfold BM
 rw [AA hz,hsp,DI,Option.bind_some,Aoq,Option.bind_some,if_pos (by decide),DT,Option.bind_some]
 unfold Gh Gs
 rw [if_neg (by decide),show idx CX 10=some (⟨Jg,(⟨#[119,99]⟩:ByteArray)⟩:Bd) from rfl,Option.bind_some]
 dsimp only
 rw [h1,Option.bind_some]
 cases hb:okF [.n,.m] l with
 |false=>exact ⟨Bg,by dsimp only;rw [if_pos (by decide),Option.bind_some];rfl,fun _=>rfl,fun h=>by cases h⟩
 |true=>
  obtain rfl:=h2 hb
  rcases l with _|⟨a,_|⟨b,_|⟨u,l⟩⟩⟩
  ·simp [okF] at hb
  ·simp [okF] at hb
  ·refine ⟨_,by dsimp only;rw [if_neg (by decide)];simp [DN,Dp,idx,F7,EY,D5,Cj];rfl,fun h=>(by cases h),fun _=>?_⟩
   first|rfl|simp [wrd,nxt]
  ·simp [okF] at hb
theorem AiQ {a b:ByteArray}(hb:okF [.n,.m] [a,b] = true):Cc (⟨1,(AU a).1,0,0,0,0,0,(⟨10,b,noB,Ae,0,noB,AZ,Dq⟩:AV)⟩:Au)=some (Jg :: [a,b]):=by
 simp only [okF,Bool.and_true,Bool.and_eq_true] at hb
 obtain ⟨qa,qb⟩:=hb
 unfold Cc Gj
 simp [AiY,BD,AA (BA qa).2,(BA qa).1]
theorem Ar0 (hsp:splitB line 0=Jg::l)(hz:line.size≤1000000)(hs:∀a∈l,a.size≤1000000):EE line:=by
 refine FN (AkV hsp hz hs) (Ahm hsp hz hs) fun hb=>⟨?_,rfl,rfl,rfl⟩
 rw [hsp]
 rcases l with _|⟨a,_|⟨b,_|⟨u,l⟩⟩⟩
 ·simp [okF] at hb
 ·simp [okF] at hb
 ·exact AiQ hb
 ·simp [okF] at hb
theorem AtT {r:Ba}(h:Sm r):Et r 11=some ((⟨11,(wrd r),noB,Ae,0,noB,((C9 (wrd (nxt .m r))).getD AZ),Dq⟩:AV),CP [.m,.t] r):=by
 unfold Et
 rw [if_neg (by decide),if_neg (by decide)]
 rw [Hg,Option.bind_some]
 dsimp only
 rw [if_neg (by decide)]
 rw [if_neg (by decide)]
 rw [if_neg (by decide)]
 rw [if_pos (by decide)]
 rw [SS (h.nxt .m),Option.bind_some]
 dsimp only
 rfl
noncomputable abbrev AcZ (l:List ByteArray):Au:=(⟨1,(AU (wrd ⟨l,false⟩)).1,0,0,0,0,0,(⟨11,(wrd (nxt .n ⟨l,false⟩)),noB,Ae,0,noB,((C9 (wrd (nxt .m (nxt .n ⟨l,false⟩)))).getD AZ),Dq⟩:AV)⟩:Au)
theorem Aft (hsp:splitB line 0=IU::l)(hz:line.size≤1000000)(hs:∀a∈l,a.size≤1000000):BO line=some (if good (CP [.n,.m,.t] ⟨l,false⟩)=true then (AcZ l,0) else (Bg,4)):=by
 have h:Sm ⟨l,false⟩:=hs
 unfold BO
 rw [AA hz,hsp,Dh,Option.bind_some]
 dsimp only
 rw [AqD,Option.bind_some,if_pos (by decide),EH h,Option.bind_some]
 dsimp only
 rw [AtT (h.nxt .n),Option.bind_some]
 exact Fj
theorem AuU (hsp:splitB line 0=IU::l)(hz:line.size≤1000000)(hs:∀a∈l,a.size≤1000000):∃z,BM line=some (z,okF [.n,.m,.t] l)∧(okF [.n,.m,.t] l=false→z=Bg)∧(okF [.n,.m,.t] l=true→z=AcZ l):=by
 obtain ⟨g,h1,h2⟩:=D8 l (⟨#[119,99,116]⟩:ByteArray) (by decide) hs
 rw [show CS (⟨#[119,99,116]⟩:ByteArray)= [.n,.m,.t] from by kernel_rfl] at h1 h2
 unfold BM
 rw [AA hz,hsp,DI,Option.bind_some,At7,Option.bind_some,if_pos (by decide),DT,Option.bind_some]
 unfold Gh Gs
 rw [if_neg (by decide),show idx CX 11=some (⟨IU,(⟨#[119,99,116]⟩:ByteArray)⟩:Bd) from rfl,Option.bind_some]
 dsimp only
 rw [h1,Option.bind_some]
 cases hb:okF [.n,.m,.t] l with
 |false=>exact ⟨Bg,by dsimp only;rw [if_pos (by decide),Option.bind_some];rfl,fun _=>rfl,fun h=>by cases h⟩
 |true=>
  obtain rfl:=h2 hb
  rcases l with _|⟨a,_|⟨b,_|⟨c,_|⟨u,l⟩⟩⟩⟩
  ·simp [okF] at hb
  ·simp [okF] at hb
  ·simp [okF] at hb
  ·refine ⟨_,by dsimp only;rw [if_neg (by decide)];simp [DN,Dp,idx,F7,EY,D5,Cj];rfl,fun h=>(by cases h),fun _=>?_⟩
   first|rfl|simp [wrd,nxt]
  ·simp [okF] at hb
theorem Ava {a b c:ByteArray}(hb:okF [.n,.m,.t] [a,b,c] = true):Cc (⟨1,(AU a).1,0,0,0,0,0,(⟨11,b,noB,Ae,0,noB,((C9 c).getD AZ),Dq⟩:AV)⟩:Au)=some (IU :: [a,b,c]):=by
 simp only [okF,Bool.and_true,Bool.and_eq_true] at hb
 obtain ⟨qa,qb,qc⟩:=hb
 unfold Cc Gj
 simp [Aqx,BD,AA (BA qa).2,(BA qa).1,AA (MJ qc).1,(MJ qc).2]
theorem AuH (hsp:splitB line 0=IU::l)(hz:line.size≤1000000)(hs:∀a∈l,a.size≤1000000):EE line:=by
 refine FN (Aft hsp hz hs) (AuU hsp hz hs) fun hb=>⟨?_,rfl,rfl,rfl⟩
 rw [hsp]
 rcases l with _|⟨a,_|⟨b,_|⟨c,_|⟨u,l⟩⟩⟩⟩
 ·simp [okF] at hb
 ·simp [okF] at hb
 ·simp [okF] at hb
 ·exact Ava hb
 ·simp [okF] at hb
theorem Aou {r:Ba}(h:Sm r):Et r 12=some ((⟨12,(wrd r),noB,Ae,0,noB,((C9 (wrd (nxt .m r))).getD AZ),Dq⟩:AV),CP [.m,.t] r):=by
 unfold Et
 rw [if_neg (by decide),if_neg (by decide)]
 rw [Hg,Option.bind_some]
 dsimp only
 rw [if_neg (by decide)]
 rw [if_neg (by decide)]
 rw [if_neg (by decide)]
 rw [if_pos (by decide)]
 rw [SS (h.nxt .m),Option.bind_some]
 dsimp only
 rfl
noncomputable abbrev Ad6 (l:List ByteArray):Au:=(⟨1,(AU (wrd ⟨l,false⟩)).1,0,0,0,0,0,(⟨12,(wrd (nxt .n ⟨l,false⟩)),noB,Ae,0,noB,((C9 (wrd (nxt .m (nxt .n ⟨l,false⟩)))).getD AZ),Dq⟩:AV)⟩:Au)
theorem AoE (hsp:splitB line 0=I8::l)(hz:line.size≤1000000)(hs:∀a∈l,a.size≤1000000):BO line=some (if good (CP [.n,.m,.t] ⟨l,false⟩)=true then (Ad6 l,0) else (Bg,4)):=by
 have h:Sm ⟨l,false⟩:=hs
 unfold BO
 rw [AA hz,hsp,Dh,Option.bind_some]
 dsimp only
 rw [Agx,Option.bind_some,if_pos (by decide),EH h,Option.bind_some]
 dsimp only
 rw [Aou (h.nxt .n),Option.bind_some]
 exact Fj
theorem Ae6 (hsp:splitB line 0=I8::l)(hz:line.size≤1000000)(hs:∀a∈l,a.size≤1000000):∃z,BM line=some (z,okF [.n,.m,.t] l)∧(okF [.n,.m,.t] l=false→z=Bg)∧(okF [.n,.m,.t] l=true→z=Ad6 l):=by
 obtain ⟨g,h1,h2⟩:=D8 l (⟨#[119,99,116]⟩:ByteArray) (by decide) hs
 rw [show CS (⟨#[119,99,116]⟩:ByteArray)= [.n,.m,.t] from by kernel_rfl] at h1 h2
 unfold BM
 rw [AA hz,hsp,DI,Option.bind_some,Aka,Option.bind_some,if_pos (by decide),DT,Option.bind_some]
 unfold Gh Gs
 rw [if_neg (by decide),show idx CX 12=some (⟨I8,(⟨#[119,99,116]⟩:ByteArray)⟩:Bd) from rfl,Option.bind_some]
 dsimp only
 rw [h1,Option.bind_some]
 cases hb:okF [.n,.m,.t] l with
 |false=>exact ⟨Bg,by dsimp only;rw [if_pos (by decide),Option.bind_some];rfl,fun _=>rfl,fun h=>by cases h⟩
 |true=>
  obtain rfl:=h2 hb
  rcases l with _|⟨a,_|⟨b,_|⟨c,_|⟨u,l⟩⟩⟩⟩
  ·simp [okF] at hb
  ·simp [okF] at hb
  ·simp [okF] at hb
  ·refine ⟨_,by dsimp only;rw [if_neg (by decide)];simp [DN,Dp,idx,F7,EY,D5,Cj];rfl,fun h=>(by cases h),fun _=>?_⟩
   first|rfl|simp [wrd,nxt]
  ·simp [okF] at hb
theorem Afs {a b c:ByteArray}(hb:okF [.n,.m,.t] [a,b,c] = true):Cc (⟨1,(AU a).1,0,0,0,0,0,(⟨12,b,noB,Ae,0,noB,((C9 c).getD AZ),Dq⟩:AV)⟩:Au)=some (I8 :: [a,b,c]):=by
 simp only [okF,Bool.and_true,Bool.and_eq_true] at hb
 obtain ⟨qa,qb,qc⟩:=hb
 unfold Cc Gj
 simp [Asu,BD,AA (BA qa).2,(BA qa).1,AA (MJ qc).1,(MJ qc).2]
theorem Ag4 (hsp:splitB line 0=I8::l)(hz:line.size≤1000000)(hs:∀a∈l,a.size≤1000000):EE line:=by
 refine FN (AoE hsp hz hs) (Ae6 hsp hz hs) fun hb=>⟨?_,rfl,rfl,rfl⟩
 rw [hsp]
 rcases l with _|⟨a,_|⟨b,_|⟨c,_|⟨u,l⟩⟩⟩⟩
 ·simp [okF] at hb
 ·simp [okF] at hb
 ·simp [okF] at hb
 ·exact Afs hb
 ·simp [okF] at hb
noncomputable abbrev VJ (l:List ByteArray):Au:=(⟨2,(AU (wrd ⟨l,false⟩)).1,(AU (wrd (nxt .n ⟨l,false⟩))).1,0,0,0,0,FU⟩:Au)
theorem AtJ (hsp:splitB line 0=Ht::l)(hz:line.size≤1000000)(hs:∀a∈l,a.size≤1000000):BO line=some (if good (CP [.n,.n] ⟨l,false⟩)=true then (VJ l,0) else (Bg,4)):=by
 have h:Sm ⟨l,false⟩:=hs
 unfold BO
 rw [AA hz,hsp,Dh,Option.bind_some]
 dsimp only
 rw [Aq2,Option.bind_some,if_neg (by decide),AnG,Option.bind_some]
 rw [if_pos (by decide)]
 rw [EH h,Option.bind_some]
 dsimp only
 rw [EH (h.nxt .n),Option.bind_some]
 dsimp only
 exact Fj
theorem AtU (hsp:splitB line 0=Ht::l)(hz:line.size≤1000000)(hs:∀a∈l,a.size≤1000000):∃z,BM line=some (z,okF [.n,.n] l)∧(okF [.n,.n] l=false→z=Bg)∧(okF [.n,.n] l=true→z=VJ l):=by
 obtain ⟨g,h1,h2⟩:=D8 l (⟨#[119,119]⟩:ByteArray) (by decide) hs
 rw [show CS (⟨#[119,119]⟩:ByteArray)= [.n,.n] from by kernel_rfl] at h1 h2
 unfold BM
 rw [AA hz,hsp,DI,Option.bind_some,Alr,Option.bind_some,if_neg (by decide),Option.bind_some,Ar7,Option.bind_some,if_neg (by decide),DT,Option.bind_some,show idx En 2=some (⟨Ht,(⟨#[119,119]⟩:ByteArray)⟩:Bd) from rfl,Option.bind_some]
 dsimp only
 rw [h1,Option.bind_some]
 cases hb:okF [.n,.n] l with
 |false=>exact ⟨Bg,by dsimp only;rw [if_pos (by decide)],fun _=>rfl,fun h=>by cases h⟩
 |true=>
  obtain rfl:=h2 hb
  rcases l with _|⟨a,_|⟨b,_|⟨u,l⟩⟩⟩
  ·simp [okF] at hb
  ·simp [okF] at hb
  ·refine ⟨_,by dsimp only;rw [if_neg (by decide)];simp [DN,Dp,idx];rfl,fun h=>(by cases h),fun _=>?_⟩
   first|rfl|simp [VJ,wrd,nxt]
  ·simp [okF] at hb
theorem AhR {a b:ByteArray}(hb:okF [.n,.n] [a,b] = true):Cc (⟨2,(AU a).1,(AU b).1,0,0,0,0,FU⟩:Au)=some (Ht :: [a,b]):=by
 simp only [okF,Bool.and_true,Bool.and_eq_true] at hb
 obtain ⟨qa,qb⟩:=hb
 unfold Cc
 simp [Ahp,Ej,CQ,AA,BD,AA (BA qa).2,(BA qa).1,AA (BA qb).2,(BA qb).1]
theorem AqG (hsp:splitB line 0=Ht::l)(hz:line.size≤1000000)(hs:∀a∈l,a.size≤1000000):EE line:=by
 refine FN (AtJ hsp hz hs) (AtU hsp hz hs) fun hb=>⟨?_,rfl,rfl,rfl⟩
 rw [hsp]
 rcases l with _|⟨a,_|⟨b,_|⟨u,l⟩⟩⟩
 ·simp [okF] at hb
 ·simp [okF] at hb
 ·exact AhR hb
 ·simp [okF] at hb
noncomputable abbrev WC (l:List ByteArray):Au:=(⟨3,0,0,(AU (wrd ⟨l,false⟩)).1,0,0,0,FU⟩:Au)
theorem Akk (hsp:splitB line 0=Hr::l)(hz:line.size≤1000000)(hs:∀a∈l,a.size≤1000000):BO line=some (if good (CP [.n] ⟨l,false⟩)=true then (WC l,0) else (Bg,4)):=by
 have h:Sm ⟨l,false⟩:=hs
 unfold BO
 rw [AA hz,hsp,Dh,Option.bind_some]
 dsimp only
 rw [Ape,Option.bind_some,if_neg (by decide),ArS,Option.bind_some]
 rw [if_neg (by decide)]
 rw [if_pos (by decide)]
 rw [EH h,Option.bind_some]
 dsimp only
 exact Fj
theorem Anu (hsp:splitB line 0=Hr::l)(hz:line.size≤1000000)(hs:∀a∈l,a.size≤1000000):∃z,BM line=some (z,okF [.n] l)∧(okF [.n] l=false→z=Bg)∧(okF [.n] l=true→z=WC l):=by
 obtain ⟨g,h1,h2⟩:=D8 l (⟨#[110]⟩:ByteArray) (by decide) hs
 rw [show CS (⟨#[110]⟩:ByteArray)= [.n] from by kernel_rfl] at h1 h2
 unfold BM
 rw [AA hz,hsp,DI,Option.bind_some,AkU,Option.bind_some,if_neg (by decide),Option.bind_some,AlC,Option.bind_some,if_neg (by decide),DT,Option.bind_some,show idx En 3=some (⟨Hr,(⟨#[110]⟩:ByteArray)⟩:Bd) from rfl,Option.bind_some]
 dsimp only
 rw [h1,Option.bind_some]
 cases hb:okF [.n] l with
 |false=>exact ⟨Bg,by dsimp only;rw [if_pos (by decide)],fun _=>rfl,fun h=>by cases h⟩
 |true=>
  obtain rfl:=h2 hb
  rcases l with _|⟨a,_|⟨u,l⟩⟩
  ·simp [okF] at hb
  ·refine ⟨_,by dsimp only;rw [if_neg (by decide)];simp [DN,Dp,idx];rfl,fun h=>(by cases h),fun _=>?_⟩
   first|rfl|simp [WC,wrd,nxt]
  ·simp [okF] at hb
theorem Amg {a:ByteArray}(hb:okF [.n] [a] = true):Cc (⟨3,0,0,(AU a).1,0,0,0,FU⟩:Au)=some (Hr :: [a]):=by
 simp only [okF,Bool.and_true,Bool.and_eq_true] at hb
 have qa:=hb
 unfold Cc
 simp [AvS,Ej,CQ,AA,BD,AA (BA qa).2,(BA qa).1]
theorem AoK (hsp:splitB line 0=Hr::l)(hz:line.size≤1000000)(hs:∀a∈l,a.size≤1000000):EE line:=by
 refine FN (Akk hsp hz hs) (Anu hsp hz hs) fun hb=>⟨?_,rfl,rfl,rfl⟩
 rw [hsp]
 rcases l with _|⟨a,_|⟨u,l⟩⟩
 ·simp [okF] at hb
 ·exact Amg hb
 ·simp [okF] at hb
noncomputable abbrev V6 (l:List ByteArray):Au:=(⟨4,0,0,(AU (wrd ⟨l,false⟩)).1,0,0,0,FU⟩:Au)
theorem AiS (hsp:splitB line 0=Ho::l)(hz:line.size≤1000000)(hs:∀a∈l,a.size≤1000000):BO line=some (if good (CP [.n] ⟨l,false⟩)=true then (V6 l,0) else (Bg,4)):=by
 have h:Sm ⟨l,false⟩:=hs
 unfold BO
 rw [AA hz,hsp,Dh,Option.bind_some]
 dsimp only
 rw [AjK,Option.bind_some,if_neg (by decide),ApJ,Option.bind_some]
 rw [if_neg (by decide)]
 rw [if_pos (by decide)]
 rw [EH h,Option.bind_some]
 dsimp only
 exact Fj
theorem Aiw (hsp:splitB line 0=Ho::l)(hz:line.size≤1000000)(hs:∀a∈l,a.size≤1000000):∃z,BM line=some (z,okF [.n] l)∧(okF [.n] l=false→z=Bg)∧(okF [.n] l=true→z=V6 l):=by
 obtain ⟨g,h1,h2⟩:=D8 l (⟨#[110]⟩:ByteArray) (by decide) hs
 rw [show CS (⟨#[110]⟩:ByteArray)= [.n] from by kernel_rfl] at h1 h2
 unfold BM
 rw [AA hz,hsp,DI,Option.bind_some,Aio,Option.bind_some,if_neg (by decide),Option.bind_some,AoJ,Option.bind_some,if_neg (by decide),DT,Option.bind_some,show idx En 4=some (⟨Ho,(⟨#[110]⟩:ByteArray)⟩:Bd) from rfl,Option.bind_some]
 dsimp only
 rw [h1,Option.bind_some]
 cases hb:okF [.n] l with
 |false=>exact ⟨Bg,by dsimp only;rw [if_pos (by decide)],fun _=>rfl,fun h=>by cases h⟩
 |true=>
  obtain rfl:=h2 hb
  rcases l with _|⟨a,_|⟨u,l⟩⟩
  ·simp [okF] at hb
  ·refine ⟨_,by dsimp only;rw [if_neg (by decide)];simp [DN,Dp,idx];rfl,fun h=>(by cases h),fun _=>?_⟩
   first|rfl|simp [V6,wrd,nxt]
  ·simp [okF] at hb
theorem AmW {a:ByteArray}(hb:okF [.n] [a] = true):Cc (⟨4,0,0,(AU a).1,0,0,0,FU⟩:Au)=some (Ho :: [a]):=by
 simp only [okF,Bool.and_true,Bool.and_eq_true] at hb
 have qa:=hb
 unfold Cc
 simp [Aty,Ej,CQ,AA,BD,AA (BA qa).2,(BA qa).1]
theorem Ae7 (hsp:splitB line 0=Ho::l)(hz:line.size≤1000000)(hs:∀a∈l,a.size≤1000000):EE line:=by
 refine FN (AiS hsp hz hs) (Aiw hsp hz hs) fun hb=>⟨?_,rfl,rfl,rfl⟩
 rw [hsp]
 rcases l with _|⟨a,_|⟨u,l⟩⟩
 ·simp [okF] at hb
 ·exact AmW hb
 ·simp [okF] at hb
noncomputable abbrev Vq (l:List ByteArray):Au:=(⟨5,0,0,(AU (wrd ⟨l,false⟩)).1,0,0,0,FU⟩:Au)
theorem Apb (hsp:splitB line 0=G8::l)(hz:line.size≤1000000)(hs:∀a∈l,a.size≤1000000):BO line=some (if good (CP [.n] ⟨l,false⟩)=true then (Vq l,0) else (Bg,4)):=by
 have h:Sm ⟨l,false⟩:=hs
 unfold BO
 rw [AA hz,hsp,Dh,Option.bind_some]
 dsimp only
 rw [AoD,Option.bind_some,if_neg (by decide),Ais,Option.bind_some]
 rw [if_neg (by decide)]
 rw [if_pos (by decide)]
 rw [EH h,Option.bind_some]
 dsimp only
 exact Fj
theorem ArT (hsp:splitB line 0=G8::l)(hz:line.size≤1000000)(hs:∀a∈l,a.size≤1000000):∃z,BM line=some (z,okF [.n] l)∧(okF [.n] l=false→z=Bg)∧(okF [.n] l=true→z=Vq l):=by
 obtain ⟨g,h1,h2⟩:=D8 l (⟨#[110]⟩:ByteArray) (by decide) hs
 rw [show CS (⟨#[110]⟩:ByteArray)= [.n] from by kernel_rfl] at h1 h2
 unfold BM
 rw [AA hz,hsp,DI,Option.bind_some,AlR,Option.bind_some,if_neg (by decide),Option.bind_some,Awg,Option.bind_some,if_neg (by decide),DT,Option.bind_some,show idx En 5=some (⟨G8,(⟨#[110]⟩:ByteArray)⟩:Bd) from rfl,Option.bind_some]
 dsimp only
 rw [h1,Option.bind_some]
 cases hb:okF [.n] l with
 |false=>exact ⟨Bg,by dsimp only;rw [if_pos (by decide)],fun _=>rfl,fun h=>by cases h⟩
 |true=>
  obtain rfl:=h2 hb
  rcases l with _|⟨a,_|⟨u,l⟩⟩
  ·simp [okF] at hb
  ·refine ⟨_,by dsimp only;rw [if_neg (by decide)];simp [DN,Dp,idx];rfl,fun h=>(by cases h),fun _=>?_⟩
   first|rfl|simp [Vq,wrd,nxt]
  ·simp [okF] at hb
theorem Aus {a:ByteArray}(hb:okF [.n] [a] = true):Cc (⟨5,0,0,(AU a).1,0,0,0,FU⟩:Au)=some (G8 :: [a]):=by
 simp only [okF,Bool.and_true,Bool.and_eq_true] at hb
 have qa:=hb
 unfold Cc
 simp [AnP,Ej,CQ,AA,BD,AA (BA qa).2,(BA qa).1]
theorem Ajp (hsp:splitB line 0=G8::l)(hz:line.size≤1000000)(hs:∀a∈l,a.size≤1000000):EE line:=by
 refine FN (Apb hsp hz hs) (ArT hsp hz hs) fun hb=>⟨?_,rfl,rfl,rfl⟩
 rw [hsp]
 rcases l with _|⟨a,_|⟨u,l⟩⟩
 ·simp [okF] at hb
 ·exact Aus hb
 ·simp [okF] at hb
noncomputable abbrev Yb (l:List ByteArray):Au:=(⟨6,0,0,0,(AU (wrd ⟨l,false⟩)).1,(AU (wrd (nxt .n ⟨l,false⟩))).1,(AU (wrd (nxt .n (nxt .n ⟨l,false⟩)))).1,FU⟩:Au)
theorem Ar5 (hsp:splitB line 0=Ha::l)(hz:line.size≤1000000)(hs:∀a∈l,a.size≤1000000):BO line=some (if good (CP [.n,.n,.n] ⟨l,false⟩)=true then (Yb l,0) else (Bg,4)):=by
 have h:Sm ⟨l,false⟩:=hs
 unfold BO
 rw [AA hz,hsp,Dh,Option.bind_some]
 dsimp only
 rw [AfX,Option.bind_some,if_neg (by decide),Ah0,Option.bind_some]
 rw [if_neg (by decide)]
 rw [if_neg (by decide)]
 rw [if_pos (by decide)]
 rw [number_eq h,Option.bind_some]
 dsimp only
 rw [number_eq (h.nxt .n),Option.bind_some]
 dsimp only
 rw [number_eq ((h.nxt .n).nxt .n),Option.bind_some]
 dsimp only
 exact Fj
theorem Akq (hsp:splitB line 0=Ha::l)(hz:line.size≤1000000)(hs:∀a∈l,a.size≤1000000):∃z,BM line=some (z,okF [.n,.n,.n] l)∧(okF [.n,.n,.n] l=false→z=Bg)∧(okF [.n,.n,.n] l=true→z=Yb l):=by
 obtain ⟨g,h1,h2⟩:=D8 l (⟨#[110,110,110]⟩:ByteArray) (by decide) hs
 rw [show CS (⟨#[110,110,110]⟩:ByteArray)= [.n,.n,.n] from by kernel_rfl] at h1 h2
 unfold BM
 rw [AA hz,hsp,DI,Option.bind_some,Akp,Option.bind_some,if_neg (by decide),Option.bind_some,ArM,Option.bind_some,if_neg (by decide),DT,Option.bind_some,show idx En 6=some (⟨Ha,(⟨#[110,110,110]⟩:ByteArray)⟩:Bd) from rfl,Option.bind_some]
 dsimp only
 rw [h1,Option.bind_some]
 cases hb:okF [.n,.n,.n] l with
 |false=>exact ⟨Bg,by dsimp only;rw [if_pos (by decide)],fun _=>rfl,fun h=>by cases h⟩
 |true=>
  obtain rfl:=h2 hb
  rcases l with _|⟨a,_|⟨b,_|⟨c,_|⟨u,l⟩⟩⟩⟩
  ·simp [okF] at hb
  ·simp [okF] at hb
  ·simp [okF] at hb
  ·refine ⟨_,by dsimp only;rw [if_neg (by decide)];simp [DN,Dp,idx];rfl,fun h=>(by cases h),fun _=>?_⟩
   first|rfl|simp [Yb,wrd,nxt]
  ·simp [okF] at hb
theorem ArL {a b c:ByteArray}(hb:okF [.n,.n,.n] [a,b,c] = true):Cc (⟨6,0,0,0,(AU a).1,(AU b).1,(AU c).1,FU⟩:Au)=some (Ha :: [a,b,c]):=by
 simp only [okF,Bool.and_true,Bool.and_eq_true] at hb
 obtain ⟨qa,qb,qc⟩:=hb
 unfold Cc
 simp [As5,Ej,CQ,AA,BD,AA (BA qa).2,(BA qa).1,AA (BA qb).2,(BA qb).1,AA (BA qc).2,(BA qc).1]
theorem Ahi (hsp:splitB line 0=Ha::l)(hz:line.size≤1000000)(hs:∀a∈l,a.size≤1000000):EE line:=by
 refine FN (Ar5 hsp hz hs) (Akq hsp hz hs) fun hb=>⟨?_,rfl,rfl,rfl⟩
 rw [hsp]
 rcases l with _|⟨a,_|⟨b,_|⟨c,_|⟨u,l⟩⟩⟩⟩
 ·simp [okF] at hb
 ·simp [okF] at hb
 ·simp [okF] at hb
 ·exact ArL hb
 ·simp [okF] at hb
noncomputable abbrev U5 (l:List ByteArray):Au:=(⟨7,(AU (wrd ⟨l,false⟩)).1,0,(AU (wrd (nxt .n ⟨l,false⟩))).1,0,0,0,FU⟩:Au)
theorem Avf (hsp:splitB line 0=Hu::l)(hz:line.size≤1000000)(hs:∀a∈l,a.size≤1000000):BO line=some (if good (CP [.n,.n] ⟨l,false⟩)=true then (U5 l,0) else (Bg,4)):=by
 have h:Sm ⟨l,false⟩:=hs
 unfold BO
 rw [AA hz,hsp,Dh,Option.bind_some]
 dsimp only
 rw [AkO,Option.bind_some,if_neg (by decide),AfJ,Option.bind_some]
 rw [if_neg (by decide)]
 rw [if_neg (by decide)]
 rw [if_neg (by decide)]
 rw [if_pos (by decide)]
 rw [EH h,Option.bind_some]
 dsimp only
 rw [EH (h.nxt .n),Option.bind_some]
 dsimp only
 exact Fj
theorem Afb (hsp:splitB line 0=Hu::l)(hz:line.size≤1000000)(hs:∀a∈l,a.size≤1000000):∃z,BM line=some (z,okF [.n,.n] l)∧(okF [.n,.n] l=false→z=Bg)∧(okF [.n,.n] l=true→z=U5 l):=by
 obtain ⟨g,h1,h2⟩:=D8 l (⟨#[119,110]⟩:ByteArray) (by decide) hs
 rw [show CS (⟨#[119,110]⟩:ByteArray)= [.n,.n] from by kernel_rfl] at h1 h2
 unfold BM
 rw [AA hz,hsp,DI,Option.bind_some,Au9,Option.bind_some,if_neg (by decide),Option.bind_some,Al2,Option.bind_some,if_neg (by decide),DT,Option.bind_some,show idx En 7=some (⟨Hu,(⟨#[119,110]⟩:ByteArray)⟩:Bd) from rfl,Option.bind_some]
 dsimp only
 rw [h1,Option.bind_some]
 cases hb:okF [.n,.n] l with
 |false=>exact ⟨Bg,by dsimp only;rw [if_pos (by decide)],fun _=>rfl,fun h=>by cases h⟩
 |true=>
  obtain rfl:=h2 hb
  rcases l with _|⟨a,_|⟨b,_|⟨u,l⟩⟩⟩
  ·simp [okF] at hb
  ·simp [okF] at hb
  ·refine ⟨_,by dsimp only;rw [if_neg (by decide)];simp [DN,Dp,idx];rfl,fun h=>(by cases h),fun _=>?_⟩
   first|rfl|simp [U5,wrd,nxt]
  ·simp [okF] at hb
theorem At6 {a b:ByteArray}(hb:okF [.n,.n] [a,b] = true):Cc (⟨7,(AU a).1,0,(AU b).1,0,0,0,FU⟩:Au)=some (Hu :: [a,b]):=by
 simp only [okF,Bool.and_true,Bool.and_eq_true] at hb
 obtain ⟨qa,qb⟩:=hb
 unfold Cc
 simp [AoI,Ej,CQ,AA,BD,AA (BA qa).2,(BA qa).1,AA (BA qb).2,(BA qb).1]
theorem AqE (hsp:splitB line 0=Hu::l)(hz:line.size≤1000000)(hs:∀a∈l,a.size≤1000000):EE line:=by
 refine FN (Avf hsp hz hs) (Afb hsp hz hs) fun hb=>⟨?_,rfl,rfl,rfl⟩
 rw [hsp]
 rcases l with _|⟨a,_|⟨b,_|⟨u,l⟩⟩⟩
 ·simp [okF] at hb
 ·simp [okF] at hb
 ·exact At6 hb
 ·simp [okF] at hb
noncomputable abbrev U8 (l:List ByteArray):Au:=(⟨8,(AU (wrd ⟨l,false⟩)).1,0,(AU (wrd (nxt .n ⟨l,false⟩))).1,0,0,0,FU⟩:Au)
theorem Af6 (hsp:splitB line 0=Hm::l)(hz:line.size≤1000000)(hs:∀a∈l,a.size≤1000000):BO line=some (if good (CP [.n,.n] ⟨l,false⟩)=true then (U8 l,0) else (Bg,4)):=by
 have h:Sm ⟨l,false⟩:=hs
 unfold BO
 rw [AA hz,hsp,Dh,Option.bind_some]
 dsimp only
 rw [Akj,Option.bind_some,if_neg (by decide),Amt,Option.bind_some]
 rw [if_neg (by decide)]
 rw [if_neg (by decide)]
 rw [if_neg (by decide)]
 rw [if_pos (by decide)]
 rw [EH h,Option.bind_some]
 dsimp only
 rw [EH (h.nxt .n),Option.bind_some]
 dsimp only
 exact Fj
theorem ArA (hsp:splitB line 0=Hm::l)(hz:line.size≤1000000)(hs:∀a∈l,a.size≤1000000):∃z,BM line=some (z,okF [.n,.n] l)∧(okF [.n,.n] l=false→z=Bg)∧(okF [.n,.n] l=true→z=U8 l):=by
 obtain ⟨g,h1,h2⟩:=D8 l (⟨#[119,110]⟩:ByteArray) (by decide) hs
 rw [show CS (⟨#[119,110]⟩:ByteArray)= [.n,.n] from by kernel_rfl] at h1 h2
 unfold BM
 rw [AA hz,hsp,DI,Option.bind_some,Atn,Option.bind_some,if_neg (by decide),Option.bind_some,Anc,Option.bind_some,if_neg (by decide),DT,Option.bind_some,show idx En 8=some (⟨Hm,(⟨#[119,110]⟩:ByteArray)⟩:Bd) from rfl,Option.bind_some]
 dsimp only
 rw [h1,Option.bind_some]
 cases hb:okF [.n,.n] l with
 |false=>exact ⟨Bg,by dsimp only;rw [if_pos (by decide)],fun _=>rfl,fun h=>by cases h⟩
 |true=>
  obtain rfl:=h2 hb
  rcases l with _|⟨a,_|⟨b,_|⟨u,l⟩⟩⟩
  ·simp [okF] at hb
  ·simp [okF] at hb
  ·refine ⟨_,by dsimp only;rw [if_neg (by decide)];simp [DN,Dp,idx];rfl,fun h=>(by cases h),fun _=>?_⟩
   first|rfl|simp [U8,wrd,nxt]
  ·simp [okF] at hb
theorem AeH {a b:ByteArray}(hb:okF [.n,.n] [a,b] = true):Cc (⟨8,(AU a).1,0,(AU b).1,0,0,0,FU⟩:Au)=some (Hm :: [a,b]):=by
 simp only [okF,Bool.and_true,Bool.and_eq_true] at hb
 obtain ⟨qa,qb⟩:=hb
 unfold Cc
 simp [Aoc,Ej,CQ,AA,BD,AA (BA qa).2,(BA qa).1,AA (BA qb).2,(BA qb).1]
theorem Ag2 (hsp:splitB line 0=Hm::l)(hz:line.size≤1000000)(hs:∀a∈l,a.size≤1000000):EE line:=by
 refine FN (Af6 hsp hz hs) (ArA hsp hz hs) fun hb=>⟨?_,rfl,rfl,rfl⟩
 rw [hsp]
 rcases l with _|⟨a,_|⟨b,_|⟨u,l⟩⟩⟩
 ·simp [okF] at hb
 ·simp [okF] at hb
 ·exact AeH hb
 ·simp [okF] at hb
noncomputable abbrev VD (l:List ByteArray):Au:=(⟨9,(AU (wrd ⟨l,false⟩)).1,0,0,0,0,0,FU⟩:Au)
theorem AfU (hsp:splitB line 0=Hf::l)(hz:line.size≤1000000)(hs:∀a∈l,a.size≤1000000):BO line=some (if good (CP [.n] ⟨l,false⟩)=true then (VD l,0) else (Bg,4)):=by
 have h:Sm ⟨l,false⟩:=hs
 unfold BO
 rw [AA hz,hsp,Dh,Option.bind_some]
 dsimp only
 rw [Aqf,Option.bind_some,if_neg (by decide),AnL,Option.bind_some]
 rw [if_neg (by decide)]
 rw [if_neg (by decide)]
 rw [if_neg (by decide)]
 rw [if_neg (by decide)]
 rw [if_pos (by decide)]
 rw [EH h,Option.bind_some]
 dsimp only
 exact Fj
theorem AnQ (hsp:splitB line 0=Hf::l)(hz:line.size≤1000000)(hs:∀a∈l,a.size≤1000000):∃z,BM line=some (z,okF [.n] l)∧(okF [.n] l=false→z=Bg)∧(okF [.n] l=true→z=VD l):=by
 obtain ⟨g,h1,h2⟩:=D8 l (⟨#[119]⟩:ByteArray) (by decide) hs
 rw [show CS (⟨#[119]⟩:ByteArray)= [.n] from by kernel_rfl] at h1 h2
 unfold BM
 rw [AA hz,hsp,DI,Option.bind_some,Ajl,Option.bind_some,if_neg (by decide),Option.bind_some,AjY,Option.bind_some,if_neg (by decide),DT,Option.bind_some,show idx En 9=some (⟨Hf,(⟨#[119]⟩:ByteArray)⟩:Bd) from rfl,Option.bind_some]
 dsimp only
 rw [h1,Option.bind_some]
 cases hb:okF [.n] l with
 |false=>exact ⟨Bg,by dsimp only;rw [if_pos (by decide)],fun _=>rfl,fun h=>by cases h⟩
 |true=>
  obtain rfl:=h2 hb
  rcases l with _|⟨a,_|⟨u,l⟩⟩
  ·simp [okF] at hb
  ·refine ⟨_,by dsimp only;rw [if_neg (by decide)];simp [DN,Dp,idx];rfl,fun h=>(by cases h),fun _=>?_⟩
   first|rfl|simp [VD,wrd,nxt]
  ·simp [okF] at hb
theorem Aqt {a:ByteArray}(hb:okF [.n] [a] = true):Cc (⟨9,(AU a).1,0,0,0,0,0,FU⟩:Au)=some (Hf :: [a]):=by
 simp only [okF,Bool.and_true,Bool.and_eq_true] at hb
 have qa:=hb
 unfold Cc
 simp [Au7,Ej,CQ,AA,BD,AA (BA qa).2,(BA qa).1]
theorem Apn (hsp:splitB line 0=Hf::l)(hz:line.size≤1000000)(hs:∀a∈l,a.size≤1000000):EE line:=by
 refine FN (AfU hsp hz hs) (AnQ hsp hz hs) fun hb=>⟨?_,rfl,rfl,rfl⟩
 rw [hsp]
 rcases l with _|⟨a,_|⟨u,l⟩⟩
 ·simp [okF] at hb
 ·exact Aqt hb
 ·simp [okF] at hb
noncomputable abbrev Vh (l:List ByteArray):Au:=(⟨10,(AU (wrd ⟨l,false⟩)).1,(AU (wrd (nxt .n ⟨l,false⟩))).1,0,0,0,0,FU⟩:Au)
theorem Av7 (hsp:splitB line 0=Hl::l)(hz:line.size≤1000000)(hs:∀a∈l,a.size≤1000000):BO line=some (if good (CP [.n,.n] ⟨l,false⟩)=true then (Vh l,0) else (Bg,4)):=by
 have h:Sm ⟨l,false⟩:=hs
 unfold BO
 rw [AA hz,hsp,Dh,Option.bind_some]
 dsimp only
 rw [Am9,Option.bind_some,if_neg (by decide),AiW,Option.bind_some]
 rw [if_pos (by decide)]
 rw [EH h,Option.bind_some]
 dsimp only
 rw [EH (h.nxt .n),Option.bind_some]
 dsimp only
 exact Fj
theorem Agp (hsp:splitB line 0=Hl::l)(hz:line.size≤1000000)(hs:∀a∈l,a.size≤1000000):∃z,BM line=some (z,okF [.n,.n] l)∧(okF [.n,.n] l=false→z=Bg)∧(okF [.n,.n] l=true→z=Vh l):=by
 obtain ⟨g,h1,h2⟩:=D8 l (⟨#[119,119]⟩:ByteArray) (by decide) hs
 rw [show CS (⟨#[119,119]⟩:ByteArray)= [.n,.n] from by kernel_rfl] at h1 h2
 unfold BM
 rw [AA hz,hsp,DI,Option.bind_some,Asm,Option.bind_some,if_neg (by decide),Option.bind_some,Ajt,Option.bind_some,if_neg (by decide),DT,Option.bind_some,show idx En 10=some (⟨Hl,(⟨#[119,119]⟩:ByteArray)⟩:Bd) from rfl,Option.bind_some]
 dsimp only
 rw [h1,Option.bind_some]
 cases hb:okF [.n,.n] l with
 |false=>exact ⟨Bg,by dsimp only;rw [if_pos (by decide)],fun _=>rfl,fun h=>by cases h⟩
 |true=>
  obtain rfl:=h2 hb
  rcases l with _|⟨a,_|⟨b,_|⟨u,l⟩⟩⟩
  ·simp [okF] at hb
  ·simp [okF] at hb
  ·refine ⟨_,by dsimp only;rw [if_neg (by decide)];simp [DN,Dp,idx];rfl,fun h=>(by cases h),fun _=>?_⟩
   first|rfl|simp [Vh,wrd,nxt]
  ·simp [okF] at hb
theorem Ane {a b:ByteArray}(hb:okF [.n,.n] [a,b] = true):Cc (⟨10,(AU a).1,(AU b).1,0,0,0,0,FU⟩:Au)=some (Hl :: [a,b]):=by
 simp only [okF,Bool.and_true,Bool.and_eq_true] at hb
 obtain ⟨qa,qb⟩:=hb
 unfold Cc
 simp [AuE,Ej,CQ,AA,BD,AA (BA qa).2,(BA qa).1,AA (BA qb).2,(BA qb).1]
theorem Aet (hsp:splitB line 0=Hl::l)(hz:line.size≤1000000)(hs:∀a∈l,a.size≤1000000):EE line:=by
 refine FN (Av7 hsp hz hs) (Agp hsp hz hs) fun hb=>⟨?_,rfl,rfl,rfl⟩
 rw [hsp]
 rcases l with _|⟨a,_|⟨b,_|⟨u,l⟩⟩⟩
 ·simp [okF] at hb
 ·simp [okF] at hb
 ·exact Ane hb
 ·simp [okF] at hb
theorem AvQ (hsp:splitB line 0=KQ::l)(hz:line.size≤1000000)(hs:∀a∈l,a.size≤1000000)(hn:l.length≤1000000):EE line:=by
 have h:Sm ⟨l,false⟩:=hs
 obtain ⟨x,r,z,ok,e1,e2,e3,e4⟩:=Akf (nxt .t (nxt .n ⟨l,false⟩)).words (nxt .t (nxt .n ⟨l,false⟩)).bad (((h.nxt .n).nxt .t))
 have hp:BO line=some (if good r=true then ((⟨1,(AU (wrd ⟨l,false⟩)).1,0,0,0,0,0,(⟨8,noB,noB,Ae,0,noB,((C9 (wrd (nxt .n ⟨l,false⟩))).getD AZ),x⟩:AV)⟩:Au),0) else (Bg,4)):=by
  unfold BO
  rw [AA hz,hsp,Dh,Option.bind_some]
  dsimp only
  rw [AnK,Option.bind_some,if_pos (by decide),EH h,Option.bind_some]
  dsimp only
  unfold Et
  rw [if_pos rfl,SS (h.nxt .n),Option.bind_some]
  dsimp only
  rw [show nxt .t (nxt .n ⟨l,false⟩)=⟨(nxt .t (nxt .n ⟨l,false⟩)).words,(nxt .t (nxt .n ⟨l,false⟩)).bad⟩ from rfl,e1,Option.bind_some]
  exact Fj
 rcases l with _|⟨a,_|⟨b,l⟩⟩
 ·refine ⟨Bg,false,?_,?_,⟨fun h=>(by cases h),fun _=>rfl⟩⟩
  ·rw [hp,e2];rfl
  ·unfold BM
   rw [AA hz,hsp,DI,Option.bind_some,WV,Option.bind_some,if_pos (by decide),DT,Option.bind_some]
   unfold Gh
   rw [if_pos rfl,if_pos (by simp),Option.bind_some];rfl
 ·refine ⟨Bg,false,?_,?_,⟨fun h=>(by cases h),fun _=>rfl⟩⟩
  ·rw [hp,e2];rfl
  ·unfold BM
   rw [AA hz,hsp,DI,Option.bind_some,WV,Option.bind_some,if_pos (by decide),DT,Option.bind_some]
   unfold Gh
   rw [if_pos rfl,if_pos (by simp),Option.bind_some];rfl
 ·have ew:(nxt .t (nxt .n ⟨a::b::l,false⟩)).words=l:=rfl
  have eb:(nxt .t (nxt .n ⟨a::b::l,false⟩)).bad=(false || !okK .n a || !okK .t b):=rfl
  rw [ew] at e3 e4
  rw [eb] at e2
  have hok:good r=(okF [.n,.t] [a,b]&&ok):=by rw [e2,okF,okF,okF];cases okK .n a<;>cases okK .t b<;>cases ok<;>rfl
  obtain ⟨g,h1,h2⟩:=D8 [a,b] (⟨#[119,116]⟩:ByteArray) (by decide) (fun c hc=>hs c (by simp at hc ⊢;rcases hc with rfl|rfl<;>simp))
  rw [show CS (⟨#[119,116]⟩:ByteArray)= [.n,.t] from by kernel_rfl] at h1 h2
  have hr:∃zz,BM line=some (zz,okF [.n,.t] [a,b]&&ok)∧((okF [.n,.t] [a,b]&&ok)=false→zz=Bg)∧((okF [.n,.t] [a,b]&&ok)=true→zz=(⟨1,(AU a).1,0,0,0,0,0,(⟨8,noB,noB,Ae,0,noB,((C9 b).getD AZ),z⟩:AV)⟩:Au)):=by
   unfold BM
   rw [AA hz,hsp,DI,Option.bind_some,WV,Option.bind_some,if_pos (by decide),DT,Option.bind_some]
   unfold Gh
   rw [if_pos rfl,if_neg (by simp only [List.length_cons];omega),show Gu (a::b::l) 2 (((a::b::l).length:Nat):Int)=some l from by rw [show (2:Int)=((2:Nat):Int) from rfl,Xy (by simp)];rfl,Option.bind_some,e3,Option.bind_some]
   cases hx:ok with
   |false=>exact ⟨Bg,by dsimp only;rw [if_pos (by decide),Option.bind_some];simp,fun _=>rfl,fun h=>by simp at h⟩
   |true=>
    dsimp only
    rw [if_neg (by decide),show Gu (a::b::l) 0 2=some [a,b] from by rw [show (2:Int)=((2:Nat):Int) from rfl,AnS (by simp)];rfl,Option.bind_some]
    unfold Gs
    rw [show idx CX 8=some (⟨KQ,(⟨#[119,116]⟩:ByteArray)⟩:Bd) from rfl,Option.bind_some]
    dsimp only
    rw [h1,Option.bind_some]
    cases hb:okF [.n,.t] [a,b] with
    |false=>exact ⟨Bg,by dsimp only;rw [if_pos (by decide),Option.bind_some];rfl,fun _=>rfl,fun h=>by cases h⟩
    |true=>
     obtain rfl:=h2 hb
     exact ⟨_,by dsimp only;rw [if_neg (by decide)];simp [DN,Dp,idx,F7,EY,D5,Cj];try rfl,fun h=>(by cases h),fun _=>rfl⟩
  obtain ⟨zz,k1,k2,k3⟩:=hr
  rw [hok] at hp
  cases hall:(okF [.n,.t] [a,b]&&ok) with
  |false=>rw [hall] at hp k1;rw [k2 hall] at k1;exact ⟨Bg,false,hp,k1,⟨fun h=>(by cases h),fun _=>rfl⟩⟩
  |true=>
   rw [hall] at hp k1
   rw [k3 hall] at k1
   obtain ⟨hb,hx⟩:=Bool.and_eq_true_iff.1 hall
   obtain ⟨rfl,w1,w2,w3,w4⟩:=e4 hx
   refine ⟨_,true,hp,k1,⟨fun _=>⟨?_,w2,w3,w4⟩,fun h=>(by cases h)⟩⟩
   rw [hsp]
   simp only [okF,Bool.and_true,Bool.and_eq_true] at hb
   obtain ⟨qa,qb⟩:=hb
   unfold Cc Gj
   simp only [wrd,nxt]
   have hl:l.length≤1000000:=by simp only [List.length_cons] at hn;omega
   simp [Alq,w1,BD,AA (BA qa).2,(BA qa).1,AA (MJ qb).1,(MJ qb).2,show l.length+3≤1000000000 by omega,show 1+1+1+l.length≤1000000000 by omega,show 3+l.length≤1000000000 by omega]
theorem ApR {v:ByteArray}(hsp:splitB line 0=v::l)(hz:line.size≤1000000)(h_add:¬v=IV)(h_remove:¬v=Jj)(h_adjust:¬v=IW)(h_set:¬v=IX)(h_put:¬v=IQ)(h_take:¬v=IY)(h_clear:¬v=Jd)(h_publish:¬v=KQ)(h_switch:¬v=IP)(h_view:¬v=Jg)(h_at:¬v=IU)(h_project:¬v=I8)(h_hello:¬v=Ht)(h_deliver:¬v=Hr)(h_lose:¬v=Ho)(h_double:¬v=G8)(h_cut:¬v=Ha)(h_fuse:¬v=Hu)(h_crash:¬v=Hm)(h_fold:¬v=Hf)(h_meet:¬v=Hl):EE line:=by
 refine ⟨Bg,false,?_,?_,⟨fun h=>(by cases h),fun _=>rfl⟩⟩
 ·unfold BO
  rw [AA hz,hsp,Dh,Option.bind_some]
  dsimp only
  rw [Au3 h_add h_remove h_adjust h_set h_put h_take h_clear h_publish h_switch h_view h_at h_project,Option.bind_some,if_neg (by decide),Ao8 h_hello h_deliver h_lose h_double h_cut h_fuse h_crash h_fold h_meet,Option.bind_some,if_neg (by decide),if_neg (by decide),if_neg (by decide),if_neg (by decide),if_neg (by decide)];rfl
 ·unfold BM
  rw [AA hz,hsp,DI,Option.bind_some,Aqq h_add h_remove h_adjust h_set h_put h_take h_clear h_publish h_switch h_view h_at h_project,Option.bind_some,if_neg (by decide),Option.bind_some,AkL h_hello h_deliver h_lose h_double h_cut h_fuse h_crash h_fold h_meet,Option.bind_some,if_pos (by decide)]
theorem AuR (line:ByteArray)(hz:line.size≤900000):EE line:=by
 obtain ⟨v,l,hsp⟩:=Abq line 0
 have hsz:∀a∈l,a.size≤1000000:=fun a ha=>Nat.le_trans (Ass (s:=line) (by rw [hsp];exact List.mem_cons_of_mem _ ha)) (by omega)
 have hn:l.length≤1000000:=by have:=AkW (s:=line);rw [hsp,List.length_cons] at this;omega
 have hz1:line.size≤1000000:=by omega
 by_cases h_add:v=IV
 ·subst h_add;exact AjQ hsp hz1 hsz
 by_cases h_remove:v=Jj
 ·subst h_remove;exact Ait hsp hz1 hsz
 by_cases h_adjust:v=IW
 ·subst h_adjust;exact AhA hsp hz1 hsz
 by_cases h_set:v=IX
 ·subst h_set;exact AjN hsp hz1 hsz
 by_cases h_put:v=IQ
 ·subst h_put;exact Ahb hsp hz1 hsz
 by_cases h_take:v=IY
 ·subst h_take;exact Atz hsp hz1 hsz
 by_cases h_clear:v=Jd
 ·subst h_clear;exact Aez hsp hz1 hsz
 by_cases h_publish:v=KQ
 ·subst h_publish;exact AvQ hsp hz1 hsz hn
 by_cases h_switch:v=IP
 ·subst h_switch;exact AsB hsp hz1 hsz
 by_cases h_view:v=Jg
 ·subst h_view;exact Ar0 hsp hz1 hsz
 by_cases h_at:v=IU
 ·subst h_at;exact AuH hsp hz1 hsz
 by_cases h_project:v=I8
 ·subst h_project;exact Ag4 hsp hz1 hsz
 by_cases h_hello:v=Ht
 ·subst h_hello;exact AqG hsp hz1 hsz
 by_cases h_deliver:v=Hr
 ·subst h_deliver;exact AoK hsp hz1 hsz
 by_cases h_lose:v=Ho
 ·subst h_lose;exact Ae7 hsp hz1 hsz
 by_cases h_double:v=G8
 ·subst h_double;exact Ajp hsp hz1 hsz
 by_cases h_cut:v=Ha
 ·subst h_cut;exact Ahi hsp hz1 hsz
 by_cases h_fuse:v=Hu
 ·subst h_fuse;exact AqE hsp hz1 hsz
 by_cases h_crash:v=Hm
 ·subst h_crash;exact Ag2 hsp hz1 hsz
 by_cases h_fold:v=Hf
 ·subst h_fold;exact Apn hsp hz1 hsz
 by_cases h_meet:v=Hl
 ·subst h_meet;exact Aet hsp hz1 hsz
 exact ApR hsp hz1 h_add h_remove h_adjust h_set h_put h_take h_clear h_publish h_switch h_view h_at h_project h_hello h_deliver h_lose h_double h_cut h_fuse h_crash h_fold h_meet
end Go.Vm
end
section
namespace Go.Vm
open Go.RowKit Go.Proofs Go.Proofs.YtdfbohaohjaloaaGreatDoor Punnet.Name Punnet.Num
theorem AiC {m:Au}(h1:m.deed.lens.forth= [])(h2:m.deed.lens.back= [])(h3:m.deed.lens.field.cases= []):Ov m m=some true:=by
 unfold Ov
 simp [h1,h2,h3,grd,okX]
end Go.Vm
end
section
namespace Go.Vm
open Go.RowKit Go.Proofs Go.Proofs.YtdfbohaohjaloaaGreatDoor Punnet.Name Punnet.Num
theorem Ahq {t:BQ}(h:G7 t):(EJ t).size≤100:=by
 have h1:=KO h.1
 have h2:=KO h.2
 rw [←Ei] at h1 h2 ⊢
 unfold DY at h1 h2
 unfold EJ
 rw [ED,List.length_append,List.length_cons]
 simp only at h1 h2
 simp at h1 h2 ⊢
 omega
end Go.Vm
end
section
namespace Go.Vm
open Go.RowKit Go.Proofs Go.Proofs.YtdfbohaohjaloaaGreatDoor Punnet.Name Punnet.Num
theorem Amk {r:Bv}(h:Bz r=true):(BF r).size≤40:=by
 obtain ⟨_,h1,h2⟩:=Xc h
 rw [←Ei,show (BF r).data.toList=Jc r from ED _]
 unfold Jc
 have h4:=XY r
 unfold GI at h4
 rw [List.length_append,h4,List.length_append,List.length_cons,Ei]
 split
 ·rw [List.length_nil];omega
 ·rw [List.length_cons,Ei];omega
theorem Aot (s:ByteArray):(MI s).size≤3*s.size+2:=by
 rw [Aru]
 unfold Ib
 rw [List.length_cons,List.length_append,List.length_singleton]
 have:∀l:List UInt8,(l.flatMap Dc).length≤3*l.length:=by
  intro l
  induction l with
  |nil=>simp
  |cons c l ih=>
                   rw [List.flatMap_cons,List.length_append,List.length_cons];have:(Dc c).length≤3:=by unfold Dc;split<;>simp
                   omega
 have:=this s.data.toList
 rw [Ei] at this
 omega
def RG (m:Au):Prop:=(BX m.who∧BX m.to_∧BX m.n∧BX m.re∧BX m.im∧BX m.off)∧BX m.deed.n∧G7 m.deed.tag∧BX m.deed.lens.factor∧BX m.deed.lens.field.worth
theorem UL (t:He)(k:Int)(ht:∀v∈[t.e0,t.e1,t.e2,t.e3,t.e4,t.e5,t.e6,t.e7,t.e8,t.e9,t.e10,t.e11,t.e12],v.size≤300):∃v,CZ t k=some v∧v.size≤300:=by
 unfold CZ
 split
 ·exact ⟨noB,rfl,by decide⟩
 ·rename_i h
  have:k=0∨k=1∨k=2∨k=3∨k=4∨k=5∨k=6∨k=7∨k=8∨k=9∨k=10∨k=11∨k=12:=by omega
  simp only [List.forall_mem_cons] at ht
  obtain ⟨h0,h1,h2,h3,h4,h5,h6,h7,h8,h9,h10,h11,h12,_⟩:=ht
  rcases this with rfl|rfl|rfl|rfl|rfl|rfl|rfl|rfl|rfl|rfl|rfl|rfl|rfl<;>exact ⟨_,rfl,by assumption⟩
theorem WL (r:Bv):(if Bz r=true then BF r else ⟨#[63]⟩:ByteArray).size≤300:=by
 split
 ·have:=Amk (r:=r) (by assumption);omega
 ·decide
theorem XA (s:ByteArray):(Kw s).size≤300:=by
 unfold Kw NF
 by_cases h:s.size≤40
 ·rw [if_pos h,if_neg (by simp)]
  have:=Aot s
  show (MI s).size≤300
  omega
 ·rw [if_neg h,if_pos (by decide)];decide
theorem ApM {s:ByteArray}(h:s.size≤200):(KG s).size≤300:=by
 unfold KG
 split
 ·decide
 ·omega
theorem Rl:(∀v∈[BI.e0,BI.e1,BI.e2,BI.e3,BI.e4,BI.e5,BI.e6,BI.e7,BI.e8,BI.e9,BI.e10,BI.e11,BI.e12],v.size≤300)∧(∀v∈[CW.e0,CW.e1,CW.e2,CW.e3,CW.e4,CW.e5,CW.e6,CW.e7,CW.e8,CW.e9,CW.e10,CW.e11,CW.e12],v.size≤300)∧(∀v∈[Df.e0,Df.e1,Df.e2,Df.e3,Df.e4,Df.e5,Df.e6,Df.e7,Df.e8,Df.e9,Df.e10,Df.e11,Df.e12],v.size≤300)∧(∀v∈[D6.e0,D6.e1,D6.e2,D6.e3,D6.e4,D6.e5,D6.e6,D6.e7,D6.e8,D6.e9,D6.e10,D6.e11,D6.e12],v.size≤300):=by
 refine ⟨?_,?_,?_,?_⟩<;>(simp only [List.forall_mem_cons,List.not_mem_nil,false_implies,implies_true,and_true];decide)
def OU (n:Nat)(w:Option (List ByteArray)):Prop:=∃l,w=some l∧l.length≤n∧∀a∈l,a.size≤300
theorem VE {n:Nat}{w:Option (List ByteArray)}(l:List ByteArray)(h:w=some l)(h1:l.length≤n)(h2:∀a∈l,a.size≤300):OU n w:=⟨l,h,h1,h2⟩
theorem AiI {x:AL}(h1:BX x.factor)(h2:BX x.field.worth)(h3:x.name.size≤200)(h4:x.other.size≤200):OU 6 (EU x):=by
 obtain ⟨v,hv,zv⟩:=UL Df x.kind Rl.2.2.1
 obtain ⟨u,hu,zu⟩:=UL D6 x.field.kind Rl.2.2.2
 have p1:=WL x.at_
 have p2:=WL x.field.at_
 have n1:=KO h1
 have n2:=KO h2
 have q1:=XA x.other
 have q2:=XA x.field.deft
 unfold EU
 rw [hv,Option.bind_some,AA h1,hu,Option.bind_some,AA h2]
 generalize (if Bz x.at_=true then BF x.at_ else ⟨#[63]⟩:ByteArray)=a1 at *
 generalize (if Bz x.field.at_=true then BF x.field.at_ else ⟨#[63]⟩:ByteArray)=a2 at *
 repeat' split
 all_goals refine VE _ rfl (by simp) ?_
 all_goals simp only [List.cons_append,List.nil_append,List.forall_mem_cons,List.not_mem_nil,false_implies,implies_true,and_true]
 all_goals omega
theorem AlE {who:Int}{d:AV}(hw:BX who)(h0:BX d.n)(h5:G7 d.tag)(h1:BX d.lens.factor)(h2:BX d.lens.field.worth)(h3:d.lens.name.size≤200)(h4:d.lens.other.size≤200)(h6:d.cart.size≤200)(h7:d.item.size≤200):OU 12 (Gj who d):=by
 obtain ⟨v,hv,zv⟩:=UL BI d.kind Rl.1
 obtain ⟨L,hL,zL,aL⟩:=AiI h1 h2 h3 h4
 have p1:=WL d.at_
 have n1:=KO hw
 have n2:=KO h0
 have t1:=Ahq h5
 have q1:=XA d.text
 have i1:=ApM h7
 unfold Gj
 rw [hv,Option.bind_some,AA hw]
 simp only [AA h5,AA h0,hL]
 generalize (if Bz d.at_=true then BF d.at_ else ⟨#[63]⟩:ByteArray)=a1 at *
 simp only [Option.bind_some]
 rw [show BD [v,DY who] [EJ d.tag] = some [v,DY who,EJ d.tag] from rfl,show BD [v,DY who] [d.cart] = some [v,DY who,d.cart] from rfl]
 simp only [Option.bind_some]
 by_cases k8:d.kind=8
 ·rw [if_pos k8,show BD [v,DY who,EJ d.tag] L=some ([v,DY who,EJ d.tag]++L) from if_pos (by simp;omega),Option.bind_some]
  refine VE _ rfl (by simp;omega) ?_
  simp only [List.cons_append,List.nil_append,List.forall_mem_cons]
  exact ⟨by omega,by omega,by omega,aL⟩
 ·rw [if_neg k8]
  repeat' split
  all_goals refine VE _ rfl (by simp) ?_
  all_goals simp only [List.cons_append,List.nil_append,List.forall_mem_cons,List.not_mem_nil,false_implies,implies_true,and_true]
  all_goals omega
theorem Abv:∀(l:List Int) (w:List ByteArray),(∀x∈l,BX x)→l.length+w.length≤12→(∀a∈w,a.size≤300)→OU 12 (CQ l w)
 | [],w,_,h,hw=>⟨w,rfl,by simp at h;omega,hw⟩
 |x::l,w,hl,h,hw=>by
  simp only [List.length_cons] at h
  unfold CQ
  rw [AA (hl x (by simp)),show BD w [DY x] = some (w ++ [DY x]) from if_pos (by simp;omega),Option.bind_some]
  refine Abv l _ (fun y hy=>hl y (by simp [hy])) (by simp;omega) fun a ha=>?_
  rcases List.mem_append.1 ha with ha|ha
  ·exact hw a ha
  ·have:=KO (hl x (by simp));rw [List.mem_singleton.1 ha];omega
theorem Asi {r:ByteArray}{l:List Int}(hl:∀x∈l,BX x)(h:l.length≤11)(hr:r.size≤300):OU 12 (Ej r l):=by
 obtain ⟨w,h1,h2,h3⟩:=Abv l [r] hl (by simp;omega) (by simpa using hr)
 unfold Ej
 rw [AA (by omega),h1,Option.bind_some]
 exact ⟨w,rfl,h2,h3⟩
theorem Afz {m:Au}(hm:RG m)(h3:m.deed.lens.name.size≤200)(h4:m.deed.lens.other.size≤200)(h6:m.deed.cart.size≤200)(h7:m.deed.item.size≤200):OU 12 (Cc m):=by
 obtain ⟨⟨a1,a2,a3,a4,a5,a6⟩,a7,a8,a9,a10⟩:=hm
 obtain ⟨v,hv,zv⟩:=UL CW m.kind Rl.2.1
 unfold Cc
 split
 ·obtain ⟨w,h1,h2,h8⟩:=AlE a1 a7 a8 a9 a10 h3 h4 h6 h7
  rw [h1,Option.bind_some]
  exact ⟨w,rfl,h2,h8⟩
 ·rw [hv,Option.bind_some]
  repeat' split
  all_goals refine Asi ?_ (by simp) zv
  all_goals simp only [List.forall_mem_cons,List.not_mem_nil,false_implies,implies_true,and_true]
  all_goals first|done|exact ⟨a1,a2⟩|exact a3|exact ⟨a4,a5,a6⟩|exact ⟨a1,a3⟩|exact a1
theorem Aef {c:UInt8}:∀{l:List (List UInt8)},(∀w∈l,w.length≤300)→(G5 c l).length≤301*l.length
 | [],_=>by simp [G5]
 | [v],h=>by have:=h v (by simp);simp [G5];omega
 |v::u::r,h=>by
  have h1:=h v (by simp)
  have h2:=Aef (c:=c) (l:=u::r) fun w hw=>h w (by simp [hw])
  rw [G5,List.length_append,List.length_cons (a:=c)]
  simp only [List.length_cons] at h2 ⊢
  omega
theorem Ald {l:List ByteArray}(h1:l.length≤12)(h2:∀a∈l,a.size≤300):(Gp 32 l).size≤4000:=by
 have:=Aef (c:=32) (l:=l.map (·.data.toList)) (by
  intro w hw
  obtain ⟨a,ha,rfl⟩:=List.mem_map.1 hw
  rw [Ei];exact h2 a ha)
 rw [←Ei,UH]
 rw [List.length_map] at this
 omega
theorem Aep:∀l:List ByteArray,∃r,NT l=some r
 | []=>⟨_,rfl⟩
 |x::l=>by
  unfold NT
  split
  ·exact ⟨_,rfl⟩
  ·exact Aep l
theorem Afc (f:AB):∃b,QR f=some b∧(b=false→f.cases.length≤20):=by
 unfold QR
 split
 ·exact ⟨true,rfl,fun h=>by cases h⟩
 ·rename_i h
  obtain ⟨r,hr⟩:=Aep f.cases
  rw [AA (by omega),hr,Option.bind_some]
  cases r<;>exact ⟨_,rfl,fun _=>by omega⟩
theorem Aam:∀l:List (ByteArray×ByteArray),∃r,MN l=some r
 | []=>⟨_,rfl⟩
 |x::l=>by
  unfold MN
  split
  ·exact ⟨_,rfl⟩
  ·split
   ·exact ⟨_,rfl⟩
   ·exact Aam l
theorem Zn (l:List (ByteArray×ByteArray)):∃b,OV l=some b∧(b=false→l.length≤20):=by
 unfold OV
 split
 ·exact ⟨true,rfl,fun h=>by cases h⟩
 ·rename_i h
  obtain ⟨r,hr⟩:=Aam l
  rw [AA (by omega),hr,Option.bind_some]
  cases r<;>exact ⟨_,rfl,fun _=>by omega⟩
theorem Agi (x:AL):∃b,Qj x=some b∧(b=false→x.name.size≤200∧x.other.size≤200∧x.field.cases.length≤20∧x.forth.length≤20∧x.back.length≤20):=by
 obtain ⟨b1,e1,k1⟩:=Afc x.field
 obtain ⟨b2,e2,k2⟩:=Zn x.forth
 obtain ⟨b3,e3,k3⟩:=Zn x.back
 unfold Qj
 rw [e1,Option.bind_some,e2,Option.bind_some,e3,Option.bind_some]
 repeat' split
 all_goals first|exact ⟨true,rfl,fun h=>by cases h⟩|skip
 refine ⟨b3,rfl,fun h=>?_⟩
 have g1:b1=false:=by cases b1<;>simp_all
 have g2:b2=false:=by cases b2<;>simp_all
 have:=k1 g1
 have:=k2 g2
 have:=k3 h
 omega
theorem Ff {c:Prop} [Decidable c]{X:Option Bool}{R:Bool→Prop}(hf:R false)(h:c→∃s,X=some s∧R s):∃s,(if c then X else some false)=some s∧R s:=by
 by_cases e:c
 ·rw [if_pos e];exact h e
 ·rw [if_neg e];exact ⟨false,rfl,hf⟩
theorem Aub {a b:Au}(h1:a.deed.lens.field.cases.length≤20)(h2:a.deed.lens.forth.length≤20)(h3:a.deed.lens.back.length≤20):∃s,Oj a b=some s∧(s=true→a=b):=by
 unfold Oj
 simp only [AA (show a.deed.lens.field.cases.length≤1000000 by omega),AA (show a.deed.lens.forth.length≤1000000 by omega),AA (show a.deed.lens.back.length≤1000000 by omega)]
 refine Ff (fun h=>by cases h) fun e1=>?_
 refine Ff (fun h=>by cases h) fun e2=>?_
 refine Ff (fun h=>by cases h) fun e3=>?_
 refine Ff (fun h=>by cases h) fun e4=>?_
 refine Ff (fun h=>by cases h) fun e5=>?_
 refine Ff (fun h=>by cases h) fun e6=>?_
 refine Ff (fun h=>by cases h) fun e7=>?_
 refine Ff (fun h=>by cases h) fun e8=>?_
 refine Ff (fun h=>by cases h) fun e9=>?_
 refine Ff (fun h=>by cases h) fun e10=>?_
 refine Ff (fun h=>by cases h) fun e11=>?_
 refine Ff (fun h=>by cases h) fun e12=>?_
 refine Ff (fun h=>by cases h) fun e13=>?_
 refine Ff (fun h=>by cases h) fun e14=>?_
 refine Ff (fun h=>by cases h) fun e15=>?_
 refine Ff (fun h=>by cases h) fun e16=>?_
 refine Ff (fun h=>by cases h) fun e17=>?_
 refine Ff (fun h=>by cases h) fun e18=>?_
 refine Ff (fun h=>by cases h) fun e19=>?_
 refine Ff (fun h=>by cases h) fun e20=>?_
 refine Ff (fun h=>by cases h) fun e21=>?_
 refine ⟨_,rfl,fun h=>?_⟩
 have h:=of_decide_eq_true h
 clear h1 h2 h3
 rcases a with ⟨_,_,_,_,_,_,_,⟨_,_,_,_,_,_,_,⟨_,_,_,_,_,_,_,_⟩⟩⟩
 rcases b with ⟨_,_,_,_,_,_,_,⟨_,_,_,_,_,_,_,⟨_,_,_,_,_,_,_,_⟩⟩⟩
 simp only at *
 subst_vars
 rfl
theorem AjB {m:Au}(hm:RG m):Uy m=some true:=by
 unfold Uy
 rw [if_neg (by decide)]
 by_cases hd:OQ m.deed=true
 ·rw [if_pos hd]
 ·rw [if_neg hd]
  obtain ⟨b,hb,hB⟩:=Agi m.deed.lens
  rw [hb,Option.bind_some]
  cases b with
  |true=>rw [if_pos rfl]
  |false=>
   rw [if_neg (by decide)]
   obtain ⟨z1,z2,z3,z4,z5⟩:=hB rfl
   have hd':m.deed.cart.size≤200∧m.deed.item.size≤200:=by
    unfold OQ at hd
    simp only [decide_eq_true_eq] at hd
    omega
   obtain ⟨w,hw,n1,n2⟩:=Afz hm z1 z2 hd'.1 hd'.2
   have zj:=Ald n1 n2
   obtain ⟨t,ok,p1,p2,p3,p4⟩:=AuR (Gp 32 w) (by omega)
   have hP:QJ m=(if ok=true then ((Oj m t).bind fun r20=>if ¬(r20=true) then some (noB,5) else some (Gp 32 w,0)) else some (noB,5)):=by
    unfold QJ
    rw [hw,Option.bind_some,AA (by omega),AA (by omega),p1,Option.bind_some]
    cases ok<;>simp
   cases ok with
   |false=>rw [hP];simp
   |true=>
    obtain ⟨q1,q2,q3,q4⟩:=p3 rfl
    obtain ⟨s,hs,hS⟩:=Aub (a:=m) (b:=t) z3 z4 z5
    rw [hP,if_pos rfl,hs,Option.bind_some]
    cases s with
    |false=>simp
    |true=>
     obtain rfl:=hS rfl
     simp [p1,p2,AiC q2 q3 q4]
end Go.Vm
end
section
namespace Go.Vm
open Go.RowKit Go.Proofs
-- what is heavy, and how big numbers are
def Ry (r:Bv):Prop:=BX r.scope
def Wp (x:AB):Prop:=Ry x.at_∧BX x.kind∧BX x.worth
def XN (x:AL):Prop:=BX x.kind∧Ry x.at_∧BX x.factor∧Wp x.field
end Go.Vm
end
section
namespace Go.Vm
open Go.RowKit Go.Proofs
section
variable {b:List UInt8} {f:Int} {s:St}
def YW (t:BQ):Prop:=BX t.r∧BX t.n
end
end Go.Vm
end
section
namespace Go.Vm
open Go.RowKit Go.Proofs
set_option maxRecDepth 10000
open Go.RowKit
def AbO (d:AV):Prop:=BX d.kind∧Ry d.at_∧BX d.n∧YW d.tag∧XN d.lens
def Adg (m:Au):Prop:=BX m.kind∧BX m.who∧BX m.to_∧BX m.n∧BX m.re∧BX m.im∧BX m.off∧AbO m.deed
theorem Aug {m:Au}(h:Adg m):RG m:=by
 obtain ⟨_,h1,h2,h3,h4,h5,h6,_,_,h7,h8,h9⟩:=h
 unfold XN Wp at h9
 unfold RG
 exact ⟨⟨h1,h2,h3,h4,h5,h6⟩,h7,h8,h9.2.2.1,h9.2.2.2.2.2⟩
section
variable {P:Program} {w:World}
theorem Dl {ro:Aq}{es:List Value}{o k:Nat}{c d:List D}(h1:AX ro w ((es.drop o).take k) c)(h2:AX ro w (es.drop (o+k)) d):AX ro w (es.drop o) (c++d):=by
 have h:=h1.append h2
 rwa [←List.drop_drop,List.take_append_drop] at h
theorem MR {ro:Aq}{es:List Value}{o:Nat}(h:es.length=o):AX ro w (es.drop o) []:=by
 rw [List.drop_eq_nil_of_le (by omega)];exact AX.nil
theorem Jq {t:TypeId}{cs:List Value}(ht:P.underlying t=some .string)(h:Reads P w t cs):∃s:ByteArray,AX FI w cs [.sc (.string s)]:=by
 obtain ⟨s,rfl,_⟩:=h.string ht
 exact ⟨s,rfl,by simp [Value.oneCell'],fun j u c hu hc=>by cases j with|zero=>simp at hu hc;subst hu hc;exact .sc rfl|succ j=>simp at hu⟩
theorem Yt {t e:TypeId}{sz:Nat}{α:Type}{enc:α→D}{cs:List Value}(ht:P.underlying t=some (.slice e))(hsz:P.cellsOf e=sz)(h0:0<sz)(hw:∀x,(enc x).cells.length=sz)(hel:Cells P w e enc (fun _=>True))(h:Reads P w t cs):∃xs:List α,AX FI w cs [.row (xs.map enc)]:=by
 have hc:∃a l c,cs= [.slice a l c]:=by
  rcases h.slice ht with rfl|⟨a,l,c,rfl,_⟩
  ·exact ⟨_,_,_,rfl⟩
  ·exact ⟨_,_,_,rfl⟩
 obtain ⟨a,l,c,rfl⟩:=hc
 obtain ⟨xs,hx,_⟩:=row_of ht hsz h0 hw hel h
 exact ⟨xs,rfl,by simp [Value.oneCell'],fun j u c hu hc=>by cases j with|zero=>simp at hu hc;subst hu hc;exact hx|succ j=>simp at hu⟩
theorem Ajf {ro:Aq}{s:Array Value}{cs:List D}(h:AX ro w s.toList cs):Rep ro w (.agg s) (.agg cs):=.agg (by simpa using h.1) h.2.1 h.2.2
end
theorem Au4 (w:World):Cells Tryz.prog w 9 strD (fun _=>True):=by
 intro es h
 obtain ⟨s,hs⟩:=Jq Tryz.underlying9 h
 exact ⟨s,hs,trivial⟩
theorem pair_cells (w:World):Cells Tryz.prog w 172 G6 (fun _=>True):=by
 intro es h
 obtain ⟨hl,hf⟩:=h.struct Tryz.underlying172
 rw [show Tryz.prog.cellsOf 172=2 from by kernel_rfl] at hl
 have h0:=hf _ (List.mem_cons_self ..)
 simp only [show Tryz.prog.cellsOf 9=1 from by kernel_rfl] at h0
 obtain ⟨v0,r0⟩:=Jq Tryz.underlying9 h0
 have h1:=hf _ (List.mem_cons_of_mem _ (List.mem_cons_self ..))
 simp only [show Tryz.prog.cellsOf 9=1 from by kernel_rfl] at h1
 obtain ⟨v1,r1⟩:=Jq Tryz.underlying9 h1
 exact ⟨(v0,v1),Dl (o:=0) (k:=1) r0 (Dl (o:=1) (k:=1) r1 (MR hl)),trivial⟩
section
variable {P:Program} {w:World}
theorem Gn {t:TypeId}{cs:List Value}(ht:P.underlying t=some (.int .i64))(h:Reads P w t cs):∃n:Int,AX FI w cs [.sc (.int .i64 n)]∧BX n:=by
 obtain ⟨n,rfl,hw⟩:=h.int ht
 refine ⟨n,⟨rfl,by simp [Value.oneCell'],fun j u c hu hc=>by cases j with|zero=>simp at hu hc;subst hu hc;exact .sc rfl|succ j=>simp at hu⟩,?_⟩
 simp [Lit.wf,IntKind.min,IntKind.max,IntKind.signed,IntKind.bits] at hw
 exact ⟨by omega,by omega⟩
end
theorem UZ (w:World):Cells Tryz.prog w 38 rD Ry:=by
 intro es h
 obtain ⟨hl,hf⟩:=h.struct Tryz.underlying38
 rw [show Tryz.prog.cellsOf 38=3 from by kernel_rfl] at hl
 have h0:=hf _ (List.mem_cons_self ..)
 simp only [show Tryz.prog.cellsOf 3=1 from by kernel_rfl] at h0
 obtain ⟨v0,r0,o0⟩:=Gn Tryz.underlying3 h0
 have h1:=hf _ (List.mem_cons_of_mem _ (List.mem_cons_self ..))
 simp only [show Tryz.prog.cellsOf 9=1 from by kernel_rfl] at h1
 obtain ⟨v1,r1⟩:=Jq Tryz.underlying9 h1
 have h2:=hf _ (List.mem_cons_of_mem _ (List.mem_cons_of_mem _ (List.mem_cons_self ..)))
 simp only [show Tryz.prog.cellsOf 9=1 from by kernel_rfl] at h2
 obtain ⟨v2,r2⟩:=Jq Tryz.underlying9 h2
 exact ⟨⟨v0,v1,v2⟩,Dl (o:=0) (k:=1) r0 (Dl (o:=1) (k:=1) r1 (Dl (o:=2) (k:=1) r2 (MR hl))),o0⟩
theorem Aer (w:World):Cells Tryz.prog w 40 fD Wp:=by
 intro es h
 obtain ⟨hl,hf⟩:=h.struct Tryz.underlying40
 rw [show Tryz.prog.cellsOf 40=7 from by kernel_rfl] at hl
 have h0:=hf _ (List.mem_cons_self ..)
 simp only [show Tryz.prog.cellsOf 38=3 from by kernel_rfl] at h0
 obtain ⟨v0,r0,o0⟩:=UZ w _ h0
 have h1:=hf _ (List.mem_cons_of_mem _ (List.mem_cons_self ..))
 simp only [show Tryz.prog.cellsOf 3=1 from by kernel_rfl] at h1
 obtain ⟨v1,r1,o1⟩:=Gn Tryz.underlying3 h1
 have h2:=hf _ (List.mem_cons_of_mem _ (List.mem_cons_of_mem _ (List.mem_cons_self ..)))
 simp only [show Tryz.prog.cellsOf 9=1 from by kernel_rfl] at h2
 obtain ⟨v2,r2⟩:=Jq Tryz.underlying9 h2
 have h3:=hf _ (List.mem_cons_of_mem _ (List.mem_cons_of_mem _ (List.mem_cons_of_mem _ (List.mem_cons_self ..))))
 simp only [show Tryz.prog.cellsOf 34=1 from by kernel_rfl] at h3
 obtain ⟨v3,r3⟩:=Yt Tryz.underlying34 (show Tryz.prog.cellsOf 9=1 from by kernel_rfl) (by omega) (fun _=>rfl) (Au4 w) h3
 have h4:=hf _ (List.mem_cons_of_mem _ (List.mem_cons_of_mem _ (List.mem_cons_of_mem _ (List.mem_cons_of_mem _ (List.mem_cons_self ..)))))
 simp only [show Tryz.prog.cellsOf 2=1 from by kernel_rfl] at h4
 obtain ⟨v4,r4,o4⟩:=Gn Tryz.underlying2 h4
 exact ⟨⟨v0,v1,v2,v3,v4⟩,Dl (o:=0) (k:=3) r0 (Dl (o:=3) (k:=1) r1 (Dl (o:=4) (k:=1) r2 (Dl (o:=5) (k:=1) r3 (Dl (o:=6) (k:=1) r4 (MR hl))))),⟨o0,o1,o4⟩⟩
theorem AgB (w:World):Cells Tryz.prog w 43 lD XN:=by
 intro es h
 obtain ⟨hl,hf⟩:=h.struct Tryz.underlying43
 rw [show Tryz.prog.cellsOf 43=16 from by kernel_rfl] at hl
 have h0:=hf _ (List.mem_cons_self ..)
 simp only [show Tryz.prog.cellsOf 3=1 from by kernel_rfl] at h0
 obtain ⟨v0,r0,o0⟩:=Gn Tryz.underlying3 h0
 have h1:=hf _ (List.mem_cons_of_mem _ (List.mem_cons_self ..))
 simp only [show Tryz.prog.cellsOf 38=3 from by kernel_rfl] at h1
 obtain ⟨v1,r1,o1⟩:=UZ w _ h1
 have h2:=hf _ (List.mem_cons_of_mem _ (List.mem_cons_of_mem _ (List.mem_cons_self ..)))
 simp only [show Tryz.prog.cellsOf 9=1 from by kernel_rfl] at h2
 obtain ⟨v2,r2⟩:=Jq Tryz.underlying9 h2
 have h3:=hf _ (List.mem_cons_of_mem _ (List.mem_cons_of_mem _ (List.mem_cons_of_mem _ (List.mem_cons_self ..))))
 simp only [show Tryz.prog.cellsOf 9=1 from by kernel_rfl] at h3
 obtain ⟨v3,r3⟩:=Jq Tryz.underlying9 h3
 have h4:=hf _ (List.mem_cons_of_mem _ (List.mem_cons_of_mem _ (List.mem_cons_of_mem _ (List.mem_cons_of_mem _ (List.mem_cons_self ..)))))
 simp only [show Tryz.prog.cellsOf 2=1 from by kernel_rfl] at h4
 obtain ⟨v4,r4,o4⟩:=Gn Tryz.underlying2 h4
 have h5:=hf _ (List.mem_cons_of_mem _ (List.mem_cons_of_mem _ (List.mem_cons_of_mem _ (List.mem_cons_of_mem _ (List.mem_cons_of_mem _ (List.mem_cons_self ..))))))
 simp only [show Tryz.prog.cellsOf 40=7 from by kernel_rfl] at h5
 obtain ⟨v5,r5,o5⟩:=Aer w _ h5
 have h6:=hf _ (List.mem_cons_of_mem _ (List.mem_cons_of_mem _ (List.mem_cons_of_mem _ (List.mem_cons_of_mem _ (List.mem_cons_of_mem _ (List.mem_cons_of_mem _ (List.mem_cons_self ..)))))))
 simp only [show Tryz.prog.cellsOf 41=1 from by kernel_rfl] at h6
 obtain ⟨v6,r6⟩:=Yt Tryz.underlying41 (show Tryz.prog.cellsOf 172=2 from by kernel_rfl) (by omega) (fun _=>rfl) (pair_cells w) h6
 have h7:=hf _ (List.mem_cons_of_mem _ (List.mem_cons_of_mem _ (List.mem_cons_of_mem _ (List.mem_cons_of_mem _ (List.mem_cons_of_mem _ (List.mem_cons_of_mem _ (List.mem_cons_of_mem _ (List.mem_cons_self ..))))))))
 simp only [show Tryz.prog.cellsOf 41=1 from by kernel_rfl] at h7
 obtain ⟨v7,r7⟩:=Yt Tryz.underlying41 (show Tryz.prog.cellsOf 172=2 from by kernel_rfl) (by omega) (fun _=>rfl) (pair_cells w) h7
 exact ⟨⟨v0,v1,v2,v3,v4,v5,v6,v7⟩,Dl (o:=0) (k:=1) r0 (Dl (o:=1) (k:=3) r1 (Dl (o:=4) (k:=1) r2 (Dl (o:=5) (k:=1) r3 (Dl (o:=6) (k:=1) r4 (Dl (o:=7) (k:=7) r5 (Dl (o:=14) (k:=1) r6 (Dl (o:=15) (k:=1) r7 (MR hl)))))))),⟨o0,o1,o4,o5⟩⟩
theorem Asj (w:World):Cells Tryz.prog w 23 tD YW:=by
 intro es h
 obtain ⟨hl,hf⟩:=h.struct Tryz.underlying23
 rw [show Tryz.prog.cellsOf 23=2 from by kernel_rfl] at hl
 have h0:=hf _ (List.mem_cons_self ..)
 simp only [show Tryz.prog.cellsOf 3=1 from by kernel_rfl] at h0
 obtain ⟨v0,r0,o0⟩:=Gn Tryz.underlying3 h0
 have h1:=hf _ (List.mem_cons_of_mem _ (List.mem_cons_self ..))
 simp only [show Tryz.prog.cellsOf 3=1 from by kernel_rfl] at h1
 obtain ⟨v1,r1,o1⟩:=Gn Tryz.underlying3 h1
 exact ⟨⟨v0,v1⟩,Dl (o:=0) (k:=1) r0 (Dl (o:=1) (k:=1) r1 (MR hl)),⟨o0,o1⟩⟩
theorem AgK (w:World):Cells Tryz.prog w 45 Um AbO:=by
 intro es h
 obtain ⟨hl,hf⟩:=h.struct Tryz.underlying45
 rw [show Tryz.prog.cellsOf 45=26 from by kernel_rfl] at hl
 have h0:=hf _ (List.mem_cons_self ..)
 simp only [show Tryz.prog.cellsOf 3=1 from by kernel_rfl] at h0
 obtain ⟨v0,r0,o0⟩:=Gn Tryz.underlying3 h0
 have h1:=hf _ (List.mem_cons_of_mem _ (List.mem_cons_self ..))
 simp only [show Tryz.prog.cellsOf 9=1 from by kernel_rfl] at h1
 obtain ⟨v1,r1⟩:=Jq Tryz.underlying9 h1
 have h2:=hf _ (List.mem_cons_of_mem _ (List.mem_cons_of_mem _ (List.mem_cons_self ..)))
 simp only [show Tryz.prog.cellsOf 9=1 from by kernel_rfl] at h2
 obtain ⟨v2,r2⟩:=Jq Tryz.underlying9 h2
 have h3:=hf _ (List.mem_cons_of_mem _ (List.mem_cons_of_mem _ (List.mem_cons_of_mem _ (List.mem_cons_self ..))))
 simp only [show Tryz.prog.cellsOf 38=3 from by kernel_rfl] at h3
 obtain ⟨v3,r3,o3⟩:=UZ w _ h3
 have h4:=hf _ (List.mem_cons_of_mem _ (List.mem_cons_of_mem _ (List.mem_cons_of_mem _ (List.mem_cons_of_mem _ (List.mem_cons_self ..)))))
 simp only [show Tryz.prog.cellsOf 2=1 from by kernel_rfl] at h4
 obtain ⟨v4,r4,o4⟩:=Gn Tryz.underlying2 h4
 have h5:=hf _ (List.mem_cons_of_mem _ (List.mem_cons_of_mem _ (List.mem_cons_of_mem _ (List.mem_cons_of_mem _ (List.mem_cons_of_mem _ (List.mem_cons_self ..))))))
 simp only [show Tryz.prog.cellsOf 9=1 from by kernel_rfl] at h5
 obtain ⟨v5,r5⟩:=Jq Tryz.underlying9 h5
 have h6:=hf _ (List.mem_cons_of_mem _ (List.mem_cons_of_mem _ (List.mem_cons_of_mem _ (List.mem_cons_of_mem _ (List.mem_cons_of_mem _ (List.mem_cons_of_mem _ (List.mem_cons_self ..)))))))
 simp only [show Tryz.prog.cellsOf 23=2 from by kernel_rfl] at h6
 obtain ⟨v6,r6,o6⟩:=Asj w _ h6
 have h7:=hf _ (List.mem_cons_of_mem _ (List.mem_cons_of_mem _ (List.mem_cons_of_mem _ (List.mem_cons_of_mem _ (List.mem_cons_of_mem _ (List.mem_cons_of_mem _ (List.mem_cons_of_mem _ (List.mem_cons_self ..))))))))
 simp only [show Tryz.prog.cellsOf 43=16 from by kernel_rfl] at h7
 obtain ⟨v7,r7,o7⟩:=AgB w _ h7
 exact ⟨⟨v0,v1,v2,v3,v4,v5,v6,v7⟩,Dl (o:=0) (k:=1) r0 (Dl (o:=1) (k:=1) r1 (Dl (o:=2) (k:=1) r2 (Dl (o:=3) (k:=3) r3 (Dl (o:=6) (k:=1) r4 (Dl (o:=7) (k:=1) r5 (Dl (o:=8) (k:=2) r6 (Dl (o:=10) (k:=16) r7 (MR hl)))))))),⟨o0,o3,o4,o6,o7⟩⟩
theorem Ase (w:World):Cells Tryz.prog w 47 Jl Adg:=by
 intro es h
 obtain ⟨hl,hf⟩:=h.struct Tryz.underlying47
 rw [show Tryz.prog.cellsOf 47=33 from by kernel_rfl] at hl
 have h0:=hf _ (List.mem_cons_self ..)
 simp only [show Tryz.prog.cellsOf 3=1 from by kernel_rfl] at h0
 obtain ⟨v0,r0,o0⟩:=Gn Tryz.underlying3 h0
 have h1:=hf _ (List.mem_cons_of_mem _ (List.mem_cons_self ..))
 simp only [show Tryz.prog.cellsOf 3=1 from by kernel_rfl] at h1
 obtain ⟨v1,r1,o1⟩:=Gn Tryz.underlying3 h1
 have h2:=hf _ (List.mem_cons_of_mem _ (List.mem_cons_of_mem _ (List.mem_cons_self ..)))
 simp only [show Tryz.prog.cellsOf 3=1 from by kernel_rfl] at h2
 obtain ⟨v2,r2,o2⟩:=Gn Tryz.underlying3 h2
 have h3:=hf _ (List.mem_cons_of_mem _ (List.mem_cons_of_mem _ (List.mem_cons_of_mem _ (List.mem_cons_self ..))))
 simp only [show Tryz.prog.cellsOf 3=1 from by kernel_rfl] at h3
 obtain ⟨v3,r3,o3⟩:=Gn Tryz.underlying3 h3
 have h4:=hf _ (List.mem_cons_of_mem _ (List.mem_cons_of_mem _ (List.mem_cons_of_mem _ (List.mem_cons_of_mem _ (List.mem_cons_self ..)))))
 simp only [show Tryz.prog.cellsOf 2=1 from by kernel_rfl] at h4
 obtain ⟨v4,r4,o4⟩:=Gn Tryz.underlying2 h4
 have h5:=hf _ (List.mem_cons_of_mem _ (List.mem_cons_of_mem _ (List.mem_cons_of_mem _ (List.mem_cons_of_mem _ (List.mem_cons_of_mem _ (List.mem_cons_self ..))))))
 simp only [show Tryz.prog.cellsOf 2=1 from by kernel_rfl] at h5
 obtain ⟨v5,r5,o5⟩:=Gn Tryz.underlying2 h5
 have h6:=hf _ (List.mem_cons_of_mem _ (List.mem_cons_of_mem _ (List.mem_cons_of_mem _ (List.mem_cons_of_mem _ (List.mem_cons_of_mem _ (List.mem_cons_of_mem _ (List.mem_cons_self ..)))))))
 simp only [show Tryz.prog.cellsOf 2=1 from by kernel_rfl] at h6
 obtain ⟨v6,r6,o6⟩:=Gn Tryz.underlying2 h6
 have h7:=hf _ (List.mem_cons_of_mem _ (List.mem_cons_of_mem _ (List.mem_cons_of_mem _ (List.mem_cons_of_mem _ (List.mem_cons_of_mem _ (List.mem_cons_of_mem _ (List.mem_cons_of_mem _ (List.mem_cons_self ..))))))))
 simp only [show Tryz.prog.cellsOf 45=26 from by kernel_rfl] at h7
 obtain ⟨v7,r7,o7⟩:=AgK w _ h7
 exact ⟨⟨v0,v1,v2,v3,v4,v5,v6,v7⟩,Dl (o:=0) (k:=1) r0 (Dl (o:=1) (k:=1) r1 (Dl (o:=2) (k:=1) r2 (Dl (o:=3) (k:=1) r3 (Dl (o:=4) (k:=1) r4 (Dl (o:=5) (k:=1) r5 (Dl (o:=6) (k:=1) r6 (Dl (o:=7) (k:=26) r7 (MR hl)))))))),⟨o0,o1,o2,o3,o4,o5,o6,o7⟩⟩
end Go.Vm
end
section
namespace Go.Vm
open Go.RowKit Go.Proofs
set_option maxRecDepth 10000
end Go.Vm
namespace Go.Proofs.YtdfbohaohjaloaaGreatDoor
open Go.RowKit Go.Vm
theorem AtH (s0:Array Value)(w:World)(r0:Reads Tryz.prog w 47 s0.toList)(hG:∀g cs,Go.I9 g=some cs→g<w.heap.size∧∀(j:Nat) (u:Value),cs[j]? = some u→w.cell? ⟨g,j,none⟩=some u) :
 Calls Tryz.prog 6 #[.agg s0] w fun e w'=>e=.returned (.bool true)∧Below w.heap.size w w':=by
 obtain ⟨x0,hx0,o0⟩:=Ase w _ r0
 have hx0:=Ajf hx0
 refine law_true (Aey x0 true (AjB (Aug o0))) rfl ?_ (hG:=fun g cs hg=>⟨(hG g cs hg).1,rfl,(hG g cs hg).2⟩)
 intro i v d hv hd
 match i,hv,hd with
 |0,hv,hd=>simp at hv hd;subst hv hd;exact hx0
 |i+1,hv,_=>simp at hv
end Go.Proofs.YtdfbohaohjaloaaGreatDoor
namespace Go.Vm
end Go.Vm
end
section
namespace Go.Lib
def UU {H:Type}(zs:List (List UInt8)):DataW H:=.agg (zs.map fun z=>.lit (.string z))
theorem Al1 {H:Type}{enc:TypeId×Value→H}{P:Program}{w:World}{base:Nat}{sp:Nat→Bool}{held:Bool}{fuel:Nat}{t e:TypeId}{n:Nat}{cs:List Value}{zs:List (List UInt8)}{p:List MemPlace}
 (ht:P.underlying t=some (.array n e)) (he:P.underlying e=some .string) (hce:P.cellsOf e=1) (hct:P.cellsOf t=n)
 (h:DataW.trod enc P w base sp held fuel t cs=some (UU zs,p)):cs=zs.map fun z=>Value.string ⟨z.toArray⟩:=by
 cases fuel with
 |zero=>simp [DataW.trod] at h
 |succ fuel=>
  simp only [DataW.trod,ht,hce,hct,Nat.mul_one] at h
  split at h
  ·rename_i hl
   obtain ⟨xs,hm,hx⟩:=Option.map_eq_some_iff.1 h
   have hxs:xs.map (·.1)=zs.map fun z=>(DataW.lit (.string z):DataW H):=by
    have:=congrArg Prod.fst hx
    simpa [UU] using this
   have hxl:xs.length=n:=by simpa using mapM_length hm
   have hzl:zs.length=n:=by
    have:=congrArg List.length hxs
    simp at this
    omega
   apply List.ext_getElem?
   intro i
   by_cases hi:i<n
   ·obtain ⟨b,hb,hf⟩:=mapM_at hm i i (by simp [hi])
    obtain ⟨s,hc,rfl,_⟩:=DataW.trod_string he hf
    have h1:cs[i]? = some (.string s):=by
     have:=congrArg (·[0]?) hc
     simpa [List.getElem?_take,List.getElem?_drop] using this
    have h2:(xs.map (·.1))[i]? = some (DataW.lit (.string s.data.toList):DataW H):=by simp [hb]
    rw [hxs] at h2
    simp only [List.getElem?_map,Option.map_eq_some_iff,DataW.lit.injEq,Lit.string.injEq] at h2
    obtain ⟨z',hz',e⟩:=h2
    have:s=⟨z'.toArray⟩:=by rw [e]
    simp [h1,hz',this]
   ·rw [List.getElem?_eq_none (by omega),List.getElem?_eq_none (by simp;omega)]
  ·cases h
theorem RH {P:Program}{W:World}{name:String}{zs:List (List UInt8)}{rest:List (String×DataW Unit)}{g:Nat}{t e:TypeId}{n:Nat}
 (hg:P.globalNamed name=some g) (hty:(P.globals[g]?).map (·.type)=some t) (ht:P.underlying t=some (.array n e)) (he:P.underlying e=some .string) (hce:P.cellsOf e=1) (hct:P.cellsOf t=n) (hz:zs≠[])
 (h:laidMet P ((name,UU zs)::rest) W):g<W.heap.size∧∀(j:Nat) (u:Value),(zs.map fun z=>Value.string ⟨z.toArray⟩)[j]? = some u→W.cell? ⟨g,j,none⟩=some u:=by
 obtain ⟨ps,⟨g',t',cs,fuel,p,q,hg',ht',hvar,hd,_,_⟩,_⟩:=h
 obtain rfl:=Option.some.inj (hg.symm.trans hg')
 obtain rfl:=Option.some.inj (hty.symm.trans ht')
 have hcs:=Al1 ht he hce hct hd
 have hcell:∀(j:Nat) (u:Value),(zs.map fun z=>Value.string ⟨z.toArray⟩)[j]? = some u→W.cell? ⟨g,j,none⟩=some u:=by
  intro j u hu
  have:=World.var?_cell hg hvar j
  rw [←hcs] at hu
  rw [this];simpa using hu
 refine ⟨?_,hcell⟩
 cases zs with
 |nil=>exact absurd rfl hz
 |cons z zs=>exact World.block_lt_of_cell? W ⟨g,0,none⟩ (hcell 0 _ rfl)
end Go.Lib
end
section
namespace Go.Proofs.YtdfbohaohjaloaaGreatDoor
open Go.RowKit
set_option maxRecDepth 100000 in
theorem AmR (W:World)(h:laidMetH Tryz.prog Rows.scriptPrintsRow.laid W):∀g cs,Go.I9 g=some cs→g<W.heap.size∧∀(j:Nat) (u:Value),cs[j]? = some u→W.cell? ⟨g,j,none⟩=some u:=by
 rw [MakeChecks.laidMetH_plain _ _ _ (by kernel_rfl)] at h
 have h0:=h.tail
 have k0:=Lib.RH (g:=0) (t:=97) (e:=9) (n:=13) (zs:=[[],[97,100,100],[114,101,109,111,118,101],[97,100,106,117,115,116],[115,101,116],[112,117,116],[116,97,107,101],[99,108,101,97,114],[112,117,98,108,105,115,104],[115,119,105,116,99,104],[118,105,101,119],[97,116],[112,114,111,106,101,99,116]]) (by kernel_rfl) (by kernel_rfl) Tryz.underlying97 Tryz.underlying9 (by kernel_rfl) (by kernel_rfl) (by simp) h0
 have h1:=h0.tail
 have k1:=Lib.RH (g:=1) (t:=97) (e:=9) (n:=13) (zs:=[[],[],[104,101,108,108,111],[100,101,108,105,118,101,114],[108,111,115,101],[100,111,117,98,108,101],[99,117,116],[102,117,115,101],[99,114,97,115,104],[102,111,108,100],[109,101,101,116],[],[]]) (by kernel_rfl) (by kernel_rfl) Tryz.underlying97 Tryz.underlying9 (by kernel_rfl) (by kernel_rfl) (by simp) h1
 have h2:=h1.tail
 have k2:=Lib.RH (g:=2) (t:=97) (e:=9) (n:=13) (zs:=[[],[114,101,110,97,109,101],[],[],[104,111,105,115,116],[112,108,117,110,103,101],[115,112,108,105,116],[119,114,97,112],[],[],[],[],[]]) (by kernel_rfl) (by kernel_rfl) Tryz.underlying97 Tryz.underlying9 (by kernel_rfl) (by kernel_rfl) (by simp) h2
 have h3:=h2.tail
 have k3:=Lib.RH (g:=3) (t:=97) (e:=9) (n:=13) (zs:=[[],[99,111,117,110,116,101,114],[116,101,120,116],[],[108,105,115,116],[],[],[],[],[],[],[],[]]) (by kernel_rfl) (by kernel_rfl) Tryz.underlying97 Tryz.underlying9 (by kernel_rfl) (by kernel_rfl) (by simp) h3
 have h4:=h3.tail
 intro g cs hg
 match g,hg with
 |0,hg=>injection hg with hg;subst hg;exact k0
 |1,hg=>injection hg with hg;subst hg;exact k1
 |2,hg=>injection hg with hg;subst hg;exact k2
 |3,hg=>injection hg with hg;subst hg;exact k3
 |g+4,hg=>cases hg
end Go.Proofs.YtdfbohaohjaloaaGreatDoor
end
