/- Part 4. -/
import GoSem.Op.String
import Derived.Shelf.Strings.OnBuilder
import Derived.Room.Shelf.Join48
import Derived.Shelf.Strings.Split
import Derived.Shelf.Strings.Search2
import Derived.Ground.NamesProg
import Derived.Test.YtdfbohaohjaloaaGreatDoorProg
import Derived.Lib.IndexBytes
import Derived.Test.YtdfbohaohjaloaaGreatDoorScriptPrintsM3
set_option linter.unusedVariables false
set_option linter.unusedSimpArgs false
set_option maxHeartbeats 1000000
section
namespace Punnet.Num
set_option maxRecDepth 10000
open Go
theorem Ae2:Bq [] = 0:=rfl
theorem foldl_add (r:List UInt8):∀a:Nat,r.foldl (fun a b=>10*a+(b.toNat-48)) a=a*10 ^ r.length+Bq r:=by
 induction r with
 |nil=>intro a;simp [Bq]
 |cons b r ih=>
  intro a
  have e:Bq (b::r)=(10*0+(b.toNat-48))*10 ^ r.length+Bq r:=by rw [←ih];rfl
  rw [List.foldl_cons,ih,e,List.length_cons,Nat.pow_succ]
  simp only [Nat.mul_zero,Nat.zero_add,Nat.add_mul]
  rw [Nat.mul_comm 10 a,Nat.mul_assoc,Nat.mul_comm 10 (10 ^ r.length)]
  omega
theorem OE (b:UInt8)(r:List UInt8):Bq (b::r)=(b.toNat-48)*10 ^ r.length+Bq r:=by
 rw [Bq,List.foldl_cons,foldl_add];simp
def Digits (l:List UInt8):Prop:=∀b∈l,48≤b.toNat∧b.toNat≤57
theorem Digits.tail {b:UInt8}{r:List UInt8}(h:Digits (b::r)):Digits r:=fun x hx=>h x (List.mem_cons_of_mem _ hx)
theorem Digits.head {b:UInt8}{r:List UInt8}(h:Digits (b::r)):48≤b.toNat∧b.toNat≤57:=h b (List.mem_cons_self)
theorem Digits.append {x y:List UInt8}(hx:Digits x)(hy:Digits y):Digits (x++y):=fun b hb=>(List.mem_append.1 hb).elim (hx b) (hy b)
theorem Digits.left {x y:List UInt8}(h:Digits (x++y)):Digits x:=fun b hb=>h b (List.mem_append.2 (.inl hb))
theorem TU {l:List UInt8}(h:Digits l):Bq l<10 ^ l.length:=by
 induction l with
 |nil=>simp [Bq]
 |cons b r ih=>
  have h1:=ih h.tail
  have h2:=h.head
  rw [OE,List.length_cons,Nat.pow_succ]
  have:(b.toNat-48)*10 ^ r.length≤9*10 ^ r.length:=Nat.mul_le_mul_right _ (by omega)
  omega
theorem Abl:∀{x y:List UInt8},x.length=y.length→Digits x→Digits y→Op.bytesLess x y=decide (Bq x<Bq y)
 | [],[],_,_,_=>by simp [Op.bytesLess]
 | [],_::_,h,_,_=>by simp at h
 |_::_,[],h,_,_=>by simp at h
 |a::x,b::y,h,hx,hy=>by
  have hl:x.length=y.length:=by simpa using h
  have ih:=Abl hl hx.tail hy.tail
  have h1:=TU hx.tail
  have h2:=TU hy.tail
  have ha:=hx.head
  have hb:=hy.head
  rw [Op.bytesLess,ih,OE,OE,hl]
  rw [hl] at h1
  have hab:(a==b)=decide (a.toNat=b.toNat):=by
   by_cases e:a=b
   ·subst e;simp
   ·rw [beq_eq_false_iff_ne.2 e];symm;rw [decide_eq_false_iff_not];intro h;exact e (UInt8.toNat_inj.1 h)
  rw [hab]
  have hlt:(decide (a<b))=decide (a.toNat<b.toNat):=by simp [UInt8.lt_iff_toNat_lt]
  rw [hlt]
  rcases Nat.lt_trichotomy a.toNat b.toNat with hc|hc|hc
  ·have:(a.toNat-48+1)*10 ^ y.length≤(b.toNat-48)*10 ^ y.length:=Nat.mul_le_mul_right _ (by omega)
   rw [Nat.add_mul] at this
   simp [hc]
   omega
  ·have e:a.toNat-48=b.toNat-48:=by omega
   simp [hc]
  ·have:(b.toNat-48+1)*10 ^ y.length≤(a.toNat-48)*10 ^ y.length:=Nat.mul_le_mul_right _ (by omega)
   rw [Nat.add_mul] at this
   have hn:¬a.toNat<b.toNat:=by omega
   have hne:¬a.toNat=b.toNat:=by omega
   simp [hn,hne]
   omega
theorem Qp (d:Nat)(h:d<10):(UInt8.ofNat (48+d)).toNat=48+d:=by
 rw [UInt8.toNat_ofNat'];omega
theorem NV (m:Nat):Digits (BJ m):=by
 induction m using Nat.strongRecOn with
 |_ m ih=>
  by_cases h:m<10
  ·rw [JO h]
   intro b hb
   simp only [List.mem_singleton] at hb
   subst hb
   rw [Qp m h];omega
  ·rw [O3 h]
   refine (ih _ (by omega)).append fun b hb=>?_
   simp only [List.mem_singleton] at hb
   subst hb
   rw [Qp _ (by omega)];omega
theorem N8 (m:Nat):Bq (BJ m)=m:=by
 induction m using Nat.strongRecOn with
 |_ m ih=>
  by_cases h:m<10
  ·rw [JO h,OE,Qp m h];simp [Bq]
  ·rw [O3 h,Ue,ih _ (by omega),Qp _ (by omega)];omega
theorem Vg (m:Nat)(h:10≤m):10 ^ ((BJ m).length-1)≤m:=by
 induction m using Nat.strongRecOn with
 |_ m ih=>
  rw [O3 (by omega)]
  rw [List.length_append,List.length_singleton,Nat.add_sub_cancel]
  by_cases h2:m / 10<10
  ·rw [JO h2];simp;omega
  ·have:=ih (m / 10) (by omega) (by omega)
   have hp:0<(BJ (m / 10)).length:=List.length_pos_iff.2 (ML _)
   obtain ⟨k,hk⟩:∃k,(BJ (m / 10)).length=k+1:=⟨_,(Nat.succ_pred_eq_of_pos hp).symm⟩
   rw [hk] at this ⊢
   rw [Nat.pow_succ]
   simp only [Nat.add_sub_cancel] at this
   omega
theorem YD {a b:Nat}(h:(BJ a).length<(BJ b).length):a<b:=by
 have hb:10≤b:=by
  rcases Nat.lt_or_ge b 10 with hlt|hge
  ·rw [JO hlt] at h
   have:0<(BJ a).length:=List.length_pos_iff.2 (ML _)
   simp at h
   exact absurd h (ML a)
  ·exact hge
 have h1:=Vg b hb
 have h2:=TU (NV a)
 rw [N8] at h2
 have h3:10 ^ (BJ a).length≤10 ^ ((BJ b).length-1):=Nat.pow_le_pow_right (by omega) (by omega)
 omega
theorem Amr {a b:Nat}(h:(BJ a).length=(BJ b).length):Op.bytesLess (BJ a) (BJ b)=decide (a<b):=by
 rw [Abl h (NV a) (NV b),N8,N8]
theorem AlM {b:UInt8}{r:List UInt8}(h:Digits (b::r))(hb:b≠48):0<Bq (b::r):=by
 have h1:=h.head
 have h2:b.toNat≠48:=fun e=>hb (UInt8.toNat_inj.1 e)
 rw [OE]
 have:0<(b.toNat-48)*10 ^ r.length:=Nat.mul_pos (by omega) (Nat.pow_pos (by omega))
 omega
theorem Ahz (n:Nat):∀{l:List UInt8},l.length=n→Digits l→l≠[]→(l.head? = some 48→l.length=1)→BJ (Bq l)=l:=by
 induction n with
 |zero=>intro l hl _ hne _;exact absurd (List.length_eq_zero_iff.1 hl) hne
 |succ n ih=>
  intro l hl hd hne hz
  obtain ⟨r,b,rfl⟩:∃r b,l=r ++ [b]:=⟨_,_,(List.dropLast_concat_getLast hne).symm⟩
  have hb:48≤b.toNat∧b.toNat≤57:=hd b (by simp)
  have hr:r.length=n:=by simpa using hl
  have e48:UInt8.ofNat (48+(b.toNat-48))=b:=by
   rw [show 48+(b.toNat-48)=b.toNat by omega];simp
  rw [Ue]
  cases r with
  |nil=>
   rw [Ae2,JO (by omega),Nat.mul_zero,Nat.zero_add,e48];rfl
  |cons h t=>
   have hh:h≠48:=by
    rintro rfl
    have:=hz rfl
    simp at this
   have hp:=AlM hd.left hh
   rw [O3 (by omega),show (10*Bq (h::t)+(b.toNat-48)) / 10=Bq (h::t) by omega,show (10*Bq (h::t)+(b.toNat-48)) % 10=b.toNat-48 by omega,e48,
    ih hr hd.left (by simp) (fun e=>by simp at e;exact absurd e hh)]
theorem Ym {l:List UInt8}(hd:Digits l)(hne:l≠[])(hz:l.head? = some 48→l.length=1):BJ (Bq l)=l:=Ahz _ rfl hd hne hz
theorem Apw {m:Nat}(h:(BJ m).head? = some 48):m=0:=by
 have hd:=NV m
 have hn:=N8 m
 have hs:m<10∨¬m<10:=by omega
 rcases hs with hs|hs
 ·rw [JO hs] at h
  simp only [List.head?_cons,Option.some.injEq] at h
  have:=congrArg UInt8.toNat h
  rw [Qp m hs] at this
  have e:(48:UInt8).toNat=48:=rfl
  omega
 ·exfalso
  have hl:=Vg m (by omega)
  revert h hd hn hl
  have hlen:2≤(BJ m).length:=by
   rw [O3 hs]
   have:0<(BJ (m / 10)).length:=List.length_pos_iff.2 (ML _)
   simp
   omega
  revert hlen
  generalize BJ m=l
  intro hlen h hd hn hl
  cases l with
  |nil=>simp at h
  |cons b r=>
   simp at h
   subst h
   rw [OE] at hn
   have e:(48:UInt8).toNat-48=0:=rfl
   rw [e,Nat.zero_mul,Nat.zero_add] at hn
   have:=TU hd.tail
   rw [List.length_cons,Nat.add_sub_cancel] at hl
   omega
theorem Agc {m k:Nat}(h:m<10 ^ k)(hk:0<k):(BJ m).length≤k:=by
 rcases Nat.lt_or_ge m 10 with h1|h1
 ·rw [JO h1];exact hk
 ·have h2:=Vg m h1
  rcases Nat.lt_or_ge k (BJ m).length with h3|h3
  ·have:10 ^ k≤10 ^ ((BJ m).length-1):=Nat.pow_le_pow_right (by omega) (by omega)
   omega
  ·exact h3
def Fp (l:List UInt8):Bool:=decide (neg l<l.length)&&(l.drop (neg l)).all dig && !(decide ((l.drop (neg l)).head? = some 48)&&decide (l≠[48]))
structure JE (l:List UInt8):Prop where
 some_:neg l<l.length
 digits:Digits (l.drop (neg l))
 zero:(l.drop (neg l)).head? = some 48→neg l=0∧l.length=1
theorem isWord {l:List UInt8}(h:Fp l=true):JE l:=by
 simp only [Fp,Bool.and_eq_true,decide_eq_true_iff,Bool.not_eq_true',Bool.and_eq_false_iff,decide_eq_false_iff_not,ne_eq,Decidable.not_not] at h
 obtain ⟨⟨h1,h2⟩,h3⟩:=h
 refine ⟨h1,fun b hb=>?_,fun h=>?_⟩
 ·have:=List.all_eq_true.1 h2 b hb
  simpa [dig] using this
 ·rcases h3 with h3|h3
  ·exact absurd h h3
  ·subst h3;exact ⟨rfl,rfl⟩
theorem YX {l:List UInt8}(h:Digits l):l.all dig=true:=by
 rw [List.all_eq_true];intro b hb;simpa [dig] using h b hb
theorem Ajj {p:UInt8→Bool}{l:List UInt8}(h:l.all p=true):(l.takeWhile p).length=l.length:=by
 induction l with
 |nil=>rfl
 |cons b r ih=>
  simp only [List.all_cons,Bool.and_eq_true] at h
  rw [List.takeWhile_cons,if_pos h.1,List.length_cons,List.length_cons,ih h.2]
theorem JE.piece {l:List UInt8}(h:JE l):Ey l=l.length:=by
 have h1:=h.some_
 rw [Ey,Ajj (YX h.digits),List.length_drop,if_neg (by omega)]
 omega
theorem JE.read {l:List UInt8}(h:JE l):BU l=if neg l=1 then (if 9223372036854775808<Bq (l.drop (neg l)) then (0,3) else (-(Bq (l.drop (neg l)):Int),0))
 else (if 9223372036854775807<Bq (l.drop (neg l)) then (0,3) else ((Bq (l.drop (neg l)):Int),0)):=by
 have h1:=h.some_
 rw [BU,h.piece,if_neg (by omega),valueOf,if_neg]
 rintro ⟨hz,ho⟩
 obtain ⟨e1,e2⟩:=h.zero hz
 rw [List.length_drop] at ho
 omega
theorem Ab5 {l:List UInt8}(h:Fp l=false):BU l=(0,4):=by
 rw [BU]
 by_cases hp:Ey l=0∨Ey l≠l.length
 ·rw [if_pos hp]
 ·rw [if_neg hp,valueOf,if_pos]
  have hp2:Ey l=l.length:=by omega
  have hl:0<l.length:=by omega
  have hg:=YF hp2 hl
  have ha:(l.drop (neg l)).all dig=true:=by
   rw [List.all_eq_true]
   intro b hb
   obtain ⟨j,hj,rfl⟩:=List.getElem_of_mem hb
   rw [List.length_drop] at hj
   rw [List.getElem_drop]
   exact AaW hp2 hl _ (by omega) (by omega)
  rw [Fp,decide_eq_true hg,ha] at h
  simp only [Bool.and_self,Bool.true_and,Bool.not_eq_false',Bool.and_eq_true,decide_eq_true_iff] at h
  refine ⟨h.1,?_⟩
  have hn:=Acp l
  by_cases e:neg l=1
  ·exact .inl e
  ·right
   have e0:neg l=0:=by omega
   rw [e0] at h ⊢
   rw [List.drop_zero] at h ⊢
   obtain ⟨h1,h2⟩:=h
   match l,h1,h2,hl with
   | [b],h1,h2,_=>simp at h1;subst h1;exact absurd rfl h2
   |b::c::r,_,_,_=>simp
def KA (a b:List UInt8):Bool:=decide (a.length<b.length)||(decide (a.length=b.length)&&(Op.bytesLess a b||a==b))
theorem Aej (a b:Nat):KA (BJ a) (BJ b)=decide (a≤b):=by
 rw [KA]
 rcases Nat.lt_trichotomy (BJ a).length (BJ b).length with h|h|h
 ·have:=YD h
  rw [decide_eq_true h,Bool.true_or,eq_comm,decide_eq_true_iff];omega
 ·rw [decide_eq_false (by omega),decide_eq_true h,Amr h,Bool.false_or,Bool.true_and]
  have he:(BJ a==BJ b)=decide (a=b):=by
   by_cases e:a=b
   ·subst e;simp
   ·rw [decide_eq_false e,beq_eq_false_iff_ne]
    intro h2
    have:=congrArg Bq h2
    rw [N8,N8] at this
    exact e this
  rw [he,←Bool.decide_or,decide_eq_decide]
  omega
 ·have:=YD h
  rw [decide_eq_false (by omega),decide_eq_false (by omega),Bool.false_and,Bool.false_or,eq_comm,decide_eq_false_iff_not];omega
theorem JE.BJ {l:List UInt8}(h:JE l):BJ (Bq (l.drop (neg l)))=l.drop (neg l):=by
 have h1:=h.some_
 refine Ym h.digits (fun e=>?_) (fun hz=>?_)
 ·have:=congrArg List.length e
  rw [List.length_drop] at this
  simp at this
  omega
 ·obtain ⟨e1,e2⟩:=h.zero hz
  rw [List.length_drop];omega
theorem Arv:BJ 9223372036854775808= [57,50,50,51,51,55,50,48,51,54,56,53,52,55,55,53,56,48,56]:=
 Ym (l:=[57,50,50,51,51,55,50,48,51,54,56,53,52,55,55,53,56,48,56]) (by intro b hb;revert b;decide) (by decide) (by decide)
theorem Ari:BJ 9223372036854775807= [57,50,50,51,51,55,50,48,51,54,56,53,52,55,55,53,56,48,55]:=
 Ym (l:=[57,50,50,51,51,55,50,48,51,54,56,53,52,55,55,53,56,48,55]) (by intro b hb;revert b;decide) (by decide) (by decide)
theorem JE.As2 {l:List UInt8}(h:JE l):KA (l.drop (neg l)) [57,50,50,51,51,55,50,48,51,54,56,53,52,55,55,53,56,48,56] = decide (Bq (l.drop (neg l))≤9223372036854775808):=by
 rw [←Arv]
 conv=>lhs;rw [←h.BJ]
 exact Aej _ _
theorem JE.AsT {l:List UInt8}(h:JE l):KA (l.drop (neg l)) [57,50,50,51,51,55,50,48,51,54,56,53,52,55,55,53,56,48,55] = decide (Bq (l.drop (neg l))≤9223372036854775807):=by
 rw [←Ari]
 conv=>lhs;rw [←h.BJ]
 exact Aej _ _
def Ij (l:List UInt8)(k:Nat):Nat:=Bq ((l.take k).drop (neg l))
theorem XG (l:List UInt8):Ij l 0=0:=by simp [Ij,Bq]
theorem AmH {l:List UInt8}(h:neg l=1):Ij l 1=0:=by
 rw [Ij,h]
 have:((l.take 1).drop 1)= []:=List.drop_eq_nil_iff.2 (by simp;omega)
 rw [this];rfl
theorem Zt {l:List UInt8}{k:Nat}(hk:k<l.length)(hn:neg l≤k):Ij l (k+1)=10*Ij l k+(l[k].toNat-48):=by
 have hlen:(l.take k).length=k:=by simp;omega
 rw [Ij,List.take_succ_eq_append_getElem hk,List.drop_append_of_le_length (by omega),Ue];rfl
theorem YJ (l:List UInt8)(k:Nat):Ij l k≤Bq (l.drop (neg l)):=by
 rw [Ij,List.drop_take]
 exact V8 _ _
theorem ZX {l:List UInt8}{k:Nat}(h:l.length≤k):Ij l k=Bq (l.drop (neg l)):=by
 rw [Ij,List.take_of_length_le h]
theorem AvL (m:Nat)(b:List UInt8):neg (BJ m++b)=0:=by
 have hp:0<(BJ m).length:=List.length_pos_iff.2 (ML m)
 refine NU (by rw [List.length_append];omega) ?_
 rw [List.getElem_append_left hp]
 have:=NV m _ (List.getElem_mem hp)
 omega
theorem VU (n:Int)(b:List UInt8):neg (print n++b)=if n<0 then 1 else 0:=by
 rw [print]
 split
 ·rfl
 ·exact AvL _ _
theorem AaX (n:Int)(b:List UInt8):(print n++b).drop (neg (print n++b))=BJ n.natAbs++b:=by
 rw [VU,print]
 split
 ·rfl
 ·rfl
theorem Afr {p:UInt8→Bool}{x y:List UInt8}(hx:x.all p=true)(hy:∀b,y.head? = some b→p b=false):(x++y).takeWhile p=x:=by
 induction x with
 |nil=>
  cases y with
  |nil=>rfl
  |cons b r=>rw [List.nil_append,List.takeWhile_cons,if_neg (by simp [hy b rfl])]
 |cons b r ih=>
  simp only [List.all_cons,Bool.and_eq_true] at hx
  rw [List.cons_append,List.takeWhile_cons,if_pos hx.1,ih hx.2]
theorem WW (n:Int):(print n).length=(if n<0 then 1 else 0)+(BJ n.natAbs).length:=by
 rw [print];split<;>simp<;>omega
theorem Anb (n:Int){b:List UInt8}(hb:∀c,b.head? = some c→dig c=false):Ey (print n++b)=(print n).length:=by
 have hp:0<(BJ n.natAbs).length:=List.length_pos_iff.2 (ML _)
 rw [Ey,AaX,Afr (YX (NV _)) hb,if_neg (by omega),VU,WW]
theorem Aob {n:Int}(h0 : -9223372036854775808≤n)(h1:n≤9223372036854775807):valueOf (print n)=(n,0):=by
 have hd:=AaX n []
 have hn:=VU n []
 rw [List.append_nil] at hd hn
 rw [List.append_nil] at hd
 rw [valueOf,hd,hn,N8,if_neg]
 ·by_cases h:n<0
  ·rw [if_pos h,if_pos rfl,if_neg (by omega)];congr 1;omega
  ·rw [if_neg h,if_neg (by omega),if_neg (by omega)];congr 1;omega
 ·rintro ⟨hz,ho⟩
  have:=Apw hz
  rw [this] at ho
  simp [JO] at ho
  omega
theorem O9 {n:Int}(h0 : -9223372036854775808≤n)(h1:n≤9223372036854775807):BU (print n)=(n,0):=by
 have hp:=Anb n (b:=[]) (by simp)
 rw [List.append_nil] at hp
 have hpos:0<(print n).length:=by
  have:=List.length_pos_iff.2 (ML n.natAbs)
  rw [WW];omega
 rw [BU,hp,if_neg (by omega),Aob h0 h1]
theorem VZ {l:List UInt8}(h:(BU l).2=0):print (BU l).1=l∧-9223372036854775808≤(BU l).1∧(BU l).1≤9223372036854775807:=by
 cases hw:Fp l with
 |false=>rw [Ab5 hw] at h;exact absurd h (by decide)
 |true=>
  have iw:=isWord hw
  have hr:=iw.read
  have hdg:=iw.BJ
  have hn:=Acp l
  have hs:=iw.some_
  by_cases e:neg l=1
  ·rw [if_pos e] at hr
   by_cases hov:9223372036854775808<Bq (l.drop (neg l))
   ·rw [hr,if_pos hov] at h;exact absurd h (by decide)
   ·rw [hr,if_neg hov]
    have hpos:0<Bq (l.drop (neg l)):=by
     rcases Nat.eq_zero_or_pos (Bq (l.drop (neg l))) with hz|hz
     ·exfalso
      rw [hz] at hdg
      have:=iw.zero (by rw [←hdg];simp [JO])
      omega
     ·exact hz
    refine ⟨?_,by omega,by omega⟩
    simp only [print]
    rw [if_pos (by omega),show (-(Bq (l.drop (neg l)):Int)).natAbs=Bq (l.drop (neg l)) by omega,hdg,e]
    match l,e,hs with
    |b::r,e,_=>
     simp only [neg] at e
     have hb:b.toNat=45:=by
      by_cases hb:b.toNat=45
      ·exact hb
      ·rw [if_neg hb] at e;exact absurd e (by decide)
     have:b=45:=UInt8.toNat_inj.1 hb
     subst this;rfl
  ·have e0:neg l=0:=by omega
   rw [if_neg e] at hr
   by_cases hov:9223372036854775807<Bq (l.drop (neg l))
   ·rw [hr,if_pos hov] at h;exact absurd h (by decide)
   ·rw [hr,if_neg hov]
    refine ⟨?_,by omega,by omega⟩
    simp only [print]
    rw [if_neg (by omega),show ((Bq (l.drop (neg l)):Int)).natAbs=Bq (l.drop (neg l)) by omega,hdg,e0];rfl
end Punnet.Num
end
section
namespace Go.Vm
def i64 (u:Nat):Int:=if u<9223372036854775808 then (u:Int) else (u:Int)-18446744073709551616
abbrev BX (n:Int):Prop:=-9223372036854775808≤n∧n<9223372036854775808
end Go.Vm
end
section
namespace Go.Vm
abbrev St:=Nat×Bool
variable {b:List UInt8} {f most:Int} {s:St}
end Go.Vm
end
section
namespace Go.Vm
section
variable {b:List UInt8} {f most:Int} {s:St}
theorem Aap {s:ByteArray}(h:nameB s=true):s.size≤12:=by
 unfold nameB at h
 simp only [Bool.and_eq_true,decide_eq_true_eq] at h
 exact h.1.2
theorem Xc {r:Bv}(h:Bz r=true):BX r.scope∧r.group.size≤12∧r.name.size≤12:=by
 unfold Bz at h
 simp only [Bool.and_eq_true,Bool.or_eq_true,decide_eq_true_eq] at h
 obtain ⟨⟨h1,h2⟩,h3⟩:=h
 refine ⟨by omega,?_,Aap h2⟩
 rcases h3 with h3|h3
 ·rw [h3];decide
 ·exact Aap h3
structure OkF (x:AB):Prop where
 scope:BX x.at_.scope
 group:x.at_.group.size≤200
 name:x.at_.name.size≤200
 kind:BX x.kind
 deft:x.deft.size≤200
 cases:x.cases.length≤20
 each:∀t∈x.cases,t.size≤200
 worth:BX x.worth
end
end Go.Vm
end
section
namespace Go.Vm
open Go.Proofs.YtdfbohaohjaloaaGreatDoor Punnet.Name Punnet.Num
-- places
def Jc (r:Bv):List UInt8:=(if r.scope=1 then [108,105,110,101] else [104,101,97,100])++((if r.group=noB then [] else 46::r.group.data.toList)++46::r.name.data.toList)
def BF (r:Bv):ByteArray:=mkB (Jc r)
def OD (r:Bv):ByteArray:=if r.scope=1 then (⟨#[108,105,110,101]⟩:ByteArray) else (⟨#[104,101,97,100]⟩:ByteArray)
theorem Qe {r:Bv}(h:Bz r=true):(r.scope=0∨r.scope=1)∧nameB r.name=true∧(r.group=noB∨nameB r.group=true):=by
 unfold Bz at h
 simp only [Bool.and_eq_true,Bool.or_eq_true,decide_eq_true_eq] at h
 exact ⟨h.1.1,h.1.2,h.2⟩
theorem AcT {r:Bv}(h:Bz r=true):Az 46 (BF r)=OD r::(if r.group=noB then [r.name] else [r.group,r.name]):=by
 obtain ⟨h0,h1,h2⟩:=Qe h
 have hn:(46:UInt8) ∉ r.name.data.toList:=QZ h1 (by decide)
 unfold Az BF Jc OD
 rw [ED]
 by_cases hg:r.group=noB
 ·rw [if_pos hg,if_pos hg,List.nil_append]
  split
  ·rw [LM _ (by decide),PL hn];simp [MW]
  ·rw [LM _ (by decide),PL hn];simp [MW]
 ·have hgf:(46:UInt8) ∉ r.group.data.toList:=QZ (h2.resolve_left hg) (by decide)
  rw [if_neg hg,if_neg hg,List.cons_append]
  split
  ·rw [LM _ (by decide),LM _ hgf,PL hn];simp [MW]
  ·rw [LM _ (by decide),LM _ hgf,PL hn];simp [MW]
def EW (l:List ByteArray):Bv:=⟨if l.getD 0 noB=(⟨#[108,105,110,101]⟩:ByteArray) then 1 else 0,if l.length=3 then l.getD 1 noB else noB,if l.length=2 then l.getD 1 noB else if l.length=3 then l.getD 2 noB else noB⟩
theorem Ro {r:Bv}(h:Bz r=true):EW (Az 46 (BF r))=r:=by
 obtain ⟨h0,h1,h2⟩:=Qe h
 rw [AcT h]
 obtain ⟨sc,g,n⟩:=r
 unfold EW OD
 by_cases hg:g=noB
 ·subst hg
  rcases h0 with h0|h0
  ·simp only at h0;subst h0;rfl
  ·simp only at h0;subst h0;rfl
 ·rcases h0 with h0|h0
  ·simp only at h0;subst h0;simp only [if_neg hg];rfl
  ·simp only at h0;subst h0;simp only [if_neg hg];rfl
theorem Awb {r q:Bv}(h:Bz r=true)(k:Bz q=true)(e:BF r=BF q):r=q:=by
 rw [←Ro h,←Ro k,e]
open Classical in
noncomputable def placeOf (s:ByteArray):Option Bv:=if h:∃r,Bz r=true∧BF r=s then some h.choose else none
theorem Jv {r:Bv}{s:ByteArray}(h:Bz r=true)(e:BF r=s):placeOf s=some r:=by
 have hx:∃r,Bz r=true∧BF r=s:=⟨r,h,e⟩
 unfold placeOf
 rw [dif_pos hx]
 exact congrArg some (Awb hx.choose_spec.1 h (hx.choose_spec.2.trans e.symm))
theorem Yr {r:Bv}{s:ByteArray}(h:placeOf s=some r):Bz r=true∧BF r=s:=by
 unfold placeOf at h
 split at h
 ·rename_i hx;injection h with h;subst h;exact hx.choose_spec
 ·cases h
theorem Nk {s:ByteArray}(h:∀r,Bz r=true→BF r=s→False):placeOf s=none:=by
 cases e:placeOf s with
 |none=>rfl
 |some r=>exact absurd (Yr e).2 (fun k=>h r (Yr e).1 k)
theorem Aum (r:Bv):OD r=(⟨#[104,101,97,100]⟩:ByteArray)∨OD r=(⟨#[108,105,110,101]⟩:ByteArray):=by unfold OD;split;exact .inr rfl;exact .inl rfl
theorem Arz {s:ByteArray}(h:¬(Az 46 s).getD 0 noB=(⟨#[104,101,97,100]⟩:ByteArray))(h2:¬(Az 46 s).getD 0 noB=(⟨#[108,105,110,101]⟩:ByteArray)):placeOf s=none:=Nk fun r hr e=>by
 rw [←e,AcT hr] at h h2
 rcases Aum r with k|k
 ·exact h k
 ·exact h2 k
theorem PG {s:ByteArray}(h:Bz (EW (Az 46 s))=false):placeOf s=none:=Nk fun r hr e=>by
 rw [←e,Ro hr,hr] at h;cases h
theorem O6 {s:ByteArray}(h:¬BF (EW (Az 46 s))=s):placeOf s=none:=Nk fun r hr e=>by
 rw [←e,Ro hr] at h;exact h rfl
-- as the document reads it
def Bc (s:ByteArray):Nat→ByteArray×ByteArray
 |0=>(noB,s.extract 5 s.size)
 |k+1=>if s[5+k]? = some 46∧(Bc s k).1=noB then (s.extract 5 (5+k),s.extract (5+k+1) s.size) else Bc s k
theorem MH (s:ByteArray)(a b:Nat):(s.extract a b).data.toList=(s.data.toList.take b).drop a:=by
 rw [Lib.extract_data,List.drop_take]
theorem NK (s:ByteArray)(k:Nat):s[k]? = s.data.toList[k]? := by
 by_cases h:k<s.size
 ·rw [getElem?_pos s k h,List.getElem?_eq_getElem (by exact h)];rfl
 ·rw [List.getElem?_eq_none (by have:=Ei s;omega)]
  exact getElem?_neg s k h
theorem Ze {s:ByteArray}{k:Nat}(h:∀j,j<k→¬s[5+j]? = some 46):Bc s k=(noB,s.extract 5 s.size):=by
 induction k with
 |zero=>rfl
 |succ k ih=>rw [Bc,if_neg (fun x=>h k (by omega) x.1),ih fun j hj=>h j (by omega)]
theorem AcN {s:ByteArray}{k:Nat}(h:¬(Bc s k).1=noB):∀d,Bc s (k+d)=Bc s k
 |0=>rfl
 |d+1=>by rw [←Nat.add_assoc,Bc,AcN h d,if_neg (fun x=>h x.2)]
def GI (r:Bv):List UInt8:=if r.scope=1 then [108,105,110,101] else [104,101,97,100]
theorem XY (r:Bv):(GI r).length=4:=by unfold GI;split<;>rfl
theorem Ams {r:Bv}(h:Bz r=true):Bc (BF r) ((BF r).size-5)=(r.group,r.name):=by
 obtain ⟨h0,h1,h2⟩:=Qe h
 have hn:(46:UInt8) ∉ r.name.data.toList:=QZ h1 (by decide)
 have hd:(BF r).data.toList=GI r++((if r.group=noB then [] else 46::r.group.data.toList)++46::r.name.data.toList):=ED _
 have h4:=XY r
 have hsz:(BF r).size=(BF r).data.toList.length:=(Ei _).symm
 by_cases hg:r.group=noB
 ·rw [if_pos hg,List.nil_append] at hd
  have hsz2:(BF r).size=5+r.name.data.toList.length:=by rw [hsz,hd,List.length_append,h4,List.length_cons];omega
  rw [Ze,hg]
  ·congr 1
   apply GN
   rw [MH,hsz,List.take_length,hd,show GI r++46::r.name.data.toList=(GI r ++ [46])++r.name.data.toList by simp,List.drop_left' (by rw [List.length_append,h4];rfl)]
  ·intro j hj e
   rw [NK,hd,show GI r++46::r.name.data.toList=(GI r ++ [46])++r.name.data.toList by simp,List.getElem?_append_right (by rw [List.length_append,h4,List.length_singleton];omega)] at e
   exact hn (List.mem_of_getElem? e)
 ·rw [if_neg hg,List.cons_append] at hd
  have hgf:(46:UInt8) ∉ r.group.data.toList:=QZ (h2.resolve_left hg) (by decide)
  have hd2:(BF r).data.toList=(GI r ++ [46])++(r.group.data.toList++46::r.name.data.toList):=by rw [hd];simp
  have h5:(GI r ++ [46]).length=5:=by rw [List.length_append,h4];rfl
  have hsz2:(BF r).size=5+(r.group.data.toList.length+(1+r.name.data.toList.length)):=by rw [hsz,hd2,List.length_append,h5,List.length_append,List.length_cons];omega
  have c1:Bc (BF r) r.group.data.toList.length=(noB,(BF r).extract 5 (BF r).size):=Ze fun j hj e=>by
   rw [NK,hd2,List.getElem?_append_right (by rw [h5];omega),h5,Nat.add_sub_cancel_left,List.getElem?_append_left hj] at e
   exact hgf (List.mem_of_getElem? e)
  have c2:Bc (BF r) (r.group.data.toList.length+1)=(r.group,r.name):=by
   rw [Bc,c1,if_pos]
   ·congr 1
    ·apply GN
     rw [MH,hd2,List.drop_take,List.drop_left' h5,Nat.add_sub_cancel_left,List.take_left]
    ·apply GN
     rw [MH,hsz,List.take_length,hd2,show (GI r ++ [46])++(r.group.data.toList++46::r.name.data.toList)=((GI r ++ [46])++(r.group.data.toList ++ [46]))++r.name.data.toList by simp,List.drop_left' (by rw [List.length_append,h5,List.length_append,List.length_singleton];omega)]
   ·refine ⟨?_,rfl⟩
    rw [NK,hd2,List.getElem?_append_right (by rw [h5];omega),h5,Nat.add_sub_cancel_left,List.getElem?_append_right (Nat.le_refl _),Nat.sub_self];rfl
  have hne:¬(Bc (BF r) (r.group.data.toList.length+1)).1=noB:=by rw [c2];exact hg
  rw [show (BF r).size-5=r.group.data.toList.length+1+r.name.data.toList.length by omega,AcN hne,c2]
def Gv (s:ByteArray):Bv:=⟨if s[0]? = some 108 then 1 else 0,(Bc s (s.size-5)).1,(Bc s (s.size-5)).2⟩
theorem Aal {r:Bv}(h:Bz r=true):Gv (BF r)=r:=by
 obtain ⟨h0,_,_⟩:=Qe h
 unfold Gv
 rw [Ams h,NK,show (BF r).data.toList=Jc r from ED _]
 obtain ⟨sc,g,n⟩:=r
 unfold Jc
 rcases h0 with h0|h0
 ·simp only at h0;subst h0;rfl
 ·simp only at h0;subst h0;rfl
theorem AoZ {r:Bv}(h:Bz r=true):6≤(BF r).size:=by
 obtain ⟨h0,h1,_⟩:=Qe h
 have hn:=Yw h1
 have:0<r.name.data.toList.length:=List.length_pos_iff.2 hn
 rw [←Ei,show (BF r).data.toList=Jc r from ED _]
 unfold Jc
 have h4:=XY r
 unfold GI at h4
 simp only [List.length_append,List.length_cons]
 omega
theorem AlD {r:Bv}:(BF r).extract 0 5=(⟨#[104,101,97,100,46]⟩:ByteArray)∨(BF r).extract 0 5=(⟨#[108,105,110,101,46]⟩:ByteArray):=by
 have:((BF r).extract 0 5).data.toList=GI r ++ [46]:=by
  rw [MH,show (BF r).data.toList=Jc r from ED _]
  unfold Jc GI
  split<;>split<;>rfl
 unfold GI at this
 split at this
 ·exact .inr (GN this)
 ·exact .inl (GN this)
theorem AtO {s:ByteArray}(h:s.size<6):placeOf s=none:=Nk fun r hr e=>by have:=AoZ hr;rw [e] at this;omega
theorem AoT {s:ByteArray}(h:¬s.extract 0 5=(⟨#[104,101,97,100,46]⟩:ByteArray))(h2:¬s.extract 0 5=(⟨#[108,105,110,101,46]⟩:ByteArray)):placeOf s=none:=Nk fun r hr e=>by
 rcases AlD (r:=r) with k|k
 ·rw [e] at k;exact h k
 ·rw [e] at k;exact h2 k
theorem RJ {s:ByteArray}(h:Bz (Gv s)=false):placeOf s=none:=Nk fun r hr e=>by
 rw [←e,Aal hr,hr] at h;cases h
theorem UB {s:ByteArray}(h:¬BF (Gv s)=s):placeOf s=none:=Nk fun r hr e=>by
 rw [←e,Aal hr] at h;exact h rfl
-- tags
def EJ (t:BQ):ByteArray:=mkB (print t.r++46::print t.n)
def G7 (t:BQ):Prop:=BX t.r∧BX t.n
theorem Aj0 (n:Int){c:UInt8}(hc:c.toNat<45∨(45<c.toNat∧c.toNat<48)∨57<c.toNat):c ∉ print n:=by
 have hd:=NV n.natAbs
 unfold print
 intro k
 split at k
 ·rcases List.mem_cons.1 k with k|k
  ·rw [k] at hc;revert hc;decide
  ·have:=hd c k;omega
 ·have:=hd c k;omega
theorem UW (t:BQ):Cm 46 (EJ t).data.toList=(print t.r,print t.n,true):=by
 unfold EJ;rw [ED];exact PX (Aj0 _ (by decide))
theorem AiN {t u:BQ}(h:G7 t)(k:G7 u)(e:EJ t=EJ u):t=u:=by
 have h1:=UW t
 rw [e,UW u] at h1
 injection h1 with h1 h2
 injection h2 with h2 _
 have q1:=O9 (n:=t.r) (by have:=h.1;omega) (by have:=h.1;omega)
 have q2:=O9 (n:=u.r) (by have:=k.1;omega) (by have:=k.1;omega)
 have q3:=O9 (n:=t.n) (by have:=h.2;omega) (by have:=h.2;omega)
 have q4:=O9 (n:=u.n) (by have:=k.2;omega) (by have:=k.2;omega)
 rw [←h1,q2] at q1
 rw [←h2,q4] at q3
 obtain ⟨a,b⟩:=t
 obtain ⟨a',b'⟩:=u
 injection q1 with q1 _
 injection q3 with q3 _
 simp only at q1 q3
 rw [q1,q3]
open Classical in
noncomputable def C9 (s:ByteArray):Option BQ:=if h:∃t,G7 t∧EJ t=s then some h.choose else none
theorem AeQ {t:BQ}{s:ByteArray}(h:G7 t)(e:EJ t=s):C9 s=some t:=by
 have hx:∃t,G7 t∧EJ t=s:=⟨t,h,e⟩
 unfold C9
 rw [dif_pos hx]
 exact congrArg some (AiN hx.choose_spec.1 h (hx.choose_spec.2.trans e.symm))
theorem UT {t:BQ}{s:ByteArray}(h:C9 s=some t):G7 t∧EJ t=s:=by
 unfold C9 at h
 split at h
 ·rename_i hx;injection h with h;subst h;exact hx.choose_spec
 ·cases h
theorem ApI {s:ByteArray}(h:∀t,G7 t→EJ t=s→False):C9 s=none:=by
 cases e:C9 s with
 |none=>rfl
 |some r=>exact absurd (UT e).2 (fun k=>h r (UT e).1 k)
theorem Zy {s:ByteArray}{a b:List UInt8}{f:Bool}(h:Cm 46 s.data.toList=(a,b,f))(h1:(BU a).2=0)(h2:(BU b).2=0):C9 s=some ⟨(BU a).1,(BU b).1⟩:=by
 obtain ⟨p1,p2,p3⟩:=VZ h1
 obtain ⟨q1,q2,q3⟩:=VZ h2
 refine AeQ (t:=⟨(BU a).1,(BU b).1⟩) ⟨⟨by omega,by show (BU a).1 < _;omega⟩,⟨by omega,by show (BU b).1 < _;omega⟩⟩ ?_
 by_cases hc:(46:UInt8)∈s.data.toList
 ·obtain ⟨x,r,e,hx⟩:=Agt hc
  rw [e,PX hx] at h
  injection h with e1 h
  injection h with e2 _
  apply GN
  unfold EJ
  rw [ED,e,p1,q1,e1,e2]
 ·rw [TF hc] at h
  injection h with e1 h
  injection h with e2 _
  rw [←e2] at h2
  exact absurd h2 (by decide)
theorem Qx {s:ByteArray}{a b:List UInt8}{f:Bool}(h:Cm 46 s.data.toList=(a,b,f))(h1:¬((BU a).2=0∧(BU b).2=0)):C9 s=none:=ApI fun t ht e=>by
 rw [←e,UW t] at h
 injection h with e1 h
 injection h with e2 _
 apply h1
 rw [←e1,←e2,O9 (by have:=ht.1;omega) (by have:=ht.1;omega),O9 (by have:=ht.2;omega) (by have:=ht.2;omega)]
 exact ⟨rfl,rfl⟩
end Go.Vm
end
section
namespace Go.Vm
open Go.Proofs.YtdfbohaohjaloaaGreatDoor Punnet.Name Punnet.Num
def MI (s:ByteArray):ByteArray:=mkB (Ib s.data.toList)
def VG (w:List ByteArray):ByteArray:=Gp 32 w
theorem Aec (s:ByteArray):VG (splitB s 0)=s:=by
 have h:=Atp s s.size 0 (by omega) (Nat.zero_le _)
 have e:∀l:List ByteArray,joinL l=G5 32 (l.map (·.data.toList)):=by
  intro l
  induction l with
  |nil=>rfl
  |cons a l ih=>
   cases l with
   |nil=>rfl
   |cons b r=>show a.data.toList++32::joinL (b::r)=_;rw [ih];rfl
 rw [e,List.drop_zero] at h
 exact GN ((ED _).trans h)
-- what the words tell
abbrev wd (w:List ByteArray)(i:Nat):ByteArray:=w.getD i noB
abbrev AU (s:ByteArray):Int×Int:=BU s.data.toList
theorem Aru (s:ByteArray):(MI s).size=(Ib s.data.toList).length:=by rw [←Ei];rw [show (MI s).data.toList=_ from ED _]
-- what is read of a text
section
variable {α:Type}
end
end Go.Vm
end
section
namespace Go.Proofs
open Go.Shelf
def Tryz.laysJoin_ren:Go.Shelf.Ren:=⟨fun|156=>45|165=>89|166=>90|169=>91|240=>144|241=>145|276=>224|277=>225|n=>n,fun|31=>34|9=>9|3=>3|4=>4|0=>0|20=>20|72=>164|76=>167|70=>162|37=>109|75=>166|127=>247|164=>318|5=>5|80=>95|n=>n,fun|n=>n⟩
theorem Tryz.laysJoin:Go.Proofs.Lays.n156 Tryz.prog Tryz.laysJoin_ren:={
 mixed:=by kernel_rfl
 f156:=Tryz.func45.trans (congrArg some (by kernel_rfl))
 f165:=Tryz.func89.trans (congrArg some (by kernel_rfl))
 f166:=Tryz.func90.trans (congrArg some (by kernel_rfl))
 f169:=Tryz.func91.trans (congrArg some (by kernel_rfl))
 f240:=Tryz.func144.trans (congrArg some (by kernel_rfl))
 f241:=Tryz.func145.trans (congrArg some (by kernel_rfl))
 f276:=Tryz.func224.trans (congrArg some (by kernel_rfl))
 f277:=Tryz.func225.trans (congrArg some (by kernel_rfl))
 t0:=Tryz.underlying0
 a0:=Tryz.isAgg0
 z0:=Tryz.sizeOf0
 v0:=Tryz.zeroValue0
 t3:=Tryz.underlying3
 a3:=Tryz.isAgg3
 z3:=Tryz.sizeOf3
 v3:=Tryz.zeroValue3
 t4:=Tryz.underlying4
 a4:=Tryz.isAgg4
 z4:=Tryz.sizeOf4
 v4:=Tryz.zeroValue4
 t9:=Tryz.underlying9
 a9:=Tryz.isAgg9
 z9:=Tryz.sizeOf9
 v9:=Tryz.zeroValue9
 t20:=Tryz.underlying20
 a20:=Tryz.isAgg20
 z20:=Tryz.sizeOf20
 v20:=Tryz.zeroValue20
 t31:=Tryz.underlying34
 a31:=Tryz.isAgg34
 z31:=Tryz.sizeOf34
 v31:=Tryz.zeroValue34
 t37:=Tryz.underlying109
 a37:=Tryz.isAgg109
 z37:=Tryz.sizeOf109
 v37:=Tryz.zeroValue109
 t70:=Tryz.underlying162
 a70:=Tryz.isAgg162
 z70:=Tryz.sizeOf162
 v70:=Tryz.zeroValue162
 t72:=Tryz.underlying164
 a72:=Tryz.isAgg164
 z72:=Tryz.sizeOf164
 v72:=Tryz.zeroValue164
 t75:=Tryz.underlying166
 a75:=Tryz.isAgg166
 z75:=Tryz.sizeOf166
 v75:=Tryz.zeroValue166
 t76:=Tryz.underlying167
 a76:=Tryz.isAgg167
 z76:=Tryz.sizeOf167
 v76:=Tryz.zeroValue167
 t127:=Tryz.underlying247
 a127:=Tryz.isAgg247
 z127:=Tryz.sizeOf247
 v127:=Tryz.zeroValue247
 t164:=Tryz.underlying318
 a164:=Tryz.isAgg318
 z164:=Tryz.sizeOf318
 v164:=Tryz.zeroValue318 }
def Tryz.Ah8:Go.Shelf.Ren:=⟨fun|146=>222|221=>313|268=>383|138=>384|143=>385|195=>416|197=>417|218=>418|219=>96|260=>439|217=>150|225=>151|224=>152|267=>153|266=>226|314=>227|n=>n,fun|9=>9|31=>34|3=>3|4=>4|0=>0|105=>492|21=>21|5=>5|46=>252|119=>514|139=>517|138=>516|146=>321|51=>132|n=>n,fun|1=>4|3=>6|4=>7|n=>n⟩
theorem Tryz.laysSplit:Go.Proofs.Lays.n146 Tryz.prog Tryz.Ah8:={
 mixed:=by kernel_rfl
 f138:=Tryz.func384.trans (congrArg some (by kernel_rfl))
 f143:=Tryz.func385.trans (congrArg some (by kernel_rfl))
 f146:=Tryz.func222.trans (congrArg some (by kernel_rfl))
 f195:=Tryz.func416.trans (congrArg some (by kernel_rfl))
 f197:=Tryz.func417.trans (congrArg some (by kernel_rfl))
 f217:=Tryz.func150.trans (congrArg some (by kernel_rfl))
 f218:=Tryz.func418.trans (congrArg some (by kernel_rfl))
 f219:=Tryz.func96.trans (congrArg some (by kernel_rfl))
 f221:=Tryz.func313.trans (congrArg some (by kernel_rfl))
 f224:=Tryz.func152.trans (congrArg some (by kernel_rfl))
 f225:=Tryz.func151.trans (congrArg some (by kernel_rfl))
 f260:=Tryz.func439.trans (congrArg some (by kernel_rfl))
 f266:=Tryz.func226.trans (congrArg some (by kernel_rfl))
 f267:=Tryz.func153.trans (congrArg some (by kernel_rfl))
 f268:=Tryz.func383.trans (congrArg some (by kernel_rfl))
 f314:=Tryz.func227.trans (congrArg some (by kernel_rfl))
 t0:=Tryz.underlying0
 a0:=Tryz.isAgg0
 z0:=Tryz.sizeOf0
 v0:=Tryz.zeroValue0
 t3:=Tryz.underlying3
 a3:=Tryz.isAgg3
 z3:=Tryz.sizeOf3
 v3:=Tryz.zeroValue3
 t4:=Tryz.underlying4
 a4:=Tryz.isAgg4
 z4:=Tryz.sizeOf4
 v4:=Tryz.zeroValue4
 t5:=Tryz.underlying5
 a5:=Tryz.isAgg5
 z5:=Tryz.sizeOf5
 v5:=Tryz.zeroValue5
 t9:=Tryz.underlying9
 a9:=Tryz.isAgg9
 z9:=Tryz.sizeOf9
 v9:=Tryz.zeroValue9
 t21:=Tryz.underlying21
 a21:=Tryz.isAgg21
 z21:=Tryz.sizeOf21
 v21:=Tryz.zeroValue21
 t31:=Tryz.underlying34
 a31:=Tryz.isAgg34
 z31:=Tryz.sizeOf34
 v31:=Tryz.zeroValue34
 t46:=Tryz.underlying252
 a46:=Tryz.isAgg252
 z46:=Tryz.sizeOf252
 v46:=Tryz.zeroValue252
 t51:=Tryz.underlying132
 a51:=Tryz.isAgg132
 z51:=Tryz.sizeOf132
 v51:=Tryz.zeroValue132
 t105:=Tryz.underlying492
 a105:=Tryz.isAgg492
 z105:=Tryz.sizeOf492
 v105:=Tryz.zeroValue492
 t119:=Tryz.underlying514
 a119:=Tryz.isAgg514
 z119:=Tryz.sizeOf514
 t138:=Tryz.underlying516
 a138:=Tryz.isAgg516
 z138:=Tryz.sizeOf516
 v138:=Tryz.zeroValue516
 t139:=Tryz.underlying517
 a139:=Tryz.isAgg517
 z139:=Tryz.sizeOf517
 v139:=Tryz.zeroValue517
 t146:=Tryz.underlying321
 a146:=Tryz.isAgg321
 z146:=Tryz.sizeOf321
 v146:=Tryz.zeroValue321
 g1:=by kernel_rfl
 g3:=by kernel_rfl
 g4:=by kernel_rfl }
def Tryz.AeJ:Go.Shelf.Ren:=⟨fun|219=>96|217=>150|225=>151|224=>152|267=>153|266=>226|314=>227|n=>n,fun|9=>9|3=>3|4=>4|5=>5|46=>252|146=>321|51=>132|n=>n,fun|1=>4|n=>n⟩
theorem Tryz.AqP:Go.Proofs.Lays.n219 Tryz.prog Tryz.AeJ:={
 mixed:=by kernel_rfl
 f217:=Tryz.func150.trans (congrArg some (by kernel_rfl))
 f219:=Tryz.func96.trans (congrArg some (by kernel_rfl))
 f224:=Tryz.func152.trans (congrArg some (by kernel_rfl))
 f225:=Tryz.func151.trans (congrArg some (by kernel_rfl))
 f266:=Tryz.func226.trans (congrArg some (by kernel_rfl))
 f267:=Tryz.func153.trans (congrArg some (by kernel_rfl))
 f314:=Tryz.func227.trans (congrArg some (by kernel_rfl))
 t3:=Tryz.underlying3
 a3:=Tryz.isAgg3
 z3:=Tryz.sizeOf3
 v3:=Tryz.zeroValue3
 t4:=Tryz.underlying4
 a4:=Tryz.isAgg4
 z4:=Tryz.sizeOf4
 v4:=Tryz.zeroValue4
 t5:=Tryz.underlying5
 a5:=Tryz.isAgg5
 z5:=Tryz.sizeOf5
 v5:=Tryz.zeroValue5
 t9:=Tryz.underlying9
 a9:=Tryz.isAgg9
 z9:=Tryz.sizeOf9
 v9:=Tryz.zeroValue9
 t46:=Tryz.underlying252
 a46:=Tryz.isAgg252
 z46:=Tryz.sizeOf252
 v46:=Tryz.zeroValue252
 t51:=Tryz.underlying132
 a51:=Tryz.isAgg132
 z51:=Tryz.sizeOf132
 v51:=Tryz.zeroValue132
 t146:=Tryz.underlying321
 a146:=Tryz.isAgg321
 z146:=Tryz.sizeOf321
 v146:=Tryz.zeroValue321
 g1:=by kernel_rfl }
theorem Tryz.ZH:Builder.Extra Tryz.prog Tryz.laysJoin_ren:={
 sizeBuilder:=by kernel_rfl
 liesBuilder:=by kernel_rfl
 t5:=Tryz.underlying5
 a5:=Tryz.isAgg5
 z5:=Tryz.sizeOf5
 v5:=Tryz.zeroValue5
 infoByte:=by kernel_rfl
 cellsByte:=by kernel_rfl
 sizeByte:=by kernel_rfl
 neB5:=by decide }
end Go.Proofs
end
section
namespace Go.Vm
open Go.RowKit
def FI:Aq:=fun _=>.frozen
theorem Agw (b off:Nat):DD FI b off:=trivial
section
variable {P:Program} {w:World}
def Cells (P:Program)(w:World)(t:TypeId){α:Type}(enc:α→D)(ok:α→Prop):Prop:=∀es,Reads P w t es→∃x:α,AX FI w es (enc x).cells∧ok x
theorem cells_at:∀{ess:List (List Value)} {b off sz:Nat},(∀(i:Nat) (es:List Value),ess[i]? = some es→es.length=sz∧∀(j:Nat) (u:Value),es[j]? = some u→w.cell? ⟨b,off+i*sz+j,none⟩=some u) →
 ess.flatten.length=ess.length*sz∧∀(j:Nat) (u:Value),ess.flatten[j]? = some u→w.cell? ⟨b,off+j,none⟩=some u
 | [],b,off,sz,_=>⟨by simp,by simp⟩
 |es::ess,b,off,sz,h=>by
  obtain ⟨h0,h1⟩:=h 0 es rfl
  obtain ⟨k0,k1⟩:=cells_at (ess:=ess) (b:=b) (off:=off+sz) (sz:=sz) (fun i es' hes=>by
   obtain ⟨g0,g1⟩:=h (i+1) es' (by simpa using hes)
   refine ⟨g0,fun j u hu=>?_⟩
   have:=g1 j u hu
   rw [Nat.add_mul,Nat.one_mul] at this
   rw [show off+sz+i*sz+j=off+(i*sz+sz)+j by omega];exact this)
  refine ⟨by rw [List.flatten_cons,List.length_append,k0,h0,List.length_cons,Nat.add_mul,Nat.one_mul,Nat.add_comm],fun j u hu=>?_⟩
  rw [List.flatten_cons] at hu
  by_cases hj:j<es.length
  ·rw [List.getElem?_append_left hj] at hu
   have:=h1 j u hu
   simpa using this
  ·rw [List.getElem?_append_right (by omega)] at hu
   have:=k1 (j-es.length) u hu
   rw [h0] at this
   rw [show off+j=off+sz+(j-sz) by omega];exact this
theorem Ads {α:Type}{enc:α→D}:∀{ps:List (List Value×α)},(∀p∈ps,AX FI w p.1 (enc p.2).cells)→AX FI w (ps.map (·.1)).flatten (flat ((ps.map (·.2)).map enc))
 | [],_=>by simpa [flat] using AX.nil
 |p::ps,h=>by
  have h1:=h p (List.mem_cons_self ..)
  have h2:=Ads (ps:=ps) fun q hq=>h q (List.mem_cons_of_mem _ hq)
  simp only [List.map_cons,List.flatten_cons,flat,List.flatMap_cons] at h2 ⊢
  exact h1.append h2
theorem row_of {t e:TypeId}{sz:Nat}{α:Type}{enc:α→D}{ok:α→Prop}(ht:P.underlying t=some (.slice e))(hsz:P.cellsOf e=sz)(h0:0<sz)(hw:∀x,(enc x).cells.length=sz)(hel:Cells P w e enc ok){a:Option Addr}{l c:Nat}(h:Reads P w t [.slice a l c]) :
 ∃xs:List α,Rep FI w (.slice a l c) (.row (xs.map enc))∧∀x∈xs,ok x:=by
 rcases h.slice ht with h|⟨ad,len,cap,h,h1,h2,h3⟩
 ·injection h with h;injection h with h4 h5 h6
  subst h4 h5 h6
  exact ⟨[],.nil (by simp [maxLen]),by simp⟩
 ·injection h with h;injection h with h4 h5 h6
  subst h4 h5 h6
  rw [hsz] at h3
  obtain ⟨ps,hl,hp⟩:=Al3 (Q:=fun i (p:List Value×α)=>p.1.length=sz∧(∀j (hj:j<p.1.length),w.cell? ((ad.add (i*sz)).add j)=some p.1[j])∧AX FI w p.1 (enc p.2).cells∧ok p.2) l (fun i hi=>by
   obtain ⟨es,q1,q2,q3⟩:=h3 i hi
   obtain ⟨x,hx,hok⟩:=hel es q3
   exact ⟨(es,x),q1,q2,hx,hok⟩)
  by_cases hz:l=0
  ·subst hz
   obtain rfl:ps= []:=List.length_eq_zero_iff.1 hl
   exact ⟨[],.nil h2,by simp⟩
  ·have hlt:0<ps.length:=by omega
   have had:ad=⟨ad.block,ad.off,none⟩:=by
    obtain ⟨q1,q2,_⟩:=hp 0 hlt
    have:=q2 0 (by omega)
    have e0:(ad.add (0*sz)).add 0=ad:=by simp [Addr.add]
    rw [e0] at this
    exact AsJ this
   have hcells:=cells_at (w:=w) (ess:=ps.map (·.1)) (b:=ad.block) (off:=ad.off) (sz:=sz) (fun i es hes=>by
    rw [List.getElem?_map] at hes
    cases hpi:ps[i]? with
    |none=>rw [hpi] at hes;cases hes
    |some p=>
     rw [hpi] at hes
     simp only [Option.map_some,Option.some.injEq] at hes
     subst hes
     obtain ⟨hi,rfl⟩:=List.getElem?_eq_some_iff.1 hpi
     obtain ⟨q1,q2,_⟩:=hp i hi
     refine ⟨q1,fun j u hu=>?_⟩
     obtain ⟨hj,rfl⟩:=List.getElem?_eq_some_iff.1 hu
     have:=q2 j hj
     rw [had,GY,GY] at this
     exact this)
   have hmem:∀p∈ps,AX FI w p.1 (enc p.2).cells∧ok p.2:=by
    intro p hpm
    obtain ⟨i,hi,rfl⟩:=List.getElem_of_mem hpm
    exact (hp i hi).2.2
   have hr:=Ads (enc:=enc) (fun p hpm=>(hmem p hpm).1)
   refine ⟨ps.map (·.2),?_,fun x hx=>?_⟩
   ·have hlen:((ps.map (·.2)).map enc).length=l:=by simp [hl]
    rw [had]
    have:=Rep.row (ro:=FI) (w:=w) (b:=ad.block) (off:=ad.off) (cap:=c) (sz:=sz) (xs:=(ps.map (·.2)).map enc) (ps.map (·.1)).flatten h0 (by rw [hlen];exact h1) h2 (by rw [hcells.1,hlen];simp [hl]) (fun x hx=>by obtain ⟨y,_,rfl⟩:=List.mem_map.1 hx;exact hw y) hr.2.1 (fun j u hu=>⟨hcells.2 j u hu,Agw _ _⟩) hr.2.2
    rw [hlen] at this
    exact this
   ·obtain ⟨p,hpm,rfl⟩:=List.mem_map.1 hx
    exact (hmem p hpm).2
theorem law_true {f:FuncId}{args:List D}{vs:Array Value}(hc:AP P f args [.d (.sc (.bool true))])(hl:vs.size=args.length)(hr:∀(i:Nat) (v:Value) (d:D),vs.toList[i]? = some v→args[i]? = some d→Rep FI w v d)(hG:RF FI w:=by intro g cs h;cases h) :
 Calls P f vs w fun e w'=>e=.returned (.bool true)∧Below w.heap.size w w':=by
 refine (hc FI w vs 0 ⟨fun _ _=>rfl,hG⟩ (fun _ _ _ _ _ h=>by cases h) hl hr).mono ?_
 rintro e w' ⟨v,ro',rfl,hg,hs⟩
 have:v=.bool true:=(EL (show Rep ro' w' v (.sc (.bool true)) from hs)).1
 exact ⟨by rw [this],hg.below⟩
end
end Go.Vm
end
section
namespace Go.Vm
open Go.RowKit
section
variable {P:Program} {f:FuncId} {ro:Aq} {w w':World}
theorem TG (hn:∀b,w.heap.size≤b→ro b=.frozen)(h:Below w.heap.size w w'):Grow ro ro w w':=
 ⟨h,fun _ _=>rfl,fun b hb=>hn b (Nat.le_trans h.size hb),fun b id k hb hr=>by rw [hn b hb] at hr;cases hr⟩
theorem Yi {vs:Array Value}{us:List Value}(hl:vs.size=(us.map D.sc).length)(h:∀(i:Nat) (v:Value) (d:D),vs.toList[i]? = some v→(us.map D.sc)[i]? = some d→Rep ro w v d):vs=us.toArray:=by
 have hl':vs.size=us.length:=by simpa using hl
 apply Array.ext
 ·simpa using hl'
 ·intro i h1 h2
  have hu:i<us.length:=by omega
  have:=h i vs[i] (.sc us[i]) (by simp [h1]) (by simp [hu])
  simpa using (EL this).1
theorem Yf {us:List Value}{r:Value}(hp:BN r=true)(h:∀w,Calls P f us.toArray w fun e w'=>e=.returned r∧Below w.heap.size w w'):AP P f (us.map D.sc) [.d (.sc r)]:=by
 intro ro w vs τ h1 h2 h3 h4
 rw [Yi h3 h4]
 refine (h w).mono ?_
 rintro e w' ⟨rfl,hb⟩
 exact ⟨r,ro,rfl,TG h1.new hb,.sc hp⟩
theorem La {us:List Value}{r1 r2:Value}{rs:List Value}(hp:∀r∈r1::r2::rs,BN r=true)(h:∀w,Calls P f us.toArray w fun e w'=>e=.returned (.tuple (r1::r2::rs).toArray)∧Below w.heap.size w w') :
 AP P f (us.map D.sc) ((r1::r2::rs).map fun r=>C.d (.sc r)):=by
 intro ro w vs τ h1 h2 h3 h4
 rw [Yi h3 h4]
 refine (h w).mono ?_
 rintro e w' ⟨rfl,hb⟩
 refine ⟨_,ro,rfl,TG h1.new hb,?_⟩
 have e1:EN (((r1::r2::rs).map fun r=>C.d (.sc r)).map (Ew τ))=.tup ((r1::r2::rs).map fun r=>C.d (.sc r)):=by
  simp only [List.map_cons,EN,Ew]
  congr 1
  simp only [List.map_map]
  congr 2
 rw [e1]
 refine ⟨_,rfl,by simp,fun i u c hu hc=>?_⟩
 simp only [List.toList_toArray] at hu
 rw [List.getElem?_map,hu] at hc
 simp only [Option.map_some,Option.some.injEq] at hc
 subst hc
 exact .sc (hp u (List.mem_of_getElem? hu))
theorem AcC (l:List ByteArray):flat (l.map strD)=l.map strD:=by
 unfold flat
 induction l with
 |nil=>rfl
 |cons a l ih=>rw [List.map_cons,List.flatMap_cons,ih];rfl
theorem Aqw {l:List ByteArray}{T:TypeId}{base:Nat}{v:Value}(hn:∀b,base≤b→ro b=.frozen)(ho:w.ownsRow base T 1 v l.length (l.map Value.string)):Rep ro w v (.row (l.map strD)):=by
 obtain ⟨hl,h|⟨g,cap,cur,rfl,hg,hh,hc,hm,hs,ht⟩⟩:=ho
 ·obtain ⟨rfl,h0⟩:=h
  rw [List.length_eq_zero_iff.1 h0]
  exact .nil (by simp [maxLen])
 ·have hlen:l.length=(l.map strD).length:=by simp
  rw [hlen]
  refine .row (sz:=1) (l.map Value.string) (by omega) (by simpa using hc) hm (by simp) ?_ ?_ ?_ ?_
  ·intro x hx
   obtain ⟨a,_,rfl⟩:=List.mem_map.1 hx
   rfl
  ·intro u hu
   obtain ⟨a,_,rfl⟩:=List.mem_map.1 hu
   rfl
  ·intro j u hu
   refine ⟨?_,by unfold DD;rw [hn g hg];trivial⟩
   have:=World.ownsRow.cells (w:=w) (base:=base) (e:=T) (size:=1) (v:=.slice (some ⟨g,0,none⟩) l.length cap) (n:=l.length) (xs:=l.map Value.string) ⟨hl,.inr ⟨g,cap,cur,rfl,hg,hh,hc,hm,hs,ht⟩⟩ (g:=g) rfl j u hu
   have e:(⟨g,0,none⟩:Addr).add j=⟨g,0+j,none⟩:=by
    unfold Addr.add
    by_cases hj:j=0<;>simp [hj]
   rw [e] at this
   exact this
  ·intro j u c hu hc
   rw [AcC,List.getElem?_map] at hc
   rw [List.getElem?_map] at hu
   cases ha:l[j]? with
   |none=>rw [ha] at hc;cases hc
   |some a=>
    rw [ha] at hu hc
    simp only [Option.map_some,Option.some.injEq] at hu hc
    subst hu hc
    exact .sc rfl
theorem VV {us:List Value}{l:List ByteArray}{T:TypeId}(h:∀w,Calls P f us.toArray w fun e w'=>∃v,e=.returned v∧w'.ownsRow w.heap.size T 1 v l.length (l.map Value.string)∧Below w.heap.size w w'):AP P f (us.map D.sc) [.d (.row (l.map strD))]:=by
 intro ro w vs τ h1 h2 h3 h4
 rw [Yi h3 h4]
 refine (h w).mono ?_
 rintro e w' ⟨v,rfl,ho,hb⟩
 exact ⟨v,ro,rfl,TG h1.new hb,Aqw h1.new ho⟩
end
end Go.Vm
end
section
namespace Go.Proofs
open Go.Shelf Go.RowKit Go.Lib
variable {P:Program} {ρ:Ren}
theorem VX (c:UInt8):∀l:List UInt8,Lib.index l [c] = Lib.indexByte l c
 | []=>rfl
 |b::l=>by
  have ih:=VX c l
  unfold Lib.index Lib.indexByte
  rw [ih]
  by_cases e:b=c
  ·subst e;simp
  ·have e':¬c=b:=fun k=>e k.symm
   simp [List.isPrefixOf,e,e']
theorem Aqp (L:Lays.n146 P ρ)(hi9:(P.info? (ρ.t 9)).map (fun i=>(i.zero,i.size,i.bytes))=some (some (.string ByteArray.empty),1,16))(s:ByteArray)(c:UInt8)(w:World)(hs:s.size<4294967281) :
 Calls P (ρ.f 146) #[.string s,.string ⟨#[c]⟩] w fun e w'=>
  e=.returned (.slice (some ⟨w.heap.size,0,none⟩) (Lib.countB s ⟨#[c]⟩ + 1) (Lib.countB s ⟨#[c]⟩ + 1))∧w'=w.alloc (.cells ((Lib.splitB ⟨#[c]⟩ 0 (Lib.countB s ⟨#[c]⟩) s).map Value.string).toArray (ρ.t 9)):=by
 have h1:1≤(⟨#[c]⟩:ByteArray).size:=Nat.le_refl 1
 have hle:=Lib.countB_le ⟨#[c]⟩ h1 s.size s (Nat.le_refl _)
 have hlen:=Lib.splitB_all ⟨#[c]⟩ h1 0 _ s rfl
 have core:=Any.strings_genSplit_core { L with } hi9 s ⟨#[c]⟩ 0 (-1) (Lib.countB s ⟨#[c]⟩ + 1) w hs h1 (Nat.zero_le _)
  (fun x a hx=>(Any.strings_Index_one { L with } x c _).mono (by rintro e w' ⟨rfl,rfl⟩;exact ⟨by rw [←VX],rfl⟩))
  ((Any.strings_Count_one { L with } s c w).mono (by rintro e w' ⟨rfl,rfl⟩;exact ⟨by rw [show Lib.countB s ⟨#[c]⟩=s.data.toList.count c from Lib.count_one c _];rfl,rfl⟩))
  (by decide) (by decide) (by rw [if_pos (by decide)];omega)
 rw [Nat.add_sub_cancel,hlen] at core
 have e2:Lib.cellsOf (Lib.splitB ⟨#[c]⟩ 0 (Lib.countB s ⟨#[c]⟩) s) (Lib.countB s ⟨#[c]⟩ + 1)=((Lib.splitB ⟨#[c]⟩ 0 (Lib.countB s ⟨#[c]⟩) s).map Value.string).toArray:=by rw [←hlen];exact Lib.cellsOf_full _
 rw [e2] at core
 have t3:=L.t3;have t9:=L.t9;have t31:=L.t31
 have a3:=L.a3;have a9:=L.a9;have a31:=L.a31
 have z3:=L.z3;have v3:=L.v3;have z9:=L.z9;have v9:=L.v9;have z31:=L.z31;have v31:=L.v31
 have e221:∀args w,(callFunc (ρ.f 221) args).run P w=.ok (.enter (ρ.f 221) args) w:=enters_of L.f221 (by kernel_rfl) rfl
 go_enter L.f146,Body.n146_ntmps ρ
 go_wp2_with (go_at_fn (ρ.f 221);refine core.mono ?_;rintro e w' ⟨rfl,hw⟩;rw [hw])
 go_ret
 exact ⟨rfl,rfl⟩
end Go.Proofs
namespace Go.Vm
open Go.RowKit Go.Proofs
theorem Aie (c:UInt8)(s:ByteArray)(hs:s.size≤1000000):AP Tryz.prog 222 [.sc (.string s),.sc (.string ⟨#[c]⟩)] [.d (.row ((Az c s).map strD))]:=by
 refine VV (us:=[.string s,.string ⟨#[c]⟩]) (T:=9) (fun w=>?_)
 refine (Aqp Tryz.laysSplit (by kernel_rfl) s c w (by omega)).mono ?_
 rintro e w' ⟨rfl,rfl⟩
 have hl:=Lib.splitB_all ⟨#[c]⟩ (Nat.le_refl 1) 0 _ s rfl
 have hle:=Lib.countB_le ⟨#[c]⟩ (Nat.le_refl 1) s.size s (Nat.le_refl _)
 rw [Aos] at hl ⊢
 refine ⟨_,rfl,?_,?_⟩
 ·have:=World.ownsRow_lit (base:=w.heap.size) (e:=9) (size:=1) w ((Az c s).map Value.string).toArray (Az c s).length (Nat.le_refl _) (by unfold maxLen;omega) (by simp)
  have e:((Az c s).map Value.string).toArray.toList=(Az c s).map Value.string:=by simp
  rw [e] at this
  rw [←hl]
  exact this
 ·exact (Below.refl _ _).alloc (Nat.le_refl _) _
theorem Ago (c:UInt8)(s:ByteArray):AP Tryz.prog 96 [.sc (.string s),.sc (.string ⟨#[c]⟩)] [.d (.sc (.int .i64 (Lib.index s.data.toList [c])))]:=by
 refine Yf (us:=[.string s,.string ⟨#[c]⟩]) rfl (fun w=>?_)
 refine (Any.stringslite_Index_one Tryz.AqP s c w).mono ?_
 rintro e w' ⟨rfl,rfl⟩
 exact ⟨by rw [VX],Below.refl _ _⟩
theorem AeK (c:UInt8)(l:List ByteArray)(hl:l.length≤1000000)(hb:(Gp c l).size≤100000000):AP Tryz.prog 45 [.row (l.map strD),.sc (.string ⟨#[c]⟩)] [.d (.sc (.string (Gp c l)))]:=by
 intro ro w vs τ h1 h2 h3 h4
 have hlen:(Lib.join (l.map (·.data.toList)) [c]).length≤281474976710656:=by
  rw [Xa]
  have:(Gp c l).size=(G5 c (l.map (·.data.toList))).length:=by rw [←Ei,UH]
  omega
 have hs2:vs.size=2:=by simpa using h3
 have r0:=h4 0 vs[0] (.row (l.map strD)) (by simp [hs2]) rfl
 have r1:=h4 1 vs[1] (.sc (.string ⟨#[c]⟩)) (by simp [hs2]) rfl
 have e1:=(EL r1).1
 have hvs:vs = #[vs[0],.string ⟨#[c]⟩]:=by
  apply Array.ext
  ·simp [hs2]
  ·intro i q1 q2
   match i,q1,q2 with
   |0,_,_=>rfl
   |1,_,_=>exact e1
 have fin:∀w',Below w.heap.size w w'→∃v ro',Ending.returned (Value.string (Gp c l))=.returned v∧Grow ro ro' w w'∧BB Tryz.prog w.heap.size ro' (fun _=>0) w' 0 v (EN ([C.d (.sc (.string (Gp c l)))].map (Ew τ))):=fun w' hb=>
  ⟨_,ro,rfl,TG h1.new hb,.sc rfl⟩
 rw [hvs]
 generalize vs[0] = v0 at r0 ⊢
 have empty:l= []→∀a cap,Calls Tryz.prog 45 #[.slice a 0 cap,.string ⟨#[c]⟩] w fun e w'=>∃v ro',e=.returned v∧Grow ro ro' w w'∧BB Tryz.prog w.heap.size ro' (fun _=>0) w' 0 v (EN ([C.d (.sc (.string (Gp c l)))].map (Ew τ))):=fun hl a cap=>by
  refine (Any.strings_Join_none Tryz.laysJoin Tryz.ZH a cap ⟨#[c]⟩ w).mono ?_
  rintro e w' ⟨rfl,rfl⟩
  have:=fin _ (Below.refl _ _)
  rw [hl] at this ⊢
  exact this
 generalize hxs:l.map strD=xs at r0
 cases r0 with
 |nil hm=>exact empty (by simpa using hxs) _ _
 |row us hsz hlc hm hus hw ho hcell hrep=>
  subst hxs
  by_cases h0:l= []
  ·have:=empty h0
   rw [h0]
   rw [h0] at this
   exact this _ _
  ·rename_i b off cap sz
   have hw1:sz=1:=by
    cases l with
    |nil=>exact absurd rfl h0
    |cons a l=>exact (hw (strD a) (by simp)).symm
   subst hw1
   have hc:∀(j:Nat) x,l[j]? = some x→w.cell? ⟨b,off+j,none⟩=some (.string x):=fun j x hx=>by
    have hj:j<us.length:=by rw [hus,List.length_map,Nat.mul_one];exact (List.getElem?_eq_some_iff.1 hx).1
    have hu:=List.getElem?_eq_getElem hj
    have hr:=hrep j us[j] (strD x) hu (by rw [AcC,List.getElem?_map,hx];rfl)
    rw [←(EL hr).1]
    exact (hcell j _ hu).1
   have hbk:b<w.heap.size:=by
    cases l with
    |nil=>exact absurd rfl h0
    |cons a l=>exact World.block_lt_of_cell? _ _ (hc 0 a rfl)
   have hlen2:(l.map strD).length=l.length:=by simp
   rw [hlen2]
   refine (Any.strings_Join_48 Tryz.laysJoin Tryz.ZH b off cap l ⟨#[c]⟩ w hc hbk (by omega) (by omega) hlen).mono ?_
   rintro e w' ⟨rfl,hb⟩
   have:=fin w' hb
   rw [show (⟨(Lib.join (l.map (·.data.toList)) (⟨#[c]⟩:ByteArray).data.toList).toArray⟩:ByteArray)=Gp c l from congrArg mkB (Xa _)]
   exact this
end Go.Vm
end
section
namespace Go.Vm
open Go.RowKit Go.Proofs
set_option maxRecDepth 10000
open Go.Proofs.YtdfbohaohjaloaaGreatDoor Punnet.Name Punnet.Num
theorem Dz (l:Array UInt8):(⟨l⟩:ByteArray).size=l.size:=rfl
theorem sct {a b:ByteArray}(h:a=b):D.sc (.string a)=D.sc (.string b):=by rw [h]
theorem A7 {w:List ByteArray}{n:Int}{i:Nat}(e:n.toNat=i)(h:i<w.length):(w.map strD)[n.toNat]? = some (strD (wd w i)):=by
 rw [e,List.getElem?_map,List.getElem?_eq_getElem h]
 simp [wd,h]
theorem A8 {c:UInt8}{s:ByteArray}:0<(Az c s).length:=List.length_pos_iff.2 (Afo s)
theorem YP {r:Bv}(h:Bz r=true):r.group.size≤12∧r.name.size≤12:=⟨(Xc h).2.1,(Xc h).2.2⟩
theorem Ci (r:Bv):AP Tryz.prog 134 [rD r] [.d (.sc (.string (if Bz r=true then BF r else ⟨#[63]⟩)))]:=by
 refine T.fn [] Tryz.func134 ?_
 refine Ar T.NS (Dj r) ?_
 refine br (fun hc1=>?y1) (fun hc1=>?n1)
 case' y1=>
  have hp:Bz r=false:=hc1
 case' n1=>
  have hp:Bz r=true:=hc1
  have hsz:=YP hp
  refine br (fun hc2=>?y2) (fun hc2=>?n2)
  case' y2=>
   refine br (fun hc3=>?y3) (fun hc3=>?n3)
   case' y3=>
    refine E8 ?_ (h:=by ((simp only [ByteArray.size_append,Dz,List.size_toArray,List.length_cons,List.length_nil];omega)))
    refine E8 ?_ (h:=by ((simp only [ByteArray.size_append,Dz,List.size_toArray,List.length_cons,List.length_nil];omega)))
    refine E8 ?_ (h:=by ((simp only [ByteArray.size_append,Dz,List.size_toArray,List.length_cons,List.length_nil];omega)))
    refine E8 ?_ (h:=by ((simp only [ByteArray.size_append,Dz,List.size_toArray,List.length_cons,List.length_nil];omega)))
   case' n3=>
    refine E8 ?_ (h:=by ((simp only [ByteArray.size_append,Dz,List.size_toArray,List.length_cons,List.length_nil];omega)))
    refine E8 ?_ (h:=by ((simp only [ByteArray.size_append,Dz,List.size_toArray,List.length_cons,List.length_nil];omega)))
  case' n2=>
   refine br (fun hc4=>?y4) (fun hc4=>?n4)
   case' y4=>
    refine E8 ?_ (h:=by ((simp only [ByteArray.size_append,Dz,List.size_toArray,List.length_cons,List.length_nil];omega)))
    refine E8 ?_ (h:=by ((simp only [ByteArray.size_append,Dz,List.size_toArray,List.length_cons,List.length_nil];omega)))
    refine E8 ?_ (h:=by ((simp only [ByteArray.size_append,Dz,List.size_toArray,List.length_cons,List.length_nil];omega)))
    refine E8 ?_ (h:=by ((simp only [ByteArray.size_append,Dz,List.size_toArray,List.length_cons,List.length_nil];omega)))
   case' n4=>
    refine E8 ?_ (h:=by ((simp only [ByteArray.size_append,Dz,List.size_toArray,List.length_cons,List.length_nil];omega)))
    refine E8 ?_ (h:=by ((simp only [ByteArray.size_append,Dz,List.size_toArray,List.length_cons,List.length_nil];omega)))
 all_goals (refine CJ ?_;simp only [Bo,fits,C.asD,and_true]<;>(first|(rw [if_neg (by rw [hp];decide)];done)|(rw [if_pos hp];first|rfl|(refine sct (GN ?_);simp_all [Vt,BF,Jc,EJ,DY];done))))
theorem UK (r:Bv):AP Tryz.prog 139 [rD r] [.d (.sc (.string (if Bz r=true then BF r else ⟨#[63]⟩)))]:=by
 refine T.fn [] Tryz.func139 ?_
 refine Ar T.Qu (P6 r) ?_
 refine br (fun hc1=>?y1) (fun hc1=>?n1)
 case' y1=>
  have hp:Bz r=false:=hc1
 case' n1=>
  have hp:Bz r=true:=hc1
  have hsz:=YP hp
  refine br (fun hc2=>?y2) (fun hc2=>?n2)
  case' y2=>
   refine br (fun hc3=>?y3) (fun hc3=>?n3)
   case' y3=>
    refine E8 ?_ (h:=by ((simp only [ByteArray.size_append,Dz,List.size_toArray,List.length_cons,List.length_nil];omega)))
    refine E8 ?_ (h:=by ((simp only [ByteArray.size_append,Dz,List.size_toArray,List.length_cons,List.length_nil];omega)))
    refine E8 ?_ (h:=by ((simp only [ByteArray.size_append,Dz,List.size_toArray,List.length_cons,List.length_nil];omega)))
   case' n3=>
    refine E8 ?_ (h:=by ((simp only [ByteArray.size_append,Dz,List.size_toArray,List.length_cons,List.length_nil];omega)))
  case' n2=>
   refine br (fun hc4=>?y4) (fun hc4=>?n4)
   case' y4=>
    refine E8 ?_ (h:=by ((simp only [ByteArray.size_append,Dz,List.size_toArray,List.length_cons,List.length_nil];omega)))
    refine E8 ?_ (h:=by ((simp only [ByteArray.size_append,Dz,List.size_toArray,List.length_cons,List.length_nil];omega)))
    refine E8 ?_ (h:=by ((simp only [ByteArray.size_append,Dz,List.size_toArray,List.length_cons,List.length_nil];omega)))
   case' n4=>
    refine E8 ?_ (h:=by ((simp only [ByteArray.size_append,Dz,List.size_toArray,List.length_cons,List.length_nil];omega)))
 all_goals (refine CJ ?_;simp only [Bo,fits,C.asD,and_true]<;>(first|(rw [if_neg (by rw [hp];decide)];done)|(rw [if_pos hp];first|rfl|(refine sct (GN ?_);simp_all [Vt,BF,Jc,EJ,DY];done))))
end Go.Vm
end
section
namespace Go.Proofs.YtdfbohaohjaloaaGreatDoor
set_option maxRecDepth 10000
open Go.RowKit Punnet.Num
theorem Afp (s:ByteArray)(w:World)(hs:s.size≤maxLen) :
 Calls Tryz.prog 51 #[.string s] w fun e w'=>e=.returned (.int .i64 (Ey s.data.toList))∧Below w.heap.size w w':=by
 unfold maxLen at hs
 go_enter Tryz.func51,Tryz.ntmps51
 go_wp2
 go_loopw [3,4] (fun e d wr=>∃k D E:Nat,wr=w.iter s k∧k≤s.size∧d=.int .i64 D∧e=.int .i64 E∧D≤k∧Gq s.data.toList k D E) (fun _ _ wr=>s.size-wr.iterPos w.heap.size)
 case atStart=>exact ⟨0,0,0,rfl,Nat.zero_le _,rfl,rfl,Nat.le_refl _,Gq.start _⟩
 case round=>
  obtain ⟨k,D,E,rfl,hk,rfl,rfl,hD,hi⟩:=hrel
  have HI:=Lib.hid hi
  clear hi
  have hiter:∀p,Below w.heap.size w (w.iter s p):=fun p=>(Below.refl _ _).alloc (Nat.le_refl _) _
  by_cases hlt:k<s.size
  ·have hg:=EF s k hlt
   have hll:k<s.data.toList.length:=by simpa using hlt
   by_cases hm:k=0∧s[k].toNat=45
   ·obtain ⟨rfl,hm⟩:=hm
    have HS:=Lib.hid (Gq.skip HI.out hll (by rw [hg];exact hm))
    have hnx:=fun ty=>run_next_ascii (P:=Tryz.prog) w s 0 ty hlt (by omega)
    have hm':((s[0].toNat:Int)==45)=true:=by rw [hm];rfl
    clear hm hg
    go_wp2
    go_roundw
    case rel=>exact ⟨1,D,E,rfl,by omega,rfl,rfl,by omega,HS.out⟩
    case measure=>simp;omega
   ·by_cases hd:48≤s[k].toNat∧s[k].toNat≤57
    ·obtain ⟨hd1,hd2⟩:=hd
     have HS:=Lib.hid (Gq.more HI.out hll (by rw [hg];exact hd1) (by rw [hg];exact hd2))
     have hnx:=fun ty=>run_next_ascii (P:=Tryz.prog) w s k ty hlt (by omega)
     generalize s[k].toNat=b at *
     have hm':((b:Int)==45)=false:=by simp;omega
     clear hm hg
     by_cases hk0:k=0
     ·subst hk0
      go_wp2
      go_roundw
      case rel=>exact ⟨1,D+1,1,rfl,by omega,by go_num,rfl,by omega,HS.out⟩
      case measure=>simp;omega
     ·have hk0':((k:Int)==0)=false:=by simp;omega
      go_wp2
      go_roundw
      case rel=>exact ⟨k+1,D+1,k+1,rfl,by omega,by go_num,by go_num,by omega,HS.out⟩
      case measure=>simp;omega
    ·have HS:=Lib.hid (Gq.stop HI.out (fun h=>by rw [hg];exact ⟨hd,hm⟩))
     obtain ⟨r,p,hnx,hr⟩:∃(r:Int) (p:Nat),(∀ty,(Instr.next (.pointer (some ⟨w.heap.size,0,none⟩)) true ty).run Tryz.prog (w.iter s k)=.ok (.tuple #[.bool true,.int .i64 k,.int .i32 r]) (w.iter s p))∧(r<48∨57<r)∧¬(k=0∧r=45):=by
      by_cases ha:s[k].toNat<128
      ·exact ⟨_,_,fun ty=>run_next_ascii (P:=Tryz.prog) w s k ty hlt ha,by omega,by omega⟩
      ·have:=decode_high s k hlt (by omega)
       exact ⟨_,_,fun ty=>run_next_any (P:=Tryz.prog) w s k ty hlt,by omega,by omega⟩
     obtain ⟨hr,hr2⟩:=hr
     clear hg hd hm
     have key:(k=0∧(r==45)=false)∨((k:Int)==0)=false:=by
      by_cases hk0:k=0
      ·exact .inl ⟨hk0,by simp;omega⟩
      ·exact .inr (by simp;omega)
     by_cases hD0:D=0
     ·subst hD0
      rcases key with ⟨rfl,hr45⟩|hk0
      all_goals
       rcases hr with hr|hr
       all_goals
        go_wp2
        go_ret
        exact ⟨KC (by rw [HS.out];rfl),hiter _⟩
     ·have hD0':((D:Int)==0)=false:=by simp;omega
      rcases key with ⟨rfl,hr45⟩|hk0
      ·exact absurd hD (by omega)
      rcases hr with hr|hr
      all_goals
       go_wp2
       go_ret
       exact ⟨KC (by rw [HS.out,if_neg hD0]),hiter _⟩
  ·have HS:=Lib.hid (Gq.stop HI.out (fun h=>absurd h (by simp;omega)))
   have hnx:=fun ty=>run_next_end (P:=Tryz.prog) w s k ty hlt
   by_cases hD0:D=0
   ·subst hD0
    go_wp2
    go_ret
    exact ⟨KC (by rw [HS.out];rfl),hiter _⟩
   ·have hD0':((D:Int)==0)=false:=by simp;omega
    go_wp2
    go_ret
    exact ⟨KC (by rw [HS.out,if_neg hD0]),hiter _⟩
end Go.Proofs.YtdfbohaohjaloaaGreatDoor
end
section
namespace Go.Proofs.YtdfbohaohjaloaaGreatDoor
set_option maxRecDepth 10000
open Go.RowKit Punnet.Num
theorem AnE {s:ByteArray}(h0:0<s.size)(hb:s[0].toNat≠45):valueOf s.data.toList=if s[0].toNat=48∧1<s.size then (0,4) else if 9223372036854775807<Bq s.data.toList then (0,3) else ((Bq s.data.toList:Int),0):=by
 have hl:0<s.data.toList.length:=by simpa using h0
 have hn:neg s.data.toList=0:=NU hl (by rw [EF s 0 h0];exact hb)
 have hh:s.data.toList.head? = some s[0]:=by
  rw [List.head?_eq_getElem?,List.getElem?_eq_getElem hl,EF s 0 h0]
 have e:(s[0] = 48)↔s[0].toNat=48:=by rw [←UInt8.toNat_inj];rfl
 have hsz:s.data.toList.length=s.size:=by simp
 simp only [valueOf,hn,List.drop_zero,hh,Option.some.injEq,e,hsz,Nat.zero_ne_one,false_or,if_false]
theorem AjD {s:ByteArray}(h0:1<s.size)(hb:s[0].toNat=45):valueOf s.data.toList=if s[1].toNat=48 then (0,4) else if 9223372036854775808<Bq (s.extract 1 s.size).data.toList then (0,3) else (-(Bq (s.extract 1 s.size).data.toList:Int),0):=by
 have hl:1<s.data.toList.length:=by simpa using h0
 have hn:neg s.data.toList=1:=UE (by omega) (by rw [EF s 0 (by omega)];exact hb)
 have hd:(s.extract 1 s.size).data.toList=s.data.toList.drop 1:=Lib.extract_to_end s 1
 have hh:(s.data.toList.drop 1).head? = some s[1]:=by
  rw [List.head?_eq_getElem?,List.getElem?_drop,List.getElem?_eq_getElem hl,EF s 1 h0]
 have e:(s[1] = 48)↔s[1].toNat=48:=by rw [←UInt8.toNat_inj];rfl
 simp only [valueOf,hn,hd,hh,Option.some.injEq,e,true_or,and_true,if_true]
theorem ArI (S:Nat)(h:S≤9223372036854775808):wrap64 (wrap64 (-wrap64 (IntKind.u64.wrap ((S:Int)-1)))-1) = -(S:Int):=by
 simp only [wrap64,IntKind.wrap_u64]
 omega
theorem Agv (s:ByteArray)(w:World)(hs:s.size≤maxLen)(h0:0<s.size)(hd:∀k (h:k<s.size),48≤s[k].toNat∧s[k].toNat≤57) :
 Calls Tryz.prog 52 #[.string s] w fun e w'=>e=.returned (.tuple #[.int .i64 (valueOf s.data.toList).1,.int .i64 (valueOf s.data.toList).2])∧Below w.heap.size w w':=by
 unfold maxLen at hs
 have H0:=hd 0 h0
 have HV:=Lib.hid (AnE h0 (by omega))
 have b45:((s[0].toNat:Int)==45)=false:=by simp;omega
 have HD:=Lib.hid hd
 clear hd
 have h0':(0:Int)<s.size:=by omega
 by_cases hz:s[0].toNat=48∧1<s.size
 ·have HV':=Lib.hid (HV.out.trans (if_pos hz))
  obtain ⟨hz,h1⟩:=hz
  have b48:((s[0].toNat:Int)==48)=true:=by simp;omega
  have h1':(1:Int)<s.size:=by omega
  clear hz
  go_enter Tryz.func52,Tryz.ntmps52
  go_wp2
  go_ret2
  exact ⟨Io (by rw [HV'.out]),Below.refl _ _⟩
 ·have HV':=Lib.hid (HV.out.trans (if_neg hz))
  have key:((s[0].toNat:Int)==48)=false∨(((s[0].toNat:Int)==48)=true∧(s.size:Int)≤1):=by
   by_cases e:s[0].toNat=48
   ·exact .inr ⟨by simp;omega,by omega⟩
   ·exact .inl (by simp;omega)
  clear hz HV
  have hiter:∀p,Below w.heap.size w (w.iter s p):=fun p=>(Below.refl _ _).alloc (Nat.le_refl _) _
  rcases key with b48|⟨b48,h1⟩
  all_goals
   go_enter Tryz.func52,Tryz.ntmps52
   go_wp2
   go_loopw [7] (fun v wr=>∃k S:Nat,wr=w.iter s k∧k≤s.size∧v=.int .u64 S∧S≤9223372036854775807∧S=Bq (s.data.toList.take k)) (fun _ wr=>s.size-wr.iterPos w.heap.size)
   case atStart=>exact ⟨0,0,rfl,Nat.zero_le _,rfl,by omega,rfl⟩
   case round=>
    obtain ⟨k,S,rfl,hk,rfl,hS,hn⟩:=hrel
    by_cases hlt:k<s.size
    ·have hg:=EF s k hlt
     have hll:k<s.data.toList.length:=by simpa using hlt
     have HT:=Lib.hid (Ad3 hll)
     have hdk:=HD.out k hlt
     have hnx:=fun ty=>run_next_ascii (P:=Tryz.prog) w s k ty hlt (by omega)
     rw [hg,←hn] at HT
     have HN:=Lib.hid hn
     clear hg hn
     generalize s[k].toNat=b at *
     by_cases hov:10*S+(b-48)≤9223372036854775807
     ·have hov':(S:Int)≤(9223372036854775807-((b:Int)-48)) / 10:=by omega
      go_wp2
      go_roundw
      case rel=>exact ⟨k+1,10*S+(b-48),rfl,by omega,by go_num,by omega,HT.out.symm⟩
      case measure=>simp;omega
     ·have hov':(9223372036854775807-((b:Int)-48)) / 10<(S:Int):=by omega
      have HV2:=Lib.hid (HV'.out.trans (if_pos (by have:=V8 s.data.toList (k+1);have:=HT.out;omega)))
      go_wp2
      go_ret2
      exact ⟨Io (by rw [HV2.out]),hiter _⟩
    ·have HN:=Lib.hid hn
     have HV2:=Lib.hid (HV'.out.trans (if_neg (by rw [hn] at hS;rw [List.take_of_length_le (by simp;omega)] at hS;omega)))
     clear hn
     have hnx:=fun ty=>run_next_end (P:=Tryz.prog) w s k ty hlt
     go_wp2
     go_ret2
     exact ⟨Io (by rw [HV2.out,HN.out,List.take_of_length_le (by simp;omega)]),hiter _⟩
theorem AqQ (s:ByteArray)(w:World)(hs:s.size≤maxLen)(h0:1<s.size)(hb:s[0].toNat=45)(hd:∀k (h:k<s.size),0<k→48≤s[k].toNat∧s[k].toNat≤57) :
 Calls Tryz.prog 52 #[.string s] w fun e w'=>e=.returned (.tuple #[.int .i64 (valueOf s.data.toList).1,.int .i64 (valueOf s.data.toList).2])∧Below w.heap.size w w':=by
 unfold maxLen at hs
 have hv:=AjD h0 hb
 have b45:((s[0].toNat:Int)==45)=true:=by simp;omega
 obtain ⟨t,ht⟩:∃t,s.extract 1 s.size=t:=⟨_,rfl⟩
 have hts:t.size=s.size-1:=by rw [←ht];simp
 have htg:∀k (h:k<t.size),t[k] = s[1+k]:=by subst ht;intro k h;rw [ByteArray.getElem_extract]
 rw [ht] at hv
 have t0:0<t.size:=by omega
 rw [←htg 0 t0] at hv
 have HV:=Lib.hid hv
 have hdt:∀k (h:k<t.size),48≤t[k].toNat∧t[k].toNat≤57:=fun k h=>by rw [htg k h];exact hd _ _ (by omega)
 have HD:=Lib.hid hdt
 have h0':(0:Int)<s.size:=by omega
 have h1':(1:Int)≤s.size:=by omega
 have t0':(0:Int)<t.size:=by omega
 have tm:t.size≤9223372036854775807:=by omega
 clear hd hb hv hts htg hdt
 by_cases hz:t[0].toNat=48
 ·have HV':=Lib.hid (HV.out.trans (if_pos hz))
  have b48:((t[0].toNat:Int)==48)=true:=by simp;omega
  clear hz
  go_enter Tryz.func52,Tryz.ntmps52
  go_wp2
  go_ret2
  exact ⟨Io (by rw [HV'.out]),Below.refl _ _⟩
 ·have HV':=Lib.hid (HV.out.trans (if_neg hz))
  have b48:((t[0].toNat:Int)==48)=false:=by simp;omega
  clear hz HV
  have hiter:∀p,Below w.heap.size w (w.iter t p):=fun p=>(Below.refl _ _).alloc (Nat.le_refl _) _
  go_enter Tryz.func52,Tryz.ntmps52
  go_wp2
  go_loopw [7] (fun v wr=>∃k S:Nat,wr=w.iter t k∧k≤t.size∧v=.int .u64 S∧S≤9223372036854775808∧S=Bq (t.data.toList.take k)) (fun _ wr=>t.size-wr.iterPos w.heap.size)
  case atStart=>exact ⟨0,0,rfl,Nat.zero_le _,rfl,by omega,rfl⟩
  case round=>
   obtain ⟨k,S,rfl,hk,rfl,hS,hn⟩:=hrel
   by_cases hlt:k<t.size
   ·have hg:=EF t k hlt
    have hll:k<t.data.toList.length:=by simpa using hlt
    have HT:=Lib.hid (Ad3 hll)
    have hdk:=HD.out k hlt
    have hnx:=fun ty=>run_next_ascii (P:=Tryz.prog) w t k ty hlt (by omega)
    rw [hg,←hn] at HT
    have HN:=Lib.hid hn
    clear hg hn ht
    generalize t[k].toNat=b at *
    by_cases hov:10*S+(b-48)≤9223372036854775808
    ·have hov':(S:Int)≤(9223372036854775808-((b:Int)-48)) / 10:=by omega
     go_wp2
     go_roundw
     case rel=>exact ⟨k+1,10*S+(b-48),rfl,by omega,by go_num,by omega,HT.out.symm⟩
     case measure=>simp;omega
    ·have hov':(9223372036854775808-((b:Int)-48)) / 10<(S:Int):=by omega
     have HV2:=Lib.hid (HV'.out.trans (if_pos (by have:=V8 t.data.toList (k+1);have:=HT.out;omega)))
     go_wp2
     go_ret2
     exact ⟨Io (by rw [HV2.out]),hiter _⟩
   ·have HN:=Lib.hid hn
    have HV2:=Lib.hid (HV'.out.trans (if_neg (by rw [hn] at hS;rw [List.take_of_length_le (by simp;omega)] at hS;omega)))
    clear hn ht
    have hnx:=fun ty=>run_next_end (P:=Tryz.prog) w t k ty hlt
    go_wp2
    go_ret2
    refine ⟨Io ?_,hiter _⟩
    rw [HV2.out,←List.take_of_length_le (l:=t.data.toList) (i:=k) (by simp;omega),←HN.out]
    rw [ArI S hS]
theorem AgV {s:ByteArray}(h0:0<s.size)(hp:Ey s.data.toList=s.size) :
 (s[0].toNat≠45∧∀k (h:k<s.size),48≤s[k].toNat∧s[k].toNat≤57)∨(s[0].toNat=45∧1<s.size∧∀k (h:k<s.size),0<k→48≤s[k].toNat∧s[k].toNat≤57):=by
 have hl:0<s.data.toList.length:=by simpa using h0
 have hall:∀k (h:k<s.size),neg s.data.toList≤k→48≤s[k].toNat∧s[k].toNat≤57:=by
  intro k h hk
  have:=AaW (l:=s.data.toList) (by simpa using hp) hl k (by simpa using h) hk
  rw [EF s k h] at this
  simpa [dig] using this
 by_cases hb:s[0].toNat=45
 ·have hn:neg s.data.toList=1:=UE hl (by rw [EF s 0 h0];exact hb)
  refine .inr ⟨hb,?_,fun k h hk=>hall k h (by omega)⟩
  have:=YF (l:=s.data.toList) (by simpa using hp) hl
  rw [hn] at this
  simpa using this
 ·have hn:neg s.data.toList=0:=NU hl (by rw [EF s 0 h0];exact hb)
  exact .inl ⟨hb,fun k h=>hall k h (by omega)⟩
theorem AoX (s:ByteArray)(w:World)(hs:s.size≤maxLen)(h0:0<s.size)(hp:Ey s.data.toList=s.size) :
 Calls Tryz.prog 52 #[.string s] w fun e w'=>e=.returned (.tuple #[.int .i64 (valueOf s.data.toList).1,.int .i64 (valueOf s.data.toList).2])∧Below w.heap.size w w':=by
 rcases AgV h0 hp with ⟨_,hd⟩|⟨hb,h1,hd⟩
 ·exact Agv s w hs h0 hd
 ·exact AqQ s w hs h1 hb hd
end Go.Proofs.YtdfbohaohjaloaaGreatDoor
end
section
namespace Go.Proofs.YtdfbohaohjaloaaGreatDoor
set_option maxRecDepth 10000
open Go.RowKit Punnet.Num
set_option maxHeartbeats 400000 in
theorem AuW (s:ByteArray)(w:World)(hs:s.size≤maxLen) :
 Calls Tryz.prog 23 #[.string s] w fun e w'=>e=.returned (.tuple #[.int .i64 (BU s.data.toList).1,.int .i64 (BU s.data.toList).2])∧Below w.heap.size w w':=by
 have hlen:s.data.toList.length=s.size:=by simp
 have HP:=Lib.hid (Afp s w hs)
 have HR:=Lib.hid (show BU s.data.toList=if Ey s.data.toList=0∨Ey s.data.toList≠s.size then (0,4) else valueOf s.data.toList by rw [BU,hlen])
 have HA:=Lib.hid (fun w1=>AoX s w1 hs)
 have hm:s.size≤9223372036854775807:=by unfold maxLen at hs;omega
 have hle:Ey s.data.toList≤s.size:=by rw [←hlen];exact AvK _
 clear hlen hs
 generalize BU s.data.toList=R at *
 generalize hv:valueOf s.data.toList=v at *
 have HV:=Lib.hid hv
 clear hv
 generalize hp:Ey s.data.toList=p at *
 have HPE:=Lib.hid hp
 clear hp
 by_cases h0:p=0
 ·have HR':=Lib.hid (HR.out.trans (if_pos (.inl h0)))
  subst h0
  go_enter Tryz.func23,Tryz.ntmps23
  go_wp2_with (go_at_call 51;refine HP.out.mono ?_;rintro e w1 ⟨rfl,hb1⟩)
  go_ret2
  exact ⟨Io (by rw [HR'.out]),hb1⟩
 ·have b0:((p:Int)==0)=false:=by simp;omega
  by_cases h1:p=s.size
  ·have HR':=Lib.hid (HR.out.trans (if_neg (by omega)))
   have b1:((p:Int) != (s.size:Int))=false:=by simp;omega
   have H0:0<s.size:=by omega
   have HA':=Lib.hid (fun w1=>HA.out w1 H0 h1)
   clear h1 HA
   go_enter Tryz.func23,Tryz.ntmps23
   go_wp2_with (first|(go_at_call 51;refine HP.out.mono ?_;rintro e w1 ⟨rfl,hb1⟩)|(go_at_call 52;refine (HA'.out _).mono ?_;rintro e w2 ⟨rfl,hb2⟩))
   go_ret2
   exact ⟨Io (by rw [HR'.out]),Ti hb1 hb2⟩
  ·have HR':=Lib.hid (HR.out.trans (if_pos (.inr h1)))
   have b1:((p:Int) != (s.size:Int))=true:=by simp;omega
   clear h1
   go_enter Tryz.func23,Tryz.ntmps23
   go_wp2_with (go_at_call 51;refine HP.out.mono ?_;rintro e w1 ⟨rfl,hb1⟩)
   go_ret2
   exact ⟨Io (by rw [HR'.out]),hb1⟩
end Go.Proofs.YtdfbohaohjaloaaGreatDoor
end
section
namespace Go.Proofs.YtdfbohaohjaloaaGreatDoor
set_option maxRecDepth 10000
open Go.RowKit Punnet.Num
def WI (n:Int)(m:Nat)(w:World)(a':Act)(w':World):Prop:=
 ∃(left k:Nat) (tail:List UInt8) (A:Array Value) (u6 u7 u8 u9 u10 u11 u12 u13 u14 u15 u16 u17 u18 u19 u20 u21 u22 u23:Value),
  a' = { tmps:=#[.int .i64 n,undef,.string ⟨#[]⟩,.pointer (some ⟨w.heap.size,0,none⟩),.int .i64 ((k:Int)+1+1),.int .u64 (left:Int),u6,u7,u8,u9,u10,u11,u12,u13,u14,u15,u16,u17,u18,u19,u20,u21,u22,u23,undef,undef,undef,undef,undef,undef,undef,undef,undef],defers:=[] } ∧
  w'=w.alloc (.cells A 107)∧A.size=20∧k+2+tail.length=20∧(∀j (h:j<tail.length),A[k+2+j]? = some (.int .u8 (tail[j].toNat:Int))) ∧
  left<10 ^ (k+1)∧left<18446744073709551616∧BJ m=BJ left++tail
theorem Yk {A:Array Value}{tail:List UInt8}{k:Nat}(hA:A.size=20)(hk:k+1+tail.length=20)(hc:∀j (h:j<tail.length),A[k+1+j]? = some (.int .u8 (tail[j].toNat:Int)))
 (d:UInt8) (n:Int) (hn:n=d.toNat) :
 ∀j (h:j<(d::tail).length),(A.setIfInBounds k (.int .u8 n))[k+j]? = some (.int .u8 ((d::tail)[j].toNat:Int)):=by
 intro j h
 cases j with
 |zero=>
  have:k<A.size:=by omega
  simp [hn,this]
 |succ j=>
  have h':j<tail.length:=by simpa using h
  rw [Array.getElem?_setIfInBounds,if_neg (by omega),show k+(j+1)=k+1+j by omega,hc j h']
  rfl
theorem Za (m:Nat):(48+(m:Int) % 10)=((UInt8.ofNat (48+m % 10)).toNat:Int):=by
 rw [UInt8.toNat_ofNat']
 omega
theorem Acx (b:Nat)(W:World)(z:Int)(k:Nat)(hz:z=k)(hk:k<20)(n:Nat)(hn:n=20-k) :
 (Instr.sliceAt 107 (.pointer (some ⟨b,0,none⟩)) (some (.int .i64 z)) none none).run Tryz.prog W=.ok (.slice (some ⟨b,k,none⟩) n n) W:=by
 subst hz hn
 have h:Tryz.prog.arrayLen 107=20:=by kernel_rfl
 have hs:∀w,(Go.sizeOf (Tryz.prog.elem 107)).run Tryz.prog w=.ok 1 w:=fun _=>by kernel_rfl
 have ht:Tryz.prog.underlying 107=some (.array (Tryz.prog.arrayLen 107) (Tryz.prog.elem 107)):=by kernel_rfl
 rw [run_sliceAt_array_l W _ _ ht .i64 k (by omega) (by omega),hs,h]
 have e:(⟨b,0,none⟩:Addr).add k=⟨b,k,none⟩:=by unfold Addr.add;split<;>simp_all
 simp only [Result.andThen_ok,slicedAt,Int.toNat_natCast,Nat.mul_one,e]
 rw [if_neg (by omega)]
theorem Ab1 (w:World)(A:Array Value)(l:List UInt8)(k n:Nat)(hn:n=l.length)(hc:∀j (h:j<l.length),A[k+j]? = some (.int .u8 (l[j].toNat:Int))) :
 (convert 109 9 (.slice (some ⟨w.heap.size,k,none⟩) n n)).run Tryz.prog (w.alloc (.cells A 107))=.ok (.string ⟨l.toArray⟩) (w.alloc (.cells A 107)):=by
 subst hn
 refine run_convert_bytes_back _ 109 9 5 _ _ l Tryz.underlying109 Tryz.underlying5 Tryz.underlying9 fun j hj=>?_
 have e:(⟨w.heap.size,k,none⟩:Addr).add j=⟨w.heap.size,k+j,none⟩:=by unfold Addr.add;split<;>simp_all
 rw [←hc j hj,e,World.cell?_alloc_new]
theorem Acg {n:Int}{m left k:Nat}{tail:List UInt8}{A:Array Value}(w:World)(hl64:left<18446744073709551616)(h10:¬left<10)(hA:A.size=20)(hk:k+2+tail.length=20)
 (hc:∀j (h:j<(UInt8.ofNat (48+left % 10)::tail).length),(A.setIfInBounds (k+1) (.int .u8 (48+(left:Int) % 10)))[k+1+j]? = some (.int .u8 ((UInt8.ofNat (48+left % 10)::tail)[j].toNat:Int)))
 (hl:left<10 ^ (k+1)) (hd:BJ m=BJ left++tail) {u6 u7 u8 u9 u10 u11 u12 u13 u14 u15 u16 u17 u18 u19 u20 u21 u22 u23:Value} :
 WI n m w { tmps:=#[.int .i64 n,undef,.string ⟨#[]⟩,.pointer (some ⟨w.heap.size,0,none⟩),.int .i64 ((k:Int)+1),.int .u64 ((left:Int) / 10),u6,u7,u8,u9,u10,u11,u12,u13,u14,u15,u16,u17,u18,u19,u20,u21,u22,u23,undef,undef,undef,undef,undef,undef,undef,undef,undef],defers:=[] } (w.alloc (.cells (A.setIfInBounds (k+1) (.int .u8 (48+(left:Int) % 10))) 107)):=by
 have hk1:1≤k:=by
  rcases Nat.eq_zero_or_pos k with rfl|h
  ·simp at hl;omega
  ·exact h
 obtain ⟨j,rfl⟩:∃j,k=j+1:=⟨k-1,by omega⟩
 refine ⟨left / 10,j,UInt8.ofNat (48+left % 10)::tail,_,u6,u7,u8,u9,u10,u11,u12,u13,u14,u15,u16,u17,u18,u19,u20,u21,u22,u23,rfl,rfl,by simpa using hA,by simp;omega,hc,?_,by omega,?_⟩
 ·rw [Nat.div_lt_iff_lt_mul (by omega)];exact hl
 ·rw [hd,O3 h10];simp
set_option maxHeartbeats 400000 in
theorem AvO (n:Int)(w:World)(h0:n<0)(h1 : -9223372036854775808≤n) :
 Calls Tryz.prog 24 #[.int .i64 n] w fun e w'=>e=.returned (.string ⟨(print n).toArray⟩)∧Below w.heap.size w w':=by
 have hwr:IntKind.u64.wrap (-IntKind.u64.wrap n)=(n.natAbs:Int):=by simp only [IntKind.wrap_u64];omega
 go_enter Tryz.func24,Tryz.ntmps24
 go_wp2
 refine Ad0 0 (WI n n.natAbs w) (fun a' _=>(intOf (a'.tmps.getD 5 undef)).toNat) rfl ?_ ?_
 ·rintro a' w' ⟨left,k,tail,A,u6,u7,u8,u9,u10,u11,u12,u13,u14,u15,u16,u17,u18,u19,u20,u21,u22,u23,rfl,rfl,hA,hk,hc,hl,hl64,hd⟩
  clear hwr
  have hk20:k<19:=by omega
  have hts:=Yk (k:=k+1) hA hk hc (UInt8.ofNat (48+left % 10)) _ (Za left)
  obtain ⟨v0,hv0⟩:∃v,A[k+1]? = some v:=⟨_,Array.getElem?_eq_getElem (by omega)⟩
  by_cases h10:left<10
  ·have h10':(left:Int) / 10=0:=by omega
   obtain ⟨v1,hv1⟩:∃v,(A.setIfInBounds (k+1) (Value.int IntKind.u8 (48 + ↑left % 10)))[k]? = some v:=⟨_,Array.getElem?_eq_getElem (by simp;omega)⟩
   have hts2:=Yk (k:=k) (A:=A.setIfInBounds (k+1) (Value.int IntKind.u8 (48 + ↑left % 10))) (by simp [hA]) (by simp;omega) hts 45 45 rfl
   obtain ⟨N,hN⟩:∃N,N=20-k:=⟨_,rfl⟩
   have hsl:=fun b W=>Acx b W k k rfl (by omega) N hN
   have hcv:=Ab1 w _ _ k N (by simp;omega) hts2
   clear hN
   have HD:=Lib.hid (show print n=45::UInt8.ofNat (48+left % 10)::tail by
    rw [print,if_pos h0,hd,JO h10,Nat.mod_eq_of_lt h10];rfl)
   clear hA hk hc hl hd hts hts2
   generalize (45::UInt8.ofNat (48+left % 10)::tail)=L at hcv HD
   go_wp2
   simp only [Exit.jump]
   go_ret
   refine ⟨by rw [HD.out];rfl,(Below.refl _ _).alloc (Nat.le_refl _) _⟩
  ·have h10':0<(left:Int) / 10:=by omega
   have HA:=Lib.hid hA
   have HK:=Lib.hid hk
   have HC:=Lib.hid hts
   have HLE:=Lib.hid hl
   have HD:=Lib.hid hd
   clear hA hk hc hl hd hts
   go_wp2
   go_step3
   refine ⟨rfl,?_,?_⟩
   ·exact Acg w (by omega) h10 HA.out HK.out HC.out HLE.out HD.out
   ·simp [intOf]
    omega
 intro HL
 go_wp2
 go_step3
 refine (‹∀(a:Act) (w:World),Code.wp _ _ _ a w→_› : _) _ _ (HL.out _ _ ?_)
 have hdv:(n.natAbs)<10 ^ 19:=by
  have:n.natAbs≤9223372036854775808:=by omega
  exact Nat.lt_of_le_of_lt this (by decide)
 exact ⟨n.natAbs,18,[],_,_,_,_,_,_,_,_,_,_,_,_,_,_,_,_,_,_,_,rfl,rfl,rfl,rfl,fun j h=>absurd h (by simp),hdv,by omega,by simp⟩
set_option maxHeartbeats 400000 in
theorem Al7 (n:Int)(w:World)(h0:¬n<0)(h1:n≤9223372036854775807) :
 Calls Tryz.prog 24 #[.int .i64 n] w fun e w'=>e=.returned (.string ⟨(print n).toArray⟩)∧Below w.heap.size w w':=by
 have hwr:IntKind.u64.wrap n=(n.natAbs:Int):=by simp only [IntKind.wrap_u64];omega
 go_enter Tryz.func24,Tryz.ntmps24
 go_wp2
 refine Ad0 0 (WI n n.natAbs w) (fun a' _=>(intOf (a'.tmps.getD 5 undef)).toNat) rfl ?_ ?_
 ·rintro a' w' ⟨left,k,tail,A,u6,u7,u8,u9,u10,u11,u12,u13,u14,u15,u16,u17,u18,u19,u20,u21,u22,u23,rfl,rfl,hA,hk,hc,hl,hl64,hd⟩
  clear hwr
  have hk20:k<19:=by omega
  have hts:=Yk (k:=k+1) hA hk hc (UInt8.ofNat (48+left % 10)) _ (Za left)
  obtain ⟨v0,hv0⟩:∃v,A[k+1]? = some v:=⟨_,Array.getElem?_eq_getElem (by omega)⟩
  by_cases h10:left<10
  ·have h10':(left:Int) / 10=0:=by omega
   obtain ⟨N,hN⟩:∃N,N=20-(k+1):=⟨_,rfl⟩
   have hsl:=fun b W=>Acx b W ((k:Int)+1) (k+1) rfl (by omega) N hN
   have hcv:=Ab1 w _ _ (k+1) N (by simp;omega) hts
   clear hN
   have HD:=Lib.hid (show print n=UInt8.ofNat (48+left % 10)::tail by
    rw [print,if_neg (by omega),hd,JO h10,Nat.mod_eq_of_lt h10];rfl)
   clear hA hk hc hl hd hts
   generalize (UInt8.ofNat (48+left % 10)::tail)=L at hcv HD
   go_wp2
   simp only [Exit.jump]
   go_ret
   refine ⟨by rw [HD.out];rfl,(Below.refl _ _).alloc (Nat.le_refl _) _⟩
  ·have h10':0<(left:Int) / 10:=by omega
   have HA:=Lib.hid hA
   have HK:=Lib.hid hk
   have HC:=Lib.hid hts
   have HLE:=Lib.hid hl
   have HD:=Lib.hid hd
   clear hA hk hc hl hd hts
   go_wp2
   go_step3
   refine ⟨rfl,?_,?_⟩
   ·exact Acg w (by omega) h10 HA.out HK.out HC.out HLE.out HD.out
   ·simp [intOf]
    omega
 intro HL
 go_wp2
 go_step3
 refine (‹∀(a:Act) (w:World),Code.wp _ _ _ a w→_› : _) _ _ (HL.out _ _ ?_)
 have hdv:(n.natAbs)<10 ^ 19:=by
  have:n.natAbs≤9223372036854775808:=by omega
  exact Nat.lt_of_le_of_lt this (by decide)
 exact ⟨n.natAbs,18,[],_,_,_,_,_,_,_,_,_,_,_,_,_,_,_,_,_,_,_,rfl,rfl,rfl,rfl,fun j h=>absurd h (by simp),hdv,by omega,by simp⟩
theorem print_any (n:Int)(w:World)(h0 : -9223372036854775808≤n)(h1:n≤9223372036854775807) :
 Calls Tryz.prog 24 #[.int .i64 n] w fun e w'=>e=.returned (.string (DY n))∧Below w.heap.size w w':=by
 by_cases h:n<0
 ·exact AvO n w h h0
 ·exact Al7 n w h h1
end Go.Proofs.YtdfbohaohjaloaaGreatDoor
end
section
namespace Go.Proofs.YtdfbohaohjaloaaGreatDoor
set_option maxRecDepth 10000
open Go.RowKit Punnet.Num
theorem Aav (s:ByteArray)(h:∀j (hj:j<s.size),48≤s[j].toNat∧s[j].toNat≤57):s.data.toList.all dig=true:=by
 rw [List.all_eq_true]
 intro b hb
 obtain ⟨j,hj,rfl⟩:=List.getElem_of_mem hb
 rw [EF s j (by simpa using hj),dig,decide_eq_true_iff]
 exact h j _
theorem Zu (s:ByteArray)(j:Nat)(hj:j<s.size)(h:¬(48≤s[j].toNat∧s[j].toNat≤57)):s.data.toList.all dig=false:=by
 rw [Bool.eq_false_iff]
 intro ha
 rw [List.all_eq_true] at ha
 have:=ha (s.data.toList[j]'(by simpa using hj)) (List.getElem_mem _)
 rw [EF s j hj,dig,decide_eq_true_iff] at this
 exact h this
theorem Aql {s:ByteArray}(h0:0<s.size)(hb:s[0].toNat≠45):Fp s.data.toList=(s.data.toList.all dig && !(decide (s[0].toNat=48) && !(s.toList == [48]))):=by
 have hl:0<s.data.toList.length:=by simpa using h0
 have hn:neg s.data.toList=0:=NU hl (by rw [EF s 0 h0];exact hb)
 have hh:s.data.toList.head? = some s[0]:=by
  rw [List.head?_eq_getElem?,List.getElem?_eq_getElem hl,EF s 0 h0]
 have e:(s[0] = 48)↔s[0].toNat=48:=by rw [←UInt8.toNat_inj];rfl
 have e2:decide (s.data.toList≠[48]) = !(s.toList == [48]):=by
  rw [Lib.toList_data]
  by_cases h:s.data.toList= [48]<;>simp [h]
 simp only [Fp,hn,List.drop_zero,hh,Option.some.injEq,e,e2,decide_eq_true hl,Bool.true_and]
theorem Ap5 {s:ByteArray}(h0:0<s.size)(hb:s[0].toNat=45):Fp s.data.toList=(decide (0<(s.extract 1 s.size).size)&&(s.extract 1 s.size).data.toList.all dig && !(decide ((s.extract 1 s.size).data.toList.head? = some 48))):=by
 have hl:0<s.data.toList.length:=by simpa using h0
 have hn:neg s.data.toList=1:=UE hl (by rw [EF s 0 h0];exact hb)
 have hd:(s.extract 1 s.size).data.toList=s.data.toList.drop 1:=Lib.extract_to_end s 1
 have hsz:decide (1<s.data.toList.length)=decide (0<(s.extract 1 s.size).size):=by
  rw [decide_eq_decide];simp;omega
 have e2:decide (s.data.toList≠[48])=true:=by
  rw [decide_eq_true_iff]
  intro h
  have h1:=EF s 0 h0
  simp only [h] at h1
  rw [←h1] at hb
  exact absurd (show (48:UInt8).toNat=45 from hb) (by decide)
 simp only [Fp,hn,hd,hsz,e2,Bool.and_true]
set_option maxHeartbeats 400000 in
theorem Anq (w:World):Calls Tryz.prog 97 #[.string ⟨#[]⟩] w fun e w'=>e=.returned (.bool false)∧w=w':=by
 go_enter Tryz.func97,Tryz.ntmps97
 go_wp2
 go_ret
 exact ⟨rfl,rfl⟩
set_option maxHeartbeats 800000 in
theorem AsR (s:ByteArray)(w:World)(hs:s.size≤maxLen)(h0:0<s.size)(hb:s[0].toNat≠45) :
 Calls Tryz.prog 97 #[.string s] w fun e w'=>e=.returned (.bool (Fp s.data.toList))∧w=w':=by
 unfold maxLen at hs
 have HW:=Lib.hid (Aql h0 hb)
 have h0':(0:Int)<s.size:=by omega
 have hsz:((s.size:Int)==0)=false:=beq_eq_false_iff_ne.2 (by omega)
 have b45:((s[0].toNat:Int)==45)=false:=beq_eq_false_iff_ne.2 (by omega)
 clear hb
 by_cases hz:s[0].toNat=48∧(!(s.toList == [48]))=true
 ·obtain ⟨hz,h48⟩:=hz
  have HV:=Lib.hid (show Fp s.data.toList=false by rw [HW.out,decide_eq_true hz,h48];simp)
  have b48:((s[0].toNat:Int)==48)=true:=beq_iff_eq.2 (by omega)
  clear hz HW
  go_enter Tryz.func97,Tryz.ntmps97
  go_wp2
  go_ret
  exact ⟨FM HV.out.symm,rfl⟩
 ·have HV:=Lib.hid (show Fp s.data.toList=s.data.toList.all dig by
   rw [HW.out]
   by_cases e:s[0].toNat=48
   ·have:(!(s.toList == [48]))=false:=by
     rw [Bool.eq_false_iff];exact fun h=>hz ⟨e,h⟩
    rw [this];simp
   ·rw [decide_eq_false e];simp)
  have key:((s[0].toNat:Int)==48)=false∨(((s[0].toNat:Int)==48)=true∧(!(s.toList == [48]))=false):=by
   by_cases e:s[0].toNat=48
   ·exact .inr ⟨beq_iff_eq.2 (by omega),by rw [Bool.eq_false_iff];exact fun h=>hz ⟨e,h⟩⟩
   ·exact .inl (beq_eq_false_iff_ne.2 (by omega))
  clear hz HW
  rcases key with b48|⟨b48,h48⟩
  all_goals
   go_enter Tryz.func97,Tryz.ntmps97
   go_wp2
   go_loop [4] (fun i=>∃k:Nat,k≤s.size∧i=.int .i64 k∧∀j (h:j<s.size),j<k→48≤s[j].toNat∧s[j].toNat≤57) (fun i=>s.size-(intOf i).toNat)
   case atStart=>exact ⟨0,Nat.zero_le _,rfl,fun _ _ h=>absurd h (by omega)⟩
   case round=>
    obtain ⟨k,hk,rfl,hd⟩:=hrel
    have HD:=Lib.hid hd
    clear hd
    by_cases hlt:k<s.size
    ·by_cases hdk:48≤s[k].toNat∧s[k].toNat≤57
     ·obtain ⟨hd1,hd2⟩:=hdk
      have HD2:=Lib.hid (show ∀j (h:j<s.size),j<k+1→48≤s[j].toNat∧s[j].toNat≤57 from fun j h hj=>by
       by_cases e:j=k
       ·subst e;exact ⟨hd1,hd2⟩
       ·exact HD.out j h (by omega))
      go_wp2
      go_round
      case rel=>exact ⟨k+1,by omega,by go_num,HD2.out⟩
      case measure=>simp [intOf];omega
     ·have HV2:=Lib.hid (HV.out.trans (Zu s k hlt hdk))
      have hdk':s[k].toNat<48∨57<s[k].toNat:=by omega
      clear hdk
      rcases hdk' with hdk|hdk
      all_goals
       go_wp2
       go_ret
       exact ⟨FM HV2.out.symm,rfl⟩
    ·have HV2:=Lib.hid (HV.out.trans (Aav s fun j h=>HD.out j h (by omega)))
     go_wp2
     go_ret
     exact ⟨FM HV2.out.symm,rfl⟩
set_option maxHeartbeats 800000 in
theorem Auu (s:ByteArray)(w:World)(hs:s.size≤maxLen)(h0:0<s.size)(hb:s[0].toNat=45) :
 Calls Tryz.prog 97 #[.string s] w fun e w'=>e=.returned (.bool (Fp s.data.toList))∧w=w':=by
 unfold maxLen at hs
 have hw:=Ap5 h0 hb
 have h0':(0:Int)<s.size:=by omega
 have h1':(1:Int)≤s.size:=by omega
 have b45:((s[0].toNat:Int)==45)=true:=beq_iff_eq.2 (by omega)
 obtain ⟨t,ht⟩:∃t,s.extract 1 s.size=t:=⟨_,rfl⟩
 have hts:t.size=s.size-1:=by rw [←ht];simp
 rw [ht] at hw
 have ts:t.size≤9223372036854775807:=by omega
 clear hb
 by_cases hz:t.size=0
 ·have HV:=Lib.hid (show Fp s.data.toList=false by rw [hw,hz];simp)
  have bz:((t.size:Int)==0)=true:=beq_iff_eq.2 (by omega)
  clear hz hw hts
  go_enter Tryz.func97,Tryz.ntmps97
  go_wp2
  go_ret
  exact ⟨FM HV.out.symm,rfl⟩
 ·have bz:((t.size:Int)==0)=false:=beq_eq_false_iff_ne.2 (by omega)
  have t0:0<t.size:=by omega
  have t0':(0:Int)<t.size:=by omega
  have hh:t.data.toList.head? = some t[0]:=by
   rw [List.head?_eq_getElem?,List.getElem?_eq_getElem (by simpa using t0),EF t 0 t0]
  have e:(t[0] = 48)↔t[0].toNat=48:=by rw [←UInt8.toNat_inj];rfl
  have h48:(!(s.toList == [48]))=true:=by
   rw [Lib.toList_data]
   by_cases h:s.data.toList= [48]
   ·have h1:=EF s 0 h0
    simp only [h] at h1
    rw [←h1] at b45
    exact absurd (show (((48:UInt8).toNat:Int)==45)=true from b45) (by decide)
   ·simp [h]
  simp only [hh,Option.some.injEq,e,decide_eq_true t0,Bool.true_and] at hw
  clear hz hts hh e
  by_cases h8:t[0].toNat=48
  ·have HV:=Lib.hid (show Fp s.data.toList=false by rw [hw,decide_eq_true h8];simp)
   have b48:((t[0].toNat:Int)==48)=true:=beq_iff_eq.2 (by omega)
   clear h8 hw
   go_enter Tryz.func97,Tryz.ntmps97
   go_wp2
   go_ret
   exact ⟨FM HV.out.symm,rfl⟩
  ·have HV:=Lib.hid (show Fp s.data.toList=t.data.toList.all dig by rw [hw,decide_eq_false h8];simp)
   have b48:((t[0].toNat:Int)==48)=false:=beq_eq_false_iff_ne.2 (by omega)
   clear h8 hw
   go_enter Tryz.func97,Tryz.ntmps97
   go_wp2
   go_loop [4] (fun i=>∃k:Nat,k≤t.size∧i=.int .i64 k∧∀j (h:j<t.size),j<k→48≤t[j].toNat∧t[j].toNat≤57) (fun i=>t.size-(intOf i).toNat)
   case atStart=>exact ⟨0,Nat.zero_le _,rfl,fun _ _ h=>absurd h (by omega)⟩
   case round=>
    obtain ⟨k,hk,rfl,hd⟩:=hrel
    have HD:=Lib.hid hd
    clear hd
    by_cases hlt:k<t.size
    ·by_cases hdk:48≤t[k].toNat∧t[k].toNat≤57
     ·obtain ⟨hd1,hd2⟩:=hdk
      have HD2:=Lib.hid (show ∀j (h:j<t.size),j<k+1→48≤t[j].toNat∧t[j].toNat≤57 from fun j h hj=>by
       by_cases e:j=k
       ·subst e;exact ⟨hd1,hd2⟩
       ·exact HD.out j h (by omega))
      go_wp2
      go_round
      case rel=>exact ⟨k+1,by omega,by go_num,HD2.out⟩
      case measure=>simp [intOf];omega
     ·have HV2:=Lib.hid (HV.out.trans (Zu t k hlt hdk))
      have hdk':t[k].toNat<48∨57<t[k].toNat:=by omega
      clear hdk
      rcases hdk' with hdk|hdk
      all_goals
       go_wp2
       go_ret
       exact ⟨FM HV2.out.symm,rfl⟩
    ·have HV2:=Lib.hid (HV.out.trans (Aav t fun j h=>HD.out j h (by omega)))
     go_wp2
     go_ret
     exact ⟨FM HV2.out.symm,rfl⟩
theorem WS (s:ByteArray)(w:World)(hs:s.size≤maxLen) :
 Calls Tryz.prog 97 #[.string s] w fun e w'=>e=.returned (.bool (Fp s.data.toList))∧w=w':=by
 by_cases h0:0<s.size
 ·by_cases hb:s[0].toNat=45
  ·exact Auu s w hs h0 hb
  ·exact AsR s w hs h0 hb
 ·obtain ⟨⟨l⟩⟩:=s
  have:l= []:=by
   have:l.length=0:=by simpa [ByteArray.size] using h0
   exact List.length_eq_zero_iff.1 this
  subst this
  exact Anq w
theorem Ahs (a b:ByteArray)(w:World)(ha:a.size≤maxLen)(hb:b.size≤maxLen) :
 Calls Tryz.prog 98 #[.string a,.string b] w fun e w'=>e=.returned (.bool (decide (a.size<b.size)||(decide (a.size=b.size)&&(Op.bytesLess a.data.toList b.data.toList||a.data.toList==b.data.toList))))∧w=w':=by
 unfold maxLen at ha hb
 rcases Nat.lt_trichotomy a.size b.size with h|h|h
 ·have h':(a.size:Int)<b.size:=by omega
  have HV:=Lib.hid (decide_eq_true h)
  go_enter Tryz.func98,Tryz.ntmps98
  go_wp2
  go_ret
  exact ⟨FM (by simp [h]),rfl⟩
 ·have h':¬(a.size:Int)<b.size:=by omega
  have h2:((a.size:Int)==b.size)=true:=beq_iff_eq.2 (by omega)
  have HV:=Lib.hid h
  clear h
  go_enter Tryz.func98,Tryz.ntmps98
  go_wp2
  go_ret
  exact ⟨FM (by simp [HV.out,Lib.toList_data]),rfl⟩
 ·have h':¬(a.size:Int)<b.size:=by omega
  have h2:((a.size:Int)==b.size)=false:=beq_eq_false_iff_ne.2 (by omega)
  go_enter Tryz.func98,Tryz.ntmps98
  go_wp2
  go_ret
  exact ⟨FM (by simp;omega),rfl⟩
end Go.Proofs.YtdfbohaohjaloaaGreatDoor
end
section
namespace Go.Proofs.YtdfbohaohjaloaaGreatDoor
set_option maxRecDepth 10000
open Go.RowKit Punnet.Num
theorem Ab0 (a b:ByteArray)(w:World)(ha:a.size≤maxLen)(hb:b.size≤maxLen) :
 Calls Tryz.prog 98 #[.string a,.string b] w fun e w'=>e=.returned (.bool (KA a.data.toList b.data.toList))∧w=w':=by
 have h:=Ahs a b w ha hb
 have h1:a.size=a.data.toList.length:=by simp
 have h2:b.size=b.data.toList.length:=by simp
 rw [h1,h2] at h
 exact h
def WM:ByteArray:=⟨#[57,50,50,51,51,55,50,48,51,54,56,53,52,55,55,53,56,48,56]⟩
def U0:ByteArray:=⟨#[57,50,50,51,51,55,50,48,51,54,56,53,52,55,55,53,56,48,55]⟩
theorem Apm (s:ByteArray)(w:World)(hs:s.size≤maxLen)(h0:0<s.size)(hb:s[0].toNat=45)(hw:Fp s.data.toList=true) :
 Calls Tryz.prog 53 #[.string s] w fun e w'=>e=.returned (.tuple #[.int .i64 (BU s.data.toList).1,.int .i64 (BU s.data.toList).2])∧w=w':=by
 have HW:=Lib.hid (WS s w hs)
 rw [hw] at HW
 have hl:0<s.data.toList.length:=by simpa using h0
 have hlen:s.data.toList.length=s.size:=by simp
 have hn:neg s.data.toList=1:=UE hl (by rw [EF s 0 h0];exact hb)
 have iw:=isWord hw
 have HR:=Lib.hid iw.read
 have hless:=iw.As2
 have hd:(s.extract 1 s.size).data.toList=s.data.toList.drop (neg s.data.toList):=by rw [hn];exact Lib.extract_to_end s 1
 have HL:=Lib.hid (Ab0 (s.extract 1 s.size) WM w (by simp;unfold maxLen at *;omega) (by decide))
 rw [hd] at HL
 rw [show WM.data.toList= [57,50,50,51,51,55,50,48,51,54,56,53,52,55,55,53,56,48,56] from rfl,hless] at HL
 rw [WM] at HL
 unfold maxLen at hs
 have h0':(0:Int)<s.size:=by omega
 have h1':(1:Int)≤s.size:=by omega
 have b45:((s[0].toNat:Int)==45)=true:=beq_iff_eq.2 (by omega)
 have b45':((s[0].toNat:Int) != 45)=false:=by rw [bne,b45];rfl
 have hdig:∀k (h:k<s.size),0<k→48≤s[k].toNat∧s[k].toNat≤57:=by
  intro k h hk
  rw [←EF s k h]
  have:=iw.digits (s.data.toList[k]'(by omega)) (by
   rw [hn]
   have e:s.data.toList[k]'(by omega)=(s.data.toList.drop 1)[k-1]'(by rw [List.length_drop];omega):=by
    rw [List.getElem_drop];congr 1;omega
   rw [e];exact List.getElem_mem _)
  exact this
 have HD:=Lib.hid hdig
 by_cases hov:9223372036854775808<Bq (s.data.toList.drop (neg s.data.toList))
 ·have HV:=Lib.hid (show BU s.data.toList=(0,3) by rw [HR.out,if_pos hn,if_pos hov])
  rw [decide_eq_false (by omega)] at HL
  clear hb hw hlen hn iw HR hless hd hdig hov HD
  go_enter Tryz.func53,Tryz.ntmps53
  go_wp2_with (first|(go_at_call 97;refine HW.out.mono ?_;rintro e w1 ⟨rfl,rfl⟩)|(go_at_call 98;refine HL.out.mono ?_;rintro e w1 ⟨rfl,rfl⟩))
  go_ret2
  exact ⟨Io (by rw [HV.out]),rfl⟩
 ·have HV:=Lib.hid (show BU s.data.toList=(-(Bq (s.data.toList.drop (neg s.data.toList)):Int),0) by rw [HR.out,if_pos hn,if_neg hov])
  rw [decide_eq_true (by omega)] at HL
  have HO:=Lib.hid hov
  have HN:=Lib.hid hn
  have hl1:s.data.toList.length≤s.size:=by omega
  have hl2:s.size≤s.data.toList.length:=by omega
  clear hb hw hlen hn iw HR hless hd hdig hov
  go_enter Tryz.func53,Tryz.ntmps53
  go_wp2_with (first|(go_at_call 97;refine HW.out.mono ?_;rintro e w1 ⟨rfl,rfl⟩)|(go_at_call 98;refine HL.out.mono ?_;rintro e w1 ⟨rfl,rfl⟩))
  go_loop [4,5] (fun n i=>∃k S:Nat,k≤s.size∧i=.int .i64 k∧n=.int .i64 (-(S:Int))∧S=Ij s.data.toList k) (fun _ i=>s.size-(intOf i).toNat)
  case atStart=>exact ⟨0,0,Nat.zero_le _,rfl,rfl,(XG _).symm⟩
  case round=>
   obtain ⟨k,S,hk,rfl,rfl,hS⟩:=hrel
   by_cases hlt:k<s.size
   ·have hle:=YJ s.data.toList (k+1)
    have HO':=HO.out
    by_cases hk0:k=0
    ·subst hk0
     have HS:=Lib.hid hS
     have HP:=XG s.data.toList
     clear hS
     have HP1:=Lib.hid (AmH HN.out)
     rw [HP] at HS
     have HS0:=HS.out
     subst HS0
     clear hle HP HO'
     go_wp2
     go_round
     case rel=>exact ⟨1,0,by omega,rfl,rfl,HP1.out.symm⟩
     case measure=>simp [intOf];omega
    ·obtain ⟨d1,d2⟩:=HD.out k hlt (by omega)
     have hst:=Zt (l:=s.data.toList) (k:=k) (by omega) (by have:=HN.out;omega)
     rw [EF s k hlt,←hS] at hst
     have HST:=Lib.hid hst
     have hbd:10*S+(s[k].toNat-48)≤9223372036854775808:=by omega
     clear hS hst hle HO'
     have hne:((s[k].toNat:Int) != 45)=true:=by rw [bne_iff_ne];omega
     go_wp2
     go_round
     case rel=>exact ⟨k+1,10*S+(s[k].toNat-48),by omega,by go_num,by go_num,HST.out.symm⟩
     case measure=>simp [intOf];omega
   ·have HE:=Lib.hid (hS.trans (ZX (by omega)))
    clear hS
    go_wp2
    go_ret2
    exact ⟨Io (by rw [HV.out,HE.out]),rfl⟩
theorem AjZ (s:ByteArray)(w:World)(hs:s.size≤maxLen)(h0:0<s.size)(hb:s[0].toNat≠45)(hw:Fp s.data.toList=true) :
 Calls Tryz.prog 53 #[.string s] w fun e w'=>e=.returned (.tuple #[.int .i64 (BU s.data.toList).1,.int .i64 (BU s.data.toList).2])∧w=w':=by
 have HW:=Lib.hid (WS s w hs)
 rw [hw] at HW
 have hl:0<s.data.toList.length:=by simpa using h0
 have hlen:s.data.toList.length=s.size:=by simp
 have hn:neg s.data.toList=0:=NU hl (by rw [EF s 0 h0];exact hb)
 have iw:=isWord hw
 have HR:=Lib.hid iw.read
 have hless:KA s.data.toList [57,50,50,51,51,55,50,48,51,54,56,53,52,55,55,53,56,48,55] = decide (Bq (s.data.toList.drop (neg s.data.toList))≤9223372036854775807):=by
  rw [←iw.AsT]
  rw [hn];rfl
 have hd:s.data.toList=s.data.toList.drop (neg s.data.toList):=by rw [hn];rfl
 have HL:=Lib.hid (Ab0 s U0 w hs (by decide))
 rw [show U0.data.toList= [57,50,50,51,51,55,50,48,51,54,56,53,52,55,55,53,56,48,55] from rfl,hless] at HL
 rw [U0] at HL
 unfold maxLen at hs
 have h0':(0:Int)<s.size:=by omega
 have h1':(1:Int)≤s.size:=by omega
 have b45:((s[0].toNat:Int)==45)=false:=beq_eq_false_iff_ne.2 (by omega)
 have b45':((s[0].toNat:Int) != 45)=true:=by rw [bne,b45];rfl
 have hdig:∀k (h:k<s.size),48≤s[k].toNat∧s[k].toNat≤57:=by
  intro k h
  rw [←EF s k h]
  have:=iw.digits (s.data.toList[k]'(by omega)) (by
   rw [←hd];exact List.getElem_mem _)
  exact this
 have HD:=Lib.hid hdig
 by_cases hov:9223372036854775807<Bq (s.data.toList.drop (neg s.data.toList))
 ·have HV:=Lib.hid (show BU s.data.toList=(0,3) by rw [HR.out,if_neg (by omega),if_pos hov])
  rw [decide_eq_false (by omega)] at HL
  clear hb hw hlen hn iw HR hless hd hdig hov HD
  go_enter Tryz.func53,Tryz.ntmps53
  go_wp2_with (first|(go_at_call 97;refine HW.out.mono ?_;rintro e w1 ⟨rfl,rfl⟩)|(go_at_call 98;refine HL.out.mono ?_;rintro e w1 ⟨rfl,rfl⟩))
  go_ret2
  exact ⟨Io (by rw [HV.out]),rfl⟩
 ·have HV:=Lib.hid (show BU s.data.toList=((Bq (s.data.toList.drop (neg s.data.toList)):Int),0) by rw [HR.out,if_neg (by omega),if_neg hov])
  rw [decide_eq_true (by omega)] at HL
  have HO:=Lib.hid hov
  have HN:=Lib.hid hn
  have hl1:s.data.toList.length≤s.size:=by omega
  have hl2:s.size≤s.data.toList.length:=by omega
  clear hb hw hlen hn iw HR hless hd hdig hov
  go_enter Tryz.func53,Tryz.ntmps53
  go_wp2_with (first|(go_at_call 97;refine HW.out.mono ?_;rintro e w1 ⟨rfl,rfl⟩)|(go_at_call 98;refine HL.out.mono ?_;rintro e w1 ⟨rfl,rfl⟩))
  go_loop [4,5] (fun n i=>∃k S:Nat,k≤s.size∧i=.int .i64 k∧n=.int .i64 (-(S:Int))∧S=Ij s.data.toList k) (fun _ i=>s.size-(intOf i).toNat)
  case atStart=>exact ⟨0,0,Nat.zero_le _,rfl,rfl,(XG _).symm⟩
  case round=>
   obtain ⟨k,S,hk,rfl,rfl,hS⟩:=hrel
   by_cases hlt:k<s.size
   ·have hle:=YJ s.data.toList (k+1)
    have HO':=HO.out
    obtain ⟨d1,d2⟩:=HD.out k hlt
    have hst:=Zt (l:=s.data.toList) (k:=k) (by omega) (by have:=HN.out;omega)
    rw [EF s k hlt,←hS] at hst
    have HST:=Lib.hid hst
    have hbd:10*S+(s[k].toNat-48)≤9223372036854775807:=by omega
    clear hS hst hle HO'
    have hne:((s[k].toNat:Int) != 45)=true:=by rw [bne_iff_ne];omega
    go_wp2
    go_round
    case rel=>exact ⟨k+1,10*S+(s[k].toNat-48),by omega,by go_num,by go_num,HST.out.symm⟩
    case measure=>simp [intOf];omega
   ·have HE:=Lib.hid (hS.trans (ZX (by omega)))
    have hSb:S≤9223372036854775807:=by have h1:=HE.out;have h2:=HO.out;omega
    clear hS
    go_wp2
    go_ret2
    exact ⟨Io (by rw [HV.out,HE.out]),rfl⟩
set_option maxHeartbeats 400000 in
theorem Apo (s:ByteArray)(w:World)(hs:s.size≤maxLen)(hw:Fp s.data.toList=false) :
 Calls Tryz.prog 53 #[.string s] w fun e w'=>e=.returned (.tuple #[.int .i64 0,.int .i64 4])∧w=w':=by
 have HW:=Lib.hid (WS s w hs)
 rw [hw] at HW
 clear hw
 go_enter Tryz.func53,Tryz.ntmps53
 go_wp2_with (go_at_call 97;refine HW.out.mono ?_;rintro e w1 ⟨rfl,rfl⟩)
 go_ret2
 exact ⟨rfl,rfl⟩
theorem AuO (s:ByteArray)(w:World)(hs:s.size≤maxLen) :
 Calls Tryz.prog 53 #[.string s] w fun e w'=>e=.returned (.tuple #[.int .i64 (BU s.data.toList).1,.int .i64 (BU s.data.toList).2])∧w=w':=by
 cases hw:Fp s.data.toList with
 |false=>rw [Ab5 hw];exact Apo s w hs hw
 |true=>
  have h0:0<s.size:=by
   have:=(isWord hw).some_
   have h2:s.data.toList.length=s.size:=by simp
   omega
  by_cases hb:s[0].toNat=45
  ·exact Apm s w hs h0 hb hw
  ·exact AjZ s w hs h0 hb hw
end Go.Proofs.YtdfbohaohjaloaaGreatDoor
end
section
namespace Go.Vm
open Go.RowKit Go.Proofs Go.Proofs.YtdfbohaohjaloaaGreatDoor Punnet.Name Punnet.Num
theorem FB (n:Int)(h:BX n):AP Tryz.prog 24 [.sc (.int .i64 n)] [.d (.sc (.string (DY n)))]:=
 Yf (us:=[.int .i64 n]) rfl fun w=>print_any n w (by omega) (by omega)
theorem MF (s:ByteArray)(h:s.size≤1000000):AP Tryz.prog 23 [.sc (.string s)] [.d (.sc (.int .i64 (AU s).1)),.d (.sc (.int .i64 (AU s).2))]:=
 La (us:=[.string s]) (rs:=[]) (by simp [BN]) fun w=>AuW s w (by unfold maxLen;omega)
theorem Asg (s:ByteArray)(h:s.size≤1000000):AP Tryz.prog 53 [.sc (.string s)] [.d (.sc (.int .i64 (AU s).1)),.d (.sc (.int .i64 (AU s).2))]:=
 La (us:=[.string s]) (rs:=[]) (by simp [BN]) fun w=>(AuO s w (by unfold maxLen;omega)).mono (by rintro e w' ⟨rfl,rfl⟩;exact ⟨rfl,Below.refl _ _⟩)
theorem Aoa (s:ByteArray)(h:s.size≤40):AP Tryz.prog 135 [.sc (.string s)] [.d (.sc (.string (MI s))),.d (.sc (.int .i64 0))]:=
 La (us:=[.string s]) (rs:=[]) (by simp [BN]) fun w=>AfT s w h
theorem AlG (s:ByteArray)(h:s.size≤1000000):AP Tryz.prog 142 [.sc (.string s)] [.d (.sc (.string (Ea s).1)),.d (.sc (.int .i64 (Ea s).2))]:=
 La (us:=[.string s]) (rs:=[]) (by simp [BN]) fun w=>Aqc s w (by omega)
theorem AsG (s:ByteArray)(h:s.size≤1000000):AP Tryz.prog 79 [.sc (.string s),.sc (.int .i64 0)] [.d (.sc (.string (Dw s 0).1)),.d (.sc (.int .i64 ((Dw s 0).2.1:Nat))),.d (.sc (.int .i64 (Dw s 0).2.2))]:=
 La (us:=[.string s,.int .i64 0]) (r1:=.string (Dw s 0).1) (r2:=.int .i64 ((Dw s 0).2.1:Nat)) (rs:=[.int .i64 (Dw s 0).2.2]) (by simp [BN]) fun w=>AgL s 0 w (by omega) (by omega)
theorem AjU (s:ByteArray)(h:s.size≤1000000):AP Tryz.prog 28 [.sc (.string s)] [.d (.row ((splitB s 0).map strD))]:=
 VV (us:=[.string s]) fun w=>Agb s w (by omega)
theorem Ap7 (s:ByteArray)(h:s.size≤1000000):AP Tryz.prog 33 [.sc (.string s)] [.d (.row ((splitB s 0).map strD))]:=
 VV (us:=[.string s]) fun w=>Alm s w (by omega)
end Go.Vm
end
section
namespace Go.Vm
open Go.RowKit Go.Proofs
set_option maxRecDepth 10000
open Go.Proofs.YtdfbohaohjaloaaGreatDoor Punnet.Name Punnet.Num
theorem ArE {c:UInt8}{s:ByteArray}{a r:List UInt8}(hd:s.data.toList=a++c::r)(hc:c ∉ a):mkB (Cm c s.data.toList).1=s.extract 0 a.length∧mkB (Cm c s.data.toList).2.1=s.extract (a.length+1) s.size∧(Cm c s.data.toList).2.2=true:=by
 rw [hd,PX hc]
 refine ⟨GN ?_,GN ?_,rfl⟩
 ·rw [ED,MH,hd,List.drop_zero,List.take_left]
 ·rw [ED,MH,←Ei,List.take_length,hd,←List.drop_drop,List.drop_left];rfl
theorem AcK (c:UInt8)(s:ByteArray):(Lib.index s.data.toList [c] = -1∧c ∉ s.data.toList)∨∃a r,s.data.toList=a++c::r∧c ∉ a∧Lib.index s.data.toList [c] = (a.length:Int):=Q9 _
theorem AoO (c:UInt8)(s:ByteArray)(hs:s.size≤1000000):AP Tryz.prog 50 [.sc (.string (s)),.sc (.string (⟨#[c]⟩))] [.d (.sc (.string (mkB (Cm c s.data.toList).1))),.d (.sc (.string (mkB (Cm c s.data.toList).2.1))),.d (.sc (.bool ((Cm c s.data.toList).2.2)))]:=by
 refine T.fn [] Tryz.func50 ?_
 have hcc:=AcK c s
 refine Ar T.Ate (Ago c s) ?_
 refine br (fun hc1=>?y1) (fun hc1=>?n1)
 case' y1=>
  obtain ⟨a,r,hd,hc,hi⟩:=hcc.resolve_left (fun k=>by rw [k.1] at hc1;exact absurd hc1 (by decide))
  have h9:s.size=a.length+(1+r.length):=by rw [←Ei,hd,List.length_append,List.length_cons];omega
  have hq:=ArE hd hc
  refine And.intro ⟨T.mixed,by decide +kernel⟩ ?_
  first|refine FC ?_|refine Es ?_
  refine GH ?_ (h1:=by (first|omega|(rw [hi,h9];simp [Dz];omega)|(simp [Dz];omega))) (h2:=by (first|omega|(rw [hi,h9];simp [Dz];omega)|(simp [Dz];omega)))
  refine Aw ?_
  first|refine CO ?_ (h:=by (first|omega|(rw [hi,h9];simp [Dz];omega)|(simp [Dz];omega)))|refine DU ?_ (h:=by first|exact IntWalk.i64_in _ (by (first|omega|(rw [hi,h9];simp [Dz];omega)|(simp [Dz];omega)))|rfl)|refine x_bin rfl rfl ?_
  first|refine FC ?_|refine Es ?_
  refine GH ?_ (h1:=by (first|omega|(rw [hi,h9];simp [Dz];omega)|(simp [Dz];omega))) (h2:=by (first|omega|(rw [hi,h9];simp [Dz];omega)|(simp [Dz];omega)))
 case' n1=>
  obtain ⟨hi,hc⟩:=hcc.resolve_right (fun ⟨a,r,_,_,k⟩=>by rw [k] at hc1;exact hc1 (by omega))
 all_goals (refine CJ ?_;simp only [Bo,fits,C.asD,and_true]<;>(first|(rw [TF hc];exact ⟨sct (MW s).symm,rfl,rfl⟩)|(rw [hq.2.2,hq.1,hq.2.1,hi];exact ⟨rfl,rfl,rfl⟩)))
end Go.Vm
end
section
namespace Go.Vm
open Go.RowKit Go.Proofs
set_option maxRecDepth 10000
open Go.Proofs.YtdfbohaohjaloaaGreatDoor Punnet.Name Punnet.Num
theorem AfW (c:UInt8)(s:ByteArray):(mkB (Cm c s.data.toList).1).size≤s.size∧(mkB (Cm c s.data.toList).2.1).size≤s.size:=by
 rcases AcK c s with ⟨_,h⟩|⟨a,r,hd,hc,_⟩
 ·rw [TF h,MW];exact ⟨Nat.le_refl _,Nat.zero_le _⟩
 ·have hl:s.size=a.length+(1+r.length):=by rw [←Ei,hd,List.length_append,List.length_cons];omega
  rw [hd,PX hc]
  have q1:(mkB a).size=a.length:=by rw [←Ei,ED]
  have q2:(mkB r).size=r.length:=by rw [←Ei,ED]
  exact ⟨by show (mkB a).size≤_;omega,by show (mkB r).size≤_;omega⟩
theorem KO {n:Int}(h:BX n):(DY n).size≤30:=by
 rw [Auo,WW]
 have:=Agc (m:=n.natAbs) (k:=19) (by have:=h.1;have:=h.2;omega) (by decide)
 split<;>omega
def OJ (s:ByteArray):ByteArray×Bool:=((Dw s 0).1,decide ((Dw s 0).2.2=0)&&decide ((((Dw s 0).2.1:Nat):Int)=(s.size:Int)))
theorem AjM {s:ByteArray}(h:(OJ s).2=true):MI (OJ s).1=s∧(OJ s).1.size≤40:=by
 unfold OJ at h ⊢
 simp only [Bool.and_eq_true,decide_eq_true_eq] at h ⊢
 obtain ⟨h1,h2⟩:=h
 cases hq:DX s.data.toList 0 with
 |none=>rw [show (0:Int)=((0:Nat):Int) from rfl,Xo (Nat.zero_le _) hq] at h1;exact absurd h1 (by decide)
 |some p=>
  obtain ⟨t,n⟩:=p
  by_cases hl:40<t.length
  ·rw [show (0:Int)=((0:Nat):Int) from rfl,XI (Nat.zero_le _) hq hl] at h1;exact absurd h1 (by decide)
  ·have hs:=V5 (s:=s) (k:=0) (Nat.zero_le _) hq hl
   rw [show ((0:Nat):Int)=0 from rfl] at hs
   rw [hs] at h2 ⊢
   obtain ⟨i1,i2⟩:=Auk hq
   refine ⟨GN ?_,by show (mkB t).size≤40;rw [←Ei,ED];omega⟩
   unfold MI
   rw [ED]
   show Ib (mkB t).data.toList=_
   rw [ED]
   have hn:n=s.size:=by simp only at h2;omega
   rw [List.drop_zero,hn,List.drop_of_length_le (by rw [Ei];omega),List.append_nil] at i1
   exact i1.symm
theorem AdH {s:ByteArray}{k:Nat}{c:UInt8}(h:s[k]? = some c):s[((k:Nat):Int).toNat]? = some c:=by rw [Int.toNat_natCast];exact h
theorem AmX (c:UInt8)(s:ByteArray)(hs:s.size≤1000000):AP Tryz.prog 22 [.sc (.string (s)),.sc (.string (⟨#[c]⟩))] [.d (.sc (.string (mkB (Cm c s.data.toList).1))),.d (.sc (.string (mkB (Cm c s.data.toList).2.1))),.d (.sc (.bool ((Cm c s.data.toList).2.2)))]:=by
 refine T.fn [] Tryz.func22 ?_
 refine Ar T.Amn (AoO c s hs) ?_
 all_goals (refine CJ ?_;simp only [Bo,fits,C.asD,and_true]<;>(exact ⟨rfl,rfl,rfl⟩))
theorem TL (t:BQ)(h:G7 t):AP Tryz.prog 9 [tD t] [.d (.sc (.string (EJ t)))]:=by
 refine T.fn [] Tryz.func9 ?_
 have z1:=KO h.1
 have z2:=KO h.2
 refine And.intro ⟨T.mixed,by decide +kernel⟩ ?_
 refine Ar T.Gx (FB t.r h.1) ?_
 refine E8 ?_ (h:=by ((simp only [ByteArray.size_append,Dz,List.size_toArray,List.length_cons,List.length_nil];omega)))
 refine Ar T.Gx (FB t.n h.2) ?_
 refine E8 ?_ (h:=by ((simp only [ByteArray.size_append,Dz,List.size_toArray,List.length_cons,List.length_nil];omega)))
 all_goals (refine CJ ?_;simp only [Bo,fits,C.asD,and_true]<;>(refine sct (GN ?_);simp [Vt,EJ,DY]))
theorem AnN (s:ByteArray)(hs:s.size≤1000000):AP Tryz.prog 8 [.sc (.string (s))] [.d (tD ((C9 s).getD AZ)),.d (.sc (.int .i64 ((if (C9 s).isSome=true then 0 else 4))))]:=by
 refine T.fn [] Tryz.func8 ?_
 have hcs:=AfW 46 s
 refine Ar T.Aoo (AmX 46 s hs) ?_
 refine Ar T.Vx (MF (mkB (Cm 46 s.data.toList).1) (by omega)) ?_
 refine Ar T.Vx (MF (mkB (Cm 46 s.data.toList).2.1) (by omega)) ?_
 refine br (fun hg1=>?y1) (fun hg1=>?n1)
 case' y1=>
  have hN:=Qx (s:=s) (a:=(Cm 46 s.data.toList).1) (b:=(Cm 46 s.data.toList).2.1) (f:=(Cm 46 s.data.toList).2.2) rfl (fun k=>hg1 (by rw [show (AU (mkB (Cm 46 s.data.toList).1)).2=(BU (Cm 46 s.data.toList).1).2 by rw [show AU (mkB (Cm 46 s.data.toList).1)=BU (mkB (Cm 46 s.data.toList).1).data.toList from rfl,ED]];exact k.1))
  refine brT ?_
 case' n1=>
  refine br (fun hc3=>?y3) (fun hc3=>?n3)
  case' y3=>
   have hN:=Qx (s:=s) (a:=(Cm 46 s.data.toList).1) (b:=(Cm 46 s.data.toList).2.1) (f:=(Cm 46 s.data.toList).2.2) rfl (fun k=>hc3 (by rw [show (AU (mkB (Cm 46 s.data.toList).2.1)).2=(BU (Cm 46 s.data.toList).2.1).2 by rw [show AU (mkB (Cm 46 s.data.toList).2.1)=BU (mkB (Cm 46 s.data.toList).2.1).data.toList from rfl,ED]];exact k.2))
  case' n3=>
   have e1:AU (mkB (Cm 46 s.data.toList).1)=BU (Cm 46 s.data.toList).1:=by rw [show AU (mkB (Cm 46 s.data.toList).1)=BU (mkB (Cm 46 s.data.toList).1).data.toList from rfl,ED]
   have e2:AU (mkB (Cm 46 s.data.toList).2.1)=BU (Cm 46 s.data.toList).2.1:=by rw [show AU (mkB (Cm 46 s.data.toList).2.1)=BU (mkB (Cm 46 s.data.toList).2.1).data.toList from rfl,ED]
   have hY:=Zy (s:=s) (a:=(Cm 46 s.data.toList).1) (b:=(Cm 46 s.data.toList).2.1) (f:=(Cm 46 s.data.toList).2.2) rfl (by rw [←e1];simp_all) (by rw [←e2];simp_all)
 all_goals (refine CJ ?_;simp only [Bo,fits,C.asD,and_true]<;>(first|(rw [hN];exact ⟨rfl,rfl⟩)|(rw [hY,e1,e2];exact ⟨rfl,rfl⟩)))
theorem Pn (s:ByteArray)(hs:s.size≤1000000):AP Tryz.prog 25 [.sc (.string (s))] [.d (.sc (.int .i64 ((AU s).1))),.d (.sc (.bool (decide ((AU s).2=0))))]:=by
 refine T.fn [] Tryz.func25 ?_
 refine Ar T.Avw (Asg s hs) ?_
 all_goals (refine CJ ?_;simp only [Bo,fits,C.asD,and_true]<;>(first|exact ⟨rfl,rfl⟩|simp))
end Go.Vm
end
section
namespace Go.Vm
open Go.RowKit Go.Proofs
set_option maxRecDepth 10000
open Go.Proofs.YtdfbohaohjaloaaGreatDoor Punnet.Name Punnet.Num
theorem Z8 (s:ByteArray)(hs:s.size≤1000000):AP Tryz.prog 141 [.sc (.string (s))] [.d (rD ((placeOf s).getD Ae)),.d (.sc (.int .i64 ((if (placeOf s).isSome=true then 0 else 4))))]:=by
 refine T.fn [] Tryz.func141 ?_
 refine Ar T.Akb (Aie 46 s hs) ?_
 first|refine Eb (by first|exact A7 (i:=0) rfl (by first|exact A8|omega)|exact A7 (i:=1) rfl (by first|exact A8|omega)|exact A7 (i:=2) rfl (by first|exact A8|omega)|exact A7 (i:=3) rfl (by first|exact A8|omega)|exact A7 (i:=4) rfl (by first|exact A8|omega)|exact A7 (i:=5) rfl (by first|exact A8|omega)) ?_|refine Ah (by first|exact A7 (i:=0) rfl (by first|exact A8|omega)|exact A7 (i:=1) rfl (by first|exact A8|omega)|exact A7 (i:=2) rfl (by first|exact A8|omega)|exact A7 (i:=3) rfl (by first|exact A8|omega)|exact A7 (i:=4) rfl (by first|exact A8|omega)|exact A7 (i:=5) rfl (by first|exact A8|omega)) ?_
 refine br (fun hc1=>?y1) (fun hc1=>?n1)
 case' y1=>
  have hsc:wd (Az 46 s) 0=⟨#[104,101,97,100]⟩:=hc1
  refine Aw ?_
  refine br (fun hc2=>?y2) (fun hc2=>?n2)
  case' y2=>
   have hl2:(Az 46 s).length=2:=by omega
   have hcd:EW (Az 46 s)=⟨0,noB,wd (Az 46 s) 1⟩:=by unfold EW;simp_all
   first|refine Eb (by first|exact A7 (i:=0) rfl (by first|exact A8|omega)|exact A7 (i:=1) rfl (by first|exact A8|omega)|exact A7 (i:=2) rfl (by first|exact A8|omega)|exact A7 (i:=3) rfl (by first|exact A8|omega)|exact A7 (i:=4) rfl (by first|exact A8|omega)|exact A7 (i:=5) rfl (by first|exact A8|omega)) ?_|refine Ah (by first|exact A7 (i:=0) rfl (by first|exact A8|omega)|exact A7 (i:=1) rfl (by first|exact A8|omega)|exact A7 (i:=2) rfl (by first|exact A8|omega)|exact A7 (i:=3) rfl (by first|exact A8|omega)|exact A7 (i:=4) rfl (by first|exact A8|omega)|exact A7 (i:=5) rfl (by first|exact A8|omega)) ?_
   refine Ar T.NS (by first|exact Dj ⟨0,noB,wd (Az 46 s) 1⟩|exact Dj ⟨0,wd (Az 46 s) 1,wd (Az 46 s) 2⟩|exact Dj ⟨0,noB,noB⟩|exact Dj ⟨1,noB,wd (Az 46 s) 1⟩|exact Dj ⟨1,wd (Az 46 s) 1,wd (Az 46 s) 2⟩|exact Dj ⟨1,noB,noB⟩) ?_
   refine br (fun hg3=>?y3) (fun hg3=>?n3)
   case' y3=>
    have hN:=PG (s:=s) (by rw [hcd];exact hg3)
    refine brT ?_
   case' n3=>
    have hpb:Bz (EW (Az 46 s))=true:=by rw [hcd];exact hg3
    refine Ar T.IM (by first|exact Ci ⟨0,noB,wd (Az 46 s) 1⟩|exact Ci ⟨0,wd (Az 46 s) 1,wd (Az 46 s) 2⟩|exact Ci ⟨0,noB,noB⟩|exact Ci ⟨1,noB,wd (Az 46 s) 1⟩|exact Ci ⟨1,wd (Az 46 s) 1,wd (Az 46 s) 2⟩|exact Ci ⟨1,noB,noB⟩) ?_
    refine br (fun hc5=>?y5) (fun hc5=>?n5)
    case' y5=>
     have hN:=O6 (s:=s) (by rw [hcd];intro e;apply hc5;rw [if_pos (by rw [←hcd];exact hpb)];exact e)
    case' n5=>
     have hY:=Jv hpb (s:=s) (by rw [hcd];have h9:=hc5;rw [if_pos (by rw [←hcd];exact hpb)] at h9;exact h9)
     rw [hcd] at hY
  case' n2=>
   refine br (fun hc6=>?y6) (fun hc6=>?n6)
   case' y6=>
    have hl3:(Az 46 s).length=3:=by omega
    have hcd:EW (Az 46 s)=⟨0,wd (Az 46 s) 1,wd (Az 46 s) 2⟩:=by unfold EW;simp_all
    refine And.intro ⟨T.mixed,by decide +kernel⟩ ?_
    first|refine Eb (by first|exact A7 (i:=0) rfl (by first|exact A8|omega)|exact A7 (i:=1) rfl (by first|exact A8|omega)|exact A7 (i:=2) rfl (by first|exact A8|omega)|exact A7 (i:=3) rfl (by first|exact A8|omega)|exact A7 (i:=4) rfl (by first|exact A8|omega)|exact A7 (i:=5) rfl (by first|exact A8|omega)) ?_|refine Ah (by first|exact A7 (i:=0) rfl (by first|exact A8|omega)|exact A7 (i:=1) rfl (by first|exact A8|omega)|exact A7 (i:=2) rfl (by first|exact A8|omega)|exact A7 (i:=3) rfl (by first|exact A8|omega)|exact A7 (i:=4) rfl (by first|exact A8|omega)|exact A7 (i:=5) rfl (by first|exact A8|omega)) ?_
    first|refine Eb (by first|exact A7 (i:=0) rfl (by first|exact A8|omega)|exact A7 (i:=1) rfl (by first|exact A8|omega)|exact A7 (i:=2) rfl (by first|exact A8|omega)|exact A7 (i:=3) rfl (by first|exact A8|omega)|exact A7 (i:=4) rfl (by first|exact A8|omega)|exact A7 (i:=5) rfl (by first|exact A8|omega)) ?_|refine Ah (by first|exact A7 (i:=0) rfl (by first|exact A8|omega)|exact A7 (i:=1) rfl (by first|exact A8|omega)|exact A7 (i:=2) rfl (by first|exact A8|omega)|exact A7 (i:=3) rfl (by first|exact A8|omega)|exact A7 (i:=4) rfl (by first|exact A8|omega)|exact A7 (i:=5) rfl (by first|exact A8|omega)) ?_
    refine Ar T.NS (by first|exact Dj ⟨0,noB,wd (Az 46 s) 1⟩|exact Dj ⟨0,wd (Az 46 s) 1,wd (Az 46 s) 2⟩|exact Dj ⟨0,noB,noB⟩|exact Dj ⟨1,noB,wd (Az 46 s) 1⟩|exact Dj ⟨1,wd (Az 46 s) 1,wd (Az 46 s) 2⟩|exact Dj ⟨1,noB,noB⟩) ?_
    refine br (fun hg7=>?y7) (fun hg7=>?n7)
    case' y7=>
     have hN:=PG (s:=s) (by rw [hcd];exact hg7)
     refine brT ?_
    case' n7=>
     have hpb:Bz (EW (Az 46 s))=true:=by rw [hcd];exact hg7
     refine Ar T.IM (by first|exact Ci ⟨0,noB,wd (Az 46 s) 1⟩|exact Ci ⟨0,wd (Az 46 s) 1,wd (Az 46 s) 2⟩|exact Ci ⟨0,noB,noB⟩|exact Ci ⟨1,noB,wd (Az 46 s) 1⟩|exact Ci ⟨1,wd (Az 46 s) 1,wd (Az 46 s) 2⟩|exact Ci ⟨1,noB,noB⟩) ?_
     refine br (fun hc9=>?y9) (fun hc9=>?n9)
     case' y9=>
      have hN:=O6 (s:=s) (by rw [hcd];intro e;apply hc9;rw [if_pos (by rw [←hcd];exact hpb)];exact e)
     case' n9=>
      have hY:=Jv hpb (s:=s) (by rw [hcd];have h9:=hc9;rw [if_pos (by rw [←hcd];exact hpb)] at h9;exact h9)
      rw [hcd] at hY
   case' n6=>
    have hl2:¬(Az 46 s).length=2:=by omega
    have hl3:¬(Az 46 s).length=3:=by omega
    have hcd:EW (Az 46 s)=⟨0,noB,noB⟩:=by unfold EW;simp_all
    refine Ar T.NS (by first|exact Dj ⟨0,noB,wd (Az 46 s) 1⟩|exact Dj ⟨0,wd (Az 46 s) 1,wd (Az 46 s) 2⟩|exact Dj ⟨0,noB,noB⟩|exact Dj ⟨1,noB,wd (Az 46 s) 1⟩|exact Dj ⟨1,wd (Az 46 s) 1,wd (Az 46 s) 2⟩|exact Dj ⟨1,noB,noB⟩) ?_
    refine br (fun hg10=>?y10) (fun hg10=>?n10)
    case' y10=>
     have hN:=PG (s:=s) (by rw [hcd];exact hg10)
     refine brT ?_
    case' n10=>
     have hpb:Bz (EW (Az 46 s))=true:=by rw [hcd];exact hg10
     refine Ar T.IM (by first|exact Ci ⟨0,noB,wd (Az 46 s) 1⟩|exact Ci ⟨0,wd (Az 46 s) 1,wd (Az 46 s) 2⟩|exact Ci ⟨0,noB,noB⟩|exact Ci ⟨1,noB,wd (Az 46 s) 1⟩|exact Ci ⟨1,wd (Az 46 s) 1,wd (Az 46 s) 2⟩|exact Ci ⟨1,noB,noB⟩) ?_
     refine br (fun hc12=>?y12) (fun hc12=>?n12)
     case' y12=>
      have hN:=O6 (s:=s) (by rw [hcd];intro e;apply hc12;rw [if_pos (by rw [←hcd];exact hpb)];exact e)
     case' n12=>
      have hY:=Jv hpb (s:=s) (by rw [hcd];have h9:=hc12;rw [if_pos (by rw [←hcd];exact hpb)] at h9;exact h9)
      rw [hcd] at hY
 case' n1=>
  refine br (fun hc13=>?y13) (fun hc13=>?n13)
  case' y13=>
   have hsc:wd (Az 46 s) 0=⟨#[108,105,110,101]⟩:=hc13
   refine Aw ?_
   refine br (fun hc14=>?y14) (fun hc14=>?n14)
   case' y14=>
    have hl2:(Az 46 s).length=2:=by omega
    have hcd:EW (Az 46 s)=⟨1,noB,wd (Az 46 s) 1⟩:=by unfold EW;simp_all
    first|refine Eb (by first|exact A7 (i:=0) rfl (by first|exact A8|omega)|exact A7 (i:=1) rfl (by first|exact A8|omega)|exact A7 (i:=2) rfl (by first|exact A8|omega)|exact A7 (i:=3) rfl (by first|exact A8|omega)|exact A7 (i:=4) rfl (by first|exact A8|omega)|exact A7 (i:=5) rfl (by first|exact A8|omega)) ?_|refine Ah (by first|exact A7 (i:=0) rfl (by first|exact A8|omega)|exact A7 (i:=1) rfl (by first|exact A8|omega)|exact A7 (i:=2) rfl (by first|exact A8|omega)|exact A7 (i:=3) rfl (by first|exact A8|omega)|exact A7 (i:=4) rfl (by first|exact A8|omega)|exact A7 (i:=5) rfl (by first|exact A8|omega)) ?_
    refine Ar T.NS (by first|exact Dj ⟨0,noB,wd (Az 46 s) 1⟩|exact Dj ⟨0,wd (Az 46 s) 1,wd (Az 46 s) 2⟩|exact Dj ⟨0,noB,noB⟩|exact Dj ⟨1,noB,wd (Az 46 s) 1⟩|exact Dj ⟨1,wd (Az 46 s) 1,wd (Az 46 s) 2⟩|exact Dj ⟨1,noB,noB⟩) ?_
    refine br (fun hg15=>?y15) (fun hg15=>?n15)
    case' y15=>
     have hN:=PG (s:=s) (by rw [hcd];exact hg15)
     refine brT ?_
    case' n15=>
     have hpb:Bz (EW (Az 46 s))=true:=by rw [hcd];exact hg15
     refine Ar T.IM (by first|exact Ci ⟨0,noB,wd (Az 46 s) 1⟩|exact Ci ⟨0,wd (Az 46 s) 1,wd (Az 46 s) 2⟩|exact Ci ⟨0,noB,noB⟩|exact Ci ⟨1,noB,wd (Az 46 s) 1⟩|exact Ci ⟨1,wd (Az 46 s) 1,wd (Az 46 s) 2⟩|exact Ci ⟨1,noB,noB⟩) ?_
     refine br (fun hc17=>?y17) (fun hc17=>?n17)
     case' y17=>
      have hN:=O6 (s:=s) (by rw [hcd];intro e;apply hc17;rw [if_pos (by rw [←hcd];exact hpb)];exact e)
     case' n17=>
      have hY:=Jv hpb (s:=s) (by rw [hcd];have h9:=hc17;rw [if_pos (by rw [←hcd];exact hpb)] at h9;exact h9)
      rw [hcd] at hY
   case' n14=>
    refine br (fun hc18=>?y18) (fun hc18=>?n18)
    case' y18=>
     have hl3:(Az 46 s).length=3:=by omega
     have hcd:EW (Az 46 s)=⟨1,wd (Az 46 s) 1,wd (Az 46 s) 2⟩:=by unfold EW;simp_all
     refine And.intro ⟨T.mixed,by decide +kernel⟩ ?_
     first|refine Eb (by first|exact A7 (i:=0) rfl (by first|exact A8|omega)|exact A7 (i:=1) rfl (by first|exact A8|omega)|exact A7 (i:=2) rfl (by first|exact A8|omega)|exact A7 (i:=3) rfl (by first|exact A8|omega)|exact A7 (i:=4) rfl (by first|exact A8|omega)|exact A7 (i:=5) rfl (by first|exact A8|omega)) ?_|refine Ah (by first|exact A7 (i:=0) rfl (by first|exact A8|omega)|exact A7 (i:=1) rfl (by first|exact A8|omega)|exact A7 (i:=2) rfl (by first|exact A8|omega)|exact A7 (i:=3) rfl (by first|exact A8|omega)|exact A7 (i:=4) rfl (by first|exact A8|omega)|exact A7 (i:=5) rfl (by first|exact A8|omega)) ?_
     first|refine Eb (by first|exact A7 (i:=0) rfl (by first|exact A8|omega)|exact A7 (i:=1) rfl (by first|exact A8|omega)|exact A7 (i:=2) rfl (by first|exact A8|omega)|exact A7 (i:=3) rfl (by first|exact A8|omega)|exact A7 (i:=4) rfl (by first|exact A8|omega)|exact A7 (i:=5) rfl (by first|exact A8|omega)) ?_|refine Ah (by first|exact A7 (i:=0) rfl (by first|exact A8|omega)|exact A7 (i:=1) rfl (by first|exact A8|omega)|exact A7 (i:=2) rfl (by first|exact A8|omega)|exact A7 (i:=3) rfl (by first|exact A8|omega)|exact A7 (i:=4) rfl (by first|exact A8|omega)|exact A7 (i:=5) rfl (by first|exact A8|omega)) ?_
     refine Ar T.NS (by first|exact Dj ⟨0,noB,wd (Az 46 s) 1⟩|exact Dj ⟨0,wd (Az 46 s) 1,wd (Az 46 s) 2⟩|exact Dj ⟨0,noB,noB⟩|exact Dj ⟨1,noB,wd (Az 46 s) 1⟩|exact Dj ⟨1,wd (Az 46 s) 1,wd (Az 46 s) 2⟩|exact Dj ⟨1,noB,noB⟩) ?_
     refine br (fun hg19=>?y19) (fun hg19=>?n19)
     case' y19=>
      have hN:=PG (s:=s) (by rw [hcd];exact hg19)
      refine brT ?_
     case' n19=>
      have hpb:Bz (EW (Az 46 s))=true:=by rw [hcd];exact hg19
      refine Ar T.IM (by first|exact Ci ⟨0,noB,wd (Az 46 s) 1⟩|exact Ci ⟨0,wd (Az 46 s) 1,wd (Az 46 s) 2⟩|exact Ci ⟨0,noB,noB⟩|exact Ci ⟨1,noB,wd (Az 46 s) 1⟩|exact Ci ⟨1,wd (Az 46 s) 1,wd (Az 46 s) 2⟩|exact Ci ⟨1,noB,noB⟩) ?_
      refine br (fun hc21=>?y21) (fun hc21=>?n21)
      case' y21=>
       have hN:=O6 (s:=s) (by rw [hcd];intro e;apply hc21;rw [if_pos (by rw [←hcd];exact hpb)];exact e)
      case' n21=>
       have hY:=Jv hpb (s:=s) (by rw [hcd];have h9:=hc21;rw [if_pos (by rw [←hcd];exact hpb)] at h9;exact h9)
       rw [hcd] at hY
    case' n18=>
     have hl2:¬(Az 46 s).length=2:=by omega
     have hl3:¬(Az 46 s).length=3:=by omega
     have hcd:EW (Az 46 s)=⟨1,noB,noB⟩:=by unfold EW;simp_all
     refine Ar T.NS (by first|exact Dj ⟨0,noB,wd (Az 46 s) 1⟩|exact Dj ⟨0,wd (Az 46 s) 1,wd (Az 46 s) 2⟩|exact Dj ⟨0,noB,noB⟩|exact Dj ⟨1,noB,wd (Az 46 s) 1⟩|exact Dj ⟨1,wd (Az 46 s) 1,wd (Az 46 s) 2⟩|exact Dj ⟨1,noB,noB⟩) ?_
     refine br (fun hg22=>?y22) (fun hg22=>?n22)
     case' y22=>
      have hN:=PG (s:=s) (by rw [hcd];exact hg22)
      refine brT ?_
     case' n22=>
      have hpb:Bz (EW (Az 46 s))=true:=by rw [hcd];exact hg22
      refine Ar T.IM (by first|exact Ci ⟨0,noB,wd (Az 46 s) 1⟩|exact Ci ⟨0,wd (Az 46 s) 1,wd (Az 46 s) 2⟩|exact Ci ⟨0,noB,noB⟩|exact Ci ⟨1,noB,wd (Az 46 s) 1⟩|exact Ci ⟨1,wd (Az 46 s) 1,wd (Az 46 s) 2⟩|exact Ci ⟨1,noB,noB⟩) ?_
      refine br (fun hc24=>?y24) (fun hc24=>?n24)
      case' y24=>
       have hN:=O6 (s:=s) (by rw [hcd];intro e;apply hc24;rw [if_pos (by rw [←hcd];exact hpb)];exact e)
      case' n24=>
       have hY:=Jv hpb (s:=s) (by rw [hcd];have h9:=hc24;rw [if_pos (by rw [←hcd];exact hpb)] at h9;exact h9)
       rw [hcd] at hY
  case' n13=>
   have hN:=Arz (s:=s) (by assumption) (by assumption)
 all_goals (refine CJ ?_;simp only [Bo,fits,C.asD,and_true]<;>(first|(rw [hN];exact ⟨rfl,rfl⟩)|(rw [hY];exact ⟨rfl,rfl⟩)))
end Go.Vm
end
section
namespace Go.Vm
open Go.RowKit Go.Proofs
set_option maxRecDepth 10000
open Go.Proofs.YtdfbohaohjaloaaGreatDoor Punnet.Name Punnet.Num
theorem ix5 {s:ByteArray}{k:Nat}{c:UInt8}(h:s[5+k]? = some c):s[((5+k:Nat):Int).toNat]? = some c:=by rw [Int.toNat_natCast];exact h
theorem AvJ (s:ByteArray)(hs:s.size≤1000000):AP Tryz.prog 78 [.sc (.string (s))] [.d (rD ((placeOf s).getD Ae)),.d (.sc (.bool ((placeOf s).isSome)))]:=by
 refine T.fn [] Tryz.func78 ?_
 refine Aw ?_
 refine br (fun hg1=>?y1) (fun hg1=>?n1)
 case' y1=>
  have hN:=AtO (s:=s) (by omega)
  refine brT ?_
 case' n1=>
  first|refine FC ?_|refine Es ?_
  refine GH ?_ (h1:=by (first|omega|(show (5:Nat)≤_;omega))) (h2:=by (first|omega|(show (5:Nat)≤_;omega)))
  refine br (fun hg3=>?y3) (fun hg3=>?n3)
  case' y3=>
   have hn1:=hg3
   first|refine FC ?_|refine Es ?_
   refine GH ?_ (h1:=by (first|omega|(show (5:Nat)≤_;omega))) (h2:=by (first|omega|(show (5:Nat)≤_;omega)))
   refine br (fun hc4=>?y4) (fun hc4=>?n4)
   case' y4=>
    have hN:=AoT (s:=s) hn1 hc4
   case' n4=>
    have hs6:6≤s.size:=by omega
    obtain ⟨b0,hb0⟩:∃b,s[0]? = some b:=⟨_,getElem?_pos s 0 (by omega)⟩
    first|refine FC ?_|refine Es ?_
    refine GH ?_ (h1:=by (first|omega|(show (5:Nat)≤_;omega))) (h2:=by (first|omega|(show (5:Nat)≤_;omega)))
    first|refine FW (by first|exact hb0|exact ix5 hc) ?_|refine Fh (by first|exact hb0|exact ix5 hc) ?_
    refine br (fun hc5=>?y5) (fun hc5=>?n5)
    case' y5=>
     have hb1:b0=108:=by rw [←UInt8.toNat_inj];show b0.toNat=108;omega
     obtain ⟨sc,hsc,hs0⟩:∃sc:Int,sc=1∧(if s[0]? = some 108 then (1:Int) else 0)=sc:=⟨1,rfl,by rw [hb0,hb1];rfl⟩
     refine Ep (fb:=[]) T.ok (Nat.le_of_ble_eq_true rfl) [0,2] (fun (k:Nat)=>[(5,.c (.d (.sc (.int .i64 ((5+k:Nat):Int))))),(4,.box [.sc (.int .i64 sc),.sc (.string (Bc s k).1),.sc (.string (Bc s k).2)])]) (fun k=>5+k≤s.size) (fun k=>s.size-k) 0 (by omega) (Am (by first|rfl|(simp only [Tr.get];simp;done)) (Am (by subst hsc;rfl) trivial)) ?_
     rintro k hk
     refine Aw ?_
     refine br (fun hc6=>?y6) (fun hc6=>?n6)
     case' y6=>
      obtain ⟨c,hc⟩:∃c,s[5+k]? = some c:=⟨_,getElem?_pos s (5+k) (by omega)⟩
      first|refine FW (by first|exact hb0|exact ix5 hc) ?_|refine Fh (by first|exact hb0|exact ix5 hc) ?_
      refine br (fun hg7=>?y7) (fun hg7=>?n7)
      case' y7=>
       have hc46:s[5+k]? = some 46:=by rw [hc,show c=46 by rw [←UInt8.toNat_inj];show c.toNat=46;omega]
       refine br (fun hc8=>?y8) (fun hc8=>?n8)
       case' y8=>
        have hgn:Bc s (k+1)=(s.extract 5 (5+k),s.extract (5+k+1) s.size):=by rw [Bc,if_pos ⟨hc46,hc8⟩]
        first|refine FC ?_|refine Es ?_
        first|refine FC ?_|refine Es ?_
        refine GH ?_ (h1:=by (first|omega|(show (5:Nat)≤_;omega))) (h2:=by (first|omega|(show (5:Nat)≤_;omega)))
        first|refine CO ?_ (h:=by (first|omega|(show (5:Nat)≤_;omega)))|refine DU ?_ (h:=by first|exact IntWalk.i64_in _ (by (first|omega|(show (5:Nat)≤_;omega)))|rfl)|refine x_bin rfl rfl ?_
        first|refine FC ?_|refine Es ?_
        refine GH ?_ (h1:=by (first|omega|(show (5:Nat)≤_;omega))) (h2:=by (first|omega|(show (5:Nat)≤_;omega)))
        first|refine CO ?_ (h:=by (first|omega|(show (5:Nat)≤_;omega)))|refine DU ?_ (h:=by first|exact IntWalk.i64_in _ (by (first|omega|(show (5:Nat)≤_;omega)))|rfl)|refine x_bin rfl rfl ?_
        refine BV (k+1) (by (try dsimp only);omega) (by (try dsimp only);omega) rfl (Am (by first|rfl|(simp only [Tr.get];simp;done)) (Am (by simp only [Tr.get];first|(rw [hgn];done)|(rw [hgn];rfl)) trivial)) (by first|rfl|(funext u;simp only [hdrop,hset,hpost,hOf];(repeat' split)<;>rfl))
       case' n8=>
        have hgn:Bc s (k+1)=Bc s k:=by rw [Bc,if_neg (fun e=>hc8 e.2)]
        first|refine CO ?_ (h:=by (first|omega|(show (5:Nat)≤_;omega)))|refine DU ?_ (h:=by first|exact IntWalk.i64_in _ (by (first|omega|(show (5:Nat)≤_;omega)))|rfl)|refine x_bin rfl rfl ?_
        refine BV (k+1) (by (try dsimp only);omega) (by (try dsimp only);omega) rfl (Am (by first|rfl|(simp only [Tr.get];simp;done)) (Am (by simp only [Tr.get];first|(rw [hgn];done)|(rw [hgn];rfl)) trivial)) (by first|rfl|(funext u;simp only [hdrop,hset,hpost,hOf];(repeat' split)<;>rfl))
      case' n7=>
       have hgn:Bc s (k+1)=Bc s k:=by rw [Bc,if_neg];rintro ⟨e,_⟩;rw [hc] at e;injection e with e;subst e;exact hg7 rfl
       refine brF ?_
       first|refine CO ?_ (h:=by (first|omega|(show (5:Nat)≤_;omega)))|refine DU ?_ (h:=by first|exact IntWalk.i64_in _ (by (first|omega|(show (5:Nat)≤_;omega)))|rfl)|refine x_bin rfl rfl ?_
       refine BV (k+1) (by (try dsimp only);omega) (by (try dsimp only);omega) rfl (Am (by first|rfl|(simp only [Tr.get];simp;done)) (Am (by simp only [Tr.get];first|(rw [hgn];done)|(rw [hgn];rfl)) trivial)) (by first|rfl|(funext u;simp only [hdrop,hset,hpost,hOf];(repeat' split)<;>rfl))
     case' n6=>
      obtain rfl:k=s.size-5:=by omega
      have hcd:Gv s=⟨sc,(Bc s (s.size-5)).1,(Bc s (s.size-5)).2⟩:=by unfold Gv;rw [hs0]
      refine Ar T.Qu (P6 ⟨sc,(Bc s (s.size-5)).1,(Bc s (s.size-5)).2⟩) ?_
      refine br (fun hg10=>?y10) (fun hg10=>?n10)
      case' y10=>
       have hN:=RJ (s:=s) (by rw [hcd];exact hg10)
       refine brT ?_
      case' n10=>
       have hpb:Bz (Gv s)=true:=by rw [hcd];exact hg10
       refine Ar T.TZ (UK ⟨sc,(Bc s (s.size-5)).1,(Bc s (s.size-5)).2⟩) ?_
       refine br (fun hc12=>?y12) (fun hc12=>?n12)
       case' y12=>
        have hN:=UB (s:=s) (by rw [hcd];intro e;apply hc12;rw [if_pos (by rw [←hcd];exact hpb)];exact e)
       case' n12=>
        have hY:=Jv hpb (s:=s) (by rw [hcd];have h9:=hc12;rw [if_pos (by rw [←hcd];exact hpb)] at h9;exact h9)
        rw [hcd] at hY
    case' n5=>
     have hb1:¬b0=108:=by rintro rfl;exact hc5 rfl
     obtain ⟨sc,hsc,hs0⟩:∃sc:Int,sc=0∧(if s[0]? = some 108 then (1:Int) else 0)=sc:=⟨0,rfl,by rw [hb0,if_neg (by simpa using hb1)]⟩
     refine Ep (fb:=[]) T.ok (Nat.le_of_ble_eq_true rfl) [0,2] (fun (k:Nat)=>[(5,.c (.d (.sc (.int .i64 ((5+k:Nat):Int))))),(4,.box [.sc (.int .i64 sc),.sc (.string (Bc s k).1),.sc (.string (Bc s k).2)])]) (fun k=>5+k≤s.size) (fun k=>s.size-k) 0 (by omega) (Am (by first|rfl|(simp only [Tr.get];simp;done)) (Am (by subst hsc;rfl) trivial)) ?_
     rintro k hk
     refine Aw ?_
     refine br (fun hc13=>?y13) (fun hc13=>?n13)
     case' y13=>
      obtain ⟨c,hc⟩:∃c,s[5+k]? = some c:=⟨_,getElem?_pos s (5+k) (by omega)⟩
      first|refine FW (by first|exact hb0|exact ix5 hc) ?_|refine Fh (by first|exact hb0|exact ix5 hc) ?_
      refine br (fun hg14=>?y14) (fun hg14=>?n14)
      case' y14=>
       have hc46:s[5+k]? = some 46:=by rw [hc,show c=46 by rw [←UInt8.toNat_inj];show c.toNat=46;omega]
       refine br (fun hc15=>?y15) (fun hc15=>?n15)
       case' y15=>
        have hgn:Bc s (k+1)=(s.extract 5 (5+k),s.extract (5+k+1) s.size):=by rw [Bc,if_pos ⟨hc46,hc15⟩]
        first|refine FC ?_|refine Es ?_
        first|refine FC ?_|refine Es ?_
        refine GH ?_ (h1:=by (first|omega|(show (5:Nat)≤_;omega))) (h2:=by (first|omega|(show (5:Nat)≤_;omega)))
        first|refine CO ?_ (h:=by (first|omega|(show (5:Nat)≤_;omega)))|refine DU ?_ (h:=by first|exact IntWalk.i64_in _ (by (first|omega|(show (5:Nat)≤_;omega)))|rfl)|refine x_bin rfl rfl ?_
        first|refine FC ?_|refine Es ?_
        refine GH ?_ (h1:=by (first|omega|(show (5:Nat)≤_;omega))) (h2:=by (first|omega|(show (5:Nat)≤_;omega)))
        first|refine CO ?_ (h:=by (first|omega|(show (5:Nat)≤_;omega)))|refine DU ?_ (h:=by first|exact IntWalk.i64_in _ (by (first|omega|(show (5:Nat)≤_;omega)))|rfl)|refine x_bin rfl rfl ?_
        refine BV (k+1) (by (try dsimp only);omega) (by (try dsimp only);omega) rfl (Am (by first|rfl|(simp only [Tr.get];simp;done)) (Am (by simp only [Tr.get];first|(rw [hgn];done)|(rw [hgn];rfl)) trivial)) (by first|rfl|(funext u;simp only [hdrop,hset,hpost,hOf];(repeat' split)<;>rfl))
       case' n15=>
        have hgn:Bc s (k+1)=Bc s k:=by rw [Bc,if_neg (fun e=>hc15 e.2)]
        first|refine CO ?_ (h:=by (first|omega|(show (5:Nat)≤_;omega)))|refine DU ?_ (h:=by first|exact IntWalk.i64_in _ (by (first|omega|(show (5:Nat)≤_;omega)))|rfl)|refine x_bin rfl rfl ?_
        refine BV (k+1) (by (try dsimp only);omega) (by (try dsimp only);omega) rfl (Am (by first|rfl|(simp only [Tr.get];simp;done)) (Am (by simp only [Tr.get];first|(rw [hgn];done)|(rw [hgn];rfl)) trivial)) (by first|rfl|(funext u;simp only [hdrop,hset,hpost,hOf];(repeat' split)<;>rfl))
      case' n14=>
       have hgn:Bc s (k+1)=Bc s k:=by rw [Bc,if_neg];rintro ⟨e,_⟩;rw [hc] at e;injection e with e;subst e;exact hg14 rfl
       refine brF ?_
       first|refine CO ?_ (h:=by (first|omega|(show (5:Nat)≤_;omega)))|refine DU ?_ (h:=by first|exact IntWalk.i64_in _ (by (first|omega|(show (5:Nat)≤_;omega)))|rfl)|refine x_bin rfl rfl ?_
       refine BV (k+1) (by (try dsimp only);omega) (by (try dsimp only);omega) rfl (Am (by first|rfl|(simp only [Tr.get];simp;done)) (Am (by simp only [Tr.get];first|(rw [hgn];done)|(rw [hgn];rfl)) trivial)) (by first|rfl|(funext u;simp only [hdrop,hset,hpost,hOf];(repeat' split)<;>rfl))
     case' n13=>
      obtain rfl:k=s.size-5:=by omega
      have hcd:Gv s=⟨sc,(Bc s (s.size-5)).1,(Bc s (s.size-5)).2⟩:=by unfold Gv;rw [hs0]
      refine Ar T.Qu (P6 ⟨sc,(Bc s (s.size-5)).1,(Bc s (s.size-5)).2⟩) ?_
      refine br (fun hg17=>?y17) (fun hg17=>?n17)
      case' y17=>
       have hN:=RJ (s:=s) (by rw [hcd];exact hg17)
       refine brT ?_
      case' n17=>
       have hpb:Bz (Gv s)=true:=by rw [hcd];exact hg17
       refine Ar T.TZ (UK ⟨sc,(Bc s (s.size-5)).1,(Bc s (s.size-5)).2⟩) ?_
       refine br (fun hc19=>?y19) (fun hc19=>?n19)
       case' y19=>
        have hN:=UB (s:=s) (by rw [hcd];intro e;apply hc19;rw [if_pos (by rw [←hcd];exact hpb)];exact e)
       case' n19=>
        have hY:=Jv hpb (s:=s) (by rw [hcd];have h9:=hc19;rw [if_pos (by rw [←hcd];exact hpb)] at h9;exact h9)
        rw [hcd] at hY
  case' n3=>
   refine brF ?_
   have hs6:6≤s.size:=by omega
   obtain ⟨b0,hb0⟩:∃b,s[0]? = some b:=⟨_,getElem?_pos s 0 (by omega)⟩
   first|refine FC ?_|refine Es ?_
   refine GH ?_ (h1:=by (first|omega|(show (5:Nat)≤_;omega))) (h2:=by (first|omega|(show (5:Nat)≤_;omega)))
   first|refine FW (by first|exact hb0|exact ix5 hc) ?_|refine Fh (by first|exact hb0|exact ix5 hc) ?_
   refine br (fun hc21=>?y21) (fun hc21=>?n21)
   case' y21=>
    have hb1:b0=108:=by rw [←UInt8.toNat_inj];show b0.toNat=108;omega
    obtain ⟨sc,hsc,hs0⟩:∃sc:Int,sc=1∧(if s[0]? = some 108 then (1:Int) else 0)=sc:=⟨1,rfl,by rw [hb0,hb1];rfl⟩
    refine Ep (fb:=[]) T.ok (Nat.le_of_ble_eq_true rfl) [0,2] (fun (k:Nat)=>[(5,.c (.d (.sc (.int .i64 ((5+k:Nat):Int))))),(4,.box [.sc (.int .i64 sc),.sc (.string (Bc s k).1),.sc (.string (Bc s k).2)])]) (fun k=>5+k≤s.size) (fun k=>s.size-k) 0 (by omega) (Am (by first|rfl|(simp only [Tr.get];simp;done)) (Am (by subst hsc;rfl) trivial)) ?_
    rintro k hk
    refine Aw ?_
    refine br (fun hc22=>?y22) (fun hc22=>?n22)
    case' y22=>
     obtain ⟨c,hc⟩:∃c,s[5+k]? = some c:=⟨_,getElem?_pos s (5+k) (by omega)⟩
     first|refine FW (by first|exact hb0|exact ix5 hc) ?_|refine Fh (by first|exact hb0|exact ix5 hc) ?_
     refine br (fun hg23=>?y23) (fun hg23=>?n23)
     case' y23=>
      have hc46:s[5+k]? = some 46:=by rw [hc,show c=46 by rw [←UInt8.toNat_inj];show c.toNat=46;omega]
      refine br (fun hc24=>?y24) (fun hc24=>?n24)
      case' y24=>
       have hgn:Bc s (k+1)=(s.extract 5 (5+k),s.extract (5+k+1) s.size):=by rw [Bc,if_pos ⟨hc46,hc24⟩]
       first|refine FC ?_|refine Es ?_
       first|refine FC ?_|refine Es ?_
       refine GH ?_ (h1:=by (first|omega|(show (5:Nat)≤_;omega))) (h2:=by (first|omega|(show (5:Nat)≤_;omega)))
       first|refine CO ?_ (h:=by (first|omega|(show (5:Nat)≤_;omega)))|refine DU ?_ (h:=by first|exact IntWalk.i64_in _ (by (first|omega|(show (5:Nat)≤_;omega)))|rfl)|refine x_bin rfl rfl ?_
       first|refine FC ?_|refine Es ?_
       refine GH ?_ (h1:=by (first|omega|(show (5:Nat)≤_;omega))) (h2:=by (first|omega|(show (5:Nat)≤_;omega)))
       first|refine CO ?_ (h:=by (first|omega|(show (5:Nat)≤_;omega)))|refine DU ?_ (h:=by first|exact IntWalk.i64_in _ (by (first|omega|(show (5:Nat)≤_;omega)))|rfl)|refine x_bin rfl rfl ?_
       refine BV (k+1) (by (try dsimp only);omega) (by (try dsimp only);omega) rfl (Am (by first|rfl|(simp only [Tr.get];simp;done)) (Am (by simp only [Tr.get];first|(rw [hgn];done)|(rw [hgn];rfl)) trivial)) (by first|rfl|(funext u;simp only [hdrop,hset,hpost,hOf];(repeat' split)<;>rfl))
      case' n24=>
       have hgn:Bc s (k+1)=Bc s k:=by rw [Bc,if_neg (fun e=>hc24 e.2)]
       first|refine CO ?_ (h:=by (first|omega|(show (5:Nat)≤_;omega)))|refine DU ?_ (h:=by first|exact IntWalk.i64_in _ (by (first|omega|(show (5:Nat)≤_;omega)))|rfl)|refine x_bin rfl rfl ?_
       refine BV (k+1) (by (try dsimp only);omega) (by (try dsimp only);omega) rfl (Am (by first|rfl|(simp only [Tr.get];simp;done)) (Am (by simp only [Tr.get];first|(rw [hgn];done)|(rw [hgn];rfl)) trivial)) (by first|rfl|(funext u;simp only [hdrop,hset,hpost,hOf];(repeat' split)<;>rfl))
     case' n23=>
      have hgn:Bc s (k+1)=Bc s k:=by rw [Bc,if_neg];rintro ⟨e,_⟩;rw [hc] at e;injection e with e;subst e;exact hg23 rfl
      refine brF ?_
      first|refine CO ?_ (h:=by (first|omega|(show (5:Nat)≤_;omega)))|refine DU ?_ (h:=by first|exact IntWalk.i64_in _ (by (first|omega|(show (5:Nat)≤_;omega)))|rfl)|refine x_bin rfl rfl ?_
      refine BV (k+1) (by (try dsimp only);omega) (by (try dsimp only);omega) rfl (Am (by first|rfl|(simp only [Tr.get];simp;done)) (Am (by simp only [Tr.get];first|(rw [hgn];done)|(rw [hgn];rfl)) trivial)) (by first|rfl|(funext u;simp only [hdrop,hset,hpost,hOf];(repeat' split)<;>rfl))
    case' n22=>
     obtain rfl:k=s.size-5:=by omega
     have hcd:Gv s=⟨sc,(Bc s (s.size-5)).1,(Bc s (s.size-5)).2⟩:=by unfold Gv;rw [hs0]
     refine Ar T.Qu (P6 ⟨sc,(Bc s (s.size-5)).1,(Bc s (s.size-5)).2⟩) ?_
     refine br (fun hg26=>?y26) (fun hg26=>?n26)
     case' y26=>
      have hN:=RJ (s:=s) (by rw [hcd];exact hg26)
      refine brT ?_
     case' n26=>
      have hpb:Bz (Gv s)=true:=by rw [hcd];exact hg26
      refine Ar T.TZ (UK ⟨sc,(Bc s (s.size-5)).1,(Bc s (s.size-5)).2⟩) ?_
      refine br (fun hc28=>?y28) (fun hc28=>?n28)
      case' y28=>
       have hN:=UB (s:=s) (by rw [hcd];intro e;apply hc28;rw [if_pos (by rw [←hcd];exact hpb)];exact e)
      case' n28=>
       have hY:=Jv hpb (s:=s) (by rw [hcd];have h9:=hc28;rw [if_pos (by rw [←hcd];exact hpb)] at h9;exact h9)
       rw [hcd] at hY
   case' n21=>
    have hb1:¬b0=108:=by rintro rfl;exact hc21 rfl
    obtain ⟨sc,hsc,hs0⟩:∃sc:Int,sc=0∧(if s[0]? = some 108 then (1:Int) else 0)=sc:=⟨0,rfl,by rw [hb0,if_neg (by simpa using hb1)]⟩
    refine Ep (fb:=[]) T.ok (Nat.le_of_ble_eq_true rfl) [0,2] (fun (k:Nat)=>[(5,.c (.d (.sc (.int .i64 ((5+k:Nat):Int))))),(4,.box [.sc (.int .i64 sc),.sc (.string (Bc s k).1),.sc (.string (Bc s k).2)])]) (fun k=>5+k≤s.size) (fun k=>s.size-k) 0 (by omega) (Am (by first|rfl|(simp only [Tr.get];simp;done)) (Am (by subst hsc;rfl) trivial)) ?_
    rintro k hk
    refine Aw ?_
    refine br (fun hc29=>?y29) (fun hc29=>?n29)
    case' y29=>
     obtain ⟨c,hc⟩:∃c,s[5+k]? = some c:=⟨_,getElem?_pos s (5+k) (by omega)⟩
     first|refine FW (by first|exact hb0|exact ix5 hc) ?_|refine Fh (by first|exact hb0|exact ix5 hc) ?_
     refine br (fun hg30=>?y30) (fun hg30=>?n30)
     case' y30=>
      have hc46:s[5+k]? = some 46:=by rw [hc,show c=46 by rw [←UInt8.toNat_inj];show c.toNat=46;omega]
      refine br (fun hc31=>?y31) (fun hc31=>?n31)
      case' y31=>
       have hgn:Bc s (k+1)=(s.extract 5 (5+k),s.extract (5+k+1) s.size):=by rw [Bc,if_pos ⟨hc46,hc31⟩]
       first|refine FC ?_|refine Es ?_
       first|refine FC ?_|refine Es ?_
       refine GH ?_ (h1:=by (first|omega|(show (5:Nat)≤_;omega))) (h2:=by (first|omega|(show (5:Nat)≤_;omega)))
       first|refine CO ?_ (h:=by (first|omega|(show (5:Nat)≤_;omega)))|refine DU ?_ (h:=by first|exact IntWalk.i64_in _ (by (first|omega|(show (5:Nat)≤_;omega)))|rfl)|refine x_bin rfl rfl ?_
       first|refine FC ?_|refine Es ?_
       refine GH ?_ (h1:=by (first|omega|(show (5:Nat)≤_;omega))) (h2:=by (first|omega|(show (5:Nat)≤_;omega)))
       first|refine CO ?_ (h:=by (first|omega|(show (5:Nat)≤_;omega)))|refine DU ?_ (h:=by first|exact IntWalk.i64_in _ (by (first|omega|(show (5:Nat)≤_;omega)))|rfl)|refine x_bin rfl rfl ?_
       refine BV (k+1) (by (try dsimp only);omega) (by (try dsimp only);omega) rfl (Am (by first|rfl|(simp only [Tr.get];simp;done)) (Am (by simp only [Tr.get];first|(rw [hgn];done)|(rw [hgn];rfl)) trivial)) (by first|rfl|(funext u;simp only [hdrop,hset,hpost,hOf];(repeat' split)<;>rfl))
      case' n31=>
       have hgn:Bc s (k+1)=Bc s k:=by rw [Bc,if_neg (fun e=>hc31 e.2)]
       first|refine CO ?_ (h:=by (first|omega|(show (5:Nat)≤_;omega)))|refine DU ?_ (h:=by first|exact IntWalk.i64_in _ (by (first|omega|(show (5:Nat)≤_;omega)))|rfl)|refine x_bin rfl rfl ?_
       refine BV (k+1) (by (try dsimp only);omega) (by (try dsimp only);omega) rfl (Am (by first|rfl|(simp only [Tr.get];simp;done)) (Am (by simp only [Tr.get];first|(rw [hgn];done)|(rw [hgn];rfl)) trivial)) (by first|rfl|(funext u;simp only [hdrop,hset,hpost,hOf];(repeat' split)<;>rfl))
     case' n30=>
      have hgn:Bc s (k+1)=Bc s k:=by rw [Bc,if_neg];rintro ⟨e,_⟩;rw [hc] at e;injection e with e;subst e;exact hg30 rfl
      refine brF ?_
      first|refine CO ?_ (h:=by (first|omega|(show (5:Nat)≤_;omega)))|refine DU ?_ (h:=by first|exact IntWalk.i64_in _ (by (first|omega|(show (5:Nat)≤_;omega)))|rfl)|refine x_bin rfl rfl ?_
      refine BV (k+1) (by (try dsimp only);omega) (by (try dsimp only);omega) rfl (Am (by first|rfl|(simp only [Tr.get];simp;done)) (Am (by simp only [Tr.get];first|(rw [hgn];done)|(rw [hgn];rfl)) trivial)) (by first|rfl|(funext u;simp only [hdrop,hset,hpost,hOf];(repeat' split)<;>rfl))
    case' n29=>
     obtain rfl:k=s.size-5:=by omega
     have hcd:Gv s=⟨sc,(Bc s (s.size-5)).1,(Bc s (s.size-5)).2⟩:=by unfold Gv;rw [hs0]
     refine Ar T.Qu (P6 ⟨sc,(Bc s (s.size-5)).1,(Bc s (s.size-5)).2⟩) ?_
     refine br (fun hg33=>?y33) (fun hg33=>?n33)
     case' y33=>
      have hN:=RJ (s:=s) (by rw [hcd];exact hg33)
      refine brT ?_
     case' n33=>
      have hpb:Bz (Gv s)=true:=by rw [hcd];exact hg33
      refine Ar T.TZ (UK ⟨sc,(Bc s (s.size-5)).1,(Bc s (s.size-5)).2⟩) ?_
      refine br (fun hc35=>?y35) (fun hc35=>?n35)
      case' y35=>
       have hN:=UB (s:=s) (by rw [hcd];intro e;apply hc35;rw [if_pos (by rw [←hcd];exact hpb)];exact e)
      case' n35=>
       have hY:=Jv hpb (s:=s) (by rw [hcd];have h9:=hc35;rw [if_pos (by rw [←hcd];exact hpb)] at h9;exact h9)
       rw [hcd] at hY
 all_goals (refine CJ ?_;simp only [Bo,fits,C.asD,and_true]<;>(first|(rw [hN];exact ⟨rfl,rfl⟩)|(rw [hY];exact ⟨rfl,rfl⟩)))
end Go.Vm
end
section
namespace Go.Vm
open Go.RowKit Go.Proofs Go.Proofs.YtdfbohaohjaloaaGreatDoor Punnet.Name Punnet.Num
noncomputable def NF (s:ByteArray):ByteArray×Int:=if s.size≤40 then (MI s,0) else (noB,14)
theorem Apy (s:ByteArray):AP Tryz.prog 135 [.sc (.string s)] [.d (.sc (.string (NF s).1)),.d (.sc (.int .i64 (NF s).2))]:=by
 unfold NF
 split
 ·exact Aoa s (by assumption)
 ·exact La (us:=[.string s]) (rs:=[]) (by simp [BN]) fun w=>AsI s w (by omega)
end Go.Vm
end
section
namespace Go.Vm
open Go.Proofs Go.Proofs.YtdfbohaohjaloaaGreatDoor Punnet.Name Punnet.Num
structure He where
 e0:ByteArray
 e1:ByteArray
 e2:ByteArray
 e3:ByteArray
 e4:ByteArray
 e5:ByteArray
 e6:ByteArray
 e7:ByteArray
 e8:ByteArray
 e9:ByteArray
 e10:ByteArray
 e11:ByteArray
 e12:ByteArray
 deriving DecidableEq
def JV (x:He):D:=.agg [.sc (.string x.e0),.sc (.string x.e1),.sc (.string x.e2),.sc (.string x.e3),.sc (.string x.e4),.sc (.string x.e5),.sc (.string x.e6),.sc (.string x.e7),.sc (.string x.e8),.sc (.string x.e9),.sc (.string x.e10),.sc (.string x.e11),.sc (.string x.e12)]
def BI:He:=⟨⟨#[]⟩,⟨#[97,100,100]⟩,⟨#[114,101,109,111,118,101]⟩,⟨#[97,100,106,117,115,116]⟩,⟨#[115,101,116]⟩,⟨#[112,117,116]⟩,⟨#[116,97,107,101]⟩,⟨#[99,108,101,97,114]⟩,⟨#[112,117,98,108,105,115,104]⟩,⟨#[115,119,105,116,99,104]⟩,⟨#[118,105,101,119]⟩,⟨#[97,116]⟩,⟨#[112,114,111,106,101,99,116]⟩⟩
def CW:He:=⟨⟨#[]⟩,⟨#[]⟩,⟨#[104,101,108,108,111]⟩,⟨#[100,101,108,105,118,101,114]⟩,⟨#[108,111,115,101]⟩,⟨#[100,111,117,98,108,101]⟩,⟨#[99,117,116]⟩,⟨#[102,117,115,101]⟩,⟨#[99,114,97,115,104]⟩,⟨#[102,111,108,100]⟩,⟨#[109,101,101,116]⟩,⟨#[]⟩,⟨#[]⟩⟩
def Df:He:=⟨⟨#[]⟩,⟨#[114,101,110,97,109,101]⟩,⟨#[]⟩,⟨#[]⟩,⟨#[104,111,105,115,116]⟩,⟨#[112,108,117,110,103,101]⟩,⟨#[115,112,108,105,116]⟩,⟨#[119,114,97,112]⟩,⟨#[]⟩,⟨#[]⟩,⟨#[]⟩,⟨#[]⟩,⟨#[]⟩⟩
def D6:He:=⟨⟨#[]⟩,⟨#[99,111,117,110,116,101,114]⟩,⟨#[116,101,120,116]⟩,⟨#[]⟩,⟨#[108,105,115,116]⟩,⟨#[]⟩,⟨#[]⟩,⟨#[]⟩,⟨#[]⟩,⟨#[]⟩,⟨#[]⟩,⟨#[]⟩,⟨#[]⟩⟩
structure Ba where
 words:(List ByteArray)
 bad:Bool
 deriving DecidableEq
structure Au where
 kind:Int
 who:Int
 to_:Int
 n:Int
 re:Int
 im:Int
 off:Int
 deed:AV
 deriving DecidableEq
def Jl (x:Au):D:=.agg [.sc (.int .i64 x.kind),.sc (.int .i64 x.who),.sc (.int .i64 x.to_),.sc (.int .i64 x.n),.sc (.int .i64 x.re),.sc (.int .i64 x.im),.sc (.int .i64 x.off),.sc (.int .i64 x.deed.kind),.sc (.string x.deed.cart),.sc (.string x.deed.item),.sc (.int .i64 x.deed.at_.scope),.sc (.string x.deed.at_.group),.sc (.string x.deed.at_.name),.sc (.int .i64 x.deed.n),.sc (.string x.deed.text),.sc (.int .i64 x.deed.tag.r),.sc (.int .i64 x.deed.tag.n),.sc (.int .i64 x.deed.lens.kind),.sc (.int .i64 x.deed.lens.at_.scope),.sc (.string x.deed.lens.at_.group),.sc (.string x.deed.lens.at_.name),.sc (.string x.deed.lens.name),.sc (.string x.deed.lens.other),.sc (.int .i64 x.deed.lens.factor),.sc (.int .i64 x.deed.lens.field.at_.scope),.sc (.string x.deed.lens.field.at_.group),.sc (.string x.deed.lens.field.at_.name),.sc (.int .i64 x.deed.lens.field.kind),.sc (.string x.deed.lens.field.deft),.row (List.map strD x.deed.lens.field.cases),.sc (.int .i64 x.deed.lens.field.worth),.row (List.map G6 x.deed.lens.forth),.row (List.map G6 x.deed.lens.back)]
noncomputable def Dk (table:He)(word:ByteArray):Nat→Int→Option (Sum Int Int)
 |0,_=>none
 |nl1+1,v8l1=>if v8l1<13 then ((idx [table.e0,table.e1,table.e2,table.e3,table.e4,table.e5,table.e6,table.e7,table.e8,table.e9,table.e10,table.e11,table.e12] v8l1).bind fun p11=>if (p11=word)∧(¬(p11=noB)) then (some (.inl (v8l1))) else (Dk table word nl1 (w64 (v8l1+1)))) else (some (.inr (v8l1)))
noncomputable def BG (table:He)(word:ByteArray):Option Int:=(Dk table word 1000000 0).bind fun m_=>match m_ with | .inl rl1=>some rl1 | .inr w8l1=>some 0
noncomputable def CZ (table:He)(kind:Int):Option ByteArray:=if (kind<0)∨(13≤kind) then (some noB) else ((idx [table.e0,table.e1,table.e2,table.e3,table.e4,table.e5,table.e6,table.e7,table.e8,table.e9,table.e10,table.e11,table.e12] kind).bind fun p12=>some p12)
noncomputable def IG (r0:Ba):Option (ByteArray×Ba):=if ((r0.words.length:Nat):Int)=0 then (some (noB,(⟨r0.words,true⟩:Ba))) else ((idx r0.words 0).bind fun p17=>(Gu r0.words 1 ((r0.words.length:Nat):Int)).bind fun y24=>some (p17,(⟨y24,r0.bad⟩:Ba)))
noncomputable def JG (r0:Ba):Option (Int×Ba):=(IG r0).bind fun r7=>grd (r7.1.size≤1000000) (some (((AU r7.1).1:Int),(⟨r7.2.words,(decide ((r7.2.bad=true)∨(¬(((AU r7.1).2:Int)=0))))⟩:Ba)))
noncomputable def Jt (r0:Ba):Option (Int×Ba):=(JG r0).bind fun r4=>some (r4.1,r4.2)
noncomputable def Na (r0:Ba):Option (BQ×Ba):=(IG r0).bind fun r7=>grd (r7.1.size≤1000000) (some (((C9 r7.1).getD AZ),(⟨r7.2.words,(decide ((r7.2.bad=true)∨(¬((if (C9 r7.1).isSome=true then 0 else 4:Int)=0))))⟩:Ba)))
noncomputable def Ju (r0:Ba):Option (Bv×Ba):=(IG r0).bind fun r7=>grd (r7.1.size≤1000000) (some (((placeOf r7.1).getD Ae),(⟨r7.2.words,(decide ((r7.2.bad=true)∨(¬((if (placeOf r7.1).isSome=true then 0 else 4:Int)=0))))⟩:Ba)))
noncomputable def LU (r0:Ba):Option (ByteArray×Ba):=(IG r0).bind fun r5=>some (r5.1,(⟨r5.2.words,(decide ((r5.2.bad=true)∨(¬((nameB r5.1)=true))))⟩:Ba))
noncomputable def Nc (r0:Ba):Option (ByteArray×Ba):=(IG r0).bind fun r5=>if r5.1=(⟨#[45]⟩:ByteArray) then (some (noB,r5.2)) else (some (r5.1,(⟨r5.2.words,(decide ((r5.2.bad=true)∨(¬((nameB r5.1)=true))))⟩:Ba)))
noncomputable def Nb (r0:Ba):Option (ByteArray×Ba):=(IG r0).bind fun r7=>grd (r7.1.size≤1000000) (some (((Ea r7.1).1),(⟨r7.2.words,(decide ((r7.2.bad=true)∨(¬(((Ea r7.1).2:Int)=0))))⟩:Ba)))
noncomputable def EO (r0:Ba):Option (AL×Ba):=(IG r0).bind fun r6=>(BG Df r6.1).bind fun r9=>if (r9=1)∨(r9=5) then ((Ju r6.2).bind fun r47=>(LU r47.2).bind fun r50=>some ((⟨r9,r47.1,r50.1,noB,0,(⟨Ae,0,noB,[],0⟩:AB),[],[]⟩:AL),r50.2)) else (if r9=4 then ((Ju r6.2).bind fun r55=>some ((⟨r9,r55.1,noB,noB,0,(⟨Ae,0,noB,[],0⟩:AB),[],[]⟩:AL),r55.2)) else (if r9=6 then ((Ju r6.2).bind fun r60=>(LU r60.2).bind fun r63=>(LU r63.2).bind fun r66=>(JG r66.2).bind fun r69=>some ((⟨r9,r60.1,r63.1,r66.1,r69.1,(⟨Ae,0,noB,[],0⟩:AB),[],[]⟩:AL),r69.2)) else (if r9=7 then ((Ju r6.2).bind fun r74=>(Nb r74.2).bind fun r77=>some ((⟨r9,r74.1,noB,r77.1,0,(⟨Ae,0,noB,[],0⟩:AB),[],[]⟩:AL),r77.2)) else ((BG D6 r6.1).bind fun r16=>(Ju r6.2).bind fun r20=>if r16=1 then ((JG r20.2).bind fun r32=>some ((⟨2,Ae,noB,noB,0,(⟨r20.1,r16,noB,[],r32.1⟩:AB),[],[]⟩:AL),r32.2)) else (if r16=2 then ((Nb r20.2).bind fun r38=>some ((⟨2,Ae,noB,noB,0,(⟨r20.1,r16,r38.1,[],0⟩:AB),[],[]⟩:AL),r38.2)) else (if r16=4 then (some ((⟨2,Ae,noB,noB,0,(⟨r20.1,r16,noB,[],0⟩:AB),[],[]⟩:AL),r20.2)) else (some ((⟨2,Ae,noB,noB,0,(⟨r20.1,r16,noB,[],0⟩:AB),[],[]⟩:AL),(⟨r20.2.words,true⟩:Ba)))))))))
noncomputable def Et (r0:Ba)(kind:Int):Option (AV×Ba):=if kind=8 then ((Na r0).bind fun r12=>(EO r12.2).bind fun r15=>some ((⟨kind,noB,noB,Ae,0,noB,r12.1,r15.1⟩:AV),r15.2)) else (if kind=9 then ((Na r0).bind fun r21=>some ((⟨kind,noB,noB,Ae,0,noB,r21.1,(⟨0,Ae,noB,noB,0,(⟨Ae,0,noB,[],0⟩:AB),[],[]⟩:AL)⟩:AV),r21.2)) else ((LU r0).bind fun r25=>if (kind=1)∨(kind=2) then ((Nc r25.2).bind fun r32=>some ((⟨kind,r25.1,r32.1,Ae,0,noB,AZ,(⟨0,Ae,noB,noB,0,(⟨Ae,0,noB,[],0⟩:AB),[],[]⟩:AL)⟩:AV),r32.2)) else (if kind=3 then ((Nc r25.2).bind fun r37=>(Ju r37.2).bind fun r40=>(JG r40.2).bind fun r43=>some ((⟨kind,r25.1,r37.1,r40.1,r43.1,noB,AZ,(⟨0,Ae,noB,noB,0,(⟨Ae,0,noB,[],0⟩:AB),[],[]⟩:AL)⟩:AV),r43.2)) else (if (kind=4)∨((kind=5)∨(kind=6)) then ((Nc r25.2).bind fun r50=>(Ju r50.2).bind fun r53=>(Nb r53.2).bind fun r56=>some ((⟨kind,r25.1,r50.1,r53.1,0,r56.1,AZ,(⟨0,Ae,noB,noB,0,(⟨Ae,0,noB,[],0⟩:AB),[],[]⟩:AL)⟩:AV),r56.2)) else (if (kind=11)∨(kind=12) then ((Na r25.2).bind fun r62=>some ((⟨kind,r25.1,noB,Ae,0,noB,r62.1,(⟨0,Ae,noB,noB,0,(⟨Ae,0,noB,[],0⟩:AB),[],[]⟩:AL)⟩:AV),r62.2)) else (some ((⟨kind,r25.1,noB,Ae,0,noB,AZ,(⟨0,Ae,noB,noB,0,(⟨Ae,0,noB,[],0⟩:AB),[],[]⟩:AL)⟩:AV),r25.2)))))))
noncomputable def BO (line:ByteArray):Option (Au×Int):=grd (line.size≤1000000) ((IG (⟨(splitB line 0),false⟩:Ba)).bind fun r13=>(BG BI r13.1).bind fun r16=>if ¬(r16=0) then ((Jt r13.2).bind fun r21=>(Et r21.2 r16).bind fun r25=>if (r25.2.bad=true)∨(0<((r25.2.words.length:Nat):Int)) then (some ((⟨0,0,0,0,0,0,0,(⟨0,noB,noB,Ae,0,noB,AZ,(⟨0,Ae,noB,noB,0,(⟨Ae,0,noB,[],0⟩:AB),[],[]⟩:AL)⟩:AV)⟩:Au),4)) else (some ((⟨1,r21.1,0,0,0,0,0,r25.1⟩:Au),0))) else ((BG CW r13.1).bind fun r29=>if (r29=2)∨(r29=10) then ((Jt r13.2).bind fun r40=>(Jt r40.2).bind fun r43=>if (r43.2.bad=true)∨(0<((r43.2.words.length:Nat):Int)) then (some ((⟨0,0,0,0,0,0,0,(⟨0,noB,noB,Ae,0,noB,AZ,(⟨0,Ae,noB,noB,0,(⟨Ae,0,noB,[],0⟩:AB),[],[]⟩:AL)⟩:AV)⟩:Au),4)) else (some ((⟨r29,r40.1,r43.1,0,0,0,0,(⟨0,noB,noB,Ae,0,noB,AZ,(⟨0,Ae,noB,noB,0,(⟨Ae,0,noB,[],0⟩:AB),[],[]⟩:AL)⟩:AV)⟩:Au),0))) else (if (r29=3)∨((r29=4)∨(r29=5)) then ((Jt r13.2).bind fun r50=>if (r50.2.bad=true)∨(0<((r50.2.words.length:Nat):Int)) then (some ((⟨0,0,0,0,0,0,0,(⟨0,noB,noB,Ae,0,noB,AZ,(⟨0,Ae,noB,noB,0,(⟨Ae,0,noB,[],0⟩:AB),[],[]⟩:AL)⟩:AV)⟩:Au),4)) else (some ((⟨r29,0,0,r50.1,0,0,0,(⟨0,noB,noB,Ae,0,noB,AZ,(⟨0,Ae,noB,noB,0,(⟨Ae,0,noB,[],0⟩:AB),[],[]⟩:AL)⟩:AV)⟩:Au),0))) else (if r29=6 then ((JG r13.2).bind fun r55=>(JG r55.2).bind fun r58=>(JG r58.2).bind fun r61=>if (r61.2.bad=true)∨(0<((r61.2.words.length:Nat):Int)) then (some ((⟨0,0,0,0,0,0,0,(⟨0,noB,noB,Ae,0,noB,AZ,(⟨0,Ae,noB,noB,0,(⟨Ae,0,noB,[],0⟩:AB),[],[]⟩:AL)⟩:AV)⟩:Au),4)) else (some ((⟨r29,0,0,0,r55.1,r58.1,r61.1,(⟨0,noB,noB,Ae,0,noB,AZ,(⟨0,Ae,noB,noB,0,(⟨Ae,0,noB,[],0⟩:AB),[],[]⟩:AL)⟩:AV)⟩:Au),0))) else (if (r29=7)∨(r29=8) then ((Jt r13.2).bind fun r67=>(Jt r67.2).bind fun r70=>if (r70.2.bad=true)∨(0<((r70.2.words.length:Nat):Int)) then (some ((⟨0,0,0,0,0,0,0,(⟨0,noB,noB,Ae,0,noB,AZ,(⟨0,Ae,noB,noB,0,(⟨Ae,0,noB,[],0⟩:AB),[],[]⟩:AL)⟩:AV)⟩:Au),4)) else (some ((⟨r29,r67.1,0,r70.1,0,0,0,(⟨0,noB,noB,Ae,0,noB,AZ,(⟨0,Ae,noB,noB,0,(⟨Ae,0,noB,[],0⟩:AB),[],[]⟩:AL)⟩:AV)⟩:Au),0))) else (if r29=9 then ((Jt r13.2).bind fun r75=>if (r75.2.bad=true)∨(0<((r75.2.words.length:Nat):Int)) then (some ((⟨0,0,0,0,0,0,0,(⟨0,noB,noB,Ae,0,noB,AZ,(⟨0,Ae,noB,noB,0,(⟨Ae,0,noB,[],0⟩:AB),[],[]⟩:AL)⟩:AV)⟩:Au),4)) else (some ((⟨r29,r75.1,0,0,0,0,0,(⟨0,noB,noB,Ae,0,noB,AZ,(⟨0,Ae,noB,noB,0,(⟨Ae,0,noB,[],0⟩:AB),[],[]⟩:AL)⟩:AV)⟩:Au),0))) else (some ((⟨0,0,0,0,0,0,0,(⟨0,noB,noB,Ae,0,noB,AZ,(⟨0,Ae,noB,noB,0,(⟨Ae,0,noB,[],0⟩:AB),[],[]⟩:AL)⟩:AV)⟩:Au),4))))))))
end Go.Vm
end
section
namespace Go.Vm
open Go.Proofs Go.Proofs.YtdfbohaohjaloaaGreatDoor Punnet.Name Punnet.Num
structure Bd where
 verb:ByteArray
 words:ByteArray
 deriving DecidableEq
def Q3 (x:Bd):D:=.agg [.sc (.string x.verb),.sc (.string x.words)]
structure BR where
 n:(List Int)
 t:(List BQ)
 s:(List ByteArray)
 p:(List Bv)
 q:(List ByteArray)
 deriving DecidableEq
def ArV (x:BR):D:=.agg [.row (List.map intD x.n),.row (List.map tD x.t),.row (List.map strD x.s),.row (List.map rD x.p),.row (List.map strD x.q)]
noncomputable def CX : (List Bd):=[(⟨noB,noB⟩:Bd),(⟨(⟨#[97,100,100]⟩:ByteArray),(⟨#[119,99,105]⟩:ByteArray)⟩:Bd),(⟨(⟨#[114,101,109,111,118,101]⟩:ByteArray),(⟨#[119,99,105]⟩:ByteArray)⟩:Bd),(⟨(⟨#[97,100,106,117,115,116]⟩:ByteArray),(⟨#[119,99,105,112,110]⟩:ByteArray)⟩:Bd),(⟨(⟨#[115,101,116]⟩:ByteArray),(⟨#[119,99,105,112,113]⟩:ByteArray)⟩:Bd),(⟨(⟨#[112,117,116]⟩:ByteArray),(⟨#[119,99,105,112,113]⟩:ByteArray)⟩:Bd),(⟨(⟨#[116,97,107,101]⟩:ByteArray),(⟨#[119,99,105,112,113]⟩:ByteArray)⟩:Bd),(⟨(⟨#[99,108,101,97,114]⟩:ByteArray),(⟨#[119,99]⟩:ByteArray)⟩:Bd),(⟨(⟨#[112,117,98,108,105,115,104]⟩:ByteArray),(⟨#[119,116]⟩:ByteArray)⟩:Bd),(⟨(⟨#[115,119,105,116,99,104]⟩:ByteArray),(⟨#[119,116]⟩:ByteArray)⟩:Bd),(⟨(⟨#[118,105,101,119]⟩:ByteArray),(⟨#[119,99]⟩:ByteArray)⟩:Bd),(⟨(⟨#[97,116]⟩:ByteArray),(⟨#[119,99,116]⟩:ByteArray)⟩:Bd),(⟨(⟨#[112,114,111,106,101,99,116]⟩:ByteArray),(⟨#[119,99,116]⟩:ByteArray)⟩:Bd)]
noncomputable def En : (List Bd):=[(⟨noB,noB⟩:Bd),(⟨noB,noB⟩:Bd),(⟨(⟨#[104,101,108,108,111]⟩:ByteArray),(⟨#[119,119]⟩:ByteArray)⟩:Bd),(⟨(⟨#[100,101,108,105,118,101,114]⟩:ByteArray),(⟨#[110]⟩:ByteArray)⟩:Bd),(⟨(⟨#[108,111,115,101]⟩:ByteArray),(⟨#[110]⟩:ByteArray)⟩:Bd),(⟨(⟨#[100,111,117,98,108,101]⟩:ByteArray),(⟨#[110]⟩:ByteArray)⟩:Bd),(⟨(⟨#[99,117,116]⟩:ByteArray),(⟨#[110,110,110]⟩:ByteArray)⟩:Bd),(⟨(⟨#[102,117,115,101]⟩:ByteArray),(⟨#[119,110]⟩:ByteArray)⟩:Bd),(⟨(⟨#[99,114,97,115,104]⟩:ByteArray),(⟨#[119,110]⟩:ByteArray)⟩:Bd),(⟨(⟨#[102,111,108,100]⟩:ByteArray),(⟨#[119]⟩:ByteArray)⟩:Bd),(⟨(⟨#[109,101,101,116]⟩:ByteArray),(⟨#[119,119]⟩:ByteArray)⟩:Bd)]
noncomputable def EG : (List Bd):=[(⟨noB,noB⟩:Bd),(⟨(⟨#[114,101,110,97,109,101]⟩:ByteArray),(⟨#[112,109]⟩:ByteArray)⟩:Bd),(⟨noB,noB⟩:Bd),(⟨noB,noB⟩:Bd),(⟨(⟨#[104,111,105,115,116]⟩:ByteArray),(⟨#[112]⟩:ByteArray)⟩:Bd),(⟨(⟨#[112,108,117,110,103,101]⟩:ByteArray),(⟨#[112,109]⟩:ByteArray)⟩:Bd),(⟨(⟨#[115,112,108,105,116]⟩:ByteArray),(⟨#[112,109,109,110]⟩:ByteArray)⟩:Bd),(⟨(⟨#[119,114,97,112]⟩:ByteArray),(⟨#[112,113]⟩:ByteArray)⟩:Bd),(⟨noB,noB⟩:Bd),(⟨noB,noB⟩:Bd),(⟨noB,noB⟩:Bd),(⟨(⟨#[99,111,117,110,116,101,114]⟩:ByteArray),(⟨#[112,110]⟩:ByteArray)⟩:Bd),(⟨(⟨#[116,101,120,116]⟩:ByteArray),(⟨#[112,113]⟩:ByteArray)⟩:Bd),(⟨noB,noB⟩:Bd),(⟨(⟨#[108,105,115,116]⟩:ByteArray),(⟨#[112]⟩:ByteArray)⟩:Bd)]
noncomputable def Ir (l:(List ByteArray))(form:ByteArray):Nat→BR→BR→Int→Option (Sum (BR×Bool) (BR×BR×Int))
 |0,_,_,_=>none
 |nl1+1,v4l1,v6l1,v7l1=>if v7l1<((form.size:Nat):Int) then ((Nj form v7l1).bind fun p33=>if (((p33.toNat:Nat):Int)=119)∨(((p33.toNat:Nat):Int)=110) then ((idx l v7l1).bind fun p62=>grd (p62.size≤1000000) (if ¬((AU p62).2=0) then (some (.inl ((v6l1,false)))) else ((BD v6l1.n [((AU p62).1:Int)]).bind fun z74=>Ir l form nl1 v4l1 (⟨z74,v6l1.t,v6l1.s,v6l1.p,v6l1.q⟩:BR) (w64 (v7l1+1))))) else (if ((p33.toNat:Nat):Int)=116 then ((idx l v7l1).bind fun p81=>grd (p81.size≤1000000) (if ¬(((C9 p81).isSome)=true) then (some (.inl ((v6l1,false)))) else ((BD v6l1.t [((C9 p81).getD AZ)]).bind fun z93=>Ir l form nl1 v4l1 (⟨v6l1.n,z93,v6l1.s,v6l1.p,v6l1.q⟩:BR) (w64 (v7l1+1))))) else (if ((p33.toNat:Nat):Int)=112 then ((idx l v7l1).bind fun p100=>grd (p100.size≤1000000) (if ¬(((placeOf p100).isSome)=true) then (some (.inl ((v6l1,false)))) else ((BD v6l1.p [((placeOf p100).getD Ae)]).bind fun z112=>Ir l form nl1 v4l1 (⟨v6l1.n,v6l1.t,v6l1.s,z112,v6l1.q⟩:BR) (w64 (v7l1+1))))) else (if ((p33.toNat:Nat):Int)=113 then ((idx l v7l1).bind fun p119=>grd (p119.size≤1000000) (if ¬(((Dw p119 0).2.2:Int)=0) then (some (.inl ((v6l1,false)))) else ((idx l v7l1).bind fun p131=>if ¬((((Dw p119 0).2.1:Nat):Int)=((p131.size:Nat):Int)) then (some (.inl ((v6l1,false)))) else ((BD v6l1.q [((Dw p119 0).1)]).bind fun z141=>Ir l form nl1 v4l1 (⟨v6l1.n,v6l1.t,v6l1.s,v6l1.p,z141⟩:BR) (w64 (v7l1+1)))))) else ((idx l v7l1).bind fun p36=>(Nj form v7l1).bind fun p40=>if (((p40.toNat:Nat):Int)=105)∧(p36=(⟨#[45]⟩:ByteArray)) then ((BD v6l1.s [noB]).bind fun z54=>Ir l form nl1 v4l1 (⟨v6l1.n,v6l1.t,z54,v6l1.p,v6l1.q⟩:BR) (w64 (v7l1+1))) else (if ¬((nameB p36)=true) then (some (.inl ((v6l1,false)))) else ((BD v6l1.s [p36]).bind fun z54=>Ir l form nl1 v4l1 (⟨v6l1.n,v6l1.t,z54,v6l1.p,v6l1.q⟩:BR) (w64 (v7l1+1))))))))) else (some (.inr ((v4l1,v6l1,v7l1))))
noncomputable def NL (l:(List ByteArray))(form:ByteArray):Option (BR×Bool):=if ¬(((l.length:Nat):Int)=((form.size:Nat):Int)) then (some ((⟨[],[],[],[],[]⟩:BR),false)) else ((Ir l form 1000000 (⟨[],[],[],[],[]⟩:BR) (⟨[],[],[],[],[]⟩:BR) 0).bind fun m_=>match m_ with | .inl rl1=>some rl1 | .inr (w4l1,w6l1,w7l1)=>some (w6l1,true))
noncomputable def LW (verb:ByteArray):List Bd→Nat→Option (Sum Int Unit)
 | [],_=>some (.inr (()))
 |xl1::ll1,kl1=>if (xl1.verb=verb)∧(¬(verb=noB)) then (some (.inl (((kl1:Nat):Int)))) else (LW verb ll1 (kl1+1) )
noncomputable def Cb (l:(List Bd))(verb:ByteArray):Option Int:=grd (l.length≤1000000000) ((LW verb l 0).bind fun m_=>match m_ with | .inl rl1=>some rl1 | .inr _=>some (-1))
noncomputable def I4 (r17:Int)(r29:BR×Bool)(j8k1:AL):Option (AL×Bool):=if r17=6 then ((idx r29.1.s 1).bind fun p79=>(idx r29.1.n 0).bind fun p84=>if r17=7 then ((idx r29.1.q 0).bind fun p91=>some ((⟨j8k1.kind,j8k1.at_,j8k1.name,p91,p84,j8k1.field,j8k1.forth,j8k1.back⟩:AL),true)) else (some ((⟨j8k1.kind,j8k1.at_,j8k1.name,p79,p84,j8k1.field,j8k1.forth,j8k1.back⟩:AL),true))) else (if r17=7 then ((idx r29.1.q 0).bind fun p91=>some ((⟨j8k1.kind,j8k1.at_,j8k1.name,p91,j8k1.factor,j8k1.field,j8k1.forth,j8k1.back⟩:AL),true)) else (some (j8k1,true)))
noncomputable def EX (l:(List ByteArray)):Option (AL×Bool):=if ((l.length:Nat):Int)=0 then (some ((⟨0,Ae,noB,noB,0,(⟨Ae,0,noB,[],0⟩:AB),[],[]⟩:AL),false)) else ((idx l 0).bind fun p15=>(Cb (EG) p15).bind fun r17=>if r17<0 then (some ((⟨0,Ae,noB,noB,0,(⟨Ae,0,noB,[],0⟩:AB),[],[]⟩:AL),false)) else ((Gu l 1 ((l.length:Nat):Int)).bind fun y23=>(idx (EG) r17).bind fun p26=>(NL y23 p26.words).bind fun r29=>if ¬(r29.2=true) then (some ((⟨0,Ae,noB,noB,0,(⟨Ae,0,noB,[],0⟩:AB),[],[]⟩:AL),false)) else (if 10<r17 then ((idx r29.1.p 0).bind fun p39=>if r17=11 then ((idx r29.1.n 0).bind fun p48=>if r17=12 then ((idx r29.1.q 0).bind fun p55=>some ((⟨2,Ae,noB,noB,0,(⟨p39,(w64 (r17-10)),p55,[],p48⟩:AB),[],[]⟩:AL),true)) else (some ((⟨2,Ae,noB,noB,0,(⟨p39,(w64 (r17-10)),noB,[],p48⟩:AB),[],[]⟩:AL),true))) else (if r17=12 then ((idx r29.1.q 0).bind fun p55=>some ((⟨2,Ae,noB,noB,0,(⟨p39,(w64 (r17-10)),p55,[],0⟩:AB),[],[]⟩:AL),true)) else (some ((⟨2,Ae,noB,noB,0,(⟨p39,(w64 (r17-10)),noB,[],0⟩:AB),[],[]⟩:AL),true)))) else ((idx r29.1.p 0).bind fun p63=>if 0<((r29.1.s.length:Nat):Int) then ((idx r29.1.s 0).bind fun p72=>I4 r17 r29 (⟨r17,p63,p72,noB,0,(⟨Ae,0,noB,[],0⟩:AB),[],[]⟩:AL)) else (I4 r17 r29 (⟨r17,p63,noB,noB,0,(⟨Ae,0,noB,[],0⟩:AB),[],[]⟩:AL))))))
noncomputable def Cj (k:Int)(r41:BR×Bool)(j6k5:Au):Option (Au×Bool):=if 0<((r41.1.q.length:Nat):Int) then ((idx r41.1.q 0).bind fun p98=>if k=3 then ((idx r41.1.n 1).bind fun p106=>some ((⟨j6k5.kind,j6k5.who,j6k5.to_,j6k5.n,j6k5.re,j6k5.im,j6k5.off,(⟨j6k5.deed.kind,j6k5.deed.cart,j6k5.deed.item,j6k5.deed.at_,p106,p98,j6k5.deed.tag,j6k5.deed.lens⟩:AV)⟩:Au),true)) else (some ((⟨j6k5.kind,j6k5.who,j6k5.to_,j6k5.n,j6k5.re,j6k5.im,j6k5.off,(⟨j6k5.deed.kind,j6k5.deed.cart,j6k5.deed.item,j6k5.deed.at_,j6k5.deed.n,p98,j6k5.deed.tag,j6k5.deed.lens⟩:AV)⟩:Au),true))) else (if k=3 then ((idx r41.1.n 1).bind fun p106=>some ((⟨j6k5.kind,j6k5.who,j6k5.to_,j6k5.n,j6k5.re,j6k5.im,j6k5.off,(⟨j6k5.deed.kind,j6k5.deed.cart,j6k5.deed.item,j6k5.deed.at_,p106,j6k5.deed.text,j6k5.deed.tag,j6k5.deed.lens⟩:AV)⟩:Au),true)) else (some (j6k5,true)))
noncomputable def D5 (k:Int)(r41:BR×Bool)(j6k4:Au):Option (Au×Bool):=if 0<((r41.1.p.length:Nat):Int) then ((idx r41.1.p 0).bind fun p88=>Cj k r41 (⟨j6k4.kind,j6k4.who,j6k4.to_,j6k4.n,j6k4.re,j6k4.im,j6k4.off,(⟨j6k4.deed.kind,j6k4.deed.cart,j6k4.deed.item,p88,j6k4.deed.n,j6k4.deed.text,j6k4.deed.tag,j6k4.deed.lens⟩:AV)⟩:Au)) else (Cj k r41 j6k4)
noncomputable def EY (k:Int)(r41:BR×Bool)(j6k3:Au):Option (Au×Bool):=if 0<((r41.1.t.length:Nat):Int) then ((idx r41.1.t 0).bind fun p78=>D5 k r41 (⟨j6k3.kind,j6k3.who,j6k3.to_,j6k3.n,j6k3.re,j6k3.im,j6k3.off,(⟨j6k3.deed.kind,j6k3.deed.cart,j6k3.deed.item,j6k3.deed.at_,j6k3.deed.n,j6k3.deed.text,p78,j6k3.deed.lens⟩:AV)⟩:Au)) else (D5 k r41 j6k3)
noncomputable def F7 (k:Int)(r41:BR×Bool)(j6k2:Au):Option (Au×Bool):=if 1<((r41.1.s.length:Nat):Int) then ((idx r41.1.s 1).bind fun p68=>EY k r41 (⟨j6k2.kind,j6k2.who,j6k2.to_,j6k2.n,j6k2.re,j6k2.im,j6k2.off,(⟨j6k2.deed.kind,j6k2.deed.cart,p68,j6k2.deed.at_,j6k2.deed.n,j6k2.deed.text,j6k2.deed.tag,j6k2.deed.lens⟩:AV)⟩:Au)) else (EY k r41 j6k2)
noncomputable def Gs (k:Int)(j1k1:(List ByteArray))(j4k1:Au)(j6k1:Au):Option (Au×Bool):=(idx (CX) k).bind fun p38=>(NL j1k1 p38.words).bind fun r41=>if ¬(r41.2=true) then (some (j6k1,false)) else ((idx r41.1.n 0).bind fun p49=>if 0<((r41.1.s.length:Nat):Int) then ((idx r41.1.s 0).bind fun p58=>F7 k r41 (⟨j6k1.kind,p49,j6k1.to_,j6k1.n,j6k1.re,j6k1.im,j6k1.off,(⟨j6k1.deed.kind,p58,j6k1.deed.item,j6k1.deed.at_,j6k1.deed.n,j6k1.deed.text,j6k1.deed.tag,j6k1.deed.lens⟩:AV)⟩:Au)) else (F7 k r41 (⟨j6k1.kind,p49,j6k1.to_,j6k1.n,j6k1.re,j6k1.im,j6k1.off,j6k1.deed⟩:Au)))
noncomputable def Gh (k:Int)(l:(List ByteArray)):Option (Au×Bool):=if k=8 then (if ((l.length:Nat):Int)<2 then (some ((⟨1,0,0,0,0,0,0,(⟨k,noB,noB,Ae,0,noB,AZ,(⟨0,Ae,noB,noB,0,(⟨Ae,0,noB,[],0⟩:AB),[],[]⟩:AL)⟩:AV)⟩:Au),false)) else ((Gu l 2 ((l.length:Nat):Int)).bind fun y22=>(EX y22).bind fun r23=>if ¬(r23.2=true) then (some ((⟨1,0,0,0,0,0,0,(⟨k,noB,noB,Ae,0,noB,AZ,(⟨0,Ae,noB,noB,0,(⟨Ae,0,noB,[],0⟩:AB),[],[]⟩:AL)⟩:AV)⟩:Au),false)) else ((Gu l 0 2).bind fun y33=>Gs k y33 (⟨0,0,0,0,0,0,0,(⟨0,noB,noB,Ae,0,noB,AZ,(⟨0,Ae,noB,noB,0,(⟨Ae,0,noB,[],0⟩:AB),[],[]⟩:AL)⟩:AV)⟩:Au) (⟨1,0,0,0,0,0,0,(⟨k,noB,noB,Ae,0,noB,AZ,r23.1⟩:AV)⟩:Au)))) else (Gs k l (⟨0,0,0,0,0,0,0,(⟨0,noB,noB,Ae,0,noB,AZ,(⟨0,Ae,noB,noB,0,(⟨Ae,0,noB,[],0⟩:AB),[],[]⟩:AL)⟩:AV)⟩:Au) (⟨1,0,0,0,0,0,0,(⟨k,noB,noB,Ae,0,noB,AZ,(⟨0,Ae,noB,noB,0,(⟨Ae,0,noB,[],0⟩:AB),[],[]⟩:AL)⟩:AV)⟩:Au))
noncomputable def BM (line:ByteArray):Option (Au×Bool):=grd (line.size≤1000000) ((idx (splitB line 0) 0).bind fun p15=>(Cb (CX) p15).bind fun r17=>if 0<r17 then ((Gu (splitB line 0) 1 (((splitB line 0).length:Nat):Int)).bind fun y23=>(Gh r17 y23).bind fun r24=>if ¬(r24.2=true) then (some ((⟨0,0,0,0,0,0,0,(⟨0,noB,noB,Ae,0,noB,AZ,(⟨0,Ae,noB,noB,0,(⟨Ae,0,noB,[],0⟩:AB),[],[]⟩:AL)⟩:AV)⟩:Au),false)) else (some (r24.1,true))) else ((idx (splitB line 0) 0).bind fun p33=>(Cb (En) p33).bind fun r35=>if r35<0 then (some ((⟨0,0,0,0,0,0,0,(⟨0,noB,noB,Ae,0,noB,AZ,(⟨0,Ae,noB,noB,0,(⟨Ae,0,noB,[],0⟩:AB),[],[]⟩:AL)⟩:AV)⟩:Au),false)) else ((Gu (splitB line 0) 1 (((splitB line 0).length:Nat):Int)).bind fun y41=>(idx (En) r35).bind fun p44=>(NL y41 p44.words).bind fun r47=>if ¬(r47.2=true) then (some ((⟨0,0,0,0,0,0,0,(⟨0,noB,noB,Ae,0,noB,AZ,(⟨0,Ae,noB,noB,0,(⟨Ae,0,noB,[],0⟩:AB),[],[]⟩:AL)⟩:AV)⟩:Au),false)) else (if (r35=2)∨(r35=10) then ((idx r47.1.n 0).bind fun p61=>(idx r47.1.n 1).bind fun p66=>some ((⟨r35,p61,p66,0,0,0,0,(⟨0,noB,noB,Ae,0,noB,AZ,(⟨0,Ae,noB,noB,0,(⟨Ae,0,noB,[],0⟩:AB),[],[]⟩:AL)⟩:AV)⟩:Au),true)) else (if (r35=3)∨((r35=4)∨(r35=5)) then ((idx r47.1.n 0).bind fun p75=>some ((⟨r35,0,0,p75,0,0,0,(⟨0,noB,noB,Ae,0,noB,AZ,(⟨0,Ae,noB,noB,0,(⟨Ae,0,noB,[],0⟩:AB),[],[]⟩:AL)⟩:AV)⟩:Au),true)) else (if r35=6 then ((idx r47.1.n 0).bind fun p82=>(idx r47.1.n 1).bind fun p87=>(idx r47.1.n 2).bind fun p92=>some ((⟨r35,0,0,0,p82,p87,p92,(⟨0,noB,noB,Ae,0,noB,AZ,(⟨0,Ae,noB,noB,0,(⟨Ae,0,noB,[],0⟩:AB),[],[]⟩:AL)⟩:AV)⟩:Au),true)) else (if (r35=7)∨(r35=8) then ((idx r47.1.n 0).bind fun p100=>(idx r47.1.n 1).bind fun p105=>some ((⟨r35,p100,0,p105,0,0,0,(⟨0,noB,noB,Ae,0,noB,AZ,(⟨0,Ae,noB,noB,0,(⟨Ae,0,noB,[],0⟩:AB),[],[]⟩:AL)⟩:AV)⟩:Au),true)) else (if r35=9 then ((idx r47.1.n 0).bind fun p112=>some ((⟨r35,p112,0,0,0,0,0,(⟨0,noB,noB,Ae,0,noB,AZ,(⟨0,Ae,noB,noB,0,(⟨Ae,0,noB,[],0⟩:AB),[],[]⟩:AL)⟩:AV)⟩:Au),true)) else (some ((⟨r35,0,0,0,0,0,0,(⟨0,noB,noB,Ae,0,noB,AZ,(⟨0,Ae,noB,noB,0,(⟨Ae,0,noB,[],0⟩:AB),[],[]⟩:AL)⟩:AV)⟩:Au),true))))))))))
noncomputable def Ov (a:Au)(b:Au):Option Bool:=if a.kind=b.kind then (if a.who=b.who then (if a.to_=b.to_ then (if a.n=b.n then (if a.re=b.re then (if a.im=b.im then (if a.off=b.off then (if a.deed.kind=b.deed.kind then (if a.deed.cart=b.deed.cart then (if a.deed.item=b.deed.item then (if a.deed.at_=b.deed.at_ then (if a.deed.n=b.deed.n then (if a.deed.text=b.deed.text then (if a.deed.tag=b.deed.tag then (grd (okX a.deed.lens) (some (decide (a.deed.lens=b.deed.lens)))) else (some false)) else (some false)) else (some false)) else (some false)) else (some false)) else (some false)) else (some false)) else (some false)) else (some false)) else (some false)) else (some false)) else (some false)) else (some false)) else (some false)
end Go.Vm
end
section
namespace Go.Vm
open Go.Proofs Go.Proofs.YtdfbohaohjaloaaGreatDoor Punnet.Name Punnet.Num
noncomputable def Kw (s0:ByteArray):ByteArray:=if ¬(((NF s0).2:Int)=0) then ((⟨#[63]⟩:ByteArray)) else (((NF s0).1))
noncomputable def KG (s0:ByteArray):ByteArray:=if s0=noB then ((⟨#[45]⟩:ByteArray)) else (s0)
noncomputable def EU (x:AL):Option (List ByteArray):=(CZ Df x.kind).bind fun r7=>if (x.kind=1)∨(x.kind=5) then ((BD [r7,(if Bz x.at_=true then BF x.at_ else ⟨#[63]⟩)] [x.name]).bind fun z21=>some z21) else (if x.kind=6 then (grd (BX x.factor) ((BD [r7,(if Bz x.at_=true then BF x.at_ else ⟨#[63]⟩)] [x.name,x.other,(DY x.factor)]).bind fun z33=>some z33)) else (if x.kind=7 then ((BD [r7,(if Bz x.at_=true then BF x.at_ else ⟨#[63]⟩)] [(Kw x.other)]).bind fun z41=>some z41) else (if x.kind=2 then ((CZ D6 x.field.kind).bind fun r48=>if x.field.kind=1 then (grd (BX x.field.worth) ((BD [r48,(if Bz x.field.at_=true then BF x.field.at_ else ⟨#[63]⟩)] [(DY x.field.worth)]).bind fun z65=>some z65)) else (if x.field.kind=2 then ((BD [r48,(if Bz x.field.at_=true then BF x.field.at_ else ⟨#[63]⟩)] [(Kw x.field.deft)]).bind fun z74=>some z74) else (some [r48,(if Bz x.field.at_=true then BF x.field.at_ else ⟨#[63]⟩)]))) else (some [r7,(if Bz x.at_=true then BF x.at_ else ⟨#[63]⟩)]))))
noncomputable def Gj (who:Int)(d:AV):Option (List ByteArray):=(CZ BI d.kind).bind fun r9=>grd (BX who) (if d.kind=8 then (grd (G7 d.tag) ((BD [r9,(DY who)] [(EJ d.tag)]).bind fun z22=>(EU d.lens).bind fun r25=>(BD z22 r25).bind fun z26=>some z26)) else (if d.kind=9 then (grd (G7 d.tag) ((BD [r9,(DY who)] [(EJ d.tag)]).bind fun z34=>some z34)) else ((BD [r9,(DY who)] [d.cart]).bind fun z39=>if (d.kind=1)∨(d.kind=2) then ((BD z39 [(KG d.item)]).bind fun z50=>some z50) else (if d.kind=3 then (grd (BX d.n) ((BD z39 [(KG d.item),(if Bz d.at_=true then BF d.at_ else ⟨#[63]⟩),(DY d.n)]).bind fun z64=>some z64)) else (if (d.kind=4)∨((d.kind=5)∨(d.kind=6)) then ((BD z39 [(KG d.item),(if Bz d.at_=true then BF d.at_ else ⟨#[63]⟩),(Kw d.text)]).bind fun z80=>some z80) else (if (d.kind=11)∨(d.kind=12) then (grd (G7 d.tag) ((BD z39 [(EJ d.tag)]).bind fun z89=>some z89)) else (some z39)))))))
noncomputable def CQ : List Int→(List ByteArray)→Option (List ByteArray)
 | [],v3l1=>some ((v3l1))
 |xl1::ll1,v3l1=>grd (BX xl1) ((BD v3l1 [(DY xl1)]).bind fun z69=>CQ ll1 z69)
noncomputable def Ej (r18:ByteArray)(j4k1:(List Int)):Option (List ByteArray):=grd (j4k1.length≤1000000000) ((CQ j4k1 [r18]).bind fun w3l1=>some w3l1)
noncomputable def Cc (m:Au):Option (List ByteArray):=if m.kind=1 then ((Gj m.who m.deed).bind fun r14=>some r14) else ((CZ CW m.kind).bind fun r18=>if (m.kind=2)∨(m.kind=10) then (Ej r18 [m.who,m.to_]) else (if (m.kind=3)∨((m.kind=4)∨(m.kind=5)) then (Ej r18 [m.n]) else (if m.kind=6 then (Ej r18 [m.re,m.im,m.off]) else (if (m.kind=7)∨(m.kind=8) then (Ej r18 [m.who,m.n]) else (if m.kind=9 then (Ej r18 [m.who]) else (Ej r18 []))))))
noncomputable def Oj (a:Au)(b:Au):Option Bool:=if a.kind=b.kind then (if a.who=b.who then (if a.to_=b.to_ then (if a.n=b.n then (if a.re=b.re then (if a.im=b.im then (if a.off=b.off then (if a.deed.kind=b.deed.kind then (if a.deed.cart=b.deed.cart then (if a.deed.item=b.deed.item then (if a.deed.at_=b.deed.at_ then (if a.deed.n=b.deed.n then (if a.deed.text=b.deed.text then (if a.deed.tag=b.deed.tag then (if a.deed.lens.kind=b.deed.lens.kind then (if a.deed.lens.at_=b.deed.lens.at_ then (if a.deed.lens.name=b.deed.lens.name then (if a.deed.lens.other=b.deed.lens.other then (if a.deed.lens.factor=b.deed.lens.factor then (grd (a.deed.lens.field.cases.length≤1000000) (if a.deed.lens.field=b.deed.lens.field then (grd (a.deed.lens.forth.length≤1000000) (if a.deed.lens.forth=b.deed.lens.forth then (grd (a.deed.lens.back.length≤1000000) (some (decide (a.deed.lens.back=b.deed.lens.back)))) else (some false))) else (some false))) else (some false)) else (some false)) else (some false)) else (some false)) else (some false)) else (some false)) else (some false)) else (some false)) else (some false)) else (some false)) else (some false)) else (some false)) else (some false)) else (some false)) else (some false)) else (some false)) else (some false)) else (some false)) else (some false)
noncomputable def QJ (m:Au):Option (ByteArray×Int):=(Cc m).bind fun r8=>grd (r8.length≤1000000) (grd ((Gp 32 r8).size≤100000000) ((BO (Gp 32 r8)).bind fun r12=>if ¬(r12.2=0) then (some (noB,5)) else ((Oj m r12.1).bind fun r20=>if ¬(r20=true) then (some (noB,5)) else (some ((Gp 32 r8),0)))))
end Go.Vm
end
section
namespace Go.Vm
open Go.Proofs Go.Proofs.YtdfbohaohjaloaaGreatDoor Punnet.Name Punnet.Num
noncomputable def OQ (d:AV):Bool:=(decide (((((200<((d.cart.size:Nat):Int))∨(200<((d.item.size:Nat):Int)))∨(200<((d.at_.group.size:Nat):Int)))∨(200<((d.at_.name.size:Nat):Int)))∨(200<((d.text.size:Nat):Int))))
noncomputable def NT : List ByteArray→Option (Sum Bool Unit)
 | []=>some (.inr (()))
 |xl1::ll1=>if 200<((xl1.size:Nat):Int) then (some (.inl (true))) else (NT ll1 )
noncomputable def QR (f:AB):Option Bool:=if (((200<((f.at_.group.size:Nat):Int))∨(200<((f.at_.name.size:Nat):Int)))∨(200<((f.deft.size:Nat):Int)))∨(20<((f.cases.length:Nat):Int)) then (some true) else (grd (f.cases.length≤1000000000) ((NT f.cases).bind fun m_=>match m_ with | .inl rl1=>some rl1 | .inr _=>some false))
noncomputable def MN : List (ByteArray×ByteArray)→Option (Sum Bool Unit)
 | []=>some (.inr (()))
 |xl1::ll1=>if 200<((xl1.1.size:Nat):Int) then (some (.inl (true))) else (if 200<((xl1.2.size:Nat):Int) then (some (.inl (true))) else (MN ll1 ))
noncomputable def OV (l:(List (ByteArray×ByteArray))):Option Bool:=if 20<((l.length:Nat):Int) then (some true) else (grd (l.length≤1000000000) ((MN l).bind fun m_=>match m_ with | .inl rl1=>some rl1 | .inr _=>some false))
noncomputable def Qj (x:AL):Option Bool:=if 200<((x.at_.group.size:Nat):Int) then (some true) else (if 200<((x.at_.name.size:Nat):Int) then (some true) else (if 200<((x.name.size:Nat):Int) then (some true) else (if 200<((x.other.size:Nat):Int) then (some true) else ((QR x.field).bind fun r30=>if r30=true then (some true) else ((OV x.forth).bind fun r35=>if r35=true then (some true) else ((OV x.back).bind fun r40=>some r40))))))
noncomputable def Uy (m:Au):Option Bool:=if ¬((true)=true) then (some false) else (if (OQ m.deed)=true then (some true) else ((Qj m.deed.lens).bind fun r18=>if r18=true then (some true) else ((QJ m).bind fun r22=>if ¬(r22.2=0) then (some (decide ((r22.2=5)∧(r22.1=noB)))) else ((BO r22.1).bind fun r35=>(BM r22.1).bind fun r40=>if r35.2=0 then (if r40.2=true then ((Ov r35.1 m).bind fun r51=>if r51=true then ((Ov r40.1 m).bind fun r56=>some r56) else (some false)) else (some false)) else (some false)))))
end Go.Vm
end
section
namespace Go.Vm
open Go.Proofs Go.Proofs.YtdfbohaohjaloaaGreatDoor Punnet.Name Punnet.Num
end Go.Vm
end
section
namespace Go.Vm
open Go.RowKit
def RV:List (Nat×Nat×Nat)→Tr→(Tr→Prop)→Prop
 | [],t,K=>K t
 |q::l,t,K=>RV l t fun t=>AQ 20 t q.2.1 (.gbox q.2.2 []) K
theorem Xv:∀{ps:List (Nat×Nat×Nat)} {t:Tr} {K:Tr→Prop},RV ps t K→∃t',(∀u,t'.get u=match ps.find? fun q=>q.2.1==u with
 |some q=>.gbox q.2.2 []
 |none=>t.get u)∧K t'
 | [],t,K,h=>⟨t,fun _=>rfl,h⟩
 |q::l,t,K,h=>by
  obtain ⟨t1,h1,h2⟩:=Xv (ps:=l) h
  obtain ⟨t2,h3,h4⟩:=Bh h2
  refine ⟨t2,fun u=>?_,h4⟩
  rw [h3,h1,List.find?_cons]
  by_cases e:u=q.2.1
  ·subst e;simp
  ·have:(q.2.1==u)=false:=by simpa using fun e2=>e e2.symm
   simp [this,e]
section
variable {P:Program} {N:Nat} {t:Tr} {h:Hp} {o:Oper}
theorem Ame {T d:Nat}{zs:List D}(ps:List (Nat×Nat×Nat)){K:Tr→Hp→Prop}(hz:zeroOf P T=some zs)(hps:∀q∈ps,zs[q.1]? = some (.row [])∧BIG≤q.2.1∧0<q.2.2)(hlo:∀q∈ps,q.2.1<NAM)
 (hk:Gl (PW d) t fun t1=>AQ 20 t1 d (.ubox (MP zs ps)) fun t2=>RV ps t2 fun t3=>K t3 h)
 (hop:o.op=.alloc T:=by rfl) (hd:o.dst=some d:=by rfl) (hdN:d<N:=by exact Nat.le_of_ble_eq_true rfl) (hNB:N≤BIG:=by exact Nat.le_of_ble_eq_true rfl) :
 FZ P N o (Af t h) fun e=>∃(t':Tr) (h':Hp),e=Af t' h'∧K t' h':=by
 refine NH ?_
 have hdB:d<BIG:=Nat.lt_of_lt_of_le hdN hNB
 obtain ⟨t1,k1,hk⟩:=II (f:=JZ d) rfl Vo hk
 obtain ⟨t2,k2,hk⟩:=Bh hk
 obtain ⟨t3,k3,hk⟩:=Xv hk
 refine ⟨t3,h,?_,hk⟩
 have e:Af t3 h=JI ps (upd (Gz (Af t h) d zs) (some d) (.ubox (MP zs ps))):=by
  funext u
  unfold JI
  by_cases hu:u<NAM
  ·rw [CE hu,k3]
   cases hf:ps.find? fun q=>q.2.1==u with
   |some q=>rfl
   |none=>
    simp only
    rw [k2,k1]
    simp only [upd,Gz]
    by_cases ed:u=d
    ·simp [ed]
    ·simp only [if_neg ed];rw [CE hu]
  ·have hf:(ps.find? fun q=>q.2.1==u)=none:=by
    rw [List.find?_eq_none]
    intro q hq
    have:=hlo q hq
    simp only [beq_iff_eq];omega
   rw [hf]
   have hne:¬u=d:=by have:=nam hdB;omega
   simp only [upd,Gz,if_neg hne]
   simp only [Af,if_neg hu]
   exact (AcA _).symm
 rw [e]
 exact Apt hop hz hps hd hdN hdB
theorem Afv {T d:Nat}{parts:Array (Nat×Operand)}{zs:List D}{ps:List (Nat×Nat)}(us:List (Nat×Nat×Nat)){K:Tr→Hp→Prop}(hi:Be P T (.agg ps zs))(hus:∀q∈us,zs[q.1]? = some (.row [])∧BIG≤q.2.1∧0<q.2.2)(hlo:∀q∈us,q.2.1<NAM)
 (hk:Qo t ps parts.toList (MP zs us) fun cs=>AQ 20 t d (.uagg cs) fun t2=>RV us t2 fun t3=>K t3 h)
 (hop:o.op=.build T parts:=by rfl) (hd:o.dst=some d:=by rfl) (hdN:d<N:=by exact Nat.le_of_ble_eq_true rfl) (hNB:N≤BIG:=by exact Nat.le_of_ble_eq_true rfl) :
 FZ P N o (Af t h) fun e=>∃(t':Tr) (h':Hp),e=Af t' h'∧K t' h':=by
 refine NH ?_
 have hdB:d<BIG:=Nat.lt_of_lt_of_le hdN hNB
 obtain ⟨ds,cs,h1,h2,hk⟩:=Yq (h:=h) hk
 obtain ⟨t2,k2,hk⟩:=Bh hk
 obtain ⟨t3,k3,hk⟩:=Xv hk
 refine ⟨t3,h,?_,hk⟩
 have e:Af t3 h=JI us (upd (Af t h) (some d) (.uagg cs)):=by
  funext u
  unfold JI
  by_cases hu:u<NAM
  ·rw [CE hu,k3]
   cases hf:us.find? fun q=>q.2.1==u with
   |some q=>rfl
   |none=>
    simp only
    rw [k2]
    simp only [upd]
    by_cases ed:u=d
    ·simp [ed]
    ·simp only [if_neg ed];rw [CE hu]
  ·have hf:(us.find? fun q=>q.2.1==u)=none:=by
    rw [List.find?_eq_none]
    intro q hq
    have:=hlo q hq
    simp only [beq_iff_eq];omega
   rw [hf]
   have hne:¬u=d:=by have:=nam hdB;omega
   simp only [upd,if_neg hne]
   simp only [Af,if_neg hu]
 rw [e]
 obtain ⟨_,hp,hz⟩:=hi
 unfold placesOf at hp
 split at hp
 ·rename_i fields hT
  exact Ake hop hT hp hz hus h1 h2 hd hdN
 ·cases hp
end
end Go.Vm
end
section
namespace Go.Vm
open Go.RowKit
theorem AsK {ro:Aq}{w:World}{vs:List Value}(h:vs.all (fun v=>v.oneCell'&&BN v)=true):AX ro w vs (vs.map .sc):=by
 have h1:∀v∈vs,v.oneCell'=true∧BN v=true:=fun v hv=>by simpa using List.all_eq_true.1 h v hv
 refine ⟨by simp,fun u hu=>(h1 u hu).1,fun j u c hu hc=>?_⟩
 rw [List.getElem?_map,hu] at hc
 simp only [Option.map_some,Option.some.injEq] at hc
 subst hc
 exact .sc (h1 u (List.mem_of_getElem? hu)).2
theorem AoF {ro:Aq}{w:World}{v:Value}{cs:List D}(h:Rep ro w v (.agg cs)):∃arr:Array Value,v=.agg arr∧AX ro w arr.toList cs:=by
 generalize hd:D.agg cs=d at h
 cases h with
 |agg hl h1 h2=>injection hd with hd;subst hd;exact ⟨_,rfl,by simpa using hl,h1,h2⟩
 |_=>cases hd
section
variable {P:Program} {N:Nat} {o:Oper} {env:Env}
theorem AdV {T:TypeId}{g:Nat}{cs:List Value}{sh:Bool×Nat}{r:D}(hop:o.op=.load T (.global g))(hg:I9 g=some cs)(ho:cs.all (fun v=>v.oneCell'&&BN v)=true)(hsh:Bl P T=some sh)(hp:Eo sh (cs.map .sc) 0=some r){d:Nat}(hdst:o.dst=some d)(hd:d<N):Cf P N o env (.c (.d r)):=by
 refine DF hdst hd fun env' he base w0 ro0 ro blk a w hsim=>?_
 obtain ⟨h1,h2,h3⟩:=hsim.AbF g cs hg
 obtain ⟨v,h5,h6⟩:=O5 (P:=P) (b:=g) (o:=0) (off:=0) hsh (AsK (ro:=ro) (w:=w) ho) (fun j u hu=>by rw [Nat.zero_add];exact h3 j u hu) hp
 refine ⟨v,w,ro,?_,Grow.refl hsim.new,h6⟩
 rw [Nat.zero_add] at h5
 have e:a.eval (.global g)=.pointer (some ⟨g,0,none⟩):=rfl
 simp only [execOp,hop,Instr.loadAt,e,Instr.sureAddr,Sem.run_bind,Sem.run_pure,Result.andThen_ok,h5]
theorem Ai2 {T e:TypeId}{x ix:Operand}{k:IntKind}{i:Int}{n:Nat}{cs:List D}{r:D}(hop:o.op=.index T x ix)(hx:vd env x=some (.agg cs))(hi:vd env ix=some (.sc (.int k i)))(hT:P.underlying T=some (.array n e))(he:Bl P e=some (false,1))(h0:0≤i)(hn:i<n)(hp:cs[i.toNat]? = some r){d:Nat}(hdst:o.dst=some d)(hd:d<N):Cf P N o env (.c (.d r)):=by
 refine DF hdst hd fun env' he' base w0 ro0 ro blk a w hsim=>?_
 have h1:Rep ro w (a.eval x) (.agg cs):=hsim.getD (x:=x) (by rw [he'.getD (by simp [hop,Op.operands])];exact hx)
 have h3:=(EL (hsim.getD (x:=ix) (by rw [he'.getD (by simp [hop,Op.operands])];exact hi))).1
 obtain ⟨arr,h2,h4⟩:=AoF h1
 have hlt:i.toNat<arr.toList.length:=by rw [h4.1];exact (List.getElem?_eq_some_iff.1 hp).1
 obtain ⟨u,hu⟩:∃u,arr.toList[i.toNat]? = some u:=⟨_,List.getElem?_eq_getElem hlt⟩
 have h5:=h4.2.2 _ u _ hu hp
 refine ⟨u,w,ro,?_,Grow.refl hsim.new,h5⟩
 obtain ⟨inf,dd,k1,k2,k3,k4⟩:=GL he
 have hagg:=Lm (w:=w) k2
 rw [k3] at hagg
 have hu':arr[i.toNat]? = some u:=by simpa using hu
 simp [execOp,hop,h2,h3,Instr.index,run_underlying hT,asAgg,part,Sem.run_bind,hagg,hu',asIntOf,sizeOf,typeInfo,k1,k4,h0,hn]
theorem Asv {T e:TypeId}{x ix:Operand}{k:IntKind}{i:Int}{n t off m:Nat}(hop:o.op=.indexAddr T x ix)(hx:Ap env x=.ref t off)(hi:vd env ix=some (.sc (.int k i)))(hT:P.underlying T=some (.array n e))(he:Bl P e=some (false,1))(h0:0≤i)(hn:i<n)(hm:off+i.toNat=m){d:Nat}(hdst:o.dst=some d)(hd:d<N):Cf P N o env (.ref t m):=by
 subst hm
 refine DF hdst hd fun env' he' base w0 ro0 ro blk a w hsim=>?_
 have h1:=hsim.get x 0
 rw [he'.get (by simp [hop,Op.operands]),hx] at h1
 have h3:=(EL (hsim.getD (x:=ix) (by rw [he'.getD (by simp [hop,Op.operands])];exact hi))).1
 obtain ⟨inf,dd,k1,k2,k3,k4⟩:=GL he
 refine ⟨_,w,ro,?_,Grow.refl hsim.new,rfl⟩
 simp [execOp,hop,show a.eval x=_ from h1,h3,Instr.indexAt,Instr.sureAddr,run_underlying hT,Sem.run_bind,asIntOf,sizeOf,typeInfo,k1,k4,h0,hn,Addr.add,Result.andThen]
end
section
variable {P:Program} {N:Nat} {t:Tr} {h:Hp} {o:Oper}
theorem OB {T:TypeId}{g d:Nat}{cs:List Value}{sh:Bool×Nat}{r:D}{K:S→Hp→Prop}(hK:K (.c (.d r)) h)(hg:I9 g=some cs)(ho:cs.all (fun v=>v.oneCell'&&BN v)=true)(hsh:Bl P T=some sh)(hp:Eo sh (cs.map .sc) 0=some r)
 (hop:o.op=.load T (.global g):=by rfl) (hd:o.dst=some d:=by rfl) (hdN:d<N:=by exact Nat.le_of_ble_eq_true rfl) :
 ∃(s:S) (h':Hp),Step P N o (Af t h) (upd (Af t h') (some d) s)∧K s h':=
 TQ (AdV hop hg ho hsh hp hd hdN) hK hd
theorem Y7 {ops:Array Oper}{fb:List Nat}{T:TypeId}{g d:Nat}{cs:List Value}{sh:Bool×Nat}{r:D}{K:S→Prop}(hK:K (.c (.d r)))(hg:I9 g=some cs)(ho:cs.all (fun v=>v.oneCell'&&BN v)=true)(hsh:Bl P T=some sh)(hp:Eo sh (cs.map .sc) 0=some r)
 (hop:o.op=.load T (.global g):=by rfl) (hd:o.dst=some d:=by rfl) (hdN:d<N:=by exact Nat.le_of_ble_eq_true rfl) (hNB:N≤BIG:=by exact Nat.le_of_ble_eq_true rfl) (hgd:D7 ops o (Af t h)=some true:=by rfl) (hcl:Nat.beq (FT fb o) 0=false:=by rfl) :
 ∃s,DG P N fb ops o (Af t h) (.slot (some d) s)∧K s:=
 ⟨_,AuY (Cf.all (AdV hop hg ho hsh hp hd hdN)) hd hdN hNB hgd rfl rfl (by unfold Jb addrOf;rw [hop];rfl) hcl,hK⟩
theorem Auz {T e:TypeId}{x ix:Operand}{k:IntKind}{i:Int}{n d:Nat}{cs:List D}{r:D}{K:S→Hp→Prop}(hK:K (.c (.d r)) h)(hT:P.underlying T=some (.array n e))(he:Bl P e=some (false,1))(h0:0≤i)(hp:cs[i.toNat]? = some r)(hl:cs.length=n:=by rfl)
 (hop:o.op=.index T x ix:=by rfl) (hx:vd (Af t h) x=some (.agg cs):=by rfl) (hi:vd (Af t h) ix=some (.sc (.int k i)):=by rfl) (hd:o.dst=some d:=by rfl) (hdN:d<N:=by exact Nat.le_of_ble_eq_true rfl) :
 ∃(s:S) (h':Hp),Step P N o (Af t h) (upd (Af t h') (some d) s)∧K s h':=
 TQ (Ai2 hop hx hi hT he h0 (by have:=(List.getElem?_eq_some_iff.1 hp).1;omega) hp hd hdN) hK hd
theorem Alh {T e:TypeId}{x ix:Operand}{k:IntKind}{i:Int}{n u off d:Nat}{K:S→Hp→Prop}(hK:K (.ref u (off+i.toNat)) h)(hT:P.underlying T=some (.array n e))(he:Bl P e=some (false,1))(h0:0≤i)(hn:i<n)
 (hop:o.op=.indexAddr T x ix:=by rfl) (hx:Ap (Af t h) x=.ref u off:=by rfl) (hi:vd (Af t h) ix=some (.sc (.int k i)):=by rfl) (hd:o.dst=some d:=by rfl) (hdN:d<N:=by exact Nat.le_of_ble_eq_true rfl) :
 ∃(s:S) (h':Hp),Step P N o (Af t h) (upd (Af t h') (some d) s)∧K s h':=
 TQ (Asv hop hx hi hT he h0 hn rfl hd hdN) hK hd
theorem Apa {T:TypeId}{x:Operand}{u off d:Nat}{cs:List D}{r:D}{K:S→Hp→Prop}(hK:K (.c (.d r)) h)(hsh:Bl P T=some (false,1))(hp:cs[off]? = some r)
 (hop:o.op=.load T x:=by rfl) (hx:Ap (Af t h) x=.ref u off:=by rfl) (hb:Af t h u=.box cs:=by rfl) (hd:o.dst=some d:=by rfl) (hdN:d<N:=by exact Nat.le_of_ble_eq_true rfl) :
 ∃(s:S) (h':Hp),Step P N o (Af t h) (upd (Af t h') (some d) s)∧K s h':=
 TQ (VQ hop hx hb hsh (by simpa [Eo] using hp) hd hdN) hK hd
end
end Go.Vm
end
section
namespace Go.Vm
open Go.RowKit
mutual
def D.no (t:Nat):D→Bool
 | .sc _=>true
 | .agg cs=>D.noL t cs
 | .row xs=>D.noL t xs
 | .ptr id _=>!Nat.beq id t
 | .mp id=>!Nat.beq id t
 | .fn _ cs=>D.noL t cs
 | .rr _ _ _=>true
 | .stale=>true
def D.noL (t:Nat):List D→Bool
 | []=>true
 |c::cs=>D.no t c&&D.noL t cs
end
theorem Aek {id t:Nat}(h:¬id=t):(!Nat.beq id t)=true:=by
 cases e:Nat.beq id t with
 |true=>exact absurd (Nat.eq_of_beq_eq_true e) h
 |false=>rfl
theorem Aee {id t:Nat}(h:(!Nat.beq id t)=true):¬id=t:=by
 rintro rfl;rw [Nat.beq_refl] at h;cases h
mutual
theorem D.MG:∀d:D,∃M,∀t,M≤t→D.no t d=true
 | .sc _=>⟨0,fun _ _=>by rw [D.no]⟩
 | .agg cs=>by obtain ⟨M,h⟩:=D.LC cs;exact ⟨M,fun t ht=>by rw [D.no];exact h t ht⟩
 | .row cs=>by obtain ⟨M,h⟩:=D.LC cs;exact ⟨M,fun t ht=>by rw [D.no];exact h t ht⟩
 | .ptr id _=>⟨id+1,fun t ht=>by rw [D.no];exact Aek (by omega)⟩
 | .mp id=>⟨id+1,fun t ht=>by rw [D.no];exact Aek (by omega)⟩
 | .fn _ cs=>by obtain ⟨M,h⟩:=D.LC cs;exact ⟨M,fun t ht=>by rw [D.no];exact h t ht⟩
 | .rr _ _ _=>⟨0,fun _ _=>by rw [D.no]⟩
 | .stale=>⟨0,fun _ _=>by rw [D.no]⟩
theorem D.LC:∀l:List D,∃M,∀t,M≤t→D.noL t l=true
 | []=>⟨0,fun _ _=>by rw [D.noL]⟩
 |c::cs=>by
  obtain ⟨M,h⟩:=D.MG c
  obtain ⟨M',h'⟩:=D.LC cs
  exact ⟨max M M',fun t ht=>by rw [D.noL,h t (by omega),h' t (by omega)];rfl⟩
end
theorem D.MO {t:Nat}:∀{l:List D},D.noL t l=true→∀c∈l,D.no t c=true
 | [],_,c,hc=>by cases hc
 |a::l,h,c,hc=>by
  rw [D.noL,Bool.and_eq_true] at h
  rcases List.mem_cons.1 hc with rfl|hc
  ·exact h.1
  ·exact D.MO h.2 c hc
theorem D.AlU {t:Nat}{d:D}(h:D.no t d=true):∀c∈d.cells,D.no t c=true:=by
 cases d with
 |agg cs=>rw [D.no] at h;exact D.MO h
 |_=>intro c hc;rw [List.mem_singleton.1 hc];exact h
theorem D.Ve {t:Nat}{xs:List D}(h:D.noL t xs=true):∀c∈flat xs,D.no t c=true:=by
 intro c hc
 obtain ⟨x,hx,hc⟩:=List.mem_flatMap.1 hc
 exact D.AlU (D.MO h x hx) c hc
def C.no (t:Nat):C→Bool
 | .d x=>D.no t x
 | .own _ _ xs=>D.noL t xs
 | .nil=>true
theorem C.MG:∀c:C,∃M,∀t,M≤t→C.no t c=true
 | .d x=>D.MG x
 | .own _ _ xs=>D.LC xs
 | .nil=>⟨0,fun _ _=>rfl⟩
theorem C.AtF {t τ:Nat}{c:C}:C.no t (Ew τ c)=C.no t c:=by cases c<;>rfl
theorem OZ {α:Type}{p:Nat→α→Prop}(h:∀a,∃M,∀t,M≤t→p t a):∀l:List α,∃M,∀t,M≤t→∀a∈l,p t a
 | []=>⟨0,fun _ _ a ha=>by cases ha⟩
 |a::l=>by
  obtain ⟨M,h1⟩:=h a
  obtain ⟨M',h2⟩:=OZ h l
  refine ⟨max M M',fun t ht b hb=>?_⟩
  rcases List.mem_cons.1 hb with rfl|hb
  ·exact h1 t (by omega)
  ·exact h2 t (by omega) b hb
def S.no (t:Nat):S→Prop
 | .obj cs=>D.noL t cs=true
 | .mapo es=>∀p∈es,D.no t p.1=true∧D.no t p.2=true
 | .pack cs rows=>D.noL t cs=true∧∀r∈rows,D.noL t r.2.2=true
 |_=>True
theorem S.MG:∀s:S,∃M,∀t,M≤t→S.no t s:=by
 intro s
 cases s with
 |obj cs=>exact D.LC cs
 |mapo es=>
  exact OZ (p:=fun t p=>D.no t p.1=true∧D.no t p.2=true) (fun a=>by
   obtain ⟨M,h⟩:=D.MG a.1
   obtain ⟨M',h'⟩:=D.MG a.2
   exact ⟨max M M',fun t ht=>⟨h t (by omega),h' t (by omega)⟩⟩) es
 |pack cs rows=>
  obtain ⟨M,h⟩:=D.LC cs
  obtain ⟨M',h'⟩:=OZ (p:=fun t (r:Nat×Nat×List D)=>D.noL t r.2.2=true) (fun r=>D.LC r.2.2) rows
  exact ⟨max M M',fun t ht=>⟨h t (by omega),h' t (by omega)⟩⟩
 |_=>exact ⟨0,fun _ _=>trivial⟩
def cover (t:Nat)(ro:Aq):Aq:=fun b=>match ro b with
 | .obj id k=>if id=t then .frozen else .obj id k
 | .priv id=>if id=t then .frozen else .priv id
 |r=>r
variable {ro ro':Aq} {t:Nat} {b:Nat} {P:Program} {w w':World} {v:Value} {base:Nat}
theorem QX {id:Nat}{k:Bool}(h:ro b=.obj id k)(hn:¬id=t):cover t ro b=.obj id k:=by unfold cover;rw [h];exact if_neg hn
theorem AdB {id:Nat}(h:ro b=.priv id)(hn:¬id=t):cover t ro b=.priv id:=by unfold cover;rw [h];exact if_neg hn
theorem Q7 {id:Nat}{k:Bool}(h:cover t ro b=.obj id k):ro b=.obj id k∧¬id=t:=by
 unfold cover at h
 split at h
 ·rename_i id' k' e
  split at h
  ·cases h
  ·rename_i hne;injection h with h1 h2;subst h1;subst h2;exact ⟨e,hne⟩
 ·split at h<;>cases h
 ·rename_i h1 h2;exact absurd h (h1 id k)
theorem AqK {id:Nat}(h:cover t ro b=.priv id):ro b=.priv id∧¬id=t:=by
 unfold cover at h
 split at h
 ·split at h<;>cases h
 ·rename_i id' e
  split at h
  ·cases h
  ·rename_i hne;injection h with h1;subst h1;exact ⟨e,hne⟩
 ·rename_i h1 h2;exact absurd h (h2 id)
theorem Y0 {τ n:Nat}(h:ro b=.row τ n):cover t ro b=.row τ n:=by unfold cover;rw [h]
theorem Ab8 (h:ro b=.frozen):cover t ro b=.frozen:=by unfold cover;rw [h]
theorem As7 {off:Nat}(h:DD ro b off):DD (cover t ro) b off:=by
 unfold DD at *
 cases hr:ro b with
 |frozen=>rw [Ab8 hr];trivial
 |row τ n=>rw [hr] at h;rw [Y0 hr];exact h
 |_=>rw [hr] at h;exact h.elim
theorem Aq1 (h1:∀id k,ro b=.obj id k→¬id=t)(h2:∀id,ro b=.priv id→¬id=t):cover t ro b=ro b:=by
 unfold cover
 cases hr:ro b with
 |obj id k=>exact if_neg (h1 id k hr)
 |priv id=>exact if_neg (h2 id hr)
 |_=>rfl
theorem Alu (h:Ws (ro b)=true):Ws (cover t ro b)=true:=by
 unfold cover
 cases hr:ro b with
 |obj id k=>rw [hr] at h;cases h
 |priv id=>dsimp only;split<;>rfl
 |_=>rw [hr] at h;exact h
theorem Rep.cover {d:D}(h:Rep ro w v d):D.no t d=true→Rep (cover t ro) w v d:=by
 induction h with
 |sc h=>intro _;exact .sc h
 |agg hl h1 _ ih=>
  intro hn;rw [D.no] at hn
  exact .agg hl h1 fun i u c hu hc=>ih i u c hu hc (D.MO hn c (List.mem_of_getElem? hc))
 |nil hm=>intro _;exact .nil hm
 |row us hsz hlen hm hus hw h1 hcell _ ih=>
  intro hn;rw [D.no] at hn
  exact .row us hsz hlen hm hus hw h1 (fun j u hj=>⟨(hcell j u hj).1,As7 (hcell j u hj).2⟩) fun j u c hu hc=>ih j u c hu hc (D.Ve hn c (List.mem_of_getElem? hc))
 |ptr hb h=>intro hn;rw [D.no] at hn;exact .ptr hb (QX h (Aee hn))
 |mp hb h=>intro hn;rw [D.no] at hn;exact .mp hb (QX h (Aee hn))
 |fn hl _ ih=>
  intro hn;rw [D.no] at hn
  exact .fn hl fun i u c hu hc=>ih i u c hu hc (D.MO hn c (List.mem_of_getElem? hc))
theorem AX.cover {us:List Value}{cs:List D}(h:AX ro w us cs)(hn:∀c∈cs,D.no t c=true):AX (cover t ro) w us cs:=
 ⟨h.1,h.2.1,fun j u c hu hc=>(h.2.2 j u c hu hc).cover (hn c (List.mem_of_getElem? hc))⟩
theorem CV.cover {c:C}(h:CV P base ro w v c)(hn:C.no t c=true):CV P base (cover t ro) w v c:=by
 cases c with
 |d x=>exact Rep.cover h hn
 |nil=>exact h
 |own τ e xs=>
  obtain ⟨sz,us,h1,h2,h3,h4,h5,h6⟩:=h
  exact ⟨sz,us,h1,h2,h3,h4,h5.cover (D.Ve hn),fun g hg=>Y0 (h6 g hg)⟩
theorem At4 {cs:List C}{blk:Nat→Nat}{u:Nat}(h:BB P base ro blk w u v (EN cs))(hn:∀c∈cs,C.no t c=true):BB P base (cover t ro) blk w u v (EN cs):=by
 match cs,h,hn with
 | [],h,hn=>
  obtain ⟨arr,h1,h2,h3⟩:=h
  exact ⟨arr,h1,h2,fun i u c hu hc=>by simp at hc⟩
 | [c],h,hn=>exact CV.cover h (hn c (List.mem_singleton.2 rfl))
 |c::c'::cs,h,hn=>
  obtain ⟨arr,h1,h2,h3⟩:=h
  exact ⟨arr,h1,h2,fun i u c hu hc=>(h3 i u c hu hc).cover (hn c (List.mem_of_getElem? hc))⟩
theorem GM.cover {id:Nat}{cs:List D}{rows:List (Nat×Nat×List D)}(h:GM ro w id cs rows)(hid:¬id=t)(h1:D.noL t cs=true)(h2:∀r∈rows,D.noL t r.2.2=true):GM (cover t ro) w id cs rows:=by
 obtain ⟨b,arr,e,bk,k1,k2,k3,k4,k5,k6⟩:=h
 have hsl:∀{b sz n u},DV (.priv id) ro w b sz n u→DV (.priv id) (Vm.cover t ro) w b sz n u:=fun hs=>hs.imp (fun x=>x) fun ⟨q1,q2⟩=>⟨AdB q1 hid,q2⟩
 refine ⟨b,arr,e,bk,QX k1 hid,k2,⟨k3.1,k3.2.1,fun j u c hu hc=>?_⟩,fun r hr=>?_,k5,fun r hr r' hr' q1 q2=>k6 r hr r' hr' (AqK q1).1 q2⟩
 ·have h3:=k3.2.2 j u c hu hc
  have h4:=D.MO h1 c (List.mem_of_getElem? hc)
  cases c with
  |rr i sz n=>exact ⟨h3.1,hsl h3.2⟩
  |stale=>trivial
  |_=>exact Rep.cover h3 h4
 ·obtain ⟨q1,q2,q3⟩:=k4 r hr
  refine ⟨q1,q2,q3.imp (fun x=>x) fun ⟨p1,arr,e,p2,p3,p4⟩=>⟨AdB p1 hid,arr,e,p2,p3,p4.cover (D.Ve (h2 r hr))⟩⟩
theorem Agr {id:Nat}{s:S}{blk:Nat→Nat}(hs:thing s=true)(hid:¬id=t)(h:BB P base ro blk w id v s)(hn:S.no t s):BB P base (cover t ro) blk w id v s:=by
 cases s with
 |obj cs=>
  obtain ⟨b,arr,e,h1,h2,h3⟩:=h
  exact ⟨b,arr,e,QX h1 hid,h2,h3.cover (D.MO hn)⟩
 |mapo es=>
  obtain ⟨b,ents,h1,h2⟩:=h
  exact ⟨b,ents,QX h1 hid,h2.heap,h2.len,h2.born,fun i e p he hp=>⟨(h2.rep i e p he hp).1.cover (hn p (List.mem_of_getElem? hp)).1,(h2.rep i e p he hp).2.cover (hn p (List.mem_of_getElem? hp)).2⟩⟩
 |pack cs rows=>exact GM.cover h hid hn.1 hn.2
 |free=>intro b k hb;exact h b k (Q7 hb).1
 |junk=>trivial
 |_=>cases hs
theorem Aaz:∀n:Nat,∃M,∀b,b<n→∀id,((∃k,ro b=.obj id k)∨ro b=.priv id)→id<M
 |0=>⟨0,fun b hb=>absurd hb (Nat.not_lt_zero b)⟩
 |n+1=>by
  obtain ⟨M,h⟩:=Aaz n
  obtain ⟨M',h'⟩:∃M',∀id,((∃k,ro n=.obj id k)∨ro n=.priv id)→id<M':=by
   cases hr:ro n with
   |obj id k=>exact ⟨id+1,fun id' h=>by rcases h with ⟨k',h⟩|h;(· injection h with h;omega);(· cases h)⟩
   |priv id=>exact ⟨id+1,fun id' h=>by rcases h with ⟨k',h⟩|h;(· cases h);(· injection h with h;omega)⟩
   |_=>exact ⟨0,fun id' h=>by rcases h with ⟨k',h⟩|h<;>cases h⟩
  refine ⟨max M M',fun b hb id hid=>?_⟩
  rcases Nat.lt_or_ge b n with k|k
  ·have:=h b k id hid;omega
  ·obtain rfl:b=n:=by omega
   have:=h' id hid;omega
theorem AgP {f:FuncId}{args:List D}{pre post:List (Nat×S)}{res:List C}(h:∀t,NAM≤t→(∀y,BL pre y=true→¬y=t)→FO P f args ((t,.free)::pre) res post)
 (hq:∀p∈post,thing p.2=true∧BL pre p.1=true:=by simp [thing,BL]):FO P f args pre res post:=by
 intro ro w vs τ hnew huniq hlen hrep hthings
 obtain ⟨M1,m1⟩:=Aaz (ro:=ro) w.heap.size
 obtain ⟨M2,m2⟩:=OZ (p:=fun t (q:Nat×S)=>q.1<t) (fun q=>⟨q.1+1,fun t ht=>by omega⟩) pre
 obtain ⟨M3,m3⟩:=OZ (p:=fun t (c:C)=>C.no t c=true) C.MG res
 obtain ⟨M4,m4⟩:=OZ (p:=fun t (q:Nat×S)=>S.no t q.2) (fun q=>S.MG q.2) post
 obtain ⟨t,ht0,ht1,ht2,ht3,ht4⟩:∃t,NAM≤t∧M1≤t∧M2≤t∧M3≤t∧M4≤t:=⟨max NAM (max M1 (max M2 (max M3 M4))),by omega,by omega,by omega,by omega,by omega⟩
 have hro:∀b id,((∃k,ro b=.obj id k)∨ro b=.priv id)→¬id=t:=by
  intro b id hb e
  rcases Nat.lt_or_ge b w.heap.size with k|k
  ·have:=m1 b k id hb;omega
  ·rw [hnew.new b k] at hb;rcases hb with ⟨_,hb⟩|hb<;>cases hb
 have hpre:∀y,BL pre y=true→¬y=t:=by
  intro y hy e
  obtain ⟨q,hq1,hq2⟩:=List.any_eq_true.1 hy
  have:=m2 t ht2 q hq1
  have:q.1=y:=by simpa using hq2
  omega
 have hin:∀{id},¬id=t→BL ((t,S.free)::pre) id=BL pre id:=by
  intro id hid
  have:(t==id)=false:=by simpa using fun e=>hid e.symm
  simp [BL,this]
 refine (h t ht0 hpre ro w vs τ hnew huniq hlen hrep fun p hp=>?_).mono ?_
 ·rcases List.mem_cons.1 hp with rfl|hp
  ·intro b k hb;exact hro b t (.inl ⟨k,hb⟩) rfl
  ·exact hthings p hp
 ·rintro e w' ⟨v,ro',rfl,hg,hs,hpo⟩
  refine ⟨v,cover t ro',rfl,⟨hg.os,hg.tape,hg.output,hg.size,fun b hb h1 h2=>hg.block b hb (fun id k e=>by rw [hin (hro b id (.inl ⟨k,e⟩))];exact h1 id k e) (fun id e=>by rw [hin (hro b id (.inr e))];exact h2 id e),fun b hb=>?_,fun b hb=>Ab8 (hg.new b hb),fun b id k hb e=>?_,fun b b' id k k' e e'=>hg.uniq b b' id k k' (Q7 e).1 (Q7 e').1⟩,At4 hs fun c hc=>?_,fun p hp=>?_⟩
  ·rcases hg.role b hb with e|⟨e1,e2⟩
   ·refine .inl ?_
    rw [Aq1 (fun id k q=>hro b id (.inl ⟨k,e▸q⟩)) (fun id q=>hro b id (.inr (e▸q))),e]
   ·refine .inr ⟨?_,Alu e2⟩
    cases hr:ro b with
    |priv id=>rw [hr] at e1;show BL pre id=true;rw [←hin (hro b id (.inr hr))];exact e1
    |_=>rw [hr] at e1;cases e1
  ·obtain ⟨q1,q2⟩:=Q7 e
   have:=hg.names b id k hb q1
   rwa [hin q2] at this
  ·obtain ⟨c',hc',rfl⟩:=List.mem_map.1 hc
   rw [C.AtF];exact m3 t ht3 c' hc'
  ·obtain ⟨q1,q2⟩:=hq p hp
   exact Agr q1 (hpre _ q2) (hpo p hp) (m4 t ht4 p hp)
theorem Alf {f:FuncId}{args:List D}{res:List C}(h:FO P f args [] res []):AP P f args res:=by
 intro ro w vs τ hnew huniq hlen hrep
 refine (h ro w vs τ hnew huniq hlen hrep (fun p hp=>by cases hp)).mono ?_
 rintro e w' ⟨v,ro',rfl,hg,hs,_⟩
 refine ⟨v,ro',rfl,⟨⟨hg.os,hg.tape,hg.output,hg.size,fun k hk=>hg.block k hk (fun _ _ _=>rfl) (fun _ _=>rfl)⟩,fun b hb=>?_,hg.new,fun b id k hb e=>?_⟩,hs⟩
 ·rcases hg.role b hb with e|⟨e1,_⟩
  ·exact e
  ·cases hr:ro b with
   |priv id=>rw [hr] at e1;cases e1
   |_=>rw [hr] at e1;cases e1
 ·have:=hg.names b id k hb e
  cases this
end Go.Vm
end
