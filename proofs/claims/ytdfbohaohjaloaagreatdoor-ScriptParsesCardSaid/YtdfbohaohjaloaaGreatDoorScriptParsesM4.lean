/- Part 4. -/
import GoSem.Op.String
import Derived.Shelf.Strings.OnBuilder
import Derived.Room.Shelf.Join48
import Derived.Shelf.Strings.Split
import Derived.Shelf.Strings.Search2
import Derived.Ground.NamesProg
import Derived.Test.YtdfbohaohjaloaaGreatDoorProg
import Derived.Lib.IndexBytes
import Derived.Test.YtdfbohaohjaloaaGreatDoorScriptParsesM3
set_option linter.unusedVariables false
set_option linter.unusedSimpArgs false
set_option maxHeartbeats 1000000
section
namespace Punnet.Num
set_option maxRecDepth 10000
def BH (m:Nat):List UInt8:=if m<10 then [UInt8.ofNat (48+m)] else BH (m / 10) ++ [UInt8.ofNat (48+m % 10)]
 termination_by m
 decreasing_by omega
theorem JF {m:Nat}(h:m<10):BH m= [UInt8.ofNat (48+m)]:=by rw [BH,if_pos h]
theorem NQ {m:Nat}(h:¬m<10):BH m=BH (m / 10) ++ [UInt8.ofNat (48+m % 10)]:=by rw [BH,if_neg h]
theorem MX (m:Nat):BH m≠[]:=by rw [BH];split<;>simp
def print (n:Int):List UInt8:=if n<0 then 45::BH n.natAbs else BH n.natAbs
def EZ (n:Int):ByteArray:=⟨(print n).toArray⟩
theorem WE (n:Int):(EZ n).data.toList=print n:=by simp [EZ]
theorem printB_size (n:Int):(EZ n).size=(print n).length:=by
 rw [←WE];simp
def dig (b:UInt8):Bool:=decide (48≤b.toNat∧b.toNat≤57)
def neg:List UInt8→Nat
 | b::_=>if b.toNat=45 then 1 else 0
 | []=>0
theorem neg_le (l:List UInt8):neg l≤l.length:=by
 cases l with
 | nil=>simp [neg]
 | cons b r=>simp only [neg,List.length_cons];split<;>omega
theorem VT (l:List UInt8):neg l≤1:=by
 cases l with
 | nil=>simp [neg]
 | cons b r=>simp only [neg];split<;>omega
def ED (l:List UInt8):Nat:=
 if ((l.drop (neg l)).takeWhile dig).length=0 then 0 else neg l+((l.drop (neg l)).takeWhile dig).length
def Gn (l:List UInt8)(k D E:Nat):Prop:=
 k≤l.length∧(k=0→D=0∧E=0)∧(0<k→D+neg l=k∧E=if D=0 then 0 else k)∧∀j (h:j<l.length),neg l≤j→j<k→dig l[j] = true
theorem Gn.start (l:List UInt8):Gn l 0 0 0:=⟨Nat.zero_le _,fun _=>⟨rfl,rfl⟩,fun h=>absurd h (by omega),fun _ _ _ h=>absurd h (by omega)⟩
theorem Gn.skip {l:List UInt8}{D E:Nat}(h:Gn l 0 D E)(hl:0<l.length)(hb:l[0].toNat=45):Gn l 1 D E:=by
 obtain ⟨_,h0,_,_⟩:=h
 obtain ⟨rfl,rfl⟩:=h0 rfl
 have hn:neg l=1:=by
  cases l with
  | nil=>simp at hl
  | cons b r=>simpa [neg] using hb
 exact ⟨hl,fun h=>absurd h (by omega),fun _=>⟨by omega,by simp⟩,fun j _ h1 h2=>absurd h2 (by omega)⟩
theorem NC {l:List UInt8}(hl:0<l.length)(hb:l[0].toNat≠45):neg l=0:=by
 cases l with
 | nil=>rfl
 | cons b r=>simp only [neg];exact if_neg (by simpa using hb)
theorem RZ {l:List UInt8}(hl:0<l.length)(hb:l[0].toNat=45):neg l=1:=by
 cases l with
 | nil=>simp at hl
 | cons b r=>simp only [neg];exact if_pos (by simpa using hb)
theorem Gn.more {l:List UInt8}{k D E:Nat}(h:Gn l k D E)(hl:k<l.length)(hb:48≤l[k].toNat)(hb':l[k].toNat≤57):Gn l (k+1) (D+1) (k+1):=by
 obtain ⟨_,h0,h1,h2⟩:=h
 have hd:D+neg l=k:=by
  rcases Nat.eq_zero_or_pos k with rfl | hp
  ·rw [NC hl (by omega)];exact (h0 rfl).1
  ·exact (h1 hp).1
 refine ⟨hl,fun h=>absurd h (by omega),fun _=>⟨by omega,by simp⟩,fun j hj hn hjk=>?_⟩
 by_cases e:j=k
 ·subst e;simp [dig,hb,hb']
 ·exact h2 j hj hn (by omega)
theorem YL {p:UInt8→Bool}{l:List UInt8}{n:Nat}(hn:n≤l.length)(ha:∀j (h:j<l.length),j<n→p l[j] = true)(he:∀h:n<l.length,p l[n] = false):(l.takeWhile p).length=n:=by
 induction l generalizing n with
 | nil=>simp at hn;simp [hn]
 | cons b r ih=>
  cases n with
  | zero=>
   have hb:p b=false:=he (by simp)
   rw [List.takeWhile_cons,if_neg (by simp [hb])];rfl
  | succ n=>
   have hb:p b=true:=ha 0 (by simp) (by omega)
   rw [List.takeWhile_cons,if_pos hb,List.length_cons,ih (by simpa using hn) (fun j h hj=>ha (j+1) (by simpa using h) (by omega)) (fun h=>he (by simpa using h))]
theorem Gn.stop {l:List UInt8}{k D E:Nat}(h:Gn l k D E)(he:∀h:k<l.length,¬(48≤l[k].toNat∧l[k].toNat≤57)∧¬(k=0∧l[k].toNat=45)):ED l=if D=0 then 0 else E:=by
 obtain ⟨hk,h0,h1,h2⟩:=h
 have hd:D+neg l=k:=by
  rcases Nat.eq_zero_or_pos k with rfl | hp
  ·have hn:neg l=0:=by
    cases l with
    | nil=>rfl
    | cons b r=>exact NC (by simp) (fun e=>(he (by simp)).2 ⟨rfl,e⟩)
   rw [hn];exact (h0 rfl).1
  ·exact (h1 hp).1
 have hlen:((l.drop (neg l)).takeWhile dig).length=D:=by
  refine YL (by rw [List.length_drop];omega) (fun j h hj=>?_) (fun h=>?_)
  ·rw [List.getElem_drop];exact h2 _ _ (by omega) (by omega)
  ·rw [List.getElem_drop]
   have hh:k<l.length:=by rw [List.length_drop] at h;omega
   have:=(he hh).1
   subst hd
   simp only [dig,decide_eq_false_iff_not]
   rw [show l[neg l+D]'(by omega)=l[D+neg l]'hh from by congr 1;omega]
   exact this
 rw [ED,hlen]
 by_cases hD:D=0
 ·simp [hD]
 ·rw [if_neg hD,if_neg hD,(h1 (by omega)).2,if_neg hD];omega
theorem Z8 {p:UInt8→Bool}{l:List UInt8}(h:(l.takeWhile p).length=l.length):∀j (hj:j<l.length),p l[j] = true:=by
 induction l with
 | nil=>intro j hj;simp at hj
 | cons b r ih=>
  intro j hj
  rw [List.takeWhile_cons] at h
  by_cases hb:p b=true
  ·rw [if_pos hb] at h
   cases j with
   | zero=>exact hb
   | succ j=>exact ih (by simpa using h) j (by simpa using hj)
  ·rw [if_neg hb] at h;simp at h
theorem Zw (p:UInt8→Bool)(l:List UInt8):(l.takeWhile p).length≤l.length:=by
 induction l with
 | nil=>simp
 | cons b r ih=>rw [List.takeWhile_cons];split<;>simp<;>omega
theorem piece_gt {l:List UInt8}(hp:ED l=l.length)(hl:0<l.length):neg l<l.length:=by
 rw [ED] at hp
 split at hp<;>omega
theorem Xl {l:List UInt8}(hp:ED l=l.length)(hl:0<l.length)(k:Nat)(hk:k<l.length)(hn:neg l≤k):dig l[k] = true:=by
 have hw:((l.drop (neg l)).takeWhile dig).length=(l.drop (neg l)).length:=by
  rw [List.length_drop]
  rw [ED] at hp
  split at hp<;>omega
 have:=Z8 hw (k-neg l) (by rw [List.length_drop];omega)
 rw [List.getElem_drop] at this
 rw [←this]
 congr 2
 omega
def Bo (l:List UInt8):Nat:=l.foldl (fun a b=>10*a+(b.toNat-48)) 0
theorem RS (l:List UInt8)(b:UInt8):Bo (l ++ [b])=10*Bo l+(b.toNat-48):=by simp [Bo]
theorem U7 {l:List UInt8}{k:Nat}(h:k<l.length):Bo (l.take (k+1))=10*Bo (l.take k)+(l[k].toNat-48):=by
 rw [List.take_succ_eq_append_getElem h,RS]
theorem foldl_ge (l:List UInt8):∀a:Nat,a≤l.foldl (fun a b=>10*a+(b.toNat-48)) a:=by
 induction l with
 | nil=>exact fun a=>Nat.le_refl _
 | cons b r ih=>exact fun a=>Nat.le_trans (show a≤10*a+(b.toNat-48) by omega) (ih _)
theorem Um (l:List UInt8)(k:Nat):Bo (l.take k)≤Bo l:=by
 have h:Bo l=(l.drop k).foldl (fun a b=>10*a+(b.toNat-48)) (Bo (l.take k)):=by
  rw [Bo,Bo,←List.foldl_append,List.take_append_drop]
 rw [h]
 exact foldl_ge _ _
def valueOf (l:List UInt8):Int×Int:=
 if (l.drop (neg l)).head? = some 48∧(neg l=1∨1<(l.drop (neg l)).length) then (0,4)
 else if neg l=1 then (if 9223372036854775808<Bo (l.drop (neg l)) then (0,3) else (-(Bo (l.drop (neg l)):Int),0))
 else (if 9223372036854775807<Bo (l.drop (neg l)) then (0,3) else ((Bo (l.drop (neg l)):Int),0))
def BO (l:List UInt8):Int×Int:=if ED l=0∨ED l≠l.length then (0,4) else valueOf l
theorem pieceLen_le (l:List UInt8):ED l≤l.length:=by
 have h1:=Zw dig (l.drop (neg l))
 have h2:=neg_le l
 rw [List.length_drop] at h1
 rw [ED]
 split<;>omega
end Punnet.Num
end
section
namespace Punnet.Num
set_option maxRecDepth 10000
open Go
theorem natOf_nil:Bo [] = 0:=rfl
theorem foldl_add (r:List UInt8):∀a:Nat,r.foldl (fun a b=>10*a+(b.toNat-48)) a=a*10 ^ r.length+Bo r:=by
 induction r with
 | nil=>intro a;simp [Bo]
 | cons b r ih=>
  intro a
  have e:Bo (b::r)=(10*0+(b.toNat-48))*10 ^ r.length+Bo r:=by rw [←ih];rfl
  rw [List.foldl_cons,ih,e,List.length_cons,Nat.pow_succ]
  simp only [Nat.mul_zero,Nat.zero_add,Nat.add_mul]
  rw [Nat.mul_comm 10 a,Nat.mul_assoc,Nat.mul_comm 10 (10 ^ r.length)]
  omega
theorem Oh (b:UInt8)(r:List UInt8):Bo (b::r)=(b.toNat-48)*10 ^ r.length+Bo r:=by
 rw [Bo,List.foldl_cons,foldl_add];simp
def Digits (l:List UInt8):Prop:=∀b∈l,48≤b.toNat∧b.toNat≤57
theorem Digits.tail {b:UInt8}{r:List UInt8}(h:Digits (b::r)):Digits r:=fun x hx=>h x (List.mem_cons_of_mem _ hx)
theorem Digits.head {b:UInt8}{r:List UInt8}(h:Digits (b::r)):48≤b.toNat∧b.toNat≤57:=h b (List.mem_cons_self)
theorem Digits.append {x y:List UInt8}(hx:Digits x)(hy:Digits y):Digits (x++y):=fun b hb=>(List.mem_append.1 hb).elim (hx b) (hy b)
theorem Digits.left {x y:List UInt8}(h:Digits (x++y)):Digits x:=fun b hb=>h b (List.mem_append.2 (.inl hb))
theorem Rz {l:List UInt8}(h:Digits l):Bo l<10 ^ l.length:=by
 induction l with
 | nil=>simp [Bo]
 | cons b r ih=>
  have h1:=ih h.tail
  have h2:=h.head
  rw [Oh,List.length_cons,Nat.pow_succ]
  have:(b.toNat-48)*10 ^ r.length≤9*10 ^ r.length:=Nat.mul_le_mul_right _ (by omega)
  omega
theorem lex_nat:∀{x y:List UInt8},x.length=y.length→Digits x→Digits y→Op.bytesLess x y=decide (Bo x<Bo y)
 | [],[],_,_,_=>by simp [Op.bytesLess]
 | [],_::_,h,_,_=>by simp at h
 | _::_,[],h,_,_=>by simp at h
 | a::x,b::y,h,hx,hy=>by
  have hl:x.length=y.length:=by simpa using h
  have ih:=lex_nat hl hx.tail hy.tail
  have h1:=Rz hx.tail
  have h2:=Rz hy.tail
  have ha:=hx.head
  have hb:=hy.head
  rw [Op.bytesLess,ih,Oh,Oh,hl]
  rw [hl] at h1
  have hab:(a==b)=decide (a.toNat=b.toNat):=by
   by_cases e:a=b
   ·subst e;simp
   ·rw [beq_eq_false_iff_ne.2 e];symm;rw [decide_eq_false_iff_not];intro h;exact e (UInt8.toNat_inj.1 h)
  rw [hab]
  have hlt:(decide (a<b))=decide (a.toNat<b.toNat):=by simp [UInt8.lt_iff_toNat_lt]
  rw [hlt]
  rcases Nat.lt_trichotomy a.toNat b.toNat with hc | hc | hc
  ·have:(a.toNat-48+1)*10 ^ y.length≤(b.toNat-48)*10 ^ y.length:=Nat.mul_le_mul_right _ (by omega)
   rw [Nat.add_mul] at this
   simp [hc]
   omega
  ·have e:a.toNat-48=b.toNat-48:=by omega
   simp [hc]
  ·have:(b.toNat-48+1)*10 ^ y.length≤(a.toNat-48)*10 ^ y.length:=Nat.mul_le_mul_right _ (by omega)
   rw [Nat.add_mul] at this
   have hn:¬a.toNat<b.toNat:=by omega
   have hne:¬a.toNat=b.toNat:=by omega
   simp [hn,hne]
   omega
theorem Pv (d:Nat)(h:d<10):(UInt8.ofNat (48+d)).toNat=48+d:=by
 rw [UInt8.toNat_ofNat'];omega
theorem Ns (m:Nat):Digits (BH m):=by
 induction m using Nat.strongRecOn with
 | _ m ih=>
  by_cases h:m<10
  ·rw [JF h]
   intro b hb
   simp only [List.mem_singleton] at hb
   subst hb
   rw [Pv m h];omega
  ·rw [NQ h]
   refine (ih _ (by omega)).append fun b hb=>?_
   simp only [List.mem_singleton] at hb
   subst hb
   rw [Pv _ (by omega)];omega
theorem Nl (m:Nat):Bo (BH m)=m:=by
 induction m using Nat.strongRecOn with
 | _ m ih=>
  by_cases h:m<10
  ·rw [JF h,Oh,Pv m h];simp [Bo]
  ·rw [NQ h,RS,ih _ (by omega),Pv _ (by omega)];omega
theorem Un (m:Nat)(h:10≤m):10 ^ ((BH m).length-1)≤m:=by
 induction m using Nat.strongRecOn with
 | _ m ih=>
  rw [NQ (by omega)]
  rw [List.length_append,List.length_singleton,Nat.add_sub_cancel]
  by_cases h2:m / 10<10
  ·rw [JF h2];simp;omega
  ·have:=ih (m / 10) (by omega) (by omega)
   have hp:0<(BH (m / 10)).length:=List.length_pos_iff.2 (MX _)
   obtain ⟨k,hk⟩:∃k,(BH (m / 10)).length=k+1:=⟨_,(Nat.succ_pred_eq_of_pos hp).symm⟩
   rw [hk] at this ⊢
   rw [Nat.pow_succ]
   simp only [Nat.add_sub_cancel] at this
   omega
theorem Xj {a b:Nat}(h:(BH a).length<(BH b).length):a<b:=by
 have hb:10≤b:=by
  rcases Nat.lt_or_ge b 10 with hlt | hge
  ·rw [JF hlt] at h
   have:0<(BH a).length:=List.length_pos_iff.2 (MX _)
   simp at h
   exact absurd h (MX a)
  ·exact hge
 have h1:=Un b hb
 have h2:=Rz (Ns a)
 rw [Nl] at h2
 have h3:10 ^ (BH a).length≤10 ^ ((BH b).length-1):=Nat.pow_le_pow_right (by omega) (by omega)
 omega
theorem digs_lex {a b:Nat}(h:(BH a).length=(BH b).length):Op.bytesLess (BH a) (BH b)=decide (a<b):=by
 rw [lex_nat h (Ns a) (Ns b),Nl,Nl]
theorem natOf_pos {b:UInt8}{r:List UInt8}(h:Digits (b::r))(hb:b≠48):0<Bo (b::r):=by
 have h1:=h.head
 have h2:b.toNat≠48:=fun e=>hb (UInt8.toNat_inj.1 e)
 rw [Oh]
 have:0<(b.toNat-48)*10 ^ r.length:=Nat.mul_pos (by omega) (Nat.pow_pos (by omega))
 omega
theorem Zo (n:Nat):∀{l:List UInt8},l.length=n→Digits l→l≠[]→(l.head? = some 48→l.length=1)→BH (Bo l)=l:=by
 induction n with
 | zero=>intro l hl _ hne _;exact absurd (List.length_eq_zero_iff.1 hl) hne
 | succ n ih=>
  intro l hl hd hne hz
  obtain ⟨r,b,rfl⟩:∃r b,l=r ++ [b]:=⟨_,_,(List.dropLast_concat_getLast hne).symm⟩
  have hb:48≤b.toNat∧b.toNat≤57:=hd b (by simp)
  have hr:r.length=n:=by simpa using hl
  have e48:UInt8.ofNat (48+(b.toNat-48))=b:=by
   rw [show 48+(b.toNat-48)=b.toNat by omega];simp
  rw [RS]
  cases r with
  | nil=>
   rw [natOf_nil,JF (by omega),Nat.mul_zero,Nat.zero_add,e48];rfl
  | cons h t=>
   have hh:h≠48:=by
    rintro rfl
    have:=hz rfl
    simp at this
   have hp:=natOf_pos hd.left hh
   rw [NQ (by omega),show (10*Bo (h::t)+(b.toNat-48)) / 10=Bo (h::t) by omega,show (10*Bo (h::t)+(b.toNat-48)) % 10=b.toNat-48 by omega,e48,
    ih hr hd.left (by simp) (fun e=>by simp at e;exact absurd e hh)]
theorem S9 {l:List UInt8}(hd:Digits l)(hne:l≠[])(hz:l.head? = some 48→l.length=1):BH (Bo l)=l:=Zo _ rfl hd hne hz
theorem digs_head {m:Nat}(h:(BH m).head? = some 48):m=0:=by
 have hd:=Ns m
 have hn:=Nl m
 have hs:m<10∨¬m<10:=by omega
 rcases hs with hs | hs
 ·rw [JF hs] at h
  simp only [List.head?_cons,Option.some.injEq] at h
  have:=congrArg UInt8.toNat h
  rw [Pv m hs] at this
  have e:(48:UInt8).toNat=48:=rfl
  omega
 ·exfalso
  have hl:=Un m (by omega)
  revert h hd hn hl
  have hlen:2≤(BH m).length:=by
   rw [NQ hs]
   have:0<(BH (m / 10)).length:=List.length_pos_iff.2 (MX _)
   simp
   omega
  revert hlen
  generalize BH m=l
  intro hlen h hd hn hl
  cases l with
  | nil=>simp at h
  | cons b r=>
   simp at h
   subst h
   rw [Oh] at hn
   have e:(48:UInt8).toNat-48=0:=rfl
   rw [e,Nat.zero_mul,Nat.zero_add] at hn
   have:=Rz hd.tail
   rw [List.length_cons,Nat.add_sub_cancel] at hl
   omega
theorem digs_len {m k:Nat}(h:m<10 ^ k)(hk:0<k):(BH m).length≤k:=by
 rcases Nat.lt_or_ge m 10 with h1 | h1
 ·rw [JF h1];exact hk
 ·have h2:=Un m h1
  rcases Nat.lt_or_ge k (BH m).length with h3 | h3
  ·have:10 ^ k≤10 ^ ((BH m).length-1):=Nat.pow_le_pow_right (by omega) (by omega)
   omega
  ·exact h3
def E9 (l:List UInt8):Bool:=decide (neg l<l.length)&&(l.drop (neg l)).all dig && !(decide ((l.drop (neg l)).head? = some 48)&&decide (l≠[48]))
structure JG (l:List UInt8):Prop where
 some_:neg l<l.length
 digits:Digits (l.drop (neg l))
 zero:(l.drop (neg l)).head? = some 48→neg l=0∧l.length=1
theorem isWord {l:List UInt8}(h:E9 l=true):JG l:=by
 simp only [E9,Bool.and_eq_true,decide_eq_true_iff,Bool.not_eq_true',Bool.and_eq_false_iff,decide_eq_false_iff_not,ne_eq,Decidable.not_not] at h
 obtain ⟨⟨h1,h2⟩,h3⟩:=h
 refine ⟨h1,fun b hb=>?_,fun h=>?_⟩
 ·have:=List.all_eq_true.1 h2 b hb
  simpa [dig] using this
 ·rcases h3 with h3 | h3
  ·exact absurd h h3
  ·subst h3;exact ⟨rfl,rfl⟩
theorem WV {l:List UInt8}(h:Digits l):l.all dig=true:=by
 rw [List.all_eq_true];intro b hb;simpa [dig] using h b hb
theorem Aar {p:UInt8→Bool}{l:List UInt8}(h:l.all p=true):(l.takeWhile p).length=l.length:=by
 induction l with
 | nil=>rfl
 | cons b r ih=>
  simp only [List.all_cons,Bool.and_eq_true] at h
  rw [List.takeWhile_cons,if_pos h.1,List.length_cons,List.length_cons,ih h.2]
theorem JG.piece {l:List UInt8}(h:JG l):ED l=l.length:=by
 have h1:=h.some_
 rw [ED,Aar (WV h.digits),List.length_drop,if_neg (by omega)]
 omega
theorem JG.read {l:List UInt8}(h:JG l):BO l=if neg l=1 then (if 9223372036854775808<Bo (l.drop (neg l)) then (0,3) else (-(Bo (l.drop (neg l)):Int),0))
 else (if 9223372036854775807<Bo (l.drop (neg l)) then (0,3) else ((Bo (l.drop (neg l)):Int),0)):=by
 have h1:=h.some_
 rw [BO,h.piece,if_neg (by omega),valueOf,if_neg]
 rintro ⟨hz,ho⟩
 obtain ⟨e1,e2⟩:=h.zero hz
 rw [List.length_drop] at ho
 omega
theorem XQ {l:List UInt8}(h:E9 l=false):BO l=(0,4):=by
 rw [BO]
 by_cases hp:ED l=0∨ED l≠l.length
 ·rw [if_pos hp]
 ·rw [if_neg hp,valueOf,if_pos]
  have hp2:ED l=l.length:=by omega
  have hl:0<l.length:=by omega
  have hg:=piece_gt hp2 hl
  have ha:(l.drop (neg l)).all dig=true:=by
   rw [List.all_eq_true]
   intro b hb
   obtain ⟨j,hj,rfl⟩:=List.getElem_of_mem hb
   rw [List.length_drop] at hj
   rw [List.getElem_drop]
   exact Xl hp2 hl _ (by omega) (by omega)
  rw [E9,decide_eq_true hg,ha] at h
  simp only [Bool.and_self,Bool.true_and,Bool.not_eq_false',Bool.and_eq_true,decide_eq_true_iff] at h
  refine ⟨h.1,?_⟩
  have hn:=VT l
  by_cases e:neg l=1
  ·exact .inl e
  ·right
   have e0:neg l=0:=by omega
   rw [e0] at h ⊢
   rw [List.drop_zero] at h ⊢
   obtain ⟨h1,h2⟩:=h
   match l,h1,h2,hl with
   | [b],h1,h2,_=>simp at h1;subst h1;exact absurd rfl h2
   | b::c::r,_,_,_=>simp
def KC (a b:List UInt8):Bool:=decide (a.length<b.length)||(decide (a.length=b.length)&&(Op.bytesLess a b||a==b))
theorem U5 (a b:Nat):KC (BH a) (BH b)=decide (a≤b):=by
 rw [KC]
 rcases Nat.lt_trichotomy (BH a).length (BH b).length with h | h | h
 ·have:=Xj h
  rw [decide_eq_true h,Bool.true_or,eq_comm,decide_eq_true_iff];omega
 ·rw [decide_eq_false (by omega),decide_eq_true h,digs_lex h,Bool.false_or,Bool.true_and]
  have he:(BH a==BH b)=decide (a=b):=by
   by_cases e:a=b
   ·subst e;simp
   ·rw [decide_eq_false e,beq_eq_false_iff_ne]
    intro h2
    have:=congrArg Bo h2
    rw [Nl,Nl] at this
    exact e this
  rw [he,←Bool.decide_or,decide_eq_decide]
  omega
 ·have:=Xj h
  rw [decide_eq_false (by omega),decide_eq_false (by omega),Bool.false_and,Bool.false_or,eq_comm,decide_eq_false_iff_not];omega
theorem JG.BH {l:List UInt8}(h:JG l):BH (Bo (l.drop (neg l)))=l.drop (neg l):=by
 have h1:=h.some_
 refine S9 h.digits (fun e=>?_) (fun hz=>?_)
 ·have:=congrArg List.length e
  rw [List.length_drop] at this
  simp at this
  omega
 ·obtain ⟨e1,e2⟩:=h.zero hz
  rw [List.length_drop];omega
theorem digs_most:BH 9223372036854775808= [57,50,50,51,51,55,50,48,51,54,56,53,52,55,55,53,56,48,56]:=
 S9 (l:=[57,50,50,51,51,55,50,48,51,54,56,53,52,55,55,53,56,48,56]) (by intro b hb;revert b;decide) (by decide) (by decide)
theorem digs_max:BH 9223372036854775807= [57,50,50,51,51,55,50,48,51,54,56,53,52,55,55,53,56,48,55]:=
 S9 (l:=[57,50,50,51,51,55,50,48,51,54,56,53,52,55,55,53,56,48,55]) (by intro b hb;revert b;decide) (by decide) (by decide)
theorem JG.less_most {l:List UInt8}(h:JG l):KC (l.drop (neg l)) [57,50,50,51,51,55,50,48,51,54,56,53,52,55,55,53,56,48,56] = decide (Bo (l.drop (neg l))≤9223372036854775808):=by
 rw [←digs_most]
 conv=>lhs;rw [←h.BH]
 exact U5 _ _
theorem JG.less_max {l:List UInt8}(h:JG l):KC (l.drop (neg l)) [57,50,50,51,51,55,50,48,51,54,56,53,52,55,55,53,56,48,55] = decide (Bo (l.drop (neg l))≤9223372036854775807):=by
 rw [←digs_max]
 conv=>lhs;rw [←h.BH]
 exact U5 _ _
def Hy (l:List UInt8)(k:Nat):Nat:=Bo ((l.take k).drop (neg l))
theorem Ur (l:List UInt8):Hy l 0=0:=by simp [Hy,Bo]
theorem pref_one {l:List UInt8}(h:neg l=1):Hy l 1=0:=by
 rw [Hy,h]
 have:((l.take 1).drop 1)= []:=List.drop_eq_nil_iff.2 (by simp;omega)
 rw [this];rfl
theorem WN {l:List UInt8}{k:Nat}(hk:k<l.length)(hn:neg l≤k):Hy l (k+1)=10*Hy l k+(l[k].toNat-48):=by
 have hlen:(l.take k).length=k:=by simp;omega
 rw [Hy,List.take_succ_eq_append_getElem hk,List.drop_append_of_le_length (by omega),RS];rfl
theorem pref_le (l:List UInt8)(k:Nat):Hy l k≤Bo (l.drop (neg l)):=by
 rw [Hy,List.drop_take]
 exact Um _ _
theorem pref_end {l:List UInt8}{k:Nat}(h:l.length≤k):Hy l k=Bo (l.drop (neg l)):=by
 rw [Hy,List.take_of_length_le h]
theorem neg_digs (m:Nat)(b:List UInt8):neg (BH m++b)=0:=by
 have hp:0<(BH m).length:=List.length_pos_iff.2 (MX m)
 refine NC (by rw [List.length_append];omega) ?_
 rw [List.getElem_append_left hp]
 have:=Ns m _ (List.getElem_mem hp)
 omega
theorem UA (n:Int)(b:List UInt8):neg (print n++b)=if n<0 then 1 else 0:=by
 rw [print]
 split
 ·rfl
 ·exact neg_digs _ _
theorem VY (n:Int)(b:List UInt8):(print n++b).drop (neg (print n++b))=BH n.natAbs++b:=by
 rw [UA,print]
 split
 ·rfl
 ·rfl
theorem Y4 {p:UInt8→Bool}{x y:List UInt8}(hx:x.all p=true)(hy:∀b,y.head? = some b→p b=false):(x++y).takeWhile p=x:=by
 induction x with
 | nil=>
  cases y with
  | nil=>rfl
  | cons b r=>rw [List.nil_append,List.takeWhile_cons,if_neg (by simp [hy b rfl])]
 | cons b r ih=>
  simp only [List.all_cons,Bool.and_eq_true] at hx
  rw [List.cons_append,List.takeWhile_cons,if_pos hx.1,ih hx.2]
theorem Ti (n:Int):(print n).length=(if n<0 then 1 else 0)+(BH n.natAbs).length:=by
 rw [print];split<;>simp<;>omega
theorem print_piece (n:Int){b:List UInt8}(hb:∀c,b.head? = some c→dig c=false):ED (print n++b)=(print n).length:=by
 have hp:0<(BH n.natAbs).length:=List.length_pos_iff.2 (MX _)
 rw [ED,VY,Y4 (WV (Ns _)) hb,if_neg (by omega),UA,Ti]
theorem print_value {n:Int}(h0 : -9223372036854775808≤n)(h1:n≤9223372036854775807):valueOf (print n)=(n,0):=by
 have hd:=VY n []
 have hn:=UA n []
 rw [List.append_nil] at hd hn
 rw [List.append_nil] at hd
 rw [valueOf,hd,hn,Nl,if_neg]
 ·by_cases h:n<0
  ·rw [if_pos h,if_pos rfl,if_neg (by omega)];congr 1;omega
  ·rw [if_neg h,if_neg (by omega),if_neg (by omega)];congr 1;omega
 ·rintro ⟨hz,ho⟩
  have:=digs_head hz
  rw [this] at ho
  simp [JF] at ho
  omega
theorem Ob {n:Int}(h0 : -9223372036854775808≤n)(h1:n≤9223372036854775807):BO (print n)=(n,0):=by
 have hp:=print_piece n (b:=[]) (by simp)
 rw [List.append_nil] at hp
 have hpos:0<(print n).length:=by
  have:=List.length_pos_iff.2 (MX n.natAbs)
  rw [Ti];omega
 rw [BO,hp,if_neg (by omega),print_value h0 h1]
theorem SN {l:List UInt8}(h:(BO l).2=0):print (BO l).1=l∧-9223372036854775808≤(BO l).1∧(BO l).1≤9223372036854775807:=by
 cases hw:E9 l with
 | false=>rw [XQ hw] at h;exact absurd h (by decide)
 | true=>
  have iw:=isWord hw
  have hr:=iw.read
  have hdg:=iw.BH
  have hn:=VT l
  have hs:=iw.some_
  by_cases e:neg l=1
  ·rw [if_pos e] at hr
   by_cases hov:9223372036854775808<Bo (l.drop (neg l))
   ·rw [hr,if_pos hov] at h;exact absurd h (by decide)
   ·rw [hr,if_neg hov]
    have hpos:0<Bo (l.drop (neg l)):=by
     rcases Nat.eq_zero_or_pos (Bo (l.drop (neg l))) with hz | hz
     ·exfalso
      rw [hz] at hdg
      have:=iw.zero (by rw [←hdg];simp [JF])
      omega
     ·exact hz
    refine ⟨?_,by omega,by omega⟩
    simp only [print]
    rw [if_pos (by omega),show (-(Bo (l.drop (neg l)):Int)).natAbs=Bo (l.drop (neg l)) by omega,hdg,e]
    match l,e,hs with
    | b::r,e,_=>
     simp only [neg] at e
     have hb:b.toNat=45:=by
      by_cases hb:b.toNat=45
      ·exact hb
      ·rw [if_neg hb] at e;exact absurd e (by decide)
     have:b=45:=UInt8.toNat_inj.1 hb
     subst this;rfl
  ·have e0:neg l=0:=by omega
   rw [if_neg e] at hr
   by_cases hov:9223372036854775807<Bo (l.drop (neg l))
   ·rw [hr,if_pos hov] at h;exact absurd h (by decide)
   ·rw [hr,if_neg hov]
    refine ⟨?_,by omega,by omega⟩
    simp only [print]
    rw [if_neg (by omega),show ((Bo (l.drop (neg l)):Int)).natAbs=Bo (l.drop (neg l)) by omega,hdg,e0];rfl
end Punnet.Num
end
section
namespace Go.Vm
def i64 (u:Nat):Int:=if u<9223372036854775808 then (u:Int) else (u:Int)-18446744073709551616
abbrev G6 (n:Int):Prop:=-9223372036854775808≤n∧n<9223372036854775808
end Go.Vm
end
section
namespace Go.Vm
abbrev St:=Nat×Bool
variable {b:List UInt8} {f most:Int} {s:St}
end Go.Vm
end
section
namespace Go.Vm
section
variable {b:List UInt8} {f most:Int} {s:St}
theorem WB {s:ByteArray}(h:nameB s=true):s.size≤12:=by
 unfold nameB at h
 simp only [Bool.and_eq_true,decide_eq_true_eq] at h
 exact h.1.2
theorem VM {r:Bv}(h:BF r=true):G6 r.scope∧r.group.size≤12∧r.name.size≤12:=by
 unfold BF at h
 simp only [Bool.and_eq_true,Bool.or_eq_true,decide_eq_true_eq] at h
 obtain ⟨⟨h1,h2⟩,h3⟩:=h
 refine ⟨by omega,?_,WB h2⟩
 rcases h3 with h3 | h3
 ·rw [h3];decide
 ·exact WB h3
structure OkF (x:AB):Prop where
 scope:G6 x.at_.scope
 group:x.at_.group.size≤200
 name:x.at_.name.size≤200
 kind:G6 x.kind
 deft:x.deft.size≤200
 cases:x.cases.length≤20
 each:∀t∈x.cases,t.size≤200
 worth:G6 x.worth
end
end Go.Vm
end
section
namespace Go.Vm
open Go.Proofs.YtdfbohaohjaloaaGreatDoor Punnet.Name Punnet.Num
-- places
def JS (r:Bv):List UInt8:=(if r.scope=1 then [108,105,110,101] else [104,101,97,100])++((if r.group=noB then [] else 46::r.group.data.toList)++46::r.name.data.toList)
def BJ (r:Bv):ByteArray:=mkB (JS r)
def O5 (r:Bv):ByteArray:=if r.scope=1 then (⟨#[108,105,110,101]⟩:ByteArray) else (⟨#[104,101,97,100]⟩:ByteArray)
theorem PZ {r:Bv}(h:BF r=true):(r.scope=0∨r.scope=1)∧nameB r.name=true∧(r.group=noB∨nameB r.group=true):=by
 unfold BF at h
 simp only [Bool.and_eq_true,Bool.or_eq_true,decide_eq_true_eq] at h
 exact ⟨h.1.1,h.1.2,h.2⟩
theorem U6 {r:Bv}(h:BF r=true):AA 46 (BJ r)=O5 r::(if r.group=noB then [r.name] else [r.group,r.name]):=by
 obtain ⟨h0,h1,h2⟩:=PZ h
 have hn:(46:UInt8) ∉ r.name.data.toList:=Rj h1 (by decide)
 unfold AA BJ JS O5
 rw [EY]
 by_cases hg:r.group=noB
 ·rw [if_pos hg,if_pos hg,List.nil_append]
  split
  ·rw [LJ _ (by decide),O7 hn];simp [NK]
  ·rw [LJ _ (by decide),O7 hn];simp [NK]
 ·have hgf:(46:UInt8) ∉ r.group.data.toList:=Rj (h2.resolve_left hg) (by decide)
  rw [if_neg hg,if_neg hg,List.cons_append]
  split
  ·rw [LJ _ (by decide),LJ _ hgf,O7 hn];simp [NK]
  ·rw [LJ _ (by decide),LJ _ hgf,O7 hn];simp [NK]
def EO (l:List ByteArray):Bv:=⟨if l.getD 0 noB=(⟨#[108,105,110,101]⟩:ByteArray) then 1 else 0,if l.length=3 then l.getD 1 noB else noB,if l.length=2 then l.getD 1 noB else if l.length=3 then l.getD 2 noB else noB⟩
theorem Qr {r:Bv}(h:BF r=true):EO (AA 46 (BJ r))=r:=by
 obtain ⟨h0,h1,h2⟩:=PZ h
 rw [U6 h]
 obtain ⟨sc,g,n⟩:=r
 unfold EO O5
 by_cases hg:g=noB
 ·subst hg
  rcases h0 with h0 | h0
  ·simp only at h0;subst h0;rfl
  ·simp only at h0;subst h0;rfl
 ·rcases h0 with h0 | h0
  ·simp only at h0;subst h0;simp only [if_neg hg];rfl
  ·simp only at h0;subst h0;simp only [if_neg hg];rfl
theorem place_inj {r q:Bv}(h:BF r=true)(k:BF q=true)(e:BJ r=BJ q):r=q:=by
 rw [←Qr h,←Qr k,e]
open Classical in
noncomputable def placeOf (s:ByteArray):Option Bv:=if h:∃r,BF r=true∧BJ r=s then some h.choose else none
theorem Jm {r:Bv}{s:ByteArray}(h:BF r=true)(e:BJ r=s):placeOf s=some r:=by
 have hx:∃r,BF r=true∧BJ r=s:=⟨r,h,e⟩
 unfold placeOf
 rw [dif_pos hx]
 exact congrArg some (place_inj hx.choose_spec.1 h (hx.choose_spec.2.trans e.symm))
theorem Tq {r:Bv}{s:ByteArray}(h:placeOf s=some r):BF r=true∧BJ r=s:=by
 unfold placeOf at h
 split at h
 ·rename_i hx;injection h with h;subst h;exact hx.choose_spec
 ·cases h
theorem Nh {s:ByteArray}(h:∀r,BF r=true→BJ r=s→False):placeOf s=none:=by
 cases e:placeOf s with
 | none=>rfl
 | some r=>exact absurd (Tq e).2 (fun k=>h r (Tq e).1 k)
theorem scopeB_two (r:Bv):O5 r=(⟨#[104,101,97,100]⟩:ByteArray)∨O5 r=(⟨#[108,105,110,101]⟩:ByteArray):=by unfold O5;split;exact .inr rfl;exact .inl rfl
theorem place_no1 {s:ByteArray}(h:¬(AA 46 s).getD 0 noB=(⟨#[104,101,97,100]⟩:ByteArray))(h2:¬(AA 46 s).getD 0 noB=(⟨#[108,105,110,101]⟩:ByteArray)):placeOf s=none:=Nh fun r hr e=>by
 rw [←e,U6 hr] at h h2
 rcases scopeB_two r with k | k
 ·exact h k
 ·exact h2 k
theorem Oj {s:ByteArray}(h:BF (EO (AA 46 s))=false):placeOf s=none:=Nh fun r hr e=>by
 rw [←e,Qr hr,hr] at h;cases h
theorem OU {s:ByteArray}(h:¬BJ (EO (AA 46 s))=s):placeOf s=none:=Nh fun r hr e=>by
 rw [←e,Qr hr] at h;exact h rfl
-- as the document reads it
def Ba (s:ByteArray):Nat→ByteArray×ByteArray
 | 0=>(noB,s.extract 5 s.size)
 | k+1=>if s[5+k]? = some 46∧(Ba s k).1=noB then (s.extract 5 (5+k),s.extract (5+k+1) s.size) else Ba s k
theorem Lu (s:ByteArray)(a b:Nat):(s.extract a b).data.toList=(s.data.toList.take b).drop a:=by
 rw [Lib.extract_data,List.drop_take]
theorem NL (s:ByteArray)(k:Nat):s[k]? = s.data.toList[k]? := by
 by_cases h:k<s.size
 ·rw [getElem?_pos s k h,List.getElem?_eq_getElem (by exact h)];rfl
 ·rw [List.getElem?_eq_none (by have:=FT s;omega)]
  exact getElem?_neg s k h
theorem gn_calm {s:ByteArray}{k:Nat}(h:∀j,j<k→¬s[5+j]? = some 46):Ba s k=(noB,s.extract 5 s.size):=by
 induction k with
 | zero=>rfl
 | succ k ih=>rw [Ba,if_neg (fun x=>h k (by omega) x.1),ih fun j hj=>h j (by omega)]
theorem gn_stay {s:ByteArray}{k:Nat}(h:¬(Ba s k).1=noB):∀d,Ba s (k+d)=Ba s k
 | 0=>rfl
 | d+1=>by rw [←Nat.add_assoc,Ba,gn_stay h d,if_neg (fun x=>h x.2)]
def GH (r:Bv):List UInt8:=if r.scope=1 then [108,105,110,101] else [104,101,97,100]
theorem Wh (r:Bv):(GH r).length=4:=by unfold GH;split<;>rfl
theorem gn_place {r:Bv}(h:BF r=true):Ba (BJ r) ((BJ r).size-5)=(r.group,r.name):=by
 obtain ⟨h0,h1,h2⟩:=PZ h
 have hn:(46:UInt8) ∉ r.name.data.toList:=Rj h1 (by decide)
 have hd:(BJ r).data.toList=GH r++((if r.group=noB then [] else 46::r.group.data.toList)++46::r.name.data.toList):=EY _
 have h4:=Wh r
 have hsz:(BJ r).size=(BJ r).data.toList.length:=(FT _).symm
 by_cases hg:r.group=noB
 ·rw [if_pos hg,List.nil_append] at hd
  have hsz2:(BJ r).size=5+r.name.data.toList.length:=by rw [hsz,hd,List.length_append,h4,List.length_cons];omega
  rw [gn_calm,hg]
  ·congr 1
   apply GI
   rw [Lu,hsz,List.take_length,hd,show GH r++46::r.name.data.toList=(GH r ++ [46])++r.name.data.toList by simp,List.drop_left' (by rw [List.length_append,h4];rfl)]
  ·intro j hj e
   rw [NL,hd,show GH r++46::r.name.data.toList=(GH r ++ [46])++r.name.data.toList by simp,List.getElem?_append_right (by rw [List.length_append,h4,List.length_singleton];omega)] at e
   exact hn (List.mem_of_getElem? e)
 ·rw [if_neg hg,List.cons_append] at hd
  have hgf:(46:UInt8) ∉ r.group.data.toList:=Rj (h2.resolve_left hg) (by decide)
  have hd2:(BJ r).data.toList=(GH r ++ [46])++(r.group.data.toList++46::r.name.data.toList):=by rw [hd];simp
  have h5:(GH r ++ [46]).length=5:=by rw [List.length_append,h4];rfl
  have hsz2:(BJ r).size=5+(r.group.data.toList.length+(1+r.name.data.toList.length)):=by rw [hsz,hd2,List.length_append,h5,List.length_append,List.length_cons];omega
  have c1:Ba (BJ r) r.group.data.toList.length=(noB,(BJ r).extract 5 (BJ r).size):=gn_calm fun j hj e=>by
   rw [NL,hd2,List.getElem?_append_right (by rw [h5];omega),h5,Nat.add_sub_cancel_left,List.getElem?_append_left hj] at e
   exact hgf (List.mem_of_getElem? e)
  have c2:Ba (BJ r) (r.group.data.toList.length+1)=(r.group,r.name):=by
   rw [Ba,c1,if_pos]
   ·congr 1
    ·apply GI
     rw [Lu,hd2,List.drop_take,List.drop_left' h5,Nat.add_sub_cancel_left,List.take_left]
    ·apply GI
     rw [Lu,hsz,List.take_length,hd2,show (GH r ++ [46])++(r.group.data.toList++46::r.name.data.toList)=((GH r ++ [46])++(r.group.data.toList ++ [46]))++r.name.data.toList by simp,List.drop_left' (by rw [List.length_append,h5,List.length_append,List.length_singleton];omega)]
   ·refine ⟨?_,rfl⟩
    rw [NL,hd2,List.getElem?_append_right (by rw [h5];omega),h5,Nat.add_sub_cancel_left,List.getElem?_append_right (Nat.le_refl _),Nat.sub_self];rfl
  have hne:¬(Ba (BJ r) (r.group.data.toList.length+1)).1=noB:=by rw [c2];exact hg
  rw [show (BJ r).size-5=r.group.data.toList.length+1+r.name.data.toList.length by omega,gn_stay hne,c2]
def Gs (s:ByteArray):Bv:=⟨if s[0]? = some 108 then 1 else 0,(Ba s (s.size-5)).1,(Ba s (s.size-5)).2⟩
theorem Vr {r:Bv}(h:BF r=true):Gs (BJ r)=r:=by
 obtain ⟨h0,_,_⟩:=PZ h
 unfold Gs
 rw [gn_place h,NL,show (BJ r).data.toList=JS r from EY _]
 obtain ⟨sc,g,n⟩:=r
 unfold JS
 rcases h0 with h0 | h0
 ·simp only at h0;subst h0;rfl
 ·simp only at h0;subst h0;rfl
theorem place_size {r:Bv}(h:BF r=true):6≤(BJ r).size:=by
 obtain ⟨h0,h1,_⟩:=PZ h
 have hn:=nameB_ne h1
 have:0<r.name.data.toList.length:=List.length_pos_iff.2 hn
 rw [←FT,show (BJ r).data.toList=JS r from EY _]
 unfold JS
 have h4:=Wh r
 unfold GH at h4
 simp only [List.length_append,List.length_cons]
 omega
theorem place_first {r:Bv}:(BJ r).extract 0 5=(⟨#[104,101,97,100,46]⟩:ByteArray)∨(BJ r).extract 0 5=(⟨#[108,105,110,101,46]⟩:ByteArray):=by
 have:((BJ r).extract 0 5).data.toList=GH r ++ [46]:=by
  rw [Lu,show (BJ r).data.toList=JS r from EY _]
  unfold JS GH
  split<;>split<;>rfl
 unfold GH at this
 split at this
 ·exact .inr (GI this)
 ·exact .inl (GI this)
theorem place2_no1 {s:ByteArray}(h:s.size<6):placeOf s=none:=Nh fun r hr e=>by have:=place_size hr;rw [e] at this;omega
theorem place2_no2 {s:ByteArray}(h:¬s.extract 0 5=(⟨#[104,101,97,100,46]⟩:ByteArray))(h2:¬s.extract 0 5=(⟨#[108,105,110,101,46]⟩:ByteArray)):placeOf s=none:=Nh fun r hr e=>by
 rcases place_first (r:=r) with k | k
 ·rw [e] at k;exact h k
 ·rw [e] at k;exact h2 k
theorem QN {s:ByteArray}(h:BF (Gs s)=false):placeOf s=none:=Nh fun r hr e=>by
 rw [←e,Vr hr,hr] at h;cases h
theorem Rl {s:ByteArray}(h:¬BJ (Gs s)=s):placeOf s=none:=Nh fun r hr e=>by
 rw [←e,Vr hr] at h;exact h rfl
-- tags
def FU (t:BZ):ByteArray:=mkB (print t.r++46::print t.n)
def IA (t:BZ):Prop:=G6 t.r∧G6 t.n
theorem print_free (n:Int){c:UInt8}(hc:c.toNat<45∨(45<c.toNat∧c.toNat<48)∨57<c.toNat):c ∉ print n:=by
 have hd:=Ns n.natAbs
 unfold print
 intro k
 split at k
 ·rcases List.mem_cons.1 k with k | k
  ·rw [k] at hc;revert hc;decide
  ·have:=hd c k;omega
 ·have:=hd c k;omega
theorem UD (t:BZ):CE 46 (FU t).data.toList=(print t.r,print t.n,true):=by
 unfold FU;rw [EY];exact PM (print_free _ (by decide))
theorem tagT_inj {t u:BZ}(h:IA t)(k:IA u)(e:FU t=FU u):t=u:=by
 have h1:=UD t
 rw [e,UD u] at h1
 injection h1 with h1 h2
 injection h2 with h2 _
 have q1:=Ob (n:=t.r) (by have:=h.1;omega) (by have:=h.1;omega)
 have q2:=Ob (n:=u.r) (by have:=k.1;omega) (by have:=k.1;omega)
 have q3:=Ob (n:=t.n) (by have:=h.2;omega) (by have:=h.2;omega)
 have q4:=Ob (n:=u.n) (by have:=k.2;omega) (by have:=k.2;omega)
 rw [←h1,q2] at q1
 rw [←h2,q4] at q3
 obtain ⟨a,b⟩:=t
 obtain ⟨a',b'⟩:=u
 injection q1 with q1 _
 injection q3 with q3 _
 simp only at q1 q3
 rw [q1,q3]
open Classical in
noncomputable def CQ (s:ByteArray):Option BZ:=if h:∃t,IA t∧FU t=s then some h.choose else none
theorem tagOf_some {t:BZ}{s:ByteArray}(h:IA t)(e:FU t=s):CQ s=some t:=by
 have hx:∃t,IA t∧FU t=s:=⟨t,h,e⟩
 unfold CQ
 rw [dif_pos hx]
 exact congrArg some (tagT_inj hx.choose_spec.1 h (hx.choose_spec.2.trans e.symm))
theorem U2 {t:BZ}{s:ByteArray}(h:CQ s=some t):IA t∧FU t=s:=by
 unfold CQ at h
 split at h
 ·rename_i hx;injection h with h;subst h;exact hx.choose_spec
 ·cases h
theorem tagOf_none {s:ByteArray}(h:∀t,IA t→FU t=s→False):CQ s=none:=by
 cases e:CQ s with
 | none=>rfl
 | some r=>exact absurd (U2 e).2 (fun k=>h r (U2 e).1 k)
theorem tag_cutC {s:ByteArray}{a b:List UInt8}{f:Bool}(h:CE 46 s.data.toList=(a,b,f))(h1:(BO a).2=0)(h2:(BO b).2=0):CQ s=some ⟨(BO a).1,(BO b).1⟩:=by
 obtain ⟨p1,p2,p3⟩:=SN h1
 obtain ⟨q1,q2,q3⟩:=SN h2
 refine tagOf_some (t:=⟨(BO a).1,(BO b).1⟩) ⟨⟨by omega,by show (BO a).1 < _;omega⟩,⟨by omega,by show (BO b).1 < _;omega⟩⟩ ?_
 by_cases hc:(46:UInt8)∈s.data.toList
 ·obtain ⟨x,r,e,hx⟩:=mem_split hc
  rw [e,PM hx] at h
  injection h with e1 h
  injection h with e2 _
  apply GI
  unfold FU
  rw [EY,e,p1,q1,e1,e2]
 ·rw [RQ hc] at h
  injection h with e1 h
  injection h with e2 _
  rw [←e2] at h2
  exact absurd h2 (by decide)
theorem PU {s:ByteArray}{a b:List UInt8}{f:Bool}(h:CE 46 s.data.toList=(a,b,f))(h1:¬((BO a).2=0∧(BO b).2=0)):CQ s=none:=tagOf_none fun t ht e=>by
 rw [←e,UD t] at h
 injection h with e1 h
 injection h with e2 _
 apply h1
 rw [←e1,←e2,Ob (by have:=ht.1;omega) (by have:=ht.1;omega),Ob (by have:=ht.2;omega) (by have:=ht.2;omega)]
 exact ⟨rfl,rfl⟩
end Go.Vm
end
section
namespace Go.Vm
open Go.Proofs.YtdfbohaohjaloaaGreatDoor Punnet.Name Punnet.Num
def QT (s:ByteArray):ByteArray:=mkB (JK s.data.toList)
def lineT (w:List ByteArray):ByteArray:=GR 32 w
theorem TJ (s:ByteArray):lineT (splitB s 0)=s:=by
 have h:=join_split s s.size 0 (by omega) (Nat.zero_le _)
 have e:∀l:List ByteArray,joinL l=Jt 32 (l.map (·.data.toList)):=by
  intro l
  induction l with
  | nil=>rfl
  | cons a l ih=>
   cases l with
   | nil=>rfl
   | cons b r=>show a.data.toList++32::joinL (b::r)=_;rw [ih];rfl
 rw [e,List.drop_zero] at h
 exact GI ((EY _).trans h)
-- what the words tell
abbrev wd (w:List ByteArray)(i:Nat):ByteArray:=w.getD i noB
abbrev Aw (s:ByteArray):Int×Int:=BO s.data.toList
-- what is read of a text
section
variable {α:Type}
end
end Go.Vm
end
section
namespace Go.Proofs
open Go.Shelf
def Tryz.laysJoin_ren:Go.Shelf.Ren:=⟨fun | 156=>45 | 165=>89 | 166=>90 | 169=>91 | 240=>144 | 241=>145 | 276=>224 | 277=>225 | n=>n,fun | 31=>34 | 9=>9 | 3=>3 | 4=>4 | 0=>0 | 20=>20 | 72=>164 | 76=>167 | 70=>162 | 37=>109 | 75=>166 | 127=>247 | 164=>318 | 5=>5 | 80=>95 | n=>n,fun | n=>n⟩
theorem Tryz.laysJoin:Go.Proofs.Lays.n156 Tryz.prog Tryz.laysJoin_ren:={
 mixed:=by kernel_rfl
 f156:=Tryz.func45.trans (congrArg some (by kernel_rfl))
 f165:=Tryz.func89.trans (congrArg some (by kernel_rfl))
 f166:=Tryz.func90.trans (congrArg some (by kernel_rfl))
 f169:=Tryz.func91.trans (congrArg some (by kernel_rfl))
 f240:=Tryz.func144.trans (congrArg some (by kernel_rfl))
 f241:=Tryz.func145.trans (congrArg some (by kernel_rfl))
 f276:=Tryz.func224.trans (congrArg some (by kernel_rfl))
 f277:=Tryz.func225.trans (congrArg some (by kernel_rfl))
 t0:=Tryz.underlying0
 a0:=Tryz.isAgg0
 z0:=Tryz.sizeOf0
 v0:=Tryz.zeroValue0
 t3:=Tryz.underlying3
 a3:=Tryz.isAgg3
 z3:=Tryz.sizeOf3
 v3:=Tryz.zeroValue3
 t4:=Tryz.underlying4
 a4:=Tryz.isAgg4
 z4:=Tryz.sizeOf4
 v4:=Tryz.zeroValue4
 t9:=Tryz.underlying9
 a9:=Tryz.isAgg9
 z9:=Tryz.sizeOf9
 v9:=Tryz.zeroValue9
 t20:=Tryz.underlying20
 a20:=Tryz.isAgg20
 z20:=Tryz.sizeOf20
 v20:=Tryz.zeroValue20
 t31:=Tryz.underlying34
 a31:=Tryz.isAgg34
 z31:=Tryz.sizeOf34
 v31:=Tryz.zeroValue34
 t37:=Tryz.underlying109
 a37:=Tryz.isAgg109
 z37:=Tryz.sizeOf109
 v37:=Tryz.zeroValue109
 t70:=Tryz.underlying162
 a70:=Tryz.isAgg162
 z70:=Tryz.sizeOf162
 v70:=Tryz.zeroValue162
 t72:=Tryz.underlying164
 a72:=Tryz.isAgg164
 z72:=Tryz.sizeOf164
 v72:=Tryz.zeroValue164
 t75:=Tryz.underlying166
 a75:=Tryz.isAgg166
 z75:=Tryz.sizeOf166
 v75:=Tryz.zeroValue166
 t76:=Tryz.underlying167
 a76:=Tryz.isAgg167
 z76:=Tryz.sizeOf167
 v76:=Tryz.zeroValue167
 t127:=Tryz.underlying247
 a127:=Tryz.isAgg247
 z127:=Tryz.sizeOf247
 v127:=Tryz.zeroValue247
 t164:=Tryz.underlying318
 a164:=Tryz.isAgg318
 z164:=Tryz.sizeOf318
 v164:=Tryz.zeroValue318 }
def Tryz.ZK:Go.Shelf.Ren:=⟨fun | 146=>222 | 221=>313 | 268=>383 | 138=>384 | 143=>385 | 195=>416 | 197=>417 | 218=>418 | 219=>96 | 260=>439 | 217=>150 | 225=>151 | 224=>152 | 267=>153 | 266=>226 | 314=>227 | n=>n,fun | 9=>9 | 31=>34 | 3=>3 | 4=>4 | 0=>0 | 105=>492 | 21=>21 | 5=>5 | 46=>252 | 119=>514 | 139=>517 | 138=>516 | 146=>321 | 51=>132 | n=>n,fun | 1=>4 | 3=>6 | 4=>7 | n=>n⟩
theorem Tryz.laysSplit:Go.Proofs.Lays.n146 Tryz.prog Tryz.ZK:={
 mixed:=by kernel_rfl
 f138:=Tryz.func384.trans (congrArg some (by kernel_rfl))
 f143:=Tryz.func385.trans (congrArg some (by kernel_rfl))
 f146:=Tryz.func222.trans (congrArg some (by kernel_rfl))
 f195:=Tryz.func416.trans (congrArg some (by kernel_rfl))
 f197:=Tryz.func417.trans (congrArg some (by kernel_rfl))
 f217:=Tryz.func150.trans (congrArg some (by kernel_rfl))
 f218:=Tryz.func418.trans (congrArg some (by kernel_rfl))
 f219:=Tryz.func96.trans (congrArg some (by kernel_rfl))
 f221:=Tryz.func313.trans (congrArg some (by kernel_rfl))
 f224:=Tryz.func152.trans (congrArg some (by kernel_rfl))
 f225:=Tryz.func151.trans (congrArg some (by kernel_rfl))
 f260:=Tryz.func439.trans (congrArg some (by kernel_rfl))
 f266:=Tryz.func226.trans (congrArg some (by kernel_rfl))
 f267:=Tryz.func153.trans (congrArg some (by kernel_rfl))
 f268:=Tryz.func383.trans (congrArg some (by kernel_rfl))
 f314:=Tryz.func227.trans (congrArg some (by kernel_rfl))
 t0:=Tryz.underlying0
 a0:=Tryz.isAgg0
 z0:=Tryz.sizeOf0
 v0:=Tryz.zeroValue0
 t3:=Tryz.underlying3
 a3:=Tryz.isAgg3
 z3:=Tryz.sizeOf3
 v3:=Tryz.zeroValue3
 t4:=Tryz.underlying4
 a4:=Tryz.isAgg4
 z4:=Tryz.sizeOf4
 v4:=Tryz.zeroValue4
 t5:=Tryz.underlying5
 a5:=Tryz.isAgg5
 z5:=Tryz.sizeOf5
 v5:=Tryz.zeroValue5
 t9:=Tryz.underlying9
 a9:=Tryz.isAgg9
 z9:=Tryz.sizeOf9
 v9:=Tryz.zeroValue9
 t21:=Tryz.underlying21
 a21:=Tryz.isAgg21
 z21:=Tryz.sizeOf21
 v21:=Tryz.zeroValue21
 t31:=Tryz.underlying34
 a31:=Tryz.isAgg34
 z31:=Tryz.sizeOf34
 v31:=Tryz.zeroValue34
 t46:=Tryz.underlying252
 a46:=Tryz.isAgg252
 z46:=Tryz.sizeOf252
 v46:=Tryz.zeroValue252
 t51:=Tryz.underlying132
 a51:=Tryz.isAgg132
 z51:=Tryz.sizeOf132
 v51:=Tryz.zeroValue132
 t105:=Tryz.underlying492
 a105:=Tryz.isAgg492
 z105:=Tryz.sizeOf492
 v105:=Tryz.zeroValue492
 t119:=Tryz.underlying514
 a119:=Tryz.isAgg514
 z119:=Tryz.sizeOf514
 t138:=Tryz.underlying516
 a138:=Tryz.isAgg516
 z138:=Tryz.sizeOf516
 v138:=Tryz.zeroValue516
 t139:=Tryz.underlying517
 a139:=Tryz.isAgg517
 z139:=Tryz.sizeOf517
 v139:=Tryz.zeroValue517
 t146:=Tryz.underlying321
 a146:=Tryz.isAgg321
 z146:=Tryz.sizeOf321
 v146:=Tryz.zeroValue321
 g1:=by kernel_rfl
 g3:=by kernel_rfl
 g4:=by kernel_rfl }
def Tryz.Yh:Go.Shelf.Ren:=⟨fun | 219=>96 | 217=>150 | 225=>151 | 224=>152 | 267=>153 | 266=>226 | 314=>227 | n=>n,fun | 9=>9 | 3=>3 | 4=>4 | 5=>5 | 46=>252 | 146=>321 | 51=>132 | n=>n,fun | 1=>4 | n=>n⟩
theorem Tryz.laysIndex:Go.Proofs.Lays.n219 Tryz.prog Tryz.Yh:={
 mixed:=by kernel_rfl
 f217:=Tryz.func150.trans (congrArg some (by kernel_rfl))
 f219:=Tryz.func96.trans (congrArg some (by kernel_rfl))
 f224:=Tryz.func152.trans (congrArg some (by kernel_rfl))
 f225:=Tryz.func151.trans (congrArg some (by kernel_rfl))
 f266:=Tryz.func226.trans (congrArg some (by kernel_rfl))
 f267:=Tryz.func153.trans (congrArg some (by kernel_rfl))
 f314:=Tryz.func227.trans (congrArg some (by kernel_rfl))
 t3:=Tryz.underlying3
 a3:=Tryz.isAgg3
 z3:=Tryz.sizeOf3
 v3:=Tryz.zeroValue3
 t4:=Tryz.underlying4
 a4:=Tryz.isAgg4
 z4:=Tryz.sizeOf4
 v4:=Tryz.zeroValue4
 t5:=Tryz.underlying5
 a5:=Tryz.isAgg5
 z5:=Tryz.sizeOf5
 v5:=Tryz.zeroValue5
 t9:=Tryz.underlying9
 a9:=Tryz.isAgg9
 z9:=Tryz.sizeOf9
 v9:=Tryz.zeroValue9
 t46:=Tryz.underlying252
 a46:=Tryz.isAgg252
 z46:=Tryz.sizeOf252
 v46:=Tryz.zeroValue252
 t51:=Tryz.underlying132
 a51:=Tryz.isAgg132
 z51:=Tryz.sizeOf132
 v51:=Tryz.zeroValue132
 t146:=Tryz.underlying321
 a146:=Tryz.isAgg321
 z146:=Tryz.sizeOf321
 v146:=Tryz.zeroValue321
 g1:=by kernel_rfl }
theorem Tryz.VZ:Builder.Extra Tryz.prog Tryz.laysJoin_ren:={
 sizeBuilder:=by kernel_rfl
 liesBuilder:=by kernel_rfl
 t5:=Tryz.underlying5
 a5:=Tryz.isAgg5
 z5:=Tryz.sizeOf5
 v5:=Tryz.zeroValue5
 infoByte:=by kernel_rfl
 cellsByte:=by kernel_rfl
 sizeByte:=by kernel_rfl
 neB5:=by decide }
end Go.Proofs
end
section
namespace Go.Vm
open Go.RowKit
def KF:Aq:=fun _=>.frozen
section
variable {P:Program} {w:World}
theorem law_true {f:FuncId}{args:List D}{vs:Array Value}(hc:AQ P f args [.d (.sc (.bool true))])(hl:vs.size=args.length)(hr:∀(i:Nat) (v:Value) (d:D),vs.toList[i]? = some v→args[i]? = some d→Rep KF w v d)(hG:GlobW KF w:=by intro g cs h;cases h) :
 Calls P f vs w fun e w'=>e=.returned (.bool true)∧Below w.heap.size w w':=by
 refine (hc KF w vs 0 ⟨fun _ _=>rfl,hG⟩ (fun _ _ _ _ _ h=>by cases h) hl hr).mono ?_
 rintro e w' ⟨v,ro',rfl,hg,hs⟩
 have:v=.bool true:=(EF (show Rep ro' w' v (.sc (.bool true)) from hs)).1
 exact ⟨by rw [this],hg.below⟩
end
end Go.Vm
end
section
namespace Go.Vm
open Go.RowKit
section
variable {P:Program} {f:FuncId} {ro:Aq} {w w':World}
theorem QM (hn:∀b,w.heap.size≤b→ro b=.frozen)(h:Below w.heap.size w w'):Grow ro ro w w':=
 ⟨h,fun _ _=>rfl,fun b hb=>hn b (Nat.le_trans h.size hb),fun b id k hb hr=>by rw [hn b hb] at hr;cases hr⟩
theorem TC {vs:Array Value}{us:List Value}(hl:vs.size=(us.map D.sc).length)(h:∀(i:Nat) (v:Value) (d:D),vs.toList[i]? = some v→(us.map D.sc)[i]? = some d→Rep ro w v d):vs=us.toArray:=by
 have hl':vs.size=us.length:=by simpa using hl
 apply Array.ext
 ·simpa using hl'
 ·intro i h1 h2
  have hu:i<us.length:=by omega
  have:=h i vs[i] (.sc us[i]) (by simp [h1]) (by simp [hu])
  simpa using (EF this).1
theorem UT {us:List Value}{r:Value}(hp:BL r=true)(h:∀w,Calls P f us.toArray w fun e w'=>e=.returned r∧Below w.heap.size w w'):AQ P f (us.map D.sc) [.d (.sc r)]:=by
 intro ro w vs τ h1 h2 h3 h4
 rw [TC h3 h4]
 refine (h w).mono ?_
 rintro e w' ⟨rfl,hb⟩
 exact ⟨r,ro,rfl,QM h1.new hb,.sc hp⟩
theorem KH {us:List Value}{r1 r2:Value}{rs:List Value}(hp:∀r∈r1::r2::rs,BL r=true)(h:∀w,Calls P f us.toArray w fun e w'=>e=.returned (.tuple (r1::r2::rs).toArray)∧Below w.heap.size w w') :
 AQ P f (us.map D.sc) ((r1::r2::rs).map fun r=>C.d (.sc r)):=by
 intro ro w vs τ h1 h2 h3 h4
 rw [TC h3 h4]
 refine (h w).mono ?_
 rintro e w' ⟨rfl,hb⟩
 refine ⟨_,ro,rfl,QM h1.new hb,?_⟩
 have e1:EI (((r1::r2::rs).map fun r=>C.d (.sc r)).map (En τ))=.tup ((r1::r2::rs).map fun r=>C.d (.sc r)):=by
  simp only [List.map_cons,EI,En]
  congr 1
  simp only [List.map_map]
  congr 2
 rw [e1]
 refine ⟨_,rfl,by simp,fun i u c hu hc=>?_⟩
 simp only [List.toList_toArray] at hu
 rw [List.getElem?_map,hu] at hc
 simp only [Option.map_some,Option.some.injEq] at hc
 subst hc
 exact .sc (hp u (List.mem_of_getElem? hu))
theorem VE (l:List ByteArray):flat (l.map strD)=l.map strD:=by
 unfold flat
 induction l with
 | nil=>rfl
 | cons a l ih=>rw [List.map_cons,List.flatMap_cons,ih];rfl
theorem rep_strs {l:List ByteArray}{T:TypeId}{base:Nat}{v:Value}(hn:∀b,base≤b→ro b=.frozen)(ho:w.ownsRow base T 1 v l.length (l.map Value.string)):Rep ro w v (.row (l.map strD)):=by
 obtain ⟨hl,h | ⟨g,cap,cur,rfl,hg,hh,hc,hm,hs,ht⟩⟩:=ho
 ·obtain ⟨rfl,h0⟩:=h
  rw [List.length_eq_zero_iff.1 h0]
  exact .nil (by simp [maxLen])
 ·have hlen:l.length=(l.map strD).length:=by simp
  rw [hlen]
  refine .row (sz:=1) (l.map Value.string) (by omega) (by simpa using hc) hm (by simp) ?_ ?_ ?_ ?_
  ·intro x hx
   obtain ⟨a,_,rfl⟩:=List.mem_map.1 hx
   rfl
  ·intro u hu
   obtain ⟨a,_,rfl⟩:=List.mem_map.1 hu
   rfl
  ·intro j u hu
   refine ⟨?_,by unfold DF;rw [hn g hg];trivial⟩
   have:=World.ownsRow.cells (w:=w) (base:=base) (e:=T) (size:=1) (v:=.slice (some ⟨g,0,none⟩) l.length cap) (n:=l.length) (xs:=l.map Value.string) ⟨hl,.inr ⟨g,cap,cur,rfl,hg,hh,hc,hm,hs,ht⟩⟩ (g:=g) rfl j u hu
   have e:(⟨g,0,none⟩:Addr).add j=⟨g,0+j,none⟩:=by
    unfold Addr.add
    by_cases hj:j=0<;>simp [hj]
   rw [e] at this
   exact this
  ·intro j u c hu hc
   rw [VE,List.getElem?_map] at hc
   rw [List.getElem?_map] at hu
   cases ha:l[j]? with
   | none=>rw [ha] at hc;cases hc
   | some a=>
    rw [ha] at hu hc
    simp only [Option.map_some,Option.some.injEq] at hu hc
    subst hu hc
    exact .sc rfl
theorem TV {us:List Value}{l:List ByteArray}{T:TypeId}(h:∀w,Calls P f us.toArray w fun e w'=>∃v,e=.returned v∧w'.ownsRow w.heap.size T 1 v l.length (l.map Value.string)∧Below w.heap.size w w'):AQ P f (us.map D.sc) [.d (.row (l.map strD))]:=by
 intro ro w vs τ h1 h2 h3 h4
 rw [TC h3 h4]
 refine (h w).mono ?_
 rintro e w' ⟨v,rfl,ho,hb⟩
 exact ⟨v,ro,rfl,QM h1.new hb,rep_strs h1.new ho⟩
end
end Go.Vm
end
section
namespace Go.Proofs
open Go.Shelf Go.RowKit Go.Lib
variable {P:Program} {ρ:Ren}
theorem U1 (c:UInt8):∀l:List UInt8,Lib.index l [c] = Lib.indexByte l c
 | []=>rfl
 | b::l=>by
  have ih:=U1 c l
  unfold Lib.index Lib.indexByte
  rw [ih]
  by_cases e:b=c
  ·subst e;simp
  ·have e':¬c=b:=fun k=>e k.symm
   simp [List.isPrefixOf,e,e']
theorem split_byte (L:Lays.n146 P ρ)(hi9:(P.info? (ρ.t 9)).map (fun i=>(i.zero,i.size,i.bytes))=some (some (.string ByteArray.empty),1,16))(s:ByteArray)(c:UInt8)(w:World)(hs:s.size<4294967281) :
 Calls P (ρ.f 146) #[.string s,.string ⟨#[c]⟩] w fun e w'=>
  e=.returned (.slice (some ⟨w.heap.size,0,none⟩) (Lib.countB s ⟨#[c]⟩ + 1) (Lib.countB s ⟨#[c]⟩ + 1))∧w'=w.alloc (.cells ((Lib.splitB ⟨#[c]⟩ 0 (Lib.countB s ⟨#[c]⟩) s).map Value.string).toArray (ρ.t 9)):=by
 have h1:1≤(⟨#[c]⟩:ByteArray).size:=Nat.le_refl 1
 have hle:=Lib.countB_le ⟨#[c]⟩ h1 s.size s (Nat.le_refl _)
 have hlen:=Lib.splitB_all ⟨#[c]⟩ h1 0 _ s rfl
 have core:=Any.strings_genSplit_core { L with } hi9 s ⟨#[c]⟩ 0 (-1) (Lib.countB s ⟨#[c]⟩ + 1) w hs h1 (Nat.zero_le _)
  (fun x a hx=>(Any.strings_Index_one { L with } x c _).mono (by rintro e w' ⟨rfl,rfl⟩;exact ⟨by rw [←U1],rfl⟩))
  ((Any.strings_Count_one { L with } s c w).mono (by rintro e w' ⟨rfl,rfl⟩;exact ⟨by rw [show Lib.countB s ⟨#[c]⟩=s.data.toList.count c from Lib.count_one c _];rfl,rfl⟩))
  (by decide) (by decide) (by rw [if_pos (by decide)];omega)
 rw [Nat.add_sub_cancel,hlen] at core
 have e2:Lib.cellsOf (Lib.splitB ⟨#[c]⟩ 0 (Lib.countB s ⟨#[c]⟩) s) (Lib.countB s ⟨#[c]⟩ + 1)=((Lib.splitB ⟨#[c]⟩ 0 (Lib.countB s ⟨#[c]⟩) s).map Value.string).toArray:=by rw [←hlen];exact Lib.cellsOf_full _
 rw [e2] at core
 have t3:=L.t3;have t9:=L.t9;have t31:=L.t31
 have a3:=L.a3;have a9:=L.a9;have a31:=L.a31
 have z3:=L.z3;have v3:=L.v3;have z9:=L.z9;have v9:=L.v9;have z31:=L.z31;have v31:=L.v31
 have e221:∀args w,(callFunc (ρ.f 221) args).run P w=.ok (.enter (ρ.f 221) args) w:=enters_of L.f221 (by kernel_rfl) rfl
 go_enter L.f146,Body.n146_ntmps ρ
 go_wp2_with (go_at_fn (ρ.f 221);refine core.mono ?_;rintro e w' ⟨rfl,hw⟩;rw [hw])
 go_ret
 exact ⟨rfl,rfl⟩
end Go.Proofs
namespace Go.Vm
open Go.RowKit Go.Proofs
theorem split1_any (c:UInt8)(s:ByteArray)(hs:s.size≤1000000):AQ Tryz.prog 222 [.sc (.string s),.sc (.string ⟨#[c]⟩)] [.d (.row ((AA c s).map strD))]:=by
 refine TV (us:=[.string s,.string ⟨#[c]⟩]) (T:=9) (fun w=>?_)
 refine (split_byte Tryz.laysSplit (by kernel_rfl) s c w (by omega)).mono ?_
 rintro e w' ⟨rfl,rfl⟩
 have hl:=Lib.splitB_all ⟨#[c]⟩ (Nat.le_refl 1) 0 _ s rfl
 have hle:=Lib.countB_le ⟨#[c]⟩ (Nat.le_refl 1) s.size s (Nat.le_refl _)
 rw [splitW_lib] at hl ⊢
 refine ⟨_,rfl,?_,?_⟩
 ·have:=World.ownsRow_lit (base:=w.heap.size) (e:=9) (size:=1) w ((AA c s).map Value.string).toArray (AA c s).length (Nat.le_refl _) (by unfold maxLen;omega) (by simp)
  have e:((AA c s).map Value.string).toArray.toList=(AA c s).map Value.string:=by simp
  rw [e] at this
  rw [←hl]
  exact this
 ·exact (Below.refl _ _).alloc (Nat.le_refl _) _
theorem index1_any (c:UInt8)(s:ByteArray):AQ Tryz.prog 96 [.sc (.string s),.sc (.string ⟨#[c]⟩)] [.d (.sc (.int .i64 (Lib.index s.data.toList [c])))]:=by
 refine UT (us:=[.string s,.string ⟨#[c]⟩]) rfl (fun w=>?_)
 refine (Any.stringslite_Index_one Tryz.laysIndex s c w).mono ?_
 rintro e w' ⟨rfl,rfl⟩
 exact ⟨by rw [U1],Below.refl _ _⟩
theorem join_any (c:UInt8)(l:List ByteArray)(hl:l.length≤1000000)(hb:(GR c l).size≤100000000):AQ Tryz.prog 45 [.row (l.map strD),.sc (.string ⟨#[c]⟩)] [.d (.sc (.string (GR c l)))]:=by
 intro ro w vs τ h1 h2 h3 h4
 have hlen:(Lib.join (l.map (·.data.toList)) [c]).length≤281474976710656:=by
  rw [TS]
  have:(GR c l).size=(Jt c (l.map (·.data.toList))).length:=by rw [←FT,Tj]
  omega
 have hs2:vs.size=2:=by simpa using h3
 have r0:=h4 0 vs[0] (.row (l.map strD)) (by simp [hs2]) rfl
 have r1:=h4 1 vs[1] (.sc (.string ⟨#[c]⟩)) (by simp [hs2]) rfl
 have e1:=(EF r1).1
 have hvs:vs = #[vs[0],.string ⟨#[c]⟩]:=by
  apply Array.ext
  ·simp [hs2]
  ·intro i q1 q2
   match i,q1,q2 with
   | 0,_,_=>rfl
   | 1,_,_=>exact e1
 have fin:∀w',Below w.heap.size w w'→∃v ro',Ending.returned (Value.string (GR c l))=.returned v∧Grow ro ro' w w'∧BB Tryz.prog w.heap.size ro' (fun _=>0) w' 0 v (EI ([C.d (.sc (.string (GR c l)))].map (En τ))):=fun w' hb=>
  ⟨_,ro,rfl,QM h1.new hb,.sc rfl⟩
 rw [hvs]
 generalize vs[0] = v0 at r0 ⊢
 have empty:l= []→∀a cap,Calls Tryz.prog 45 #[.slice a 0 cap,.string ⟨#[c]⟩] w fun e w'=>∃v ro',e=.returned v∧Grow ro ro' w w'∧BB Tryz.prog w.heap.size ro' (fun _=>0) w' 0 v (EI ([C.d (.sc (.string (GR c l)))].map (En τ))):=fun hl a cap=>by
  refine (Any.strings_Join_none Tryz.laysJoin Tryz.VZ a cap ⟨#[c]⟩ w).mono ?_
  rintro e w' ⟨rfl,rfl⟩
  have:=fin _ (Below.refl _ _)
  rw [hl] at this ⊢
  exact this
 generalize hxs:l.map strD=xs at r0
 cases r0 with
 | nil hm=>exact empty (by simpa using hxs) _ _
 | row us hsz hlc hm hus hw ho hcell hrep=>
  subst hxs
  by_cases h0:l= []
  ·have:=empty h0
   rw [h0]
   rw [h0] at this
   exact this _ _
  ·rename_i b off cap sz
   have hw1:sz=1:=by
    cases l with
    | nil=>exact absurd rfl h0
    | cons a l=>exact (hw (strD a) (by simp)).symm
   subst hw1
   have hc:∀(j:Nat) x,l[j]? = some x→w.cell? ⟨b,off+j,none⟩=some (.string x):=fun j x hx=>by
    have hj:j<us.length:=by rw [hus,List.length_map,Nat.mul_one];exact (List.getElem?_eq_some_iff.1 hx).1
    have hu:=List.getElem?_eq_getElem hj
    have hr:=hrep j us[j] (strD x) hu (by rw [VE,List.getElem?_map,hx];rfl)
    rw [←(EF hr).1]
    exact (hcell j _ hu).1
   have hbk:b<w.heap.size:=by
    cases l with
    | nil=>exact absurd rfl h0
    | cons a l=>exact World.block_lt_of_cell? _ _ (hc 0 a rfl)
   have hlen2:(l.map strD).length=l.length:=by simp
   rw [hlen2]
   refine (Any.strings_Join_48 Tryz.laysJoin Tryz.VZ b off cap l ⟨#[c]⟩ w hc hbk (by omega) (by omega) hlen).mono ?_
   rintro e w' ⟨rfl,hb⟩
   have:=fin w' hb
   rw [show (⟨(Lib.join (l.map (·.data.toList)) (⟨#[c]⟩:ByteArray).data.toList).toArray⟩:ByteArray)=GR c l from congrArg mkB (TS _)]
   exact this
end Go.Vm
end
section
namespace Go.Vm
open Go.RowKit Go.Proofs
set_option maxRecDepth 10000
open Go.Proofs.YtdfbohaohjaloaaGreatDoor Punnet.Name Punnet.Num
theorem Dv (l:Array UInt8):(⟨l⟩:ByteArray).size=l.size:=rfl
theorem sct {a b:ByteArray}(h:a=b):D.sc (.string a)=D.sc (.string b):=by rw [h]
theorem AZ {w:List ByteArray}{n:Int}{i:Nat}(e:n.toNat=i)(h:i<w.length):(w.map strD)[n.toNat]? = some (strD (wd w i)):=by
 rw [e,List.getElem?_map,List.getElem?_eq_getElem h]
 simp [wd,h]
theorem A7 {c:UInt8}{s:ByteArray}:0<(AA c s).length:=List.length_pos_iff.2 (splitW_ne s)
theorem Wj {r:Bv}(h:BF r=true):r.group.size≤12∧r.name.size≤12:=⟨(VM h).2.1,(VM h).2.2⟩
theorem Cb (r:Bv):AQ Tryz.prog 134 [rD r] [.d (.sc (.string (if BF r=true then BJ r else ⟨#[63]⟩)))]:=by
 refine T.fn [] Tryz.func134 ?_
 refine Ar T.Nv (Dc r) ?_
 refine br (fun hc1=>?y1) (fun hc1=>?n1)
 case' y1=>
  have hp:BF r=false:=hc1
 case' n1=>
  have hp:BF r=true:=hc1
  have hsz:=Wj hp
  refine br (fun hc2=>?y2) (fun hc2=>?n2)
  case' y2=>
   refine br (fun hc3=>?y3) (fun hc3=>?n3)
   case' y3=>
    refine EP ?_ (h:=by ((simp only [ByteArray.size_append,Dv,List.size_toArray,List.length_cons,List.length_nil];omega)))
    refine EP ?_ (h:=by ((simp only [ByteArray.size_append,Dv,List.size_toArray,List.length_cons,List.length_nil];omega)))
    refine EP ?_ (h:=by ((simp only [ByteArray.size_append,Dv,List.size_toArray,List.length_cons,List.length_nil];omega)))
    refine EP ?_ (h:=by ((simp only [ByteArray.size_append,Dv,List.size_toArray,List.length_cons,List.length_nil];omega)))
   case' n3=>
    refine EP ?_ (h:=by ((simp only [ByteArray.size_append,Dv,List.size_toArray,List.length_cons,List.length_nil];omega)))
    refine EP ?_ (h:=by ((simp only [ByteArray.size_append,Dv,List.size_toArray,List.length_cons,List.length_nil];omega)))
  case' n2=>
   refine br (fun hc4=>?y4) (fun hc4=>?n4)
   case' y4=>
    refine EP ?_ (h:=by ((simp only [ByteArray.size_append,Dv,List.size_toArray,List.length_cons,List.length_nil];omega)))
    refine EP ?_ (h:=by ((simp only [ByteArray.size_append,Dv,List.size_toArray,List.length_cons,List.length_nil];omega)))
    refine EP ?_ (h:=by ((simp only [ByteArray.size_append,Dv,List.size_toArray,List.length_cons,List.length_nil];omega)))
    refine EP ?_ (h:=by ((simp only [ByteArray.size_append,Dv,List.size_toArray,List.length_cons,List.length_nil];omega)))
   case' n4=>
    refine EP ?_ (h:=by ((simp only [ByteArray.size_append,Dv,List.size_toArray,List.length_cons,List.length_nil];omega)))
    refine EP ?_ (h:=by ((simp only [ByteArray.size_append,Dv,List.size_toArray,List.length_cons,List.length_nil];omega)))
 all_goals (refine CV ?_;simp only [Bq,fits,C.asD,and_true]<;>(first | (rw [if_neg (by rw [hp];decide)];done) | (rw [if_pos hp];first | rfl | (refine sct (GI ?_);simp_all [ba_app,BJ,JS,FU,EZ];done))))
theorem QQ (r:Bv):AQ Tryz.prog 139 [rD r] [.d (.sc (.string (if BF r=true then BJ r else ⟨#[63]⟩)))]:=by
 refine T.fn [] Tryz.func139 ?_
 refine Ar T.Px (Pz r) ?_
 refine br (fun hc1=>?y1) (fun hc1=>?n1)
 case' y1=>
  have hp:BF r=false:=hc1
 case' n1=>
  have hp:BF r=true:=hc1
  have hsz:=Wj hp
  refine br (fun hc2=>?y2) (fun hc2=>?n2)
  case' y2=>
   refine br (fun hc3=>?y3) (fun hc3=>?n3)
   case' y3=>
    refine EP ?_ (h:=by ((simp only [ByteArray.size_append,Dv,List.size_toArray,List.length_cons,List.length_nil];omega)))
    refine EP ?_ (h:=by ((simp only [ByteArray.size_append,Dv,List.size_toArray,List.length_cons,List.length_nil];omega)))
    refine EP ?_ (h:=by ((simp only [ByteArray.size_append,Dv,List.size_toArray,List.length_cons,List.length_nil];omega)))
   case' n3=>
    refine EP ?_ (h:=by ((simp only [ByteArray.size_append,Dv,List.size_toArray,List.length_cons,List.length_nil];omega)))
  case' n2=>
   refine br (fun hc4=>?y4) (fun hc4=>?n4)
   case' y4=>
    refine EP ?_ (h:=by ((simp only [ByteArray.size_append,Dv,List.size_toArray,List.length_cons,List.length_nil];omega)))
    refine EP ?_ (h:=by ((simp only [ByteArray.size_append,Dv,List.size_toArray,List.length_cons,List.length_nil];omega)))
    refine EP ?_ (h:=by ((simp only [ByteArray.size_append,Dv,List.size_toArray,List.length_cons,List.length_nil];omega)))
   case' n4=>
    refine EP ?_ (h:=by ((simp only [ByteArray.size_append,Dv,List.size_toArray,List.length_cons,List.length_nil];omega)))
 all_goals (refine CV ?_;simp only [Bq,fits,C.asD,and_true]<;>(first | (rw [if_neg (by rw [hp];decide)];done) | (rw [if_pos hp];first | rfl | (refine sct (GI ?_);simp_all [ba_app,BJ,JS,FU,EZ];done))))
end Go.Vm
end
section
namespace Go.Proofs.YtdfbohaohjaloaaGreatDoor
set_option maxRecDepth 10000
open Go.RowKit Punnet.Num
theorem piece_any (s:ByteArray)(w:World)(hs:s.size≤maxLen) :
 Calls Tryz.prog 51 #[.string s] w fun e w'=>e=.returned (.int .i64 (ED s.data.toList))∧Below w.heap.size w w':=by
 unfold maxLen at hs
 go_enter Tryz.func51,Tryz.ntmps51
 go_wp2
 go_loopw [3,4] (fun e d wr=>∃k D E:Nat,wr=w.iter s k∧k≤s.size∧d=.int .i64 D∧e=.int .i64 E∧D≤k∧Gn s.data.toList k D E) (fun _ _ wr=>s.size-wr.iterPos w.heap.size)
 case atStart=>exact ⟨0,0,0,rfl,Nat.zero_le _,rfl,rfl,Nat.le_refl _,Gn.start _⟩
 case round=>
  obtain ⟨k,D,E,rfl,hk,rfl,rfl,hD,hi⟩:=hrel
  have HI:=Lib.hid hi
  clear hi
  have hiter:∀p,Below w.heap.size w (w.iter s p):=fun p=>(Below.refl _ _).alloc (Nat.le_refl _) _
  by_cases hlt:k<s.size
  ·have hg:=Ez s k hlt
   have hll:k<s.data.toList.length:=by simpa using hlt
   by_cases hm:k=0∧s[k].toNat=45
   ·obtain ⟨rfl,hm⟩:=hm
    have HS:=Lib.hid (Gn.skip HI.out hll (by rw [hg];exact hm))
    have hnx:=fun ty=>run_next_ascii (P:=Tryz.prog) w s 0 ty hlt (by omega)
    have hm':((s[0].toNat:Int)==45)=true:=by rw [hm];rfl
    clear hm hg
    go_wp2
    go_roundw
    case rel=>exact ⟨1,D,E,rfl,by omega,rfl,rfl,by omega,HS.out⟩
    case measure=>simp;omega
   ·by_cases hd:48≤s[k].toNat∧s[k].toNat≤57
    ·obtain ⟨hd1,hd2⟩:=hd
     have HS:=Lib.hid (Gn.more HI.out hll (by rw [hg];exact hd1) (by rw [hg];exact hd2))
     have hnx:=fun ty=>run_next_ascii (P:=Tryz.prog) w s k ty hlt (by omega)
     generalize s[k].toNat=b at *
     have hm':((b:Int)==45)=false:=by simp;omega
     clear hm hg
     by_cases hk0:k=0
     ·subst hk0
      go_wp2
      go_roundw
      case rel=>exact ⟨1,D+1,1,rfl,by omega,by go_num,rfl,by omega,HS.out⟩
      case measure=>simp;omega
     ·have hk0':((k:Int)==0)=false:=by simp;omega
      go_wp2
      go_roundw
      case rel=>exact ⟨k+1,D+1,k+1,rfl,by omega,by go_num,by go_num,by omega,HS.out⟩
      case measure=>simp;omega
    ·have HS:=Lib.hid (Gn.stop HI.out (fun h=>by rw [hg];exact ⟨hd,hm⟩))
     obtain ⟨r,p,hnx,hr⟩:∃(r:Int) (p:Nat),(∀ty,(Instr.next (.pointer (some ⟨w.heap.size,0,none⟩)) true ty).run Tryz.prog (w.iter s k)=.ok (.tuple #[.bool true,.int .i64 k,.int .i32 r]) (w.iter s p))∧(r<48∨57<r)∧¬(k=0∧r=45):=by
      by_cases ha:s[k].toNat<128
      ·exact ⟨_,_,fun ty=>run_next_ascii (P:=Tryz.prog) w s k ty hlt ha,by omega,by omega⟩
      ·have:=decode_high s k hlt (by omega)
       exact ⟨_,_,fun ty=>run_next_any (P:=Tryz.prog) w s k ty hlt,by omega,by omega⟩
     obtain ⟨hr,hr2⟩:=hr
     clear hg hd hm
     have key:(k=0∧(r==45)=false)∨((k:Int)==0)=false:=by
      by_cases hk0:k=0
      ·exact .inl ⟨hk0,by simp;omega⟩
      ·exact .inr (by simp;omega)
     by_cases hD0:D=0
     ·subst hD0
      rcases key with ⟨rfl,hr45⟩ | hk0
      all_goals
       rcases hr with hr | hr
       all_goals
        go_wp2
        go_ret
        exact ⟨J8 (by rw [HS.out];rfl),hiter _⟩
     ·have hD0':((D:Int)==0)=false:=by simp;omega
      rcases key with ⟨rfl,hr45⟩ | hk0
      ·exact absurd hD (by omega)
      rcases hr with hr | hr
      all_goals
       go_wp2
       go_ret
       exact ⟨J8 (by rw [HS.out,if_neg hD0]),hiter _⟩
  ·have HS:=Lib.hid (Gn.stop HI.out (fun h=>absurd h (by simp;omega)))
   have hnx:=fun ty=>run_next_end (P:=Tryz.prog) w s k ty hlt
   by_cases hD0:D=0
   ·subst hD0
    go_wp2
    go_ret
    exact ⟨J8 (by rw [HS.out];rfl),hiter _⟩
   ·have hD0':((D:Int)==0)=false:=by simp;omega
    go_wp2
    go_ret
    exact ⟨J8 (by rw [HS.out,if_neg hD0]),hiter _⟩
end Go.Proofs.YtdfbohaohjaloaaGreatDoor
end
section
namespace Go.Proofs.YtdfbohaohjaloaaGreatDoor
set_option maxRecDepth 10000
open Go.RowKit Punnet.Num
theorem valueOf_pos {s:ByteArray}(h0:0<s.size)(hb:s[0].toNat≠45):valueOf s.data.toList=if s[0].toNat=48∧1<s.size then (0,4) else if 9223372036854775807<Bo s.data.toList then (0,3) else ((Bo s.data.toList:Int),0):=by
 have hl:0<s.data.toList.length:=by simpa using h0
 have hn:neg s.data.toList=0:=NC hl (by rw [Ez s 0 h0];exact hb)
 have hh:s.data.toList.head? = some s[0]:=by
  rw [List.head?_eq_getElem?,List.getElem?_eq_getElem hl,Ez s 0 h0]
 have e:(s[0] = 48)↔s[0].toNat=48:=by rw [←UInt8.toNat_inj];rfl
 have hsz:s.data.toList.length=s.size:=by simp
 simp only [valueOf,hn,List.drop_zero,hh,Option.some.injEq,e,hsz,Nat.zero_ne_one,false_or,if_false]
theorem valueOf_neg {s:ByteArray}(h0:1<s.size)(hb:s[0].toNat=45):valueOf s.data.toList=if s[1].toNat=48 then (0,4) else if 9223372036854775808<Bo (s.extract 1 s.size).data.toList then (0,3) else (-(Bo (s.extract 1 s.size).data.toList:Int),0):=by
 have hl:1<s.data.toList.length:=by simpa using h0
 have hn:neg s.data.toList=1:=RZ (by omega) (by rw [Ez s 0 (by omega)];exact hb)
 have hd:(s.extract 1 s.size).data.toList=s.data.toList.drop 1:=Lib.extract_to_end s 1
 have hh:(s.data.toList.drop 1).head? = some s[1]:=by
  rw [List.head?_eq_getElem?,List.getElem?_drop,List.getElem?_eq_getElem hl,Ez s 1 h0]
 have e:(s[1] = 48)↔s[1].toNat=48:=by rw [←UInt8.toNat_inj];rfl
 simp only [valueOf,hn,hd,hh,Option.some.injEq,e,true_or,and_true,if_true]
theorem neg_sum (S:Nat)(h:S≤9223372036854775808):wrap64 (wrap64 (-wrap64 (IntKind.u64.wrap ((S:Int)-1)))-1) = -(S:Int):=by
 simp only [wrap64,IntKind.wrap_u64]
 omega
theorem value_pos (s:ByteArray)(w:World)(hs:s.size≤maxLen)(h0:0<s.size)(hd:∀k (h:k<s.size),48≤s[k].toNat∧s[k].toNat≤57) :
 Calls Tryz.prog 52 #[.string s] w fun e w'=>e=.returned (.tuple #[.int .i64 (valueOf s.data.toList).1,.int .i64 (valueOf s.data.toList).2])∧Below w.heap.size w w':=by
 unfold maxLen at hs
 have H0:=hd 0 h0
 have HV:=Lib.hid (valueOf_pos h0 (by omega))
 have b45:((s[0].toNat:Int)==45)=false:=by simp;omega
 have HD:=Lib.hid hd
 clear hd
 have h0':(0:Int)<s.size:=by omega
 by_cases hz:s[0].toNat=48∧1<s.size
 ·have HV':=Lib.hid (HV.out.trans (if_pos hz))
  obtain ⟨hz,h1⟩:=hz
  have b48:((s[0].toNat:Int)==48)=true:=by simp;omega
  have h1':(1:Int)<s.size:=by omega
  clear hz
  go_enter Tryz.func52,Tryz.ntmps52
  go_wp2
  go_ret2
  exact ⟨Ia (by rw [HV'.out]),Below.refl _ _⟩
 ·have HV':=Lib.hid (HV.out.trans (if_neg hz))
  have key:((s[0].toNat:Int)==48)=false∨(((s[0].toNat:Int)==48)=true∧(s.size:Int)≤1):=by
   by_cases e:s[0].toNat=48
   ·exact .inr ⟨by simp;omega,by omega⟩
   ·exact .inl (by simp;omega)
  clear hz HV
  have hiter:∀p,Below w.heap.size w (w.iter s p):=fun p=>(Below.refl _ _).alloc (Nat.le_refl _) _
  rcases key with b48 | ⟨b48,h1⟩
  all_goals
   go_enter Tryz.func52,Tryz.ntmps52
   go_wp2
   go_loopw [7] (fun v wr=>∃k S:Nat,wr=w.iter s k∧k≤s.size∧v=.int .u64 S∧S≤9223372036854775807∧S=Bo (s.data.toList.take k)) (fun _ wr=>s.size-wr.iterPos w.heap.size)
   case atStart=>exact ⟨0,0,rfl,Nat.zero_le _,rfl,by omega,rfl⟩
   case round=>
    obtain ⟨k,S,rfl,hk,rfl,hS,hn⟩:=hrel
    by_cases hlt:k<s.size
    ·have hg:=Ez s k hlt
     have hll:k<s.data.toList.length:=by simpa using hlt
     have HT:=Lib.hid (U7 hll)
     have hdk:=HD.out k hlt
     have hnx:=fun ty=>run_next_ascii (P:=Tryz.prog) w s k ty hlt (by omega)
     rw [hg,←hn] at HT
     have HN:=Lib.hid hn
     clear hg hn
     generalize s[k].toNat=b at *
     by_cases hov:10*S+(b-48)≤9223372036854775807
     ·have hov':(S:Int)≤(9223372036854775807-((b:Int)-48)) / 10:=by omega
      go_wp2
      go_roundw
      case rel=>exact ⟨k+1,10*S+(b-48),rfl,by omega,by go_num,by omega,HT.out.symm⟩
      case measure=>simp;omega
     ·have hov':(9223372036854775807-((b:Int)-48)) / 10<(S:Int):=by omega
      have HV2:=Lib.hid (HV'.out.trans (if_pos (by have:=Um s.data.toList (k+1);have:=HT.out;omega)))
      go_wp2
      go_ret2
      exact ⟨Ia (by rw [HV2.out]),hiter _⟩
    ·have HN:=Lib.hid hn
     have HV2:=Lib.hid (HV'.out.trans (if_neg (by rw [hn] at hS;rw [List.take_of_length_le (by simp;omega)] at hS;omega)))
     clear hn
     have hnx:=fun ty=>run_next_end (P:=Tryz.prog) w s k ty hlt
     go_wp2
     go_ret2
     exact ⟨Ia (by rw [HV2.out,HN.out,List.take_of_length_le (by simp;omega)]),hiter _⟩
theorem value_neg (s:ByteArray)(w:World)(hs:s.size≤maxLen)(h0:1<s.size)(hb:s[0].toNat=45)(hd:∀k (h:k<s.size),0<k→48≤s[k].toNat∧s[k].toNat≤57) :
 Calls Tryz.prog 52 #[.string s] w fun e w'=>e=.returned (.tuple #[.int .i64 (valueOf s.data.toList).1,.int .i64 (valueOf s.data.toList).2])∧Below w.heap.size w w':=by
 unfold maxLen at hs
 have hv:=valueOf_neg h0 hb
 have b45:((s[0].toNat:Int)==45)=true:=by simp;omega
 obtain ⟨t,ht⟩:∃t,s.extract 1 s.size=t:=⟨_,rfl⟩
 have hts:t.size=s.size-1:=by rw [←ht];simp
 have htg:∀k (h:k<t.size),t[k] = s[1+k]:=by subst ht;intro k h;rw [ByteArray.getElem_extract]
 rw [ht] at hv
 have t0:0<t.size:=by omega
 rw [←htg 0 t0] at hv
 have HV:=Lib.hid hv
 have hdt:∀k (h:k<t.size),48≤t[k].toNat∧t[k].toNat≤57:=fun k h=>by rw [htg k h];exact hd _ _ (by omega)
 have HD:=Lib.hid hdt
 have h0':(0:Int)<s.size:=by omega
 have h1':(1:Int)≤s.size:=by omega
 have t0':(0:Int)<t.size:=by omega
 have tm:t.size≤9223372036854775807:=by omega
 clear hd hb hv hts htg hdt
 by_cases hz:t[0].toNat=48
 ·have HV':=Lib.hid (HV.out.trans (if_pos hz))
  have b48:((t[0].toNat:Int)==48)=true:=by simp;omega
  clear hz
  go_enter Tryz.func52,Tryz.ntmps52
  go_wp2
  go_ret2
  exact ⟨Ia (by rw [HV'.out]),Below.refl _ _⟩
 ·have HV':=Lib.hid (HV.out.trans (if_neg hz))
  have b48:((t[0].toNat:Int)==48)=false:=by simp;omega
  clear hz HV
  have hiter:∀p,Below w.heap.size w (w.iter t p):=fun p=>(Below.refl _ _).alloc (Nat.le_refl _) _
  go_enter Tryz.func52,Tryz.ntmps52
  go_wp2
  go_loopw [7] (fun v wr=>∃k S:Nat,wr=w.iter t k∧k≤t.size∧v=.int .u64 S∧S≤9223372036854775808∧S=Bo (t.data.toList.take k)) (fun _ wr=>t.size-wr.iterPos w.heap.size)
  case atStart=>exact ⟨0,0,rfl,Nat.zero_le _,rfl,by omega,rfl⟩
  case round=>
   obtain ⟨k,S,rfl,hk,rfl,hS,hn⟩:=hrel
   by_cases hlt:k<t.size
   ·have hg:=Ez t k hlt
    have hll:k<t.data.toList.length:=by simpa using hlt
    have HT:=Lib.hid (U7 hll)
    have hdk:=HD.out k hlt
    have hnx:=fun ty=>run_next_ascii (P:=Tryz.prog) w t k ty hlt (by omega)
    rw [hg,←hn] at HT
    have HN:=Lib.hid hn
    clear hg hn ht
    generalize t[k].toNat=b at *
    by_cases hov:10*S+(b-48)≤9223372036854775808
    ·have hov':(S:Int)≤(9223372036854775808-((b:Int)-48)) / 10:=by omega
     go_wp2
     go_roundw
     case rel=>exact ⟨k+1,10*S+(b-48),rfl,by omega,by go_num,by omega,HT.out.symm⟩
     case measure=>simp;omega
    ·have hov':(9223372036854775808-((b:Int)-48)) / 10<(S:Int):=by omega
     have HV2:=Lib.hid (HV'.out.trans (if_pos (by have:=Um t.data.toList (k+1);have:=HT.out;omega)))
     go_wp2
     go_ret2
     exact ⟨Ia (by rw [HV2.out]),hiter _⟩
   ·have HN:=Lib.hid hn
    have HV2:=Lib.hid (HV'.out.trans (if_neg (by rw [hn] at hS;rw [List.take_of_length_le (by simp;omega)] at hS;omega)))
    clear hn ht
    have hnx:=fun ty=>run_next_end (P:=Tryz.prog) w t k ty hlt
    go_wp2
    go_ret2
    refine ⟨Ia ?_,hiter _⟩
    rw [HV2.out,←List.take_of_length_le (l:=t.data.toList) (i:=k) (by simp;omega),←HN.out]
    rw [neg_sum S hS]
theorem piece_whole {s:ByteArray}(h0:0<s.size)(hp:ED s.data.toList=s.size) :
 (s[0].toNat≠45∧∀k (h:k<s.size),48≤s[k].toNat∧s[k].toNat≤57)∨(s[0].toNat=45∧1<s.size∧∀k (h:k<s.size),0<k→48≤s[k].toNat∧s[k].toNat≤57):=by
 have hl:0<s.data.toList.length:=by simpa using h0
 have hall:∀k (h:k<s.size),neg s.data.toList≤k→48≤s[k].toNat∧s[k].toNat≤57:=by
  intro k h hk
  have:=Xl (l:=s.data.toList) (by simpa using hp) hl k (by simpa using h) hk
  rw [Ez s k h] at this
  simpa [dig] using this
 by_cases hb:s[0].toNat=45
 ·have hn:neg s.data.toList=1:=RZ hl (by rw [Ez s 0 h0];exact hb)
  refine .inr ⟨hb,?_,fun k h hk=>hall k h (by omega)⟩
  have:=piece_gt (l:=s.data.toList) (by simpa using hp) hl
  rw [hn] at this
  simpa using this
 ·have hn:neg s.data.toList=0:=NC hl (by rw [Ez s 0 h0];exact hb)
  exact .inl ⟨hb,fun k h=>hall k h (by omega)⟩
theorem value_any (s:ByteArray)(w:World)(hs:s.size≤maxLen)(h0:0<s.size)(hp:ED s.data.toList=s.size) :
 Calls Tryz.prog 52 #[.string s] w fun e w'=>e=.returned (.tuple #[.int .i64 (valueOf s.data.toList).1,.int .i64 (valueOf s.data.toList).2])∧Below w.heap.size w w':=by
 rcases piece_whole h0 hp with ⟨_,hd⟩ | ⟨hb,h1,hd⟩
 ·exact value_pos s w hs h0 hd
 ·exact value_neg s w hs h1 hb hd
end Go.Proofs.YtdfbohaohjaloaaGreatDoor
end
section
namespace Go.Proofs.YtdfbohaohjaloaaGreatDoor
set_option maxRecDepth 10000
open Go.RowKit Punnet.Num
set_option maxHeartbeats 400000 in
theorem read_any (s:ByteArray)(w:World)(hs:s.size≤maxLen) :
 Calls Tryz.prog 23 #[.string s] w fun e w'=>e=.returned (.tuple #[.int .i64 (BO s.data.toList).1,.int .i64 (BO s.data.toList).2])∧Below w.heap.size w w':=by
 have hlen:s.data.toList.length=s.size:=by simp
 have HP:=Lib.hid (piece_any s w hs)
 have HR:=Lib.hid (show BO s.data.toList=if ED s.data.toList=0∨ED s.data.toList≠s.size then (0,4) else valueOf s.data.toList by rw [BO,hlen])
 have HA:=Lib.hid (fun w1=>value_any s w1 hs)
 have hm:s.size≤9223372036854775807:=by unfold maxLen at hs;omega
 have hle:ED s.data.toList≤s.size:=by rw [←hlen];exact pieceLen_le _
 clear hlen hs
 generalize BO s.data.toList=R at *
 generalize hv:valueOf s.data.toList=v at *
 have HV:=Lib.hid hv
 clear hv
 generalize hp:ED s.data.toList=p at *
 have HPE:=Lib.hid hp
 clear hp
 by_cases h0:p=0
 ·have HR':=Lib.hid (HR.out.trans (if_pos (.inl h0)))
  subst h0
  go_enter Tryz.func23,Tryz.ntmps23
  go_wp2_with (go_at_call 51;refine HP.out.mono ?_;rintro e w1 ⟨rfl,hb1⟩)
  go_ret2
  exact ⟨Ia (by rw [HR'.out]),hb1⟩
 ·have b0:((p:Int)==0)=false:=by simp;omega
  by_cases h1:p=s.size
  ·have HR':=Lib.hid (HR.out.trans (if_neg (by omega)))
   have b1:((p:Int) != (s.size:Int))=false:=by simp;omega
   have H0:0<s.size:=by omega
   have HA':=Lib.hid (fun w1=>HA.out w1 H0 h1)
   clear h1 HA
   go_enter Tryz.func23,Tryz.ntmps23
   go_wp2_with (first | (go_at_call 51;refine HP.out.mono ?_;rintro e w1 ⟨rfl,hb1⟩) | (go_at_call 52;refine (HA'.out _).mono ?_;rintro e w2 ⟨rfl,hb2⟩))
   go_ret2
   exact ⟨Ia (by rw [HR'.out]),Q8 hb1 hb2⟩
  ·have HR':=Lib.hid (HR.out.trans (if_pos (.inr h1)))
   have b1:((p:Int) != (s.size:Int))=true:=by simp;omega
   clear h1
   go_enter Tryz.func23,Tryz.ntmps23
   go_wp2_with (go_at_call 51;refine HP.out.mono ?_;rintro e w1 ⟨rfl,hb1⟩)
   go_ret2
   exact ⟨Ia (by rw [HR'.out]),hb1⟩
end Go.Proofs.YtdfbohaohjaloaaGreatDoor
end
section
namespace Go.Proofs.YtdfbohaohjaloaaGreatDoor
set_option maxRecDepth 10000
open Go.RowKit Punnet.Num
def PrintJ (n:Int)(m:Nat)(w:World)(a':Act)(w':World):Prop:=
 ∃(left k:Nat) (tail:List UInt8) (A:Array Value) (u6 u7 u8 u9 u10 u11 u12 u13 u14 u15 u16 u17 u18 u19 u20 u21 u22 u23:Value),
  a' = { tmps:=#[.int .i64 n,undef,.string ⟨#[]⟩,.pointer (some ⟨w.heap.size,0,none⟩),.int .i64 ((k:Int)+1+1),.int .u64 (left:Int),u6,u7,u8,u9,u10,u11,u12,u13,u14,u15,u16,u17,u18,u19,u20,u21,u22,u23,undef,undef,undef,undef,undef,undef,undef,undef,undef],defers:=[] } ∧
  w'=w.alloc (.cells A 107)∧A.size=20∧k+2+tail.length=20∧(∀j (h:j<tail.length),A[k+2+j]? = some (.int .u8 (tail[j].toNat:Int))) ∧
  left<10 ^ (k+1)∧left<18446744073709551616∧BH m=BH left++tail
theorem TQ {A:Array Value}{tail:List UInt8}{k:Nat}(hA:A.size=20)(hk:k+1+tail.length=20)(hc:∀j (h:j<tail.length),A[k+1+j]? = some (.int .u8 (tail[j].toNat:Int)))
 (d:UInt8) (n:Int) (hn:n=d.toNat) :
 ∀j (h:j<(d::tail).length),(A.setIfInBounds k (.int .u8 n))[k+j]? = some (.int .u8 ((d::tail)[j].toNat:Int)):=by
 intro j h
 cases j with
 | zero=>
  have:k<A.size:=by omega
  simp [hn,this]
 | succ j=>
  have h':j<tail.length:=by simpa using h
  rw [Array.getElem?_setIfInBounds,if_neg (by omega),show k+(j+1)=k+1+j by omega,hc j h']
  rfl
theorem V3 (m:Nat):(48+(m:Int) % 10)=((UInt8.ofNat (48+m % 10)).toNat:Int):=by
 rw [UInt8.toNat_ofNat']
 omega
theorem WX (b:Nat)(W:World)(z:Int)(k:Nat)(hz:z=k)(hk:k<20)(n:Nat)(hn:n=20-k) :
 (Instr.sliceAt 107 (.pointer (some ⟨b,0,none⟩)) (some (.int .i64 z)) none none).run Tryz.prog W=.ok (.slice (some ⟨b,k,none⟩) n n) W:=by
 subst hz hn
 have h:Tryz.prog.arrayLen 107=20:=by kernel_rfl
 have hs:∀w,(Go.sizeOf (Tryz.prog.elem 107)).run Tryz.prog w=.ok 1 w:=fun _=>by kernel_rfl
 have ht:Tryz.prog.underlying 107=some (.array (Tryz.prog.arrayLen 107) (Tryz.prog.elem 107)):=by kernel_rfl
 rw [run_sliceAt_array_l W _ _ ht .i64 k (by omega) (by omega),hs,h]
 have e:(⟨b,0,none⟩:Addr).add k=⟨b,k,none⟩:=by unfold Addr.add;split<;>simp_all
 simp only [Result.andThen_ok,slicedAt,Int.toNat_natCast,Nat.mul_one,e]
 rw [if_neg (by omega)]
theorem U4 (w:World)(A:Array Value)(l:List UInt8)(k n:Nat)(hn:n=l.length)(hc:∀j (h:j<l.length),A[k+j]? = some (.int .u8 (l[j].toNat:Int))) :
 (convert 109 9 (.slice (some ⟨w.heap.size,k,none⟩) n n)).run Tryz.prog (w.alloc (.cells A 107))=.ok (.string ⟨l.toArray⟩) (w.alloc (.cells A 107)):=by
 subst hn
 refine run_convert_bytes_back _ 109 9 5 _ _ l Tryz.underlying109 Tryz.underlying5 Tryz.underlying9 fun j hj=>?_
 have e:(⟨w.heap.size,k,none⟩:Addr).add j=⟨w.heap.size,k+j,none⟩:=by unfold Addr.add;split<;>simp_all
 rw [←hc j hj,e,World.cell?_alloc_new]
theorem Xa {n:Int}{m left k:Nat}{tail:List UInt8}{A:Array Value}(w:World)(hl64:left<18446744073709551616)(h10:¬left<10)(hA:A.size=20)(hk:k+2+tail.length=20)
 (hc:∀j (h:j<(UInt8.ofNat (48+left % 10)::tail).length),(A.setIfInBounds (k+1) (.int .u8 (48+(left:Int) % 10)))[k+1+j]? = some (.int .u8 ((UInt8.ofNat (48+left % 10)::tail)[j].toNat:Int)))
 (hl:left<10 ^ (k+1)) (hd:BH m=BH left++tail) {u6 u7 u8 u9 u10 u11 u12 u13 u14 u15 u16 u17 u18 u19 u20 u21 u22 u23:Value} :
 PrintJ n m w { tmps:=#[.int .i64 n,undef,.string ⟨#[]⟩,.pointer (some ⟨w.heap.size,0,none⟩),.int .i64 ((k:Int)+1),.int .u64 ((left:Int) / 10),u6,u7,u8,u9,u10,u11,u12,u13,u14,u15,u16,u17,u18,u19,u20,u21,u22,u23,undef,undef,undef,undef,undef,undef,undef,undef,undef],defers:=[] } (w.alloc (.cells (A.setIfInBounds (k+1) (.int .u8 (48+(left:Int) % 10))) 107)):=by
 have hk1:1≤k:=by
  rcases Nat.eq_zero_or_pos k with rfl | h
  ·simp at hl;omega
  ·exact h
 obtain ⟨j,rfl⟩:∃j,k=j+1:=⟨k-1,by omega⟩
 refine ⟨left / 10,j,UInt8.ofNat (48+left % 10)::tail,_,u6,u7,u8,u9,u10,u11,u12,u13,u14,u15,u16,u17,u18,u19,u20,u21,u22,u23,rfl,rfl,by simpa using hA,by simp;omega,hc,?_,by omega,?_⟩
 ·rw [Nat.div_lt_iff_lt_mul (by omega)];exact hl
 ·rw [hd,NQ h10];simp
set_option maxHeartbeats 400000 in
theorem print_neg (n:Int)(w:World)(h0:n<0)(h1 : -9223372036854775808≤n) :
 Calls Tryz.prog 24 #[.int .i64 n] w fun e w'=>e=.returned (.string ⟨(print n).toArray⟩)∧Below w.heap.size w w':=by
 have hwr:IntKind.u64.wrap (-IntKind.u64.wrap n)=(n.natAbs:Int):=by simp only [IntKind.wrap_u64];omega
 go_enter Tryz.func24,Tryz.ntmps24
 go_wp2
 refine Vp 0 (PrintJ n n.natAbs w) (fun a' _=>(intOf (a'.tmps.getD 5 undef)).toNat) rfl ?_ ?_
 ·rintro a' w' ⟨left,k,tail,A,u6,u7,u8,u9,u10,u11,u12,u13,u14,u15,u16,u17,u18,u19,u20,u21,u22,u23,rfl,rfl,hA,hk,hc,hl,hl64,hd⟩
  clear hwr
  have hk20:k<19:=by omega
  have hts:=TQ (k:=k+1) hA hk hc (UInt8.ofNat (48+left % 10)) _ (V3 left)
  obtain ⟨v0,hv0⟩:∃v,A[k+1]? = some v:=⟨_,Array.getElem?_eq_getElem (by omega)⟩
  by_cases h10:left<10
  ·have h10':(left:Int) / 10=0:=by omega
   obtain ⟨v1,hv1⟩:∃v,(A.setIfInBounds (k+1) (Value.int IntKind.u8 (48 + ↑left % 10)))[k]? = some v:=⟨_,Array.getElem?_eq_getElem (by simp;omega)⟩
   have hts2:=TQ (k:=k) (A:=A.setIfInBounds (k+1) (Value.int IntKind.u8 (48 + ↑left % 10))) (by simp [hA]) (by simp;omega) hts 45 45 rfl
   obtain ⟨N,hN⟩:∃N,N=20-k:=⟨_,rfl⟩
   have hsl:=fun b W=>WX b W k k rfl (by omega) N hN
   have hcv:=U4 w _ _ k N (by simp;omega) hts2
   clear hN
   have HD:=Lib.hid (show print n=45::UInt8.ofNat (48+left % 10)::tail by
    rw [print,if_pos h0,hd,JF h10,Nat.mod_eq_of_lt h10];rfl)
   clear hA hk hc hl hd hts hts2
   generalize (45::UInt8.ofNat (48+left % 10)::tail)=L at hcv HD
   go_wp2
   simp only [Exit.jump]
   go_ret
   refine ⟨by rw [HD.out];rfl,(Below.refl _ _).alloc (Nat.le_refl _) _⟩
  ·have h10':0<(left:Int) / 10:=by omega
   have HA:=Lib.hid hA
   have HK:=Lib.hid hk
   have HC:=Lib.hid hts
   have HLE:=Lib.hid hl
   have HD:=Lib.hid hd
   clear hA hk hc hl hd hts
   go_wp2
   go_step3
   refine ⟨rfl,?_,?_⟩
   ·exact Xa w (by omega) h10 HA.out HK.out HC.out HLE.out HD.out
   ·simp [intOf]
    omega
 intro HL
 go_wp2
 go_step3
 refine (‹∀(a:Act) (w:World),Code.wp _ _ _ a w→_› : _) _ _ (HL.out _ _ ?_)
 have hdv:(n.natAbs)<10 ^ 19:=by
  have:n.natAbs≤9223372036854775808:=by omega
  exact Nat.lt_of_le_of_lt this (by decide)
 exact ⟨n.natAbs,18,[],_,_,_,_,_,_,_,_,_,_,_,_,_,_,_,_,_,_,_,rfl,rfl,rfl,rfl,fun j h=>absurd h (by simp),hdv,by omega,by simp⟩
set_option maxHeartbeats 400000 in
theorem print_pos (n:Int)(w:World)(h0:¬n<0)(h1:n≤9223372036854775807) :
 Calls Tryz.prog 24 #[.int .i64 n] w fun e w'=>e=.returned (.string ⟨(print n).toArray⟩)∧Below w.heap.size w w':=by
 have hwr:IntKind.u64.wrap n=(n.natAbs:Int):=by simp only [IntKind.wrap_u64];omega
 go_enter Tryz.func24,Tryz.ntmps24
 go_wp2
 refine Vp 0 (PrintJ n n.natAbs w) (fun a' _=>(intOf (a'.tmps.getD 5 undef)).toNat) rfl ?_ ?_
 ·rintro a' w' ⟨left,k,tail,A,u6,u7,u8,u9,u10,u11,u12,u13,u14,u15,u16,u17,u18,u19,u20,u21,u22,u23,rfl,rfl,hA,hk,hc,hl,hl64,hd⟩
  clear hwr
  have hk20:k<19:=by omega
  have hts:=TQ (k:=k+1) hA hk hc (UInt8.ofNat (48+left % 10)) _ (V3 left)
  obtain ⟨v0,hv0⟩:∃v,A[k+1]? = some v:=⟨_,Array.getElem?_eq_getElem (by omega)⟩
  by_cases h10:left<10
  ·have h10':(left:Int) / 10=0:=by omega
   obtain ⟨N,hN⟩:∃N,N=20-(k+1):=⟨_,rfl⟩
   have hsl:=fun b W=>WX b W ((k:Int)+1) (k+1) rfl (by omega) N hN
   have hcv:=U4 w _ _ (k+1) N (by simp;omega) hts
   clear hN
   have HD:=Lib.hid (show print n=UInt8.ofNat (48+left % 10)::tail by
    rw [print,if_neg (by omega),hd,JF h10,Nat.mod_eq_of_lt h10];rfl)
   clear hA hk hc hl hd hts
   generalize (UInt8.ofNat (48+left % 10)::tail)=L at hcv HD
   go_wp2
   simp only [Exit.jump]
   go_ret
   refine ⟨by rw [HD.out];rfl,(Below.refl _ _).alloc (Nat.le_refl _) _⟩
  ·have h10':0<(left:Int) / 10:=by omega
   have HA:=Lib.hid hA
   have HK:=Lib.hid hk
   have HC:=Lib.hid hts
   have HLE:=Lib.hid hl
   have HD:=Lib.hid hd
   clear hA hk hc hl hd hts
   go_wp2
   go_step3
   refine ⟨rfl,?_,?_⟩
   ·exact Xa w (by omega) h10 HA.out HK.out HC.out HLE.out HD.out
   ·simp [intOf]
    omega
 intro HL
 go_wp2
 go_step3
 refine (‹∀(a:Act) (w:World),Code.wp _ _ _ a w→_› : _) _ _ (HL.out _ _ ?_)
 have hdv:(n.natAbs)<10 ^ 19:=by
  have:n.natAbs≤9223372036854775808:=by omega
  exact Nat.lt_of_le_of_lt this (by decide)
 exact ⟨n.natAbs,18,[],_,_,_,_,_,_,_,_,_,_,_,_,_,_,_,_,_,_,_,rfl,rfl,rfl,rfl,fun j h=>absurd h (by simp),hdv,by omega,by simp⟩
theorem print_any (n:Int)(w:World)(h0 : -9223372036854775808≤n)(h1:n≤9223372036854775807) :
 Calls Tryz.prog 24 #[.int .i64 n] w fun e w'=>e=.returned (.string (EZ n))∧Below w.heap.size w w':=by
 by_cases h:n<0
 ·exact print_neg n w h h0
 ·exact print_pos n w h h1
end Go.Proofs.YtdfbohaohjaloaaGreatDoor
end
section
namespace Go.Proofs.YtdfbohaohjaloaaGreatDoor
set_option maxRecDepth 10000
open Go.RowKit Punnet.Num
theorem all_dig (s:ByteArray)(h:∀j (hj:j<s.size),48≤s[j].toNat∧s[j].toNat≤57):s.data.toList.all dig=true:=by
 rw [List.all_eq_true]
 intro b hb
 obtain ⟨j,hj,rfl⟩:=List.getElem_of_mem hb
 rw [Ez s j (by simpa using hj),dig,decide_eq_true_iff]
 exact h j _
theorem Vl (s:ByteArray)(j:Nat)(hj:j<s.size)(h:¬(48≤s[j].toNat∧s[j].toNat≤57)):s.data.toList.all dig=false:=by
 rw [Bool.eq_false_iff]
 intro ha
 rw [List.all_eq_true] at ha
 have:=ha (s.data.toList[j]'(by simpa using hj)) (List.getElem_mem _)
 rw [Ez s j hj,dig,decide_eq_true_iff] at this
 exact h this
theorem wordOf_pos {s:ByteArray}(h0:0<s.size)(hb:s[0].toNat≠45):E9 s.data.toList=(s.data.toList.all dig && !(decide (s[0].toNat=48) && !(s.toList == [48]))):=by
 have hl:0<s.data.toList.length:=by simpa using h0
 have hn:neg s.data.toList=0:=NC hl (by rw [Ez s 0 h0];exact hb)
 have hh:s.data.toList.head? = some s[0]:=by
  rw [List.head?_eq_getElem?,List.getElem?_eq_getElem hl,Ez s 0 h0]
 have e:(s[0] = 48)↔s[0].toNat=48:=by rw [←UInt8.toNat_inj];rfl
 have e2:decide (s.data.toList≠[48]) = !(s.toList == [48]):=by
  rw [Lib.toList_data]
  by_cases h:s.data.toList= [48]<;>simp [h]
 simp only [E9,hn,List.drop_zero,hh,Option.some.injEq,e,e2,decide_eq_true hl,Bool.true_and]
theorem wordOf_neg {s:ByteArray}(h0:0<s.size)(hb:s[0].toNat=45):E9 s.data.toList=(decide (0<(s.extract 1 s.size).size)&&(s.extract 1 s.size).data.toList.all dig && !(decide ((s.extract 1 s.size).data.toList.head? = some 48))):=by
 have hl:0<s.data.toList.length:=by simpa using h0
 have hn:neg s.data.toList=1:=RZ hl (by rw [Ez s 0 h0];exact hb)
 have hd:(s.extract 1 s.size).data.toList=s.data.toList.drop 1:=Lib.extract_to_end s 1
 have hsz:decide (1<s.data.toList.length)=decide (0<(s.extract 1 s.size).size):=by
  rw [decide_eq_decide];simp;omega
 have e2:decide (s.data.toList≠[48])=true:=by
  rw [decide_eq_true_iff]
  intro h
  have h1:=Ez s 0 h0
  simp only [h] at h1
  rw [←h1] at hb
  exact absurd (show (48:UInt8).toNat=45 from hb) (by decide)
 simp only [E9,hn,hd,hsz,e2,Bool.and_true]
set_option maxHeartbeats 400000 in
theorem word_empty (w:World):Calls Tryz.prog 97 #[.string ⟨#[]⟩] w fun e w'=>e=.returned (.bool false)∧w=w':=by
 go_enter Tryz.func97,Tryz.ntmps97
 go_wp2
 go_ret
 exact ⟨rfl,rfl⟩
set_option maxHeartbeats 800000 in
theorem word_pos (s:ByteArray)(w:World)(hs:s.size≤maxLen)(h0:0<s.size)(hb:s[0].toNat≠45) :
 Calls Tryz.prog 97 #[.string s] w fun e w'=>e=.returned (.bool (E9 s.data.toList))∧w=w':=by
 unfold maxLen at hs
 have HW:=Lib.hid (wordOf_pos h0 hb)
 have h0':(0:Int)<s.size:=by omega
 have hsz:((s.size:Int)==0)=false:=beq_eq_false_iff_ne.2 (by omega)
 have b45:((s[0].toNat:Int)==45)=false:=beq_eq_false_iff_ne.2 (by omega)
 clear hb
 by_cases hz:s[0].toNat=48∧(!(s.toList == [48]))=true
 ·obtain ⟨hz,h48⟩:=hz
  have HV:=Lib.hid (show E9 s.data.toList=false by rw [HW.out,decide_eq_true hz,h48];simp)
  have b48:((s[0].toNat:Int)==48)=true:=beq_iff_eq.2 (by omega)
  clear hz HW
  go_enter Tryz.func97,Tryz.ntmps97
  go_wp2
  go_ret
  exact ⟨Fh HV.out.symm,rfl⟩
 ·have HV:=Lib.hid (show E9 s.data.toList=s.data.toList.all dig by
   rw [HW.out]
   by_cases e:s[0].toNat=48
   ·have:(!(s.toList == [48]))=false:=by
     rw [Bool.eq_false_iff];exact fun h=>hz ⟨e,h⟩
    rw [this];simp
   ·rw [decide_eq_false e];simp)
  have key:((s[0].toNat:Int)==48)=false∨(((s[0].toNat:Int)==48)=true∧(!(s.toList == [48]))=false):=by
   by_cases e:s[0].toNat=48
   ·exact .inr ⟨beq_iff_eq.2 (by omega),by rw [Bool.eq_false_iff];exact fun h=>hz ⟨e,h⟩⟩
   ·exact .inl (beq_eq_false_iff_ne.2 (by omega))
  clear hz HW
  rcases key with b48 | ⟨b48,h48⟩
  all_goals
   go_enter Tryz.func97,Tryz.ntmps97
   go_wp2
   go_loop [4] (fun i=>∃k:Nat,k≤s.size∧i=.int .i64 k∧∀j (h:j<s.size),j<k→48≤s[j].toNat∧s[j].toNat≤57) (fun i=>s.size-(intOf i).toNat)
   case atStart=>exact ⟨0,Nat.zero_le _,rfl,fun _ _ h=>absurd h (by omega)⟩
   case round=>
    obtain ⟨k,hk,rfl,hd⟩:=hrel
    have HD:=Lib.hid hd
    clear hd
    by_cases hlt:k<s.size
    ·by_cases hdk:48≤s[k].toNat∧s[k].toNat≤57
     ·obtain ⟨hd1,hd2⟩:=hdk
      have HD2:=Lib.hid (show ∀j (h:j<s.size),j<k+1→48≤s[j].toNat∧s[j].toNat≤57 from fun j h hj=>by
       by_cases e:j=k
       ·subst e;exact ⟨hd1,hd2⟩
       ·exact HD.out j h (by omega))
      go_wp2
      go_round
      case rel=>exact ⟨k+1,by omega,by go_num,HD2.out⟩
      case measure=>simp [intOf];omega
     ·have HV2:=Lib.hid (HV.out.trans (Vl s k hlt hdk))
      have hdk':s[k].toNat<48∨57<s[k].toNat:=by omega
      clear hdk
      rcases hdk' with hdk | hdk
      all_goals
       go_wp2
       go_ret
       exact ⟨Fh HV2.out.symm,rfl⟩
    ·have HV2:=Lib.hid (HV.out.trans (all_dig s fun j h=>HD.out j h (by omega)))
     go_wp2
     go_ret
     exact ⟨Fh HV2.out.symm,rfl⟩
set_option maxHeartbeats 800000 in
theorem word_neg (s:ByteArray)(w:World)(hs:s.size≤maxLen)(h0:0<s.size)(hb:s[0].toNat=45) :
 Calls Tryz.prog 97 #[.string s] w fun e w'=>e=.returned (.bool (E9 s.data.toList))∧w=w':=by
 unfold maxLen at hs
 have hw:=wordOf_neg h0 hb
 have h0':(0:Int)<s.size:=by omega
 have h1':(1:Int)≤s.size:=by omega
 have b45:((s[0].toNat:Int)==45)=true:=beq_iff_eq.2 (by omega)
 obtain ⟨t,ht⟩:∃t,s.extract 1 s.size=t:=⟨_,rfl⟩
 have hts:t.size=s.size-1:=by rw [←ht];simp
 rw [ht] at hw
 have ts:t.size≤9223372036854775807:=by omega
 clear hb
 by_cases hz:t.size=0
 ·have HV:=Lib.hid (show E9 s.data.toList=false by rw [hw,hz];simp)
  have bz:((t.size:Int)==0)=true:=beq_iff_eq.2 (by omega)
  clear hz hw hts
  go_enter Tryz.func97,Tryz.ntmps97
  go_wp2
  go_ret
  exact ⟨Fh HV.out.symm,rfl⟩
 ·have bz:((t.size:Int)==0)=false:=beq_eq_false_iff_ne.2 (by omega)
  have t0:0<t.size:=by omega
  have t0':(0:Int)<t.size:=by omega
  have hh:t.data.toList.head? = some t[0]:=by
   rw [List.head?_eq_getElem?,List.getElem?_eq_getElem (by simpa using t0),Ez t 0 t0]
  have e:(t[0] = 48)↔t[0].toNat=48:=by rw [←UInt8.toNat_inj];rfl
  have h48:(!(s.toList == [48]))=true:=by
   rw [Lib.toList_data]
   by_cases h:s.data.toList= [48]
   ·have h1:=Ez s 0 h0
    simp only [h] at h1
    rw [←h1] at b45
    exact absurd (show (((48:UInt8).toNat:Int)==45)=true from b45) (by decide)
   ·simp [h]
  simp only [hh,Option.some.injEq,e,decide_eq_true t0,Bool.true_and] at hw
  clear hz hts hh e
  by_cases h8:t[0].toNat=48
  ·have HV:=Lib.hid (show E9 s.data.toList=false by rw [hw,decide_eq_true h8];simp)
   have b48:((t[0].toNat:Int)==48)=true:=beq_iff_eq.2 (by omega)
   clear h8 hw
   go_enter Tryz.func97,Tryz.ntmps97
   go_wp2
   go_ret
   exact ⟨Fh HV.out.symm,rfl⟩
  ·have HV:=Lib.hid (show E9 s.data.toList=t.data.toList.all dig by rw [hw,decide_eq_false h8];simp)
   have b48:((t[0].toNat:Int)==48)=false:=beq_eq_false_iff_ne.2 (by omega)
   clear h8 hw
   go_enter Tryz.func97,Tryz.ntmps97
   go_wp2
   go_loop [4] (fun i=>∃k:Nat,k≤t.size∧i=.int .i64 k∧∀j (h:j<t.size),j<k→48≤t[j].toNat∧t[j].toNat≤57) (fun i=>t.size-(intOf i).toNat)
   case atStart=>exact ⟨0,Nat.zero_le _,rfl,fun _ _ h=>absurd h (by omega)⟩
   case round=>
    obtain ⟨k,hk,rfl,hd⟩:=hrel
    have HD:=Lib.hid hd
    clear hd
    by_cases hlt:k<t.size
    ·by_cases hdk:48≤t[k].toNat∧t[k].toNat≤57
     ·obtain ⟨hd1,hd2⟩:=hdk
      have HD2:=Lib.hid (show ∀j (h:j<t.size),j<k+1→48≤t[j].toNat∧t[j].toNat≤57 from fun j h hj=>by
       by_cases e:j=k
       ·subst e;exact ⟨hd1,hd2⟩
       ·exact HD.out j h (by omega))
      go_wp2
      go_round
      case rel=>exact ⟨k+1,by omega,by go_num,HD2.out⟩
      case measure=>simp [intOf];omega
     ·have HV2:=Lib.hid (HV.out.trans (Vl t k hlt hdk))
      have hdk':t[k].toNat<48∨57<t[k].toNat:=by omega
      clear hdk
      rcases hdk' with hdk | hdk
      all_goals
       go_wp2
       go_ret
       exact ⟨Fh HV2.out.symm,rfl⟩
    ·have HV2:=Lib.hid (HV.out.trans (all_dig t fun j h=>HD.out j h (by omega)))
     go_wp2
     go_ret
     exact ⟨Fh HV2.out.symm,rfl⟩
theorem Tn (s:ByteArray)(w:World)(hs:s.size≤maxLen) :
 Calls Tryz.prog 97 #[.string s] w fun e w'=>e=.returned (.bool (E9 s.data.toList))∧w=w':=by
 by_cases h0:0<s.size
 ·by_cases hb:s[0].toNat=45
  ·exact word_neg s w hs h0 hb
  ·exact word_pos s w hs h0 hb
 ·obtain ⟨⟨l⟩⟩:=s
  have:l= []:=by
   have:l.length=0:=by simpa [ByteArray.size] using h0
   exact List.length_eq_zero_iff.1 this
  subst this
  exact word_empty w
theorem less_any (a b:ByteArray)(w:World)(ha:a.size≤maxLen)(hb:b.size≤maxLen) :
 Calls Tryz.prog 98 #[.string a,.string b] w fun e w'=>e=.returned (.bool (decide (a.size<b.size)||(decide (a.size=b.size)&&(Op.bytesLess a.data.toList b.data.toList||a.data.toList==b.data.toList))))∧w=w':=by
 unfold maxLen at ha hb
 rcases Nat.lt_trichotomy a.size b.size with h | h | h
 ·have h':(a.size:Int)<b.size:=by omega
  have HV:=Lib.hid (decide_eq_true h)
  go_enter Tryz.func98,Tryz.ntmps98
  go_wp2
  go_ret
  exact ⟨Fh (by simp [h]),rfl⟩
 ·have h':¬(a.size:Int)<b.size:=by omega
  have h2:((a.size:Int)==b.size)=true:=beq_iff_eq.2 (by omega)
  have HV:=Lib.hid h
  clear h
  go_enter Tryz.func98,Tryz.ntmps98
  go_wp2
  go_ret
  exact ⟨Fh (by simp [HV.out,Lib.toList_data]),rfl⟩
 ·have h':¬(a.size:Int)<b.size:=by omega
  have h2:((a.size:Int)==b.size)=false:=beq_eq_false_iff_ne.2 (by omega)
  go_enter Tryz.func98,Tryz.ntmps98
  go_wp2
  go_ret
  exact ⟨Fh (by simp;omega),rfl⟩
end Go.Proofs.YtdfbohaohjaloaaGreatDoor
end
section
namespace Go.Proofs.YtdfbohaohjaloaaGreatDoor
set_option maxRecDepth 10000
open Go.RowKit Punnet.Num
theorem VX (a b:ByteArray)(w:World)(ha:a.size≤maxLen)(hb:b.size≤maxLen) :
 Calls Tryz.prog 98 #[.string a,.string b] w fun e w'=>e=.returned (.bool (KC a.data.toList b.data.toList))∧w=w':=by
 have h:=less_any a b w ha hb
 have h1:a.size=a.data.toList.length:=by simp
 have h2:b.size=b.data.toList.length:=by simp
 rw [h1,h2] at h
 exact h
def mostB:ByteArray:=⟨#[57,50,50,51,51,55,50,48,51,54,56,53,52,55,55,53,56,48,56]⟩
def maxB:ByteArray:=⟨#[57,50,50,51,51,55,50,48,51,54,56,53,52,55,55,53,56,48,55]⟩
theorem refRead_neg (s:ByteArray)(w:World)(hs:s.size≤maxLen)(h0:0<s.size)(hb:s[0].toNat=45)(hw:E9 s.data.toList=true) :
 Calls Tryz.prog 53 #[.string s] w fun e w'=>e=.returned (.tuple #[.int .i64 (BO s.data.toList).1,.int .i64 (BO s.data.toList).2])∧w=w':=by
 have HW:=Lib.hid (Tn s w hs)
 rw [hw] at HW
 have hl:0<s.data.toList.length:=by simpa using h0
 have hlen:s.data.toList.length=s.size:=by simp
 have hn:neg s.data.toList=1:=RZ hl (by rw [Ez s 0 h0];exact hb)
 have iw:=isWord hw
 have HR:=Lib.hid iw.read
 have hless:=iw.less_most
 have hd:(s.extract 1 s.size).data.toList=s.data.toList.drop (neg s.data.toList):=by rw [hn];exact Lib.extract_to_end s 1
 have HL:=Lib.hid (VX (s.extract 1 s.size) mostB w (by simp;unfold maxLen at *;omega) (by decide))
 rw [hd] at HL
 rw [show mostB.data.toList= [57,50,50,51,51,55,50,48,51,54,56,53,52,55,55,53,56,48,56] from rfl,hless] at HL
 rw [mostB] at HL
 unfold maxLen at hs
 have h0':(0:Int)<s.size:=by omega
 have h1':(1:Int)≤s.size:=by omega
 have b45:((s[0].toNat:Int)==45)=true:=beq_iff_eq.2 (by omega)
 have b45':((s[0].toNat:Int) != 45)=false:=by rw [bne,b45];rfl
 have hdig:∀k (h:k<s.size),0<k→48≤s[k].toNat∧s[k].toNat≤57:=by
  intro k h hk
  rw [←Ez s k h]
  have:=iw.digits (s.data.toList[k]'(by omega)) (by
   rw [hn]
   have e:s.data.toList[k]'(by omega)=(s.data.toList.drop 1)[k-1]'(by rw [List.length_drop];omega):=by
    rw [List.getElem_drop];congr 1;omega
   rw [e];exact List.getElem_mem _)
  exact this
 have HD:=Lib.hid hdig
 by_cases hov:9223372036854775808<Bo (s.data.toList.drop (neg s.data.toList))
 ·have HV:=Lib.hid (show BO s.data.toList=(0,3) by rw [HR.out,if_pos hn,if_pos hov])
  rw [decide_eq_false (by omega)] at HL
  clear hb hw hlen hn iw HR hless hd hdig hov HD
  go_enter Tryz.func53,Tryz.ntmps53
  go_wp2_with (first | (go_at_call 97;refine HW.out.mono ?_;rintro e w1 ⟨rfl,rfl⟩) | (go_at_call 98;refine HL.out.mono ?_;rintro e w1 ⟨rfl,rfl⟩))
  go_ret2
  exact ⟨Ia (by rw [HV.out]),rfl⟩
 ·have HV:=Lib.hid (show BO s.data.toList=(-(Bo (s.data.toList.drop (neg s.data.toList)):Int),0) by rw [HR.out,if_pos hn,if_neg hov])
  rw [decide_eq_true (by omega)] at HL
  have HO:=Lib.hid hov
  have HN:=Lib.hid hn
  have hl1:s.data.toList.length≤s.size:=by omega
  have hl2:s.size≤s.data.toList.length:=by omega
  clear hb hw hlen hn iw HR hless hd hdig hov
  go_enter Tryz.func53,Tryz.ntmps53
  go_wp2_with (first | (go_at_call 97;refine HW.out.mono ?_;rintro e w1 ⟨rfl,rfl⟩) | (go_at_call 98;refine HL.out.mono ?_;rintro e w1 ⟨rfl,rfl⟩))
  go_loop [4,5] (fun n i=>∃k S:Nat,k≤s.size∧i=.int .i64 k∧n=.int .i64 (-(S:Int))∧S=Hy s.data.toList k) (fun _ i=>s.size-(intOf i).toNat)
  case atStart=>exact ⟨0,0,Nat.zero_le _,rfl,rfl,(Ur _).symm⟩
  case round=>
   obtain ⟨k,S,hk,rfl,rfl,hS⟩:=hrel
   by_cases hlt:k<s.size
   ·have hle:=pref_le s.data.toList (k+1)
    have HO':=HO.out
    by_cases hk0:k=0
    ·subst hk0
     have HS:=Lib.hid hS
     have HP:=Ur s.data.toList
     clear hS
     have HP1:=Lib.hid (pref_one HN.out)
     rw [HP] at HS
     have HS0:=HS.out
     subst HS0
     clear hle HP HO'
     go_wp2
     go_round
     case rel=>exact ⟨1,0,by omega,rfl,rfl,HP1.out.symm⟩
     case measure=>simp [intOf];omega
    ·obtain ⟨d1,d2⟩:=HD.out k hlt (by omega)
     have hst:=WN (l:=s.data.toList) (k:=k) (by omega) (by have:=HN.out;omega)
     rw [Ez s k hlt,←hS] at hst
     have HST:=Lib.hid hst
     have hbd:10*S+(s[k].toNat-48)≤9223372036854775808:=by omega
     clear hS hst hle HO'
     have hne:((s[k].toNat:Int) != 45)=true:=by rw [bne_iff_ne];omega
     go_wp2
     go_round
     case rel=>exact ⟨k+1,10*S+(s[k].toNat-48),by omega,by go_num,by go_num,HST.out.symm⟩
     case measure=>simp [intOf];omega
   ·have HE:=Lib.hid (hS.trans (pref_end (by omega)))
    clear hS
    go_wp2
    go_ret2
    exact ⟨Ia (by rw [HV.out,HE.out]),rfl⟩
theorem refRead_pos (s:ByteArray)(w:World)(hs:s.size≤maxLen)(h0:0<s.size)(hb:s[0].toNat≠45)(hw:E9 s.data.toList=true) :
 Calls Tryz.prog 53 #[.string s] w fun e w'=>e=.returned (.tuple #[.int .i64 (BO s.data.toList).1,.int .i64 (BO s.data.toList).2])∧w=w':=by
 have HW:=Lib.hid (Tn s w hs)
 rw [hw] at HW
 have hl:0<s.data.toList.length:=by simpa using h0
 have hlen:s.data.toList.length=s.size:=by simp
 have hn:neg s.data.toList=0:=NC hl (by rw [Ez s 0 h0];exact hb)
 have iw:=isWord hw
 have HR:=Lib.hid iw.read
 have hless:KC s.data.toList [57,50,50,51,51,55,50,48,51,54,56,53,52,55,55,53,56,48,55] = decide (Bo (s.data.toList.drop (neg s.data.toList))≤9223372036854775807):=by
  rw [←iw.less_max]
  rw [hn];rfl
 have hd:s.data.toList=s.data.toList.drop (neg s.data.toList):=by rw [hn];rfl
 have HL:=Lib.hid (VX s maxB w hs (by decide))
 rw [show maxB.data.toList= [57,50,50,51,51,55,50,48,51,54,56,53,52,55,55,53,56,48,55] from rfl,hless] at HL
 rw [maxB] at HL
 unfold maxLen at hs
 have h0':(0:Int)<s.size:=by omega
 have h1':(1:Int)≤s.size:=by omega
 have b45:((s[0].toNat:Int)==45)=false:=beq_eq_false_iff_ne.2 (by omega)
 have b45':((s[0].toNat:Int) != 45)=true:=by rw [bne,b45];rfl
 have hdig:∀k (h:k<s.size),48≤s[k].toNat∧s[k].toNat≤57:=by
  intro k h
  rw [←Ez s k h]
  have:=iw.digits (s.data.toList[k]'(by omega)) (by
   rw [←hd];exact List.getElem_mem _)
  exact this
 have HD:=Lib.hid hdig
 by_cases hov:9223372036854775807<Bo (s.data.toList.drop (neg s.data.toList))
 ·have HV:=Lib.hid (show BO s.data.toList=(0,3) by rw [HR.out,if_neg (by omega),if_pos hov])
  rw [decide_eq_false (by omega)] at HL
  clear hb hw hlen hn iw HR hless hd hdig hov HD
  go_enter Tryz.func53,Tryz.ntmps53
  go_wp2_with (first | (go_at_call 97;refine HW.out.mono ?_;rintro e w1 ⟨rfl,rfl⟩) | (go_at_call 98;refine HL.out.mono ?_;rintro e w1 ⟨rfl,rfl⟩))
  go_ret2
  exact ⟨Ia (by rw [HV.out]),rfl⟩
 ·have HV:=Lib.hid (show BO s.data.toList=((Bo (s.data.toList.drop (neg s.data.toList)):Int),0) by rw [HR.out,if_neg (by omega),if_neg hov])
  rw [decide_eq_true (by omega)] at HL
  have HO:=Lib.hid hov
  have HN:=Lib.hid hn
  have hl1:s.data.toList.length≤s.size:=by omega
  have hl2:s.size≤s.data.toList.length:=by omega
  clear hb hw hlen hn iw HR hless hd hdig hov
  go_enter Tryz.func53,Tryz.ntmps53
  go_wp2_with (first | (go_at_call 97;refine HW.out.mono ?_;rintro e w1 ⟨rfl,rfl⟩) | (go_at_call 98;refine HL.out.mono ?_;rintro e w1 ⟨rfl,rfl⟩))
  go_loop [4,5] (fun n i=>∃k S:Nat,k≤s.size∧i=.int .i64 k∧n=.int .i64 (-(S:Int))∧S=Hy s.data.toList k) (fun _ i=>s.size-(intOf i).toNat)
  case atStart=>exact ⟨0,0,Nat.zero_le _,rfl,rfl,(Ur _).symm⟩
  case round=>
   obtain ⟨k,S,hk,rfl,rfl,hS⟩:=hrel
   by_cases hlt:k<s.size
   ·have hle:=pref_le s.data.toList (k+1)
    have HO':=HO.out
    obtain ⟨d1,d2⟩:=HD.out k hlt
    have hst:=WN (l:=s.data.toList) (k:=k) (by omega) (by have:=HN.out;omega)
    rw [Ez s k hlt,←hS] at hst
    have HST:=Lib.hid hst
    have hbd:10*S+(s[k].toNat-48)≤9223372036854775807:=by omega
    clear hS hst hle HO'
    have hne:((s[k].toNat:Int) != 45)=true:=by rw [bne_iff_ne];omega
    go_wp2
    go_round
    case rel=>exact ⟨k+1,10*S+(s[k].toNat-48),by omega,by go_num,by go_num,HST.out.symm⟩
    case measure=>simp [intOf];omega
   ·have HE:=Lib.hid (hS.trans (pref_end (by omega)))
    have hSb:S≤9223372036854775807:=by have h1:=HE.out;have h2:=HO.out;omega
    clear hS
    go_wp2
    go_ret2
    exact ⟨Ia (by rw [HV.out,HE.out]),rfl⟩
set_option maxHeartbeats 400000 in
theorem refRead_no (s:ByteArray)(w:World)(hs:s.size≤maxLen)(hw:E9 s.data.toList=false) :
 Calls Tryz.prog 53 #[.string s] w fun e w'=>e=.returned (.tuple #[.int .i64 0,.int .i64 4])∧w=w':=by
 have HW:=Lib.hid (Tn s w hs)
 rw [hw] at HW
 clear hw
 go_enter Tryz.func53,Tryz.ntmps53
 go_wp2_with (go_at_call 97;refine HW.out.mono ?_;rintro e w1 ⟨rfl,rfl⟩)
 go_ret2
 exact ⟨rfl,rfl⟩
theorem refRead_any (s:ByteArray)(w:World)(hs:s.size≤maxLen) :
 Calls Tryz.prog 53 #[.string s] w fun e w'=>e=.returned (.tuple #[.int .i64 (BO s.data.toList).1,.int .i64 (BO s.data.toList).2])∧w=w':=by
 cases hw:E9 s.data.toList with
 | false=>rw [XQ hw];exact refRead_no s w hs hw
 | true=>
  have h0:0<s.size:=by
   have:=(isWord hw).some_
   have h2:s.data.toList.length=s.size:=by simp
   omega
  by_cases hb:s[0].toNat=45
  ·exact refRead_neg s w hs h0 hb hw
  ·exact refRead_pos s w hs h0 hb hw
end Go.Proofs.YtdfbohaohjaloaaGreatDoor
end
section
namespace Go.Vm
open Go.RowKit Go.Proofs Go.Proofs.YtdfbohaohjaloaaGreatDoor Punnet.Name Punnet.Num
theorem Fj (n:Int)(h:G6 n):AQ Tryz.prog 24 [.sc (.int .i64 n)] [.d (.sc (.string (EZ n)))]:=
 UT (us:=[.int .i64 n]) rfl fun w=>print_any n w (by omega) (by omega)
theorem MB (s:ByteArray)(h:s.size≤1000000):AQ Tryz.prog 23 [.sc (.string s)] [.d (.sc (.int .i64 (Aw s).1)),.d (.sc (.int .i64 (Aw s).2))]:=
 KH (us:=[.string s]) (rs:=[]) (by simp [BL]) fun w=>read_any s w (by unfold maxLen;omega)
theorem ZB (s:ByteArray)(h:s.size≤1000000):AQ Tryz.prog 53 [.sc (.string s)] [.d (.sc (.int .i64 (Aw s).1)),.d (.sc (.int .i64 (Aw s).2))]:=
 KH (us:=[.string s]) (rs:=[]) (by simp [BL]) fun w=>(refRead_any s w (by unfold maxLen;omega)).mono (by rintro e w' ⟨rfl,rfl⟩;exact ⟨rfl,Below.refl _ _⟩)
theorem quote_any (s:ByteArray)(h:s.size≤40):AQ Tryz.prog 135 [.sc (.string s)] [.d (.sc (.string (QT s))),.d (.sc (.int .i64 0))]:=
 KH (us:=[.string s]) (rs:=[]) (by simp [BL]) fun w=>quote_go s w h
theorem unquote_c (s:ByteArray)(h:s.size≤1000000):AQ Tryz.prog 142 [.sc (.string s)] [.d (.sc (.string (DD s).1)),.d (.sc (.int .i64 (DD s).2))]:=
 KH (us:=[.string s]) (rs:=[]) (by simp [BL]) fun w=>unquote_any s w (by omega)
theorem refScan_c (s:ByteArray)(h:s.size≤1000000):AQ Tryz.prog 79 [.sc (.string s),.sc (.int .i64 0)] [.d (.sc (.string (Dq s 0).1)),.d (.sc (.int .i64 ((Dq s 0).2.1:Nat))),.d (.sc (.int .i64 (Dq s 0).2.2))]:=
 KH (us:=[.string s,.int .i64 0]) (r1:=.string (Dq s 0).1) (r2:=.int .i64 ((Dq s 0).2.1:Nat)) (rs:=[.int .i64 (Dq s 0).2.2]) (by simp [BL]) fun w=>refScan_any s 0 w (by omega) (by omega)
theorem YC (s:ByteArray)(h:s.size≤1000000):AQ Tryz.prog 28 [.sc (.string s)] [.d (.row ((splitB s 0).map strD))]:=
 TV (us:=[.string s]) fun w=>split_any s w (by omega)
theorem refSplit_c (s:ByteArray)(h:s.size≤1000000):AQ Tryz.prog 33 [.sc (.string s)] [.d (.row ((splitB s 0).map strD))]:=
 TV (us:=[.string s]) fun w=>Aam s w (by omega)
end Go.Vm
end
section
namespace Go.Vm
open Go.RowKit Go.Proofs
set_option maxRecDepth 10000
open Go.Proofs.YtdfbohaohjaloaaGreatDoor Punnet.Name Punnet.Num
theorem cut_yes {c:UInt8}{s:ByteArray}{a r:List UInt8}(hd:s.data.toList=a++c::r)(hc:c ∉ a):mkB (CE c s.data.toList).1=s.extract 0 a.length∧mkB (CE c s.data.toList).2.1=s.extract (a.length+1) s.size∧(CE c s.data.toList).2.2=true:=by
 rw [hd,PM hc]
 refine ⟨GI ?_,GI ?_,rfl⟩
 ·rw [EY,Lu,hd,List.drop_zero,List.take_left]
 ·rw [EY,Lu,←FT,List.take_length,hd,←List.drop_drop,List.drop_left];rfl
theorem Wp (c:UInt8)(s:ByteArray):(Lib.index s.data.toList [c] = -1∧c ∉ s.data.toList)∨∃a r,s.data.toList=a++c::r∧c ∉ a∧Lib.index s.data.toList [c] = (a.length:Int):=Ri _
theorem liteCut_any (c:UInt8)(s:ByteArray)(hs:s.size≤1000000):AQ Tryz.prog 50 [.sc (.string (s)),.sc (.string (⟨#[c]⟩))] [.d (.sc (.string (mkB (CE c s.data.toList).1))),.d (.sc (.string (mkB (CE c s.data.toList).2.1))),.d (.sc (.bool ((CE c s.data.toList).2.2)))]:=by
 refine T.fn [] Tryz.func50 ?_
 have hcc:=Wp c s
 refine Ar T.en_96 (index1_any c s) ?_
 refine br (fun hc1=>?y1) (fun hc1=>?n1)
 case' y1=>
  obtain ⟨a,r,hd,hc,hi⟩:=hcc.resolve_left (fun k=>by rw [k.1] at hc1;exact absurd hc1 (by decide))
  have h9:s.size=a.length+(1+r.length):=by rw [←FT,hd,List.length_append,List.length_cons];omega
  have hq:=cut_yes hd hc
  refine And.intro ⟨T.mixed,by decide +kernel⟩ ?_
  first | refine Fq ?_ | refine Ee ?_
  refine Gi ?_ (h1:=by (first | omega | (rw [hi,h9];simp [Dv];omega) | (simp [Dv];omega))) (h2:=by (first | omega | (rw [hi,h9];simp [Dv];omega) | (simp [Dv];omega)))
  refine Az ?_
  first | refine CJ ?_ (h:=by (first | omega | (rw [hi,h9];simp [Dv];omega) | (simp [Dv];omega))) | refine DN ?_ (h:=by first | exact IntWalk.i64_in _ (by (first | omega | (rw [hi,h9];simp [Dv];omega) | (simp [Dv];omega))) | rfl) | refine DC rfl rfl ?_
  first | refine Fq ?_ | refine Ee ?_
  refine Gi ?_ (h1:=by (first | omega | (rw [hi,h9];simp [Dv];omega) | (simp [Dv];omega))) (h2:=by (first | omega | (rw [hi,h9];simp [Dv];omega) | (simp [Dv];omega)))
 case' n1=>
  obtain ⟨hi,hc⟩:=hcc.resolve_right (fun ⟨a,r,_,_,k⟩=>by rw [k] at hc1;exact hc1 (by omega))
 all_goals (refine CV ?_;simp only [Bq,fits,C.asD,and_true]<;>(first | (rw [RQ hc];exact ⟨sct (NK s).symm,rfl,rfl⟩) | (rw [hq.2.2,hq.1,hq.2.1,hi];exact ⟨rfl,rfl,rfl⟩)))
end Go.Vm
end
section
namespace Go.Vm
open Go.RowKit Go.Proofs
set_option maxRecDepth 10000
open Go.Proofs.YtdfbohaohjaloaaGreatDoor Punnet.Name Punnet.Num
theorem cut_sizes (c:UInt8)(s:ByteArray):(mkB (CE c s.data.toList).1).size≤s.size∧(mkB (CE c s.data.toList).2.1).size≤s.size:=by
 rcases Wp c s with ⟨_,h⟩ | ⟨a,r,hd,hc,_⟩
 ·rw [RQ h,NK];exact ⟨Nat.le_refl _,Nat.zero_le _⟩
 ·have hl:s.size=a.length+(1+r.length):=by rw [←FT,hd,List.length_append,List.length_cons];omega
  rw [hd,PM hc]
  have q1:(mkB a).size=a.length:=by rw [←FT,EY]
  have q2:(mkB r).size=r.length:=by rw [←FT,EY]
  exact ⟨by show (mkB a).size≤_;omega,by show (mkB r).size≤_;omega⟩
theorem Vd {n:Int}(h:G6 n):(EZ n).size≤30:=by
 rw [printB_size,Ti]
 have:=digs_len (m:=n.natAbs) (k:=19) (by have:=h.1;have:=h.2;omega) (by decide)
 split<;>omega
def N9 (s:ByteArray):ByteArray×Bool:=((Dq s 0).1,decide ((Dq s 0).2.2=0)&&decide ((((Dq s 0).2.1:Nat):Int)=(s.size:Int)))
theorem YS {s:ByteArray}(h:(N9 s).2=true):QT (N9 s).1=s∧(N9 s).1.size≤40:=by
 unfold N9 at h ⊢
 simp only [Bool.and_eq_true,decide_eq_true_eq] at h ⊢
 obtain ⟨h1,h2⟩:=h
 cases hq:DY s.data.toList 0 with
 | none=>rw [show (0:Int)=((0:Nat):Int) from rfl,SV (Nat.zero_le _) hq] at h1;exact absurd h1 (by decide)
 | some p=>
  obtain ⟨t,n⟩:=p
  by_cases hl:40<t.length
  ·rw [show (0:Int)=((0:Nat):Int) from rfl,SX (Nat.zero_le _) hq hl] at h1;exact absurd h1 (by decide)
  ·have hs:=TF (s:=s) (k:=0) (Nat.zero_le _) hq hl
   rw [show ((0:Nat):Int)=0 from rfl] at hs
   rw [hs] at h2 ⊢
   obtain ⟨i1,i2⟩:=Yk hq
   refine ⟨GI ?_,by show (mkB t).size≤40;rw [←FT,EY];omega⟩
   unfold QT
   rw [EY]
   show JK (mkB t).data.toList=_
   rw [EY]
   have hn:n=s.size:=by simp only at h2;omega
   rw [List.drop_zero,hn,List.drop_of_length_le (by rw [FT];omega),List.append_nil] at i1
   exact i1.symm
theorem str_ix {s:ByteArray}{k:Nat}{c:UInt8}(h:s[k]? = some c):s[((k:Nat):Int).toNat]? = some c:=by rw [Int.toNat_natCast];exact h
theorem cut1_any (c:UInt8)(s:ByteArray)(hs:s.size≤1000000):AQ Tryz.prog 22 [.sc (.string (s)),.sc (.string (⟨#[c]⟩))] [.d (.sc (.string (mkB (CE c s.data.toList).1))),.d (.sc (.string (mkB (CE c s.data.toList).2.1))),.d (.sc (.bool ((CE c s.data.toList).2.2)))]:=by
 refine T.fn [] Tryz.func22 ?_
 refine Ar T.en_50 (liteCut_any c s hs) ?_
 all_goals (refine CV ?_;simp only [Bq,fits,C.asD,and_true]<;>(exact ⟨rfl,rfl,rfl⟩))
theorem QU (t:BZ)(h:IA t):AQ Tryz.prog 9 [tD t] [.d (.sc (.string (FU t)))]:=by
 refine T.fn [] Tryz.func9 ?_
 have z1:=Vd h.1
 have z2:=Vd h.2
 refine And.intro ⟨T.mixed,by decide +kernel⟩ ?_
 refine Ar T.Gq (Fj t.r h.1) ?_
 refine EP ?_ (h:=by ((simp only [ByteArray.size_append,Dv,List.size_toArray,List.length_cons,List.length_nil];omega)))
 refine Ar T.Gq (Fj t.n h.2) ?_
 refine EP ?_ (h:=by ((simp only [ByteArray.size_append,Dv,List.size_toArray,List.length_cons,List.length_nil];omega)))
 all_goals (refine CV ?_;simp only [Bq,fits,C.asD,and_true]<;>(refine sct (GI ?_);simp [ba_app,FU,EZ]))
theorem Zy (s:ByteArray)(hs:s.size≤1000000):AQ Tryz.prog 8 [.sc (.string (s))] [.d (tD ((CQ s).getD AU)),.d (.sc (.int .i64 ((if (CQ s).isSome=true then 0 else 4))))]:=by
 refine T.fn [] Tryz.func8 ?_
 have hcs:=cut_sizes 46 s
 refine Ar T.en_22 (cut1_any 46 s hs) ?_
 refine Ar T.en_23 (MB (mkB (CE 46 s.data.toList).1) (by omega)) ?_
 refine Ar T.en_23 (MB (mkB (CE 46 s.data.toList).2.1) (by omega)) ?_
 refine br (fun hg1=>?y1) (fun hg1=>?n1)
 case' y1=>
  have hN:=PU (s:=s) (a:=(CE 46 s.data.toList).1) (b:=(CE 46 s.data.toList).2.1) (f:=(CE 46 s.data.toList).2.2) rfl (fun k=>hg1 (by rw [show (Aw (mkB (CE 46 s.data.toList).1)).2=(BO (CE 46 s.data.toList).1).2 by rw [show Aw (mkB (CE 46 s.data.toList).1)=BO (mkB (CE 46 s.data.toList).1).data.toList from rfl,EY]];exact k.1))
  refine brT ?_
 case' n1=>
  refine br (fun hc3=>?y3) (fun hc3=>?n3)
  case' y3=>
   have hN:=PU (s:=s) (a:=(CE 46 s.data.toList).1) (b:=(CE 46 s.data.toList).2.1) (f:=(CE 46 s.data.toList).2.2) rfl (fun k=>hc3 (by rw [show (Aw (mkB (CE 46 s.data.toList).2.1)).2=(BO (CE 46 s.data.toList).2.1).2 by rw [show Aw (mkB (CE 46 s.data.toList).2.1)=BO (mkB (CE 46 s.data.toList).2.1).data.toList from rfl,EY]];exact k.2))
  case' n3=>
   have e1:Aw (mkB (CE 46 s.data.toList).1)=BO (CE 46 s.data.toList).1:=by rw [show Aw (mkB (CE 46 s.data.toList).1)=BO (mkB (CE 46 s.data.toList).1).data.toList from rfl,EY]
   have e2:Aw (mkB (CE 46 s.data.toList).2.1)=BO (CE 46 s.data.toList).2.1:=by rw [show Aw (mkB (CE 46 s.data.toList).2.1)=BO (mkB (CE 46 s.data.toList).2.1).data.toList from rfl,EY]
   have hY:=tag_cutC (s:=s) (a:=(CE 46 s.data.toList).1) (b:=(CE 46 s.data.toList).2.1) (f:=(CE 46 s.data.toList).2.2) rfl (by rw [←e1];simp_all) (by rw [←e2];simp_all)
 all_goals (refine CV ?_;simp only [Bq,fits,C.asD,and_true]<;>(first | (rw [hN];exact ⟨rfl,rfl⟩) | (rw [hY,e1,e2];exact ⟨rfl,rfl⟩)))
theorem Oz (s:ByteArray)(hs:s.size≤1000000):AQ Tryz.prog 25 [.sc (.string (s))] [.d (.sc (.int .i64 ((Aw s).1))),.d (.sc (.bool (decide ((Aw s).2=0))))]:=by
 refine T.fn [] Tryz.func25 ?_
 refine Ar T.en_53 (ZB s hs) ?_
 all_goals (refine CV ?_;simp only [Bq,fits,C.asD,and_true]<;>(first | exact ⟨rfl,rfl⟩ | simp))
end Go.Vm
end
section
namespace Go.Vm
open Go.RowKit Go.Proofs
set_option maxRecDepth 10000
open Go.Proofs.YtdfbohaohjaloaaGreatDoor Punnet.Name Punnet.Num
theorem V8 (s:ByteArray)(hs:s.size≤1000000):AQ Tryz.prog 141 [.sc (.string (s))] [.d (rD ((placeOf s).getD Ae)),.d (.sc (.int .i64 ((if (placeOf s).isSome=true then 0 else 4))))]:=by
 refine T.fn [] Tryz.func141 ?_
 refine Ar T.en_222 (split1_any 46 s hs) ?_
 first | refine Ef (by first | exact AZ (i:=0) rfl (by first | exact A7 | omega) | exact AZ (i:=1) rfl (by first | exact A7 | omega) | exact AZ (i:=2) rfl (by first | exact A7 | omega) | exact AZ (i:=3) rfl (by first | exact A7 | omega) | exact AZ (i:=4) rfl (by first | exact A7 | omega) | exact AZ (i:=5) rfl (by first | exact A7 | omega)) ?_ | refine Ag (by first | exact AZ (i:=0) rfl (by first | exact A7 | omega) | exact AZ (i:=1) rfl (by first | exact A7 | omega) | exact AZ (i:=2) rfl (by first | exact A7 | omega) | exact AZ (i:=3) rfl (by first | exact A7 | omega) | exact AZ (i:=4) rfl (by first | exact A7 | omega) | exact AZ (i:=5) rfl (by first | exact A7 | omega)) ?_
 refine br (fun hc1=>?y1) (fun hc1=>?n1)
 case' y1=>
  have hsc:wd (AA 46 s) 0=⟨#[104,101,97,100]⟩:=hc1
  refine Az ?_
  refine br (fun hc2=>?y2) (fun hc2=>?n2)
  case' y2=>
   have hl2:(AA 46 s).length=2:=by omega
   have hcd:EO (AA 46 s)=⟨0,noB,wd (AA 46 s) 1⟩:=by unfold EO;simp_all
   first | refine Ef (by first | exact AZ (i:=0) rfl (by first | exact A7 | omega) | exact AZ (i:=1) rfl (by first | exact A7 | omega) | exact AZ (i:=2) rfl (by first | exact A7 | omega) | exact AZ (i:=3) rfl (by first | exact A7 | omega) | exact AZ (i:=4) rfl (by first | exact A7 | omega) | exact AZ (i:=5) rfl (by first | exact A7 | omega)) ?_ | refine Ag (by first | exact AZ (i:=0) rfl (by first | exact A7 | omega) | exact AZ (i:=1) rfl (by first | exact A7 | omega) | exact AZ (i:=2) rfl (by first | exact A7 | omega) | exact AZ (i:=3) rfl (by first | exact A7 | omega) | exact AZ (i:=4) rfl (by first | exact A7 | omega) | exact AZ (i:=5) rfl (by first | exact A7 | omega)) ?_
   refine Ar T.Nv (by first | exact Dc ⟨0,noB,wd (AA 46 s) 1⟩ | exact Dc ⟨0,wd (AA 46 s) 1,wd (AA 46 s) 2⟩ | exact Dc ⟨0,noB,noB⟩ | exact Dc ⟨1,noB,wd (AA 46 s) 1⟩ | exact Dc ⟨1,wd (AA 46 s) 1,wd (AA 46 s) 2⟩ | exact Dc ⟨1,noB,noB⟩) ?_
   refine br (fun hg3=>?y3) (fun hg3=>?n3)
   case' y3=>
    have hN:=Oj (s:=s) (by rw [hcd];exact hg3)
    refine brT ?_
   case' n3=>
    have hpb:BF (EO (AA 46 s))=true:=by rw [hcd];exact hg3
    refine Ar T.I7 (by first | exact Cb ⟨0,noB,wd (AA 46 s) 1⟩ | exact Cb ⟨0,wd (AA 46 s) 1,wd (AA 46 s) 2⟩ | exact Cb ⟨0,noB,noB⟩ | exact Cb ⟨1,noB,wd (AA 46 s) 1⟩ | exact Cb ⟨1,wd (AA 46 s) 1,wd (AA 46 s) 2⟩ | exact Cb ⟨1,noB,noB⟩) ?_
    refine br (fun hc5=>?y5) (fun hc5=>?n5)
    case' y5=>
     have hN:=OU (s:=s) (by rw [hcd];intro e;apply hc5;rw [if_pos (by rw [←hcd];exact hpb)];exact e)
    case' n5=>
     have hY:=Jm hpb (s:=s) (by rw [hcd];have h9:=hc5;rw [if_pos (by rw [←hcd];exact hpb)] at h9;exact h9)
     rw [hcd] at hY
  case' n2=>
   refine br (fun hc6=>?y6) (fun hc6=>?n6)
   case' y6=>
    have hl3:(AA 46 s).length=3:=by omega
    have hcd:EO (AA 46 s)=⟨0,wd (AA 46 s) 1,wd (AA 46 s) 2⟩:=by unfold EO;simp_all
    refine And.intro ⟨T.mixed,by decide +kernel⟩ ?_
    first | refine Ef (by first | exact AZ (i:=0) rfl (by first | exact A7 | omega) | exact AZ (i:=1) rfl (by first | exact A7 | omega) | exact AZ (i:=2) rfl (by first | exact A7 | omega) | exact AZ (i:=3) rfl (by first | exact A7 | omega) | exact AZ (i:=4) rfl (by first | exact A7 | omega) | exact AZ (i:=5) rfl (by first | exact A7 | omega)) ?_ | refine Ag (by first | exact AZ (i:=0) rfl (by first | exact A7 | omega) | exact AZ (i:=1) rfl (by first | exact A7 | omega) | exact AZ (i:=2) rfl (by first | exact A7 | omega) | exact AZ (i:=3) rfl (by first | exact A7 | omega) | exact AZ (i:=4) rfl (by first | exact A7 | omega) | exact AZ (i:=5) rfl (by first | exact A7 | omega)) ?_
    first | refine Ef (by first | exact AZ (i:=0) rfl (by first | exact A7 | omega) | exact AZ (i:=1) rfl (by first | exact A7 | omega) | exact AZ (i:=2) rfl (by first | exact A7 | omega) | exact AZ (i:=3) rfl (by first | exact A7 | omega) | exact AZ (i:=4) rfl (by first | exact A7 | omega) | exact AZ (i:=5) rfl (by first | exact A7 | omega)) ?_ | refine Ag (by first | exact AZ (i:=0) rfl (by first | exact A7 | omega) | exact AZ (i:=1) rfl (by first | exact A7 | omega) | exact AZ (i:=2) rfl (by first | exact A7 | omega) | exact AZ (i:=3) rfl (by first | exact A7 | omega) | exact AZ (i:=4) rfl (by first | exact A7 | omega) | exact AZ (i:=5) rfl (by first | exact A7 | omega)) ?_
    refine Ar T.Nv (by first | exact Dc ⟨0,noB,wd (AA 46 s) 1⟩ | exact Dc ⟨0,wd (AA 46 s) 1,wd (AA 46 s) 2⟩ | exact Dc ⟨0,noB,noB⟩ | exact Dc ⟨1,noB,wd (AA 46 s) 1⟩ | exact Dc ⟨1,wd (AA 46 s) 1,wd (AA 46 s) 2⟩ | exact Dc ⟨1,noB,noB⟩) ?_
    refine br (fun hg7=>?y7) (fun hg7=>?n7)
    case' y7=>
     have hN:=Oj (s:=s) (by rw [hcd];exact hg7)
     refine brT ?_
    case' n7=>
     have hpb:BF (EO (AA 46 s))=true:=by rw [hcd];exact hg7
     refine Ar T.I7 (by first | exact Cb ⟨0,noB,wd (AA 46 s) 1⟩ | exact Cb ⟨0,wd (AA 46 s) 1,wd (AA 46 s) 2⟩ | exact Cb ⟨0,noB,noB⟩ | exact Cb ⟨1,noB,wd (AA 46 s) 1⟩ | exact Cb ⟨1,wd (AA 46 s) 1,wd (AA 46 s) 2⟩ | exact Cb ⟨1,noB,noB⟩) ?_
     refine br (fun hc9=>?y9) (fun hc9=>?n9)
     case' y9=>
      have hN:=OU (s:=s) (by rw [hcd];intro e;apply hc9;rw [if_pos (by rw [←hcd];exact hpb)];exact e)
     case' n9=>
      have hY:=Jm hpb (s:=s) (by rw [hcd];have h9:=hc9;rw [if_pos (by rw [←hcd];exact hpb)] at h9;exact h9)
      rw [hcd] at hY
   case' n6=>
    have hl2:¬(AA 46 s).length=2:=by omega
    have hl3:¬(AA 46 s).length=3:=by omega
    have hcd:EO (AA 46 s)=⟨0,noB,noB⟩:=by unfold EO;simp_all
    refine Ar T.Nv (by first | exact Dc ⟨0,noB,wd (AA 46 s) 1⟩ | exact Dc ⟨0,wd (AA 46 s) 1,wd (AA 46 s) 2⟩ | exact Dc ⟨0,noB,noB⟩ | exact Dc ⟨1,noB,wd (AA 46 s) 1⟩ | exact Dc ⟨1,wd (AA 46 s) 1,wd (AA 46 s) 2⟩ | exact Dc ⟨1,noB,noB⟩) ?_
    refine br (fun hg10=>?y10) (fun hg10=>?n10)
    case' y10=>
     have hN:=Oj (s:=s) (by rw [hcd];exact hg10)
     refine brT ?_
    case' n10=>
     have hpb:BF (EO (AA 46 s))=true:=by rw [hcd];exact hg10
     refine Ar T.I7 (by first | exact Cb ⟨0,noB,wd (AA 46 s) 1⟩ | exact Cb ⟨0,wd (AA 46 s) 1,wd (AA 46 s) 2⟩ | exact Cb ⟨0,noB,noB⟩ | exact Cb ⟨1,noB,wd (AA 46 s) 1⟩ | exact Cb ⟨1,wd (AA 46 s) 1,wd (AA 46 s) 2⟩ | exact Cb ⟨1,noB,noB⟩) ?_
     refine br (fun hc12=>?y12) (fun hc12=>?n12)
     case' y12=>
      have hN:=OU (s:=s) (by rw [hcd];intro e;apply hc12;rw [if_pos (by rw [←hcd];exact hpb)];exact e)
     case' n12=>
      have hY:=Jm hpb (s:=s) (by rw [hcd];have h9:=hc12;rw [if_pos (by rw [←hcd];exact hpb)] at h9;exact h9)
      rw [hcd] at hY
 case' n1=>
  refine br (fun hc13=>?y13) (fun hc13=>?n13)
  case' y13=>
   have hsc:wd (AA 46 s) 0=⟨#[108,105,110,101]⟩:=hc13
   refine Az ?_
   refine br (fun hc14=>?y14) (fun hc14=>?n14)
   case' y14=>
    have hl2:(AA 46 s).length=2:=by omega
    have hcd:EO (AA 46 s)=⟨1,noB,wd (AA 46 s) 1⟩:=by unfold EO;simp_all
    first | refine Ef (by first | exact AZ (i:=0) rfl (by first | exact A7 | omega) | exact AZ (i:=1) rfl (by first | exact A7 | omega) | exact AZ (i:=2) rfl (by first | exact A7 | omega) | exact AZ (i:=3) rfl (by first | exact A7 | omega) | exact AZ (i:=4) rfl (by first | exact A7 | omega) | exact AZ (i:=5) rfl (by first | exact A7 | omega)) ?_ | refine Ag (by first | exact AZ (i:=0) rfl (by first | exact A7 | omega) | exact AZ (i:=1) rfl (by first | exact A7 | omega) | exact AZ (i:=2) rfl (by first | exact A7 | omega) | exact AZ (i:=3) rfl (by first | exact A7 | omega) | exact AZ (i:=4) rfl (by first | exact A7 | omega) | exact AZ (i:=5) rfl (by first | exact A7 | omega)) ?_
    refine Ar T.Nv (by first | exact Dc ⟨0,noB,wd (AA 46 s) 1⟩ | exact Dc ⟨0,wd (AA 46 s) 1,wd (AA 46 s) 2⟩ | exact Dc ⟨0,noB,noB⟩ | exact Dc ⟨1,noB,wd (AA 46 s) 1⟩ | exact Dc ⟨1,wd (AA 46 s) 1,wd (AA 46 s) 2⟩ | exact Dc ⟨1,noB,noB⟩) ?_
    refine br (fun hg15=>?y15) (fun hg15=>?n15)
    case' y15=>
     have hN:=Oj (s:=s) (by rw [hcd];exact hg15)
     refine brT ?_
    case' n15=>
     have hpb:BF (EO (AA 46 s))=true:=by rw [hcd];exact hg15
     refine Ar T.I7 (by first | exact Cb ⟨0,noB,wd (AA 46 s) 1⟩ | exact Cb ⟨0,wd (AA 46 s) 1,wd (AA 46 s) 2⟩ | exact Cb ⟨0,noB,noB⟩ | exact Cb ⟨1,noB,wd (AA 46 s) 1⟩ | exact Cb ⟨1,wd (AA 46 s) 1,wd (AA 46 s) 2⟩ | exact Cb ⟨1,noB,noB⟩) ?_
     refine br (fun hc17=>?y17) (fun hc17=>?n17)
     case' y17=>
      have hN:=OU (s:=s) (by rw [hcd];intro e;apply hc17;rw [if_pos (by rw [←hcd];exact hpb)];exact e)
     case' n17=>
      have hY:=Jm hpb (s:=s) (by rw [hcd];have h9:=hc17;rw [if_pos (by rw [←hcd];exact hpb)] at h9;exact h9)
      rw [hcd] at hY
   case' n14=>
    refine br (fun hc18=>?y18) (fun hc18=>?n18)
    case' y18=>
     have hl3:(AA 46 s).length=3:=by omega
     have hcd:EO (AA 46 s)=⟨1,wd (AA 46 s) 1,wd (AA 46 s) 2⟩:=by unfold EO;simp_all
     refine And.intro ⟨T.mixed,by decide +kernel⟩ ?_
     first | refine Ef (by first | exact AZ (i:=0) rfl (by first | exact A7 | omega) | exact AZ (i:=1) rfl (by first | exact A7 | omega) | exact AZ (i:=2) rfl (by first | exact A7 | omega) | exact AZ (i:=3) rfl (by first | exact A7 | omega) | exact AZ (i:=4) rfl (by first | exact A7 | omega) | exact AZ (i:=5) rfl (by first | exact A7 | omega)) ?_ | refine Ag (by first | exact AZ (i:=0) rfl (by first | exact A7 | omega) | exact AZ (i:=1) rfl (by first | exact A7 | omega) | exact AZ (i:=2) rfl (by first | exact A7 | omega) | exact AZ (i:=3) rfl (by first | exact A7 | omega) | exact AZ (i:=4) rfl (by first | exact A7 | omega) | exact AZ (i:=5) rfl (by first | exact A7 | omega)) ?_
     first | refine Ef (by first | exact AZ (i:=0) rfl (by first | exact A7 | omega) | exact AZ (i:=1) rfl (by first | exact A7 | omega) | exact AZ (i:=2) rfl (by first | exact A7 | omega) | exact AZ (i:=3) rfl (by first | exact A7 | omega) | exact AZ (i:=4) rfl (by first | exact A7 | omega) | exact AZ (i:=5) rfl (by first | exact A7 | omega)) ?_ | refine Ag (by first | exact AZ (i:=0) rfl (by first | exact A7 | omega) | exact AZ (i:=1) rfl (by first | exact A7 | omega) | exact AZ (i:=2) rfl (by first | exact A7 | omega) | exact AZ (i:=3) rfl (by first | exact A7 | omega) | exact AZ (i:=4) rfl (by first | exact A7 | omega) | exact AZ (i:=5) rfl (by first | exact A7 | omega)) ?_
     refine Ar T.Nv (by first | exact Dc ⟨0,noB,wd (AA 46 s) 1⟩ | exact Dc ⟨0,wd (AA 46 s) 1,wd (AA 46 s) 2⟩ | exact Dc ⟨0,noB,noB⟩ | exact Dc ⟨1,noB,wd (AA 46 s) 1⟩ | exact Dc ⟨1,wd (AA 46 s) 1,wd (AA 46 s) 2⟩ | exact Dc ⟨1,noB,noB⟩) ?_
     refine br (fun hg19=>?y19) (fun hg19=>?n19)
     case' y19=>
      have hN:=Oj (s:=s) (by rw [hcd];exact hg19)
      refine brT ?_
     case' n19=>
      have hpb:BF (EO (AA 46 s))=true:=by rw [hcd];exact hg19
      refine Ar T.I7 (by first | exact Cb ⟨0,noB,wd (AA 46 s) 1⟩ | exact Cb ⟨0,wd (AA 46 s) 1,wd (AA 46 s) 2⟩ | exact Cb ⟨0,noB,noB⟩ | exact Cb ⟨1,noB,wd (AA 46 s) 1⟩ | exact Cb ⟨1,wd (AA 46 s) 1,wd (AA 46 s) 2⟩ | exact Cb ⟨1,noB,noB⟩) ?_
      refine br (fun hc21=>?y21) (fun hc21=>?n21)
      case' y21=>
       have hN:=OU (s:=s) (by rw [hcd];intro e;apply hc21;rw [if_pos (by rw [←hcd];exact hpb)];exact e)
      case' n21=>
       have hY:=Jm hpb (s:=s) (by rw [hcd];have h9:=hc21;rw [if_pos (by rw [←hcd];exact hpb)] at h9;exact h9)
       rw [hcd] at hY
    case' n18=>
     have hl2:¬(AA 46 s).length=2:=by omega
     have hl3:¬(AA 46 s).length=3:=by omega
     have hcd:EO (AA 46 s)=⟨1,noB,noB⟩:=by unfold EO;simp_all
     refine Ar T.Nv (by first | exact Dc ⟨0,noB,wd (AA 46 s) 1⟩ | exact Dc ⟨0,wd (AA 46 s) 1,wd (AA 46 s) 2⟩ | exact Dc ⟨0,noB,noB⟩ | exact Dc ⟨1,noB,wd (AA 46 s) 1⟩ | exact Dc ⟨1,wd (AA 46 s) 1,wd (AA 46 s) 2⟩ | exact Dc ⟨1,noB,noB⟩) ?_
     refine br (fun hg22=>?y22) (fun hg22=>?n22)
     case' y22=>
      have hN:=Oj (s:=s) (by rw [hcd];exact hg22)
      refine brT ?_
     case' n22=>
      have hpb:BF (EO (AA 46 s))=true:=by rw [hcd];exact hg22
      refine Ar T.I7 (by first | exact Cb ⟨0,noB,wd (AA 46 s) 1⟩ | exact Cb ⟨0,wd (AA 46 s) 1,wd (AA 46 s) 2⟩ | exact Cb ⟨0,noB,noB⟩ | exact Cb ⟨1,noB,wd (AA 46 s) 1⟩ | exact Cb ⟨1,wd (AA 46 s) 1,wd (AA 46 s) 2⟩ | exact Cb ⟨1,noB,noB⟩) ?_
      refine br (fun hc24=>?y24) (fun hc24=>?n24)
      case' y24=>
       have hN:=OU (s:=s) (by rw [hcd];intro e;apply hc24;rw [if_pos (by rw [←hcd];exact hpb)];exact e)
      case' n24=>
       have hY:=Jm hpb (s:=s) (by rw [hcd];have h9:=hc24;rw [if_pos (by rw [←hcd];exact hpb)] at h9;exact h9)
       rw [hcd] at hY
  case' n13=>
   have hN:=place_no1 (s:=s) (by assumption) (by assumption)
 all_goals (refine CV ?_;simp only [Bq,fits,C.asD,and_true]<;>(first | (rw [hN];exact ⟨rfl,rfl⟩) | (rw [hY];exact ⟨rfl,rfl⟩)))
end Go.Vm
end
section
namespace Go.Vm
open Go.RowKit Go.Proofs
set_option maxRecDepth 10000
open Go.Proofs.YtdfbohaohjaloaaGreatDoor Punnet.Name Punnet.Num
theorem ix5 {s:ByteArray}{k:Nat}{c:UInt8}(h:s[5+k]? = some c):s[((5+k:Nat):Int).toNat]? = some c:=by rw [Int.toNat_natCast];exact h
theorem Z5 (s:ByteArray)(hs:s.size≤1000000):AQ Tryz.prog 78 [.sc (.string (s))] [.d (rD ((placeOf s).getD Ae)),.d (.sc (.bool ((placeOf s).isSome)))]:=by
 refine T.fn [] Tryz.func78 ?_
 refine Az ?_
 refine br (fun hg1=>?y1) (fun hg1=>?n1)
 case' y1=>
  have hN:=place2_no1 (s:=s) (by omega)
  refine brT ?_
 case' n1=>
  first | refine Fq ?_ | refine Ee ?_
  refine Gi ?_ (h1:=by (first | omega | (show (5:Nat)≤_;omega))) (h2:=by (first | omega | (show (5:Nat)≤_;omega)))
  refine br (fun hg3=>?y3) (fun hg3=>?n3)
  case' y3=>
   have hn1:=hg3
   first | refine Fq ?_ | refine Ee ?_
   refine Gi ?_ (h1:=by (first | omega | (show (5:Nat)≤_;omega))) (h2:=by (first | omega | (show (5:Nat)≤_;omega)))
   refine br (fun hc4=>?y4) (fun hc4=>?n4)
   case' y4=>
    have hN:=place2_no2 (s:=s) hn1 hc4
   case' n4=>
    have hs6:6≤s.size:=by omega
    obtain ⟨b0,hb0⟩:∃b,s[0]? = some b:=⟨_,getElem?_pos s 0 (by omega)⟩
    first | refine Fq ?_ | refine Ee ?_
    refine Gi ?_ (h1:=by (first | omega | (show (5:Nat)≤_;omega))) (h2:=by (first | omega | (show (5:Nat)≤_;omega)))
    first | refine FQ (by first | exact hb0 | exact ix5 hc) ?_ | refine E8 (by first | exact hb0 | exact ix5 hc) ?_
    refine br (fun hc5=>?y5) (fun hc5=>?n5)
    case' y5=>
     have hb1:b0=108:=by rw [←UInt8.toNat_inj];show b0.toNat=108;omega
     obtain ⟨sc,hsc,hs0⟩:∃sc:Int,sc=1∧(if s[0]? = some 108 then (1:Int) else 0)=sc:=⟨1,rfl,by rw [hb0,hb1];rfl⟩
     refine Et (fb:=[]) T.ok (Nat.le_of_ble_eq_true rfl) [0,2] (fun (k:Nat)=>[(5,.c (.d (.sc (.int .i64 ((5+k:Nat):Int))))),(4,.box [.sc (.int .i64 sc),.sc (.string (Ba s k).1),.sc (.string (Ba s k).2)])]) (fun k=>5+k≤s.size) (fun k=>s.size-k) 0 (by omega) (Ap (by first | rfl | (simp only [Tr.get];simp;done)) (Ap (by subst hsc;rfl) trivial)) ?_
     rintro k hk
     refine Az ?_
     refine br (fun hc6=>?y6) (fun hc6=>?n6)
     case' y6=>
      obtain ⟨c,hc⟩:∃c,s[5+k]? = some c:=⟨_,getElem?_pos s (5+k) (by omega)⟩
      first | refine FQ (by first | exact hb0 | exact ix5 hc) ?_ | refine E8 (by first | exact hb0 | exact ix5 hc) ?_
      refine br (fun hg7=>?y7) (fun hg7=>?n7)
      case' y7=>
       have hc46:s[5+k]? = some 46:=by rw [hc,show c=46 by rw [←UInt8.toNat_inj];show c.toNat=46;omega]
       refine br (fun hc8=>?y8) (fun hc8=>?n8)
       case' y8=>
        have hgn:Ba s (k+1)=(s.extract 5 (5+k),s.extract (5+k+1) s.size):=by rw [Ba,if_pos ⟨hc46,hc8⟩]
        first | refine Fq ?_ | refine Ee ?_
        first | refine Fq ?_ | refine Ee ?_
        refine Gi ?_ (h1:=by (first | omega | (show (5:Nat)≤_;omega))) (h2:=by (first | omega | (show (5:Nat)≤_;omega)))
        first | refine CJ ?_ (h:=by (first | omega | (show (5:Nat)≤_;omega))) | refine DN ?_ (h:=by first | exact IntWalk.i64_in _ (by (first | omega | (show (5:Nat)≤_;omega))) | rfl) | refine DC rfl rfl ?_
        first | refine Fq ?_ | refine Ee ?_
        refine Gi ?_ (h1:=by (first | omega | (show (5:Nat)≤_;omega))) (h2:=by (first | omega | (show (5:Nat)≤_;omega)))
        first | refine CJ ?_ (h:=by (first | omega | (show (5:Nat)≤_;omega))) | refine DN ?_ (h:=by first | exact IntWalk.i64_in _ (by (first | omega | (show (5:Nat)≤_;omega))) | rfl) | refine DC rfl rfl ?_
        refine Cc (k+1) (by (try dsimp only);omega) (by (try dsimp only);omega) rfl (Ap (by first | rfl | (simp only [Tr.get];simp;done)) (Ap (by simp only [Tr.get];first | (rw [hgn];done) | (rw [hgn];rfl)) trivial)) (by first | rfl | (funext u;simp only [hdrop,hset,hpost,hOf];(repeat' split)<;>rfl))
       case' n8=>
        have hgn:Ba s (k+1)=Ba s k:=by rw [Ba,if_neg (fun e=>hc8 e.2)]
        first | refine CJ ?_ (h:=by (first | omega | (show (5:Nat)≤_;omega))) | refine DN ?_ (h:=by first | exact IntWalk.i64_in _ (by (first | omega | (show (5:Nat)≤_;omega))) | rfl) | refine DC rfl rfl ?_
        refine Cc (k+1) (by (try dsimp only);omega) (by (try dsimp only);omega) rfl (Ap (by first | rfl | (simp only [Tr.get];simp;done)) (Ap (by simp only [Tr.get];first | (rw [hgn];done) | (rw [hgn];rfl)) trivial)) (by first | rfl | (funext u;simp only [hdrop,hset,hpost,hOf];(repeat' split)<;>rfl))
      case' n7=>
       have hgn:Ba s (k+1)=Ba s k:=by rw [Ba,if_neg];rintro ⟨e,_⟩;rw [hc] at e;injection e with e;subst e;exact hg7 rfl
       refine brF ?_
       first | refine CJ ?_ (h:=by (first | omega | (show (5:Nat)≤_;omega))) | refine DN ?_ (h:=by first | exact IntWalk.i64_in _ (by (first | omega | (show (5:Nat)≤_;omega))) | rfl) | refine DC rfl rfl ?_
       refine Cc (k+1) (by (try dsimp only);omega) (by (try dsimp only);omega) rfl (Ap (by first | rfl | (simp only [Tr.get];simp;done)) (Ap (by simp only [Tr.get];first | (rw [hgn];done) | (rw [hgn];rfl)) trivial)) (by first | rfl | (funext u;simp only [hdrop,hset,hpost,hOf];(repeat' split)<;>rfl))
     case' n6=>
      obtain rfl:k=s.size-5:=by omega
      have hcd:Gs s=⟨sc,(Ba s (s.size-5)).1,(Ba s (s.size-5)).2⟩:=by unfold Gs;rw [hs0]
      refine Ar T.Px (Pz ⟨sc,(Ba s (s.size-5)).1,(Ba s (s.size-5)).2⟩) ?_
      refine br (fun hg10=>?y10) (fun hg10=>?n10)
      case' y10=>
       have hN:=QN (s:=s) (by rw [hcd];exact hg10)
       refine brT ?_
      case' n10=>
       have hpb:BF (Gs s)=true:=by rw [hcd];exact hg10
       refine Ar T.QO (QQ ⟨sc,(Ba s (s.size-5)).1,(Ba s (s.size-5)).2⟩) ?_
       refine br (fun hc12=>?y12) (fun hc12=>?n12)
       case' y12=>
        have hN:=Rl (s:=s) (by rw [hcd];intro e;apply hc12;rw [if_pos (by rw [←hcd];exact hpb)];exact e)
       case' n12=>
        have hY:=Jm hpb (s:=s) (by rw [hcd];have h9:=hc12;rw [if_pos (by rw [←hcd];exact hpb)] at h9;exact h9)
        rw [hcd] at hY
    case' n5=>
     have hb1:¬b0=108:=by rintro rfl;exact hc5 rfl
     obtain ⟨sc,hsc,hs0⟩:∃sc:Int,sc=0∧(if s[0]? = some 108 then (1:Int) else 0)=sc:=⟨0,rfl,by rw [hb0,if_neg (by simpa using hb1)]⟩
     refine Et (fb:=[]) T.ok (Nat.le_of_ble_eq_true rfl) [0,2] (fun (k:Nat)=>[(5,.c (.d (.sc (.int .i64 ((5+k:Nat):Int))))),(4,.box [.sc (.int .i64 sc),.sc (.string (Ba s k).1),.sc (.string (Ba s k).2)])]) (fun k=>5+k≤s.size) (fun k=>s.size-k) 0 (by omega) (Ap (by first | rfl | (simp only [Tr.get];simp;done)) (Ap (by subst hsc;rfl) trivial)) ?_
     rintro k hk
     refine Az ?_
     refine br (fun hc13=>?y13) (fun hc13=>?n13)
     case' y13=>
      obtain ⟨c,hc⟩:∃c,s[5+k]? = some c:=⟨_,getElem?_pos s (5+k) (by omega)⟩
      first | refine FQ (by first | exact hb0 | exact ix5 hc) ?_ | refine E8 (by first | exact hb0 | exact ix5 hc) ?_
      refine br (fun hg14=>?y14) (fun hg14=>?n14)
      case' y14=>
       have hc46:s[5+k]? = some 46:=by rw [hc,show c=46 by rw [←UInt8.toNat_inj];show c.toNat=46;omega]
       refine br (fun hc15=>?y15) (fun hc15=>?n15)
       case' y15=>
        have hgn:Ba s (k+1)=(s.extract 5 (5+k),s.extract (5+k+1) s.size):=by rw [Ba,if_pos ⟨hc46,hc15⟩]
        first | refine Fq ?_ | refine Ee ?_
        first | refine Fq ?_ | refine Ee ?_
        refine Gi ?_ (h1:=by (first | omega | (show (5:Nat)≤_;omega))) (h2:=by (first | omega | (show (5:Nat)≤_;omega)))
        first | refine CJ ?_ (h:=by (first | omega | (show (5:Nat)≤_;omega))) | refine DN ?_ (h:=by first | exact IntWalk.i64_in _ (by (first | omega | (show (5:Nat)≤_;omega))) | rfl) | refine DC rfl rfl ?_
        first | refine Fq ?_ | refine Ee ?_
        refine Gi ?_ (h1:=by (first | omega | (show (5:Nat)≤_;omega))) (h2:=by (first | omega | (show (5:Nat)≤_;omega)))
        first | refine CJ ?_ (h:=by (first | omega | (show (5:Nat)≤_;omega))) | refine DN ?_ (h:=by first | exact IntWalk.i64_in _ (by (first | omega | (show (5:Nat)≤_;omega))) | rfl) | refine DC rfl rfl ?_
        refine Cc (k+1) (by (try dsimp only);omega) (by (try dsimp only);omega) rfl (Ap (by first | rfl | (simp only [Tr.get];simp;done)) (Ap (by simp only [Tr.get];first | (rw [hgn];done) | (rw [hgn];rfl)) trivial)) (by first | rfl | (funext u;simp only [hdrop,hset,hpost,hOf];(repeat' split)<;>rfl))
       case' n15=>
        have hgn:Ba s (k+1)=Ba s k:=by rw [Ba,if_neg (fun e=>hc15 e.2)]
        first | refine CJ ?_ (h:=by (first | omega | (show (5:Nat)≤_;omega))) | refine DN ?_ (h:=by first | exact IntWalk.i64_in _ (by (first | omega | (show (5:Nat)≤_;omega))) | rfl) | refine DC rfl rfl ?_
        refine Cc (k+1) (by (try dsimp only);omega) (by (try dsimp only);omega) rfl (Ap (by first | rfl | (simp only [Tr.get];simp;done)) (Ap (by simp only [Tr.get];first | (rw [hgn];done) | (rw [hgn];rfl)) trivial)) (by first | rfl | (funext u;simp only [hdrop,hset,hpost,hOf];(repeat' split)<;>rfl))
      case' n14=>
       have hgn:Ba s (k+1)=Ba s k:=by rw [Ba,if_neg];rintro ⟨e,_⟩;rw [hc] at e;injection e with e;subst e;exact hg14 rfl
       refine brF ?_
       first | refine CJ ?_ (h:=by (first | omega | (show (5:Nat)≤_;omega))) | refine DN ?_ (h:=by first | exact IntWalk.i64_in _ (by (first | omega | (show (5:Nat)≤_;omega))) | rfl) | refine DC rfl rfl ?_
       refine Cc (k+1) (by (try dsimp only);omega) (by (try dsimp only);omega) rfl (Ap (by first | rfl | (simp only [Tr.get];simp;done)) (Ap (by simp only [Tr.get];first | (rw [hgn];done) | (rw [hgn];rfl)) trivial)) (by first | rfl | (funext u;simp only [hdrop,hset,hpost,hOf];(repeat' split)<;>rfl))
     case' n13=>
      obtain rfl:k=s.size-5:=by omega
      have hcd:Gs s=⟨sc,(Ba s (s.size-5)).1,(Ba s (s.size-5)).2⟩:=by unfold Gs;rw [hs0]
      refine Ar T.Px (Pz ⟨sc,(Ba s (s.size-5)).1,(Ba s (s.size-5)).2⟩) ?_
      refine br (fun hg17=>?y17) (fun hg17=>?n17)
      case' y17=>
       have hN:=QN (s:=s) (by rw [hcd];exact hg17)
       refine brT ?_
      case' n17=>
       have hpb:BF (Gs s)=true:=by rw [hcd];exact hg17
       refine Ar T.QO (QQ ⟨sc,(Ba s (s.size-5)).1,(Ba s (s.size-5)).2⟩) ?_
       refine br (fun hc19=>?y19) (fun hc19=>?n19)
       case' y19=>
        have hN:=Rl (s:=s) (by rw [hcd];intro e;apply hc19;rw [if_pos (by rw [←hcd];exact hpb)];exact e)
       case' n19=>
        have hY:=Jm hpb (s:=s) (by rw [hcd];have h9:=hc19;rw [if_pos (by rw [←hcd];exact hpb)] at h9;exact h9)
        rw [hcd] at hY
  case' n3=>
   refine brF ?_
   have hs6:6≤s.size:=by omega
   obtain ⟨b0,hb0⟩:∃b,s[0]? = some b:=⟨_,getElem?_pos s 0 (by omega)⟩
   first | refine Fq ?_ | refine Ee ?_
   refine Gi ?_ (h1:=by (first | omega | (show (5:Nat)≤_;omega))) (h2:=by (first | omega | (show (5:Nat)≤_;omega)))
   first | refine FQ (by first | exact hb0 | exact ix5 hc) ?_ | refine E8 (by first | exact hb0 | exact ix5 hc) ?_
   refine br (fun hc21=>?y21) (fun hc21=>?n21)
   case' y21=>
    have hb1:b0=108:=by rw [←UInt8.toNat_inj];show b0.toNat=108;omega
    obtain ⟨sc,hsc,hs0⟩:∃sc:Int,sc=1∧(if s[0]? = some 108 then (1:Int) else 0)=sc:=⟨1,rfl,by rw [hb0,hb1];rfl⟩
    refine Et (fb:=[]) T.ok (Nat.le_of_ble_eq_true rfl) [0,2] (fun (k:Nat)=>[(5,.c (.d (.sc (.int .i64 ((5+k:Nat):Int))))),(4,.box [.sc (.int .i64 sc),.sc (.string (Ba s k).1),.sc (.string (Ba s k).2)])]) (fun k=>5+k≤s.size) (fun k=>s.size-k) 0 (by omega) (Ap (by first | rfl | (simp only [Tr.get];simp;done)) (Ap (by subst hsc;rfl) trivial)) ?_
    rintro k hk
    refine Az ?_
    refine br (fun hc22=>?y22) (fun hc22=>?n22)
    case' y22=>
     obtain ⟨c,hc⟩:∃c,s[5+k]? = some c:=⟨_,getElem?_pos s (5+k) (by omega)⟩
     first | refine FQ (by first | exact hb0 | exact ix5 hc) ?_ | refine E8 (by first | exact hb0 | exact ix5 hc) ?_
     refine br (fun hg23=>?y23) (fun hg23=>?n23)
     case' y23=>
      have hc46:s[5+k]? = some 46:=by rw [hc,show c=46 by rw [←UInt8.toNat_inj];show c.toNat=46;omega]
      refine br (fun hc24=>?y24) (fun hc24=>?n24)
      case' y24=>
       have hgn:Ba s (k+1)=(s.extract 5 (5+k),s.extract (5+k+1) s.size):=by rw [Ba,if_pos ⟨hc46,hc24⟩]
       first | refine Fq ?_ | refine Ee ?_
       first | refine Fq ?_ | refine Ee ?_
       refine Gi ?_ (h1:=by (first | omega | (show (5:Nat)≤_;omega))) (h2:=by (first | omega | (show (5:Nat)≤_;omega)))
       first | refine CJ ?_ (h:=by (first | omega | (show (5:Nat)≤_;omega))) | refine DN ?_ (h:=by first | exact IntWalk.i64_in _ (by (first | omega | (show (5:Nat)≤_;omega))) | rfl) | refine DC rfl rfl ?_
       first | refine Fq ?_ | refine Ee ?_
       refine Gi ?_ (h1:=by (first | omega | (show (5:Nat)≤_;omega))) (h2:=by (first | omega | (show (5:Nat)≤_;omega)))
       first | refine CJ ?_ (h:=by (first | omega | (show (5:Nat)≤_;omega))) | refine DN ?_ (h:=by first | exact IntWalk.i64_in _ (by (first | omega | (show (5:Nat)≤_;omega))) | rfl) | refine DC rfl rfl ?_
       refine Cc (k+1) (by (try dsimp only);omega) (by (try dsimp only);omega) rfl (Ap (by first | rfl | (simp only [Tr.get];simp;done)) (Ap (by simp only [Tr.get];first | (rw [hgn];done) | (rw [hgn];rfl)) trivial)) (by first | rfl | (funext u;simp only [hdrop,hset,hpost,hOf];(repeat' split)<;>rfl))
      case' n24=>
       have hgn:Ba s (k+1)=Ba s k:=by rw [Ba,if_neg (fun e=>hc24 e.2)]
       first | refine CJ ?_ (h:=by (first | omega | (show (5:Nat)≤_;omega))) | refine DN ?_ (h:=by first | exact IntWalk.i64_in _ (by (first | omega | (show (5:Nat)≤_;omega))) | rfl) | refine DC rfl rfl ?_
       refine Cc (k+1) (by (try dsimp only);omega) (by (try dsimp only);omega) rfl (Ap (by first | rfl | (simp only [Tr.get];simp;done)) (Ap (by simp only [Tr.get];first | (rw [hgn];done) | (rw [hgn];rfl)) trivial)) (by first | rfl | (funext u;simp only [hdrop,hset,hpost,hOf];(repeat' split)<;>rfl))
     case' n23=>
      have hgn:Ba s (k+1)=Ba s k:=by rw [Ba,if_neg];rintro ⟨e,_⟩;rw [hc] at e;injection e with e;subst e;exact hg23 rfl
      refine brF ?_
      first | refine CJ ?_ (h:=by (first | omega | (show (5:Nat)≤_;omega))) | refine DN ?_ (h:=by first | exact IntWalk.i64_in _ (by (first | omega | (show (5:Nat)≤_;omega))) | rfl) | refine DC rfl rfl ?_
      refine Cc (k+1) (by (try dsimp only);omega) (by (try dsimp only);omega) rfl (Ap (by first | rfl | (simp only [Tr.get];simp;done)) (Ap (by simp only [Tr.get];first | (rw [hgn];done) | (rw [hgn];rfl)) trivial)) (by first | rfl | (funext u;simp only [hdrop,hset,hpost,hOf];(repeat' split)<;>rfl))
    case' n22=>
     obtain rfl:k=s.size-5:=by omega
     have hcd:Gs s=⟨sc,(Ba s (s.size-5)).1,(Ba s (s.size-5)).2⟩:=by unfold Gs;rw [hs0]
     refine Ar T.Px (Pz ⟨sc,(Ba s (s.size-5)).1,(Ba s (s.size-5)).2⟩) ?_
     refine br (fun hg26=>?y26) (fun hg26=>?n26)
     case' y26=>
      have hN:=QN (s:=s) (by rw [hcd];exact hg26)
      refine brT ?_
     case' n26=>
      have hpb:BF (Gs s)=true:=by rw [hcd];exact hg26
      refine Ar T.QO (QQ ⟨sc,(Ba s (s.size-5)).1,(Ba s (s.size-5)).2⟩) ?_
      refine br (fun hc28=>?y28) (fun hc28=>?n28)
      case' y28=>
       have hN:=Rl (s:=s) (by rw [hcd];intro e;apply hc28;rw [if_pos (by rw [←hcd];exact hpb)];exact e)
      case' n28=>
       have hY:=Jm hpb (s:=s) (by rw [hcd];have h9:=hc28;rw [if_pos (by rw [←hcd];exact hpb)] at h9;exact h9)
       rw [hcd] at hY
   case' n21=>
    have hb1:¬b0=108:=by rintro rfl;exact hc21 rfl
    obtain ⟨sc,hsc,hs0⟩:∃sc:Int,sc=0∧(if s[0]? = some 108 then (1:Int) else 0)=sc:=⟨0,rfl,by rw [hb0,if_neg (by simpa using hb1)]⟩
    refine Et (fb:=[]) T.ok (Nat.le_of_ble_eq_true rfl) [0,2] (fun (k:Nat)=>[(5,.c (.d (.sc (.int .i64 ((5+k:Nat):Int))))),(4,.box [.sc (.int .i64 sc),.sc (.string (Ba s k).1),.sc (.string (Ba s k).2)])]) (fun k=>5+k≤s.size) (fun k=>s.size-k) 0 (by omega) (Ap (by first | rfl | (simp only [Tr.get];simp;done)) (Ap (by subst hsc;rfl) trivial)) ?_
    rintro k hk
    refine Az ?_
    refine br (fun hc29=>?y29) (fun hc29=>?n29)
    case' y29=>
     obtain ⟨c,hc⟩:∃c,s[5+k]? = some c:=⟨_,getElem?_pos s (5+k) (by omega)⟩
     first | refine FQ (by first | exact hb0 | exact ix5 hc) ?_ | refine E8 (by first | exact hb0 | exact ix5 hc) ?_
     refine br (fun hg30=>?y30) (fun hg30=>?n30)
     case' y30=>
      have hc46:s[5+k]? = some 46:=by rw [hc,show c=46 by rw [←UInt8.toNat_inj];show c.toNat=46;omega]
      refine br (fun hc31=>?y31) (fun hc31=>?n31)
      case' y31=>
       have hgn:Ba s (k+1)=(s.extract 5 (5+k),s.extract (5+k+1) s.size):=by rw [Ba,if_pos ⟨hc46,hc31⟩]
       first | refine Fq ?_ | refine Ee ?_
       first | refine Fq ?_ | refine Ee ?_
       refine Gi ?_ (h1:=by (first | omega | (show (5:Nat)≤_;omega))) (h2:=by (first | omega | (show (5:Nat)≤_;omega)))
       first | refine CJ ?_ (h:=by (first | omega | (show (5:Nat)≤_;omega))) | refine DN ?_ (h:=by first | exact IntWalk.i64_in _ (by (first | omega | (show (5:Nat)≤_;omega))) | rfl) | refine DC rfl rfl ?_
       first | refine Fq ?_ | refine Ee ?_
       refine Gi ?_ (h1:=by (first | omega | (show (5:Nat)≤_;omega))) (h2:=by (first | omega | (show (5:Nat)≤_;omega)))
       first | refine CJ ?_ (h:=by (first | omega | (show (5:Nat)≤_;omega))) | refine DN ?_ (h:=by first | exact IntWalk.i64_in _ (by (first | omega | (show (5:Nat)≤_;omega))) | rfl) | refine DC rfl rfl ?_
       refine Cc (k+1) (by (try dsimp only);omega) (by (try dsimp only);omega) rfl (Ap (by first | rfl | (simp only [Tr.get];simp;done)) (Ap (by simp only [Tr.get];first | (rw [hgn];done) | (rw [hgn];rfl)) trivial)) (by first | rfl | (funext u;simp only [hdrop,hset,hpost,hOf];(repeat' split)<;>rfl))
      case' n31=>
       have hgn:Ba s (k+1)=Ba s k:=by rw [Ba,if_neg (fun e=>hc31 e.2)]
       first | refine CJ ?_ (h:=by (first | omega | (show (5:Nat)≤_;omega))) | refine DN ?_ (h:=by first | exact IntWalk.i64_in _ (by (first | omega | (show (5:Nat)≤_;omega))) | rfl) | refine DC rfl rfl ?_
       refine Cc (k+1) (by (try dsimp only);omega) (by (try dsimp only);omega) rfl (Ap (by first | rfl | (simp only [Tr.get];simp;done)) (Ap (by simp only [Tr.get];first | (rw [hgn];done) | (rw [hgn];rfl)) trivial)) (by first | rfl | (funext u;simp only [hdrop,hset,hpost,hOf];(repeat' split)<;>rfl))
     case' n30=>
      have hgn:Ba s (k+1)=Ba s k:=by rw [Ba,if_neg];rintro ⟨e,_⟩;rw [hc] at e;injection e with e;subst e;exact hg30 rfl
      refine brF ?_
      first | refine CJ ?_ (h:=by (first | omega | (show (5:Nat)≤_;omega))) | refine DN ?_ (h:=by first | exact IntWalk.i64_in _ (by (first | omega | (show (5:Nat)≤_;omega))) | rfl) | refine DC rfl rfl ?_
      refine Cc (k+1) (by (try dsimp only);omega) (by (try dsimp only);omega) rfl (Ap (by first | rfl | (simp only [Tr.get];simp;done)) (Ap (by simp only [Tr.get];first | (rw [hgn];done) | (rw [hgn];rfl)) trivial)) (by first | rfl | (funext u;simp only [hdrop,hset,hpost,hOf];(repeat' split)<;>rfl))
    case' n29=>
     obtain rfl:k=s.size-5:=by omega
     have hcd:Gs s=⟨sc,(Ba s (s.size-5)).1,(Ba s (s.size-5)).2⟩:=by unfold Gs;rw [hs0]
     refine Ar T.Px (Pz ⟨sc,(Ba s (s.size-5)).1,(Ba s (s.size-5)).2⟩) ?_
     refine br (fun hg33=>?y33) (fun hg33=>?n33)
     case' y33=>
      have hN:=QN (s:=s) (by rw [hcd];exact hg33)
      refine brT ?_
     case' n33=>
      have hpb:BF (Gs s)=true:=by rw [hcd];exact hg33
      refine Ar T.QO (QQ ⟨sc,(Ba s (s.size-5)).1,(Ba s (s.size-5)).2⟩) ?_
      refine br (fun hc35=>?y35) (fun hc35=>?n35)
      case' y35=>
       have hN:=Rl (s:=s) (by rw [hcd];intro e;apply hc35;rw [if_pos (by rw [←hcd];exact hpb)];exact e)
      case' n35=>
       have hY:=Jm hpb (s:=s) (by rw [hcd];have h9:=hc35;rw [if_pos (by rw [←hcd];exact hpb)] at h9;exact h9)
       rw [hcd] at hY
 all_goals (refine CV ?_;simp only [Bq,fits,C.asD,and_true]<;>(first | (rw [hN];exact ⟨rfl,rfl⟩) | (rw [hY];exact ⟨rfl,rfl⟩)))
end Go.Vm
end
section
namespace Go.Vm
open Go.RowKit Go.Proofs Go.Proofs.YtdfbohaohjaloaaGreatDoor Punnet.Name Punnet.Num
noncomputable def OX (s:ByteArray):ByteArray×Int:=if s.size≤40 then (QT s,0) else (noB,14)
theorem Aai (s:ByteArray):AQ Tryz.prog 135 [.sc (.string s)] [.d (.sc (.string (OX s).1)),.d (.sc (.int .i64 (OX s).2))]:=by
 unfold OX
 split
 ·exact quote_any s (by assumption)
 ·exact KH (us:=[.string s]) (rs:=[]) (by simp [BL]) fun w=>quote_long s w (by omega)
end Go.Vm
end
section
namespace Go.Vm
open Go.Proofs Go.Proofs.YtdfbohaohjaloaaGreatDoor Punnet.Name Punnet.Num
structure Il where
 e0:ByteArray
 e1:ByteArray
 e2:ByteArray
 e3:ByteArray
 e4:ByteArray
 e5:ByteArray
 e6:ByteArray
 e7:ByteArray
 e8:ByteArray
 e9:ByteArray
 e10:ByteArray
 e11:ByteArray
 e12:ByteArray
 deriving DecidableEq
def Kt (x:Il):D:=.agg [.sc (.string x.e0),.sc (.string x.e1),.sc (.string x.e2),.sc (.string x.e3),.sc (.string x.e4),.sc (.string x.e5),.sc (.string x.e6),.sc (.string x.e7),.sc (.string x.e8),.sc (.string x.e9),.sc (.string x.e10),.sc (.string x.e11),.sc (.string x.e12)]
def CS:Il:=⟨⟨#[]⟩,⟨#[97,100,100]⟩,⟨#[114,101,109,111,118,101]⟩,⟨#[97,100,106,117,115,116]⟩,⟨#[115,101,116]⟩,⟨#[112,117,116]⟩,⟨#[116,97,107,101]⟩,⟨#[99,108,101,97,114]⟩,⟨#[112,117,98,108,105,115,104]⟩,⟨#[115,119,105,116,99,104]⟩,⟨#[118,105,101,119]⟩,⟨#[97,116]⟩,⟨#[112,114,111,106,101,99,116]⟩⟩
def Ec:Il:=⟨⟨#[]⟩,⟨#[]⟩,⟨#[104,101,108,108,111]⟩,⟨#[100,101,108,105,118,101,114]⟩,⟨#[108,111,115,101]⟩,⟨#[100,111,117,98,108,101]⟩,⟨#[99,117,116]⟩,⟨#[102,117,115,101]⟩,⟨#[99,114,97,115,104]⟩,⟨#[102,111,108,100]⟩,⟨#[109,101,101,116]⟩,⟨#[]⟩,⟨#[]⟩⟩
def Ew:Il:=⟨⟨#[]⟩,⟨#[114,101,110,97,109,101]⟩,⟨#[]⟩,⟨#[]⟩,⟨#[104,111,105,115,116]⟩,⟨#[112,108,117,110,103,101]⟩,⟨#[115,112,108,105,116]⟩,⟨#[119,114,97,112]⟩,⟨#[]⟩,⟨#[]⟩,⟨#[]⟩,⟨#[]⟩,⟨#[]⟩⟩
def Gg:Il:=⟨⟨#[]⟩,⟨#[99,111,117,110,116,101,114]⟩,⟨#[116,101,120,116]⟩,⟨#[]⟩,⟨#[108,105,115,116]⟩,⟨#[]⟩,⟨#[]⟩,⟨#[]⟩,⟨#[]⟩,⟨#[]⟩,⟨#[]⟩,⟨#[]⟩,⟨#[]⟩⟩
structure A8 where
 words:(List ByteArray)
 bad:Bool
 deriving DecidableEq
structure Au where
 kind:Int
 who:Int
 to_:Int
 n:Int
 re:Int
 im:Int
 off:Int
 deed:AY
 deriving DecidableEq
def JU (x:Au):D:=.agg [.sc (.int .i64 x.kind),.sc (.int .i64 x.who),.sc (.int .i64 x.to_),.sc (.int .i64 x.n),.sc (.int .i64 x.re),.sc (.int .i64 x.im),.sc (.int .i64 x.off),.sc (.int .i64 x.deed.kind),.sc (.string x.deed.cart),.sc (.string x.deed.item),.sc (.int .i64 x.deed.at_.scope),.sc (.string x.deed.at_.group),.sc (.string x.deed.at_.name),.sc (.int .i64 x.deed.n),.sc (.string x.deed.text),.sc (.int .i64 x.deed.tag.r),.sc (.int .i64 x.deed.tag.n),.sc (.int .i64 x.deed.lens.kind),.sc (.int .i64 x.deed.lens.at_.scope),.sc (.string x.deed.lens.at_.group),.sc (.string x.deed.lens.at_.name),.sc (.string x.deed.lens.name),.sc (.string x.deed.lens.other),.sc (.int .i64 x.deed.lens.factor),.sc (.int .i64 x.deed.lens.field.at_.scope),.sc (.string x.deed.lens.field.at_.group),.sc (.string x.deed.lens.field.at_.name),.sc (.int .i64 x.deed.lens.field.kind),.sc (.string x.deed.lens.field.deft),.row (List.map strD x.deed.lens.field.cases),.sc (.int .i64 x.deed.lens.field.worth),.row (List.map Ii x.deed.lens.forth),.row (List.map Ii x.deed.lens.back)]
noncomputable def Df (table:Il)(word:ByteArray):Nat→Int→Option (Sum Int Int)
 | 0,_=>none
 | nl1+1,v8l1=>if v8l1<13 then ((idx [table.e0,table.e1,table.e2,table.e3,table.e4,table.e5,table.e6,table.e7,table.e8,table.e9,table.e10,table.e11,table.e12] v8l1).bind fun p11=>if (p11=word)∧(¬(p11=noB)) then (some (.inl (v8l1))) else (Df table word nl1 (w64 (v8l1+1)))) else (some (.inr (v8l1)))
noncomputable def BC  (table:Il)(word:ByteArray):Option Int:=(Df table word 1000000 0).bind fun m_=>match m_ with | .inl rl1=>some rl1 | .inr w8l1=>some 0
noncomputable def CZ  (table:Il)(kind:Int):Option ByteArray:=if (kind<0)∨(13≤kind) then (some noB) else ((idx [table.e0,table.e1,table.e2,table.e3,table.e4,table.e5,table.e6,table.e7,table.e8,table.e9,table.e10,table.e11,table.e12] kind).bind fun p12=>some p12)
noncomputable def Hu  (r0:A8):Option (ByteArray×A8):=if ((r0.words.length:Nat):Int)=0 then (some (noB,(⟨r0.words,true⟩:A8))) else ((idx r0.words 0).bind fun p17=>(Gv r0.words 1 ((r0.words.length:Nat):Int)).bind fun y24=>some (p17,(⟨y24,r0.bad⟩:A8)))
noncomputable def Jo  (r0:A8):Option (Int×A8):=(Hu r0).bind fun r7=>grd (r7.1.size≤1000000) (some (((Aw r7.1).1:Int),(⟨r7.2.words,(decide ((r7.2.bad=true)∨(¬(((Aw r7.1).2:Int)=0))))⟩:A8)))
noncomputable def Jw  (r0:A8):Option (Int×A8):=(Jo r0).bind fun r4=>some (r4.1,r4.2)
noncomputable def MC  (r0:A8):Option (BZ×A8):=(Hu r0).bind fun r7=>grd (r7.1.size≤1000000) (some (((CQ r7.1).getD AU),(⟨r7.2.words,(decide ((r7.2.bad=true)∨(¬((if (CQ r7.1).isSome=true then 0 else 4:Int)=0))))⟩:A8)))
noncomputable def Jv  (r0:A8):Option (Bv×A8):=(Hu r0).bind fun r7=>grd (r7.1.size≤1000000) (some (((placeOf r7.1).getD Ae),(⟨r7.2.words,(decide ((r7.2.bad=true)∨(¬((if (placeOf r7.1).isSome=true then 0 else 4:Int)=0))))⟩:A8)))
noncomputable def LQ  (r0:A8):Option (ByteArray×A8):=(Hu r0).bind fun r5=>some (r5.1,(⟨r5.2.words,(decide ((r5.2.bad=true)∨(¬((nameB r5.1)=true))))⟩:A8))
noncomputable def MR  (r0:A8):Option (ByteArray×A8):=(Hu r0).bind fun r5=>if r5.1=(⟨#[45]⟩:ByteArray) then (some (noB,r5.2)) else (some (r5.1,(⟨r5.2.words,(decide ((r5.2.bad=true)∨(¬((nameB r5.1)=true))))⟩:A8)))
noncomputable def Nr  (r0:A8):Option (ByteArray×A8):=(Hu r0).bind fun r7=>grd (r7.1.size≤1000000) (some (((DD r7.1).1),(⟨r7.2.words,(decide ((r7.2.bad=true)∨(¬(((DD r7.1).2:Int)=0))))⟩:A8)))
noncomputable def EL  (r0:A8):Option (AP×A8):=(Hu r0).bind fun r6=>(BC Ew r6.1).bind fun r9=>if (r9=1)∨(r9=5) then ((Jv r6.2).bind fun r47=>(LQ r47.2).bind fun r50=>some ((⟨r9,r47.1,r50.1,noB,0,(⟨Ae,0,noB,[],0⟩:AB),[],[]⟩:AP),r50.2)) else (if r9=4 then ((Jv r6.2).bind fun r55=>some ((⟨r9,r55.1,noB,noB,0,(⟨Ae,0,noB,[],0⟩:AB),[],[]⟩:AP),r55.2)) else (if r9=6 then ((Jv r6.2).bind fun r60=>(LQ r60.2).bind fun r63=>(LQ r63.2).bind fun r66=>(Jo r66.2).bind fun r69=>some ((⟨r9,r60.1,r63.1,r66.1,r69.1,(⟨Ae,0,noB,[],0⟩:AB),[],[]⟩:AP),r69.2)) else (if r9=7 then ((Jv r6.2).bind fun r74=>(Nr r74.2).bind fun r77=>some ((⟨r9,r74.1,noB,r77.1,0,(⟨Ae,0,noB,[],0⟩:AB),[],[]⟩:AP),r77.2)) else ((BC Gg r6.1).bind fun r16=>(Jv r6.2).bind fun r20=>if r16=1 then ((Jo r20.2).bind fun r32=>some ((⟨2,Ae,noB,noB,0,(⟨r20.1,r16,noB,[],r32.1⟩:AB),[],[]⟩:AP),r32.2)) else (if r16=2 then ((Nr r20.2).bind fun r38=>some ((⟨2,Ae,noB,noB,0,(⟨r20.1,r16,r38.1,[],0⟩:AB),[],[]⟩:AP),r38.2)) else (if r16=4 then (some ((⟨2,Ae,noB,noB,0,(⟨r20.1,r16,noB,[],0⟩:AB),[],[]⟩:AP),r20.2)) else (some ((⟨2,Ae,noB,noB,0,(⟨r20.1,r16,noB,[],0⟩:AB),[],[]⟩:AP),(⟨r20.2.words,true⟩:A8)))))))))
noncomputable def Ei  (r0:A8)(kind:Int):Option (AY×A8):=if kind=8 then ((MC r0).bind fun r12=>(EL r12.2).bind fun r15=>some ((⟨kind,noB,noB,Ae,0,noB,r12.1,r15.1⟩:AY),r15.2)) else (if kind=9 then ((MC r0).bind fun r21=>some ((⟨kind,noB,noB,Ae,0,noB,r21.1,(⟨0,Ae,noB,noB,0,(⟨Ae,0,noB,[],0⟩:AB),[],[]⟩:AP)⟩:AY),r21.2)) else ((LQ r0).bind fun r25=>if (kind=1)∨(kind=2) then ((MR r25.2).bind fun r32=>some ((⟨kind,r25.1,r32.1,Ae,0,noB,AU,(⟨0,Ae,noB,noB,0,(⟨Ae,0,noB,[],0⟩:AB),[],[]⟩:AP)⟩:AY),r32.2)) else (if kind=3 then ((MR r25.2).bind fun r37=>(Jv r37.2).bind fun r40=>(Jo r40.2).bind fun r43=>some ((⟨kind,r25.1,r37.1,r40.1,r43.1,noB,AU,(⟨0,Ae,noB,noB,0,(⟨Ae,0,noB,[],0⟩:AB),[],[]⟩:AP)⟩:AY),r43.2)) else (if (kind=4)∨((kind=5)∨(kind=6)) then ((MR r25.2).bind fun r50=>(Jv r50.2).bind fun r53=>(Nr r53.2).bind fun r56=>some ((⟨kind,r25.1,r50.1,r53.1,0,r56.1,AU,(⟨0,Ae,noB,noB,0,(⟨Ae,0,noB,[],0⟩:AB),[],[]⟩:AP)⟩:AY),r56.2)) else (if (kind=11)∨(kind=12) then ((MC r25.2).bind fun r62=>some ((⟨kind,r25.1,noB,Ae,0,noB,r62.1,(⟨0,Ae,noB,noB,0,(⟨Ae,0,noB,[],0⟩:AB),[],[]⟩:AP)⟩:AY),r62.2)) else (some ((⟨kind,r25.1,noB,Ae,0,noB,AU,(⟨0,Ae,noB,noB,0,(⟨Ae,0,noB,[],0⟩:AB),[],[]⟩:AP)⟩:AY),r25.2)))))))
noncomputable def BM  (line:ByteArray):Option (Au×Int):=grd (line.size≤1000000) ((Hu (⟨(splitB line 0),false⟩:A8)).bind fun r13=>(BC CS r13.1).bind fun r16=>if ¬(r16=0) then ((Jw r13.2).bind fun r21=>(Ei r21.2 r16).bind fun r25=>if (r25.2.bad=true)∨(0<((r25.2.words.length:Nat):Int)) then (some ((⟨0,0,0,0,0,0,0,(⟨0,noB,noB,Ae,0,noB,AU,(⟨0,Ae,noB,noB,0,(⟨Ae,0,noB,[],0⟩:AB),[],[]⟩:AP)⟩:AY)⟩:Au),4)) else (some ((⟨1,r21.1,0,0,0,0,0,r25.1⟩:Au),0))) else ((BC Ec r13.1).bind fun r29=>if (r29=2)∨(r29=10) then ((Jw r13.2).bind fun r40=>(Jw r40.2).bind fun r43=>if (r43.2.bad=true)∨(0<((r43.2.words.length:Nat):Int)) then (some ((⟨0,0,0,0,0,0,0,(⟨0,noB,noB,Ae,0,noB,AU,(⟨0,Ae,noB,noB,0,(⟨Ae,0,noB,[],0⟩:AB),[],[]⟩:AP)⟩:AY)⟩:Au),4)) else (some ((⟨r29,r40.1,r43.1,0,0,0,0,(⟨0,noB,noB,Ae,0,noB,AU,(⟨0,Ae,noB,noB,0,(⟨Ae,0,noB,[],0⟩:AB),[],[]⟩:AP)⟩:AY)⟩:Au),0))) else (if (r29=3)∨((r29=4)∨(r29=5)) then ((Jw r13.2).bind fun r50=>if (r50.2.bad=true)∨(0<((r50.2.words.length:Nat):Int)) then (some ((⟨0,0,0,0,0,0,0,(⟨0,noB,noB,Ae,0,noB,AU,(⟨0,Ae,noB,noB,0,(⟨Ae,0,noB,[],0⟩:AB),[],[]⟩:AP)⟩:AY)⟩:Au),4)) else (some ((⟨r29,0,0,r50.1,0,0,0,(⟨0,noB,noB,Ae,0,noB,AU,(⟨0,Ae,noB,noB,0,(⟨Ae,0,noB,[],0⟩:AB),[],[]⟩:AP)⟩:AY)⟩:Au),0))) else (if r29=6 then ((Jo r13.2).bind fun r55=>(Jo r55.2).bind fun r58=>(Jo r58.2).bind fun r61=>if (r61.2.bad=true)∨(0<((r61.2.words.length:Nat):Int)) then (some ((⟨0,0,0,0,0,0,0,(⟨0,noB,noB,Ae,0,noB,AU,(⟨0,Ae,noB,noB,0,(⟨Ae,0,noB,[],0⟩:AB),[],[]⟩:AP)⟩:AY)⟩:Au),4)) else (some ((⟨r29,0,0,0,r55.1,r58.1,r61.1,(⟨0,noB,noB,Ae,0,noB,AU,(⟨0,Ae,noB,noB,0,(⟨Ae,0,noB,[],0⟩:AB),[],[]⟩:AP)⟩:AY)⟩:Au),0))) else (if (r29=7)∨(r29=8) then ((Jw r13.2).bind fun r67=>(Jw r67.2).bind fun r70=>if (r70.2.bad=true)∨(0<((r70.2.words.length:Nat):Int)) then (some ((⟨0,0,0,0,0,0,0,(⟨0,noB,noB,Ae,0,noB,AU,(⟨0,Ae,noB,noB,0,(⟨Ae,0,noB,[],0⟩:AB),[],[]⟩:AP)⟩:AY)⟩:Au),4)) else (some ((⟨r29,r67.1,0,r70.1,0,0,0,(⟨0,noB,noB,Ae,0,noB,AU,(⟨0,Ae,noB,noB,0,(⟨Ae,0,noB,[],0⟩:AB),[],[]⟩:AP)⟩:AY)⟩:Au),0))) else (if r29=9 then ((Jw r13.2).bind fun r75=>if (r75.2.bad=true)∨(0<((r75.2.words.length:Nat):Int)) then (some ((⟨0,0,0,0,0,0,0,(⟨0,noB,noB,Ae,0,noB,AU,(⟨0,Ae,noB,noB,0,(⟨Ae,0,noB,[],0⟩:AB),[],[]⟩:AP)⟩:AY)⟩:Au),4)) else (some ((⟨r29,r75.1,0,0,0,0,0,(⟨0,noB,noB,Ae,0,noB,AU,(⟨0,Ae,noB,noB,0,(⟨Ae,0,noB,[],0⟩:AB),[],[]⟩:AP)⟩:AY)⟩:Au),0))) else (some ((⟨0,0,0,0,0,0,0,(⟨0,noB,noB,Ae,0,noB,AU,(⟨0,Ae,noB,noB,0,(⟨Ae,0,noB,[],0⟩:AB),[],[]⟩:AP)⟩:AY)⟩:Au),4))))))))
end Go.Vm
end
section
namespace Go.Vm
open Go.Proofs Go.Proofs.YtdfbohaohjaloaaGreatDoor Punnet.Name Punnet.Num
structure Bc where
 verb:ByteArray
 words:ByteArray
 deriving DecidableEq
def formD (x:Bc):D:=.agg [.sc (.string x.verb),.sc (.string x.words)]
structure BQ where
 n:(List Int)
 t:(List BZ)
 s:(List ByteArray)
 p:(List Bv)
 q:(List ByteArray)
 deriving DecidableEq
def gotD (x:BQ):D:=.agg [.row (List.map intD x.n),.row (List.map tD x.t),.row (List.map strD x.s),.row (List.map rD x.p),.row (List.map strD x.q)]
noncomputable def CX   : (List Bc):=[(⟨noB,noB⟩:Bc),(⟨(⟨#[97,100,100]⟩:ByteArray),(⟨#[119,99,105]⟩:ByteArray)⟩:Bc),(⟨(⟨#[114,101,109,111,118,101]⟩:ByteArray),(⟨#[119,99,105]⟩:ByteArray)⟩:Bc),(⟨(⟨#[97,100,106,117,115,116]⟩:ByteArray),(⟨#[119,99,105,112,110]⟩:ByteArray)⟩:Bc),(⟨(⟨#[115,101,116]⟩:ByteArray),(⟨#[119,99,105,112,113]⟩:ByteArray)⟩:Bc),(⟨(⟨#[112,117,116]⟩:ByteArray),(⟨#[119,99,105,112,113]⟩:ByteArray)⟩:Bc),(⟨(⟨#[116,97,107,101]⟩:ByteArray),(⟨#[119,99,105,112,113]⟩:ByteArray)⟩:Bc),(⟨(⟨#[99,108,101,97,114]⟩:ByteArray),(⟨#[119,99]⟩:ByteArray)⟩:Bc),(⟨(⟨#[112,117,98,108,105,115,104]⟩:ByteArray),(⟨#[119,116]⟩:ByteArray)⟩:Bc),(⟨(⟨#[115,119,105,116,99,104]⟩:ByteArray),(⟨#[119,116]⟩:ByteArray)⟩:Bc),(⟨(⟨#[118,105,101,119]⟩:ByteArray),(⟨#[119,99]⟩:ByteArray)⟩:Bc),(⟨(⟨#[97,116]⟩:ByteArray),(⟨#[119,99,116]⟩:ByteArray)⟩:Bc),(⟨(⟨#[112,114,111,106,101,99,116]⟩:ByteArray),(⟨#[119,99,116]⟩:ByteArray)⟩:Bc)]
noncomputable def Eh   : (List Bc):=[(⟨noB,noB⟩:Bc),(⟨noB,noB⟩:Bc),(⟨(⟨#[104,101,108,108,111]⟩:ByteArray),(⟨#[119,119]⟩:ByteArray)⟩:Bc),(⟨(⟨#[100,101,108,105,118,101,114]⟩:ByteArray),(⟨#[110]⟩:ByteArray)⟩:Bc),(⟨(⟨#[108,111,115,101]⟩:ByteArray),(⟨#[110]⟩:ByteArray)⟩:Bc),(⟨(⟨#[100,111,117,98,108,101]⟩:ByteArray),(⟨#[110]⟩:ByteArray)⟩:Bc),(⟨(⟨#[99,117,116]⟩:ByteArray),(⟨#[110,110,110]⟩:ByteArray)⟩:Bc),(⟨(⟨#[102,117,115,101]⟩:ByteArray),(⟨#[119,110]⟩:ByteArray)⟩:Bc),(⟨(⟨#[99,114,97,115,104]⟩:ByteArray),(⟨#[119,110]⟩:ByteArray)⟩:Bc),(⟨(⟨#[102,111,108,100]⟩:ByteArray),(⟨#[119]⟩:ByteArray)⟩:Bc),(⟨(⟨#[109,101,101,116]⟩:ByteArray),(⟨#[119,119]⟩:ByteArray)⟩:Bc)]
noncomputable def EC   : (List Bc):=[(⟨noB,noB⟩:Bc),(⟨(⟨#[114,101,110,97,109,101]⟩:ByteArray),(⟨#[112,109]⟩:ByteArray)⟩:Bc),(⟨noB,noB⟩:Bc),(⟨noB,noB⟩:Bc),(⟨(⟨#[104,111,105,115,116]⟩:ByteArray),(⟨#[112]⟩:ByteArray)⟩:Bc),(⟨(⟨#[112,108,117,110,103,101]⟩:ByteArray),(⟨#[112,109]⟩:ByteArray)⟩:Bc),(⟨(⟨#[115,112,108,105,116]⟩:ByteArray),(⟨#[112,109,109,110]⟩:ByteArray)⟩:Bc),(⟨(⟨#[119,114,97,112]⟩:ByteArray),(⟨#[112,113]⟩:ByteArray)⟩:Bc),(⟨noB,noB⟩:Bc),(⟨noB,noB⟩:Bc),(⟨noB,noB⟩:Bc),(⟨(⟨#[99,111,117,110,116,101,114]⟩:ByteArray),(⟨#[112,110]⟩:ByteArray)⟩:Bc),(⟨(⟨#[116,101,120,116]⟩:ByteArray),(⟨#[112,113]⟩:ByteArray)⟩:Bc),(⟨noB,noB⟩:Bc),(⟨(⟨#[108,105,115,116]⟩:ByteArray),(⟨#[112]⟩:ByteArray)⟩:Bc)]
noncomputable def Hr (l:(List ByteArray))(form:ByteArray):Nat→BQ→BQ→Int→Option (Sum (BQ×Bool) (BQ×BQ×Int))
 | 0,_,_,_=>none
 | nl1+1,v4l1,v6l1,v7l1=>if v7l1<((form.size:Nat):Int) then ((idxS form v7l1).bind fun p33=>if (((p33.toNat:Nat):Int)=119)∨(((p33.toNat:Nat):Int)=110) then ((idx l v7l1).bind fun p62=>grd (p62.size≤1000000) (if ¬((Aw p62).2=0) then (some (.inl ((v6l1,false)))) else ((BG v6l1.n [((Aw p62).1:Int)]).bind fun z74=>Hr l form nl1 v4l1 (⟨z74,v6l1.t,v6l1.s,v6l1.p,v6l1.q⟩:BQ) (w64 (v7l1+1))))) else (if ((p33.toNat:Nat):Int)=116 then ((idx l v7l1).bind fun p81=>grd (p81.size≤1000000) (if ¬(((CQ p81).isSome)=true) then (some (.inl ((v6l1,false)))) else ((BG v6l1.t [((CQ p81).getD AU)]).bind fun z93=>Hr l form nl1 v4l1 (⟨v6l1.n,z93,v6l1.s,v6l1.p,v6l1.q⟩:BQ) (w64 (v7l1+1))))) else (if ((p33.toNat:Nat):Int)=112 then ((idx l v7l1).bind fun p100=>grd (p100.size≤1000000) (if ¬(((placeOf p100).isSome)=true) then (some (.inl ((v6l1,false)))) else ((BG v6l1.p [((placeOf p100).getD Ae)]).bind fun z112=>Hr l form nl1 v4l1 (⟨v6l1.n,v6l1.t,v6l1.s,z112,v6l1.q⟩:BQ) (w64 (v7l1+1))))) else (if ((p33.toNat:Nat):Int)=113 then ((idx l v7l1).bind fun p119=>grd (p119.size≤1000000) (if ¬(((Dq p119 0).2.2:Int)=0) then (some (.inl ((v6l1,false)))) else ((idx l v7l1).bind fun p131=>if ¬((((Dq p119 0).2.1:Nat):Int)=((p131.size:Nat):Int)) then (some (.inl ((v6l1,false)))) else ((BG v6l1.q [((Dq p119 0).1)]).bind fun z141=>Hr l form nl1 v4l1 (⟨v6l1.n,v6l1.t,v6l1.s,v6l1.p,z141⟩:BQ) (w64 (v7l1+1)))))) else ((idx l v7l1).bind fun p36=>(idxS form v7l1).bind fun p40=>if (((p40.toNat:Nat):Int)=105)∧(p36=(⟨#[45]⟩:ByteArray)) then ((BG v6l1.s [noB]).bind fun z54=>Hr l form nl1 v4l1 (⟨v6l1.n,v6l1.t,z54,v6l1.p,v6l1.q⟩:BQ) (w64 (v7l1+1))) else (if ¬((nameB p36)=true) then (some (.inl ((v6l1,false)))) else ((BG v6l1.s [p36]).bind fun z54=>Hr l form nl1 v4l1 (⟨v6l1.n,v6l1.t,z54,v6l1.p,v6l1.q⟩:BQ) (w64 (v7l1+1))))))))) else (some (.inr ((v4l1,v6l1,v7l1))))
noncomputable def Ny  (l:(List ByteArray))(form:ByteArray):Option (BQ×Bool):=if ¬(((l.length:Nat):Int)=((form.size:Nat):Int)) then (some ((⟨[],[],[],[],[]⟩:BQ),false)) else ((Hr l form 1000000 (⟨[],[],[],[],[]⟩:BQ) (⟨[],[],[],[],[]⟩:BQ) 0).bind fun m_=>match m_ with | .inl rl1=>some rl1 | .inr (w4l1,w6l1,w7l1)=>some (w6l1,true))
noncomputable def LY (verb:ByteArray):List Bc→Nat→Option (Sum Int Unit)
 | [],_=>some (.inr (()))
 | xl1::ll1,kl1=>if (xl1.verb=verb)∧(¬(verb=noB)) then (some (.inl (((kl1:Nat):Int)))) else (LY verb ll1 (kl1+1) )
noncomputable def BU  (l:(List Bc))(verb:ByteArray):Option Int:=grd (l.length≤1000000000) ((LY verb l 0).bind fun m_=>match m_ with | .inl rl1=>some rl1 | .inr _=>some (-1))
noncomputable def IC (r17:Int)(r29:BQ×Bool)(j8k1:AP):Option (AP×Bool):=if r17=6 then ((idx r29.1.s 1).bind fun p79=>(idx r29.1.n 0).bind fun p84=>if r17=7 then ((idx r29.1.q 0).bind fun p91=>some ((⟨j8k1.kind,j8k1.at_,j8k1.name,p91,p84,j8k1.field,j8k1.forth,j8k1.back⟩:AP),true)) else (some ((⟨j8k1.kind,j8k1.at_,j8k1.name,p79,p84,j8k1.field,j8k1.forth,j8k1.back⟩:AP),true))) else (if r17=7 then ((idx r29.1.q 0).bind fun p91=>some ((⟨j8k1.kind,j8k1.at_,j8k1.name,p91,j8k1.factor,j8k1.field,j8k1.forth,j8k1.back⟩:AP),true)) else (some (j8k1,true)))
noncomputable def ER  (l:(List ByteArray)):Option (AP×Bool):=if ((l.length:Nat):Int)=0 then (some ((⟨0,Ae,noB,noB,0,(⟨Ae,0,noB,[],0⟩:AB),[],[]⟩:AP),false)) else ((idx l 0).bind fun p15=>(BU (EC) p15).bind fun r17=>if r17<0 then (some ((⟨0,Ae,noB,noB,0,(⟨Ae,0,noB,[],0⟩:AB),[],[]⟩:AP),false)) else ((Gv l 1 ((l.length:Nat):Int)).bind fun y23=>(idx (EC) r17).bind fun p26=>(Ny y23 p26.words).bind fun r29=>if ¬(r29.2=true) then (some ((⟨0,Ae,noB,noB,0,(⟨Ae,0,noB,[],0⟩:AB),[],[]⟩:AP),false)) else (if 10<r17 then ((idx r29.1.p 0).bind fun p39=>if r17=11 then ((idx r29.1.n 0).bind fun p48=>if r17=12 then ((idx r29.1.q 0).bind fun p55=>some ((⟨2,Ae,noB,noB,0,(⟨p39,(w64 (r17-10)),p55,[],p48⟩:AB),[],[]⟩:AP),true)) else (some ((⟨2,Ae,noB,noB,0,(⟨p39,(w64 (r17-10)),noB,[],p48⟩:AB),[],[]⟩:AP),true))) else (if r17=12 then ((idx r29.1.q 0).bind fun p55=>some ((⟨2,Ae,noB,noB,0,(⟨p39,(w64 (r17-10)),p55,[],0⟩:AB),[],[]⟩:AP),true)) else (some ((⟨2,Ae,noB,noB,0,(⟨p39,(w64 (r17-10)),noB,[],0⟩:AB),[],[]⟩:AP),true)))) else ((idx r29.1.p 0).bind fun p63=>if 0<((r29.1.s.length:Nat):Int) then ((idx r29.1.s 0).bind fun p72=>IC r17 r29 (⟨r17,p63,p72,noB,0,(⟨Ae,0,noB,[],0⟩:AB),[],[]⟩:AP)) else (IC r17 r29 (⟨r17,p63,noB,noB,0,(⟨Ae,0,noB,[],0⟩:AB),[],[]⟩:AP))))))
noncomputable def Ci (k:Int)(r41:BQ×Bool)(j6k5:Au):Option (Au×Bool):=if 0<((r41.1.q.length:Nat):Int) then ((idx r41.1.q 0).bind fun p98=>if k=3 then ((idx r41.1.n 1).bind fun p106=>some ((⟨j6k5.kind,j6k5.who,j6k5.to_,j6k5.n,j6k5.re,j6k5.im,j6k5.off,(⟨j6k5.deed.kind,j6k5.deed.cart,j6k5.deed.item,j6k5.deed.at_,p106,p98,j6k5.deed.tag,j6k5.deed.lens⟩:AY)⟩:Au),true)) else (some ((⟨j6k5.kind,j6k5.who,j6k5.to_,j6k5.n,j6k5.re,j6k5.im,j6k5.off,(⟨j6k5.deed.kind,j6k5.deed.cart,j6k5.deed.item,j6k5.deed.at_,j6k5.deed.n,p98,j6k5.deed.tag,j6k5.deed.lens⟩:AY)⟩:Au),true))) else (if k=3 then ((idx r41.1.n 1).bind fun p106=>some ((⟨j6k5.kind,j6k5.who,j6k5.to_,j6k5.n,j6k5.re,j6k5.im,j6k5.off,(⟨j6k5.deed.kind,j6k5.deed.cart,j6k5.deed.item,j6k5.deed.at_,p106,j6k5.deed.text,j6k5.deed.tag,j6k5.deed.lens⟩:AY)⟩:Au),true)) else (some (j6k5,true)))
noncomputable def DX (k:Int)(r41:BQ×Bool)(j6k4:Au):Option (Au×Bool):=if 0<((r41.1.p.length:Nat):Int) then ((idx r41.1.p 0).bind fun p88=>Ci k r41 (⟨j6k4.kind,j6k4.who,j6k4.to_,j6k4.n,j6k4.re,j6k4.im,j6k4.off,(⟨j6k4.deed.kind,j6k4.deed.cart,j6k4.deed.item,p88,j6k4.deed.n,j6k4.deed.text,j6k4.deed.tag,j6k4.deed.lens⟩:AY)⟩:Au)) else (Ci k r41 j6k4)
noncomputable def EW (k:Int)(r41:BQ×Bool)(j6k3:Au):Option (Au×Bool):=if 0<((r41.1.t.length:Nat):Int) then ((idx r41.1.t 0).bind fun p78=>DX k r41 (⟨j6k3.kind,j6k3.who,j6k3.to_,j6k3.n,j6k3.re,j6k3.im,j6k3.off,(⟨j6k3.deed.kind,j6k3.deed.cart,j6k3.deed.item,j6k3.deed.at_,j6k3.deed.n,j6k3.deed.text,p78,j6k3.deed.lens⟩:AY)⟩:Au)) else (DX k r41 j6k3)
noncomputable def FZ (k:Int)(r41:BQ×Bool)(j6k2:Au):Option (Au×Bool):=if 1<((r41.1.s.length:Nat):Int) then ((idx r41.1.s 1).bind fun p68=>EW k r41 (⟨j6k2.kind,j6k2.who,j6k2.to_,j6k2.n,j6k2.re,j6k2.im,j6k2.off,(⟨j6k2.deed.kind,j6k2.deed.cart,p68,j6k2.deed.at_,j6k2.deed.n,j6k2.deed.text,j6k2.deed.tag,j6k2.deed.lens⟩:AY)⟩:Au)) else (EW k r41 j6k2)
noncomputable def Gl (k:Int)(j1k1:(List ByteArray))(j4k1:Au)(j6k1:Au):Option (Au×Bool):=(idx (CX) k).bind fun p38=>(Ny j1k1 p38.words).bind fun r41=>if ¬(r41.2=true) then (some (j6k1,false)) else ((idx r41.1.n 0).bind fun p49=>if 0<((r41.1.s.length:Nat):Int) then ((idx r41.1.s 0).bind fun p58=>FZ k r41 (⟨j6k1.kind,p49,j6k1.to_,j6k1.n,j6k1.re,j6k1.im,j6k1.off,(⟨j6k1.deed.kind,p58,j6k1.deed.item,j6k1.deed.at_,j6k1.deed.n,j6k1.deed.text,j6k1.deed.tag,j6k1.deed.lens⟩:AY)⟩:Au)) else (FZ k r41 (⟨j6k1.kind,p49,j6k1.to_,j6k1.n,j6k1.re,j6k1.im,j6k1.off,j6k1.deed⟩:Au)))
noncomputable def F7  (k:Int)(l:(List ByteArray)):Option (Au×Bool):=if k=8 then (if ((l.length:Nat):Int)<2 then (some ((⟨1,0,0,0,0,0,0,(⟨k,noB,noB,Ae,0,noB,AU,(⟨0,Ae,noB,noB,0,(⟨Ae,0,noB,[],0⟩:AB),[],[]⟩:AP)⟩:AY)⟩:Au),false)) else ((Gv l 2 ((l.length:Nat):Int)).bind fun y22=>(ER y22).bind fun r23=>if ¬(r23.2=true) then (some ((⟨1,0,0,0,0,0,0,(⟨k,noB,noB,Ae,0,noB,AU,(⟨0,Ae,noB,noB,0,(⟨Ae,0,noB,[],0⟩:AB),[],[]⟩:AP)⟩:AY)⟩:Au),false)) else ((Gv l 0 2).bind fun y33=>Gl k y33 (⟨0,0,0,0,0,0,0,(⟨0,noB,noB,Ae,0,noB,AU,(⟨0,Ae,noB,noB,0,(⟨Ae,0,noB,[],0⟩:AB),[],[]⟩:AP)⟩:AY)⟩:Au) (⟨1,0,0,0,0,0,0,(⟨k,noB,noB,Ae,0,noB,AU,r23.1⟩:AY)⟩:Au)))) else (Gl k l (⟨0,0,0,0,0,0,0,(⟨0,noB,noB,Ae,0,noB,AU,(⟨0,Ae,noB,noB,0,(⟨Ae,0,noB,[],0⟩:AB),[],[]⟩:AP)⟩:AY)⟩:Au) (⟨1,0,0,0,0,0,0,(⟨k,noB,noB,Ae,0,noB,AU,(⟨0,Ae,noB,noB,0,(⟨Ae,0,noB,[],0⟩:AB),[],[]⟩:AP)⟩:AY)⟩:Au))
noncomputable def BN  (line:ByteArray):Option (Au×Bool):=grd (line.size≤1000000) ((idx (splitB line 0) 0).bind fun p15=>(BU (CX) p15).bind fun r17=>if 0<r17 then ((Gv (splitB line 0) 1 (((splitB line 0).length:Nat):Int)).bind fun y23=>(F7 r17 y23).bind fun r24=>if ¬(r24.2=true) then (some ((⟨0,0,0,0,0,0,0,(⟨0,noB,noB,Ae,0,noB,AU,(⟨0,Ae,noB,noB,0,(⟨Ae,0,noB,[],0⟩:AB),[],[]⟩:AP)⟩:AY)⟩:Au),false)) else (some (r24.1,true))) else ((idx (splitB line 0) 0).bind fun p33=>(BU (Eh) p33).bind fun r35=>if r35<0 then (some ((⟨0,0,0,0,0,0,0,(⟨0,noB,noB,Ae,0,noB,AU,(⟨0,Ae,noB,noB,0,(⟨Ae,0,noB,[],0⟩:AB),[],[]⟩:AP)⟩:AY)⟩:Au),false)) else ((Gv (splitB line 0) 1 (((splitB line 0).length:Nat):Int)).bind fun y41=>(idx (Eh) r35).bind fun p44=>(Ny y41 p44.words).bind fun r47=>if ¬(r47.2=true) then (some ((⟨0,0,0,0,0,0,0,(⟨0,noB,noB,Ae,0,noB,AU,(⟨0,Ae,noB,noB,0,(⟨Ae,0,noB,[],0⟩:AB),[],[]⟩:AP)⟩:AY)⟩:Au),false)) else (if (r35=2)∨(r35=10) then ((idx r47.1.n 0).bind fun p61=>(idx r47.1.n 1).bind fun p66=>some ((⟨r35,p61,p66,0,0,0,0,(⟨0,noB,noB,Ae,0,noB,AU,(⟨0,Ae,noB,noB,0,(⟨Ae,0,noB,[],0⟩:AB),[],[]⟩:AP)⟩:AY)⟩:Au),true)) else (if (r35=3)∨((r35=4)∨(r35=5)) then ((idx r47.1.n 0).bind fun p75=>some ((⟨r35,0,0,p75,0,0,0,(⟨0,noB,noB,Ae,0,noB,AU,(⟨0,Ae,noB,noB,0,(⟨Ae,0,noB,[],0⟩:AB),[],[]⟩:AP)⟩:AY)⟩:Au),true)) else (if r35=6 then ((idx r47.1.n 0).bind fun p82=>(idx r47.1.n 1).bind fun p87=>(idx r47.1.n 2).bind fun p92=>some ((⟨r35,0,0,0,p82,p87,p92,(⟨0,noB,noB,Ae,0,noB,AU,(⟨0,Ae,noB,noB,0,(⟨Ae,0,noB,[],0⟩:AB),[],[]⟩:AP)⟩:AY)⟩:Au),true)) else (if (r35=7)∨(r35=8) then ((idx r47.1.n 0).bind fun p100=>(idx r47.1.n 1).bind fun p105=>some ((⟨r35,p100,0,p105,0,0,0,(⟨0,noB,noB,Ae,0,noB,AU,(⟨0,Ae,noB,noB,0,(⟨Ae,0,noB,[],0⟩:AB),[],[]⟩:AP)⟩:AY)⟩:Au),true)) else (if r35=9 then ((idx r47.1.n 0).bind fun p112=>some ((⟨r35,p112,0,0,0,0,0,(⟨0,noB,noB,Ae,0,noB,AU,(⟨0,Ae,noB,noB,0,(⟨Ae,0,noB,[],0⟩:AB),[],[]⟩:AP)⟩:AY)⟩:Au),true)) else (some ((⟨r35,0,0,0,0,0,0,(⟨0,noB,noB,Ae,0,noB,AU,(⟨0,Ae,noB,noB,0,(⟨Ae,0,noB,[],0⟩:AB),[],[]⟩:AP)⟩:AY)⟩:Au),true))))))))))
noncomputable def OE  (a:Au)(b:Au):Option Bool:=if a.kind=b.kind then (if a.who=b.who then (if a.to_=b.to_ then (if a.n=b.n then (if a.re=b.re then (if a.im=b.im then (if a.off=b.off then (if a.deed.kind=b.deed.kind then (if a.deed.cart=b.deed.cart then (if a.deed.item=b.deed.item then (if a.deed.at_=b.deed.at_ then (if a.deed.n=b.deed.n then (if a.deed.text=b.deed.text then (if a.deed.tag=b.deed.tag then (grd (okX a.deed.lens) (some (decide (a.deed.lens=b.deed.lens)))) else (some false)) else (some false)) else (some false)) else (some false)) else (some false)) else (some false)) else (some false)) else (some false)) else (some false)) else (some false)) else (some false)) else (some false)) else (some false)) else (some false)
end Go.Vm
end
section
namespace Go.Vm
open Go.Proofs Go.Proofs.YtdfbohaohjaloaaGreatDoor Punnet.Name Punnet.Num
noncomputable def LX  (s0:ByteArray):ByteArray:=if ¬(((OX s0).2:Int)=0) then ((⟨#[63]⟩:ByteArray)) else (((OX s0).1))
noncomputable def LD  (s0:ByteArray):ByteArray:=if s0=noB then ((⟨#[45]⟩:ByteArray)) else (s0)
noncomputable def Fz  (x:AP):Option (List ByteArray):=(CZ Ew x.kind).bind fun r7=>if (x.kind=1)∨(x.kind=5) then ((BG [r7,(if BF x.at_=true then BJ x.at_ else ⟨#[63]⟩)] [x.name]).bind fun z21=>some z21) else (if x.kind=6 then (grd (G6 x.factor) ((BG [r7,(if BF x.at_=true then BJ x.at_ else ⟨#[63]⟩)] [x.name,x.other,(EZ x.factor)]).bind fun z33=>some z33)) else (if x.kind=7 then ((BG [r7,(if BF x.at_=true then BJ x.at_ else ⟨#[63]⟩)] [(LX x.other)]).bind fun z41=>some z41) else (if x.kind=2 then ((CZ Gg x.field.kind).bind fun r48=>if x.field.kind=1 then (grd (G6 x.field.worth) ((BG [r48,(if BF x.field.at_=true then BJ x.field.at_ else ⟨#[63]⟩)] [(EZ x.field.worth)]).bind fun z65=>some z65)) else (if x.field.kind=2 then ((BG [r48,(if BF x.field.at_=true then BJ x.field.at_ else ⟨#[63]⟩)] [(LX x.field.deft)]).bind fun z74=>some z74) else (some [r48,(if BF x.field.at_=true then BJ x.field.at_ else ⟨#[63]⟩)]))) else (some [r7,(if BF x.at_=true then BJ x.at_ else ⟨#[63]⟩)]))))
noncomputable def Gw  (who:Int)(d:AY):Option (List ByteArray):=(CZ CS d.kind).bind fun r9=>grd (G6 who) (if d.kind=8 then (grd (IA d.tag) ((BG [r9,(EZ who)] [(FU d.tag)]).bind fun z22=>(Fz d.lens).bind fun r25=>(BG z22 r25).bind fun z26=>some z26)) else (if d.kind=9 then (grd (IA d.tag) ((BG [r9,(EZ who)] [(FU d.tag)]).bind fun z34=>some z34)) else ((BG [r9,(EZ who)] [d.cart]).bind fun z39=>if (d.kind=1)∨(d.kind=2) then ((BG z39 [(LD d.item)]).bind fun z50=>some z50) else (if d.kind=3 then (grd (G6 d.n) ((BG z39 [(LD d.item),(if BF d.at_=true then BJ d.at_ else ⟨#[63]⟩),(EZ d.n)]).bind fun z64=>some z64)) else (if (d.kind=4)∨((d.kind=5)∨(d.kind=6)) then ((BG z39 [(LD d.item),(if BF d.at_=true then BJ d.at_ else ⟨#[63]⟩),(LX d.text)]).bind fun z80=>some z80) else (if (d.kind=11)∨(d.kind=12) then (grd (IA d.tag) ((BG z39 [(FU d.tag)]).bind fun z89=>some z89)) else (some z39)))))))
noncomputable def CW  : List Int→(List ByteArray)→Option (List ByteArray)
 | [],v3l1=>some ((v3l1))
 | xl1::ll1,v3l1=>grd (G6 xl1) ((BG v3l1 [(EZ xl1)]).bind fun z69=>CW ll1 z69)
noncomputable def Eo (r18:ByteArray)(j4k1:(List Int)):Option (List ByteArray):=grd (j4k1.length≤1000000000) ((CW j4k1 [r18]).bind fun w3l1=>some w3l1)
noncomputable def Ce  (m:Au):Option (List ByteArray):=if m.kind=1 then ((Gw m.who m.deed).bind fun r14=>some r14) else ((CZ Ec m.kind).bind fun r18=>if (m.kind=2)∨(m.kind=10) then (Eo r18 [m.who,m.to_]) else (if (m.kind=3)∨((m.kind=4)∨(m.kind=5)) then (Eo r18 [m.n]) else (if m.kind=6 then (Eo r18 [m.re,m.im,m.off]) else (if (m.kind=7)∨(m.kind=8) then (Eo r18 [m.who,m.n]) else (if m.kind=9 then (Eo r18 [m.who]) else (Eo r18 []))))))
noncomputable def PQ  (a:Au)(b:Au):Option Bool:=if a.kind=b.kind then (if a.who=b.who then (if a.to_=b.to_ then (if a.n=b.n then (if a.re=b.re then (if a.im=b.im then (if a.off=b.off then (if a.deed.kind=b.deed.kind then (if a.deed.cart=b.deed.cart then (if a.deed.item=b.deed.item then (if a.deed.at_=b.deed.at_ then (if a.deed.n=b.deed.n then (if a.deed.text=b.deed.text then (if a.deed.tag=b.deed.tag then (if a.deed.lens.kind=b.deed.lens.kind then (if a.deed.lens.at_=b.deed.lens.at_ then (if a.deed.lens.name=b.deed.lens.name then (if a.deed.lens.other=b.deed.lens.other then (if a.deed.lens.factor=b.deed.lens.factor then (grd (a.deed.lens.field.cases.length≤1000000) (if a.deed.lens.field=b.deed.lens.field then (grd (a.deed.lens.forth.length≤1000000) (if a.deed.lens.forth=b.deed.lens.forth then (grd (a.deed.lens.back.length≤1000000) (some (decide (a.deed.lens.back=b.deed.lens.back)))) else (some false))) else (some false))) else (some false)) else (some false)) else (some false)) else (some false)) else (some false)) else (some false)) else (some false)) else (some false)) else (some false)) else (some false)) else (some false)) else (some false)) else (some false)) else (some false)) else (some false)) else (some false)) else (some false)) else (some false)) else (some false)
noncomputable def O0  (m:Au):Option (ByteArray×Int):=(Ce m).bind fun r8=>grd (r8.length≤1000000) (grd ((GR 32 r8).size≤100000000) ((BM (GR 32 r8)).bind fun r12=>if ¬(r12.2=0) then (some (noB,5)) else ((PQ m r12.1).bind fun r20=>if ¬(r20=true) then (some (noB,5)) else (some ((GR 32 r8),0)))))
end Go.Vm
end
section
namespace Go.Vm
open Go.Proofs Go.Proofs.YtdfbohaohjaloaaGreatDoor Punnet.Name Punnet.Num
noncomputable def QE  (line:ByteArray):Option Bool:=if ¬((true)=true) then (some false) else (if 400<((line.size:Nat):Int) then (some true) else ((BM line).bind fun r16=>(BN line).bind fun r21=>if ¬((r21.2==(decide (r16.2=0)))=true) then (some false) else (if ¬(r21.2=true) then (if ¬(r16.2=4) then (some false) else ((OE r16.1 r21.1).bind fun r39=>if ¬(r39=true) then (some false) else (if ¬(r21.2=true) then (some true) else ((O0 r16.1).bind fun r46=>some (decide ((r46.2=0)∧(r46.1=line))))))) else ((OE r16.1 r21.1).bind fun r39=>if ¬(r39=true) then (some false) else (if ¬(r21.2=true) then (some true) else ((O0 r16.1).bind fun r46=>some (decide ((r46.2=0)∧(r46.1=line)))))))))
end Go.Vm
end
section
namespace Go.Vm
open Go.Proofs Go.Proofs.YtdfbohaohjaloaaGreatDoor Punnet.Name Punnet.Num
end Go.Vm
end
section
namespace Go.Vm
open Go.RowKit
def QF:List (Nat×Nat×Nat)→Tr→(Tr→Prop)→Prop
 | [],t,K=>K t
 | q::l,t,K=>QF l t fun t=>AV 20 t q.2.1 (.gbox q.2.2 []) K
theorem UC:∀{ps:List (Nat×Nat×Nat)} {t:Tr} {K:Tr→Prop},QF ps t K→∃t',(∀u,t'.get u=match ps.find? fun q=>q.2.1==u with
 | some q=>.gbox q.2.2 []
 | none=>t.get u)∧K t'
 | [],t,K,h=>⟨t,fun _=>rfl,h⟩
 | q::l,t,K,h=>by
  obtain ⟨t1,h1,h2⟩:=UC (ps:=l) h
  obtain ⟨t2,h3,h4⟩:=Bh h2
  refine ⟨t2,fun u=>?_,h4⟩
  rw [h3,h1,List.find?_cons]
  by_cases e:u=q.2.1
  ·subst e;simp
  ·have:(q.2.1==u)=false:=by simpa using fun e2=>e e2.symm
   simp [this,e]
section
variable {P:Program} {N:Nat} {t:Tr} {h:Hp} {o:Oper}
theorem x_allocU {T d:Nat}{zs:List D}(ps:List (Nat×Nat×Nat)){K:Tr→Hp→Prop}(hz:zeroOf P T=some zs)(hps:∀q∈ps,zs[q.1]? = some (.row [])∧BIG≤q.2.1∧0<q.2.2)(hlo:∀q∈ps,q.2.1<NAM)
 (hk:Gh (PS d) t fun t1=>AV 20 t1 d (.ubox (ND zs ps)) fun t2=>QF ps t2 fun t3=>K t3 h)
 (hop:o.op=.alloc T:=by rfl) (hd:o.dst=some d:=by rfl) (hdN:d<N:=by exact Nat.le_of_ble_eq_true rfl) (hNB:N≤BIG:=by exact Nat.le_of_ble_eq_true rfl) :
 FN P N o (Af t h) fun e=>∃(t':Tr) (h':Hp),e=Af t' h'∧K t' h':=by
 refine Nw ?_
 have hdB:d<BIG:=Nat.lt_of_lt_of_le hdN hNB
 obtain ⟨t1,k1,hk⟩:=IP (f:=JL d) rfl Ug hk
 obtain ⟨t2,k2,hk⟩:=Bh hk
 obtain ⟨t3,k3,hk⟩:=UC hk
 refine ⟨t3,h,?_,hk⟩
 have e:Af t3 h=Jj ps (upd (Gm (Af t h) d zs) (some d) (.ubox (ND zs ps))):=by
  funext u
  unfold Jj
  by_cases hu:u<NAM
  ·rw [Cm hu,k3]
   cases hf:ps.find? fun q=>q.2.1==u with
   | some q=>rfl
   | none=>
    simp only
    rw [k2,k1]
    simp only [upd,Gm]
    by_cases ed:u=d
    ·simp [ed]
    ·simp only [if_neg ed];rw [Cm hu]
  ·have hf:(ps.find? fun q=>q.2.1==u)=none:=by
    rw [List.find?_eq_none]
    intro q hq
    have:=hlo q hq
    simp only [beq_iff_eq];omega
   rw [hf]
   have hne:¬u=d:=by have:=nam hdB;omega
   simp only [upd,Gm,if_neg hne]
   simp only [Af,if_neg hu]
   exact (Vw _).symm
 rw [e]
 exact s_allocU hop hz hps hd hdN hdB
theorem x_buildU {T d:Nat}{parts:Array (Nat×Operand)}{zs:List D}{ps:List (Nat×Nat)}(us:List (Nat×Nat×Nat)){K:Tr→Hp→Prop}(hi:Bd P T (.agg ps zs))(hus:∀q∈us,zs[q.1]? = some (.row [])∧BIG≤q.2.1∧0<q.2.2)(hlo:∀q∈us,q.2.1<NAM)
 (hk:fillK t ps parts.toList (ND zs us) fun cs=>AV 20 t d (.uagg cs) fun t2=>QF us t2 fun t3=>K t3 h)
 (hop:o.op=.build T parts:=by rfl) (hd:o.dst=some d:=by rfl) (hdN:d<N:=by exact Nat.le_of_ble_eq_true rfl) (hNB:N≤BIG:=by exact Nat.le_of_ble_eq_true rfl) :
 FN P N o (Af t h) fun e=>∃(t':Tr) (h':Hp),e=Af t' h'∧K t' h':=by
 refine Nw ?_
 have hdB:d<BIG:=Nat.lt_of_lt_of_le hdN hNB
 obtain ⟨ds,cs,h1,h2,hk⟩:=UL (h:=h) hk
 obtain ⟨t2,k2,hk⟩:=Bh hk
 obtain ⟨t3,k3,hk⟩:=UC hk
 refine ⟨t3,h,?_,hk⟩
 have e:Af t3 h=Jj us (upd (Af t h) (some d) (.uagg cs)):=by
  funext u
  unfold Jj
  by_cases hu:u<NAM
  ·rw [Cm hu,k3]
   cases hf:us.find? fun q=>q.2.1==u with
   | some q=>rfl
   | none=>
    simp only
    rw [k2]
    simp only [upd]
    by_cases ed:u=d
    ·simp [ed]
    ·simp only [if_neg ed];rw [Cm hu]
  ·have hf:(us.find? fun q=>q.2.1==u)=none:=by
    rw [List.find?_eq_none]
    intro q hq
    have:=hlo q hq
    simp only [beq_iff_eq];omega
   rw [hf]
   have hne:¬u=d:=by have:=nam hdB;omega
   simp only [upd,if_neg hne]
   simp only [Af,if_neg hu]
 rw [e]
 obtain ⟨_,hp,hz⟩:=hi
 unfold placesOf at hp
 split at hp
 ·rename_i fields hT
  exact s_buildU hop hT hp hz hus h1 h2 hd hdN
 ·cases hp
end
end Go.Vm
end
section
namespace Go.Vm
open Go.RowKit
theorem repsPl {ro:Aq}{w:World}{vs:List Value}(h:vs.all (fun v=>v.oneCell'&&BL v)=true):Bg ro w vs (vs.map .sc):=by
 have h1:∀v∈vs,v.oneCell'=true∧BL v=true:=fun v hv=>by simpa using List.all_eq_true.1 h v hv
 refine ⟨by simp,fun u hu=>(h1 u hu).1,fun j u c hu hc=>?_⟩
 rw [List.getElem?_map,hu] at hc
 simp only [Option.map_some,Option.some.injEq] at hc
 subst hc
 exact .sc (h1 u (List.mem_of_getElem? hu)).2
theorem rep_agg {ro:Aq}{w:World}{v:Value}{cs:List D}(h:Rep ro w v (.agg cs)):∃arr:Array Value,v=.agg arr∧Bg ro w arr.toList cs:=by
 generalize hd:D.agg cs=d at h
 cases h with
 | agg hl h1 h2=>injection hd with hd;subst hd;exact ⟨_,rfl,by simpa using hl,h1,h2⟩
 | _=>cases hd
section
variable {P:Program} {N:Nat} {o:Oper} {env:Env}
theorem y_loadGl {T:TypeId}{g:Nat}{cs:List Value}{sh:Bool×Nat}{r:D}(hop:o.op=.load T (.global g))(hg:Iy g=some cs)(ho:cs.all (fun v=>v.oneCell'&&BL v)=true)(hsh:Bl P T=some sh)(hp:Eg sh (cs.map .sc) 0=some r){d:Nat}(hdst:o.dst=some d)(hd:d<N):BX P N o env (.c (.d r)):=by
 refine Dw hdst hd fun env' he base w0 ro0 ro blk a w hsim=>?_
 obtain ⟨h1,h2,h3⟩:=hsim.globW g cs hg
 obtain ⟨v,h5,h6⟩:=Ol (P:=P) (b:=g) (o:=0) (off:=0) hsh (repsPl (ro:=ro) (w:=w) ho) (fun j u hu=>by rw [Nat.zero_add];exact h3 j u hu) hp
 refine ⟨v,w,ro,?_,Grow.refl hsim.new,h6⟩
 rw [Nat.zero_add] at h5
 have e:a.eval (.global g)=.pointer (some ⟨g,0,none⟩):=rfl
 simp only [execOp,hop,Instr.loadAt,e,Instr.sureAddr,Sem.run_bind,Sem.run_pure,Result.andThen_ok,h5]
theorem y_ixArr {T e:TypeId}{x ix:Operand}{k:IntKind}{i:Int}{n:Nat}{cs:List D}{r:D}(hop:o.op=.index T x ix)(hx:vd env x=some (.agg cs))(hi:vd env ix=some (.sc (.int k i)))(hT:P.underlying T=some (.array n e))(he:Bl P e=some (false,1))(h0:0≤i)(hn:i<n)(hp:cs[i.toNat]? = some r){d:Nat}(hdst:o.dst=some d)(hd:d<N):BX P N o env (.c (.d r)):=by
 refine Dw hdst hd fun env' he' base w0 ro0 ro blk a w hsim=>?_
 have h1:Rep ro w (a.eval x) (.agg cs):=hsim.getD (x:=x) (by rw [he'.getD (by simp [hop,Op.operands])];exact hx)
 have h3:=(EF (hsim.getD (x:=ix) (by rw [he'.getD (by simp [hop,Op.operands])];exact hi))).1
 obtain ⟨arr,h2,h4⟩:=rep_agg h1
 have hlt:i.toNat<arr.toList.length:=by rw [h4.1];exact (List.getElem?_eq_some_iff.1 hp).1
 obtain ⟨u,hu⟩:∃u,arr.toList[i.toNat]? = some u:=⟨_,List.getElem?_eq_getElem hlt⟩
 have h5:=h4.2.2 _ u _ hu hp
 refine ⟨u,w,ro,?_,Grow.refl hsim.new,h5⟩
 obtain ⟨inf,dd,k1,k2,k3,k4⟩:=Gy he
 have hagg:=KX (w:=w) k2
 rw [k3] at hagg
 have hu':arr[i.toNat]? = some u:=by simpa using hu
 simp [execOp,hop,h2,h3,Instr.index,run_underlying hT,asAgg,part,Sem.run_bind,hagg,hu',asIntOf,sizeOf,typeInfo,k1,k4,h0,hn]
theorem y_ixRef {T e:TypeId}{x ix:Operand}{k:IntKind}{i:Int}{n t off m:Nat}(hop:o.op=.indexAddr T x ix)(hx:Am env x=.ref t off)(hi:vd env ix=some (.sc (.int k i)))(hT:P.underlying T=some (.array n e))(he:Bl P e=some (false,1))(h0:0≤i)(hn:i<n)(hm:off+i.toNat=m){d:Nat}(hdst:o.dst=some d)(hd:d<N):BX P N o env (.ref t m):=by
 subst hm
 refine Dw hdst hd fun env' he' base w0 ro0 ro blk a w hsim=>?_
 have h1:=hsim.get x 0
 rw [he'.get (by simp [hop,Op.operands]),hx] at h1
 have h3:=(EF (hsim.getD (x:=ix) (by rw [he'.getD (by simp [hop,Op.operands])];exact hi))).1
 obtain ⟨inf,dd,k1,k2,k3,k4⟩:=Gy he
 refine ⟨_,w,ro,?_,Grow.refl hsim.new,rfl⟩
 simp [execOp,hop,show a.eval x=_ from h1,h3,Instr.indexAt,Instr.sureAddr,run_underlying hT,Sem.run_bind,asIntOf,sizeOf,typeInfo,k1,k4,h0,hn,Addr.add,Result.andThen]
end
section
variable {P:Program} {N:Nat} {t:Tr} {h:Hp} {o:Oper}
theorem Oo {T:TypeId}{g d:Nat}{cs:List Value}{sh:Bool×Nat}{r:D}{K:S→Hp→Prop}(hK:K (.c (.d r)) h)(hg:Iy g=some cs)(ho:cs.all (fun v=>v.oneCell'&&BL v)=true)(hsh:Bl P T=some sh)(hp:Eg sh (cs.map .sc) 0=some r)
 (hop:o.op=.load T (.global g):=by rfl) (hd:o.dst=some d:=by rfl) (hdN:d<N:=by exact Nat.le_of_ble_eq_true rfl) :
 ∃(s:S) (h':Hp),Step P N o (Af t h) (upd (Af t h') (some d) s)∧K s h':=
 x_fy (y_loadGl hop hg ho hsh hp hd hdN) hK hd
theorem q_loadGl {ops:Array Oper}{fb:List Nat}{T:TypeId}{g d:Nat}{cs:List Value}{sh:Bool×Nat}{r:D}{K:S→Prop}(hK:K (.c (.d r)))(hg:Iy g=some cs)(ho:cs.all (fun v=>v.oneCell'&&BL v)=true)(hsh:Bl P T=some sh)(hp:Eg sh (cs.map .sc) 0=some r)
 (hop:o.op=.load T (.global g):=by rfl) (hd:o.dst=some d:=by rfl) (hdN:d<N:=by exact Nat.le_of_ble_eq_true rfl) (hNB:N≤BIG:=by exact Nat.le_of_ble_eq_true rfl) (hgd:D5 ops o (Af t h)=some true:=by rfl) (hcl:Nat.beq (FM fb o) 0=false:=by rfl) :
 ∃s,DG P N fb ops o (Af t h) (.slot (some d) s)∧K s:=
 ⟨_,dg_of (BX.all (y_loadGl hop hg ho hsh hp hd hdN)) hd hdN hNB hgd rfl rfl (by unfold IV addrOf;rw [hop];rfl) hcl,hK⟩
theorem x_ixArr {T e:TypeId}{x ix:Operand}{k:IntKind}{i:Int}{n d:Nat}{cs:List D}{r:D}{K:S→Hp→Prop}(hK:K (.c (.d r)) h)(hT:P.underlying T=some (.array n e))(he:Bl P e=some (false,1))(h0:0≤i)(hp:cs[i.toNat]? = some r)(hl:cs.length=n:=by rfl)
 (hop:o.op=.index T x ix:=by rfl) (hx:vd (Af t h) x=some (.agg cs):=by rfl) (hi:vd (Af t h) ix=some (.sc (.int k i)):=by rfl) (hd:o.dst=some d:=by rfl) (hdN:d<N:=by exact Nat.le_of_ble_eq_true rfl) :
 ∃(s:S) (h':Hp),Step P N o (Af t h) (upd (Af t h') (some d) s)∧K s h':=
 x_fy (y_ixArr hop hx hi hT he h0 (by have:=(List.getElem?_eq_some_iff.1 hp).1;omega) hp hd hdN) hK hd
theorem x_ixRef {T e:TypeId}{x ix:Operand}{k:IntKind}{i:Int}{n u off d:Nat}{K:S→Hp→Prop}(hK:K (.ref u (off+i.toNat)) h)(hT:P.underlying T=some (.array n e))(he:Bl P e=some (false,1))(h0:0≤i)(hn:i<n)
 (hop:o.op=.indexAddr T x ix:=by rfl) (hx:Am (Af t h) x=.ref u off:=by rfl) (hi:vd (Af t h) ix=some (.sc (.int k i)):=by rfl) (hd:o.dst=some d:=by rfl) (hdN:d<N:=by exact Nat.le_of_ble_eq_true rfl) :
 ∃(s:S) (h':Hp),Step P N o (Af t h) (upd (Af t h') (some d) s)∧K s h':=
 x_fy (y_ixRef hop hx hi hT he h0 hn rfl hd hdN) hK hd
theorem x_ldRef {T:TypeId}{x:Operand}{u off d:Nat}{cs:List D}{r:D}{K:S→Hp→Prop}(hK:K (.c (.d r)) h)(hsh:Bl P T=some (false,1))(hp:cs[off]? = some r)
 (hop:o.op=.load T x:=by rfl) (hx:Am (Af t h) x=.ref u off:=by rfl) (hb:Af t h u=.box cs:=by rfl) (hd:o.dst=some d:=by rfl) (hdN:d<N:=by exact Nat.le_of_ble_eq_true rfl) :
 ∃(s:S) (h':Hp),Step P N o (Af t h) (upd (Af t h') (some d) s)∧K s h':=
 x_fy (SI hop hx hb hsh (by simpa [Eg] using hp) hd hdN) hK hd
end
end Go.Vm
end
