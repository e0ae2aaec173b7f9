/- Part 5. -/
import Derived.Test.YtdfbohaohjaloaaGreatDoorScriptPrintsM4
set_option linter.unusedVariables false
set_option linter.unusedSimpArgs false
set_option maxHeartbeats 1000000
section
namespace Go.Vm
open Go.RowKit
section
variable {P:Program} {T:TypeId} {x y:Operand}
theorem KI {a b:Int}{K:Value→Prop}(hK:K (.int .i64 (w64 (a+b)))):∃r,AY P (do eqGuard .add T x y (.int .i64 a) (.int .i64 b);binOp .add T (.int .i64 a) (.int .i64 b):Sem Value)=some r∧BN r=true∧K r:=⟨_,TR rfl,rfl,hK⟩
theorem Av3 {a b:Int}{K:Value→Prop}(hK:K (.int .i64 (w64 (a-b)))):∃r,AY P (do eqGuard .sub T x y (.int .i64 a) (.int .i64 b);binOp .sub T (.int .i64 a) (.int .i64 b):Sem Value)=some r∧BN r=true∧K r:=⟨_,AcB rfl,rfl,hK⟩
end
theorem drop_cons {α:Type}{l:List α}{k:Nat}{x:α}(h:l[k]? = some x):l.drop k=x::l.drop (k+1):=by
 obtain ⟨h1,h2⟩:=List.getElem?_eq_some_iff.1 h
 rw [List.drop_eq_getElem_cons h1,h2]
theorem drop_end {α:Type}{l:List α}{k:Nat}(h:¬(k:Int)<(l.length:Int)):l.drop k= []:=List.drop_eq_nil_of_le (by omega)
theorem lt_inc {α:Type}{l:List α}{k:Nat}(g:l.length≤1000000000)(h:(k:Int)<(l.length:Int)):k+1≤9223372036854775807:=by omega
theorem Ag {α:Type}{f:α→D}{l:List α}{k:Nat}{x:α}(h:l[k]? = some x):(l.map f)[k]? = some (f x):=by rw [List.getElem?_map,h];rfl
theorem Aq3 {α:Type}{l:List α}{i:Int}{p:α}(h:l[i.toNat]? = some p)(h0:0≤i):i<((l.length:Nat):Int):=by have:=(List.getElem?_eq_some_iff.1 h).1;omega
theorem AhH {α:Type}{f:α→D}{l:List α}{k:Nat}{x:α}(h:l[k]? = some x):(l.map f)[0+k]? = some (f x):=by rw [Nat.zero_add];exact Ag h
theorem Ef {α:Type}{l:List α}{k:Nat}{p:α}(hp:l[k]? = some p):k<l.length:=(List.getElem?_eq_some_iff.1 hp).1
theorem CB {α:Type}{f:α→D}{sz:Nat}(l:List α)(h:∀a,(f a).cells.length=sz):∀x∈l.map f,x.cells.length=sz:=by
 intro x hx;obtain ⟨a,_,rfl⟩:=List.mem_map.1 hx;exact h a
section
variable {α:Type} {f:α→D} {R z A B:List α} {sz bytes:Nat} {lo hi:Int} {K:List D→Prop}
theorem AiA (hK:K (z.map f))(hw:∀x∈R.map f,x.cells.length=sz)(ha:(0:Int)≤0)(hb:0≤hi)(hc:hi≤(R.length:Int))(hy:(R.take hi.toNat).drop (0:Int).toNat=z):(∀x∈R.map f,x.cells.length=sz)∧0≤hi.toNat∧hi.toNat≤(R.map f).length∧∃ys,((R.map f).take hi.toNat).drop 0=ys∧K ys:=
 ⟨hw,by omega,by rw [List.length_map];omega,_,by rw [←List.map_take,←List.map_drop];exact congrArg _ hy,hK⟩
theorem Qh (hK:K (z.map f))(hw:∀x∈R.map f,x.cells.length=sz)(ha:0≤lo)(hb:lo≤((R.length:Nat):Int))(hc:((R.length:Nat):Int)≤(R.length:Int))(hy:(R.take ((R.length:Nat):Int).toNat).drop lo.toNat=z):(∀x∈R.map f,x.cells.length=sz)∧lo.toNat≤(R.map f).length∧(R.map f).length≤(R.map f).length∧∃ys,((R.map f).take (R.map f).length).drop lo.toNat=ys∧K ys:=
 ⟨hw,by rw [List.length_map];omega,Nat.le_refl _,_,by rw [List.length_map,←List.map_take,←List.map_drop];rw [Int.toNat_natCast] at hy;rw [hy],hK⟩
theorem DJ (hK:K (z.map f))(hw:∀y∈B.map f,y.cells.length=sz)(q:BD A B=some z)(hb:bytes≤100000:=by exact Nat.le_of_ble_eq_true rfl):((∀y∈B.map f,y.cells.length=sz)∧(A.map f).length+(B.map f).length≤maxLen∧((A.map f).length+(B.map f).length)*bytes≤140737488355328)∧∃zs,A.map f++B.map f=zs∧K zs:=by
 obtain ⟨h1,rfl⟩:=AdE q
 rw [List.length_map,List.length_map]
 exact ⟨⟨hw,by unfold maxLen;omega,Nat.le_trans (Nat.mul_le_mul h1 hb) (by decide)⟩,_,List.map_append.symm,hK⟩
end
section
variable {P:Program} {N:Nat} {t:Tr} {h:Hp} {o:Oper}
theorem L9 {α:Type}{f:α→D}{A B z:List α}{T e:TypeId}{sz bytes id d:Nat}{x y:Operand}{K:Tr→Hp→Prop}(q:BD A B=some z)(hT:CU P T=some (e,sz,bytes))(hb:bytes≤100000)
 (hx:Ap (Af t h) x=.sref id sz A.length) (hg:t.get id=.gbox sz (A.map f)) (hy:vd (Af t h) y=some (.row (B.map f))) (hw:∀y∈B.map f,y.cells.length=sz)
 (hk:Gl (Me id) t fun t1=>AQ 20 t1 id (.gbox sz (z.map f)) fun t2=>AQ 20 t2 d (.sref id sz z.length) fun t3=>K t3 (hdrop id h))
 (hop:o.op=.call { callee:=.builtin .append,args:=#[x,y],argTypes:=#[T,T] }:=by rfl) (hd:o.dst=some d:=by rfl) (hdN:d<N:=by exact Nat.le_of_ble_eq_true rfl) (hNB:N≤BIG:=by exact Nat.le_of_ble_eq_true rfl) (hid:BIG≤id:=by exact Nat.le_of_ble_eq_true rfl) (hid2:id<NAM:=by exact Nat.le_of_ble_eq_true rfl) :
 FZ P N o (Af t h) fun e=>∃(t':Tr) (h':Hp),e=Af t' h'∧K t' h':=by
 obtain ⟨h1,rfl⟩:=AdE q
 refine AfL hT hx hg hy (by simp) hw (by rw [List.length_map];unfold maxLen;omega) ?_ List.map_append.symm (by simp) hk hop hd hdN hNB hid hid2
 rw [List.length_map]
 exact Nat.le_trans (Nat.mul_le_mul h1 hb) (by decide)
theorem Kt {tv id sz:Nat}{cs cs' xs:List D}{Φ:Env→Prop}(htv:t.get tv=.ubox cs)(hg:t.get id=.gbox sz xs)(hcs:cs.map (BH id xs)=cs')(hp:cs'.all Kq=true)
 (hk:Gl (Me id) t fun t1=>AQ 20 t1 id (.gbox sz []) fun t2=>AQ 20 t2 tv (.box cs') fun t3=>FZ P N o (Af t3 (hdrop id h)) Φ)
 (hid:BIG≤id:=by exact Nat.le_of_ble_eq_true rfl) (hid2:id<NAM:=by exact Nat.le_of_ble_eq_true rfl) (htB:tv<BIG:=by exact Nat.le_of_ble_eq_true rfl):FZ P N o (Af t h) Φ:=by
 obtain ⟨t1,k1,hk⟩:=II (f:=Du id) rfl WJ hk
 obtain ⟨t2,k2,hk⟩:=Bh hk
 obtain ⟨t3,k3,hk⟩:=Bh hk
 intro base w0 ro0 a w ⟨ro,blk,hs⟩ K' Q hK'
 obtain ⟨ro',hs2⟩:=hs.ZB (tv:=tv) (id:=id) (sz:=sz) (cs:=cs) (xs:=xs) (by rw [CE (nam htB)];exact htv) (XK hid2 hg) htB hid
 rw [hcs.symm] at hp k3
 have hs3:=hs2.AoN (tv:=tv) (cs:=cs.map (BH id xs)) (by simp [JS]) hp
 have e:Af t3 (hdrop id h)=upd (JS tv id sz cs xs (Af t h)) (some tv) (.box (cs.map (BH id xs))):=by
  funext u
  simp only [upd,JS]
  by_cases hu:u<NAM
  ·rw [CE hu,k3]
   by_cases e1:u=tv
   ·simp [e1]
   ·rw [if_neg e1,if_neg e1,if_neg e1,k2]
    by_cases e2:u=id
    ·simp [e2]
    ·rw [if_neg e2,if_neg e2,k1,CE hu]
  ·have e1:¬u=tv:=fun h=>hu (h▸nam htB)
   have e2:¬u=id:=fun h=>hu (h▸hid2)
   rw [if_neg e1,if_neg e1,if_neg e2]
   simp only [Af,if_neg hu,hdrop]
   exact (Vf _).symm
 rw [←e] at hs3
 exact hk base w0 ro0 a w ⟨_,_,hs3⟩ K' Q hK'
theorem CY {tv id sz:Nat}{cs cs' xs:List D}{Φ:Env→Prop}(htv:t.get tv=.ubox cs)(hg:t.get id=.gbox sz xs)(hcs:cs.map (BH id xs)=cs')
 (hk:Gl (Me id) t fun t1=>AQ 20 t1 id (.gbox sz []) fun t2=>AQ 20 t2 tv (.ubox cs') fun t3=>FZ P N o (Af t3 (hdrop id h)) Φ)
 (hid:BIG≤id:=by exact Nat.le_of_ble_eq_true rfl) (hid2:id<NAM:=by exact Nat.le_of_ble_eq_true rfl) (htB:tv<BIG:=by exact Nat.le_of_ble_eq_true rfl):FZ P N o (Af t h) Φ:=by
 obtain ⟨t1,k1,hk⟩:=II (f:=Du id) rfl WJ hk
 obtain ⟨t2,k2,hk⟩:=Bh hk
 obtain ⟨t3,k3,hk⟩:=Bh hk
 intro base w0 ro0 a w ⟨ro,blk,hs⟩ K' Q hK'
 obtain ⟨ro',hs2⟩:=hs.ZB (tv:=tv) (id:=id) (sz:=sz) (cs:=cs) (xs:=xs) (by rw [CE (nam htB)];exact htv) (XK hid2 hg) htB hid
 rw [hcs.symm] at k3
 have e:Af t3 (hdrop id h)=JS tv id sz cs xs (Af t h):=by
  funext u
  simp only [JS]
  by_cases hu:u<NAM
  ·rw [CE hu,k3]
   by_cases e1:u=tv
   ·simp [e1]
   ·rw [if_neg e1,if_neg e1,k2]
    by_cases e2:u=id
    ·simp [e2]
    ·rw [if_neg e2,if_neg e2,k1,CE hu]
  ·have e1:¬u=tv:=fun h=>hu (h▸nam htB)
   have e2:¬u=id:=fun h=>hu (h▸hid2)
   rw [if_neg e1,if_neg e2]
   simp only [Af,if_neg hu,hdrop]
   exact (Vf _).symm
 rw [←e] at hs2
 exact hk base w0 ro0 a w ⟨_,_,hs2⟩ K' Q hK'
theorem AkM {d:Nat}{s:S}{K:Tr→Hp→Prop}(hy:Cf P N o (Af t h) s)(hk:AQ 20 t d s fun t'=>K t' h)(hd:o.dst=some d:=by rfl)(hdN:d<N:=by exact Nat.le_of_ble_eq_true rfl)(hNB:N≤BIG:=by exact Nat.le_of_ble_eq_true rfl):FZ P N o (Af t h) fun e=>∃(t':Tr) (h':Hp),e=Af t' h'∧K t' h':=by
 refine NH ?_
 obtain ⟨t',k1,k2⟩:=Bh hk
 refine ⟨t',h,?_,k2⟩
 have:=hy.step
 rw [hd] at this
 rwa [Ed (nam (Nat.lt_of_lt_of_le hdN hNB)) k1]
theorem JW {T:TypeId}{x:Operand}{u d:Nat}{cs:List D}{sh:Bool×Nat}{r:D}{K:Tr→Hp→Prop}(hx:Ap (Af t h) x=.ref u 0)(hu:t.get u=.box cs)(hsh:Bl P T=some sh)(hp:Eo sh cs 0=some r)(hk:AQ 20 t d (.c (.d r)) fun t'=>K t' h)
 (hop:o.op=.load T x:=by rfl) (hd:o.dst=some d:=by rfl) (hdN:d<N:=by exact Nat.le_of_ble_eq_true rfl) (hNB:N≤BIG:=by exact Nat.le_of_ble_eq_true rfl) (huB:u<NAM:=by exact Nat.le_of_ble_eq_true rfl):FZ P N o (Af t h) fun e=>∃(t':Tr) (h':Hp),e=Af t' h'∧K t' h':=
 AkM (VQ hop hx (by rw [CE huB];exact hu) hsh hp hd hdN) hk hd hdN hNB
end
end Go.Vm
end
section
namespace Go.Vm
open Go.RowKit Go.Proofs
set_option maxRecDepth 10000
theorem Z5 (x:BQ):Ai (tD x)=some (.agg #[.int .i64 x.r,.int .i64 x.n]):=rfl
theorem Af2 (r s:BQ)(x y:Operand)(w:World):(do eqGuard .eql 23 x y (.agg #[.int .i64 r.r,.int .i64 r.n]) (.agg #[.int .i64 s.r,.int .i64 s.n]);binOp .eql 23 (.agg #[.int .i64 r.r,.int .i64 r.n]) (.agg #[.int .i64 s.r,.int .i64 s.n]):Sem Value).run Tryz.prog w=.ok (.bool (decide (r=s))) w:=by
 obtain ⟨a,b⟩:=r
 obtain ⟨a',b'⟩:=s
 simp [go_sem,Oe]
 repeat (first|(split<;>simp_all;done)|split)
 all_goals simp_all
theorem AaZ {x y:Operand}{K:Value→Prop}(r s:BQ)(hK:K (.bool (decide (r=s)))):∃u v r',(Ai (tD r)=some u∧Ai (tD s)=some v)∧(∀w,(do eqGuard .eql 23 x y u v;binOp .eql 23 u v:Sem Value).run Tryz.prog w=.ok r' w)∧BN r'=true∧K r':=Vl (Z5 r) (Z5 s) (fun w=>Af2 r s x y w) rfl hK
theorem YM (l m:List (ByteArray×ByteArray))(hl:l.length≤1000000):AP Tryz.prog 95 [.row (l.map G6),.row (m.map G6)] [.d (.sc (.bool (decide (l=m))))]:=by
 refine T.fn [] Tryz.func95 ?_
 refine Aw ?_
 refine Aw ?_
 refine br (fun hc1=>?y1) (fun hc1=>?n1)
 case' n1=>
  have hlen:l.length=m.length:=by omega
  refine Aw ?_
  refine Ep (fb:=[]) T.ok (Nat.le_of_ble_eq_true rfl) [0,1,12] (fun (k:Nat)=>[(13,.c (.d (.sc (.int .i64 (k:Nat)))))]) (fun k=>k≤l.length∧l.take k=m.take k) (fun k=>l.length-k) 0 ⟨Nat.zero_le _,rfl⟩ (Am (by first|rfl|(simp only [Tr.get];simp;done)) trivial) ?_
  rintro k ⟨hk,hi⟩
  refine br (fun hc2=>?y2) (fun hc2=>?n2)
  case' y2=>
   obtain ⟨p,hp⟩:=RQ hc2
   obtain ⟨q,hq⟩:=Tu hp hlen
   refine And.intro ⟨T.mixed,by decide +kernel⟩ ?_
   first|refine Eb (by first|exact DR hp|exact DR hq) ?_|refine Ah (by first|exact DR hp|exact DR hq) ?_
   first|refine Eb (by first|exact DR hp|exact DR hq) ?_|refine Ah (by first|exact DR hp|exact DR hq) ?_
   refine Y2 _ _ ?_
   refine br (fun hc3=>?y3) (fun hc3=>?n3)
   case' n3=>
    first|refine CO ?_|refine DU ?_|refine x_bin rfl rfl ?_
    refine BV (k+1) ⟨KF hp,Rz hp hq hi (by simp_all)⟩ (by (try dsimp only);have:=KF hp;omega) rfl (Am (by first|rfl|(simp only [Tr.get];simp;done)) trivial) (by first|rfl|(funext u;simp only [hdrop,hset,hpost,hOf];(repeat' split)<;>rfl))
 all_goals (refine CJ ?_;simp only [Bo,fits,C.asD,and_true]<;>(refine scb ?_;first|exact (decide_eq_false (fun e=>by simp_all)).symm|exact (decide_eq_false (ne_at hp hq (fun e=>by simp_all))).symm|exact (decide_eq_true (TS hlen (SH (by assumption)) hi)).symm))
end Go.Vm
end
section
namespace Go.Vm
open Go.RowKit Go.Proofs
set_option maxRecDepth 10000
open Go.Proofs.YtdfbohaohjaloaaGreatDoor Punnet.Name Punnet.Num
theorem AkR {s:ByteArray}{k:Nat}(hi:(46:UInt8) ∉ s.data.toList.take k)(hc:s[k]? = some 46):Cm 46 s.data.toList=(s.data.toList.take k,s.data.toList.drop (k+1),true):=by
 rw [NK] at hc
 have hl:=(List.getElem?_eq_some_iff.1 hc).1
 have e:s.data.toList=s.data.toList.take k++46::s.data.toList.drop (k+1):=by
  conv=>lhs;rw [←List.take_append_drop k s.data.toList]
  rw [List.drop_eq_getElem_cons hl,(List.getElem?_eq_some_iff.1 hc).2]
 conv=>lhs;rw [e]
 exact PX hi
theorem Aig {s:ByteArray}{k:Nat}{c:UInt8}(hi:(46:UInt8) ∉ s.data.toList.take k)(hc:s[k]? = some c)(hn:¬c=46):(46:UInt8) ∉ s.data.toList.take (k+1):=by
 rw [NK] at hc
 rw [List.take_add_one,hc]
 intro q
 rcases List.mem_append.1 q with q|q
 ·exact hi q
 ·simp at q;exact hn q.symm
theorem Auf {s:ByteArray}(h:(46:UInt8) ∉ s.data.toList):C9 s=none:=Qx (TF h) fun q=>absurd q.2 (by decide)
theorem Ahr {s:ByteArray}{k:Nat}(h:k=s.size)(hi:(46:UInt8) ∉ s.data.toList.take k):C9 s=none:=Auf (by rw [h,←Ei,List.take_length] at hi;exact hi)
theorem AqA (s:ByteArray)(hs:s.size≤1000000):AP Tryz.prog 10 [.sc (.string (s))] [.d (tD ((C9 s).getD AZ)),.d (.sc (.bool ((C9 s).isSome)))]:=by
 refine T.fn [] Tryz.func10 ?_
 refine Ep (fb:=[]) T.ok (Nat.le_of_ble_eq_true rfl) [0,2] (fun (k:Nat)=>[(4,.c (.d (.sc (.int .i64 (k:Nat)))))]) (fun k=>k≤s.size∧(46:UInt8) ∉ s.data.toList.take k) (fun k=>s.size-k) 0 ⟨Nat.zero_le _,by simp⟩ (Am (by first|rfl|(simp only [Tr.get];simp;done)) trivial) ?_
 rintro k ⟨hk,hi⟩
 refine Aw ?_
 refine br (fun hc1=>?y1) (fun hc1=>?n1)
 case' y1=>
  obtain ⟨c,hc⟩:∃c,s[k]? = some c:=⟨_,getElem?_pos s k (by omega)⟩
  first|refine FW (by exact AdH hc) ?_|refine Fh (by exact AdH hc) ?_
  refine br (fun hc2=>?y2) (fun hc2=>?n2)
  case' y2=>
   have hcm:¬c=46:=by rintro rfl;exact hc2 rfl
   first|refine CO ?_ (h:=by (first|omega|(simp;omega)))|refine DU ?_ (h:=by first|exact IntWalk.i64_in _ (by (first|omega|(simp;omega)))|rfl)|refine x_bin rfl rfl ?_
   refine BV (k+1) ⟨by omega,Aig hi hc hcm⟩ (by (try dsimp only);omega) rfl (Am (by first|rfl|(simp only [Tr.get];simp;done)) trivial) (by first|rfl|(funext u;simp only [hdrop,hset,hpost,hOf];(repeat' split)<;>rfl))
  case' n2=>
   have hc46:c=46:=by rw [←UInt8.toNat_inj];show c.toNat=46;omega
   have hcut:=AkR hi (by rw [←hc46];exact hc)
   have e1:AU (s.extract 0 k)=BU (s.data.toList.take k):=by show BU _=_;rw [MH,List.drop_zero]
   have e2:AU (s.extract (k+1) s.size)=BU (s.data.toList.drop (k+1)):=by show BU _=_;rw [MH,←Ei,List.take_length]
   have hz1:(s.extract 0 k).size≤1000000:=by rw [ByteArray.size_extract];omega
   have hz2:(s.extract (k+1) s.size).size≤1000000:=by rw [ByteArray.size_extract];omega
   first|refine FC ?_|refine Es ?_
   refine GH ?_ (h1:=by (first|omega|(simp;omega))) (h2:=by (first|omega|(simp;omega)))
   refine Ar T.RU (by first|exact Pn (s.extract 0 k) hz1|exact Pn (s.extract (k+1) s.size) hz2) ?_
   first|refine CO ?_ (h:=by (first|omega|(simp;omega)))|refine DU ?_ (h:=by first|exact IntWalk.i64_in _ (by (first|omega|(simp;omega)))|rfl)|refine x_bin rfl rfl ?_
   first|refine FC ?_|refine Es ?_
   refine GH ?_ (h1:=by (first|omega|(simp;omega))) (h2:=by (first|omega|(simp;omega)))
   refine Ar T.RU (by first|exact Pn (s.extract 0 k) hz1|exact Pn (s.extract (k+1) s.size) hz2) ?_
   refine br (fun hg3=>?y3) (fun hg3=>?n3)
   case' y3=>
    have h1:=hg3
    refine br (fun hc4=>?y4) (fun hc4=>?n4)
    case' y4=>
     have hY:=Zy hcut (by rw [←e1];exact h1) (by rw [←e2];exact hc4)
    case' n4=>
     have hN:=Qx hcut (fun q=>hc4 (by rw [e2];exact q.2))
   case' n3=>
    have hN:=Qx hcut (fun q=>hg3 (by rw [e1];exact q.1))
    refine brF ?_
 case' n1=>
  have hN:=Ahr (s:=s) (k:=k) (by omega) hi
 all_goals (refine CJ ?_;simp only [Bo,fits,C.asD,and_true]<;>(first|(rw [hN];(first|rfl|(constructor<;>rfl)))|(rw [hY,e1,e2];(first|rfl|(constructor<;>rfl)))))
end Go.Vm
end
section
namespace Go.Vm
open Go.RowKit Go.Proofs
set_option maxRecDepth 10000
open Go.Proofs Go.Proofs.YtdfbohaohjaloaaGreatDoor Punnet.Name Punnet.Num
set_option maxHeartbeats 16000000 in
theorem Uc (table:He)(word:ByteArray) (r:Int)(h:BG table word=some r):AP Tryz.prog 40 [JV table,.sc (.string word)] [.d (.sc (.int .i64 r))]:=by
 refine T.fn [11] Tryz.func40 ?_
 unfold BG at h
 refine Aa h fun o1 H1 h=>?_
 refine Ep (fb:=[11]) T.ok (Nat.le_of_ble_eq_true rfl) [1,7] (fun (s:Nat×Int)=>[(8,.c (.d (.sc (.int .i64 s.2))))]) (fun s=>Dk table word s.1 s.2=some o1) (fun s=>s.1) (1000000,0) H1 (Am rfl trivial) ?_
 rintro ⟨nl1,v8l1⟩ h1
 try dsimp only at h1
 rcases nl1 with _|nl1
 ·rw [Dk] at h1;cases h1
 rw [Dk] at h1
 refine br (fun c1=>?c1y) (fun c1=>?c1n)
 case' c1y=>
  replace h1:=Ac h1 c1
  refine Aa h1 fun p11 q1 h1=>Ak q1 fun q1n q1=>?_
  refine Auz (e:=9) ?_ Tryz.underlying97 (by rfl) q1n (Ag (f:=fun x=>.sc (.string x)) q1)
  refine br (fun c2=>?c2y) (fun c2=>?c2n)
  case' c2y=>
   refine br (fun c3=>?c3y) (fun c3=>?c3n)
   case' c3y=>
    replace h1:=Ac h1 ⟨c2,c3⟩
    cases h1
    try dsimp only at h
    cases h
   case' c3n=>skip
   replace h1:=Ad h1 (fun k=>absurd k.2 (fun k=>k c3))
   refine KI ?_
   refine BV ((nl1,(w64 (v8l1+1)))) h1 (by (try dsimp only);omega) rfl (Am rfl trivial) rfl
  case' c2n=>skip
  refine brF ?_
  replace h1:=Ad h1 (fun k=>absurd k.1 c2)
  refine KI ?_
  refine BV ((nl1,(w64 (v8l1+1)))) h1 (by (try dsimp only);omega) rfl (Am rfl trivial) rfl
 case' c1n=>
  replace h1:=Ad h1 c1
  cases h1
  try dsimp only at h
  cases h
 all_goals (refine CJ ?_;simp only [Bo,fits,C.asD,and_true]<;>(first|exact rfl|trivial|exact ⟨rfl,rfl⟩|exact ⟨rfl,rfl,rfl⟩|(simp [*];done)|(simp_all;done)|(simp only [Dy] at *;simp_all;first|done|rfl)))
set_option maxHeartbeats 16000000 in
theorem Rx (table:He)(kind:Int) (r:ByteArray)(h:CZ table kind=some r):AP Tryz.prog 93 [JV table,.sc (.int .i64 kind)] [.d (.sc (.string r))]:=by
 refine T.fn [12,13] Tryz.func93 ?_
 unfold CZ at h
 refine br (fun c1=>?c1y) (fun c1=>?c1n)
 case' c1y=>
  refine brT ?_
  replace h:=Ac h (.inl c1)
  cases h
 case' c1n=>
  refine br (fun c2=>?c2y) (fun c2=>?c2n)
  case' c2y=>
   replace h:=Ac h (.inr c2)
   cases h
  case' c2n=>skip
  replace h:=Ad h (fun k=>k.elim c1 c2)
  refine Aa h fun p12 q1 h=>Ak q1 fun q1n q1=>?_
  refine Alh (e:=9) ?_ Tryz.underlying97 (by rfl) q1n (Aq3 q1 q1n)
  refine Apa (T:=9) ?_ (by rfl) (AhH (f:=fun x=>.sc (.string x)) q1)
  cases h
 all_goals (refine CJ ?_;simp only [Bo,fits,C.asD,and_true]<;>(first|exact rfl|trivial|exact ⟨rfl,rfl⟩|exact ⟨rfl,rfl,rfl⟩|(simp [*];done)|(simp_all;done)|(simp only [Dy] at *;simp_all;first|done|rfl)))
set_option maxHeartbeats 16000000 in
theorem LV (t_r0:Nat)(ht_r0:NAM≤t_r0)(r0:Ba) (r:ByteArray×Ba)(h:IG r0=some r):FO Tryz.prog 39 [.ptr t_r0 0] [(t_r0,.obj [.row (List.map strD r0.words),.sc (.bool r0.bad)])] [.d (.sc (.string r.1))] [(t_r0,.obj [.row (List.map strD r.2.words),.sc (.bool r.2.bad)])]:=by
 refine T.fnH [] Tryz.func39 ?_ (by simp only [List.forall_mem_cons,List.not_mem_nil,false_implies,implies_true,and_true];exact ht_r0) (by simp [thing]) (by simp [thing])
 unfold IG at h
 refine CG ht_r0 (by first|rfl|(simp only [hOf,hset,hpost,if_true,if_false,not_false_eq_true];first|done|rfl|(simp [*];done)|(simp_all;done))) ?_
 refine Aw ?_
 refine br (fun c1=>?c1y) (fun c1=>?c1n)
 case' c1y=>
  replace h:=Ac h c1
  refine CG ht_r0 (by first|rfl|(simp only [hOf,hset,hpost,if_true,if_false,not_false_eq_true];first|done|rfl|(simp [*];done)|(simp_all;done))) ?_
  cases h
 case' c1n=>
  replace h:=Ad h c1
  refine CG ht_r0 (by first|rfl|(simp only [hOf,hset,hpost,if_true,if_false,not_false_eq_true];first|done|rfl|(simp [*];done)|(simp_all;done))) ?_
  refine Aa h fun p17 q1 h=>Ak q1 fun q1n q1=>?_
  refine Ah (Ag q1) ?_ q1n
  refine CG ht_r0 (by first|rfl|(simp only [hOf,hset,hpost,if_true,if_false,not_false_eq_true];first|done|rfl|(simp [*];done)|(simp_all;done))) ?_
  refine Aa h fun y24 q2 h=>OL q2 fun q2a q2b q2c q2=>?_
  refine Es ?_ q2a
  refine Qh ?_ (CB _ fun _=>rfl) q2a q2b q2c q2
  refine CG ht_r0 (by first|rfl|(simp only [hOf,hset,hpost,if_true,if_false,not_false_eq_true];first|done|rfl|(simp [*];done)|(simp_all;done))) ?_
  cases h
 all_goals (refine ⟨?_,⟨⟨ht_r0,(by first|rfl|(simp only [hOf,hset,hpost,if_true,if_false,not_false_eq_true];first|done|rfl|(simp [*];done)|(simp_all;done)))⟩,trivial⟩⟩;simp only [Bo,fits,C.asD,and_true]<;>(first|exact rfl|trivial|exact ⟨rfl,rfl⟩|exact ⟨rfl,rfl,rfl⟩|(simp [*];done)|(simp_all;done)|(simp only [Dy] at *;simp_all;first|done|rfl)))
set_option maxHeartbeats 16000000 in
theorem Nv (t_r0:Nat)(ht_r0:NAM≤t_r0)(r0:Ba) (r:Int×Ba)(h:JG r0=some r):FO Tryz.prog 43 [.ptr t_r0 0] [(t_r0,.obj [.row (List.map strD r0.words),.sc (.bool r0.bad)])] [.d (.sc (.int .i64 r.1))] [(t_r0,.obj [.row (List.map strD r.2.words),.sc (.bool r.2.bad)])]:=by
 refine T.fnH [7] Tryz.func43 ?_ (by simp only [List.forall_mem_cons,List.not_mem_nil,false_implies,implies_true,and_true];exact ht_r0) (by simp [thing]) (by simp [thing])
 unfold JG at h
 refine Aa h fun r7 q1 h=>?_
 refine BC T.LG (LV t_r0 ht_r0 r0 r7 q1) ?_ ⟨⟨ht_r0,(by first|rfl|(simp only [hOf,hset,hpost,if_true,if_false,not_false_eq_true];first|done|rfl|(simp [*];done)|(simp_all;done)))⟩,trivial⟩
 refine Ce h fun g1 h=>?_
 refine Ar T.Vx (MF r7.1 g1) ?_
 refine CG ht_r0 (by first|rfl|(simp only [hOf,hset,hpost,if_true,if_false,not_false_eq_true];first|done|rfl|(simp [*];done)|(simp_all;done))) ?_
 refine br (fun c1=>?c1y) (fun c1=>?c1n)
 case' c1y=>
  refine CG ht_r0 (by first|rfl|(simp only [hOf,hset,hpost,if_true,if_false,not_false_eq_true];first|done|rfl|(simp [*];done)|(simp_all;done))) ?_
  cases h
 case' c1n=>
  refine CG ht_r0 (by first|rfl|(simp only [hOf,hset,hpost,if_true,if_false,not_false_eq_true];first|done|rfl|(simp [*];done)|(simp_all;done))) ?_
  cases h
 all_goals (refine ⟨?_,⟨⟨ht_r0,(by first|rfl|(simp only [hOf,hset,hpost,if_true,if_false,not_false_eq_true];first|done|rfl|(simp [*];done)|(simp_all;done)))⟩,trivial⟩⟩;simp only [Bo,fits,C.asD,and_true]<;>(first|exact rfl|trivial|exact ⟨rfl,rfl⟩|exact ⟨rfl,rfl,rfl⟩|(simp [*];done)|(simp_all;done)|(simp only [Dy] at *;simp_all;first|done|rfl)))
set_option maxHeartbeats 16000000 in
theorem IA (t_r0:Nat)(ht_r0:NAM≤t_r0)(r0:Ba) (r:Int×Ba)(h:Jt r0=some r):FO Tryz.prog 41 [.ptr t_r0 0] [(t_r0,.obj [.row (List.map strD r0.words),.sc (.bool r0.bad)])] [.d (.sc (.int .i64 r.1))] [(t_r0,.obj [.row (List.map strD r.2.words),.sc (.bool r.2.bad)])]:=by
 refine T.fnH [4] Tryz.func41 ?_ (by simp only [List.forall_mem_cons,List.not_mem_nil,false_implies,implies_true,and_true];exact ht_r0) (by simp [thing]) (by simp [thing])
 unfold Jt at h
 refine Aa h fun r4 q1 h=>?_
 refine BC T.Ob (Nv t_r0 ht_r0 r0 r4 q1) ?_ ⟨⟨ht_r0,(by first|rfl|(simp only [hOf,hset,hpost,if_true,if_false,not_false_eq_true];first|done|rfl|(simp [*];done)|(simp_all;done)))⟩,trivial⟩
 cases h
 all_goals (refine ⟨?_,⟨⟨ht_r0,(by first|rfl|(simp only [hOf,hset,hpost,if_true,if_false,not_false_eq_true];first|done|rfl|(simp [*];done)|(simp_all;done)))⟩,trivial⟩⟩;simp only [Bo,fits,C.asD,and_true]<;>(first|exact rfl|trivial|exact ⟨rfl,rfl⟩|exact ⟨rfl,rfl,rfl⟩|(simp [*];done)|(simp_all;done)|(simp only [Dy] at *;simp_all;first|done|rfl)))
set_option maxHeartbeats 16000000 in
theorem QY (t_r0:Nat)(ht_r0:NAM≤t_r0)(r0:Ba) (r:BQ×Ba)(h:Na r0=some r):FO Tryz.prog 81 [.ptr t_r0 0] [(t_r0,.obj [.row (List.map strD r0.words),.sc (.bool r0.bad)])] [.d (tD r.1)] [(t_r0,.obj [.row (List.map strD r.2.words),.sc (.bool r.2.bad)])]:=by
 refine T.fnH [7] Tryz.func81 ?_ (by simp only [List.forall_mem_cons,List.not_mem_nil,false_implies,implies_true,and_true];exact ht_r0) (by simp [thing]) (by simp [thing])
 unfold Na at h
 refine Aa h fun r7 q1 h=>?_
 refine BC T.LG (LV t_r0 ht_r0 r0 r7 q1) ?_ ⟨⟨ht_r0,(by first|rfl|(simp only [hOf,hset,hpost,if_true,if_false,not_false_eq_true];first|done|rfl|(simp [*];done)|(simp_all;done)))⟩,trivial⟩
 refine Ce h fun g1 h=>?_
 refine Ar T.Aq4 (AnN r7.1 g1) ?_
 refine CG ht_r0 (by first|rfl|(simp only [hOf,hset,hpost,if_true,if_false,not_false_eq_true];first|done|rfl|(simp [*];done)|(simp_all;done))) ?_
 refine br (fun c1=>?c1y) (fun c1=>?c1n)
 case' c1y=>
  refine CG ht_r0 (by first|rfl|(simp only [hOf,hset,hpost,if_true,if_false,not_false_eq_true];first|done|rfl|(simp [*];done)|(simp_all;done))) ?_
  cases h
 case' c1n=>
  refine CG ht_r0 (by first|rfl|(simp only [hOf,hset,hpost,if_true,if_false,not_false_eq_true];first|done|rfl|(simp [*];done)|(simp_all;done))) ?_
  cases h
 all_goals (refine ⟨?_,⟨⟨ht_r0,(by first|rfl|(simp only [hOf,hset,hpost,if_true,if_false,not_false_eq_true];first|done|rfl|(simp [*];done)|(simp_all;done)))⟩,trivial⟩⟩;simp only [Bo,fits,C.asD,and_true]<;>(first|exact rfl|trivial|exact ⟨rfl,rfl⟩|exact ⟨rfl,rfl,rfl⟩|(simp [*];done)|(simp_all;done)|(simp only [Dy] at *;simp_all;first|done|rfl)))
set_option maxHeartbeats 16000000 in
theorem J5 (t_r0:Nat)(ht_r0:NAM≤t_r0)(r0:Ba) (r:Bv×Ba)(h:Ju r0=some r):FO Tryz.prog 85 [.ptr t_r0 0] [(t_r0,.obj [.row (List.map strD r0.words),.sc (.bool r0.bad)])] [.d (rD r.1)] [(t_r0,.obj [.row (List.map strD r.2.words),.sc (.bool r.2.bad)])]:=by
 refine T.fnH [7] Tryz.func85 ?_ (by simp only [List.forall_mem_cons,List.not_mem_nil,false_implies,implies_true,and_true];exact ht_r0) (by simp [thing]) (by simp [thing])
 unfold Ju at h
 refine Aa h fun r7 q1 h=>?_
 refine BC T.LG (LV t_r0 ht_r0 r0 r7 q1) ?_ ⟨⟨ht_r0,(by first|rfl|(simp only [hOf,hset,hpost,if_true,if_false,not_false_eq_true];first|done|rfl|(simp [*];done)|(simp_all;done)))⟩,trivial⟩
 refine Ce h fun g1 h=>?_
 refine Ar T.Akm (Z8 r7.1 g1) ?_
 refine CG ht_r0 (by first|rfl|(simp only [hOf,hset,hpost,if_true,if_false,not_false_eq_true];first|done|rfl|(simp [*];done)|(simp_all;done))) ?_
 refine br (fun c1=>?c1y) (fun c1=>?c1n)
 case' c1y=>
  refine CG ht_r0 (by first|rfl|(simp only [hOf,hset,hpost,if_true,if_false,not_false_eq_true];first|done|rfl|(simp [*];done)|(simp_all;done))) ?_
  cases h
 case' c1n=>
  refine CG ht_r0 (by first|rfl|(simp only [hOf,hset,hpost,if_true,if_false,not_false_eq_true];first|done|rfl|(simp [*];done)|(simp_all;done))) ?_
  cases h
 all_goals (refine ⟨?_,⟨⟨ht_r0,(by first|rfl|(simp only [hOf,hset,hpost,if_true,if_false,not_false_eq_true];first|done|rfl|(simp [*];done)|(simp_all;done)))⟩,trivial⟩⟩;simp only [Bo,fits,C.asD,and_true]<;>(first|exact rfl|trivial|exact ⟨rfl,rfl⟩|exact ⟨rfl,rfl,rfl⟩|(simp [*];done)|(simp_all;done)|(simp only [Dy] at *;simp_all;first|done|rfl)))
set_option maxHeartbeats 16000000 in
theorem QS (t_r0:Nat)(ht_r0:NAM≤t_r0)(r0:Ba) (r:ByteArray×Ba)(h:LU r0=some r):FO Tryz.prog 83 [.ptr t_r0 0] [(t_r0,.obj [.row (List.map strD r0.words),.sc (.bool r0.bad)])] [.d (.sc (.string r.1))] [(t_r0,.obj [.row (List.map strD r.2.words),.sc (.bool r.2.bad)])]:=by
 refine T.fnH [5] Tryz.func83 ?_ (by simp only [List.forall_mem_cons,List.not_mem_nil,false_implies,implies_true,and_true];exact ht_r0) (by simp [thing]) (by simp [thing])
 unfold LU at h
 refine Aa h fun r5 q1 h=>?_
 refine BC T.LG (LV t_r0 ht_r0 r0 r5 q1) ?_ ⟨⟨ht_r0,(by first|rfl|(simp only [hOf,hset,hpost,if_true,if_false,not_false_eq_true];first|done|rfl|(simp [*];done)|(simp_all;done)))⟩,trivial⟩
 refine CG ht_r0 (by first|rfl|(simp only [hOf,hset,hpost,if_true,if_false,not_false_eq_true];first|done|rfl|(simp [*];done)|(simp_all;done))) ?_
 refine br (fun c1=>?c1y) (fun c1=>?c1n)
 case' c1y=>
  refine CG ht_r0 (by first|rfl|(simp only [hOf,hset,hpost,if_true,if_false,not_false_eq_true];first|done|rfl|(simp [*];done)|(simp_all;done))) ?_
  cases h
 case' c1n=>
  refine Ar T.Pq (name_any r5.1) ?_
  refine CG ht_r0 (by first|rfl|(simp only [hOf,hset,hpost,if_true,if_false,not_false_eq_true];first|done|rfl|(simp [*];done)|(simp_all;done))) ?_
  cases h
 all_goals (refine ⟨?_,⟨⟨ht_r0,(by first|rfl|(simp only [hOf,hset,hpost,if_true,if_false,not_false_eq_true];first|done|rfl|(simp [*];done)|(simp_all;done)))⟩,trivial⟩⟩;simp only [Bo,fits,C.asD,and_true]<;>(first|exact rfl|trivial|exact ⟨rfl,rfl⟩|exact ⟨rfl,rfl,rfl⟩|(simp [*];done)|(simp_all;done)|(simp only [Dy] at *;simp_all;first|done|rfl)))
set_option maxHeartbeats 16000000 in
theorem PH (t_r0:Nat)(ht_r0:NAM≤t_r0)(r0:Ba) (r:ByteArray×Ba)(h:Nc r0=some r):FO Tryz.prog 84 [.ptr t_r0 0] [(t_r0,.obj [.row (List.map strD r0.words),.sc (.bool r0.bad)])] [.d (.sc (.string r.1))] [(t_r0,.obj [.row (List.map strD r.2.words),.sc (.bool r.2.bad)])]:=by
 refine T.fnH [5] Tryz.func84 ?_ (by simp only [List.forall_mem_cons,List.not_mem_nil,false_implies,implies_true,and_true];exact ht_r0) (by simp [thing]) (by simp [thing])
 unfold Nc at h
 refine Aa h fun r5 q1 h=>?_
 refine BC T.LG (LV t_r0 ht_r0 r0 r5 q1) ?_ ⟨⟨ht_r0,(by first|rfl|(simp only [hOf,hset,hpost,if_true,if_false,not_false_eq_true];first|done|rfl|(simp [*];done)|(simp_all;done)))⟩,trivial⟩
 refine br (fun c1=>?c1y) (fun c1=>?c1n)
 case' c1y=>
  replace h:=Ac h c1
  cases h
 case' c1n=>
  replace h:=Ad h c1
  refine CG ht_r0 (by first|rfl|(simp only [hOf,hset,hpost,if_true,if_false,not_false_eq_true];first|done|rfl|(simp [*];done)|(simp_all;done))) ?_
  refine br (fun c2=>?c2y) (fun c2=>?c2n)
  case' c2y=>
   refine CG ht_r0 (by first|rfl|(simp only [hOf,hset,hpost,if_true,if_false,not_false_eq_true];first|done|rfl|(simp [*];done)|(simp_all;done))) ?_
   cases h
  case' c2n=>skip
  refine Ar T.Pq (name_any r5.1) ?_
  refine CG ht_r0 (by first|rfl|(simp only [hOf,hset,hpost,if_true,if_false,not_false_eq_true];first|done|rfl|(simp [*];done)|(simp_all;done))) ?_
  cases h
 all_goals (refine ⟨?_,⟨⟨ht_r0,(by first|rfl|(simp only [hOf,hset,hpost,if_true,if_false,not_false_eq_true];first|done|rfl|(simp [*];done)|(simp_all;done)))⟩,trivial⟩⟩;simp only [Bo,fits,C.asD,and_true]<;>(first|exact rfl|trivial|exact ⟨rfl,rfl⟩|exact ⟨rfl,rfl,rfl⟩|(simp [*];done)|(simp_all;done)|(simp only [Dy] at *;simp_all;first|done|rfl)))
set_option maxHeartbeats 16000000 in
theorem QV (t_r0:Nat)(ht_r0:NAM≤t_r0)(r0:Ba) (r:ByteArray×Ba)(h:Nb r0=some r):FO Tryz.prog 86 [.ptr t_r0 0] [(t_r0,.obj [.row (List.map strD r0.words),.sc (.bool r0.bad)])] [.d (.sc (.string r.1))] [(t_r0,.obj [.row (List.map strD r.2.words),.sc (.bool r.2.bad)])]:=by
 refine T.fnH [7] Tryz.func86 ?_ (by simp only [List.forall_mem_cons,List.not_mem_nil,false_implies,implies_true,and_true];exact ht_r0) (by simp [thing]) (by simp [thing])
 unfold Nb at h
 refine Aa h fun r7 q1 h=>?_
 refine BC T.LG (LV t_r0 ht_r0 r0 r7 q1) ?_ ⟨⟨ht_r0,(by first|rfl|(simp only [hOf,hset,hpost,if_true,if_false,not_false_eq_true];first|done|rfl|(simp [*];done)|(simp_all;done)))⟩,trivial⟩
 refine Ce h fun g1 h=>?_
 refine Ar T.Aua (AlG r7.1 g1) ?_
 refine CG ht_r0 (by first|rfl|(simp only [hOf,hset,hpost,if_true,if_false,not_false_eq_true];first|done|rfl|(simp [*];done)|(simp_all;done))) ?_
 refine br (fun c1=>?c1y) (fun c1=>?c1n)
 case' c1y=>
  refine CG ht_r0 (by first|rfl|(simp only [hOf,hset,hpost,if_true,if_false,not_false_eq_true];first|done|rfl|(simp [*];done)|(simp_all;done))) ?_
  cases h
 case' c1n=>
  refine CG ht_r0 (by first|rfl|(simp only [hOf,hset,hpost,if_true,if_false,not_false_eq_true];first|done|rfl|(simp [*];done)|(simp_all;done))) ?_
  cases h
 all_goals (refine ⟨?_,⟨⟨ht_r0,(by first|rfl|(simp only [hOf,hset,hpost,if_true,if_false,not_false_eq_true];first|done|rfl|(simp [*];done)|(simp_all;done)))⟩,trivial⟩⟩;simp only [Bo,fits,C.asD,and_true]<;>(first|exact rfl|trivial|exact ⟨rfl,rfl⟩|exact ⟨rfl,rfl,rfl⟩|(simp [*];done)|(simp_all;done)|(simp only [Dy] at *;simp_all;first|done|rfl)))
set_option maxHeartbeats 16000000 in
theorem AtQ (t_r0:Nat)(ht_r0:NAM≤t_r0)(r0:Ba) (r:AL×Ba)(h:EO r0=some r):FO Tryz.prog 82 [.ptr t_r0 0] [(t_r0,.obj [.row (List.map strD r0.words),.sc (.bool r0.bad)])] [.d (lD r.1)] [(t_r0,.obj [.row (List.map strD r.2.words),.sc (.bool r.2.bad)])]:=by
 refine T.fnH [6,7,14,20,32,38,47,50,55,60,63,66,69,74,77] Tryz.func82 ?_ (by simp only [List.forall_mem_cons,List.not_mem_nil,false_implies,implies_true,and_true];exact ht_r0) (by simp [thing]) (by simp [thing])
 unfold EO at h
 refine Aa h fun r6 q1 h=>?_
 refine BC T.LG (LV t_r0 ht_r0 r0 r6 q1) ?_ ⟨⟨ht_r0,(by first|rfl|(simp only [hOf,hset,hpost,if_true,if_false,not_false_eq_true];first|done|rfl|(simp [*];done)|(simp_all;done)))⟩,trivial⟩
 refine OB (r:=JV Df) ?_ rfl rfl rfl rfl
 refine Aa h fun r9 q2 h=>?_
 refine Ar T.Uo (Uc Df r6.1 r9 q2) ?_
 refine br (fun c1=>?c1y) (fun c1=>?c1n)
 case' c1y=>
  refine brT ?_
  replace h:=Ac h (.inl c1)
  refine Aa h fun r47 q3 h=>?_
  refine BC T.KJ (J5 t_r0 ht_r0 r6.2 r47 q3) ?_ ⟨⟨ht_r0,(by first|rfl|(simp only [hOf,hset,hpost,if_true,if_false,not_false_eq_true];first|done|rfl|(simp [*];done)|(simp_all;done)))⟩,trivial⟩
  refine Aa h fun r50 q4 h=>?_
  refine BC T.Qb (QS t_r0 ht_r0 r47.2 r50 q4) ?_ ⟨⟨ht_r0,(by first|rfl|(simp only [hOf,hset,hpost,if_true,if_false,not_false_eq_true];first|done|rfl|(simp [*];done)|(simp_all;done)))⟩,trivial⟩
  cases h
 case' c1n=>
  refine br (fun c2=>?c2y) (fun c2=>?c2n)
  case' c2y=>
   replace h:=Ac h (.inr c2)
   refine Aa h fun r47 q5 h=>?_
   refine BC T.KJ (J5 t_r0 ht_r0 r6.2 r47 q5) ?_ ⟨⟨ht_r0,(by first|rfl|(simp only [hOf,hset,hpost,if_true,if_false,not_false_eq_true];first|done|rfl|(simp [*];done)|(simp_all;done)))⟩,trivial⟩
   refine Aa h fun r50 q6 h=>?_
   refine BC T.Qb (QS t_r0 ht_r0 r47.2 r50 q6) ?_ ⟨⟨ht_r0,(by first|rfl|(simp only [hOf,hset,hpost,if_true,if_false,not_false_eq_true];first|done|rfl|(simp [*];done)|(simp_all;done)))⟩,trivial⟩
   cases h
  case' c2n=>skip
  replace h:=Ad h (fun k=>k.elim c1 c2)
  refine br (fun c3=>?c3y) (fun c3=>?c3n)
  case' c3y=>
   replace h:=Ac h c3
   refine Aa h fun r55 q7 h=>?_
   refine BC T.KJ (J5 t_r0 ht_r0 r6.2 r55 q7) ?_ ⟨⟨ht_r0,(by first|rfl|(simp only [hOf,hset,hpost,if_true,if_false,not_false_eq_true];first|done|rfl|(simp [*];done)|(simp_all;done)))⟩,trivial⟩
   cases h
  case' c3n=>skip
  replace h:=Ad h c3
  refine br (fun c4=>?c4y) (fun c4=>?c4n)
  case' c4y=>
   replace h:=Ac h c4
   refine Aa h fun r60 q8 h=>?_
   refine BC T.KJ (J5 t_r0 ht_r0 r6.2 r60 q8) ?_ ⟨⟨ht_r0,(by first|rfl|(simp only [hOf,hset,hpost,if_true,if_false,not_false_eq_true];first|done|rfl|(simp [*];done)|(simp_all;done)))⟩,trivial⟩
   refine Aa h fun r63 q9 h=>?_
   refine BC T.Qb (QS t_r0 ht_r0 r60.2 r63 q9) ?_ ⟨⟨ht_r0,(by first|rfl|(simp only [hOf,hset,hpost,if_true,if_false,not_false_eq_true];first|done|rfl|(simp [*];done)|(simp_all;done)))⟩,trivial⟩
   refine Aa h fun r66 q10 h=>?_
   refine BC T.Qb (QS t_r0 ht_r0 r63.2 r66 q10) ?_ ⟨⟨ht_r0,(by first|rfl|(simp only [hOf,hset,hpost,if_true,if_false,not_false_eq_true];first|done|rfl|(simp [*];done)|(simp_all;done)))⟩,trivial⟩
   refine Aa h fun r69 q11 h=>?_
   refine BC T.Ob (Nv t_r0 ht_r0 r66.2 r69 q11) ?_ ⟨⟨ht_r0,(by first|rfl|(simp only [hOf,hset,hpost,if_true,if_false,not_false_eq_true];first|done|rfl|(simp [*];done)|(simp_all;done)))⟩,trivial⟩
   cases h
  case' c4n=>skip
  replace h:=Ad h c4
  refine br (fun c5=>?c5y) (fun c5=>?c5n)
  case' c5y=>
   replace h:=Ac h c5
   refine Aa h fun r74 q12 h=>?_
   refine BC T.KJ (J5 t_r0 ht_r0 r6.2 r74 q12) ?_ ⟨⟨ht_r0,(by first|rfl|(simp only [hOf,hset,hpost,if_true,if_false,not_false_eq_true];first|done|rfl|(simp [*];done)|(simp_all;done)))⟩,trivial⟩
   refine Aa h fun r77 q13 h=>?_
   refine BC T.PT (QV t_r0 ht_r0 r74.2 r77 q13) ?_ ⟨⟨ht_r0,(by first|rfl|(simp only [hOf,hset,hpost,if_true,if_false,not_false_eq_true];first|done|rfl|(simp [*];done)|(simp_all;done)))⟩,trivial⟩
   cases h
  case' c5n=>skip
  replace h:=Ad h c5
  refine OB (r:=JV D6) ?_ rfl rfl rfl rfl
  refine Aa h fun r16 q14 h=>?_
  refine Ar T.Uo (Uc D6 r6.1 r16 q14) ?_
  refine Aa h fun r20 q15 h=>?_
  refine BC T.KJ (J5 t_r0 ht_r0 r6.2 r20 q15) ?_ ⟨⟨ht_r0,(by first|rfl|(simp only [hOf,hset,hpost,if_true,if_false,not_false_eq_true];first|done|rfl|(simp [*];done)|(simp_all;done)))⟩,trivial⟩
  refine br (fun c6=>?c6y) (fun c6=>?c6n)
  case' c6y=>
   replace h:=Ac h c6
   refine Aa h fun r32 q16 h=>?_
   refine BC T.Ob (Nv t_r0 ht_r0 r20.2 r32 q16) ?_ ⟨⟨ht_r0,(by first|rfl|(simp only [hOf,hset,hpost,if_true,if_false,not_false_eq_true];first|done|rfl|(simp [*];done)|(simp_all;done)))⟩,trivial⟩
   cases h
  case' c6n=>skip
  replace h:=Ad h c6
  refine br (fun c7=>?c7y) (fun c7=>?c7n)
  case' c7y=>
   replace h:=Ac h c7
   refine Aa h fun r38 q17 h=>?_
   refine BC T.PT (QV t_r0 ht_r0 r20.2 r38 q17) ?_ ⟨⟨ht_r0,(by first|rfl|(simp only [hOf,hset,hpost,if_true,if_false,not_false_eq_true];first|done|rfl|(simp [*];done)|(simp_all;done)))⟩,trivial⟩
   cases h
  case' c7n=>skip
  replace h:=Ad h c7
  refine br (fun c8=>?c8y) (fun c8=>?c8n)
  case' c8y=>
   replace h:=Ac h c8
   cases h
  case' c8n=>skip
  replace h:=Ad h c8
  refine CG ht_r0 (by first|rfl|(simp only [hOf,hset,hpost,if_true,if_false,not_false_eq_true];first|done|rfl|(simp [*];done)|(simp_all;done))) ?_
  cases h
 all_goals (refine ⟨?_,⟨⟨ht_r0,(by first|rfl|(simp only [hOf,hset,hpost,if_true,if_false,not_false_eq_true];first|done|rfl|(simp [*];done)|(simp_all;done)))⟩,trivial⟩⟩;simp only [Bo,fits,C.asD,and_true]<;>(first|exact rfl|trivial|exact ⟨rfl,rfl⟩|exact ⟨rfl,rfl,rfl⟩|(simp [*];done)|(simp_all;done)|(simp only [Dy] at *;simp_all;first|done|rfl)))
set_option maxHeartbeats 16000000 in
theorem AmL (t_r0:Nat)(ht_r0:NAM≤t_r0)(r0:Ba)(kind:Int) (r:AV×Ba)(h:Et r0 kind=some r):FO Tryz.prog 42 [.ptr t_r0 0,.sc (.int .i64 kind)] [(t_r0,.obj [.row (List.map strD r0.words),.sc (.bool r0.bad)])] [.d (Um r.1)] [(t_r0,.obj [.row (List.map strD r.2.words),.sc (.bool r.2.bad)])]:=by
 refine T.fnH [12,15,21,25,32,37,40,43,50,53,56,62] Tryz.func42 ?_ (by simp only [List.forall_mem_cons,List.not_mem_nil,false_implies,implies_true,and_true];exact ht_r0) (by simp [thing]) (by simp [thing])
 unfold Et at h
 refine br (fun c1=>?c1y) (fun c1=>?c1n)
 case' c1y=>
  replace h:=Ac h c1
  refine Aa h fun r12 q1 h=>?_
  refine BC T.Ul (QY t_r0 ht_r0 r0 r12 q1) ?_ ⟨⟨ht_r0,(by first|rfl|(simp only [hOf,hset,hpost,if_true,if_false,not_false_eq_true];first|done|rfl|(simp [*];done)|(simp_all;done)))⟩,trivial⟩
  refine Aa h fun r15 q2 h=>?_
  refine BC T.AeR (AtQ t_r0 ht_r0 r12.2 r15 q2) ?_ ⟨⟨ht_r0,(by first|rfl|(simp only [hOf,hset,hpost,if_true,if_false,not_false_eq_true];first|done|rfl|(simp [*];done)|(simp_all;done)))⟩,trivial⟩
  cases h
 case' c1n=>
  replace h:=Ad h c1
  refine br (fun c2=>?c2y) (fun c2=>?c2n)
  case' c2y=>
   replace h:=Ac h c2
   refine Aa h fun r21 q3 h=>?_
   refine BC T.Ul (QY t_r0 ht_r0 r0 r21 q3) ?_ ⟨⟨ht_r0,(by first|rfl|(simp only [hOf,hset,hpost,if_true,if_false,not_false_eq_true];first|done|rfl|(simp [*];done)|(simp_all;done)))⟩,trivial⟩
   cases h
  case' c2n=>skip
  replace h:=Ad h c2
  refine Aa h fun r25 q4 h=>?_
  refine BC T.Qb (QS t_r0 ht_r0 r0 r25 q4) ?_ ⟨⟨ht_r0,(by first|rfl|(simp only [hOf,hset,hpost,if_true,if_false,not_false_eq_true];first|done|rfl|(simp [*];done)|(simp_all;done)))⟩,trivial⟩
  refine br (fun c3=>?c3y) (fun c3=>?c3n)
  case' c3y=>
   refine brT ?_
   replace h:=Ac h (.inl c3)
   refine Aa h fun r32 q5 h=>?_
   refine BC T.PK (PH t_r0 ht_r0 r25.2 r32 q5) ?_ ⟨⟨ht_r0,(by first|rfl|(simp only [hOf,hset,hpost,if_true,if_false,not_false_eq_true];first|done|rfl|(simp [*];done)|(simp_all;done)))⟩,trivial⟩
   cases h
  case' c3n=>skip
  refine br (fun c4=>?c4y) (fun c4=>?c4n)
  case' c4y=>
   replace h:=Ac h (.inr c4)
   refine Aa h fun r32 q6 h=>?_
   refine BC T.PK (PH t_r0 ht_r0 r25.2 r32 q6) ?_ ⟨⟨ht_r0,(by first|rfl|(simp only [hOf,hset,hpost,if_true,if_false,not_false_eq_true];first|done|rfl|(simp [*];done)|(simp_all;done)))⟩,trivial⟩
   cases h
  case' c4n=>skip
  replace h:=Ad h (fun k=>k.elim c3 c4)
  refine br (fun c5=>?c5y) (fun c5=>?c5n)
  case' c5y=>
   replace h:=Ac h c5
   refine Aa h fun r37 q7 h=>?_
   refine BC T.PK (PH t_r0 ht_r0 r25.2 r37 q7) ?_ ⟨⟨ht_r0,(by first|rfl|(simp only [hOf,hset,hpost,if_true,if_false,not_false_eq_true];first|done|rfl|(simp [*];done)|(simp_all;done)))⟩,trivial⟩
   refine Aa h fun r40 q8 h=>?_
   refine BC T.KJ (J5 t_r0 ht_r0 r37.2 r40 q8) ?_ ⟨⟨ht_r0,(by first|rfl|(simp only [hOf,hset,hpost,if_true,if_false,not_false_eq_true];first|done|rfl|(simp [*];done)|(simp_all;done)))⟩,trivial⟩
   refine Aa h fun r43 q9 h=>?_
   refine BC T.Ob (Nv t_r0 ht_r0 r40.2 r43 q9) ?_ ⟨⟨ht_r0,(by first|rfl|(simp only [hOf,hset,hpost,if_true,if_false,not_false_eq_true];first|done|rfl|(simp [*];done)|(simp_all;done)))⟩,trivial⟩
   cases h
  case' c5n=>skip
  replace h:=Ad h c5
  refine br (fun c6=>?c6y) (fun c6=>?c6n)
  case' c6y=>
   refine brT ?_
   replace h:=Ac h (.inl c6)
   refine Aa h fun r50 q10 h=>?_
   refine BC T.PK (PH t_r0 ht_r0 r25.2 r50 q10) ?_ ⟨⟨ht_r0,(by first|rfl|(simp only [hOf,hset,hpost,if_true,if_false,not_false_eq_true];first|done|rfl|(simp [*];done)|(simp_all;done)))⟩,trivial⟩
   refine Aa h fun r53 q11 h=>?_
   refine BC T.KJ (J5 t_r0 ht_r0 r50.2 r53 q11) ?_ ⟨⟨ht_r0,(by first|rfl|(simp only [hOf,hset,hpost,if_true,if_false,not_false_eq_true];first|done|rfl|(simp [*];done)|(simp_all;done)))⟩,trivial⟩
   refine Aa h fun r56 q12 h=>?_
   refine BC T.PT (QV t_r0 ht_r0 r53.2 r56 q12) ?_ ⟨⟨ht_r0,(by first|rfl|(simp only [hOf,hset,hpost,if_true,if_false,not_false_eq_true];first|done|rfl|(simp [*];done)|(simp_all;done)))⟩,trivial⟩
   cases h
  case' c6n=>skip
  refine br (fun c7=>?c7y) (fun c7=>?c7n)
  case' c7y=>
   refine brT ?_
   replace h:=Ac h (.inr (.inl c7))
   refine Aa h fun r50 q13 h=>?_
   refine BC T.PK (PH t_r0 ht_r0 r25.2 r50 q13) ?_ ⟨⟨ht_r0,(by first|rfl|(simp only [hOf,hset,hpost,if_true,if_false,not_false_eq_true];first|done|rfl|(simp [*];done)|(simp_all;done)))⟩,trivial⟩
   refine Aa h fun r53 q14 h=>?_
   refine BC T.KJ (J5 t_r0 ht_r0 r50.2 r53 q14) ?_ ⟨⟨ht_r0,(by first|rfl|(simp only [hOf,hset,hpost,if_true,if_false,not_false_eq_true];first|done|rfl|(simp [*];done)|(simp_all;done)))⟩,trivial⟩
   refine Aa h fun r56 q15 h=>?_
   refine BC T.PT (QV t_r0 ht_r0 r53.2 r56 q15) ?_ ⟨⟨ht_r0,(by first|rfl|(simp only [hOf,hset,hpost,if_true,if_false,not_false_eq_true];first|done|rfl|(simp [*];done)|(simp_all;done)))⟩,trivial⟩
   cases h
  case' c7n=>skip
  refine br (fun c8=>?c8y) (fun c8=>?c8n)
  case' c8y=>
   replace h:=Ac h (.inr (.inr c8))
   refine Aa h fun r50 q16 h=>?_
   refine BC T.PK (PH t_r0 ht_r0 r25.2 r50 q16) ?_ ⟨⟨ht_r0,(by first|rfl|(simp only [hOf,hset,hpost,if_true,if_false,not_false_eq_true];first|done|rfl|(simp [*];done)|(simp_all;done)))⟩,trivial⟩
   refine Aa h fun r53 q17 h=>?_
   refine BC T.KJ (J5 t_r0 ht_r0 r50.2 r53 q17) ?_ ⟨⟨ht_r0,(by first|rfl|(simp only [hOf,hset,hpost,if_true,if_false,not_false_eq_true];first|done|rfl|(simp [*];done)|(simp_all;done)))⟩,trivial⟩
   refine Aa h fun r56 q18 h=>?_
   refine BC T.PT (QV t_r0 ht_r0 r53.2 r56 q18) ?_ ⟨⟨ht_r0,(by first|rfl|(simp only [hOf,hset,hpost,if_true,if_false,not_false_eq_true];first|done|rfl|(simp [*];done)|(simp_all;done)))⟩,trivial⟩
   cases h
  case' c8n=>skip
  replace h:=Ad h (fun k=>k.elim c6 (fun k=>k.elim c7 c8))
  refine br (fun c9=>?c9y) (fun c9=>?c9n)
  case' c9y=>
   refine brT ?_
   replace h:=Ac h (.inl c9)
   refine Aa h fun r62 q19 h=>?_
   refine BC T.Ul (QY t_r0 ht_r0 r25.2 r62 q19) ?_ ⟨⟨ht_r0,(by first|rfl|(simp only [hOf,hset,hpost,if_true,if_false,not_false_eq_true];first|done|rfl|(simp [*];done)|(simp_all;done)))⟩,trivial⟩
   cases h
  case' c9n=>skip
  refine br (fun c10=>?c10y) (fun c10=>?c10n)
  case' c10y=>
   replace h:=Ac h (.inr c10)
   refine Aa h fun r62 q20 h=>?_
   refine BC T.Ul (QY t_r0 ht_r0 r25.2 r62 q20) ?_ ⟨⟨ht_r0,(by first|rfl|(simp only [hOf,hset,hpost,if_true,if_false,not_false_eq_true];first|done|rfl|(simp [*];done)|(simp_all;done)))⟩,trivial⟩
   cases h
  case' c10n=>skip
  replace h:=Ad h (fun k=>k.elim c9 c10)
  cases h
 all_goals (refine ⟨?_,⟨⟨ht_r0,(by first|rfl|(simp only [hOf,hset,hpost,if_true,if_false,not_false_eq_true];first|done|rfl|(simp [*];done)|(simp_all;done)))⟩,trivial⟩⟩;simp only [Bo,fits,C.asD,and_true]<;>(first|exact rfl|trivial|exact ⟨rfl,rfl⟩|exact ⟨rfl,rfl,rfl⟩|(simp [*];done)|(simp_all;done)|(simp only [Dy] at *;simp_all;first|done|rfl)))
set_option maxHeartbeats 16000000 in
theorem AvE (line:ByteArray)(tl11:Nat)(htl11:NAM≤tl11) (r:Au×Int)(h:BO line=some r):FO Tryz.prog 17 [.sc (.string line)] [(tl11,.free)] [.d (Jl r.1),.d (.sc (.int .i64 r.2))] []:=by
 refine T.fnH [11,13,14,21,25,27,40,43,50,55,58,61,67,70,75] Tryz.func17 ?_ (by simp only [List.forall_mem_cons,List.not_mem_nil,false_implies,implies_true,and_true];exact htl11) (by simp [thing]) (by simp [thing])
 unfold BO at h
 refine Ce h fun g1 h=>?_
 refine Ar T.Agq (AjU line g1) ?_
 refine Aut tl11 ?_ ⟨htl11,(by first|rfl|(simp only [hOf,hset,hpost,if_true,if_false,not_false_eq_true];first|done|rfl|(simp [*];done)|(simp_all;done)))⟩
 refine Aa h fun r13 q1 h=>?_
 refine BC T.LG (LV tl11 htl11 (⟨(splitB line 0),false⟩:Ba) r13 q1) ?_ ⟨⟨htl11,(by first|rfl|(simp only [hOf,hset,hpost,if_true,if_false,not_false_eq_true];first|done|rfl|(simp [*];done)|(simp_all;done)))⟩,trivial⟩
 refine OB (r:=JV BI) ?_ rfl rfl rfl rfl
 refine Aa h fun r16 q2 h=>?_
 refine Ar T.Uo (Uc BI r13.1 r16 q2) ?_
 refine br (fun c1=>?c1y) (fun c1=>?c1n)
 case' c1y=>
  replace h:=Ac h c1
  refine Aa h fun r21 q3 h=>?_
  refine BC T.Iy (IA tl11 htl11 r13.2 r21 q3) ?_ ⟨⟨htl11,(by first|rfl|(simp only [hOf,hset,hpost,if_true,if_false,not_false_eq_true];first|done|rfl|(simp [*];done)|(simp_all;done)))⟩,trivial⟩
  refine Aa h fun r25 q4 h=>?_
  refine BC T.AmA (AmL tl11 htl11 r21.2 r16 r25 q4) ?_ ⟨⟨htl11,(by first|rfl|(simp only [hOf,hset,hpost,if_true,if_false,not_false_eq_true];first|done|rfl|(simp [*];done)|(simp_all;done)))⟩,trivial⟩
  refine CG htl11 (by first|rfl|(simp only [hOf,hset,hpost,if_true,if_false,not_false_eq_true];first|done|rfl|(simp [*];done)|(simp_all;done))) ?_
  refine br (fun c2=>?c2y) (fun c2=>?c2n)
  case' c2y=>
   refine brT ?_
   replace h:=Ac h (.inl c2)
   cases h
  case' c2n=>skip
  refine CG htl11 (by first|rfl|(simp only [hOf,hset,hpost,if_true,if_false,not_false_eq_true];first|done|rfl|(simp [*];done)|(simp_all;done))) ?_
  refine Aw ?_
  refine br (fun c3=>?c3y) (fun c3=>?c3n)
  case' c3y=>
   replace h:=Ac h (.inr c3)
   cases h
  case' c3n=>skip
  replace h:=Ad h (fun k=>k.elim (nf c2) c3)
  cases h
 case' c1n=>
  replace h:=Ad h (fun k=>k c1)
  refine OB (r:=JV CW) ?_ rfl rfl rfl rfl
  refine Aa h fun r29 q5 h=>?_
  refine Ar T.Uo (Uc CW r13.1 r29 q5) ?_
  refine br (fun c4=>?c4y) (fun c4=>?c4n)
  case' c4y=>
   refine brT ?_
   replace h:=Ac h (.inl c4)
   refine Aa h fun r40 q6 h=>?_
   refine BC T.Iy (IA tl11 htl11 r13.2 r40 q6) ?_ ⟨⟨htl11,(by first|rfl|(simp only [hOf,hset,hpost,if_true,if_false,not_false_eq_true];first|done|rfl|(simp [*];done)|(simp_all;done)))⟩,trivial⟩
   refine Aa h fun r43 q7 h=>?_
   refine BC T.Iy (IA tl11 htl11 r40.2 r43 q7) ?_ ⟨⟨htl11,(by first|rfl|(simp only [hOf,hset,hpost,if_true,if_false,not_false_eq_true];first|done|rfl|(simp [*];done)|(simp_all;done)))⟩,trivial⟩
   refine CG htl11 (by first|rfl|(simp only [hOf,hset,hpost,if_true,if_false,not_false_eq_true];first|done|rfl|(simp [*];done)|(simp_all;done))) ?_
   refine br (fun c5=>?c5y) (fun c5=>?c5n)
   case' c5y=>
    refine brT ?_
    replace h:=Ac h (.inl c5)
    cases h
   case' c5n=>skip
   refine CG htl11 (by first|rfl|(simp only [hOf,hset,hpost,if_true,if_false,not_false_eq_true];first|done|rfl|(simp [*];done)|(simp_all;done))) ?_
   refine Aw ?_
   refine br (fun c6=>?c6y) (fun c6=>?c6n)
   case' c6y=>
    replace h:=Ac h (.inr c6)
    cases h
   case' c6n=>skip
   replace h:=Ad h (fun k=>k.elim (nf c5) c6)
   cases h
  case' c4n=>skip
  refine br (fun c7=>?c7y) (fun c7=>?c7n)
  case' c7y=>
   replace h:=Ac h (.inr c7)
   refine Aa h fun r40 q8 h=>?_
   refine BC T.Iy (IA tl11 htl11 r13.2 r40 q8) ?_ ⟨⟨htl11,(by first|rfl|(simp only [hOf,hset,hpost,if_true,if_false,not_false_eq_true];first|done|rfl|(simp [*];done)|(simp_all;done)))⟩,trivial⟩
   refine Aa h fun r43 q9 h=>?_
   refine BC T.Iy (IA tl11 htl11 r40.2 r43 q9) ?_ ⟨⟨htl11,(by first|rfl|(simp only [hOf,hset,hpost,if_true,if_false,not_false_eq_true];first|done|rfl|(simp [*];done)|(simp_all;done)))⟩,trivial⟩
   refine CG htl11 (by first|rfl|(simp only [hOf,hset,hpost,if_true,if_false,not_false_eq_true];first|done|rfl|(simp [*];done)|(simp_all;done))) ?_
   refine br (fun c8=>?c8y) (fun c8=>?c8n)
   case' c8y=>
    refine brT ?_
    replace h:=Ac h (.inl c8)
    cases h
   case' c8n=>skip
   refine CG htl11 (by first|rfl|(simp only [hOf,hset,hpost,if_true,if_false,not_false_eq_true];first|done|rfl|(simp [*];done)|(simp_all;done))) ?_
   refine Aw ?_
   refine br (fun c9=>?c9y) (fun c9=>?c9n)
   case' c9y=>
    replace h:=Ac h (.inr c9)
    cases h
   case' c9n=>skip
   replace h:=Ad h (fun k=>k.elim (nf c8) c9)
   cases h
  case' c7n=>skip
  replace h:=Ad h (fun k=>k.elim c4 c7)
  refine br (fun c10=>?c10y) (fun c10=>?c10n)
  case' c10y=>
   refine brT ?_
   replace h:=Ac h (.inl c10)
   refine Aa h fun r50 q10 h=>?_
   refine BC T.Iy (IA tl11 htl11 r13.2 r50 q10) ?_ ⟨⟨htl11,(by first|rfl|(simp only [hOf,hset,hpost,if_true,if_false,not_false_eq_true];first|done|rfl|(simp [*];done)|(simp_all;done)))⟩,trivial⟩
   refine CG htl11 (by first|rfl|(simp only [hOf,hset,hpost,if_true,if_false,not_false_eq_true];first|done|rfl|(simp [*];done)|(simp_all;done))) ?_
   refine br (fun c11=>?c11y) (fun c11=>?c11n)
   case' c11y=>
    refine brT ?_
    replace h:=Ac h (.inl c11)
    cases h
   case' c11n=>skip
   refine CG htl11 (by first|rfl|(simp only [hOf,hset,hpost,if_true,if_false,not_false_eq_true];first|done|rfl|(simp [*];done)|(simp_all;done))) ?_
   refine Aw ?_
   refine br (fun c12=>?c12y) (fun c12=>?c12n)
   case' c12y=>
    replace h:=Ac h (.inr c12)
    cases h
   case' c12n=>skip
   replace h:=Ad h (fun k=>k.elim (nf c11) c12)
   cases h
  case' c10n=>skip
  refine br (fun c13=>?c13y) (fun c13=>?c13n)
  case' c13y=>
   refine brT ?_
   replace h:=Ac h (.inr (.inl c13))
   refine Aa h fun r50 q11 h=>?_
   refine BC T.Iy (IA tl11 htl11 r13.2 r50 q11) ?_ ⟨⟨htl11,(by first|rfl|(simp only [hOf,hset,hpost,if_true,if_false,not_false_eq_true];first|done|rfl|(simp [*];done)|(simp_all;done)))⟩,trivial⟩
   refine CG htl11 (by first|rfl|(simp only [hOf,hset,hpost,if_true,if_false,not_false_eq_true];first|done|rfl|(simp [*];done)|(simp_all;done))) ?_
   refine br (fun c14=>?c14y) (fun c14=>?c14n)
   case' c14y=>
    refine brT ?_
    replace h:=Ac h (.inl c14)
    cases h
   case' c14n=>skip
   refine CG htl11 (by first|rfl|(simp only [hOf,hset,hpost,if_true,if_false,not_false_eq_true];first|done|rfl|(simp [*];done)|(simp_all;done))) ?_
   refine Aw ?_
   refine br (fun c15=>?c15y) (fun c15=>?c15n)
   case' c15y=>
    replace h:=Ac h (.inr c15)
    cases h
   case' c15n=>skip
   replace h:=Ad h (fun k=>k.elim (nf c14) c15)
   cases h
  case' c13n=>skip
  refine br (fun c16=>?c16y) (fun c16=>?c16n)
  case' c16y=>
   replace h:=Ac h (.inr (.inr c16))
   refine Aa h fun r50 q12 h=>?_
   refine BC T.Iy (IA tl11 htl11 r13.2 r50 q12) ?_ ⟨⟨htl11,(by first|rfl|(simp only [hOf,hset,hpost,if_true,if_false,not_false_eq_true];first|done|rfl|(simp [*];done)|(simp_all;done)))⟩,trivial⟩
   refine CG htl11 (by first|rfl|(simp only [hOf,hset,hpost,if_true,if_false,not_false_eq_true];first|done|rfl|(simp [*];done)|(simp_all;done))) ?_
   refine br (fun c17=>?c17y) (fun c17=>?c17n)
   case' c17y=>
    refine brT ?_
    replace h:=Ac h (.inl c17)
    cases h
   case' c17n=>skip
   refine CG htl11 (by first|rfl|(simp only [hOf,hset,hpost,if_true,if_false,not_false_eq_true];first|done|rfl|(simp [*];done)|(simp_all;done))) ?_
   refine Aw ?_
   refine br (fun c18=>?c18y) (fun c18=>?c18n)
   case' c18y=>
    replace h:=Ac h (.inr c18)
    cases h
   case' c18n=>skip
   replace h:=Ad h (fun k=>k.elim (nf c17) c18)
   cases h
  case' c16n=>skip
  replace h:=Ad h (fun k=>k.elim c10 (fun k=>k.elim c13 c16))
  refine br (fun c19=>?c19y) (fun c19=>?c19n)
  case' c19y=>
   replace h:=Ac h c19
   refine Aa h fun r55 q13 h=>?_
   refine BC T.Ob (Nv tl11 htl11 r13.2 r55 q13) ?_ ⟨⟨htl11,(by first|rfl|(simp only [hOf,hset,hpost,if_true,if_false,not_false_eq_true];first|done|rfl|(simp [*];done)|(simp_all;done)))⟩,trivial⟩
   refine Aa h fun r58 q14 h=>?_
   refine BC T.Ob (Nv tl11 htl11 r55.2 r58 q14) ?_ ⟨⟨htl11,(by first|rfl|(simp only [hOf,hset,hpost,if_true,if_false,not_false_eq_true];first|done|rfl|(simp [*];done)|(simp_all;done)))⟩,trivial⟩
   refine Aa h fun r61 q15 h=>?_
   refine BC T.Ob (Nv tl11 htl11 r58.2 r61 q15) ?_ ⟨⟨htl11,(by first|rfl|(simp only [hOf,hset,hpost,if_true,if_false,not_false_eq_true];first|done|rfl|(simp [*];done)|(simp_all;done)))⟩,trivial⟩
   refine CG htl11 (by first|rfl|(simp only [hOf,hset,hpost,if_true,if_false,not_false_eq_true];first|done|rfl|(simp [*];done)|(simp_all;done))) ?_
   refine br (fun c20=>?c20y) (fun c20=>?c20n)
   case' c20y=>
    refine brT ?_
    replace h:=Ac h (.inl c20)
    cases h
   case' c20n=>skip
   refine CG htl11 (by first|rfl|(simp only [hOf,hset,hpost,if_true,if_false,not_false_eq_true];first|done|rfl|(simp [*];done)|(simp_all;done))) ?_
   refine Aw ?_
   refine br (fun c21=>?c21y) (fun c21=>?c21n)
   case' c21y=>
    replace h:=Ac h (.inr c21)
    cases h
   case' c21n=>skip
   replace h:=Ad h (fun k=>k.elim (nf c20) c21)
   cases h
  case' c19n=>skip
  replace h:=Ad h c19
  refine br (fun c22=>?c22y) (fun c22=>?c22n)
  case' c22y=>
   refine brT ?_
   replace h:=Ac h (.inl c22)
   refine Aa h fun r67 q16 h=>?_
   refine BC T.Iy (IA tl11 htl11 r13.2 r67 q16) ?_ ⟨⟨htl11,(by first|rfl|(simp only [hOf,hset,hpost,if_true,if_false,not_false_eq_true];first|done|rfl|(simp [*];done)|(simp_all;done)))⟩,trivial⟩
   refine Aa h fun r70 q17 h=>?_
   refine BC T.Iy (IA tl11 htl11 r67.2 r70 q17) ?_ ⟨⟨htl11,(by first|rfl|(simp only [hOf,hset,hpost,if_true,if_false,not_false_eq_true];first|done|rfl|(simp [*];done)|(simp_all;done)))⟩,trivial⟩
   refine CG htl11 (by first|rfl|(simp only [hOf,hset,hpost,if_true,if_false,not_false_eq_true];first|done|rfl|(simp [*];done)|(simp_all;done))) ?_
   refine br (fun c23=>?c23y) (fun c23=>?c23n)
   case' c23y=>
    refine brT ?_
    replace h:=Ac h (.inl c23)
    cases h
   case' c23n=>skip
   refine CG htl11 (by first|rfl|(simp only [hOf,hset,hpost,if_true,if_false,not_false_eq_true];first|done|rfl|(simp [*];done)|(simp_all;done))) ?_
   refine Aw ?_
   refine br (fun c24=>?c24y) (fun c24=>?c24n)
   case' c24y=>
    replace h:=Ac h (.inr c24)
    cases h
   case' c24n=>skip
   replace h:=Ad h (fun k=>k.elim (nf c23) c24)
   cases h
  case' c22n=>skip
  refine br (fun c25=>?c25y) (fun c25=>?c25n)
  case' c25y=>
   replace h:=Ac h (.inr c25)
   refine Aa h fun r67 q18 h=>?_
   refine BC T.Iy (IA tl11 htl11 r13.2 r67 q18) ?_ ⟨⟨htl11,(by first|rfl|(simp only [hOf,hset,hpost,if_true,if_false,not_false_eq_true];first|done|rfl|(simp [*];done)|(simp_all;done)))⟩,trivial⟩
   refine Aa h fun r70 q19 h=>?_
   refine BC T.Iy (IA tl11 htl11 r67.2 r70 q19) ?_ ⟨⟨htl11,(by first|rfl|(simp only [hOf,hset,hpost,if_true,if_false,not_false_eq_true];first|done|rfl|(simp [*];done)|(simp_all;done)))⟩,trivial⟩
   refine CG htl11 (by first|rfl|(simp only [hOf,hset,hpost,if_true,if_false,not_false_eq_true];first|done|rfl|(simp [*];done)|(simp_all;done))) ?_
   refine br (fun c26=>?c26y) (fun c26=>?c26n)
   case' c26y=>
    refine brT ?_
    replace h:=Ac h (.inl c26)
    cases h
   case' c26n=>skip
   refine CG htl11 (by first|rfl|(simp only [hOf,hset,hpost,if_true,if_false,not_false_eq_true];first|done|rfl|(simp [*];done)|(simp_all;done))) ?_
   refine Aw ?_
   refine br (fun c27=>?c27y) (fun c27=>?c27n)
   case' c27y=>
    replace h:=Ac h (.inr c27)
    cases h
   case' c27n=>skip
   replace h:=Ad h (fun k=>k.elim (nf c26) c27)
   cases h
  case' c25n=>skip
  replace h:=Ad h (fun k=>k.elim c22 c25)
  refine br (fun c28=>?c28y) (fun c28=>?c28n)
  case' c28y=>
   replace h:=Ac h c28
   refine Aa h fun r75 q20 h=>?_
   refine BC T.Iy (IA tl11 htl11 r13.2 r75 q20) ?_ ⟨⟨htl11,(by first|rfl|(simp only [hOf,hset,hpost,if_true,if_false,not_false_eq_true];first|done|rfl|(simp [*];done)|(simp_all;done)))⟩,trivial⟩
   refine CG htl11 (by first|rfl|(simp only [hOf,hset,hpost,if_true,if_false,not_false_eq_true];first|done|rfl|(simp [*];done)|(simp_all;done))) ?_
   refine br (fun c29=>?c29y) (fun c29=>?c29n)
   case' c29y=>
    refine brT ?_
    replace h:=Ac h (.inl c29)
    cases h
   case' c29n=>skip
   refine CG htl11 (by first|rfl|(simp only [hOf,hset,hpost,if_true,if_false,not_false_eq_true];first|done|rfl|(simp [*];done)|(simp_all;done))) ?_
   refine Aw ?_
   refine br (fun c30=>?c30y) (fun c30=>?c30n)
   case' c30y=>
    replace h:=Ac h (.inr c30)
    cases h
   case' c30n=>skip
   replace h:=Ad h (fun k=>k.elim (nf c29) c30)
   cases h
  case' c28n=>skip
  replace h:=Ad h c28
  refine CG htl11 (by first|rfl|(simp only [hOf,hset,hpost,if_true,if_false,not_false_eq_true];first|done|rfl|(simp [*];done)|(simp_all;done))) ?_
  refine CG htl11 (by first|rfl|(simp only [hOf,hset,hpost,if_true,if_false,not_false_eq_true];first|done|rfl|(simp [*];done)|(simp_all;done))) ?_
  refine brT ?_
  refine brT ?_
  cases h
 all_goals (refine ⟨?_,trivial⟩;simp only [Bo,fits,C.asD,and_true]<;>(first|exact rfl|trivial|exact ⟨rfl,rfl⟩|exact ⟨rfl,rfl,rfl⟩|(simp [*];done)|(simp_all;done)|(simp only [Dy] at *;simp_all;first|done|rfl)))
theorem Aar (line:ByteArray)(r:Au×Int)(h:BO line=some r):AP Tryz.prog 17 [.sc (.string line)] [.d (Jl r.1),.d (.sc (.int .i64 r.2))]:=by
 refine Alf ?_
 refine AgP fun tl11 htl11 hn0=>?_
 exact AvE line tl11 htl11 r h
end Go.Vm
end
section
namespace Go.Vm
open Go.RowKit Go.Proofs
set_option maxRecDepth 10000
open Go.Proofs Go.Proofs.YtdfbohaohjaloaaGreatDoor Punnet.Name Punnet.Num
set_option maxHeartbeats 16000000 in
theorem Vp : AP Tryz.prog 35 [] [.d (.row (List.map Q3 (CX )))]:=by
 generalize h:CX = r
 refine T.fn [] Tryz.func35 ?_
 unfold CX at h
 subst h
 all_goals (refine CJ ?_;simp only [Bo,fits,C.asD,and_true]<;>(first|exact rfl|trivial|exact ⟨rfl,rfl⟩|exact ⟨rfl,rfl,rfl⟩|(simp [*];done)|(simp_all;done)|(simp only [Dy] at *;simp_all;first|done|rfl)))
set_option maxHeartbeats 16000000 in
theorem AcQ : AP Tryz.prog 37 [] [.d (.row (List.map Q3 (En )))]:=by
 generalize h:En = r
 refine T.fn [] Tryz.func37 ?_
 unfold En at h
 subst h
 all_goals (refine CJ ?_;simp only [Bo,fits,C.asD,and_true]<;>(first|exact rfl|trivial|exact ⟨rfl,rfl⟩|exact ⟨rfl,rfl,rfl⟩|(simp [*];done)|(simp_all;done)|(simp only [Dy] at *;simp_all;first|done|rfl)))
set_option maxHeartbeats 16000000 in
theorem AbG : AP Tryz.prog 137 [] [.d (.row (List.map Q3 (EG )))]:=by
 generalize h:EG = r
 refine T.fn [] Tryz.func137 ?_
 unfold EG at h
 subst h
 all_goals (refine CJ ?_;simp only [Bo,fits,C.asD,and_true]<;>(first|exact rfl|trivial|exact ⟨rfl,rfl⟩|exact ⟨rfl,rfl,rfl⟩|(simp [*];done)|(simp_all;done)|(simp only [Dy] at *;simp_all;first|done|rfl)))
set_option maxHeartbeats 16000000 in
theorem SI (l:(List ByteArray))(form:ByteArray) (r:BR×Bool)(h:NL l form=some r):AP Tryz.prog 38 [.row (List.map strD l),.sc (.string form)] [.d (ArV r.1),.d (.sc (.bool r.2))]:=by
 refine T.fn [2006,2018,2024,2049,2054,2069,2074,2088,2093,2107,2112,2136,2141,2143] Tryz.func38 ?_
 unfold NL at h
 refine Afv [(0,600120,1),(1,600121,2),(3,600122,3),(4,600123,1),(2,600124,1)] (T.ok 87 _ rfl) (by simp only [List.forall_mem_cons,List.not_mem_nil,false_implies,implies_true,and_true];exact ⟨⟨rfl,by decide,by decide⟩,⟨rfl,by decide,by decide⟩,⟨rfl,by decide,by decide⟩,⟨rfl,by decide,by decide⟩,⟨rfl,by decide,by decide⟩⟩) (by simp only [List.forall_mem_cons,List.not_mem_nil,false_implies,implies_true,and_true];decide) ?_
 refine Ame [] (U3 (T.ok 87 _ rfl) rfl) (by simp) (by simp) ?_
 refine Aw ?_
 refine Aw ?_
 refine br (fun c1=>?c1y) (fun c1=>?c1n)
 case' c1y=>
  replace h:=Ac h c1
  refine CY (tv:=6) (id:=600120) (cs':=[.row (List.map intD []),.rr 600121 2 0,.rr 600124 1 0,.rr 600122 3 0,.rr 600123 1 0]) rfl rfl (by simp [BH]) ?_
  refine CY (tv:=6) (id:=600121) (cs':=[.row (List.map intD []),.row (List.map tD []),.rr 600124 1 0,.rr 600122 3 0,.rr 600123 1 0]) rfl rfl (by simp [BH]) ?_
  refine CY (tv:=6) (id:=600124) (cs':=[.row (List.map intD []),.row (List.map tD []),.row (List.map strD []),.rr 600122 3 0,.rr 600123 1 0]) rfl rfl (by simp [BH]) ?_
  refine CY (tv:=6) (id:=600122) (cs':=[.row (List.map intD []),.row (List.map tD []),.row (List.map strD []),.row (List.map rD []),.rr 600123 1 0]) rfl rfl (by simp [BH]) ?_
  refine Kt (tv:=6) (id:=600123) (cs':=[.row (List.map intD []),.row (List.map tD []),.row (List.map strD []),.row (List.map rD []),.row (List.map strD [])]) rfl rfl (by simp [BH]) rfl ?_
  refine JW (u:=6) rfl rfl (Hy (T.ok 87 _ rfl)) rfl ?_
  cases h
 case' c1n=>
  replace h:=Ad h (fun k=>k c1)
  refine Aa h fun o1 H1 h=>?_
  refine Ep (fb:=[2006,2018,2024,2049,2054,2069,2074,2088,2093,2107,2112,2136,2141,2143]) T.ok (Nat.le_of_ble_eq_true rfl) [0,1] (fun (s:Nat×BR×BR×Int)=>[(4,.box [.row (List.map intD s.2.1.n),.row (List.map tD s.2.1.t),.row (List.map strD s.2.1.s),.row (List.map rD s.2.1.p),.row (List.map strD s.2.1.q)]),(6,.ubox [.rr 600120 1 s.2.2.1.n.length,.rr 600121 2 s.2.2.1.t.length,.rr 600124 1 s.2.2.1.s.length,.rr 600122 3 s.2.2.1.p.length,.rr 600123 1 s.2.2.1.q.length]),(600120,.gbox 1 (List.map intD s.2.2.1.n)),(600121,.gbox 2 (List.map tD s.2.2.1.t)),(600124,.gbox 1 (List.map strD s.2.2.1.s)),(600122,.gbox 3 (List.map rD s.2.2.1.p)),(600123,.gbox 1 (List.map strD s.2.2.1.q)),(7,.c (.d (.sc (.int .i64 s.2.2.2))))]) (fun s=>Ir l form s.1 s.2.1 s.2.2.1 s.2.2.2=some o1) (fun s=>s.1) (1000000,(⟨[],[],[],[],[]⟩:BR),(⟨[],[],[],[],[]⟩:BR),0) H1 (Am rfl (Am rfl (Am rfl (Am rfl (Am rfl (Am rfl (Am rfl (Am rfl trivial)))))))) ?_
  rintro ⟨nl1,v4l1,v6l1,v7l1⟩ h1
  try dsimp only at h1
  rcases nl1 with _|nl1
  ·rw [Ir] at h1;cases h1
  rw [Ir] at h1
  refine Aw ?_
  refine br (fun c2=>?c2y) (fun c2=>?c2n)
  case' c2y=>
   replace h1:=Ac h1 c2
   refine Aa h1 fun p33 q1 h1=>ZC q1 fun q1n q1=>?_
   refine Fh q1 ?_ q1n
   refine br (fun c3=>?c3y) (fun c3=>?c3n)
   case' c3y=>
    refine brT ?_
    replace h1:=Ac h1 (.inl c3)
    refine Aa h1 fun p62 q2 h1=>Ak q2 fun q2n q2=>?_
    refine Ah (Ag q2) ?_ q2n
    refine Ce h1 fun g1 h1=>?_
    refine Ar T.RU (Pn p62 g1) ?_
    refine br (fun c4=>?c4y) (fun c4=>?c4n)
    case' c4y=>
     replace h1:=Ac h1 c4
     refine CY (tv:=6) (id:=600120) (cs':=[.row (List.map intD v6l1.n),.rr 600121 2 v6l1.t.length,.rr 600124 1 v6l1.s.length,.rr 600122 3 v6l1.p.length,.rr 600123 1 v6l1.q.length]) rfl rfl (by simp [BH]) ?_
     refine CY (tv:=6) (id:=600121) (cs':=[.row (List.map intD v6l1.n),.row (List.map tD v6l1.t),.rr 600124 1 v6l1.s.length,.rr 600122 3 v6l1.p.length,.rr 600123 1 v6l1.q.length]) rfl rfl (by simp [BH]) ?_
     refine CY (tv:=6) (id:=600124) (cs':=[.row (List.map intD v6l1.n),.row (List.map tD v6l1.t),.row (List.map strD v6l1.s),.rr 600122 3 v6l1.p.length,.rr 600123 1 v6l1.q.length]) rfl rfl (by simp [BH]) ?_
     refine CY (tv:=6) (id:=600122) (cs':=[.row (List.map intD v6l1.n),.row (List.map tD v6l1.t),.row (List.map strD v6l1.s),.row (List.map rD v6l1.p),.rr 600123 1 v6l1.q.length]) rfl rfl (by simp [BH]) ?_
     refine Kt (tv:=6) (id:=600123) (cs':=[.row (List.map intD v6l1.n),.row (List.map tD v6l1.t),.row (List.map strD v6l1.s),.row (List.map rD v6l1.p),.row (List.map strD v6l1.q)]) rfl rfl (by simp [BH]) rfl ?_
     refine JW (u:=6) rfl rfl (Hy (T.ok 87 _ rfl)) rfl ?_
     cases h1
     try dsimp only at h
     cases h
    case' c4n=>skip
    replace h1:=Ad h1 (fun k=>k c4)
    refine Aa h1 fun z74 q3 h1=>?_
    refine L9 (f:=intD) (id:=600120) q3 (T.ok 83 _ rfl).2.1 (Nat.le_of_ble_eq_true rfl) rfl rfl rfl (CB _ fun _=>rfl) ?_
    refine KI ?_
    refine BV ((nl1,v4l1,(⟨z74,v6l1.t,v6l1.s,v6l1.p,v6l1.q⟩:BR),(w64 (v7l1+1)))) h1 (by (try dsimp only);omega) rfl (Am rfl (Am rfl (Am rfl (Am rfl (Am rfl (Am rfl (Am rfl (Am rfl trivial)))))))) rfl
   case' c3n=>skip
   refine br (fun c5=>?c5y) (fun c5=>?c5n)
   case' c5y=>
    replace h1:=Ac h1 (.inr c5)
    refine Aa h1 fun p62 q4 h1=>Ak q4 fun q4n q4=>?_
    refine Ah (Ag q4) ?_ q4n
    refine Ce h1 fun g2 h1=>?_
    refine Ar T.RU (Pn p62 g2) ?_
    refine br (fun c6=>?c6y) (fun c6=>?c6n)
    case' c6y=>
     replace h1:=Ac h1 c6
     refine CY (tv:=6) (id:=600120) (cs':=[.row (List.map intD v6l1.n),.rr 600121 2 v6l1.t.length,.rr 600124 1 v6l1.s.length,.rr 600122 3 v6l1.p.length,.rr 600123 1 v6l1.q.length]) rfl rfl (by simp [BH]) ?_
     refine CY (tv:=6) (id:=600121) (cs':=[.row (List.map intD v6l1.n),.row (List.map tD v6l1.t),.rr 600124 1 v6l1.s.length,.rr 600122 3 v6l1.p.length,.rr 600123 1 v6l1.q.length]) rfl rfl (by simp [BH]) ?_
     refine CY (tv:=6) (id:=600124) (cs':=[.row (List.map intD v6l1.n),.row (List.map tD v6l1.t),.row (List.map strD v6l1.s),.rr 600122 3 v6l1.p.length,.rr 600123 1 v6l1.q.length]) rfl rfl (by simp [BH]) ?_
     refine CY (tv:=6) (id:=600122) (cs':=[.row (List.map intD v6l1.n),.row (List.map tD v6l1.t),.row (List.map strD v6l1.s),.row (List.map rD v6l1.p),.rr 600123 1 v6l1.q.length]) rfl rfl (by simp [BH]) ?_
     refine Kt (tv:=6) (id:=600123) (cs':=[.row (List.map intD v6l1.n),.row (List.map tD v6l1.t),.row (List.map strD v6l1.s),.row (List.map rD v6l1.p),.row (List.map strD v6l1.q)]) rfl rfl (by simp [BH]) rfl ?_
     refine JW (u:=6) rfl rfl (Hy (T.ok 87 _ rfl)) rfl ?_
     cases h1
     try dsimp only at h
     cases h
    case' c6n=>skip
    replace h1:=Ad h1 (fun k=>k c6)
    refine Aa h1 fun z74 q5 h1=>?_
    refine L9 (f:=intD) (id:=600120) q5 (T.ok 83 _ rfl).2.1 (Nat.le_of_ble_eq_true rfl) rfl rfl rfl (CB _ fun _=>rfl) ?_
    refine KI ?_
    refine BV ((nl1,v4l1,(⟨z74,v6l1.t,v6l1.s,v6l1.p,v6l1.q⟩:BR),(w64 (v7l1+1)))) h1 (by (try dsimp only);omega) rfl (Am rfl (Am rfl (Am rfl (Am rfl (Am rfl (Am rfl (Am rfl (Am rfl trivial)))))))) rfl
   case' c5n=>skip
   replace h1:=Ad h1 (fun k=>k.elim c3 c5)
   refine br (fun c7=>?c7y) (fun c7=>?c7n)
   case' c7y=>
    replace h1:=Ac h1 c7
    refine Aa h1 fun p81 q6 h1=>Ak q6 fun q6n q6=>?_
    refine Ah (Ag q6) ?_ q6n
    refine Ce h1 fun g3 h1=>?_
    refine Ar T.AmP (AqA p81 g3) ?_
    refine br (fun c8=>?c8y) (fun c8=>?c8n)
    case' c8y=>
     replace h1:=Ac h1 (nf c8)
     refine CY (tv:=6) (id:=600120) (cs':=[.row (List.map intD v6l1.n),.rr 600121 2 v6l1.t.length,.rr 600124 1 v6l1.s.length,.rr 600122 3 v6l1.p.length,.rr 600123 1 v6l1.q.length]) rfl rfl (by simp [BH]) ?_
     refine CY (tv:=6) (id:=600121) (cs':=[.row (List.map intD v6l1.n),.row (List.map tD v6l1.t),.rr 600124 1 v6l1.s.length,.rr 600122 3 v6l1.p.length,.rr 600123 1 v6l1.q.length]) rfl rfl (by simp [BH]) ?_
     refine CY (tv:=6) (id:=600124) (cs':=[.row (List.map intD v6l1.n),.row (List.map tD v6l1.t),.row (List.map strD v6l1.s),.rr 600122 3 v6l1.p.length,.rr 600123 1 v6l1.q.length]) rfl rfl (by simp [BH]) ?_
     refine CY (tv:=6) (id:=600122) (cs':=[.row (List.map intD v6l1.n),.row (List.map tD v6l1.t),.row (List.map strD v6l1.s),.row (List.map rD v6l1.p),.rr 600123 1 v6l1.q.length]) rfl rfl (by simp [BH]) ?_
     refine Kt (tv:=6) (id:=600123) (cs':=[.row (List.map intD v6l1.n),.row (List.map tD v6l1.t),.row (List.map strD v6l1.s),.row (List.map rD v6l1.p),.row (List.map strD v6l1.q)]) rfl rfl (by simp [BH]) rfl ?_
     refine JW (u:=6) rfl rfl (Hy (T.ok 87 _ rfl)) rfl ?_
     cases h1
     try dsimp only at h
     cases h
    case' c8n=>skip
    replace h1:=Ad h1 (fun k=>k c8)
    refine Aa h1 fun z93 q7 h1=>?_
    refine L9 (f:=tD) (id:=600121) q7 (T.ok 84 _ rfl).2.1 (Nat.le_of_ble_eq_true rfl) rfl rfl rfl (CB _ fun _=>rfl) ?_
    refine KI ?_
    refine BV ((nl1,v4l1,(⟨v6l1.n,z93,v6l1.s,v6l1.p,v6l1.q⟩:BR),(w64 (v7l1+1)))) h1 (by (try dsimp only);omega) rfl (Am rfl (Am rfl (Am rfl (Am rfl (Am rfl (Am rfl (Am rfl (Am rfl trivial)))))))) rfl
   case' c7n=>skip
   replace h1:=Ad h1 c7
   refine br (fun c9=>?c9y) (fun c9=>?c9n)
   case' c9y=>
    replace h1:=Ac h1 c9
    refine Aa h1 fun p100 q8 h1=>Ak q8 fun q8n q8=>?_
    refine Ah (Ag q8) ?_ q8n
    refine Ce h1 fun g4 h1=>?_
    refine Ar T.Ah7 (AvJ p100 g4) ?_
    refine br (fun c10=>?c10y) (fun c10=>?c10n)
    case' c10y=>
     replace h1:=Ac h1 (nf c10)
     refine CY (tv:=6) (id:=600120) (cs':=[.row (List.map intD v6l1.n),.rr 600121 2 v6l1.t.length,.rr 600124 1 v6l1.s.length,.rr 600122 3 v6l1.p.length,.rr 600123 1 v6l1.q.length]) rfl rfl (by simp [BH]) ?_
     refine CY (tv:=6) (id:=600121) (cs':=[.row (List.map intD v6l1.n),.row (List.map tD v6l1.t),.rr 600124 1 v6l1.s.length,.rr 600122 3 v6l1.p.length,.rr 600123 1 v6l1.q.length]) rfl rfl (by simp [BH]) ?_
     refine CY (tv:=6) (id:=600124) (cs':=[.row (List.map intD v6l1.n),.row (List.map tD v6l1.t),.row (List.map strD v6l1.s),.rr 600122 3 v6l1.p.length,.rr 600123 1 v6l1.q.length]) rfl rfl (by simp [BH]) ?_
     refine CY (tv:=6) (id:=600122) (cs':=[.row (List.map intD v6l1.n),.row (List.map tD v6l1.t),.row (List.map strD v6l1.s),.row (List.map rD v6l1.p),.rr 600123 1 v6l1.q.length]) rfl rfl (by simp [BH]) ?_
     refine Kt (tv:=6) (id:=600123) (cs':=[.row (List.map intD v6l1.n),.row (List.map tD v6l1.t),.row (List.map strD v6l1.s),.row (List.map rD v6l1.p),.row (List.map strD v6l1.q)]) rfl rfl (by simp [BH]) rfl ?_
     refine JW (u:=6) rfl rfl (Hy (T.ok 87 _ rfl)) rfl ?_
     cases h1
     try dsimp only at h
     cases h
    case' c10n=>skip
    replace h1:=Ad h1 (fun k=>k c10)
    refine Aa h1 fun z112 q9 h1=>?_
    refine L9 (f:=rD) (id:=600122) q9 (T.ok 85 _ rfl).2.1 (Nat.le_of_ble_eq_true rfl) rfl rfl rfl (CB _ fun _=>rfl) ?_
    refine KI ?_
    refine BV ((nl1,v4l1,(⟨v6l1.n,v6l1.t,v6l1.s,z112,v6l1.q⟩:BR),(w64 (v7l1+1)))) h1 (by (try dsimp only);omega) rfl (Am rfl (Am rfl (Am rfl (Am rfl (Am rfl (Am rfl (Am rfl (Am rfl trivial)))))))) rfl
   case' c9n=>skip
   replace h1:=Ad h1 c9
   refine br (fun c11=>?c11y) (fun c11=>?c11n)
   case' c11y=>
    replace h1:=Ac h1 c11
    refine Aa h1 fun p119 q10 h1=>Ak q10 fun q10n q10=>?_
    refine Ah (Ag q10) ?_ q10n
    refine Ce h1 fun g5 h1=>?_
    refine Ar T.ArN (AsG p119 g5) ?_
    refine br (fun c12=>?c12y) (fun c12=>?c12n)
    case' c12y=>
     replace h1:=Ac h1 c12
     refine brT ?_
     refine CY (tv:=6) (id:=600120) (cs':=[.row (List.map intD v6l1.n),.rr 600121 2 v6l1.t.length,.rr 600124 1 v6l1.s.length,.rr 600122 3 v6l1.p.length,.rr 600123 1 v6l1.q.length]) rfl rfl (by simp [BH]) ?_
     refine CY (tv:=6) (id:=600121) (cs':=[.row (List.map intD v6l1.n),.row (List.map tD v6l1.t),.rr 600124 1 v6l1.s.length,.rr 600122 3 v6l1.p.length,.rr 600123 1 v6l1.q.length]) rfl rfl (by simp [BH]) ?_
     refine CY (tv:=6) (id:=600124) (cs':=[.row (List.map intD v6l1.n),.row (List.map tD v6l1.t),.row (List.map strD v6l1.s),.rr 600122 3 v6l1.p.length,.rr 600123 1 v6l1.q.length]) rfl rfl (by simp [BH]) ?_
     refine CY (tv:=6) (id:=600122) (cs':=[.row (List.map intD v6l1.n),.row (List.map tD v6l1.t),.row (List.map strD v6l1.s),.row (List.map rD v6l1.p),.rr 600123 1 v6l1.q.length]) rfl rfl (by simp [BH]) ?_
     refine Kt (tv:=6) (id:=600123) (cs':=[.row (List.map intD v6l1.n),.row (List.map tD v6l1.t),.row (List.map strD v6l1.s),.row (List.map rD v6l1.p),.row (List.map strD v6l1.q)]) rfl rfl (by simp [BH]) rfl ?_
     refine JW (u:=6) rfl rfl (Hy (T.ok 87 _ rfl)) rfl ?_
     cases h1
     try dsimp only at h
     cases h
    case' c12n=>skip
    replace h1:=Ad h1 (fun k=>k c12)
    refine Aa h1 fun p131 q11 h1=>Ak q11 fun q11n q11=>?_
    refine Ah (Ag q11) ?_ q11n
    refine Aw ?_
    refine br (fun c13=>?c13y) (fun c13=>?c13n)
    case' c13y=>
     replace h1:=Ac h1 c13
     refine CY (tv:=6) (id:=600120) (cs':=[.row (List.map intD v6l1.n),.rr 600121 2 v6l1.t.length,.rr 600124 1 v6l1.s.length,.rr 600122 3 v6l1.p.length,.rr 600123 1 v6l1.q.length]) rfl rfl (by simp [BH]) ?_
     refine CY (tv:=6) (id:=600121) (cs':=[.row (List.map intD v6l1.n),.row (List.map tD v6l1.t),.rr 600124 1 v6l1.s.length,.rr 600122 3 v6l1.p.length,.rr 600123 1 v6l1.q.length]) rfl rfl (by simp [BH]) ?_
     refine CY (tv:=6) (id:=600124) (cs':=[.row (List.map intD v6l1.n),.row (List.map tD v6l1.t),.row (List.map strD v6l1.s),.rr 600122 3 v6l1.p.length,.rr 600123 1 v6l1.q.length]) rfl rfl (by simp [BH]) ?_
     refine CY (tv:=6) (id:=600122) (cs':=[.row (List.map intD v6l1.n),.row (List.map tD v6l1.t),.row (List.map strD v6l1.s),.row (List.map rD v6l1.p),.rr 600123 1 v6l1.q.length]) rfl rfl (by simp [BH]) ?_
     refine Kt (tv:=6) (id:=600123) (cs':=[.row (List.map intD v6l1.n),.row (List.map tD v6l1.t),.row (List.map strD v6l1.s),.row (List.map rD v6l1.p),.row (List.map strD v6l1.q)]) rfl rfl (by simp [BH]) rfl ?_
     refine JW (u:=6) rfl rfl (Hy (T.ok 87 _ rfl)) rfl ?_
     cases h1
     try dsimp only at h
     cases h
    case' c13n=>skip
    replace h1:=Ad h1 (fun k=>k c13)
    refine Aa h1 fun z141 q12 h1=>?_
    refine L9 (f:=strD) (id:=600123) q12 (T.ok 34 _ rfl).2.1 (Nat.le_of_ble_eq_true rfl) rfl rfl rfl (CB _ fun _=>rfl) ?_
    refine KI ?_
    refine BV ((nl1,v4l1,(⟨v6l1.n,v6l1.t,v6l1.s,v6l1.p,z141⟩:BR),(w64 (v7l1+1)))) h1 (by (try dsimp only);omega) rfl (Am rfl (Am rfl (Am rfl (Am rfl (Am rfl (Am rfl (Am rfl (Am rfl trivial)))))))) rfl
   case' c11n=>skip
   replace h1:=Ad h1 c11
   refine Aa h1 fun p36 q13 h1=>Ak q13 fun q13n q13=>?_
   refine Ah (Ag q13) ?_ q13n
   refine Aa h1 fun p40 q14 h1=>ZC q14 fun q14n q14=>?_
   refine Fh q14 ?_ q14n
   refine br (fun c14=>?c14y) (fun c14=>?c14n)
   case' c14y=>
    refine br (fun c15=>?c15y) (fun c15=>?c15n)
    case' c15y=>
     replace h1:=Ac h1 ⟨c14,c15⟩
     refine Aa h1 fun z54 q15 h1=>?_
     refine L9 (f:=strD) (id:=600124) q15 (T.ok 34 _ rfl).2.1 (Nat.le_of_ble_eq_true rfl) rfl rfl rfl (CB _ fun _=>rfl) ?_
     refine KI ?_
     refine BV ((nl1,v4l1,(⟨v6l1.n,v6l1.t,z54,v6l1.p,v6l1.q⟩:BR),(w64 (v7l1+1)))) h1 (by (try dsimp only);omega) rfl (Am rfl (Am rfl (Am rfl (Am rfl (Am rfl (Am rfl (Am rfl (Am rfl trivial)))))))) rfl
    case' c15n=>skip
    replace h1:=Ad h1 (fun k=>absurd k.2 c15)
    refine Ar T.Uw (UG p36) ?_
    refine br (fun c16=>?c16y) (fun c16=>?c16n)
    case' c16y=>
     replace h1:=Ac h1 (nf c16)
     refine CY (tv:=6) (id:=600120) (cs':=[.row (List.map intD v6l1.n),.rr 600121 2 v6l1.t.length,.rr 600124 1 v6l1.s.length,.rr 600122 3 v6l1.p.length,.rr 600123 1 v6l1.q.length]) rfl rfl (by simp [BH]) ?_
     refine CY (tv:=6) (id:=600121) (cs':=[.row (List.map intD v6l1.n),.row (List.map tD v6l1.t),.rr 600124 1 v6l1.s.length,.rr 600122 3 v6l1.p.length,.rr 600123 1 v6l1.q.length]) rfl rfl (by simp [BH]) ?_
     refine CY (tv:=6) (id:=600124) (cs':=[.row (List.map intD v6l1.n),.row (List.map tD v6l1.t),.row (List.map strD v6l1.s),.rr 600122 3 v6l1.p.length,.rr 600123 1 v6l1.q.length]) rfl rfl (by simp [BH]) ?_
     refine CY (tv:=6) (id:=600122) (cs':=[.row (List.map intD v6l1.n),.row (List.map tD v6l1.t),.row (List.map strD v6l1.s),.row (List.map rD v6l1.p),.rr 600123 1 v6l1.q.length]) rfl rfl (by simp [BH]) ?_
     refine Kt (tv:=6) (id:=600123) (cs':=[.row (List.map intD v6l1.n),.row (List.map tD v6l1.t),.row (List.map strD v6l1.s),.row (List.map rD v6l1.p),.row (List.map strD v6l1.q)]) rfl rfl (by simp [BH]) rfl ?_
     refine JW (u:=6) rfl rfl (Hy (T.ok 87 _ rfl)) rfl ?_
     cases h1
     try dsimp only at h
     cases h
    case' c16n=>skip
    replace h1:=Ad h1 (fun k=>k c16)
    refine Aa h1 fun z54 q16 h1=>?_
    refine L9 (f:=strD) (id:=600124) q16 (T.ok 34 _ rfl).2.1 (Nat.le_of_ble_eq_true rfl) rfl rfl rfl (CB _ fun _=>rfl) ?_
    refine KI ?_
    refine BV ((nl1,v4l1,(⟨v6l1.n,v6l1.t,z54,v6l1.p,v6l1.q⟩:BR),(w64 (v7l1+1)))) h1 (by (try dsimp only);omega) rfl (Am rfl (Am rfl (Am rfl (Am rfl (Am rfl (Am rfl (Am rfl (Am rfl trivial)))))))) rfl
   case' c14n=>skip
   refine brF ?_
   replace h1:=Ad h1 (fun k=>absurd k.1 c14)
   refine Ar T.Uw (UG p36) ?_
   refine br (fun c17=>?c17y) (fun c17=>?c17n)
   case' c17y=>
    replace h1:=Ac h1 (nf c17)
    refine CY (tv:=6) (id:=600120) (cs':=[.row (List.map intD v6l1.n),.rr 600121 2 v6l1.t.length,.rr 600124 1 v6l1.s.length,.rr 600122 3 v6l1.p.length,.rr 600123 1 v6l1.q.length]) rfl rfl (by simp [BH]) ?_
    refine CY (tv:=6) (id:=600121) (cs':=[.row (List.map intD v6l1.n),.row (List.map tD v6l1.t),.rr 600124 1 v6l1.s.length,.rr 600122 3 v6l1.p.length,.rr 600123 1 v6l1.q.length]) rfl rfl (by simp [BH]) ?_
    refine CY (tv:=6) (id:=600124) (cs':=[.row (List.map intD v6l1.n),.row (List.map tD v6l1.t),.row (List.map strD v6l1.s),.rr 600122 3 v6l1.p.length,.rr 600123 1 v6l1.q.length]) rfl rfl (by simp [BH]) ?_
    refine CY (tv:=6) (id:=600122) (cs':=[.row (List.map intD v6l1.n),.row (List.map tD v6l1.t),.row (List.map strD v6l1.s),.row (List.map rD v6l1.p),.rr 600123 1 v6l1.q.length]) rfl rfl (by simp [BH]) ?_
    refine Kt (tv:=6) (id:=600123) (cs':=[.row (List.map intD v6l1.n),.row (List.map tD v6l1.t),.row (List.map strD v6l1.s),.row (List.map rD v6l1.p),.row (List.map strD v6l1.q)]) rfl rfl (by simp [BH]) rfl ?_
    refine JW (u:=6) rfl rfl (Hy (T.ok 87 _ rfl)) rfl ?_
    cases h1
    try dsimp only at h
    cases h
   case' c17n=>skip
   replace h1:=Ad h1 (fun k=>k c17)
   refine Aa h1 fun z54 q17 h1=>?_
   refine L9 (f:=strD) (id:=600124) q17 (T.ok 34 _ rfl).2.1 (Nat.le_of_ble_eq_true rfl) rfl rfl rfl (CB _ fun _=>rfl) ?_
   refine KI ?_
   refine BV ((nl1,v4l1,(⟨v6l1.n,v6l1.t,z54,v6l1.p,v6l1.q⟩:BR),(w64 (v7l1+1)))) h1 (by (try dsimp only);omega) rfl (Am rfl (Am rfl (Am rfl (Am rfl (Am rfl (Am rfl (Am rfl (Am rfl trivial)))))))) rfl
  case' c2n=>skip
  replace h1:=Ad h1 c2
  cases h1
  try dsimp only at h
  refine CY (tv:=6) (id:=600120) (cs':=[.row (List.map intD v6l1.n),.rr 600121 2 v6l1.t.length,.rr 600124 1 v6l1.s.length,.rr 600122 3 v6l1.p.length,.rr 600123 1 v6l1.q.length]) rfl rfl (by simp [BH]) ?_
  refine CY (tv:=6) (id:=600121) (cs':=[.row (List.map intD v6l1.n),.row (List.map tD v6l1.t),.rr 600124 1 v6l1.s.length,.rr 600122 3 v6l1.p.length,.rr 600123 1 v6l1.q.length]) rfl rfl (by simp [BH]) ?_
  refine CY (tv:=6) (id:=600124) (cs':=[.row (List.map intD v6l1.n),.row (List.map tD v6l1.t),.row (List.map strD v6l1.s),.rr 600122 3 v6l1.p.length,.rr 600123 1 v6l1.q.length]) rfl rfl (by simp [BH]) ?_
  refine CY (tv:=6) (id:=600122) (cs':=[.row (List.map intD v6l1.n),.row (List.map tD v6l1.t),.row (List.map strD v6l1.s),.row (List.map rD v6l1.p),.rr 600123 1 v6l1.q.length]) rfl rfl (by simp [BH]) ?_
  refine Kt (tv:=6) (id:=600123) (cs':=[.row (List.map intD v6l1.n),.row (List.map tD v6l1.t),.row (List.map strD v6l1.s),.row (List.map rD v6l1.p),.row (List.map strD v6l1.q)]) rfl rfl (by simp [BH]) rfl ?_
  refine JW (u:=6) rfl rfl (Hy (T.ok 87 _ rfl)) rfl ?_
  cases h
 all_goals (refine CJ ?_;simp only [Bo,fits,C.asD,and_true]<;>(first|exact rfl|trivial|exact ⟨rfl,rfl⟩|exact ⟨rfl,rfl,rfl⟩|(simp [*];done)|(simp_all;done)|(simp only [Dy] at *;simp_all;first|done|rfl)))
set_option maxHeartbeats 16000000 in
theorem WE (l:(List Bd))(verb:ByteArray) (r:Int)(h:Cb l verb=some r):AP Tryz.prog 34 [.row (List.map Q3 l),.sc (.string verb)] [.d (.sc (.int .i64 r))]:=by
 refine T.fn [] Tryz.func34 ?_
 unfold Cb at h
 refine Ce h fun g1 h=>?_
 refine Aa h fun o1 H1 h=>?_
 refine Ep (fb:=[]) T.ok (Nat.le_of_ble_eq_true rfl) [0,1] (fun (s:Nat)=>[(5,.c (.d (.sc (.int .i64 ((s:Nat):Int)))))]) (fun s=>s≤l.length∧LW verb (List.drop s l) s=some o1) (fun s=>l.length-s) 0 ⟨Nat.zero_le _,H1⟩ (Am rfl trivial) ?_
 rintro kl1 ⟨b1,h1⟩
 try dsimp only at b1 h1
 refine Aw ?_
 refine br (fun c1=>?c1y) (fun c1=>?c1n)
 case' c1y=>
  refine Ip (l:=l) c1 fun xl1 X1=>?_
  rw [drop_cons X1,LW] at h1
  refine Eb (Ag X1) ?_
  refine br (fun c2=>?c2y) (fun c2=>?c2n)
  case' c2y=>
   refine br (fun c3=>?c3y) (fun c3=>?c3n)
   case' c3y=>
    replace h1:=Ac h1 ⟨c2,c3⟩
    cases h1
    try dsimp only at h
    cases h
   case' c3n=>skip
   replace h1:=Ad h1 (fun k=>absurd k.2 (fun k=>k c3))
   refine CO ?_ (lt_inc g1 c1)
   refine BV (kl1+1) ⟨Ef X1,h1⟩ (by have:=Ef X1;(try dsimp only);omega) rfl (Am rfl trivial) rfl
  case' c2n=>skip
  refine brF ?_
  replace h1:=Ad h1 (fun k=>absurd k.1 c2)
  refine CO ?_ (lt_inc g1 c1)
  refine BV (kl1+1) ⟨Ef X1,h1⟩ (by have:=Ef X1;(try dsimp only);omega) rfl (Am rfl trivial) rfl
 case' c1n=>
  rw [drop_end (l:=l) c1,LW] at h1
  cases h1
  try dsimp only at h
  cases h
 all_goals (refine CJ ?_;simp only [Bo,fits,C.asD,and_true]<;>(first|exact rfl|trivial|exact ⟨rfl,rfl⟩|exact ⟨rfl,rfl,rfl⟩|(simp [*];done)|(simp_all;done)|(simp only [Dy] at *;simp_all;first|done|rfl)))
set_option maxHeartbeats 16000000 in
theorem Amv (l:(List ByteArray)) (r:AL×Bool)(h:EX l=some r):AP Tryz.prog 77 [.row (List.map strD l)] [.d (lD r.1),.d (.sc (.bool r.2))]:=by
 refine T.fn [] Tryz.func77 ?_
 unfold EX at h
 refine Aw ?_
 refine br (fun c1=>?c1y) (fun c1=>?c1n)
 case' c1y=>
  replace h:=Ac h c1
  cases h
 case' c1n=>
  replace h:=Ad h c1
  refine And.intro ⟨T.mixed,by decide +kernel⟩ ?_
  refine Ar T.Ab2 (AbG ) ?_
  refine Aa h fun p15 q1 h=>Ak q1 fun q1n q1=>?_
  refine Ah (Ag q1) ?_ q1n
  refine Aa h fun r17 q2 h=>?_
  refine Ar T.Yl (WE (EG) p15 r17 q2) ?_
  refine br (fun c2=>?c2y) (fun c2=>?c2n)
  case' c2y=>
   replace h:=Ac h c2
   cases h
  case' c2n=>skip
  replace h:=Ad h c2
  refine And.intro ⟨T.mixed,by decide +kernel⟩ ?_
  refine Aa h fun y23 q3 h=>OL q3 fun q3a q3b q3c q3=>?_
  refine Es ?_ q3a
  refine Qh ?_ (CB _ fun _=>rfl) q3a q3b q3c q3
  refine Ar T.Ab2 (AbG ) ?_
  refine Aa h fun p26 q4 h=>Ak q4 fun q4n q4=>?_
  refine Ah (Ag q4) ?_ q4n
  refine Aa h fun r29 q5 h=>?_
  refine Ar T.SE (SI y23 p26.words r29 q5) ?_
  refine br (fun c3=>?c3y) (fun c3=>?c3n)
  case' c3y=>
   replace h:=Ac h (nf c3)
   cases h
  case' c3n=>skip
  replace h:=Ad h (fun k=>k c3)
  refine br (fun c4=>?c4y) (fun c4=>?c4n)
  case' c4y=>
   replace h:=Ac h c4
   refine Aa h fun p39 q6 h=>Ak q6 fun q6n q6=>?_
   refine Ah (Ag q6) ?_ q6n
   refine Av3 ?_
   refine br (fun c5=>?c5y) (fun c5=>?c5n)
   case' c5y=>
    replace h:=Ac h c5
    refine Aa h fun p48 q7 h=>Ak q7 fun q7n q7=>?_
    refine Ah (Ag q7) ?_ q7n
    refine br (fun c6=>?c6y) (fun c6=>?c6n)
    case' c6y=>
     replace h:=Ac h c6
     refine Aa h fun p55 q8 h=>Ak q8 fun q8n q8=>?_
     refine Ah (Ag q8) ?_ q8n
     cases h
    case' c6n=>skip
    replace h:=Ad h c6
    cases h
   case' c5n=>skip
   replace h:=Ad h c5
   refine br (fun c7=>?c7y) (fun c7=>?c7n)
   case' c7y=>
    replace h:=Ac h c7
    refine Aa h fun p55 q9 h=>Ak q9 fun q9n q9=>?_
    refine Ah (Ag q9) ?_ q9n
    cases h
   case' c7n=>skip
   replace h:=Ad h c7
   cases h
  case' c4n=>skip
  replace h:=Ad h c4
  refine Aa h fun p63 q10 h=>Ak q10 fun q10n q10=>?_
  refine Ah (Ag q10) ?_ q10n
  refine Aw ?_
  refine br (fun c8=>?c8y) (fun c8=>?c8n)
  case' c8y=>
   replace h:=Ac h c8
   refine Aa h fun p72 q11 h=>Ak q11 fun q11n q11=>?_
   refine Ah (Ag q11) ?_ q11n
   unfold I4 at h
   refine br (fun c9=>?c9y) (fun c9=>?c9n)
   case' c9y=>
    replace h:=Ac h c9
    refine Aa h fun p79 q12 h=>Ak q12 fun q12n q12=>?_
    refine Ah (Ag q12) ?_ q12n
    refine Aa h fun p84 q13 h=>Ak q13 fun q13n q13=>?_
    refine Ah (Ag q13) ?_ q13n
    refine br (fun c10=>?c10y) (fun c10=>?c10n)
    case' c10y=>
     replace h:=Ac h c10
     refine Aa h fun p91 q14 h=>Ak q14 fun q14n q14=>?_
     refine Ah (Ag q14) ?_ q14n
     cases h
    case' c10n=>skip
    replace h:=Ad h c10
    cases h
   case' c9n=>skip
   replace h:=Ad h c9
   refine br (fun c11=>?c11y) (fun c11=>?c11n)
   case' c11y=>
    replace h:=Ac h c11
    refine Aa h fun p91 q15 h=>Ak q15 fun q15n q15=>?_
    refine Ah (Ag q15) ?_ q15n
    cases h
   case' c11n=>skip
   replace h:=Ad h c11
   cases h
  case' c8n=>skip
  replace h:=Ad h c8
  unfold I4 at h
  refine br (fun c12=>?c12y) (fun c12=>?c12n)
  case' c12y=>
   replace h:=Ac h c12
   refine Aa h fun p79 q16 h=>Ak q16 fun q16n q16=>?_
   refine Ah (Ag q16) ?_ q16n
   refine Aa h fun p84 q17 h=>Ak q17 fun q17n q17=>?_
   refine Ah (Ag q17) ?_ q17n
   refine br (fun c13=>?c13y) (fun c13=>?c13n)
   case' c13y=>
    replace h:=Ac h c13
    refine Aa h fun p91 q18 h=>Ak q18 fun q18n q18=>?_
    refine Ah (Ag q18) ?_ q18n
    cases h
   case' c13n=>skip
   replace h:=Ad h c13
   cases h
  case' c12n=>skip
  replace h:=Ad h c12
  refine br (fun c14=>?c14y) (fun c14=>?c14n)
  case' c14y=>
   replace h:=Ac h c14
   refine Aa h fun p91 q19 h=>Ak q19 fun q19n q19=>?_
   refine Ah (Ag q19) ?_ q19n
   cases h
  case' c14n=>skip
  replace h:=Ad h c14
  cases h
 all_goals (refine CJ ?_;simp only [Bo,fits,C.asD,and_true]<;>(first|exact rfl|trivial|exact ⟨rfl,rfl⟩|exact ⟨rfl,rfl,rfl⟩|(simp [*];done)|(simp_all;done)|(simp only [Dy] at *;simp_all;first|done|rfl)))
set_option maxHeartbeats 16000000 in
theorem Afy (k:Int)(l:(List ByteArray)) (r:Au×Bool)(h:Gh k l=some r):AP Tryz.prog 36 [.sc (.int .i64 k),.row (List.map strD l)] [.d (Jl r.1),.d (.sc (.bool r.2))]:=by
 refine T.fn [] Tryz.func36 ?_
 unfold Gh at h
 refine br (fun c1=>?c1y) (fun c1=>?c1n)
 case' c1y=>
  replace h:=Ac h c1
  refine Aw ?_
  refine br (fun c2=>?c2y) (fun c2=>?c2n)
  case' c2y=>
   replace h:=Ac h c2
   cases h
  case' c2n=>skip
  replace h:=Ad h c2
  refine Aa h fun y22 q1 h=>OL q1 fun q1a q1b q1c q1=>?_
  refine Es ?_ q1a
  refine Qh ?_ (CB _ fun _=>rfl) q1a q1b q1c q1
  refine Aa h fun r23 q2 h=>?_
  refine Ar T.AhV (Amv y22 r23 q2) ?_
  refine br (fun c3=>?c3y) (fun c3=>?c3n)
  case' c3y=>
   replace h:=Ac h (nf c3)
   cases h
  case' c3n=>skip
  replace h:=Ad h (fun k=>k c3)
  refine Aa h fun y33 q3 h=>OL q3 fun q3a q3b q3c q3=>?_
  refine Es ?_ (Int.le_trans q3a q3b)
  refine AiA ?_ (CB _ fun _=>rfl) q3a q3b q3c q3
  unfold Gs at h
  refine Ar T.XR (Vp ) ?_
  refine Aa h fun p38 q4 h=>Ak q4 fun q4n q4=>?_
  refine Ah (Ag q4) ?_ q4n
  refine Aa h fun r41 q5 h=>?_
  refine Ar T.SE (SI y33 p38.words r41 q5) ?_
  refine br (fun c4=>?c4y) (fun c4=>?c4n)
  case' c4y=>
   replace h:=Ac h (nf c4)
   cases h
  case' c4n=>skip
  replace h:=Ad h (fun k=>k c4)
  refine Aa h fun p49 q6 h=>Ak q6 fun q6n q6=>?_
  refine Ah (Ag q6) ?_ q6n
  refine Aw ?_
  refine br (fun c5=>?c5y) (fun c5=>?c5n)
  case' c5y=>
   replace h:=Ac h c5
   refine Aa h fun p58 q7 h=>Ak q7 fun q7n q7=>?_
   refine Ah (Ag q7) ?_ q7n
   unfold F7 at h
   refine Aw ?_
   refine br (fun c6=>?c6y) (fun c6=>?c6n)
   case' c6y=>
    replace h:=Ac h c6
    refine Aa h fun p68 q8 h=>Ak q8 fun q8n q8=>?_
    refine Ah (Ag q8) ?_ q8n
    unfold EY at h
    refine Aw ?_
    refine br (fun c7=>?c7y) (fun c7=>?c7n)
    case' c7y=>
     replace h:=Ac h c7
     refine Aa h fun p78 q9 h=>Ak q9 fun q9n q9=>?_
     refine Ah (Ag q9) ?_ q9n
     unfold D5 at h
     refine Aw ?_
     refine br (fun c8=>?c8y) (fun c8=>?c8n)
     case' c8y=>
      replace h:=Ac h c8
      refine Aa h fun p88 q10 h=>Ak q10 fun q10n q10=>?_
      refine Ah (Ag q10) ?_ q10n
      unfold Cj at h
      refine Aw ?_
      refine br (fun c9=>?c9y) (fun c9=>?c9n)
      case' c9y=>
       replace h:=Ac h c9
       refine Aa h fun p98 q11 h=>Ak q11 fun q11n q11=>?_
       refine Ah (Ag q11) ?_ q11n
       refine br (fun c10=>?c10y) (fun c10=>?c10n)
       case' c10y=>
        replace h:=Ac h c10
        refine Aa h fun p106 q12 h=>Ak q12 fun q12n q12=>?_
        refine Ah (Ag q12) ?_ q12n
        cases h
       case' c10n=>skip
       replace h:=Ad h c10
       cases h
      case' c9n=>skip
      replace h:=Ad h c9
      refine br (fun c11=>?c11y) (fun c11=>?c11n)
      case' c11y=>
       replace h:=Ac h c11
       refine Aa h fun p106 q13 h=>Ak q13 fun q13n q13=>?_
       refine Ah (Ag q13) ?_ q13n
       cases h
      case' c11n=>skip
      replace h:=Ad h c11
      cases h
     case' c8n=>skip
     replace h:=Ad h c8
     unfold Cj at h
     refine Aw ?_
     refine br (fun c12=>?c12y) (fun c12=>?c12n)
     case' c12y=>
      replace h:=Ac h c12
      refine Aa h fun p98 q14 h=>Ak q14 fun q14n q14=>?_
      refine Ah (Ag q14) ?_ q14n
      refine br (fun c13=>?c13y) (fun c13=>?c13n)
      case' c13y=>
       replace h:=Ac h c13
       refine Aa h fun p106 q15 h=>Ak q15 fun q15n q15=>?_
       refine Ah (Ag q15) ?_ q15n
       cases h
      case' c13n=>skip
      replace h:=Ad h c13
      cases h
     case' c12n=>skip
     replace h:=Ad h c12
     refine br (fun c14=>?c14y) (fun c14=>?c14n)
     case' c14y=>
      replace h:=Ac h c14
      refine Aa h fun p106 q16 h=>Ak q16 fun q16n q16=>?_
      refine Ah (Ag q16) ?_ q16n
      cases h
     case' c14n=>skip
     replace h:=Ad h c14
     cases h
    case' c7n=>skip
    replace h:=Ad h c7
    unfold D5 at h
    refine Aw ?_
    refine br (fun c15=>?c15y) (fun c15=>?c15n)
    case' c15y=>
     replace h:=Ac h c15
     refine Aa h fun p88 q17 h=>Ak q17 fun q17n q17=>?_
     refine Ah (Ag q17) ?_ q17n
     unfold Cj at h
     refine Aw ?_
     refine br (fun c16=>?c16y) (fun c16=>?c16n)
     case' c16y=>
      replace h:=Ac h c16
      refine Aa h fun p98 q18 h=>Ak q18 fun q18n q18=>?_
      refine Ah (Ag q18) ?_ q18n
      refine br (fun c17=>?c17y) (fun c17=>?c17n)
      case' c17y=>
       replace h:=Ac h c17
       refine Aa h fun p106 q19 h=>Ak q19 fun q19n q19=>?_
       refine Ah (Ag q19) ?_ q19n
       cases h
      case' c17n=>skip
      replace h:=Ad h c17
      cases h
     case' c16n=>skip
     replace h:=Ad h c16
     refine br (fun c18=>?c18y) (fun c18=>?c18n)
     case' c18y=>
      replace h:=Ac h c18
      refine Aa h fun p106 q20 h=>Ak q20 fun q20n q20=>?_
      refine Ah (Ag q20) ?_ q20n
      cases h
     case' c18n=>skip
     replace h:=Ad h c18
     cases h
    case' c15n=>skip
    replace h:=Ad h c15
    unfold Cj at h
    refine Aw ?_
    refine br (fun c19=>?c19y) (fun c19=>?c19n)
    case' c19y=>
     replace h:=Ac h c19
     refine Aa h fun p98 q21 h=>Ak q21 fun q21n q21=>?_
     refine Ah (Ag q21) ?_ q21n
     refine br (fun c20=>?c20y) (fun c20=>?c20n)
     case' c20y=>
      replace h:=Ac h c20
      refine Aa h fun p106 q22 h=>Ak q22 fun q22n q22=>?_
      refine Ah (Ag q22) ?_ q22n
      cases h
     case' c20n=>skip
     replace h:=Ad h c20
     cases h
    case' c19n=>skip
    replace h:=Ad h c19
    refine br (fun c21=>?c21y) (fun c21=>?c21n)
    case' c21y=>
     replace h:=Ac h c21
     refine Aa h fun p106 q23 h=>Ak q23 fun q23n q23=>?_
     refine Ah (Ag q23) ?_ q23n
     cases h
    case' c21n=>skip
    replace h:=Ad h c21
    cases h
   case' c6n=>skip
   replace h:=Ad h c6
   unfold EY at h
   refine Aw ?_
   refine br (fun c22=>?c22y) (fun c22=>?c22n)
   case' c22y=>
    replace h:=Ac h c22
    refine Aa h fun p78 q24 h=>Ak q24 fun q24n q24=>?_
    refine Ah (Ag q24) ?_ q24n
    unfold D5 at h
    refine Aw ?_
    refine br (fun c23=>?c23y) (fun c23=>?c23n)
    case' c23y=>
     replace h:=Ac h c23
     refine Aa h fun p88 q25 h=>Ak q25 fun q25n q25=>?_
     refine Ah (Ag q25) ?_ q25n
     unfold Cj at h
     refine Aw ?_
     refine br (fun c24=>?c24y) (fun c24=>?c24n)
     case' c24y=>
      replace h:=Ac h c24
      refine Aa h fun p98 q26 h=>Ak q26 fun q26n q26=>?_
      refine Ah (Ag q26) ?_ q26n
      refine br (fun c25=>?c25y) (fun c25=>?c25n)
      case' c25y=>
       replace h:=Ac h c25
       refine Aa h fun p106 q27 h=>Ak q27 fun q27n q27=>?_
       refine Ah (Ag q27) ?_ q27n
       cases h
      case' c25n=>skip
      replace h:=Ad h c25
      cases h
     case' c24n=>skip
     replace h:=Ad h c24
     refine br (fun c26=>?c26y) (fun c26=>?c26n)
     case' c26y=>
      replace h:=Ac h c26
      refine Aa h fun p106 q28 h=>Ak q28 fun q28n q28=>?_
      refine Ah (Ag q28) ?_ q28n
      cases h
     case' c26n=>skip
     replace h:=Ad h c26
     cases h
    case' c23n=>skip
    replace h:=Ad h c23
    unfold Cj at h
    refine Aw ?_
    refine br (fun c27=>?c27y) (fun c27=>?c27n)
    case' c27y=>
     replace h:=Ac h c27
     refine Aa h fun p98 q29 h=>Ak q29 fun q29n q29=>?_
     refine Ah (Ag q29) ?_ q29n
     refine br (fun c28=>?c28y) (fun c28=>?c28n)
     case' c28y=>
      replace h:=Ac h c28
      refine Aa h fun p106 q30 h=>Ak q30 fun q30n q30=>?_
      refine Ah (Ag q30) ?_ q30n
      cases h
     case' c28n=>skip
     replace h:=Ad h c28
     cases h
    case' c27n=>skip
    replace h:=Ad h c27
    refine br (fun c29=>?c29y) (fun c29=>?c29n)
    case' c29y=>
     replace h:=Ac h c29
     refine Aa h fun p106 q31 h=>Ak q31 fun q31n q31=>?_
     refine Ah (Ag q31) ?_ q31n
     cases h
    case' c29n=>skip
    replace h:=Ad h c29
    cases h
   case' c22n=>skip
   replace h:=Ad h c22
   unfold D5 at h
   refine Aw ?_
   refine br (fun c30=>?c30y) (fun c30=>?c30n)
   case' c30y=>
    replace h:=Ac h c30
    refine Aa h fun p88 q32 h=>Ak q32 fun q32n q32=>?_
    refine Ah (Ag q32) ?_ q32n
    unfold Cj at h
    refine Aw ?_
    refine br (fun c31=>?c31y) (fun c31=>?c31n)
    case' c31y=>
     replace h:=Ac h c31
     refine Aa h fun p98 q33 h=>Ak q33 fun q33n q33=>?_
     refine Ah (Ag q33) ?_ q33n
     refine br (fun c32=>?c32y) (fun c32=>?c32n)
     case' c32y=>
      replace h:=Ac h c32
      refine Aa h fun p106 q34 h=>Ak q34 fun q34n q34=>?_
      refine Ah (Ag q34) ?_ q34n
      cases h
     case' c32n=>skip
     replace h:=Ad h c32
     cases h
    case' c31n=>skip
    replace h:=Ad h c31
    refine br (fun c33=>?c33y) (fun c33=>?c33n)
    case' c33y=>
     replace h:=Ac h c33
     refine Aa h fun p106 q35 h=>Ak q35 fun q35n q35=>?_
     refine Ah (Ag q35) ?_ q35n
     cases h
    case' c33n=>skip
    replace h:=Ad h c33
    cases h
   case' c30n=>skip
   replace h:=Ad h c30
   unfold Cj at h
   refine Aw ?_
   refine br (fun c34=>?c34y) (fun c34=>?c34n)
   case' c34y=>
    replace h:=Ac h c34
    refine Aa h fun p98 q36 h=>Ak q36 fun q36n q36=>?_
    refine Ah (Ag q36) ?_ q36n
    refine br (fun c35=>?c35y) (fun c35=>?c35n)
    case' c35y=>
     replace h:=Ac h c35
     refine Aa h fun p106 q37 h=>Ak q37 fun q37n q37=>?_
     refine Ah (Ag q37) ?_ q37n
     cases h
    case' c35n=>skip
    replace h:=Ad h c35
    cases h
   case' c34n=>skip
   replace h:=Ad h c34
   refine br (fun c36=>?c36y) (fun c36=>?c36n)
   case' c36y=>
    replace h:=Ac h c36
    refine Aa h fun p106 q38 h=>Ak q38 fun q38n q38=>?_
    refine Ah (Ag q38) ?_ q38n
    cases h
   case' c36n=>skip
   replace h:=Ad h c36
   cases h
  case' c5n=>skip
  replace h:=Ad h c5
  unfold F7 at h
  refine Aw ?_
  refine br (fun c37=>?c37y) (fun c37=>?c37n)
  case' c37y=>
   replace h:=Ac h c37
   refine Aa h fun p68 q39 h=>Ak q39 fun q39n q39=>?_
   refine Ah (Ag q39) ?_ q39n
   unfold EY at h
   refine Aw ?_
   refine br (fun c38=>?c38y) (fun c38=>?c38n)
   case' c38y=>
    replace h:=Ac h c38
    refine Aa h fun p78 q40 h=>Ak q40 fun q40n q40=>?_
    refine Ah (Ag q40) ?_ q40n
    unfold D5 at h
    refine Aw ?_
    refine br (fun c39=>?c39y) (fun c39=>?c39n)
    case' c39y=>
     replace h:=Ac h c39
     refine Aa h fun p88 q41 h=>Ak q41 fun q41n q41=>?_
     refine Ah (Ag q41) ?_ q41n
     unfold Cj at h
     refine Aw ?_
     refine br (fun c40=>?c40y) (fun c40=>?c40n)
     case' c40y=>
      replace h:=Ac h c40
      refine Aa h fun p98 q42 h=>Ak q42 fun q42n q42=>?_
      refine Ah (Ag q42) ?_ q42n
      refine br (fun c41=>?c41y) (fun c41=>?c41n)
      case' c41y=>
       replace h:=Ac h c41
       refine Aa h fun p106 q43 h=>Ak q43 fun q43n q43=>?_
       refine Ah (Ag q43) ?_ q43n
       cases h
      case' c41n=>skip
      replace h:=Ad h c41
      cases h
     case' c40n=>skip
     replace h:=Ad h c40
     refine br (fun c42=>?c42y) (fun c42=>?c42n)
     case' c42y=>
      replace h:=Ac h c42
      refine Aa h fun p106 q44 h=>Ak q44 fun q44n q44=>?_
      refine Ah (Ag q44) ?_ q44n
      cases h
     case' c42n=>skip
     replace h:=Ad h c42
     cases h
    case' c39n=>skip
    replace h:=Ad h c39
    unfold Cj at h
    refine Aw ?_
    refine br (fun c43=>?c43y) (fun c43=>?c43n)
    case' c43y=>
     replace h:=Ac h c43
     refine Aa h fun p98 q45 h=>Ak q45 fun q45n q45=>?_
     refine Ah (Ag q45) ?_ q45n
     refine br (fun c44=>?c44y) (fun c44=>?c44n)
     case' c44y=>
      replace h:=Ac h c44
      refine Aa h fun p106 q46 h=>Ak q46 fun q46n q46=>?_
      refine Ah (Ag q46) ?_ q46n
      cases h
     case' c44n=>skip
     replace h:=Ad h c44
     cases h
    case' c43n=>skip
    replace h:=Ad h c43
    refine br (fun c45=>?c45y) (fun c45=>?c45n)
    case' c45y=>
     replace h:=Ac h c45
     refine Aa h fun p106 q47 h=>Ak q47 fun q47n q47=>?_
     refine Ah (Ag q47) ?_ q47n
     cases h
    case' c45n=>skip
    replace h:=Ad h c45
    cases h
   case' c38n=>skip
   replace h:=Ad h c38
   unfold D5 at h
   refine Aw ?_
   refine br (fun c46=>?c46y) (fun c46=>?c46n)
   case' c46y=>
    replace h:=Ac h c46
    refine Aa h fun p88 q48 h=>Ak q48 fun q48n q48=>?_
    refine Ah (Ag q48) ?_ q48n
    unfold Cj at h
    refine Aw ?_
    refine br (fun c47=>?c47y) (fun c47=>?c47n)
    case' c47y=>
     replace h:=Ac h c47
     refine Aa h fun p98 q49 h=>Ak q49 fun q49n q49=>?_
     refine Ah (Ag q49) ?_ q49n
     refine br (fun c48=>?c48y) (fun c48=>?c48n)
     case' c48y=>
      replace h:=Ac h c48
      refine Aa h fun p106 q50 h=>Ak q50 fun q50n q50=>?_
      refine Ah (Ag q50) ?_ q50n
      cases h
     case' c48n=>skip
     replace h:=Ad h c48
     cases h
    case' c47n=>skip
    replace h:=Ad h c47
    refine br (fun c49=>?c49y) (fun c49=>?c49n)
    case' c49y=>
     replace h:=Ac h c49
     refine Aa h fun p106 q51 h=>Ak q51 fun q51n q51=>?_
     refine Ah (Ag q51) ?_ q51n
     cases h
    case' c49n=>skip
    replace h:=Ad h c49
    cases h
   case' c46n=>skip
   replace h:=Ad h c46
   unfold Cj at h
   refine Aw ?_
   refine br (fun c50=>?c50y) (fun c50=>?c50n)
   case' c50y=>
    replace h:=Ac h c50
    refine Aa h fun p98 q52 h=>Ak q52 fun q52n q52=>?_
    refine Ah (Ag q52) ?_ q52n
    refine br (fun c51=>?c51y) (fun c51=>?c51n)
    case' c51y=>
     replace h:=Ac h c51
     refine Aa h fun p106 q53 h=>Ak q53 fun q53n q53=>?_
     refine Ah (Ag q53) ?_ q53n
     cases h
    case' c51n=>skip
    replace h:=Ad h c51
    cases h
   case' c50n=>skip
   replace h:=Ad h c50
   refine br (fun c52=>?c52y) (fun c52=>?c52n)
   case' c52y=>
    replace h:=Ac h c52
    refine Aa h fun p106 q54 h=>Ak q54 fun q54n q54=>?_
    refine Ah (Ag q54) ?_ q54n
    cases h
   case' c52n=>skip
   replace h:=Ad h c52
   cases h
  case' c37n=>skip
  replace h:=Ad h c37
  unfold EY at h
  refine Aw ?_
  refine br (fun c53=>?c53y) (fun c53=>?c53n)
  case' c53y=>
   replace h:=Ac h c53
   refine Aa h fun p78 q55 h=>Ak q55 fun q55n q55=>?_
   refine Ah (Ag q55) ?_ q55n
   unfold D5 at h
   refine Aw ?_
   refine br (fun c54=>?c54y) (fun c54=>?c54n)
   case' c54y=>
    replace h:=Ac h c54
    refine Aa h fun p88 q56 h=>Ak q56 fun q56n q56=>?_
    refine Ah (Ag q56) ?_ q56n
    unfold Cj at h
    refine Aw ?_
    refine br (fun c55=>?c55y) (fun c55=>?c55n)
    case' c55y=>
     replace h:=Ac h c55
     refine Aa h fun p98 q57 h=>Ak q57 fun q57n q57=>?_
     refine Ah (Ag q57) ?_ q57n
     refine br (fun c56=>?c56y) (fun c56=>?c56n)
     case' c56y=>
      replace h:=Ac h c56
      refine Aa h fun p106 q58 h=>Ak q58 fun q58n q58=>?_
      refine Ah (Ag q58) ?_ q58n
      cases h
     case' c56n=>skip
     replace h:=Ad h c56
     cases h
    case' c55n=>skip
    replace h:=Ad h c55
    refine br (fun c57=>?c57y) (fun c57=>?c57n)
    case' c57y=>
     replace h:=Ac h c57
     refine Aa h fun p106 q59 h=>Ak q59 fun q59n q59=>?_
     refine Ah (Ag q59) ?_ q59n
     cases h
    case' c57n=>skip
    replace h:=Ad h c57
    cases h
   case' c54n=>skip
   replace h:=Ad h c54
   unfold Cj at h
   refine Aw ?_
   refine br (fun c58=>?c58y) (fun c58=>?c58n)
   case' c58y=>
    replace h:=Ac h c58
    refine Aa h fun p98 q60 h=>Ak q60 fun q60n q60=>?_
    refine Ah (Ag q60) ?_ q60n
    refine br (fun c59=>?c59y) (fun c59=>?c59n)
    case' c59y=>
     replace h:=Ac h c59
     refine Aa h fun p106 q61 h=>Ak q61 fun q61n q61=>?_
     refine Ah (Ag q61) ?_ q61n
     cases h
    case' c59n=>skip
    replace h:=Ad h c59
    cases h
   case' c58n=>skip
   replace h:=Ad h c58
   refine br (fun c60=>?c60y) (fun c60=>?c60n)
   case' c60y=>
    replace h:=Ac h c60
    refine Aa h fun p106 q62 h=>Ak q62 fun q62n q62=>?_
    refine Ah (Ag q62) ?_ q62n
    cases h
   case' c60n=>skip
   replace h:=Ad h c60
   cases h
  case' c53n=>skip
  replace h:=Ad h c53
  unfold D5 at h
  refine Aw ?_
  refine br (fun c61=>?c61y) (fun c61=>?c61n)
  case' c61y=>
   replace h:=Ac h c61
   refine Aa h fun p88 q63 h=>Ak q63 fun q63n q63=>?_
   refine Ah (Ag q63) ?_ q63n
   unfold Cj at h
   refine Aw ?_
   refine br (fun c62=>?c62y) (fun c62=>?c62n)
   case' c62y=>
    replace h:=Ac h c62
    refine Aa h fun p98 q64 h=>Ak q64 fun q64n q64=>?_
    refine Ah (Ag q64) ?_ q64n
    refine br (fun c63=>?c63y) (fun c63=>?c63n)
    case' c63y=>
     replace h:=Ac h c63
     refine Aa h fun p106 q65 h=>Ak q65 fun q65n q65=>?_
     refine Ah (Ag q65) ?_ q65n
     cases h
    case' c63n=>skip
    replace h:=Ad h c63
    cases h
   case' c62n=>skip
   replace h:=Ad h c62
   refine br (fun c64=>?c64y) (fun c64=>?c64n)
   case' c64y=>
    replace h:=Ac h c64
    refine Aa h fun p106 q66 h=>Ak q66 fun q66n q66=>?_
    refine Ah (Ag q66) ?_ q66n
    cases h
   case' c64n=>skip
   replace h:=Ad h c64
   cases h
  case' c61n=>skip
  replace h:=Ad h c61
  unfold Cj at h
  refine Aw ?_
  refine br (fun c65=>?c65y) (fun c65=>?c65n)
  case' c65y=>
   replace h:=Ac h c65
   refine Aa h fun p98 q67 h=>Ak q67 fun q67n q67=>?_
   refine Ah (Ag q67) ?_ q67n
   refine br (fun c66=>?c66y) (fun c66=>?c66n)
   case' c66y=>
    replace h:=Ac h c66
    refine Aa h fun p106 q68 h=>Ak q68 fun q68n q68=>?_
    refine Ah (Ag q68) ?_ q68n
    cases h
   case' c66n=>skip
   replace h:=Ad h c66
   cases h
  case' c65n=>skip
  replace h:=Ad h c65
  refine br (fun c67=>?c67y) (fun c67=>?c67n)
  case' c67y=>
   replace h:=Ac h c67
   refine Aa h fun p106 q69 h=>Ak q69 fun q69n q69=>?_
   refine Ah (Ag q69) ?_ q69n
   cases h
  case' c67n=>skip
  replace h:=Ad h c67
  cases h
 case' c1n=>
  replace h:=Ad h c1
  unfold Gs at h
  refine Ar T.XR (Vp ) ?_
  refine Aa h fun p38 q70 h=>Ak q70 fun q70n q70=>?_
  refine Ah (Ag q70) ?_ q70n
  refine Aa h fun r41 q71 h=>?_
  refine Ar T.SE (SI l p38.words r41 q71) ?_
  refine br (fun c68=>?c68y) (fun c68=>?c68n)
  case' c68y=>
   replace h:=Ac h (nf c68)
   cases h
  case' c68n=>skip
  replace h:=Ad h (fun k=>k c68)
  refine Aa h fun p49 q72 h=>Ak q72 fun q72n q72=>?_
  refine Ah (Ag q72) ?_ q72n
  refine Aw ?_
  refine br (fun c69=>?c69y) (fun c69=>?c69n)
  case' c69y=>
   replace h:=Ac h c69
   refine Aa h fun p58 q73 h=>Ak q73 fun q73n q73=>?_
   refine Ah (Ag q73) ?_ q73n
   unfold F7 at h
   refine Aw ?_
   refine br (fun c70=>?c70y) (fun c70=>?c70n)
   case' c70y=>
    replace h:=Ac h c70
    refine Aa h fun p68 q74 h=>Ak q74 fun q74n q74=>?_
    refine Ah (Ag q74) ?_ q74n
    unfold EY at h
    refine Aw ?_
    refine br (fun c71=>?c71y) (fun c71=>?c71n)
    case' c71y=>
     replace h:=Ac h c71
     refine Aa h fun p78 q75 h=>Ak q75 fun q75n q75=>?_
     refine Ah (Ag q75) ?_ q75n
     unfold D5 at h
     refine Aw ?_
     refine br (fun c72=>?c72y) (fun c72=>?c72n)
     case' c72y=>
      replace h:=Ac h c72
      refine Aa h fun p88 q76 h=>Ak q76 fun q76n q76=>?_
      refine Ah (Ag q76) ?_ q76n
      unfold Cj at h
      refine Aw ?_
      refine br (fun c73=>?c73y) (fun c73=>?c73n)
      case' c73y=>
       replace h:=Ac h c73
       refine Aa h fun p98 q77 h=>Ak q77 fun q77n q77=>?_
       refine Ah (Ag q77) ?_ q77n
       refine br (fun c74=>?c74y) (fun c74=>?c74n)
       case' c74y=>
        replace h:=Ac h c74
        refine Aa h fun p106 q78 h=>Ak q78 fun q78n q78=>?_
        refine Ah (Ag q78) ?_ q78n
        cases h
       case' c74n=>skip
       replace h:=Ad h c74
       cases h
      case' c73n=>skip
      replace h:=Ad h c73
      refine br (fun c75=>?c75y) (fun c75=>?c75n)
      case' c75y=>
       replace h:=Ac h c75
       refine Aa h fun p106 q79 h=>Ak q79 fun q79n q79=>?_
       refine Ah (Ag q79) ?_ q79n
       cases h
      case' c75n=>skip
      replace h:=Ad h c75
      cases h
     case' c72n=>skip
     replace h:=Ad h c72
     unfold Cj at h
     refine Aw ?_
     refine br (fun c76=>?c76y) (fun c76=>?c76n)
     case' c76y=>
      replace h:=Ac h c76
      refine Aa h fun p98 q80 h=>Ak q80 fun q80n q80=>?_
      refine Ah (Ag q80) ?_ q80n
      refine br (fun c77=>?c77y) (fun c77=>?c77n)
      case' c77y=>
       replace h:=Ac h c77
       refine Aa h fun p106 q81 h=>Ak q81 fun q81n q81=>?_
       refine Ah (Ag q81) ?_ q81n
       cases h
      case' c77n=>skip
      replace h:=Ad h c77
      cases h
     case' c76n=>skip
     replace h:=Ad h c76
     refine br (fun c78=>?c78y) (fun c78=>?c78n)
     case' c78y=>
      replace h:=Ac h c78
      refine Aa h fun p106 q82 h=>Ak q82 fun q82n q82=>?_
      refine Ah (Ag q82) ?_ q82n
      cases h
     case' c78n=>skip
     replace h:=Ad h c78
     cases h
    case' c71n=>skip
    replace h:=Ad h c71
    unfold D5 at h
    refine Aw ?_
    refine br (fun c79=>?c79y) (fun c79=>?c79n)
    case' c79y=>
     replace h:=Ac h c79
     refine Aa h fun p88 q83 h=>Ak q83 fun q83n q83=>?_
     refine Ah (Ag q83) ?_ q83n
     unfold Cj at h
     refine Aw ?_
     refine br (fun c80=>?c80y) (fun c80=>?c80n)
     case' c80y=>
      replace h:=Ac h c80
      refine Aa h fun p98 q84 h=>Ak q84 fun q84n q84=>?_
      refine Ah (Ag q84) ?_ q84n
      refine br (fun c81=>?c81y) (fun c81=>?c81n)
      case' c81y=>
       replace h:=Ac h c81
       refine Aa h fun p106 q85 h=>Ak q85 fun q85n q85=>?_
       refine Ah (Ag q85) ?_ q85n
       cases h
      case' c81n=>skip
      replace h:=Ad h c81
      cases h
     case' c80n=>skip
     replace h:=Ad h c80
     refine br (fun c82=>?c82y) (fun c82=>?c82n)
     case' c82y=>
      replace h:=Ac h c82
      refine Aa h fun p106 q86 h=>Ak q86 fun q86n q86=>?_
      refine Ah (Ag q86) ?_ q86n
      cases h
     case' c82n=>skip
     replace h:=Ad h c82
     cases h
    case' c79n=>skip
    replace h:=Ad h c79
    unfold Cj at h
    refine Aw ?_
    refine br (fun c83=>?c83y) (fun c83=>?c83n)
    case' c83y=>
     replace h:=Ac h c83
     refine Aa h fun p98 q87 h=>Ak q87 fun q87n q87=>?_
     refine Ah (Ag q87) ?_ q87n
     refine br (fun c84=>?c84y) (fun c84=>?c84n)
     case' c84y=>
      replace h:=Ac h c84
      refine Aa h fun p106 q88 h=>Ak q88 fun q88n q88=>?_
      refine Ah (Ag q88) ?_ q88n
      cases h
     case' c84n=>skip
     replace h:=Ad h c84
     cases h
    case' c83n=>skip
    replace h:=Ad h c83
    refine br (fun c85=>?c85y) (fun c85=>?c85n)
    case' c85y=>
     replace h:=Ac h c85
     refine Aa h fun p106 q89 h=>Ak q89 fun q89n q89=>?_
     refine Ah (Ag q89) ?_ q89n
     cases h
    case' c85n=>skip
    replace h:=Ad h c85
    cases h
   case' c70n=>skip
   replace h:=Ad h c70
   unfold EY at h
   refine Aw ?_
   refine br (fun c86=>?c86y) (fun c86=>?c86n)
   case' c86y=>
    replace h:=Ac h c86
    refine Aa h fun p78 q90 h=>Ak q90 fun q90n q90=>?_
    refine Ah (Ag q90) ?_ q90n
    unfold D5 at h
    refine Aw ?_
    refine br (fun c87=>?c87y) (fun c87=>?c87n)
    case' c87y=>
     replace h:=Ac h c87
     refine Aa h fun p88 q91 h=>Ak q91 fun q91n q91=>?_
     refine Ah (Ag q91) ?_ q91n
     unfold Cj at h
     refine Aw ?_
     refine br (fun c88=>?c88y) (fun c88=>?c88n)
     case' c88y=>
      replace h:=Ac h c88
      refine Aa h fun p98 q92 h=>Ak q92 fun q92n q92=>?_
      refine Ah (Ag q92) ?_ q92n
      refine br (fun c89=>?c89y) (fun c89=>?c89n)
      case' c89y=>
       replace h:=Ac h c89
       refine Aa h fun p106 q93 h=>Ak q93 fun q93n q93=>?_
       refine Ah (Ag q93) ?_ q93n
       cases h
      case' c89n=>skip
      replace h:=Ad h c89
      cases h
     case' c88n=>skip
     replace h:=Ad h c88
     refine br (fun c90=>?c90y) (fun c90=>?c90n)
     case' c90y=>
      replace h:=Ac h c90
      refine Aa h fun p106 q94 h=>Ak q94 fun q94n q94=>?_
      refine Ah (Ag q94) ?_ q94n
      cases h
     case' c90n=>skip
     replace h:=Ad h c90
     cases h
    case' c87n=>skip
    replace h:=Ad h c87
    unfold Cj at h
    refine Aw ?_
    refine br (fun c91=>?c91y) (fun c91=>?c91n)
    case' c91y=>
     replace h:=Ac h c91
     refine Aa h fun p98 q95 h=>Ak q95 fun q95n q95=>?_
     refine Ah (Ag q95) ?_ q95n
     refine br (fun c92=>?c92y) (fun c92=>?c92n)
     case' c92y=>
      replace h:=Ac h c92
      refine Aa h fun p106 q96 h=>Ak q96 fun q96n q96=>?_
      refine Ah (Ag q96) ?_ q96n
      cases h
     case' c92n=>skip
     replace h:=Ad h c92
     cases h
    case' c91n=>skip
    replace h:=Ad h c91
    refine br (fun c93=>?c93y) (fun c93=>?c93n)
    case' c93y=>
     replace h:=Ac h c93
     refine Aa h fun p106 q97 h=>Ak q97 fun q97n q97=>?_
     refine Ah (Ag q97) ?_ q97n
     cases h
    case' c93n=>skip
    replace h:=Ad h c93
    cases h
   case' c86n=>skip
   replace h:=Ad h c86
   unfold D5 at h
   refine Aw ?_
   refine br (fun c94=>?c94y) (fun c94=>?c94n)
   case' c94y=>
    replace h:=Ac h c94
    refine Aa h fun p88 q98 h=>Ak q98 fun q98n q98=>?_
    refine Ah (Ag q98) ?_ q98n
    unfold Cj at h
    refine Aw ?_
    refine br (fun c95=>?c95y) (fun c95=>?c95n)
    case' c95y=>
     replace h:=Ac h c95
     refine Aa h fun p98 q99 h=>Ak q99 fun q99n q99=>?_
     refine Ah (Ag q99) ?_ q99n
     refine br (fun c96=>?c96y) (fun c96=>?c96n)
     case' c96y=>
      replace h:=Ac h c96
      refine Aa h fun p106 q100 h=>Ak q100 fun q100n q100=>?_
      refine Ah (Ag q100) ?_ q100n
      cases h
     case' c96n=>skip
     replace h:=Ad h c96
     cases h
    case' c95n=>skip
    replace h:=Ad h c95
    refine br (fun c97=>?c97y) (fun c97=>?c97n)
    case' c97y=>
     replace h:=Ac h c97
     refine Aa h fun p106 q101 h=>Ak q101 fun q101n q101=>?_
     refine Ah (Ag q101) ?_ q101n
     cases h
    case' c97n=>skip
    replace h:=Ad h c97
    cases h
   case' c94n=>skip
   replace h:=Ad h c94
   unfold Cj at h
   refine Aw ?_
   refine br (fun c98=>?c98y) (fun c98=>?c98n)
   case' c98y=>
    replace h:=Ac h c98
    refine Aa h fun p98 q102 h=>Ak q102 fun q102n q102=>?_
    refine Ah (Ag q102) ?_ q102n
    refine br (fun c99=>?c99y) (fun c99=>?c99n)
    case' c99y=>
     replace h:=Ac h c99
     refine Aa h fun p106 q103 h=>Ak q103 fun q103n q103=>?_
     refine Ah (Ag q103) ?_ q103n
     cases h
    case' c99n=>skip
    replace h:=Ad h c99
    cases h
   case' c98n=>skip
   replace h:=Ad h c98
   refine br (fun c100=>?c100y) (fun c100=>?c100n)
   case' c100y=>
    replace h:=Ac h c100
    refine Aa h fun p106 q104 h=>Ak q104 fun q104n q104=>?_
    refine Ah (Ag q104) ?_ q104n
    cases h
   case' c100n=>skip
   replace h:=Ad h c100
   cases h
  case' c69n=>skip
  replace h:=Ad h c69
  unfold F7 at h
  refine Aw ?_
  refine br (fun c101=>?c101y) (fun c101=>?c101n)
  case' c101y=>
   replace h:=Ac h c101
   refine Aa h fun p68 q105 h=>Ak q105 fun q105n q105=>?_
   refine Ah (Ag q105) ?_ q105n
   unfold EY at h
   refine Aw ?_
   refine br (fun c102=>?c102y) (fun c102=>?c102n)
   case' c102y=>
    replace h:=Ac h c102
    refine Aa h fun p78 q106 h=>Ak q106 fun q106n q106=>?_
    refine Ah (Ag q106) ?_ q106n
    unfold D5 at h
    refine Aw ?_
    refine br (fun c103=>?c103y) (fun c103=>?c103n)
    case' c103y=>
     replace h:=Ac h c103
     refine Aa h fun p88 q107 h=>Ak q107 fun q107n q107=>?_
     refine Ah (Ag q107) ?_ q107n
     unfold Cj at h
     refine Aw ?_
     refine br (fun c104=>?c104y) (fun c104=>?c104n)
     case' c104y=>
      replace h:=Ac h c104
      refine Aa h fun p98 q108 h=>Ak q108 fun q108n q108=>?_
      refine Ah (Ag q108) ?_ q108n
      refine br (fun c105=>?c105y) (fun c105=>?c105n)
      case' c105y=>
       replace h:=Ac h c105
       refine Aa h fun p106 q109 h=>Ak q109 fun q109n q109=>?_
       refine Ah (Ag q109) ?_ q109n
       cases h
      case' c105n=>skip
      replace h:=Ad h c105
      cases h
     case' c104n=>skip
     replace h:=Ad h c104
     refine br (fun c106=>?c106y) (fun c106=>?c106n)
     case' c106y=>
      replace h:=Ac h c106
      refine Aa h fun p106 q110 h=>Ak q110 fun q110n q110=>?_
      refine Ah (Ag q110) ?_ q110n
      cases h
     case' c106n=>skip
     replace h:=Ad h c106
     cases h
    case' c103n=>skip
    replace h:=Ad h c103
    unfold Cj at h
    refine Aw ?_
    refine br (fun c107=>?c107y) (fun c107=>?c107n)
    case' c107y=>
     replace h:=Ac h c107
     refine Aa h fun p98 q111 h=>Ak q111 fun q111n q111=>?_
     refine Ah (Ag q111) ?_ q111n
     refine br (fun c108=>?c108y) (fun c108=>?c108n)
     case' c108y=>
      replace h:=Ac h c108
      refine Aa h fun p106 q112 h=>Ak q112 fun q112n q112=>?_
      refine Ah (Ag q112) ?_ q112n
      cases h
     case' c108n=>skip
     replace h:=Ad h c108
     cases h
    case' c107n=>skip
    replace h:=Ad h c107
    refine br (fun c109=>?c109y) (fun c109=>?c109n)
    case' c109y=>
     replace h:=Ac h c109
     refine Aa h fun p106 q113 h=>Ak q113 fun q113n q113=>?_
     refine Ah (Ag q113) ?_ q113n
     cases h
    case' c109n=>skip
    replace h:=Ad h c109
    cases h
   case' c102n=>skip
   replace h:=Ad h c102
   unfold D5 at h
   refine Aw ?_
   refine br (fun c110=>?c110y) (fun c110=>?c110n)
   case' c110y=>
    replace h:=Ac h c110
    refine Aa h fun p88 q114 h=>Ak q114 fun q114n q114=>?_
    refine Ah (Ag q114) ?_ q114n
    unfold Cj at h
    refine Aw ?_
    refine br (fun c111=>?c111y) (fun c111=>?c111n)
    case' c111y=>
     replace h:=Ac h c111
     refine Aa h fun p98 q115 h=>Ak q115 fun q115n q115=>?_
     refine Ah (Ag q115) ?_ q115n
     refine br (fun c112=>?c112y) (fun c112=>?c112n)
     case' c112y=>
      replace h:=Ac h c112
      refine Aa h fun p106 q116 h=>Ak q116 fun q116n q116=>?_
      refine Ah (Ag q116) ?_ q116n
      cases h
     case' c112n=>skip
     replace h:=Ad h c112
     cases h
    case' c111n=>skip
    replace h:=Ad h c111
    refine br (fun c113=>?c113y) (fun c113=>?c113n)
    case' c113y=>
     replace h:=Ac h c113
     refine Aa h fun p106 q117 h=>Ak q117 fun q117n q117=>?_
     refine Ah (Ag q117) ?_ q117n
     cases h
    case' c113n=>skip
    replace h:=Ad h c113
    cases h
   case' c110n=>skip
   replace h:=Ad h c110
   unfold Cj at h
   refine Aw ?_
   refine br (fun c114=>?c114y) (fun c114=>?c114n)
   case' c114y=>
    replace h:=Ac h c114
    refine Aa h fun p98 q118 h=>Ak q118 fun q118n q118=>?_
    refine Ah (Ag q118) ?_ q118n
    refine br (fun c115=>?c115y) (fun c115=>?c115n)
    case' c115y=>
     replace h:=Ac h c115
     refine Aa h fun p106 q119 h=>Ak q119 fun q119n q119=>?_
     refine Ah (Ag q119) ?_ q119n
     cases h
    case' c115n=>skip
    replace h:=Ad h c115
    cases h
   case' c114n=>skip
   replace h:=Ad h c114
   refine br (fun c116=>?c116y) (fun c116=>?c116n)
   case' c116y=>
    replace h:=Ac h c116
    refine Aa h fun p106 q120 h=>Ak q120 fun q120n q120=>?_
    refine Ah (Ag q120) ?_ q120n
    cases h
   case' c116n=>skip
   replace h:=Ad h c116
   cases h
  case' c101n=>skip
  replace h:=Ad h c101
  unfold EY at h
  refine Aw ?_
  refine br (fun c117=>?c117y) (fun c117=>?c117n)
  case' c117y=>
   replace h:=Ac h c117
   refine Aa h fun p78 q121 h=>Ak q121 fun q121n q121=>?_
   refine Ah (Ag q121) ?_ q121n
   unfold D5 at h
   refine Aw ?_
   refine br (fun c118=>?c118y) (fun c118=>?c118n)
   case' c118y=>
    replace h:=Ac h c118
    refine Aa h fun p88 q122 h=>Ak q122 fun q122n q122=>?_
    refine Ah (Ag q122) ?_ q122n
    unfold Cj at h
    refine Aw ?_
    refine br (fun c119=>?c119y) (fun c119=>?c119n)
    case' c119y=>
     replace h:=Ac h c119
     refine Aa h fun p98 q123 h=>Ak q123 fun q123n q123=>?_
     refine Ah (Ag q123) ?_ q123n
     refine br (fun c120=>?c120y) (fun c120=>?c120n)
     case' c120y=>
      replace h:=Ac h c120
      refine Aa h fun p106 q124 h=>Ak q124 fun q124n q124=>?_
      refine Ah (Ag q124) ?_ q124n
      cases h
     case' c120n=>skip
     replace h:=Ad h c120
     cases h
    case' c119n=>skip
    replace h:=Ad h c119
    refine br (fun c121=>?c121y) (fun c121=>?c121n)
    case' c121y=>
     replace h:=Ac h c121
     refine Aa h fun p106 q125 h=>Ak q125 fun q125n q125=>?_
     refine Ah (Ag q125) ?_ q125n
     cases h
    case' c121n=>skip
    replace h:=Ad h c121
    cases h
   case' c118n=>skip
   replace h:=Ad h c118
   unfold Cj at h
   refine Aw ?_
   refine br (fun c122=>?c122y) (fun c122=>?c122n)
   case' c122y=>
    replace h:=Ac h c122
    refine Aa h fun p98 q126 h=>Ak q126 fun q126n q126=>?_
    refine Ah (Ag q126) ?_ q126n
    refine br (fun c123=>?c123y) (fun c123=>?c123n)
    case' c123y=>
     replace h:=Ac h c123
     refine Aa h fun p106 q127 h=>Ak q127 fun q127n q127=>?_
     refine Ah (Ag q127) ?_ q127n
     cases h
    case' c123n=>skip
    replace h:=Ad h c123
    cases h
   case' c122n=>skip
   replace h:=Ad h c122
   refine br (fun c124=>?c124y) (fun c124=>?c124n)
   case' c124y=>
    replace h:=Ac h c124
    refine Aa h fun p106 q128 h=>Ak q128 fun q128n q128=>?_
    refine Ah (Ag q128) ?_ q128n
    cases h
   case' c124n=>skip
   replace h:=Ad h c124
   cases h
  case' c117n=>skip
  replace h:=Ad h c117
  unfold D5 at h
  refine Aw ?_
  refine br (fun c125=>?c125y) (fun c125=>?c125n)
  case' c125y=>
   replace h:=Ac h c125
   refine Aa h fun p88 q129 h=>Ak q129 fun q129n q129=>?_
   refine Ah (Ag q129) ?_ q129n
   unfold Cj at h
   refine Aw ?_
   refine br (fun c126=>?c126y) (fun c126=>?c126n)
   case' c126y=>
    replace h:=Ac h c126
    refine Aa h fun p98 q130 h=>Ak q130 fun q130n q130=>?_
    refine Ah (Ag q130) ?_ q130n
    refine br (fun c127=>?c127y) (fun c127=>?c127n)
    case' c127y=>
     replace h:=Ac h c127
     refine Aa h fun p106 q131 h=>Ak q131 fun q131n q131=>?_
     refine Ah (Ag q131) ?_ q131n
     cases h
    case' c127n=>skip
    replace h:=Ad h c127
    cases h
   case' c126n=>skip
   replace h:=Ad h c126
   refine br (fun c128=>?c128y) (fun c128=>?c128n)
   case' c128y=>
    replace h:=Ac h c128
    refine Aa h fun p106 q132 h=>Ak q132 fun q132n q132=>?_
    refine Ah (Ag q132) ?_ q132n
    cases h
   case' c128n=>skip
   replace h:=Ad h c128
   cases h
  case' c125n=>skip
  replace h:=Ad h c125
  unfold Cj at h
  refine Aw ?_
  refine br (fun c129=>?c129y) (fun c129=>?c129n)
  case' c129y=>
   replace h:=Ac h c129
   refine Aa h fun p98 q133 h=>Ak q133 fun q133n q133=>?_
   refine Ah (Ag q133) ?_ q133n
   refine br (fun c130=>?c130y) (fun c130=>?c130n)
   case' c130y=>
    replace h:=Ac h c130
    refine Aa h fun p106 q134 h=>Ak q134 fun q134n q134=>?_
    refine Ah (Ag q134) ?_ q134n
    cases h
   case' c130n=>skip
   replace h:=Ad h c130
   cases h
  case' c129n=>skip
  replace h:=Ad h c129
  refine br (fun c131=>?c131y) (fun c131=>?c131n)
  case' c131y=>
   replace h:=Ac h c131
   refine Aa h fun p106 q135 h=>Ak q135 fun q135n q135=>?_
   refine Ah (Ag q135) ?_ q135n
   cases h
  case' c131n=>skip
  replace h:=Ad h c131
  cases h
 all_goals (refine CJ ?_;simp only [Bo,fits,C.asD,and_true]<;>(first|exact rfl|trivial|exact ⟨rfl,rfl⟩|exact ⟨rfl,rfl,rfl⟩|(simp [*];done)|(simp_all;done)|(simp only [Dy] at *;simp_all;first|done|rfl)))
set_option maxHeartbeats 16000000 in
theorem Avt (line:ByteArray) (r:Au×Bool)(h:BM line=some r):AP Tryz.prog 15 [.sc (.string line)] [.d (Jl r.1),.d (.sc (.bool r.2))]:=by
 refine T.fn [] Tryz.func15 ?_
 unfold BM at h
 refine Ce h fun g1 h=>?_
 refine Ar T.AqH (Ap7 line g1) ?_
 refine And.intro ⟨T.mixed,by decide +kernel⟩ ?_
 refine Ar T.XR (Vp ) ?_
 refine Aa h fun p15 q1 h=>Ak q1 fun q1n q1=>?_
 refine Ah (Ag q1) ?_ q1n
 refine Aa h fun r17 q2 h=>?_
 refine Ar T.Yl (WE (CX) p15 r17 q2) ?_
 refine br (fun c1=>?c1y) (fun c1=>?c1n)
 case' c1y=>
  replace h:=Ac h c1
  refine Aa h fun y23 q3 h=>OL q3 fun q3a q3b q3c q3=>?_
  refine Es ?_ q3a
  refine Qh ?_ (CB _ fun _=>rfl) q3a q3b q3c q3
  refine Aa h fun r24 q4 h=>?_
  refine Ar T.Aqs (Afy r17 y23 r24 q4) ?_
  refine br (fun c2=>?c2y) (fun c2=>?c2n)
  case' c2y=>
   replace h:=Ac h (nf c2)
   cases h
  case' c2n=>skip
  replace h:=Ad h (fun k=>k c2)
  cases h
 case' c1n=>
  replace h:=Ad h c1
  refine And.intro ⟨T.mixed,by decide +kernel⟩ ?_
  refine Ar T.Ad4 (AcQ ) ?_
  refine Aa h fun p33 q5 h=>Ak q5 fun q5n q5=>?_
  refine Ah (Ag q5) ?_ q5n
  refine Aa h fun r35 q6 h=>?_
  refine Ar T.Yl (WE (En) p33 r35 q6) ?_
  refine br (fun c3=>?c3y) (fun c3=>?c3n)
  case' c3y=>
   replace h:=Ac h c3
   cases h
  case' c3n=>skip
  replace h:=Ad h c3
  refine And.intro ⟨T.mixed,by decide +kernel⟩ ?_
  refine Aa h fun y41 q7 h=>OL q7 fun q7a q7b q7c q7=>?_
  refine Es ?_ q7a
  refine Qh ?_ (CB _ fun _=>rfl) q7a q7b q7c q7
  refine Ar T.Ad4 (AcQ ) ?_
  refine Aa h fun p44 q8 h=>Ak q8 fun q8n q8=>?_
  refine Ah (Ag q8) ?_ q8n
  refine Aa h fun r47 q9 h=>?_
  refine Ar T.SE (SI y41 p44.words r47 q9) ?_
  refine br (fun c4=>?c4y) (fun c4=>?c4n)
  case' c4y=>
   replace h:=Ac h (nf c4)
   cases h
  case' c4n=>skip
  replace h:=Ad h (fun k=>k c4)
  refine br (fun c5=>?c5y) (fun c5=>?c5n)
  case' c5y=>
   refine brT ?_
   replace h:=Ac h (.inl c5)
   refine Aa h fun p61 q10 h=>Ak q10 fun q10n q10=>?_
   refine Ah (Ag q10) ?_ q10n
   refine Aa h fun p66 q11 h=>Ak q11 fun q11n q11=>?_
   refine Ah (Ag q11) ?_ q11n
   cases h
  case' c5n=>skip
  refine br (fun c6=>?c6y) (fun c6=>?c6n)
  case' c6y=>
   replace h:=Ac h (.inr c6)
   refine Aa h fun p61 q12 h=>Ak q12 fun q12n q12=>?_
   refine Ah (Ag q12) ?_ q12n
   refine Aa h fun p66 q13 h=>Ak q13 fun q13n q13=>?_
   refine Ah (Ag q13) ?_ q13n
   cases h
  case' c6n=>skip
  replace h:=Ad h (fun k=>k.elim c5 c6)
  refine br (fun c7=>?c7y) (fun c7=>?c7n)
  case' c7y=>
   refine brT ?_
   replace h:=Ac h (.inl c7)
   refine Aa h fun p75 q14 h=>Ak q14 fun q14n q14=>?_
   refine Ah (Ag q14) ?_ q14n
   cases h
  case' c7n=>skip
  refine br (fun c8=>?c8y) (fun c8=>?c8n)
  case' c8y=>
   refine brT ?_
   replace h:=Ac h (.inr (.inl c8))
   refine Aa h fun p75 q15 h=>Ak q15 fun q15n q15=>?_
   refine Ah (Ag q15) ?_ q15n
   cases h
  case' c8n=>skip
  refine br (fun c9=>?c9y) (fun c9=>?c9n)
  case' c9y=>
   replace h:=Ac h (.inr (.inr c9))
   refine Aa h fun p75 q16 h=>Ak q16 fun q16n q16=>?_
   refine Ah (Ag q16) ?_ q16n
   cases h
  case' c9n=>skip
  replace h:=Ad h (fun k=>k.elim c7 (fun k=>k.elim c8 c9))
  refine br (fun c10=>?c10y) (fun c10=>?c10n)
  case' c10y=>
   replace h:=Ac h c10
   refine Aa h fun p82 q17 h=>Ak q17 fun q17n q17=>?_
   refine Ah (Ag q17) ?_ q17n
   refine Aa h fun p87 q18 h=>Ak q18 fun q18n q18=>?_
   refine Ah (Ag q18) ?_ q18n
   refine Aa h fun p92 q19 h=>Ak q19 fun q19n q19=>?_
   refine Ah (Ag q19) ?_ q19n
   cases h
  case' c10n=>skip
  replace h:=Ad h c10
  refine br (fun c11=>?c11y) (fun c11=>?c11n)
  case' c11y=>
   refine brT ?_
   replace h:=Ac h (.inl c11)
   refine Aa h fun p100 q20 h=>Ak q20 fun q20n q20=>?_
   refine Ah (Ag q20) ?_ q20n
   refine Aa h fun p105 q21 h=>Ak q21 fun q21n q21=>?_
   refine Ah (Ag q21) ?_ q21n
   cases h
  case' c11n=>skip
  refine br (fun c12=>?c12y) (fun c12=>?c12n)
  case' c12y=>
   replace h:=Ac h (.inr c12)
   refine Aa h fun p100 q22 h=>Ak q22 fun q22n q22=>?_
   refine Ah (Ag q22) ?_ q22n
   refine Aa h fun p105 q23 h=>Ak q23 fun q23n q23=>?_
   refine Ah (Ag q23) ?_ q23n
   cases h
  case' c12n=>skip
  replace h:=Ad h (fun k=>k.elim c11 c12)
  refine br (fun c13=>?c13y) (fun c13=>?c13n)
  case' c13y=>
   replace h:=Ac h c13
   refine Aa h fun p112 q24 h=>Ak q24 fun q24n q24=>?_
   refine Ah (Ag q24) ?_ q24n
   cases h
  case' c13n=>skip
  replace h:=Ad h c13
  cases h
 all_goals (refine CJ ?_;simp only [Bo,fits,C.asD,and_true]<;>(first|exact rfl|trivial|exact ⟨rfl,rfl⟩|exact ⟨rfl,rfl,rfl⟩|(simp [*];done)|(simp_all;done)|(simp only [Dy] at *;simp_all;first|done|rfl)))
set_option maxHeartbeats 16000000 in
theorem Abd (a:Au)(b:Au) (r:Bool)(h:Ov a b=some r):AP Tryz.prog 18 [Jl a,Jl b] [.d (.sc (.bool r))]:=by
 refine T.fn [] Tryz.func18 ?_
 unfold Ov at h
 refine And.intro ⟨T.mixed,by decide +kernel⟩ ?_
 refine br (fun c1=>?c1y) (fun c1=>?c1n)
 case' c1y=>
  replace h:=Ac h c1
  refine br (fun c2=>?c2y) (fun c2=>?c2n)
  case' c2y=>
   replace h:=Ac h c2
   refine br (fun c3=>?c3y) (fun c3=>?c3n)
   case' c3y=>
    replace h:=Ac h c3
    refine br (fun c4=>?c4y) (fun c4=>?c4n)
    case' c4y=>
     replace h:=Ac h c4
     refine br (fun c5=>?c5y) (fun c5=>?c5n)
     case' c5y=>
      replace h:=Ac h c5
      refine br (fun c6=>?c6y) (fun c6=>?c6n)
      case' c6y=>
       replace h:=Ac h c6
       refine br (fun c7=>?c7y) (fun c7=>?c7n)
       case' c7y=>
        replace h:=Ac h c7
        refine br (fun c8=>?c8y) (fun c8=>?c8n)
        case' c8y=>
         replace h:=Ac h c8
         refine br (fun c9=>?c9y) (fun c9=>?c9n)
         case' c9y=>
          replace h:=Ac h c9
          refine br (fun c10=>?c10y) (fun c10=>?c10n)
          case' c10y=>
           replace h:=Ac h c10
           refine IL a.deed.at_ b.deed.at_ ?_
           refine br (fun c11=>?c11y) (fun c11=>?c11n)
           case' c11y=>
            replace h:=Ac h c11
            refine br (fun c12=>?c12y) (fun c12=>?c12n)
            case' c12y=>
             replace h:=Ac h c12
             refine br (fun c13=>?c13y) (fun c13=>?c13n)
             case' c13y=>
              replace h:=Ac h c13
              refine AaZ a.deed.tag b.deed.tag ?_
              refine br (fun c14=>?c14y) (fun c14=>?c14n)
              case' c14y=>
               replace h:=Ac h c14
               refine Ce h fun g1 h=>?_
               refine Ar T.Aqz (Aq8 a.deed.lens b.deed.lens g1) ?_
               cases h
              case' c14n=>skip
              replace h:=Ad h c14
              cases h
             case' c13n=>skip
             replace h:=Ad h c13
             refine brF ?_
             cases h
            case' c12n=>skip
            replace h:=Ad h c12
            refine brF ?_
            refine brF ?_
            cases h
           case' c11n=>skip
           replace h:=Ad h c11
           refine brF ?_
           refine brF ?_
           refine brF ?_
           cases h
          case' c10n=>skip
          replace h:=Ad h c10
          refine brF ?_
          refine brF ?_
          refine brF ?_
          refine brF ?_
          cases h
         case' c9n=>skip
         replace h:=Ad h c9
         refine brF ?_
         refine brF ?_
         refine brF ?_
         refine brF ?_
         refine brF ?_
         cases h
        case' c8n=>skip
        replace h:=Ad h c8
        refine brF ?_
        refine brF ?_
        refine brF ?_
        refine brF ?_
        refine brF ?_
        refine brF ?_
        cases h
       case' c7n=>skip
       replace h:=Ad h c7
       refine brF ?_
       refine brF ?_
       refine brF ?_
       refine brF ?_
       refine brF ?_
       refine brF ?_
       refine brF ?_
       cases h
      case' c6n=>skip
      replace h:=Ad h c6
      refine brF ?_
      refine brF ?_
      refine brF ?_
      refine brF ?_
      refine brF ?_
      refine brF ?_
      refine brF ?_
      refine brF ?_
      cases h
     case' c5n=>skip
     replace h:=Ad h c5
     refine brF ?_
     refine brF ?_
     refine brF ?_
     refine brF ?_
     refine brF ?_
     refine brF ?_
     refine brF ?_
     refine brF ?_
     refine brF ?_
     cases h
    case' c4n=>skip
    replace h:=Ad h c4
    refine brF ?_
    refine brF ?_
    refine brF ?_
    refine brF ?_
    refine brF ?_
    refine brF ?_
    refine brF ?_
    refine brF ?_
    refine brF ?_
    refine brF ?_
    cases h
   case' c3n=>skip
   replace h:=Ad h c3
   refine brF ?_
   refine brF ?_
   refine brF ?_
   refine brF ?_
   refine brF ?_
   refine brF ?_
   refine brF ?_
   refine brF ?_
   refine brF ?_
   refine brF ?_
   refine brF ?_
   cases h
  case' c2n=>skip
  replace h:=Ad h c2
  refine brF ?_
  refine brF ?_
  refine brF ?_
  refine brF ?_
  refine brF ?_
  refine brF ?_
  refine brF ?_
  refine brF ?_
  refine brF ?_
  refine brF ?_
  refine brF ?_
  refine brF ?_
  cases h
 case' c1n=>
  replace h:=Ad h c1
  refine brF ?_
  refine brF ?_
  refine brF ?_
  refine brF ?_
  refine brF ?_
  refine brF ?_
  refine brF ?_
  refine brF ?_
  refine brF ?_
  refine brF ?_
  refine brF ?_
  refine brF ?_
  refine brF ?_
  cases h
 all_goals (refine CJ ?_;simp only [Bo,fits,C.asD,and_true]<;>(first|exact rfl|trivial|exact ⟨rfl,rfl⟩|exact ⟨rfl,rfl,rfl⟩|(simp [*];done)|(simp_all;done)|(simp only [Dy] at *;simp_all;first|done|rfl)))
end Go.Vm
end
section
namespace Go.Rn
open Go.RowKit
inductive V where
 |sc (v:Value)
 |agg (cs:List V)
 |tup (cs:List V)
 |ptr (id off:Nat)
 |sl (id off sz n:Nat) (cap:Option Nat)
 |mp (id:Nat)
 |it (id:Nat)
 |fn (f:FuncId) (cs:List V)
 |opq (k:Nat)
instance:Inhabited V:=⟨.tup []⟩
inductive Blk where
 |cells (cs:List V)
 |ro (cs:List V)
 |map (es:List (V×V))
 |iter (m:Option Nat) (n k:Nat)
structure Pl where
 b:Nat
 base:Nat
 room:Nat
 sz:Nat
structure Pi where
 pl:Nat→Option Pl
 op:Nat→Value
 fl:List (Nat×Obj):=[]
def Pi.sub (π π':Pi):Prop:=(∀id p,π.pl id=some p→π'.pl id=some p)∧π'.op=π.op
def Pi.le (π π':Pi):Prop:=(∀id p,π.pl id=some p→π'.pl id=some p)∧π'.op=π.op∧π'.fl=π.fl
theorem Pi.le.sub {π π':Pi}(h:π.le π'):π.sub π':=⟨h.1,h.2.1⟩
theorem Pi.le_refl (π:Pi):π.le π:=⟨fun _ _ h=>h,rfl,rfl⟩
theorem Pi.le_trans {a b c:Pi}(h:a.le b)(k:b.le c):a.le c:=⟨fun id p e=>k.1 id p (h.1 id p e),k.2.1.trans h.2.1,k.2.2.trans h.2.2⟩
theorem Pi.RN {a b c:Pi}(h:a.sub b)(k:b.sub c):a.sub c:=⟨fun id p e=>k.1 id p (h.1 id p e),k.2.trans h.2⟩
def V.one:V→Bool
 | .agg _=>false
 | .tup _=>false
 |_=>true
def V.cells:V→List V
 | .agg cs=>cs
 |v=>[v]
def capOf (p:Pl)(off:Nat)(c:Option Nat):Nat:=match c with
 |some k=>k
 |none=>(p.room-off) / p.sz
mutual
def Ai (π:Pi):V→Option Value
 | .sc v=>if v.oneCell' then some v else none
 | .agg cs=>if cs.all V.one then (AO π cs).map fun us=>.agg us.toArray else none
 | .tup cs=>(AO π cs).map fun us=>.tuple us.toArray
 | .ptr id off=>match π.pl id with
  |some p=>some (.pointer (some ⟨p.b,p.base+off,none⟩))
  |none=>none
 | .sl id off sz n c=>match π.pl id with
  |some p=>if p.sz=sz∧n≤capOf p off c∧off+capOf p off c*p.sz≤p.room∧capOf p off c≤maxLen then some (.slice (some ⟨p.b,p.base+off,none⟩) n (capOf p off c)) else none
  |none=>none
 | .mp id=>match π.pl id with
  |some p=>some (.map (some p.b))
  |none=>none
 | .it id=>match π.pl id with
  |some p=>some (.pointer (some ⟨p.b,0,none⟩))
  |none=>none
 | .fn f cs=>(AO π cs).map fun us=>.func (.func f) #[] us.toArray
 | .opq k=>if (π.op k).oneCell' then some (π.op k) else none
def AO (π:Pi):List V→Option (List Value)
 | []=>some []
 |c::cs=>match Ai π c,AO π cs with
  |some u,some us=>some (u::us)
  |_,_=>none
end
theorem L8 {π:Pi}{c:V}{cs:List V}{us:List Value}(h:AO π (c::cs)=some us):∃u us',Ai π c=some u∧AO π cs=some us'∧us=u::us':=by
 rw [AO] at h
 split at h
 ·rename_i u us' h1 h2
  injection h with h
  exact ⟨u,us',h1,h2,h.symm⟩
 ·cases h
theorem Fg {π:Pi}:∀{cs:List V} {us:List Value},AO π cs=some us→us.length=cs.length
 | [],us,h=>by rw [AO] at h;injection h with h;subst h;rfl
 |c::cs,us,h=>by
  obtain ⟨u,us',_,h2,rfl⟩:=L8 h
  simp [Fg h2]
theorem Mc {π:Pi}:∀{cs:List V} {us:List Value} {i:Nat} {c:V},AO π cs=some us→cs[i]? = some c→∃u,us[i]? = some u∧Ai π c=some u
 | [],us,i,c,_,hc=>by simp at hc
 |d::cs,us,0,c,h,hc=>by
  obtain ⟨u,us',h1,h2,rfl⟩:=L8 h
  simp at hc;subst hc
  exact ⟨u,rfl,h1⟩
 |d::cs,us,i+1,c,h,hc=>by
  obtain ⟨u,us',h1,h2,rfl⟩:=L8 h
  obtain ⟨x,hx,hy⟩:=Mc h2 (i:=i) (by simpa using hc)
  exact ⟨x,by simpa using hx,hy⟩
theorem Tj {π:Pi}:∀{cs:List V} {us:List Value},us.length=cs.length→(∀(i:Nat) (u:Value) (c:V),us[i]? = some u→cs[i]? = some c→Ai π c=some u)→AO π cs=some us
 | [],us,hl,_=>by
  have e:us= []:=List.length_eq_zero_iff.1 (by simpa using hl)
  subst e;rw [AO]
 |c::cs,[],hl,_=>by simp at hl
 |c::cs,u::us,hl,h=>by
  rw [AO,h 0 u c rfl rfl,Tj (us:=us) (by simpa using hl) (fun i u c h1 h2=>h (i+1) u c (by simpa using h1) (by simpa using h2))]
theorem O8 {π:Pi}:∀{cs ds:List V} {us vs:List Value},AO π cs=some us→AO π ds=some vs→AO π (cs++ds)=some (us++vs)
 | [],ds,us,vs,h,k=>by rw [AO] at h;injection h with h;subst h;exact k
 |c::cs,ds,us,vs,h,k=>by
  obtain ⟨u,us',h1,h2,rfl⟩:=L8 h
  rw [List.cons_append,AO,h1,O8 h2 k];rfl
theorem Nh {π:Pi}(n:Nat){cs:List V}{us:List Value}(h:AO π cs=some us):AO π (cs.take n)=some (us.take n):=by
 have hl:=Fg h
 refine Tj (by simp [hl]) fun i u c h1 h2=>?_
 rw [List.getElem?_take] at h1 h2
 split at h1
 ·rw [if_pos (by assumption)] at h2
  obtain ⟨u',h3,h4⟩:=Mc h h2
  rw [h1] at h3;injection h3 with h3;subst h3;exact h4
 ·cases h1
theorem NI {π:Pi}(n:Nat){cs:List V}{us:List Value}(h:AO π cs=some us):AO π (cs.drop n)=some (us.drop n):=by
 have hl:=Fg h
 refine Tj (by simp [hl]) fun i u c h1 h2=>?_
 rw [List.getElem?_drop] at h1 h2
 obtain ⟨u',h3,h4⟩:=Mc h h2
 rw [h1] at h3;injection h3 with h3;subst h3;exact h4
mutual
theorem Ol {π π':Pi}(hl:π.sub π'):∀{v:V} {u:Value},Ai π v=some u→Ai π' v=some u
 | .sc v,u,h=>by rw [Ai] at h ⊢;exact h
 | .agg cs,u,h=>by
  rw [Ai] at h ⊢
  split at h
  ·rename_i ho
   rw [if_pos ho]
   obtain ⟨us,h1,h2⟩:=Option.map_eq_some_iff.1 h
   rw [NC hl h1,←h2];rfl
  ·cases h
 | .tup cs,u,h=>by
  rw [Ai] at h ⊢
  obtain ⟨us,h1,h2⟩:=Option.map_eq_some_iff.1 h
  rw [NC hl h1,←h2];rfl
 | .ptr id off,u,h=>by
  rw [Ai] at h ⊢
  split at h
  ·rename_i p hp;rw [hl.1 id p hp];exact h
  ·cases h
 | .sl id off sz n c,u,h=>by
  rw [Ai] at h ⊢
  split at h
  ·rename_i p hp;rw [hl.1 id p hp];exact h
  ·cases h
 | .mp id,u,h=>by
  rw [Ai] at h ⊢
  split at h
  ·rename_i p hp;rw [hl.1 id p hp];exact h
  ·cases h
 | .it id,u,h=>by
  rw [Ai] at h ⊢
  split at h
  ·rename_i p hp;rw [hl.1 id p hp];exact h
  ·cases h
 | .fn f cs,u,h=>by
  rw [Ai] at h ⊢
  obtain ⟨us,h1,h2⟩:=Option.map_eq_some_iff.1 h
  rw [NC hl h1,←h2];rfl
 | .opq k,u,h=>by rw [Ai] at h ⊢;rw [hl.2];exact h
theorem NC {π π':Pi}(hl:π.sub π'):∀{cs:List V} {us:List Value},AO π cs=some us→AO π' cs=some us
 | [],us,h=>by rw [AO] at h ⊢;exact h
 |c::cs,us,h=>by
  obtain ⟨u,us',h1,h2,rfl⟩:=L8 h
  rw [AO,Ol hl h1,NC hl h2]
end
theorem AuI {π π':Pi}(hl:π.le π'){v:V}{u:Value}(h:Ai π v=some u):Ai π' v=some u:=Ol hl.sub h
theorem Wn {π π':Pi}(hl:π.le π'){cs:List V}{us:List Value}(h:AO π cs=some us):AO π' cs=some us:=NC hl.sub h
theorem Abx {π:Pi}{v:V}{u:Value}(h:Ai π v=some u)(ho:v.one=true):u.oneCell'=true:=by
 cases v with
 |sc x=>rw [Ai] at h;split at h<;>first|(injection h with h;subst h;assumption)|cases h
 |agg cs=>cases ho
 |tup cs=>cases ho
 |ptr id off=>rw [Ai] at h;split at h<;>first|(injection h with h;subst h;rfl)|cases h
 |sl id off sz n c=>
  rw [Ai] at h
  split at h
  ·split at h<;>first|(injection h with h;subst h;rfl)|cases h
  ·cases h
 |mp id=>rw [Ai] at h;split at h<;>first|(injection h with h;subst h;rfl)|cases h
 |it id=>rw [Ai] at h;split at h<;>first|(injection h with h;subst h;rfl)|cases h
 |fn f cs=>rw [Ai] at h;obtain ⟨us,_,rfl⟩:=Option.map_eq_some_iff.1 h;rfl
 |opq k=>rw [Ai] at h;split at h<;>first|(injection h with h;subst h;assumption)|cases h
theorem cells_one {u:Value}(h:u.oneCell'=true):u.cells = #[u]:=by cases u<;>simp_all [Value.cells,Value.oneCell']
theorem SY {π:Pi}{v:V}{u:Value}(h:Ai π v=some u)(hn:∀cs,v≠.tup cs):AO π v.cells=some u.cells.toList∧∀x∈u.cells.toList,x.oneCell'=true:=by
 by_cases ho:v.one=true
 ·have h1:=Abx h ho
  rw [cells_one h1]
  have e:v.cells= [v]:=by cases v<;>first|rfl|cases ho
  rw [e,AO,h,AO]
  exact ⟨rfl,fun x hx=>by simp at hx;rw [hx];exact h1⟩
 ·cases v with
  |agg cs=>
   rw [Ai] at h
   split at h
   ·rename_i hall
    obtain ⟨us,h1,rfl⟩:=Option.map_eq_some_iff.1 h
    refine ⟨by simpa [V.cells,Value.cells] using h1,fun x hx=>?_⟩
    have hx:x∈us:=by simpa [Value.cells] using hx
    obtain ⟨i,hi,rfl⟩:=List.getElem_of_mem hx
    have hl:=Fg h1
    obtain ⟨u',h3,h4⟩:=Mc h1 (List.getElem?_eq_getElem (show i<cs.length by omega))
    rw [List.getElem?_eq_getElem hi] at h3;injection h3 with h3
    rw [h3]
    exact Abx h4 (List.all_eq_true.1 hall _ (List.getElem_mem ..))
   ·cases h
  |tup cs=>exact absurd rfl (hn cs)
  |_=>exact absurd rfl ho
end Go.Rn
end
section
namespace Go.Rn
abbrev I9:Nat→Option (List Value):=Go.I9
end Go.Rn
end
section
namespace Go.Rn
open Go.RowKit
def Blk.rw:Blk→Bool
 | .ro _=>false
 |_=>true
abbrev Hp:=Nat→Option Blk
def hset (h:Hp)(id:Nat)(b:Option Blk):Hp:=fun k=>if k=id then b else h k
def Pi.put (π:Pi)(id:Nat)(p:Pl):Pi:=⟨fun k=>if k=id then some p else π.pl k,π.op,π.fl⟩
theorem Pi.JM {π:Pi}{id:Nat}{p:Pl}(h:π.pl id=none):π.le (π.put id p):=⟨fun k q e=>by
 show (if k=id then some p else π.pl k)=some q
 rw [if_neg (by rintro rfl;rw [h] at e;cases e)]
 exact e,rfl,rfl⟩
theorem Pi.EM (π:Pi)(id:Nat)(p:Pl):(π.put id p).pl id=some p:=if_pos rfl
theorem Pi.ER {π:Pi}{id k:Nat}{p:Pl}(h:k≠id):(π.put id p).pl k=π.pl k:=if_neg h
def Pv (π:Pi)(es:List (V×V))(arr:Array MapEntry):Prop:=
 arr.size=es.length∧∀(i:Nat) (e:MapEntry),arr.toList[i]? = some e→e.born=i∧∃kv:V×V,es[i]? = some kv∧Ai π kv.1=some e.key∧Ai π kv.2=some e.val
def FD (π:Pi)(w:World)(p:Pl):Blk→Prop
 | .cells cs=>∃(arr:Array Value) (e:TypeId) (us:List Value),w.heap[p.b]? = some (.cells arr e (0,0))∧arr.size=p.base+p.room∧AO π cs=some us∧(∀u∈us,u.oneCell'=true)∧cs.length≤p.room∧∀(j:Nat) (u:Value),us[j]? = some u→arr.toList[p.base+j]? = some u
 | .ro cs=>∃us:List Value,AO π cs=some us∧(∀u∈us,u.oneCell'=true)∧∀(j:Nat) (u:Value),us[j]? = some u→w.cell? ⟨p.b,p.base+j,none⟩=some u
 | .map es=>∃arr:Array MapEntry,w.heap[p.b]? = some (.map arr es.length)∧Pv π es arr
 | .iter m n k=>match m with
  |none=>w.heap[p.b]? = some (.mapIter none 0 #[] 0)
  |some id=>∃q:Pl,π.pl id=some q∧k≤n∧n≤1∧w.heap[p.b]? = some (.mapIter (some q.b) n (if k=0 then #[] else #[0]) n)
theorem AkJ {π π':Pi}(hl:π.sub π'){es:List (V×V)}{arr:Array MapEntry}(h:Pv π es arr):Pv π' es arr:=
 ⟨h.1,fun i e he=>by
  obtain ⟨h1,kv,h2,h3,h4⟩:=h.2 i e he
  exact ⟨h1,kv,h2,Ol hl h3,Ol hl h4⟩⟩
theorem FD.sub {π π':Pi}(hl:π.sub π'){w:World}{p:Pl}{b:Blk}(h:FD π w p b):FD π' w p b:=by
 cases b with
 |cells cs=>
  obtain ⟨arr,e,us,h1,h2,h3,h4⟩:=h
  exact ⟨arr,e,us,h1,h2,NC hl h3,h4⟩
 |ro cs=>
  obtain ⟨us,h3,h4⟩:=h
  exact ⟨us,NC hl h3,h4⟩
 |map es=>
  obtain ⟨arr,h1,h2⟩:=h
  exact ⟨arr,h1,AkJ hl h2⟩
 |iter m n k=>
  cases m with
  |none=>exact h
  |some id=>
   obtain ⟨q,h1,h2⟩:=h
   exact ⟨q,hl.1 id q h1,h2⟩
theorem FD.le {π π':Pi}(hl:π.le π'){w:World}{p:Pl}{b:Blk}(h:FD π w p b):FD π' w p b:=FD.sub hl.sub h
theorem FD.keep {π:Pi}{w w':World}{p:Pl}{b:Blk}(h:FD π w p b)(e:w'.heap[p.b]? = w.heap[p.b]?):FD π w' p b:=by
 cases b with
 |cells cs=>
  obtain ⟨arr,ee,us,h1,h2⟩:=h
  exact ⟨arr,ee,us,by rw [e];exact h1,h2⟩
 |ro cs=>
  obtain ⟨us,h3,h4,h5⟩:=h
  exact ⟨us,h3,h4,fun j u hj=>by rw [←h5 j u hj];exact World.cell?_of_block (w:=w) e⟩
 |map es=>
  obtain ⟨arr,h1,h2⟩:=h
  exact ⟨arr,by rw [e];exact h1,h2⟩
 |iter m n k=>
  cases m with
  |none=>exact e.trans h
  |some id=>
   obtain ⟨q,h1,h2,h3,h4⟩:=h
   exact ⟨q,h1,h2,h3,e.trans h4⟩
set_option linter.unusedSectionVars false
def KX (base:Nat)(w0:World):Prop:=∀g cs,I9 g=some cs→g<base∧∀(j:Nat) (u:Value),cs[j]? = some u→w0.cell? ⟨g,j,none⟩=some u
class Cx where
 p:Nat→World→(Nat→Value)→Prop
 g:∀base w0 op,p base w0 op→KX base w0
variable [Cx]
structure Mem (base:Nat) (w0:World) (π:Pi) (h:Hp) (n:Nat) (w:World):Prop where
 place:∀id b,h id=some b→∃p,π.pl id=some p∧FD π w p b∧(b.rw=true→base≤p.b)∧(b.rw=false→p.b<base)
 sep:∀id id' b b' p p',h id=some b→h id'=some b'→b.rw=true→b'.rw=true→π.pl id=some p→π.pl id'=some p'→p.b=p'.b→id=id'
 fresh:∀id,n≤id→π.pl id=none
 lt:∀id p,π.pl id=some p→p.b<w.heap.size
 below:Below base w0 w
 size:base≤w.heap.size
 ctx:Cx.p base w0 π.op
 fl:∀x∈π.fl,base≤x.1∧w.heap[x.1]? = some x.2∧∀id p,π.pl id=some p→p.b≠x.1
section
variable {base n:Nat} {w0 w w':World} {π:Pi} {h:Hp}
theorem Mem.update (hm:Mem base w0 π h n w){id:Nat}{b b':Blk}{p:Pl}(hb:h id=some b)(hr:b.rw=true)(hp:π.pl id=some p)(ho:∀k,k≠p.b→w'.heap[k]? = w.heap[k]?)(hs:w'.heap.size=w.heap.size)(hbl:Below base w w')(hat:FD π w' p b')(hr':b'.rw=true):Mem base w0 π (hset h id (some b')) n w':=by
 obtain ⟨p0,hp0,_,hbase,_⟩:=hm.place id b hb
 rw [hp] at hp0;injection hp0 with hp0;subst hp0
 refine ⟨fun k c hk=>?_,fun k k' c c' q q' hk hk' hc hc' hq hq' e=>?_,hm.fresh,fun k q hq=>by rw [hs];exact hm.lt k q hq,hm.below.trans hbl,by rw [hs];exact hm.size,hm.ctx,fun x hx=>?_⟩
 rotate_left 2
 ·obtain ⟨x1,x2,x3⟩:=hm.fl x hx
  exact ⟨x1,by rw [ho _ (fun e=>x3 id p hp e.symm)];exact x2,x3⟩
 ·unfold hset at hk
  split at hk
  ·rename_i e;subst e;injection hk with hk;subst hk
   exact ⟨p,hp,hat,fun _=>hbase hr,fun h0=>by rw [hr'] at h0;cases h0⟩
  ·rename_i hne
   obtain ⟨q,h1,h2,h3,h4⟩:=hm.place k c hk
   refine ⟨q,h1,h2.keep (ho _ ?_),h3,h4⟩
   intro e
   cases hc:c.rw with
   |true=>exact hne (hm.sep k id c b q p hk hb hc hr h1 hp e)
   |false=>have:=h4 hc;have:=hbase hr;omega
 ·unfold hset at hk hk'
  split at hk<;>split at hk'
  ·rename_i e1 e2;rw [e1,e2]
  ·rename_i e1 e2;subst e1;exact hm.sep k k' b c' q q' hb hk' hr hc' hq hq' e
  ·rename_i e1 e2;subst e2;exact hm.sep k k' c b q q' hk hb hc hr hq hq' e
  ·exact hm.sep k k' c c' q q' hk hk' hc hc' hq hq' e
theorem KX.keep {base b':Nat}{w0 w:World}(h:KX base w0)(hb:Below base w0 w)(hle:base≤b'):KX b' w:=fun g cs hg=>by
 obtain ⟨h1,h3⟩:=h g cs hg
 exact ⟨by omega,fun j u hj=>by rw [←h3 j u hj];exact World.cell?_of_block (w:=w0) (hb.block g h1)⟩
theorem Mem.KU (hm:Mem base w0 π h n w):KX base w:=(Cx.g _ _ _ hm.ctx).keep hm.below (Nat.le_refl _)
theorem Mem.kill (hm:Mem base w0 π h n w)(id:Nat):Mem base w0 π (hset h id none) n w:=by
 refine ⟨fun k c hk=>?_,fun k k' c c' q q' hk hk'=>?_,hm.fresh,hm.lt,hm.below,hm.size,hm.ctx,hm.fl⟩
 ·unfold hset at hk;split at hk
  ·cases hk
  ·exact hm.place k c hk
 ·unfold hset at hk hk';split at hk
  ·cases hk
  ·split at hk'
   ·cases hk'
   ·exact hm.sep k k' c c' q q' hk hk'
theorem Mem.keep (hm:Mem base w0 π h n w)(hb:Below w.heap.size w w'):Mem base w0 π h n w':=by
 refine ⟨fun k c hk=>?_,hm.sep,hm.fresh,fun k q hq=>Nat.lt_of_lt_of_le (hm.lt k q hq) hb.size,hm.below.trans (hb.mono hm.size),Nat.le_trans hm.size hb.size,hm.ctx,fun x hx=>?_⟩
 rotate_left
 ·obtain ⟨x1,x2,x3⟩:=hm.fl x hx
  exact ⟨x1,by rw [hb.block _ (Array.getElem?_eq_some_iff.1 x2).1];exact x2,x3⟩
 obtain ⟨q,h1,h2,h3⟩:=hm.place k c hk
 exact ⟨q,h1,h2.keep (hb.block _ (hm.lt k q h1)),h3⟩
theorem Mem.new (hm:Mem base w0 π h n w){o:Obj}{b:Blk}{p:Pl}(hpb:p.b=w.heap.size)(hat:FD (π.put n p) (w.alloc o) p b)(hr:b.rw=true):Mem base w0 (π.put n p) (hset h n (some b)) (n+1) (w.alloc o):=by
 have hle:=Pi.JM (p:=p) (hm.fresh n (Nat.le_refl _))
 have hbl:Below w.heap.size w (w.alloc o):=(Below.refl _ w).alloc (Nat.le_refl _) o
 have hk:=hm.keep hbl
 have hsz:(w.alloc o).heap.size=w.heap.size+1:=by show (w.heap.push o).size=_;exact Array.size_push ..
 have hne:∀k c,h k=some c→k≠n:=by
  rintro k c h0 rfl
  obtain ⟨q,h1,_⟩:=hm.place k c h0
  rw [hm.fresh k (Nat.le_refl _)] at h1;cases h1
 refine ⟨fun k c hc=>?_,fun k k' c c' q q' hc hc' r r' hq hq' e=>?_,fun k hk=>?_,fun k q hq=>?_,hk.below,hk.size,hm.ctx,fun x hx=>?_⟩
 rotate_left 4
 ·obtain ⟨x1,x2,x3⟩:=hk.fl x hx
  have hxl:=(Array.getElem?_eq_some_iff.1 (hm.fl x hx).2.1).1
  refine ⟨x1,x2,fun id r hr=>?_⟩
  by_cases e:id=n
  ·subst e
   rw [Pi.EM] at hr;injection hr with hr;subst hr
   rw [hpb];omega
  ·rw [Pi.ER e] at hr
   exact x3 id r hr
 ·unfold hset at hc
  split at hc
  ·rename_i e;subst e;injection hc with hc;subst hc
   exact ⟨p,Pi.EM ..,hat,fun _=>by rw [hpb];exact hm.size,fun h0=>by rw [hr] at h0;cases h0⟩
  ·rename_i e
   obtain ⟨q,h1,h2,h3⟩:=hk.place k c hc
   exact ⟨q,by rw [Pi.ER e];exact h1,h2.le hle,h3⟩
 ·unfold hset at hc hc'
  split at hc<;>split at hc'
  ·rename_i e1 e2;rw [e1,e2]
  ·rename_i e1 e2
   subst e1
   rw [Pi.EM] at hq;injection hq with hq;subst hq
   rw [Pi.ER e2] at hq'
   have:=hm.lt _ _ hq'
   omega
  ·rename_i e1 e2
   subst e2
   rw [Pi.EM] at hq';injection hq' with hq';subst hq'
   rw [Pi.ER e1] at hq
   have:=hm.lt _ _ hq
   omega
  ·rename_i e1 e2
   rw [Pi.ER e1] at hq
   rw [Pi.ER e2] at hq'
   exact hm.sep k k' c c' q q' hc hc' r r' hq hq' e
 ·rw [Pi.ER (by omega)];exact hm.fresh k (by omega)
 ·by_cases e:k=n
  ·subst e
   rw [Pi.EM] at hq;injection hq with hq;subst hq
   rw [hsz,hpb];omega
  ·rw [Pi.ER e] at hq
   have:=hm.lt _ _ hq
   rw [hsz];omega
theorem Mem.Avy (hm:Mem base w0 π h n w){id:Nat}{b b':Blk}{p q:Pl}(hb:h id=some b)(hr:b.rw=true)(hp:π.pl id=some p)(hq:q.b=p.b)(ho:∀k,k≠p.b→w'.heap[k]? = w.heap[k]?)(hs:w'.heap.size=w.heap.size)(hbl:Below base w w')(hat:FD (π.put n q) w' q b')(hr':b'.rw=true):Mem base w0 (π.put n q) (hset (hset h id none) n (some b')) (n+1) w':=by
 have hle:=Pi.JM (p:=q) (hm.fresh n (Nat.le_refl _))
 obtain ⟨p0,hp0,_,hbase,_⟩:=hm.place id b hb
 rw [hp] at hp0;injection hp0 with hp0;subst hp0
 refine ⟨fun k c hc=>?_,fun k k' c c' s s' hc hc' r r' hq1 hq2 e=>?_,fun k hk=>?_,fun k s hq1=>?_,hm.below.trans hbl,by rw [hs];exact hm.size,hm.ctx,fun x hx=>?_⟩
 rotate_left 4
 ·obtain ⟨x1,x2,x3⟩:=hm.fl x hx
  refine ⟨x1,by rw [ho _ (fun e=>x3 id p hp e.symm)];exact x2,fun k r hr=>?_⟩
  by_cases e:k=n
  ·subst e
   rw [Pi.EM] at hr;injection hr with hr;subst hr
   rw [hq];exact x3 id p hp
  ·rw [Pi.ER e] at hr
   exact x3 k r hr
 ·unfold hset at hc
  split at hc
  ·rename_i e;subst e;injection hc with hc;subst hc
   exact ⟨q,Pi.EM ..,hat,fun _=>by rw [hq];exact hbase hr,fun h0=>by rw [hr'] at h0;cases h0⟩
  ·rename_i e
   split at hc
   ·cases hc
   ·rename_i e2
    obtain ⟨s,h1,h2,h3,h4⟩:=hm.place k c hc
    refine ⟨s,by rw [Pi.ER e];exact h1,(h2.keep (ho _ ?_)).le hle,h3,h4⟩
    intro e3
    cases hc1:c.rw with
    |true=>exact e2 (hm.sep k id c b s p hc hb hc1 hr h1 hp e3)
    |false=>have:=h4 hc1;have:=hbase hr;omega
 ·have key:∀k c s,k≠n→(if k=id then none else h k)=some c→c.rw=true→π.pl k=some s→s.b≠p.b:=by
   intro k c s hkn hc r hs e
   split at hc
   ·cases hc
   ·rename_i e2
    exact e2 (hm.sep k id c b s p hc hb r hr hs hp e)
  unfold hset at hc hc'
  split at hc<;>split at hc'
  ·rename_i e1 e2;rw [e1,e2]
  ·rename_i e1 e2
   subst e1
   rw [Pi.EM] at hq1;injection hq1 with hq1;subst hq1
   rw [Pi.ER e2] at hq2
   exact absurd (by rw [←e,hq]) (key k' c' s' e2 hc' r' hq2)
  ·rename_i e1 e2
   subst e2
   rw [Pi.EM] at hq2;injection hq2 with hq2;subst hq2
   rw [Pi.ER e1] at hq1
   exact absurd (by rw [e,hq]) (key k c s e1 hc r hq1)
  ·rename_i e1 e2
   rw [Pi.ER e1] at hq1
   rw [Pi.ER e2] at hq2
   split at hc
   ·cases hc
   ·split at hc'
    ·cases hc'
    ·exact hm.sep k k' c c' s s' hc hc' r r' hq1 hq2 e
 ·rw [Pi.ER (by omega)];exact hm.fresh k (by omega)
 ·by_cases e:k=n
  ·subst e
   rw [Pi.EM] at hq1;injection hq1 with hq1;subst hq1
   rw [hs,hq];exact hm.lt _ _ hp
  ·rw [Pi.ER e] at hq1
   rw [hs];exact hm.lt _ _ hq1
end
end Go.Rn
end
section
namespace Go.Rn
open Go.RowKit
open Go.Vm (AY Dt Ez MK)
set_option linter.unusedSectionVars false
variable [Cx]
structure St where
 t:Nat→Option V
 h:Hp
 n:Nat
def St.put (s:St)(d:Option Nat)(v:V):St:=match d with
 |none=>s
 |some d=>{ s with t:=fun u=>if u=d then some v else s.t u }
structure Rel (base N:Nat) (w0:World) (π:Pi) (s:St) (a:Act) (w:World):Prop where
 mem:Mem base w0 π s.h s.n w
 tsz:a.tmps.size=N
 defs:a.defers= []
 slot:∀i v,s.t i=some v→∃u,a.tmps[i]? = some u∧Ai π v=some u
def ofV (v:Value):Option V:=if v.oneCell' then some (.sc v) else match v with
 | .agg cs=>if cs.toList.all (·.oneCell') then some (.agg (cs.toList.map .sc)) else none
 |_=>none
theorem MC {π:Pi}:∀{l:List Value},(l.all (·.oneCell'))=true→AO π (l.map .sc)=some l
 | [],_=>by rw [List.map_nil,AO]
 |v::l,h=>by
  rw [List.all_cons,Bool.and_eq_true] at h
  rw [List.map_cons,AO,Ai,if_pos h.1,MC h.2]
theorem Rt {π:Pi}{v:Value}{x:V}(h:ofV v=some x):Ai π x=some v:=by
 unfold ofV at h
 split at h
 ·rename_i h1;injection h with h;subst h;rw [Ai,if_pos h1]
 ·split at h
  ·rename_i cs
   split at h
   ·rename_i h2;injection h with h;subst h
    rw [Ai,if_pos (by rw [List.all_map];exact List.all_eq_true.2 fun _ _=>rfl),MC h2]
    rfl
   ·cases h
  ·cases h
def scL:List V→Option (List Value)
 | []=>some []
 | .sc v::l=>(scL l).map (v :: ·)
 |_=>none
def toV:V→Option Value
 | .sc v=>some v
 | .agg cs=>(scL cs).map fun vs=>.agg vs.toArray
 |_=>none
theorem Aaa {π:Pi}:∀{cs:List V} {vs us:List Value},scL cs=some vs→AO π cs=some us→us=vs
 | [],vs,us,h,k=>by rw [scL] at h;rw [AO] at k;injection h with h;injection k with k;rw [←h,←k]
 | .sc v::l,vs,us,h,k=>by
  rw [scL] at h
  obtain ⟨vs',h1,rfl⟩:=Option.map_eq_some_iff.1 h
  obtain ⟨u,us',h2,h3,rfl⟩:=L8 k
  rw [Ai] at h2;split at h2
  ·injection h2 with h2;rw [h2,Aaa h1 h3]
  ·cases h2
 | .agg _::_,_,_,h,_=>by simp [scL] at h
 | .tup _::_,_,_,h,_=>by simp [scL] at h
 | .ptr _ _::_,_,_,h,_=>by simp [scL] at h
 | .sl _ _ _ _ _::_,_,_,h,_=>by simp [scL] at h
 | .mp _::_,_,_,h,_=>by simp [scL] at h
 | .it _::_,_,_,h,_=>by simp [scL] at h
 | .fn _ _::_,_,_,h,_=>by simp [scL] at h
 | .opq _::_,_,_,h,_=>by simp [scL] at h
theorem KZ {π:Pi}{x:V}{v u:Value}(h:toV x=some v)(k:Ai π x=some u):u=v:=by
 cases x with
 |sc y=>rw [toV] at h;injection h with h;subst h;rw [Ai] at k;split at k<;>first|(injection k with k;exact k.symm)|cases k
 |agg cs=>
  rw [toV] at h
  obtain ⟨vs,h1,rfl⟩:=Option.map_eq_some_iff.1 h
  rw [Ai] at k
  split at k
  ·obtain ⟨us,h2,rfl⟩:=Option.map_eq_some_iff.1 k
   rw [Aaa h1 h2]
  ·cases k
 |_=>simp [toV] at h
def Ap (s:St):Operand→Option V
 | .tmp t=>s.t t
 | .const v=>ofV v
 | .func f=>some (.fn f [])
 | .global _=>none
section
variable {P:Program} {N base n:Nat} {w0 w w':World} {π π':Pi} {s s':St} {a:Act} {o:Oper}
theorem Rel.get (hr:Rel base N w0 π s a w){x:Operand}{v:V}(h:Ap s x=some v):Ai π v=some (a.eval x):=by
 cases x with
 |tmp t=>
  obtain ⟨u,h1,h2⟩:=hr.slot t v h
  rw [h2]
  simp [Act.eval,Array.getD_eq_getD_getElem?,h1]
 |const c=>exact Rt h
 |func f=>
  rw [Ap] at h;injection h with h;subst h
  rw [Ai,AO];rfl
 |global g=>cases h
theorem Rel.Ec (hr:Rel base N w0 π s a w){x:Operand}{v:V}{u:Value}(h:Ap s x=some v)(hu:toV v=some u):a.eval x=u:=KZ hu (hr.get h)
theorem Rel.put (hr:Rel base N w0 π s a w)(hl:π.le π'){h':Hp}{n':Nat}(hm:Mem base w0 π' h' n' w'){d:Nat}(hd:d<N){v:V}{u:Value}(hv:Ai π' v=some u):Rel base N w0 π' { (s.put (some d) v) with h:=h',n:=n' } (a.put (some d) u) w':=by
 refine ⟨hm,by simp [Act.put,hr.tsz],hr.defs,fun i x hi=>?_⟩
 simp only [St.put] at hi
 split at hi
 ·rename_i e;subst e;injection hi with hi;subst hi
  exact ⟨u,by simp [Act.put,hr.tsz,hd],hv⟩
 ·rename_i e
  obtain ⟨y,h1,h2⟩:=hr.slot i x hi
  refine ⟨y,?_,AuI hl h2⟩
  rw [←h1]
  simp [Act.put,Array.getElem?_setIfInBounds_ne (fun q=>e q.symm)]
def Step (P:Program)(N:Nat)(o:Oper)(s s':St):Prop:=
 ∀base w0 π a w,Rel base N w0 π s a w→∀(K:Act→World→Prop) (Q:Exit→Act→World→Prop),(∀π' a' w',π.le π'→Rel base N w0 π' s' a' w'→K a' w')→o.wp P a w K Q
theorem Jw {d:Nat}{v:V}{h':Hp}{n':Nat}(hdst:o.dst=some d)(hd:d<N)
 (hx:∀base w0 π a w,Rel base N w0 π s a w→∃u w' π',(execOp a.eval o).run P w=.ok (.value u) w'∧π.le π'∧Mem base w0 π' h' n' w'∧Ai π' v=some u):Step P N o s { (s.put (some d) v) with h:=h',n:=n' }:=by
 intro base w0 π a w hr K Q hK
 obtain ⟨u,w',π',h1,h2,h3,h4⟩:=hx base w0 π a w hr
 unfold Oper.wp
 rw [h1,Oper.upon_value,hdst]
 exact hK π' _ w' h2 (hr.put h2 h3 hd h4)
theorem Di {d:Nat}{v:V}(hdst:o.dst=some d)(hd:d<N)
 (hx:∀base w0 π a w,Rel base N w0 π s a w→∃u,(execOp a.eval o).run P w=.ok (.value u) w∧Ai π v=some u):Step P N o s (s.put (some d) v):=by
 refine Jw (h':=s.h) (n':=s.n) hdst hd fun base w0 π a w hr=>?_
 obtain ⟨u,h1,h2⟩:=hx base w0 π a w hr
 exact ⟨u,w,π,h1,π.le_refl,hr.mem,h2⟩
theorem Aas {x:Operand}{v:V}(hop:o.op=.move x∨o.op=.assign x)(hx:Ap s x=some v){d:Nat}(hdst:o.dst=some d)(hd:d<N):Step P N o s (s.put (some d) v):=
 Di hdst hd fun base w0 π a w hr=>⟨a.eval x,by rcases hop with h|h<;>simp [execOp,h],hr.get hx⟩
theorem AbH {c x y:Operand}{b:Bool}{v:V}(hop:o.op=.pick c x y)(hc:Ap s c=some (.sc (.bool b)))(hx:Ap s (if b then x else y)=some v){d:Nat}(hdst:o.dst=some d)(hd:d<N):Step P N o s (s.put (some d) v):=
 Di hdst hd fun base w0 π a w hr=>⟨a.eval (if b then x else y),by
  have:=hr.Ec hc rfl
  cases b<;>simp [execOp,hop,this,asBool],hr.get hx⟩
theorem Acy {x:Operand}{v:V}(hop:o.op=.nilCheck x)(hx:Ap s x=some v)(hv:(∃id off,v=.ptr id off)∨∃f cs,v=.fn f cs){d:Nat}(hdst:o.dst=some d)(hd:d<N):Step P N o s (s.put (some d) v):=
 Di hdst hd fun base w0 π a w hr=>⟨a.eval x,by
  have h:=hr.get hx
  rcases hv with ⟨id,off,rfl⟩|⟨f,cs,rfl⟩
  ·rw [Ai] at h;split at h
   ·injection h with h;simp [execOp,hop,←h]
   ·cases h
  ·rw [Ai] at h;obtain ⟨us,_,h⟩:=Option.map_eq_some_iff.1 h
   simp [execOp,hop,←h],hr.get hx⟩
theorem ApC {op:BinOp}{T T':TypeId}{x y:Operand}{v1 v2:V}{u1 u2 r:Value}(hop:o.op=.binOp op T x y T')(hx:Ap s x=some v1)(hy:Ap s y=some v2)(h1:toV v1=some u1)(h2:toV v2=some u2)
 (hr:AY P (do eqGuard op T x y u1 u2;binOp op T u1 u2:Sem Value)=some r) (ho:r.oneCell'=true) {d:Nat} (hdst:o.dst=some d) (hd:d<N):Step P N o s (s.put (some d) (.sc r)):=
 Di hdst hd fun base w0 π a w hrel=>⟨r,by
  have e1:=hrel.Ec hx h1
  have e2:=hrel.Ec hy h2
  have h3:=Dt hr w
  simp only [execOp,hop,e1,e2,Sem.run_bind,Sem.run_pure] at h3 ⊢
  rw [h3];rfl,by rw [Ai,if_pos ho]⟩
theorem Abk {op:UnOp}{T:TypeId}{x:Operand}{v1:V}{u1 r:Value}(hop:o.op=.unOp op T x)(hx:Ap s x=some v1)(h1:toV v1=some u1)
 (hr:AY P (Op.unary op u1)=some r) (ho:r.oneCell'=true) {d:Nat} (hdst:o.dst=some d) (hd:d<N):Step P N o s (s.put (some d) (.sc r)):=
 Di hdst hd fun base w0 π a w hrel=>⟨r,by
  have e1:=hrel.Ec hx h1
  have h3:=Dt hr w
  simp only [execOp,hop,e1,Sem.run_bind,Sem.run_pure] at h3 ⊢
  rw [h3];rfl,by rw [Ai,if_pos ho]⟩
theorem Av0 {T T':TypeId}{x:Operand}{v1:V}{u1 r:Value}(hop:o.op=.convert T T' x)(hx:Ap s x=some v1)(h1:toV v1=some u1)
 (hr:AY P (convert T T' u1)=some r) (ho:r.oneCell'=true) {d:Nat} (hdst:o.dst=some d) (hd:d<N):Step P N o s (s.put (some d) (.sc r)):=
 Di hdst hd fun base w0 π a w hrel=>⟨r,by
  have e1:=hrel.Ec hx h1
  have h3:=Dt hr w
  simp only [execOp,hop,e1,Sem.run_bind,Sem.run_pure] at h3 ⊢
  rw [h3];rfl,by rw [Ai,if_pos ho]⟩
def notNil:V→Value→Bool
 | .ptr _ _,.pointer none=>true
 | .mp _,.map none=>true
 | .sl _ _ _ _ _,.slice none _ _=>true
 | .fn _ _,.nilFunc=>true
 |_,_=>false
theorem Rel.V7 (hr:Rel base N w0 π s a w):∀{xs:List Operand} {vs:List V},xs.mapM (Ap s)=some vs→AO π vs=some (xs.map a.eval)
 | [],vs,h=>by simp at h;subst h;rw [AO];rfl
 |x::xs,vs,h=>by
  simp only [List.mapM_cons,Option.bind_eq_bind,Option.pure_def,Option.bind_eq_some_iff,Option.some.injEq] at h
  obtain ⟨v,h1,vs',h2,rfl⟩:=h
  rw [AO,hr.get h1,hr.V7 h2];rfl
theorem Aqy {f:FuncId}{caps:Array Operand}{vs:List V}(hop:o.op=.makeFunc (.func f) #[] caps)(hx:caps.toList.mapM (Ap s)=some vs){d:Nat}(hdst:o.dst=some d)(hd:d<N):Step P N o s (s.put (some d) (.fn f vs)):=
 Di hdst hd fun base w0 π a w hr=>⟨.func (.func f) #[] (caps.map a.eval),by simp [execOp,hop,Instr.makeFunc],by
  have h:=hr.V7 hx
  rw [Ai,h]
  simp only [Option.map_some,Option.some.injEq,Value.func.injEq,true_and]
  apply Array.ext'
  simp⟩
theorem Ai0 {x:Operand}{cs:List V}{i:Nat}{v:V}(hop:o.op=.extract x i)(hx:Ap s x=some (.tup cs))(hi:cs[i]? = some v){d:Nat}(hdst:o.dst=some d)(hd:d<N):Step P N o s (s.put (some d) v):=
 Di hdst hd fun base w0 π a w hr=>by
  have h:=hr.get hx
  rw [Ai] at h
  obtain ⟨us,h1,h2⟩:=Option.map_eq_some_iff.1 h
  obtain ⟨u,h3,h4⟩:=Mc h1 hi
  exact ⟨u,by simp [execOp,hop,←h2,Instr.extract,h3],h4⟩
theorem AsH {T:TypeId}{x:Operand}{id off f k:Nat}(hop:o.op=.fieldAddr T x f)(hx:Ap s x=some (.ptr id off))(hf:Ez P T f=some k){d:Nat}(hdst:o.dst=some d)(hd:d<N):Step P N o s (s.put (some d) (.ptr id (off+k))):=
 Di hdst hd fun base w0 π a w hr=>by
  have h:=hr.get hx
  rw [Ai] at h
  split at h
  ·rename_i p hp
   injection h with h
   refine ⟨.pointer (some ⟨p.b,p.base+off+k,none⟩),?_,by rw [Ai,hp,Nat.add_assoc]⟩
   simp only [execOp,hop,←h,Sem.run_bind,MK hf];rfl
  ·cases h
end
end Go.Rn
end
section
namespace Go.Rn
open Go.RowKit
open Go.Vm (AY Dt Ez MK Bl GL NG Lm DL JC CU Fv Fz PV)
set_option linter.unusedSectionVars false
variable [Cx]
theorem Aj1 {π:Pi}{v:V}{u:Value}(h:Ai π v=some u)(ho:u.oneCell'=true):v.one=true:=by
 cases v with
 |agg cs=>
  rw [Ai] at h
  split at h
  ·obtain ⟨us,_,rfl⟩:=Option.map_eq_some_iff.1 h;cases ho
  ·cases h
 |tup cs=>
  rw [Ai] at h
  obtain ⟨us,_,rfl⟩:=Option.map_eq_some_iff.1 h;cases ho
 |_=>rfl
theorem Y5 {π:Pi}{cs:List V}{us:List Value}(h:AO π cs=some us)(ho:∀u∈us,u.oneCell'=true):cs.all V.one=true:=by
 refine List.all_eq_true.2 fun c hc=>?_
 obtain ⟨i,hi,rfl⟩:=List.getElem_of_mem hc
 obtain ⟨u,h1,h2⟩:=Mc h (List.getElem?_eq_getElem hi)
 exact Aj1 h2 (ho u (List.mem_of_getElem? h1))
theorem KH {π:Pi}{id off sz n:Nat}{c:Option Nat}{p:Pl}(hp:π.pl id=some p)(h:p.sz=sz∧n≤capOf p off c∧off+capOf p off c*p.sz≤p.room∧capOf p off c≤maxLen):Ai π (.sl id off sz n c)=some (.slice (some ⟨p.b,p.base+off,none⟩) n (capOf p off c)):=by
 rw [Ai,hp];exact if_pos h
theorem IC {π:Pi}{id off sz n:Nat}{c:Option Nat}{u:Value}(h:Ai π (.sl id off sz n c)=some u):∃p,π.pl id=some p∧p.sz=sz∧n≤capOf p off c∧off+capOf p off c*p.sz≤p.room∧capOf p off c≤maxLen∧u=.slice (some ⟨p.b,p.base+off,none⟩) n (capOf p off c):=by
 rw [Ai] at h
 split at h
 ·rename_i p hp
  split at h
  ·rename_i hc;injection h with h;exact ⟨p,hp,hc.1,hc.2.1,hc.2.2.1,hc.2.2.2,h.symm⟩
  ·cases h
 ·cases h
def IE (sh:Bool×Nat)(cs:List V)(off:Nat):Option V:=
 if sh.1 then (if off+sh.2≤cs.length then some (.agg ((cs.drop off).take sh.2)) else none) else cs[off]?
def Gg (cs:List V)(off:Nat)(ds:List V):List V:=cs.take off++ds++cs.drop (off+ds.length)
theorem UD {π:Pi}{cs ds:List V}{us vs:List Value}(h:AO π cs=some us)(k:AO π ds=some vs)(off:Nat):AO π (Gg cs off ds)=some (us.take off++vs++us.drop (off+vs.length)):=by
 unfold Gg
 rw [Fg k]
 exact O8 (O8 (Nh off h) k) (NI _ h)
theorem ZR {π:Pi}{cs:List V}{us:List Value}{sh:Bool×Nat}{off:Nat}{v:V}(h:AO π cs=some us)(ho:∀u∈us,u.oneCell'=true)(hp:IE sh cs off=some v) :
 (sh.1=true∧off+sh.2≤us.length∧Ai π v=some (.agg ((us.drop off).take sh.2).toArray))∨(sh.1=false∧∃u,us[off]? = some u∧Ai π v=some u):=by
 unfold IE at hp
 have hl:=Fg h
 split at hp
 ·rename_i hb
  split at hp
  ·injection hp with hp;subst hp
   have h1:=Nh sh.2 (NI off h)
   refine .inl ⟨hb,by omega,?_⟩
   rw [Ai,if_pos (Y5 h1 fun u hu=>ho u (List.mem_of_mem_drop (List.mem_of_mem_take hu))),h1];rfl
  ·cases hp
 ·rename_i hb
  obtain ⟨u,h1,h2⟩:=Mc h hp
  exact .inr ⟨by simpa using hb,u,h1,h2⟩
theorem WN {P:Program}{π:Pi}{w:World}{T:TypeId}{b o off:Nat}{us:List Value}{cs:List V}{sh:Bool×Nat}{v:V}(hsh:Bl P T=some sh)(h:AO π cs=some us)(ho:∀u∈us,u.oneCell'=true)
 (hc:∀(j:Nat) (u:Value),us[j]? = some u→w.cell? ⟨b,o+j,none⟩=some u) (hp:IE sh cs off=some v):∃u,(loadVar T ⟨b,o+off,none⟩).run P w=.ok u w∧Ai π v=some u:=by
 obtain ⟨ag,n⟩:=sh
 obtain ⟨i,dd,h1,h2,h3,h4⟩:=GL hsh
 have hagg:=Lm (w:=w) h2
 rw [h3] at hagg
 rcases ZR h ho hp with ⟨e,hle,hv⟩|⟨e,u,hu,hv⟩
 ·simp only at e hle hv;subst e
  refine ⟨_,?_,hv⟩
  have hlen:((us.drop off).take n).length=n:=by rw [List.length_take,List.length_drop];omega
  have hl:=run_loadCells_list (P:=P) w ⟨b,o+off,none⟩ ((us.drop off).take n) (fun j v hv=>by
   rw [List.getElem?_take] at hv
   split at hv
   ·rw [List.getElem?_drop] at hv
    rw [GY,Nat.add_assoc];exact hc _ _ hv
   ·cases hv)
  rw [hlen] at hl
  simp [loadVar,Sem.run_bind,hagg,sizeOf,typeInfo,h1,h4,hl]
 ·simp only at e;subst e
  refine ⟨u,?_,hv⟩
  have hcu:=hc off _ hu
  simp [loadVar,Sem.run_bind,hagg,run_load,hcu,Result.andThen]
def Blk.cs:Blk→Option (List V)
 | .cells cs=>some cs
 | .ro cs=>some cs
 |_=>none
theorem FD.cells {π:Pi}{w:World}{p:Pl}{b:Blk}{cs:List V}(h:FD π w p b)(hc:b.cs=some cs):∃us,AO π cs=some us∧(∀u∈us,u.oneCell'=true)∧∀(j:Nat) (u:Value),us[j]? = some u→w.cell? ⟨p.b,p.base+j,none⟩=some u:=by
 cases b with
 |cells ds=>
  injection hc with hc;subst hc
  obtain ⟨arr,e,us,h1,h2,h3,h4,h5,h6⟩:=h
  refine ⟨us,h3,h4,fun j u hj=>?_⟩
  rw [cell_of_row w p.b _ arr e (0,0) h1]
  have:=h6 j u hj
  simpa using this
 |ro ds=>
  injection hc with hc;subst hc
  exact h
 |map es=>cases hc
 |iter m n k=>cases hc
section
variable {P:Program} {N base n:Nat} {w0 w w':World} {π π':Pi} {s s':St} {a:Act} {o:Oper}
theorem Rel.at (hr:Rel base N w0 π s a w){id:Nat}{b:Blk}(h:s.h id=some b):∃p,π.pl id=some p∧FD π w p b:=by
 obtain ⟨p,h1,h2,_⟩:=hr.mem.place id b h
 exact ⟨p,h1,h2⟩
theorem Rel.ptr (hr:Rel base N w0 π s a w){x:Operand}{id off:Nat}(h:Ap s x=some (.ptr id off)){p:Pl}(hp:π.pl id=some p):a.eval x=.pointer (some ⟨p.b,p.base+off,none⟩):=by
 have:=hr.get h
 rw [Ai,hp] at this
 injection this with this;exact this.symm
theorem AcE {T:TypeId}{x:Operand}{id off:Nat}{b:Blk}{cs:List V}{sh:Bool×Nat}{v:V}(hop:o.op=.load T x)(hx:Ap s x=some (.ptr id off))(hb:s.h id=some b)(hc:b.cs=some cs)(hsh:Bl P T=some sh)(hp:IE sh cs off=some v){d:Nat}(hdst:o.dst=some d)(hd:d<N):Step P N o s (s.put (some d) v):=
 Di hdst hd fun base w0 π a w hr=>by
  obtain ⟨p,h1,h2⟩:=hr.at hb
  obtain ⟨us,h3,h4,h5⟩:=h2.cells hc
  obtain ⟨u,h6,h7⟩:=WN (P:=P) hsh h3 h4 h5 hp
  refine ⟨u,?_,h7⟩
  simp only [execOp,hop,Instr.loadAt,hr.ptr hx h1,Instr.sureAddr,Sem.run_bind,Sem.run_pure,Result.andThen_ok,h6]
theorem Alg {T:TypeId}{g:Nat}{cs:List Value}{sh:Bool×Nat}{v:V}(hop:o.op=.load T (.global g))(hg:I9 g=some cs)(ho:cs.all (·.oneCell')=true)(hsh:Bl P T=some sh)(hp:IE sh (cs.map .sc) 0=some v){d:Nat}(hdst:o.dst=some d)(hd:d<N):Step P N o s (s.put (some d) v):=
 Di hdst hd fun base w0 π a w hr=>by
  obtain ⟨h1,h3⟩:=hr.mem.KU g cs hg
  have h2:=List.all_eq_true.1 ho
  obtain ⟨u,h6,h7⟩:=WN (P:=P) (π:=π) (w:=w) (b:=g) (o:=0) (off:=0) hsh (MC (List.all_eq_true.2 h2)) h2 (fun j u hj=>by simpa using h3 j u hj) hp
  refine ⟨u,?_,h7⟩
  have e:a.eval (.global g)=.pointer (some ⟨g,0,none⟩):=rfl
  simp only [execOp,hop,Instr.loadAt,e,Instr.sureAddr,Sem.run_bind,Sem.run_pure,Result.andThen_ok]
  rw [show (0:Nat)=0+0 from rfl,h6];rfl
theorem Ub {d:Nat}{cs:List V}{v:V}{sz:Nat}(hdst:o.dst=some d)(hd:d<N)
 (hx:∀base w0 π a w,Rel base N w0 π s a w→∃(u:Value) (arr:Array Value) (e:TypeId) (us:List Value),(execOp a.eval o).run P w=.ok (.value u) (w.alloc (.cells arr e))∧AO π cs=some us∧(∀u∈us,u.oneCell'=true)∧us=arr.toList ∧
   Ai (π.put s.n ⟨w.heap.size,0,arr.size,sz⟩) v=some u):Step P N o s { (s.put (some d) v) with h:=hset s.h s.n (some (.cells cs)),n:=s.n+1 }:=
 Jw hdst hd fun base w0 π a w hr=>by
  obtain ⟨u,arr,e,us,h1,h2,h3,h4,h5⟩:=hx base w0 π a w hr
  have hle:=Pi.JM (p:=⟨w.heap.size,0,arr.size,sz⟩) (hr.mem.fresh s.n (Nat.le_refl _))
  refine ⟨u,_,_,h1,hle,hr.mem.new rfl ⟨arr,e,us,heap_alloc_new w _,by simp,Wn hle h2,h3,?_,fun j u hj=>?_⟩ rfl,h5⟩
  ·have:=Fg h2;rw [h4] at this;simp at this ⊢;omega
  ·rw [h4] at hj;simpa using hj
theorem Amb {T:TypeId}{x:Operand}{v:V}(hop:o.op=.box T x)(hx:Ap s x=some v)(hn:∀cs,v≠.tup cs){d:Nat}(hdst:o.dst=some d)(hd:d<N):Step P N o s { (s.put (some d) (.ptr s.n 0)) with h:=hset s.h s.n (some (.cells v.cells)),n:=s.n+1 }:=
 Ub (sz:=1) hdst hd fun base w0 π a w hr=>by
  obtain ⟨h1,h2⟩:=SY (hr.get hx) hn
  exact ⟨.pointer (some ⟨w.heap.size,0,none⟩),(a.eval x).cells,T,_,by simp [execOp,hop,Instr.box,newVar,newRow],h1,h2,rfl,by rw [Ai,Pi.EM]⟩
def zeroV (P:Program)(t:TypeId):Option (List V):=match P.info? t with
 |some i=>match i.zero with
  |some z=>if z.cells.toList.all (·.oneCell') then some (z.cells.toList.map .sc) else none
  |none=>none
 |none=>none
theorem OG {T:TypeId}{cs:List V}(h:zeroV P T=some cs):∃i z,P.info? T=some i∧i.zero=some z∧cs=z.cells.toList.map .sc∧∀u∈z.cells.toList,u.oneCell'=true:=by
 unfold zeroV at h
 split at h
 ·rename_i i hi
  split at h
  ·rename_i z hz
   split at h
   ·rename_i ho;injection h with h;exact ⟨i,z,hi,hz,h.symm,List.all_eq_true.1 ho⟩
   ·cases h
  ·cases h
 ·cases h
theorem AbV {T:TypeId}{cs:List V}(hop:o.op=.alloc T)(hz:zeroV P T=some cs){d:Nat}(hdst:o.dst=some d)(hd:d<N):Step P N o s { (s.put (some d) (.ptr s.n 0)) with h:=hset s.h s.n (some (.cells cs)),n:=s.n+1 }:=
 Ub (sz:=1) hdst hd fun base w0 π a w hr=>by
  obtain ⟨i,z,hi,hzz,rfl,ho⟩:=OG hz
  exact ⟨.pointer (some ⟨w.heap.size,0,none⟩),z.cells,T,_,by simp [execOp,hop,Instr.alloc,zeroValue,typeInfo,hi,hzz,newVar,newRow],MC (List.all_eq_true.2 ho),ho,rfl,by rw [Ai,Pi.EM]⟩
theorem Aji {T:TypeId}{x y:Operand}{id off:Nat}{cs:List V}{v:V}{sh:Bool×Nat}(hop:o.op=.store T x y)(hx:Ap s x=some (.ptr id off))(hb:s.h id=some (.cells cs))(hy:Ap s y=some v)(hn:∀cs,v≠.tup cs)(hsh:Bl P T=some sh)(hl:v.cells.length=sh.2)(hoff:off+v.cells.length≤cs.length)(hdst:o.dst=none) :
 Step P N o s { s with h:=hset s.h id (some (.cells (Gg cs off v.cells))) }:=by
 intro base w0 π a w hr K Q hK
 obtain ⟨p,hp,hat⟩:=hr.at hb
 obtain ⟨arr,e,us,h1,h2,h3,h4,h5,h6⟩:=hat
 obtain ⟨k1,k2⟩:=SY (hr.get hy) hn
 obtain ⟨ag,n⟩:=sh
 obtain ⟨i,dd,q1,q2,q3,q4⟩:=GL hsh
 have hus:=Fg h3
 have hvl:=Fg k1
 have hvs:(a.eval y).cells.size=i.size:=by simp at hvl;omega
 have hst:=run_storeCells_at P p.b (p.base+off) e (a.eval y).cells.toList 0 arr w h1 (by rw [hvl,h2];omega) k2
 simp only [Nat.add_zero] at hst
 have hrun:(execOp a.eval o).run P w=.ok .skip (w.setRow p.b (arr.toList.take (p.base+off)++(a.eval y).cells.toList++arr.toList.drop (p.base+off+(a.eval y).cells.toList.length)).toArray):=by
  simp only [execOp,hop,Instr.storeAt,hr.ptr hx hp,Instr.sureAddr,storeVar,sizeOf,typeInfo,Sem.run_bind,Sem.run_pure,Result.andThen_ok]
  simp [q1,hvs,hst]
 unfold Oper.wp
 rw [hrun,Oper.upon_skip,hdst]
 have hoth:∀k,k≠p.b→(w.setRow p.b (arr.toList.take (p.base+off)++(a.eval y).cells.toList++arr.toList.drop (p.base+off+(a.eval y).cells.toList.length)).toArray).heap[k]? = w.heap[k]? := fun k hk=>setRow_other w _ k _ hk
 obtain ⟨p',hp',_,hbase,_⟩:=hr.mem.place id _ hb
 rw [hp] at hp';injection hp' with hp';subst hp'
 refine hK π _ _ π.le_refl ⟨hr.mem.update hb rfl hp hoth (by simp) ⟨rfl,rfl,rfl,by simp,fun k hk=>hoth k (by have:=hbase rfl;omega)⟩ ?_ rfl,by simpa [Act.put] using hr.tsz,by simpa [Act.put] using hr.defs,fun i v hi=>by simpa [Act.put] using hr.slot i v hi⟩
 refine ⟨_,e,_,setRow_heap w _ arr _ e _ h1,?_,UD h3 k1 off,fun u hu=>?_,?_,fun j u hj=>?_⟩
 ·simp only [List.size_toArray,List.length_append,List.length_take,List.length_drop,Array.length_toList]
  simp only [Array.length_toList] at hvl
  rw [h2];omega
 ·rcases List.mem_append.1 hu with hu|hu
  ·rcases List.mem_append.1 hu with hu|hu
   ·exact h4 u (List.mem_of_mem_take hu)
   ·exact k2 u hu
  ·exact h4 u (List.mem_of_mem_drop hu)
 ·simp only [Gg,List.length_append,List.length_take,List.length_drop];omega
 ·rw [List.toList_toArray]
  have hal:arr.toList.length=p.base+p.room:=by simpa using h2
  have hul:us.length=cs.length:=hus
  by_cases c1:j<off
  ·rw [List.append_assoc,List.getElem?_append_left (by rw [List.length_take];omega),List.getElem?_take,if_pos c1] at hj
   rw [List.append_assoc,List.getElem?_append_left (by rw [List.length_take];omega),List.getElem?_take,if_pos (by omega)]
   exact h6 j u hj
  ·by_cases c2:j<off+(a.eval y).cells.toList.length
   ·rw [List.append_assoc,List.getElem?_append_right (by rw [List.length_take];omega),List.getElem?_append_left (by rw [List.length_take];omega)] at hj
    rw [List.append_assoc,List.getElem?_append_right (by rw [List.length_take];omega),List.getElem?_append_left (by rw [List.length_take];omega)]
    rw [←hj];congr 1
    rw [List.length_take,List.length_take];omega
   ·rw [List.getElem?_append_right (by rw [List.length_append,List.length_take];omega),List.getElem?_drop] at hj
    rw [List.getElem?_append_right (by rw [List.length_append,List.length_take];omega),List.getElem?_drop]
    have:=h6 _ u hj
    rw [←this];congr 1
    rw [List.length_append,List.length_append,List.length_take,List.length_take];omega
end
end Go.Rn
end
section
namespace Go.Rn
open Go.RowKit
open Go.Vm (AY Dt Ez MK Bl GL NG Lm DL JC CU Fv Fz PV Js)
set_option linter.unusedSectionVars false
variable [Cx]
def V.Abs:V→Bool
 | .tup _=>false
 |_=>true
theorem Aki {v:V}(h:v.Abs=true):∀cs,v≠.tup cs:=by rintro cs rfl;cases h
def Nw (place:Nat→Option (Nat×Nat))(cells:List V):List (Nat×V)→Option (List V)
 | []=>some cells
 | (i,d)::rest=>match place i with
  |none=>none
  |some (off,size)=>if d.cells.length=size∧off+d.cells.length≤cells.length∧d.Abs=true then Nw place (Gg cells off d.cells) rest else none
def Q4 (P:Program)(t:TypeId)(parts:List (Nat×V)):Option (List V):=
 match P.underlying t,zeroV P t with
 |some (.array _ e),some zs=>match P.info? e with
  |some ie=>Nw (fun i=>some (i*ie.size,ie.size)) zs parts
  |none=>none
 |some (.struct fields),some zs=>match fields.toList.mapM (fun f=>(P.info? f.type).map fun i=>(f.offset,i.size)) with
  |some places=>Nw (places.toArray[·]?) zs parts
  |none=>none
 |_,_=>none
def Eu (s:St):List (Nat×Operand)→Option (List (Nat×V))
 | []=>some []
 | (i,x)::l=>match Ap s x,Eu s l with
  |some d,some ds=>some ((i,d)::ds)
  |_,_=>none
theorem Uf {π:Pi}{place:Nat→Option (Nat×Nat)}:∀{parts:List (Nat×Value)} {ds:List (Nat×V)} {cells:Array Value} {cs cs':List V},AO π cs=some cells.toList→(∀u∈cells.toList,u.oneCell'=true)→parts.length=ds.length →
 (∀(j:Nat) (p:Nat×Value) (q:Nat×V),parts[j]? = some p→ds[j]? = some q→p.1=q.1∧Ai π q.2=some p.2)→Nw place cs ds=some cs'→∃cells',Instr.fill place cells parts=some cells'∧AO π cs'=some cells'.toList∧∀u∈cells'.toList,u.oneCell'=true
 | [],[],cells,cs,cs',h,ho,_,_,hf=>by
  simp [Nw] at hf;subst hf;exact ⟨cells,by simp [Instr.fill],h,ho⟩
 | [],_::_,_,_,_,_,_,hl,_,_=>by simp at hl
 |_::_,[],_,_,_,_,_,hl,_,_=>by simp at hl
 | (i,v)::parts,(i',d)::ds,cells,cs,cs',h,ho,hl,hp,hf=>by
  obtain ⟨e1,hv⟩:=hp 0 (i,v) (i',d) rfl rfl
  simp only at e1 hv;subst e1
  unfold Nw at hf
  split at hf
  ·cases hf
  ·rename_i off size hpl
   split at hf
   ·rename_i hc
    obtain ⟨hcl,hone⟩:=SY hv (Aki hc.2.2)
    have e2:v.cells.size=d.cells.length:=by have:=Fg hcl;simpa using this
    have e3:cells.size=cs.length:=by have:=Fg h;simpa using this
    have hle:off+v.cells.size≤cells.size:=by omega
    have hfo:=PV off v.cells cells hle
    have hk:=UD h hcl off
    simp only [Array.length_toList] at hk
    rw [←hfo] at hk
    obtain ⟨cells',h1,h2,h3⟩:=Uf (parts:=parts) (ds:=ds) hk (by
     intro u hu
     rw [hfo] at hu
     rcases List.mem_append.1 hu with hu|hu
     ·rcases List.mem_append.1 hu with hu|hu
      ·exact ho u (List.mem_of_mem_take hu)
      ·exact hone u hu
     ·exact ho u (List.mem_of_mem_drop hu)) (by simpa using hl) (fun j p q hj hq=>hp (j+1) p q (by simpa using hj) (by simpa using hq)) hf
    refine ⟨cells',?_,h2,h3⟩
    unfold Instr.fill
    rw [hpl]
    simp only
    rw [if_neg (by simp only [ne_eq,Bool.or_eq_true,decide_eq_true_eq];omega)]
    exact h1
   ·cases hf
theorem Afk {P:Program}{π:Pi}{t:TypeId}{parts:List (Nat×Value)}{ds:List (Nat×V)}{cs:List V}(hl:parts.length=ds.length)
 (hp:∀(j:Nat) (p:Nat×Value) (q:Nat×V),parts[j]? = some p→ds[j]? = some q→p.1=q.1∧Ai π q.2=some p.2) (h:Q4 P t ds=some cs):∃cells,P.built t parts=some cells∧AO π cs=some cells.toList∧∀u∈cells.toList,u.oneCell'=true:=by
 unfold Q4 at h
 unfold Program.built
 split at h
 ·rename_i n e zs hu hz
  obtain ⟨i,z,h1,h2,rfl,ho⟩:=OG hz
  split at h
  ·rename_i ie hie
   simp only [h1,hu,h2,hie]
   exact Uf (MC (List.all_eq_true.2 ho)) ho hl hp h
  ·cases h
 ·rename_i fields zs hu hz
  obtain ⟨i,z,h1,h2,rfl,ho⟩:=OG hz
  split at h
  ·rename_i places hpl
   simp only [h1,hu,h2,hpl]
   exact Uf (MC (List.all_eq_true.2 ho)) ho hl hp h
  ·cases h
 ·cases h
section
variable {P:Program} {N base n:Nat} {w0 w w':World} {π π':Pi} {s s':St} {a:Act} {o:Oper}
theorem Rel.parts (hr:Rel base N w0 π s a w):∀{parts:List (Nat×Operand)} {ds:List (Nat×V)},Eu s parts=some ds→(parts.map fun (i,x)=>(i,a.eval x)).length=ds.length ∧
 ∀(j:Nat) (p:Nat×Value) (q:Nat×V),(parts.map fun (i,x)=>(i,a.eval x))[j]? = some p→ds[j]? = some q→p.1=q.1∧Ai π q.2=some p.2
 | [],ds,h=>by simp [Eu] at h;subst h;simp
 | (i,x)::l,ds,h=>by
  unfold Eu at h
  split at h
  ·rename_i d ds' h1 h2
   injection h with h;subst h
   obtain ⟨k1,k2⟩:=hr.parts h2
   refine ⟨by simpa using k1,fun j p q hj hq=>?_⟩
   cases j with
   |zero=>
    simp at hj hq;subst hj hq
    exact ⟨rfl,hr.get h1⟩
   |succ j=>exact k2 j p q (by simpa using hj) (by simpa using hq)
  ·cases h
theorem Ap4 {T:TypeId}{parts:Array (Nat×Operand)}{ds:List (Nat×V)}{cs:List V}(hop:o.op=.build T parts)(hx:Eu s parts.toList=some ds)(hb:Q4 P T ds=some cs){d:Nat}(hdst:o.dst=some d)(hd:d<N):Step P N o s (s.put (some d) (.agg cs)):=
 Di hdst hd fun base w0 π a w hr=>by
  obtain ⟨h1,h2⟩:=hr.parts hx
  obtain ⟨cells,h3,h4,h5⟩:=Afk (P:=P) h1 h2 hb
  refine ⟨.agg cells,?_,by rw [Ai,if_pos (Y5 h4 h5),h4];rfl⟩
  have hr:=run_build (P:=P) w T (parts.map fun (i,x)=>(i,a.eval x)) cells (by rw [Array.toList_map];exact h3)
  simp only [execOp,hop,Sem.run_bind,hr,Result.andThen_ok]
  rfl
def Yu (P:Program)(e:TypeId)(sz len:Nat)(ds:List (Nat×V)):Option (List V):=match zeroV P e with
 |some zs=>Nw (fun i=>some (i*sz,sz)) ((List.range (len*sz)).map fun j=>zs.getD (j % zs.length) default) ds
 |none=>none
theorem Ac0 {π:Pi}{z:Array Value}(ho:∀u∈z.toList,u.oneCell'=true){m:Nat}(hm:0<m→0<z.size):AO π ((List.range m).map fun j=>(z.toList.map V.sc).getD (j % (z.toList.map V.sc).length) default)=some (madeCells z m).toList∧∀u∈(madeCells z m).toList,u.oneCell'=true:=by
 have key:∀j,j<m→∃u,z.toList[j % z.size]? = some u∧z[j % z.size]! = u∧u.oneCell'=true:=fun j hj=>by
  have hlt:j % z.size<z.size:=Nat.mod_lt _ (hm (by omega))
  exact ⟨z[j % z.size],by simp [hlt],by rw [getElem!_pos z _ hlt],ho _ (by simp)⟩
 refine ⟨Tj (by simp [madeCells]) fun i u c h1 h2=>?_,fun u hu=>?_⟩
 ·simp only [madeCells,Array.toList_map,Array.toList_range,List.getElem?_map] at h1 h2
  cases hj:(List.range m)[i]? with
  |none=>rw [hj] at h1;cases h1
  |some j=>
   rw [hj] at h1 h2
   simp only [Option.map_some,Option.some.injEq] at h1 h2
   have hjm:j<m:=by have:=List.mem_of_getElem? hj;simpa using this
   obtain ⟨v,e1,e2,e3⟩:=key j hjm
   rw [e2] at h1
   subst h1 h2
   rw [List.getD_eq_getElem?_getD,List.length_map,Array.length_toList,List.getElem?_map,e1]
   simp only [Option.map_some,Option.getD_some]
   rw [Ai,if_pos e3]
 ·simp only [madeCells,Array.toList_map,Array.toList_range,List.mem_map] at hu
  obtain ⟨j,hj,rfl⟩:=hu
  obtain ⟨v,e1,e2,e3⟩:=key j (by simpa using hj)
  rw [e2];exact e3
theorem AoY {T e:TypeId}{sz bytes len:Nat}{parts:Array (Nat×Operand)}{ds:List (Nat×V)}{cs:List V}(hop:o.op=.buildSlice T len parts)(hT:CU P T=some (e,sz,bytes))(hx:Eu s parts.toList=some ds)(hb:Yu P e sz len ds=some cs)(hs:len*sz≤16777216){d:Nat}(hdst:o.dst=some d)(hd:d<N) :
 Step P N o s { (s.put (some d) (.sl s.n 0 sz len (some len))) with h:=hset s.h s.n (some (.cells cs)),n:=s.n+1 }:=
 Ub (sz:=sz) hdst hd fun base w0 π a w hr=>by
  obtain ⟨i,z,h1,h2,h3,h4,h5,h6,h7,h8⟩:=Fv hT
  subst h4
  unfold Yu at hb
  split at hb
  ·rename_i zs hz
   obtain ⟨i',z',q1,q2,rfl,ho⟩:=OG hz
   rw [h2] at q1;injection q1 with q1;subst q1
   rw [h3] at q2;injection q2 with q2;subst q2
   obtain ⟨k1,k2⟩:=hr.parts hx
   obtain ⟨m1,m2⟩:=Ac0 (π:=π) ho (m:=len*i.size) (fun _=>by rw [h6];exact h7)
   obtain ⟨cells,f1,f2,f3⟩:=Uf m1 m2 k1 k2 hb
   have hlen:cells.size=len*i.size:=by
    have e1:=Fg f2
    have:∀{parts:List (Nat×Value)} {cells cells':Array Value},Instr.fill (fun j=>some (j*i.size,i.size)) cells parts=some cells'→cells'.size=cells.size:=by
     intro parts
     induction parts with
     |nil=>intro cells cells' h;simp [Instr.fill] at h;rw [h]
     |cons p rest ih=>
      intro cells cells' h
      obtain ⟨j,v⟩:=p
      unfold Instr.fill at h
      simp only at h
      split at h
      ·cases h
      ·have:=ih h
       rw [this]
       have hfold:∀(l:List (Value×Nat)) (off:Nat) (c:Array Value),(l.foldl (fun cs x=>cs.setIfInBounds (off+x.2) x.1) c).size=c.size:=by
        intro l
        induction l with
        |nil=>intro off c;rfl
        |cons y l ih2=>intro off c;rw [List.foldl_cons,ih2];simp
       rw [←Array.foldl_toList]
       exact hfold _ _ _
    rw [this f1];simp [madeCells]
   have hmx:len≤maxLen:=by
    have:len≤len*i.size:=Nat.le_mul_of_pos_right _ h7
    unfold maxLen;omega
   refine ⟨.slice (some ⟨w.heap.size,0,none⟩) len len,cells,e,_,?_,f2,f3,rfl,?_⟩
   ·by_cases hpos:len*i.size=0
    ·have hl0:len=0:=by
      rcases Nat.mul_eq_zero.1 hpos with h|h
      ·exact h
      ·omega
     subst hl0
     have hc0:cells = #[]:=Array.eq_empty_of_size_eq_zero (by simpa using hlen)
     subst hc0
     have hpv:Instr.fill (fun j=>some (j*i.size,i.size)) #[] (parts.toList.map fun (i,x)=>(i,a.eval x))=some #[]:=by simpa [madeCells,show Array.range 0 = #[] from rfl] using f1
     have hr0:Array.range 0 = #[]:=rfl
     simp [execOp,hop,Instr.buildSlice,run_underlying h1,sizeOf,typeInfo,h2,newRow,hr0,hpv]
    ·have hr2:=run_buildSlice (P:=P) w T e len (parts.map fun (i,x)=>(i,a.eval x)) cells i z h1 h2 h3 (by omega) hpos (by rw [Array.toList_map];exact f1)
     simp only [execOp,hop,Sem.run_bind,hr2,Result.andThen_ok]
     rfl
   ·exact KH (c:=some len) (Pi.EM ..) ⟨rfl,Nat.le_refl _,by show 0+len*i.size≤cells.size;omega,hmx⟩
  ·cases hb
theorem AtG {T e:TypeId}{sz bytes l c:Nat}{x y:Operand}{kl kc:IntKind}{zs:List V}(hop:o.op=.makeSlice T x y)(hT:CU P T=some (e,sz,bytes))(hx:Ap s x=some (.sc (.int kl (l:Int))))(hy:Ap s y=some (.sc (.int kc (c:Int))))(hz:zeroV P e=some zs)(hlc:l≤c)(hb:bytes*c≤281474976710656)(hm:c≤maxLen){d:Nat}(hdst:o.dst=some d)(hd:d<N) :
 Step P N o s { (s.put (some d) (.sl s.n 0 sz l (some c))) with h:=hset s.h s.n (some (.cells ((List.range (c*sz)).map fun j=>zs.getD (j % zs.length) default))),n:=s.n+1 }:=
 Ub (sz:=sz) hdst hd fun base w0 π a w hr=>by
  obtain ⟨i,z,h1,h2,h3,h4,h5,h6,h7,h8⟩:=Fv hT
  subst h4 h5
  obtain ⟨i',z',q1,q2,rfl,ho⟩:=OG hz
  rw [h2] at q1;injection q1 with q1;subst q1
  rw [h3] at q2;injection q2 with q2;subst q2
  obtain ⟨m1,m2⟩:=Ac0 (π:=π) ho (m:=c*i.size) (fun _=>by rw [h6];exact h7)
  have e1:=hr.Ec hx rfl
  have e2:=hr.Ec hy rfl
  have hbi:(i.bytes:Int)*(c:Int)≤281474976710656:=by
   have h:((i.bytes*c:Nat):Int)≤281474976710656:=by omega
   rwa [Int.natCast_mul] at h
  have hrun:=run_make (P:=P) w T e i z h1 h2 h3 kl kc (l:Int) (c:Int) (by omega) (by omega) hbi (by simp [maxLen] at hm;omega)
  simp only [Int.toNat_natCast] at hrun
  refine ⟨.slice (some ⟨w.heap.size,0,none⟩) l c,madeCells z.cells (c*i.size),e,_,by simp [execOp,hop,e1,e2,hrun],m1,m2,rfl,?_⟩
  exact KH (c:=some c) (Pi.EM ..) ⟨rfl,hlc,by show 0+c*i.size≤(madeCells z.cells (c*i.size)).size;rw [size_madeCells];omega,hm⟩
theorem Aic {T:TypeId}(hop:o.op=.makeMap T none){d:Nat}(hdst:o.dst=some d)(hd:d<N):Step P N o s { (s.put (some d) (.mp s.n)) with h:=hset s.h s.n (some (.map [])),n:=s.n+1 }:=
 Jw hdst hd fun base w0 π a w hr=>by
  have hle:=Pi.JM (p:=⟨w.heap.size,0,0,1⟩) (hr.mem.fresh s.n (Nat.le_refl _))
  refine ⟨.map (some w.heap.size),w.alloc (.map #[] 0),π.put s.n ⟨w.heap.size,0,0,1⟩,by simp [execOp,hop,Instr.makeMap],hle,hr.mem.new rfl ⟨#[],heap_alloc_new w _,rfl,by simp⟩ rfl,by rw [Ai,Pi.EM]⟩
end
end Go.Rn
end
