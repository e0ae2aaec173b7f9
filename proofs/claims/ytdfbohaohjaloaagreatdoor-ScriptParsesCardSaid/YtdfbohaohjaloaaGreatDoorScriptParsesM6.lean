/- Part 6. -/
import Derived.Laws.IdiomRangeMap
import Derived.Laws.IdiomStrings
import Derived.Maps.RangeRun
import Derived.ChangeMaps4
import Derived.LoopN
import Derived.Test.YtdfbohaohjaloaaGreatDoorScriptParsesM5
set_option linter.unusedVariables false
set_option linter.unusedSimpArgs false
set_option maxHeartbeats 1000000
section
namespace Go.Rn
open Go.RowKit
open Go.Vm (AX Dn Es Nj Bl Gy Np KX DK JH CU Fe FB Ph Jk)
set_option linter.unusedSectionVars false
variable [Cx]
def V.noTup:V→Bool
 | .tup _=>false
 | _=>true
theorem noTup_spec {v:V}(h:v.noTup=true):∀cs,v≠.tup cs:=by rintro cs rfl;cases h
def MP (place:Nat→Option (Nat×Nat))(cells:List V):List (Nat×V)→Option (List V)
 | []=>some cells
 | (i,d)::rest=>match place i with
  | none=>none
  | some (off,size)=>if d.cells.length=size∧off+d.cells.length≤cells.length∧d.noTup=true then MP place (F9 cells off d.cells) rest else none
def Q3 (P:Program)(t:TypeId)(parts:List (Nat×V)):Option (List V):=
 match P.underlying t,zeroV P t with
 | some (.array _ e),some zs=>match P.info? e with
  | some ie=>MP (fun i=>some (i*ie.size,ie.size)) zs parts
  | none=>none
 | some (.struct fields),some zs=>match fields.toList.mapM (fun f=>(P.info? f.type).map fun i=>(f.offset,i.size)) with
  | some places=>MP (places.toArray[·]?) zs parts
  | none=>none
 | _,_=>none
def Em (s:St):List (Nat×Operand)→Option (List (Nat×V))
 | []=>some []
 | (i,x)::l=>match Am s x,Em s l with
  | some d,some ds=>some ((i,d)::ds)
  | _,_=>none
theorem SG {π:Pi}{place:Nat→Option (Nat×Nat)}:∀{parts:List (Nat×Value)} {ds:List (Nat×V)} {cells:Array Value} {cs cs':List V},AL π cs=some cells.toList→(∀u∈cells.toList,u.oneCell'=true)→parts.length=ds.length →
 (∀(j:Nat) (p:Nat×Value) (q:Nat×V),parts[j]? = some p→ds[j]? = some q→p.1=q.1∧Ai π q.2=some p.2)→MP place cs ds=some cs'→∃cells',Instr.fill place cells parts=some cells'∧AL π cs'=some cells'.toList∧∀u∈cells'.toList,u.oneCell'=true
 | [],[],cells,cs,cs',h,ho,_,_,hf=>by
  simp [MP] at hf;subst hf;exact ⟨cells,by simp [Instr.fill],h,ho⟩
 | [],_::_,_,_,_,_,_,hl,_,_=>by simp at hl
 | _::_,[],_,_,_,_,_,hl,_,_=>by simp at hl
 | (i,v)::parts,(i',d)::ds,cells,cs,cs',h,ho,hl,hp,hf=>by
  obtain ⟨e1,hv⟩:=hp 0 (i,v) (i',d) rfl rfl
  simp only at e1 hv;subst e1
  unfold MP at hf
  split at hf
  ·cases hf
  ·rename_i off size hpl
   split at hf
   ·rename_i hc
    obtain ⟨hcl,hone⟩:=Sl hv (noTup_spec hc.2.2)
    have e2:v.cells.size=d.cells.length:=by have:=E5 hcl;simpa using this
    have e3:cells.size=cs.length:=by have:=E5 h;simpa using this
    have hle:off+v.cells.size≤cells.size:=by omega
    have hfo:=Ph off v.cells cells hle
    have hk:=Qk h hcl off
    simp only [Array.length_toList] at hk
    rw [←hfo] at hk
    obtain ⟨cells',h1,h2,h3⟩:=SG (parts:=parts) (ds:=ds) hk (by
     intro u hu
     rw [hfo] at hu
     rcases List.mem_append.1 hu with hu | hu
     ·rcases List.mem_append.1 hu with hu | hu
      ·exact ho u (List.mem_of_mem_take hu)
      ·exact hone u hu
     ·exact ho u (List.mem_of_mem_drop hu)) (by simpa using hl) (fun j p q hj hq=>hp (j+1) p q (by simpa using hj) (by simpa using hq)) hf
    refine ⟨cells',?_,h2,h3⟩
    unfold Instr.fill
    rw [hpl]
    simp only
    rw [if_neg (by simp only [ne_eq,Bool.or_eq_true,decide_eq_true_eq];omega)]
    exact h1
   ·cases hf
theorem built_conc {P:Program}{π:Pi}{t:TypeId}{parts:List (Nat×Value)}{ds:List (Nat×V)}{cs:List V}(hl:parts.length=ds.length)
 (hp:∀(j:Nat) (p:Nat×Value) (q:Nat×V),parts[j]? = some p→ds[j]? = some q→p.1=q.1∧Ai π q.2=some p.2) (h:Q3 P t ds=some cs):∃cells,P.built t parts=some cells∧AL π cs=some cells.toList∧∀u∈cells.toList,u.oneCell'=true:=by
 unfold Q3 at h
 unfold Program.built
 split at h
 ·rename_i n e zs hu hz
  obtain ⟨i,z,h1,h2,rfl,ho⟩:=NY hz
  split at h
  ·rename_i ie hie
   simp only [h1,hu,h2,hie]
   exact SG (LW (List.all_eq_true.2 ho)) ho hl hp h
  ·cases h
 ·rename_i fields zs hu hz
  obtain ⟨i,z,h1,h2,rfl,ho⟩:=NY hz
  split at h
  ·rename_i places hpl
   simp only [h1,hu,h2,hpl]
   exact SG (LW (List.all_eq_true.2 ho)) ho hl hp h
  ·cases h
 ·cases h
section
variable {P:Program} {N base n:Nat} {w0 w w':World} {π π':Pi} {s s':St} {a:Act} {o:Oper}
theorem Rel.parts (hr:Rel base N w0 π s a w):∀{parts:List (Nat×Operand)} {ds:List (Nat×V)},Em s parts=some ds→(parts.map fun (i,x)=>(i,a.eval x)).length=ds.length ∧
 ∀(j:Nat) (p:Nat×Value) (q:Nat×V),(parts.map fun (i,x)=>(i,a.eval x))[j]? = some p→ds[j]? = some q→p.1=q.1∧Ai π q.2=some p.2
 | [],ds,h=>by simp [Em] at h;subst h;simp
 | (i,x)::l,ds,h=>by
  unfold Em at h
  split at h
  ·rename_i d ds' h1 h2
   injection h with h;subst h
   obtain ⟨k1,k2⟩:=hr.parts h2
   refine ⟨by simpa using k1,fun j p q hj hq=>?_⟩
   cases j with
   | zero=>
    simp at hj hq;subst hj hq
    exact ⟨rfl,hr.get h1⟩
   | succ j=>exact k2 j p q (by simpa using hj) (by simpa using hq)
  ·cases h
theorem r_build {T:TypeId}{parts:Array (Nat×Operand)}{ds:List (Nat×V)}{cs:List V}(hop:o.op=.build T parts)(hx:Em s parts.toList=some ds)(hb:Q3 P T ds=some cs){d:Nat}(hdst:o.dst=some d)(hd:d<N):Step P N o s (s.put (some d) (.agg cs)):=
 C9 hdst hd fun base w0 π a w hr=>by
  obtain ⟨h1,h2⟩:=hr.parts hx
  obtain ⟨cells,h3,h4,h5⟩:=built_conc (P:=P) h1 h2 hb
  refine ⟨.agg cells,?_,by rw [Ai,if_pos (all_one h4 h5),h4];rfl⟩
  have hr:=run_build (P:=P) w T (parts.map fun (i,x)=>(i,a.eval x)) cells (by rw [Array.toList_map];exact h3)
  simp only [execOp,hop,Sem.run_bind,hr,Result.andThen_ok]
  rfl
def litV (P:Program)(e:TypeId)(sz len:Nat)(ds:List (Nat×V)):Option (List V):=match zeroV P e with
 | some zs=>MP (fun i=>some (i*sz,sz)) ((List.range (len*sz)).map fun j=>zs.getD (j % zs.length) default) ds
 | none=>none
theorem V6 {π:Pi}{z:Array Value}(ho:∀u∈z.toList,u.oneCell'=true){m:Nat}(hm:0<m→0<z.size):AL π ((List.range m).map fun j=>(z.toList.map V.sc).getD (j % (z.toList.map V.sc).length) default)=some (madeCells z m).toList∧∀u∈(madeCells z m).toList,u.oneCell'=true:=by
 have key:∀j,j<m→∃u,z.toList[j % z.size]? = some u∧z[j % z.size]! = u∧u.oneCell'=true:=fun j hj=>by
  have hlt:j % z.size<z.size:=Nat.mod_lt _ (hm (by omega))
  exact ⟨z[j % z.size],by simp [hlt],by rw [getElem!_pos z _ hlt],ho _ (by simp)⟩
 refine ⟨Qn (by simp [madeCells]) fun i u c h1 h2=>?_,fun u hu=>?_⟩
 ·simp only [madeCells,Array.toList_map,Array.toList_range,List.getElem?_map] at h1 h2
  cases hj:(List.range m)[i]? with
  | none=>rw [hj] at h1;cases h1
  | some j=>
   rw [hj] at h1 h2
   simp only [Option.map_some,Option.some.injEq] at h1 h2
   have hjm:j<m:=by have:=List.mem_of_getElem? hj;simpa using this
   obtain ⟨v,e1,e2,e3⟩:=key j hjm
   rw [e2] at h1
   subst h1 h2
   rw [List.getD_eq_getElem?_getD,List.length_map,Array.length_toList,List.getElem?_map,e1]
   simp only [Option.map_some,Option.getD_some]
   rw [Ai,if_pos e3]
 ·simp only [madeCells,Array.toList_map,Array.toList_range,List.mem_map] at hu
  obtain ⟨j,hj,rfl⟩:=hu
  obtain ⟨v,e1,e2,e3⟩:=key j (by simpa using hj)
  rw [e2];exact e3
theorem r_lit {T e:TypeId}{sz bytes len:Nat}{parts:Array (Nat×Operand)}{ds:List (Nat×V)}{cs:List V}(hop:o.op=.buildSlice T len parts)(hT:CU P T=some (e,sz,bytes))(hx:Em s parts.toList=some ds)(hb:litV P e sz len ds=some cs)(hs:len*sz≤16777216){d:Nat}(hdst:o.dst=some d)(hd:d<N) :
 Step P N o s { (s.put (some d) (.sl s.n 0 sz len (some len))) with h:=hset s.h s.n (some (.cells cs)),n:=s.n+1 }:=
 Ql (sz:=sz) hdst hd fun base w0 π a w hr=>by
  obtain ⟨i,z,h1,h2,h3,h4,h5,h6,h7,h8⟩:=Fe hT
  subst h4
  unfold litV at hb
  split at hb
  ·rename_i zs hz
   obtain ⟨i',z',q1,q2,rfl,ho⟩:=NY hz
   rw [h2] at q1;injection q1 with q1;subst q1
   rw [h3] at q2;injection q2 with q2;subst q2
   obtain ⟨k1,k2⟩:=hr.parts hx
   obtain ⟨m1,m2⟩:=V6 (π:=π) ho (m:=len*i.size) (fun _=>by rw [h6];exact h7)
   obtain ⟨cells,f1,f2,f3⟩:=SG m1 m2 k1 k2 hb
   have hlen:cells.size=len*i.size:=by
    have e1:=E5 f2
    have:∀{parts:List (Nat×Value)} {cells cells':Array Value},Instr.fill (fun j=>some (j*i.size,i.size)) cells parts=some cells'→cells'.size=cells.size:=by
     intro parts
     induction parts with
     | nil=>intro cells cells' h;simp [Instr.fill] at h;rw [h]
     | cons p rest ih=>
      intro cells cells' h
      obtain ⟨j,v⟩:=p
      unfold Instr.fill at h
      simp only at h
      split at h
      ·cases h
      ·have:=ih h
       rw [this]
       have hfold:∀(l:List (Value×Nat)) (off:Nat) (c:Array Value),(l.foldl (fun cs x=>cs.setIfInBounds (off+x.2) x.1) c).size=c.size:=by
        intro l
        induction l with
        | nil=>intro off c;rfl
        | cons y l ih2=>intro off c;rw [List.foldl_cons,ih2];simp
       rw [←Array.foldl_toList]
       exact hfold _ _ _
    rw [this f1];simp [madeCells]
   have hmx:len≤maxLen:=by
    have:len≤len*i.size:=Nat.le_mul_of_pos_right _ h7
    unfold maxLen;omega
   refine ⟨.slice (some ⟨w.heap.size,0,none⟩) len len,cells,e,_,?_,f2,f3,rfl,?_⟩
   ·by_cases hpos:len*i.size=0
    ·have hl0:len=0:=by
      rcases Nat.mul_eq_zero.1 hpos with h | h
      ·exact h
      ·omega
     subst hl0
     have hc0:cells = #[]:=Array.eq_empty_of_size_eq_zero (by simpa using hlen)
     subst hc0
     have hpv:Instr.fill (fun j=>some (j*i.size,i.size)) #[] (parts.toList.map fun (i,x)=>(i,a.eval x))=some #[]:=by simpa [madeCells,show Array.range 0 = #[] from rfl] using f1
     have hr0:Array.range 0 = #[]:=rfl
     simp [execOp,hop,Instr.buildSlice,run_underlying h1,sizeOf,typeInfo,h2,newRow,hr0,hpv]
    ·have hr2:=run_buildSlice (P:=P) w T e len (parts.map fun (i,x)=>(i,a.eval x)) cells i z h1 h2 h3 (by omega) hpos (by rw [Array.toList_map];exact f1)
     simp only [execOp,hop,Sem.run_bind,hr2,Result.andThen_ok]
     rfl
   ·exact Kv (c:=some len) (Pi.EG ..) ⟨rfl,Nat.le_refl _,by show 0+len*i.size≤cells.size;omega,hmx⟩
  ·cases hb
theorem r_make {T e:TypeId}{sz bytes l c:Nat}{x y:Operand}{kl kc:IntKind}{zs:List V}(hop:o.op=.makeSlice T x y)(hT:CU P T=some (e,sz,bytes))(hx:Am s x=some (.sc (.int kl (l:Int))))(hy:Am s y=some (.sc (.int kc (c:Int))))(hz:zeroV P e=some zs)(hlc:l≤c)(hb:bytes*c≤281474976710656)(hm:c≤maxLen){d:Nat}(hdst:o.dst=some d)(hd:d<N) :
 Step P N o s { (s.put (some d) (.sl s.n 0 sz l (some c))) with h:=hset s.h s.n (some (.cells ((List.range (c*sz)).map fun j=>zs.getD (j % zs.length) default))),n:=s.n+1 }:=
 Ql (sz:=sz) hdst hd fun base w0 π a w hr=>by
  obtain ⟨i,z,h1,h2,h3,h4,h5,h6,h7,h8⟩:=Fe hT
  subst h4 h5
  obtain ⟨i',z',q1,q2,rfl,ho⟩:=NY hz
  rw [h2] at q1;injection q1 with q1;subst q1
  rw [h3] at q2;injection q2 with q2;subst q2
  obtain ⟨m1,m2⟩:=V6 (π:=π) ho (m:=c*i.size) (fun _=>by rw [h6];exact h7)
  have e1:=hr.D9 hx rfl
  have e2:=hr.D9 hy rfl
  have hbi:(i.bytes:Int)*(c:Int)≤281474976710656:=by
   have h:((i.bytes*c:Nat):Int)≤281474976710656:=by omega
   rwa [Int.natCast_mul] at h
  have hrun:=run_make (P:=P) w T e i z h1 h2 h3 kl kc (l:Int) (c:Int) (by omega) (by omega) hbi (by simp [maxLen] at hm;omega)
  simp only [Int.toNat_natCast] at hrun
  refine ⟨.slice (some ⟨w.heap.size,0,none⟩) l c,madeCells z.cells (c*i.size),e,_,by simp [execOp,hop,e1,e2,hrun],m1,m2,rfl,?_⟩
  exact Kv (c:=some c) (Pi.EG ..) ⟨rfl,hlc,by show 0+c*i.size≤(madeCells z.cells (c*i.size)).size;rw [size_madeCells];omega,hm⟩
theorem r_map {T:TypeId}(hop:o.op=.makeMap T none){d:Nat}(hdst:o.dst=some d)(hd:d<N):Step P N o s { (s.put (some d) (.mp s.n)) with h:=hset s.h s.n (some (.map [])),n:=s.n+1 }:=
 Jn hdst hd fun base w0 π a w hr=>by
  have hle:=Pi.JI (p:=⟨w.heap.size,0,0,1⟩) (hr.mem.fresh s.n (Nat.le_refl _))
  refine ⟨.map (some w.heap.size),w.alloc (.map #[] 0),π.put s.n ⟨w.heap.size,0,0,1⟩,by simp [execOp,hop,Instr.makeMap],hle,hr.mem.new rfl ⟨#[],heap_alloc_new w _,rfl,by simp⟩ rfl,by rw [Ai,Pi.EG]⟩
end
end Go.Rn
end
section
namespace Go.Rn
open Go.RowKit
open Go.Vm (CU Fe)
set_option linter.unusedSectionVars false
variable [Cx]
theorem Fv.write {π:Pi}{w:World}{p:Pl}{cs ds:List V}{vs:List Value}{off:Nat}(h:Fv π w p (.cells cs))(k:AL π ds=some vs)(ho:∀u∈vs,u.oneCell'=true)(h1:off≤cs.length)(h2:off+vs.length≤p.room) :
 ∃(arr:Array Value) (e:TypeId),w.heap[p.b]? = some (.cells arr e (0,0))∧arr.size=p.base+p.room ∧
  Fv π (w.setRow p.b (arr.toList.take (p.base+off)++vs++arr.toList.drop (p.base+off+vs.length)).toArray) p (.cells (F9 cs off ds)):=by
 obtain ⟨arr,e,us,g1,g2,g3,g4,g5,g6⟩:=h
 have hul:=E5 g3
 have hvl:=E5 k
 refine ⟨arr,e,g1,g2,_,e,_,setRow_heap w _ arr _ e _ g1,?_,Qk g3 k off,fun u hu=>?_,?_,fun j u hj=>?_⟩
 ·simp only [List.size_toArray,List.length_append,List.length_take,List.length_drop,Array.length_toList]
  rw [g2];omega
 ·rcases List.mem_append.1 hu with hu | hu
  ·rcases List.mem_append.1 hu with hu | hu
   ·exact g4 u (List.mem_of_mem_take hu)
   ·exact ho u hu
  ·exact g4 u (List.mem_of_mem_drop hu)
 ·simp only [F9,List.length_append,List.length_take,List.length_drop];omega
 ·rw [List.toList_toArray]
  have hal:arr.toList.length=p.base+p.room:=by simpa using g2
  by_cases c1:j<off
  ·rw [List.append_assoc,List.getElem?_append_left (by rw [List.length_take];omega),List.getElem?_take,if_pos c1] at hj
   rw [List.append_assoc,List.getElem?_append_left (by rw [List.length_take];omega),List.getElem?_take,if_pos (by omega)]
   exact g6 j u hj
  ·by_cases c2:j<off+vs.length
   ·rw [List.append_assoc,List.getElem?_append_right (by rw [List.length_take];omega),List.getElem?_append_left (by rw [List.length_take];omega)] at hj
    rw [List.append_assoc,List.getElem?_append_right (by rw [List.length_take];omega),List.getElem?_append_left (by rw [List.length_take];omega)]
    rw [←hj];congr 1
    rw [List.length_take,List.length_take];omega
   ·rw [List.getElem?_append_right (by rw [List.length_append,List.length_take];omega),List.getElem?_drop] at hj
    rw [List.getElem?_append_right (by rw [List.length_append,List.length_take];omega),List.getElem?_drop]
    have:=g6 _ u hj
    rw [←this];congr 1
    rw [List.length_append,List.length_append,List.length_take,List.length_take];omega
theorem Ux {P:Program}{w:World}{T tx ty e e':TypeId}{i:TypeInfo}(ht:P.underlying T=some (.slice e))(hi:P.info? e=some i){g o sLen sCap:Nat}{cur:Array Value}(hg:w.heap[g]? = some (.cells cur e' (0,0))){x:Value}{n:Nat}{news:List Value}(hs:Src P i.size tx x n news w)
 (hroom:sLen+n≤sCap) (hfit:o+sLen*i.size+news.length≤cur.size) :
 (Builtin.append_ #[T,tx] ty #[.slice (some ⟨g,o,none⟩) sLen sCap,x]).run P w=.ok (.slice (some ⟨g,o,none⟩) (sLen+n) sCap) (w.setRow g (cur.toList.take (o+sLen*i.size)++news++cur.toList.drop (o+sLen*i.size+news.length)).toArray):=by
 have hst:=run_storeCells_at P g (o+sLen*i.size) e' news 0 cur w hg (by simpa using hfit) hs.one
 simp only [Nat.add_zero] at hst
 rcases hs.kind with ⟨e',hk⟩ | hk<;>simp [Builtin.append_,run_underlying ht,run_underlying hk,sizeOf,typeInfo,hi,hs.len,hroom,hs.cells,Ie,hst]
def strV (s:ByteArray):List V:=s.data.toList.map fun b=>.sc (.int .u8 b.toNat)
def GM (h:Hp)(sz:Nat):V→Option (Nat×List V)
 | .sc (.string s)=>if sz=1 then some (s.size,strV s) else none
 | .sc (.slice none 0 0)=>some (0,[])
 | .sl id off sz' n _=>if sz'=sz then (if n=0 then some (0,[]) else match h id with
  | some b=>match b.cs with
   | some cs=>if off+n*sz≤cs.length then some (n,(cs.drop off).take (n*sz)) else none
   | none=>none
  | none=>none) else none
 | _=>none
def Ld (P:Program)(tx:TypeId):V→Prop
 | .sc (.string _)=>P.underlying tx=some .string
 | _=>∃e',P.underlying tx=some (.slice e')
section
variable {P:Program} {N base n:Nat} {w0 w w':World} {π π':Pi} {s s':St} {a:Act} {o:Oper}
theorem Rel.src (hr:Rel base N w0 π s a w){y:Operand}{v:V}{sz m:Nat}{ds:List V}{tx:TypeId}(hy:Am s y=some v)(hk:Ld P tx v)(hs:GM s.h sz v=some (m,ds)):∃news,Src P sz tx (a.eval y) m news w∧AL π ds=some news:=by
 have hc:=hr.get hy
 unfold GM at hs
 split at hs
 ·rename_i st
  split at hs
  ·rename_i h1
   subst h1
   injection hs with hs;injection hs with e1 e2;subst e1 e2
   have e:=Le (v:=.string st) rfl hc
   rw [e]
   refine ⟨_,Src.ofString (P:=P) w hk st,?_⟩
   unfold strV byteCells
   have:∀l:List UInt8,AL π (l.map fun b=>V.sc (.int .u8 b.toNat))=some (l.map fun b=>Value.int .u8 b.toNat):=by
    intro l
    induction l with
    | nil=>rw [List.map_nil,AL];rfl
    | cons b l ih=>rw [List.map_cons,AL,ih,Ai,if_pos (by rfl)];rfl
   exact this _
  ·cases hs
 ·injection hs with hs;injection hs with e1 e2;subst e1 e2
  have e:=Le (v:=.slice none 0 0) rfl hc
  rw [e]
  obtain ⟨e',hk⟩:=hk
  exact ⟨[],Src.ofNil w hk 0,by rw [AL]⟩
 ·rename_i id off sz' k c
  obtain ⟨e',hk⟩:=hk
  obtain ⟨p,hp,q1,q2,q3,q4,q5⟩:=Ib hc
  rw [q5]
  split at hs
  ·rename_i h1
   subst h1
   split at hs
   ·rename_i h0
    injection hs with hs;injection hs with e1 e2;subst e1 e2 h0
    exact ⟨[],Src.ofSlice w hk _ 0 _ [] (by simp) (by simp) (by simp),by rw [AL]⟩
   ·split at hs
    ·rename_i b hb
     split at hs
     ·rename_i cs hcs
      split at hs
      ·rename_i hle
       injection hs with hs;injection hs with e1 e2;subst e1 e2
       obtain ⟨p',hp',hat⟩:=hr.at hb
       rw [hp] at hp';injection hp' with hp';subst hp'
       obtain ⟨us,f1,f2,f3⟩:=hat.cells hcs
       have hul:=E5 f1
       have hg:=NM (k*sz') (ML off f1)
       refine ⟨_,Src.ofSlice w hk ⟨p.b,p.base+off,none⟩ k _ ((us.drop off).take (k*sz')) (by rw [List.length_take,List.length_drop];omega) (fun j u hu=>?_) (fun u hu=>f2 u (List.mem_of_mem_drop (List.mem_of_mem_take hu))),hg⟩
       rw [List.getElem?_take] at hu
       split at hu
       ·rw [List.getElem?_drop] at hu
        rw [Ie,Nat.add_assoc]
        exact f3 _ u hu
       ·cases hu
      ·cases hs
     ·cases hs
    ·cases hs
  ·cases hs
 ·cases hs
theorem NU {x y:Operand}{T tx:TypeId}(hop:o.op=.call { callee:=.builtin .append,args:=#[x,y],argTypes:=#[T,tx] }){v:Value}{w':World}(h:(Builtin.append_ #[T,tx] o.type #[a.eval x,a.eval y]).run P w=.ok v w'):(execOp a.eval o).run P w=.ok (.value v) w':=by
 simp only [execOp,hop,resolve,invoke,builtin,Sem.run_bind,Sem.run_pure,Result.andThen_ok,List.map_toArray,List.map_cons,List.map_nil,h]
theorem r_app0 {T tx e:TypeId}{sz bytes:Nat}{x y:Operand}{v vy:V}(hop:o.op=.call { callee:=.builtin .append,args:=#[x,y],argTypes:=#[T,tx] })(hT:CU P T=some (e,sz,bytes))(hx:Am s x=some v)(hv:(∃id off n c,v=.sl id off sz n c)∨v=.sc (.slice none 0 0))(hy:Am s y=some vy)(hk:Ld P tx vy)(hs:GM s.h sz vy=some (0,[]))
 (hb:∀id off n c,v=.sl id off sz n c→∃cs,s.h id=some (.cells cs)∧off+n*sz≤cs.length) {d:Nat} (hdst:o.dst=some d) (hd:d<N):Step P N o s (s.put (some d) v):=
 C9 hdst hd fun base w0 π a w hr=>by
  obtain ⟨i,z,h1,h2,h3,h4,h5,h6,h7,h8⟩:=Fe hT
  subst h4
  obtain ⟨news,k1,k2⟩:=hr.src hy hk hs
  rw [AL] at k2;injection k2 with k2;subst k2
  refine ⟨a.eval x,NU hop ?_,hr.get hx⟩
  have hl0:=k1.len w
  have hc0:=k1.cells
  rcases hv with ⟨id,off,n,c,rfl⟩ | rfl
  ·obtain ⟨cs,hcs,hle⟩:=hb id off n c rfl
   obtain ⟨p,hp,q1,q2,q3,q4,q5⟩:=Ib (hr.get hx)
   obtain ⟨p',hp',hat⟩:=hr.at hcs
   rw [hp] at hp';injection hp' with hp';subst hp'
   obtain ⟨arr,e',us,g1,g2,g3,g4,g5,g6⟩:=hat
   rw [q5]
   have hrun:=Ux (P:=P) (ty:=o.type) (o:=p.base+off) h1 h2 g1 k1 (sLen:=n) (sCap:=capOf p off c) (by omega) (by rw [g2];simp only [List.length_nil];omega)
   rw [hrun]
   simp only [List.append_nil,List.length_nil,Nat.add_zero,List.take_append_drop,Array.toArray_toList]
   rw [setRow_self w p.b arr e' (0,0) g1]
  ·have e0:=hr.D9 hx rfl
   rw [e0]
   rcases k1.kind with ⟨e',hk⟩ | hk<;>simp [Builtin.append_,run_underlying h1,run_underlying hk,sizeOf,typeInfo,h2,hl0,hc0]
theorem r_appR {T tx e:TypeId}{sz bytes id off n c m:Nat}{x y:Operand}{vy:V}{cs ds:List V}(hop:o.op=.call { callee:=.builtin .append,args:=#[x,y],argTypes:=#[T,tx] })(hT:CU P T=some (e,sz,bytes))(hx:Am s x=some (.sl id off sz n (some c)))(hy:Am s y=some vy)(hk:Ld P tx vy)(hs:GM s.h sz vy=some (m,ds))
 (hb:s.h id=some (.cells cs)) (hle:off+n*sz≤cs.length) (hroom:n+m≤c) {d:Nat} (hdst:o.dst=some d) (hd:d<N):Step P N o s { (s.put (some d) (.sl id off sz (n+m) (some c))) with h:=hset s.h id (some (.cells (F9 cs (off+n*sz) ds))),n:=s.n }:=
 Jn hdst hd fun base w0 π a w hr=>by
  obtain ⟨i,z,h1,h2,h3,h4,h5,h6,h7,h8⟩:=Fe hT
  subst h4
  obtain ⟨news,k1,k2⟩:=hr.src hy hk hs
  obtain ⟨p,hp,q1,q2,q3,q4,q5⟩:=Ib (hr.get hx)
  obtain ⟨p',hp',hat,hbase,_⟩:=hr.mem.place id _ hb
  rw [hp] at hp';injection hp' with hp';subst hp'
  have hnl:=k1.newsLen
  have hcap:capOf p off (some c)=c:=rfl
  rw [hcap,q1] at q3
  have hmul:(n+m)*i.size≤c*i.size:=Nat.mul_le_mul_right _ hroom
  rw [Nat.add_mul] at hmul
  obtain ⟨arr,e',g1,g2,g3⟩:=hat.write (off:=off+n*i.size) k2 k1.one hle (by rw [hnl];omega)
  have hrun:=Ux (P:=P) (ty:=o.type) (o:=p.base+off) h1 h2 g1 k1 (sLen:=n) (sCap:=c) hroom (by rw [g2,hnl];omega)
  rw [Nat.add_assoc p.base] at hrun
  have hoth:∀k,k≠p.b→(w.setRow p.b (arr.toList.take (p.base+(off+n*i.size))++news++arr.toList.drop (p.base+(off+n*i.size)+news.length)).toArray).heap[k]? = w.heap[k]? := fun k hk=>setRow_other w _ k _ hk
  refine ⟨.slice (some ⟨p.b,p.base+off,none⟩) (n+m) c,_,π,NU hop (by rw [q5,hcap];exact hrun),π.le_refl,hr.mem.update hb rfl hp hoth (by simp) ⟨rfl,rfl,rfl,by simp,fun k hk=>hoth k (by have:=hbase rfl;omega)⟩ g3 rfl,?_⟩
  exact Kv (c:=some c) hp ⟨q1,hroom,by rw [hcap,q1];exact q3,q4⟩
theorem Tz (hr:Rel base N w0 π s a w){T tx e:TypeId}{sz bytes n m cap:Nat}{x y:Operand}{vy:V}{olds:List V}{ds:List V}{ad:Option Addr}{us:List Value}(hT:CU P T=some (e,sz,bytes))(hx:a.eval x=.slice ad n cap)(hold:(Builtin.firstCells sz n (.slice ad n cap)).run P w.drew=.ok us.toArray w.drew)(hus:AL π olds=some us)(huo:∀u∈us,u.oneCell'=true)(hul:us.length=n*sz)
 (hy:Am s y=some vy) (hk:Ld P tx vy) (hs:GM s.h sz vy=some (m,ds)) (hgt:cap<n+m) (hm:n+m≤maxLen) (hby:(n+m)*bytes≤140737488355328) (ty:TypeId) :
 ∃v w' q,(Builtin.append_ #[T,tx] ty #[a.eval x,a.eval y]).run P w=.ok v w'∧π.le (π.put s.n q)∧Mem base w0 (π.put s.n q) (hset s.h s.n (some (.cells (olds++ds)))) (s.n+1) w'∧Ai (π.put s.n q) (.sl s.n 0 sz (n+m) none)=some v:=by
 obtain ⟨i,z,h1,h2,h3,h4,h5,h6,h7,h8⟩:=Fe hT
 subst h4
 obtain ⟨news,k1,k2⟩:=hr.src hy hk hs
 have hnl:=k1.newsLen
 have hrun:=run_append_grow_src (P:=P) w T tx ty e i z h1 h2 h3 ad n cap us hold (a.eval y) m news k1 hgt (by simp only [maxLen] at hm;omega) (growslice_fits hgt (by rw [h5];exact hby))
 rw [←hx] at hrun
 have hge:=grownCap_ge w (n+m) cap e
 have hcm:=grownCap_le_maxLen w (n+m) cap e hm
 have hsz:((us++news).toArray++Builtin.zeroCells z.cells (grownCap w (n+m) cap e-(n+m))).size=grownCap w (n+m) cap e*i.size:=by
  simp only [Array.size_append,List.size_toArray,size_zeroCells,h6,List.length_append]
  rw [hul,hnl,←Nat.add_mul,←Nat.add_mul]
  congr 1;omega
 have hmd:=hr.mem.keep (w':=w.drew) (Below.refl _ _).drew
 have hle:=Pi.JI (p:=⟨w.heap.size,0,grownCap w (n+m) cap e*i.size,i.size⟩) (hr.mem.fresh s.n (Nat.le_refl _))
 have hcc:=OB hus k2
 refine ⟨_,_,⟨w.heap.size,0,grownCap w (n+m) cap e*i.size,i.size⟩,hrun,hle,hmd.new rfl ⟨_,e,us++news,heap_alloc_new w.drew _,by rw [hsz];simp,TZ hle hcc,fun u hu=>?_,?_,fun j u hj=>?_⟩ rfl,?_⟩
 ·rcases List.mem_append.1 hu with hu | hu
  ·exact huo u hu
  ·exact k1.one u hu
 ·have:=E5 hcc
  rw [←this,List.length_append,hul,hnl,←Nat.add_mul]
  exact Nat.mul_le_mul_right _ hge
 ·simp only [Array.toList_append,Nat.zero_add]
  rw [List.getElem?_append_left (by simpa using (List.getElem?_eq_some_iff.1 hj).1)]
  simpa using hj
 ·have hcap:capOf ⟨w.heap.size,0,grownCap w (n+m) cap e*i.size,i.size⟩ 0 none=grownCap w (n+m) cap e:=by
   show (grownCap w (n+m) cap e*i.size-0) / i.size=_
   rw [Nat.sub_zero,Nat.mul_div_cancel _ h7]
  rw [Kv (c:=none) (Pi.EG ..) ⟨rfl,by rw [hcap];exact hge,by rw [hcap];show 0+grownCap w (n+m) cap e*i.size≤grownCap w (n+m) cap e*i.size;omega,by rw [hcap];exact hcm⟩,hcap]
theorem r_appN {T tx e:TypeId}{sz bytes m:Nat}{x y:Operand}{vy:V}{ds:List V}(hop:o.op=.call { callee:=.builtin .append,args:=#[x,y],argTypes:=#[T,tx] })(hT:CU P T=some (e,sz,bytes))(hx:Am s x=some (.sc (.slice none 0 0)))(hy:Am s y=some vy)(hk:Ld P tx vy)(hs:GM s.h sz vy=some (m,ds))
 (hpos:0<m) (hm:m≤maxLen) (hby:m*bytes≤140737488355328) {d:Nat} (hdst:o.dst=some d) (hd:d<N):Step P N o s { (s.put (some d) (.sl s.n 0 sz m none)) with h:=hset s.h s.n (some (.cells ds)),n:=s.n+1 }:=
 Jn hdst hd fun base w0 π a w hr=>by
  obtain ⟨v,w',q,r1,r2,r3,r4⟩:=Tz (P:=P) hr (olds:=[]) (us:=[]) (n:=0) (cap:=0) hT (hr.D9 hx rfl) (run_firstCells_none (P:=P) w.drew sz 0 0 0) (by rw [AL]) (by simp) (by simp) hy hk hs (by omega) (by omega) (by rw [Nat.zero_add];exact hby) o.type
  rw [Nat.zero_add] at r4
  exact ⟨v,w',_,NU hop r1,r2,r3,r4⟩
theorem r_appG {T tx e:TypeId}{sz bytes id off n c m:Nat}{x y:Operand}{vy:V}{b:Blk}{cs ds:List V}(hop:o.op=.call { callee:=.builtin .append,args:=#[x,y],argTypes:=#[T,tx] })(hT:CU P T=some (e,sz,bytes))(hx:Am s x=some (.sl id off sz n (some c)))(hy:Am s y=some vy)(hk:Ld P tx vy)(hs:GM s.h sz vy=some (m,ds))
 (hb:s.h id=some b) (hbc:b.cs=some cs) (hle:off+n*sz≤cs.length) (hgt:c<n+m) (hm:n+m≤maxLen) (hby:(n+m)*bytes≤140737488355328) {d:Nat} (hdst:o.dst=some d) (hd:d<N) :
 Step P N o s { (s.put (some d) (.sl s.n 0 sz (n+m) none)) with h:=hset s.h s.n (some (.cells ((cs.drop off).take (n*sz)++ds))),n:=s.n+1 }:=
 Jn hdst hd fun base w0 π a w hr=>by
  obtain ⟨p,hp,q1,q2,q3,q4,q5⟩:=Ib (hr.get hx)
  obtain ⟨p',hp',hat⟩:=hr.at hb
  rw [hp] at hp';injection hp' with hp';subst hp'
  obtain ⟨us,f1,f2,f3⟩:=hat.cells hbc
  have hul:=E5 f1
  have hl:((us.drop off).take (n*sz)).length=n*sz:=by rw [List.length_take,List.length_drop];omega
  obtain ⟨v,w',q,r1,r2,r3,r4⟩:=Tz (P:=P) hr (us:=(us.drop off).take (n*sz)) hT q5 (run_firstCells_some (P:=P) w.drew sz n ⟨p.b,p.base+off,none⟩ n _ _ hl (fun j u hu=>by
   rw [List.getElem?_take] at hu
   split at hu
   ·rw [List.getElem?_drop] at hu
    rw [Ie,Nat.add_assoc]
    exact f3 _ u hu
   ·cases hu)) (NM _ (ML _ f1)) (fun u hu=>f2 u (List.mem_of_mem_drop (List.mem_of_mem_take hu))) hl hy hk hs hgt hm hby o.type
  exact ⟨v,w',_,NU hop r1,r2,r3,r4⟩
theorem r_appU {T tx e:TypeId}{sz bytes id off n m:Nat}{x y:Operand}{vy:V}{cs ds:List V}(hop:o.op=.call { callee:=.builtin .append,args:=#[x,y],argTypes:=#[T,tx] })(hT:CU P T=some (e,sz,bytes))(hx:Am s x=some (.sl id off sz n none))(hy:Am s y=some vy)(hk:Ld P tx vy)(hs:GM s.h sz vy=some (m,ds))
 (hb:s.h id=some (.cells cs)) (hle:off+n*sz≤cs.length) (hm:n+m≤maxLen) (hby:(n+m)*bytes≤140737488355328) {d:Nat} (hdst:o.dst=some d) (hd:d<N) :
 Step P N o s { (s.put (some d) (.sl s.n 0 sz (n+m) none)) with h:=hset (hset s.h id none) s.n (some (.cells ((cs.drop off).take (n*sz)++ds))),n:=s.n+1 }:=
 Jn hdst hd fun base w0 π a w hr=>by
  obtain ⟨p,hp,q1,q2,q3,q4,q5⟩:=Ib (hr.get hx)
  obtain ⟨p',hp',hat,hbase,_⟩:=hr.mem.place id _ hb
  rw [hp] at hp';injection hp' with hp';subst hp'
  obtain ⟨us,f1,f2,f3⟩:=hat.cells (cs:=cs) rfl
  have hul:=E5 f1
  have hl:((us.drop off).take (n*sz)).length=n*sz:=by rw [List.length_take,List.length_drop];omega
  by_cases hroom:n+m≤capOf p off none
  ·obtain ⟨i,z,h1,h2,h3,h4,h5,h6,h7,h8⟩:=Fe hT
   subst h4
   obtain ⟨news,k1,k2⟩:=hr.src hy hk hs
   have hnl:=k1.newsLen
   rw [q1] at q3
   have hmul:(n+m)*i.size≤capOf p off none*i.size:=Nat.mul_le_mul_right _ hroom
   rw [Nat.add_mul] at hmul
   obtain ⟨arr,e',g1,g2,g3⟩:=hat.write (off:=off+n*i.size) k2 k1.one hle (by rw [hnl];omega)
   have hrun:=Ux (P:=P) (ty:=o.type) (o:=p.base+off) h1 h2 g1 k1 (sLen:=n) (sCap:=capOf p off none) hroom (by rw [g2,hnl];omega)
   rw [Nat.add_assoc p.base] at hrun
   have hoth:∀k,k≠p.b→(w.setRow p.b (arr.toList.take (p.base+(off+n*i.size))++news++arr.toList.drop (p.base+(off+n*i.size)+news.length)).toArray).heap[k]? = w.heap[k]? := fun k hk=>setRow_other w _ k _ hk
   have hfr:=hr.mem.fresh s.n (Nat.le_refl _)
   have hle2:=Pi.JI (p:=⟨p.b,p.base+off,p.room-off,i.size⟩) hfr
   have hcap:capOf ⟨p.b,p.base+off,p.room-off,i.size⟩ 0 none=capOf p off none:=by
    show (p.room-off-0) / i.size=(p.room-off) / p.sz
    rw [Nat.sub_zero,q1]
   obtain ⟨arr2,e2,us2,m1,m2,m3,m4,m5,m6⟩:=g3
   refine ⟨.slice (some ⟨p.b,p.base+off,none⟩) (n+m) (capOf p off none),_,π.put s.n ⟨p.b,p.base+off,p.room-off,i.size⟩,NU hop (by rw [q5];exact hrun),hle2,hr.mem.regrow hb rfl hp rfl hoth (by simp) ⟨rfl,rfl,rfl,by simp,fun k hk=>hoth k (by have:=hbase rfl;omega)⟩ ?_ rfl,?_⟩
   ·have hcc:=OB (NM (n*i.size) (ML off f1)) k2
    refine ⟨arr2,e2,_,m1,by rw [m2];show _=p.base+off+(p.room-off);omega,TZ hle2 hcc,fun u hu=>?_,?_,fun j u hj=>?_⟩
    ·rcases List.mem_append.1 hu with hu | hu
     ·exact f2 u (List.mem_of_mem_drop (List.mem_of_mem_take hu))
     ·exact k1.one u hu
    ·have:=E5 hcc
     rw [←this,List.length_append,hl,hnl]
     show _≤p.room-off
     omega
    ·have hp2:=Qk f1 k2 (off+n*i.size)
     rw [hp2] at m3;injection m3 with m3
     have:us2[off+j]? = some u:=by
      rw [←m3]
      by_cases c1:j<n*i.size
      ·rw [List.getElem?_append_left (by rw [hl];exact c1),List.getElem?_take,if_pos c1,List.getElem?_drop] at hj
       rw [List.append_assoc,List.getElem?_append_left (by rw [List.length_take];omega),List.getElem?_take,if_pos (by omega)]
       exact hj
      ·have hj2:=(List.getElem?_eq_some_iff.1 hj).1
       rw [List.length_append,hl] at hj2
       rw [List.getElem?_append_right (by rw [hl];omega),hl] at hj
       rw [List.append_assoc,List.getElem?_append_right (by rw [List.length_take];omega),List.getElem?_append_left (by rw [List.length_take];omega)]
       rw [←hj];congr 1
       rw [List.length_take];omega
     have:=m6 _ u this
     rw [←Nat.add_assoc] at this
     exact this
   ·rw [Kv (c:=none) (Pi.EG ..) ⟨rfl,by rw [hcap];exact hroom,by rw [hcap];show 0 + _≤p.room-off;show 0+capOf p off none*i.size≤p.room-off;omega,by rw [hcap];exact q4⟩,hcap]
    rfl
  ·obtain ⟨v,w',q,r1,r2,r3,r4⟩:=Tz (P:=P) hr (us:=(us.drop off).take (n*sz)) hT q5 (run_firstCells_some (P:=P) w.drew sz n ⟨p.b,p.base+off,none⟩ n _ _ hl (fun j u hu=>by
    rw [List.getElem?_take] at hu
    split at hu
    ·rw [List.getElem?_drop] at hu
     rw [Ie,Nat.add_assoc]
     exact f3 _ u hu
    ·cases hu)) (NM _ (ML _ f1)) (fun u hu=>f2 u (List.mem_of_mem_drop (List.mem_of_mem_take hu))) hl hy hk hs (by omega) hm hby o.type
   refine ⟨v,w',_,NU hop r1,r2,?_,r4⟩
   have hne:id≠s.n:=by
    rintro rfl
    rw [hr.mem.fresh s.n (Nat.le_refl _)] at hp;cases hp
   have hk2:=r3.kill id
   have:hset (hset s.h s.n (some (.cells ((cs.drop off).take (n*sz)++ds)))) id none=hset (hset s.h id none) s.n (some (.cells ((cs.drop off).take (n*sz)++ds))):=by
    funext k
    unfold hset
    by_cases e1:k=id
    ·subst e1;rw [if_pos rfl,if_neg hne,if_pos rfl]
    ·by_cases e2:k=s.n
     ·subst e2;rw [if_neg e1,if_pos rfl,if_pos rfl]
     ·rw [if_neg e1,if_neg e2,if_neg e2,if_neg e1]
   rw [this] at hk2
   exact hk2
end
end Go.Rn
end
section
namespace Go.Rn
open Go.RowKit
open Go.Vm (AX Dn Bl Gy Np KX DK JH CU Fe FB Jk)
set_option linter.unusedSectionVars false
variable [Cx]
theorem V5 {P:Program}{π:Pi}{w:World}{T:TypeId}{arr:Array Value}{cs:List V}{sh:Bool×Nat}{off:Nat}{v:V}(hsh:Bl P T=some sh)(h:AL π cs=some arr.toList)(ho:∀u∈arr.toList,u.oneCell'=true)(hp:Ih sh cs off=some v) :
 ∃u,(part T arr off).run P w=.ok u w∧Ai π v=some u:=by
 obtain ⟨ag,n⟩:=sh
 obtain ⟨i,dd,h1,h2,h3,h4⟩:=Gy hsh
 have hagg:=KX (w:=w) h2
 rw [h3] at hagg
 rcases Xq h ho hp with ⟨e,hle,hv⟩ | ⟨e,u,hu,hv⟩
 ·simp only at e hle hv;subst e
  refine ⟨_,?_,hv⟩
  have:arr.extract off (off+n)=((arr.toList.drop off).take n).toArray:=by
   apply Array.ext'
   simp [List.take_drop]
  simp [part,Sem.run_bind,hagg,sizeOf,typeInfo,h1,h4,this]
 ·simp only at e;subst e
  refine ⟨u,?_,hv⟩
  have hu':arr[off]? = some u:=by simpa using hu
  simp [part,Sem.run_bind,hagg,hu']
theorem agg_conc {π:Pi}{cs:List V}{u:Value}(h:Ai π (.agg cs)=some u):∃arr,u=.agg arr∧AL π cs=some arr.toList∧∀x∈arr.toList,x.oneCell'=true:=by
 have hc:=Sl h (by rintro _ ⟨⟩)
 rw [Ai] at h
 split at h
 ·obtain ⟨us,h1,rfl⟩:=Option.map_eq_some_iff.1 h
  exact ⟨us.toArray,rfl,by simpa using h1,by simpa [Value.cells] using hc.2⟩
 ·cases h
def fieldAt? (P:Program)(t:TypeId)(f:Nat):Option (Nat×(Bool×Nat)):=match P.underlying t with
 | some (.struct fs)=>match fs[f]? with
  | some g=>(Bl P g.type).map fun sh=>(g.offset,sh)
  | none=>none
 | _=>none
def RF (P:Program)(t:TypeId):Option (Nat×Nat×(Bool×Nat)):=match P.underlying t with
 | some (.array n e)=>match P.info? e,Bl P e with
  | some i,some sh=>some (n,i.size,sh)
  | _,_=>none
 | _=>none
section
variable {P:Program} {N base n:Nat} {w0 w w':World} {π π':Pi} {s s':St} {a:Act} {o:Oper}
theorem r_field {T:TypeId}{x:Operand}{f off:Nat}{sh:Bool×Nat}{cs:List V}{v:V}(hop:o.op=.field T x f)(hx:Am s x=some (.agg cs))(hf:fieldAt? P T f=some (off,sh))(hp:Ih sh cs off=some v){d:Nat}(hdst:o.dst=some d)(hd:d<N):Step P N o s (s.put (some d) v):=
 C9 hdst hd fun base w0 π a w hr=>by
  obtain ⟨arr,e,h1,h2⟩:=agg_conc (hr.get hx)
  unfold fieldAt? at hf
  split at hf
  ·rename_i fs hu
   split at hf
   ·rename_i g hg
    obtain ⟨sh',h3,h4⟩:=Option.map_eq_some_iff.1 hf
    injection h4 with h4 h5;subst h4 h5
    obtain ⟨u,h6,h7⟩:=V5 (P:=P) (w:=w) h3 h1 h2 hp
    exact ⟨u,by simp [execOp,hop,e,Instr.field,run_underlying hu,hg,asAgg,h6],h7⟩
   ·cases hf
  ·cases hf
theorem YR {T:TypeId}{n sz:Nat}{sh:Bool×Nat}(h:RF P T=some (n,sz,sh)):∃e i,P.underlying T=some (.array n e)∧P.info? e=some i∧i.size=sz∧Bl P e=some sh:=by
 unfold RF at h
 split at h
 ·rename_i m e hu
  split at h
  ·rename_i i sh' hi hsh
   injection h with h;injection h with h1 h;injection h with h2 h3
   subst h1 h2 h3
   exact ⟨e,i,hu,hi,rfl,hsh⟩
  ·cases h
 ·cases h
theorem r_index {T:TypeId}{x ix:Operand}{k:IntKind}{i n sz:Nat}{sh:Bool×Nat}{cs:List V}{v:V}(hop:o.op=.index T x ix)(hx:Am s x=some (.agg cs))(hi:Am s ix=some (.sc (.int k (i:Int))))(hT:RF P T=some (n,sz,sh))(hlt:i<n)(hp:Ih sh cs (i*sz)=some v){d:Nat}(hdst:o.dst=some d)(hd:d<N):Step P N o s (s.put (some d) v):=
 C9 hdst hd fun base w0 π a w hr=>by
  obtain ⟨arr,e,h1,h2⟩:=agg_conc (hr.get hx)
  obtain ⟨el,inf,q1,q2,q3,q4⟩:=YR hT
  have e2:=hr.D9 hi rfl
  obtain ⟨u,h6,h7⟩:=V5 (P:=P) (w:=w) q4 h1 h2 hp
  refine ⟨u,?_,h7⟩
  have h9:(i:Int)<n:=by omega
  simp [execOp,hop,e,e2,Instr.index,asIntOf,run_underlying q1,sizeOf,typeInfo,q2,q3,h6]
  intro hbad;omega
theorem r_char {T:TypeId}{x ix:Operand}{k:IntKind}{i:Nat}{st:ByteArray}{b:UInt8}(hop:o.op=.index T x ix)(hx:Am s x=some (.sc (.string st)))(hi:Am s ix=some (.sc (.int k (i:Int))))(hT:P.underlying T=some .string)(hb:st[i]? = some b){d:Nat}(hdst:o.dst=some d)(hd:d<N):Step P N o s (s.put (some d) (.sc (.int .u8 b.toNat))):=
 C9 hdst hd fun base w0 π a w hr=>by
  have e1:=hr.D9 hx rfl
  have e2:=hr.D9 hi rfl
  exact ⟨.int .u8 b.toNat,by simp [execOp,hop,e1,e2,Instr.index,asIntOf,run_underlying hT,hb],by rw [Ai,if_pos (by rfl)]⟩
theorem r_ixS {T:TypeId}{x ix:Operand}{k:IntKind}{i id off sz sz' n:Nat}{c:Option Nat}(hop:o.op=.indexAddr T x ix)(hx:Am s x=some (.sl id off sz n c))(hi:Am s ix=some (.sc (.int k (i:Int))))(hT:DK P T=some sz')(hlt:i<n){d:Nat}(hdst:o.dst=some d)(hd:d<N):Step P N o s (s.put (some d) (.ptr id (off+i*sz'))):=
 C9 hdst hd fun base w0 π a w hr=>by
  obtain ⟨p,hp,q1,q2,q3,q4,q5⟩:=Ib (hr.get hx)
  have e2:=hr.D9 hi rfl
  obtain ⟨e,inf,hu,hinf,hs⟩:=JH hT
  subst hs
  refine ⟨.pointer (some ⟨p.b,p.base+off+i*inf.size,none⟩),?_,by rw [Ai,hp,Nat.add_assoc]⟩
  have h9:(i:Int)<n:=by omega
  simp [execOp,hop,q5,e2,Instr.indexAt,asIntOf,run_underlying hu,sizeOf,typeInfo,hinf,Addr.add_lit]
  intro hbad;omega
theorem r_ixA {T:TypeId}{x ix:Operand}{k:IntKind}{i id off n sz:Nat}(hop:o.op=.indexAddr T x ix)(hx:Am s x=some (.ptr id off))(hi:Am s ix=some (.sc (.int k (i:Int))))(hT:FB P T=some (n,sz))(hlt:i<n){d:Nat}(hdst:o.dst=some d)(hd:d<N):Step P N o s (s.put (some d) (.ptr id (off+i*sz))):=
 C9 hdst hd fun base w0 π a w hr=>by
  have h:=hr.get hx
  rw [Ai] at h
  split at h
  ·rename_i p hp
   injection h with h
   have e2:=hr.D9 hi rfl
   unfold FB at hT
   split at hT
   ·rename_i m e hu
    obtain ⟨inf,hinf,h4⟩:=Option.map_eq_some_iff.1 hT
    injection h4 with h4 h5;subst h4 h5
    refine ⟨.pointer (some ⟨p.b,p.base+off+i*inf.size,none⟩),?_,by rw [Ai,hp,Nat.add_assoc]⟩
    have h9:(i:Int)<m:=by omega
    simp [execOp,hop,←h,e2,Instr.indexAt,asIntOf,run_underlying hu,Instr.sureAddr,sizeOf,typeInfo,hinf,Addr.add_lit]
    intro hbad;omega
   ·cases hT
  ·cases h
def Ej (s:St)(x:Option Operand)(dflt:Nat):Option Nat:=match x with
 | none=>some dflt
 | some y=>match Am s y with
  | some (.sc (.int _ i))=>if 0≤i then some i.toNat else none
  | _=>none
theorem Rel.bound (hr:Rel base N w0 π s a w){x:Operand}{n l:Nat}(hb:Ej s (some x) n=some l):∃k i,a.eval x=.int k i∧0≤i∧i.toNat=l:=by
 unfold Ej at hb
 simp only at hb
 split at hb
 ·rename_i k i hv
  split at hb
  ·rename_i h0
   injection hb with hb
   exact ⟨k,i,hr.D9 hv rfl,h0,hb⟩
  ·cases hb
 ·cases hb
theorem PR (hs:Rel base N w0 π s a w){isS:Bool}{len cap:Nat}{lo hi:Option Operand}{l h:Nat}(hl:Ej s lo 0=some l)(hh:Ej s hi len=some h)(h1:l≤h)(h2:h≤cap) :
 (Instr.sliceBounds isS len cap (lo.map a.eval) (hi.map a.eval) none).run P w=.ok (l,h,cap) w:=by
 cases hi with
 | none=>
  simp only [Ej,Option.some.injEq] at hh;subst hh
  cases lo with
  | none=>simp only [Ej,Option.some.injEq] at hl;subst hl;simp [Instr.sliceBounds]
  | some x=>
   obtain ⟨k,i,e1,e2,e3⟩:=hs.bound hl
   have hr:=Jk (P:=P) (w:=w) (code:=.sliceB) e1 e2 (y:=len) (by omega)
   simp [Instr.sliceBounds,hr,e3]
 | some y=>
  obtain ⟨k',i',f1,f2,f3⟩:=hs.bound hh
  have hr':=Jk (P:=P) (w:=w) (code:=if isS then .sliceAcap else .sliceAlen) f1 f2 (y:=cap) (by omega)
  cases lo with
  | none=>simp only [Ej,Option.some.injEq] at hl;subst hl;simp [Instr.sliceBounds,hr',f3]
  | some x=>
   obtain ⟨k,i,e1,e2,e3⟩:=hs.bound hl
   have hr:=Jk (P:=P) (w:=w) (code:=.sliceB) e1 e2 (y:=h) (by omega)
   simp [Instr.sliceBounds,hr',f3,hr,e3]
theorem run_bounds3 (hs:Rel base N w0 π s a w){len cap:Nat}{lo:Option Operand}{y z:Operand}{l h m:Nat}(hl:Ej s lo 0=some l)(hh:Ej s (some y) len=some h)(hm:Ej s (some z) len=some m)(h1:l≤h)(h2:h≤m)(h3:m≤cap) :
 (Instr.sliceBounds true len cap (lo.map a.eval) (some (a.eval y)) (some (a.eval z))).run P w=.ok (l,h,m) w:=by
 obtain ⟨k',i',f1,f2,f3⟩:=hs.bound hh
 obtain ⟨k'',i'',g1,g2,g3⟩:=hs.bound hm
 have hr'':=Jk (P:=P) (w:=w) (code:=.slice3Acap) g1 g2 (y:=cap) (by omega)
 have hr':=Jk (P:=P) (w:=w) (code:=.slice3B) f1 f2 (y:=m) (by omega)
 cases lo with
 | none=>simp only [Ej,Option.some.injEq] at hl;subst hl;simp [Instr.sliceBounds,hr',f3,hr'',g3]
 | some x=>
  obtain ⟨k,i,e1,e2,e3⟩:=hs.bound hl
  have hr:=Jk (P:=P) (w:=w) (code:=.slice3C) e1 e2 (y:=h) (by omega)
  simp [Instr.sliceBounds,hr',f3,hr,e3,hr'',g3]
theorem r_substr {T:TypeId}{x:Operand}{lo hi:Option Operand}{st:ByteArray}{l h:Nat}(hop:o.op=.slice T x lo hi none)(hx:Am s x=some (.sc (.string st)))(hT:P.underlying T=some .string)(hl:Ej s lo 0=some l)(hh:Ej s hi st.size=some h)(h1:l≤h)(h2:h≤st.size){d:Nat}(hdst:o.dst=some d)(hd:d<N):Step P N o s (s.put (some d) (.sc (.string (st.extract l h)))):=
 C9 hdst hd fun base w0 π a w hr=>by
  have e1:=hr.D9 hx rfl
  have hb:=PR (P:=P) hr (isS:=false) (len:=st.size) (cap:=st.size) hl hh h1 h2
  exact ⟨.string (st.extract l h),by simp [execOp,hop,Instr.sliceAt,run_underlying hT,Instr.slice,e1,hb],by rw [Ai,if_pos (by rfl)]⟩
theorem r_slice {T:TypeId}{x:Operand}{lo hi:Option Operand}{id off sz n l h:Nat}{c:Option Nat}(hop:o.op=.slice T x lo hi none)(hx:Am s x=some (.sl id off sz n c))(hT:DK P T=some sz)(hl:Ej s lo 0=some l)(hh:Ej s hi n=some h)(h1:l≤h)(h2:h≤n∨∃k,c=some k∧h≤k)(h3:l=0∨l<n∨∃k,c=some k∧l<k)(h0:0<sz){d:Nat}(hdst:o.dst=some d)(hd:d<N):Step P N o s (s.put (some d) (.sl id (off+l*sz) sz (h-l) (c.map (· - l)))):=
 C9 hdst hd fun base w0 π a w hr=>by
  obtain ⟨p,hp,q1,q2,q3,q4,q5⟩:=Ib (hr.get hx)
  obtain ⟨e,inf,hu,hinf,hs⟩:=JH hT
  have hcap:h≤capOf p off c:=by
   rcases h2 with h2 | ⟨k,rfl,h2⟩
   ·omega
   ·exact h2
  have hb:=PR (P:=P) hr (isS:=true) (len:=n) (cap:=capOf p off c) hl hh h1 hcap
  have hlc:l=0∨l<capOf p off c:=by
   rcases h3 with h3 | h3 | ⟨k,rfl,h3⟩
   ·exact .inl h3
   ·exact .inr (by omega)
   ·exact .inr h3
  have hmul:l*sz≤capOf p off c*sz:=Nat.mul_le_mul_right _ (by omega)
  rw [q1] at q3
  have hcap2:capOf p (off+l*sz) (c.map (· - l))=capOf p off c-l:=by
   cases c with
   | some k=>rfl
   | none=>
    show (p.room-(off+l*sz)) / p.sz=(p.room-off) / p.sz-l
    rw [q1,Nat.sub_add_eq,Nat.mul_comm l sz,Nat.sub_mul_div]
  refine ⟨.slice (some ⟨p.b,p.base+(off+l*sz),none⟩) (h-l) (capOf p off c-l),?_,?_⟩
  ·subst hs
   have hz:(if capOf p off c=l then (⟨p.b,p.base+off,none⟩:Addr) else (⟨p.b,p.base+off,none⟩:Addr).add (l*inf.size))=⟨p.b,p.base+(off+l*inf.size),none⟩:=by
    split
    ·rename_i e0
     have:l=0:=by omega
     subst this;simp
    ·rw [Ie,Nat.add_assoc]
   simp [execOp,hop,Instr.sliceAt,run_underlying hu,Instr.slice,q5,hb,sizeOf,typeInfo,hinf]
   split
   ·rename_i e0;rw [if_pos e0] at hz;exact congrArg some hz
   ·rename_i e0;rw [if_neg e0] at hz;exact congrArg some hz
  ·rw [Kv hp ⟨q1,by rw [hcap2];omega,by rw [hcap2,q1,Nat.sub_mul];omega,by rw [hcap2];omega⟩,hcap2]
theorem r_sliceC {T:TypeId}{x:Operand}{lo hi:Option Operand}{id off sz n k:Nat}(hop:o.op=.slice T x lo hi none)(hx:Am s x=some (.sl id off sz n (some k)))(hT:DK P T=some sz)(hl:Ej s lo 0=some k)(hh:Ej s hi n=some k)(h0:0<sz){d:Nat}(hdst:o.dst=some d)(hd:d<N):Step P N o s (s.put (some d) (.sl id off sz 0 (some 0))):=
 C9 hdst hd fun base w0 π a w hr=>by
  obtain ⟨p,hp,q1,q2,q3,q4,q5⟩:=Ib (hr.get hx)
  obtain ⟨e,inf,hu,hinf,hs⟩:=JH hT
  have hb:=PR (P:=P) hr (isS:=true) (len:=n) (cap:=capOf p off (some k)) hl hh (Nat.le_refl _) (Nat.le_refl _)
  have hc:capOf p off (some k)=k:=rfl
  rw [hc] at hb q5
  subst hs
  refine ⟨.slice (some ⟨p.b,p.base+off,none⟩) 0 0,?_,?_⟩
  ·simp [execOp,hop,Instr.sliceAt,run_underlying hu,Instr.slice,q5,hb,sizeOf,typeInfo,hinf]
  ·refine Kv (c:=some 0) hp ⟨q1,Nat.zero_le _,?_,Nat.zero_le _⟩
   rw [hc] at q3
   show off+0*p.sz≤p.room
   omega
theorem r_sliceE {T:TypeId}{x:Operand}{lo hi:Option Operand}{id off sz n:Nat}(hop:o.op=.slice T x lo hi none)(hx:Am s x=some (.sl id off sz n none))(hT:DK P T=some sz)(hl:Ej s lo 0=some n)(hh:Ej s hi n=some n)(h0:0<sz){d:Nat}(hdst:o.dst=some d)(hd:d<N):Step P N o s { (s.put (some d) (.sl s.n 0 sz 0 none)) with h:=hset s.h s.n none,n:=s.n+1 }:=
 Jn hdst hd fun base w0 π a w hr=>by
  obtain ⟨p,hp,q1,q2,q3,q4,q5⟩:=Ib (hr.get hx)
  obtain ⟨e,inf,hu,hinf,hs⟩:=JH hT
  have hb:=PR (P:=P) hr (isS:=true) (len:=n) (cap:=capOf p off none) hl hh (Nat.le_refl _) q2
  have hfr:=hr.mem.fresh s.n (Nat.le_refl _)
  have hlt:=hr.mem.lt id p hp
  have key:∀q:Pl,q.b=p.b→Mem base w0 (π.put s.n q) (hset s.h s.n none) (s.n+1) w:=fun q hq=>by
   have hle:=Pi.JI (p:=q) hfr
   have hne:∀k c,s.h k=some c→k≠s.n:=by
    rintro k c hk rfl
    obtain ⟨q,h1,_⟩:=hr.mem.place _ c hk
    rw [hfr] at h1;cases h1
   refine ⟨fun k c hk=>?_,fun k k' c c' q1 q2 hk hk' r r' hq1 hq2 e=>?_,fun k hk=>?_,fun k r hk=>?_,hr.mem.below,hr.mem.size,hr.mem.ctx,fun x hx=>?_⟩
   rotate_left 4
   ·obtain ⟨x1,x2,x3⟩:=hr.mem.fl x hx
    refine ⟨x1,x2,fun k r hk=>?_⟩
    by_cases e:k=s.n
    ·subst e
     rw [Pi.EG] at hk;injection hk with hk;subst hk
     rw [hq];exact x3 id p hp
    ·rw [Pi.EM e] at hk
     exact x3 k r hk
   ·unfold hset at hk;split at hk
    ·cases hk
    ·rename_i e
     obtain ⟨r,g1,g2,g3⟩:=hr.mem.place k c hk
     exact ⟨r,by rw [Pi.EM e];exact g1,g2.le hle,g3⟩
   ·unfold hset at hk hk'
    split at hk
    ·cases hk
    ·split at hk'
     ·cases hk'
     ·rename_i e1 e2
      rw [Pi.EM e1] at hq1
      rw [Pi.EM e2] at hq2
      exact hr.mem.sep k k' c c' q1 q2 hk hk' r r' hq1 hq2 e
   ·rw [Pi.EM (by omega)];exact hr.mem.fresh k (by omega)
   ·by_cases e:k=s.n
    ·subst e;rw [Pi.EG] at hk;injection hk with hk;subst hk;rw [hq];exact hlt
    ·rw [Pi.EM e] at hk;exact hr.mem.lt k r hk
  subst hs
  by_cases hc:capOf p off none=n
  ·refine ⟨.slice (some ⟨p.b,p.base+off,none⟩) 0 0,w,π.put s.n ⟨p.b,p.base+off,0,inf.size⟩,?_,Pi.JI hfr,key _ rfl,?_⟩
   ·rw [hc] at hb q5
    simp [execOp,hop,Instr.sliceAt,run_underlying hu,Instr.slice,q5,hb,sizeOf,typeInfo,hinf]
   ·have hcap:capOf ⟨p.b,p.base+off,0,inf.size⟩ 0 none=0:=by show (0-0) / inf.size=0;simp
    rw [Kv (Pi.EG ..) ⟨rfl,Nat.zero_le _,by rw [hcap];simp,by rw [hcap];exact Nat.zero_le _⟩,hcap]
    rfl
  ·have hcap:capOf ⟨p.b,p.base+off+n*inf.size,(capOf p off none-n)*inf.size,inf.size⟩ 0 none=capOf p off none-n:=by
    show ((capOf p off none-n)*inf.size-0) / inf.size=_
    rw [Nat.sub_zero,Nat.mul_div_cancel _ h0]
   refine ⟨.slice (some ⟨p.b,p.base+off+n*inf.size,none⟩) 0 (capOf p off none-n),w,π.put s.n ⟨p.b,p.base+off+n*inf.size,(capOf p off none-n)*inf.size,inf.size⟩,?_,Pi.JI hfr,key _ rfl,?_⟩
   ·simp [execOp,hop,Instr.sliceAt,run_underlying hu,Instr.slice,q5,hb,sizeOf,typeInfo,hinf,hc,Ie]
   ·rw [Kv (Pi.EG ..) ⟨rfl,Nat.zero_le _,by rw [hcap];simp,by rw [hcap];omega⟩,hcap]
    rfl
theorem r_slice3 {T:TypeId}{x y z:Operand}{lo:Option Operand}{id off sz n l h m:Nat}{c:Option Nat}(hop:o.op=.slice T x lo (some y) (some z))(hx:Am s x=some (.sl id off sz n c))(hT:DK P T=some sz)(hl:Ej s lo 0=some l)(hh:Ej s (some y) n=some h)(hm:Ej s (some z) n=some m)(h1:l≤h)(h2:h≤m)(h3:m≤n){d:Nat}(hdst:o.dst=some d)(hd:d<N):Step P N o s (s.put (some d) (.sl id (if m=l then off else off+l*sz) sz (h-l) (some (m-l)))):=
 C9 hdst hd fun base w0 π a w hr=>by
  obtain ⟨p,hp,q1,q2,q3,q4,q5⟩:=Ib (hr.get hx)
  obtain ⟨e,inf,hu,hinf,hs⟩:=JH hT
  have hb:=run_bounds3 (P:=P) hr (len:=n) (cap:=capOf p off c) hl hh hm h1 h2 (by omega)
  have hmul:m*sz≤capOf p off c*sz:=Nat.mul_le_mul_right _ (by omega)
  have hmul2:l*sz≤m*sz:=Nat.mul_le_mul_right _ (by omega)
  rw [q1] at q3
  subst hs
  refine ⟨.slice (some ⟨p.b,p.base+(if m=l then off else off+l*inf.size),none⟩) (h-l) (m-l),?_,?_⟩
  ·by_cases hc:m=l
   ·simp [execOp,hop,Instr.sliceAt,run_underlying hu,Instr.slice,q5,hb,sizeOf,typeInfo,hinf,hc]
   ·simp [execOp,hop,Instr.sliceAt,run_underlying hu,Instr.slice,q5,hb,sizeOf,typeInfo,hinf,hc,Ie,Nat.add_assoc]
  ·refine Kv (c:=some (m-l)) hp ⟨q1,by show h-l≤m-l;omega,?_,by show m-l≤_;omega⟩
   show (if m=l then off else off+l*inf.size)+(m-l)*p.sz≤p.room
   rw [q1,Nat.sub_mul]
   split<;>omega
theorem r_len {T e:TypeId}{x:Operand}{id off sz n:Nat}{c:Option Nat}(hop:o.op=.call { callee:=.builtin .len,args:=#[x],argTypes:=#[T] })(hx:Am s x=some (.sl id off sz n c))(hT:P.underlying T=some (.slice e)){d:Nat}(hdst:o.dst=some d)(hd:d<N):Step P N o s (s.put (some d) (.sc (.int .i64 n))):=
 C9 hdst hd fun base w0 π a w hr=>by
  obtain ⟨p,hp,q1,q2,q3,q4,q5⟩:=Ib (hr.get hx)
  exact ⟨.int .i64 n,by simp [execOp,hop,resolve,invoke,builtin,q5,Builtin.len_,run_underlying hT,goInt],by rw [Ai,if_pos (by rfl)]⟩
theorem r_len0 {T e:TypeId}{x:Operand}(hop:o.op=.call { callee:=.builtin .len,args:=#[x],argTypes:=#[T] })(hx:Am s x=some (.sc (.slice none 0 0)))(hT:P.underlying T=some (.slice e)){d:Nat}(hdst:o.dst=some d)(hd:d<N):Step P N o s (s.put (some d) (.sc (.int .i64 0))):=
 C9 hdst hd fun base w0 π a w hr=>by
  have e1:=hr.D9 hx rfl
  exact ⟨.int .i64 0,by simp [execOp,hop,resolve,invoke,builtin,e1,Builtin.len_,run_underlying hT,goInt],by rw [Ai,if_pos (by rfl)]⟩
theorem r_lens {T:TypeId}{x:Operand}{st:ByteArray}(hop:o.op=.call { callee:=.builtin .len,args:=#[x],argTypes:=#[T] })(hx:Am s x=some (.sc (.string st)))(hT:P.underlying T=some .string){d:Nat}(hdst:o.dst=some d)(hd:d<N):Step P N o s (s.put (some d) (.sc (.int .i64 st.size))):=
 C9 hdst hd fun base w0 π a w hr=>by
  have e1:=hr.D9 hx rfl
  exact ⟨.int .i64 st.size,by simp [execOp,hop,resolve,invoke,builtin,e1,Builtin.len_,run_underlying hT,goInt],by rw [Ai,if_pos (by rfl)]⟩
theorem r_lenA {T e:TypeId}{x:Operand}{n:Nat}(hop:o.op=.call { callee:=.builtin .len,args:=#[x],argTypes:=#[T] })(hT:P.underlying T=some (.array n e)){d:Nat}(hdst:o.dst=some d)(hd:d<N):Step P N o s (s.put (some d) (.sc (.int .i64 n))):=
 C9 hdst hd fun base w0 π a w hr=>⟨.int .i64 n,by simp [execOp,hop,resolve,invoke,builtin,Builtin.len_,run_underlying hT,goInt],by rw [Ai,if_pos (by rfl)]⟩
theorem r_eqnil {T T':TypeId}{x y:Operand}{v:V}{u:Value}{td:TypeDesc}{neg:Bool}(hop:o.op=.binOp (if neg then .neq else .eql) T x y T')(hx:Am s x=some v)(hy:Am s y=some (.sc u))(hn:notNil v u=true)(hT:P.underlying T=some td)(hk:match td,v with
      | .pointer _,.ptr _ _=>True
      | .map _ _,.mp _=>True
      | .slice _,.sl _ _ _ _ _=>True
      | .func _ _ _,.fn _ _=>True
      | _,_=>False) {d:Nat} (hdst:o.dst=some d) (hd:d<N):Step P N o s (s.put (some d) (.sc (.bool neg))):=
 C9 hdst hd fun base w0 π a w hr=>by
  have e2:=hr.D9 hy rfl
  have h:=hr.get hx
  have key:∀z:Value,a.eval x=z→(eqGuard (if neg then .neq else .eql) T x y z u).run P w=.ok () w→(Op.equal T z u).run P w=.ok false w→(binOp (if neg then .neq else .eql) T z u=if neg then (do pure (.bool (!(←Op.equal T z u)))) else (do pure (.bool (←Op.equal T z u))))→(execOp a.eval o).run P w=.ok (.value (.bool neg)) w:=by
   intro z hz hg he hb
   simp only [execOp,hop,hz,e2,Sem.run_bind,hg,Result.andThen_ok,hb]
   cases neg<;>simp [he,Result.andThen]
  refine ⟨.bool neg,?_,by rw [Ai,if_pos (by rfl)]⟩
  cases v with
  | ptr id off=>
   rw [Ai] at h;split at h
   ·injection h with h
    cases u<;>try (cases hn;done)
    rename_i ad
    cases ad with
    | some _=>cases hn
    | none=>
     cases td<;>try (cases hk;done)
     refine key _ h.symm (by cases neg<;>rfl) ?_ (by cases neg<;>rfl)
     unfold Op.equal
     rw [show Op.maxDepth=9999+1 from rfl,Op.equalIn,Sem.run_bind,run_underlying hT w]
     rfl
   ·cases h
  | mp id=>
   rw [Ai] at h;split at h
   ·injection h with h
    cases u<;>try (cases hn;done)
    rename_i ad
    cases ad with
    | some _=>cases hn
    | none=>
     cases td<;>try (cases hk;done)
     refine key _ h.symm (by cases neg<;>rfl) ?_ (by cases neg<;>rfl)
     unfold Op.equal
     rw [show Op.maxDepth=9999+1 from rfl,Op.equalIn,Sem.run_bind,run_underlying hT w]
     rfl
   ·cases h
  | sl id off sz n c=>
   obtain ⟨p,hp,q1,q2,q3,q4,q5⟩:=Ib h
   cases u<;>try (cases hn;done)
   rename_i ad l2 c2
   cases ad with
   | some _=>cases hn
   | none=>
    cases td<;>try (cases hk;done)
    refine key _ q5 (by cases neg<;>rfl) ?_ (by cases neg<;>rfl)
    unfold Op.equal
    rw [show Op.maxDepth=9999+1 from rfl,Op.equalIn,Sem.run_bind,run_underlying hT w]
    rfl
  | fn f cs=>
   rw [Ai] at h
   obtain ⟨us,_,h⟩:=Option.map_eq_some_iff.1 h
   cases u<;>try (cases hn;done)
   cases td<;>try (cases hk;done)
   refine key _ h.symm (by cases neg<;>rfl) ?_ (by cases neg<;>rfl)
   unfold Op.equal
   rw [show Op.maxDepth=9999+1 from rfl,Op.equalIn,Sem.run_bind,run_underlying hT w]
   rfl
  | _=>cases hn
end
end Go.Rn
end
section
namespace Go.Rn
open Go.RowKit
open Go.Vm (AX Dn)
inductive Tr (α:Type) where
 | leaf
 | node (v:Option α) (l r:Tr α)
noncomputable def Tr.get {α:Type}(t:Tr α):Nat→Option α:=@Tr.rec α (fun _=>Nat→Option α) (fun _=>none) (fun v _ _ gl gr n=>match Nat.beq n 0 with
 | true=>v
 | false=>match Nat.beq (Nat.mod n 2) 1 with
  | true=>gl (Nat.div n 2)
  | false=>gr (Nat.sub (Nat.div n 2) 1)) t
abbrev SK (α:Type):=Tr α→Nat→Option α→(Tr α→Prop)→Prop
def setB {α:Type}(ih:SK α):SK α:=fun t n s K=>match t with
 | .leaf=>match Nat.beq n 0 with
  | true=>K (.node s .leaf .leaf)
  | false=>match Nat.beq (Nat.mod n 2) 1 with
   | true=>ih .leaf (Nat.div n 2) s fun l=>K (.node none l .leaf)
   | false=>ih .leaf (Nat.sub (Nat.div n 2) 1) s fun r=>K (.node none .leaf r)
 | .node v l r=>match Nat.beq n 0 with
  | true=>K (.node s l r)
  | false=>match Nat.beq (Nat.mod n 2) 1 with
   | true=>ih l (Nat.div n 2) s fun l=>K (.node v l r)
   | false=>ih r (Nat.sub (Nat.div n 2) 1) s fun r=>K (.node v l r)
def setN {α:Type}(f:Nat):SK α:=@Nat.rec (fun _=>SK α) (fun _ _ _ _=>False) (fun _ ih=>setB ih) f
def AV {α:Type}:SK α:=setN 40
theorem EN (m k:Nat):Nat.beq m k=decide (m=k):=by rw [Bool.eq_iff_iff];simp [Nat.beq_eq]
theorem Ls {α:Type}(v:Option α)(l r:Tr α)(n:Nat):(Tr.node v l r).get n=if n=0 then v else if n % 2=1 then l.get (n / 2) else r.get (n / 2-1):=by
 show (match Nat.beq n 0 with | true=>v | false=>match Nat.beq (Nat.mod n 2) 1 with | true=>l.get (Nat.div n 2) | false=>r.get (Nat.sub (Nat.div n 2) 1))=_
 rw [EN,EN]
 by_cases h:n=0
 ·subst h;rfl
 ·by_cases h1:n % 2=1
  ·have:Nat.mod n 2=1:=h1
   simp [h,h1,this];rfl
  ·have:¬Nat.mod n 2=1:=h1
   simp [h,h1,this];rfl
theorem SH {α:Type}:∀{f:Nat} {t:Tr α} {n:Nat} {s:Option α} {K:Tr α→Prop},setN f t n s K→∃t',(∀u,t'.get u=if u=n then s else t.get u)∧K t'
 | 0,_,_,_,_,h=>h.elim
 | f+1,t,n,s,K,h=>by
  have key:∀(v:Option α) (l r:Tr α),(∀u,t.get u=(Tr.node v l r).get u)→(match Nat.beq n 0 with
   | true=>K (.node s l r)
   | false=>match Nat.beq (Nat.mod n 2) 1 with
    | true=>setN f l (Nat.div n 2) s fun l=>K (.node v l r)
    | false=>setN f r (Nat.sub (Nat.div n 2) 1) s fun r=>K (.node v l r))→∃t',(∀u,t'.get u=if u=n then s else t.get u)∧K t':=by
   intro v l r hv h
   by_cases hn:n=0
   ·subst hn
    simp only [EN,decide_true] at h
    refine ⟨_,fun u=>?_,h⟩
    rw [hv,Ls,Ls]
    split<;>rfl
   ·have h0:Nat.beq n 0=false:=by rw [EN];simpa using hn
    rw [h0] at h
    by_cases hp:n % 2=1
    ·have h1:Nat.beq (Nat.mod n 2) 1=true:=by rw [EN];exact decide_eq_true hp
     rw [h1] at h
     obtain ⟨l',hl,hK⟩:=SH h
     refine ⟨_,fun u=>?_,hK⟩
     rw [hv,Ls,Ls,hl]
     have e3:Nat.div n 2=n / 2:=rfl
     rw [e3]
     by_cases hu:u=0
     ·subst hu;rw [if_pos rfl,if_neg (fun e=>hn e.symm),if_pos rfl]
     ·rw [if_neg hu,if_neg hu]
      by_cases hq:u % 2=1
      ·rw [if_pos hq,if_pos hq]
       by_cases e:u=n
       ·subst e;simp
       ·rw [if_neg e,if_neg (by omega)]
      ·rw [if_neg hq,if_neg hq,if_neg (by intro e;subst e;exact hq hp)]
    ·have h1:Nat.beq (Nat.mod n 2) 1=false:=by rw [EN];exact decide_eq_false hp
     rw [h1] at h
     obtain ⟨r',hr,hK⟩:=SH h
     refine ⟨_,fun u=>?_,hK⟩
     rw [hv,Ls,Ls,hr]
     have e3:Nat.sub (Nat.div n 2) 1=n / 2-1:=rfl
     rw [e3]
     by_cases hu:u=0
     ·subst hu;rw [if_pos rfl,if_neg (fun e=>hn e.symm),if_pos rfl]
     ·rw [if_neg hu,if_neg hu]
      by_cases hq:u % 2=1
      ·rw [if_pos hq,if_pos hq,if_neg (by intro e;subst e;exact hp hq)]
      ·rw [if_neg hq,if_neg hq]
       by_cases e:u=n
       ·subst e;simp
       ·rw [if_neg e,if_neg (by omega)]
  cases t with
  | leaf=>exact key none .leaf .leaf (fun u=>by rw [Ls];split<;>(try split)<;>rfl) h
  | node v l r=>exact key v l r (fun u=>rfl) h
theorem Bh {α:Type}{t:Tr α}{n:Nat}{s:Option α}{K:Tr α→Prop}(h:AV t n s K):∃t',(∀u,t'.get u=if u=n then s else t.get u)∧K t':=SH h
def D8 (n:Nat)(K:Nat→Prop):Prop:=@Nat.rec (fun _=>Prop) (K 0) (fun m _=>K (Nat.succ m)) n
theorem Ed {n:Nat}{K:Nat→Prop}(h:D8 n K):K n:=by cases n<;>exact h
def intK (i:Int)(K:Int→Prop):Prop:=match i with
 | .ofNat n=>D8 n fun n=>K (.ofNat n)
 | .negSucc n=>D8 n fun n=>K (.negSucc n)
theorem Xm {i:Int}{K:Int→Prop}(h:intK i K):K i:=by
 cases i with
 | ofNat n=>exact Ed (K:=fun n=>K (.ofNat n)) h
 | negSucc n=>exact Ed (K:=fun n=>K (.negSucc n)) h
def byteK (b:UInt8)(K:UInt8→Prop):Prop:=D8 b.toNat fun n=>K (UInt8.ofNat n)
theorem byteK_spec {b:UInt8}{K:UInt8→Prop}(h:byteK b K):K b:=by
 have:=Ed h
 rwa [UInt8.ofNat_toNat] at this
def P8 (l:List UInt8):(List UInt8→Prop)→Prop:=@List.rec UInt8 (fun _=>(List UInt8→Prop)→Prop) (fun K=>K []) (fun b _ ih K=>byteK b fun b=>ih fun l=>K (b::l)) l
theorem SA:∀{l:List UInt8} {K:List UInt8→Prop},P8 l K→K l
 | [],_,h=>h
 | b::l,K,h=>SA (l:=l) (K:=fun l=>K (b::l)) (byteK_spec (K:=fun b=>P8 l fun l=>K (b::l)) h)
def strK (s:ByteArray)(K:ByteArray→Prop):Prop:=P8 s.data.toList fun l=>K ⟨⟨l⟩⟩
theorem strK_spec {s:ByteArray}{K:ByteArray→Prop}(h:strK s K):K s:=by have:=SA h;exact this
def scK (v:Value)(K:Value→Prop):Prop:=match v with
 | .int k i=>intK i fun i=>K (.int k i)
 | .bool b=>match b with
  | true=>K (.bool true)
  | false=>K (.bool false)
 | .string s=>strK s fun s=>K (.string s)
 | v=>K v
theorem scK_spec {v:Value}{K:Value→Prop}(h:scK v K):K v:=by
 unfold scK at h
 split at h
 ·exact Xm (K:=fun i=>K (.int _ i)) h
 ·split at h<;>exact h
 ·exact strK_spec (K:=fun s=>K (.string s)) h
 ·exact h
def JC (a b:IntKind):Bool:=match a,b with
 | .i8,.i8=>true
 | .i16,.i16=>true
 | .i32,.i32=>true
 | .i64,.i64=>true
 | .u8,.u8=>true
 | .u16,.u16=>true
 | .u32,.u32=>true
 | .u64,.u64=>true
 | _,_=>false
theorem Lj {a b:IntKind}(h:JC a b=true):a=b:=by
 cases a<;>cases b<;>first | rfl | cases h
def ltI (a b:Int):Bool:=match a,b with
 | .ofNat a,.ofNat b=>Nat.ble (Nat.succ a) b
 | .ofNat _,.negSucc _=>false
 | .negSucc _,.ofNat _=>true
 | .negSucc a,.negSucc b=>Nat.ble (Nat.succ b) a
theorem Qv (a b:Int):ltI a b=decide (a<b):=by
 cases a with
 | ofNat a=>cases b with
  | ofNat b=>
   show Nat.ble (Nat.succ a) b=_
   rw [Bool.eq_iff_iff,decide_eq_true_eq,Nat.ble_eq]
   show a+1≤b↔(a:Int)<(b:Int)
   omega
  | negSucc b=>
   show false=_
   symm;rw [decide_eq_false_iff_not,Int.negSucc_eq]
   show ¬(a:Int) < _
   omega
 | negSucc a=>cases b with
  | ofNat b=>
   show true=_
   symm;rw [decide_eq_true_eq,Int.negSucc_eq]
   show _<(b:Int)
   omega
  | negSucc b=>
   show Nat.ble (Nat.succ b) a=_
   rw [Bool.eq_iff_iff,decide_eq_true_eq,Nat.ble_eq,Int.negSucc_eq,Int.negSucc_eq]
   show b+1≤a↔_
   omega
def eqI (a b:Int):Bool:=match a,b with
 | .ofNat a,.ofNat b=>Nat.beq a b
 | .negSucc a,.negSucc b=>Nat.beq a b
 | _,_=>false
theorem eqI_eq (a b:Int):eqI a b=decide (a=b):=by
 cases a with
 | ofNat a=>cases b with
  | ofNat b=>
   show Nat.beq a b=_
   rw [EN,decide_eq_decide]
   show a=b↔(a:Int)=(b:Int)
   omega
  | negSucc b=>rfl
 | negSucc a=>cases b with
  | ofNat b=>rfl
  | negSucc b=>
   show Nat.beq a b=_
   rw [EN,decide_eq_decide,Int.negSucc_eq,Int.negSucc_eq]
   omega
def wrapF (k:IntKind)(i:Int):Int:=match i with
 | .ofNat n=>match k with
  | .i64=>match Nat.ble n 9223372036854775807 with
   | true=>.ofNat n
   | false=>IntKind.wrap .i64 (.ofNat n)
  | .u8=>.ofNat (Nat.mod n 256)
  | .u16=>.ofNat (Nat.mod n 65536)
  | .u32=>.ofNat (Nat.mod n 4294967296)
  | .u64=>.ofNat (Nat.mod n 18446744073709551616)
  | k=>k.wrap (.ofNat n)
 | i=>k.wrap i
theorem wrap_i64 {i:Int}(h0:0≤i)(h1:i≤9223372036854775807):IntKind.wrap .i64 i=i:=by
 unfold IntKind.wrap
 have e:i % (2 ^ IntKind.i64.bits:Int)=i:=Int.emod_eq_of_lt h0 (by show i<18446744073709551616;omega)
 simp only [e]
 rw [if_neg]
 simp only [Bool.and_eq_true,decide_eq_true_eq,not_and]
 intro _
 show ¬i ≥ 9223372036854775808
 omega
theorem QA (k:IntKind)(hk:k.signed=false)(n:Nat):IntKind.wrap k (.ofNat n)=.ofNat (n % 2 ^ k.bits):=by
 unfold IntKind.wrap
 rw [hk]
 simp only [Bool.false_and,Bool.false_eq_true,if_false]
 rw [Int.ofNat_eq_natCast,Int.ofNat_eq_natCast,Int.natCast_emod,Int.natCast_pow];rfl
theorem wrapF_eq (k:IntKind)(i:Int):wrapF k i=k.wrap i:=by
 cases i with
 | negSucc n=>rfl
 | ofNat n=>
  cases k with
  | i64=>
   simp only [wrapF]
   split
   ·rename_i h
    have h:=Nat.le_of_ble_eq_true h
    exact (wrap_i64 (Int.natCast_nonneg n) (by show (n:Int)≤_;omega)).symm
   ·rfl
  | u8=>exact (QA .u8 rfl n).symm
  | u16=>exact (QA .u16 rfl n).symm
  | u32=>exact (QA .u32 rfl n).symm
  | u64=>exact (QA .u64 rfl n).symm
  | _=>rfl
end Go.Rn
end
section
namespace Go.Rn
open Go.RowKit
open Go.Vm (AX Dn Es Bl CU DK FB)
def spK (l:List V):(List V→Prop)→Prop:=@List.rec V (fun _=>(List V→Prop)→Prop) (fun K=>K []) (fun v _ ih K=>ih fun l=>K (v::l)) l
theorem Ou:∀{l:List V} {K:List V→Prop},spK l K→K l
 | [],_,h=>h
 | v::l,K,h=>Ou (l:=l) (K:=fun l=>K (v::l)) h
def nthK (n:Nat):List V→(V→Prop)→Prop:=@Nat.rec (fun _=>List V→(V→Prop)→Prop) (fun l K=>match l with
 | d::_=>K d
 | []=>False) (fun _ ih l K=>match l with
 | _::l=>ih l K
 | []=>False) n
theorem Nk:∀{n:Nat} {l:List V} {K:V→Prop},nthK n l K→∃d,l[n]? = some d∧K d
 | 0,[],_,h=>h.elim
 | 0,d::_,_,h=>⟨d,rfl,h⟩
 | n+1,[],_,h=>h.elim
 | n+1,_::l,K,h=>by
  obtain ⟨d,h1,h2⟩:=Nk (l:=l) (n:=n) h
  exact ⟨d,by simpa using h1,h2⟩
def JP (n:Nat):List V→(List V→Prop)→Prop:=@Nat.rec (fun _=>List V→(List V→Prop)→Prop) (fun l K=>K l) (fun _ ih l K=>match l with
 | _::l=>ih l K
 | []=>False) n
theorem KP:∀{n:Nat} {l:List V} {K:List V→Prop},JP n l K→n≤l.length∧K (l.drop n)
 | 0,l,K,h=>⟨Nat.zero_le _,by rw [List.drop_zero];exact h⟩
 | _+1,[],_,h=>h.elim
 | n+1,d::l,K,h=>by
  obtain ⟨h1,h2⟩:=KP (n:=n) (l:=l) (K:=K) h
  exact ⟨by simpa using h1,by simpa using h2⟩
def Iz (n:Nat):List V→(List V→Prop)→Prop:=@Nat.rec (fun _=>List V→(List V→Prop)→Prop) (fun l K=>K []) (fun _ ih l K=>match l with
 | d::l=>ih l fun l=>K (d::l)
 | []=>False) n
theorem Lh:∀{n:Nat} {l:List V} {K:List V→Prop},Iz n l K→n≤l.length∧K (l.take n)
 | 0,l,K,h=>⟨Nat.zero_le _,by simpa using (show K [] from h)⟩
 | _+1,[],_,h=>h.elim
 | n+1,d::l,K,h=>by
  obtain ⟨h1,h2⟩:=Lh (n:=n) (l:=l) (K:=fun l'=>K (d::l')) h
  exact ⟨by simpa using h1,by simpa using h2⟩
def JD (l ds:List V):(List V→Prop)→Prop:=@List.rec V (fun _=>(List V→Prop)→Prop) (fun K=>K ds) (fun v _ ih K=>ih fun l=>K (v::l)) l
theorem OO:∀{l ds:List V} {K:List V→Prop},JD l ds K→K (l++ds)
 | [],_,_,h=>h
 | v::l,ds,K,h=>OO (l:=l) (K:=fun l=>K (v::l)) h
def Gj (ds:List V)(n:Nat):List V→(List V→Prop)→Prop:=@Nat.rec (fun _=>List V→(List V→Prop)→Prop) (fun l K=>@List.rec V (fun _=>List V→(List V→Prop)→Prop) (fun l K=>K l) (fun r _ ih l K=>match l with
 | _::l=>ih l fun l=>K (r::l)
 | []=>False) ds l K) (fun _ ih l K=>match l with
 | d::l=>ih l fun l=>K (d::l)
 | []=>False) n
theorem Gz:∀{n:Nat} {ds l:List V} {K:List V→Prop},Gj ds n l K→n+ds.length≤l.length∧K (F9 l n ds)
 | 0,[],l,K,h=>⟨by simp,by simpa [F9] using (show K l from h)⟩
 | 0,r::rs,[],K,h=>h.elim
 | 0,r::rs,_::l,K,h=>by
  obtain ⟨h1,h2⟩:=Gz (n:=0) (ds:=rs) (l:=l) (K:=fun l=>K (r::l)) h
  refine ⟨by simp at h1 ⊢;omega,?_⟩
  simpa [F9] using h2
 | n+1,ds,[],K,h=>h.elim
 | n+1,ds,d::l,K,h=>by
  obtain ⟨h1,h2⟩:=Gz (n:=n) (ds:=ds) (l:=l) (K:=fun l=>K (d::l)) h
  refine ⟨by simp at h1 ⊢;omega,?_⟩
  have e:n+1+ds.length=(n+ds.length)+1:=by omega
  simpa [F9,e] using h2
def Gu (ag:Bool)(n:Nat)(cs:List V)(off:Nat)(K:V→Prop):Prop:=match ag with
 | true=>JP off cs fun l=>Iz n l fun l=>K (.agg l)
 | false=>nthK off cs K
theorem Hm {ag:Bool}{n:Nat}{cs:List V}{off:Nat}{K:V→Prop}(h:Gu ag n cs off K):∃d,Ih (ag,n) cs off=some d∧K d:=by
 cases ag with
 | true=>
  obtain ⟨h1,h2⟩:=KP (l:=cs) (K:=fun l=>Iz n l fun l'=>K (.agg l')) h
  obtain ⟨h3,h4⟩:=Lh (K:=fun l'=>K (.agg l')) h2
  rw [List.length_drop] at h3
  exact ⟨_,by simp only [Ih,if_true];rw [if_pos (by omega)],h4⟩
 | false=>
  obtain ⟨d,h1,h2⟩:=Nk h
  exact ⟨d,by simpa [Ih] using h1,h2⟩
noncomputable def lenN (l:List V):Nat:=@List.rec V (fun _=>Nat) 0 (fun _ _ ih=>Nat.succ ih) l
theorem Pm:∀l:List V,lenN l=l.length
 | []=>rfl
 | _::l=>congrArg Nat.succ (Pm l)
noncomputable def J4 (l:List UInt8):Nat:=@List.rec UInt8 (fun _=>Nat) 0 (fun _ _ ih=>Nat.succ ih) l
theorem Tt:∀l:List UInt8,J4 l=l.length
 | []=>rfl
 | _::l=>congrArg Nat.succ (Tt l)
theorem size_eq (s:ByteArray):s.size=J4 s.data.toList:=(Tt _).symm
def nthB (n:Nat):List UInt8→(UInt8→Prop)→Prop:=@Nat.rec (fun _=>List UInt8→(UInt8→Prop)→Prop) (fun l K=>match l with
 | d::_=>K d
 | []=>False) (fun _ ih l K=>match l with
 | _::l=>ih l K
 | []=>False) n
theorem V9:∀{n:Nat} {l:List UInt8} {K:UInt8→Prop},nthB n l K→∃d,l[n]? = some d∧K d
 | 0,[],_,h=>h.elim
 | 0,d::_,_,h=>⟨d,rfl,h⟩
 | n+1,[],_,h=>h.elim
 | n+1,_::l,K,h=>by
  obtain ⟨d,h1,h2⟩:=V9 (l:=l) (n:=n) h
  exact ⟨d,by simpa using h1,h2⟩
noncomputable def eqB (l:List UInt8):List UInt8→Bool:=@List.rec UInt8 (fun _=>List UInt8→Bool) (fun m=>match m with
 | []=>true
 | _::_=>false) (fun b _ ih m=>match m with
 | []=>false
 | c::m=>match Nat.beq b.toNat c.toNat with
  | true=>ih m
  | false=>false) l
theorem eqB_eq:∀l m:List UInt8,eqB l m=decide (l=m)
 | [],[]=>rfl
 | [],_::_=>rfl
 | _::_,[]=>rfl
 | b::l,c::m=>by
  show (match Nat.beq b.toNat c.toNat with | true=>eqB l m | false=>false)=_
  rw [EN]
  by_cases h:b.toNat=c.toNat
  ·rw [decide_eq_true h]
   have:=UInt8.toNat_inj.1 h
   subst this
   show eqB l m=_
   rw [eqB_eq l m];simp
  ·rw [decide_eq_false h]
   have:b≠c:=fun e=>h (congrArg _ e)
   simp [this]
theorem eqS (a b:ByteArray):eqB a.data.toList b.data.toList=decide (a=b):=by
 rw [eqB_eq,decide_eq_decide]
 constructor
 ·intro h;exact ByteArray.ext (Array.ext' h)
 ·intro h;rw [h]
theorem cat_eq (a b:ByteArray):(⟨⟨a.data.toList++b.data.toList⟩⟩:ByteArray)=a++b:=by
 apply ByteArray.ext
 apply Array.ext'
 simp
theorem ext_eq (a:ByteArray)(l h:Nat):(⟨⟨(a.data.toList.drop l).take (h-l)⟩⟩:ByteArray)=a.extract l h:=by
 apply ByteArray.ext
 apply Array.ext'
 simp [List.extract]
theorem getB_eq (s:ByteArray)(n:Nat):s[n]? = s.data.toList[n]? := by
 rcases Nat.lt_or_ge n s.size with h | h
 ·have h':n<s.data.toList.length:=by simpa using h
  rw [getElem?_pos s n h,List.getElem?_eq_getElem h'];rfl
 ·have h':s.data.toList.length≤n:=by simpa using h
  rw [getElem?_neg s n (by omega),List.getElem?_eq_none h']
noncomputable def ovK (t:Tr V)(x:Operand)(K:V→Prop):Prop:=match x with
 | .tmp u=>match t.get u with
  | some v=>K v
  | none=>False
 | .const v=>match ofV v with
  | some v=>K v
  | none=>False
 | .func f=>K (.fn f [])
 | .global _=>False
noncomputable def stT (t:Tr V)(m:Tr Blk)(n:Nat):St:=⟨t.get,m.get,n⟩
theorem Bi {t:Tr V}{x:Operand}{K:V→Prop}(h:ovK t x K):∃v,(∀(m:Tr Blk) (n:Nat),Am (stT t m n) x=some v)∧K v:=by
 cases x with
 | tmp u=>
  simp only [ovK] at h
  split at h
  ·rename_i v hv;exact ⟨v,fun _ _=>hv,h⟩
  ·exact h.elim
 | const v=>
  simp only [ovK] at h
  split at h
  ·rename_i v' hv;exact ⟨v',fun _ _=>hv,h⟩
  ·exact h.elim
 | func f=>exact ⟨_,fun _ _=>rfl,h⟩
 | global g=>exact h.elim
set_option linter.unusedSectionVars false
variable [Cx]
def FV (P:Program)(o:Oper)(t:Tr V)(h:Hp)(v:V):Prop:=∀(N:Nat) (s:St) (d:Nat),(∀x v,x∈o.op.operands→Am (stT t .leaf 0) x=some v→Am s x=some v)→s.h=h→o.dst=some d→d<N→Step P N o s (s.put (some d) v)
def toK (v:V)(K:Value→Prop):Prop:=match v with
 | .sc u=>K u
 | v=>match toV v with
  | some u=>K u
  | none=>False
theorem Ko {v:V}{K:Value→Prop}(h:toK v K):∃u,toV v=some u∧K u:=by
 unfold toK at h
 split at h
 ·exact ⟨_,rfl,h⟩
 ·split at h
  ·exact ⟨_,by assumption,h⟩
  ·exact h.elim
def JM (b:Bool)(K:Value→Prop):Prop:=match b with
 | true=>K (.bool true)
 | false=>K (.bool false)
theorem KW {b:Bool}{K:Value→Prop}(h:JM b K):K (.bool b):=by cases b<;>exact h
def Ku (r:Option Value)(K:Value→Prop):Prop:=match r with
 | some r=>match r.oneCell' with
  | true=>scK r K
  | false=>False
 | none=>False
theorem Md {r:Option Value}{K:Value→Prop}(h:Ku r K):∃v,r=some v∧v.oneCell'=true∧K v:=by
 unfold Ku at h
 split at h
 ·rename_i r
  split at h
  ·rename_i h1;exact ⟨_,rfl,h1,scK_spec h⟩
  ·exact h.elim
 ·exact h.elim
def numK (k:IntKind)(i:Int)(K:Value→Prop):Prop:=intK (wrapF k i) fun i=>K (.int k i)
theorem UI {k:IntKind}{i:Int}{K:Value→Prop}(h:numK k i K):K (.int k (k.wrap i)):=by
 have:=Xm h
 rwa [wrapF_eq] at this
def binK (P:Program)(op:BinOp)(T:TypeId)(x y:Operand)(u v:Value)(K:Value→Prop):Prop:=match u,v with
 | .int k a,.int k' b=>match JC k k' with
  | true=>match op with
   | .add=>numK k (a+b) K
   | .sub=>numK k (a-b) K
   | .mul=>numK k (a*b) K
   | .lss=>JM (ltI a b) K
   | .gtr=>JM (ltI b a) K
   | .leq=>JM (!ltI b a) K
   | .geq=>JM (!ltI a b) K
   | .eql=>JM (eqI a b) K
   | .neq=>JM (!eqI a b) K
   | op=>Ku (AX P (do eqGuard op T x y (.int k a) (.int k' b);binOp op T (.int k a) (.int k' b):Sem Value)) K
  | false=>Ku (AX P (do eqGuard op T x y (.int k a) (.int k' b);binOp op T (.int k a) (.int k' b):Sem Value)) K
 | .string a,.string b=>match op with
  | .add=>match Nat.ble (Nat.add (J4 a.data.toList) (J4 b.data.toList)) 9223372036854775807 with
   | true=>P8 (a.data.toList++b.data.toList) fun l=>K (.string ⟨⟨l⟩⟩)
   | false=>False
  | .eql=>JM (eqB a.data.toList b.data.toList) K
  | .neq=>JM (!eqB a.data.toList b.data.toList) K
  | op=>Ku (AX P (do eqGuard op T x y (.string a) (.string b);binOp op T (.string a) (.string b):Sem Value)) K
 | u,v=>Ku (AX P (do eqGuard op T x y u v;binOp op T u v:Sem Value)) K
theorem UF {P:Program}{op:BinOp}{T:TypeId}{x y:Operand}{u v:Value}{K:Value→Prop}(h:binK P op T x y u v K):∃r,AX P (do eqGuard op T x y u v;binOp op T u v:Sem Value)=some r∧r.oneCell'=true∧K r:=by
 unfold binK at h
 split at h
 ·split at h
  ·rename_i hs
   cases Lj hs
   split at h
   ·exact ⟨_,Go.Vm.Qs rfl,rfl,UI h⟩
   ·exact ⟨_,Go.Vm.pr_sub rfl,rfl,UI h⟩
   ·exact ⟨_,Go.Vm.pr_mul rfl,rfl,UI h⟩
   ·have:=KW h;rw [Qv] at this;exact ⟨_,Go.Vm.pr_lss,rfl,this⟩
   ·have:=KW h;rw [Qv] at this;exact ⟨_,Go.Vm.pr_gtr,rfl,this⟩
   ·have:=KW h;rw [Qv,←decide_not] at this;exact ⟨_,Go.Vm.pr_leq,rfl,by simpa using this⟩
   ·have:=KW h;rw [Qv,←decide_not] at this;exact ⟨_,Go.Vm.pr_geq,rfl,by simpa using this⟩
   ·have:=KW h;rw [eqI_eq] at this;exact ⟨_,Go.Vm.pr_eql,rfl,this⟩
   ·have:=KW h;rw [eqI_eq] at this;exact ⟨_,Go.Vm.pr_neq,rfl,this⟩
   ·exact Md h
  ·exact Md h
 ·split at h
  ·split at h
   ·rename_i hb
    have hb:=Nat.le_of_ble_eq_true hb
    have:=SA h
    rw [cat_eq] at this
    exact ⟨_,Go.Vm.pr_cat (by rw [size_eq,size_eq];exact hb),rfl,this⟩
   ·exact h.elim
  ·have:=KW h;rw [eqS] at this;exact ⟨_,Go.Vm.pr_eqs,rfl,this⟩
  ·have:=KW h;rw [eqS] at this;exact ⟨_,Go.Vm.pr_nes,rfl,this⟩
  ·exact Md h
 ·exact Md h
end Go.Rn
end
section
namespace Go.Rn
open Go.RowKit
open Go.Vm (AX Dn DK)
set_option linter.unusedSectionVars false
variable [Cx]
section
variable {P:Program} {N base n:Nat} {w0 w w':World} {π π':Pi} {s s':St} {a:Act} {o:Oper}
theorem r_sliceN {T:TypeId}{x:Operand}{lo hi:Option Operand}{e:TypeId}{i:TypeInfo}(hop:o.op=.slice T x lo hi none)(hx:Am s x=some (.sc (.slice none 0 0)))(hT:P.underlying T=some (.slice e))(hi':P.info? e=some i)(hl:Ej s lo 0=some 0)(hh:Ej s hi 0=some 0){d:Nat}(hdst:o.dst=some d)(hd:d<N):Step P N o s (s.put (some d) (.sc (.slice none 0 0))):=
 C9 hdst hd fun base w0 π a w hr=>by
  have e1:=hr.D9 hx rfl
  have hb:=PR (P:=P) hr (isS:=true) (len:=0) (cap:=0) hl hh (Nat.le_refl _) (Nat.le_refl _)
  exact ⟨.slice none 0 0,by simp [execOp,hop,Instr.sliceAt,run_underlying hT,Instr.slice,e1,hb,sizeOf,typeInfo,hi'],by rw [Ai,if_pos (by rfl)]⟩
theorem r_min {x y:Operand}{T T':TypeId}{v1 v2:V}{u1 u2 r:Value}(hop:o.op=.call { callee:=.builtin .min,args:=#[x,y],argTypes:=#[T,T'] })(hx:Am s x=some v1)(hy:Am s y=some v2)(h1:toV v1=some u1)(h2:toV v2=some u2)
 (hr:AX P (Builtin.min_ #[T,T'] o.type #[u1,u2])=some r) (ho:r.oneCell'=true) {d:Nat} (hdst:o.dst=some d) (hd:d<N):Step P N o s (s.put (some d) (.sc r)):=
 C9 hdst hd fun base w0 π a w hrel=>⟨r,by
  have e1:=hrel.D9 hx h1
  have e2:=hrel.D9 hy h2
  have h3:=Dn hr w
  simp [execOp,hop,resolve,invoke,builtin,e1,e2,h3],by rw [Ai,if_pos ho]⟩
theorem r_max {x y:Operand}{T T':TypeId}{v1 v2:V}{u1 u2 r:Value}(hop:o.op=.call { callee:=.builtin .max,args:=#[x,y],argTypes:=#[T,T'] })(hx:Am s x=some v1)(hy:Am s y=some v2)(h1:toV v1=some u1)(h2:toV v2=some u2)
 (hr:AX P (Builtin.max_ #[T,T'] o.type #[u1,u2])=some r) (ho:r.oneCell'=true) {d:Nat} (hdst:o.dst=some d) (hd:d<N):Step P N o s (s.put (some d) (.sc r)):=
 C9 hdst hd fun base w0 π a w hrel=>⟨r,by
  have e1:=hrel.D9 hx h1
  have e2:=hrel.D9 hy h2
  have h3:=Dn hr w
  simp [execOp,hop,resolve,invoke,builtin,e1,e2,h3],by rw [Ai,if_pos ho]⟩
theorem r_range {MT KT ET:TypeId}{x:Operand}{id:Nat}{es:List (V×V)}(hop:o.op=.range MT x)(hx:Am s x=some (.mp id))(hb:s.h id=some (.map es))(hT:P.underlying MT=some (.map KT ET))(h1:es.length≤1){d:Nat}(hdst:o.dst=some d)(hd:d<N) :
 Step P N o s { (s.put (some d) (.it s.n)) with h:=hset s.h s.n (some (.iter (some id) es.length 0)),n:=s.n+1 }:=
 Jn hdst hd fun base w0 π a w hr=>by
  obtain ⟨p,hp,hat⟩:=hr.at hb
  obtain ⟨arr,h2,h3⟩:=hat
  have h4:=hr.get hx
  rw [Ai,hp] at h4
  injection h4 with h4
  have hle:=Pi.JI (p:=⟨w.heap.size,0,0,1⟩) (hr.mem.fresh s.n (Nat.le_refl _))
  refine ⟨.pointer (some ⟨w.heap.size,0,none⟩),w.alloc (.mapIter (some p.b) es.length #[] es.length),π.put s.n ⟨w.heap.size,0,0,1⟩,by simp [execOp,hop,←h4,run_range_map w MT KT ET p.b arr es.length hT h2],hle,hr.mem.new rfl ?_ rfl,by rw [Ai,Pi.EG]⟩
  exact ⟨p,hle.1 id p hp,Nat.zero_le _,h1,heap_alloc_new w _⟩
theorem r_range0 {MT KT ET:TypeId}{x:Operand}(hop:o.op=.range MT x)(hx:Am s x=some (.sc (.map none)))(hT:P.underlying MT=some (.map KT ET)){d:Nat}(hdst:o.dst=some d)(hd:d<N) :
 Step P N o s { (s.put (some d) (.it s.n)) with h:=hset s.h s.n (some (.iter none 0 0)),n:=s.n+1 }:=
 Jn hdst hd fun base w0 π a w hr=>by
  have h4:=hr.D9 hx rfl
  have hle:=Pi.JI (p:=⟨w.heap.size,0,0,1⟩) (hr.mem.fresh s.n (Nat.le_refl _))
  exact ⟨.pointer (some ⟨w.heap.size,0,none⟩),w.alloc (.mapIter none 0 #[] 0),π.put s.n ⟨w.heap.size,0,0,1⟩,by simp [execOp,hop,h4,run_range_nilMap w MT KT ET hT],hle,hr.mem.new rfl (heap_alloc_new w _) rfl,by rw [Ai,Pi.EG]⟩
theorem left_done {π:Pi}{es:List (V×V)}{arr:Array MapEntry}(hm:NW π es arr){k:Nat}(hk:k=es.length)(h1:es.length≤1):(leftOf arr (if k=0 then #[] else #[0])).size=0:=by
 subst hk
 have hs:=hm.1
 by_cases h0:es.length=0
 ·rw [if_pos h0]
  have:arr = #[]:=Array.eq_empty_of_size_eq_zero (by omega)
  subst this;rfl
 ·rw [if_neg h0]
  unfold leftOf
  rw [Array.size_eq_zero_iff,Array.filter_eq_empty_iff]
  intro e he
  obtain ⟨i,hi,rfl⟩:=Array.mem_iff_getElem.1 he
  have:=(hm.2 i arr[i] (by simp [hi])).1
  have:arr[i].born=0:=by omega
  simp [this]
theorem map_old {π:Pi}{es:List (V×V)}{arr:Array MapEntry}(hm:NW π es arr):∀x∈arr.toList,x.born<es.length:=by
 intro e he
 obtain ⟨i,hi,rfl⟩:=List.mem_iff_getElem.1 he
 have:=(hm.2 i _ (List.getElem?_eq_getElem hi)).1
 rw [this];have h1:=hm.1;simp at hi;omega
theorem r_next_done {it id i n k:Nat}{es:List (V×V)}(hop:o.op=.next (.tmp it) false)(hx:s.t it=some (.it i))(hb:s.h i=some (.iter (some id) n k))(hm:s.h id=some (.map es))(hn:es.length=n)(hk:k=n){d:Nat}(hdst:o.dst=some d)(hd:d<N):Step P N o s (s.put (some d) (.tup [.sc (.bool false)])):=
 C9 hdst hd fun base w0 π a w hr=>by
  obtain ⟨p,hp,hat⟩:=hr.at hb
  obtain ⟨q,hq,h1,h2,h3⟩:=hat
  obtain ⟨q',hq',hat2⟩:=hr.at hm
  rw [hq] at hq';injection hq' with hq';subst hq'
  obtain ⟨arr,h4,h5⟩:=hat2
  have h6:=hr.get (x:=.tmp it) hx
  rw [Ai,hp] at h6
  injection h6 with h6
  subst hn hk
  have hl:=left_done h5 rfl h2
  have e1:a.eval (.tmp it)=.pointer (some ⟨p.b,0,none⟩):=h6.symm
  rcases run_next_at (P:=P) w o.type p.b q.b es.length es.length _ arr es.length h3 h4 (map_old h5) (Nat.le_refl _) with ⟨_,hrun⟩ | ⟨e,he,_⟩
  ·exact ⟨.tuple #[.bool false],by simp only [execOp,hop,e1,Sem.run_bind,Sem.run_pure,Result.andThen_ok,hrun],by rw [Ai,AL,Ai,AL];rfl⟩
  ·have:leftOf arr (if es.length=0 then #[] else #[0]) = #[]:=Array.eq_empty_of_size_eq_zero hl
   rw [this] at he;simp at he
theorem r_next0 {it i:Nat}(hop:o.op=.next (.tmp it) false)(hx:s.t it=some (.it i))(hb:s.h i=some (.iter none 0 0)){d:Nat}(hdst:o.dst=some d)(hd:d<N):Step P N o s (s.put (some d) (.tup [.sc (.bool false)])):=
 C9 hdst hd fun base w0 π a w hr=>by
  obtain ⟨p,hp,hat⟩:=hr.at hb
  have h3:w.heap[p.b]? = some (.mapIter none 0 #[] 0):=hat
  have h6:=hr.get (x:=.tmp it) hx
  rw [Ai,hp] at h6
  injection h6 with h6
  have e1:a.eval (.tmp it)=.pointer (some ⟨p.b,0,none⟩):=h6.symm
  refine ⟨.tuple #[.bool false],?_,by rw [Ai,AL,Ai,AL];rfl⟩
  simp only [execOp,hop,e1,Instr.next,getObj,Sem.run_bind,Sem.run,h3,Result.andThen]
  rfl
theorem Xh {MT KT ET:TypeId}{x y:Operand}{ok:Bool}{vx k z:V}{u zv:Value}{i:TypeInfo}{kd:TypeDesc}(hop:o.op=.lookup MT x y ok)(hx:Am s x=some vx)(hm:vx=.sc (.map none)∨∃id,vx=.mp id∧s.h id=some (.map []))(hy:Am s y=some k)(hu:toV k=some u)(hT:P.underlying MT=some (.map KT ET))(hK:P.underlying KT=some kd)(hc:AX P (Instr.checkKey true 10000 KT u)=some ())(hi:P.info? ET=some i)(hz:i.zero=some zv)(hzv:ofV zv=some z)
 {d:Nat} (hdst:o.dst=some d) (hd:d<N):Step P N o s (s.put (some d) (if ok then .tup [z,.sc (.bool false)] else z)):=
 C9 hdst hd fun base w0 π a w hr=>by
  have h2:=hr.get (x:=y) hy
  have hk:a.eval y=u:=Le hu h2
  have h1:=hr.get (x:=x) hx
  have hcz:Ai π z=some zv:=Qe hzv
  have hck:=Dn hc w
  have hzr:(zeroValue ET).run P w=.ok zv w:=by simp [zeroValue,typeInfo,hi,hz]
  have key:(execOp a.eval o).run P w=.ok (.value (if ok then .tuple #[zv,.bool false] else zv)) w:=by
   rcases hm with rfl | ⟨id,rfl,hb⟩
   ·rw [Ai] at h1
    have h1:some (Value.map none)=some (a.eval x):=h1
    injection h1 with h1
    simp [execOp,hop,Instr.lookup,←h1,run_underlying hT,run_underlying hK,hk,hck,Instr.findKey,Instr.findNow,hzr,Result.andThen]
   ·obtain ⟨p,hp,hat⟩:=hr.at hb
    obtain ⟨arr,h3,h4⟩:=hat
    have harr:arr = #[]:=Array.eq_empty_of_size_eq_zero (by simpa using h4.1)
    subst harr
    rw [Ai,hp] at h1
    injection h1 with h1
    have hg:(getObj p.b).run P w=.ok (.map #[] 0) w:=by simp [getObj,Sem.run,h3]
    simp [execOp,hop,Instr.lookup,←h1,run_underlying hT,run_underlying hK,hg,hk,hck,Instr.findKey,Instr.findNow,hzr,Result.andThen]
  refine ⟨_,key,?_⟩
  cases ok with
  | true=>simp only [if_true];rw [Ai,AL,hcz,AL,Ai,if_pos (show (Value.bool false).oneCell'=true from rfl),AL];rfl
  | false=>exact hcz
theorem r_tostr {T T' e:TypeId}{x:Operand}{id off n:Nat}{c:Option Nat}{b:Blk}{cs:List V}{l:List UInt8}(hop:o.op=.convert T T' x)(hx:Am s x=some (.sl id off 1 n c))(hT:P.underlying T=some (.slice e))(he:P.underlying e=some (.int .u8))(hT':P.underlying T'=some .string)(hb:s.h id=some b)(hcs:b.cs=some cs)
 (hl:(cs.drop off).take n=l.map fun b=>V.sc (.int .u8 (b.toNat:Int))) (hn:l.length=n) {d:Nat} (hdst:o.dst=some d) (hd:d<N):Step P N o s (s.put (some d) (.sc (.string ⟨⟨l⟩⟩))):=
 C9 hdst hd fun base w0 π a w hr=>by
  obtain ⟨p,hp,q1,q2,q3,q4,q5⟩:=Ib (hr.get hx)
  obtain ⟨p',hp',hat⟩:=hr.at hb
  rw [hp] at hp';injection hp' with hp';subst hp'
  obtain ⟨us,f1,f2,f3⟩:=hat.cells hcs
  have g:=NM n (ML off f1)
  rw [hl] at g
  have hk:∀l:List UInt8,AL π (l.map fun b=>V.sc (.int .u8 (b.toNat:Int)))=some (l.map fun b=>Value.int .u8 (b.toNat:Int)):=by
   intro l
   induction l with
   | nil=>rw [List.map_nil,AL];rfl
   | cons b l ih=>rw [List.map_cons,AL,ih,Ai,if_pos (by rfl)];rfl
  rw [hk] at g
  injection g with g
  subst hn
  have hrun:=run_convert_bytes_back (P:=P) w T T' e ⟨p.b,p.base+off,none⟩ (capOf p off c) l hT he hT' (fun j hj=>by
   have h1:((us.drop off).take l.length)[j]? = some (.int .u8 (l[j].toNat:Int)):=by
    rw [←g,List.getElem?_map,List.getElem?_eq_getElem hj];rfl
   rw [List.getElem?_take,if_pos hj,List.getElem?_drop] at h1
   have h2:=f3 _ _ h1
   rw [Ie,Nat.add_assoc]
   exact h2)
  exact ⟨.string ⟨⟨l⟩⟩,by simp [execOp,hop,q5,hrun],by rw [Ai,if_pos (by rfl)]⟩
theorem r_tostr0 {T T' e:TypeId}{x:Operand}(hop:o.op=.convert T T' x)(hx:Am s x=some (.sc (.slice none 0 0)))(hT:P.underlying T=some (.slice e))(he:P.underlying e=some (.int .u8))(hT':P.underlying T'=some .string){d:Nat}(hdst:o.dst=some d)(hd:d<N):Step P N o s (s.put (some d) (.sc (.string ⟨⟨[]⟩⟩))):=
 C9 hdst hd fun base w0 π a w hr=>by
  have e1:=hr.D9 hx rfl
  have hrun:=run_convert_bytes_string (P:=P) w T T' e none 0 0 hT he hT'
  exact ⟨.string ⟨⟨[]⟩⟩,by simp [execOp,hop,e1,hrun,Conv.bytesToString];rfl,by rw [Ai,if_pos (by rfl)]⟩
end
end Go.Rn
end
section
namespace Go.Rn
open Go.RowKit
open Go.ChangeMaps (setBlock)
open Go.Vm (AX Dn)
set_option linter.unusedSectionVars false
variable [Cx]
def KL (P:Program)(KT:TypeId)(k:Value):List (V×V)→Nat→Option (Option (Nat×V))
 | [],_=>some none
 | (a,v)::es,i=>match toV a with
  | none=>none
  | some u=>match AX P (Op.equal KT k u) with
   | some true=>some (some (i,v))
   | some false=>KL P KT k es (i+1)
   | none=>none
theorem QL {P:Program}{π:Pi}{KT:TypeId}{k:Value}{w:World}:∀{es:List (V×V)} {ents:List MapEntry} {i:Nat} {r:Option (Nat×V)},ents.length=es.length →
 (∀(j:Nat) (e:MapEntry),ents[j]? = some e→∃kv:V×V,es[j]? = some kv∧Ai π kv.1=some e.key∧Ai π kv.2=some e.val)→KL P KT k es i=some r →
 (r=none∧(Instr.findAsking KT k ents i).run P w=.ok none w)∨∃j v e,r=some (i+j,v)∧ents[j]? = some e∧Ai π v=some e.val∧(Instr.findAsking KT k ents i).run P w=.ok (some (i+j,e.val)) w
 | [],[],i,r,_,_,h=>by
  rw [KL] at h;injection h with h;subst h
  exact .inl ⟨rfl,rfl⟩
 | [],_::_,_,_,h,_,_=>by simp at h
 | _::_,[],_,_,h,_,_=>by simp at h
 | (a,v)::es,e::ents,i,r,hl,hm,h=>by
  obtain ⟨kv,h1,h2,h3⟩:=hm 0 e rfl
  obtain rfl:(a,v)=kv:=by simpa using h1
  rw [KL] at h
  split at h
  ·cases h
  ·rename_i u hu
   have hk:=Le hu h2
   subst hk
   unfold Instr.findAsking
   split at h
   ·rename_i hq
    injection h with h;subst h
    refine .inr ⟨0,v,e,rfl,rfl,h3,?_⟩
    simp [Dn hq w,Result.andThen]
   ·rename_i hq
    rcases QL (w:=w) (by simpa using hl) (fun j e' he=>hm (j+1) e' he) h with ⟨h4,h5⟩ | ⟨j,v',e',h4,h5,h6,h7⟩
    ·exact .inl ⟨h4,by simp [Dn hq w,Result.andThen,h5]⟩
    ·refine .inr ⟨j+1,v',e',by rw [h4];congr 2;omega,by simpa using h5,h6,?_⟩
     rw [show i+(j+1)=i+1+j from by omega]
     simp [Dn hq w,Result.andThen,h7]
   ·cases h
theorem Ul {P:Program}{KT:TypeId}{fs:Array Field}{k:Value}{ents:List MapEntry}{w:World}(hK:P.underlying KT=some (.struct fs)):(Instr.findKey KT k ents).run P w=(Instr.findAsking KT k ents 0).run P w:=by
 unfold Instr.findKey
 rw [Sem.run_bind,run_underlying hK w]
 simp only [Result.andThen]
 cases ents with
 | nil=>rfl
 | cons e l=>simp [Instr.findNow,Instr.sameNow]
def IJ:List (V×V)→Nat→V→List (V×V)
 | [],_,_=>[]
 | (a,_)::es,0,v=>(a,v)::es
 | e::es,j+1,v=>e::IJ es j v
theorem Ub:∀(es:List (V×V)) (j:Nat) (v:V),(IJ es j v).length=es.length
 | [],_,_=>rfl
 | (_,_)::_,0,_=>rfl
 | _::es,j+1,v=>by rw [IJ,List.length_cons,Ub es j v,List.length_cons]
theorem setE_at:∀(es:List (V×V)) (j i:Nat) (v:V),(IJ es j v)[i]? = if i=j then (es[i]?).map fun e=>(e.1,v) else es[i]?
 | [],j,i,v=>by simp [IJ]
 | (a,b)::es,0,i,v=>by cases i<;>simp [IJ]
 | e::es,j+1,i,v=>by
  cases i with
  | zero=>simp [IJ]
  | succ i=>
   rw [IJ,List.getElem?_cons_succ,setE_at es j i v]
   simp
section
variable {P:Program} {N:Nat} {o:Oper} {s:St}
theorem WZ {base n:Nat}{w0 w:World}{π:Pi}{h:Hp}(hm:Mem base w0 π h n w){id:Nat}{es es':List (V×V)}{p:Pl}{arr:Array MapEntry}(hb:h id=some (.map es))(hp:π.pl id=some p)(hw:w.heap[p.b]? = some (.map arr es.length)){arr':Array MapEntry}(h':NW π es' arr') :
 Mem base w0 π (hset h id (some (.map es'))) n (setBlock w p.b (.map arr' es'.length)):=by
 obtain ⟨p',hp',_,hbase,_⟩:=hm.place id _ hb
 rw [hp] at hp';injection hp' with hp';subst hp'
 have hoth:∀k,k≠p.b→(setBlock w p.b (.map arr' es'.length)).heap[k]? = w.heap[k]? := fun k hk=>by simp [setBlock,Array.getElem?_setIfInBounds,Ne.symm hk]
 refine hm.update hb rfl hp hoth (by simp [setBlock]) ⟨rfl,rfl,rfl,by simp [setBlock],fun k hk=>hoth k (by have:=hbase rfl;omega)⟩ ⟨arr',?_,h'⟩ rfl
 have hlt:=(Array.getElem?_eq_some_iff.1 hw).1
 simp [setBlock,Array.getElem?_setIfInBounds,hlt]
theorem r_lookupF {MT KT ET:TypeId}{x y:Operand}{ok:Bool}{id:Nat}{e0:V×V}{es:List (V×V)}{k v:V}{u:Value}{j:Nat}{fs:Array Field}(hop:o.op=.lookup MT x y ok)(hx:Am s x=some (.mp id))(hb:s.h id=some (.map (e0::es)))(hy:Am s y=some k)(hu:toV k=some u)
 (hT:P.underlying MT=some (.map KT ET)) (hK:P.underlying KT=some (.struct fs)) (hc:AX P (Instr.checkKey false 10000 KT u)=some ()) (hf:KL P KT u (e0::es) 0=some (some (j,v)))
 {d:Nat} (hdst:o.dst=some d) (hd:d<N):Step P N o s (s.put (some d) (if ok then .tup [v,.sc (.bool true)] else v)):=
 C9 hdst hd fun base w0 π a w hr=>by
  have hk:a.eval y=u:=Le hu (hr.get (x:=y) hy)
  have h1:=hr.get (x:=x) hx
  obtain ⟨p,hp,hat⟩:=hr.at hb
  obtain ⟨arr,h3,h4⟩:=hat
  rw [Ai,hp] at h1
  injection h1 with h1
  have hg:(getObj p.b).run P w=.ok (.map arr (e0::es).length) w:=by simp [getObj,Sem.run,h3]
  have hne:arr.isEmpty=false:=by
   have:=h4.1
   simp only [List.length_cons] at this
   rw [Array.isEmpty_eq_false_iff]
   intro e;rw [e] at this;simp at this
  have hck:=Dn hc w
  rcases QL (w:=w) (ents:=arr.toList) (by simpa using h4.1) (fun i e he=>(h4.2 i e he).2) hf with ⟨h5,_⟩ | ⟨j',v',e,h5,h6,h7,h8⟩
  ·cases h5
  ·obtain ⟨rfl,rfl⟩:j=0+j'∧v=v':=by simpa using h5
   refine ⟨if ok then .tuple #[e.val,.bool true] else e.val,?_,?_⟩
   ·simp [execOp,hop,Instr.lookup,←h1,run_underlying hT,hg,hk,hne,hck,Ul hK,h8,Result.andThen]
   ·cases ok with
    | true=>simp only [if_true];rw [Ai,AL,h7,AL,Ai,if_pos (show (Value.bool true).oneCell'=true from rfl),AL];rfl
    | false=>exact h7
theorem r_lookupM {MT KT ET:TypeId}{x y:Operand}{ok:Bool}{id:Nat}{e0:V×V}{es:List (V×V)}{k z:V}{u zv:Value}{i:TypeInfo}{fs:Array Field}(hop:o.op=.lookup MT x y ok)(hx:Am s x=some (.mp id))(hb:s.h id=some (.map (e0::es)))(hy:Am s y=some k)(hu:toV k=some u)
 (hT:P.underlying MT=some (.map KT ET)) (hK:P.underlying KT=some (.struct fs)) (hc:AX P (Instr.checkKey false 10000 KT u)=some ()) (hf:KL P KT u (e0::es) 0=some none) (hi:P.info? ET=some i) (hz:i.zero=some zv) (hzv:ofV zv=some z)
 {d:Nat} (hdst:o.dst=some d) (hd:d<N):Step P N o s (s.put (some d) (if ok then .tup [z,.sc (.bool false)] else z)):=
 C9 hdst hd fun base w0 π a w hr=>by
  have hk:a.eval y=u:=Le hu (hr.get (x:=y) hy)
  have h1:=hr.get (x:=x) hx
  obtain ⟨p,hp,hat⟩:=hr.at hb
  obtain ⟨arr,h3,h4⟩:=hat
  rw [Ai,hp] at h1
  injection h1 with h1
  have hg:(getObj p.b).run P w=.ok (.map arr (e0::es).length) w:=by simp [getObj,Sem.run,h3]
  have hne:arr.isEmpty=false:=by
   have:=h4.1
   simp only [List.length_cons] at this
   rw [Array.isEmpty_eq_false_iff]
   intro e;rw [e] at this;simp at this
  have hck:=Dn hc w
  have hcz:Ai π z=some zv:=Qe hzv
  have hzr:(zeroValue ET).run P w=.ok zv w:=by simp [zeroValue,typeInfo,hi,hz]
  rcases QL (w:=w) (ents:=arr.toList) (by simpa using h4.1) (fun i e he=>(h4.2 i e he).2) hf with ⟨_,h8⟩ | ⟨j',v',e,h5,_⟩
  ·refine ⟨if ok then .tuple #[zv,.bool false] else zv,?_,?_⟩
   ·simp [execOp,hop,Instr.lookup,←h1,run_underlying hT,hg,hk,hne,hck,Ul hK,h8,hzr,Result.andThen]
   ·cases ok with
    | true=>simp only [if_true];rw [Ai,AL,hcz,AL,Ai,if_pos (show (Value.bool false).oneCell'=true from rfl),AL];rfl
    | false=>exact hcz
  ·cases h5
theorem r_entry {MT KT ET:TypeId}{x y:Operand}{id:Nat}{es:List (V×V)}{k z:V}{u zv:Value}{i:TypeInfo}{fs:Array Field}(hop:o.op=.mapEntry MT x y)(hx:Am s x=some (.mp id))(hb:s.h id=some (.map es))(hy:Am s y=some k)(hu:toV k=some u)
 (hT:P.underlying MT=some (.map KT ET)) (hK:P.underlying KT=some (.struct fs)) (hc:AX P (Instr.checkKey false 10000 KT u)=some ()) (hf:KL P KT u es 0=some none) (hi:P.info? ET=some i) (hz:i.zero=some zv) (hzv:ofV zv=some z)
 {d:Nat} (hdst:o.dst=some d) (hd:d<N):Step P N o s { (s.put (some d) (.tup [z,.sc (.int .i64 (es.length:Int))])) with h:=hset s.h id (some (.map (es ++ [(k,z)]))),n:=s.n }:=
 Jn hdst hd fun base w0 π a w hr=>by
  have hk:a.eval y=u:=Le hu (hr.get (x:=y) hy)
  have hky:=hr.get (x:=y) hy
  have h1:=hr.get (x:=x) hx
  obtain ⟨p,hp,hat⟩:=hr.at hb
  obtain ⟨arr,h3,h4⟩:=hat
  rw [Ai,hp] at h1
  injection h1 with h1
  have hg:(getObj p.b).run P w=.ok (.map arr es.length) w:=by simp [getObj,Sem.run,h3]
  have hset:∀ob,(setObj p.b ob).run P w=.ok () (setBlock w p.b ob):=fun ob=>by simp [setObj,Sem.run,h3,setBlock]
  have hck:=Dn hc w
  have hcz:Ai π z=some zv:=Qe hzv
  have hzr:(zeroValue ET).run P w=.ok zv w:=by simp [zeroValue,typeInfo,hi,hz]
  rcases QL (w:=w) (ents:=arr.toList) (by simpa using h4.1) (fun i e he=>(h4.2 i e he).2) hf with ⟨_,h8⟩ | ⟨j',v',e,h5,_⟩
  ·have hm:=WZ hr.mem hb hp h3 (es':=es ++ [(k,z)]) (arr':=arr.push { key:=u,val:=zv,born:=es.length }) ⟨by simp [h4.1],fun j e he=>by
    rw [Array.toList_push,List.getElem?_append] at he
    have hl:arr.toList.length=es.length:=by simpa using h4.1
    split at he
    ·rename_i hj
     obtain ⟨q1,kv,q2,q3⟩:=h4.2 j e he
     exact ⟨q1,kv,by rw [List.getElem?_append_left (by omega)];exact q2,q3⟩
    ·rename_i hj
     have hj2:j-arr.toList.length=0:=by
      cases hq:j-arr.toList.length with
      | zero=>rfl
      | succ m=>rw [hq] at he;simp at he
     rw [hj2] at he
     injection he with he
     subst he
     have hj3:j=es.length:=by omega
     subst hj3
     exact ⟨rfl,(k,z),by simp,by rw [←hk];exact hky,hcz⟩⟩
   refine ⟨.tuple #[zv,.int .i64 (es.length:Int)],_,π,?_,π.le_refl,hm,?_⟩
   ·simp [execOp,hop,Instr.mapEntry,←h1,run_underlying hT,hg,hk,hck,Ul hK,h8,hzr,hset,goInt,Result.andThen]
   ·rw [Ai,AL,hcz,AL,Ai,if_pos (show (Value.int .i64 (es.length:Int)).oneCell'=true from rfl),AL];rfl
  ·cases h5
theorem r_entrySto {MT:TypeId}{x y z:Operand}{id:Nat}{es:List (V×V)}{kd:IntKind}{j:Nat}{v:V}(hop:o.op=.entryStore MT x y z)(hx:Am s x=some (.mp id))(hb:s.h id=some (.map es))(hy:Am s y=some (.sc (.int kd (j:Int))))(hj:j<es.length)(hz:Am s z=some v)(hdst:o.dst=none) :
 Step P N o s { s with h:=hset s.h id (some (.map (IJ es j v))) }:=by
 intro base w0 π a w hr K Q hK
 have h1:=hr.get (x:=x) hx
 have hyv:a.eval y=.int kd (j:Int):=hr.D9 hy rfl
 have hzv:=hr.get (x:=z) hz
 obtain ⟨p,hp,hat⟩:=hr.at hb
 obtain ⟨arr,h3,h4⟩:=hat
 rw [Ai,hp] at h1
 injection h1 with h1
 have hg:(getObj p.b).run P w=.ok (.map arr es.length) w:=by simp [getObj,Sem.run,h3]
 have hset:∀ob,(setObj p.b ob).run P w=.ok () (setBlock w p.b ob):=fun ob=>by simp [setObj,Sem.run,h3,setBlock]
 have hfi:arr.findIdx? (fun e=>(e.born:Int)==(j:Int))=some j:=by
  rw [Array.findIdx?_eq_some_iff_getElem]
  have hjl:j<arr.size:=by rw [h4.1];exact hj
  refine ⟨hjl,?_,fun i hi=>?_⟩
  ·obtain ⟨q1,_⟩:=h4.2 j arr[j] (by simp [hjl])
   simp [q1]
  ·obtain ⟨q1,_⟩:=h4.2 i (arr[i]'(by omega)) (by simp [show i<arr.size by omega])
   simp only [q1,beq_iff_eq]
   omega
 have hm:=WZ hr.mem hb hp h3 (es':=IJ es j v) (arr':=arr.modify j fun e=>{ e with val:=a.eval z }) ⟨by simp [Ub,h4.1],fun i e he=>by
  rw [Array.toList_modify,List.getElem?_modify] at he
  rw [setE_at]
  cases hq:arr.toList[i]? with
  | none=>rw [hq] at he;simp at he
  | some e'=>
   rw [hq] at he
   obtain ⟨q1,kv,q2,q3,q4⟩:=h4.2 i e' hq
   simp only [Option.map_eq_map,Option.map_some,Option.some.injEq] at he
   by_cases e1:i=j
   ·subst e1
    simp only [if_true] at he ⊢
    subst he
    exact ⟨q1,(kv.1,v),by rw [q2];rfl,q3,hzv⟩
   ·have e2:¬j=i:=fun e=>e1 e.symm
    simp only [if_neg e2] at he
    simp only [if_neg e1]
    have he:e'=e:=he
    subst he
    exact ⟨q1,kv,q2,q3,q4⟩⟩
 have hrun:(execOp a.eval o).run P w=.ok .skip (setBlock w p.b (.map (arr.modify j fun e=>{ e with val:=a.eval z }) (IJ es j v).length)):=by
  simp [execOp,hop,Instr.entryStore,←h1,hg,hyv,asInt,asIntOf,hfi,hset,Ub,Result.andThen]
 unfold Oper.wp
 rw [hrun,Oper.upon_skip,hdst]
 exact hK π _ _ π.le_refl ⟨hm,by simpa [Act.put] using hr.tsz,by simpa [Act.put] using hr.defs,fun i v hi=>by simpa [Act.put] using hr.slot i v hi⟩
end
end Go.Rn
end
section
namespace Go.Rn
open Go.RowKit
open Go.Vm (AX Dn Es Bl CU DK FB)
set_option linter.unusedSectionVars false
variable [Cx]
def kindOk (td:TypeDesc)(u:V):Prop:=match td,u with
 | .pointer _,.ptr _ _=>True
 | .map _ _,.mp _=>True
 | .slice _,.sl _ _ _ _ _=>True
 | .func _ _ _,.fn _ _=>True
 | _,_=>False
def eqlK (op:BinOp)(K:V→Prop):Prop:=match op with
 | .eql=>K (.sc (.bool false))
 | .neq=>K (.sc (.bool true))
 | _=>False
def IL (o:Oper):Bool:=match o.op with
 | .load _ (.global _)=>true
 | .load _ _=>false
 | .next _ _=>false
 | .lookup _ _ _ _=>false
 | _=>true
def FVf (P:Program)(o:Oper)(t:Tr V)(v:V):Prop:=∀(N:Nat) (s:St) (d:Nat),(∀x v,x∈o.op.operands→Am (stT t .leaf 0) x=some v→Am s x=some v)→o.dst=some d→d<N→Step P N o s (s.put (some d) v)
def XF (P:Program)(o:Oper)(t:Tr V)(h:Hp)(v:V):Prop:=FV P o t h v∧(IL o=true→FVf P o t v)
theorem Dx {P:Program}{o:Oper}{t:Tr V}{h:Hp}{v:V}(hf:FVf P o t v):XF P o t h v:=⟨fun N s d ha _ hdst hd=>hf N s d ha hdst hd,fun _=>hf⟩
theorem Nu {P:Program}{o:Oper}{t:Tr V}{h:Hp}{v:V}(hf:FV P o t h v)(hm:IL o=false):XF P o t h v:=⟨hf,fun h=>by rw [hm] at h;cases h⟩
def nilK (P:Program)(op:BinOp)(T:TypeId)(u v:V)(K:V→Prop):Prop:=match v with
 | .sc z=>match notNil u z with
  | true=>match P.underlying T with
   | some td=>match td,u with
    | .pointer _,.ptr _ _=>eqlK op K
    | .map _ _,.mp _=>eqlK op K
    | .slice _,.sl _ _ _ _ _=>eqlK op K
    | .func _ _ _,.fn _ _=>eqlK op K
    | _,_=>False
   | none=>False
  | false=>False
 | _=>False
def twoK (P:Program)(op:BinOp)(T:TypeId)(x y:Operand)(u v:V)(K:V→Prop):Prop:=toK u fun a=>toK v fun b=>binK P op T x y a b fun r=>K (.sc r)
def FP (t:Tr V)(x:Option Operand)(dflt:Nat)(K:Nat→Prop):Prop:=match x with
 | none=>K dflt
 | some y=>ovK t y fun v=>match v with
  | .sc (.int _ (.ofNat i))=>K i
  | _=>False
def ltB (a b:Nat):Bool:=Nat.ble (Nat.succ a) b
theorem Kz {a b:Nat}(h:ltB a b=true):a<b:=Nat.le_of_ble_eq_true h
def atEnd (l h:Nat)(c:Option Nat):Bool:=match c with
 | some k=>match Nat.beq l k with
  | true=>Nat.beq h k
  | false=>false
 | none=>false
theorem atEnd_spec {l h:Nat}{c:Option Nat}(hk:atEnd l h c=true):c=some l∧h=l:=by
 unfold atEnd at hk
 split at hk
 ·split at hk
  ·rename_i k h1
   have h1:=Nat.eq_of_beq_eq_true h1
   have h2:=Nat.eq_of_beq_eq_true hk
   exact ⟨by rw [h1],by rw [h1,h2]⟩
  ·cases hk
 ·cases hk
def roomK (l h n:Nat)(c:Option Nat)(K:Option Nat→Prop):Prop:=match Nat.ble l h with
 | true=>match c with
  | none=>match Nat.ble h n with
   | true=>match Nat.beq l 0 with
    | true=>K none
    | false=>match ltB l n with
     | true=>K none
     | false=>False
   | false=>False
  | some k=>match Nat.ble h k with
   | true=>match ltB l k with
    | true=>D8 (Nat.sub k l) fun k=>K (some k)
    | false=>match Nat.beq l 0 with
     | true=>D8 k fun k=>K (some k)
     | false=>False
   | false=>False
 | false=>False
theorem roomK_spec {l h n:Nat}{c:Option Nat}{K:Option Nat→Prop}(hk:roomK l h n c K):l≤h∧(h≤n∨∃k,c=some k∧h≤k)∧(l=0∨l<n∨∃k,c=some k∧l<k)∧K (c.map (· - l)):=by
 unfold roomK at hk
 split at hk
 ·rename_i h1
  have h1:=Nat.le_of_ble_eq_true h1
  split at hk
  ·split at hk
   ·rename_i h2
    have h2:=Nat.le_of_ble_eq_true h2
    split at hk
    ·rename_i h3
     exact ⟨h1,.inl h2,.inl (Nat.eq_of_beq_eq_true h3),hk⟩
    ·split at hk
     ·rename_i h3;exact ⟨h1,.inl h2,.inr (.inl (Kz h3)),hk⟩
     ·exact hk.elim
   ·exact hk.elim
  ·rename_i k
   split at hk
   ·rename_i h2
    have h2:=Nat.le_of_ble_eq_true h2
    split at hk
    ·rename_i h3;exact ⟨h1,.inr ⟨k,rfl,h2⟩,.inr (.inr ⟨k,rfl,Kz h3⟩),Ed (K:=fun k=>K (some k)) hk⟩
    ·split at hk
     ·rename_i h3
      have h3:=Nat.eq_of_beq_eq_true h3
      subst h3
      exact ⟨h1,.inr ⟨k,rfl,h2⟩,.inl rfl,by simpa using Ed (K:=fun k=>K (some k)) hk⟩
     ·exact hk.elim
   ·exact hk.elim
 ·exact hk.elim
def lenK (P:Program)(T:TypeId)(v:V)(K:V→Prop):Prop:=match P.underlying T with
 | some (.slice _)=>match v with
  | .sl _ _ _ n _=>K (.sc (.int .i64 (.ofNat n)))
  | .sc (.slice none 0 0)=>K (.sc (.int .i64 (.ofNat 0)))
  | _=>False
 | some .string=>match v with
  | .sc (.string s)=>D8 (J4 s.data.toList) fun n=>K (.sc (.int .i64 (.ofNat n)))
  | _=>False
 | some (.array n _)=>K (.sc (.int .i64 (.ofNat n)))
 | _=>False
def opsK (t:Tr V)(l:List Operand):(List V→Prop)→Prop:=@List.rec Operand (fun _=>(List V→Prop)→Prop) (fun K=>K []) (fun x _ ih K=>ovK t x fun v=>ih fun l=>K (v::l)) l
def partsK (t:Tr V)(l:List (Nat×Operand)):(List (Nat×V)→Prop)→Prop:=@List.rec (Nat×Operand) (fun _=>(List (Nat×V)→Prop)→Prop) (fun K=>K []) (fun x _ ih K=>ovK t x.2 fun v=>ih fun l=>K ((x.1,v)::l)) l
noncomputable def lenE (l:List (V×V)):Nat:=@List.rec (V×V) (fun _=>Nat) 0 (fun _ _ ih=>Nat.succ ih) l
theorem SB:∀l:List (V×V),lenE l=l.length
 | []=>rfl
 | _::l=>congrArg Nat.succ (SB l)
def lookN (P:Program)(MT:TypeId)(u:Value)(e:V×V)(es:List (V×V))(ok:Bool)(K:V→Prop):Prop:=match P.underlying MT with
 | some (.map KT ET)=>match AX P (Instr.checkKey false 10000 KT u) with
  | some _=>match P.underlying KT with
   | some (.struct _)=>match KL P KT u (e::es) 0 with
    | some (some (_,v))=>match ok with
     | true=>K (.tup [v,.sc (.bool true)])
     | false=>K v
    | some none=>match P.info? ET with
     | some i=>match i.zero with
      | some zv=>match ofV zv with
       | some z=>match ok with
        | true=>K (.tup [z,.sc (.bool false)])
        | false=>K z
       | none=>False
      | none=>False
     | none=>False
    | none=>False
   | _=>False
  | none=>False
 | _=>False
def lookK (P:Program)(MT:TypeId)(u:Value)(ok:Bool)(K:V→Prop):Prop:=match P.underlying MT with
 | some (.map KT ET)=>match AX P (Instr.checkKey true 10000 KT u) with
  | some _=>match P.underlying KT with
   | some _=>match P.info? ET with
    | some i=>match i.zero with
     | some zv=>match ofV zv with
      | some z=>match ok with
       | true=>K (.tup [z,.sc (.bool false)])
       | false=>K z
      | none=>False
     | none=>False
    | none=>False
   | none=>False
  | none=>False
 | _=>False
theorem WY {P:Program}{MT:TypeId}{u:Value}{ok:Bool}{K:V→Prop}(h:lookK P MT u ok K):∃KT ET i zv z,P.underlying MT=some (.map KT ET)∧(∃kd,P.underlying KT=some kd)∧AX P (Instr.checkKey true 10000 KT u)=some ()∧P.info? ET=some i∧i.zero=some zv∧ofV zv=some z∧K (if ok then .tup [z,.sc (.bool false)] else z):=by
 unfold lookK at h
 split at h
 ·rename_i KT ET hT
  split at h
  ·rename_i hc
   split at h
   ·rename_i kd hK
    split at h
    ·rename_i i hi
     split at h
     ·rename_i zv hz
      split at h
      ·rename_i z hzv
       refine ⟨KT,ET,i,zv,z,hT,⟨kd,hK⟩,hc,hi,hz,hzv,?_⟩
       cases ok<;>exact h
      ·exact h.elim
     ·exact h.elim
    ·exact h.elim
   ·exact h.elim
  ·exact h.elim
 ·exact h.elim
noncomputable def Kq (P:Program)(o:Oper)(t:Tr V)(m:Tr Blk)(K:V→Prop):Prop:=match o.op with
 | .move x=>ovK t x K
 | .assign x=>ovK t x K
 | .pick c x y=>ovK t c fun v=>match v with
  | .sc (.bool true)=>ovK t x K
  | .sc (.bool false)=>ovK t y K
  | _=>False
 | .nilCheck x=>ovK t x fun v=>match v with
  | .ptr id off=>K (.ptr id off)
  | .fn f cs=>K (.fn f cs)
  | _=>False
 | .binOp op T x y T'=>ovK t x fun u=>ovK t y fun v=>match u with
  | .sc _=>twoK P op T x y u v K
  | .agg _=>twoK P op T x y u v K
  | u=>nilK P op T u v K
 | .unOp op T x=>ovK t x fun u=>toK u fun a=>match op,a with
  | .not,.bool b=>JM (!b) fun r=>K (.sc r)
  | op,a=>Ku (AX P (Op.unary op a)) fun r=>K (.sc r)
 | .convert T T' x=>ovK t x fun u=>toK u fun a=>Ku (AX P (convert T T' a)) fun r=>K (.sc r)
 | .load T (.global g)=>match Iy g with
  | some cs=>match cs.all (·.oneCell') with
   | true=>match Bl P T with
    | some (ag,n)=>Gu ag n (cs.map .sc) 0 K
    | none=>False
   | false=>False
  | none=>False
 | .load T x=>ovK t x fun v=>match v with
  | .ptr id off=>match m.get id with
   | some b=>match b.cs with
    | some cs=>match Bl P T with
     | some (ag,n)=>Gu ag n cs off K
     | none=>False
    | none=>False
   | none=>False
  | _=>False
 | .fieldAddr T x f=>ovK t x fun v=>match v with
  | .ptr id off=>match Es P T f with
   | some k=>D8 (Nat.add off k) fun off=>K (.ptr id off)
   | none=>False
  | _=>False
 | .field T x f=>ovK t x fun v=>match v with
  | .agg cs=>match fieldAt? P T f with
   | some (off,(ag,n))=>Gu ag n cs off K
   | none=>False
  | _=>False
 | .indexAddr T x ix=>ovK t x fun v=>ovK t ix fun w=>match w with
  | .sc (.int _ (.ofNat i))=>match v with
   | .sl id off sz n c=>match ltB i n with
    | true=>match DK P T with
     | some sz'=>D8 (Nat.add off (Nat.mul i sz')) fun off=>K (.ptr id off)
     | none=>False
    | false=>False
   | .ptr id off=>match FB P T with
    | some (n,sz)=>match ltB i n with
     | true=>D8 (Nat.add off (Nat.mul i sz)) fun off=>K (.ptr id off)
     | false=>False
    | none=>False
   | _=>False
  | _=>False
 | .index T x ix=>ovK t x fun v=>ovK t ix fun w=>match w with
  | .sc (.int _ (.ofNat i))=>match v with
   | .agg cs=>match RF P T with
    | some (n,sz,(ag,k))=>match ltB i n with
     | true=>Gu ag k cs (Nat.mul i sz) K
     | false=>False
    | none=>False
   | .sc (.string s)=>match P.underlying T with
    | some .string=>nthB i s.data.toList fun b=>D8 b.toNat fun n=>K (.sc (.int .u8 (.ofNat n)))
    | _=>False
   | _=>False
  | _=>False
 | .slice T x lo hi mx=>ovK t x fun v=>match v with
  | .sc (.string s)=>match mx,P.underlying T with
   | none,some .string=>FP t lo 0 fun l=>FP t hi (J4 s.data.toList) fun h=>match Nat.ble l h with
    | true=>match Nat.ble h (J4 s.data.toList) with
     | true=>P8 ((s.data.toList.drop l).take (h-l)) fun b=>K (.sc (.string ⟨⟨b⟩⟩))
     | false=>False
    | false=>False
   | _,_=>False
  | .sc (.slice none 0 0)=>match mx,P.underlying T with
   | none,some (.slice e)=>match P.info? e with
    | some _=>FP t lo 0 fun l=>FP t hi 0 fun h=>match Nat.beq l 0 with
     | true=>match Nat.beq h 0 with
      | true=>K (.sc (.slice none 0 0))
      | false=>False
     | false=>False
    | none=>False
   | _,_=>False
  | .sl id off sz n c=>match DK P T with
   | some sz'=>match Nat.beq sz sz' with
    | true=>match mx with
     | none=>match ltB 0 sz with
      | true=>FP t lo 0 fun l=>FP t hi n fun h=>match atEnd l h c with
       | true=>K (.sl id off sz 0 (some 0))
       | false=>roomK l h n c fun c=>D8 (Nat.add off (Nat.mul l sz)) fun off=>D8 (Nat.sub h l) fun n=>K (.sl id off sz n c)
      | false=>False
     | some z=>match hi with
      | some y=>FP t lo 0 fun l=>FP t (some y) n fun h=>FP t (some z) n fun q=>match Nat.ble l h with
       | true=>match Nat.ble h q with
        | true=>match Nat.ble q n with
         | true=>match Nat.beq q l with
          | true=>D8 (Nat.sub h l) fun n=>D8 (Nat.sub q l) fun c=>K (.sl id off sz n (some c))
          | false=>D8 (Nat.add off (Nat.mul l sz)) fun off=>D8 (Nat.sub h l) fun n=>D8 (Nat.sub q l) fun c=>K (.sl id off sz n (some c))
         | false=>False
        | false=>False
       | false=>False
      | none=>False
    | false=>False
   | none=>False
  | _=>False
 | .call c=>match c.callee with
  | .builtin .len=>match c.args.toList,c.argTypes.toList with
   | [x],[T]=>ovK t x fun v=>lenK P T v K
   | _,_=>False
  | .builtin .min=>match c.args.toList,c.argTypes.toList with
   | [x,y],[T,T']=>ovK t x fun u=>ovK t y fun v=>toK u fun a=>toK v fun b=>Ku (AX P (Builtin.min_ #[T,T'] o.type #[a,b])) fun r=>K (.sc r)
   | _,_=>False
  | .builtin .max=>match c.args.toList,c.argTypes.toList with
   | [x,y],[T,T']=>ovK t x fun u=>ovK t y fun v=>toK u fun a=>toK v fun b=>Ku (AX P (Builtin.max_ #[T,T'] o.type #[a,b])) fun r=>K (.sc r)
   | _,_=>False
  | _=>False
 | .next (.tmp it) false=>match t.get it with
  | some (.it i)=>match m.get i with
   | some (.iter none 0 0)=>K (.tup [.sc (.bool false)])
   | some (.iter (some id) n k)=>match m.get id with
    | some (.map es)=>match Nat.beq (lenE es) n with
     | true=>match Nat.beq k n with
      | true=>K (.tup [.sc (.bool false)])
      | false=>False
     | false=>False
    | _=>False
   | _=>False
  | _=>False
 | .extract x i=>ovK t x fun v=>match v with
  | .tup cs=>nthK i cs K
  | _=>False
 | .build T parts=>partsK t parts.toList fun ds=>match Q3 P T ds with
  | some cs=>spK cs fun cs=>K (.agg cs)
  | none=>False
 | .makeFunc (.func f) first caps=>match first.toList with
  | []=>opsK t caps.toList fun vs=>K (.fn f vs)
  | _=>False
 | .lookup MT x y ok=>ovK t x fun v=>ovK t y fun k=>toK k fun u=>match v with
  | .mp id=>match m.get id with
   | some (.map [])=>lookK P MT u ok K
   | some (.map (e::es))=>lookN P MT u e es ok K
   | _=>False
  | .sc (.map none)=>lookK P MT u ok K
  | _=>False
 | _=>False
theorem Gf {t:Tr V}{x:Option Operand}{dflt:Nat}{K:Nat→Prop}(o:Oper)(h:FP t x dflt K):∃l,(∀s:St,(∀x v,x∈o.op.operands→Am (stT t .leaf 0) x=some v→Am s x=some v)→(∀y,x=some y→y∈o.op.operands)→Ej s x dflt=some l)∧K l:=by
 unfold FP at h
 split at h
 ·exact ⟨dflt,fun _ _ _=>rfl,h⟩
 ·rename_i y
  obtain ⟨v,h1,h2⟩:=Bi h
  split at h2
  ·rename_i k i
   refine ⟨i,fun s ha hm=>?_,h2⟩
   unfold Ej
   simp only [ha y _ (hm y rfl) (h1 _ _)]
   exact if_pos (Int.natCast_nonneg i)
  ·exact h2.elim
theorem Rk {t:Tr V}:∀{l:List Operand} {K:List V→Prop},opsK t l K→∃vs,(∀s:St,(∀x v,x∈l→Am (stT t .leaf 0) x=some v→Am s x=some v)→l.mapM (Am s)=some vs)∧K vs
 | [],K,h=>⟨[],fun _ _=>rfl,h⟩
 | x::l,K,h=>by
  obtain ⟨v,h1,h2⟩:=Bi h
  obtain ⟨vs,h3,h4⟩:=Rk (l:=l) (K:=fun l=>K (v::l)) h2
  refine ⟨v::vs,fun s ha=>?_,h4⟩
  rw [List.mapM_cons,ha x v (List.mem_cons_self ..) (h1 _ _),h3 s fun y w hy=>ha y w (List.mem_cons_of_mem _ hy)];rfl
theorem Ue {t:Tr V}:∀{l:List (Nat×Operand)} {K:List (Nat×V)→Prop},partsK t l K→∃vs,(∀s:St,(∀x v,x∈l.map (·.2)→Am (stT t .leaf 0) x=some v→Am s x=some v)→Em s l=some vs)∧K vs
 | [],K,h=>⟨[],fun _ _=>rfl,h⟩
 | (i,x)::l,K,h=>by
  obtain ⟨v,h1,h2⟩:=Bi h
  obtain ⟨vs,h3,h4⟩:=Ue (l:=l) (K:=fun l=>K ((i,v)::l)) h2
  refine ⟨(i,v)::vs,fun s ha=>?_,h4⟩
  rw [Em,ha x v (by simp) (h1 _ _),h3 s fun y w hy=>ha y w (List.mem_cons_of_mem _ hy)]
theorem nilK_spec {P:Program}{op:BinOp}{T:TypeId}{u v:V}{K:V→Prop}(h:nilK P op T u v K):∃(z:Value) (td:TypeDesc) (neg:Bool),v=.sc z∧notNil u z=true∧P.underlying T=some td∧op=(if neg then .neq else .eql)∧kindOk td u∧K (.sc (.bool neg)):=by
 cases v with
 | sc z=>
  simp only [nilK] at h
  cases hn:notNil u z with
  | false=>rw [hn] at h;exact h.elim
  | true=>
   rw [hn] at h
   cases ht:P.underlying T with
   | none=>rw [ht] at h;exact h.elim
   | some td=>
    rw [ht] at h
    have key:eqlK op K→∃neg,op=(if neg=true then .neq else .eql)∧K (.sc (.bool neg)):=by
     intro h
     cases op<;>first | exact h.elim | skip
     ·exact ⟨false,rfl,h⟩
     ·exact ⟨true,rfl,h⟩
    cases td<;>cases u<;>first | exact h.elim | skip
    all_goals
     obtain ⟨neg,q1,q3⟩:=key h
     exact ⟨z,_,neg,rfl,hn,rfl,q1,trivial,q3⟩
 | _=>exact h.elim
section
variable {P:Program} {o:Oper} {t:Tr V} {m:Tr Blk} {K:V→Prop}
theorem two_spec {op:BinOp}{T T':TypeId}{x y:Operand}{u v:V}(hop:o.op=.binOp op T x y T')(hx:Am (stT t .leaf 0) x=some u)(hy:Am (stT t .leaf 0) y=some v)(h:twoK P op T x y u v K):∃v,XF P o t m.get v∧K v:=by
 obtain ⟨a,h1,h2⟩:=Ko h
 obtain ⟨b,h3,h4⟩:=Ko h2
 obtain ⟨r,h5,h6,h7⟩:=UF h4
 exact ⟨_,Dx fun N s d ha hdst hd=>r_bin hop (ha x _ (by simp [hop,Op.operands]) hx) (ha y _ (by simp [hop,Op.operands]) hy) h1 h3 h5 h6 hdst hd,h7⟩
theorem len_spec {c:Call}{x:Operand}{T:TypeId}{v:V}(hop:o.op=.call c)(hc:c.callee=.builtin .len)(hx:c.args.toList= [x])(hT:c.argTypes.toList= [T])(hv:Am (stT t .leaf 0) x=some v)(h:lenK P T v K):∃v,XF P o t m.get v∧K v:=by
 obtain ⟨callee,args,argTypes⟩:=c
 obtain rfl:args = #[x]:=Array.ext' (by simpa using hx)
 obtain rfl:argTypes = #[T]:=Array.ext' (by simpa using hT)
 simp only at hc
 subst hc
 have hm:x∈o.op.operands:=by simp [hop,Op.operands,Call.operands]
 unfold lenK at h
 split at h
 ·rename_i e hu
  split at h
  ·exact ⟨_,Dx fun N s d ha hdst hd=>r_len hop (ha x _ hm hv) hu hdst hd,h⟩
  ·exact ⟨_,Dx fun N s d ha hdst hd=>r_len0 hop (ha x _ hm hv) hu hdst hd,h⟩
  ·exact h.elim
 ·rename_i hu
  split at h
  ·rename_i st
   have:=Ed (K:=fun n=>K (.sc (.int .i64 (.ofNat n)))) h
   rw [←size_eq] at this
   exact ⟨_,Dx fun N s d ha hdst hd=>r_lens hop (ha x _ hm hv) hu hdst hd,this⟩
  ·exact h.elim
 ·rename_i hu
  exact ⟨_,Dx fun N s d ha hdst hd=>r_lenA hop hu hdst hd,h⟩
 ·exact h.elim
set_option maxHeartbeats 2000000 in
theorem RH (h:Kq P o t m K):∃v,XF P o t m.get v∧K v:=by
 unfold Kq at h
 split at h
 ·rename_i x hop
  obtain ⟨v,h1,h2⟩:=Bi h
  exact ⟨v,Dx fun N s d ha hdst hd=>r_move (.inl hop) (ha x v (by simp [hop,Op.operands]) (h1 _ _)) hdst hd,h2⟩
 ·rename_i x hop
  obtain ⟨v,h1,h2⟩:=Bi h
  exact ⟨v,Dx fun N s d ha hdst hd=>r_move (.inr hop) (ha x v (by simp [hop,Op.operands]) (h1 _ _)) hdst hd,h2⟩
 ·rename_i c x y hop
  obtain ⟨v,h1,h2⟩:=Bi h
  split at h2
  ·obtain ⟨v,h3,h4⟩:=Bi h2
   exact ⟨v,Dx fun N s d ha hdst hd=>r_pick (b:=true) hop (ha c _ (by simp [hop,Op.operands]) (h1 _ _)) (ha x v (by simp [hop,Op.operands]) (h3 _ _)) hdst hd,h4⟩
  ·obtain ⟨v,h3,h4⟩:=Bi h2
   exact ⟨v,Dx fun N s d ha hdst hd=>r_pick (b:=false) hop (ha c _ (by simp [hop,Op.operands]) (h1 _ _)) (ha y v (by simp [hop,Op.operands]) (h3 _ _)) hdst hd,h4⟩
  ·exact h2.elim
 ·rename_i x hop
  obtain ⟨v,h1,h2⟩:=Bi h
  split at h2
  ·exact ⟨_,Dx fun N s d ha hdst hd=>r_nil hop (ha x _ (by simp [hop,Op.operands]) (h1 _ _)) (.inl ⟨_,_,rfl⟩) hdst hd,h2⟩
  ·exact ⟨_,Dx fun N s d ha hdst hd=>r_nil hop (ha x _ (by simp [hop,Op.operands]) (h1 _ _)) (.inr ⟨_,_,rfl⟩) hdst hd,h2⟩
  ·exact h2.elim
 ·rename_i op T x y T' hop
  obtain ⟨u,h1,h2⟩:=Bi h
  obtain ⟨v,h3,h4⟩:=Bi h2
  split at h4
  ·exact two_spec hop (h1 _ _) (h3 _ _) h4
  ·exact two_spec hop (h1 _ _) (h3 _ _) h4
  ·obtain ⟨z,td,neg,rfl,q1,q2,rfl,q3,q4⟩:=nilK_spec h4
   exact ⟨_,Dx fun N s d ha hdst hd=>r_eqnil hop (ha x _ (by simp [hop,Op.operands]) (h1 _ _)) (ha y _ (by simp [hop,Op.operands]) (h3 _ _)) q1 q2 (by unfold kindOk at q3;cases td<;>cases u<;>exact q3) hdst hd,q4⟩
 ·rename_i op T x hop
  obtain ⟨u,h1,h2⟩:=Bi h
  obtain ⟨a,h3,h4⟩:=Ko h2
  split at h4
  ·rename_i b
   have:=KW (K:=fun r=>K (.sc r)) h4
   exact ⟨_,Dx fun N s d ha hdst hd=>r_un hop (ha x _ (by simp [hop,Op.operands]) (h1 _ _)) h3 Go.Vm.pr_not rfl hdst hd,this⟩
  ·obtain ⟨r,q1,q2,q3⟩:=Md h4
   exact ⟨_,Dx fun N s d ha hdst hd=>r_un hop (ha x _ (by simp [hop,Op.operands]) (h1 _ _)) h3 q1 q2 hdst hd,q3⟩
 ·rename_i T T' x hop
  obtain ⟨u,h1,h2⟩:=Bi h
  obtain ⟨a,h3,h4⟩:=Ko h2
  obtain ⟨r,q1,q2,q3⟩:=Md h4
  exact ⟨_,Dx fun N s d ha hdst hd=>r_conv hop (ha x _ (by simp [hop,Op.operands]) (h1 _ _)) h3 q1 q2 hdst hd,q3⟩
 ·rename_i T g hop
  split at h
  ·rename_i cs hg
   split at h
   ·rename_i ho
    split at h
    ·rename_i ag n hsh
     obtain ⟨v,q1,q2⟩:=Hm h
     exact ⟨v,Dx fun N s d ha hdst hd=>r_loadG hop hg ho hsh q1 hdst hd,q2⟩
    ·exact h.elim
   ·exact h.elim
  ·exact h.elim
 ·rename_i T x _ hop
  obtain ⟨u,h1,h2⟩:=Bi h
  split at h2
  ·rename_i id off
   split at h2
   ·rename_i b hb
    split at h2
    ·rename_i cs hcs
     split at h2
     ·rename_i ag n hsh
      obtain ⟨v,q1,q2⟩:=Hm h2
      exact ⟨v,Nu (fun N s d ha hh hdst hd=>r_load hop (ha x _ (by simp [hop,Op.operands]) (h1 _ _)) (by rw [hh];exact hb) hcs hsh q1 hdst hd) (by cases x with | global g=>exact absurd (h1 .leaf 0) (by simp [Am]) | _=>simp [IL,hop]),q2⟩
     ·exact h2.elim
    ·exact h2.elim
   ·exact h2.elim
  ·exact h2.elim
 ·rename_i T x f hop
  obtain ⟨u,h1,h2⟩:=Bi h
  split at h2
  ·rename_i id off
   split at h2
   ·rename_i k hk
    have:=Ed (K:=fun off=>K (.ptr id off)) h2
    exact ⟨_,Dx fun N s d ha hdst hd=>r_fieldA hop (ha x _ (by simp [hop,Op.operands]) (h1 _ _)) hk hdst hd,this⟩
   ·exact h2.elim
  ·exact h2.elim
 ·rename_i T x f hop
  obtain ⟨u,h1,h2⟩:=Bi h
  split at h2
  ·rename_i cs
   split at h2
   ·rename_i off ag n hf
    obtain ⟨v,q1,q2⟩:=Hm h2
    exact ⟨v,Dx fun N s d ha hdst hd=>r_field hop (ha x _ (by simp [hop,Op.operands]) (h1 _ _)) hf q1 hdst hd,q2⟩
   ·exact h2.elim
  ·exact h2.elim
 ·rename_i T x ix hop
  obtain ⟨u,h1,h2⟩:=Bi h
  obtain ⟨v,h3,h4⟩:=Bi h2
  split at h4
  ·rename_i k i
   split at h4
   ·rename_i id off sz n c
    split at h4
    ·rename_i hlt
     split at h4
     ·rename_i sz' hs
      have:=Ed (K:=fun off=>K (.ptr id off)) h4
      exact ⟨_,Dx fun N s d ha hdst hd=>r_ixS hop (ha x _ (by simp [hop,Op.operands]) (h1 _ _)) (ha ix _ (by simp [hop,Op.operands]) (h3 _ _)) hs (Kz hlt) hdst hd,this⟩
     ·exact h4.elim
    ·exact h4.elim
   ·rename_i id off
    split at h4
    ·rename_i n sz hs
     split at h4
     ·rename_i hlt
      have:=Ed (K:=fun off=>K (.ptr id off)) h4
      exact ⟨_,Dx fun N s d ha hdst hd=>r_ixA hop (ha x _ (by simp [hop,Op.operands]) (h1 _ _)) (ha ix _ (by simp [hop,Op.operands]) (h3 _ _)) hs (Kz hlt) hdst hd,this⟩
     ·exact h4.elim
    ·exact h4.elim
   ·exact h4.elim
  ·exact h4.elim
 ·rename_i T x ix hop
  obtain ⟨u,h1,h2⟩:=Bi h
  obtain ⟨v,h3,h4⟩:=Bi h2
  split at h4
  ·rename_i k i
   split at h4
   ·rename_i cs
    split at h4
    ·rename_i n sz ag q hs
     split at h4
     ·rename_i hlt
      obtain ⟨v,q1,q2⟩:=Hm h4
      exact ⟨v,Dx fun N s d ha hdst hd=>r_index hop (ha x _ (by simp [hop,Op.operands]) (h1 _ _)) (ha ix _ (by simp [hop,Op.operands]) (h3 _ _)) hs (Kz hlt) q1 hdst hd,q2⟩
     ·exact h4.elim
    ·exact h4.elim
   ·rename_i st
    split at h4
    ·rename_i hs
     obtain ⟨b,q1,q2⟩:=V9 h4
     have:=Ed (K:=fun n=>K (.sc (.int .u8 (.ofNat n)))) q2
     exact ⟨_,Dx fun N s d ha hdst hd=>r_char hop (ha x _ (by simp [hop,Op.operands]) (h1 _ _)) (ha ix _ (by simp [hop,Op.operands]) (h3 _ _)) hs (by rw [getB_eq];exact q1) hdst hd,this⟩
    ·exact h4.elim
   ·exact h4.elim
  ·exact h4.elim
 ·rename_i T x lo hi mx hop
  obtain ⟨u,h1,h2⟩:=Bi h
  have hxm:x∈o.op.operands:=by simp [hop,Op.operands]
  have hlo:∀y,lo=some y→y∈o.op.operands:=by rintro y rfl;simp [hop,Op.operands]
  have hhi:∀y,hi=some y→y∈o.op.operands:=by rintro y rfl;simp [hop,Op.operands]
  have hmx:∀y,mx=some y→y∈o.op.operands:=by rintro y rfl;simp [hop,Op.operands]
  split at h2
  ·rename_i st
   split at h2
   ·rename_i hu
    obtain ⟨l,q1,h2⟩:=Gf o h2
    obtain ⟨hh',q2,h2⟩:=Gf o h2
    split at h2
    ·rename_i hl
     split at h2
     ·rename_i hl2
      have:=SA (K:=fun b=>K (.sc (.string ⟨⟨b⟩⟩))) h2
      rw [ext_eq] at this
      rw [←size_eq] at q2 hl2
      exact ⟨_,Dx fun N s d ha hdst hd=>r_substr hop (ha x _ hxm (h1 _ _)) hu (q1 s ha hlo) (q2 s ha hhi) (Nat.le_of_ble_eq_true hl) (Nat.le_of_ble_eq_true hl2) hdst hd,this⟩
     ·exact h2.elim
    ·exact h2.elim
   ·exact h2.elim
  ·split at h2
   ·rename_i e hu
    split at h2
    ·rename_i inf hinf
     obtain ⟨l,q1,h3⟩:=Gf o h2
     obtain ⟨h',q2,h4⟩:=Gf o h3
     clear h2 h3
     split at h4
     ·rename_i e1
      have e1:=Nat.eq_of_beq_eq_true e1
      split at h4
      ·rename_i e2
       have e2:=Nat.eq_of_beq_eq_true e2
       exact ⟨_,Dx fun N s d ha hdst hd=>r_sliceN hop (ha x _ hxm (h1 _ _)) hu hinf ((q1 s ha hlo).trans (by rw [e1])) ((q2 s ha hhi).trans (by rw [e2])) hdst hd,h4⟩
      ·exact h4.elim
     ·exact h4.elim
    ·exact h2.elim
   ·exact h2.elim
  ·rename_i id off sz n c
   split at h2
   ·rename_i sz' hs
    split at h2
    ·rename_i he
     obtain rfl:=Nat.eq_of_beq_eq_true he
     split at h2
     ·split at h2
      ·rename_i h0
       obtain ⟨l,q1,h3⟩:=Gf o h2
       obtain ⟨h',q2,h4⟩:=Gf o h3
       clear h2 h3
       split at h4
       ·rename_i he
        obtain ⟨rfl,rfl⟩:=atEnd_spec he
        exact ⟨_,Dx fun N s d ha hdst hd=>r_sliceC hop (ha x _ hxm (h1 _ _)) hs (q1 s ha hlo) (q2 s ha hhi) (Kz h0) hdst hd,h4⟩
       ·obtain ⟨r1,r2,r3,h5⟩:=roomK_spec h4
        have h5:=Ed h5
        have:=Ed (K:=fun n'=>K (.sl id (off+l*sz) sz n' (c.map (· - l)))) h5
        exact ⟨_,Dx fun N s d ha hdst hd=>r_slice hop (ha x _ hxm (h1 _ _)) hs (q1 s ha hlo) (q2 s ha hhi) r1 r2 r3 (Kz h0) hdst hd,this⟩
      ·exact h2.elim
     ·rename_i z
      split at h2
      ·rename_i y
       obtain ⟨l,q1,h2⟩:=Gf o h2
       obtain ⟨h',q2,h2⟩:=Gf o h2
       obtain ⟨q,q3,h2⟩:=Gf o h2
       split at h2
       ·rename_i r1
        split at h2
        ·rename_i r2
         split at h2
         ·rename_i r3
          have hst:=fun (N:Nat) (s:St) (d:Nat) ha (hdst:o.dst=some d) (hd:d<N)=>r_slice3 hop (ha x _ hxm (h1 _ _)) hs (q1 s ha hlo) (q2 s ha hhi) (q3 s ha hmx) (Nat.le_of_ble_eq_true r1) (Nat.le_of_ble_eq_true r2) (Nat.le_of_ble_eq_true r3) hdst hd
          split at h2
          ·rename_i e
           have e:=Nat.eq_of_beq_eq_true e
           have h2:=Ed h2
           have:=Ed (K:=fun c'=>K (.sl id off sz (h' - l) (some c'))) h2
           rw [if_pos e] at hst
           exact ⟨_,Dx hst,this⟩
          ·rename_i e
           have e:¬q=l:=by intro e2;rw [e2,Nat.beq_refl] at e;cases e
           have h2:=Ed h2
           have h2:=Ed h2
           have:=Ed (K:=fun c'=>K (.sl id (off+l*sz) sz (h' - l) (some c'))) h2
           rw [if_neg e] at hst
           exact ⟨_,Dx hst,this⟩
         ·exact h2.elim
        ·exact h2.elim
       ·exact h2.elim
      ·exact h2.elim
    ·exact h2.elim
   ·exact h2.elim
  ·exact h2.elim
 ·rename_i c hop
  split at h
  ·rename_i hc
   split at h
   ·rename_i x T hx hT
    obtain ⟨u,h1,h2⟩:=Bi h
    exact len_spec hop hc hx hT (h1 _ _) h2
   ·exact h.elim
  ·rename_i hc
   split at h
   ·rename_i x y T T' hx hT
    obtain ⟨u,h1,h2⟩:=Bi h
    obtain ⟨v,h3,h4⟩:=Bi h2
    obtain ⟨a,h5,h6⟩:=Ko h4
    obtain ⟨b,h7,h8⟩:=Ko h6
    obtain ⟨r,q1,q2,q3⟩:=Md h8
    obtain ⟨callee,args,argTypes⟩:=c
    obtain rfl:args = #[x,y]:=Array.ext' (by simpa using hx)
    obtain rfl:argTypes = #[T,T']:=Array.ext' (by simpa using hT)
    simp only at hc
    subst hc
    exact ⟨_,Dx fun N s d ha hdst hd=>r_min hop (ha x _ (by simp [hop,Op.operands,Call.operands]) (h1 _ _)) (ha y _ (by simp [hop,Op.operands,Call.operands]) (h3 _ _)) h5 h7 q1 q2 hdst hd,q3⟩
   ·exact h.elim
  ·rename_i hc
   split at h
   ·rename_i x y T T' hx hT
    obtain ⟨u,h1,h2⟩:=Bi h
    obtain ⟨v,h3,h4⟩:=Bi h2
    obtain ⟨a,h5,h6⟩:=Ko h4
    obtain ⟨b,h7,h8⟩:=Ko h6
    obtain ⟨r,q1,q2,q3⟩:=Md h8
    obtain ⟨callee,args,argTypes⟩:=c
    obtain rfl:args = #[x,y]:=Array.ext' (by simpa using hx)
    obtain rfl:argTypes = #[T,T']:=Array.ext' (by simpa using hT)
    simp only at hc
    subst hc
    exact ⟨_,Dx fun N s d ha hdst hd=>r_max hop (ha x _ (by simp [hop,Op.operands,Call.operands]) (h1 _ _)) (ha y _ (by simp [hop,Op.operands,Call.operands]) (h3 _ _)) h5 h7 q1 q2 hdst hd,q3⟩
   ·exact h.elim
  ·exact h.elim
 ·rename_i it hop
  have hm:Operand.tmp it∈o.op.operands:=by simp [hop,Op.operands]
  split at h
  ·rename_i i hi
   split at h
   ·rename_i hb
    exact ⟨_,Nu (fun N s d ha hh hdst hd=>r_next0 hop (ha (.tmp it) _ hm hi) (by rw [hh];exact hb) hdst hd) (by simp [IL,hop]),h⟩
   ·rename_i id n k hb
    split at h
    ·rename_i es hes
     split at h
     ·rename_i e1
      have e1:=Nat.eq_of_beq_eq_true e1
      rw [SB] at e1
      split at h
      ·rename_i e2
       have e2:=Nat.eq_of_beq_eq_true e2
       exact ⟨_,Nu (fun N s d ha hh hdst hd=>r_next_done hop (ha (.tmp it) _ hm hi) (by rw [hh];exact hb) (by rw [hh];exact hes) e1 e2 hdst hd) (by simp [IL,hop]),h⟩
      ·exact h.elim
     ·exact h.elim
    ·exact h.elim
   ·exact h.elim
  ·exact h.elim
 ·rename_i x i hop
  obtain ⟨u,h1,h2⟩:=Bi h
  split at h2
  ·rename_i cs
   obtain ⟨v,q1,q2⟩:=Nk h2
   exact ⟨v,Dx fun N s d ha hdst hd=>r_extract hop (ha x _ (by simp [hop,Op.operands]) (h1 _ _)) q1 hdst hd,q2⟩
  ·exact h2.elim
 ·rename_i T parts hop
  obtain ⟨ds,q1,q2⟩:=Ue h
  split at q2
  ·rename_i cs hcs
   have:=Ou (K:=fun cs=>K (.agg cs)) q2
   exact ⟨_,Dx fun N s d ha hdst hd=>r_build hop (q1 s fun y v hy=>ha y v (by simp [hop,Op.operands];simpa using hy)) hcs hdst hd,this⟩
  ·exact q2.elim
 ·rename_i f first caps hop
  split at h
  ·rename_i hf
   obtain rfl:first = #[]:=Array.ext' (by simpa using hf)
   obtain ⟨vs,q1,q2⟩:=Rk h
   exact ⟨_,Dx fun N s d ha hdst hd=>r_func hop (q1 s fun y v hy=>ha y v (by simp [hop,Op.operands];simpa using hy)) hdst hd,q2⟩
  ·exact h.elim
 ·rename_i MT x y ok hop
  obtain ⟨v,h1,h2⟩:=Bi h
  obtain ⟨k,h3,h4⟩:=Bi h2
  obtain ⟨u,h5,h6⟩:=Ko h4
  split at h6
  ·rename_i id
   split at h6
   ·rename_i hb
    obtain ⟨KT,ET,i,zv,z,q1,⟨kd,q0⟩,q2,q3,q4,q5,q6⟩:=WY h6
    exact ⟨_,Nu (fun N s d ha hh hdst hd=>Xh hop (ha x _ (by simp [hop,Op.operands]) (h1 _ _)) (.inr ⟨id,rfl,by rw [hh];exact hb⟩) (ha y _ (by simp [hop,Op.operands]) (h3 _ _)) h5 q1 q0 q2 q3 q4 q5 hdst hd) (by simp [IL,hop]),q6⟩
   ·rename_i e es hb
    unfold lookN at h6
    split at h6
    ·rename_i KT ET hT
     split at h6
     ·rename_i hc
      split at h6
      ·rename_i fs hK
       split at h6
       ·rename_i j v hf
        have h7:K (if ok then .tup [v,.sc (.bool true)] else v):=by cases ok<;>exact h6
        exact ⟨_,Nu (fun N s d ha hh hdst hd=>r_lookupF hop (ha x _ (by simp [hop,Op.operands]) (h1 _ _)) (by rw [hh];exact hb) (ha y _ (by simp [hop,Op.operands]) (h3 _ _)) h5 hT hK hc hf hdst hd) (by simp [IL,hop]),h7⟩
       ·rename_i hf
        split at h6
        ·rename_i i hi
         split at h6
         ·rename_i zv hz
          split at h6
          ·rename_i z hzv
           have h7:K (if ok then .tup [z,.sc (.bool false)] else z):=by cases ok<;>exact h6
           exact ⟨_,Nu (fun N s d ha hh hdst hd=>r_lookupM hop (ha x _ (by simp [hop,Op.operands]) (h1 _ _)) (by rw [hh];exact hb) (ha y _ (by simp [hop,Op.operands]) (h3 _ _)) h5 hT hK hc hf hi hz hzv hdst hd) (by simp [IL,hop]),h7⟩
          ·exact h6.elim
         ·exact h6.elim
        ·exact h6.elim
       ·exact h6.elim
      ·exact h6.elim
     ·exact h6.elim
    ·exact h6.elim
   ·exact h6.elim
  ·obtain ⟨KT,ET,i,zv,z,q1,⟨kd,q0⟩,q2,q3,q4,q5,q6⟩:=WY h6
   exact ⟨_,Nu (fun N s d ha hh hdst hd=>Xh hop (ha x _ (by simp [hop,Op.operands]) (h1 _ _)) (.inl rfl) (ha y _ (by simp [hop,Op.operands]) (h3 _ _)) h5 q1 q0 q2 q3 q4 q5 hdst hd) (by simp [IL,hop]),q6⟩
  ·exact h6.elim
 ·exact h.elim
end
end Go.Rn
end
section
namespace Go.Rn
open Go.RowKit
open Go.Vm (AX Dn Es Bl CU DK FB)
set_option linter.unusedSectionVars false
variable [Cx]
def AgO (o:Oper)(t:Tr V)(s:St):Prop:=∀x v,x∈o.op.operands→Am (stT t .leaf 0) x=some v→Am s x=some v
def MV (P:Program)(o:Oper)(t:Tr V)(h:Hp)(n:Nat)(v:V)(h':Hp)(n':Nat):Prop:=∀(N:Nat) (s:St) (d:Nat),AgO o t s→s.h=h→s.n=n→o.dst=some d→d<N→Step P N o s { (s.put (some d) v) with h:=h',n:=n' }
def MS (P:Program)(o:Oper)(t:Tr V)(h:Hp)(n:Nat)(h':Hp)(n':Nat):Prop:=∀(N:Nat) (s:St),AgO o t s→s.h=h→s.n=n→o.dst=none→Step P N o s { s with h:=h',n:=n' }
theorem Nz {m m':Tr Blk}{id:Nat}{b:Option Blk}(h:∀u,m'.get u=if u=id then b else m.get u):m'.get=hset m.get id b:=by
 funext u;rw [h];rfl
def Ig (m:Tr Blk)(n:Nat)(b:Blk)(K:Tr Blk→Nat→Prop):Prop:=AV m n (some b) fun m=>D8 (Nat.succ n) fun n=>K m n
theorem Io {m:Tr Blk}{n:Nat}{b:Blk}{K:Tr Blk→Nat→Prop}(h:Ig m n b K):∃m',m'.get=hset m.get n (some b)∧K m' (n+1):=by
 obtain ⟨m',h1,h2⟩:=Bh h
 exact ⟨m',Nz h1,Ed (K:=fun n=>K m' n) h2⟩
def overK (ds:List V)(n:Nat):List V→(List V→Prop)→Prop:=@Nat.rec (fun _=>List V→(List V→Prop)→Prop) (fun l K=>@List.rec V (fun _=>List V→(List V→Prop)→Prop) (fun l K=>K l) (fun r _ ih l K=>match l with
 | _::l=>ih l fun l=>K (r::l)
 | []=>ih [] fun l=>K (r::l)) ds l K) (fun _ ih l K=>match l with
 | d::l=>ih l fun l=>K (d::l)
 | []=>False) n
theorem RG:∀{n:Nat} {ds l:List V} {K:List V→Prop},overK ds n l K→n≤l.length∧K (F9 l n ds)
 | 0,[],l,K,h=>⟨Nat.zero_le _,by simpa [F9] using (show K l from h)⟩
 | 0,r::rs,[],K,h=>by
  obtain ⟨h1,h2⟩:=RG (n:=0) (ds:=rs) (l:=[]) (K:=fun l=>K (r::l)) h
  exact ⟨Nat.zero_le _,by simpa [F9] using h2⟩
 | 0,r::rs,_::l,K,h=>by
  obtain ⟨h1,h2⟩:=RG (n:=0) (ds:=rs) (l:=l) (K:=fun l=>K (r::l)) h
  exact ⟨Nat.zero_le _,by simpa [F9] using h2⟩
 | n+1,ds,[],K,h=>h.elim
 | n+1,ds,d::l,K,h=>by
  obtain ⟨h1,h2⟩:=RG (n:=n) (ds:=ds) (l:=l) (K:=fun l=>K (d::l)) h
  refine ⟨by simpa using h1,?_⟩
  have e:n+1+ds.length=(n+ds.length)+1:=by omega
  simpa [F9,e] using h2
def strVK (l:List UInt8):(List V→Prop)→Prop:=@List.rec UInt8 (fun _=>(List V→Prop)→Prop) (fun K=>K []) (fun b _ ih K=>D8 b.toNat fun n=>ih fun l=>K (.sc (.int .u8 (.ofNat n))::l)) l
theorem VK:∀{l:List UInt8} {K:List V→Prop},strVK l K→K (l.map fun b=>.sc (.int .u8 b.toNat))
 | [],_,h=>h
 | b::l,K,h=>VK (l:=l) (K:=fun l=>K (.sc (.int .u8 b.toNat)::l)) (Ed (K:=fun n=>strVK l fun l=>K (.sc (.int .u8 (.ofNat n))::l)) h)
noncomputable def srcK (m:Tr Blk)(sz:Nat)(v:V)(K:Nat→List V→Prop):Prop:=match v with
 | .sc (.string s)=>match Nat.beq sz 1 with
  | true=>D8 (J4 s.data.toList) fun n=>strVK s.data.toList fun l=>K n l
  | false=>False
 | .sc (.slice none 0 0)=>K 0 []
 | .sl id off sz' n _=>match Nat.beq sz' sz with
  | true=>match Nat.beq n 0 with
   | true=>K 0 []
   | false=>match m.get id with
    | some b=>match b.cs with
     | some cs=>JP off cs fun l=>Iz (Nat.mul n sz) l fun l=>K n l
     | none=>False
    | none=>False
  | false=>False
 | _=>False
theorem srcK_spec {m:Tr Blk}{sz:Nat}{v:V}{K:Nat→List V→Prop}(h:srcK m sz v K):∃k ds,GM m.get sz v=some (k,ds)∧K k ds:=by
 unfold srcK at h
 split at h
 ·rename_i s
  split at h
  ·rename_i hb
   have hb:=Nat.eq_of_beq_eq_true hb
   have h:=Ed h
   have h:=VK (K:=fun l=>K (J4 s.data.toList) l) h
   rw [←size_eq] at h
   exact ⟨_,_,by simp [GM,hb,strV],h⟩
  ·exact h.elim
 ·exact ⟨_,_,rfl,h⟩
 ·rename_i id off sz' n c
  split at h
  ·rename_i hb
   obtain rfl:=Nat.eq_of_beq_eq_true hb
   split at h
   ·rename_i h0
    have h0:=Nat.eq_of_beq_eq_true h0
    exact ⟨_,_,by simp [GM,h0],h⟩
   ·rename_i h0
    have h0:¬n=0:=by intro e;rw [e,Nat.beq_refl] at h0;cases h0
    split at h
    ·rename_i b hbk
     split at h
     ·rename_i cs hcs
      obtain ⟨q1,h⟩:=KP h
      obtain ⟨q2,h⟩:=Lh h
      rw [List.length_drop] at q2
      have q2:n*sz'≤cs.length-off:=q2
      exact ⟨_,_,by simp only [GM,if_true,if_neg h0,hbk,hcs];rw [if_pos (by omega)];rfl,h⟩
     ·exact h.elim
    ·exact h.elim
  ·exact h.elim
 ·exact h.elim
theorem src_zero {h:Hp}{sz:Nat}{v:V}{ds:List V}(hs:GM h sz v=some (0,ds)):ds= []:=by
 unfold GM at hs
 split at hs
 ·rename_i st
  split at hs
  ·injection hs with hs;injection hs with h1 h2
   rw [←h2]
   have:st.data.toList= []:=List.length_eq_zero_iff.1 (by simpa using h1)
   simp [strV,this]
  ·cases hs
 ·injection hs with hs;injection hs with h1 h2;exact h2.symm
 ·split at hs
  ·split at hs
   ·injection hs with hs;injection hs with h1 h2;exact h2.symm
   ·rename_i hne
    split at hs
    ·split at hs
     ·split at hs
      ·injection hs with hs;injection hs with h1 h2;exact absurd h1 hne
      ·cases hs
     ·cases hs
    ·cases hs
  ·cases hs
 ·cases hs
def kindK (P:Program)(tx:TypeId)(v:V)(p:Prop):Prop:=match v with
 | .sc (.string _)=>match P.underlying tx with
  | some .string=>p
  | _=>False
 | _=>match P.underlying tx with
  | some (.slice _)=>p
  | _=>False
theorem kindK_spec {P:Program}{tx:TypeId}{v:V}{p:Prop}(h:kindK P tx v p):Ld P tx v∧p:=by
 unfold kindK at h
 split at h
 ·split at h
  ·rename_i hu;exact ⟨hu,h⟩
  ·exact h.elim
 ·rename_i hn
  split at h
  ·rename_i e hu
   refine ⟨?_,h⟩
   unfold Ld
   split
   ·exact absurd rfl (hn _)
   ·exact ⟨e,hu⟩
  ·exact h.elim
def N7 (n bytes:Nat)(p:Prop):Prop:=match Nat.ble n maxLen with
 | true=>match Nat.ble (Nat.mul n bytes) 140737488355328 with
  | true=>p
  | false=>False
 | false=>False
theorem QC {n bytes:Nat}{p:Prop}(h:N7 n bytes p):n≤maxLen∧n*bytes≤140737488355328∧p:=by
 unfold N7 at h
 split at h
 ·rename_i h1
  split at h
  ·rename_i h2;exact ⟨Nat.le_of_ble_eq_true h1,Nat.le_of_ble_eq_true h2,h⟩
  ·exact h.elim
 ·exact h.elim
noncomputable def UZ (P:Program)(T tx:TypeId)(u vy:V)(m:Tr Blk)(n:Nat)(K:V→Tr Blk→Nat→Prop):Prop:=match CU P T with
 | some (e,sz,bytes)=>kindK P tx vy (srcK m sz vy fun k ds=>match u with
  | .sc (.slice none 0 0)=>match Nat.beq k 0 with
   | true=>K (.sc (.slice none 0 0)) m n
   | false=>N7 k bytes (Ig m n (.cells ds) fun m n'=>K (.sl n 0 sz k none) m n')
  | .sl id off sz' l c=>match Nat.beq sz' sz with
   | true=>match m.get id with
    | some b=>match b with
     | .cells cs=>match Nat.ble (Nat.add off (Nat.mul l sz)) (lenN cs) with
      | true=>match Nat.beq k 0 with
       | true=>K (.sl id off sz' l c) m n
       | false=>match c with
        | some c=>match Nat.ble (Nat.add l k) c with
         | true=>overK ds (Nat.add off (Nat.mul l sz)) cs fun cs=>AV m id (some (.cells cs)) fun m=>D8 (Nat.add l k) fun l=>K (.sl id off sz l (some c)) m n
         | false=>N7 (Nat.add l k) bytes (JP off cs fun cs=>Iz (Nat.mul l sz) cs fun cs=>JD cs ds fun cs=>Ig m n (.cells cs) fun m n'=>D8 (Nat.add l k) fun l=>K (.sl n 0 sz l none) m n')
        | none=>N7 (Nat.add l k) bytes (JP off cs fun cs=>Iz (Nat.mul l sz) cs fun cs=>JD cs ds fun cs=>AV m id none fun m=>Ig m n (.cells cs) fun m n'=>D8 (Nat.add l k) fun l=>K (.sl n 0 sz l none) m n')
      | false=>False
     | .ro cs=>match Nat.ble (Nat.add off (Nat.mul l sz)) (lenN cs) with
      | true=>match c with
       | some c=>match ltB c (Nat.add l k) with
        | true=>N7 (Nat.add l k) bytes (JP off cs fun cs=>Iz (Nat.mul l sz) cs fun cs=>JD cs ds fun cs=>Ig m n (.cells cs) fun m n'=>D8 (Nat.add l k) fun l=>K (.sl n 0 sz l none) m n')
        | false=>False
       | none=>False
      | false=>False
     | _=>False
    | none=>False
   | false=>False
  | _=>False)
 | none=>False
section
variable {P:Program} {o:Oper} {t:Tr V} {m:Tr Blk} {n:Nat} {K:V→Tr Blk→Nat→Prop}
set_option maxHeartbeats 2000000 in
theorem Aaw {c:Call}{x y:Operand}{T tx:TypeId}{u vy:V}(hop:o.op=.call c)(hc:c.callee=.builtin .append)(hx:c.args.toList= [x,y])(hT:c.argTypes.toList= [T,tx])(hu:Am (stT t .leaf 0) x=some u)(hy:Am (stT t .leaf 0) y=some vy)(h:UZ P T tx u vy m n K):∃v m' n',MV P o t m.get n v m'.get n'∧K v m' n':=by
 obtain ⟨callee,args,argTypes⟩:=c
 obtain rfl:args = #[x,y]:=Array.ext' (by simpa using hx)
 obtain rfl:argTypes = #[T,tx]:=Array.ext' (by simpa using hT)
 simp only at hc
 subst hc
 have hm1:x∈o.op.operands:=by simp [hop,Op.operands,Call.operands]
 have hm2:y∈o.op.operands:=by simp [hop,Op.operands,Call.operands]
 unfold UZ at h
 split at h
 ·rename_i e sz bytes hfull
  have hq:=kindK_spec h;clear h;obtain ⟨hk,h⟩:=hq
  have hq:=srcK_spec h;clear h;obtain ⟨k,ds,hs,h⟩:=hq
  have pos:Nat.beq k 0=false→0<k:=by
   intro hz
   rcases Nat.eq_zero_or_pos k with e | e
   ·rw [e] at hz;cases hz
   ·exact e
  have zer:Nat.beq k 0=true→GM m.get sz vy=some (0,[]):=by
   intro hz
   have hz:=Nat.eq_of_beq_eq_true hz
   subst hz
   rw [hs,src_zero hs]
  split at h
  ·split at h
   ·rename_i hz
    exact ⟨_,m,n,fun N s d ha hh hn hdst hd=>by
     have:=r_app0 (s:=s) hop hfull (ha x _ hm1 hu) (.inr rfl) (ha y _ hm2 hy) hk (by rw [hh];exact zer hz) (by intro _ _ _ _ e;cases e) hdst hd
     rw [←hh,←hn];exact this,h⟩
   ·rename_i hz
    have hq:=QC h;clear h;obtain ⟨h1,h2,h⟩:=hq
    have hq:=Io h;clear h;obtain ⟨m',h3,h⟩:=hq
    exact ⟨_,m',_,fun N s d ha hh hn hdst hd=>by
     have:=r_appN (s:=s) hop hfull (ha x _ hm1 hu) (ha y _ hm2 hy) hk (by rw [hh];exact hs) (pos hz) h1 h2 hdst hd
     rw [h3,←hh,←hn];exact this,h⟩
  ·rename_i id off sz' l c
   split at h
   ·rename_i he
    obtain rfl:=Nat.eq_of_beq_eq_true he
    split at h
    ·rename_i b hb
     split at h
     ·rename_i cs
      split at h
      ·rename_i hle
       have hle:off+l*sz'≤cs.length:=by have:=Nat.le_of_ble_eq_true hle;rwa [Pm] at this
       split at h
       ·rename_i hz
        exact ⟨_,m,n,fun N s d ha hh hn hdst hd=>by
         have:=r_app0 (s:=s) hop hfull (ha x _ hm1 hu) (.inl ⟨_,_,_,_,rfl⟩) (ha y _ hm2 hy) hk (by rw [hh];exact zer hz) (by intro _ _ _ _ e;injection e with e1 e2 e3 e4 e5;subst e1 e2 e4;exact ⟨cs,by rw [hh];exact hb,hle⟩) hdst hd
         rw [←hh,←hn];exact this,h⟩
       ·rename_i hz
        split at h
        ·rename_i c
         split at h
         ·rename_i hroom
          have hq:=RG h;clear h;obtain ⟨q1,h⟩:=hq
          have hq:=Bh h;clear h;obtain ⟨m',q2,h⟩:=hq
          replace h:=Ed (K:=fun l=>K (.sl id off sz' l (some c)) m' n) h
          exact ⟨_,m',n,fun N s d ha hh hn hdst hd=>by
           have:=r_appR (s:=s) hop hfull (ha x _ hm1 hu) (ha y _ hm2 hy) hk (by rw [hh];exact hs) (by rw [hh];exact hb) hle (Nat.le_of_ble_eq_true hroom) hdst hd
           rw [Nz q2,←hh,←hn];exact this,h⟩
         ·rename_i hroom
          have hgt:c<l+k:=by
           rcases Nat.lt_or_ge c (l+k) with q | q
           ·exact q
           ·exact absurd (Nat.ble_eq_true_of_le q) (by intro e;have e:Nat.ble (l+k) c=true:=e;rw [show Nat.ble (Nat.add l k) c=Nat.ble (l+k) c from rfl,e] at hroom;cases hroom)
          have hq:=QC h;clear h;obtain ⟨h1,h2,h⟩:=hq
          have hq:=KP h;clear h;obtain ⟨_,h⟩:=hq
          have hq:=Lh h;clear h;obtain ⟨_,h⟩:=hq
          replace h:=OO h
          have hq:=Io h;clear h;obtain ⟨m',h3,h⟩:=hq
          replace h:=Ed (K:=fun l=>K (.sl n 0 sz' l none) m' (n+1)) h
          exact ⟨_,m',_,fun N s d ha hh hn hdst hd=>by
           have:=r_appG (s:=s) hop hfull (ha x _ hm1 hu) (ha y _ hm2 hy) hk (by rw [hh];exact hs) (by rw [hh];exact hb) rfl hle hgt h1 h2 hdst hd
           rw [h3,←hh,←hn];exact this,h⟩
        ·have hq:=QC h;clear h;obtain ⟨h1,h2,h⟩:=hq
         have hq:=KP h;clear h;obtain ⟨_,h⟩:=hq
         have hq:=Lh h;clear h;obtain ⟨_,h⟩:=hq
         replace h:=OO h
         have hq:=Bh h;clear h;obtain ⟨m1,q2,h⟩:=hq
         have hq:=Io h;clear h;obtain ⟨m',h3,h⟩:=hq
         replace h:=Ed (K:=fun l=>K (.sl n 0 sz' l none) m' (n+1)) h
         exact ⟨_,m',_,fun N s d ha hh hn hdst hd=>by
          have:=r_appU (s:=s) hop hfull (ha x _ hm1 hu) (ha y _ hm2 hy) hk (by rw [hh];exact hs) (by rw [hh];exact hb) hle h1 h2 hdst hd
          rw [h3,Nz q2,←hh,←hn];exact this,h⟩
      ·exact h.elim
     ·rename_i cs
      split at h
      ·rename_i hle
       have hle:off+l*sz'≤cs.length:=by have:=Nat.le_of_ble_eq_true hle;rwa [Pm] at this
       split at h
       ·rename_i c
        split at h
        ·rename_i hgt
         have hq:=QC h;clear h;obtain ⟨h1,h2,h⟩:=hq
         have hq:=KP h;clear h;obtain ⟨_,h⟩:=hq
         have hq:=Lh h;clear h;obtain ⟨_,h⟩:=hq
         replace h:=OO h
         have hq:=Io h;clear h;obtain ⟨m',h3,h⟩:=hq
         replace h:=Ed (K:=fun l=>K (.sl n 0 sz' l none) m' (n+1)) h
         exact ⟨_,m',_,fun N s d ha hh hn hdst hd=>by
          have:=r_appG (s:=s) hop hfull (ha x _ hm1 hu) (ha y _ hm2 hy) hk (by rw [hh];exact hs) (by rw [hh];exact hb) rfl hle (Kz hgt) h1 h2 hdst hd
          rw [h3,←hh,←hn];exact this,h⟩
        ·exact h.elim
       ·exact h.elim
      ·exact h.elim
     ·exact h.elim
    ·exact h.elim
   ·exact h.elim
  ·exact h.elim
 ·exact h.elim
end
end Go.Rn
end
section
namespace Go.Rn
open Go.RowKit
open Go.Vm (AX Dn Es Bl CU DK FB)
set_option linter.unusedSectionVars false
variable [Cx]
def repK (n:Nat)(z:V):(List V→Prop)→Prop:=@Nat.rec (fun _=>(List V→Prop)→Prop) (fun K=>K []) (fun _ ih K=>ih fun l=>K (z::l)) n
theorem WT:∀{n:Nat} {z:V} {K:List V→Prop},repK n z K→K (List.replicate n z)
 | 0,_,_,h=>h
 | n+1,z,K,h=>WT (n:=n) (K:=fun l=>K (z::l)) h
def zerosK (zs:List V)(n:Nat)(K:List V→Prop):Prop:=match zs with
 | [z]=>repK n z K
 | zs=>spK ((List.range n).map fun j=>zs.getD (j % zs.length) default) K
theorem zerosK_spec {zs:List V}{n:Nat}{K:List V→Prop}(h:zerosK zs n K):K ((List.range n).map fun j=>zs.getD (j % zs.length) default):=by
 unfold zerosK at h
 split at h
 ·rename_i z
  have:=WT h
  have e:((List.range n).map fun j=>[z].getD (j % [z].length) default)=List.replicate n z:=by
   rw [List.eq_replicate_iff]
   refine ⟨by simp,fun b hb=>?_⟩
   obtain ⟨j,_,rfl⟩:=List.mem_map.1 hb
   simp [Nat.mod_one]
  rw [e];exact this
 ·exact Ou h
def Jb (v:V)(K:List V→Prop):Prop:=match v with
 | .agg cs=>K cs
 | .tup _=>False
 | v=>K [v]
theorem KD {v:V}{K:List V→Prop}(h:Jb v K):(∀cs,v≠.tup cs)∧K v.cells:=by
 cases v with
 | tup cs=>exact h.elim
 | agg cs=>exact ⟨(by intro cs e;cases e),h⟩
 | _=>exact ⟨(by intro cs e;cases e),h⟩
noncomputable def xsto (P:Program)(o:Oper)(t:Tr V)(m:Tr Blk)(K:Tr Blk→Prop):Prop:=match o.op with
 | .store T x y=>ovK t x fun u=>ovK t y fun v=>match u with
  | .ptr id off=>match m.get id with
   | some (.cells cs)=>Jb v fun ds=>match Bl P T with
    | some (_,k)=>match Nat.beq (lenN ds) k with
     | true=>Gj ds off cs fun cs=>AV m id (some (.cells cs)) K
     | false=>False
    | none=>False
   | _=>False
  | _=>False
 | .entryStore MT x y z=>ovK t x fun u=>ovK t y fun w=>ovK t z fun v=>match u with
  | .mp id=>match m.get id with
   | some (.map es)=>match w with
    | .sc (.int _ (.ofNat j))=>match ltB j (lenE es) with
     | true=>AV m id (some (.map (IJ es j v))) K
     | false=>False
    | _=>False
   | _=>False
  | _=>False
 | _=>False
noncomputable def Gt (P:Program)(o:Oper)(t:Tr V)(m:Tr Blk)(n:Nat)(K:V→Tr Blk→Nat→Prop):Prop:=match o.op with
 | .box T x=>ovK t x fun v=>Jb v fun cs=>Ig m n (.cells cs) fun m n'=>K (.ptr n 0) m n'
 | .alloc T=>match zeroV P T with
  | some cs=>spK cs fun cs=>Ig m n (.cells cs) fun m n'=>K (.ptr n 0) m n'
  | none=>False
 | .buildSlice T len parts=>match CU P T with
  | some (e,sz,bytes)=>partsK t parts.toList fun ds=>match litV P e sz len ds with
   | some cs=>match Nat.ble (Nat.mul len sz) 16777216 with
    | true=>spK cs fun cs=>Ig m n (.cells cs) fun m n'=>K (.sl n 0 sz len (some len)) m n'
    | false=>False
   | none=>False
  | none=>False
 | .makeSlice T x y=>match CU P T with
  | some (e,sz,bytes)=>ovK t x fun u=>ovK t y fun v=>match u,v with
   | .sc (.int _ (.ofNat l)),.sc (.int _ (.ofNat c))=>match zeroV P e with
    | some zs=>match Nat.ble l c with
     | true=>match Nat.ble (Nat.mul bytes c) 281474976710656 with
      | true=>match Nat.ble c maxLen with
       | true=>D8 (Nat.mul c sz) fun k=>zerosK zs k fun cs=>Ig m n (.cells cs) fun m n'=>K (.sl n 0 sz l (some c)) m n'
       | false=>False
      | false=>False
     | false=>False
    | none=>False
   | _,_=>False
  | none=>False
 | .range T x=>ovK t x fun v=>match P.underlying T with
  | some (.map _ _)=>match v with
   | .mp id=>match m.get id with
    | some (.map es)=>match es with
     | []=>Ig m n (.iter (some id) 0 0) fun m n'=>K (.it n) m n'
     | [_]=>Ig m n (.iter (some id) 1 0) fun m n'=>K (.it n) m n'
     | _=>False
    | _=>False
   | .sc (.map none)=>Ig m n (.iter none 0 0) fun m n'=>K (.it n) m n'
   | _=>False
  | _=>False
 | .makeMap T none=>Ig m n (.map []) fun m n'=>K (.mp n) m n'
 | .mapEntry MT x y=>ovK t x fun v=>ovK t y fun k=>toK k fun u=>match v with
  | .mp id=>match m.get id with
   | some (.map es)=>match P.underlying MT with
    | some (.map KT ET)=>match AX P (Instr.checkKey false 10000 KT u) with
     | some _=>match P.underlying KT with
      | some (.struct _)=>match KL P KT u es 0 with
       | some none=>match P.info? ET with
        | some i=>match i.zero with
         | some zv=>match ofV zv with
          | some z=>D8 (lenE es) fun l=>AV m id (some (.map (es ++ [(k,z)]))) fun m=>K (.tup [z,.sc (.int .i64 (.ofNat l))]) m n
          | none=>False
         | none=>False
        | none=>False
       | _=>False
      | _=>False
     | none=>False
    | _=>False
   | _=>False
  | _=>False
 | .slice T x lo hi none=>ovK t x fun v=>match v with
  | .sl id off sz l none=>match DK P T with
   | some sz'=>match Nat.beq sz sz' with
    | true=>match ltB 0 sz with
     | true=>FP t lo 0 fun a=>FP t hi l fun b=>match Nat.beq a l with
      | true=>match Nat.beq b l with
       | true=>AV m n none fun m=>D8 (Nat.succ n) fun n'=>K (.sl n 0 sz 0 none) m n'
       | false=>False
      | false=>False
     | false=>False
    | false=>False
   | none=>False
  | _=>False
 | .call c=>match c.callee with
  | .builtin .append=>match c.args.toList,c.argTypes.toList with
   | [x,y],[T,tx]=>ovK t x fun u=>ovK t y fun vy=>UZ P T tx u vy m n K
   | _,_=>False
  | _=>False
 | _=>False
section
variable {P:Program} {o:Oper} {t:Tr V} {m:Tr Blk} {n:Nat}
theorem Xf {K:Tr Blk→Prop}(h:xsto P o t m K):∃m',MS P o t m.get n m'.get n∧K m':=by
 unfold xsto at h
 split at h
 ·rename_i T x y hop
  obtain ⟨u,h1,h2⟩:=Bi h
  obtain ⟨v,h3,h4⟩:=Bi h2
  clear h h2
  split at h4
  ·rename_i id off
   split at h4
   ·rename_i cs hb
    obtain ⟨h5,h6⟩:=KD h4
    clear h4
    split at h6
    ·rename_i ag k hsh
     split at h6
     ·rename_i hl
      have hl:=Nat.eq_of_beq_eq_true hl
      rw [Pm] at hl
      obtain ⟨h7,h8⟩:=Gz h6
      obtain ⟨m',q2,h9⟩:=Bh h8
      exact ⟨m',fun N s ha hh hn hdst=>by
       have:=r_store (s:=s) (N:=N) hop (ha x _ (by simp [hop,Op.operands]) (h1 _ _)) (by rw [hh];exact hb) (ha y _ (by simp [hop,Op.operands]) (h3 _ _)) h5 hsh hl h7 hdst
       rw [Nz q2,←hh,←hn];exact this,h9⟩
     ·exact h6.elim
    ·exact h6.elim
   ·exact h4.elim
  ·exact h4.elim
 ·rename_i MT x y z hop
  obtain ⟨u,h1,h2⟩:=Bi h
  obtain ⟨w,h3,h4⟩:=Bi h2
  obtain ⟨v,h5,h6⟩:=Bi h4
  clear h h2 h4
  split at h6
  ·rename_i id
   split at h6
   ·rename_i es hb
    split at h6
    ·rename_i kd j
     split at h6
     ·rename_i hl
      have hl:=Kz hl
      rw [SB] at hl
      obtain ⟨m',q2,h9⟩:=Bh h6
      exact ⟨m',fun N s ha hh hn hdst=>by
       have:=r_entrySto (P:=P) (s:=s) (N:=N) hop (ha x _ (by simp [hop,Op.operands]) (h1 _ _)) (by rw [hh];exact hb) (ha y _ (by simp [hop,Op.operands]) (h3 _ _)) hl (ha z _ (by simp [hop,Op.operands]) (h5 _ _)) hdst
       rw [Nz q2,←hh,←hn];exact this,h9⟩
     ·exact h6.elim
    ·exact h6.elim
   ·exact h6.elim
  ·exact h6.elim
 ·exact h.elim
set_option maxHeartbeats 2000000 in
theorem WW {K:V→Tr Blk→Nat→Prop}(h:Gt P o t m n K):∃v m' n',MV P o t m.get n v m'.get n'∧K v m' n':=by
 unfold Gt at h
 split at h
 ·rename_i T x hop
  obtain ⟨v,h1,h2⟩:=Bi h
  obtain ⟨h3,h4⟩:=KD h2
  obtain ⟨m',q,h5⟩:=Io h4
  exact ⟨_,m',_,fun N s d ha hh hn hdst hd=>by
   have:=r_box (P:=P) (s:=s) hop (ha x _ (by simp [hop,Op.operands]) (h1 _ _)) h3 hdst hd
   rw [q,←hh,←hn];exact this,h5⟩
 ·rename_i T hop
  split at h
  ·rename_i cs hz
   have h2:=Ou h
   obtain ⟨m',q,h5⟩:=Io h2
   exact ⟨_,m',_,fun N s d ha hh hn hdst hd=>by
    have:=r_alloc (P:=P) (s:=s) hop hz hdst hd
    rw [q,←hh,←hn];exact this,h5⟩
  ·exact h.elim
 ·rename_i T len parts hop
  split at h
  ·rename_i e sz bytes hfull
   obtain ⟨ds,q1,q2⟩:=Ue h
   clear h
   split at q2
   ·rename_i cs hcs
    split at q2
    ·rename_i hle
     have h2:=Ou q2
     obtain ⟨m',q,h5⟩:=Io h2
     exact ⟨_,m',_,fun N s d ha hh hn hdst hd=>by
      have:=r_lit (P:=P) (s:=s) hop hfull (q1 s fun y v hy=>ha y v (by simp [hop,Op.operands];simpa using hy)) hcs (Nat.le_of_ble_eq_true hle) hdst hd
      rw [q,←hh,←hn];exact this,h5⟩
    ·exact q2.elim
   ·exact q2.elim
  ·exact h.elim
 ·rename_i T x y hop
  split at h
  ·rename_i e sz bytes hfull
   obtain ⟨u,h1,h2⟩:=Bi h
   obtain ⟨v,h3,h4⟩:=Bi h2
   clear h h2
   split at h4
   ·rename_i kl l kc c
    split at h4
    ·rename_i zs hz
     split at h4
     ·rename_i hlc
      split at h4
      ·rename_i hb
       split at h4
       ·rename_i hm
        have h5:=Ed h4
        have h6:=zerosK_spec h5
        obtain ⟨m',q,h7⟩:=Io h6
        exact ⟨_,m',_,fun N s d ha hh hn hdst hd=>by
         have:=r_make (P:=P) (s:=s) hop hfull (ha x _ (by simp [hop,Op.operands]) (h1 _ _)) (ha y _ (by simp [hop,Op.operands]) (h3 _ _)) hz (Nat.le_of_ble_eq_true hlc) (Nat.le_of_ble_eq_true hb) (Nat.le_of_ble_eq_true hm) hdst hd
         rw [q,←hh,←hn];exact this,h7⟩
       ·exact h4.elim
      ·exact h4.elim
     ·exact h4.elim
    ·exact h4.elim
   ·exact h4.elim
  ·exact h.elim
 ·rename_i T x hop
  obtain ⟨v,h1,h2⟩:=Bi h
  clear h
  have hm:x∈o.op.operands:=by simp [hop,Op.operands]
  split at h2
  ·rename_i KT ET hT
   split at h2
   ·rename_i id
    split at h2
    ·rename_i es hes
     split at h2
     ·obtain ⟨m',q,h5⟩:=Io h2
      exact ⟨_,m',_,fun N s d ha hh hn hdst hd=>by
       have:=r_range (P:=P) (s:=s) hop (ha x _ hm (h1 _ _)) (by rw [hh];exact hes) hT (by simp) hdst hd
       rw [q,←hh,←hn];exact this,h5⟩
     ·obtain ⟨m',q,h5⟩:=Io h2
      exact ⟨_,m',_,fun N s d ha hh hn hdst hd=>by
       have:=r_range (P:=P) (s:=s) hop (ha x _ hm (h1 _ _)) (by rw [hh];exact hes) hT (by simp) hdst hd
       rw [q,←hh,←hn];exact this,h5⟩
     ·exact h2.elim
    ·exact h2.elim
   ·obtain ⟨m',q,h5⟩:=Io h2
    exact ⟨_,m',_,fun N s d ha hh hn hdst hd=>by
     have:=r_range0 (P:=P) (s:=s) hop (ha x _ hm (h1 _ _)) hT hdst hd
     rw [q,←hh,←hn];exact this,h5⟩
   ·exact h2.elim
  ·exact h2.elim
 ·rename_i T hop
  obtain ⟨m',q,h5⟩:=Io h
  exact ⟨_,m',_,fun N s d ha hh hn hdst hd=>by
   have:=r_map (P:=P) (s:=s) hop hdst hd
   rw [q,←hh,←hn];exact this,h5⟩
 ·rename_i MT x y hop
  obtain ⟨v,h1,h2⟩:=Bi h
  obtain ⟨k,h3,h4⟩:=Bi h2
  obtain ⟨u,h5,h6⟩:=Ko h4
  clear h h2 h4
  split at h6
  ·rename_i id
   split at h6
   ·rename_i es hb
    split at h6
    ·rename_i KT ET hT
     split at h6
     ·rename_i hc
      split at h6
      ·rename_i fs hK
       split at h6
       ·rename_i hf
        split at h6
        ·rename_i i hi
         split at h6
         ·rename_i zv hz
          split at h6
          ·rename_i z hzv
           have h7:=Ed h6
           obtain ⟨m',q2,h9⟩:=Bh h7
           rw [SB] at h9
           exact ⟨_,m',n,fun N s d ha hh hn hdst hd=>by
            have:=r_entry (P:=P) (s:=s) (N:=N) hop (ha x _ (by simp [hop,Op.operands]) (h1 _ _)) (by rw [hh];exact hb) (ha y _ (by simp [hop,Op.operands]) (h3 _ _)) h5 hT hK hc hf hi hz hzv hdst hd
            rw [Nz q2,←hh,←hn];exact this,h9⟩
          ·exact h6.elim
         ·exact h6.elim
        ·exact h6.elim
       ·exact h6.elim
      ·exact h6.elim
     ·exact h6.elim
    ·exact h6.elim
   ·exact h6.elim
  ·exact h6.elim
 ·rename_i T x lo hi hop
  obtain ⟨u,h1,h2⟩:=Bi h
  clear h
  have hlo:∀y,lo=some y→y∈o.op.operands:=by rintro y rfl;simp [hop,Op.operands]
  have hhi:∀y,hi=some y→y∈o.op.operands:=by rintro y rfl;simp [hop,Op.operands]
  split at h2
  ·rename_i id off sz l
   split at h2
   ·rename_i sz' hs
    split at h2
    ·rename_i he
     obtain rfl:=Nat.eq_of_beq_eq_true he
     split at h2
     ·rename_i h0
      obtain ⟨a,q1,h3⟩:=Gf o h2
      obtain ⟨b,q2,h4⟩:=Gf o h3
      clear h2 h3
      split at h4
      ·rename_i ea
       obtain rfl:=Nat.eq_of_beq_eq_true ea
       split at h4
       ·rename_i eb
        obtain rfl:=Nat.eq_of_beq_eq_true eb
        obtain ⟨m',q,h5⟩:=Bh h4
        have h6:=Ed (K:=fun n'=>K (.sl n 0 sz 0 none) m' n') h5
        exact ⟨_,m',_,fun N s d ha hh hn hdst hd=>by
         have:=r_sliceE (P:=P) (s:=s) hop (ha x _ (by simp [hop,Op.operands]) (h1 _ _)) hs (q1 s ha hlo) (q2 s ha hhi) (Kz h0) hdst hd
         rw [Nz q,←hh,←hn];exact this,h6⟩
       ·exact h4.elim
      ·exact h4.elim
     ·exact h2.elim
    ·exact h2.elim
   ·exact h2.elim
  ·exact h2.elim
 ·rename_i c hop
  split at h
  ·rename_i hc
   split at h
   ·rename_i x y T tx hx hT
    obtain ⟨u,h1,h2⟩:=Bi h
    obtain ⟨vy,h3,h4⟩:=Bi h2
    exact Aaw hop hc hx hT (h1 _ _) (h3 _ _) h4
   ·exact h.elim
  ·exact h.elim
 ·exact h.elim
end
end Go.Rn
end
section
namespace Go.Rn
open Go.RowKit
open Go.Vm (AX Dn Es Bl CU DK FB)
abbrev CK:=FuncId→List V→Tr Blk→Nat→(V→Tr Blk→Nat→Prop)→Prop
noncomputable def endK (o:Oper)(t:Tr V)(p q:Prop):Prop:=match o.op with
 | .slice T x (some lo) hi none=>ovK t x fun v=>match v with
  | .sl _ _ _ n none=>match Nat.beq n 0 with
   | true=>q
   | false=>ovK t lo fun w=>match w with
    | .sc (.int _ (.ofNat l))=>match Nat.beq l n with
     | true=>p
     | false=>q
    | _=>q
  | _=>q
 | _=>q
def unbB (v:V)(ih:(List UInt8→Prop)→Prop)(K:List UInt8→Prop):Prop:=match v with
 | .sc (.int .u8 (.ofNat k))=>match Nat.ble k 255 with
  | true=>ih fun l=>K (UInt8.ofNat k::l)
  | false=>False
 | _=>False
def unbK (l:List V):(List UInt8→Prop)→Prop:=@List.rec V (fun _=>(List UInt8→Prop)→Prop) (fun K=>K []) (fun v _ ih=>unbB v ih) l
noncomputable def tosK (P:Program)(o:Oper)(t:Tr V)(m:Tr Blk)(K:V→Prop)(q:Prop):Prop:=match o.op with
 | .convert T T' x=>ovK t x fun v=>match v with
  | .sl id off sz n _=>match P.underlying T,P.underlying T' with
   | some (.slice e),some .string=>match P.underlying e with
    | some (.int .u8)=>match Nat.beq sz 1 with
     | true=>match m.get id with
      | some b=>match b.cs with
       | some cs=>unbK ((cs.drop off).take n) fun l=>match Nat.beq (J4 l) n with
        | true=>K (.sc (.string ⟨⟨l⟩⟩))
        | false=>False
       | none=>False
      | none=>False
     | false=>False
    | _=>False
   | _,_=>False
  | .sc (.slice none 0 0)=>match P.underlying T,P.underlying T' with
   | some (.slice e),some .string=>match P.underlying e with
    | some (.int .u8)=>K (.sc (.string ⟨⟨[]⟩⟩))
    | _=>False
   | _,_=>False
  | _=>q
 | _=>q
noncomputable def xop (P:Program)(ck:CK)(N:Nat)(o:Oper)(t:Tr V)(m:Tr Blk)(n:Nat)(K:Tr V→Tr Blk→Nat→Prop):Prop:=match o.dst with
 | none=>xsto P o t m fun m=>K t m n
 | some d=>match Nat.ble N d with
  | true=>False
  | false=>match o.op with
   | .call c=>match c.callee with
    | .value f=>ovK t f fun g=>match g with
     | .fn f caps=>opsK t c.args.toList fun vs=>JD vs caps fun vs=>ck f vs m n fun v m n=>AV t d (some v) fun t=>K t m n
     | _=>False
    | .builtin .append=>Gt P o t m n fun v m n=>AV t d (some v) fun t=>K t m n
    | _=>Kq P o t m fun v=>AV t d (some v) fun t=>K t m n
   | .box _ _=>Gt P o t m n fun v m n=>AV t d (some v) fun t=>K t m n
   | .alloc _=>Gt P o t m n fun v m n=>AV t d (some v) fun t=>K t m n
   | .buildSlice _ _ _=>Gt P o t m n fun v m n=>AV t d (some v) fun t=>K t m n
   | .makeSlice _ _ _=>Gt P o t m n fun v m n=>AV t d (some v) fun t=>K t m n
   | .makeMap _ _=>Gt P o t m n fun v m n=>AV t d (some v) fun t=>K t m n
   | .range _ _=>Gt P o t m n fun v m n=>AV t d (some v) fun t=>K t m n
   | .mapEntry _ _ _=>Gt P o t m n fun v m n=>AV t d (some v) fun t=>K t m n
   | .convert _ _ _=>tosK P o t m (fun v=>AV t d (some v) fun t=>K t m n) (Kq P o t m fun v=>AV t d (some v) fun t=>K t m n)
   | .slice _ _ _ _ _=>endK o t (Gt P o t m n fun v m n=>AV t d (some v) fun t=>K t m n) (Kq P o t m fun v=>AV t d (some v) fun t=>K t m n)
   | _=>Kq P o t m fun v=>AV t d (some v) fun t=>K t m n
noncomputable def gK (all:Array Oper)(o:Oper)(t:Tr V)(K:Bool→Prop):Prop:=match o.guard with
 | none=>K true
 | some (j,want)=>match all[j]? with
  | some oj=>match oj.dst with
   | some u=>match t.get u with
    | some (.sc (.bool b))=>match b,want with
     | true,true=>K true
     | false,false=>K true
     | true,false=>K false
     | false,true=>K false
    | some (.tup _)=>K false
    | _=>False
   | none=>False
  | none=>False
abbrev XL:=Tr V→Tr Blk→Nat→(Tr V→Tr Blk→Nat→Prop)→Prop
noncomputable def MH (P:Program)(ck:CK)(N:Nat)(all:Array Oper)(o:Oper)(rest:XL):XL:=fun t m n K=>gK all o t fun run=>match run with
 | true=>xop P ck N o t m n fun t m n=>rest t m n K
 | false=>match o.dst with
  | some d=>match Nat.ble N d with
   | true=>False
   | false=>AV t d (some (.tup [])) fun t=>rest t m n K
  | none=>rest t m n K
noncomputable def xops (P:Program)(ck:CK)(N:Nat)(all:Array Oper)(l:List Oper):XL:=@List.rec Oper (fun _=>XL) (fun t m n K=>K t m n) (fun o _ ih=>MH P ck N all o ih) l
abbrev XC:=Tr V→Tr Blk→Nat→(Exit→Tr V→Tr Blk→Nat→Prop)→Prop
def scopeK (b:Code)(run:Code→XC)(fuel:Nat):Code→XC:=@Nat.rec (fun _=>Code→XC) (fun _ _ _ _ _=>False) (fun _ again c t m n K=>run c t m n fun e t m n=>match e with
 | .goto l=>match findLabel b l with
  | some rest=>again rest t m n K
  | none=>K (.goto l) t m n
 | .normal=>K .normal t m n
 | .ret=>K .ret t m n
 | .exit i=>K (.exit i) t m n
 | .panic _=>False
 | .outgrown=>False) fuel
def loopK (run:XC)(fuel:Nat):XC:=@Nat.rec (fun _=>XC) (fun _ _ _ _=>False) (fun _ again t m n K=>run t m n fun e t m n=>match e with
 | .normal=>again t m n K
 | .ret=>K .ret t m n
 | .exit i=>K (.exit i) t m n
 | .goto l=>K (.goto l) t m n
 | .panic _=>False
 | .outgrown=>False) fuel
noncomputable def codeB (P:Program)(ck:CK)(dr:Nat→Array Oper→XL)(N:Nat)(ih:Code→XC):Code→XC:=fun c t m n K=>match c with
 | .skip=>K .normal t m n
 | .region _ ops false=>xops P ck N ops ops.toList t m n (K .normal)
 | .region _ ops true=>dr N ops t m n (K .normal)
 | .seq a b=>ih a t m n fun e t m n=>match e with
  | .normal=>ih b t m n K
  | .ret=>K .ret t m n
  | .exit i=>K (.exit i) t m n
  | .goto l=>K (.goto l) t m n
  | .panic _=>False
  | .outgrown=>False
 | .cond c a b=>ovK t c fun v=>match v with
  | .sc (.bool true)=>ih a t m n K
  | .sc (.bool false)=>ih b t m n K
  | _=>False
 | .block id b=>ih b t m n fun e t m n=>match e with
  | .exit i=>match Nat.beq i id with
   | true=>K .normal t m n
   | false=>K (.exit i) t m n
  | .normal=>K .normal t m n
  | .ret=>K .ret t m n
  | .goto l=>K (.goto l) t m n
  | .panic _=>False
  | .outgrown=>False
 | .loop b=>loopK (ih b) 1000000 t m n K
 | .scope b=>scopeK b ih 1000000 b t m n K
 | .exit i=>K (.exit i) t m n
 | .label _=>K .normal t m n
 | .goto l=>K (.goto l) t m n
 | .ret=>K .ret t m n
 | _=>False
noncomputable def Js (P:Program)(ck:CK)(dr:Nat→Array Oper→XL)(N:Nat)(fuel:Nat):Code→XC:=@Nat.rec (fun _=>Code→XC) (fun _ _ _ _ _=>False) (fun _ ih=>codeB P ck dr N ih) fuel
noncomputable def resB (P:Program)(t:Tr V)(m:Tr Blk)(r:ResultVar)(K:V→Prop):Prop:=match r with
 | .tmp u=>match t.get u with
  | some v=>K v
  | none=>False
 | .cell u T=>match t.get u with
  | some (.ptr id off)=>match m.get id with
   | some b=>match b.cs with
    | some cs=>match Bl P T with
     | some (ag,k)=>Gu ag k cs off K
     | none=>False
    | none=>False
   | none=>False
  | _=>False
noncomputable def resK (P:Program)(t:Tr V)(m:Tr Blk)(l:List ResultVar):(List V→Prop)→Prop:=@List.rec ResultVar (fun _=>(List V→Prop)→Prop) (fun K=>K []) (fun r _ ih K=>resB P t m r fun v=>ih fun vs=>K (v::vs)) l
def oneK (vs:List V)(K:V→Prop):Prop:=match vs with
 | [v]=>K v
 | vs=>K (.tup vs)
def OC (l:List V):Nat→Tr V→(Tr V→Prop)→Prop:=@List.rec V (fun _=>Nat→Tr V→(Tr V→Prop)→Prop) (fun _ t K=>K t) (fun v _ ih k t K=>AV t k (some v) fun t=>ih (Nat.succ k) t K) l
noncomputable def callB (P:Program)(F:Tr Func)(dr:CK→Nat→Array Oper→XL)(fuel:Nat)(ck:CK):CK:=fun f vs m n K=>match F.get f with
 | some fn=>match fn.body with
  | some c=>match Nat.ble (lenN vs) fn.ntmps with
   | true=>OC vs 0 .leaf fun t=>Js P ck (dr ck) fn.ntmps fuel c t m n fun e t m n=>match e with
    | .normal=>resK P t m fn.results.toList fun vs=>oneK vs fun v=>K v m n
    | .ret=>resK P t m fn.results.toList fun vs=>oneK vs fun v=>K v m n
    | _=>False
   | false=>False
  | none=>False
 | none=>False
end Go.Rn
end
section
namespace Go.Rn
open Go.RowKit
open Go.Vm (AX Dn Es Bl CU DK FB enters)
set_option linter.unusedSectionVars false
variable [Cx]
def Dt (P:Program)(f:FuncId)(args:List V)(h:Hp)(n:Nat)(v:V)(h':Hp)(n':Nat):Prop:=∀base w0 π w us,Mem base w0 π h n w→AL π args=some us→Calls P f us.toArray w fun e w'=>∃π' u,e=.returned u∧π.le π'∧Mem base w0 π' h' n' w'∧Ai π' v=some u
def I5 (P:Program)(ck:CK):Prop:=∀f vs m n K,ck f vs m n K→∃v m' n',enters P f=true∧Dt P f vs m.get n v m'.get n'∧K v m' n'
section
variable {P:Program} {N base n:Nat} {w0 w w':World} {π π':Pi} {s s':St} {a:Act} {o:Oper} {ck:CK}
theorem r_call {c:Call}{x:Operand}{g:FuncId}{caps vs:List V}{v:V}{h':Hp}{n':Nat}(hop:o.op=.call c)(hc:c.callee=.value x)(hx:Am s x=some (.fn g caps))(hargs:c.args.toList.mapM (Am s)=some vs)(he:enters P g=true)(hcall:Dt P g (vs++caps) s.h s.n v h' n'){d:Nat}(hdst:o.dst=some d)(hd:d<N) :
 Step P N o s { (s.put (some d) v) with h:=h',n:=n' }:=by
 intro base w0 π a w hr K Q hK
 have h1:=hr.get hx
 rw [Ai] at h1
 obtain ⟨us,h2,h3⟩:=Option.map_eq_some_iff.1 h1
 have h4:=hr.getL hargs
 have h5:=OB h4 h2
 obtain ⟨callee,args,argTypes⟩:=c
 simp only at hc hargs h4 h5
 subst hc
 have hrun:(execOp a.eval o).run P w=.ok (.enter g (args.toList.map a.eval++us).toArray) w:=by
  unfold enters at he
  split at he
  ·rename_i fn hfn
   simp only [Bool.and_eq_true,bne_iff_ne,ne_eq] at he
   cases hbody:fn.body with
   | none=>rw [hbody] at he;simp at he
   | some c=>
    have e1:(args.map a.eval++us.toArray)=(args.toList.map a.eval++us).toArray:=by
     apply Array.ext';simp
    simp [execOp,hop,resolve,←h3,Deferred.ofValue,invoke,callFunc,hfn,he.1,hbody,e1]
  ·cases he
 unfold Oper.wp
 rw [hrun,Oper.upon_enter,hdst]
 refine (hcall base w0 π w _ hr.mem h5).mono ?_
 rintro e w' ⟨π',u,rfl,hle,hm,hv⟩
 exact hK π' _ w' hle (hr.put hle hm hd hv)
theorem U0 {t t':Tr V}{m:Tr Blk}{n:Nat}{d:Nat}{v:V}(h:∀u,t'.get u=if u=d then some v else t.get u)(m':Tr Blk)(n':Nat) : { ((stT t m n).put (some d) v) with h:=m'.get,n:=n' }=stT t' m' n':=by
 simp only [stT,St.put]
 congr 1
 funext u
 rw [h]
theorem UU {t t':Tr V}{m:Tr Blk}{n:Nat}{d:Nat}{v:V}(h:∀u,t'.get u=if u=d then some v else t.get u):(stT t m n).put (some d) v=stT t' m n:=U0 h m n
theorem vget_mn {t:Tr V}(m:Tr Blk)(n:Nat){x:Operand}{v:V}(h:Am (stT t .leaf 0) x=some v):Am (stT t m n) x=some v:=by
 cases x with
 | tmp u=>exact h
 | const c=>exact h
 | func f=>exact h
 | global g=>exact h
theorem Rw (o:Oper)(t:Tr V)(m:Tr Blk)(n:Nat):AgO o t (stT t m n):=fun x v _ h=>vget_mn m n h
def XO (P:Program)(N:Nat)(o:Oper)(t:Tr V)(m:Tr Blk)(n:Nat)(K:Tr V→Tr Blk→Nat→Prop):Prop:=∃t' m' n',Step P N o (stT t m n) (stT t' m' n')∧K t' m' n'
theorem Ro {t:Tr V}{m:Tr Blk}{n d:Nat}{K:Tr V→Tr Blk→Nat→Prop}(hdst:o.dst=some d)(hd:d<N)(h:Kq P o t m fun v=>AV t d (some v) fun t=>K t m n):XO P N o t m n K:=by
 obtain ⟨v,h1,h2⟩:=RH h
 obtain ⟨t',h3,h4⟩:=Bh h2
 have:=h1.1 N (stT t m n) d (Rw o t m n) rfl hdst hd
 rw [UU h3] at this
 exact ⟨t',m,n,this,h4⟩
theorem Lc {t:Tr V}{m:Tr Blk}{n d:Nat}{K:Tr V→Tr Blk→Nat→Prop}(hdst:o.dst=some d)(hd:d<N)(h:Gt P o t m n fun v m n=>AV t d (some v) fun t=>K t m n):XO P N o t m n K:=by
 obtain ⟨v,m',n',h1,h2⟩:=WW h
 obtain ⟨t',h3,h4⟩:=Bh h2
 have:=h1 N (stT t m n) d (Rw o t m n) rfl rfl hdst hd
 rw [U0 h3] at this
 exact ⟨t',m',n',this,h4⟩
theorem endK_spec {t:Tr V}{p q:Prop}(h:endK o t p q):p∨q:=by
 unfold endK at h
 split at h
 ·obtain ⟨v,_,h⟩:=Bi h
  split at h
  ·split at h
   ·exact .inr h
   ·obtain ⟨w,_,h⟩:=Bi h
    split at h
    ·split at h
     ·exact .inl h
     ·exact .inr h
    ·exact .inr h
  ·exact .inr h
 ·exact .inr h
theorem U9:∀{l:List V} {K:List UInt8→Prop},unbK l K→∃bs:List UInt8,l=bs.map (fun b=>V.sc (.int .u8 (b.toNat:Int)))∧K bs
 | [],_,h=>⟨[],rfl,h⟩
 | v::l,K,h=>by
  replace h:unbB v (unbK l) K:=h
  unfold unbB at h
  split at h
  ·rename_i k
   split at h
   ·rename_i hk
    have hk:=Nat.le_of_ble_eq_true hk
    obtain ⟨bs,h1,h2⟩:=U9 h
    refine ⟨UInt8.ofNat k::bs,?_,h2⟩
    rw [h1,List.map_cons,UInt8.toNat_ofNat_of_lt' (by simp [UInt8.size];omega)]
    rfl
   ·exact h.elim
  ·exact h.elim
theorem Vk {t:Tr V}{m:Tr Blk}{K:V→Prop}{q:Prop}(h:tosK P o t m K q):q∨∃v,(∀(N:Nat) (s:St) (d:Nat),AgO o t s→s.h=m.get→o.dst=some d→d<N→Step P N o s (s.put (some d) v))∧K v:=by
 unfold tosK at h
 split at h
 ·rename_i T T' x hop
  have hx:x∈o.op.operands:=by simp [hop,Op.operands]
  obtain ⟨v,h1,h2⟩:=Bi h
  split at h2
  ·rename_i id off sz k c
   split at h2
   ·rename_i e hT hT'
    split at h2
    ·rename_i he
     split at h2
     ·rename_i hs
      obtain rfl:=Nat.eq_of_beq_eq_true hs
      split at h2
      ·rename_i b hb
       split at h2
       ·rename_i cs hcs
        obtain ⟨bs,h3,h4⟩:=U9 h2
        split at h4
        ·rename_i hl
         have hl:=Nat.eq_of_beq_eq_true hl
         rw [Tt] at hl
         exact .inr ⟨_,fun N s d ha hh hdst hd=>r_tostr hop (ha x _ hx (h1 _ _)) hT he hT' (by rw [hh];exact hb) hcs h3 hl hdst hd,h4⟩
        ·exact h4.elim
       ·exact h2.elim
      ·exact h2.elim
     ·exact h2.elim
    ·exact h2.elim
   ·exact h2.elim
  ·split at h2
   ·rename_i e hT hT'
    split at h2
    ·rename_i he
     exact .inr ⟨_,fun N s d ha hh hdst hd=>r_tostr0 hop (ha x _ hx (h1 _ _)) hT he hT' hdst hd,h2⟩
    ·exact h2.elim
   ·exact h2.elim
  ·exact .inl h2
 ·exact .inl h
theorem xo_tos {t:Tr V}{m:Tr Blk}{n d:Nat}{K:Tr V→Tr Blk→Nat→Prop}{q:Prop}(hdst:o.dst=some d)(hd:d<N)(h:tosK P o t m (fun v=>AV t d (some v) fun t=>K t m n) q):q∨XO P N o t m n K:=by
 rcases Vk h with h | ⟨v,h1,h2⟩
 ·exact .inl h
 ·obtain ⟨t',h3,h4⟩:=Bh h2
  have:=h1 N (stT t m n) d (Rw o t m n) rfl hdst hd
  rw [UU h3] at this
  exact .inr ⟨t',m,n,this,h4⟩
theorem Og {d:Nat}(h:Nat.ble N d=false):d<N:=by
 rcases Nat.lt_or_ge d N with h1 | h1
 ·exact h1
 ·rw [Nat.ble_eq_true_of_le h1] at h;cases h
theorem xop_spec (hck:I5 P ck){t:Tr V}{m:Tr Blk}{n:Nat}{K:Tr V→Tr Blk→Nat→Prop}(h:xop P ck N o t m n K):XO P N o t m n K:=by
 unfold xop at h
 split at h
 ·rename_i hdst
  obtain ⟨m',h1,h2⟩:=Xf h
  exact ⟨t,m',n,h1 N (stT t m n) (Rw o t m n) rfl rfl hdst,h2⟩
 ·rename_i d hdst
  split at h
  ·exact h.elim
  ·rename_i hN
   have hd:=Og hN
   split at h
   ·rename_i c hop
    split at h
    ·rename_i f hc
     obtain ⟨g,h1,h2⟩:=Bi h
     clear h
     split at h2
     ·rename_i f' caps
      obtain ⟨vs,h3,h4⟩:=Rk h2
      have h5:=OO h4
      obtain ⟨v,m',n',h6,h7,h8⟩:=hck _ _ _ _ _ h5
      obtain ⟨t',h9,h10⟩:=Bh h8
      have:=r_call (P:=P) (N:=N) (s:=stT t m n) hop hc (h1 m n) (h3 (stT t m n) fun x v _ hv=>vget_mn m n hv) h6 h7 hdst hd
      rw [U0 h9] at this
      exact ⟨t',m',n',this,h10⟩
     ·exact h2.elim
    ·exact Lc hdst hd h
    ·exact Ro hdst hd h
   ·exact Lc hdst hd h
   ·exact Lc hdst hd h
   ·exact Lc hdst hd h
   ·exact Lc hdst hd h
   ·exact Lc hdst hd h
   ·exact Lc hdst hd h
   ·exact Lc hdst hd h
   ·rcases xo_tos hdst hd h with h | h
    ·exact Ro hdst hd h
    ·exact h
   ·rcases endK_spec h with h | h
    ·exact Lc hdst hd h
    ·exact Ro hdst hd h
   ·exact Ro hdst hd h
theorem slot_bool (hr:Rel base N w0 π s a w){u:Nat}{b:Bool}(h:s.t u=some (.sc (.bool b))):a.tmps[u]? = some (.bool b):=by
 obtain ⟨x,h1,h2⟩:=hr.slot u _ h
 rw [Ai] at h2
 split at h2
 ·injection h2 with h2;rw [h1,←h2]
 ·cases h2
theorem slot_tup (hr:Rel base N w0 π s a w){u:Nat}{cs:List V}(h:s.t u=some (.tup cs)):∃us,a.tmps[u]? = some (.tuple us):=by
 obtain ⟨x,h1,h2⟩:=hr.slot u _ h
 rw [Ai] at h2
 obtain ⟨us,_,h3⟩:=Option.map_eq_some_iff.1 h2
 exact ⟨_,by rw [h1,←h3]⟩
def Hf (all:Array Oper)(o:Oper)(f:Nat→Option V)(run:Bool):Prop:=match o.guard with
 | none=>run=true
 | some (j,want)=>∃oj u,all[j]? = some oj∧oj.dst=some u∧((∃b,f u=some (.sc (.bool b))∧run=(b==want))∨((∃cs,f u=some (.tup cs))∧run=false))
theorem Rf {all:Array Oper}{run:Bool}(hr:Rel base N w0 π s a w)(h:Hf all o s.t run):Region.wanted o (yielded all a.tmps)=run:=by
 unfold Hf at h
 unfold Region.wanted
 cases hg:o.guard with
 | none=>rw [hg] at h;exact h.symm
 | some p=>
  obtain ⟨j,want⟩:=p
  rw [hg] at h
  obtain ⟨oj,u,h1,h2,h3⟩:=h
  simp only [yielded,h1,Option.bind_some,h2]
  rcases h3 with ⟨b,h3,rfl⟩ | ⟨⟨cs,h3⟩,rfl⟩
  ·rw [slot_bool hr h3];simp
  ·obtain ⟨us,h4⟩:=slot_tup hr h3
   rw [h4];simp
theorem wants_none {all:Array Oper}{o:Oper}{f:Nat→Option V}(hg:o.guard=none):Hf all o f true:=by unfold Hf;rw [hg]
theorem PK {all:Array Oper}{o:Oper}{f:Nat→Option V}{run:Bool}{j:Nat}{want:Bool}(hg:o.guard=some (j,want))(h:∃oj u,all[j]? = some oj∧oj.dst=some u∧((∃b,f u=some (.sc (.bool b))∧run=(b==want))∨((∃cs,f u=some (.tup cs))∧run=false))):Hf all o f run:=by unfold Hf;rw [hg];exact h
theorem gK_spec {all:Array Oper}{t:Tr V}{K:Bool→Prop}(h:gK all o t K):∃run,Hf all o t.get run∧K run:=by
 unfold gK at h
 split at h
 ·rename_i hg;exact ⟨true,wants_none hg,h⟩
 ·rename_i j want hg
  split at h
  ·rename_i oj hj
   split at h
   ·rename_i u hu
    split at h
    ·rename_i b hb
     split at h
     ·exact ⟨true,PK hg ⟨oj,u,hj,hu,.inl ⟨_,hb,rfl⟩⟩,h⟩
     ·exact ⟨true,PK hg ⟨oj,u,hj,hu,.inl ⟨_,hb,rfl⟩⟩,h⟩
     ·exact ⟨false,PK hg ⟨oj,u,hj,hu,.inl ⟨_,hb,rfl⟩⟩,h⟩
     ·exact ⟨false,PK hg ⟨oj,u,hj,hu,.inl ⟨_,hb,rfl⟩⟩,h⟩
    ·rename_i cs hb
     exact ⟨false,PK hg ⟨oj,u,hj,hu,.inr ⟨⟨_,hb⟩,rfl⟩⟩,h⟩
    ·exact h.elim
   ·exact h.elim
  ·exact h.elim
theorem Rel.skipped (hr:Rel base N w0 π s a w){d:Option Nat}(hd:∀u,d=some u→u<N):Rel base N w0 π (s.put d (.tup [])) (a.put d undef) w:=by
 cases d with
 | none=>exact hr
 | some d=>
  refine ⟨hr.mem,by simp [Act.put,hr.tsz],hr.defs,fun i x hi=>?_⟩
  simp only [St.put] at hi
  split at hi
  ·rename_i e
   subst e
   injection hi with hi;subst hi
   exact ⟨undef,by simp [Act.put,hr.tsz,hd i rfl],by rw [Ai,AL];rfl⟩
  ·rename_i e
   obtain ⟨y,h1,h2⟩:=hr.slot i x hi
   refine ⟨y,?_,h2⟩
   rw [←h1]
   simp [Act.put,Array.getElem?_setIfInBounds_ne (fun q=>e q.symm)]
def RL (P:Program)(N:Nat)(all:Array Oper)(l:List Oper)(s s':St):Prop:=
 ∀base w0 π a w,Rel base N w0 π s a w→∀(Q:Exit→Act→World→Prop),(∀π' a' w',π.le π'→Rel base N w0 π' s' a' w'→Q .normal a' w')→wpList P all Q l a w
theorem rl_nil {all:Array Oper}:RL P N all [] s s:=fun base w0 π a w hr Q hQ=>hQ π a w π.le_refl hr
theorem rl_step {all:Array Oper}{l:List Oper}{s1:St}(hw:Hf all o s.t true)(hs:Step P N o s s1)(h:RL P N all l s1 s'):RL P N all (o::l) s s':=by
 intro base w0 π a w hr Q hQ
 refine wpList_step fun K' hK'=>?_
 rw [if_pos (Rf hr hw)]
 exact hs base w0 π a w hr K' Q fun π' a' w' hle hr'=>hK' _ _ (h base w0 π' a' w' hr' Q fun π2 a2 w2 hle2 hr2=>hQ π2 a2 w2 (Pi.le_trans hle hle2) hr2)
theorem rl_skip {all:Array Oper}{l:List Oper}(hw:Hf all o s.t false)(hd:∀u,o.dst=some u→u<N)(h:RL P N all l (s.put o.dst (.tup [])) s'):RL P N all (o::l) s s':=by
 intro base w0 π a w hr Q hQ
 refine wpList_step fun K' hK'=>?_
 rw [if_neg (by rw [Rf hr hw];decide)]
 exact hK' _ _ (h base w0 π _ w (hr.skipped hd) Q hQ)
theorem QH (hck:I5 P ck){all:Array Oper}:∀{l:List Oper} {t:Tr V} {m:Tr Blk} {n:Nat} {K:Tr V→Tr Blk→Nat→Prop},xops P ck N all l t m n K→∃t' m' n',RL P N all l (stT t m n) (stT t' m' n')∧K t' m' n'
 | [],t,m,n,K,h=>⟨t,m,n,rl_nil,h⟩
 | o::l,t,m,n,K,h=>by
  replace h:MH P ck N all o (xops P ck N all l) t m n K:=h
  unfold MH at h
  obtain ⟨run,h1,h2⟩:=gK_spec h
  cases run with
  | true=>
   obtain ⟨t1,m1,n1,h3,h4⟩:=xop_spec hck h2
   obtain ⟨t',m',n',h5,h6⟩:=QH hck h4
   exact ⟨t',m',n',rl_step h1 h3 h5,h6⟩
  | false=>
   simp only at h2
   split at h2
   ·rename_i d hdst
    split at h2
    ·exact h2.elim
    ·rename_i hN
     obtain ⟨t1,h3,h4⟩:=Bh h2
     obtain ⟨t',m',n',h5,h6⟩:=QH hck h4
     refine ⟨t',m',n',rl_skip h1 (fun u e=>by rw [hdst] at e;injection e with e;rw [←e];exact Og hN) ?_,h6⟩
     rw [hdst,UU h3];exact h5
   ·rename_i hdst
    obtain ⟨t',m',n',h5,h6⟩:=QH hck h2
    refine ⟨t',m',n',rl_skip h1 (fun u e=>by rw [hdst] at e;cases e) ?_,h6⟩
    rw [hdst];exact h5
def RC (P:Program)(N:Nat)(c:Code)(s:St)(e:Exit)(s':St):Prop:=
 ∀base w0 π a w,Rel base N w0 π s a w→∀(Q:Exit→Act→World→Prop),(∀π' a' w',π.le π'→Rel base N w0 π' s' a' w'→Q e a' w')→c.wp P Q a w
def XCok (P:Program)(N:Nat)(c:Code)(run:XC):Prop:=∀t m n K,run t m n K→∃e t' m' n',RC P N c (stT t m n) e (stT t' m' n')∧K e t' m' n'
theorem rc_region {id:Nat}{ops:Array Oper}(h:RL P N ops ops.toList s s'):RC P N (.region id ops false) s .normal s':=by
 intro base w0 π a w hr Q hQ
 have:=wp_region_lit (P:=P) (id:=id) (l:=ops.toList) (Q:=Q) (a:=a) (w:=w) (by
  have:=h base w0 π a w hr Q hQ
  simpa using this)
 simpa using this
theorem rc_seq {x y:Code}{s1:St}{e:Exit}(h1:RC P N x s .normal s1)(h2:RC P N y s1 e s'):RC P N (.seq x y) s e s':=by
 intro base w0 π a w hr Q hQ
 refine wp_seq (h1 base w0 π a w hr _ fun π1 a1 w1 hle hr1=>?_)
 exact h2 base w0 π1 a1 w1 hr1 Q fun π2 a2 w2 hle2 hr2=>hQ π2 a2 w2 (Pi.le_trans hle hle2) hr2
theorem Uw {x y:Code}{e:Exit}(h1:RC P N x s e s')(he:e≠.normal):RC P N (.seq x y) s e s':=by
 intro base w0 π a w hr Q hQ
 refine wp_seq (h1 base w0 π a w hr _ fun π1 a1 w1 hle hr1=>?_)
 cases e<;>first | exact absurd rfl he | exact hQ π1 a1 w1 hle hr1
theorem rc_cond {c:Operand}{x y:Code}{b:Bool}{e:Exit}(hc:Am s c=some (.sc (.bool b)))(h:RC P N (if b then x else y) s e s'):RC P N (.cond c x y) s e s':=by
 intro base w0 π a w hr Q hQ
 exact wp_cond (hr.D9 hc rfl) (h base w0 π a w hr Q hQ)
def blkE (id:Nat):Exit→Exit
 | .exit i=>if i=id then .normal else .exit i
 | e=>e
theorem rc_block {id:Nat}{c:Code}{e:Exit}(h:RC P N c s e s'):RC P N (.block id c) s (blkE id e) s':=by
 intro base w0 π a w hr Q hQ
 refine wp_block (h base w0 π a w hr _ fun π1 a1 w1 hle hr1=>?_)
 have:=hQ π1 a1 w1 hle hr1
 cases e with
 | exit i=>
  simp only [Exit.inBlock,blkE] at *
  by_cases e2:i=id
  ·rw [if_pos e2] at *;exact this
  ·rw [if_neg e2] at *;exact this
 | _=>exact this
def RLoop (P:Program)(N:Nat)(c:Code)(k:Nat)(s:St)(e:Exit)(s':St):Prop:=
 ∀base w0 π a w,Rel base N w0 π s a w→∀(Q:Exit→Act→World→Prop),(∀π' a' w',π.le π'→Rel base N w0 π' s' a' w'→Q e a' w')→Code.rounds P c Q k a w
theorem rloop_more {c:Code}{k:Nat}{s1:St}{e:Exit}(h1:RC P N c s .normal s1)(h2:RLoop P N c k s1 e s'):RLoop P N c (k+1) s e s':=by
 intro base w0 π a w hr Q hQ
 rw [rounds_succ]
 refine h1 base w0 π a w hr _ fun π1 a1 w1 hle hr1=>?_
 exact h2 base w0 π1 a1 w1 hr1 Q fun π2 a2 w2 hle2 hr2=>hQ π2 a2 w2 (Pi.le_trans hle hle2) hr2
theorem UG {c:Code}{e:Exit}(h:RC P N c s e s')(he:e≠.normal):RLoop P N c 1 s e s':=by
 intro base w0 π a w hr Q hQ
 rw [rounds_succ]
 refine h base w0 π a w hr _ fun π1 a1 w1 hle hr1=>?_
 cases e<;>first | exact absurd rfl he | exact hQ π1 a1 w1 hle hr1
theorem rc_loop {c:Code}{k:Nat}{e:Exit}(h:RLoop P N c k s e s'):RC P N (.loop c) s e s':=fun base w0 π a w hr Q hQ=>wp_loop_rounds k (h base w0 π a w hr Q hQ)
def jumps (P:Program)(c:Code)(Q:Exit→Act→World→Prop):Nat→Code→Act→World→Prop
 | 0,_,_,_=>False
 | k+1,r,a,w=>r.wp P (fun e a w=>match e with
  | .goto l=>match findLabel c l with
   | some r'=>jumps P c Q k r' a w
   | none=>Q (.goto l) a w
  | e=>Q e a w) a w
theorem ZI {c:Code}{Q:Exit→Act→World→Prop}(k:Nat)(h:jumps P c Q k c a w):(Code.scope c).wp P Q a w:=by
 intro b kk cs
 have key:∀k r a w,jumps P c Q k r a w→∃e a' w',Q e a' w'∧Arrives P (lone (b.at a (.code r :: .inScope c::kk)) cs w) b kk cs e a' w':=by
  intro k
  induction k with
  | zero=>intro r a w h;exact h.elim
  | succ k ih=>
   intro r a w h
   obtain ⟨e,a₁,w₁,hq,harr⟩:=h b (.inScope c::kk) cs
   cases e with
   | normal=>exact ⟨.normal,a₁,w₁,hq,Steps.trans harr (.one step_inScope)⟩
   | exit id=>exact ⟨.exit id,a₁,w₁,hq,fun k' hk=>harr k' (by simp [exitTo,hk])⟩
   | goto l=>
    simp only at hq
    cases hf:findLabel c l with
    | some r'=>
     rw [hf] at hq
     have hg:gotoIn l (.inScope c::kk)=some (.code r' :: .inScope c::kk):=by simp [gotoIn,hf]
     obtain ⟨e₂,a₂,w₂,hq₂,harr₂⟩:=ih r' a₁ w₁ hq
     exact ⟨e₂,a₂,w₂,hq₂,.of_steps (harr _ hg) harr₂⟩
    | none=>
     rw [hf] at hq
     exact ⟨.goto l,a₁,w₁,hq,fun k' hk=>harr k' (by simp [gotoIn,hf,hk])⟩
   | ret=>exact ⟨_,a₁,w₁,hq,harr⟩
   | panic ch=>exact ⟨_,a₁,w₁,hq,harr⟩
   | outgrown=>exact ⟨_,a₁,w₁,hq,harr⟩
 obtain ⟨e,a',w',hq,harr⟩:=key k c a w h
 exact ⟨e,a',w',hq,.of_steps (.one step_scope) harr⟩
def Qa (P:Program)(N:Nat)(c:Code)(k:Nat)(r:Code)(s:St)(e:Exit)(s':St):Prop:=
 ∀base w0 π a w,Rel base N w0 π s a w→∀(Q:Exit→Act→World→Prop),(∀π' a' w',π.le π'→Rel base N w0 π' s' a' w'→Q e a' w')→jumps P c Q k r a w
theorem rscope_more {c r r':Code}{k l:Nat}{s1:St}{e:Exit}(h1:RC P N r s (.goto l) s1)(hf:findLabel c l=some r')(h2:Qa P N c k r' s1 e s'):Qa P N c (k+1) r s e s':=by
 intro base w0 π a w hr Q hQ
 refine h1 base w0 π a w hr _ fun π1 a1 w1 hle hr1=>?_
 simp only [hf]
 exact h2 base w0 π1 a1 w1 hr1 Q fun π2 a2 w2 hle2 hr2=>hQ π2 a2 w2 (Pi.le_trans hle hle2) hr2
theorem QI {c r:Code}{e:Exit}(h:RC P N r s e s')(he:∀l,e=.goto l→findLabel c l=none):Qa P N c 1 r s e s':=by
 intro base w0 π a w hr Q hQ
 refine h base w0 π a w hr _ fun π1 a1 w1 hle hr1=>?_
 cases e with
 | goto l=>simp only [he l rfl];exact hQ π1 a1 w1 hle hr1
 | _=>exact hQ π1 a1 w1 hle hr1
theorem rc_scope {c:Code}{k:Nat}{e:Exit}(h:Qa P N c k c s e s'):RC P N (.scope c) s e s':=fun base w0 π a w hr Q hQ=>ZI k (h base w0 π a w hr Q hQ)
theorem Xp {c:Code}{run:XC}(hrun:XCok P N c run):∀{f:Nat} {t:Tr V} {m:Tr Blk} {n:Nat} {K:Exit→Tr V→Tr Blk→Nat→Prop},loopK run f t m n K→∃e t' m' n' k,RLoop P N c k (stT t m n) e (stT t' m' n')∧K e t' m' n'
 | 0,_,_,_,_,h=>h.elim
 | f+1,t,m,n,K,h=>by
  obtain ⟨e,t1,m1,n1,h1,h2⟩:=hrun _ _ _ _ h
  cases e with
  | normal=>
   obtain ⟨e,t2,m2,n2,k,h3,h4⟩:=Xp hrun (f:=f) h2
   exact ⟨e,t2,m2,n2,k+1,rloop_more h1 h3,h4⟩
  | ret=>exact ⟨_,t1,m1,n1,1,UG h1 (by simp),h2⟩
  | exit i=>exact ⟨_,t1,m1,n1,1,UG h1 (by simp),h2⟩
  | goto l=>exact ⟨_,t1,m1,n1,1,UG h1 (by simp),h2⟩
  | panic _=>exact h2.elim
  | outgrown=>exact h2.elim
theorem XK {b:Code}{run:Code→XC}(hrun:∀c,XCok P N c (run c)):∀{f:Nat} {c:Code} {t:Tr V} {m:Tr Blk} {n:Nat} {K:Exit→Tr V→Tr Blk→Nat→Prop},scopeK b run f c t m n K→∃e t' m' n' k,Qa P N b k c (stT t m n) e (stT t' m' n')∧K e t' m' n'
 | 0,_,_,_,_,_,h=>h.elim
 | f+1,c,t,m,n,K,h=>by
  obtain ⟨e,t1,m1,n1,h1,h2⟩:=hrun _ _ _ _ _ h
  cases e with
  | goto l=>
   simp only at h2
   split at h2
   ·rename_i r hf
    obtain ⟨e,t2,m2,n2,k,h3,h4⟩:=XK hrun (f:=f) h2
    exact ⟨e,t2,m2,n2,k+1,rscope_more h1 hf h3,h4⟩
   ·rename_i hf
    exact ⟨_,t1,m1,n1,1,QI h1 (fun l' e=>by injection e with e;subst e;exact hf),h2⟩
  | normal=>exact ⟨_,t1,m1,n1,1,QI h1 (by simp),h2⟩
  | ret=>exact ⟨_,t1,m1,n1,1,QI h1 (by simp),h2⟩
  | exit i=>exact ⟨_,t1,m1,n1,1,QI h1 (by simp),h2⟩
  | panic _=>exact h2.elim
  | outgrown=>exact h2.elim
theorem rc_skip:RC P N .skip s .normal s:=fun base w0 π a w hr Q hQ=>wp_skip (hQ π a w π.le_refl hr)
theorem rc_ret:RC P N .ret s .ret s:=fun base w0 π a w hr Q hQ=>wp_ret (hQ π a w π.le_refl hr)
theorem rc_exit {id:Nat}:RC P N (.exit id) s (.exit id) s:=fun base w0 π a w hr Q hQ=>wp_exit (hQ π a w π.le_refl hr)
theorem rc_goto {l:Nat}:RC P N (.goto l) s (.goto l) s:=fun base w0 π a w hr Q hQ=>wp_goto (hQ π a w π.le_refl hr)
theorem rc_label {l:Nat}:RC P N (.label l) s .normal s:=fun base w0 π a w hr Q hQ=>wp_label (hQ π a w π.le_refl hr)
def DRok (P:Program)(dr:Nat→Array Oper→XL):Prop:=∀N ops t m n K,dr N ops t m n K→∃t' m' n',(∀id,RC P N (.region id ops true) (stT t m n) .normal (stT t' m' n'))∧K t' m' n'
theorem WA (hck:I5 P ck){dr:Nat→Array Oper→XL}(hdr:DRok P dr):∀{f:Nat} (c:Code),XCok P N c (Js P ck dr N f c)
 | 0,c=>fun t m n K h=>h.elim
 | f+1,c=>by
  intro t m n K h
  have ih:=fun c=>WA hck hdr (f:=f) c
  replace h:codeB P ck dr N (Js P ck dr N f) c t m n K:=h
  unfold codeB at h
  split at h
  ·exact ⟨_,t,m,n,rc_skip,h⟩
  ·obtain ⟨t',m',n',h1,h2⟩:=QH hck h
   exact ⟨_,t',m',n',rc_region h1,h2⟩
  ·obtain ⟨t',m',n',h1,h2⟩:=hdr _ _ _ _ _ _ h
   exact ⟨_,t',m',n',h1 _,h2⟩
  ·rename_i a b
   obtain ⟨e,t1,m1,n1,h1,h2⟩:=ih a _ _ _ _ h
   cases e with
   | normal=>
    obtain ⟨e,t2,m2,n2,h3,h4⟩:=ih b _ _ _ _ h2
    exact ⟨e,t2,m2,n2,rc_seq h1 h3,h4⟩
   | ret=>exact ⟨_,t1,m1,n1,Uw h1 (by simp),h2⟩
   | exit i=>exact ⟨_,t1,m1,n1,Uw h1 (by simp),h2⟩
   | goto l=>exact ⟨_,t1,m1,n1,Uw h1 (by simp),h2⟩
   | panic _=>exact h2.elim
   | outgrown=>exact h2.elim
  ·rename_i c a b
   obtain ⟨v,h1,h2⟩:=Bi h
   split at h2
   ·obtain ⟨e,t1,m1,n1,h3,h4⟩:=ih a _ _ _ _ h2
    exact ⟨e,t1,m1,n1,rc_cond (b:=true) (h1 _ _) h3,h4⟩
   ·obtain ⟨e,t1,m1,n1,h3,h4⟩:=ih b _ _ _ _ h2
    exact ⟨e,t1,m1,n1,rc_cond (b:=false) (h1 _ _) h3,h4⟩
   ·exact h2.elim
  ·rename_i id b
   obtain ⟨e,t1,m1,n1,h1,h2⟩:=ih b _ _ _ _ h
   have h3:=rc_block (id:=id) h1
   cases e with
   | exit i=>
    simp only at h2
    split at h2
    ·rename_i hb
     have hb:=Nat.eq_of_beq_eq_true hb
     simp only [blkE,if_pos hb] at h3
     exact ⟨_,t1,m1,n1,h3,h2⟩
    ·rename_i hb
     have hb:¬i=id:=by intro e;rw [e,Nat.beq_refl] at hb;cases hb
     simp only [blkE,if_neg hb] at h3
     exact ⟨_,t1,m1,n1,h3,h2⟩
   | normal=>exact ⟨_,t1,m1,n1,h3,h2⟩
   | ret=>exact ⟨_,t1,m1,n1,h3,h2⟩
   | goto l=>exact ⟨_,t1,m1,n1,h3,h2⟩
   | panic _=>exact h2.elim
   | outgrown=>exact h2.elim
  ·rename_i b
   obtain ⟨e,t1,m1,n1,k,h1,h2⟩:=Xp (ih b) h
   exact ⟨e,t1,m1,n1,rc_loop h1,h2⟩
  ·rename_i b
   obtain ⟨e,t1,m1,n1,k,h1,h2⟩:=XK ih h
   exact ⟨e,t1,m1,n1,rc_scope h1,h2⟩
  ·exact ⟨_,t,m,n,rc_exit,h⟩
  ·exact ⟨_,t,m,n,rc_label,h⟩
  ·exact ⟨_,t,m,n,rc_goto,h⟩
  ·exact ⟨_,t,m,n,rc_ret,h⟩
  ·exact h.elim
end
end Go.Rn
end
section
namespace Go.Rn
open Go.RowKit
open Go.Vm (AX Dn Es Bl CU DK FB enters JQ)
set_option linter.unusedSectionVars false
variable [Cx]
def Fok (P : Program) (F : Tr Func) : Prop := ∀ f fn, F.get f = some fn → P.funcs[f]? = some fn ∧ (fn.name != "runtime.NumGoroutine") = true
section
variable {P:Program} {N base n:Nat} {w0 w w':World} {π π':Pi} {s s':St} {a:Act} {o:Oper} {ck:CK}
def ResV (P:Program)(s:St)(r:ResultVar)(v:V):Prop:=match r with
 | .tmp u=>s.t u=some v
 | .cell u T=>∃id off b cs sh,s.t u=some (.ptr id off)∧s.h id=some b∧b.cs=some cs∧Bl P T=some sh∧Ih sh cs off=some v
theorem resV_run {r:ResultVar}{v:V}(hr:Rel base N w0 π s a w)(h:ResV P s r v):∃u,(JQ a r).run P w=.ok u w∧Ai π v=some u:=by
 cases r with
 | tmp u=>
  obtain ⟨x,h1,h2⟩:=hr.slot u v h
  exact ⟨x,by simp [JQ,Array.getD_eq_getD_getElem?,h1],h2⟩
 | cell u T=>
  obtain ⟨id,off,b,cs,sh,h1,h2,h3,h4,h5⟩:=h
  obtain ⟨p,hp,hat⟩:=hr.at h2
  obtain ⟨x,k1,k2⟩:=hr.slot u _ h1
  rw [Ai,hp] at k2
  injection k2 with k2
  obtain ⟨us,q1,q2,q3⟩:=hat.cells h3
  obtain ⟨y,q4,q5⟩:=Td (P:=P) (π:=π) (w:=w) (T:=T) (b:=p.b) (o:=p.base) (off:=off) h4 q1 q2 q3 h5
  refine ⟨y,?_,q5⟩
  have e:a.tmps.getD u undef=.pointer (some ⟨p.b,p.base+off,none⟩):=by
   rw [Array.getD_eq_getD_getElem?,k1,←k2];rfl
  simp only [JQ,e,asAddr,Sem.run_bind,Sem.run_pure,Result.andThen_ok]
  exact q4
theorem resL_run (hr:Rel base N w0 π s a w):∀{l:List ResultVar} {vs:List V},(∀(i:Nat) (r:ResultVar) (v:V),l[i]? = some r→vs[i]? = some v→ResV P s r v)→l.length=vs.length→∃us,(l.mapM (JQ a)).run P w=.ok us w∧AL π vs=some us
 | [],[],_,_=>⟨[],by simp,by rw [AL]⟩
 | [],_::_,_,h=>by simp at h
 | _::_,[],_,h=>by simp at h
 | r::l,v::vs,h,hl=>by
  obtain ⟨u,h1,h2⟩:=resV_run hr (h 0 r v rfl rfl)
  obtain ⟨us,h3,h4⟩:=resL_run hr (l:=l) (vs:=vs) (fun i r v q1 q2=>h (i+1) r v (by simpa using q1) (by simpa using q2)) (by simpa using hl)
  refine ⟨u::us,?_,by rw [AL,h2,h4]⟩
  rw [List.mapM_cons]
  simp [Sem.run_bind,h1,h3]
theorem resB_spec {t:Tr V}{m:Tr Blk}{n:Nat}{r:ResultVar}{K:V→Prop}(h:resB P t m r K):∃v,ResV P (stT t m n) r v∧K v:=by
 unfold resB at h
 split at h
 ·split at h
  ·rename_i v hv;exact ⟨v,hv,h⟩
  ·exact h.elim
 ·split at h
  ·rename_i id off hv
   split at h
   ·rename_i b hb
    split at h
    ·rename_i cs hcs
     split at h
     ·rename_i ag k hsh
      obtain ⟨v,q1,q2⟩:=Hm h
      exact ⟨v,⟨id,off,b,cs,_,hv,hb,hcs,hsh,q1⟩,q2⟩
     ·exact h.elim
    ·exact h.elim
   ·exact h.elim
  ·exact h.elim
theorem Po {t:Tr V}{m:Tr Blk}{n:Nat}:∀{l:List ResultVar} {K:List V→Prop},resK P t m l K→∃vs,(∀(i:Nat) (r:ResultVar) (v:V),l[i]? = some r→vs[i]? = some v→ResV P (stT t m n) r v)∧l.length=vs.length∧K vs
 | [],K,h=>⟨[],by simp,rfl,h⟩
 | r::l,K,h=>by
  obtain ⟨v,h1,h2⟩:=resB_spec (n:=n) h
  obtain ⟨vs,h3,h4,h5⟩:=Po (l:=l) (K:=fun vs=>K (v::vs)) h2
  refine ⟨v::vs,fun i r' v' q1 q2=>?_,by simp [h4],h5⟩
  cases i with
  | zero=>simp at q1 q2;subst q1 q2;exact h1
  | succ i=>exact h3 i r' v' (by simpa using q1) (by simpa using q2)
def oneV (vs:List V):V:=match vs with
 | [v]=>v
 | vs=>.tup vs
theorem Xr {vs:List V}{K:V→Prop}(h:oneK vs K):K (oneV vs):=by
 cases vs with
 | nil=>exact h
 | cons v l=>cases l<;>exact h
theorem oneV_conc {vs:List V}{us:List Value}(h:AL π vs=some us):Ai π (oneV vs)=some (if h:us.toArray.size=1 then us.toArray[0] else .tuple us.toArray):=by
 have hl:=E5 h
 match vs,us,h,hl with
 | [],[],h,_=>simp [oneV,Ai,AL]
 | [v],[u],h,_=>
  obtain ⟨u',us',h1,h2,h3⟩:=LK h
  injection h3 with h3 h4;subst h3
  simpa [oneV] using h1
 | v::v'::vs,u::u'::us,h,_=>
  simp only [oneV,Ai,h,Option.map_some]
  simp
theorem PO:∀{l:List V} {k:Nat} {t:Tr V} {K:Tr V→Prop},OC l k t K→∃t',(∀u,t'.get u=if u<k then t.get u else match l[u-k]? with | some v=>some v | none=>t.get u)∧K t'
 | [],k,t,K,h=>⟨t,by simp,h⟩
 | v::l,k,t,K,h=>by
  obtain ⟨t1,h1,h2⟩:=Bh h
  obtain ⟨t2,h3,h4⟩:=PO (l:=l) h2
  refine ⟨t2,fun u=>?_,h4⟩
  rw [h3,h1]
  rcases Nat.lt_trichotomy u k with e | e | e
  ·rw [if_pos (show u<Nat.succ k by omega),if_neg (by omega),if_pos e]
  ·subst e;rw [if_pos (show u<Nat.succ u by omega),if_pos rfl,if_neg (by omega),Nat.sub_self];rfl
  ·rw [if_neg (show ¬u<Nat.succ k by omega),if_neg (show ¬u=k by omega),if_neg (show ¬u<k by omega),show u-k=(u-Nat.succ k)+1 by omega,List.getElem?_cons_succ]
theorem rcall_of {f:FuncId}{fn:Func}{c:Code}{vs rs:List V}{t t':Tr V}{m m':Tr Blk}{n n':Nat}{e:Exit}(hf:P.funcs[f]? = some fn)(hb:fn.body=some c)(hle:vs.length≤fn.ntmps)(ht:∀u,t.get u=match vs[u]? with | some v=>some v | none=>none)
 (hc:RC P fn.ntmps c (stT t m n) e (stT t' m' n')) (he:e=.normal∨e=.ret) (hrs:∀(i:Nat) (r:ResultVar) (v:V),fn.results.toList[i]? = some r→rs[i]? = some v→ResV P (stT t' m' n') r v) (hl:fn.results.toList.length=rs.length):Dt P f vs m.get n (oneV rs) m'.get n':=by
 intro base w0 π w us hm hus
 have hul:=E5 hus
 have hrel:Rel base fn.ntmps w0 π (stT t m n) { tmps:=us.toArray++Array.replicate (fn.ntmps-us.toArray.size) undef,defers:=[] } w:=by
  refine ⟨hm,by simp;omega,rfl,fun i v hi=>?_⟩
  have hi:t.get i=some v:=hi
  rw [ht] at hi
  split at hi
  ·rename_i v' hv
   injection hi with hi;subst hi
   obtain ⟨u,h1,h2⟩:=LV hus hv
   refine ⟨u,?_,h2⟩
   have hlt:=(List.getElem?_eq_some_iff.1 h1).1
   rw [Array.getElem?_append_left (by simpa using hlt)]
   simpa using h1
  ·cases hi
 refine calls_of_wp hf hb (hc base w0 π _ w hrel _ fun π' a' w' hle2 hr=>?_)
 obtain ⟨us',h1,h2⟩:=resL_run hr hrs hl
 have h3:=oneV_conc h2
 have hfun:results fn a'.tmps=(do let vs ←fn.results.mapM (JQ a');pure (if h:vs.size=1 then vs[0] else .tuple vs)):=by
  unfold results
  congr 1
 have hrun:(results fn a'.tmps).run P w'=.ok (if h:us'.toArray.size=1 then us'.toArray[0] else .tuple us'.toArray) w':=by
  rw [hfun,Array.mapM_eq_mapM_toList]
  simp [h1]
 rcases he with rfl | rfl
 ·exact ⟨hr.defs,_,hrun,π',_,rfl,hle2,hr.mem,h3⟩
 ·exact ⟨hr.defs,_,hrun,π',_,rfl,hle2,hr.mem,h3⟩
theorem callB_spec {F:Tr Func}(hF:Fok P F){dr:CK→Nat→Array Oper→XL}(hdr:∀ck,I5 P ck→DRok P (dr ck)){fuel:Nat}(hck:I5 P ck):I5 P (callB P F dr fuel ck):=by
 intro f vs m n K h
 unfold callB at h
 split at h
 ·rename_i fn hfn
  obtain ⟨hf,hname⟩:=hF f fn hfn
  split at h
  ·rename_i c hb
   split at h
   ·rename_i hle
    have hle:vs.length≤fn.ntmps:=by have:=Nat.le_of_ble_eq_true hle;rwa [Pm] at this
    obtain ⟨t,h1,h2⟩:=PO h
    obtain ⟨e,t',m',n',h3,h4⟩:=WA hck (hdr ck hck) c _ _ _ _ h2
    have hen:enters P f=true:=by
     unfold enters
     rw [hf]
     simp [hb]
     simpa using hname
    have ht:∀u,t.get u=match vs[u]? with | some v=>some v | none=>none:=fun u=>by
     rw [h1];simp only [Nat.not_lt_zero,if_false,Nat.sub_zero];rfl
    cases e with
    | normal=>
     obtain ⟨rs,q1,q2,q3⟩:=Po (n:=n') h4
     exact ⟨_,m',n',hen,rcall_of hf hb hle ht h3 (.inl rfl) q1 q2,Xr (K:=fun v=>K v m' n') q3⟩
    | ret=>
     obtain ⟨rs,q1,q2,q3⟩:=Po (n:=n') h4
     exact ⟨_,m',n',hen,rcall_of hf hb hle ht h3 (.inr rfl) q1 q2,Xr (K:=fun v=>K v m' n') q3⟩
    | _=>exact h4.elim
   ·exact h.elim
  ·exact h.elim
 ·exact h.elim
end
end Go.Rn
end
