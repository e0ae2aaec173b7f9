/- Part 7 of what the proof of ScriptNil stands on: HmI, HmZ, HmJ, HmK, HmL, HmM, HmN, HmO, HmQ, HmR, HmS, HmT, HmV. -/
import Derived.Laws.IdiomRangeMap
import Derived.Laws.IdiomStrings
import Derived.Maps.RangeRun
import Derived.ChangeMaps4
import Derived.LoopN
import Derived.Orders
import Derived.Test.YtdfbohaohjaloaaGreatDoorScriptNilM6
set_option linter.unusedVariables false
set_option linter.unusedSimpArgs false
set_option maxHeartbeats 1000000
section
namespace Go.Rn
open Go.RowKit
open Go.Vm (AX CV Dj)
set_option linter.unusedSectionVars false
variable [Cx]
section
variable {P:Program} {N base n:Nat} {w0 w w':World} {π π':Pi} {s s':St} {a:Act} {o:Oper}
theorem r_sliceN {T:TypeId}{x:Operand}{lo hi:Option Operand}{e:TypeId}{i:TypeInfo}(hop:o.op=.slice T x lo hi none)(hx:Am s x=some (.sc (.slice none 0 0)))(hT:P.underlying T=some (.slice e))(hi':P.info? e=some i)(hl:bndV s lo 0=some 0)(hh:bndV s hi 0=some 0){d:Nat}(hdst:o.dst=some d)(hd:d<N):Step P N o s (s.put (some d) (.sc (.slice none 0 0))):=
 CJ hdst hd fun base w0 π a w hr=>by
  have e1:=hr.getV hx rfl
  have hb:=run_boundsV (P:=P) hr (isS:=true) (len:=0) (cap:=0) hl hh (Nat.le_refl _) (Nat.le_refl _)
  exact ⟨.slice none 0 0,by simp [execOp,hop,Instr.sliceAt,run_underlying hT,Instr.slice,e1,hb,sizeOf,typeInfo,hi'],by rw [Ak,if_pos (by rfl)]⟩
theorem r_min {x y:Operand}{T T':TypeId}{v1 v2:V}{u1 u2 r:Value}(hop:o.op=.call { callee:=.builtin .min,args:=#[x,y],argTypes:=#[T,T'] })(hx:Am s x=some v1)(hy:Am s y=some v2)(h1:toV v1=some u1)(h2:toV v2=some u2)
 (hr:AX P (Builtin.min_ #[T,T'] o.type #[u1,u2])=some r) (ho:r.oneCell'=true) {d:Nat} (hdst:o.dst=some d) (hd:d<N):Step P N o s (s.put (some d) (.sc r)):=
 CJ hdst hd fun base w0 π a w hrel=>⟨r,by
  have e1:=hrel.getV hx h1
  have e2:=hrel.getV hy h2
  have h3:=CV hr w
  simp [execOp,hop,resolve,invoke,builtin,e1,e2,h3],by rw [Ak,if_pos ho]⟩
theorem r_max {x y:Operand}{T T':TypeId}{v1 v2:V}{u1 u2 r:Value}(hop:o.op=.call { callee:=.builtin .max,args:=#[x,y],argTypes:=#[T,T'] })(hx:Am s x=some v1)(hy:Am s y=some v2)(h1:toV v1=some u1)(h2:toV v2=some u2)
 (hr:AX P (Builtin.max_ #[T,T'] o.type #[u1,u2])=some r) (ho:r.oneCell'=true) {d:Nat} (hdst:o.dst=some d) (hd:d<N):Step P N o s (s.put (some d) (.sc r)):=
 CJ hdst hd fun base w0 π a w hrel=>⟨r,by
  have e1:=hrel.getV hx h1
  have e2:=hrel.getV hy h2
  have h3:=CV hr w
  simp [execOp,hop,resolve,invoke,builtin,e1,e2,h3],by rw [Ak,if_pos ho]⟩
theorem r_range {MT KT ET:TypeId}{x:Operand}{id:Nat}{es:List (V×V)}(hop:o.op=.range MT x)(hx:Am s x=some (.mp id))(hb:s.h id=some (.map es))(hT:P.underlying MT=some (.map KT ET))(h1:es.length≤1){d:Nat}(hdst:o.dst=some d)(hd:d<N) :
 Step P N o s { (s.put (some d) (.it s.n)) with h:=hset s.h s.n (some (.iter (some id) es.length 0)),n:=s.n+1 }:=
 step_mem hdst hd fun base w0 π a w hr=>by
  obtain ⟨p,hp,hat⟩:=hr.at hb
  obtain ⟨arr,h2,h3⟩:=hat
  have h4:=hr.get hx
  rw [Ak,hp] at h4
  injection h4 with h4
  have hle:=Pi.le_put (p:=⟨w.heap.size,0,0,1⟩) (hr.mem.fresh s.n (Nat.le_refl _))
  refine ⟨.pointer (some ⟨w.heap.size,0,none⟩),w.alloc (.mapIter (some p.b) es.length #[] es.length),π.put s.n ⟨w.heap.size,0,0,1⟩,by simp [execOp,hop,←h4,run_range_map w MT KT ET p.b arr es.length hT h2],hle,hr.mem.new rfl ?_ rfl,by rw [Ak,Pi.DZ]⟩
  exact ⟨p,hle.1 id p hp,Nat.zero_le _,h1,heap_alloc_new w _⟩
theorem r_range0 {MT KT ET:TypeId}{x:Operand}(hop:o.op=.range MT x)(hx:Am s x=some (.sc (.map none)))(hT:P.underlying MT=some (.map KT ET)){d:Nat}(hdst:o.dst=some d)(hd:d<N) :
 Step P N o s { (s.put (some d) (.it s.n)) with h:=hset s.h s.n (some (.iter none 0 0)),n:=s.n+1 }:=
 step_mem hdst hd fun base w0 π a w hr=>by
  have h4:=hr.getV hx rfl
  have hle:=Pi.le_put (p:=⟨w.heap.size,0,0,1⟩) (hr.mem.fresh s.n (Nat.le_refl _))
  exact ⟨.pointer (some ⟨w.heap.size,0,none⟩),w.alloc (.mapIter none 0 #[] 0),π.put s.n ⟨w.heap.size,0,0,1⟩,by simp [execOp,hop,h4,run_range_nilMap w MT KT ET hT],hle,hr.mem.new rfl (heap_alloc_new w _) rfl,by rw [Ak,Pi.DZ]⟩
theorem left_done {π:Pi}{es:List (V×V)}{arr:Array MapEntry}(hm:mapIs π es arr){k:Nat}(hk:k=es.length)(h1:es.length≤1):(leftOf arr (if k=0 then #[] else #[0])).size=0:=by
 subst hk
 have hs:=hm.1
 by_cases h0:es.length=0
 ·rw [if_pos h0]
  have:arr = #[]:=Array.eq_empty_of_size_eq_zero (by omega)
  subst this;rfl
 ·rw [if_neg h0]
  unfold leftOf
  rw [Array.size_eq_zero_iff,Array.filter_eq_empty_iff]
  intro e he
  obtain ⟨i,hi,rfl⟩:=Array.mem_iff_getElem.1 he
  have:=(hm.2 i arr[i] (by simp [hi])).1
  have:arr[i].born=0:=by omega
  simp [this]
theorem map_old {π:Pi}{es:List (V×V)}{arr:Array MapEntry}(hm:mapIs π es arr):∀x∈arr.toList,x.born<es.length:=by
 intro e he
 obtain ⟨i,hi,rfl⟩:=List.mem_iff_getElem.1 he
 have:=(hm.2 i _ (List.getElem?_eq_getElem hi)).1
 rw [this];have h1:=hm.1;simp at hi;omega
theorem r_next_done {it id i n k:Nat}{es:List (V×V)}(hop:o.op=.next (.tmp it) false)(hx:s.t it=some (.it i))(hb:s.h i=some (.iter (some id) n k))(hm:s.h id=some (.map es))(hn:es.length=n)(hk:k=n){d:Nat}(hdst:o.dst=some d)(hd:d<N):Step P N o s (s.put (some d) (.tup [.sc (.bool false)])):=
 CJ hdst hd fun base w0 π a w hr=>by
  obtain ⟨p,hp,hat⟩:=hr.at hb
  obtain ⟨q,hq,h1,h2,h3⟩:=hat
  obtain ⟨q',hq',hat2⟩:=hr.at hm
  rw [hq] at hq';injection hq' with hq';subst hq'
  obtain ⟨arr,h4,h5⟩:=hat2
  have h6:=hr.get (x:=.tmp it) hx
  rw [Ak,hp] at h6
  injection h6 with h6
  subst hn hk
  have hl:=left_done h5 rfl h2
  have e1:a.eval (.tmp it)=.pointer (some ⟨p.b,0,none⟩):=h6.symm
  rcases run_next_at (P:=P) w o.type p.b q.b es.length es.length _ arr es.length h3 h4 (map_old h5) (Nat.le_refl _) with ⟨_,hrun⟩ | ⟨e,he,_⟩
  ·exact ⟨.tuple #[.bool false],by simp only [execOp,hop,e1,Sem.run_bind,Sem.run_pure,Result.andThen_ok,hrun],by rw [Ak,AB,Ak,AB];rfl⟩
  ·have:leftOf arr (if es.length=0 then #[] else #[0]) = #[]:=Array.eq_empty_of_size_eq_zero hl
   rw [this] at he;simp at he
theorem r_next0 {it i:Nat}(hop:o.op=.next (.tmp it) false)(hx:s.t it=some (.it i))(hb:s.h i=some (.iter none 0 0)){d:Nat}(hdst:o.dst=some d)(hd:d<N):Step P N o s (s.put (some d) (.tup [.sc (.bool false)])):=
 CJ hdst hd fun base w0 π a w hr=>by
  obtain ⟨p,hp,hat⟩:=hr.at hb
  have h3:w.heap[p.b]? = some (.mapIter none 0 #[] 0):=hat
  have h6:=hr.get (x:=.tmp it) hx
  rw [Ak,hp] at h6
  injection h6 with h6
  have e1:a.eval (.tmp it)=.pointer (some ⟨p.b,0,none⟩):=h6.symm
  refine ⟨.tuple #[.bool false],?_,by rw [Ak,AB,Ak,AB];rfl⟩
  simp only [execOp,hop,e1,Instr.next,getObj,Sem.run_bind,Sem.run,h3,Result.andThen]
  rfl
theorem r_lookup0 {MT KT ET:TypeId}{x y:Operand}{ok:Bool}{vx k z:V}{u zv:Value}{i:TypeInfo}{kd:TypeDesc}(hop:o.op=.lookup MT x y ok)(hx:Am s x=some vx)(hm:vx=.sc (.map none)∨∃id,vx=.mp id∧s.h id=some (.map []))(hy:Am s y=some k)(hu:toV k=some u)(hT:P.underlying MT=some (.map KT ET))(hK:P.underlying KT=some kd)(hc:AX P (Instr.checkKey true 10000 KT u)=some ())(hi:P.info? ET=some i)(hz:i.zero=some zv)(hzv:ofV zv=some z)
 {d:Nat} (hdst:o.dst=some d) (hd:d<N):Step P N o s (s.put (some d) (if ok then .tup [z,.sc (.bool false)] else z)):=
 CJ hdst hd fun base w0 π a w hr=>by
  have h2:=hr.get (x:=y) hy
  have hk:a.eval y=u:=toV_conc hu h2
  have h1:=hr.get (x:=x) hx
  have hcz:Ak π z=some zv:=ofV_conc hzv
  have hck:=CV hc w
  have hzr:(zeroValue ET).run P w=.ok zv w:=by simp [zeroValue,typeInfo,hi,hz]
  have key:(execOp a.eval o).run P w=.ok (.value (if ok then .tuple #[zv,.bool false] else zv)) w:=by
   rcases hm with rfl | ⟨id,rfl,hb⟩
   ·rw [Ak] at h1
    have h1:some (Value.map none)=some (a.eval x):=h1
    injection h1 with h1
    simp [execOp,hop,Instr.lookup,←h1,run_underlying hT,run_underlying hK,hk,hck,Instr.findKey,Instr.findNow,hzr,Result.andThen]
   ·obtain ⟨p,hp,hat⟩:=hr.at hb
    obtain ⟨arr,h3,h4⟩:=hat
    have harr:arr = #[]:=Array.eq_empty_of_size_eq_zero (by simpa using h4.1)
    subst harr
    rw [Ak,hp] at h1
    injection h1 with h1
    have hg:(getObj p.b).run P w=.ok (.map #[] 0) w:=by simp [getObj,Sem.run,h3]
    simp [execOp,hop,Instr.lookup,←h1,run_underlying hT,run_underlying hK,hg,hk,hck,Instr.findKey,Instr.findNow,hzr,Result.andThen]
  refine ⟨_,key,?_⟩
  cases ok with
  | true=>simp only [if_true];rw [Ak,AB,hcz,AB,Ak,if_pos (show (Value.bool false).oneCell'=true from rfl),AB];rfl
  | false=>exact hcz
theorem r_tostr {T T' e:TypeId}{x:Operand}{id off n:Nat}{c:Option Nat}{b:Blk}{cs:List V}{l:List UInt8}(hop:o.op=.convert T T' x)(hx:Am s x=some (.sl id off 1 n c))(hT:P.underlying T=some (.slice e))(he:P.underlying e=some (.int .u8))(hT':P.underlying T'=some .string)(hb:s.h id=some b)(hcs:b.cs=some cs)
 (hl:(cs.drop off).take n=l.map fun b=>V.sc (.int .u8 (b.toNat:Int))) (hn:l.length=n) {d:Nat} (hdst:o.dst=some d) (hd:d<N):Step P N o s (s.put (some d) (.sc (.string ⟨⟨l⟩⟩))):=
 CJ hdst hd fun base w0 π a w hr=>by
  obtain ⟨p,hp,q1,q2,q3,q4,q5⟩:=sl_conc (hr.get hx)
  obtain ⟨p',hp',hat⟩:=hr.at hb
  rw [hp] at hp';injection hp' with hp';subst hp'
  obtain ⟨us,f1,f2,f3⟩:=hat.cells hcs
  have g:=concL_take n (concL_drop off f1)
  rw [hl] at g
  have hk:∀l:List UInt8,AB π (l.map fun b=>V.sc (.int .u8 (b.toNat:Int)))=some (l.map fun b=>Value.int .u8 (b.toNat:Int)):=by
   intro l
   induction l with
   | nil=>rw [List.map_nil,AB];rfl
   | cons b l ih=>rw [List.map_cons,AB,ih,Ak,if_pos (by rfl)];rfl
  rw [hk] at g
  injection g with g
  subst hn
  have hrun:=run_convert_bytes_back (P:=P) w T T' e ⟨p.b,p.base+off,none⟩ (capOf p off c) l hT he hT' (fun j hj=>by
   have h1:((us.drop off).take l.length)[j]? = some (.int .u8 (l[j].toNat:Int)):=by
    rw [←g,List.getElem?_map,List.getElem?_eq_getElem hj];rfl
   rw [List.getElem?_take,if_pos hj,List.getElem?_drop] at h1
   have h2:=f3 _ _ h1
   rw [add_spot,Nat.add_assoc]
   exact h2)
  exact ⟨.string ⟨⟨l⟩⟩,by simp [execOp,hop,q5,hrun],by rw [Ak,if_pos (by rfl)]⟩
theorem r_tostr0 {T T' e:TypeId}{x:Operand}(hop:o.op=.convert T T' x)(hx:Am s x=some (.sc (.slice none 0 0)))(hT:P.underlying T=some (.slice e))(he:P.underlying e=some (.int .u8))(hT':P.underlying T'=some .string){d:Nat}(hdst:o.dst=some d)(hd:d<N):Step P N o s (s.put (some d) (.sc (.string ⟨⟨[]⟩⟩))):=
 CJ hdst hd fun base w0 π a w hr=>by
  have e1:=hr.getV hx rfl
  have hrun:=run_convert_bytes_string (P:=P) w T T' e none 0 0 hT he hT'
  exact ⟨.string ⟨⟨[]⟩⟩,by simp [execOp,hop,e1,hrun,Conv.bytesToString];rfl,by rw [Ak,if_pos (by rfl)]⟩
end
end Go.Rn
end
section
namespace Go.Rn
open Go.RowKit
open Go.ChangeMaps (setBlock)
open Go.Vm (AX CV)
set_option linter.unusedSectionVars false
variable [Cx]
def findV (P:Program)(KT:TypeId)(k:Value):List (V×V)→Nat→Option (Option (Nat×V))
 | [],_=>some none
 | (a,v)::es,i=>match toV a with
  | none=>none
  | some u=>match AX P (Op.equal KT k u) with
   | some true=>some (some (i,v))
   | some false=>findV P KT k es (i+1)
   | none=>none
theorem findV_run {P:Program}{π:Pi}{KT:TypeId}{k:Value}{w:World}:∀{es:List (V×V)} {ents:List MapEntry} {i:Nat} {r:Option (Nat×V)},ents.length=es.length →
 (∀(j:Nat) (e:MapEntry),ents[j]? = some e→∃kv:V×V,es[j]? = some kv∧Ak π kv.1=some e.key∧Ak π kv.2=some e.val)→findV P KT k es i=some r →
 (r=none∧(Instr.findAsking KT k ents i).run P w=.ok none w)∨∃j v e,r=some (i+j,v)∧ents[j]? = some e∧Ak π v=some e.val∧(Instr.findAsking KT k ents i).run P w=.ok (some (i+j,e.val)) w
 | [],[],i,r,_,_,h=>by
  rw [findV] at h;injection h with h;subst h
  exact .inl ⟨rfl,rfl⟩
 | [],_::_,_,_,h,_,_=>by simp at h
 | _::_,[],_,_,h,_,_=>by simp at h
 | (a,v)::es,e::ents,i,r,hl,hm,h=>by
  obtain ⟨kv,h1,h2,h3⟩:=hm 0 e rfl
  obtain rfl:(a,v)=kv:=by simpa using h1
  rw [findV] at h
  split at h
  ·cases h
  ·rename_i u hu
   have hk:=toV_conc hu h2
   subst hk
   unfold Instr.findAsking
   split at h
   ·rename_i hq
    injection h with h;subst h
    refine .inr ⟨0,v,e,rfl,rfl,h3,?_⟩
    simp [CV hq w,Result.andThen]
   ·rename_i hq
    rcases findV_run (w:=w) (by simpa using hl) (fun j e' he=>hm (j+1) e' he) h with ⟨h4,h5⟩ | ⟨j,v',e',h4,h5,h6,h7⟩
    ·exact .inl ⟨h4,by simp [CV hq w,Result.andThen,h5]⟩
    ·refine .inr ⟨j+1,v',e',by rw [h4];congr 2;omega,by simpa using h5,h6,?_⟩
     rw [show i+(j+1)=i+1+j from by omega]
     simp [CV hq w,Result.andThen,h7]
   ·cases h
theorem findKey_ask {P:Program}{KT:TypeId}{fs:Array Field}{k:Value}{ents:List MapEntry}{w:World}(hK:P.underlying KT=some (.struct fs)):(Instr.findKey KT k ents).run P w=(Instr.findAsking KT k ents 0).run P w:=by
 unfold Instr.findKey
 rw [Sem.run_bind,run_underlying hK w]
 simp only [Result.andThen]
 cases ents with
 | nil=>rfl
 | cons e l=>simp [Instr.findNow,Instr.sameNow]
def setE:List (V×V)→Nat→V→List (V×V)
 | [],_,_=>[]
 | (a,_)::es,0,v=>(a,v)::es
 | e::es,j+1,v=>e::setE es j v
theorem setE_len:∀(es:List (V×V)) (j:Nat) (v:V),(setE es j v).length=es.length
 | [],_,_=>rfl
 | (_,_)::_,0,_=>rfl
 | _::es,j+1,v=>by rw [setE,List.length_cons,setE_len es j v,List.length_cons]
theorem setE_at:∀(es:List (V×V)) (j i:Nat) (v:V),(setE es j v)[i]? = if i=j then (es[i]?).map fun e=>(e.1,v) else es[i]?
 | [],j,i,v=>by simp [setE]
 | (a,b)::es,0,i,v=>by cases i<;>simp [setE]
 | e::es,j+1,i,v=>by
  cases i with
  | zero=>simp [setE]
  | succ i=>
   rw [setE,List.getElem?_cons_succ,setE_at es j i v]
   simp
section
variable {P:Program} {N:Nat} {o:Oper} {s:St}
theorem map_world {base n:Nat}{w0 w:World}{π:Pi}{h:Hp}(hm:Mem base w0 π h n w){id:Nat}{es es':List (V×V)}{p:Pl}{arr:Array MapEntry}(hb:h id=some (.map es))(hp:π.pl id=some p)(hw:w.heap[p.b]? = some (.map arr es.length)){arr':Array MapEntry}(h':mapIs π es' arr') :
 Mem base w0 π (hset h id (some (.map es'))) n (setBlock w p.b (.map arr' es'.length)):=by
 obtain ⟨p',hp',_,hbase,_⟩:=hm.place id _ hb
 rw [hp] at hp';injection hp' with hp';subst hp'
 have hoth:∀k,k≠p.b→(setBlock w p.b (.map arr' es'.length)).heap[k]? = w.heap[k]? := fun k hk=>by simp [setBlock,Array.getElem?_setIfInBounds,Ne.symm hk]
 refine hm.update hb rfl hp hoth (by simp [setBlock]) ⟨rfl,rfl,rfl,by simp [setBlock],fun k hk=>hoth k (by have:=hbase rfl;omega)⟩ ⟨arr',?_,h'⟩ rfl
 have hlt:=(Array.getElem?_eq_some_iff.1 hw).1
 simp [setBlock,Array.getElem?_setIfInBounds,hlt]
theorem r_lookupF {MT KT ET:TypeId}{x y:Operand}{ok:Bool}{id:Nat}{e0:V×V}{es:List (V×V)}{k v:V}{u:Value}{j:Nat}{fs:Array Field}(hop:o.op=.lookup MT x y ok)(hx:Am s x=some (.mp id))(hb:s.h id=some (.map (e0::es)))(hy:Am s y=some k)(hu:toV k=some u)
 (hT:P.underlying MT=some (.map KT ET)) (hK:P.underlying KT=some (.struct fs)) (hc:AX P (Instr.checkKey false 10000 KT u)=some ()) (hf:findV P KT u (e0::es) 0=some (some (j,v)))
 {d:Nat} (hdst:o.dst=some d) (hd:d<N):Step P N o s (s.put (some d) (if ok then .tup [v,.sc (.bool true)] else v)):=
 CJ hdst hd fun base w0 π a w hr=>by
  have hk:a.eval y=u:=toV_conc hu (hr.get (x:=y) hy)
  have h1:=hr.get (x:=x) hx
  obtain ⟨p,hp,hat⟩:=hr.at hb
  obtain ⟨arr,h3,h4⟩:=hat
  rw [Ak,hp] at h1
  injection h1 with h1
  have hg:(getObj p.b).run P w=.ok (.map arr (e0::es).length) w:=by simp [getObj,Sem.run,h3]
  have hne:arr.isEmpty=false:=by
   have:=h4.1
   simp only [List.length_cons] at this
   rw [Array.isEmpty_eq_false_iff]
   intro e;rw [e] at this;simp at this
  have hck:=CV hc w
  rcases findV_run (w:=w) (ents:=arr.toList) (by simpa using h4.1) (fun i e he=>(h4.2 i e he).2) hf with ⟨h5,_⟩ | ⟨j',v',e,h5,h6,h7,h8⟩
  ·cases h5
  ·obtain ⟨rfl,rfl⟩:j=0+j'∧v=v':=by simpa using h5
   refine ⟨if ok then .tuple #[e.val,.bool true] else e.val,?_,?_⟩
   ·simp [execOp,hop,Instr.lookup,←h1,run_underlying hT,hg,hk,hne,hck,findKey_ask hK,h8,Result.andThen]
   ·cases ok with
    | true=>simp only [if_true];rw [Ak,AB,h7,AB,Ak,if_pos (show (Value.bool true).oneCell'=true from rfl),AB];rfl
    | false=>exact h7
theorem r_lookupM {MT KT ET:TypeId}{x y:Operand}{ok:Bool}{id:Nat}{e0:V×V}{es:List (V×V)}{k z:V}{u zv:Value}{i:TypeInfo}{fs:Array Field}(hop:o.op=.lookup MT x y ok)(hx:Am s x=some (.mp id))(hb:s.h id=some (.map (e0::es)))(hy:Am s y=some k)(hu:toV k=some u)
 (hT:P.underlying MT=some (.map KT ET)) (hK:P.underlying KT=some (.struct fs)) (hc:AX P (Instr.checkKey false 10000 KT u)=some ()) (hf:findV P KT u (e0::es) 0=some none) (hi:P.info? ET=some i) (hz:i.zero=some zv) (hzv:ofV zv=some z)
 {d:Nat} (hdst:o.dst=some d) (hd:d<N):Step P N o s (s.put (some d) (if ok then .tup [z,.sc (.bool false)] else z)):=
 CJ hdst hd fun base w0 π a w hr=>by
  have hk:a.eval y=u:=toV_conc hu (hr.get (x:=y) hy)
  have h1:=hr.get (x:=x) hx
  obtain ⟨p,hp,hat⟩:=hr.at hb
  obtain ⟨arr,h3,h4⟩:=hat
  rw [Ak,hp] at h1
  injection h1 with h1
  have hg:(getObj p.b).run P w=.ok (.map arr (e0::es).length) w:=by simp [getObj,Sem.run,h3]
  have hne:arr.isEmpty=false:=by
   have:=h4.1
   simp only [List.length_cons] at this
   rw [Array.isEmpty_eq_false_iff]
   intro e;rw [e] at this;simp at this
  have hck:=CV hc w
  have hcz:Ak π z=some zv:=ofV_conc hzv
  have hzr:(zeroValue ET).run P w=.ok zv w:=by simp [zeroValue,typeInfo,hi,hz]
  rcases findV_run (w:=w) (ents:=arr.toList) (by simpa using h4.1) (fun i e he=>(h4.2 i e he).2) hf with ⟨_,h8⟩ | ⟨j',v',e,h5,_⟩
  ·refine ⟨if ok then .tuple #[zv,.bool false] else zv,?_,?_⟩
   ·simp [execOp,hop,Instr.lookup,←h1,run_underlying hT,hg,hk,hne,hck,findKey_ask hK,h8,hzr,Result.andThen]
   ·cases ok with
    | true=>simp only [if_true];rw [Ak,AB,hcz,AB,Ak,if_pos (show (Value.bool false).oneCell'=true from rfl),AB];rfl
    | false=>exact hcz
  ·cases h5
theorem r_entry {MT KT ET:TypeId}{x y:Operand}{id:Nat}{es:List (V×V)}{k z:V}{u zv:Value}{i:TypeInfo}{fs:Array Field}(hop:o.op=.mapEntry MT x y)(hx:Am s x=some (.mp id))(hb:s.h id=some (.map es))(hy:Am s y=some k)(hu:toV k=some u)
 (hT:P.underlying MT=some (.map KT ET)) (hK:P.underlying KT=some (.struct fs)) (hc:AX P (Instr.checkKey false 10000 KT u)=some ()) (hf:findV P KT u es 0=some none) (hi:P.info? ET=some i) (hz:i.zero=some zv) (hzv:ofV zv=some z)
 {d:Nat} (hdst:o.dst=some d) (hd:d<N):Step P N o s { (s.put (some d) (.tup [z,.sc (.int .i64 (es.length:Int))])) with h:=hset s.h id (some (.map (es ++ [(k,z)]))),n:=s.n }:=
 step_mem hdst hd fun base w0 π a w hr=>by
  have hk:a.eval y=u:=toV_conc hu (hr.get (x:=y) hy)
  have hky:=hr.get (x:=y) hy
  have h1:=hr.get (x:=x) hx
  obtain ⟨p,hp,hat⟩:=hr.at hb
  obtain ⟨arr,h3,h4⟩:=hat
  rw [Ak,hp] at h1
  injection h1 with h1
  have hg:(getObj p.b).run P w=.ok (.map arr es.length) w:=by simp [getObj,Sem.run,h3]
  have hset:∀ob,(setObj p.b ob).run P w=.ok () (setBlock w p.b ob):=fun ob=>by simp [setObj,Sem.run,h3,setBlock]
  have hck:=CV hc w
  have hcz:Ak π z=some zv:=ofV_conc hzv
  have hzr:(zeroValue ET).run P w=.ok zv w:=by simp [zeroValue,typeInfo,hi,hz]
  rcases findV_run (w:=w) (ents:=arr.toList) (by simpa using h4.1) (fun i e he=>(h4.2 i e he).2) hf with ⟨_,h8⟩ | ⟨j',v',e,h5,_⟩
  ·have hm:=map_world hr.mem hb hp h3 (es':=es ++ [(k,z)]) (arr':=arr.push { key:=u,val:=zv,born:=es.length }) ⟨by simp [h4.1],fun j e he=>by
    rw [Array.toList_push,List.getElem?_append] at he
    have hl:arr.toList.length=es.length:=by simpa using h4.1
    split at he
    ·rename_i hj
     obtain ⟨q1,kv,q2,q3⟩:=h4.2 j e he
     exact ⟨q1,kv,by rw [List.getElem?_append_left (by omega)];exact q2,q3⟩
    ·rename_i hj
     have hj2:j-arr.toList.length=0:=by
      cases hq:j-arr.toList.length with
      | zero=>rfl
      | succ m=>rw [hq] at he;simp at he
     rw [hj2] at he
     injection he with he
     subst he
     have hj3:j=es.length:=by omega
     subst hj3
     exact ⟨rfl,(k,z),by simp,by rw [←hk];exact hky,hcz⟩⟩
   refine ⟨.tuple #[zv,.int .i64 (es.length:Int)],_,π,?_,π.le_refl,hm,?_⟩
   ·simp [execOp,hop,Instr.mapEntry,←h1,run_underlying hT,hg,hk,hck,findKey_ask hK,h8,hzr,hset,goInt,Result.andThen]
   ·rw [Ak,AB,hcz,AB,Ak,if_pos (show (Value.int .i64 (es.length:Int)).oneCell'=true from rfl),AB];rfl
  ·cases h5
theorem r_entrySto {MT:TypeId}{x y z:Operand}{id:Nat}{es:List (V×V)}{kd:IntKind}{j:Nat}{v:V}(hop:o.op=.entryStore MT x y z)(hx:Am s x=some (.mp id))(hb:s.h id=some (.map es))(hy:Am s y=some (.sc (.int kd (j:Int))))(hj:j<es.length)(hz:Am s z=some v)(hdst:o.dst=none) :
 Step P N o s { s with h:=hset s.h id (some (.map (setE es j v))) }:=by
 intro base w0 π a w hr K Q hK
 have h1:=hr.get (x:=x) hx
 have hyv:a.eval y=.int kd (j:Int):=hr.getV hy rfl
 have hzv:=hr.get (x:=z) hz
 obtain ⟨p,hp,hat⟩:=hr.at hb
 obtain ⟨arr,h3,h4⟩:=hat
 rw [Ak,hp] at h1
 injection h1 with h1
 have hg:(getObj p.b).run P w=.ok (.map arr es.length) w:=by simp [getObj,Sem.run,h3]
 have hset:∀ob,(setObj p.b ob).run P w=.ok () (setBlock w p.b ob):=fun ob=>by simp [setObj,Sem.run,h3,setBlock]
 have hfi:arr.findIdx? (fun e=>(e.born:Int)==(j:Int))=some j:=by
  rw [Array.findIdx?_eq_some_iff_getElem]
  have hjl:j<arr.size:=by rw [h4.1];exact hj
  refine ⟨hjl,?_,fun i hi=>?_⟩
  ·obtain ⟨q1,_⟩:=h4.2 j arr[j] (by simp [hjl])
   simp [q1]
  ·obtain ⟨q1,_⟩:=h4.2 i (arr[i]'(by omega)) (by simp [show i<arr.size by omega])
   simp only [q1,beq_iff_eq]
   omega
 have hm:=map_world hr.mem hb hp h3 (es':=setE es j v) (arr':=arr.modify j fun e=>{ e with val:=a.eval z }) ⟨by simp [setE_len,h4.1],fun i e he=>by
  rw [Array.toList_modify,List.getElem?_modify] at he
  rw [setE_at]
  cases hq:arr.toList[i]? with
  | none=>rw [hq] at he;simp at he
  | some e'=>
   rw [hq] at he
   obtain ⟨q1,kv,q2,q3,q4⟩:=h4.2 i e' hq
   simp only [Option.map_eq_map,Option.map_some,Option.some.injEq] at he
   by_cases e1:i=j
   ·subst e1
    simp only [if_true] at he ⊢
    subst he
    exact ⟨q1,(kv.1,v),by rw [q2];rfl,q3,hzv⟩
   ·have e2:¬j=i:=fun e=>e1 e.symm
    simp only [if_neg e2] at he
    simp only [if_neg e1]
    have he:e'=e:=he
    subst he
    exact ⟨q1,kv,q2,q3,q4⟩⟩
 have hrun:(execOp a.eval o).run P w=.ok .skip (setBlock w p.b (.map (arr.modify j fun e=>{ e with val:=a.eval z }) (setE es j v).length)):=by
  simp [execOp,hop,Instr.entryStore,←h1,hg,hyv,asInt,asIntOf,hfi,hset,setE_len,Result.andThen]
 unfold Oper.wp
 rw [hrun,Oper.upon_skip,hdst]
 exact hK π _ _ π.le_refl ⟨hm,by simpa [Act.put] using hr.tsz,by simpa [Act.put] using hr.defs,fun i v hi=>by simpa [Act.put] using hr.slot i v hi⟩
end
end Go.Rn
end
section
namespace Go.Rn
open Go.RowKit
open Go.Vm (AX CV DV Bo Cf Dj Ef)
set_option linter.unusedSectionVars false
variable [Cx]
def kindOk (td:TypeDesc)(u:V):Prop:=match td,u with
 | .pointer _,.ptr _ _=>True
 | .map _ _,.mp _=>True
 | .slice _,.sl _ _ _ _ _=>True
 | .func _ _ _,.fn _ _=>True
 | _,_=>False
def eqlK (op:BinOp)(K:V→Prop):Prop:=match op with
 | .eql=>K (.sc (.bool false))
 | .neq=>K (.sc (.bool true))
 | _=>False
def memFree (o:Oper):Bool:=match o.op with
 | .load _ (.global _)=>true
 | .load _ _=>false
 | .next _ _=>false
 | .lookup _ _ _ _=>false
 | _=>true
def FVf (P:Program)(o:Oper)(t:Tr V)(v:V):Prop:=∀(N:Nat) (s:St) (d:Nat),(∀x v,x∈o.op.operands→Am (stT t .leaf 0) x=some v→Am s x=some v)→o.dst=some d→d<N→Step P N o s (s.put (some d) v)
def XF (P:Program)(o:Oper)(t:Tr V)(h:Hp)(v:V):Prop:=FV P o t h v∧(memFree o=true→FVf P o t v)
theorem Dc {P:Program}{o:Oper}{t:Tr V}{h:Hp}{v:V}(hf:FVf P o t v):XF P o t h v:=⟨fun N s d ha _ hdst hd=>hf N s d ha hdst hd,fun _=>hf⟩
theorem xf_mem {P:Program}{o:Oper}{t:Tr V}{h:Hp}{v:V}(hf:FV P o t h v)(hm:memFree o=false):XF P o t h v:=⟨hf,fun h=>by rw [hm] at h;cases h⟩
def nilK (P:Program)(op:BinOp)(T:TypeId)(u v:V)(K:V→Prop):Prop:=match v with
 | .sc z=>match notNil u z with
  | true=>match P.underlying T with
   | some td=>match td,u with
    | .pointer _,.ptr _ _=>eqlK op K
    | .map _ _,.mp _=>eqlK op K
    | .slice _,.sl _ _ _ _ _=>eqlK op K
    | .func _ _ _,.fn _ _=>eqlK op K
    | _,_=>False
   | none=>False
  | false=>False
 | _=>False
def twoK (P:Program)(op:BinOp)(T:TypeId)(x y:Operand)(u v:V)(K:V→Prop):Prop:=toK u fun a=>toK v fun b=>binK P op T x y a b fun r=>K (.sc r)
def bndK (t:Tr V)(x:Option Operand)(dflt:Nat)(K:Nat→Prop):Prop:=match x with
 | none=>K dflt
 | some y=>ovK t y fun v=>match v with
  | .sc (.int _ (.ofNat i))=>K i
  | _=>False
def ltB (a b:Nat):Bool:=Nat.ble (Nat.succ a) b
theorem ltB_spec {a b:Nat}(h:ltB a b=true):a<b:=Nat.le_of_ble_eq_true h
def atEnd (l h:Nat)(c:Option Nat):Bool:=match c with
 | some k=>match Nat.beq l k with
  | true=>Nat.beq h k
  | false=>false
 | none=>false
theorem atEnd_spec {l h:Nat}{c:Option Nat}(hk:atEnd l h c=true):c=some l∧h=l:=by
 unfold atEnd at hk
 split at hk
 ·split at hk
  ·rename_i k h1
   have h1:=Nat.eq_of_beq_eq_true h1
   have h2:=Nat.eq_of_beq_eq_true hk
   exact ⟨by rw [h1],by rw [h1,h2]⟩
  ·cases hk
 ·cases hk
def roomK (l h n:Nat)(c:Option Nat)(K:Option Nat→Prop):Prop:=match Nat.ble l h with
 | true=>match c with
  | none=>match Nat.ble h n with
   | true=>match Nat.beq l 0 with
    | true=>K none
    | false=>match ltB l n with
     | true=>K none
     | false=>False
   | false=>False
  | some k=>match Nat.ble h k with
   | true=>match ltB l k with
    | true=>natK (Nat.sub k l) fun k=>K (some k)
    | false=>match Nat.beq l 0 with
     | true=>natK k fun k=>K (some k)
     | false=>False
   | false=>False
 | false=>False
theorem roomK_spec {l h n:Nat}{c:Option Nat}{K:Option Nat→Prop}(hk:roomK l h n c K):l≤h∧(h≤n∨∃k,c=some k∧h≤k)∧(l=0∨l<n∨∃k,c=some k∧l<k)∧K (c.map (· - l)):=by
 unfold roomK at hk
 split at hk
 ·rename_i h1
  have h1:=Nat.le_of_ble_eq_true h1
  split at hk
  ·split at hk
   ·rename_i h2
    have h2:=Nat.le_of_ble_eq_true h2
    split at hk
    ·rename_i h3
     exact ⟨h1,.inl h2,.inl (Nat.eq_of_beq_eq_true h3),hk⟩
    ·split at hk
     ·rename_i h3;exact ⟨h1,.inl h2,.inr (.inl (ltB_spec h3)),hk⟩
     ·exact hk.elim
   ·exact hk.elim
  ·rename_i k
   split at hk
   ·rename_i h2
    have h2:=Nat.le_of_ble_eq_true h2
    split at hk
    ·rename_i h3;exact ⟨h1,.inr ⟨k,rfl,h2⟩,.inr (.inr ⟨k,rfl,ltB_spec h3⟩),Dz (K:=fun k=>K (some k)) hk⟩
    ·split at hk
     ·rename_i h3
      have h3:=Nat.eq_of_beq_eq_true h3
      subst h3
      exact ⟨h1,.inr ⟨k,rfl,h2⟩,.inl rfl,by simpa using Dz (K:=fun k=>K (some k)) hk⟩
     ·exact hk.elim
   ·exact hk.elim
 ·exact hk.elim
def lenK (P:Program)(T:TypeId)(v:V)(K:V→Prop):Prop:=match P.underlying T with
 | some (.slice _)=>match v with
  | .sl _ _ _ n _=>K (.sc (.int .i64 (.ofNat n)))
  | .sc (.slice none 0 0)=>K (.sc (.int .i64 (.ofNat 0)))
  | _=>False
 | some .string=>match v with
  | .sc (.string s)=>natK (lenB s.data.toList) fun n=>K (.sc (.int .i64 (.ofNat n)))
  | _=>False
 | some (.array n _)=>K (.sc (.int .i64 (.ofNat n)))
 | _=>False
def opsK (t:Tr V)(l:List Operand):(List V→Prop)→Prop:=@List.rec Operand (fun _=>(List V→Prop)→Prop) (fun K=>K []) (fun x _ ih K=>ovK t x fun v=>ih fun l=>K (v::l)) l
def partsK (t:Tr V)(l:List (Nat×Operand)):(List (Nat×V)→Prop)→Prop:=@List.rec (Nat×Operand) (fun _=>(List (Nat×V)→Prop)→Prop) (fun K=>K []) (fun x _ ih K=>ovK t x.2 fun v=>ih fun l=>K ((x.1,v)::l)) l
noncomputable def lenE (l:List (V×V)):Nat:=@List.rec (V×V) (fun _=>Nat) 0 (fun _ _ ih=>Nat.succ ih) l
theorem lenE_eq:∀l:List (V×V),lenE l=l.length
 | []=>rfl
 | _::l=>congrArg Nat.succ (lenE_eq l)
def lookN (P:Program)(MT:TypeId)(u:Value)(e:V×V)(es:List (V×V))(ok:Bool)(K:V→Prop):Prop:=match P.underlying MT with
 | some (.map KT ET)=>match AX P (Instr.checkKey false 10000 KT u) with
  | some _=>match P.underlying KT with
   | some (.struct _)=>match findV P KT u (e::es) 0 with
    | some (some (_,v))=>match ok with
     | true=>K (.tup [v,.sc (.bool true)])
     | false=>K v
    | some none=>match P.info? ET with
     | some i=>match i.zero with
      | some zv=>match ofV zv with
       | some z=>match ok with
        | true=>K (.tup [z,.sc (.bool false)])
        | false=>K z
       | none=>False
      | none=>False
     | none=>False
    | none=>False
   | _=>False
  | none=>False
 | _=>False
def lookK (P:Program)(MT:TypeId)(u:Value)(ok:Bool)(K:V→Prop):Prop:=match P.underlying MT with
 | some (.map KT ET)=>match AX P (Instr.checkKey true 10000 KT u) with
  | some _=>match P.underlying KT with
   | some _=>match P.info? ET with
    | some i=>match i.zero with
     | some zv=>match ofV zv with
      | some z=>match ok with
       | true=>K (.tup [z,.sc (.bool false)])
       | false=>K z
      | none=>False
     | none=>False
    | none=>False
   | none=>False
  | none=>False
 | _=>False
theorem lookK_spec {P:Program}{MT:TypeId}{u:Value}{ok:Bool}{K:V→Prop}(h:lookK P MT u ok K):∃KT ET i zv z,P.underlying MT=some (.map KT ET)∧(∃kd,P.underlying KT=some kd)∧AX P (Instr.checkKey true 10000 KT u)=some ()∧P.info? ET=some i∧i.zero=some zv∧ofV zv=some z∧K (if ok then .tup [z,.sc (.bool false)] else z):=by
 unfold lookK at h
 split at h
 ·rename_i KT ET hT
  split at h
  ·rename_i hc
   split at h
   ·rename_i kd hK
    split at h
    ·rename_i i hi
     split at h
     ·rename_i zv hz
      split at h
      ·rename_i z hzv
       refine ⟨KT,ET,i,zv,z,hT,⟨kd,hK⟩,hc,hi,hz,hzv,?_⟩
       cases ok<;>exact h
      ·exact h.elim
     ·exact h.elim
    ·exact h.elim
   ·exact h.elim
  ·exact h.elim
 ·exact h.elim
noncomputable def xval (P:Program)(o:Oper)(t:Tr V)(m:Tr Blk)(K:V→Prop):Prop:=match o.op with
 | .move x=>ovK t x K
 | .assign x=>ovK t x K
 | .pick c x y=>ovK t c fun v=>match v with
  | .sc (.bool true)=>ovK t x K
  | .sc (.bool false)=>ovK t y K
  | _=>False
 | .nilCheck x=>ovK t x fun v=>match v with
  | .ptr id off=>K (.ptr id off)
  | .fn f cs=>K (.fn f cs)
  | _=>False
 | .binOp op T x y T'=>ovK t x fun u=>ovK t y fun v=>match u with
  | .sc _=>twoK P op T x y u v K
  | .agg _=>twoK P op T x y u v K
  | u=>nilK P op T u v K
 | .unOp op T x=>ovK t x fun u=>toK u fun a=>match op,a with
  | .not,.bool b=>boolK (!b) fun r=>K (.sc r)
  | op,a=>anyK (AX P (Op.unary op a)) fun r=>K (.sc r)
 | .convert T T' x=>ovK t x fun u=>toK u fun a=>anyK (AX P (convert T T' a)) fun r=>K (.sc r)
 | .load T (.global g)=>match gtab g with
  | some cs=>match cs.all (·.oneCell') with
   | true=>match Bo P T with
    | some (ag,n)=>partK ag n (cs.map .sc) 0 K
    | none=>False
   | false=>False
  | none=>False
 | .load T x=>ovK t x fun v=>match v with
  | .ptr id off=>match m.get id with
   | some b=>match b.cs with
    | some cs=>match Bo P T with
     | some (ag,n)=>partK ag n cs off K
     | none=>False
    | none=>False
   | none=>False
  | _=>False
 | .fieldAddr T x f=>ovK t x fun v=>match v with
  | .ptr id off=>match DV P T f with
   | some k=>natK (Nat.add off k) fun off=>K (.ptr id off)
   | none=>False
  | _=>False
 | .field T x f=>ovK t x fun v=>match v with
  | .agg cs=>match fieldAt? P T f with
   | some (off,(ag,n))=>partK ag n cs off K
   | none=>False
  | _=>False
 | .indexAddr T x ix=>ovK t x fun v=>ovK t ix fun w=>match w with
  | .sc (.int _ (.ofNat i))=>match v with
   | .sl id off sz n c=>match ltB i n with
    | true=>match Dj P T with
     | some sz'=>natK (Nat.add off (Nat.mul i sz')) fun off=>K (.ptr id off)
     | none=>False
    | false=>False
   | .ptr id off=>match Ef P T with
    | some (n,sz)=>match ltB i n with
     | true=>natK (Nat.add off (Nat.mul i sz)) fun off=>K (.ptr id off)
     | false=>False
    | none=>False
   | _=>False
  | _=>False
 | .index T x ix=>ovK t x fun v=>ovK t ix fun w=>match w with
  | .sc (.int _ (.ofNat i))=>match v with
   | .agg cs=>match arrFull P T with
    | some (n,sz,(ag,k))=>match ltB i n with
     | true=>partK ag k cs (Nat.mul i sz) K
     | false=>False
    | none=>False
   | .sc (.string s)=>match P.underlying T with
    | some .string=>nthB i s.data.toList fun b=>natK b.toNat fun n=>K (.sc (.int .u8 (.ofNat n)))
    | _=>False
   | _=>False
  | _=>False
 | .slice T x lo hi mx=>ovK t x fun v=>match v with
  | .sc (.string s)=>match mx,P.underlying T with
   | none,some .string=>bndK t lo 0 fun l=>bndK t hi (lenB s.data.toList) fun h=>match Nat.ble l h with
    | true=>match Nat.ble h (lenB s.data.toList) with
     | true=>bytesK ((s.data.toList.drop l).take (h-l)) fun b=>K (.sc (.string ⟨⟨b⟩⟩))
     | false=>False
    | false=>False
   | _,_=>False
  | .sc (.slice none 0 0)=>match mx,P.underlying T with
   | none,some (.slice e)=>match P.info? e with
    | some _=>bndK t lo 0 fun l=>bndK t hi 0 fun h=>match Nat.beq l 0 with
     | true=>match Nat.beq h 0 with
      | true=>K (.sc (.slice none 0 0))
      | false=>False
     | false=>False
    | none=>False
   | _,_=>False
  | .sl id off sz n c=>match Dj P T with
   | some sz'=>match Nat.beq sz sz' with
    | true=>match mx with
     | none=>match ltB 0 sz with
      | true=>bndK t lo 0 fun l=>bndK t hi n fun h=>match atEnd l h c with
       | true=>K (.sl id off sz 0 (some 0))
       | false=>roomK l h n c fun c=>natK (Nat.add off (Nat.mul l sz)) fun off=>natK (Nat.sub h l) fun n=>K (.sl id off sz n c)
      | false=>False
     | some z=>match hi with
      | some y=>bndK t lo 0 fun l=>bndK t (some y) n fun h=>bndK t (some z) n fun q=>match Nat.ble l h with
       | true=>match Nat.ble h q with
        | true=>match Nat.ble q n with
         | true=>match Nat.beq q l with
          | true=>natK (Nat.sub h l) fun n=>natK (Nat.sub q l) fun c=>K (.sl id off sz n (some c))
          | false=>natK (Nat.add off (Nat.mul l sz)) fun off=>natK (Nat.sub h l) fun n=>natK (Nat.sub q l) fun c=>K (.sl id off sz n (some c))
         | false=>False
        | false=>False
       | false=>False
      | none=>False
    | false=>False
   | none=>False
  | _=>False
 | .call c=>match c.callee with
  | .builtin .len=>match c.args.toList,c.argTypes.toList with
   | [x],[T]=>ovK t x fun v=>lenK P T v K
   | _,_=>False
  | .builtin .min=>match c.args.toList,c.argTypes.toList with
   | [x,y],[T,T']=>ovK t x fun u=>ovK t y fun v=>toK u fun a=>toK v fun b=>anyK (AX P (Builtin.min_ #[T,T'] o.type #[a,b])) fun r=>K (.sc r)
   | _,_=>False
  | .builtin .max=>match c.args.toList,c.argTypes.toList with
   | [x,y],[T,T']=>ovK t x fun u=>ovK t y fun v=>toK u fun a=>toK v fun b=>anyK (AX P (Builtin.max_ #[T,T'] o.type #[a,b])) fun r=>K (.sc r)
   | _,_=>False
  | _=>False
 | .next (.tmp it) false=>match t.get it with
  | some (.it i)=>match m.get i with
   | some (.iter none 0 0)=>K (.tup [.sc (.bool false)])
   | some (.iter (some id) n k)=>match m.get id with
    | some (.map es)=>match Nat.beq (lenE es) n with
     | true=>match Nat.beq k n with
      | true=>K (.tup [.sc (.bool false)])
      | false=>False
     | false=>False
    | _=>False
   | _=>False
  | _=>False
 | .extract x i=>ovK t x fun v=>match v with
  | .tup cs=>nthK i cs K
  | _=>False
 | .build T parts=>partsK t parts.toList fun ds=>match builtV P T ds with
  | some cs=>spK cs fun cs=>K (.agg cs)
  | none=>False
 | .makeFunc (.func f) first caps=>match first.toList with
  | []=>opsK t caps.toList fun vs=>K (.fn f vs)
  | _=>False
 | .lookup MT x y ok=>ovK t x fun v=>ovK t y fun k=>toK k fun u=>match v with
  | .mp id=>match m.get id with
   | some (.map [])=>lookK P MT u ok K
   | some (.map (e::es))=>lookN P MT u e es ok K
   | _=>False
  | .sc (.map none)=>lookK P MT u ok K
  | _=>False
 | _=>False
theorem Et {t:Tr V}{x:Option Operand}{dflt:Nat}{K:Nat→Prop}(o:Oper)(h:bndK t x dflt K):∃l,(∀s:St,(∀x v,x∈o.op.operands→Am (stT t .leaf 0) x=some v→Am s x=some v)→(∀y,x=some y→y∈o.op.operands)→bndV s x dflt=some l)∧K l:=by
 unfold bndK at h
 split at h
 ·exact ⟨dflt,fun _ _ _=>rfl,h⟩
 ·rename_i y
  obtain ⟨v,h1,h2⟩:=Bj h
  split at h2
  ·rename_i k i
   refine ⟨i,fun s ha hm=>?_,h2⟩
   unfold bndV
   simp only [ha y _ (hm y rfl) (h1 _ _)]
   exact if_pos (Int.natCast_nonneg i)
  ·exact h2.elim
theorem opsK_spec {t:Tr V}:∀{l:List Operand} {K:List V→Prop},opsK t l K→∃vs,(∀s:St,(∀x v,x∈l→Am (stT t .leaf 0) x=some v→Am s x=some v)→l.mapM (Am s)=some vs)∧K vs
 | [],K,h=>⟨[],fun _ _=>rfl,h⟩
 | x::l,K,h=>by
  obtain ⟨v,h1,h2⟩:=Bj h
  obtain ⟨vs,h3,h4⟩:=opsK_spec (l:=l) (K:=fun l=>K (v::l)) h2
  refine ⟨v::vs,fun s ha=>?_,h4⟩
  rw [List.mapM_cons,ha x v (List.mem_cons_self ..) (h1 _ _),h3 s fun y w hy=>ha y w (List.mem_cons_of_mem _ hy)];rfl
theorem partsK_spec {t:Tr V}:∀{l:List (Nat×Operand)} {K:List (Nat×V)→Prop},partsK t l K→∃vs,(∀s:St,(∀x v,x∈l.map (·.2)→Am (stT t .leaf 0) x=some v→Am s x=some v)→DJ s l=some vs)∧K vs
 | [],K,h=>⟨[],fun _ _=>rfl,h⟩
 | (i,x)::l,K,h=>by
  obtain ⟨v,h1,h2⟩:=Bj h
  obtain ⟨vs,h3,h4⟩:=partsK_spec (l:=l) (K:=fun l=>K ((i,v)::l)) h2
  refine ⟨(i,v)::vs,fun s ha=>?_,h4⟩
  rw [DJ,ha x v (by simp) (h1 _ _),h3 s fun y w hy=>ha y w (List.mem_cons_of_mem _ hy)]
theorem nilK_spec {P:Program}{op:BinOp}{T:TypeId}{u v:V}{K:V→Prop}(h:nilK P op T u v K):∃(z:Value) (td:TypeDesc) (neg:Bool),v=.sc z∧notNil u z=true∧P.underlying T=some td∧op=(if neg then .neq else .eql)∧kindOk td u∧K (.sc (.bool neg)):=by
 cases v with
 | sc z=>
  simp only [nilK] at h
  cases hn:notNil u z with
  | false=>rw [hn] at h;exact h.elim
  | true=>
   rw [hn] at h
   cases ht:P.underlying T with
   | none=>rw [ht] at h;exact h.elim
   | some td=>
    rw [ht] at h
    have key:eqlK op K→∃neg,op=(if neg=true then .neq else .eql)∧K (.sc (.bool neg)):=by
     intro h
     cases op<;>first | exact h.elim | skip
     ·exact ⟨false,rfl,h⟩
     ·exact ⟨true,rfl,h⟩
    cases td<;>cases u<;>first | exact h.elim | skip
    all_goals
     obtain ⟨neg,q1,q3⟩:=key h
     exact ⟨z,_,neg,rfl,hn,rfl,q1,trivial,q3⟩
 | _=>exact h.elim
section
variable {P:Program} {o:Oper} {t:Tr V} {m:Tr Blk} {K:V→Prop}
theorem two_spec {op:BinOp}{T T':TypeId}{x y:Operand}{u v:V}(hop:o.op=.binOp op T x y T')(hx:Am (stT t .leaf 0) x=some u)(hy:Am (stT t .leaf 0) y=some v)(h:twoK P op T x y u v K):∃v,XF P o t m.get v∧K v:=by
 obtain ⟨a,h1,h2⟩:=toK_spec h
 obtain ⟨b,h3,h4⟩:=toK_spec h2
 obtain ⟨r,h5,h6,h7⟩:=binK_spec h4
 exact ⟨_,Dc fun N s d ha hdst hd=>r_bin hop (ha x _ (by simp [hop,Op.operands]) hx) (ha y _ (by simp [hop,Op.operands]) hy) h1 h3 h5 h6 hdst hd,h7⟩
theorem len_spec {c:Call}{x:Operand}{T:TypeId}{v:V}(hop:o.op=.call c)(hc:c.callee=.builtin .len)(hx:c.args.toList= [x])(hT:c.argTypes.toList= [T])(hv:Am (stT t .leaf 0) x=some v)(h:lenK P T v K):∃v,XF P o t m.get v∧K v:=by
 obtain ⟨callee,args,argTypes⟩:=c
 obtain rfl:args = #[x]:=Array.ext' (by simpa using hx)
 obtain rfl:argTypes = #[T]:=Array.ext' (by simpa using hT)
 simp only at hc
 subst hc
 have hm:x∈o.op.operands:=by simp [hop,Op.operands,Call.operands]
 unfold lenK at h
 split at h
 ·rename_i e hu
  split at h
  ·exact ⟨_,Dc fun N s d ha hdst hd=>r_len hop (ha x _ hm hv) hu hdst hd,h⟩
  ·exact ⟨_,Dc fun N s d ha hdst hd=>r_len0 hop (ha x _ hm hv) hu hdst hd,h⟩
  ·exact h.elim
 ·rename_i hu
  split at h
  ·rename_i st
   have:=Dz (K:=fun n=>K (.sc (.int .i64 (.ofNat n)))) h
   rw [←size_eq] at this
   exact ⟨_,Dc fun N s d ha hdst hd=>r_lens hop (ha x _ hm hv) hu hdst hd,this⟩
  ·exact h.elim
 ·rename_i hu
  exact ⟨_,Dc fun N s d ha hdst hd=>r_lenA hop hu hdst hd,h⟩
 ·exact h.elim
set_option maxHeartbeats 2000000 in
theorem xval_spec (h:xval P o t m K):∃v,XF P o t m.get v∧K v:=by
 unfold xval at h
 split at h
 ·rename_i x hop
  obtain ⟨v,h1,h2⟩:=Bj h
  exact ⟨v,Dc fun N s d ha hdst hd=>r_move (.inl hop) (ha x v (by simp [hop,Op.operands]) (h1 _ _)) hdst hd,h2⟩
 ·rename_i x hop
  obtain ⟨v,h1,h2⟩:=Bj h
  exact ⟨v,Dc fun N s d ha hdst hd=>r_move (.inr hop) (ha x v (by simp [hop,Op.operands]) (h1 _ _)) hdst hd,h2⟩
 ·rename_i c x y hop
  obtain ⟨v,h1,h2⟩:=Bj h
  split at h2
  ·obtain ⟨v,h3,h4⟩:=Bj h2
   exact ⟨v,Dc fun N s d ha hdst hd=>r_pick (b:=true) hop (ha c _ (by simp [hop,Op.operands]) (h1 _ _)) (ha x v (by simp [hop,Op.operands]) (h3 _ _)) hdst hd,h4⟩
  ·obtain ⟨v,h3,h4⟩:=Bj h2
   exact ⟨v,Dc fun N s d ha hdst hd=>r_pick (b:=false) hop (ha c _ (by simp [hop,Op.operands]) (h1 _ _)) (ha y v (by simp [hop,Op.operands]) (h3 _ _)) hdst hd,h4⟩
  ·exact h2.elim
 ·rename_i x hop
  obtain ⟨v,h1,h2⟩:=Bj h
  split at h2
  ·exact ⟨_,Dc fun N s d ha hdst hd=>r_nil hop (ha x _ (by simp [hop,Op.operands]) (h1 _ _)) (.inl ⟨_,_,rfl⟩) hdst hd,h2⟩
  ·exact ⟨_,Dc fun N s d ha hdst hd=>r_nil hop (ha x _ (by simp [hop,Op.operands]) (h1 _ _)) (.inr ⟨_,_,rfl⟩) hdst hd,h2⟩
  ·exact h2.elim
 ·rename_i op T x y T' hop
  obtain ⟨u,h1,h2⟩:=Bj h
  obtain ⟨v,h3,h4⟩:=Bj h2
  split at h4
  ·exact two_spec hop (h1 _ _) (h3 _ _) h4
  ·exact two_spec hop (h1 _ _) (h3 _ _) h4
  ·obtain ⟨z,td,neg,rfl,q1,q2,rfl,q3,q4⟩:=nilK_spec h4
   exact ⟨_,Dc fun N s d ha hdst hd=>r_eqnil hop (ha x _ (by simp [hop,Op.operands]) (h1 _ _)) (ha y _ (by simp [hop,Op.operands]) (h3 _ _)) q1 q2 (by unfold kindOk at q3;cases td<;>cases u<;>exact q3) hdst hd,q4⟩
 ·rename_i op T x hop
  obtain ⟨u,h1,h2⟩:=Bj h
  obtain ⟨a,h3,h4⟩:=toK_spec h2
  split at h4
  ·rename_i b
   have:=boolK_spec (K:=fun r=>K (.sc r)) h4
   exact ⟨_,Dc fun N s d ha hdst hd=>r_un hop (ha x _ (by simp [hop,Op.operands]) (h1 _ _)) h3 Go.Vm.pr_not rfl hdst hd,this⟩
  ·obtain ⟨r,q1,q2,q3⟩:=anyK_spec h4
   exact ⟨_,Dc fun N s d ha hdst hd=>r_un hop (ha x _ (by simp [hop,Op.operands]) (h1 _ _)) h3 q1 q2 hdst hd,q3⟩
 ·rename_i T T' x hop
  obtain ⟨u,h1,h2⟩:=Bj h
  obtain ⟨a,h3,h4⟩:=toK_spec h2
  obtain ⟨r,q1,q2,q3⟩:=anyK_spec h4
  exact ⟨_,Dc fun N s d ha hdst hd=>r_conv hop (ha x _ (by simp [hop,Op.operands]) (h1 _ _)) h3 q1 q2 hdst hd,q3⟩
 ·rename_i T g hop
  split at h
  ·rename_i cs hg
   split at h
   ·rename_i ho
    split at h
    ·rename_i ag n hsh
     obtain ⟨v,q1,q2⟩:=EC h
     exact ⟨v,Dc fun N s d ha hdst hd=>r_loadG hop hg ho hsh q1 hdst hd,q2⟩
    ·exact h.elim
   ·exact h.elim
  ·exact h.elim
 ·rename_i T x _ hop
  obtain ⟨u,h1,h2⟩:=Bj h
  split at h2
  ·rename_i id off
   split at h2
   ·rename_i b hb
    split at h2
    ·rename_i cs hcs
     split at h2
     ·rename_i ag n hsh
      obtain ⟨v,q1,q2⟩:=EC h2
      exact ⟨v,xf_mem (fun N s d ha hh hdst hd=>r_load hop (ha x _ (by simp [hop,Op.operands]) (h1 _ _)) (by rw [hh];exact hb) hcs hsh q1 hdst hd) (by cases x with | global g=>exact absurd (h1 .leaf 0) (by simp [Am]) | _=>simp [memFree,hop]),q2⟩
     ·exact h2.elim
    ·exact h2.elim
   ·exact h2.elim
  ·exact h2.elim
 ·rename_i T x f hop
  obtain ⟨u,h1,h2⟩:=Bj h
  split at h2
  ·rename_i id off
   split at h2
   ·rename_i k hk
    have:=Dz (K:=fun off=>K (.ptr id off)) h2
    exact ⟨_,Dc fun N s d ha hdst hd=>r_fieldA hop (ha x _ (by simp [hop,Op.operands]) (h1 _ _)) hk hdst hd,this⟩
   ·exact h2.elim
  ·exact h2.elim
 ·rename_i T x f hop
  obtain ⟨u,h1,h2⟩:=Bj h
  split at h2
  ·rename_i cs
   split at h2
   ·rename_i off ag n hf
    obtain ⟨v,q1,q2⟩:=EC h2
    exact ⟨v,Dc fun N s d ha hdst hd=>r_field hop (ha x _ (by simp [hop,Op.operands]) (h1 _ _)) hf q1 hdst hd,q2⟩
   ·exact h2.elim
  ·exact h2.elim
 ·rename_i T x ix hop
  obtain ⟨u,h1,h2⟩:=Bj h
  obtain ⟨v,h3,h4⟩:=Bj h2
  split at h4
  ·rename_i k i
   split at h4
   ·rename_i id off sz n c
    split at h4
    ·rename_i hlt
     split at h4
     ·rename_i sz' hs
      have:=Dz (K:=fun off=>K (.ptr id off)) h4
      exact ⟨_,Dc fun N s d ha hdst hd=>r_ixS hop (ha x _ (by simp [hop,Op.operands]) (h1 _ _)) (ha ix _ (by simp [hop,Op.operands]) (h3 _ _)) hs (ltB_spec hlt) hdst hd,this⟩
     ·exact h4.elim
    ·exact h4.elim
   ·rename_i id off
    split at h4
    ·rename_i n sz hs
     split at h4
     ·rename_i hlt
      have:=Dz (K:=fun off=>K (.ptr id off)) h4
      exact ⟨_,Dc fun N s d ha hdst hd=>r_ixA hop (ha x _ (by simp [hop,Op.operands]) (h1 _ _)) (ha ix _ (by simp [hop,Op.operands]) (h3 _ _)) hs (ltB_spec hlt) hdst hd,this⟩
     ·exact h4.elim
    ·exact h4.elim
   ·exact h4.elim
  ·exact h4.elim
 ·rename_i T x ix hop
  obtain ⟨u,h1,h2⟩:=Bj h
  obtain ⟨v,h3,h4⟩:=Bj h2
  split at h4
  ·rename_i k i
   split at h4
   ·rename_i cs
    split at h4
    ·rename_i n sz ag q hs
     split at h4
     ·rename_i hlt
      obtain ⟨v,q1,q2⟩:=EC h4
      exact ⟨v,Dc fun N s d ha hdst hd=>r_index hop (ha x _ (by simp [hop,Op.operands]) (h1 _ _)) (ha ix _ (by simp [hop,Op.operands]) (h3 _ _)) hs (ltB_spec hlt) q1 hdst hd,q2⟩
     ·exact h4.elim
    ·exact h4.elim
   ·rename_i st
    split at h4
    ·rename_i hs
     obtain ⟨b,q1,q2⟩:=nthB_spec h4
     have:=Dz (K:=fun n=>K (.sc (.int .u8 (.ofNat n)))) q2
     exact ⟨_,Dc fun N s d ha hdst hd=>r_char hop (ha x _ (by simp [hop,Op.operands]) (h1 _ _)) (ha ix _ (by simp [hop,Op.operands]) (h3 _ _)) hs (by rw [getB_eq];exact q1) hdst hd,this⟩
    ·exact h4.elim
   ·exact h4.elim
  ·exact h4.elim
 ·rename_i T x lo hi mx hop
  obtain ⟨u,h1,h2⟩:=Bj h
  have hxm:x∈o.op.operands:=by simp [hop,Op.operands]
  have hlo:∀y,lo=some y→y∈o.op.operands:=by rintro y rfl;simp [hop,Op.operands]
  have hhi:∀y,hi=some y→y∈o.op.operands:=by rintro y rfl;simp [hop,Op.operands]
  have hmx:∀y,mx=some y→y∈o.op.operands:=by rintro y rfl;simp [hop,Op.operands]
  split at h2
  ·rename_i st
   split at h2
   ·rename_i hu
    obtain ⟨l,q1,h2⟩:=Et o h2
    obtain ⟨hh',q2,h2⟩:=Et o h2
    split at h2
    ·rename_i hl
     split at h2
     ·rename_i hl2
      have:=bytesK_spec (K:=fun b=>K (.sc (.string ⟨⟨b⟩⟩))) h2
      rw [ext_eq] at this
      rw [←size_eq] at q2 hl2
      exact ⟨_,Dc fun N s d ha hdst hd=>r_substr hop (ha x _ hxm (h1 _ _)) hu (q1 s ha hlo) (q2 s ha hhi) (Nat.le_of_ble_eq_true hl) (Nat.le_of_ble_eq_true hl2) hdst hd,this⟩
     ·exact h2.elim
    ·exact h2.elim
   ·exact h2.elim
  ·split at h2
   ·rename_i e hu
    split at h2
    ·rename_i inf hinf
     obtain ⟨l,q1,h3⟩:=Et o h2
     obtain ⟨h',q2,h4⟩:=Et o h3
     clear h2 h3
     split at h4
     ·rename_i e1
      have e1:=Nat.eq_of_beq_eq_true e1
      split at h4
      ·rename_i e2
       have e2:=Nat.eq_of_beq_eq_true e2
       exact ⟨_,Dc fun N s d ha hdst hd=>r_sliceN hop (ha x _ hxm (h1 _ _)) hu hinf ((q1 s ha hlo).trans (by rw [e1])) ((q2 s ha hhi).trans (by rw [e2])) hdst hd,h4⟩
      ·exact h4.elim
     ·exact h4.elim
    ·exact h2.elim
   ·exact h2.elim
  ·rename_i id off sz n c
   split at h2
   ·rename_i sz' hs
    split at h2
    ·rename_i he
     obtain rfl:=Nat.eq_of_beq_eq_true he
     split at h2
     ·split at h2
      ·rename_i h0
       obtain ⟨l,q1,h3⟩:=Et o h2
       obtain ⟨h',q2,h4⟩:=Et o h3
       clear h2 h3
       split at h4
       ·rename_i he
        obtain ⟨rfl,rfl⟩:=atEnd_spec he
        exact ⟨_,Dc fun N s d ha hdst hd=>r_sliceC hop (ha x _ hxm (h1 _ _)) hs (q1 s ha hlo) (q2 s ha hhi) (ltB_spec h0) hdst hd,h4⟩
       ·obtain ⟨r1,r2,r3,h5⟩:=roomK_spec h4
        have h5:=Dz h5
        have:=Dz (K:=fun n'=>K (.sl id (off+l*sz) sz n' (c.map (· - l)))) h5
        exact ⟨_,Dc fun N s d ha hdst hd=>r_slice hop (ha x _ hxm (h1 _ _)) hs (q1 s ha hlo) (q2 s ha hhi) r1 r2 r3 (ltB_spec h0) hdst hd,this⟩
      ·exact h2.elim
     ·rename_i z
      split at h2
      ·rename_i y
       obtain ⟨l,q1,h2⟩:=Et o h2
       obtain ⟨h',q2,h2⟩:=Et o h2
       obtain ⟨q,q3,h2⟩:=Et o h2
       split at h2
       ·rename_i r1
        split at h2
        ·rename_i r2
         split at h2
         ·rename_i r3
          have hst:=fun (N:Nat) (s:St) (d:Nat) ha (hdst:o.dst=some d) (hd:d<N)=>r_slice3 hop (ha x _ hxm (h1 _ _)) hs (q1 s ha hlo) (q2 s ha hhi) (q3 s ha hmx) (Nat.le_of_ble_eq_true r1) (Nat.le_of_ble_eq_true r2) (Nat.le_of_ble_eq_true r3) hdst hd
          split at h2
          ·rename_i e
           have e:=Nat.eq_of_beq_eq_true e
           have h2:=Dz h2
           have:=Dz (K:=fun c'=>K (.sl id off sz (h' - l) (some c'))) h2
           rw [if_pos e] at hst
           exact ⟨_,Dc hst,this⟩
          ·rename_i e
           have e:¬q=l:=by intro e2;rw [e2,Nat.beq_refl] at e;cases e
           have h2:=Dz h2
           have h2:=Dz h2
           have:=Dz (K:=fun c'=>K (.sl id (off+l*sz) sz (h' - l) (some c'))) h2
           rw [if_neg e] at hst
           exact ⟨_,Dc hst,this⟩
         ·exact h2.elim
        ·exact h2.elim
       ·exact h2.elim
      ·exact h2.elim
    ·exact h2.elim
   ·exact h2.elim
  ·exact h2.elim
 ·rename_i c hop
  split at h
  ·rename_i hc
   split at h
   ·rename_i x T hx hT
    obtain ⟨u,h1,h2⟩:=Bj h
    exact len_spec hop hc hx hT (h1 _ _) h2
   ·exact h.elim
  ·rename_i hc
   split at h
   ·rename_i x y T T' hx hT
    obtain ⟨u,h1,h2⟩:=Bj h
    obtain ⟨v,h3,h4⟩:=Bj h2
    obtain ⟨a,h5,h6⟩:=toK_spec h4
    obtain ⟨b,h7,h8⟩:=toK_spec h6
    obtain ⟨r,q1,q2,q3⟩:=anyK_spec h8
    obtain ⟨callee,args,argTypes⟩:=c
    obtain rfl:args = #[x,y]:=Array.ext' (by simpa using hx)
    obtain rfl:argTypes = #[T,T']:=Array.ext' (by simpa using hT)
    simp only at hc
    subst hc
    exact ⟨_,Dc fun N s d ha hdst hd=>r_min hop (ha x _ (by simp [hop,Op.operands,Call.operands]) (h1 _ _)) (ha y _ (by simp [hop,Op.operands,Call.operands]) (h3 _ _)) h5 h7 q1 q2 hdst hd,q3⟩
   ·exact h.elim
  ·rename_i hc
   split at h
   ·rename_i x y T T' hx hT
    obtain ⟨u,h1,h2⟩:=Bj h
    obtain ⟨v,h3,h4⟩:=Bj h2
    obtain ⟨a,h5,h6⟩:=toK_spec h4
    obtain ⟨b,h7,h8⟩:=toK_spec h6
    obtain ⟨r,q1,q2,q3⟩:=anyK_spec h8
    obtain ⟨callee,args,argTypes⟩:=c
    obtain rfl:args = #[x,y]:=Array.ext' (by simpa using hx)
    obtain rfl:argTypes = #[T,T']:=Array.ext' (by simpa using hT)
    simp only at hc
    subst hc
    exact ⟨_,Dc fun N s d ha hdst hd=>r_max hop (ha x _ (by simp [hop,Op.operands,Call.operands]) (h1 _ _)) (ha y _ (by simp [hop,Op.operands,Call.operands]) (h3 _ _)) h5 h7 q1 q2 hdst hd,q3⟩
   ·exact h.elim
  ·exact h.elim
 ·rename_i it hop
  have hm:Operand.tmp it∈o.op.operands:=by simp [hop,Op.operands]
  split at h
  ·rename_i i hi
   split at h
   ·rename_i hb
    exact ⟨_,xf_mem (fun N s d ha hh hdst hd=>r_next0 hop (ha (.tmp it) _ hm hi) (by rw [hh];exact hb) hdst hd) (by simp [memFree,hop]),h⟩
   ·rename_i id n k hb
    split at h
    ·rename_i es hes
     split at h
     ·rename_i e1
      have e1:=Nat.eq_of_beq_eq_true e1
      rw [lenE_eq] at e1
      split at h
      ·rename_i e2
       have e2:=Nat.eq_of_beq_eq_true e2
       exact ⟨_,xf_mem (fun N s d ha hh hdst hd=>r_next_done hop (ha (.tmp it) _ hm hi) (by rw [hh];exact hb) (by rw [hh];exact hes) e1 e2 hdst hd) (by simp [memFree,hop]),h⟩
      ·exact h.elim
     ·exact h.elim
    ·exact h.elim
   ·exact h.elim
  ·exact h.elim
 ·rename_i x i hop
  obtain ⟨u,h1,h2⟩:=Bj h
  split at h2
  ·rename_i cs
   obtain ⟨v,q1,q2⟩:=nthK_spec h2
   exact ⟨v,Dc fun N s d ha hdst hd=>r_extract hop (ha x _ (by simp [hop,Op.operands]) (h1 _ _)) q1 hdst hd,q2⟩
  ·exact h2.elim
 ·rename_i T parts hop
  obtain ⟨ds,q1,q2⟩:=partsK_spec h
  split at q2
  ·rename_i cs hcs
   have:=spK_spec (K:=fun cs=>K (.agg cs)) q2
   exact ⟨_,Dc fun N s d ha hdst hd=>r_build hop (q1 s fun y v hy=>ha y v (by simp [hop,Op.operands];simpa using hy)) hcs hdst hd,this⟩
  ·exact q2.elim
 ·rename_i f first caps hop
  split at h
  ·rename_i hf
   obtain rfl:first = #[]:=Array.ext' (by simpa using hf)
   obtain ⟨vs,q1,q2⟩:=opsK_spec h
   exact ⟨_,Dc fun N s d ha hdst hd=>r_func hop (q1 s fun y v hy=>ha y v (by simp [hop,Op.operands];simpa using hy)) hdst hd,q2⟩
  ·exact h.elim
 ·rename_i MT x y ok hop
  obtain ⟨v,h1,h2⟩:=Bj h
  obtain ⟨k,h3,h4⟩:=Bj h2
  obtain ⟨u,h5,h6⟩:=toK_spec h4
  split at h6
  ·rename_i id
   split at h6
   ·rename_i hb
    obtain ⟨KT,ET,i,zv,z,q1,⟨kd,q0⟩,q2,q3,q4,q5,q6⟩:=lookK_spec h6
    exact ⟨_,xf_mem (fun N s d ha hh hdst hd=>r_lookup0 hop (ha x _ (by simp [hop,Op.operands]) (h1 _ _)) (.inr ⟨id,rfl,by rw [hh];exact hb⟩) (ha y _ (by simp [hop,Op.operands]) (h3 _ _)) h5 q1 q0 q2 q3 q4 q5 hdst hd) (by simp [memFree,hop]),q6⟩
   ·rename_i e es hb
    unfold lookN at h6
    split at h6
    ·rename_i KT ET hT
     split at h6
     ·rename_i hc
      split at h6
      ·rename_i fs hK
       split at h6
       ·rename_i j v hf
        have h7:K (if ok then .tup [v,.sc (.bool true)] else v):=by cases ok<;>exact h6
        exact ⟨_,xf_mem (fun N s d ha hh hdst hd=>r_lookupF hop (ha x _ (by simp [hop,Op.operands]) (h1 _ _)) (by rw [hh];exact hb) (ha y _ (by simp [hop,Op.operands]) (h3 _ _)) h5 hT hK hc hf hdst hd) (by simp [memFree,hop]),h7⟩
       ·rename_i hf
        split at h6
        ·rename_i i hi
         split at h6
         ·rename_i zv hz
          split at h6
          ·rename_i z hzv
           have h7:K (if ok then .tup [z,.sc (.bool false)] else z):=by cases ok<;>exact h6
           exact ⟨_,xf_mem (fun N s d ha hh hdst hd=>r_lookupM hop (ha x _ (by simp [hop,Op.operands]) (h1 _ _)) (by rw [hh];exact hb) (ha y _ (by simp [hop,Op.operands]) (h3 _ _)) h5 hT hK hc hf hi hz hzv hdst hd) (by simp [memFree,hop]),h7⟩
          ·exact h6.elim
         ·exact h6.elim
        ·exact h6.elim
       ·exact h6.elim
      ·exact h6.elim
     ·exact h6.elim
    ·exact h6.elim
   ·exact h6.elim
  ·obtain ⟨KT,ET,i,zv,z,q1,⟨kd,q0⟩,q2,q3,q4,q5,q6⟩:=lookK_spec h6
   exact ⟨_,xf_mem (fun N s d ha hh hdst hd=>r_lookup0 hop (ha x _ (by simp [hop,Op.operands]) (h1 _ _)) (.inl rfl) (ha y _ (by simp [hop,Op.operands]) (h3 _ _)) h5 q1 q0 q2 q3 q4 q5 hdst hd) (by simp [memFree,hop]),q6⟩
  ·exact h6.elim
 ·exact h.elim
end
end Go.Rn
end
section
namespace Go.Rn
open Go.RowKit
open Go.Vm (AX CV DV Bo Cf Dj Ef)
set_option linter.unusedSectionVars false
variable [Cx]
def AgO (o:Oper)(t:Tr V)(s:St):Prop:=∀x v,x∈o.op.operands→Am (stT t .leaf 0) x=some v→Am s x=some v
def MV (P:Program)(o:Oper)(t:Tr V)(h:Hp)(n:Nat)(v:V)(h':Hp)(n':Nat):Prop:=∀(N:Nat) (s:St) (d:Nat),AgO o t s→s.h=h→s.n=n→o.dst=some d→d<N→Step P N o s { (s.put (some d) v) with h:=h',n:=n' }
def MS (P:Program)(o:Oper)(t:Tr V)(h:Hp)(n:Nat)(h':Hp)(n':Nat):Prop:=∀(N:Nat) (s:St),AgO o t s→s.h=h→s.n=n→o.dst=none→Step P N o s { s with h:=h',n:=n' }
theorem get_hset {m m':Tr Blk}{id:Nat}{b:Option Blk}(h:∀u,m'.get u=if u=id then b else m.get u):m'.get=hset m.get id b:=by
 funext u;rw [h];rfl
def newK (m:Tr Blk)(n:Nat)(b:Blk)(K:Tr Blk→Nat→Prop):Prop:=AQ m n (some b) fun m=>natK (Nat.succ n) fun n=>K m n
theorem newK_spec {m:Tr Blk}{n:Nat}{b:Blk}{K:Tr Blk→Nat→Prop}(h:newK m n b K):∃m',m'.get=hset m.get n (some b)∧K m' (n+1):=by
 obtain ⟨m',h1,h2⟩:=Bh h
 exact ⟨m',get_hset h1,Dz (K:=fun n=>K m' n) h2⟩
def overK (ds:List V)(n:Nat):List V→(List V→Prop)→Prop:=@Nat.rec (fun _=>List V→(List V→Prop)→Prop) (fun l K=>@List.rec V (fun _=>List V→(List V→Prop)→Prop) (fun l K=>K l) (fun r _ ih l K=>match l with
 | _::l=>ih l fun l=>K (r::l)
 | []=>ih [] fun l=>K (r::l)) ds l K) (fun _ ih l K=>match l with
 | d::l=>ih l fun l=>K (d::l)
 | []=>False) n
theorem overK_spec:∀{n:Nat} {ds l:List V} {K:List V→Prop},overK ds n l K→n≤l.length∧K (patchV l n ds)
 | 0,[],l,K,h=>⟨Nat.zero_le _,by simpa [patchV] using (show K l from h)⟩
 | 0,r::rs,[],K,h=>by
  obtain ⟨h1,h2⟩:=overK_spec (n:=0) (ds:=rs) (l:=[]) (K:=fun l=>K (r::l)) h
  exact ⟨Nat.zero_le _,by simpa [patchV] using h2⟩
 | 0,r::rs,_::l,K,h=>by
  obtain ⟨h1,h2⟩:=overK_spec (n:=0) (ds:=rs) (l:=l) (K:=fun l=>K (r::l)) h
  exact ⟨Nat.zero_le _,by simpa [patchV] using h2⟩
 | n+1,ds,[],K,h=>h.elim
 | n+1,ds,d::l,K,h=>by
  obtain ⟨h1,h2⟩:=overK_spec (n:=n) (ds:=ds) (l:=l) (K:=fun l=>K (d::l)) h
  refine ⟨by simpa using h1,?_⟩
  have e:n+1+ds.length=(n+ds.length)+1:=by omega
  simpa [patchV,e] using h2
def strVK (l:List UInt8):(List V→Prop)→Prop:=@List.rec UInt8 (fun _=>(List V→Prop)→Prop) (fun K=>K []) (fun b _ ih K=>natK b.toNat fun n=>ih fun l=>K (.sc (.int .u8 (.ofNat n))::l)) l
theorem strVK_spec:∀{l:List UInt8} {K:List V→Prop},strVK l K→K (l.map fun b=>.sc (.int .u8 b.toNat))
 | [],_,h=>h
 | b::l,K,h=>strVK_spec (l:=l) (K:=fun l=>K (.sc (.int .u8 b.toNat)::l)) (Dz (K:=fun n=>strVK l fun l=>K (.sc (.int .u8 (.ofNat n))::l)) h)
noncomputable def srcK (m:Tr Blk)(sz:Nat)(v:V)(K:Nat→List V→Prop):Prop:=match v with
 | .sc (.string s)=>match Nat.beq sz 1 with
  | true=>natK (lenB s.data.toList) fun n=>strVK s.data.toList fun l=>K n l
  | false=>False
 | .sc (.slice none 0 0)=>K 0 []
 | .sl id off sz' n _=>match Nat.beq sz' sz with
  | true=>match Nat.beq n 0 with
   | true=>K 0 []
   | false=>match m.get id with
    | some b=>match b.cs with
     | some cs=>dropK off cs fun l=>takeK (Nat.mul n sz) l fun l=>K n l
     | none=>False
    | none=>False
  | false=>False
 | _=>False
theorem srcK_spec {m:Tr Blk}{sz:Nat}{v:V}{K:Nat→List V→Prop}(h:srcK m sz v K):∃k ds,srcV m.get sz v=some (k,ds)∧K k ds:=by
 unfold srcK at h
 split at h
 ·rename_i s
  split at h
  ·rename_i hb
   have hb:=Nat.eq_of_beq_eq_true hb
   have h:=Dz h
   have h:=strVK_spec (K:=fun l=>K (lenB s.data.toList) l) h
   rw [←size_eq] at h
   exact ⟨_,_,by simp [srcV,hb,strV],h⟩
  ·exact h.elim
 ·exact ⟨_,_,rfl,h⟩
 ·rename_i id off sz' n c
  split at h
  ·rename_i hb
   obtain rfl:=Nat.eq_of_beq_eq_true hb
   split at h
   ·rename_i h0
    have h0:=Nat.eq_of_beq_eq_true h0
    exact ⟨_,_,by simp [srcV,h0],h⟩
   ·rename_i h0
    have h0:¬n=0:=by intro e;rw [e,Nat.beq_refl] at h0;cases h0
    split at h
    ·rename_i b hbk
     split at h
     ·rename_i cs hcs
      obtain ⟨q1,h⟩:=dropK_spec h
      obtain ⟨q2,h⟩:=takeK_spec h
      rw [List.length_drop] at q2
      have q2:n*sz'≤cs.length-off:=q2
      exact ⟨_,_,by simp only [srcV,if_true,if_neg h0,hbk,hcs];rw [if_pos (by omega)];rfl,h⟩
     ·exact h.elim
    ·exact h.elim
  ·exact h.elim
 ·exact h.elim
theorem src_zero {h:Hp}{sz:Nat}{v:V}{ds:List V}(hs:srcV h sz v=some (0,ds)):ds= []:=by
 unfold srcV at hs
 split at hs
 ·rename_i st
  split at hs
  ·injection hs with hs;injection hs with h1 h2
   rw [←h2]
   have:st.data.toList= []:=List.length_eq_zero_iff.1 (by simpa using h1)
   simp [strV,this]
  ·cases hs
 ·injection hs with hs;injection hs with h1 h2;exact h2.symm
 ·split at hs
  ·split at hs
   ·injection hs with hs;injection hs with h1 h2;exact h2.symm
   ·rename_i hne
    split at hs
    ·split at hs
     ·split at hs
      ·injection hs with hs;injection hs with h1 h2;exact absurd h1 hne
      ·cases hs
     ·cases hs
    ·cases hs
  ·cases hs
 ·cases hs
def kindK (P:Program)(tx:TypeId)(v:V)(p:Prop):Prop:=match v with
 | .sc (.string _)=>match P.underlying tx with
  | some .string=>p
  | _=>False
 | _=>match P.underlying tx with
  | some (.slice _)=>p
  | _=>False
theorem kindK_spec {P:Program}{tx:TypeId}{v:V}{p:Prop}(h:kindK P tx v p):srcKind P tx v∧p:=by
 unfold kindK at h
 split at h
 ·split at h
  ·rename_i hu;exact ⟨hu,h⟩
  ·exact h.elim
 ·rename_i hn
  split at h
  ·rename_i e hu
   refine ⟨?_,h⟩
   unfold srcKind
   split
   ·exact absurd rfl (hn _)
   ·exact ⟨e,hu⟩
  ·exact h.elim
def smallK (n bytes:Nat)(p:Prop):Prop:=match Nat.ble n maxLen with
 | true=>match Nat.ble (Nat.mul n bytes) 140737488355328 with
  | true=>p
  | false=>False
 | false=>False
theorem smallK_spec {n bytes:Nat}{p:Prop}(h:smallK n bytes p):n≤maxLen∧n*bytes≤140737488355328∧p:=by
 unfold smallK at h
 split at h
 ·rename_i h1
  split at h
  ·rename_i h2;exact ⟨Nat.le_of_ble_eq_true h1,Nat.le_of_ble_eq_true h2,h⟩
  ·exact h.elim
 ·exact h.elim
noncomputable def appendK (P:Program)(T tx:TypeId)(u vy:V)(m:Tr Blk)(n:Nat)(K:V→Tr Blk→Nat→Prop):Prop:=match Cf P T with
 | some (e,sz,bytes)=>kindK P tx vy (srcK m sz vy fun k ds=>match u with
  | .sc (.slice none 0 0)=>match Nat.beq k 0 with
   | true=>K (.sc (.slice none 0 0)) m n
   | false=>smallK k bytes (newK m n (.cells ds) fun m n'=>K (.sl n 0 sz k none) m n')
  | .sl id off sz' l c=>match Nat.beq sz' sz with
   | true=>match m.get id with
    | some b=>match b with
     | .cells cs=>match Nat.ble (Nat.add off (Nat.mul l sz)) (lenN cs) with
      | true=>match Nat.beq k 0 with
       | true=>K (.sl id off sz' l c) m n
       | false=>match c with
        | some c=>match Nat.ble (Nat.add l k) c with
         | true=>overK ds (Nat.add off (Nat.mul l sz)) cs fun cs=>AQ m id (some (.cells cs)) fun m=>natK (Nat.add l k) fun l=>K (.sl id off sz l (some c)) m n
         | false=>smallK (Nat.add l k) bytes (dropK off cs fun cs=>takeK (Nat.mul l sz) cs fun cs=>appK cs ds fun cs=>newK m n (.cells cs) fun m n'=>natK (Nat.add l k) fun l=>K (.sl n 0 sz l none) m n')
        | none=>smallK (Nat.add l k) bytes (dropK off cs fun cs=>takeK (Nat.mul l sz) cs fun cs=>appK cs ds fun cs=>AQ m id none fun m=>newK m n (.cells cs) fun m n'=>natK (Nat.add l k) fun l=>K (.sl n 0 sz l none) m n')
      | false=>False
     | .ro cs=>match Nat.ble (Nat.add off (Nat.mul l sz)) (lenN cs) with
      | true=>match c with
       | some c=>match ltB c (Nat.add l k) with
        | true=>smallK (Nat.add l k) bytes (dropK off cs fun cs=>takeK (Nat.mul l sz) cs fun cs=>appK cs ds fun cs=>newK m n (.cells cs) fun m n'=>natK (Nat.add l k) fun l=>K (.sl n 0 sz l none) m n')
        | false=>False
       | none=>False
      | false=>False
     | _=>False
    | none=>False
   | false=>False
  | _=>False)
 | none=>False
section
variable {P:Program} {o:Oper} {t:Tr V} {m:Tr Blk} {n:Nat} {K:V→Tr Blk→Nat→Prop}
set_option maxHeartbeats 2000000 in
theorem appendK_spec {c:Call}{x y:Operand}{T tx:TypeId}{u vy:V}(hop:o.op=.call c)(hc:c.callee=.builtin .append)(hx:c.args.toList= [x,y])(hT:c.argTypes.toList= [T,tx])(hu:Am (stT t .leaf 0) x=some u)(hy:Am (stT t .leaf 0) y=some vy)(h:appendK P T tx u vy m n K):∃v m' n',MV P o t m.get n v m'.get n'∧K v m' n':=by
 obtain ⟨callee,args,argTypes⟩:=c
 obtain rfl:args = #[x,y]:=Array.ext' (by simpa using hx)
 obtain rfl:argTypes = #[T,tx]:=Array.ext' (by simpa using hT)
 simp only at hc
 subst hc
 have hm1:x∈o.op.operands:=by simp [hop,Op.operands,Call.operands]
 have hm2:y∈o.op.operands:=by simp [hop,Op.operands,Call.operands]
 unfold appendK at h
 split at h
 ·rename_i e sz bytes hfull
  have hq:=kindK_spec h;clear h;obtain ⟨hk,h⟩:=hq
  have hq:=srcK_spec h;clear h;obtain ⟨k,ds,hs,h⟩:=hq
  have pos:Nat.beq k 0=false→0<k:=by
   intro hz
   rcases Nat.eq_zero_or_pos k with e | e
   ·rw [e] at hz;cases hz
   ·exact e
  have zer:Nat.beq k 0=true→srcV m.get sz vy=some (0,[]):=by
   intro hz
   have hz:=Nat.eq_of_beq_eq_true hz
   subst hz
   rw [hs,src_zero hs]
  split at h
  ·split at h
   ·rename_i hz
    exact ⟨_,m,n,fun N s d ha hh hn hdst hd=>by
     have:=r_app0 (s:=s) hop hfull (ha x _ hm1 hu) (.inr rfl) (ha y _ hm2 hy) hk (by rw [hh];exact zer hz) (by intro _ _ _ _ e;cases e) hdst hd
     rw [←hh,←hn];exact this,h⟩
   ·rename_i hz
    have hq:=smallK_spec h;clear h;obtain ⟨h1,h2,h⟩:=hq
    have hq:=newK_spec h;clear h;obtain ⟨m',h3,h⟩:=hq
    exact ⟨_,m',_,fun N s d ha hh hn hdst hd=>by
     have:=r_appN (s:=s) hop hfull (ha x _ hm1 hu) (ha y _ hm2 hy) hk (by rw [hh];exact hs) (pos hz) h1 h2 hdst hd
     rw [h3,←hh,←hn];exact this,h⟩
  ·rename_i id off sz' l c
   split at h
   ·rename_i he
    obtain rfl:=Nat.eq_of_beq_eq_true he
    split at h
    ·rename_i b hb
     split at h
     ·rename_i cs
      split at h
      ·rename_i hle
       have hle:off+l*sz'≤cs.length:=by have:=Nat.le_of_ble_eq_true hle;rwa [lenN_eq] at this
       split at h
       ·rename_i hz
        exact ⟨_,m,n,fun N s d ha hh hn hdst hd=>by
         have:=r_app0 (s:=s) hop hfull (ha x _ hm1 hu) (.inl ⟨_,_,_,_,rfl⟩) (ha y _ hm2 hy) hk (by rw [hh];exact zer hz) (by intro _ _ _ _ e;injection e with e1 e2 e3 e4 e5;subst e1 e2 e4;exact ⟨cs,by rw [hh];exact hb,hle⟩) hdst hd
         rw [←hh,←hn];exact this,h⟩
       ·rename_i hz
        split at h
        ·rename_i c
         split at h
         ·rename_i hroom
          have hq:=overK_spec h;clear h;obtain ⟨q1,h⟩:=hq
          have hq:=Bh h;clear h;obtain ⟨m',q2,h⟩:=hq
          replace h:=Dz (K:=fun l=>K (.sl id off sz' l (some c)) m' n) h
          exact ⟨_,m',n,fun N s d ha hh hn hdst hd=>by
           have:=r_appR (s:=s) hop hfull (ha x _ hm1 hu) (ha y _ hm2 hy) hk (by rw [hh];exact hs) (by rw [hh];exact hb) hle (Nat.le_of_ble_eq_true hroom) hdst hd
           rw [get_hset q2,←hh,←hn];exact this,h⟩
         ·rename_i hroom
          have hgt:c<l+k:=by
           rcases Nat.lt_or_ge c (l+k) with q | q
           ·exact q
           ·exact absurd (Nat.ble_eq_true_of_le q) (by intro e;have e:Nat.ble (l+k) c=true:=e;rw [show Nat.ble (Nat.add l k) c=Nat.ble (l+k) c from rfl,e] at hroom;cases hroom)
          have hq:=smallK_spec h;clear h;obtain ⟨h1,h2,h⟩:=hq
          have hq:=dropK_spec h;clear h;obtain ⟨_,h⟩:=hq
          have hq:=takeK_spec h;clear h;obtain ⟨_,h⟩:=hq
          replace h:=appK_spec h
          have hq:=newK_spec h;clear h;obtain ⟨m',h3,h⟩:=hq
          replace h:=Dz (K:=fun l=>K (.sl n 0 sz' l none) m' (n+1)) h
          exact ⟨_,m',_,fun N s d ha hh hn hdst hd=>by
           have:=r_appG (s:=s) hop hfull (ha x _ hm1 hu) (ha y _ hm2 hy) hk (by rw [hh];exact hs) (by rw [hh];exact hb) rfl hle hgt h1 h2 hdst hd
           rw [h3,←hh,←hn];exact this,h⟩
        ·have hq:=smallK_spec h;clear h;obtain ⟨h1,h2,h⟩:=hq
         have hq:=dropK_spec h;clear h;obtain ⟨_,h⟩:=hq
         have hq:=takeK_spec h;clear h;obtain ⟨_,h⟩:=hq
         replace h:=appK_spec h
         have hq:=Bh h;clear h;obtain ⟨m1,q2,h⟩:=hq
         have hq:=newK_spec h;clear h;obtain ⟨m',h3,h⟩:=hq
         replace h:=Dz (K:=fun l=>K (.sl n 0 sz' l none) m' (n+1)) h
         exact ⟨_,m',_,fun N s d ha hh hn hdst hd=>by
          have:=r_appU (s:=s) hop hfull (ha x _ hm1 hu) (ha y _ hm2 hy) hk (by rw [hh];exact hs) (by rw [hh];exact hb) hle h1 h2 hdst hd
          rw [h3,get_hset q2,←hh,←hn];exact this,h⟩
      ·exact h.elim
     ·rename_i cs
      split at h
      ·rename_i hle
       have hle:off+l*sz'≤cs.length:=by have:=Nat.le_of_ble_eq_true hle;rwa [lenN_eq] at this
       split at h
       ·rename_i c
        split at h
        ·rename_i hgt
         have hq:=smallK_spec h;clear h;obtain ⟨h1,h2,h⟩:=hq
         have hq:=dropK_spec h;clear h;obtain ⟨_,h⟩:=hq
         have hq:=takeK_spec h;clear h;obtain ⟨_,h⟩:=hq
         replace h:=appK_spec h
         have hq:=newK_spec h;clear h;obtain ⟨m',h3,h⟩:=hq
         replace h:=Dz (K:=fun l=>K (.sl n 0 sz' l none) m' (n+1)) h
         exact ⟨_,m',_,fun N s d ha hh hn hdst hd=>by
          have:=r_appG (s:=s) hop hfull (ha x _ hm1 hu) (ha y _ hm2 hy) hk (by rw [hh];exact hs) (by rw [hh];exact hb) rfl hle (ltB_spec hgt) h1 h2 hdst hd
          rw [h3,←hh,←hn];exact this,h⟩
        ·exact h.elim
       ·exact h.elim
      ·exact h.elim
     ·exact h.elim
    ·exact h.elim
   ·exact h.elim
  ·exact h.elim
 ·exact h.elim
end
end Go.Rn
end
section
namespace Go.Rn
open Go.RowKit
open Go.Vm (AX CV DV Bo Cf Dj Ef)
set_option linter.unusedSectionVars false
variable [Cx]
def repK (n:Nat)(z:V):(List V→Prop)→Prop:=@Nat.rec (fun _=>(List V→Prop)→Prop) (fun K=>K []) (fun _ ih K=>ih fun l=>K (z::l)) n
theorem repK_spec:∀{n:Nat} {z:V} {K:List V→Prop},repK n z K→K (List.replicate n z)
 | 0,_,_,h=>h
 | n+1,z,K,h=>repK_spec (n:=n) (K:=fun l=>K (z::l)) h
def zerosK (zs:List V)(n:Nat)(K:List V→Prop):Prop:=match zs with
 | [z]=>repK n z K
 | zs=>spK ((List.range n).map fun j=>zs.getD (j % zs.length) default) K
theorem zerosK_spec {zs:List V}{n:Nat}{K:List V→Prop}(h:zerosK zs n K):K ((List.range n).map fun j=>zs.getD (j % zs.length) default):=by
 unfold zerosK at h
 split at h
 ·rename_i z
  have:=repK_spec h
  have e:((List.range n).map fun j=>[z].getD (j % [z].length) default)=List.replicate n z:=by
   rw [List.eq_replicate_iff]
   refine ⟨by simp,fun b hb=>?_⟩
   obtain ⟨j,_,rfl⟩:=List.mem_map.1 hb
   simp [Nat.mod_one]
  rw [e];exact this
 ·exact spK_spec h
def cellsK (v:V)(K:List V→Prop):Prop:=match v with
 | .agg cs=>K cs
 | .tup _=>False
 | v=>K [v]
theorem cellsK_spec {v:V}{K:List V→Prop}(h:cellsK v K):(∀cs,v≠.tup cs)∧K v.cells:=by
 cases v with
 | tup cs=>exact h.elim
 | agg cs=>exact ⟨(by intro cs e;cases e),h⟩
 | _=>exact ⟨(by intro cs e;cases e),h⟩
noncomputable def xsto (P:Program)(o:Oper)(t:Tr V)(m:Tr Blk)(K:Tr Blk→Prop):Prop:=match o.op with
 | .store T x y=>ovK t x fun u=>ovK t y fun v=>match u with
  | .ptr id off=>match m.get id with
   | some (.cells cs)=>cellsK v fun ds=>match Bo P T with
    | some (_,k)=>match Nat.beq (lenN ds) k with
     | true=>patchK ds off cs fun cs=>AQ m id (some (.cells cs)) K
     | false=>False
    | none=>False
   | _=>False
  | _=>False
 | .entryStore MT x y z=>ovK t x fun u=>ovK t y fun w=>ovK t z fun v=>match u with
  | .mp id=>match m.get id with
   | some (.map es)=>match w with
    | .sc (.int _ (.ofNat j))=>match ltB j (lenE es) with
     | true=>AQ m id (some (.map (setE es j v))) K
     | false=>False
    | _=>False
   | _=>False
  | _=>False
 | _=>False
noncomputable def xmem (P:Program)(o:Oper)(t:Tr V)(m:Tr Blk)(n:Nat)(K:V→Tr Blk→Nat→Prop):Prop:=match o.op with
 | .box T x=>ovK t x fun v=>cellsK v fun cs=>newK m n (.cells cs) fun m n'=>K (.ptr n 0) m n'
 | .alloc T=>match zeroV P T with
  | some cs=>spK cs fun cs=>newK m n (.cells cs) fun m n'=>K (.ptr n 0) m n'
  | none=>False
 | .buildSlice T len parts=>match Cf P T with
  | some (e,sz,bytes)=>partsK t parts.toList fun ds=>match litV P e sz len ds with
   | some cs=>match Nat.ble (Nat.mul len sz) 16777216 with
    | true=>spK cs fun cs=>newK m n (.cells cs) fun m n'=>K (.sl n 0 sz len (some len)) m n'
    | false=>False
   | none=>False
  | none=>False
 | .makeSlice T x y=>match Cf P T with
  | some (e,sz,bytes)=>ovK t x fun u=>ovK t y fun v=>match u,v with
   | .sc (.int _ (.ofNat l)),.sc (.int _ (.ofNat c))=>match zeroV P e with
    | some zs=>match Nat.ble l c with
     | true=>match Nat.ble (Nat.mul bytes c) 281474976710656 with
      | true=>match Nat.ble c maxLen with
       | true=>natK (Nat.mul c sz) fun k=>zerosK zs k fun cs=>newK m n (.cells cs) fun m n'=>K (.sl n 0 sz l (some c)) m n'
       | false=>False
      | false=>False
     | false=>False
    | none=>False
   | _,_=>False
  | none=>False
 | .range T x=>ovK t x fun v=>match P.underlying T with
  | some (.map _ _)=>match v with
   | .mp id=>match m.get id with
    | some (.map es)=>match es with
     | []=>newK m n (.iter (some id) 0 0) fun m n'=>K (.it n) m n'
     | [_]=>newK m n (.iter (some id) 1 0) fun m n'=>K (.it n) m n'
     | _=>False
    | _=>False
   | .sc (.map none)=>newK m n (.iter none 0 0) fun m n'=>K (.it n) m n'
   | _=>False
  | _=>False
 | .makeMap T none=>newK m n (.map []) fun m n'=>K (.mp n) m n'
 | .mapEntry MT x y=>ovK t x fun v=>ovK t y fun k=>toK k fun u=>match v with
  | .mp id=>match m.get id with
   | some (.map es)=>match P.underlying MT with
    | some (.map KT ET)=>match AX P (Instr.checkKey false 10000 KT u) with
     | some _=>match P.underlying KT with
      | some (.struct _)=>match findV P KT u es 0 with
       | some none=>match P.info? ET with
        | some i=>match i.zero with
         | some zv=>match ofV zv with
          | some z=>natK (lenE es) fun l=>AQ m id (some (.map (es ++ [(k,z)]))) fun m=>K (.tup [z,.sc (.int .i64 (.ofNat l))]) m n
          | none=>False
         | none=>False
        | none=>False
       | _=>False
      | _=>False
     | none=>False
    | _=>False
   | _=>False
  | _=>False
 | .slice T x lo hi none=>ovK t x fun v=>match v with
  | .sl id off sz l none=>match Dj P T with
   | some sz'=>match Nat.beq sz sz' with
    | true=>match ltB 0 sz with
     | true=>bndK t lo 0 fun a=>bndK t hi l fun b=>match Nat.beq a l with
      | true=>match Nat.beq b l with
       | true=>AQ m n none fun m=>natK (Nat.succ n) fun n'=>K (.sl n 0 sz 0 none) m n'
       | false=>False
      | false=>False
     | false=>False
    | false=>False
   | none=>False
  | _=>False
 | .call c=>match c.callee with
  | .builtin .append=>match c.args.toList,c.argTypes.toList with
   | [x,y],[T,tx]=>ovK t x fun u=>ovK t y fun vy=>appendK P T tx u vy m n K
   | _,_=>False
  | _=>False
 | _=>False
section
variable {P:Program} {o:Oper} {t:Tr V} {m:Tr Blk} {n:Nat}
theorem xsto_spec {K:Tr Blk→Prop}(h:xsto P o t m K):∃m',MS P o t m.get n m'.get n∧K m':=by
 unfold xsto at h
 split at h
 ·rename_i T x y hop
  obtain ⟨u,h1,h2⟩:=Bj h
  obtain ⟨v,h3,h4⟩:=Bj h2
  clear h h2
  split at h4
  ·rename_i id off
   split at h4
   ·rename_i cs hb
    obtain ⟨h5,h6⟩:=cellsK_spec h4
    clear h4
    split at h6
    ·rename_i ag k hsh
     split at h6
     ·rename_i hl
      have hl:=Nat.eq_of_beq_eq_true hl
      rw [lenN_eq] at hl
      obtain ⟨h7,h8⟩:=Ey h6
      obtain ⟨m',q2,h9⟩:=Bh h8
      exact ⟨m',fun N s ha hh hn hdst=>by
       have:=r_store (s:=s) (N:=N) hop (ha x _ (by simp [hop,Op.operands]) (h1 _ _)) (by rw [hh];exact hb) (ha y _ (by simp [hop,Op.operands]) (h3 _ _)) h5 hsh hl h7 hdst
       rw [get_hset q2,←hh,←hn];exact this,h9⟩
     ·exact h6.elim
    ·exact h6.elim
   ·exact h4.elim
  ·exact h4.elim
 ·rename_i MT x y z hop
  obtain ⟨u,h1,h2⟩:=Bj h
  obtain ⟨w,h3,h4⟩:=Bj h2
  obtain ⟨v,h5,h6⟩:=Bj h4
  clear h h2 h4
  split at h6
  ·rename_i id
   split at h6
   ·rename_i es hb
    split at h6
    ·rename_i kd j
     split at h6
     ·rename_i hl
      have hl:=ltB_spec hl
      rw [lenE_eq] at hl
      obtain ⟨m',q2,h9⟩:=Bh h6
      exact ⟨m',fun N s ha hh hn hdst=>by
       have:=r_entrySto (P:=P) (s:=s) (N:=N) hop (ha x _ (by simp [hop,Op.operands]) (h1 _ _)) (by rw [hh];exact hb) (ha y _ (by simp [hop,Op.operands]) (h3 _ _)) hl (ha z _ (by simp [hop,Op.operands]) (h5 _ _)) hdst
       rw [get_hset q2,←hh,←hn];exact this,h9⟩
     ·exact h6.elim
    ·exact h6.elim
   ·exact h6.elim
  ·exact h6.elim
 ·exact h.elim
set_option maxHeartbeats 2000000 in
theorem xmem_spec {K:V→Tr Blk→Nat→Prop}(h:xmem P o t m n K):∃v m' n',MV P o t m.get n v m'.get n'∧K v m' n':=by
 unfold xmem at h
 split at h
 ·rename_i T x hop
  obtain ⟨v,h1,h2⟩:=Bj h
  obtain ⟨h3,h4⟩:=cellsK_spec h2
  obtain ⟨m',q,h5⟩:=newK_spec h4
  exact ⟨_,m',_,fun N s d ha hh hn hdst hd=>by
   have:=r_box (P:=P) (s:=s) hop (ha x _ (by simp [hop,Op.operands]) (h1 _ _)) h3 hdst hd
   rw [q,←hh,←hn];exact this,h5⟩
 ·rename_i T hop
  split at h
  ·rename_i cs hz
   have h2:=spK_spec h
   obtain ⟨m',q,h5⟩:=newK_spec h2
   exact ⟨_,m',_,fun N s d ha hh hn hdst hd=>by
    have:=r_alloc (P:=P) (s:=s) hop hz hdst hd
    rw [q,←hh,←hn];exact this,h5⟩
  ·exact h.elim
 ·rename_i T len parts hop
  split at h
  ·rename_i e sz bytes hfull
   obtain ⟨ds,q1,q2⟩:=partsK_spec h
   clear h
   split at q2
   ·rename_i cs hcs
    split at q2
    ·rename_i hle
     have h2:=spK_spec q2
     obtain ⟨m',q,h5⟩:=newK_spec h2
     exact ⟨_,m',_,fun N s d ha hh hn hdst hd=>by
      have:=r_lit (P:=P) (s:=s) hop hfull (q1 s fun y v hy=>ha y v (by simp [hop,Op.operands];simpa using hy)) hcs (Nat.le_of_ble_eq_true hle) hdst hd
      rw [q,←hh,←hn];exact this,h5⟩
    ·exact q2.elim
   ·exact q2.elim
  ·exact h.elim
 ·rename_i T x y hop
  split at h
  ·rename_i e sz bytes hfull
   obtain ⟨u,h1,h2⟩:=Bj h
   obtain ⟨v,h3,h4⟩:=Bj h2
   clear h h2
   split at h4
   ·rename_i kl l kc c
    split at h4
    ·rename_i zs hz
     split at h4
     ·rename_i hlc
      split at h4
      ·rename_i hb
       split at h4
       ·rename_i hm
        have h5:=Dz h4
        have h6:=zerosK_spec h5
        obtain ⟨m',q,h7⟩:=newK_spec h6
        exact ⟨_,m',_,fun N s d ha hh hn hdst hd=>by
         have:=r_make (P:=P) (s:=s) hop hfull (ha x _ (by simp [hop,Op.operands]) (h1 _ _)) (ha y _ (by simp [hop,Op.operands]) (h3 _ _)) hz (Nat.le_of_ble_eq_true hlc) (Nat.le_of_ble_eq_true hb) (Nat.le_of_ble_eq_true hm) hdst hd
         rw [q,←hh,←hn];exact this,h7⟩
       ·exact h4.elim
      ·exact h4.elim
     ·exact h4.elim
    ·exact h4.elim
   ·exact h4.elim
  ·exact h.elim
 ·rename_i T x hop
  obtain ⟨v,h1,h2⟩:=Bj h
  clear h
  have hm:x∈o.op.operands:=by simp [hop,Op.operands]
  split at h2
  ·rename_i KT ET hT
   split at h2
   ·rename_i id
    split at h2
    ·rename_i es hes
     split at h2
     ·obtain ⟨m',q,h5⟩:=newK_spec h2
      exact ⟨_,m',_,fun N s d ha hh hn hdst hd=>by
       have:=r_range (P:=P) (s:=s) hop (ha x _ hm (h1 _ _)) (by rw [hh];exact hes) hT (by simp) hdst hd
       rw [q,←hh,←hn];exact this,h5⟩
     ·obtain ⟨m',q,h5⟩:=newK_spec h2
      exact ⟨_,m',_,fun N s d ha hh hn hdst hd=>by
       have:=r_range (P:=P) (s:=s) hop (ha x _ hm (h1 _ _)) (by rw [hh];exact hes) hT (by simp) hdst hd
       rw [q,←hh,←hn];exact this,h5⟩
     ·exact h2.elim
    ·exact h2.elim
   ·obtain ⟨m',q,h5⟩:=newK_spec h2
    exact ⟨_,m',_,fun N s d ha hh hn hdst hd=>by
     have:=r_range0 (P:=P) (s:=s) hop (ha x _ hm (h1 _ _)) hT hdst hd
     rw [q,←hh,←hn];exact this,h5⟩
   ·exact h2.elim
  ·exact h2.elim
 ·rename_i T hop
  obtain ⟨m',q,h5⟩:=newK_spec h
  exact ⟨_,m',_,fun N s d ha hh hn hdst hd=>by
   have:=r_map (P:=P) (s:=s) hop hdst hd
   rw [q,←hh,←hn];exact this,h5⟩
 ·rename_i MT x y hop
  obtain ⟨v,h1,h2⟩:=Bj h
  obtain ⟨k,h3,h4⟩:=Bj h2
  obtain ⟨u,h5,h6⟩:=toK_spec h4
  clear h h2 h4
  split at h6
  ·rename_i id
   split at h6
   ·rename_i es hb
    split at h6
    ·rename_i KT ET hT
     split at h6
     ·rename_i hc
      split at h6
      ·rename_i fs hK
       split at h6
       ·rename_i hf
        split at h6
        ·rename_i i hi
         split at h6
         ·rename_i zv hz
          split at h6
          ·rename_i z hzv
           have h7:=Dz h6
           obtain ⟨m',q2,h9⟩:=Bh h7
           rw [lenE_eq] at h9
           exact ⟨_,m',n,fun N s d ha hh hn hdst hd=>by
            have:=r_entry (P:=P) (s:=s) (N:=N) hop (ha x _ (by simp [hop,Op.operands]) (h1 _ _)) (by rw [hh];exact hb) (ha y _ (by simp [hop,Op.operands]) (h3 _ _)) h5 hT hK hc hf hi hz hzv hdst hd
            rw [get_hset q2,←hh,←hn];exact this,h9⟩
          ·exact h6.elim
         ·exact h6.elim
        ·exact h6.elim
       ·exact h6.elim
      ·exact h6.elim
     ·exact h6.elim
    ·exact h6.elim
   ·exact h6.elim
  ·exact h6.elim
 ·rename_i T x lo hi hop
  obtain ⟨u,h1,h2⟩:=Bj h
  clear h
  have hlo:∀y,lo=some y→y∈o.op.operands:=by rintro y rfl;simp [hop,Op.operands]
  have hhi:∀y,hi=some y→y∈o.op.operands:=by rintro y rfl;simp [hop,Op.operands]
  split at h2
  ·rename_i id off sz l
   split at h2
   ·rename_i sz' hs
    split at h2
    ·rename_i he
     obtain rfl:=Nat.eq_of_beq_eq_true he
     split at h2
     ·rename_i h0
      obtain ⟨a,q1,h3⟩:=Et o h2
      obtain ⟨b,q2,h4⟩:=Et o h3
      clear h2 h3
      split at h4
      ·rename_i ea
       obtain rfl:=Nat.eq_of_beq_eq_true ea
       split at h4
       ·rename_i eb
        obtain rfl:=Nat.eq_of_beq_eq_true eb
        obtain ⟨m',q,h5⟩:=Bh h4
        have h6:=Dz (K:=fun n'=>K (.sl n 0 sz 0 none) m' n') h5
        exact ⟨_,m',_,fun N s d ha hh hn hdst hd=>by
         have:=r_sliceE (P:=P) (s:=s) hop (ha x _ (by simp [hop,Op.operands]) (h1 _ _)) hs (q1 s ha hlo) (q2 s ha hhi) (ltB_spec h0) hdst hd
         rw [get_hset q,←hh,←hn];exact this,h6⟩
       ·exact h4.elim
      ·exact h4.elim
     ·exact h2.elim
    ·exact h2.elim
   ·exact h2.elim
  ·exact h2.elim
 ·rename_i c hop
  split at h
  ·rename_i hc
   split at h
   ·rename_i x y T tx hx hT
    obtain ⟨u,h1,h2⟩:=Bj h
    obtain ⟨vy,h3,h4⟩:=Bj h2
    exact appendK_spec hop hc hx hT (h1 _ _) (h3 _ _) h4
   ·exact h.elim
  ·exact h.elim
 ·exact h.elim
end
end Go.Rn
end
section
namespace Go.Rn
open Go.RowKit
open Go.Vm (AX CV DV Bo Cf Dj Ef)
abbrev CK:=FuncId→List V→Tr Blk→Nat→(V→Tr Blk→Nat→Prop)→Prop
noncomputable def endK (o:Oper)(t:Tr V)(p q:Prop):Prop:=match o.op with
 | .slice T x (some lo) hi none=>ovK t x fun v=>match v with
  | .sl _ _ _ n none=>match Nat.beq n 0 with
   | true=>q
   | false=>ovK t lo fun w=>match w with
    | .sc (.int _ (.ofNat l))=>match Nat.beq l n with
     | true=>p
     | false=>q
    | _=>q
  | _=>q
 | _=>q
def unbB (v:V)(ih:(List UInt8→Prop)→Prop)(K:List UInt8→Prop):Prop:=match v with
 | .sc (.int .u8 (.ofNat k))=>match Nat.ble k 255 with
  | true=>ih fun l=>K (UInt8.ofNat k::l)
  | false=>False
 | _=>False
def unbK (l:List V):(List UInt8→Prop)→Prop:=@List.rec V (fun _=>(List UInt8→Prop)→Prop) (fun K=>K []) (fun v _ ih=>unbB v ih) l
noncomputable def tosK (P:Program)(o:Oper)(t:Tr V)(m:Tr Blk)(K:V→Prop)(q:Prop):Prop:=match o.op with
 | .convert T T' x=>ovK t x fun v=>match v with
  | .sl id off sz n _=>match P.underlying T,P.underlying T' with
   | some (.slice e),some .string=>match P.underlying e with
    | some (.int .u8)=>match Nat.beq sz 1 with
     | true=>match m.get id with
      | some b=>match b.cs with
       | some cs=>unbK ((cs.drop off).take n) fun l=>match Nat.beq (lenB l) n with
        | true=>K (.sc (.string ⟨⟨l⟩⟩))
        | false=>False
       | none=>False
      | none=>False
     | false=>False
    | _=>False
   | _,_=>False
  | .sc (.slice none 0 0)=>match P.underlying T,P.underlying T' with
   | some (.slice e),some .string=>match P.underlying e with
    | some (.int .u8)=>K (.sc (.string ⟨⟨[]⟩⟩))
    | _=>False
   | _,_=>False
  | _=>q
 | _=>q
noncomputable def xop (P:Program)(ck:CK)(N:Nat)(o:Oper)(t:Tr V)(m:Tr Blk)(n:Nat)(K:Tr V→Tr Blk→Nat→Prop):Prop:=match o.dst with
 | none=>xsto P o t m fun m=>K t m n
 | some d=>match Nat.ble N d with
  | true=>False
  | false=>match o.op with
   | .call c=>match c.callee with
    | .value f=>ovK t f fun g=>match g with
     | .fn f caps=>opsK t c.args.toList fun vs=>appK vs caps fun vs=>ck f vs m n fun v m n=>AQ t d (some v) fun t=>K t m n
     | _=>False
    | .builtin .append=>xmem P o t m n fun v m n=>AQ t d (some v) fun t=>K t m n
    | _=>xval P o t m fun v=>AQ t d (some v) fun t=>K t m n
   | .box _ _=>xmem P o t m n fun v m n=>AQ t d (some v) fun t=>K t m n
   | .alloc _=>xmem P o t m n fun v m n=>AQ t d (some v) fun t=>K t m n
   | .buildSlice _ _ _=>xmem P o t m n fun v m n=>AQ t d (some v) fun t=>K t m n
   | .makeSlice _ _ _=>xmem P o t m n fun v m n=>AQ t d (some v) fun t=>K t m n
   | .makeMap _ _=>xmem P o t m n fun v m n=>AQ t d (some v) fun t=>K t m n
   | .range _ _=>xmem P o t m n fun v m n=>AQ t d (some v) fun t=>K t m n
   | .mapEntry _ _ _=>xmem P o t m n fun v m n=>AQ t d (some v) fun t=>K t m n
   | .convert _ _ _=>tosK P o t m (fun v=>AQ t d (some v) fun t=>K t m n) (xval P o t m fun v=>AQ t d (some v) fun t=>K t m n)
   | .slice _ _ _ _ _=>endK o t (xmem P o t m n fun v m n=>AQ t d (some v) fun t=>K t m n) (xval P o t m fun v=>AQ t d (some v) fun t=>K t m n)
   | _=>xval P o t m fun v=>AQ t d (some v) fun t=>K t m n
noncomputable def gK (all:Array Oper)(o:Oper)(t:Tr V)(K:Bool→Prop):Prop:=match o.guard with
 | none=>K true
 | some (j,want)=>match all[j]? with
  | some oj=>match oj.dst with
   | some u=>match t.get u with
    | some (.sc (.bool b))=>match b,want with
     | true,true=>K true
     | false,false=>K true
     | true,false=>K false
     | false,true=>K false
    | some (.tup _)=>K false
    | _=>False
   | none=>False
  | none=>False
abbrev XL:=Tr V→Tr Blk→Nat→(Tr V→Tr Blk→Nat→Prop)→Prop
noncomputable def xopsB (P:Program)(ck:CK)(N:Nat)(all:Array Oper)(o:Oper)(rest:XL):XL:=fun t m n K=>gK all o t fun run=>match run with
 | true=>xop P ck N o t m n fun t m n=>rest t m n K
 | false=>match o.dst with
  | some d=>match Nat.ble N d with
   | true=>False
   | false=>AQ t d (some (.tup [])) fun t=>rest t m n K
  | none=>rest t m n K
noncomputable def xops (P:Program)(ck:CK)(N:Nat)(all:Array Oper)(l:List Oper):XL:=@List.rec Oper (fun _=>XL) (fun t m n K=>K t m n) (fun o _ ih=>xopsB P ck N all o ih) l
abbrev XC:=Tr V→Tr Blk→Nat→(Exit→Tr V→Tr Blk→Nat→Prop)→Prop
def scopeK (b:Code)(run:Code→XC)(fuel:Nat):Code→XC:=@Nat.rec (fun _=>Code→XC) (fun _ _ _ _ _=>False) (fun _ again c t m n K=>run c t m n fun e t m n=>match e with
 | .goto l=>match findLabel b l with
  | some rest=>again rest t m n K
  | none=>K (.goto l) t m n
 | .normal=>K .normal t m n
 | .ret=>K .ret t m n
 | .exit i=>K (.exit i) t m n
 | .panic _=>False
 | .outgrown=>False) fuel
def loopK (run:XC)(fuel:Nat):XC:=@Nat.rec (fun _=>XC) (fun _ _ _ _=>False) (fun _ again t m n K=>run t m n fun e t m n=>match e with
 | .normal=>again t m n K
 | .ret=>K .ret t m n
 | .exit i=>K (.exit i) t m n
 | .goto l=>K (.goto l) t m n
 | .panic _=>False
 | .outgrown=>False) fuel
noncomputable def codeB (P:Program)(ck:CK)(dr:Nat→Array Oper→XL)(N:Nat)(ih:Code→XC):Code→XC:=fun c t m n K=>match c with
 | .skip=>K .normal t m n
 | .region _ ops false=>xops P ck N ops ops.toList t m n (K .normal)
 | .region _ ops true=>dr N ops t m n (K .normal)
 | .seq a b=>ih a t m n fun e t m n=>match e with
  | .normal=>ih b t m n K
  | .ret=>K .ret t m n
  | .exit i=>K (.exit i) t m n
  | .goto l=>K (.goto l) t m n
  | .panic _=>False
  | .outgrown=>False
 | .cond c a b=>ovK t c fun v=>match v with
  | .sc (.bool true)=>ih a t m n K
  | .sc (.bool false)=>ih b t m n K
  | _=>False
 | .block id b=>ih b t m n fun e t m n=>match e with
  | .exit i=>match Nat.beq i id with
   | true=>K .normal t m n
   | false=>K (.exit i) t m n
  | .normal=>K .normal t m n
  | .ret=>K .ret t m n
  | .goto l=>K (.goto l) t m n
  | .panic _=>False
  | .outgrown=>False
 | .loop b=>loopK (ih b) 1000000 t m n K
 | .scope b=>scopeK b ih 1000000 b t m n K
 | .exit i=>K (.exit i) t m n
 | .label _=>K .normal t m n
 | .goto l=>K (.goto l) t m n
 | .ret=>K .ret t m n
 | _=>False
noncomputable def xcode (P:Program)(ck:CK)(dr:Nat→Array Oper→XL)(N:Nat)(fuel:Nat):Code→XC:=@Nat.rec (fun _=>Code→XC) (fun _ _ _ _ _=>False) (fun _ ih=>codeB P ck dr N ih) fuel
noncomputable def resB (P:Program)(t:Tr V)(m:Tr Blk)(r:ResultVar)(K:V→Prop):Prop:=match r with
 | .tmp u=>match t.get u with
  | some v=>K v
  | none=>False
 | .cell u T=>match t.get u with
  | some (.ptr id off)=>match m.get id with
   | some b=>match b.cs with
    | some cs=>match Bo P T with
     | some (ag,k)=>partK ag k cs off K
     | none=>False
    | none=>False
   | none=>False
  | _=>False
noncomputable def resK (P:Program)(t:Tr V)(m:Tr Blk)(l:List ResultVar):(List V→Prop)→Prop:=@List.rec ResultVar (fun _=>(List V→Prop)→Prop) (fun K=>K []) (fun r _ ih K=>resB P t m r fun v=>ih fun vs=>K (v::vs)) l
def oneK (vs:List V)(K:V→Prop):Prop:=match vs with
 | [v]=>K v
 | vs=>K (.tup vs)
def argsK (l:List V):Nat→Tr V→(Tr V→Prop)→Prop:=@List.rec V (fun _=>Nat→Tr V→(Tr V→Prop)→Prop) (fun _ t K=>K t) (fun v _ ih k t K=>AQ t k (some v) fun t=>ih (Nat.succ k) t K) l
noncomputable def callB (P:Program)(F:Tr Func)(dr:CK→Nat→Array Oper→XL)(fuel:Nat)(ck:CK):CK:=fun f vs m n K=>match F.get f with
 | some fn=>match fn.body with
  | some c=>match Nat.ble (lenN vs) fn.ntmps with
   | true=>argsK vs 0 .leaf fun t=>xcode P ck (dr ck) fn.ntmps fuel c t m n fun e t m n=>match e with
    | .normal=>resK P t m fn.results.toList fun vs=>oneK vs fun v=>K v m n
    | .ret=>resK P t m fn.results.toList fun vs=>oneK vs fun v=>K v m n
    | _=>False
   | false=>False
  | none=>False
 | none=>False
end Go.Rn
end
section
namespace Go.Rn
open Go.RowKit
open Go.Vm (AX CV DV Bo Cf Dj Ef enters)
set_option linter.unusedSectionVars false
variable [Cx]
def CX (P:Program)(f:FuncId)(args:List V)(h:Hp)(n:Nat)(v:V)(h':Hp)(n':Nat):Prop:=∀base w0 π w us,Mem base w0 π h n w→AB π args=some us→Calls P f us.toArray w fun e w'=>∃π' u,e=.returned u∧π.le π'∧Mem base w0 π' h' n' w'∧Ak π' v=some u
def CKok (P:Program)(ck:CK):Prop:=∀f vs m n K,ck f vs m n K→∃v m' n',enters P f=true∧CX P f vs m.get n v m'.get n'∧K v m' n'
section
variable {P:Program} {N base n:Nat} {w0 w w':World} {π π':Pi} {s s':St} {a:Act} {o:Oper} {ck:CK}
theorem r_call {c:Call}{x:Operand}{g:FuncId}{caps vs:List V}{v:V}{h':Hp}{n':Nat}(hop:o.op=.call c)(hc:c.callee=.value x)(hx:Am s x=some (.fn g caps))(hargs:c.args.toList.mapM (Am s)=some vs)(he:enters P g=true)(hcall:CX P g (vs++caps) s.h s.n v h' n'){d:Nat}(hdst:o.dst=some d)(hd:d<N) :
 Step P N o s { (s.put (some d) v) with h:=h',n:=n' }:=by
 intro base w0 π a w hr K Q hK
 have h1:=hr.get hx
 rw [Ak] at h1
 obtain ⟨us,h2,h3⟩:=Option.map_eq_some_iff.1 h1
 have h4:=hr.getL hargs
 have h5:=concL_append h4 h2
 obtain ⟨callee,args,argTypes⟩:=c
 simp only at hc hargs h4 h5
 subst hc
 have hrun:(execOp a.eval o).run P w=.ok (.enter g (args.toList.map a.eval++us).toArray) w:=by
  unfold enters at he
  split at he
  ·rename_i fn hfn
   simp only [Bool.and_eq_true,bne_iff_ne,ne_eq] at he
   cases hbody:fn.body with
   | none=>rw [hbody] at he;simp at he
   | some c=>
    have e1:(args.map a.eval++us.toArray)=(args.toList.map a.eval++us).toArray:=by
     apply Array.ext';simp
    simp [execOp,hop,resolve,←h3,Deferred.ofValue,invoke,callFunc,hfn,he.1,hbody,e1]
  ·cases he
 unfold Oper.wp
 rw [hrun,Oper.upon_enter,hdst]
 refine (hcall base w0 π w _ hr.mem h5).mono ?_
 rintro e w' ⟨π',u,rfl,hle,hm,hv⟩
 exact hK π' _ w' hle (hr.put hle hm hd hv)
theorem stT_put {t t':Tr V}{m:Tr Blk}{n:Nat}{d:Nat}{v:V}(h:∀u,t'.get u=if u=d then some v else t.get u)(m':Tr Blk)(n':Nat) : { ((stT t m n).put (some d) v) with h:=m'.get,n:=n' }=stT t' m' n':=by
 simp only [stT,St.put]
 congr 1
 funext u
 rw [h]
theorem stT_put0 {t t':Tr V}{m:Tr Blk}{n:Nat}{d:Nat}{v:V}(h:∀u,t'.get u=if u=d then some v else t.get u):(stT t m n).put (some d) v=stT t' m n:=stT_put h m n
theorem vget_mn {t:Tr V}(m:Tr Blk)(n:Nat){x:Operand}{v:V}(h:Am (stT t .leaf 0) x=some v):Am (stT t m n) x=some v:=by
 cases x with
 | tmp u=>exact h
 | const c=>exact h
 | func f=>exact h
 | global g=>exact h
theorem ago_self (o:Oper)(t:Tr V)(m:Tr Blk)(n:Nat):AgO o t (stT t m n):=fun x v _ h=>vget_mn m n h
def XO (P:Program)(N:Nat)(o:Oper)(t:Tr V)(m:Tr Blk)(n:Nat)(K:Tr V→Tr Blk→Nat→Prop):Prop:=∃t' m' n',Step P N o (stT t m n) (stT t' m' n')∧K t' m' n'
theorem xo_val {t:Tr V}{m:Tr Blk}{n d:Nat}{K:Tr V→Tr Blk→Nat→Prop}(hdst:o.dst=some d)(hd:d<N)(h:xval P o t m fun v=>AQ t d (some v) fun t=>K t m n):XO P N o t m n K:=by
 obtain ⟨v,h1,h2⟩:=xval_spec h
 obtain ⟨t',h3,h4⟩:=Bh h2
 have:=h1.1 N (stT t m n) d (ago_self o t m n) rfl hdst hd
 rw [stT_put0 h3] at this
 exact ⟨t',m,n,this,h4⟩
theorem xo_mem {t:Tr V}{m:Tr Blk}{n d:Nat}{K:Tr V→Tr Blk→Nat→Prop}(hdst:o.dst=some d)(hd:d<N)(h:xmem P o t m n fun v m n=>AQ t d (some v) fun t=>K t m n):XO P N o t m n K:=by
 obtain ⟨v,m',n',h1,h2⟩:=xmem_spec h
 obtain ⟨t',h3,h4⟩:=Bh h2
 have:=h1 N (stT t m n) d (ago_self o t m n) rfl rfl hdst hd
 rw [stT_put h3] at this
 exact ⟨t',m',n',this,h4⟩
theorem endK_spec {t:Tr V}{p q:Prop}(h:endK o t p q):p∨q:=by
 unfold endK at h
 split at h
 ·obtain ⟨v,_,h⟩:=Bj h
  split at h
  ·split at h
   ·exact .inr h
   ·obtain ⟨w,_,h⟩:=Bj h
    split at h
    ·split at h
     ·exact .inl h
     ·exact .inr h
    ·exact .inr h
  ·exact .inr h
 ·exact .inr h
theorem unbK_spec:∀{l:List V} {K:List UInt8→Prop},unbK l K→∃bs:List UInt8,l=bs.map (fun b=>V.sc (.int .u8 (b.toNat:Int)))∧K bs
 | [],_,h=>⟨[],rfl,h⟩
 | v::l,K,h=>by
  replace h:unbB v (unbK l) K:=h
  unfold unbB at h
  split at h
  ·rename_i k
   split at h
   ·rename_i hk
    have hk:=Nat.le_of_ble_eq_true hk
    obtain ⟨bs,h1,h2⟩:=unbK_spec h
    refine ⟨UInt8.ofNat k::bs,?_,h2⟩
    rw [h1,List.map_cons,UInt8.toNat_ofNat_of_lt' (by simp [UInt8.size];omega)]
    rfl
   ·exact h.elim
  ·exact h.elim
theorem tosK_spec {t:Tr V}{m:Tr Blk}{K:V→Prop}{q:Prop}(h:tosK P o t m K q):q∨∃v,(∀(N:Nat) (s:St) (d:Nat),AgO o t s→s.h=m.get→o.dst=some d→d<N→Step P N o s (s.put (some d) v))∧K v:=by
 unfold tosK at h
 split at h
 ·rename_i T T' x hop
  have hx:x∈o.op.operands:=by simp [hop,Op.operands]
  obtain ⟨v,h1,h2⟩:=Bj h
  split at h2
  ·rename_i id off sz k c
   split at h2
   ·rename_i e hT hT'
    split at h2
    ·rename_i he
     split at h2
     ·rename_i hs
      obtain rfl:=Nat.eq_of_beq_eq_true hs
      split at h2
      ·rename_i b hb
       split at h2
       ·rename_i cs hcs
        obtain ⟨bs,h3,h4⟩:=unbK_spec h2
        split at h4
        ·rename_i hl
         have hl:=Nat.eq_of_beq_eq_true hl
         rw [lenB_eq] at hl
         exact .inr ⟨_,fun N s d ha hh hdst hd=>r_tostr hop (ha x _ hx (h1 _ _)) hT he hT' (by rw [hh];exact hb) hcs h3 hl hdst hd,h4⟩
        ·exact h4.elim
       ·exact h2.elim
      ·exact h2.elim
     ·exact h2.elim
    ·exact h2.elim
   ·exact h2.elim
  ·split at h2
   ·rename_i e hT hT'
    split at h2
    ·rename_i he
     exact .inr ⟨_,fun N s d ha hh hdst hd=>r_tostr0 hop (ha x _ hx (h1 _ _)) hT he hT' hdst hd,h2⟩
    ·exact h2.elim
   ·exact h2.elim
  ·exact .inl h2
 ·exact .inl h
theorem xo_tos {t:Tr V}{m:Tr Blk}{n d:Nat}{K:Tr V→Tr Blk→Nat→Prop}{q:Prop}(hdst:o.dst=some d)(hd:d<N)(h:tosK P o t m (fun v=>AQ t d (some v) fun t=>K t m n) q):q∨XO P N o t m n K:=by
 rcases tosK_spec h with h | ⟨v,h1,h2⟩
 ·exact .inl h
 ·obtain ⟨t',h3,h4⟩:=Bh h2
  have:=h1 N (stT t m n) d (ago_self o t m n) rfl hdst hd
  rw [stT_put0 h3] at this
  exact .inr ⟨t',m,n,this,h4⟩
theorem nble_lt {d:Nat}(h:Nat.ble N d=false):d<N:=by
 rcases Nat.lt_or_ge d N with h1 | h1
 ·exact h1
 ·rw [Nat.ble_eq_true_of_le h1] at h;cases h
theorem xop_spec (hck:CKok P ck){t:Tr V}{m:Tr Blk}{n:Nat}{K:Tr V→Tr Blk→Nat→Prop}(h:xop P ck N o t m n K):XO P N o t m n K:=by
 unfold xop at h
 split at h
 ·rename_i hdst
  obtain ⟨m',h1,h2⟩:=xsto_spec h
  exact ⟨t,m',n,h1 N (stT t m n) (ago_self o t m n) rfl rfl hdst,h2⟩
 ·rename_i d hdst
  split at h
  ·exact h.elim
  ·rename_i hN
   have hd:=nble_lt hN
   split at h
   ·rename_i c hop
    split at h
    ·rename_i f hc
     obtain ⟨g,h1,h2⟩:=Bj h
     clear h
     split at h2
     ·rename_i f' caps
      obtain ⟨vs,h3,h4⟩:=opsK_spec h2
      have h5:=appK_spec h4
      obtain ⟨v,m',n',h6,h7,h8⟩:=hck _ _ _ _ _ h5
      obtain ⟨t',h9,h10⟩:=Bh h8
      have:=r_call (P:=P) (N:=N) (s:=stT t m n) hop hc (h1 m n) (h3 (stT t m n) fun x v _ hv=>vget_mn m n hv) h6 h7 hdst hd
      rw [stT_put h9] at this
      exact ⟨t',m',n',this,h10⟩
     ·exact h2.elim
    ·exact xo_mem hdst hd h
    ·exact xo_val hdst hd h
   ·exact xo_mem hdst hd h
   ·exact xo_mem hdst hd h
   ·exact xo_mem hdst hd h
   ·exact xo_mem hdst hd h
   ·exact xo_mem hdst hd h
   ·exact xo_mem hdst hd h
   ·exact xo_mem hdst hd h
   ·rcases xo_tos hdst hd h with h | h
    ·exact xo_val hdst hd h
    ·exact h
   ·rcases endK_spec h with h | h
    ·exact xo_mem hdst hd h
    ·exact xo_val hdst hd h
   ·exact xo_val hdst hd h
theorem slot_bool (hr:Rel base N w0 π s a w){u:Nat}{b:Bool}(h:s.t u=some (.sc (.bool b))):a.tmps[u]? = some (.bool b):=by
 obtain ⟨x,h1,h2⟩:=hr.slot u _ h
 rw [Ak] at h2
 split at h2
 ·injection h2 with h2;rw [h1,←h2]
 ·cases h2
theorem slot_tup (hr:Rel base N w0 π s a w){u:Nat}{cs:List V}(h:s.t u=some (.tup cs)):∃us,a.tmps[u]? = some (.tuple us):=by
 obtain ⟨x,h1,h2⟩:=hr.slot u _ h
 rw [Ak] at h2
 obtain ⟨us,_,h3⟩:=Option.map_eq_some_iff.1 h2
 exact ⟨_,by rw [h1,←h3]⟩
def Wants (all:Array Oper)(o:Oper)(f:Nat→Option V)(run:Bool):Prop:=match o.guard with
 | none=>run=true
 | some (j,want)=>∃oj u,all[j]? = some oj∧oj.dst=some u∧((∃b,f u=some (.sc (.bool b))∧run=(b==want))∨((∃cs,f u=some (.tup cs))∧run=false))
theorem wanted_of {all:Array Oper}{run:Bool}(hr:Rel base N w0 π s a w)(h:Wants all o s.t run):Region.wanted o (yielded all a.tmps)=run:=by
 unfold Wants at h
 unfold Region.wanted
 cases hg:o.guard with
 | none=>rw [hg] at h;exact h.symm
 | some p=>
  obtain ⟨j,want⟩:=p
  rw [hg] at h
  obtain ⟨oj,u,h1,h2,h3⟩:=h
  simp only [yielded,h1,Option.bind_some,h2]
  rcases h3 with ⟨b,h3,rfl⟩ | ⟨⟨cs,h3⟩,rfl⟩
  ·rw [slot_bool hr h3];simp
  ·obtain ⟨us,h4⟩:=slot_tup hr h3
   rw [h4];simp
theorem wants_none {all:Array Oper}{o:Oper}{f:Nat→Option V}(hg:o.guard=none):Wants all o f true:=by unfold Wants;rw [hg]
theorem wants_some {all:Array Oper}{o:Oper}{f:Nat→Option V}{run:Bool}{j:Nat}{want:Bool}(hg:o.guard=some (j,want))(h:∃oj u,all[j]? = some oj∧oj.dst=some u∧((∃b,f u=some (.sc (.bool b))∧run=(b==want))∨((∃cs,f u=some (.tup cs))∧run=false))):Wants all o f run:=by unfold Wants;rw [hg];exact h
theorem gK_spec {all:Array Oper}{t:Tr V}{K:Bool→Prop}(h:gK all o t K):∃run,Wants all o t.get run∧K run:=by
 unfold gK at h
 split at h
 ·rename_i hg;exact ⟨true,wants_none hg,h⟩
 ·rename_i j want hg
  split at h
  ·rename_i oj hj
   split at h
   ·rename_i u hu
    split at h
    ·rename_i b hb
     split at h
     ·exact ⟨true,wants_some hg ⟨oj,u,hj,hu,.inl ⟨_,hb,rfl⟩⟩,h⟩
     ·exact ⟨true,wants_some hg ⟨oj,u,hj,hu,.inl ⟨_,hb,rfl⟩⟩,h⟩
     ·exact ⟨false,wants_some hg ⟨oj,u,hj,hu,.inl ⟨_,hb,rfl⟩⟩,h⟩
     ·exact ⟨false,wants_some hg ⟨oj,u,hj,hu,.inl ⟨_,hb,rfl⟩⟩,h⟩
    ·rename_i cs hb
     exact ⟨false,wants_some hg ⟨oj,u,hj,hu,.inr ⟨⟨_,hb⟩,rfl⟩⟩,h⟩
    ·exact h.elim
   ·exact h.elim
  ·exact h.elim
theorem Rel.skipped (hr:Rel base N w0 π s a w){d:Option Nat}(hd:∀u,d=some u→u<N):Rel base N w0 π (s.put d (.tup [])) (a.put d undef) w:=by
 cases d with
 | none=>exact hr
 | some d=>
  refine ⟨hr.mem,by simp [Act.put,hr.tsz],hr.defs,fun i x hi=>?_⟩
  simp only [St.put] at hi
  split at hi
  ·rename_i e
   subst e
   injection hi with hi;subst hi
   exact ⟨undef,by simp [Act.put,hr.tsz,hd i rfl],by rw [Ak,AB];rfl⟩
  ·rename_i e
   obtain ⟨y,h1,h2⟩:=hr.slot i x hi
   refine ⟨y,?_,h2⟩
   rw [←h1]
   simp [Act.put,Array.getElem?_setIfInBounds_ne (fun q=>e q.symm)]
def RL (P:Program)(N:Nat)(all:Array Oper)(l:List Oper)(s s':St):Prop:=
 ∀base w0 π a w,Rel base N w0 π s a w→∀(Q:Exit→Act→World→Prop),(∀π' a' w',π.le π'→Rel base N w0 π' s' a' w'→Q .normal a' w')→wpList P all Q l a w
theorem rl_nil {all:Array Oper}:RL P N all [] s s:=fun base w0 π a w hr Q hQ=>hQ π a w π.le_refl hr
theorem rl_step {all:Array Oper}{l:List Oper}{s1:St}(hw:Wants all o s.t true)(hs:Step P N o s s1)(h:RL P N all l s1 s'):RL P N all (o::l) s s':=by
 intro base w0 π a w hr Q hQ
 refine wpList_step fun K' hK'=>?_
 rw [if_pos (wanted_of hr hw)]
 exact hs base w0 π a w hr K' Q fun π' a' w' hle hr'=>hK' _ _ (h base w0 π' a' w' hr' Q fun π2 a2 w2 hle2 hr2=>hQ π2 a2 w2 (Pi.le_trans hle hle2) hr2)
theorem rl_skip {all:Array Oper}{l:List Oper}(hw:Wants all o s.t false)(hd:∀u,o.dst=some u→u<N)(h:RL P N all l (s.put o.dst (.tup [])) s'):RL P N all (o::l) s s':=by
 intro base w0 π a w hr Q hQ
 refine wpList_step fun K' hK'=>?_
 rw [if_neg (by rw [wanted_of hr hw];decide)]
 exact hK' _ _ (h base w0 π _ w (hr.skipped hd) Q hQ)
theorem xops_spec (hck:CKok P ck){all:Array Oper}:∀{l:List Oper} {t:Tr V} {m:Tr Blk} {n:Nat} {K:Tr V→Tr Blk→Nat→Prop},xops P ck N all l t m n K→∃t' m' n',RL P N all l (stT t m n) (stT t' m' n')∧K t' m' n'
 | [],t,m,n,K,h=>⟨t,m,n,rl_nil,h⟩
 | o::l,t,m,n,K,h=>by
  replace h:xopsB P ck N all o (xops P ck N all l) t m n K:=h
  unfold xopsB at h
  obtain ⟨run,h1,h2⟩:=gK_spec h
  cases run with
  | true=>
   obtain ⟨t1,m1,n1,h3,h4⟩:=xop_spec hck h2
   obtain ⟨t',m',n',h5,h6⟩:=xops_spec hck h4
   exact ⟨t',m',n',rl_step h1 h3 h5,h6⟩
  | false=>
   simp only at h2
   split at h2
   ·rename_i d hdst
    split at h2
    ·exact h2.elim
    ·rename_i hN
     obtain ⟨t1,h3,h4⟩:=Bh h2
     obtain ⟨t',m',n',h5,h6⟩:=xops_spec hck h4
     refine ⟨t',m',n',rl_skip h1 (fun u e=>by rw [hdst] at e;injection e with e;rw [←e];exact nble_lt hN) ?_,h6⟩
     rw [hdst,stT_put0 h3];exact h5
   ·rename_i hdst
    obtain ⟨t',m',n',h5,h6⟩:=xops_spec hck h2
    refine ⟨t',m',n',rl_skip h1 (fun u e=>by rw [hdst] at e;cases e) ?_,h6⟩
    rw [hdst];exact h5
def RC (P:Program)(N:Nat)(c:Code)(s:St)(e:Exit)(s':St):Prop:=
 ∀base w0 π a w,Rel base N w0 π s a w→∀(Q:Exit→Act→World→Prop),(∀π' a' w',π.le π'→Rel base N w0 π' s' a' w'→Q e a' w')→c.wp P Q a w
def XCok (P:Program)(N:Nat)(c:Code)(run:XC):Prop:=∀t m n K,run t m n K→∃e t' m' n',RC P N c (stT t m n) e (stT t' m' n')∧K e t' m' n'
theorem rc_region {id:Nat}{ops:Array Oper}(h:RL P N ops ops.toList s s'):RC P N (.region id ops false) s .normal s':=by
 intro base w0 π a w hr Q hQ
 have:=wp_region_lit (P:=P) (id:=id) (l:=ops.toList) (Q:=Q) (a:=a) (w:=w) (by
  have:=h base w0 π a w hr Q hQ
  simpa using this)
 simpa using this
theorem rc_seq {x y:Code}{s1:St}{e:Exit}(h1:RC P N x s .normal s1)(h2:RC P N y s1 e s'):RC P N (.seq x y) s e s':=by
 intro base w0 π a w hr Q hQ
 refine wp_seq (h1 base w0 π a w hr _ fun π1 a1 w1 hle hr1=>?_)
 exact h2 base w0 π1 a1 w1 hr1 Q fun π2 a2 w2 hle2 hr2=>hQ π2 a2 w2 (Pi.le_trans hle hle2) hr2
theorem rc_seq_out {x y:Code}{e:Exit}(h1:RC P N x s e s')(he:e≠.normal):RC P N (.seq x y) s e s':=by
 intro base w0 π a w hr Q hQ
 refine wp_seq (h1 base w0 π a w hr _ fun π1 a1 w1 hle hr1=>?_)
 cases e<;>first | exact absurd rfl he | exact hQ π1 a1 w1 hle hr1
theorem rc_cond {c:Operand}{x y:Code}{b:Bool}{e:Exit}(hc:Am s c=some (.sc (.bool b)))(h:RC P N (if b then x else y) s e s'):RC P N (.cond c x y) s e s':=by
 intro base w0 π a w hr Q hQ
 exact wp_cond (hr.getV hc rfl) (h base w0 π a w hr Q hQ)
def blkE (id:Nat):Exit→Exit
 | .exit i=>if i=id then .normal else .exit i
 | e=>e
theorem rc_block {id:Nat}{c:Code}{e:Exit}(h:RC P N c s e s'):RC P N (.block id c) s (blkE id e) s':=by
 intro base w0 π a w hr Q hQ
 refine wp_block (h base w0 π a w hr _ fun π1 a1 w1 hle hr1=>?_)
 have:=hQ π1 a1 w1 hle hr1
 cases e with
 | exit i=>
  simp only [Exit.inBlock,blkE] at *
  by_cases e2:i=id
  ·rw [if_pos e2] at *;exact this
  ·rw [if_neg e2] at *;exact this
 | _=>exact this
def RLoop (P:Program)(N:Nat)(c:Code)(k:Nat)(s:St)(e:Exit)(s':St):Prop:=
 ∀base w0 π a w,Rel base N w0 π s a w→∀(Q:Exit→Act→World→Prop),(∀π' a' w',π.le π'→Rel base N w0 π' s' a' w'→Q e a' w')→Code.rounds P c Q k a w
theorem rloop_more {c:Code}{k:Nat}{s1:St}{e:Exit}(h1:RC P N c s .normal s1)(h2:RLoop P N c k s1 e s'):RLoop P N c (k+1) s e s':=by
 intro base w0 π a w hr Q hQ
 rw [rounds_succ]
 refine h1 base w0 π a w hr _ fun π1 a1 w1 hle hr1=>?_
 exact h2 base w0 π1 a1 w1 hr1 Q fun π2 a2 w2 hle2 hr2=>hQ π2 a2 w2 (Pi.le_trans hle hle2) hr2
theorem rloop_out {c:Code}{e:Exit}(h:RC P N c s e s')(he:e≠.normal):RLoop P N c 1 s e s':=by
 intro base w0 π a w hr Q hQ
 rw [rounds_succ]
 refine h base w0 π a w hr _ fun π1 a1 w1 hle hr1=>?_
 cases e<;>first | exact absurd rfl he | exact hQ π1 a1 w1 hle hr1
theorem rc_loop {c:Code}{k:Nat}{e:Exit}(h:RLoop P N c k s e s'):RC P N (.loop c) s e s':=fun base w0 π a w hr Q hQ=>wp_loop_rounds k (h base w0 π a w hr Q hQ)
def jumps (P:Program)(c:Code)(Q:Exit→Act→World→Prop):Nat→Code→Act→World→Prop
 | 0,_,_,_=>False
 | k+1,r,a,w=>r.wp P (fun e a w=>match e with
  | .goto l=>match findLabel c l with
   | some r'=>jumps P c Q k r' a w
   | none=>Q (.goto l) a w
  | e=>Q e a w) a w
theorem wp_scope_all {c:Code}{Q:Exit→Act→World→Prop}(k:Nat)(h:jumps P c Q k c a w):(Code.scope c).wp P Q a w:=by
 intro b kk cs
 have key:∀k r a w,jumps P c Q k r a w→∃e a' w',Q e a' w'∧Arrives P (lone (b.at a (.code r :: .inScope c::kk)) cs w) b kk cs e a' w':=by
  intro k
  induction k with
  | zero=>intro r a w h;exact h.elim
  | succ k ih=>
   intro r a w h
   obtain ⟨e,a₁,w₁,hq,harr⟩:=h b (.inScope c::kk) cs
   cases e with
   | normal=>exact ⟨.normal,a₁,w₁,hq,Steps.trans harr (.one step_inScope)⟩
   | exit id=>exact ⟨.exit id,a₁,w₁,hq,fun k' hk=>harr k' (by simp [exitTo,hk])⟩
   | goto l=>
    simp only at hq
    cases hf:findLabel c l with
    | some r'=>
     rw [hf] at hq
     have hg:gotoIn l (.inScope c::kk)=some (.code r' :: .inScope c::kk):=by simp [gotoIn,hf]
     obtain ⟨e₂,a₂,w₂,hq₂,harr₂⟩:=ih r' a₁ w₁ hq
     exact ⟨e₂,a₂,w₂,hq₂,.of_steps (harr _ hg) harr₂⟩
    | none=>
     rw [hf] at hq
     exact ⟨.goto l,a₁,w₁,hq,fun k' hk=>harr k' (by simp [gotoIn,hf,hk])⟩
   | ret=>exact ⟨_,a₁,w₁,hq,harr⟩
   | panic ch=>exact ⟨_,a₁,w₁,hq,harr⟩
   | outgrown=>exact ⟨_,a₁,w₁,hq,harr⟩
 obtain ⟨e,a',w',hq,harr⟩:=key k c a w h
 exact ⟨e,a',w',hq,.of_steps (.one step_scope) harr⟩
def RScope (P:Program)(N:Nat)(c:Code)(k:Nat)(r:Code)(s:St)(e:Exit)(s':St):Prop:=
 ∀base w0 π a w,Rel base N w0 π s a w→∀(Q:Exit→Act→World→Prop),(∀π' a' w',π.le π'→Rel base N w0 π' s' a' w'→Q e a' w')→jumps P c Q k r a w
theorem rscope_more {c r r':Code}{k l:Nat}{s1:St}{e:Exit}(h1:RC P N r s (.goto l) s1)(hf:findLabel c l=some r')(h2:RScope P N c k r' s1 e s'):RScope P N c (k+1) r s e s':=by
 intro base w0 π a w hr Q hQ
 refine h1 base w0 π a w hr _ fun π1 a1 w1 hle hr1=>?_
 simp only [hf]
 exact h2 base w0 π1 a1 w1 hr1 Q fun π2 a2 w2 hle2 hr2=>hQ π2 a2 w2 (Pi.le_trans hle hle2) hr2
theorem rscope_out {c r:Code}{e:Exit}(h:RC P N r s e s')(he:∀l,e=.goto l→findLabel c l=none):RScope P N c 1 r s e s':=by
 intro base w0 π a w hr Q hQ
 refine h base w0 π a w hr _ fun π1 a1 w1 hle hr1=>?_
 cases e with
 | goto l=>simp only [he l rfl];exact hQ π1 a1 w1 hle hr1
 | _=>exact hQ π1 a1 w1 hle hr1
theorem rc_scope {c:Code}{k:Nat}{e:Exit}(h:RScope P N c k c s e s'):RC P N (.scope c) s e s':=fun base w0 π a w hr Q hQ=>wp_scope_all k (h base w0 π a w hr Q hQ)
theorem loopK_spec {c:Code}{run:XC}(hrun:XCok P N c run):∀{f:Nat} {t:Tr V} {m:Tr Blk} {n:Nat} {K:Exit→Tr V→Tr Blk→Nat→Prop},loopK run f t m n K→∃e t' m' n' k,RLoop P N c k (stT t m n) e (stT t' m' n')∧K e t' m' n'
 | 0,_,_,_,_,h=>h.elim
 | f+1,t,m,n,K,h=>by
  obtain ⟨e,t1,m1,n1,h1,h2⟩:=hrun _ _ _ _ h
  cases e with
  | normal=>
   obtain ⟨e,t2,m2,n2,k,h3,h4⟩:=loopK_spec hrun (f:=f) h2
   exact ⟨e,t2,m2,n2,k+1,rloop_more h1 h3,h4⟩
  | ret=>exact ⟨_,t1,m1,n1,1,rloop_out h1 (by simp),h2⟩
  | exit i=>exact ⟨_,t1,m1,n1,1,rloop_out h1 (by simp),h2⟩
  | goto l=>exact ⟨_,t1,m1,n1,1,rloop_out h1 (by simp),h2⟩
  | panic _=>exact h2.elim
  | outgrown=>exact h2.elim
theorem scopeK_spec {b:Code}{run:Code→XC}(hrun:∀c,XCok P N c (run c)):∀{f:Nat} {c:Code} {t:Tr V} {m:Tr Blk} {n:Nat} {K:Exit→Tr V→Tr Blk→Nat→Prop},scopeK b run f c t m n K→∃e t' m' n' k,RScope P N b k c (stT t m n) e (stT t' m' n')∧K e t' m' n'
 | 0,_,_,_,_,_,h=>h.elim
 | f+1,c,t,m,n,K,h=>by
  obtain ⟨e,t1,m1,n1,h1,h2⟩:=hrun _ _ _ _ _ h
  cases e with
  | goto l=>
   simp only at h2
   split at h2
   ·rename_i r hf
    obtain ⟨e,t2,m2,n2,k,h3,h4⟩:=scopeK_spec hrun (f:=f) h2
    exact ⟨e,t2,m2,n2,k+1,rscope_more h1 hf h3,h4⟩
   ·rename_i hf
    exact ⟨_,t1,m1,n1,1,rscope_out h1 (fun l' e=>by injection e with e;subst e;exact hf),h2⟩
  | normal=>exact ⟨_,t1,m1,n1,1,rscope_out h1 (by simp),h2⟩
  | ret=>exact ⟨_,t1,m1,n1,1,rscope_out h1 (by simp),h2⟩
  | exit i=>exact ⟨_,t1,m1,n1,1,rscope_out h1 (by simp),h2⟩
  | panic _=>exact h2.elim
  | outgrown=>exact h2.elim
theorem rc_skip:RC P N .skip s .normal s:=fun base w0 π a w hr Q hQ=>wp_skip (hQ π a w π.le_refl hr)
theorem rc_ret:RC P N .ret s .ret s:=fun base w0 π a w hr Q hQ=>wp_ret (hQ π a w π.le_refl hr)
theorem rc_exit {id:Nat}:RC P N (.exit id) s (.exit id) s:=fun base w0 π a w hr Q hQ=>wp_exit (hQ π a w π.le_refl hr)
theorem rc_goto {l:Nat}:RC P N (.goto l) s (.goto l) s:=fun base w0 π a w hr Q hQ=>wp_goto (hQ π a w π.le_refl hr)
theorem rc_label {l:Nat}:RC P N (.label l) s .normal s:=fun base w0 π a w hr Q hQ=>wp_label (hQ π a w π.le_refl hr)
def DRok (P:Program)(dr:Nat→Array Oper→XL):Prop:=∀N ops t m n K,dr N ops t m n K→∃t' m' n',(∀id,RC P N (.region id ops true) (stT t m n) .normal (stT t' m' n'))∧K t' m' n'
theorem xcode_spec (hck:CKok P ck){dr:Nat→Array Oper→XL}(hdr:DRok P dr):∀{f:Nat} (c:Code),XCok P N c (xcode P ck dr N f c)
 | 0,c=>fun t m n K h=>h.elim
 | f+1,c=>by
  intro t m n K h
  have ih:=fun c=>xcode_spec hck hdr (f:=f) c
  replace h:codeB P ck dr N (xcode P ck dr N f) c t m n K:=h
  unfold codeB at h
  split at h
  ·exact ⟨_,t,m,n,rc_skip,h⟩
  ·obtain ⟨t',m',n',h1,h2⟩:=xops_spec hck h
   exact ⟨_,t',m',n',rc_region h1,h2⟩
  ·obtain ⟨t',m',n',h1,h2⟩:=hdr _ _ _ _ _ _ h
   exact ⟨_,t',m',n',h1 _,h2⟩
  ·rename_i a b
   obtain ⟨e,t1,m1,n1,h1,h2⟩:=ih a _ _ _ _ h
   cases e with
   | normal=>
    obtain ⟨e,t2,m2,n2,h3,h4⟩:=ih b _ _ _ _ h2
    exact ⟨e,t2,m2,n2,rc_seq h1 h3,h4⟩
   | ret=>exact ⟨_,t1,m1,n1,rc_seq_out h1 (by simp),h2⟩
   | exit i=>exact ⟨_,t1,m1,n1,rc_seq_out h1 (by simp),h2⟩
   | goto l=>exact ⟨_,t1,m1,n1,rc_seq_out h1 (by simp),h2⟩
   | panic _=>exact h2.elim
   | outgrown=>exact h2.elim
  ·rename_i c a b
   obtain ⟨v,h1,h2⟩:=Bj h
   split at h2
   ·obtain ⟨e,t1,m1,n1,h3,h4⟩:=ih a _ _ _ _ h2
    exact ⟨e,t1,m1,n1,rc_cond (b:=true) (h1 _ _) h3,h4⟩
   ·obtain ⟨e,t1,m1,n1,h3,h4⟩:=ih b _ _ _ _ h2
    exact ⟨e,t1,m1,n1,rc_cond (b:=false) (h1 _ _) h3,h4⟩
   ·exact h2.elim
  ·rename_i id b
   obtain ⟨e,t1,m1,n1,h1,h2⟩:=ih b _ _ _ _ h
   have h3:=rc_block (id:=id) h1
   cases e with
   | exit i=>
    simp only at h2
    split at h2
    ·rename_i hb
     have hb:=Nat.eq_of_beq_eq_true hb
     simp only [blkE,if_pos hb] at h3
     exact ⟨_,t1,m1,n1,h3,h2⟩
    ·rename_i hb
     have hb:¬i=id:=by intro e;rw [e,Nat.beq_refl] at hb;cases hb
     simp only [blkE,if_neg hb] at h3
     exact ⟨_,t1,m1,n1,h3,h2⟩
   | normal=>exact ⟨_,t1,m1,n1,h3,h2⟩
   | ret=>exact ⟨_,t1,m1,n1,h3,h2⟩
   | goto l=>exact ⟨_,t1,m1,n1,h3,h2⟩
   | panic _=>exact h2.elim
   | outgrown=>exact h2.elim
  ·rename_i b
   obtain ⟨e,t1,m1,n1,k,h1,h2⟩:=loopK_spec (ih b) h
   exact ⟨e,t1,m1,n1,rc_loop h1,h2⟩
  ·rename_i b
   obtain ⟨e,t1,m1,n1,k,h1,h2⟩:=scopeK_spec ih h
   exact ⟨e,t1,m1,n1,rc_scope h1,h2⟩
  ·exact ⟨_,t,m,n,rc_exit,h⟩
  ·exact ⟨_,t,m,n,rc_label,h⟩
  ·exact ⟨_,t,m,n,rc_goto,h⟩
  ·exact ⟨_,t,m,n,rc_ret,h⟩
  ·exact h.elim
end
end Go.Rn
end
section
namespace Go.Rn
open Go.RowKit
open Go.Vm (AX CV DV Bo Cf Dj Ef enters resRun)
set_option linter.unusedSectionVars false
variable [Cx]
def Fok (P : Program) (F : Tr Func) : Prop := ∀ f fn, F.get f = some fn → P.funcs[f]? = some fn ∧ (fn.name != "runtime.NumGoroutine") = true
section
variable {P:Program} {N base n:Nat} {w0 w w':World} {π π':Pi} {s s':St} {a:Act} {o:Oper} {ck:CK}
def ResV (P:Program)(s:St)(r:ResultVar)(v:V):Prop:=match r with
 | .tmp u=>s.t u=some v
 | .cell u T=>∃id off b cs sh,s.t u=some (.ptr id off)∧s.h id=some b∧b.cs=some cs∧Bo P T=some sh∧partV sh cs off=some v
theorem resV_run {r:ResultVar}{v:V}(hr:Rel base N w0 π s a w)(h:ResV P s r v):∃u,(resRun a r).run P w=.ok u w∧Ak π v=some u:=by
 cases r with
 | tmp u=>
  obtain ⟨x,h1,h2⟩:=hr.slot u v h
  exact ⟨x,by simp [resRun,Array.getD_eq_getD_getElem?,h1],h2⟩
 | cell u T=>
  obtain ⟨id,off,b,cs,sh,h1,h2,h3,h4,h5⟩:=h
  obtain ⟨p,hp,hat⟩:=hr.at h2
  obtain ⟨x,k1,k2⟩:=hr.slot u _ h1
  rw [Ak,hp] at k2
  injection k2 with k2
  obtain ⟨us,q1,q2,q3⟩:=hat.cells h3
  obtain ⟨y,q4,q5⟩:=run_loadV (P:=P) (π:=π) (w:=w) (T:=T) (b:=p.b) (o:=p.base) (off:=off) h4 q1 q2 q3 h5
  refine ⟨y,?_,q5⟩
  have e:a.tmps.getD u undef=.pointer (some ⟨p.b,p.base+off,none⟩):=by
   rw [Array.getD_eq_getD_getElem?,k1,←k2];rfl
  simp only [resRun,e,asAddr,Sem.run_bind,Sem.run_pure,Result.andThen_ok]
  exact q4
theorem resL_run (hr:Rel base N w0 π s a w):∀{l:List ResultVar} {vs:List V},(∀(i:Nat) (r:ResultVar) (v:V),l[i]? = some r→vs[i]? = some v→ResV P s r v)→l.length=vs.length→∃us,(l.mapM (resRun a)).run P w=.ok us w∧AB π vs=some us
 | [],[],_,_=>⟨[],by simp,by rw [AB]⟩
 | [],_::_,_,h=>by simp at h
 | _::_,[],_,h=>by simp at h
 | r::l,v::vs,h,hl=>by
  obtain ⟨u,h1,h2⟩:=resV_run hr (h 0 r v rfl rfl)
  obtain ⟨us,h3,h4⟩:=resL_run hr (l:=l) (vs:=vs) (fun i r v q1 q2=>h (i+1) r v (by simpa using q1) (by simpa using q2)) (by simpa using hl)
  refine ⟨u::us,?_,by rw [AB,h2,h4]⟩
  rw [List.mapM_cons]
  simp [Sem.run_bind,h1,h3]
theorem resB_spec {t:Tr V}{m:Tr Blk}{n:Nat}{r:ResultVar}{K:V→Prop}(h:resB P t m r K):∃v,ResV P (stT t m n) r v∧K v:=by
 unfold resB at h
 split at h
 ·split at h
  ·rename_i v hv;exact ⟨v,hv,h⟩
  ·exact h.elim
 ·split at h
  ·rename_i id off hv
   split at h
   ·rename_i b hb
    split at h
    ·rename_i cs hcs
     split at h
     ·rename_i ag k hsh
      obtain ⟨v,q1,q2⟩:=EC h
      exact ⟨v,⟨id,off,b,cs,_,hv,hb,hcs,hsh,q1⟩,q2⟩
     ·exact h.elim
    ·exact h.elim
   ·exact h.elim
  ·exact h.elim
theorem resK_spec {t:Tr V}{m:Tr Blk}{n:Nat}:∀{l:List ResultVar} {K:List V→Prop},resK P t m l K→∃vs,(∀(i:Nat) (r:ResultVar) (v:V),l[i]? = some r→vs[i]? = some v→ResV P (stT t m n) r v)∧l.length=vs.length∧K vs
 | [],K,h=>⟨[],by simp,rfl,h⟩
 | r::l,K,h=>by
  obtain ⟨v,h1,h2⟩:=resB_spec (n:=n) h
  obtain ⟨vs,h3,h4,h5⟩:=resK_spec (l:=l) (K:=fun vs=>K (v::vs)) h2
  refine ⟨v::vs,fun i r' v' q1 q2=>?_,by simp [h4],h5⟩
  cases i with
  | zero=>simp at q1 q2;subst q1 q2;exact h1
  | succ i=>exact h3 i r' v' (by simpa using q1) (by simpa using q2)
def oneV (vs:List V):V:=match vs with
 | [v]=>v
 | vs=>.tup vs
theorem oneK_spec {vs:List V}{K:V→Prop}(h:oneK vs K):K (oneV vs):=by
 cases vs with
 | nil=>exact h
 | cons v l=>cases l<;>exact h
theorem oneV_conc {vs:List V}{us:List Value}(h:AB π vs=some us):Ak π (oneV vs)=some (if h:us.toArray.size=1 then us.toArray[0] else .tuple us.toArray):=by
 have hl:=Ec h
 match vs,us,h,hl with
 | [],[],h,_=>simp [oneV,Ak,AB]
 | [v],[u],h,_=>
  obtain ⟨u',us',h1,h2,h3⟩:=concL_cons h
  injection h3 with h3 h4;subst h3
  simpa [oneV] using h1
 | v::v'::vs,u::u'::us,h,_=>
  simp only [oneV,Ak,h,Option.map_some]
  simp
theorem argsK_spec:∀{l:List V} {k:Nat} {t:Tr V} {K:Tr V→Prop},argsK l k t K→∃t',(∀u,t'.get u=if u<k then t.get u else match l[u-k]? with | some v=>some v | none=>t.get u)∧K t'
 | [],k,t,K,h=>⟨t,by simp,h⟩
 | v::l,k,t,K,h=>by
  obtain ⟨t1,h1,h2⟩:=Bh h
  obtain ⟨t2,h3,h4⟩:=argsK_spec (l:=l) h2
  refine ⟨t2,fun u=>?_,h4⟩
  rw [h3,h1]
  rcases Nat.lt_trichotomy u k with e | e | e
  ·rw [if_pos (show u<Nat.succ k by omega),if_neg (by omega),if_pos e]
  ·subst e;rw [if_pos (show u<Nat.succ u by omega),if_pos rfl,if_neg (by omega),Nat.sub_self];rfl
  ·rw [if_neg (show ¬u<Nat.succ k by omega),if_neg (show ¬u=k by omega),if_neg (show ¬u<k by omega),show u-k=(u-Nat.succ k)+1 by omega,List.getElem?_cons_succ]
theorem rcall_of {f:FuncId}{fn:Func}{c:Code}{vs rs:List V}{t t':Tr V}{m m':Tr Blk}{n n':Nat}{e:Exit}(hf:P.funcs[f]? = some fn)(hb:fn.body=some c)(hle:vs.length≤fn.ntmps)(ht:∀u,t.get u=match vs[u]? with | some v=>some v | none=>none)
 (hc:RC P fn.ntmps c (stT t m n) e (stT t' m' n')) (he:e=.normal∨e=.ret) (hrs:∀(i:Nat) (r:ResultVar) (v:V),fn.results.toList[i]? = some r→rs[i]? = some v→ResV P (stT t' m' n') r v) (hl:fn.results.toList.length=rs.length):CX P f vs m.get n (oneV rs) m'.get n':=by
 intro base w0 π w us hm hus
 have hul:=Ec hus
 have hrel:Rel base fn.ntmps w0 π (stT t m n) { tmps:=us.toArray++Array.replicate (fn.ntmps-us.toArray.size) undef,defers:=[] } w:=by
  refine ⟨hm,by simp;omega,rfl,fun i v hi=>?_⟩
  have hi:t.get i=some v:=hi
  rw [ht] at hi
  split at hi
  ·rename_i v' hv
   injection hi with hi;subst hi
   obtain ⟨u,h1,h2⟩:=concL_at hus hv
   refine ⟨u,?_,h2⟩
   have hlt:=(List.getElem?_eq_some_iff.1 h1).1
   rw [Array.getElem?_append_left (by simpa using hlt)]
   simpa using h1
  ·cases hi
 refine calls_of_wp hf hb (hc base w0 π _ w hrel _ fun π' a' w' hle2 hr=>?_)
 obtain ⟨us',h1,h2⟩:=resL_run hr hrs hl
 have h3:=oneV_conc h2
 have hfun:results fn a'.tmps=(do let vs ←fn.results.mapM (resRun a');pure (if h:vs.size=1 then vs[0] else .tuple vs)):=by
  unfold results
  congr 1
 have hrun:(results fn a'.tmps).run P w'=.ok (if h:us'.toArray.size=1 then us'.toArray[0] else .tuple us'.toArray) w':=by
  rw [hfun,Array.mapM_eq_mapM_toList]
  simp [h1]
 rcases he with rfl | rfl
 ·exact ⟨hr.defs,_,hrun,π',_,rfl,hle2,hr.mem,h3⟩
 ·exact ⟨hr.defs,_,hrun,π',_,rfl,hle2,hr.mem,h3⟩
theorem callB_spec {F:Tr Func}(hF:Fok P F){dr:CK→Nat→Array Oper→XL}(hdr:∀ck,CKok P ck→DRok P (dr ck)){fuel:Nat}(hck:CKok P ck):CKok P (callB P F dr fuel ck):=by
 intro f vs m n K h
 unfold callB at h
 split at h
 ·rename_i fn hfn
  obtain ⟨hf,hname⟩:=hF f fn hfn
  split at h
  ·rename_i c hb
   split at h
   ·rename_i hle
    have hle:vs.length≤fn.ntmps:=by have:=Nat.le_of_ble_eq_true hle;rwa [lenN_eq] at this
    obtain ⟨t,h1,h2⟩:=argsK_spec h
    obtain ⟨e,t',m',n',h3,h4⟩:=xcode_spec hck (hdr ck hck) c _ _ _ _ h2
    have hen:enters P f=true:=by
     unfold enters
     rw [hf]
     simp [hb]
     simpa using hname
    have ht:∀u,t.get u=match vs[u]? with | some v=>some v | none=>none:=fun u=>by
     rw [h1];simp only [Nat.not_lt_zero,if_false,Nat.sub_zero];rfl
    cases e with
    | normal=>
     obtain ⟨rs,q1,q2,q3⟩:=resK_spec (n:=n') h4
     exact ⟨_,m',n',hen,rcall_of hf hb hle ht h3 (.inl rfl) q1 q2,oneK_spec (K:=fun v=>K v m' n') q3⟩
    | ret=>
     obtain ⟨rs,q1,q2,q3⟩:=resK_spec (n:=n') h4
     exact ⟨_,m',n',hen,rcall_of hf hb hle ht h3 (.inr rfl) q1 q2,oneK_spec (K:=fun v=>K v m' n') q3⟩
    | _=>exact h4.elim
   ·exact h.elim
  ·exact h.elim
 ·exact h.elim
end
end Go.Rn
end
section
namespace Go.Rn
open Go.RowKit
open Go.Vm (AX CV DV Bo Cf Dj Ef enters Closed getD_up getD_no DX)
set_option linter.unusedSectionVars false
variable [Cx]
def edgeTo (o:Oper)(j:Nat):Bool:=o.after.any fun e=>Region.binds .any e&&e.on==j
theorem edgeTo_spec {o:Oper}{j:Nat}(h:edgeTo o j=true):∃e∈o.after,Region.binds .any e=true∧e.on=j:=by
 unfold edgeTo at h
 rw [Array.any_eq_true] at h
 obtain ⟨i,hi,h⟩:=h
 simp only [Bool.and_eq_true,beq_iff_eq] at h
 exact ⟨_,Array.getElem_mem hi,h.1,h.2⟩
def okR (ops:Array Oper):Bool:=(List.range ops.size).all fun i=>match ops[i]? with
 | some o=>(o.after.all fun e=>!Region.binds .any e||decide (e.on<i))&&(List.range ops.size).all fun j=>i==j||(match ops[j]? with
  | some o'=>match o'.dst with
   | some u=>(o.dst != some u)&&(!(o.looksAt ops).contains u||(if j<i then edgeTo o j else edgeTo o' i))
   | none=>true
  | none=>true)
 | none=>true
section
variable {ops:Array Oper}
theorem okR_at (h:okR ops=true){i:Nat}{o:Oper}(hi:ops[i]? = some o):(∀e∈o.after,Region.binds .any e=true→e.on<i)∧∀j o' u,ops[j]? = some o'→j≠i→o'.dst=some u→o.dst≠some u∧(u∈o.looksAt ops→(j<i→edgeTo o j=true)∧(i<j→edgeTo o' i=true)):=by
 have hlt:=DX hi
 have h1:=List.all_eq_true.1 h i (List.mem_range.2 hlt)
 rw [hi] at h1
 simp only [Bool.and_eq_true] at h1
 obtain ⟨h1,h2⟩:=h1
 refine ⟨fun e he hb=>?_,fun j o' u hj hne hu=>?_⟩
 ·rw [Array.all_eq_true] at h1
  obtain ⟨k,hk,rfl⟩:=Array.mem_iff_getElem.1 he
  have:=h1 k hk
  simp only [Bool.or_eq_true,Bool.not_eq_true',decide_eq_true_eq] at this
  rcases this with h3 | h3
  ·rw [hb] at h3;cases h3
  ·exact h3
 ·have h3:=List.all_eq_true.1 h2 j (List.mem_range.2 (DX hj))
  rw [hj] at h3
  simp only [hu,Bool.or_eq_true,Bool.and_eq_true,beq_iff_eq,bne_iff_ne,ne_eq,Bool.not_eq_true'] at h3
  rcases h3 with h3 | ⟨h3,h4⟩
  ·exact absurd h3.symm hne
  ·refine ⟨h3,fun hm=>?_⟩
   have hc:(o.looksAt ops).contains u=true:=by simpa using hm
   rw [hc] at h4
   rcases h4 with h4 | h4
   ·cases h4
   ·refine ⟨fun hl=>?_,fun hl=>?_⟩
    ·rw [if_pos hl] at h4;exact h4
    ·rw [if_neg (by omega)] at h4;exact h4
inductive Reach (ops:Array Oper):Nat→Nat→Prop where
 | one {i j:Nat} {o:Oper} {e:Edge} (h1:ops[i]? = some o) (h2:e∈o.after) (h3:Region.binds .any e=true) (h4:e.on=j):Reach ops i j
 | more {i j k:Nat} (h1:Reach ops i k) (h2:Reach ops k j):Reach ops i j
theorem reach_listed {listed:Array Bool}(hc:Closed .any ops listed){i j:Nat}(h:Reach ops i j):((i∈Region.ready .any ops listed)∨listed.getD i false=true)→listed.getD j false=true:=by
 induction h with
 | one h1 h2 h3 h4=>
  intro h
  subst h4
  rcases h with h | h
  ·obtain ⟨_,o',ho',hall⟩:=mem_ready.1 h
   rw [h1] at ho';injection ho' with ho';subst ho'
   exact hall _ h2 h3
  ·exact hc _ _ h1 (getD_up h) _ h2 h3
 | more _ _ ih1 ih2=>intro h;exact ih2 (.inr (ih1 h))
def maskOf (acc:List Nat)(o:Oper):Nat:=o.after.toList.foldl (fun m e=>match Region.binds .any e with
 | true=>Nat.lor (Nat.lor m (Nat.shiftLeft 1 e.on)) (acc.getD e.on 0)
 | false=>m) 0
def masks (l:List Oper):List Nat:=l.foldl (fun acc o=>acc ++ [maskOf acc o]) []
def waits (mask j:Nat):Bool:=Nat.beq (Nat.land (Nat.shiftRight mask j) 1) 1
theorem waits_bit (m j:Nat):waits m j=m.testBit j:=by
 unfold waits
 rw [beqe,Nat.testBit]
 have e:Nat.land (Nat.shiftRight m j) 1=1 &&& m >>> j:=by rw [Nat.and_comm];rfl
 rw [e,Nat.one_and_eq_mod_two]
 have:=Nat.mod_two_eq_zero_or_one (m >>> j)
 rcases this with h | h<;>rw [h]<;>rfl
theorem mask_spec {acc:List Nat}{i:Nat}{o:Oper}(hi:ops[i]? = some o)(hacc:∀(k m:Nat),acc[k]? = some m→∀j,m.testBit j=true→Reach ops k j):∀j,(maskOf acc o).testBit j=true→Reach ops i j:=by
 unfold maskOf
 have key:∀(l:List Edge) (m:Nat),(∀e∈l,e∈o.after)→(∀j,m.testBit j=true→Reach ops i j)→∀j,(l.foldl (fun m e=>match Region.binds .any e with
  | true=>Nat.lor (Nat.lor m (Nat.shiftLeft 1 e.on)) (acc.getD e.on 0)
  | false=>m) m).testBit j=true→Reach ops i j:=by
  intro l
  induction l with
  | nil=>intro m _ hm j h;exact hm j h
  | cons e l ih=>
   intro m hl hm j h
   refine ih _ (fun x hx=>hl x (List.mem_cons_of_mem _ hx)) ?_ j h
   intro j' h'
   cases hb:Region.binds .any e with
   | true=>
    have he:=hl e (List.mem_cons_self ..)
    simp only [hb] at h'
    have h2:((m ||| (1 <<< e.on)) ||| acc.getD e.on 0).testBit j'=true:=h'
    rw [Nat.testBit_or,Nat.testBit_or,Bool.or_eq_true,Bool.or_eq_true] at h2
    rcases h2 with (h2 | h2) | h2
    ·exact hm j' h2
    ·rw [Nat.one_shiftLeft,Nat.testBit_two_pow] at h2
     exact .one hi he hb (by simpa using h2)
    ·cases ha:acc[e.on]? with
     | none=>simp [List.getD_eq_getElem?_getD,ha] at h2
     | some mm=>
      simp only [List.getD_eq_getElem?_getD,ha,Option.getD_some] at h2
      exact .more (.one hi he hb rfl) (hacc _ _ ha _ h2)
   | false=>
    simp only [hb] at h'
    exact hm j' h'
 exact key _ _ (fun e he=>by simpa using he) (by simp)
theorem masks_spec (j m:Nat)(h:(masks ops.toList)[j]? = some m):∀k,m.testBit k=true→Reach ops j k:=by
 have key:∀(l:List Oper) (acc:List Nat),(∀i o,l[i]? = some o→ops[acc.length+i]? = some o)→(∀(k m:Nat),acc[k]? = some m→∀j,m.testBit j=true→Reach ops k j) →
  ∀(k m:Nat),(l.foldl (fun acc o=>acc ++ [maskOf acc o]) acc)[k]? = some m→∀j,m.testBit j=true→Reach ops k j:=by
  intro l
  induction l with
  | nil=>intro acc _ h k m hk j hj;exact h k m hk j hj
  | cons o l ih=>
   intro acc hl hacc k m hk j hj
   refine ih _ (fun i o' hi=>?_) ?_ k m hk j hj
   ·have:=hl (i+1) o' (by simpa using hi)
    rw [List.length_append,List.length_singleton,Nat.add_assoc,Nat.add_comm 1 i];exact this
   ·intro k m hk j hj
    rw [List.getElem?_append] at hk
    split at hk
    ·exact hacc k m hk j hj
    ·rename_i hge
     have h0:=hl 0 o rfl
     have hke:k=acc.length:=by
      have:=(List.getElem?_eq_some_iff.1 hk).1
      simp at this;omega
     subst hke
     simp at hk
     subst hk
     exact mask_spec (by simpa using h0) hacc j hj
 exact key ops.toList [] (by simp) (by simp) j m h
theorem masks_len:(masks ops.toList).length=ops.size:=by
 have key:∀(l:List Oper) (acc:List Nat),(l.foldl (fun acc o=>acc ++ [maskOf acc o]) acc).length=acc.length+l.length:=by
  intro l
  induction l with
  | nil=>intro acc;rfl
  | cons o l ih=>intro acc;rw [List.foldl_cons,ih];simp;omega
 have:=key ops.toList []
 simpa [masks] using this
end
end Go.Rn
end
section
namespace Go.Rn
open Go.RowKit
open Go.Vm (AX CV DV Bo Cf Dj Ef enters Closed getD_up getD_no DX)
set_option linter.unusedSectionVars false
variable [Cx]
def St.upd (s:St)(d:Option Nat)(r:Option V):St:=match r with
 | some v=>s.put d v
 | none=>s
structure OpFact (P:Program) (N:Nat) (ops:Array Oper) (Ts:Nat→Tr V) (mem:Nat→Tr Blk×Nat) (b:Nat→Nat) (B i:Nat) (o:Oper):Prop where
 upd:∃r:Option V,(o.dst=none→r=none)∧(∀d,o.dst=some d→d<N∧r≠none)∧(∀u,(Ts (i+1)).get u=if o.dst=some u then r else (Ts i).get u) ∧
  ∃run,Wants ops o (Ts i).get run∧(run=false→(r=none∨r=some (.tup []))∧∀k,k<B→b k≠i) ∧
  (run=true→(∃k,k<B∧b k=i∧∀s:St,AgO o (Ts i) s→s.h=(mem k).1.get→s.n=(mem k).2→Step P N o s { (s.upd o.dst r) with h:=(mem (k+1)).1.get,n:=(mem (k+1)).2 }) ∨
    ((∀k,k<B→b k≠i)∧∃lo hi,lo≤B∧(∀k,k<lo→Reach ops i (b k))∧(hi<B→Reach ops (b hi) i)∧∀q,lo≤q→q≤hi→∀s:St,AgO o (Ts i) s→s.h=(mem q).1.get→s.n=(mem q).2→Step P N o s (s.upd o.dst r)))
def FloatAt (P:Program)(N:Nat)(ops:Array Oper)(Ts:Nat→Tr V)(mem:Nat→Tr Blk×Nat)(b:Nat→Nat)(k:Nat):Prop:=
 ∃o T d cs,ops[b k]? = some o∧o.op=.alloc T∧o.dst=some d∧d<N∧zeroV P T=some cs∧(mem (k+1)).1.get=hset (mem k).1.get (mem k).2 (some (.cells cs))∧(mem (k+1)).2=(mem k).2+1∧(Ts (b k+1)).get d=some (.ptr (mem k).2 0) ∧
  ∀j o',ops[j]? = some o'→j≠b k→d∈o'.looksAt ops→∀k',k' < k→Reach ops j (b k')
structure Facts (P:Program) (N:Nat) (ops:Array Oper) (Ts:Nat→Tr V) (mem:Nat→Tr Blk×Nat) (b:Nat→Nat) (B kf:Nat):Prop where
 ok:okR ops=true
 lt:∀k,k<B→b k<ops.size
 chain:∀k k',k<k'→k' < B→k'≠kf→Reach ops (b k') (b k)
 inj:∀k k',k<k'→k' < B→b k≠b k'
 flo:kf<B→FloatAt P N ops Ts mem b kf
 op:∀i o,ops[i]? = some o→OpFact P N ops Ts mem b B i o
section
variable {P:Program} {N base:Nat} {w0:World} {ops:Array Oper} {Ts:Nat→Tr V} {mem:Nat→Tr Blk×Nat} {b:Nat→Nat} {B kf:Nat}
theorem Facts.stay (F:Facts P N ops Ts mem b B kf){u:Nat}:∀(n i:Nat),i+n≤ops.size→(∀j o,i≤j→j<i+n→ops[j]? = some o→o.dst≠some u)→(Ts (i+n)).get u=(Ts i).get u
 | 0,i,_,_=>rfl
 | n+1,i,hle,h=>by
  have hlt:i+n<ops.size:=by omega
  have ho:ops[i+n]? = some ops[i+n]:=Array.getElem?_eq_getElem hlt
  obtain ⟨r,_,_,h2,_⟩:=(F.op _ _ ho).upd
  rw [show i+(n+1)=i+n+1 from rfl,h2,if_neg (h (i+n) _ (by omega) (by omega) ho)]
  exact F.stay n i (by omega) fun j o h1 h2 h3=>h j o h1 (by omega) h3
theorem Facts.one (F:Facts P N ops Ts mem b B kf){i j:Nat}{o o':Oper}{u:Nat}(hi:ops[i]? = some o)(hj:ops[j]? = some o')(hu:o.dst=some u)(hu':o'.dst=some u):i=j:=by
 by_cases e:i=j
 ·exact e
 ·exact absurd hu ((okR_at F.ok hi).2 j o' u hj (fun h=>e h.symm) hu').1
theorem Facts.past (F:Facts P N ops Ts mem b B kf){j i:Nat}{o:Oper}{u:Nat}(hj:ops[j]? = some o)(hu:o.dst=some u)(hlt:j<i)(hi:i≤ops.size):(Ts i).get u=(Ts (j+1)).get u:=by
 have:=F.stay (u:=u) (i-(j+1)) (j+1) (by omega) fun k o' h1 h2 h3 h4=>by
  have:=F.one h3 hj h4 hu;omega
 rwa [show j+1+(i-(j+1))=i by omega] at this
structure At (ops:Array Oper) (Ts:Nat→Tr V) (mem:Nat→Tr Blk×Nat) (b:Nat→Nat) (B kf:Nat) (listed:Array Bool) (s:St) (q:Nat) (fa:Option Nat):Prop where
 size:listed.size=ops.size
 closed:Closed .any ops listed
 le:q≤B
 yes:∀k,k<q→listed.getD (b k) false=true
 no:∀k,q≤k→k<B→(k=kf→fa=none)→listed.getD (b k) false=false
 h:s.h=(mem q).1.get
 n:s.n=(mem q).2
 slot:∀j o u,ops[j]? = some o→listed.getD j false=true→o.dst=some u→(j=b kf→fa=none)→s.t u=(Ts (j+1)).get u
 rest:∀u,(∀j o,ops[j]? = some o→listed.getD j false=true→o.dst≠some u)→s.t u=(Ts 0).get u
 fl:∀x,fa=some x→q≤kf∧kf<B∧listed.getD (b kf) false=true∧∀d o,ops[b kf]? = some o→o.dst=some d→s.t d=some (.sc (.pointer (some ⟨x,0,none⟩)))
theorem getD_not {l:Array Bool}{k:Nat}(h:l.getD k false≠true)(hk:k<l.size):l.getD k true=false:=by
 simp [Array.getD_eq_getD_getElem?,Array.getElem?_eq_getElem hk] at h ⊢
 exact h
theorem EG {l:Array Bool}{i k:Nat}(hi:i<l.size):(l.setIfInBounds i true).getD k false=true↔(k=i∨l.getD k false=true):=by
 simp only [Array.getD_eq_getD_getElem?,Array.getElem?_setIfInBounds]
 by_cases e:i=k
 ·subst e;simp [hi]
 ·rw [if_neg e]
  have:¬k=i:=fun h=>e h.symm
  simp [this]
variable {listed:Array Bool} {s:St} {q:Nat} {fa:Option Nat}
theorem At.reads (A:At ops Ts mem b B kf listed s q fa)(F:Facts P N ops Ts mem b B kf)(hqf:∀x,fa=some x→q<kf){i:Nat}{o:Oper}(hr:i∈Region.ready .any ops listed)(hi:ops[i]? = some o){u:Nat}(hu:u∈o.looksAt ops):s.t u=(Ts i).get u:=by
 obtain ⟨hun,o1,ho1,hall⟩:=mem_ready.1 hr
 rw [hi] at ho1;injection ho1 with ho1;subst ho1
 have hlt:=DX hi
 by_cases h:∃j o',j<i∧ops[j]? = some o'∧o'.dst=some u
 ·obtain ⟨j,o',h1,h2,h3⟩:=h
  have hed:=((okR_at F.ok hi).2 j o' u h2 (by omega) h3).2 hu |>.1 h1
  obtain ⟨e,he,hb,hon⟩:=edgeTo_spec hed
  have hlist:=hall e he hb
  rw [hon] at hlist
  refine (A.slot j o' u h2 hlist h3 fun hj=>?_).trans (by rw [F.past h2 h3 h1 (by omega)])
  cases hfa:fa with
  | none=>rfl
  | some x=>
   exfalso
   obtain ⟨_,f2,_⟩:=A.fl x hfa
   have f1:=hqf x hfa
   obtain ⟨of,Tf,df,csf,g1,_,g2,_,_,_,_,_,g3⟩:=F.flo f2
   rw [←hj,h2] at g1;injection g1 with g1;subst g1
   rw [h3] at g2;injection g2 with g2;subst g2
   have hre:=g3 i o hi (by omega) hu q f1
   have:=reach_listed A.closed hre (.inl hr)
   rw [A.no q (Nat.le_refl _) (by omega) (fun e=>by omega)] at this
   cases this
 ·have hst:=F.stay (u:=u) i 0 (by omega) fun j o' _ h2 h3 h4=>h ⟨j,o',by omega,h3,h4⟩
  rw [Nat.zero_add] at hst
  rw [hst]
  refine A.rest u fun j o' h1 h2 h3=>?_
  have hge:i≤j:=by
   rcases Nat.lt_or_ge j i with hlt2 | hge
   ·exact absurd ⟨j,o',hlt2,h1,h3⟩ h
   ·exact hge
  by_cases e:j=i
  ·subst e;exact getD_no h2 hun
  ·have hed:=((okR_at F.ok hi).2 j o' u h1 e h3).2 hu |>.2 (by omega)
   obtain ⟨e2,he,hb,hon⟩:=edgeTo_spec hed
   have:=A.closed j o' h1 (getD_up h2) e2 he hb
   rw [hon] at this
   exact getD_no this hun
theorem At.next (A:At ops Ts mem b B kf listed s q fa)(F:Facts P N ops Ts mem b B kf){i:Nat}{o:Oper}(hr:i∈Region.ready .any ops listed)(hi:ops[i]? = some o){s':St}{q':Nat}(hs:∀u,s'.t u=if o.dst=some u then (Ts (i+1)).get u else s.t u)
 (hq:(q'=q∧∀k,k<B→b k≠i)∨(q'=q+1∧q<B∧b q=i)) (hfl:∀x,fa=some x→q'≤kf) (hh:s'.h=(mem q').1.get) (hn:s'.n=(mem q').2):At ops Ts mem b B kf (listed.setIfInBounds i true) s' q' fa:=by
 have hlt:=DX hi
 have hil:i<listed.size:=by rw [A.size];exact hlt
 obtain ⟨hun,_⟩:=mem_ready.1 hr
 have hikf:∀x,fa=some x→i≠b kf:=fun x hx e=>by
  obtain ⟨_,_,f3,_⟩:=A.fl x hx
  rw [←e] at f3
  exact getD_no f3 hun
 refine ⟨by simp [A.size],A.closed.next hr,?_,fun k hk=>?_,fun k h1 h2 hkf=>?_,hh,hn,fun j o' u h1 h2 h3 hjf=>?_,fun u h=>?_,fun x hx=>?_⟩
 rotate_right
 ·obtain ⟨f1,f2,f3,f4⟩:=A.fl x hx
  refine ⟨hfl x hx,f2,(EG hil).2 (.inr f3),fun d o' h1 h2=>?_⟩
  rw [hs,if_neg (fun h4=>hikf x hx (F.one hi h1 h4 h2))]
  exact f4 d o' h1 h2
 ·rcases hq with ⟨rfl,_⟩ | ⟨rfl,h1,_⟩
  ·exact A.le
  ·omega
 ·rw [EG hil]
  rcases hq with ⟨rfl,_⟩ | ⟨rfl,h1,h2⟩
  ·exact .inr (A.yes k hk)
  ·by_cases e:k=q
   ·subst e;exact .inl h2
   ·exact .inr (A.yes k (by omega))
 ·have hne:b k≠i:=by
   rcases hq with ⟨rfl,h3⟩ | ⟨rfl,h3,h4⟩
   ·exact h3 k h2
   ·intro e
    exact F.inj q k (by omega) h2 (by rw [h4,e])
  have hq2:q≤k:=by rcases hq with ⟨rfl,_⟩ | ⟨rfl,_⟩<;>omega
  have:=A.no k hq2 h2 hkf
  have h5:¬(listed.setIfInBounds i true).getD (b k) false=true:=by
   rw [EG hil,this];simp [hne]
  simpa using h5
 ·rw [EG hil] at h2
  rw [hs]
  by_cases e:j=i
  ·subst e
   rw [hi] at h1;injection h1 with h1;subst h1
   rw [if_pos h3]
  ·rw [if_neg (fun h4=>e (F.one h1 hi h3 h4))]
   exact A.slot j o' u h1 (h2.resolve_left e) h3 hjf
 ·rw [hs,if_neg (h i o hi ((EG hil).2 (.inl rfl)))]
  exact A.rest u fun j o' h1 h2=>h j o' h1 ((EG hil).2 (.inr h2))
def unlisted (ops:Array Oper)(listed:Array Bool):List Nat:=(List.range ops.size).filter fun j=>!listed.getD j false
theorem unlisted_next {i:Nat}(hs:listed.size=ops.size)(hi:i<ops.size)(hun:listed.getD i false=false):(unlisted ops (listed.setIfInBounds i true)).length<(unlisted ops listed).length:=by
 have e:unlisted ops (listed.setIfInBounds i true)=(unlisted ops listed).filter fun j=>!(j==i):=by
  unfold unlisted
  rw [List.filter_filter]
  apply List.filter_congr
  intro j hj
  have:=EG (l:=listed) (i:=i) (k:=j) (by omega)
  cases h1:(listed.setIfInBounds i true).getD j false with
  | true=>
   rw [this] at h1
   rcases h1 with h1 | h1
   ·simp [h1]
   ·simp [h1]
  | false=>
   have h2:¬((listed.setIfInBounds i true).getD j false=true):=by rw [h1];simp
   rw [this] at h2
   have h3:¬j=i:=fun h=>h2 (.inl h)
   have h4:listed.getD j false=false:=by
    cases h5:listed.getD j false with
    | true=>exact absurd (.inr h5) h2
    | false=>rfl
   simp [h3,h4]
 rw [e]
 refine List.length_filter_lt_length_iff_exists.2 ⟨i,?_,by simp⟩
 unfold unlisted
 rw [List.mem_filter]
 exact ⟨List.mem_range.2 hi,by simp [hun]⟩
theorem all_listed (F:Facts P N ops Ts mem b B kf)(hs:listed.size=ops.size)(h0:Region.ready .any ops listed= []):∀j,j<ops.size→listed.getD j false=true:=by
 intro j
 induction j using Nat.strongRecOn with
 | _ j ih=>
  intro hj
  by_cases h:listed.getD j false=true
  ·exact h
  ·exfalso
   have ho:ops[j]? = some ops[j]:=Array.getElem?_eq_getElem hj
   have:j∈Region.ready .any ops listed:=mem_ready.2 ⟨getD_not h (by omega),_,ho,fun e he hb=>by
    have hlt:=(okR_at F.ok ho).1 e he hb
    exact ih _ hlt (by omega)⟩
   rw [h0] at this;cases this
end
end Go.Rn
end
section
namespace Go.Rn
open Go.RowKit
open Go.Vm (AX CV DV Bo Cf Dj Ef enters Closed getD_up getD_no DX looks_op)
set_option linter.unusedSectionVars false
variable [Cx]
section
variable {P:Program} {N base:Nat} {w0:World} {ops:Array Oper} {Ts:Nat→Tr V} {mem:Nat→Tr Blk×Nat} {b:Nat→Nat} {B kf:Nat}
theorem At.done {listed:Array Bool}{s:St}{q:Nat}(A:At ops Ts mem b B kf listed s q none)(F:Facts P N ops Ts mem b B kf)(h:∀j,j<ops.size→listed.getD j false=true):s=stT (Ts ops.size) (mem B).1 (mem B).2:=by
 have hq:q=B:=by
  rcases Nat.lt_or_ge q B with h1 | h1
  ·have:=A.no q (Nat.le_refl _) h1 (fun _=>rfl)
   rw [h _ (F.lt q h1)] at this;cases this
  ·have:=A.le;omega
 subst hq
 obtain ⟨t,hp,n⟩:=s
 have h1:hp=(mem q).1.get:=A.h
 have h2:n=(mem q).2:=A.n
 subst h1 h2
 simp only [stT]
 congr 1
 funext u
 by_cases hu:∃(j:Nat) (o:Oper),ops[j]? = some o∧o.dst=some u
 ·obtain ⟨j,o,h3,h4⟩:=hu
  have hlt:=DX h3
  rw [show t u=_ from A.slot j o u h3 (h j hlt) h4 (fun _=>rfl),F.past h3 h4 hlt (Nat.le_refl _)]
 ·have hst:=F.stay (u:=u) ops.size 0 (by omega) fun j o _ _ h3 h4=>hu ⟨j,o,h3,h4⟩
  rw [Nat.zero_add] at hst
  rw [show t u=_ from A.rest u fun j o h3 _ h4=>hu ⟨j,o,h3,h4⟩,hst]
theorem Mem.float {n:Nat}{π:Pi}{h:Hp}{w:World}(hm:Mem base w0 π h n w)(o:Obj):Mem base w0 ⟨π.pl,π.op,(w.heap.size,o)::π.fl⟩ h n (w.alloc o):=by
 have hbl:Below w.heap.size w (w.alloc o):=(Below.refl _ w).alloc (Nat.le_refl _) o
 have hk:=hm.keep hbl
 have hsub:π.sub ⟨π.pl,π.op,(w.heap.size,o)::π.fl⟩:=⟨fun _ _ h=>h,rfl⟩
 refine ⟨fun k c hc=>?_,hm.sep,hm.fresh,hk.lt,hk.below,hk.size,hm.ctx,fun x hx=>?_⟩
 ·obtain ⟨q,h1,h2,h3⟩:=hk.place k c hc
  exact ⟨q,h1,h2.sub hsub,h3⟩
 ·rcases List.mem_cons.1 hx with rfl | hx
  ·exact ⟨hm.size,heap_alloc_new w o,fun id p hp=>by have:=hm.lt id p hp;simp only;omega⟩
  ·exact hk.fl x hx
theorem Mem.land {n x:Nat}{π:Pi}{h:Hp}{w:World}(hm:Mem base w0 π h n w){z:Array Value}{e:TypeId}{l:List (Nat×Obj)}(hfl:π.fl=(x,.cells z e (0,0))::l)(hnd:∀y∈l,y.1≠x)(ho:z.toList.all (·.oneCell')=true) :
 π.sub ⟨fun k=>if k=n then some ⟨x,0,z.size,1⟩ else π.pl k,π.op,l⟩∧Mem base w0 ⟨fun k=>if k=n then some ⟨x,0,z.size,1⟩ else π.pl k,π.op,l⟩ (hset h n (some (.cells (z.toList.map .sc)))) (n+1) w:=by
 have hsub:π.sub ⟨fun k=>if k=n then some ⟨x,0,z.size,1⟩ else π.pl k,π.op,l⟩:=⟨fun k q hq=>by
  show (if k=n then _ else π.pl k)=some q
  rw [if_neg (by rintro rfl;rw [hm.fresh k (Nat.le_refl _)] at hq;cases hq)]
  exact hq,rfl⟩
 obtain ⟨x1,x2,x3⟩:=hm.fl (x,.cells z e (0,0)) (by rw [hfl];exact List.mem_cons_self ..)
 have hne:∀k c,h k=some c→k≠n:=by
  rintro k c h0 rfl
  obtain ⟨q,h1,_⟩:=hm.place k c h0
  rw [hm.fresh k (Nat.le_refl _)] at h1;cases h1
 have hpl:∀k q,(if k=n then some (⟨x,0,z.size,1⟩:Pl) else π.pl k)=some q→(k=n∧q=⟨x,0,z.size,1⟩)∨(k≠n∧π.pl k=some q):=fun k q hq=>by
  split at hq
  ·rename_i e1;injection hq with hq;exact .inl ⟨e1,hq.symm⟩
  ·rename_i e1;exact .inr ⟨e1,hq⟩
 refine ⟨hsub,fun k c hc=>?_,fun k k' c c' q q' hc hc' r r' hq hq' e=>?_,fun k hk=>?_,fun k q hq=>?_,hm.below,hm.size,hm.ctx,fun y hy=>?_⟩
 ·unfold hset at hc
  split at hc
  ·rename_i e1;subst e1;injection hc with hc;subst hc
   refine ⟨⟨x,0,z.size,1⟩,if_pos rfl,⟨z,e,z.toList,x2,by simp,concL_scs ho,List.all_eq_true.1 ho,by simp,fun j u hj=>by simpa using hj⟩,fun _=>x1,fun h0=>by cases h0⟩
  ·rename_i e1
   obtain ⟨q,h1,h2,h3⟩:=hm.place k c hc
   exact ⟨q,hsub.1 k q h1,h2.sub hsub,h3⟩
 ·unfold hset at hc hc'
  rcases hpl k q hq with ⟨e1,e2⟩ | ⟨e1,e2⟩<;>rcases hpl k' q' hq' with ⟨e3,e4⟩ | ⟨e3,e4⟩
  ·rw [e1,e3]
  ·exact absurd (by rw [←e,e2]) (x3 k' q' e4)
  ·exact absurd (by rw [e,e4]) (x3 k q e2)
  ·rw [if_neg e1] at hc
   rw [if_neg e3] at hc'
   exact hm.sep k k' c c' q q' hc hc' r r' e2 e4 e
 ·show (if k=n then _ else π.pl k)=none
  rw [if_neg (by omega)];exact hm.fresh k (by omega)
 ·rcases hpl k q hq with ⟨_,e2⟩ | ⟨_,e2⟩
  ·rw [e2];exact (Array.getElem?_eq_some_iff.1 x2).1
  ·exact hm.lt k q e2
 ·obtain ⟨y1,y2,y3⟩:=hm.fl y (by rw [hfl];exact List.mem_cons_of_mem _ hy)
  refine ⟨y1,y2,fun k q hq=>?_⟩
  rcases hpl k q hq with ⟨_,e2⟩ | ⟨_,e2⟩
  ·rw [e2];exact fun e3=>hnd y hy e3.symm
  ·exact y3 k q e2
theorem At.land {listed:Array Bool}{s:St}{x d:Nat}{o:Oper}(A:At ops Ts mem b B kf listed s kf (some x))(F:Facts P N ops Ts mem b B kf)(ho:ops[b kf]? = some o)(hd:o.dst=some d)(hts:(Ts (b kf+1)).get d=some (.ptr (mem kf).2 0)) :
 At ops Ts mem b B kf listed { (s.put (some d) (.ptr (mem kf).2 0)) with h:=(mem (kf+1)).1.get,n:=(mem (kf+1)).2 } (kf+1) none:=by
 obtain ⟨_,f2,f3,_⟩:=A.fl x rfl
 have ht:∀u,(s.put (some d) (.ptr (mem kf).2 0)).t u=if u=d then some (.ptr (mem kf).2 0) else s.t u:=fun u=>rfl
 refine ⟨A.size,A.closed,by omega,fun k hk=>?_,fun k h1 h2 _=>A.no k (by omega) h2 (fun e=>by omega),rfl,rfl,fun j o' u h1 h2 h3 _=>?_,fun u h=>?_,fun x hx=>by cases hx⟩
 ·by_cases e:k=kf
  ·subst e;exact f3
  ·exact A.yes k (by omega)
 ·show (s.put (some d) (.ptr (mem kf).2 0)).t u=_
  rw [ht]
  by_cases e:j=b kf
  ·subst e
   rw [ho] at h1;injection h1 with h1;subst h1
   rw [hd] at h3;injection h3 with h3;subst h3
   rw [if_pos rfl];exact hts.symm
  ·have:¬u=d:=fun h4=>e (F.one h1 ho h3 (by rw [hd,h4]))
   rw [if_neg this]
   exact A.slot j o' u h1 h2 h3 (fun h4=>absurd h4 e)
 ·show (s.put (some d) (.ptr (mem kf).2 0)).t u=_
  rw [ht,if_neg (fun e=>h (b kf) o ho f3 (by rw [hd,e]))]
  exact A.rest u h
def FlR (P:Program)(ops:Array Oper)(b:Nat→Nat)(kf:Nat)(π0 π:Pi):Option Nat→Prop
 | none=>π.fl=π0.fl
 | some x=>∃(z:Array Value) (e:TypeId),π.fl=(x,.cells z e (0,0))::π0.fl∧(∀y∈π0.fl,y.1≠x)∧z.toList.all (·.oneCell')=true∧∀o T cs,ops[b kf]? = some o→o.op=.alloc T→zeroV P T=some cs→cs=z.toList.map .sc
theorem FlR.le {π0 π π':Pi}{fa:Option Nat}(h:FlR P ops b kf π0 π fa)(hl:π.le π'):FlR P ops b kf π0 π' fa:=by
 cases fa with
 | none=>exact hl.2.2.trans h
 | some x=>
  obtain ⟨z,e,h1,h2⟩:=h
  exact ⟨z,e,hl.2.2.trans h1,h2⟩
theorem wpAny_of (F:Facts P N ops Ts mem b B kf){Q:Exit→Act→World→Prop}{π0:Pi}(hQ:∀π' a' w',π0.le π'→Rel base N w0 π' (stT (Ts ops.size) (mem B).1 (mem B).2) a' w'→Q .normal a' w'):∀(fuel:Nat) (listed:Array Bool) (s:St) (q:Nat) (fa:Option Nat) (π:Pi) (a:Act) (w:World),At ops Ts mem b B kf listed s q fa→(∀x,fa=some x→q<kf)→Rel base N w0 π s a w→π0.sub π→FlR P ops b kf π0 π fa→(unlisted ops listed).length≤fuel →
 wpAny P .any ops Q fuel listed a w:=by
 have none_of:∀{listed:Array Bool} {s:St} {q:Nat} {fa:Option Nat},At ops Ts mem b B kf listed s q fa→(∀x,fa=some x→q<kf)→(∀j,j<ops.size→listed.getD j false=true)→fa=none:=by
  intro listed s q fa A hqf h
  cases fa with
  | none=>rfl
  | some x=>
   exfalso
   have f1:=hqf x rfl
   obtain ⟨_,f2,_⟩:=A.fl x rfl
   have:=A.no q (Nat.le_refl _) (by omega) (fun e=>by omega)
   rw [h _ (F.lt q (by omega))] at this;cases this
 intro fuel
 induction fuel with
 | zero=>
  intro listed s q fa π a w A hqf hr hsub hfl hu
  have hall:∀j,j<ops.size→listed.getD j false=true:=by
   intro j hj
   by_cases h:listed.getD j false=true
   ·exact h
   ·exfalso
    have:j∈unlisted ops listed:=by
     unfold unlisted
     rw [List.mem_filter]
     exact ⟨List.mem_range.2 hj,by simpa using h⟩
    have h1:unlisted ops listed= []:=List.length_eq_zero_iff.1 (by omega)
    rw [h1] at this;cases this
  refine ⟨?_,?_⟩
  ·apply List.eq_nil_iff_forall_not_mem.2
   intro i hi
   obtain ⟨h1,o,h2,_⟩:=mem_ready.1 hi
   exact getD_no (hall i (DX h2)) h1
  ·obtain rfl:=none_of A hqf hall
   rw [A.done F hall] at hr
   exact hQ π a w ⟨hsub.1,hsub.2,hfl⟩ hr
 | succ fuel ih=>
  intro listed s q fa π a w A hqf hr hsub hfl hu
  refine ⟨fun h0=>?_,fun i hi=>?_⟩
  ·obtain rfl:=none_of A hqf (all_listed F A.size h0)
   rw [A.done F (all_listed F A.size h0)] at hr
   exact hQ π a w ⟨hsub.1,hsub.2,hfl⟩ hr
  ·obtain ⟨hun,o,ho,hall⟩:=mem_ready.1 hi
   have hlt:=DX ho
   have hunf:listed.getD i false=false:=by
    cases h:listed.getD i false with
    | true=>exact (getD_no h hun).elim
    | false=>rfl
   have hfuel:(unlisted ops (listed.setIfInBounds i true)).length≤fuel:=by
    have:=unlisted_next A.size hlt hunf;omega
   have hread:∀u,u∈o.looksAt ops→s.t u=(Ts i).get u:=fun u hu=>A.reads F hqf hi ho hu
   have hag:AgO o (Ts i) s:=by
    intro x v hx hv
    cases x with
    | tmp u=>rw [show Am s (.tmp u)=s.t u from rfl,hread u (looks_op hx)];exact hv
    | const c=>exact hv
    | func f=>exact hv
    | global g=>exact hv
   obtain ⟨r,hr1,hr2,hr3,run,hw,hskip,hrun⟩:=(F.op i o ho).upd
   have hw':Wants ops o s.t run:=by
    unfold Wants at *
    cases hg:o.guard with
    | none=>rw [hg] at hw;exact hw
    | some p=>
     obtain ⟨j,want⟩:=p
     rw [hg] at hw
     obtain ⟨oj,u,h1,h2,h3⟩:=hw
     have hm:u∈o.looksAt ops:=by
      unfold Oper.looksAt
      rw [hg]
      simp [h1,h2]
     rw [←hread u hm] at h3
     exact ⟨oj,u,h1,h2,h3⟩
   have hput:∀(s1:St) (u:Nat),(s1.upd o.dst r).t u=if o.dst=some u then (Ts (i+1)).get u else s1.t u:=by
    intro s1 u
    cases hd:o.dst with
    | none=>rw [hr1 hd];simp [St.upd]
    | some d=>
     obtain ⟨_,h2⟩:=hr2 d hd
     cases hrr:r with
     | none=>exact absurd hrr h2
     | some v=>
      simp only [St.upd,St.put]
      by_cases e:u=d
      ·subst e
       rw [if_pos rfl,if_pos rfl,hr3,if_pos hd,hrr]
      ·rw [if_neg e,if_neg (fun h=>e (by injection h with h;exact h.symm))]
   unfold wpOp
   rw [ho]
   simp only
   cases run with
   | false=>
    rw [if_neg (by rw [wanted_of hr hw'];decide)]
    obtain ⟨hs1,hs2⟩:=hskip rfl
    have hsk:=hr.skipped (d:=o.dst) (fun u hu=>(hr2 u hu).1)
    refine ih _ (s.put o.dst (.tup [])) q fa π _ w (A.next F hi ho (fun u=>?_) (.inl ⟨rfl,hs2⟩) (fun x hx=>Nat.le_of_lt (hqf x hx)) ?_ ?_) hqf hsk hsub hfl hfuel
    ·have:=hput s u
     rw [←this]
     rcases hs1 with e | e
     ·rw [e]
      cases hd:o.dst with
      | none=>rfl
      | some d=>exact absurd e (hr2 d hd).2
     ·rw [e];rfl
    ·cases hd:o.dst<;>exact A.h
    ·cases hd:o.dst<;>exact A.n
   | true=>
    rw [if_pos (wanted_of hr hw')]
    refine .inl ?_
    have hqn:q=kf→fa=none:=fun e=>by
     cases hfa:fa with
     | none=>rfl
     | some x=>have:=hqf x hfa;omega
    rcases hrun rfl with ⟨k,h1,h2,h3⟩ | ⟨h1,lo,hi2,hlB,h2,h3,h4⟩
    ·rcases Nat.lt_trichotomy k q with h | h | h
     ·have:=A.yes k h
      rw [h2] at this
      exact (getD_no this hun).elim
     ·subst h
      refine h3 s hag A.h A.n base w0 π a w hr _ Q fun π' a' w' hle hr'=>?_
      have A':=A.next F hi ho (fun u=>hput s u) (.inr ⟨rfl,h1,h2⟩) (s':={ (s.upd o.dst r) with h:=(mem (k+1)).1.get,n:=(mem (k+1)).2 }) (fun x hx=>hqf x hx) rfl rfl
      have hfl':=hfl.le hle
      have hsub':=Pi.sub_trans hsub hle.sub
      by_cases hadopt:k+1=kf∧∃x,fa=some x
      ·obtain ⟨e1,x,hx⟩:=hadopt
       subst hx
       obtain ⟨_,f2,f3,f4⟩:=A'.fl x rfl
       obtain ⟨of,Tf,df,csf,g1,g2,g3,g4,g5,g6,g7,g8,_⟩:=F.flo f2
       obtain ⟨z,e,l1,l2,l3,l4⟩:=hfl'
       have hcs:=l4 of Tf csf g1 g2 g5
       have hlast:=f4 df of g1 g3
       obtain ⟨m1,m2⟩:=hr'.mem.land l1 l2 l3
       have A2:At ops Ts mem b B kf (listed.setIfInBounds i true) { (s.upd o.dst r) with h:=(mem (k+1)).1.get,n:=(mem (k+1)).2 } kf (some x):=e1▸A'
       have A3:=A2.land F g1 g3 g8
       have hlt:∀x,(none:Option Nat)=some x→kf+1<kf:=fun x hx=>by cases hx
       refine ih _ _ (kf+1) none _ a' w' A3 hlt ⟨?_,hr'.tsz,hr'.defs,fun u v hv=>?_⟩ (Pi.sub_trans hsub' m1) rfl hfuel
       ·show Mem base w0 _ (mem (kf+1)).1.get (mem (kf+1)).2 w'
        rw [g6,g7,hcs,←e1]
        exact m2
       ·have hv:(if u=df then some (V.ptr (mem kf).2 0) else (s.upd o.dst r).t u)=some v:=hv
        split at hv
        ·rename_i eu
         injection hv with hv
         subst hv eu
         obtain ⟨y,y1,y2⟩:=hr'.slot u _ hlast
         refine ⟨y,y1,?_⟩
         rw [Ak] at y2
         have y2:some (Value.pointer (some ⟨x,0,none⟩))=some y:=y2
         rw [Ak]
         have:(if (mem kf).2=(mem (k+1)).2 then some (⟨x,0,z.size,1⟩:Pl) else π'.pl (mem kf).2)=some ⟨x,0,z.size,1⟩:=if_pos (by rw [e1])
         show (match (if (mem kf).2=(mem (k+1)).2 then some (⟨x,0,z.size,1⟩:Pl) else π'.pl (mem kf).2) with
          | some p=>some (Value.pointer (some ⟨p.b,p.base+0,none⟩))
          | none=>none)=some y
         rw [this]
         exact y2
        ·obtain ⟨y,y1,y2⟩:=hr'.slot u v hv
         exact ⟨y,y1,conc_sub m1 y2⟩
      ·refine ih _ _ (k+1) fa π' a' w' A' (fun x hx=>?_) hr' hsub' hfl' hfuel
       have h4:=hqf x hx
       rcases Nat.lt_or_ge (k+1) kf with h5 | h5
       ·exact h5
       ·exact absurd ⟨by omega,x,hx⟩ hadopt
     ·by_cases hk:k=kf
      ·subst hk
       have hfa:fa=none:=by
        cases hfa:fa with
        | none=>rfl
        | some x=>
         exfalso
         obtain ⟨_,_,f3,_⟩:=A.fl x hfa
         rw [h2] at f3
         exact getD_no f3 hun
       subst hfa
       obtain ⟨of,Tf,df,csf,g1,g2,g3,g4,g5,g6,g7,g8,_⟩:=F.flo h1
       rw [h2,ho] at g1;injection g1 with g1;subst g1
       obtain ⟨inf,z,z1,z2,z3,z4⟩:=zeroV_parts g5
       have hexec:(execOp a.eval o).run P w=.ok (.value (.pointer (some ⟨w.heap.size,0,none⟩))) (w.alloc (.cells z.cells Tf)):=by simp [execOp,g2,Instr.alloc,zeroValue,typeInfo,z1,z2,newVar,newRow]
       unfold Oper.wp
       rw [hexec,Oper.upon_value,g3]
       have hsubf:π.sub ⟨π.pl,π.op,(w.heap.size,.cells z.cells Tf (0,0))::π.fl⟩:=⟨fun _ _ h=>h,rfl⟩
       have hmf:=hr.mem.float (.cells z.cells Tf (0,0))
       have hrf:Rel base N w0 ⟨π.pl,π.op,(w.heap.size,.cells z.cells Tf (0,0))::π.fl⟩ (s.put (some df) (.sc (.pointer (some ⟨w.heap.size,0,none⟩)))) (a.put (some df) (.pointer (some ⟨w.heap.size,0,none⟩))) (w.alloc (.cells z.cells Tf (0,0))):=by
        refine ⟨hmf,by simp [Act.put,hr.tsz],hr.defs,fun u v hv=>?_⟩
        have hv:(if u=df then some (V.sc (.pointer (some ⟨w.heap.size,0,none⟩))) else s.t u)=some v:=hv
        split at hv
        ·rename_i eu
         injection hv with hv
         subst hv eu
         exact ⟨.pointer (some ⟨w.heap.size,0,none⟩),by simp [Act.put,hr.tsz,g4],by rw [Ak,if_pos (by rfl)]⟩
        ·rename_i eu
         obtain ⟨y,y1,y2⟩:=hr.slot u v hv
         refine ⟨y,?_,conc_sub hsubf y2⟩
         rw [←y1]
         simp [Act.put,Array.getElem?_setIfInBounds_ne (fun q=>eu q.symm)]
       have hil:i<listed.size:=by rw [A.size];exact hlt
       refine ih _ (s.put (some df) (.sc (.pointer (some ⟨w.heap.size,0,none⟩)))) q (some w.heap.size) _ _ _ ⟨by simp [A.size],A.closed.next hi,A.le,fun k' hk'=>(EG hil).2 (.inr (A.yes k' hk')),fun k' q1 q2 q3=>?_,A.h,A.n,fun j o' u q1 q2 q3 q4=>?_,fun u hu=>?_,fun x hx=>?_⟩ (fun x _=>h) hrf (Pi.sub_trans hsub hsubf) ?_ hfuel
       ·have hne:k'≠k:=fun e=>by have:=q3 e;cases this
        have h6:=A.no k' q1 q2 (fun _=>rfl)
        have h7:b k'≠i:=by
         rcases Nat.lt_or_gt_of_ne hne with h8 | h8
         ·intro e;exact F.inj k' k h8 h1 (by rw [e,h2])
         ·intro e;exact F.inj k k' h8 q2 (by rw [e,h2])
        have h5:¬(listed.setIfInBounds i true).getD (b k') false=true:=by
         rw [EG hil,h6];simp [h7]
        simpa using h5
       ·have hji:j≠i:=fun e=>by have:=q4 (by rw [e,h2]);cases this
        have hud:¬u=df:=fun e=>hji (F.one q1 ho q3 (by rw [g3,e]))
        show (if u=df then _ else s.t u)=_
        rw [if_neg hud]
        exact A.slot j o' u q1 (((EG hil).1 q2).resolve_left hji) q3 (fun _=>rfl)
       ·have hud:¬u=df:=fun e=>hu i o ho ((EG hil).2 (.inl rfl)) (by rw [g3,e])
        show (if u=df then _ else s.t u)=_
        rw [if_neg hud]
        exact A.rest u fun j o' q1 q2=>hu j o' q1 ((EG hil).2 (.inr q2))
       ·injection hx with hx
        subst hx
        refine ⟨Nat.le_of_lt h,h1,by rw [h2];exact (EG hil).2 (.inl rfl),fun d o' q1 q2=>?_⟩
        rw [h2,ho] at q1;injection q1 with q1;subst q1
        rw [g3] at q2;injection q2 with q2;subst q2
        exact if_pos rfl
       ·refine ⟨z.cells,Tf,by rw [show π.fl=π0.fl from hfl],fun y hy=>?_,List.all_eq_true.2 z4,fun o' T' cs' q1 q2 q3=>?_⟩
        ·have:=(hr.mem.fl y (by rw [show π.fl=π0.fl from hfl];exact hy)).2.1
         have:=(Array.getElem?_eq_some_iff.1 this).1
         omega
        ·rw [h2,ho] at q1;injection q1 with q1;subst q1
         rw [g2] at q2;injection q2 with q2;subst q2
         rw [g5] at q3;injection q3 with q3;subst q3
         exact z3
      ·have hre:=F.chain q k h h1 hk
       rw [h2] at hre
       have h5:=reach_listed A.closed hre (.inl hi)
       have h6:=A.no q (Nat.le_refl _) (by omega) hqn
       rw [h6] at h5;cases h5
    ·have hlo:lo≤q:=by
      rcases Nat.lt_or_ge q lo with h | h
      ·exfalso
       have h6:=reach_listed A.closed (h2 q h) (.inl hi)
       rw [A.no q (Nat.le_refl _) (by omega) hqn] at h6;cases h6
      ·exact h
     have hhi:q≤hi2:=by
      rcases Nat.lt_or_ge hi2 q with h | h
      ·exfalso
       have h5:=A.yes hi2 h
       have h6:=reach_listed A.closed (h3 (by have:=A.le;omega)) (.inr h5)
       exact getD_no h6 hun
      ·exact h
     refine h4 q hlo hhi s hag A.h A.n base w0 π a w hr _ Q fun π' a' w' hle hr'=>?_
     refine ih _ _ q fa π' a' w' (A.next F hi ho (fun u=>hput s u) (.inl ⟨rfl,h1⟩) (fun x hx=>Nat.le_of_lt (hqf x hx)) ?_ ?_) hqf hr' (Pi.sub_trans hsub hle.sub) (hfl.le hle) hfuel
     ·cases r<;>cases hd:o.dst<;>exact A.h
     ·cases r<;>cases hd:o.dst<;>exact A.n
theorem rc_drawn (hm:P.follows .mixedOrders=true)(F:Facts P N ops Ts mem b B kf)(id:Nat):RC P N (.region id ops true) (stT (Ts 0) (mem 0).1 (mem 0).2) .normal (stT (Ts ops.size) (mem B).1 (mem B).2):=by
 intro base w0 π a w hr Q hQ
 refine wp_region_any hm (wpAny_of F (π0:=π) hQ ops.size _ (stT (Ts 0) (mem 0).1 (mem 0).2) 0 none π a _ ⟨by simp,?_,Nat.zero_le _,fun k h=>by omega,fun k _ h _=>?_,rfl,rfl,fun j o u h1 h2=>?_,fun u _=>rfl,fun x hx=>by cases hx⟩ (fun x hx=>by cases hx) ?_ ⟨fun _ _ h=>h,rfl⟩ rfl ?_)
 ·intro k o ho hl
  exfalso
  have hlt:=DX ho
  simp [hlt] at hl
 ·simp [F.lt k h]
 ·exfalso
  simp [DX h1] at h2
 ·exact ⟨hr.mem.keep ((Below.refl _ _).drew),hr.tsz,hr.defs,hr.slot⟩
 ·unfold unlisted
  refine Nat.le_trans (List.length_filter_le _ _) (by simp)
end
end Go.Rn
end
section
namespace Go.Rn
open Go.RowKit
open Go.Vm (AX CV DV Bo Cf Dj Ef enters Closed getD_up getD_no DX looks_op)
set_option linter.unusedSectionVars false
noncomputable def eqSc (a b:Value):Bool:=match a,b with
 | .int k i,.int k' j=>match sameK k k' with
  | true=>eqI i j
  | false=>false
 | .bool true,.bool true=>true
 | .bool false,.bool false=>true
 | .string s,.string r=>eqB s.data.toList r.data.toList
 | .pointer none,.pointer none=>true
 | .map none,.map none=>true
 | .slice none 0 0,.slice none 0 0=>true
 | .nilFunc,.nilFunc=>true
 | .complex .f64 a b,.complex .f64 c d=>match Nat.beq a c with
  | true=>Nat.beq b d
  | false=>false
 | _,_=>false
theorem eqSc_spec {a b:Value}(h:eqSc a b=true):a=b:=by
 unfold eqSc at h
 split at h
 ·split at h
  ·rename_i hs
   cases sameK_spec hs
   rw [eqI_eq] at h
   rw [of_decide_eq_true h]
  ·cases h
 ·rfl
 ·rfl
 ·rw [eqS] at h;rw [of_decide_eq_true h]
 ·rfl
 ·rfl
 ·rfl
 ·rfl
 ·split at h
  ·rename_i h1
   rw [Nat.eq_of_beq_eq_true h1,Nat.eq_of_beq_eq_true h]
  ·cases h
 ·cases h
def eqC (a b:Option Nat):Bool:=match a,b with
 | none,none=>true
 | some a,some b=>Nat.beq a b
 | _,_=>false
theorem eqC_spec {a b:Option Nat}(h:eqC a b=true):a=b:=by
 cases a<;>cases b<;>first | rfl | (cases h;done) | (rw [Nat.eq_of_beq_eq_true (show Nat.beq _ _=true from h)])
noncomputable def eqO (a b:V):Bool:=match a,b with
 | .sc x,.sc y=>eqSc x y
 | .ptr i o,.ptr i' o'=>match Nat.beq i i' with
  | true=>Nat.beq o o'
  | false=>false
 | .sl i o s n c,.sl i' o' s' n' c'=>match Nat.beq i i' with
  | true=>match Nat.beq o o' with
   | true=>match Nat.beq s s' with
    | true=>match Nat.beq n n' with
     | true=>eqC c c'
     | false=>false
    | false=>false
   | false=>false
  | false=>false
 | .mp i,.mp i'=>Nat.beq i i'
 | .fn f [],.fn f' []=>Nat.beq f f'
 | .opq k,.opq k'=>Nat.beq k k'
 | _,_=>false
theorem eqO_spec {a b:V}(h:eqO a b=true):a=b:=by
 unfold eqO at h
 split at h
 ·rw [eqSc_spec h]
 ·split at h
  ·rename_i h1;rw [Nat.eq_of_beq_eq_true h1,Nat.eq_of_beq_eq_true h]
  ·cases h
 ·split at h
  ·rename_i h1
   split at h
   ·rename_i h2
    split at h
    ·rename_i h3
     split at h
     ·rename_i h4
      rw [Nat.eq_of_beq_eq_true h1,Nat.eq_of_beq_eq_true h2,Nat.eq_of_beq_eq_true h3,Nat.eq_of_beq_eq_true h4,eqC_spec h]
     ·cases h
    ·cases h
   ·cases h
  ·cases h
 ·rw [Nat.eq_of_beq_eq_true h]
 ·rw [Nat.eq_of_beq_eq_true h]
 ·rw [Nat.eq_of_beq_eq_true h]
 ·cases h
noncomputable def eqL (l:List V):List V→Bool:=@List.rec V (fun _=>List V→Bool) (fun m=>match m with
 | []=>true
 | _::_=>false) (fun a _ ih m=>match m with
 | []=>false
 | b::m=>match eqO a b with
  | true=>ih m
  | false=>false) l
theorem eqL_spec:∀{l m:List V},eqL l m=true→l=m
 | [],[],_=>rfl
 | [],_::_,h=>by cases h
 | _::_,[],h=>by cases h
 | a::l,b::m,h=>by
  have h:(match eqO a b with | true=>eqL l m | false=>false)=true:=h
  split at h
  ·rename_i h1;rw [eqO_spec h1,eqL_spec h]
  ·cases h
noncomputable def eqV (a b:V):Bool:=match a,b with
 | .agg l,.agg m=>eqL l m
 | a,b=>eqO a b
theorem eqV_spec {a b:V}(h:eqV a b=true):a=b:=by
 unfold eqV at h
 split at h
 ·rw [eqL_spec h]
 ·exact eqO_spec h
structure Pd where
 i:Nat
 id:Nat
 off:Nat
 k:Nat
 ag:Bool
 v:V
def LoadAt (h:Hp)(p:Pd):Prop:=∃b cs,h p.id=some b∧b.cs=some cs∧partV (p.ag,p.k) cs p.off=some p.v
noncomputable def seeK (m:Tr Blk)(p:Pd)(K:Prop):Prop:=match m.get p.id with
 | some b=>match b.cs with
  | some cs=>partK p.ag p.k cs p.off fun v=>match eqV p.v v with
   | true=>K
   | false=>False
  | none=>False
 | none=>False
theorem seeK_spec {m:Tr Blk}{p:Pd}{K:Prop}(h:seeK m p K):LoadAt m.get p∧K:=by
 unfold seeK at h
 split at h
 ·rename_i b hb
  split at h
  ·rename_i cs hcs
   obtain ⟨v,h1,h2⟩:=EC h
   split at h2
   ·rename_i he
    rw [←eqV_spec he] at h1
    exact ⟨⟨b,cs,hb,hcs,h1⟩,h2⟩
   ·exact h2.elim
  ·exact h.elim
 ·exact h.elim
abbrev Sn:=List (Nat×Tr Blk×Nat)
noncomputable def prevK (mask:Nat)(p:Pd)(l:Sn):Prop→Prop:=@List.rec (Nat×Tr Blk×Nat) (fun _=>Prop→Prop) (fun K=>K) (fun e _ ih K=>match waits mask e.1 with
 | true=>K
 | false=>seeK e.2.1 p (ih K)) l
noncomputable def pendK (mask:Nat)(m:Tr Blk)(l:List Pd):(List Pd→Prop)→Prop:=@List.rec Pd (fun _=>(List Pd→Prop)→Prop) (fun K=>K []) (fun p _ ih K=>match waits mask p.i with
 | true=>ih K
 | false=>seeK m p (ih fun l=>K (p::l))) l
def isBar (o:Oper):Bool:=match o.op with
 | .call c=>match c.callee with
  | .builtin .len=>false
  | .builtin .min=>false
  | .builtin .max=>false
  | _=>true
 | .box _ _=>true
 | .alloc _=>true
 | .buildSlice _ _ _=>true
 | .makeSlice _ _ _=>true
 | .makeMap _ _=>true
 | .range _ _=>true
 | .store _ _ _=>true
 | .mapEntry _ _ _=>true
 | .entryStore _ _ _ _=>true
 | _=>false
noncomputable def isText (o:Oper)(t:Tr V):Bool:=match o.op with
 | .convert _ _ (.tmp u)=>match t.get u with
  | some (.sl _ _ _ _ _)=>true
  | _=>false
 | .lookup _ _ _ _=>true
 | _=>false
def orB (a b:Bool):Bool:=match a with
 | true=>true
 | false=>b
noncomputable def xbar (P:Program)(ck:CK)(N:Nat)(o:Oper)(t:Tr V)(m:Tr Blk)(n:Nat)(K:Tr V→Tr Blk→Nat→Prop):Prop:=match o.dst with
 | none=>xsto P o t m fun m=>K t m n
 | some d=>match Nat.ble N d with
  | true=>False
  | false=>match o.op with
   | .call c=>match c.callee with
    | .value f=>ovK t f fun g=>match g with
     | .fn f caps=>opsK t c.args.toList fun vs=>appK vs caps fun vs=>ck f vs m n fun v m n=>AQ t d (some v) fun t=>K t m n
     | _=>False
    | _=>xmem P o t m n fun v m n=>AQ t d (some v) fun t=>K t m n
   | .convert _ _ _=>tosK P o t m (fun v=>AQ t d (some v) fun t=>K t m n) False
   | .lookup _ _ _ _=>xval P o t m fun v=>AQ t d (some v) fun t=>K t m n
   | _=>xmem P o t m n fun v m n=>AQ t d (some v) fun t=>K t m n
abbrev DW:=Bool→Nat→List Nat→Tr V→Tr Blk→Nat→Sn→List Pd→(Tr V→Tr Blk→Nat→Prop)→Prop
def chainK (mask:Nat)(l:Sn):Bool:=match l with
 | []=>true
 | e::_=>waits mask e.1
def okF (all:Array Oper)(o:Oper)(i:Nat)(l:Sn):Bool:=match o.op with
 | .alloc _=>match o.dst with
  | some d=>(List.range all.size).all fun j=>Nat.beq j i||(match all[j]?,(masks all.toList)[j]? with
   | some o',some mk=>(!((o'.looksAt all).contains d) && !(waits mk i))||l.all fun e=>waits mk e.1
   | _,_=>true)
  | none=>false
 | _=>false
noncomputable def dwB (P:Program)(ck:CK)(N:Nat)(all:Array Oper)(o:Oper)(ih:DW):DW:=fun fl i ml t m n sn pd K=>match ml with
 | []=>False
 | mask::ml=>gK all o t fun run=>match run with
  | false=>match o.dst with
   | some d=>match Nat.ble N d with
    | true=>False
    | false=>AQ t d (some (.tup [])) fun t=>ih fl (Nat.succ i) ml t m n sn pd K
   | none=>ih fl (Nat.succ i) ml t m n sn pd K
  | true=>match orB (isBar o) (isText o t) with
   | true=>match chainK mask sn with
    | true=>xbar P ck N o t m n fun t' m' n'=>pendK mask m' pd fun pd=>ih fl (Nat.succ i) ml t' m' n' ((i,m,n)::sn) pd K
    | false=>match fl with
     | true=>False
     | false=>match okF all o i sn with
      | true=>xbar P ck N o t m n fun t' m' n'=>pendK mask m' pd fun pd=>ih true (Nat.succ i) ml t' m' n' ((i,m,n)::sn) pd K
      | false=>False
   | false=>match o.dst with
    | none=>False
    | some d=>match Nat.ble N d with
     | true=>False
     | false=>match o.op with
      | .load _ (.global _)=>xval P o t m fun v=>AQ t d (some v) fun t=>ih fl (Nat.succ i) ml t m n sn pd K
      | .load T x=>ovK t x fun u=>match u with
       | .ptr id off=>match m.get id with
        | some b=>match b.cs with
         | some cs=>match Bo P T with
          | some (ag,k)=>partK ag k cs off fun v=>prevK mask ⟨i,id,off,k,ag,v⟩ sn (AQ t d (some v) fun t=>ih fl (Nat.succ i) ml t m n sn (⟨i,id,off,k,ag,v⟩::pd) K)
          | none=>False
         | none=>False
        | none=>False
       | _=>False
      | _=>match memFree o with
       | true=>xval P o t m fun v=>AQ t d (some v) fun t=>ih fl (Nat.succ i) ml t m n sn pd K
       | false=>False
noncomputable def dw (P:Program)(ck:CK)(N:Nat)(all:Array Oper)(l:List Oper):DW:=@List.rec Oper (fun _=>DW) (fun _ _ _ t m n _ _ K=>K t m n) (fun o _ ih=>dwB P ck N all o ih) l
noncomputable def xdrawn (P:Program)(ck:CK)(N:Nat)(ops:Array Oper):XL:=fun t m n K=>match P.follows .mixedOrders with
 | true=>match okR ops with
  | true=>dw P ck N ops ops.toList false 0 (masks ops.toList) t m n [] [] K
  | false=>False
 | false=>False
variable [Cx]
def SnOk (mem:Nat→Tr Blk×Nat)(b:Nat→Nat):Sn→Nat→Prop
 | [],q=>q=0
 | e::l,q=>∃q',q=q' + 1∧b q'=e.1∧mem q'=e.2∧SnOk mem b l q'
section
variable {P:Program} {N:Nat} {ops:Array Oper} {ck:CK} {mem:Nat→Tr Blk×Nat} {b:Nat→Nat}
theorem prevK_spec {mask i:Nat}{fq:Option Nat}(hmask:∀j,mask.testBit j=true→Reach ops i j)(hf:∀k0,fq=some k0→mask.testBit (b k0)=true→∀k,k<k0→Reach ops i (b k)){p:Pd}:∀{l:Sn} {q:Nat} {K:Prop},SnOk mem b l q→(∀k k',k<k'→k' < q→fq≠some k'→Reach ops (b k') (b k))→prevK mask p l K→(∃lo,lo≤q∧(∀k,k<lo→Reach ops i (b k))∧∀k,lo≤k→k<q→LoadAt (mem k).1.get p)∧K
 | [],q,K,hs,_,h=>by
  have hs:q=0:=hs
  subst hs
  exact ⟨⟨0,Nat.le_refl _,fun k hk=>by omega,fun k _ hk=>by omega⟩,h⟩
 | e::l,q,K,hs,hc,h=>by
  obtain ⟨q',rfl,h1,h2,h3⟩:=hs
  have h:(match waits mask e.1 with | true=>K | false=>seeK e.2.1 p (prevK mask p l K)):=h
  split at h
  ·rename_i hw
   rw [waits_bit] at hw
   have hr:=hmask _ hw
   rw [←h1] at hr hw
   refine ⟨⟨q' + 1,Nat.le_refl _,fun k hk=>?_,fun k h4 h5=>by omega⟩,h⟩
   by_cases e:k=q'
   ·subst e;exact hr
   ·by_cases e2:fq=some q'
    ·exact hf q' e2 hw k (by omega)
    ·exact .more hr (hc k q' (by omega) (by omega) e2)
  ·obtain ⟨h4,h5⟩:=seeK_spec h
   obtain ⟨⟨lo,h6,h7,h8⟩,h9⟩:=prevK_spec hmask hf (l:=l) h3 (fun k k' h1 h2=>hc k k' h1 (by omega)) h5
   refine ⟨⟨lo,by omega,h7,fun k h10 h11=>?_⟩,h9⟩
   by_cases e:k=q'
   ·subst e;rw [h2];exact h4
   ·exact h8 k h10 (by omega)
def PdOk (ops:Array Oper)(mem:Nat→Tr Blk×Nat)(b:Nat→Nat)(B q:Nat)(p:Pd):Prop:=∃hi,q≤hi∧hi≤B∧(hi<B→Reach ops (b hi) p.i)∧∀k,q<k→k≤hi→LoadAt (mem k).1.get p
theorem pendK_spec {mask:Nat}{m:Tr Blk}:∀{l:List Pd} {K:List Pd→Prop},pendK mask m l K→∃l',(∀p∈l,mask.testBit p.i=true∨(p∈l'∧LoadAt m.get p))∧K l'
 | [],K,h=>⟨[],by simp,h⟩
 | p::l,K,h=>by
  have h:(match waits mask p.i with | true=>pendK mask m l K | false=>seeK m p (pendK mask m l fun l=>K (p::l))):=h
  split at h
  ·rename_i hw
   obtain ⟨l',h1,h2⟩:=pendK_spec (l:=l) h
   rw [waits_bit] at hw
   refine ⟨l',fun r hr=>?_,h2⟩
   rcases List.mem_cons.1 hr with rfl | hr
   ·exact .inl hw
   ·exact h1 r hr
  ·obtain ⟨h3,h4⟩:=seeK_spec h
   obtain ⟨l',h1,h2⟩:=pendK_spec (l:=l) (K:=fun l=>K (p::l)) h4
   refine ⟨p::l',fun r hr=>?_,h2⟩
   rcases List.mem_cons.1 hr with rfl | hr
   ·exact .inr ⟨List.mem_cons_self ..,h3⟩
   ·exact (h1 r hr).imp id fun ⟨q1,q2⟩=>⟨List.mem_cons_of_mem _ q1,q2⟩
def XB (P:Program)(N:Nat)(o:Oper)(t:Tr V)(m:Tr Blk)(n:Nat)(K:Tr V→Tr Blk→Nat→Prop):Prop:=∃r t' m' n',(o.dst=none→r=none)∧(∀d,o.dst=some d→d<N∧r≠none)∧(∀u,t'.get u=if o.dst=some u then r else t.get u) ∧
 (∀s:St,AgO o t s→s.h=m.get→s.n=n→Step P N o s { (s.upd o.dst r) with h:=m'.get,n:=n' })∧K t' m' n'
theorem xbar_alloc {o:Oper}{T:TypeId}{d:Nat}{t:Tr V}{m:Tr Blk}{n:Nat}{K:Tr V→Tr Blk→Nat→Prop}(hop:o.op=.alloc T)(hdst:o.dst=some d)(h:xbar P ck N o t m n K):∃cs t' m',d<N∧zeroV P T=some cs∧m'.get=hset m.get n (some (.cells cs))∧(∀u,t'.get u=if u=d then some (.ptr n 0) else t.get u) ∧
 (∀s:St,AgO o t s→s.h=m.get→s.n=n→Step P N o s { (s.upd o.dst (some (.ptr n 0))) with h:=m'.get,n:=n+1 })∧K t' m' (n+1):=by
 unfold xbar at h
 rw [hdst] at h
 simp only [hop] at h
 split at h
 ·exact h.elim
 ·rename_i hN
  have hd:=nble_lt hN
  unfold xmem at h
  simp only [hop] at h
  split at h
  ·rename_i cs hz
   have h2:=spK_spec h
   obtain ⟨m',q,h5⟩:=newK_spec h2
   obtain ⟨t',h3,h4⟩:=Bh h5
   refine ⟨cs,t',m',hd,hz,q,h3,fun s _ hh hn=>?_,h4⟩
   have:=r_alloc (P:=P) (s:=s) hop hz hdst hd
   rw [hh,hn] at this
   rw [q,hdst]
   exact this
  ·exact h.elim
theorem xbar_spec (hck:CKok P ck){o:Oper}{t:Tr V}{m:Tr Blk}{n:Nat}{K:Tr V→Tr Blk→Nat→Prop}(h:xbar P ck N o t m n K):XB P N o t m n K:=by
 unfold xbar at h
 have done:∀{d:Nat} {v:V} {t1:Tr V} {m1:Tr Blk} {n1:Nat},o.dst=some d→d<N→(∀s:St,AgO o t s→s.h=m.get→s.n=n→Step P N o s { (s.put (some d) v) with h:=m1.get,n:=n1 })→(∀u,t1.get u=if u=d then some v else t.get u)→K t1 m1 n1 →
  XB P N o t m n K:=by
  intro d v t1 m1 n1 hdst hd hst ht hK
  refine ⟨some v,t1,m1,n1,(fun e=>by rw [hdst] at e;cases e),(fun d' e=>by rw [hdst] at e;injection e with e;subst e;exact ⟨hd,by simp⟩),fun u=>?_,fun s ha h1 h2=>?_,hK⟩
  ·rw [ht,hdst]
   by_cases e:u=d
   ·subst e;simp
   ·rw [if_neg e,if_neg (fun h=>e (by injection h with h;exact h.symm))]
  ·rw [hdst];exact hst s ha h1 h2
 split at h
 ·rename_i hdst
  obtain ⟨m',h1,h2⟩:=xsto_spec h
  refine ⟨none,t,m',n,fun _=>rfl,(fun d e=>by rw [hdst] at e;cases e),(fun u=>by rw [hdst];simp),fun s ha h3 h4=>?_,h2⟩
  have:=h1 N s ha h3 h4 hdst
  rw [hdst];exact this
 ·rename_i d hdst
  split at h
  ·exact h.elim
  ·rename_i hN
   have hd:=nble_lt hN
   have mem:(xmem P o t m n fun v m n=>AQ t d (some v) fun t=>K t m n)→XB P N o t m n K:=fun h=>by
    obtain ⟨v,m',n',h1,h2⟩:=xmem_spec h
    obtain ⟨t',h3,h4⟩:=Bh h2
    exact done hdst hd (fun s ha hh hn=>h1 N s d ha hh hn hdst hd) h3 h4
   split at h
   ·rename_i c hop
    split at h
    ·rename_i f hc
     obtain ⟨g,h1,h2⟩:=Bj h
     clear h
     split at h2
     ·rename_i f' caps
      obtain ⟨vs,h3,h4⟩:=opsK_spec h2
      have h5:=appK_spec h4
      obtain ⟨v,m',n',h6,h7,h8⟩:=hck _ _ _ _ _ h5
      obtain ⟨t',h9,h10⟩:=Bh h8
      refine done hdst hd (fun s ha hh hn=>?_) h9 h10
      have hmem:∀x,x∈c.args.toList→x∈o.op.operands:=fun x hx=>by simp [hop,Op.operands,Call.operands];exact .inr (by simpa using hx)
      have hf:f∈o.op.operands:=by simp [hop,Op.operands,Call.operands,hc]
      exact r_call (P:=P) (N:=N) (s:=s) hop hc (ha f _ hf (h1 _ _)) (h3 s fun x v hx hv=>ha x v (hmem x hx) hv) h6 (by rw [hh,hn];exact h7) hdst hd
     ·exact h2.elim
    ·exact mem h
   ·rcases tosK_spec h with h | ⟨v,h1,h2⟩
    ·exact h.elim
    ·obtain ⟨t',h3,h4⟩:=Bh h2
     exact done hdst hd (fun s ha hh hn=>by
      have:=h1 N s d ha hh hdst hd
      have e:({ (s.put (some d) v) with h:=m.get,n:=n }:St)=s.put (some d) v:=by
       rw [←hh,←hn];rfl
      rw [e];exact this) h3 h4
   ·obtain ⟨v,h1,h2⟩:=xval_spec h
    obtain ⟨t',h3,h4⟩:=Bh h2
    exact done hdst hd (fun s ha hh hn=>by
     have:=h1.1 N s d ha hh hdst hd
     have e:({ (s.put (some d) v) with h:=m.get,n:=n }:St)=s.put (some d) v:=by
      rw [←hh,←hn];rfl
     rw [e];exact this) h3 h4
   ·exact mem h
end
end Go.Rn
end
section
namespace Go.Rn
open Go.RowKit
open Go.Vm (AX CV DV Bo Cf Dj Ef enters Closed getD_up getD_no DX looks_op)
set_option linter.unusedSectionVars false
variable [Cx]
def fset {α:Type}(f:Nat→α)(i:Nat)(v:α):Nat→α:=fun j=>if j=i then v else f j
theorem Ep {α:Type}(f:Nat→α)(i:Nat)(v:α):fset f i v i=v:=if_pos rfl
theorem Dw {α:Type}{f:Nat→α}{i j:Nat}{v:α}(h:j≠i):fset f i v j=f j:=if_neg h
section
variable {P:Program} {N:Nat} {ops:Array Oper} {ck:CK}
theorem OpFact.congr {Ts Ts':Nat→Tr V}{mem:Nat→Tr Blk×Nat}{b:Nat→Nat}{B j:Nat}{o:Oper}(h:OpFact P N ops Ts' mem b B j o)(h1:Ts j=Ts' j)(h2:Ts (j+1)=Ts' (j+1)):OpFact P N ops Ts mem b B j o:=by
 obtain ⟨r,q1,q2,q3,q4⟩:=h.upd
 exact ⟨r,q1,q2,by rw [h1,h2];exact q3,by rw [h1];exact q4⟩
theorem FloatAt.congr {Ts Ts':Nat→Tr V}{mem:Nat→Tr Blk×Nat}{b:Nat→Nat}{k:Nat}(h:FloatAt P N ops Ts' mem b k)(h1:Ts (b k+1)=Ts' (b k+1)):FloatAt P N ops Ts mem b k:=by
 obtain ⟨o,T,d,cs,g1,g2,g3,g4,g5,g6,g7,g8,g9⟩:=h
 exact ⟨o,T,d,cs,g1,g2,g3,g4,g5,g6,g7,by rw [h1];exact g8,g9⟩
theorem SnOk.congr {mem mem':Nat→Tr Blk×Nat}{b b':Nat→Nat}:∀{l:Sn} {q:Nat},SnOk mem b l q→(∀k,k<q→mem' k=mem k)→(∀k,k<q→b' k=b k)→SnOk mem' b' l q
 | [],q,h,_,_=>h
 | e::l,q,h,h1,h2=>by
  obtain ⟨q',rfl,q1,q2,q3⟩:=h
  exact ⟨q',rfl,(h2 q' (by omega)).trans q1,(h1 q' (by omega)).trans q2,SnOk.congr q3 (fun k hk=>h1 k (by omega)) fun k hk=>h2 k (by omega)⟩
def Rest (P:Program)(N:Nat)(ops:Array Oper)(i:Nat)(t:Tr V)(mem0:Nat→Tr Blk×Nat)(b0:Nat→Nat)(q:Nat)(pd:List Pd)(K:Tr V→Tr Blk→Nat→Prop)(fq:Option Nat):Prop:=
 ∃(B:Nat) (mem:Nat→Tr Blk×Nat) (b:Nat→Nat) (Ts:Nat→Tr V) (kf:Nat),((∀k0,fq=some k0→kf=k0)∧(fq=none→q≤kf))∧(∀k k',q≤k→k<k'→k' < B→b k≠b k')∧(q≤kf→kf<B→FloatAt P N ops Ts mem b kf)∧q≤B∧(∀k,k≤q→mem k=mem0 k)∧(∀k,k<q→b k=b0 k)∧Ts i=t∧(∀k,q≤k→k<B→i≤b k∧b k<ops.size)∧(∀k k',k<k'→k' < B→k'≠kf→Reach ops (b k') (b k)) ∧
  (∀p∈pd,PdOk ops mem b B q p)∧(∀j o,i≤j→ops[j]? = some o→OpFact P N ops Ts mem b B j o)∧K (Ts ops.size) (mem B).1 (mem B).2
theorem Rest.plain {i q:Nat}{o:Oper}{t t1:Tr V}{mem0:Nat→Tr Blk×Nat}{b0:Nat→Nat}{pd pd':List Pd}{K:Tr V→Tr Blk→Nat→Prop}{fq:Option Nat}(hi:ops[i]? = some o)(hb0:∀k,k<q→b0 k<i)(hpd:∀p∈pd,p∈pd'){r:Option V}(hr1:o.dst=none→r=none)(hr2:∀d,o.dst=some d→d<N∧r≠none)(ht:∀u,t1.get u=if o.dst=some u then r else t.get u)
 {run:Bool} (hw:Wants ops o t.get run) (hskip:run=false→(r=none∨r=some (.tup [])))
 (hrun:run=true→∀(B:Nat) (mem:Nat→Tr Blk×Nat) (b:Nat→Nat),q≤B→(∀k,k≤q→mem k=mem0 k)→(∀k,k<q→b k=b0 k)→(∀p∈pd',PdOk ops mem b B q p)→∃lo hi,lo≤B∧(∀k,k<lo→Reach ops i (b k))∧(hi<B→Reach ops (b hi) i)∧∀q',lo≤q'→q'≤hi→∀s:St,AgO o t s→s.h=(mem q').1.get→s.n=(mem q').2→Step P N o s (s.upd o.dst r))
 (h:Rest P N ops (i+1) t1 mem0 b0 q pd' K fq):Rest P N ops i t mem0 b0 q pd K fq:=by
 obtain ⟨B,mem,b,Ts,kf,f1,f2,f3,h1,h2,h3,h4,h5,h6,h7,h8,h9⟩:=h
 have hlt:=DX hi
 have hne:∀k,k<B→b k≠i:=by
  intro k hk
  rcases Nat.lt_or_ge k q with h | h
  ·rw [h3 k h];have:=hb0 k h;omega
  ·have:=(h5 k h hk).1;omega
 refine ⟨B,mem,b,fset Ts i t,kf,f1,f2,fun z1 z2=>(f3 z1 z2).congr (Dw (by have:=(h5 kf z1 z2).1;omega)),h1,h2,h3,Ep ..,fun k q1 q2=>⟨by have:=(h5 k q1 q2).1;omega,(h5 k q1 q2).2⟩,h6,fun p hp=>h7 p (hpd p hp),fun j o' hj ho'=>?_,by rw [Dw (by omega)];exact h9⟩
 by_cases e:j=i
 ·subst e
  rw [hi] at ho';injection ho' with ho';subst ho'
  refine ⟨r,hr1,hr2,?_,run,?_,fun hf=>⟨hskip hf,hne⟩,fun hf=>.inr ⟨hne,?_⟩⟩
  ·rw [Ep,Dw (by omega),h4];exact ht
  ·rw [Ep];exact hw
  ·rw [Ep];exact hrun hf B mem b h1 h2 h3 h7
 ·exact (h8 j o' (by omega) ho').congr (Dw e) (Dw (by omega))
theorem Rest.bar {i q:Nat}{o:Oper}{t t1:Tr V}{m':Tr Blk}{n':Nat}{mem0:Nat→Tr Blk×Nat}{b0:Nat→Nat}{pd pd':List Pd}{K:Tr V→Tr Blk→Nat→Prop}{fq fq':Option Nat}(hi:ops[i]? = some o)(hb0:∀k,k<q→b0 k<i){r:Option V}(hr1:o.dst=none→r=none)(hr2:∀d,o.dst=some d→d<N∧r≠none)(ht:∀u,t1.get u=if o.dst=some u then r else t.get u)
 (hw:Wants ops o t.get true) (hst:∀s:St,AgO o t s→s.h=(mem0 q).1.get→s.n=(mem0 q).2→Step P N o s { (s.upd o.dst r) with h:=m'.get,n:=n' })
 (hpd:∀p∈pd,Reach ops i p.i∨(p∈pd'∧LoadAt m'.get p))
 (hnf:fq≠some q) (hfq:fq'=fq∨(fq=none∧fq'=some q∧∃T d cs,o.op=.alloc T∧o.dst=some d∧d<N∧zeroV P T=some cs∧m'.get=hset (mem0 q).1.get (mem0 q).2 (some (.cells cs))∧n'=(mem0 q).2+1∧t1.get d=some (.ptr (mem0 q).2 0)∧∀j o',ops[j]? = some o'→j≠i→d∈o'.looksAt ops→∀k',k' < q→Reach ops j (b0 k')))
 (h:Rest P N ops (i+1) t1 (fset mem0 (q+1) (m',n')) (fset b0 q i) (q+1) pd' K fq'):Rest P N ops i t mem0 b0 q pd K fq:=by
 obtain ⟨B,mem,b,Ts,kf,f1,f2,f3,h1,h2,h3,h4,h5,h6,h7,h8,h9⟩:=h
 have hlt:=DX hi
 have hbq:b q=i:=by rw [h3 q (by omega),Ep]
 have hmq:mem q=mem0 q:=by rw [h2 q (by omega),Dw (by omega)]
 have hmq1:mem (q+1)=(m',n'):=by rw [h2 (q+1) (Nat.le_refl _),Ep]
 refine ⟨B,mem,b,fset Ts i t,kf,?_,fun k k' q1 q2 q3=>?_,fun z1 z2=>?_,by omega,fun k hk=>?_,fun k hk=>?_,Ep ..,fun k q1 q2=>?_,h6,fun p hp=>?_,fun j o' hj ho'=>?_,by rw [Dw (by omega)];exact h9⟩
 ·rcases hfq with rfl | ⟨rfl,rfl,_⟩
  ·exact ⟨f1.1,fun e=>by have:=f1.2 e;omega⟩
  ·exact ⟨(fun k0 e=>by cases e),fun _=>by have:=f1.1 q rfl;omega⟩
 ·by_cases e:k=q
  ·subst e
   rw [hbq]
   have:=(h5 k' (by omega) q3).1
   omega
  ·exact f2 k k' (by omega) q2 q3
 ·by_cases e:kf=q
  ·subst e
   rcases hfq with rfl | ⟨_,rfl,T,d,cs,g1,g2,g3,g4,g5,g6,g7,g8⟩
   ·exfalso
    cases hq:fq' with
    | none=>have:=f1.2 hq;omega
    | some k0=>
     have:=f1.1 k0 hq
     subst this
     exact hnf hq
   ·refine ⟨o,T,d,cs,by rw [hbq];exact hi,g1,g2,g3,g4,by rw [hmq1,hmq];exact g5,by rw [hmq1,hmq];exact g6,by rw [hbq,Dw (by omega),h4,hmq];exact g7,fun j o' q1 q2 q3 k' hk'=>?_⟩
    rw [hbq] at q2
    rw [h3 k' (by omega),Dw (by omega)]
    exact g8 j o' q1 q2 q3 k' hk'
  ·exact (f3 (by omega) z2).congr (Dw (by have:=(h5 kf (by omega) z2).1;omega))
 ·rw [h2 k (by omega),Dw (by omega)]
 ·rw [h3 k (by omega),Dw (by omega)]
 ·by_cases e:k=q
  ·subst e;rw [hbq];exact ⟨Nat.le_refl _,hlt⟩
  ·have:=h5 k (by omega) q2;exact ⟨by omega,this.2⟩
 ·rcases hpd p hp with hr | ⟨hm,hl⟩
  ·exact ⟨q,Nat.le_refl _,by omega,fun _=>by rw [hbq];exact hr,fun k q1 q2=>by omega⟩
  ·obtain ⟨hi2,q1,q2,q3,q4⟩:=h7 p hm
   refine ⟨hi2,by omega,q2,q3,fun k q5 q6=>?_⟩
   by_cases e:k=q+1
   ·subst e;rw [hmq1];exact hl
   ·exact q4 k (by omega) q6
 ·by_cases e:j=i
  ·subst e
   rw [hi] at ho';injection ho' with ho';subst ho'
   refine ⟨r,hr1,hr2,?_,true,?_,(fun hf=>by cases hf),fun _=>.inl ⟨q,by omega,hbq,?_⟩⟩
   ·rw [Ep,Dw (by omega),h4];exact ht
   ·rw [Ep];exact hw
   ·rw [Ep,hmq,hmq1];exact hst
  ·exact (h8 j o' (by omega) ho').congr (Dw e) (Dw (by omega))
theorem chainK_spec {mask i q:Nat}{mem0:Nat→Tr Blk×Nat}{b0:Nat→Nat}{sn:Sn}{fq:Option Nat}(hmask:∀j,mask.testBit j=true→Reach ops i j)(hf:∀k0,fq=some k0→mask.testBit (b0 k0)=true→∀k,k<k0→Reach ops i (b0 k))(hs:SnOk mem0 b0 sn q)(hc:∀k k',k<k'→k' < q→fq≠some k'→Reach ops (b0 k') (b0 k))(h:chainK mask sn=true):∀k,k<q→Reach ops i (b0 k):=by
 unfold chainK at h
 split at h
 ·have hs:q=0:=hs
  exact fun k hk=>by omega
 ·rename_i e l
  obtain ⟨q',rfl,h1,h2,h3⟩:=hs
  rw [waits_bit] at h
  have hr:=hmask _ h
  rw [←h1] at hr h
  refine fun k hk=>?_
  by_cases e:k=q'
  ·subst e;exact hr
  ·by_cases e2:fq=some q'
   ·exact hf q' e2 h k (by omega)
   ·exact .more hr (hc k q' (by omega) (by omega) e2)
theorem snAll {mk j:Nat}(hmk:∀k,mk.testBit k=true→Reach ops j k){mem0:Nat→Tr Blk×Nat}{b0:Nat→Nat}:∀{sn:Sn} {q:Nat},SnOk mem0 b0 sn q→(sn.all fun e=>waits mk e.1)=true→∀k,k<q→Reach ops j (b0 k)
 | [],q,hs,_,k,hk=>by
  have hs:q=0:=hs
  omega
 | e::l,q,hs,h,k,hk=>by
  obtain ⟨q',rfl,h1,h2,h3⟩:=hs
  rw [List.all_cons,Bool.and_eq_true] at h
  by_cases e2:k=q'
  ·subst e2
   rw [h1]
   exact hmk _ (by rw [←waits_bit];exact h.1)
  ·exact snAll hmk h3 h.2 k (by omega)
theorem okF_spec {o:Oper}{i q:Nat}{sn:Sn}{mem0:Nat→Tr Blk×Nat}{b0:Nat→Nat}(hmk:∀(j m:Nat),(masks ops.toList)[j]? = some m→∀k,m.testBit k=true→Reach ops j k)(hml:(masks ops.toList).length=ops.size)(hs:SnOk mem0 b0 sn q)(h:okF ops o i sn=true) :
 ∃T d,o.op=.alloc T∧o.dst=some d∧(∀j o',ops[j]? = some o'→j≠i→d∈o'.looksAt ops→∀k,k<q→Reach ops j (b0 k))∧∀j mk,j≠i→j<ops.size→(masks ops.toList)[j]? = some mk→mk.testBit i=true→∀k,k<q→Reach ops j (b0 k):=by
 unfold okF at h
 split at h
 ·rename_i T hop
  split at h
  ·rename_i d hdst
   have key:∀j o' mk,ops[j]? = some o'→(masks ops.toList)[j]? = some mk→j≠i→(!((o'.looksAt ops).contains d) && !(waits mk i))=true∨(sn.all fun e=>waits mk e.1)=true:=by
    intro j o' mk h1 h2 hne
    have h3:=List.all_eq_true.1 h j (List.mem_range.2 (DX h1))
    rw [h1,h2] at h3
    simp only [Bool.or_eq_true] at h3
    rcases h3 with h3 | h3 | h3
    ·exact absurd (Nat.eq_of_beq_eq_true h3) hne
    ·exact .inl h3
    ·exact .inr h3
   refine ⟨T,d,hop,hdst,fun j o' h1 hne hd k hk=>?_,fun j mk hne hj h2 hb k hk=>?_⟩
   ·have hlt:=DX h1
    have h2:(masks ops.toList)[j]? = some ((masks ops.toList)[j]'(by omega)):=List.getElem?_eq_getElem (by omega)
    rcases key j o' _ h1 h2 hne with h3 | h3
    ·simp only [Bool.and_eq_true,Bool.not_eq_true'] at h3
     have:(o'.looksAt ops).contains d=true:=by simpa using hd
     rw [this] at h3;cases h3.1
    ·exact snAll (hmk j _ h2) hs h3 k hk
   ·rcases key j ops[j] mk (Array.getElem?_eq_getElem hj) h2 hne with h3 | h3
    ·simp only [Bool.and_eq_true,Bool.not_eq_true'] at h3
     rw [←waits_bit] at hb
     rw [hb] at h3;cases h3.2
    ·exact snAll (hmk j _ h2) hs h3 k hk
  ·cases h
 ·cases h
theorem dw_spec (hck:CKok P ck)(hmk:∀(j m:Nat),(masks ops.toList)[j]? = some m→∀k,m.testBit k=true→Reach ops j k)(hmz:(masks ops.toList).length=ops.size):∀(l:List Oper) (ml:List Nat) (i:Nat) (t:Tr V) (m:Tr Blk) (n:Nat) (sn:Sn) (pd:List Pd) (K:Tr V→Tr Blk→Nat→Prop) (mem0:Nat→Tr Blk×Nat) (b0:Nat→Nat) (q:Nat) (fl:Bool) (fq:Option Nat),
 (∀j,l[j]? = ops[i+j]?)→(∀j,ml[j]? = (masks ops.toList)[i+j]?)→i+l.length=ops.size→SnOk mem0 b0 sn q→mem0 q=(m,n)→(∀k,k<q→b0 k<i)→(∀k k',k<k'→k' < q→fq≠some k'→Reach ops (b0 k') (b0 k))→(fl=false→fq=none)→(∀k0,fq=some k0→k0<q∧∀j mk,i≤j→j<ops.size→(masks ops.toList)[j]? = some mk→mk.testBit (b0 k0)=true→∀k,k<k0→Reach ops j (b0 k))→dw P ck N ops l fl i ml t m n sn pd K→Rest P N ops i t mem0 b0 q pd K fq:=by
 intro l
 induction l with
 | nil=>
  intro ml i t m n sn pd K mem0 b0 q fl fq hl hml hlen hs hm hb0 hch hfl hff h
  have h:K t m n:=h
  have hi:i=ops.size:=by simpa using hlen
  refine ⟨q,mem0,b0,fun _=>t,(match fq with | some k0=>k0 | none=>q),⟨fun k0 e=>by subst e;rfl,fun e=>by subst e;exact Nat.le_refl _⟩,fun k k' q1 q2 q3=>by omega,fun q1 q2=>by omega,Nat.le_refl _,fun _ _=>rfl,fun _ _=>rfl,rfl,fun k q1 q2=>by omega,fun k k' q1 q2 q3=>hch k k' q1 q2 (fun e=>q3 (by subst e;rfl)),fun p _=>⟨q,Nat.le_refl _,Nat.le_refl _,fun h=>by omega,fun k q1 q2=>by omega⟩,fun j o q1 q2=>?_,by rw [hm];exact h⟩
  have:=DX q2;omega
 | cons o l ih=>
  intro ml i t m n sn pd K mem0 b0 q fl fq hl hml hlen hs hm hb0 hch hfl hff h
  have h:dwB P ck N ops o (dw P ck N ops l) fl i ml t m n sn pd K:=h
  have hi:ops[i]? = some o:=by simpa using (hl 0).symm
  have hl':∀j,l[j]? = ops[i+1+j]? := fun j=>by have:=hl (j+1);simpa [Nat.add_assoc,Nat.add_comm 1 j] using this
  have hlen':i+1+l.length=ops.size:=by simp at hlen;omega
  have hb1:∀k,k<q→b0 k<i+1:=fun k hk=>by have:=hb0 k hk;omega
  cases ml with
  | nil=>exact h.elim
  | cons mask ml=>
   have hml':∀j,ml[j]? = (masks ops.toList)[i+1+j]? := by
    intro j
    have h9:=hml (j+1)
    rw [List.getElem?_cons_succ] at h9
    rw [h9,Nat.add_assoc,Nat.add_comm 1 j]
   simp only [dwB] at h
   have hmask:∀j,mask.testBit j=true→Reach ops i j:=hmk i mask (by simpa using (hml 0).symm)
   have hilt:=DX hi
   have hf:∀k0,fq=some k0→mask.testBit (b0 k0)=true→∀k,k<k0→Reach ops i (b0 k):=fun k0 e hb=>(hff k0 e).2 i mask (Nat.le_refl _) hilt (by simpa using (hml 0).symm) hb
   have hff':∀k0,fq=some k0→k0<q∧∀j mk,i+1≤j→j<ops.size→(masks ops.toList)[j]? = some mk→mk.testBit (b0 k0)=true→∀k,k<k0→Reach ops j (b0 k):=fun k0 e=>⟨(hff k0 e).1,fun j mk h1=>(hff k0 e).2 j mk (by omega)⟩
   obtain ⟨run,hw,h2⟩:=gK_spec h
   clear h
   cases run with
   | false=>
    simp only at h2
    split at h2
    ·rename_i d hdst
     split at h2
     ·exact h2.elim
     ·rename_i hN
      have hd:=nble_lt hN
      obtain ⟨t1,h3,h4⟩:=Bh h2
      have h5:=ih ml (i+1) t1 m n sn pd K mem0 b0 q fl fq hl' hml' hlen' hs hm hb1 hch hfl hff' h4
      refine h5.plain hi hb0 (fun p hp=>hp) (r:=some (.tup [])) (fun e=>by rw [hdst] at e;cases e) (fun d' e=>?_) (fun u=>?_) hw (fun _=>.inr rfl) (fun e=>by cases e)
      ·rw [hdst] at e;injection e with e;subst e;exact ⟨hd,by simp⟩
      ·rw [h3,hdst]
       by_cases e:u=d
       ·subst e;simp
       ·rw [if_neg e,if_neg (fun h=>e (by injection h with h;exact h.symm))]
    ·rename_i hdst
     have h5:=ih ml (i+1) t m n sn pd K mem0 b0 q fl fq hl' hml' hlen' hs hm hb1 hch hfl hff' h2
     exact h5.plain hi hb0 (fun p hp=>hp) (r:=none) (fun _=>rfl) (fun d' e=>by rw [hdst] at e;cases e) (fun u=>by rw [hdst];simp) hw (fun _=>.inl rfl) (fun e=>by cases e)
   | true=>
    simp only at h2
    split at h2
    ·have hbn:∀k,k<q+1→fset b0 q i k<i+1:=fun k hk=>by
      by_cases e:k=q
      ·rw [e,Ep];omega
      ·rw [Dw e];have:=hb0 k (by omega);omega
     have hnf:fq≠some q:=fun e=>by have:=(hff q e).1;omega
     split at h2
     ·rename_i hck2
      have hcq:=chainK_spec hmask hf hs hch hck2
      obtain ⟨r,t1,m1,n1,q1,q2,q3,q4,h4⟩:=xbar_spec hck h2
      obtain ⟨pd',h5,h6⟩:=pendK_spec h4
      have h7:=ih ml (i+1) t1 m1 n1 ((i,m,n)::sn) pd' K (fset mem0 (q+1) (m1,n1)) (fset b0 q i) (q+1) fl fq hl' hml' hlen'
       ⟨q,rfl,Ep ..,by rw [Dw (by omega)];exact hm,hs.congr (fun k hk=>Dw (by omega)) (fun k hk=>Dw (by omega))⟩ (Ep ..) hbn
       (fun k k' hk hk' hn=>by
         by_cases e:k'=q
         ·rw [e,Ep,Dw (by omega)];exact hcq k (by omega)
         ·rw [Dw e,Dw (by omega)];exact hch k k' hk (by omega) hn) hfl
       (fun k0 e=>by
         obtain ⟨g1,g2⟩:=hff' k0 e
         refine ⟨by omega,fun j mk x1 x2 x3 x4 k hk=>?_⟩
         rw [Dw (by omega)] at x4 ⊢
         exact g2 j mk x1 x2 x3 x4 k hk) h6
      exact h7.bar hi hb0 q1 q2 q3 hw (by rw [hm];exact q4) (fun p hp=>(h5 p hp).imp (fun h=>hmask _ h) fun h=>h) hnf (.inl rfl)
     ·split at h2
      ·exact h2.elim
      ·rename_i hfe
       have hfn:=hfl rfl
       subst hfn
       split at h2
       ·rename_i hokf
        obtain ⟨T,d,hop,hdst,k1,k2⟩:=okF_spec hmk hmz hs hokf
        obtain ⟨cs,t1,m1,hd,hz,hm1,ht1,hst,h4⟩:=xbar_alloc hop hdst h2
        obtain ⟨pd',h5,h6⟩:=pendK_spec h4
        have h7:=ih ml (i+1) t1 m1 (n+1) ((i,m,n)::sn) pd' K (fset mem0 (q+1) (m1,n+1)) (fset b0 q i) (q+1) true (some q) hl' hml' hlen'
         ⟨q,rfl,Ep ..,by rw [Dw (by omega)];exact hm,hs.congr (fun k hk=>Dw (by omega)) (fun k hk=>Dw (by omega))⟩ (Ep ..) hbn
         (fun k k' hk hk' hn=>by
           by_cases e:k'=q
           ·exact absurd (by rw [e]) hn
           ·rw [Dw e,Dw (by omega)];exact hch k k' hk (by omega) (by simp)) (fun e=>by cases e)
         (fun k0 e=>by
           injection e with e
           subst e
           refine ⟨by omega,fun j mk x1 x2 x3 x4 k hk=>?_⟩
           rw [Ep] at x4
           rw [Dw (by omega)]
           exact k2 j mk (by omega) x2 x3 x4 k hk) h6
        refine h7.bar hi hb0 (r:=some (.ptr n 0)) (fun e=>by rw [hdst] at e;cases e) (fun d' e=>by rw [hdst] at e;injection e with e;subst e;exact ⟨hd,by simp⟩) (fun u=>?_) hw (by rw [hm];exact hst) (fun p hp=>(h5 p hp).imp (fun h=>hmask _ h) fun h=>h) hnf
         (.inr ⟨rfl,rfl,T,d,cs,hop,hdst,hd,hz,by rw [hm];exact hm1,by rw [hm],by rw [ht1,if_pos rfl,hm],k1⟩)
        rw [ht1,hdst]
        by_cases e:u=d
        ·subst e;simp
        ·rw [if_neg e,if_neg (fun h=>e (by injection h with h;exact h.symm))]
       ·exact h2.elim
    ·split at h2
     ·exact h2.elim
     ·rename_i d hdst
      split at h2
      ·exact h2.elim
      ·rename_i hN
       have hd:=nble_lt hN
       have hr2:∀(v:V) d',o.dst=some d'→d' < N∧some v≠none:=fun v d' e=>by rw [hdst] at e;injection e with e;subst e;exact ⟨hd,by simp⟩
       have hr1:∀v:V,o.dst=none→some v=none:=fun v e=>by rw [hdst] at e;cases e
       have hget:∀{t1:Tr V} {v:V},(∀u,t1.get u=if u=d then some v else t.get u)→∀u,t1.get u=if o.dst=some u then some v else t.get u:=fun {t1 v} h u=>by
        rw [h,hdst]
        by_cases e:u=d
        ·subst e;simp
        ·rw [if_neg e,if_neg (fun h=>e (by injection h with h;exact h.symm))]
       split at h2
       ·rename_i T g hop
        have hmf:memFree o=true:=by simp [memFree,hop]
        obtain ⟨v,g1,g2⟩:=xval_spec h2
        obtain ⟨t1,g3,g4⟩:=Bh g2
        have h5:=ih ml (i+1) t1 m n sn pd K mem0 b0 q fl fq hl' hml' hlen' hs hm hb1 hch hfl hff' g4
        refine h5.plain hi hb0 (fun p hp=>hp) (hr1 v) (hr2 v) (hget g3) hw (fun e=>by cases e) fun _ B mem b z1 z2 z3 z4=>?_
        refine ⟨0,B,Nat.zero_le _,fun k hk=>by omega,fun h=>by omega,fun q' _ _ s ha hh hn=>?_⟩
        rw [hdst]
        exact g1.2 hmf N s d ha hdst hd
       ·rename_i T x _ hop
        obtain ⟨u,g1,g2⟩:=Bj h2
        clear h2
        split at g2
        ·rename_i id off
         split at g2
         ·rename_i bk hbk
          split at g2
          ·rename_i cs hcs
           split at g2
           ·rename_i ag k hsh
            obtain ⟨v,g3,g4⟩:=EC g2
            obtain ⟨⟨lo,g5,g6,g7⟩,g8⟩:=prevK_spec hmask hf hs hch g4
            obtain ⟨t1,g9,g10⟩:=Bh g8
            have h5:=ih ml (i+1) t1 m n sn _ K mem0 b0 q fl fq hl' hml' hlen' hs hm hb1 hch hfl hff' g10
            refine h5.plain hi hb0 (fun p hp=>List.mem_cons_of_mem _ hp) (hr1 v) (hr2 v) (hget g9) hw (fun e=>by cases e) fun _ B mem b z1 z2 z3 z4=>?_
            obtain ⟨hi2,y1,y2,y3,y4⟩:=z4 _ (List.mem_cons_self ..)
            refine ⟨lo,hi2,by omega,fun k' hk'=>by rw [z3 k' (by omega)];exact g6 k' hk',y3,fun q' x1 x2 s ha hh hn=>?_⟩
            have hload:LoadAt (mem q').1.get ⟨i,id,off,k,ag,v⟩:=by
             rcases Nat.lt_trichotomy q' q with e | e | e
             ·rw [z2 q' (by omega)];exact g7 q' x1 e
             ·subst e;rw [z2 q' (Nat.le_refl _),hm];exact ⟨bk,cs,hbk,hcs,g3⟩
             ·exact y4 q' e x2
            obtain ⟨bk',cs',w1,w2,w3⟩:=hload
            rw [hdst]
            exact r_load (P:=P) (N:=N) (s:=s) hop (ha x _ (by simp [hop,Op.operands]) (g1 _ _)) (by rw [hh];exact w1) w2 hsh w3 hdst hd
           ·exact g2.elim
          ·exact g2.elim
         ·exact g2.elim
        ·exact g2.elim
       ·split at h2
        ·rename_i hmf
         obtain ⟨v,g1,g2⟩:=xval_spec h2
         obtain ⟨t1,g3,g4⟩:=Bh g2
         have h5:=ih ml (i+1) t1 m n sn pd K mem0 b0 q fl fq hl' hml' hlen' hs hm hb1 hch hfl hff' g4
         refine h5.plain hi hb0 (fun p hp=>hp) (hr1 v) (hr2 v) (hget g3) hw (fun e=>by cases e) fun _ B mem b z1 z2 z3 z4=>?_
         refine ⟨0,B,Nat.zero_le _,fun k hk=>by omega,fun h=>by omega,fun q' _ _ s ha hh hn=>?_⟩
         rw [hdst]
         exact g1.2 hmf N s d ha hdst hd
        ·exact h2.elim
theorem xdrawn_spec (hck:CKok P ck):DRok P (xdrawn P ck):=by
 intro N ops t m n K h
 unfold xdrawn at h
 split at h
 ·rename_i hm
  split at h
  ·rename_i hok
   obtain ⟨B,mem,b,Ts,kf,f1,f2,f3,h1,h2,h3,h4,h5,h6,h7,h8,h9⟩:=dw_spec hck masks_spec masks_len ops.toList (masks ops.toList) 0 t m n [] [] K (fun _=>(m,n)) (fun _=>0) 0 false none (by simp) (by simp) (by simp) rfl rfl (fun k hk=>by omega) (fun k k' h1 h2=>by omega) (fun _=>rfl) (fun k0 e=>by cases e) h
   have F:Facts P N ops Ts mem b B kf:=⟨hok,fun k hk=>(h5 k (Nat.zero_le _) hk).2,h6,fun k k' q1 q2=>f2 k k' (Nat.zero_le _) q1 q2,f3 (Nat.zero_le _),fun i o hi=>h8 i o (Nat.zero_le _) hi⟩
   refine ⟨_,_,_,fun id=>?_,h9⟩
   have:=rc_drawn (P:=P) (N:=N) hm F id
   rw [h4,h2 0 (Nat.le_refl _)] at this
   exact this
  ·exact h.elim
 ·exact h.elim
end
end Go.Rn
end
