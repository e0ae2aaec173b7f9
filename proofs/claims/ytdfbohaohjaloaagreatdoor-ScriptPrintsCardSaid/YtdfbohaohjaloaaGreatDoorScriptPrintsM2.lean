/- Part 2. -/
import Derived.Maps.RangeRun
import Derived.MapKept
import Derived.Deep.AppendSrc
import Derived.Test.YtdfbohaohjaloaaGreatDoorScriptPrintsM1
set_option linter.unusedVariables false
set_option linter.unusedSimpArgs false
set_option maxHeartbeats 1000000
section
namespace Go.Vm
open Go.RowKit
section
variable {P:Program} {N base:Nat} {w0 w w':World} {ro0:Start} {ro ro':Aq} {blk blk':Nat→Nat} {env env':Env} {a:Act} {o:Oper} {ops:Array Oper} {Q:Exit→Env→Prop}
theorem Tz {v:Value}{id off:Nat}(h:Rep ro w v (.ptr id off)):∃b k,v=.pointer (some ⟨b,off,none⟩)∧b<w.heap.size∧ro b=.obj id k:=by
 cases h with
 |ptr hb h=>exact ⟨_,_,rfl,hb,h⟩
theorem Au8 {v:Value}{id:Nat}(h:Rep ro w v (.mp id)):∃b k,v=.map (some b)∧b<w.heap.size∧ro b=.obj id k:=by
 cases h with
 |mp hb h=>exact ⟨_,_,rfl,hb,h⟩
theorem Bf.thing (h:Bf P N base w0 ro0 ro blk env a w){v:Value}{id off:Nat}{cs:List D}(hv:Rep ro w v (.ptr id off))(hid:env id=.obj cs) :
 ∃b arr e,v=.pointer (some ⟨b,off,none⟩)∧ro b=.obj id true∧w.heap[b]? = some (.cells arr e (0,0))∧AX ro w arr.toList cs:=by
 obtain ⟨b,k,rfl,hb,hr⟩:=Tz hv
 have hs:=h.sat id
 rw [hid] at hs
 obtain ⟨b',arr,e,h1,h2,h3⟩:=hs
 obtain rfl:b=b':=h.uniq b b' id k true hr h1
 exact ⟨b,arr,e,rfl,h1,h2,h3⟩
theorem Ap6 {T:TypeId}{x:Operand}{id off:Nat}{cs:List D}{sh:Bool×Nat}{r:D}(hop:o.op=.load T x)(hx:vd env x=some (.ptr id off))(hb:env id=.obj cs)(hbig:BIG≤id)(hsh:Bl P T=some sh)(hp:Eo sh cs off=some r){d:Nat}(hdst:o.dst=some d)(hd:d<N):Cf P N o env (.c (.d r)):=by
 refine DF hdst hd fun env' he base w0 ro0 ro blk a w hsim=>?_
 have h1:=hsim.getD (x:=x) (by rw [he.getD (by simp [hop,Op.operands])];exact hx)
 obtain ⟨b,arr,e,hv,h2,h3,h4⟩:=hsim.thing h1 (by rw [he.2.2 id hbig];exact hb)
 obtain ⟨v,h5,h6⟩:=O5 (P:=P) (b:=b) (o:=0) hsh h4 (fun j u hu=>by rw [Nat.zero_add,cell_of_row w b _ arr e (0,0) h3];simpa using hu) hp
 refine ⟨v,w,ro,?_,Grow.refl hsim.new,h6⟩
 rw [Nat.zero_add] at h5
 simp only [execOp,hop,Instr.loadAt,hv,Instr.sureAddr,Sem.run_bind,Sem.run_pure,Result.andThen_ok,h5]
theorem Alj {T:TypeId}{x:Operand}{f id off k:Nat}(hop:o.op=.fieldAddr T x f)(hx:vd env x=some (.ptr id off))(hf:Ez P T f=some k){d:Nat}(hdst:o.dst=some d)(hd:d<N):Cf P N o env (.c (.d (.ptr id (off+k)))):=by
 refine DF hdst hd fun env' he base w0 ro0 ro blk a w hsim=>?_
 have h1:=hsim.getD (x:=x) (by rw [he.getD (by simp [hop,Op.operands])];exact hx)
 obtain ⟨b,m,hv,hb,hr⟩:=Tz h1
 refine ⟨.pointer (some ⟨b,off+k,none⟩),w,ro,?_,Grow.refl hsim.new,Rep.ptr hb hr⟩
 simp only [execOp,hop,hv,Sem.run_bind,Sem.run_pure,Result.andThen_ok,MK hf]
theorem BB.Aue {g id t:Nat}{v:Value}{s:S}(h:BB P base ro blk w t v s)(hc:Evo ro ro w w')(hb:∀k,k≠g→w'.heap[k]? = w.heap[k]?)(hg:ro g=.obj id true)(ht:t≠id):BB P base ro blk w' t v s:=by
 have key:∀(u:Value) (c:C),CV P base ro w u c→CV P base ro w' u c:=by
  intro u c h
  cases c with
  |d x=>exact Rep.Bi hc h
  |nil=>exact h
  |own τ e xs=>
   obtain ⟨sz,us,h1,h2,h3,h4,h5,h6⟩:=h
   exact ⟨sz,us,h1,h2,QA h3 (fun k hk=>hb k (by rintro rfl;have:=h6 _ hk;rw [hg] at this;cases this)),h4,h5.Bi hc,h6⟩
 cases s with
 |junk=>trivial
 |c x=>exact key v x h
 |box cs=>
  obtain ⟨h0,h2,h3,arr,e,h4,h5⟩:=h
  exact ⟨h0,h2,h3,arr,e,(hb _ (by intro e;rw [e,hg] at h3;cases h3)).trans h4,h5.Bi hc⟩
 |ref t' off=>exact h
 |at_ cs off=>
  obtain ⟨b,o,us,h1,h2,h3⟩:=h
  exact ⟨b,o,us,h1,h2.Bi hc,fun j u hu=>hc.cell _ _ _ (h3 j u hu).2 (h3 j u hu).1⟩
 |tup cs=>
  obtain ⟨arr,h1,h2,h3⟩:=h
  exact ⟨arr,h1,h2,fun i u c hu hci=>key u c (h3 i u c hu hci)⟩
 |obj cs=>
  obtain ⟨b,arr,e,h1,h2,h3⟩:=h
  exact ⟨b,arr,e,h1,(hb b (by rintro rfl;rw [hg] at h1;injection h1 with h1;exact ht h1.symm)).trans h2,h3.Bi hc⟩
 |mapo es=>
  obtain ⟨b,ents,h1,h2⟩:=h
  exact ⟨b,ents,h1,h2.Bi hc ((hb b (by rintro rfl;rw [hg] at h1;injection h1 with h1;exact ht h1.symm)))⟩
 |iter id n seen=>
  obtain ⟨b,h1,h2⟩:=h
  exact ⟨b,h1,h2.Bi hc (hb _ (by intro e;have:=h2.2.1;rw [e,hg] at this;cases this)) rfl⟩
 |gbox sz xs=>exact GAt.keep h hc fun _ hr=>⟨hb _ (by intro e;rw [e,hg] at hr;cases hr),hr⟩
 |sref τ sz n=>exact ⟨h.1,DV.keep h.2 fun _ hr=>⟨hb _ (by intro e;rw [e,hg] at hr;cases hr),hr⟩⟩
 |gref τ sz n=>
  obtain ⟨h1,h3,h4,arr,e,x,h5⟩:=h
  exact ⟨h1,h3,h4,arr,e,x,(hb _ (by intro e;rw [e,hg] at h3;cases h3)).trans h5⟩
 |uagg cs=>
  obtain ⟨arr,h1,h5⟩:=h
  exact ⟨arr,h1,h5.keep hc fun id sz n u _ hs=>hs.keep fun _ hr=>⟨hb _ (by intro e;rw [e,hg] at hr;cases hr),hr⟩⟩
 |ubox cs=>
  obtain ⟨h0,h2,h3,arr,e,h4,h5⟩:=h
  exact ⟨h0,h2,h3,arr,e,(hb _ (by intro e;rw [e,hg] at h3;cases h3)).trans h4,h5.keep hc fun id sz n u _ hs=>hs.keep fun _ hr=>⟨hb _ (by intro e;rw [e,hg] at hr;cases hr),hr⟩⟩
 |pack cs rows=>
  refine GM.keep h hc fun k _ hr=>⟨hb k ?_,rfl⟩
  rintro rfl
  rcases hr with hr|hr
  ·rw [hg] at hr;injection hr with hr;exact ht hr.symm
  ·rw [hg] at hr;cases hr
 |uobj cs=>
  obtain ⟨b,arr,e,h1,h2,h3⟩:=h
  exact ⟨b,arr,e,h1,(hb b (by rintro rfl;rw [hg] at h1;injection h1 with h1;exact ht h1.symm)).trans h2,h3.keep hc fun id sz n u _ hs=>hs.keep fun _ hr=>⟨hb _ (by intro e;rw [e,hg] at hr;cases hr),hr⟩⟩
 |free=>exact h
theorem AuJ {T:TypeId}{x y:Operand}{id off:Nat}{cs:List D}{r:D}{sh:Bool×Nat}(hop:o.op=.store T x y)(hx:vd env x=some (.ptr id off))(hb:env id=.obj cs)(hy:vd env y=some r)(hsh:Bl P T=some sh)(hn:r.cells.length=sh.2)(hoff:off+r.cells.length≤cs.length)(hdst:o.dst=none) :
 Step P N o env (upd env (some id) (.obj (patch cs off r.cells))):=by
 intro base w0 ro0 a w ⟨ro,blk,hs⟩ K Q hK
 obtain ⟨b,arr,e,h1,h22,h23,h24⟩:=hs.thing (hs.getD hx) hb
 have hv:=(hs.getD hy).cells
 obtain ⟨ag,n⟩:=sh
 obtain ⟨i,dd,k1,k2,k3,k4⟩:=GL hsh
 have hvs:(a.eval y).cells.size=i.size:=by have:=hv.1;simp at this;omega
 have harr:arr.size=cs.length:=by simpa using h24.1
 have hlen:(a.eval y).cells.toList.length=r.cells.length:=hv.1
 have hst:=run_storeCells_at P b off e (a.eval y).cells.toList 0 arr w h23 (by rw [hlen];omega) hv.2.1
 simp only [Nat.add_zero] at hst
 have hrun:(execOp a.eval o).run P w=.ok .skip (w.setRow b (arr.toList.take off++(a.eval y).cells.toList++arr.toList.drop (off+(a.eval y).cells.toList.length)).toArray):=by
  simp only [execOp,hop,Instr.storeAt,h1,Instr.sureAddr,storeVar,sizeOf,typeInfo,Sem.run_bind,Sem.run_pure,Result.andThen_ok]
  simp [k1,hvs,hst]
 unfold Oper.wp
 rw [hrun,Oper.upon_skip,hdst]
 refine hK _ _ ⟨ro,blk,?_⟩
 have hblk:∀k,k≠b→(w.setRow b (arr.toList.take off++(a.eval y).cells.toList++arr.toList.drop (off+(a.eval y).cells.toList.length)).toArray).heap[k]? = w.heap[k]? := fun k hk=>setRow_other w _ k _ hk
 have hc:Evo ro ro w (w.setRow b (arr.toList.take off++(a.eval y).cells.toList++arr.toList.drop (off+(a.eval y).cells.toList.length)).toArray):=by
  refine ⟨fun b' off' u hok hcu=>?_,fun b' id' k hb hr=>⟨by simpa using hb,k,hr⟩⟩
  have hne:b'≠b:=by intro e;subst e;unfold DD at hok;rw [h22] at hok;exact hok
  exact ⟨by rw [World.cell?_of_block (w:=w) (a:=⟨b',off',none⟩) (hblk b' hne)];exact hcu,hok⟩
 refine ⟨hs.below.trans ⟨rfl,rfl,rfl,by simp,fun k hk hnw _=>hblk k (fun e=>?_)⟩,by simpa using hs.room,hs.nodef,hs.size,hs.old,fun b hb=>hs.new b (by simpa using hb),hs.uniq,hs.given,fun s ht=>by
  by_cases es:s=id
  ·subst es;simp [upd] at ht
  ·simp only [upd,if_neg es] at ht;exact hs.left s ht,fun s=>?_⟩
 ·subst e
  exact hnw id (hs.old.obj hk h22)
 show BB P base ro blk _ s (a.tmps.getD s undef) _
 by_cases es:s=id
 ·subst es
  simp only [upd,if_true]
  refine ⟨b,_,e,h22,setRow_heap w _ arr _ e _ h23,?_⟩
  rw [List.toList_toArray]
  exact (h24.Bi hc).patch (hv.Bi hc) off
 ·simp only [upd,if_neg es]
  exact (hs.sat s).Aue hc hblk h22 es
theorem Bf.Aks (h:Bf P N base w0 ro0 ro blk env a w){d n:Nat}(hd:d<N)(hdn:d≠n)(hn:env n=.free)(ob:Obj){sn:S}{vd':Value}{dd:D}(hsf:sn≠.free)
 (hsn:∀v,Evo ro (ro.set w.heap.size (.obj n true)) w (w.alloc ob)→BB P base (ro.set w.heap.size (.obj n true)) blk (w.alloc ob) n v sn) (hdd:Rep (ro.set w.heap.size (.obj n true)) (w.alloc ob) vd' dd) :
 Bf P N base w0 ro0 (ro.set w.heap.size (.obj n true)) blk (upd (upd env (some n) sn) (some d) (.c (.d dd))) (a.put (some d) vd') (w.alloc ob):=by
 have hfree:∀b k,ro b≠.obj n k:=by have:=h.sat n;rw [hn] at this;exact this
 have hblk:∀k,k<w.heap.size→(w.alloc ob).heap[k]? = w.heap[k]? := fun k hk=>Below.heap_alloc _ _ _ hk
 have hev:Evo ro (ro.set w.heap.size (.obj n true)) w (w.alloc ob):=by
  refine ⟨fun b off u hok hc=>?_,fun b id k hb hr=>⟨by rw [World.size_alloc];omega,k,by rw [Aq.Dn _ _ (by omega)];exact hr⟩⟩
  have hlt:b<w.heap.size:=World.block_lt_of_cell? w ⟨b,off,none⟩ hc
  refine ⟨by rw [World.cell?_of_block (w:=w) (a:=⟨b,off,none⟩) (hblk b hlt)];exact hc,?_⟩
  unfold DD at *;rw [Aq.Dn _ _ (by omega)];exact hok
 have hcase:∀b id k,(ro.set w.heap.size (.obj n true)) b=.obj id k→(b=w.heap.size∧id=n)∨ro b=.obj id k:=by
  intro b id k h1
  by_cases e1:b=w.heap.size
  ·subst e1;rw [Aq.F9] at h1;injection h1 with h1 h2;exact .inl ⟨rfl,h1.symm⟩
  ·rw [Aq.Dn _ _ e1] at h1;exact .inr h1
 refine ⟨h.below.trans (Under.of_below ((Below.refl _ _).alloc h.room _)),by rw [World.size_alloc];have:=h.room;omega,by simpa [Act.put] using h.nodef,by simpa [Act.put] using h.size,h.old.set (.inl h.room),
  fun b hb=>by rw [World.size_alloc] at hb;rw [Aq.Dn _ _ (by omega)];exact h.new b (by omega),?_,?_,?_,fun t=>?_⟩
 ·intro b b' id k k' h1 h2
  rcases hcase b id k h1 with ⟨rfl,rfl⟩|h1
  ·rcases hcase b' _ k' h2 with ⟨rfl,_⟩|h2
   ·rfl
   ·exact absurd h2 (hfree b' k')
  ·rcases hcase b' id k' h2 with ⟨_,e3⟩|h2
   ·exact absurd (e3▸h1) (hfree b k)
   ·exact h.uniq b b' id k k' h1 h2
 ·intro b id k hb h1
  rcases hcase b id k h1 with ⟨rfl,rfl⟩|h1
  ·exact h.left _ hn
  ·exact h.given b id k hb h1
 ·intro t ht
  by_cases e1:t=d
  ·subst e1;simp [upd] at ht
  ·by_cases e2:t=n
   ·subst e2;simp [upd,e1] at ht;exact absurd ht hsf
   ·simp only [upd,if_neg e1,if_neg e2] at ht;exact h.left t ht
 ·rw [Lt]
  by_cases e1:t=d
  ·subst e1
   rw [if_pos ⟨rfl,by rw [h.size];exact hd⟩]
   simp only [upd,if_true]
   exact hdd
  ·rw [if_neg (fun k=>e1 k.1)]
   by_cases e2:t=n
   ·subst e2
    simp only [upd,if_neg e1,if_true]
    exact hsn _ hev
   ·simp only [upd,if_neg e1,if_neg e2]
    have hs:=h.sat t
    have key:∀(u:Value) (c:C),CV P base ro w u c→CV P base (ro.set w.heap.size (.obj n true)) (w.alloc ob) u c:=by
     intro u c h
     cases c with
     |d x=>exact Rep.Bi hev h
     |nil=>exact h
     |own τ e' xs=>
      obtain ⟨sz,us,h1,h2,h3,h4,h5,h6⟩:=h
      refine ⟨sz,us,h1,h2,QA h3 (fun k hk=>hblk k (h3.lt k hk).2),h4,h5.Bi hev,fun g hg=>?_⟩
      rw [Aq.Dn _ _ (by have:=(h3.lt g hg).2;omega)];exact h6 g hg
    cases hst:env t with
    |junk=>trivial
    |c x=>rw [hst] at hs;exact key _ x hs
    |box cs'=>
     rw [hst] at hs
     obtain ⟨h0,h2,h3,arr',e',h4,h5⟩:=hs
     have hlt:=block_lt h4
     exact ⟨h0,h2,by rw [Aq.Dn _ _ (by omega)];exact h3,arr',e',(hblk _ hlt).trans h4,h5.Bi hev⟩
    |ref t' off=>rw [hst] at hs;exact hs
    |at_ cs' off=>
     rw [hst] at hs
     obtain ⟨b,o,us,h1,h2,h3⟩:=hs
     exact ⟨b,o,us,h1,h2.Bi hev,fun j u hu=>hev.cell _ _ _ (h3 j u hu).2 (h3 j u hu).1⟩
    |tup cs'=>
     rw [hst] at hs
     obtain ⟨arr',h1,h2,h3⟩:=hs
     exact ⟨arr',h1,h2,fun i u c hu hci=>key u c (h3 i u c hu hci)⟩
    |obj cs'=>
     rw [hst] at hs
     obtain ⟨b,arr',e',h1,h2,h3⟩:=hs
     have hlt:=block_lt h2
     exact ⟨b,arr',e',by rw [Aq.Dn _ _ (by omega)];exact h1,(hblk _ hlt).trans h2,h3.Bi hev⟩
    |mapo es=>
     rw [hst] at hs
     obtain ⟨b,ents,h1,h2⟩:=hs
     have hlt:=block_lt h2.heap
     exact ⟨b,ents,by rw [Aq.Dn _ _ (by omega)];exact h1,h2.Bi hev ((hblk _ hlt))⟩
    |iter id m seen=>
     rw [hst] at hs
     obtain ⟨b,h1,h2⟩:=hs
     exact ⟨b,h1,h2.Bi hev (hblk _ h2.lt) (Aq.Dn _ _ (by have:=h2.lt;omega))⟩
    |pack cs' rows=>rw [hst] at hs;exact GM.keep hs hev fun k hk _=>⟨hblk _ hk,Aq.Dn _ _ (by omega)⟩
    |uobj cs'=>
     rw [hst] at hs
     obtain ⟨b,arr',e',h1,h2,h3⟩:=hs
     have hlt:=block_lt h2
     exact ⟨b,arr',e',by rw [Aq.Dn _ _ (by omega)];exact h1,(hblk _ hlt).trans h2,h3.keep hev fun id sz n u _ hs=>hs.keep fun hlt hr=>⟨hblk _ hlt,(Aq.Dn _ _ (by omega)).trans hr⟩⟩
    |gbox sz xs=>rw [hst] at hs;exact GAt.keep hs hev fun hlt hr=>⟨hblk _ hlt,(Aq.Dn _ _ (by omega)).trans hr⟩
    |sref τ sz n=>rw [hst] at hs;exact ⟨hs.1,DV.keep hs.2 fun hlt hr=>⟨hblk _ hlt,(Aq.Dn _ _ (by omega)).trans hr⟩⟩
    |gref τ sz n=>rw [hst] at hs;obtain ⟨h1,h3,h4,arr',e',x',h5⟩:=hs;have hlt:=block_lt h5;exact ⟨h1,by rw [Aq.Dn _ _ (by omega)];exact h3,h4,arr',e',x',(hblk _ hlt).trans h5⟩
    |uagg cs'=>
     rw [hst] at hs
     obtain ⟨arr',h1,h5⟩:=hs
     exact ⟨arr',h1,h5.keep hev fun id sz n u _ hs=>hs.keep fun hlt hr=>⟨hblk _ hlt,(Aq.Dn _ _ (by omega)).trans hr⟩⟩
    |ubox cs'=>
     rw [hst] at hs
     obtain ⟨h0,h2,h3,arr',e',h4,h5⟩:=hs
     have hlt:=block_lt h4
     exact ⟨h0,h2,by rw [Aq.Dn _ _ (by omega)];exact h3,arr',e',(hblk _ hlt).trans h4,h5.keep hev fun id sz n u _ hs=>hs.keep fun hlt hr=>⟨hblk _ hlt,(Aq.Dn _ _ (by omega)).trans hr⟩⟩
    |free=>
     rw [hst] at hs
     intro b k h1
     rcases hcase b t k h1 with ⟨_,h2⟩|h1
     ·exact e2 h2
     ·exact hs b k h1
theorem Bf.Aij (h:Bf P N base w0 ro0 ro blk env a w){d n:Nat}(hd:d<N)(hdn:d≠n)(hn:env n=.free){arr:Array Value}{cs:List D}{e:TypeId}(hr:AX ro w arr.toList cs) :
 Bf P N base w0 ro0 (ro.set w.heap.size (.obj n true)) blk (upd (upd env (some n) (.obj cs)) (some d) (.c (.d (.ptr n 0)))) (a.put (some d) (.pointer (some ⟨w.heap.size,0,none⟩))) (w.alloc (.cells arr e)):=
 h.Aks hd hdn hn _ (by simp) (fun v hev=>⟨w.heap.size,arr,e,Aq.F9 _ _ _,heap_alloc_new w _,hr.Bi hev⟩) (Rep.ptr (k:=true) (by rw [World.size_alloc];omega) (Aq.F9 _ _ _))
theorem Aqj {T:TypeId}{x:Operand}{r:D}{n:Nat}(hop:o.op=.box T x)(hx:vd env x=some r)(hn:env n=.free){d:Nat}(hdst:o.dst=some d)(hd:d<N)(hdn:d≠n):Step P N o env (upd (upd env (some n) (.obj r.cells)) (some d) (.c (.d (.ptr n 0)))):=by
 intro base w0 ro0 a w ⟨ro,blk,hs⟩ K Q hK
 have hv:=(hs.getD hx).cells
 unfold Oper.wp
 have hrun:(execOp a.eval o).run P w=.ok (.value (.pointer (some ⟨w.heap.size,0,none⟩))) (w.alloc (.cells (a.eval x).cells T)):=by
  simp [execOp,hop,Instr.box,newVar,newRow]
 rw [hrun,Oper.upon_value,hdst]
 exact hK _ _ ⟨_,_,hs.Aij hd hdn hn hv⟩
def live:S→Bool
 | .obj _ | .mapo _ | .pack .. => true
 |_=>false
def setH (pre post:List (Nat×S))(env:Env):Env:=fun t=>match post.find? fun p=>p.1==t with
 |some p=>p.2
 |none=>if BL pre t then .junk else env t
theorem MQ {pre:List (Nat×S)}{t:Nat}(h:BL pre t=true):∃s,(t,s)∈pre:=by
 obtain ⟨p,hp,e⟩:=List.any_eq_true.1 h
 obtain ⟨t',s⟩:=p
 simp only [beq_iff_eq] at e
 subst e
 exact ⟨s,hp⟩
theorem BB.Asx {pre:List (Nat×S)}{t:Nat}{v:Value}{s:S}(hnew:∀b,w.heap.size≤b→ro b=.frozen)(h:BB P base ro blk w t v s)(hg:Ox (BL pre) ro ro' w w')(ht:BL pre t=false):BB P base ro' blk w' t v s:=by
 have hblk:∀b,b<w.heap.size→(∀id k,ro b=.obj id k→BL pre id=false)→(∀id,ro b=.priv id→BL pre id=false)→w'.heap[b]? = w.heap[b]? := hg.block
 have hrl:∀b,b<w.heap.size→(∀t,ro b≠.priv t∨BL pre t=false)→ro' b=ro b:=fun b hb h=>(hg.role b hb).resolve_right fun k=>by
  have k1:=k.1
  unfold gr at k1
  split at k1
  ·rename_i t ht
   rcases h t with h|h
   ·exact h ht
   ·rw [h] at k1;cases k1
  ·cases k1
 have hev:Evo ro ro' w w':=by
  refine ⟨fun b off u hok hc=>?_,fun b id k hb hr=>⟨Nat.lt_of_lt_of_le hb hg.size,k,(hrl b hb fun t=>.inl (by rw [hr];simp)).trans hr⟩⟩
  have hlt:b<w.heap.size:=World.block_lt_of_cell? w ⟨b,off,none⟩ hc
  refine ⟨by rw [World.cell?_of_block (w:=w) (a:=⟨b,off,none⟩) (hblk b hlt (fun id k e=>by unfold DD at hok;rw [e] at hok;exact hok.elim) (fun id e=>by unfold DD at hok;rw [e] at hok;exact hok.elim))];exact hc,?_⟩
  have hr':=hrl b hlt fun t=>.inl (by intro e;unfold DD at hok;rw [e] at hok;exact hok)
  unfold DD at *;rw [hr'];exact hok
 have key:∀(u:Value) (c:C),CV P base ro w u c→CV P base ro' w' u c:=by
  intro u c h
  cases c with
  |d x=>exact Rep.Bi hev h
  |nil=>exact h
  |own τ e' xs=>
   obtain ⟨sz,us,h1,h2,h3,h4,h5,h6⟩:=h
   refine ⟨sz,us,h1,h2,QA h3 (fun k hk=>hblk k (h3.lt k hk).2 (fun id m e=>by rw [h6 k hk] at e;cases e) (fun id e=>by rw [h6 k hk] at e;cases e)),h4,h5.Bi hev,fun g hgk=>?_⟩
   rw [hrl g (h3.lt g hgk).2 fun t=>.inl (by rw [h6 g hgk];simp)];exact h6 g hgk
 cases s with
 |junk=>trivial
 |c x=>exact key v x h
 |box cs=>
  obtain ⟨h0,h2,h3,arr,e,h4,h5⟩:=h
  have hlt:=block_lt h4
  exact ⟨h0,h2,(hrl _ hlt fun t=>.inl (by rw [h3];simp)).trans h3,arr,e,(hblk _ hlt (fun id m e=>by rw [h3] at e;cases e) (fun id e=>by rw [h3] at e;cases e)).trans h4,h5.Bi hev⟩
 |ref t' off=>exact h
 |at_ cs off=>
  obtain ⟨b,o,us,h1,h2,h3⟩:=h
  exact ⟨b,o,us,h1,h2.Bi hev,fun j u hu=>hev.cell _ _ _ (h3 j u hu).2 (h3 j u hu).1⟩
 |tup cs=>
  obtain ⟨arr,h1,h2,h3⟩:=h
  exact ⟨arr,h1,h2,fun i u c hu hci=>key u c (h3 i u c hu hci)⟩
 |obj cs=>
  obtain ⟨b,arr,e,h1,h2,h3⟩:=h
  have hlt:=block_lt h2
  exact ⟨b,arr,e,(hrl b hlt fun t=>.inl (by rw [h1];simp)).trans h1,(hblk b hlt (fun id m e=>by rw [h1] at e;injection e with e;rw [←e];exact ht) (fun id e=>by rw [h1] at e;cases e)).trans h2,h3.Bi hev⟩
 |mapo es=>
  obtain ⟨b,ents,h1,h2⟩:=h
  have hlt:=block_lt h2.heap
  exact ⟨b,ents,(hrl b hlt fun t=>.inl (by rw [h1];simp)).trans h1,h2.Bi hev ((hblk b hlt (fun id m e=>by rw [h1] at e;injection e with e;rw [←e];exact ht) (fun id e=>by rw [h1] at e;cases e)))⟩
 |iter id n seen=>
  obtain ⟨b,h1,h2⟩:=h
  exact ⟨b,h1,h2.Bi hev (hblk _ h2.lt (fun id m e=>by rw [h2.2.1] at e;cases e) (fun id e=>by rw [h2.2.1] at e;cases e)) (hrl b h2.lt fun t=>.inl (by rw [h2.2.1];simp))⟩
 |gbox sz xs=>exact GAt.keep h hev fun hlt hr=>⟨hblk _ hlt (fun id m e=>by rw [hr] at e;cases e) (fun id e=>by rw [hr] at e;cases e),(hrl _ hlt fun t=>.inl (by rw [hr];simp)).trans hr⟩
 |sref τ sz n=>exact ⟨h.1,DV.keep h.2 fun hlt hr=>⟨hblk _ hlt (fun id m e=>by rw [hr] at e;cases e) (fun id e=>by rw [hr] at e;cases e),(hrl _ hlt fun t=>.inl (by rw [hr];simp)).trans hr⟩⟩
 |gref τ sz n=>
  obtain ⟨h1,h3,h4,arr,e,x,h5⟩:=h
  have hlt:=block_lt h5
  exact ⟨h1,(hrl _ hlt fun t=>.inl (by rw [h3];simp)).trans h3,h4,arr,e,x,(hblk _ hlt (fun id m e=>by rw [h3] at e;cases e) (fun id e=>by rw [h3] at e;cases e)).trans h5⟩
 |uagg cs=>
  obtain ⟨arr,h1,h5⟩:=h
  exact ⟨arr,h1,h5.keep hev fun id sz n u _ hs=>hs.keep fun hlt hr=>⟨hblk _ hlt (fun id m e=>by rw [hr] at e;cases e) (fun id e=>by rw [hr] at e;cases e),(hrl _ hlt fun t=>.inl (by rw [hr];simp)).trans hr⟩⟩
 |ubox cs=>
  obtain ⟨h0,h2,h3,arr,e,h4,h5⟩:=h
  have hlt:=block_lt h4
  exact ⟨h0,h2,(hrl _ hlt fun t=>.inl (by rw [h3];simp)).trans h3,arr,e,(hblk _ hlt (fun id m e=>by rw [h3] at e;cases e) (fun id e=>by rw [h3] at e;cases e)).trans h4,h5.keep hev fun id sz n u _ hs=>hs.keep fun hlt hr=>⟨hblk _ hlt (fun id m e=>by rw [hr] at e;cases e) (fun id e=>by rw [hr] at e;cases e),(hrl _ hlt fun t=>.inl (by rw [hr];simp)).trans hr⟩⟩
 |pack cs rows=>
  refine GM.keep h hev fun k hk hr=>⟨hblk k hk (fun id m e=>?_) (fun id e=>?_),hrl k hk fun t'=>?_⟩
  ·rcases hr with hr|hr
   ·rw [hr] at e;injection e with e;rw [←e];exact ht
   ·rw [hr] at e;cases e
  ·rcases hr with hr|hr
   ·rw [hr] at e;cases e
   ·rw [hr] at e;injection e with e;rw [←e];exact ht
  ·rcases hr with hr|hr
   ·exact .inl (by rw [hr];simp)
   ·by_cases e:t'=t
    ·exact .inr (e▸ht)
    ·exact .inl (by rw [hr];intro e2;injection e2 with e2;exact e e2.symm)
 |uobj cs=>
  obtain ⟨b,arr,e,h1,h2,h3⟩:=h
  have hlt:=block_lt h2
  exact ⟨b,arr,e,(hrl b hlt fun t=>.inl (by rw [h1];simp)).trans h1,(hblk b hlt (fun id m e=>by rw [h1] at e;injection e with e;rw [←e];exact ht) (fun id e=>by rw [h1] at e;cases e)).trans h2,h3.keep hev fun id sz n u _ hs=>hs.keep fun hlt hr=>⟨hblk _ hlt (fun id m e=>by rw [hr] at e;cases e) (fun id e=>by rw [hr] at e;cases e),(hrl _ hlt fun t=>.inl (by rw [hr];simp)).trans hr⟩⟩
 |free=>
  intro b k hb
  rcases Nat.lt_or_ge b w.heap.size with l|l
  ·rcases hg.role b l with e|e
   ·exact h b k (e.symm.trans hb)
   ·have:=e.2;rw [hb] at this;cases this
  ·have:=hg.names b t k l hb;rw [ht] at this;cases this
theorem Acj {t:Nat}{v v':Value}{base base':Nat}{s:S}(hs:thing s=true)(h:BB P base ro blk w t v s):BB P base' ro blk' w t v' s:=by
 cases s with
 |obj cs=>exact h
 |mapo es=>exact h
 |free=>exact h
 |pack cs rows=>exact h
 |junk=>trivial
 |_=>cases hs
theorem Akd {α:Type}{R:α→Prop}{f:FuncId}{xs:Array Operand}{ts:Array TypeId}{ds:List D}{res:α→List C}{pre:List (Nat×S)}{post:α→List (Nat×S)}(hop:o.op=.call { callee:=.value (.func f),args:=xs,argTypes:=ts })(hf:enters P f=true)(hx:Ia env xs.toList=some ds)(hc:Ad7 P f ds pre R res post)
 (hpre:∀p∈pre,env p.1=p.2∧(live p.2=true∨p.2=.free)) (hpost:∀x,R x→∀p∈post x,live p.2=true∧BL pre p.1=true∧BIG≤p.1) {d:Nat} (hdst:o.dst=some d) (hd:d<N) (hN:N≤BIG):FZ P N o env fun env'=>∃x,R x∧env'=upd (setH pre (post x) env) (some d) (EN ((res x).map (Ew d))):=by
 intro base w0 ro0 a w ⟨ro,blk,hs⟩ K Q hK
 obtain ⟨h1,h2⟩:=Yd hs hx
 unfold Oper.wp
 have hrun:(execOp a.eval o).run P w=.ok (.enter f (xs.map a.eval)) w:=by
  unfold enters at hf
  split at hf
  ·rename_i fn hfn
   simp only [Bool.and_eq_true,bne_iff_ne,ne_eq] at hf
   cases hbody:fn.body with
   |none=>rw [hbody] at hf;simp at hf
   |some c=>simp [execOp,hop,resolve,Act.eval,Deferred.ofValue,invoke,callFunc,hfn,hf.1,hbody]
  ·cases hf
 rw [hrun,Oper.upon_enter,hdst]
 refine (hc ro w (xs.map a.eval) d hs.ZG hs.uniq (by simpa using h1) (by simpa using h2) (fun p hp=>?_)).mono ?_
 ·have:=hs.sat p.1
  obtain ⟨e,hl⟩:=hpre p hp
  rw [e] at this
  refine Acj ?_ this
  rcases hl with hl|hl
  ·cases hp2:p.2<;>rw [hp2] at hl<;>first|rfl|cases hl
  ·rw [hl];rfl
 rintro e w' ⟨x,hxR,v,ro',rfl,hg,hsat,hth⟩
 refine hK _ _ _ ⟨x,hxR,rfl⟩ ⟨ro',blk,?_⟩
 have hlive:∀id s,(id,s)∈pre→live s=true→∃b,b<w.heap.size∧ro b=.obj id true:=by
  intro id s hm hl
  have hsid:=hs.sat id
  rw [(hpre _ hm).1] at hsid
  cases s with
  |obj cs=>obtain ⟨b,arr,e,h1,h2,h3⟩:=hsid;exact ⟨b,block_lt h2,h1⟩
  |mapo es=>obtain ⟨b,ents,h1,h2⟩:=hsid;exact ⟨b,block_lt h2.heap,h1⟩
  |pack cs rows=>obtain ⟨b,arr,e,bk,h1,h2,h3⟩:=hsid;exact ⟨b,block_lt h2,h1⟩
  |_=>cases hl
 have hnames:∀id,BL pre id=true→ro0.names id:=by
  intro id hn
  obtain ⟨s,hm⟩:=MQ hn
  rcases (hpre _ hm).2 with hl|hl
  ·obtain ⟨b,hb,hrb⟩:=hlive id s hm hl
   rcases Nat.lt_or_ge b base with l|l
   ·exact ro0.wr b id (hs.old.obj l hrb)
   ·exact hs.given b id true l hrb
  ·exact hs.left id (by rw [(hpre _ hm).1];exact hl)
 have hgr:∀b,b<base→gr (BL pre) (ro b)=true→QK ro0 b:=by
  intro b hb h
  cases hr:ro b with
  |priv t=>
   rw [hr] at h
   rcases hs.old.same b hb with e|e
   ·exact ⟨t,e▸hr,hnames t h⟩
   ·exact e.1
  |_=>rw [hr] at h;cases h
 refine ⟨hs.below.trans ⟨hg.os,hg.tape,hg.output,hg.size,fun k hk hnw hpw=>hg.block k (Nat.lt_of_lt_of_le hk hs.room) (fun id m hr=>?_) (fun id hr=>?_)⟩,Nat.le_trans hs.room hg.size,by simpa [Act.put] using hs.nodef,by simpa [Act.put] using hs.size,⟨fun b hb=>?_,fun b g hr=>?_⟩,hg.new,hg.uniq,fun b id k hb h3=>?_,fun t ht=>?_,fun t=>?_⟩
 ·cases hn:BL pre id with
  |false=>rfl
  |true=>
   exfalso
   obtain ⟨s,hm⟩:=MQ hn
   rcases (hpre _ hm).2 with hl|hl
   ·obtain ⟨b,hb,hrb⟩:=hlive id s hm hl
    obtain rfl:k=b:=hs.uniq k b id m true hr hrb
    exact hnw id (hs.old.obj hk hrb)
   ·have hsid:=hs.sat id
    rw [(hpre _ hm).1,show s=.free from hl] at hsid
    exact hsid k m hr
 ·cases hn:BL pre id with
  |false=>rfl
  |true=>
   exfalso
   obtain ⟨t,q1,q2⟩:=hgr k hk (by rw [hr];exact hn)
   exact hpw t q1 q2
 ·rcases hg.role b (Nat.lt_of_lt_of_le hb hs.room) with e|e
  ·rw [e];exact hs.old.same b hb
  ·refine .inr ⟨hgr b hb e.1,fun id k h=>?_⟩
   have:=e.2
   rw [h] at this;cases this
 ·rcases Nat.lt_or_ge b w.heap.size with l|l
  ·rcases hg.role b l with e|e
   ·exact hs.old.pb b g (e.symm.trans hr)
   ·have:=e.2
    rw [hr] at this;cases this
  ·exact .inl (Nat.le_trans hs.room l)
 ·rcases Nat.lt_or_ge b w.heap.size with l|l
  ·rcases hg.role b l with e|e
   ·exact hs.given b id k hb (e.symm.trans h3)
   ·have:=e.2;rw [h3] at this;cases this
  ·obtain ⟨s,hm⟩:=MQ (hg.names b id k l h3)
   rcases (hpre _ hm).2 with hl|hl
   ·obtain ⟨b',hb',hrb⟩:=hlive id s hm hl
    have hb2:ro' b'=.obj id true:=by
     rcases hg.role b' hb' with e|e
     ·exact e.trans hrb
     ·have:=e.1;rw [hrb] at this;cases this
    have:=hg.uniq b b' id k true h3 hb2
    omega
   ·exact hs.left id (by rw [(hpre _ hm).1];exact hl)
 ·by_cases e1:t=d
  ·subst e1;simp only [upd,if_true] at ht;exact absurd ht (AcM _)
  ·simp only [upd,if_neg e1,setH] at ht
   cases hp:(post x).find? fun p=>p.1==t with
   |some p=>
    rw [hp] at ht
    have:=(hpost x hxR p (List.mem_of_find?_eq_some hp)).1
    rw [show p.2=.free from ht] at this;cases this
   |none=>
    rw [hp] at ht
    simp only at ht
    split at ht
    ·cases ht
    ·exact hs.left t ht
 ·rw [Lt]
  by_cases e1:t=d
  ·subst e1
   rw [if_pos ⟨rfl,by rw [hs.size];exact hd⟩]
   simp only [upd,if_true]
   exact Y3 hs.room hsat
  ·rw [if_neg (fun k=>e1 k.1)]
   simp only [upd,if_neg e1,setH]
   cases hp:(post x).find? fun p=>p.1==t with
   |some p=>
    have h3:=List.find?_some hp
    simp only [beq_iff_eq] at h3
    subst h3
    have hm:=List.mem_of_find?_eq_some hp
    show BB P base ro' blk w' p.1 _ p.2
    refine Acj ?_ (hth p hm)
    have hl:=(hpost x hxR p hm).1
    cases hp2:p.2<;>rw [hp2] at hl<;>first|rfl|cases hl
   |none=>
    simp only
    cases hn:BL pre t with
    |true=>trivial
    |false=>simp only [Bool.false_eq_true,if_false];exact (hs.sat t).Asx hs.new hg hn
theorem Aui {f:FuncId}{xs:Array Operand}{ts:Array TypeId}{ds:List D}{res:List C}{pre post:List (Nat×S)}(hop:o.op=.call { callee:=.value (.func f),args:=xs,argTypes:=ts })(hf:enters P f=true)(hx:Ia env xs.toList=some ds)(hc:FO P f ds pre res post)
 (hpre:∀p∈pre,env p.1=p.2∧(live p.2=true∨p.2=.free)) (hpost:∀p∈post,live p.2=true∧BL pre p.1=true∧BIG≤p.1) {d:Nat} (hdst:o.dst=some d) (hd:d<N) (hN:N≤BIG):Step P N o env (upd (setH pre post env) (some d) (EN (res.map (Ew d)))):=by
 refine FZ.one (fun base w0 ro0 a w hs K Q hK=>Akd (R:=fun _:Unit=>True) (res:=fun _=>res) (post:=fun _=>post) hop hf hx (fun ro w vs τ h1 h2 h3 h4 h5=>(hc ro w vs τ h1 h2 h3 h4 h5).mono fun e w' h=>⟨(),trivial,h⟩) hpre (fun _ _=>hpost) hdst hd hN base w0 ro0 a w hs K Q fun env' a' w' ⟨_,_,he⟩ hs'=>hK env' a' w' he hs')
end
end Go.Vm
end
section
namespace Go.Vm
open Go.RowKit
open Go.ChangeMaps (setBlock)
section
variable {P:Program} {N base:Nat} {w0 w w':World} {ro0:Start} {ro ro':Aq} {blk blk':Nat→Nat} {env env':Env} {a:Act} {o:Oper} {ops:Array Oper} {Q:Exit→Env→Prop}
theorem block_lt' {k:Nat}{ob:Obj}(h:w.heap[k]? = some ob):k<w.heap.size:=(Array.getElem?_eq_some_iff.1 h).1
theorem Aiu {b:Nat}{ob ob':Obj}(h:w.heap[b]? = some ob'):(setBlock w b ob).heap[b]? = some ob:=by
 have:=block_lt' h
 simp [setBlock,this]
theorem Atr {b k:Nat}{ob:Obj}(h:k≠b):(setBlock w b ob).heap[k]? = w.heap[k]? := by
 simp only [setBlock,Array.getElem?_setIfInBounds]
 rw [if_neg (fun e=>h e.symm)]
theorem Aud {it id n:Nat}{seen:List Nat}{es:List (D×D)}{ty:TypeId}{rest:List Oper}{K:Env→Prop}(hop:o.op=.next (.tmp it) false)(hg:D7 ops o env=some true)(hit:env it=.iter id n seen)(hm:env id=.mapo es)(hn:es.length=n){d:Nat}(hdst:o.dst=some d)(hd:d<N)(hdi:d≠it)
 (hdone:(∀i,i<n→i∈seen)→VL P N ops rest (upd env (some d) (.tup [.d (.sc (.bool false))])) K)
 (hgo:∀i p,es[i]? = some p→i ∉ seen→VL P N ops rest (upd (upd env (some it) (.iter id n (seen ++ [i]))) (some d) (.tup [.d (.sc (.bool true)),.d p.1,.d p.2])) K):VL P N ops (o::rest) env K:=by
 intro base w0 ro0 a w hsim Q hQ
 refine wpList_step fun K' hK'=>?_
 rw [if_pos (guard_true hg hsim)]
 obtain ⟨ro,blk,hs⟩:=hsim
 have h1:=hs.sat it
 rw [hit] at h1
 obtain ⟨b,hv,hbase,hrole,sn,bm,k,h2,h3,h4,h5⟩:=h1
 have h6:=hs.sat id
 rw [hm] at h6
 obtain ⟨b',ents,h7,h8⟩:=h6
 obtain rfl:bm=b':=hs.uniq bm b' id k true h5 h7
 have hmem:∀e∈ents.toList,∃i p,ents.toList[i]? = some e∧e.born=i∧es[i]? = some p∧Rep ro w e.key p.1∧Rep ro w e.val p.2:=by
  intro e he
  obtain ⟨i,hi,rfl⟩:=List.mem_iff_getElem.1 he
  have hlt:i<es.length:=by have:=h8.len;simp at hi;omega
  exact ⟨i,es[i],by simp [hi],h8.born i _ (by simp [hi]),by simp [hlt],h8.rep i _ es[i] (by simp [hi]) (by simp [hlt])⟩
 unfold Oper.wp
 rcases run_next_at (P:=P) w o.type b bm n n sn ents es.length h2 h8.heap (fun e he=>by
  obtain ⟨i,p,h9,h10,h11,_⟩:=hmem e he
  rw [h10];have:=(List.getElem?_eq_some_iff.1 h11).1;omega) (Nat.le_refl _) with ⟨h9,hrun⟩|⟨e,he,w1,hw1,hrun⟩
 ·have hrun':(execOp a.eval o).run P w=.ok (.value (.tuple #[.bool false])) w:=by
   simp only [execOp,hop,Act.eval,hv,Sem.run_bind,Sem.run_pure,Result.andThen_ok,hrun]
  rw [hrun',Oper.upon_value,hdst]
  refine hK' _ _ (hdone ?_ base w0 ro0 _ _ ⟨ro,blk,hs.put (Grow.refl hs.new) hd ⟨_,rfl,rfl,fun i u c hu hc=>?_⟩⟩ Q hQ)
  ·intro i hi
   have hlt:i<ents.size:=by rw [h8.len];omega
   by_cases hin:i∈seen
   ·exact hin
   ·exfalso
    have hborn:=h8.born i ents[i] (by simp [hlt])
    have:ents[i]∈(leftOf ents sn):=by
     unfold leftOf
     rw [Array.mem_filter]
     refine ⟨Array.getElem_mem hlt,?_⟩
     rw [hborn]
     rw [←h3] at hin
     simpa using hin
    have h10:=Array.eq_empty_of_size_eq_zero h9
    rw [h10] at this
    simp at this
  ·match i with
   |0=>simp at hu hc;subst hu hc;exact Rep.sc rfl
   |i+1=>simp at hu
 ·have hrun':(execOp a.eval o).run P w=.ok (.value (.tuple #[.bool true,e.key,e.val])) (setBlock w1 b (.mapIter (some bm) n (sn.push e.born) es.length)):=by
   simp only [execOp,hop,Act.eval,hv,Sem.run_bind,Sem.run_pure,Result.andThen_ok,hrun]
  rw [hrun',Oper.upon_value,hdst]
  have hheap:w1.heap=w.heap:=by rcases hw1 with rfl|rfl<;>rfl
  have hos:w1.os=w.os:=by rcases hw1 with rfl|rfl<;>rfl
  have htp:w1.tape=w.tape:=by rcases hw1 with rfl|rfl<;>rfl
  have hou:w1.output=w.output:=by rcases hw1 with rfl|rfl<;>rfl
  have hmem2:e∈ents.toList∧e.born ∉ seen:=by
   unfold leftOf at he
   simp only [Array.toList_filter,List.mem_filter] at he
   refine ⟨he.1,?_⟩
   rw [←h3]
   simpa using he.2
  obtain ⟨i,p,h9,h10,h11,h12,h13⟩:=hmem e hmem2.1
  have hblk:∀k,k≠b→(setBlock w1 b (.mapIter (some bm) n (sn.push e.born) es.length)).heap[k]? = w.heap[k]? := fun k hk=>by rw [Atr hk,hheap]
  have hc:Evo ro ro w (setBlock w1 b (.mapIter (some bm) n (sn.push e.born) es.length)):=by
   refine ⟨fun b' off' u hok hcu=>?_,fun b' id' k hb hr=>⟨by simpa [setBlock,hheap] using hb,k,hr⟩⟩
   have hne:b'≠b:=by intro e;subst e;unfold DD at hok;rw [hrole] at hok;exact hok
   exact ⟨by rw [World.cell?_of_block (w:=w) (a:=⟨b',off',none⟩) (hblk b' hne)];exact hcu,hok⟩
  have hsim2:Bf P N base w0 ro0 ro blk (upd env (some it) (.iter id n (seen ++ [i]))) a (setBlock w1 b (.mapIter (some bm) n (sn.push e.born) es.length)):=by
   refine ⟨hs.below.trans ⟨hos,htp,hou,by simp [setBlock,hheap],fun k hk hnw _=>hblk k (by omega)⟩,by simpa [setBlock,hheap] using hs.room,hs.nodef,hs.size,hs.old,fun b hb=>hs.new b (by simpa [setBlock,hheap] using hb),hs.uniq,hs.given,fun s ht=>by
    by_cases es:s=it
    ·subst es;simp [upd] at ht
    ·simp only [upd,if_neg es] at ht;exact hs.left s ht,fun s=>?_⟩
   by_cases e1:s=it
   ·subst e1
    simp only [upd,if_true]
    refine ⟨b,hv,hbase,hrole,sn.push e.born,bm,k,by rw [Aiu (w:=w1) (by rw [hheap];exact h2),hn],by rw [Array.toList_push,h3,h10],by simpa [setBlock,hheap] using h4,h5⟩
   ·simp only [upd,if_neg e1]
    refine (hs.sat s).write (g:=b) hc hblk (fun _ _=>rfl) (fun cs' e2 e3=>?_) (fun _ _ _ _ e2=>by rw [hrole] at e2;injection e2 with e2;exact e1 e2.symm) (fun τ n e2=>by rw [hrole] at e2;cases e2) (fun id k=>⟨(fun e2=>by rw [hrole] at e2;cases e2),(fun e2=>by rw [hrole] at e2;cases e2)⟩) (fun id k e2=>by rw [hrole] at e2;cases e2) (fun _ _ _=>⟨(fun e2=>by rw [hrole] at e2;first|(cases e2;done)|(injection e2 with e2;exact e1 e2.symm)),(fun e2=>by rw [hrole] at e2;first|(cases e2;done)|(injection e2 with e2;exact e1 e2.symm))⟩) (fun τ _ _=>⟨rfl,fun arr e' x hh=>by rw [h2] at hh;cases hh⟩)
    have:=hs.sat s
    rw [e2] at this
    have h5:=this.2.2.1
    rw [e3,hrole] at h5
    injection h5 with h5
    exact e1 h5.symm
  refine hK' _ _ (hgo i p h11 (by rw [←h10];exact hmem2.2) base w0 ro0 _ _ ⟨ro,blk,hsim2.put (Grow.refl hsim2.new) hd ⟨_,rfl,rfl,fun j u c hu hcc=>?_⟩⟩ Q hQ)
  match j with
  |0=>simp at hu hcc;subst hu hcc;exact Rep.sc rfl
  |1=>simp at hu hcc;subst hu hcc;exact h12.Bi hc
  |2=>simp at hu hcc;subst hu hcc;exact h13.Bi hc
  |j+3=>simp at hu
end
end Go.Vm
end
section
namespace Go.Vm
open Go.RowKit
section
variable {P:Program} {N base:Nat} {w0 w w':World} {ro0:Start} {ro ro':Aq} {blk blk':Nat→Nat} {env env':Env} {a:Act} {o:Oper} {ops:Array Oper} {md:Region.Mode} {bar:List Nat} {fb:List Nat}
def Closed (md:Region.Mode)(ops:Array Oper)(listed:Array Bool):Prop:=∀k o,ops[k]? = some o→listed.getD k true=true→∀e∈o.after,Region.binds md e=true→listed.getD e.on false=true
def LK (md:Region.Mode)(ops:Array Oper)(bar:List Nat):Bool:=bar.all fun m=>(List.range ops.size).all fun j=>
 j==m||(if j<m then (List.range (m+1)).any fun k=>decide (j<k)&&(match ops[k]? with
  |some o=>o.after.any fun e=>Region.binds md e&&e.on==j
  |none=>false)
 else match ops[j]? with
  |some o=>o.after.any fun e=>Region.binds md e&&decide (m≤e.on)&&decide (e.on<j)
  |none=>false)
theorem JJ {l:Array Bool}{k:Nat}(h:l.getD k false=true):l.getD k true=true:=by
 rcases Nat.lt_or_ge k l.size with h' | h'
 ·simp [h'] at h ⊢;exact h
 ·simp [Array.getElem?_eq_none h',Array.getD_eq_getD_getElem?] at h
theorem F8 {l:Array Bool}{k:Nat}(h:l.getD k false=true)(h':l.getD k true=false):False:=by
 rw [JJ h] at h';cases h'
theorem AtL (hB:LK md ops bar=true){m j:Nat}(hm:m∈bar)(hj:j<m)(hs:m<ops.size):∃k o,j<k∧k≤m∧ops[k]? = some o∧∃e∈o.after,Region.binds md e=true∧e.on=j:=by
 have h:=List.all_eq_true.1 (List.all_eq_true.1 hB m hm) j (List.mem_range.2 (by omega))
 simp only [Bool.or_eq_true,beq_iff_eq,if_pos hj] at h
 rcases h with h|h
 ·omega
 ·obtain ⟨k,hk,h2⟩:=List.any_eq_true.1 h
  simp only [Bool.and_eq_true,decide_eq_true_eq] at h2
  obtain ⟨h3,h4⟩:=h2
  have:=List.mem_range.1 hk
  split at h4
  ·rename_i o ho
   rw [Array.any_eq_true] at h4
   obtain ⟨i,hi,h5⟩:=h4
   simp only [Bool.and_eq_true,beq_iff_eq] at h5
   exact ⟨k,o,h3,by omega,ho,_,Array.getElem_mem hi,h5.1,h5.2⟩
  ·cases h4
theorem Atj (hB:LK md ops bar=true){m j:Nat}(hm:m∈bar)(hj:m<j)(hs:j<ops.size):∃o,ops[j]? = some o∧∃e∈o.after,Region.binds md e=true∧m≤e.on∧e.on<j:=by
 have h:=List.all_eq_true.1 (List.all_eq_true.1 hB m hm) j (List.mem_range.2 hs)
 simp only [Bool.or_eq_true,beq_iff_eq,if_neg (show ¬j<m by omega)] at h
 rcases h with h|h
 ·omega
 ·split at h
  ·rename_i o ho
   rw [Array.any_eq_true] at h
   obtain ⟨i,hi,h5⟩:=h
   simp only [Bool.and_eq_true,decide_eq_true_eq] at h5
   exact ⟨o,ho,_,Array.getElem_mem hi,h5.1.1,h5.1.2,h5.2⟩
  ·cases h
theorem EI {k:Nat}(h:ops[k]? = some o):k<ops.size:=(Array.getElem?_eq_some_iff.1 h).1
theorem Adx (hB:LK md ops bar=true){listed:Array Bool}(hc:Closed md ops listed){m:Nat}(hm:m∈bar)(hr:m∈Region.ready md ops listed):∀n j,j<m→m-j≤n→listed.getD j false=true
 |0,j,h1,h2=>by omega
 |n+1,j,h1,h2=>by
  obtain ⟨_,om,hom,hall⟩:=mem_ready.1 hr
  obtain ⟨k,o,h3,h4,h5,e,he,hb,hon⟩:=AtL hB hm h1 (EI hom)
  by_cases hk:k=m
  ·subst hk
   rw [hom] at h5;injection h5 with h5;subst h5
   rw [←hon];exact hall e he hb
  ·have:=Adx hB hc hm hr n k (by omega) (by omega)
   rw [←hon];exact hc k o h5 (JJ this) e he hb
theorem Acs (hB:LK md ops bar=true){listed:Array Bool}(hc:Closed md ops listed){m:Nat}(hm:m∈bar):∀n j,j≤n→m<j→(j∈Region.ready md ops listed∨(j<ops.size∧listed.getD j true=true))→listed.getD m false=true
 |0,j,h1,h2,_=>by omega
 |n+1,j,h1,h2,h=>by
  have hs:j<ops.size:=by
   rcases h with h|h
   ·obtain ⟨_,o,ho,_⟩:=mem_ready.1 h;exact EI ho
   ·exact h.1
  obtain ⟨o,ho,e,he,hb,h3,h4⟩:=Atj hB hm h2 hs
  have hl:listed.getD e.on false=true:=by
   rcases h with h|h
   ·obtain ⟨_,o',ho',hall⟩:=mem_ready.1 h
    rw [ho] at ho';injection ho' with ho';subst ho'
    exact hall e he hb
   ·exact hc j o ho h.2 e he hb
  by_cases hem:e.on=m
  ·rw [←hem];exact hl
  ·exact Acs hB hc hm n e.on (by omega) (by omega) (.inr ⟨by omega,JJ hl⟩)
theorem Abc (hB:LK md ops bar=true){listed:Array Bool}(hc:Closed md ops listed){i j:Nat}(hi:i∈Region.ready md ops listed)(hj:j∈Region.ready md ops listed)(hm:i∈bar):i=j:=by
 rcases Nat.lt_trichotomy i j with h|h|h
 ·exact (F8 (Acs hB hc hm j j (Nat.le_refl _) h (.inl hj)) (mem_ready.1 hi).1).elim
 ·exact h
 ·exact (F8 (Adx hB hc hm hi _ j h (Nat.le_refl _)) (mem_ready.1 hj).1).elim
theorem Closed.next {listed:Array Bool}(hc:Closed md ops listed){i:Nat}(hi:i∈Region.ready md ops listed):Closed md ops (listed.setIfInBounds i true):=by
 have hup:∀k,listed.getD k false=true→(listed.setIfInBounds i true).getD k false=true:=by
  intro k h
  simp only [Array.getD_eq_getD_getElem?,Array.getElem?_setIfInBounds] at h ⊢
  by_cases e:i=k
  ·subst e
   rcases Nat.lt_or_ge i listed.size with h' | h'
   ·simp [h']
   ·simp [Array.getElem?_eq_none h'] at h
  ·rw [if_neg e];exact h
 intro k o ho hl e he hb
 by_cases hk:k=i
 ·subst hk
  obtain ⟨_,o',ho',hall⟩:=mem_ready.1 hi
  rw [ho] at ho';injection ho' with ho';subst ho'
  exact hup _ (hall e he hb)
 ·exact hup _ (hc k o ho (by rwa [getD_set_ne true (fun e=>hk e.symm)] at hl) e he hb)
structure QL (P:Program) (N:Nat) (ops:Array Oper) (o:Oper) (env env':Env):Prop where
 run:(D7 ops o env=some true∧Step P N o env env')∨(D7 ops o env=some false∧env'=upd env o.dst (.tup []))
 refs:∀t d off,env' t=.ref d off→env t=.ref d off
 nbs:∀t,nb (env t)=true→nb (env' t)=true
def Fe (P:Program)(N:Nat)(fb:List Nat)(ops:Array Oper)(bar:List Nat)(i:Nat)(K:Env→Prop)(env:Env):Prop:=
 match ops[i]? with
 |none=>K env
 |some o=>if i∈bar then ∃env',QL P N ops o env env'∧K env' else ∃eff,DG P N fb ops o env eff∧K (eff.app env)
theorem O4 {i:Nat}{K K':Env→Prop}(h:∀env,K env→K' env)(hh:Fe P N fb ops bar i K env):Fe P N fb ops bar i K' env:=by
 unfold Fe at *
 split
 ·exact h _ (by simpa [*] using hh)
 ·rename_i o ho
  simp only [ho] at hh
  split
  ·rename_i hb
   rw [if_pos hb] at hh
   obtain ⟨s,h1,h2⟩:=hh
   exact ⟨s,h1,h _ h2⟩
  ·rename_i hb
   rw [if_neg hb] at hh
   obtain ⟨s,h1,h2⟩:=hh
   exact ⟨s,h1,h _ h2⟩
def JX (P:Program)(N:Nat)(fb:List Nat)(md:Region.Mode)(ops:Array Oper)(bar:List Nat)(K:Env→Prop):Nat→Array Bool→Env→Prop
 |0,listed,env=>Region.ready md ops listed= []∧K env
 |fuel+1,listed,env=>(Region.ready md ops listed= []→K env)∧∀i∈Region.ready md ops listed,Fe P N fb ops bar i (JX P N fb md ops bar K fuel (listed.setIfInBounds i true)) env
theorem NR.past {listed:Array Bool}{i:Nat}(h:NR ops listed env)(hb:QL P N ops o env env'):NR ops (listed.setIfInBounds i true) env':=by
 intro k o' d hk hn hl hdst
 have hl':listed.getD k true=false:=by
  by_cases hki:i=k
  ·subst hki
   rcases Nat.lt_or_ge i listed.size with h' | h'
   ·simp [h'] at hl
   ·simp [Array.getElem?_eq_none h',Array.getD_eq_getD_getElem?] at hl
  ·rwa [getD_set_ne true hki] at hl
 obtain ⟨h1,h2⟩:=h k o' d hk hn hl' hdst
 exact ⟨fun t off e=>h1 t off (hb.refs t d off e),hb.nbs d h2⟩
theorem Oy {K:Env→Prop}{Q:Exit→Act→World→Prop}(hu:QO ops=true)(hQ:∀env a w,K env→Sim P N base w0 ro0 env a w→Q .normal a w):∀(fuel:Nat) (listed:Array Bool) (env:Env) (a:Act) (w:World),NR ops listed env→Sim P N base w0 ro0 env a w→JX P N fb md ops bar K fuel listed env→wpAny P md ops Q fuel listed a w
 |0,_,_,_,_,_,hs,h=>⟨h.1,hQ _ _ _ h.2 hs⟩
 |fuel+1,listed,env,a,w,hnr,hs,h=>by
  refine ⟨fun h0=>hQ _ _ _ (h.1 h0) hs,fun i hi=>?_⟩
  have hv:=h.2 i hi
  unfold Fe at hv
  unfold wpOp
  have hun:=(mem_ready.1 hi).1
  cases ho:ops[i]? with
  |none=>
   obtain ⟨_,o,ho',_⟩:=mem_ready.1 hi
   rw [ho] at ho';cases ho'
  |some o=>
   rw [ho] at hv
   simp only at hv ⊢
   by_cases hb:i∈bar
   ·rw [if_pos hb] at hv
    obtain ⟨env',hst,hk⟩:=hv
    have hnx:=hnr.past (i:=i) hst
    rcases hst.run with ⟨g,y⟩|⟨g,rfl⟩
    ·rw [if_pos (guard_true g hs)]
     refine .inl (y base w0 ro0 a w hs _ Q fun a' w' hs'=>Oy hu hQ fuel _ _ _ _ hnx hs' hk)
    ·rw [if_neg (by rw [guard_false g hs];decide)]
     obtain ⟨ro,blk,hs⟩:=hs
     exact Oy hu hQ fuel _ _ _ _ hnx ⟨ro,blk,hs.undef o.dst⟩ hk
   ·rw [if_neg hb] at hv
    obtain ⟨eff,hd,hk⟩:=hv
    have hnx:=hnr.next hu ho hd
    rcases hd.run with ⟨g,y⟩|⟨g,rfl⟩
    ·rw [if_pos (guard_true g hs)]
     refine .inl (y env ((Agree.refl _ _).toC _) (fun d hn hdst=>(hnr i o d ho hn (by simpa using hun) hdst).1) base w0 ro0 a w hs _ Q fun a' w' hs'=>Oy hu hQ fuel _ _ _ _ hnx hs' hk)
    ·rw [if_neg (by rw [guard_false g hs];decide)]
     obtain ⟨ro,blk,hs⟩:=hs
     exact Oy hu hQ fuel _ _ _ _ hnx ⟨ro,blk,hs.undef o.dst⟩ hk
theorem AbE {j:Nat}{oi oj:Oper}{eff:Eff}(hj:ops[j]? = some oj)(hjb:j ∉ bar)(hap:KN fb ops oi oj=true){K:Env→Prop}(hy:DG P N fb ops oi env eff)(h:Fe P N fb ops bar j K (eff.app env)) :
 Fe P N fb ops bar j (fun env'=>DG P N fb ops oi env' eff∧K (eff.app env')) env:=by
 have h12:=hap
 simp only [KN,Yn,Bool.and_eq_true] at h12
 unfold Fe at *
 simp only [hj,if_neg hjb] at *
 obtain ⟨f,hf,hk⟩:=h
 have hf':DG P N fb ops oj env f:=hf.carry (Aem hy h12.1.1.1 h12.1.2).symm
 exact ⟨f,hf',hy.carry (Aem hf' h12.1.1.2 h12.2),by rw [←AoA hy hf' hap];exact hk⟩
theorem Arn {K:Env→Prop}(hB:LK md ops bar=true){i:Nat}{oi:Oper}{eff:Eff}(hi:ops[i]? = some oi)(hib:i ∉ bar) :
 ∀(fuel:Nat) (listed:Array Bool) (env:Env),Closed md ops listed →
  (∀j oj,ops[j]? = some oj→j ∉ bar→j≠i→listed.getD j true=false→(∀e∈oj.after,Region.binds md e=true→e.on≠i)→KN fb ops oi oj=true) →
  i∈Region.ready md ops listed→DG P N fb ops oi env eff →
  JX P N fb md ops bar K fuel (listed.setIfInBounds i true) (eff.app env)→JX P N fb md ops bar K (fuel+1) listed env:=by
 intro fuel
 induction fuel with
 |zero=>
  intro listed env hc _ hr hy H
  refine ⟨fun h=>(by rw [h] at hr;cases hr),fun j hj=>?_⟩
  by_cases hji:j=i
  ·subst hji;unfold Fe;rw [hi];simp only;rw [if_neg hib];exact ⟨eff,hy,H⟩
  ·have:=ready_mono hj hji
   rw [H.1] at this
   cases this
 |succ fuel ih=>
  intro listed env hc hfree hr hy H
  refine ⟨fun h=>(by rw [h] at hr;cases hr),fun j hj=>?_⟩
  by_cases hji:j=i
  ·subst hji;unfold Fe;rw [hi];simp only;rw [if_neg hib];exact ⟨eff,hy,H⟩
  ·have hjb:j ∉ bar:=fun hb=>hji (Abc hB hc hj hr hb)
   have h1:=H.2 j (ready_mono hj hji)
   obtain ⟨hjun,oj,hoj,hall⟩:=mem_ready.1 hj
   have hnot:∀e∈oj.after,Region.binds md e=true→e.on≠i:=fun e he hb heq=>by
    have h1:=hall e he hb
    have h0:=(mem_ready.1 hr).1
    rw [heq] at h1
    exact F8 h1 h0
   have h2:=AbE hoj hjb (hfree j oj hoj hjb hji hjun hnot) hy h1
   have hfree':∀k ok,ops[k]? = some ok→k ∉ bar→k≠i→(listed.setIfInBounds j true).getD k true=false →
    (∀e∈ok.after,Region.binds md e=true→e.on≠i)→KN fb ops oi ok=true:=fun k ok hk hkb hki hun hno=>by
    refine hfree k ok hk hkb hki ?_ hno
    by_cases hjk:j=k
    ·subst hjk;exact hjun
    ·rw [getD_set_ne true hjk] at hun;exact hun
   refine O4 (fun env' h3=>ih (listed.setIfInBounds j true) env' (hc.next hj) hfree' (ready_mono hr (Ne.symm hji)) h3.1 ?_) h2
   rw [Array.setIfInBounds_comm _ _ hji]
   exact h3.2
def VB (P:Program)(N:Nat)(fb:List Nat)(ops:Array Oper)(bar:List Nat)(K:Env→Prop):Nat→List Oper→Env→Prop
 |_,[],env=>K env
 |k,o::rest,env=>if k∈bar then ∃env',QL P N ops o env env'∧VB P N fb ops bar K (k+1) rest env' else ∃eff,DG P N fb ops o env eff∧VB P N fb ops bar K (k+1) rest (eff.app env)
def SL (fb:List Nat)(md:Region.Mode)(ops:Array Oper)(bar:List Nat)(listed:Array Bool)(i:Nat):Bool:=match ops[i]? with
 |none=>false
 |some oi=>bar.contains i||(List.range ops.size).all fun j=>bar.contains j||j==i||listed.getD j true||(match ops[j]? with
  |none=>true
  |some oj=>oj.after.any (fun e=>Region.binds md e&&e.on==i)||KN fb ops oi oj)
def lexB (fb:List Nat)(md:Region.Mode)(ops:Array Oper)(bar:List Nat):Nat→Nat→Array Bool→Bool
 |0,_,listed=>(Region.ready md ops listed).isEmpty
 |fuel+1,k,listed=>(Region.ready md ops listed).contains k&&SL fb md ops bar listed k&&lexB fb md ops bar fuel (k+1) (listed.setIfInBounds k true)
def Ua (fb:List Nat)(ops:Array Oper)(bar:List Nat):Bool:=QO ops&&LK .any ops bar&&lexB fb .any ops bar ops.size 0 (Array.replicate ops.size false)
theorem AbS {listed:Array Bool}{i:Nat}{oi:Oper}(hi:ops[i]? = some oi)(hib:i ∉ bar)(h:SL fb md ops bar listed i=true):∀j oj,ops[j]? = some oj→j ∉ bar→j≠i→listed.getD j true=false→(∀e∈oj.after,Region.binds md e=true→e.on≠i)→KN fb ops oi oj=true:=by
 intro j oj hj hjb hji hl hno
 unfold SL at h
 rw [hi] at h
 have hlt:j<ops.size:=(Array.getElem?_eq_some_iff.1 hj).1
 have h0:bar.contains i=false:=by simpa using hib
 have h0':bar.contains j=false:=by simpa using hjb
 simp only [h0,Bool.false_or] at h
 have:=List.all_eq_true.1 h j (List.mem_range.2 hlt)
 simp only [hj,hl,h0',Bool.or_false,Bool.false_or,Bool.or_eq_true,beq_iff_eq] at this
 rcases this with h1|h1|h1
 ·exact absurd h1 hji
 ·rw [Array.any_eq_true] at h1
  obtain ⟨k,hk,h2⟩:=h1
  simp only [Bool.and_eq_true,beq_iff_eq] at h2
  exact absurd h2.2 (hno _ (Array.getElem_mem hk) h2.1)
 ·exact h1
theorem Xl {K:Env→Prop}(hB:LK md ops bar=true):∀(l:List Oper) (k:Nat) (listed:Array Bool) (env:Env),Closed md ops listed→(∀j,l[j]? = ops[k+j]?)→lexB fb md ops bar l.length k listed=true→VB P N fb ops bar K k l env→JX P N fb md ops bar K l.length listed env
 | [],_,_,_,_,_,hL,h=>⟨by simpa [lexB] using hL,h⟩
 |o::l,k,listed,env,hc,hl,hL,h=>by
  have h0:ops[k]? = some o:=by simpa using (hl 0).symm
  simp only [List.length_cons,lexB,Bool.and_eq_true] at hL
  obtain ⟨⟨hr,hf⟩,hL'⟩:=hL
  have hr':k∈Region.ready md ops listed:=by simpa using hr
  have hnext:∀j,l[j]? = ops[k+1+j]? := fun j=>by have:=hl (j+1);simpa [Nat.add_assoc,Nat.add_comm 1 j] using this
  unfold VB at h
  by_cases hb:k∈bar
  ·rw [if_pos hb] at h
   obtain ⟨env',hst,hK⟩:=h
   refine ⟨fun h=>(by rw [h] at hr';cases hr'),fun j hj=>?_⟩
   obtain rfl:=Abc hB hc hr' hj hb
   unfold Fe
   rw [h0]
   simp only
   rw [if_pos hb]
   exact ⟨env',hst,Xl hB l _ _ _ (hc.next hr') hnext hL' hK⟩
  ·rw [if_neg hb] at h
   obtain ⟨eff,hy,hK⟩:=h
   exact Arn hB h0 hb l.length listed env hc (AbS h0 hb hf) hr' hy (Xl hB l (k+1) _ _ (hc.next hr') hnext hL' hK)
theorem Aow {id:Nat}{l:List Oper}{Q:Exit→Env→Prop}(bar:List Nat)(hm:P.follows .mixedOrders=true)(hB:Ua fb l.toArray bar=true)(h:VB P N fb l.toArray bar (Q .normal) 0 l (freshen l env)):VC P N (.region id l.toArray true) env Q:=by
 intro base w0 ro0 a w hs
 simp only [Ua,Bool.and_eq_true] at hB
 obtain ⟨ro,blk,hs'⟩:=hs.weaken (AdP l env)
 refine wp_region_any hm (Oy (fb:=fb) (bar:=bar) (K:=Q .normal) hB.1.1 (fun env' a' w' hk hs'=>⟨env',hk,hs'⟩) _ _ _ _ _ (ZK l env) (?_:Sim P N base w0 ro0 (freshen l env) a _) ?_)
 ·exact ⟨ro,blk,hs'.rest ⟨(Below.refl _ _).drew,fun _ _=>rfl,hs'.new,fun b id k hb=>by rw [hs'.new b hb];simp⟩⟩
 ·have hc:Closed .any l.toArray (Array.replicate l.toArray.size false):=by
   intro k o ho hl
   exfalso
   have hlt:=EI ho
   simp [hlt] at hl
   simp only [List.size_toArray] at hlt
   simp [hlt] at hl
  have:=Xl (P:=P) (N:=N) (md:=.any) (ops:=l.toArray) (K:=Q .normal) hB.1.2 l 0 (Array.replicate l.toArray.size false) (freshen l env) hc (by simp) (by simpa using hB.2) h
  simpa using this
end
end Go.Vm
end
section
namespace Go.Vm
open Go.RowKit
section
variable {P:Program} {N base:Nat} {w0 w w':World} {ro0:Start} {ro ro':Aq} {blk blk':Nat→Nat} {env env':Env} {a:Act} {o:Oper} {ops:Array Oper} {Q:Exit→Env→Prop}
theorem AqV {x:Operand}{id off:Nat}(hop:o.op=.nilCheck x)(hx:vd env x=some (.ptr id off)){d:Nat}(hdst:o.dst=some d)(hd:d<N):Cf P N o env (.c (.d (.ptr id off))):=by
 refine DF hdst hd fun env' he base w0 ro0 ro blk a w hsim=>?_
 have h1:=hsim.getD (x:=x) (by rw [he.getD (by simp [hop,Op.operands])];exact hx)
 obtain ⟨b,k,hv,hb,hr⟩:=Tz h1
 exact ⟨_,w,ro,by simp [execOp,hop,hv],Grow.refl hsim.new,Rep.ptr hb hr⟩
theorem AiM {T e:TypeId}(hT:P.underlying T=some (.pointer e))(ad:Addr):(Op.equal T (.pointer (some ad)) (.pointer none)).run P w=.ok false w:=by
 unfold Op.equal
 rw [show Op.maxDepth=9999+1 from rfl,Op.equalIn,Sem.run_bind,run_underlying hT w]
 rfl
theorem AmJ {T k e:TypeId}(hT:P.underlying T=some (.map k e))(b:Nat):(Op.equal T (.map (some b)) (.map none)).run P w=.ok false w:=by
 unfold Op.equal
 rw [show Op.maxDepth=9999+1 from rfl,Op.equalIn,Sem.run_bind,run_underlying hT w]
 rfl
theorem Abr {T t' e:TypeId}{x:Operand}{id off:Nat}{neg:Bool}(hop:o.op=.binOp (if neg then .neq else .eql) T x (.const (.pointer none)) t')(hx:vd env x=some (.ptr id off))(hT:P.underlying T=some (.pointer e)){d:Nat}(hdst:o.dst=some d)(hd:d<N):Cf P N o env (.c (.d (.sc (.bool neg)))):=by
 refine DF hdst hd fun env' he base w0 ro0 ro blk a w hsim=>?_
 have h1:=hsim.getD (x:=x) (by rw [he.getD (by cases neg<;>simp [hop,Op.operands])];exact hx)
 obtain ⟨b,k,hv,hb,hr⟩:=Tz h1
 refine ⟨.bool neg,w,ro,?_,Grow.refl hsim.new,Rep.sc rfl⟩
 have he1:=AiM (P:=P) (w:=w) hT ⟨b,off,none⟩
 have hg:(eqGuard (if neg then .neq else .eql) T x (.const (.pointer none)) (.pointer (some ⟨b,off,none⟩)) (.pointer none)).run P w=.ok () w:=by cases neg<;>rfl
 have hbn:(binOp (if neg then .neq else .eql) T (.pointer (some ⟨b,off,none⟩)) (.pointer none)).run P w=.ok (.bool neg) w:=by
  cases neg
  ·show (Op.equal T _ _ >>= fun r=>pure (Value.bool r)).run P w=_
   rw [Sem.run_bind,he1];rfl
  ·show (Op.equal T _ _ >>= fun r=>pure (Value.bool (!r))).run P w=_
   rw [Sem.run_bind,he1];rfl
 have hc:a.eval (.const (.pointer none))=.pointer none:=rfl
 simp only [execOp,hop,hv,hc,Sem.run_bind,hg,hbn,Result.andThen,Sem.run_pure]
theorem Abw {T t' kt e:TypeId}{x:Operand}{id:Nat}{neg:Bool}(hop:o.op=.binOp (if neg then .neq else .eql) T x (.const (.map none)) t')(hx:vd env x=some (.mp id))(hT:P.underlying T=some (.map kt e)){d:Nat}(hdst:o.dst=some d)(hd:d<N):Cf P N o env (.c (.d (.sc (.bool neg)))):=by
 refine DF hdst hd fun env' he base w0 ro0 ro blk a w hsim=>?_
 have h1:=hsim.getD (x:=x) (by rw [he.getD (by cases neg<;>simp [hop,Op.operands])];exact hx)
 obtain ⟨b,k,hv,hb,hr⟩:=Au8 h1
 refine ⟨.bool neg,w,ro,?_,Grow.refl hsim.new,Rep.sc rfl⟩
 have he1:=AmJ (P:=P) (w:=w) hT b
 have hg:(eqGuard (if neg then .neq else .eql) T x (.const (.map none)) (.map (some b)) (.map none)).run P w=.ok () w:=by cases neg<;>rfl
 have hbn:(binOp (if neg then .neq else .eql) T (.map (some b)) (.map none)).run P w=.ok (.bool neg) w:=by
  cases neg
  ·show (Op.equal T _ _ >>= fun r=>pure (Value.bool r)).run P w=_
   rw [Sem.run_bind,he1];rfl
  ·show (Op.equal T _ _ >>= fun r=>pure (Value.bool (!r))).run P w=_
   rw [Sem.run_bind,he1];rfl
 have hc:a.eval (.const (.map none))=.map none:=rfl
 simp only [execOp,hop,hv,hc,Sem.run_bind,hg,hbn,Result.andThen,Sem.run_pure]
end
end Go.Vm
end
section
namespace Go.Vm
open Go.RowKit
def Kz (id:Nat):D→D
 | .rr i sz n=>if i=id then .stale else .rr i sz n
 |c=>c
def Du (id:Nat):S→S
 | .sref i sz n=>if i=id then .junk else .sref i sz n
 | .gref i sz n=>if i=id then .junk else .gref i sz n
 | .ref i off=>if i=id then .junk else .ref i off
 | .ubox cs=>.ubox (cs.map (Kz id))
 | .uagg cs=>.uagg (cs.map (Kz id))
 | .uobj cs=>.uobj (cs.map (Kz id))
 |s=>s
def NJ (env:Env)(id d:Nat)(s:S)(g:S):Env:=fun t=>if t=d then s else if t=id then g else env t
def appG (env:Env)(id d:Nat)(s:S)(g:S):Env:=fun t=>if t=d then s else if t=id then g else Du id (env t)
section
variable {P:Program} {N base:Nat} {w0 w w':World} {ro0:Start} {ro ro':Aq} {blk blk':Nat→Nat} {env env':Env} {a:Act} {o:Oper}
theorem Dv.drop {rl:Nat→Fa}{us:List Value}{cs:List D}(id:Nat)(h:Dv rl ro blk w us cs):Dv rl ro blk w us (cs.map (Kz id)):=by
 refine ⟨by rw [List.length_map];exact h.1,h.2.1,fun j u c hu hc=>?_⟩
 rw [List.getElem?_map] at hc
 cases hq:cs[j]? with
 |none=>rw [hq] at hc;cases hc
 |some d=>
  rw [hq] at hc
  simp only [Option.map_some,Option.some.injEq] at hc
  have:=h.2.2 j u d hu hq
  subst hc
  cases d with
  |rr i sz n=>simp only [Kz];split;trivial;exact this
  |_=>exact this
theorem SX {id i sz n:Nat}{cs:List D}(h : .rr i sz n∈cs.map (Kz id)):i≠id∧.rr i sz n∈cs:=by
 obtain ⟨d,hd,e⟩:=List.mem_map.1 h
 cases d with
 |rr i' sz' n'=>
  simp only [Kz] at e
  split at e
  ·cases e
  ·rename_i hne;injection e with e1 e2 e3;subst e1 e2 e3;exact ⟨hne,hd⟩
 |_=>cases e
theorem BB.Du {t:Nat}{v:Value}{s:S}(id:Nat)(h:BB P base ro blk w t v s):BB P base ro blk w t v (Du id s):=by
 cases s with
 |sref i sz n=>simp only [Vm.Du];split;trivial;exact h
 |gref i sz n=>simp only [Vm.Du];split;trivial;exact h
 |ref i off=>simp only [Vm.Du];split;trivial;exact h
 |ubox cs=>
  obtain ⟨h0,h2,h3,arr,e,h4,h5⟩:=h
  exact ⟨h0,h2,h3,arr,e,h4,h5.drop id⟩
 |uagg cs=>
  obtain ⟨arr,h1,h5⟩:=h
  exact ⟨arr,h1,h5.drop id⟩
 |uobj cs=>
  obtain ⟨b,arr,e,h1,h4,h5⟩:=h
  exact ⟨b,arr,e,h1,h4,h5.drop id⟩
 |_=>exact h
theorem RI {id:Nat}{s:S}(h:Du id s=.free):s=.free:=by
 cases s with
 |sref i sz n=>simp only [Du] at h;split at h<;>cases h
 |gref i sz n=>simp only [Du] at h;split at h<;>cases h
 |ref i sz=>simp only [Du] at h;split at h<;>cases h
 |ubox cs=>cases h
 |uagg cs=>cases h
 |uobj cs=>cases h
 |_=>exact h
theorem BB.Alb {t id:Nat}{v:Value}{s:S}(h:BB P base ro blk w t v (Vm.Du id s))(ht:t≠id)(hb:∀u,u≠id→blk' u=blk u):BB P base ro blk' w t v (Vm.Du id s):=by
 cases s with
 |box cs=>
  obtain ⟨h1,h2⟩:=h
  exact ⟨by rw [hb t ht];exact h1,by rw [hb t ht];exact h2⟩
 |gbox sz xs=>show GAt _ _ _ _ _ _;rw [hb t ht];exact h
 |ubox cs=>
  obtain ⟨h0,h2,h3,arr,e,h4,h5⟩:=h
  refine ⟨by rw [hb t ht];exact h0,by rw [hb t ht];exact h2,by rw [hb t ht];exact h3,arr,e,by rw [hb t ht];exact h4,h5.1,h5.2.1,fun j u c hu hc=>?_⟩
  have:=h5.2.2 j u c hu hc
  cases c with
  |rr i sz n=>exact ⟨this.1,by rw [hb i (SX (List.mem_of_getElem? hc)).1];exact this.2⟩
  |_=>exact this
 |uagg cs=>
  obtain ⟨arr,h1,h5⟩:=h
  refine ⟨arr,h1,h5.1,h5.2.1,fun j u c hu hc=>?_⟩
  have:=h5.2.2 j u c hu hc
  cases c with
  |rr i sz n=>exact ⟨this.1,by rw [hb i (SX (List.mem_of_getElem? hc)).1];exact this.2⟩
  |_=>exact this
 |uobj cs=>
  obtain ⟨b,arr,e,h1,h4,h5⟩:=h
  refine ⟨b,arr,e,h1,h4,h5.1,h5.2.1,fun j u c hu hc=>?_⟩
  have:=h5.2.2 j u c hu hc
  cases c with
  |rr i sz n=>exact ⟨this.1,by rw [hb i (SX (List.mem_of_getElem? hc)).1];exact this.2⟩
  |_=>exact this
 |sref i sz n=>
  simp only [Vm.Du] at h ⊢
  split
  ·trivial
  ·rename_i hi;rw [if_neg hi] at h;exact ⟨h.1,by rw [hb i hi];exact h.2⟩
 |gref i sz n=>
  simp only [Vm.Du] at h ⊢
  split
  ·trivial
  ·rename_i hi;rw [if_neg hi] at h
   obtain ⟨h1,h2⟩:=h
   exact ⟨h1,by rw [hb i hi];exact h2⟩
 |ref i n=>
  simp only [Vm.Du] at h ⊢
  split
  ·trivial
  ·rename_i hi;rw [if_neg hi] at h;show _=_;rw [hb i hi];exact h
 |_=>exact h
theorem Bf.Afj (h:Bf P N base w0 ro0 ro blk env a w){id d sz cap:Nat}(hd:d<N)(hdB:d<BIG)(hid:BIG≤id)(hsz:0<sz){zs:List D}(hw:∀x∈zs,x.cells.length=sz){cur:Array Value}{e:TypeId}
 (hcap:zs.length≤cap) (hm:cap≤maxLen) (hcs:cur.size=cap*sz) (hr:AX ro w (cur.toList.take (zs.length*sz)) (flat zs)) :
 Bf P N base w0 ro0 (ro.set w.heap.size (.pbox id)) (fun t=>if t=id then w.heap.size else blk t) (appG env id d (.sref id sz zs.length) (.gbox sz zs)) (a.put (some d) (.slice (some ⟨w.heap.size,0,none⟩) zs.length cap)) (w.alloc (.cells cur e)):=by
 have hg:=Grow.Us (ro:=ro) h.new (.cells cur e) (.pbox id)
 have hnew:=heap_alloc_new w (.cells cur e (0,0))
 have hdi:d≠id:=by omega
 refine ⟨h.below.trans (Under.of_below (hg.below.mono h.room)),Nat.le_trans h.room hg.below.size,by simpa [Act.put] using h.nodef,by simpa [Act.put] using h.size,h.old.keep h.room hg.role,hg.new,hg.uniq h.uniq,hg.given h.given,fun t ht=>by
  simp only [appG] at ht
  split at ht
  ·cases ht
  ·split at ht
   ·cases ht
   ·exact h.left t (RI ht),fun t=>?_⟩
 rw [Lt]
 by_cases et:t=d
 ·subst et
  rw [if_pos ⟨rfl,by rw [h.size];exact hd⟩]
  simp only [appG,if_true]
  refine ⟨hid,.inr ?_⟩
  simp only [if_true]
  exact ⟨Aq.F9 _ _ _,cur,e,cap,rfl,hcap,hm,hnew,hcs⟩
 ·rw [if_neg (fun k=>et k.1)]
  simp only [appG,if_neg et]
  by_cases ei:t=id
  ·subst ei
   simp only [if_true]
   refine ⟨hsz,hw,.inr ?_⟩
   simp only [if_true]
   exact ⟨Aq.F9 _ _ _,cur,e,hnew,by rw [hcs];exact Nat.mul_le_mul_right _ hcap,hr.Bi hg.evo⟩
  ·simp only [if_neg ei]
   exact (((h.sat t).grow hg (blk':=blk) fun _=>rfl).Du id).Alb ei fun u hu=>if_neg hu
theorem At5 {T tx ty e e':TypeId}{i:TypeInfo}(ht:P.underlying T=some (.slice e))(hi:P.info? e=some i){g sLen sCap:Nat}{cur:Array Value}(hg:w.heap[g]? = some (.cells cur e' (0,0))){x:Value}{n:Nat}{news:List Value}(hs:Src P i.size tx x n news w)
 (hroom:sLen+n≤sCap) (hfit:sLen*i.size+news.length≤cur.size) :
 (Builtin.append_ #[T,tx] ty #[.slice (some ⟨g,0,none⟩) sLen sCap,x]).run P w=.ok (.slice (some ⟨g,0,none⟩) (sLen+n) sCap) (w.setRow g (cur.toList.take (sLen*i.size)++news++cur.toList.drop (sLen*i.size+news.length)).toArray):=by
 have hst:=run_storeCells_at P g (sLen*i.size) e' news 0 cur w hg (by simpa using hfit) hs.one
 simp only [Nat.add_zero] at hst
 rcases hs.kind with ⟨e',hk⟩|hk<;>simp [Builtin.append_,run_underlying ht,run_underlying hk,sizeOf,typeInfo,hi,hs.len,hroom,hs.cells,Addr.add_lit,hst]
theorem Bf.AkX (hs:Bf P N base w0 ro0 ro blk env a w){id sz:Nat}(hid:BIG≤id)(hsz:0<sz){zs:List D}(hw:∀x∈zs,x.cells.length=sz){arr arr':Array Value}{e:TypeId}(hro:ro (blk id)=.pbox id)(hh:w.heap[blk id]? = some (.cells arr e (0,0)))
 (hl:arr'.size=arr.size) (hz:zs.length*sz≤arr'.size) (hr:AX ro w (arr'.toList.take (zs.length*sz)) (flat zs)) {d:Nat} {s:S} {v:Value} (hd:d<N) (hdB:d<BIG) (hos:w'.os=w.os) (htp:w'.tape=w.tape) (hou:w'.output=w.output) (hsiz:w'.heap.size=w.heap.size) (hblk:∀k,k≠blk id→w'.heap[k]? = w.heap[k]?) (hnew:w'.heap[blk id]? = some (.cells arr' e (0,0))) (hsv:BB P base ro blk w' d v s) (hsf:s≠.free) :
 Bf P N base w0 ro0 ro blk (NJ env id d s (.gbox sz zs)) (a.put (some d) v) w':=by
 have hc:Evo ro ro w w':=by
  refine ⟨fun b off' u hok hcu=>?_,fun b i k hb hr=>⟨by omega,k,hr⟩⟩
  have hne:b≠blk id:=by intro e;subst e;unfold DD at hok;rw [hro] at hok;exact hok
  exact ⟨by rw [World.cell?_of_block (w:=w) (a:=⟨b,off',none⟩) (hblk b hne)];exact hcu,hok⟩
 have hdi:d≠id:=by omega
 refine ⟨hs.below.trans (Under.ZU (hs.old.pb _ _ hro) hos htp hou (by omega) (fun k hk _=>hblk k hk) hs.room),by have:=hs.room;omega,by simpa [Act.put] using hs.nodef,by simpa [Act.put] using hs.size,hs.old,fun b hb=>hs.new b (by omega),hs.uniq,hs.given,fun t ht=>by
  simp only [NJ] at ht
  split at ht
  ·exact absurd ht hsf
  ·split at ht
   ·cases ht
   ·exact hs.left t ht,fun t=>?_⟩
 rw [Lt]
 by_cases et:t=d
 ·subst et
  rw [if_pos ⟨rfl,by rw [hs.size];exact hd⟩]
  simp only [NJ,if_true]
  exact hsv
 ·rw [if_neg (fun k=>et k.1)]
  simp only [NJ,if_neg et]
  by_cases ei:t=id
  ·subst ei
   simp only [if_true]
   exact ⟨hsz,hw,.inr ⟨hro,arr',e,hnew,hz,hr.Bi hc⟩⟩
  ·simp only [if_neg ei]
   refine (hs.sat t).write (g:=blk id) hc hblk (fun _ _=>rfl) (fun cs' e2 e3=>?_) (fun _ _ _ _ e2=>by rw [hro] at e2;cases e2) (fun τ n e2=>by rw [hro] at e2;cases e2) (fun i k=>⟨(fun e2=>by rw [hro] at e2;cases e2),(fun e2=>by rw [hro] at e2;cases e2)⟩) (fun i k e2=>by rw [hro] at e2;cases e2) (fun _ _ _=>⟨(fun e2=>by rw [hro] at e2;first|(cases e2;done)|(injection e2 with e2;exact ei e2.symm)),(fun e2=>by rw [hro] at e2;first|(cases e2;done)|(injection e2 with e2;exact ei e2.symm))⟩) (fun τ _ _=>⟨rfl,fun arr2 e2 x2 hh2=>by rw [hh] at hh2;injection hh2 with hh2;injection hh2 with k1 k2 k3;subst k1 k2 k3;exact ⟨_,hnew,hl⟩⟩)
   have:=hs.sat t
   rw [e2] at this
   have h5:=this.2.2.1
   rw [e3,hro] at h5
   first|(cases h5;done)|(injection h5 with h5;exact ei h5.symm)
theorem Bf.drop {id d:Nat}{s g:S}(h:Bf P N base w0 ro0 ro blk (NJ env id d s g) a w):Bf P N base w0 ro0 ro blk (appG env id d s g) a w:=by
 refine ⟨h.below,h.room,h.nodef,h.size,h.old,h.new,h.uniq,h.given,fun t ht=>h.left t ?_,fun t=>?_⟩
 ·simp only [appG] at ht
  simp only [NJ]
  split
  ·rename_i e;rwa [if_pos e] at ht
  ·rename_i e;rw [if_neg e] at ht
   split
   ·rename_i e;rwa [if_pos e] at ht
   ·rename_i e;rw [if_neg e] at ht;exact RI ht
 ·have:=h.sat t
  simp only [appG,NJ] at this ⊢
  split
  ·rename_i e;rwa [if_pos e] at this
  ·rename_i e;rw [if_neg e] at this
   split
   ·rename_i e;rwa [if_pos e] at this
   ·rename_i e;rw [if_neg e] at this;exact this.Du id
theorem Ai9 {T e:TypeId}{sz bytes id n:Nat}{x y:Operand}{xs ys:List D}(hop:o.op=.call { callee:=.builtin .append,args:=#[x,y],argTypes:=#[T,T] })(hT:CU P T=some (e,sz,bytes))(hx:∀base w0 ro0 ro blk a w,Bf P N base w0 ro0 ro blk env a w→BIG≤id∧DV (.pbox id) ro w (blk id) sz n (a.eval x))(hid:env id=.gbox sz xs)(hn:xs.length=n)(hy:vd env y=some (.row ys))(hw:∀y∈ys,y.cells.length=sz)
 (h63:n+ys.length≤maxLen) (hby:(n+ys.length)*bytes≤140737488355328) {d:Nat} (hdst:o.dst=some d) (hd:d<N) (hdB:d<BIG):Step P N o env (appG env id d (.sref id sz (n+ys.length)) (.gbox sz (xs++ys))):=by
 subst hn
 intro base w0 ro0 a w ⟨ro,blk,hs⟩ K Q hK
 obtain ⟨i,z,h1,h2,h3,h4,h5,h6,h7,h8⟩:=Fv hT
 subst h4
 obtain ⟨hbig,hv⟩:=hx base w0 ro0 ro blk a w hs
 have hgx:=hs.sat id
 rw [hid] at hgx
 obtain ⟨g1,g2,g3⟩:=hgx
 obtain ⟨news,hsrc,hnews⟩:=XE h1 (hs.getD hy) hw
 have hwxy:∀x∈xs++ys,x.cells.length=i.size:=fun x hx=>by
  rcases List.mem_append.1 hx with hx|hx
  ·exact g2 x hx
  ·exact hw x hx
 have hnl:news.length=ys.length*i.size:=hsrc.newsLen
 suffices hgoal:∃v' w',(Builtin.append_ #[T,T] o.type #[a.eval x,a.eval y]).run P w=.ok v' w'∧Sim P N base w0 ro0 (appG env id d (.sref id i.size (xs.length+ys.length)) (.gbox i.size (xs++ys))) (a.put (some d) v') w' by
  obtain ⟨v',w',hrun,hsim⟩:=hgoal
  unfold Oper.wp
  have hr:(execOp a.eval o).run P w=.ok (.value v') w':=by
   simp only [execOp,hop,resolve,invoke,builtin,Sem.run_bind,Sem.run_pure,Result.andThen_ok,List.map_toArray,List.map_cons,List.map_nil,hrun]
  rw [hr,Oper.upon_value,hdst]
  exact hK _ _ hsim
 have grown:∀(v:Value) (ad:Option Addr) (old:Nat) (us:List Value),AX ro w us (flat xs)→v=.slice ad xs.length old→old<xs.length+ys.length→(Builtin.firstCells i.size xs.length (.slice ad xs.length old)).run P w.drew=.ok us.toArray w.drew →
  ∃v' w',(Builtin.append_ #[T,T] o.type #[v,a.eval y]).run P w=.ok v' w'∧Sim P N base w0 ro0 (appG env id d (.sref id i.size (xs.length+ys.length)) (.gbox i.size (xs++ys))) (a.put (some d) v') w':=by
  intro v ad old us hus hv hlt hf
  subst hv
  have hr:=run_append_grow_src (P:=P) w T T o.type e i z h1 h2 h3 ad xs.length old us hf (a.eval y) ys.length news hsrc hlt (by simp only [maxLen] at h63;omega) (growslice_fits hlt (by rw [h5];exact hby))
  refine ⟨_,_,hr,?_⟩
  have hge:=grownCap_ge w (xs.length+ys.length) old e
  have hcm:grownCap w (xs.length+ys.length) old e≤maxLen:=grownCap_le_maxLen w (xs.length+ys.length) old e h63
  have hdrew:Bf P N base w0 ro0 ro blk env a w.drew:=hs.rest ⟨(Below.refl _ _).drew,fun _ _=>rfl,hs.new,fun b id k hb=>by rw [hs.new b hb];simp⟩
  have hulen:us.length=xs.length*i.size:=by rw [hus.1,flat_length g2]
  have hrall:AX ro w (us++news) (flat (xs++ys)):=by rw [Qy];exact hus.append hnews
  have hlen:(us++news).length=(xs.length+ys.length)*i.size:=by rw [List.length_append,hulen,hnl,Nat.add_mul]
  have hk:=hdrew.Afj (id:=id) (d:=d) (sz:=i.size) (zs:=xs++ys) (cap:=grownCap w (xs.length+ys.length) old e) (cur:=(us++news).toArray++Builtin.zeroCells z.cells (grownCap w (xs.length+ys.length) old e-(xs.length+ys.length))) (e:=e) hd hdB hbig h7 hwxy (by simpa using hge) hcm ?_ ?_
  ·rw [List.length_append] at hk
   exact ⟨_,_,hk⟩
  ·simp only [Array.size_append,List.size_toArray,size_zeroCells,h6]
   rw [hlen,←Nat.add_mul]
   congr 1;omega
  ·rw [List.length_append,←hlen]
   simp only [Array.toList_append]
   rw [List.take_left]
   exact hrall.Bi ⟨fun b off u hok hc=>⟨by simpa using hc,hok⟩,fun b id k hb hr=>⟨by simpa using hb,k,hr⟩⟩
 rcases hv with ⟨hv,h00⟩|⟨hro,arr,e',cap,hv,hnc,hcm,hheap,hsize⟩
 ·obtain rfl:xs= []:=List.length_eq_zero_iff.1 h00
  rw [hv]
  by_cases hm:ys= []
  ·subst hm
   obtain rfl:news= []:=List.length_eq_zero_iff.1 (by simpa using hnl)
   refine ⟨.slice none 0 0,w,?_,ro,blk,?_⟩
   ·have hl0:=hsrc.len w
    have hc0:=hsrc.cells
    rcases hsrc.kind with ⟨e',hk⟩|hk<;>simp at hl0 hc0<;>simp [Builtin.append_,run_underlying h1,run_underlying hk,sizeOf,typeInfo,h2,hl0,hc0]
   ·have hp:=hs.put (Grow.refl hs.new) hd (v:=.slice none 0 0) (s:=.sref id i.size 0) ⟨hbig,.inl ⟨rfl,rfl⟩⟩
    refine ⟨hp.below,hp.room,hp.nodef,hp.size,hp.old,hp.new,hp.uniq,hp.given,fun t ht=>?_,fun t=>?_⟩
    ·simp only [appG] at ht
     split at ht
     ·cases ht
     ·split at ht
      ·cases ht
      ·exact hs.left t (RI ht)
    ·have:=hp.sat t
     simp only [appG,upd] at this ⊢
     by_cases et:t=d
     ·subst et;simpa using this
     ·rw [if_neg et] at this ⊢
      by_cases ei:t=id
      ·rw [if_pos ei];subst ei;exact ⟨h7,by simp,.inl rfl⟩
      ·rw [if_neg ei];exact this.Du id
  ·exact grown _ none 0 [] (by simpa [flat] using AX.nil) rfl (by have:=List.length_pos_iff.2 hm;rw [List.length_nil];omega) (run_firstCells_none (P:=P) w.drew i.size 0 0 0)
 ·have hgx:xs.length*i.size≤arr.size∧AX ro w (arr.toList.take (xs.length*i.size)) (flat xs):=by
   rcases g3 with rfl|⟨_,arr2,e2,k1,k2,k3⟩
   ·simpa [flat] using AX.nil
   ·rw [hheap] at k1;injection k1 with k1;injection k1 with k1;subst k1;exact ⟨k2,k3⟩
  rw [hv]
  by_cases hroom:xs.length+ys.length≤cap
  ·have hfit:xs.length*i.size+news.length≤arr.size:=by rw [hnl,hsize,←Nat.add_mul];exact Nat.mul_le_mul_right _ hroom
   have hr:=At5 (P:=P) (ty:=o.type) h1 h2 hheap hsrc hroom hfit
   refine ⟨_,_,hr,ro,blk,?_⟩
   have hsz':(arr.toList.take (xs.length*i.size)++news++arr.toList.drop (xs.length*i.size+news.length)).toArray.size=arr.size:=by
    simp only [List.size_toArray,List.length_append,List.length_take,List.length_drop,Array.length_toList]
    omega
   have hnw:=setRow_heap w _ arr (arr.toList.take (xs.length*i.size)++news++arr.toList.drop (xs.length*i.size+news.length)).toArray e' (0,0) hheap
   have hk:=hs.AkX (w':=w.setRow (blk id) (arr.toList.take (xs.length*i.size)++news++arr.toList.drop (xs.length*i.size+news.length)).toArray) (d:=d) (s:=.sref id i.size (xs.length+ys.length)) (v:=.slice (some ⟨blk id,0,none⟩) (xs.length+ys.length) cap) hbig h7 (zs:=xs++ys) hwxy (arr':=(arr.toList.take (xs.length*i.size)++news++arr.toList.drop (xs.length*i.size+news.length)).toArray) hro hheap hsz' ?_ ?_ hd hdB rfl rfl rfl (by simp) (fun k hk=>setRow_other w _ k _ hk) hnw ?_ (by simp)
   ·exact hk.drop
   ·rw [hsz',List.length_append,Nat.add_mul,←hnl];exact hfit
   ·have e3:(xs++ys).length*i.size=(arr.toList.take (xs.length*i.size)++news).length:=by
     rw [List.length_append,List.length_append,List.length_take,Nat.min_eq_left (by simpa using hgx.1),hnl,Nat.add_mul]
    rw [e3,List.toList_toArray,List.take_left,Qy]
    exact hgx.2.append hnews
   ·exact ⟨hbig,.inr ⟨hro,_,e',cap,rfl,hroom,hcm,hnw,by rw [hsz'];exact hsize⟩⟩
  ·refine grown _ (some ⟨blk id,0,none⟩) cap (arr.toList.take (xs.length*i.size)) hgx.2 rfl (by omega) ?_
   refine run_firstCells_some (P:=P) w.drew i.size xs.length ⟨blk id,0,none⟩ xs.length cap _ (by rw [List.length_take,Nat.min_eq_left (by simpa using hgx.1)]) ?_
   have hown:w.ownsRow 0 e' i.size (.slice (some ⟨blk id,0,none⟩) xs.length cap) xs.length (arr.toList.take (xs.length*i.size)):=⟨by rw [List.length_take,Nat.min_eq_left (by simpa using hgx.1)],.inr ⟨_,cap,arr,rfl,Nat.zero_le _,hheap,hnc,hcm,hsize,rfl⟩⟩
   simpa using hown.cells (g:=blk id) rfl
theorem ArO {T e:TypeId}{sz bytes id n:Nat}{x y:Operand}{xs ys:List D}(hop:o.op=.call { callee:=.builtin .append,args:=#[x,y],argTypes:=#[T,T] })(hT:CU P T=some (e,sz,bytes))(hx:Ap env x=.sref id sz n)(hid:env id=.gbox sz xs)(hn:xs.length=n)(hy:vd env y=some (.row ys))(hw:∀y∈ys,y.cells.length=sz)
 (h63:n+ys.length≤maxLen) (hby:(n+ys.length)*bytes≤140737488355328) {d:Nat} (hdst:o.dst=some d) (hd:d<N) (hdB:d<BIG):Step P N o env (appG env id d (.sref id sz (n+ys.length)) (.gbox sz (xs++ys))):=
 Ai9 hop hT (fun base w0 ro0 ro blk a w hs=>by have hv:=hs.get x 0;rw [hx] at hv;exact hv) hid hn hy hw h63 hby hdst hd hdB
end
end Go.Vm
end
section
namespace Go.Vm
open Go.RowKit
def Kq:D→Bool
 | .rr .. | .stale=>false
 |_=>true
section
variable {P:Program} {N base:Nat} {w0 w w':World} {ro0:Start} {rl:Nat→Fa} {ro ro':Aq} {blk blk':Nat→Nat} {env env':Env} {a:Act} {o:Oper}
theorem Ny.rep {u:Value}{c:D}(h:Ny rl ro blk w u c)(hp:Kq c=true):Rep ro w u c:=by
 cases c with
 |rr=>cases hp
 |stale=>cases hp
 |_=>exact h
theorem Rep.toG {u:Value}{c:D}(h:Rep ro w u c):Ny rl ro blk w u c:=by
 cases h with
 |sc h=>exact .sc h
 |agg hl h1 h=>exact .agg hl h1 h
 |nil hm=>exact .nil hm
 |row us a b c d e f g h=>exact .row us a b c d e f g h
 |ptr a b=>exact .ptr a b
 |mp a b=>exact .mp a b
 |fn a b=>exact .fn a b
theorem AX.toG {us:List Value}{cs:List D}(h:AX ro w us cs):Dv rl ro blk w us cs:=⟨h.1,h.2.1,fun j u c hu hc=>(h.2.2 j u c hu hc).toG⟩
theorem Dv.append {us vs:List Value}{cs ds:List D}(h:Dv rl ro blk w us cs)(k:Dv rl ro blk w vs ds):Dv rl ro blk w (us++vs) (cs++ds):=by
 refine ⟨by simp [h.1,k.1],?_,?_⟩
 ·intro u hu
  rcases List.mem_append.1 hu with hu|hu
  ·exact h.2.1 u hu
  ·exact k.2.1 u hu
 ·intro j u c hu hc
  by_cases hj:j<us.length
  ·rw [List.getElem?_append_left hj] at hu
   rw [List.getElem?_append_left (by rw [←h.1];exact hj)] at hc
   exact h.2.2 j u c hu hc
  ·rw [List.getElem?_append_right (by omega)] at hu
   rw [List.getElem?_append_right (by rw [←h.1];omega),←h.1] at hc
   exact k.2.2 _ u c hu hc
theorem Dv.Zf {us:List Value}{cs:List D}(h:Dv rl ro blk w us cs)(n:Nat):Dv rl ro blk w (us.drop n) (cs.drop n):=
 ⟨by simp [h.1],fun u hu=>h.2.1 u (List.mem_of_mem_drop hu),fun j u c hu hc=>h.2.2 (n+j) u c (by rw [←List.getElem?_drop];exact hu) (by rw [←List.getElem?_drop];exact hc)⟩
theorem Dv.takeN {us:List Value}{cs:List D}(h:Dv rl ro blk w us cs)(n:Nat):Dv rl ro blk w (us.take n) (cs.take n):=by
 refine ⟨by simp [h.1],fun u hu=>h.2.1 u (List.mem_of_mem_take hu),fun j u c hu hc=>?_⟩
 rw [List.getElem?_take] at hu hc
 split at hu
 ·rw [if_pos (by assumption)] at hc;exact h.2.2 j u c hu hc
 ·cases hu
theorem Dv.patch {us vs:List Value}{cs ds:List D}(h:Dv rl ro blk w us cs)(k:Dv rl ro blk w vs ds)(off:Nat):Dv rl ro blk w (us.take off++vs++us.drop (off+vs.length)) (patch cs off ds):=by
 unfold Vm.patch
 rw [k.1]
 exact ((h.takeN off).append k).append (h.Zf _)
theorem Dv.plain {us:List Value}{cs:List D}(h:Dv rl ro blk w us cs)(hp:cs.all Kq=true):AX ro w us cs:=
 ⟨h.1,h.2.1,fun j u c hu hc=>(h.2.2 j u c hu hc).rep (List.all_eq_true.1 hp c (List.mem_of_getElem? hc))⟩
theorem AoQ {T:TypeId}{x:Operand}{t off id sz n:Nat}{cs:List D}{m:Nat}(hop:o.op=.load T x)(hx:Ap env x=.ref t off)(hb:env t=.ubox cs)(hsh:Bl P T=some (false,m))(hp:cs[off]? = some (.rr id sz n)){d:Nat}(hdst:o.dst=some d)(hd:d<N):Cf P N o env (.sref id sz n):=by
 refine DF hdst hd fun env' he base w0 ro0 ro blk a w hsim=>?_
 have h1:=hsim.get x 0
 rw [he.get (by simp [hop,Op.operands]),hx] at h1
 have h2:=hsim.sat t
 rw [he.2.1 x t off (by simp [addrOf,hop]) hx,hb] at h2
 obtain ⟨_,_,_,arr,e,h3,h4⟩:=h2
 have hlt:off<arr.toList.length:=by rw [h4.1];exact (List.getElem?_eq_some_iff.1 hp).1
 obtain ⟨u,hu⟩:∃u,arr.toList[off]? = some u:=⟨_,List.getElem?_eq_getElem hlt⟩
 have h5:=h4.2.2 off u _ hu hp
 refine ⟨u,w,ro,?_,Grow.refl hsim.new,h5⟩
 obtain ⟨i,dd,k1,k2,k3,k4⟩:=GL hsh
 have hagg:=Lm (w:=w) k2
 rw [k3] at hagg
 have hcu:w.cell? ⟨blk t,off,none⟩=some u:=by rw [cell_of_row w _ _ arr e (0,0) h3];simpa using hu
 simp only [execOp,hop,Instr.loadAt,show a.eval x=_ from h1,Instr.sureAddr,Sem.run_bind,Sem.run_pure,Result.andThen_ok]
 simp [loadVar,Sem.run_bind,hagg,run_load,hcu,Result.andThen]
theorem As8 {T:TypeId}{x:Operand}{t off:Nat}{cs:List D}{sh:Bool×Nat}{r:D}(hop:o.op=.load T x)(hx:Ap env x=.ref t off)(hb:env t=.ubox cs)(hsh:Bl P T=some sh)(hp:Eo sh cs off=some r)(hpl:(r.cells).all Kq=true){d:Nat}(hdst:o.dst=some d)(hd:d<N):Cf P N o env (.c (.d r)):=by
 refine DF hdst hd fun env' he base w0 ro0 ro blk a w hsim=>?_
 have h1:=hsim.get x 0
 rw [he.get (by simp [hop,Op.operands]),hx] at h1
 have h2:=hsim.sat t
 rw [he.2.1 x t off (by simp [addrOf,hop]) hx,hb] at h2
 obtain ⟨_,_,_,arr,e,h3,h4⟩:=h2
 obtain ⟨ag,m⟩:=sh
 -- the part that is read, as a row of its own
 have key:∃(us:List Value) (ds:List D),AX ro w us ds∧(∀(j:Nat) (u:Value),us[j]? = some u→w.cell? ⟨blk t,off+j,none⟩=some u)∧Eo (ag,m) ds 0=some r:=by
  cases ag with
  |true=>
   simp only [Eo,if_true] at hp
   split at hp
   ·rename_i hle
    injection hp with hp;subst hp
    refine ⟨(arr.toList.drop off).take m,(cs.drop off).take m,((h4.Zf off).takeN m).plain hpl,fun j u hu=>?_,?_⟩
    ·rw [cell_of_row w _ _ arr e (0,0) h3]
     rw [List.getElem?_take] at hu
     split at hu
     ·rw [List.getElem?_drop] at hu;simpa using hu
     ·cases hu
    ·simp only [Eo,if_true,List.drop_zero]
     rw [if_pos (by rw [List.length_take,List.length_drop];omega),List.take_of_length_le (by rw [List.length_take];omega)]
   ·cases hp
  |false=>
   simp only [Eo,Bool.false_eq_true,if_false] at hp
   have hlt:off<arr.toList.length:=by rw [h4.1];exact (List.getElem?_eq_some_iff.1 hp).1
   obtain ⟨u,hu⟩:∃u,arr.toList[off]? = some u:=⟨_,List.getElem?_eq_getElem hlt⟩
   have hpr:Kq r=true:=by
    cases r with
    |agg cs'=>
     have h5:=h4.2.2 off u _ hu hp
     rfl
    |rr=>simp [D.cells,Kq] at hpl
    |stale=>simp [D.cells,Kq] at hpl
    |_=>rfl
   refine ⟨[u],[r],⟨rfl,by simpa using h4.2.1 u (List.mem_of_getElem? hu),fun j u' c hu' hc=>?_⟩,fun j u' hu'=>?_,by simp [Eo]⟩
   ·cases j with
    |zero=>simp at hu' hc;subst hu' hc;exact (h4.2.2 off u r hu hp).rep hpr
    |succ j=>simp at hu'
   ·cases j with
    |zero=>simp at hu';subst hu';rw [cell_of_row w _ _ arr e (0,0) h3];simpa using hu
    |succ j=>simp at hu'
 obtain ⟨us,ds,k1,k2,k3⟩:=key
 obtain ⟨v,h5,h6⟩:=O5 (P:=P) (o:=off) (off:=0) hsh k1 k2 k3
 refine ⟨v,w,ro,?_,Grow.refl hsim.new,h6⟩
 rw [Nat.add_zero] at h5
 simp only [execOp,hop,Instr.loadAt,show a.eval x=_ from h1,Instr.sureAddr,Sem.run_bind,Sem.run_pure,Result.andThen_ok,h5]
theorem WR {T:TypeId}{x y:Operand}{t off:Nat}{cs ds:List D}{sh:Bool×Nat}(hop:o.op=.store T x y)(hx:Ap env x=.ref t off)(hb:env t=.ubox cs)(htB:t<BIG)(hy:∀base w0 ro0 ro blk a w,Bf P N base w0 ro0 ro blk env a w→Dv .pbox ro blk w (a.eval y).cells.toList ds)(hsh:Bl P T=some sh)(hn:ds.length=sh.2)(hoff:off+ds.length≤cs.length)(hdst:o.dst=none) :
 Step P N o env (upd env (some t) (.ubox (patch cs off ds))):=by
 intro base w0 ro0 a w ⟨ro,blk,hs⟩ K Q hK
 have h1:=hs.get x 0
 rw [hx] at h1
 have h2:=hs.sat t
 rw [hb] at h2
 obtain ⟨h20,h21,h22,arr,e,h23,h24⟩:=h2
 have hv:=hy base w0 ro0 ro blk a w hs
 obtain ⟨ag,n⟩:=sh
 obtain ⟨i,dd,k1,k2,k3,k4⟩:=GL hsh
 have hvs:(a.eval y).cells.size=i.size:=by have:=hv.1;simp at this;omega
 have harr:arr.size=cs.length:=by simpa using h24.1
 have hlen:(a.eval y).cells.toList.length=ds.length:=hv.1
 have hst:=run_storeCells_at P (blk t) off e (a.eval y).cells.toList 0 arr w h23 (by rw [hlen];omega) hv.2.1
 simp only [Nat.add_zero] at hst
 have hrun:(execOp a.eval o).run P w=.ok .skip (w.setRow (blk t) (arr.toList.take off++(a.eval y).cells.toList++arr.toList.drop (off+(a.eval y).cells.toList.length)).toArray):=by
  simp only [execOp,hop,Instr.storeAt,show a.eval x=_ from h1,Instr.sureAddr,storeVar,sizeOf,typeInfo,Sem.run_bind,Sem.run_pure,Result.andThen_ok]
  simp [k1,hvs,hst]
 unfold Oper.wp
 rw [hrun,Oper.upon_skip,hdst]
 refine hK _ _ ⟨ro,blk,?_⟩
 have hblk:∀k,k≠blk t→(w.setRow (blk t) (arr.toList.take off++(a.eval y).cells.toList++arr.toList.drop (off+(a.eval y).cells.toList.length)).toArray).heap[k]? = w.heap[k]? := fun k hk=>setRow_other w _ k _ hk
 have hc:Evo ro ro w (w.setRow (blk t) (arr.toList.take off++(a.eval y).cells.toList++arr.toList.drop (off+(a.eval y).cells.toList.length)).toArray):=by
  refine ⟨fun b off' u hok hcu=>?_,fun b id k hb hr=>⟨by simpa using hb,k,hr⟩⟩
  have hne:b≠blk t:=by intro e;subst e;unfold DD at hok;rw [h22] at hok;exact hok
  exact ⟨by rw [World.cell?_of_block (w:=w) (a:=⟨b,off',none⟩) (hblk b hne)];exact hcu,hok⟩
 have hsl:∀id sz n u,BIG≤id→DV (.pbox id) ro w (blk id) sz n u→DV (.pbox id) ro (w.setRow (blk t) (arr.toList.take off++(a.eval y).cells.toList++arr.toList.drop (off+(a.eval y).cells.toList.length)).toArray) (blk id) sz n u:=fun id sz n u hid h=>h.keep fun _ hr=>⟨hblk _ (fun e=>by rw [e,h22] at hr;cases hr),hr⟩
 have hkG:∀us cs,Dv .pbox ro blk w us cs→Dv .pbox ro blk (w.setRow (blk t) (arr.toList.take off++(a.eval y).cells.toList++arr.toList.drop (off+(a.eval y).cells.toList.length)).toArray) us cs:=fun us cs h=>
  ⟨h.1,h.2.1,fun j u c hu hcj=>by
   have:=h.2.2 j u c hu hcj
   cases c with
   |rr id sz n=>exact ⟨this.1,hsl id sz n u this.1 this.2⟩
   |stale=>trivial
   |_=>exact Rep.Bi hc this⟩
 refine ⟨hs.below.trans (Under.of_below ⟨rfl,rfl,rfl,by simp,fun k hk=>hblk k (by omega)⟩),by simpa using hs.room,hs.nodef,hs.size,hs.old,fun b hb=>hs.new b (by simpa using hb),hs.uniq,hs.given,fun s ht=>by
  by_cases es:s=t
  ·subst es;simp [upd] at ht
  ·simp only [upd,if_neg es] at ht;exact hs.left s ht,fun s=>?_⟩
 show BB P base ro blk _ s (a.tmps.getD s undef) _
 by_cases es:s=t
 ·subst es
  simp only [upd,if_true]
  refine ⟨h20,h21,h22,_,e,setRow_heap w _ arr _ e _ h23,?_⟩
  rw [List.toList_toArray]
  exact (hkG _ _ h24).patch (hkG _ _ hv) off
 ·simp only [upd,if_neg es]
  refine (hs.sat s).write (g:=blk t) hc hblk (fun _ _=>rfl) (fun cs' e2 e3=>?_) (fun _ _ _ _ e2=>by rw [h22] at e2;injection e2 with e2;exact es e2.symm) (fun τ n e2=>by rw [h22] at e2;cases e2) (fun id k=>⟨(fun e2=>by rw [h22] at e2;cases e2),(fun e2=>by rw [h22] at e2;cases e2)⟩) (fun id k e2=>by rw [h22] at e2;cases e2) (fun _ _ _=>⟨(fun e2=>by rw [h22] at e2;first|(cases e2;done)|(injection e2 with e2;exact es e2.symm)),(fun e2=>by rw [h22] at e2;first|(cases e2;done)|(injection e2 with e2;exact es e2.symm))⟩) (fun τ _ _=>⟨rfl,fun arr2 e2 x2 hh2=>?_⟩)
  ·have:=hs.sat s
   rw [e2] at this
   have h5:=this.2.2.1
   rw [e3,h22] at h5
   injection h5 with h5;exact es h5.symm
  ·rw [h23] at hh2;injection hh2 with hh2;injection hh2 with hh2 hh3 hh4;subst hh2 hh3 hh4
   refine ⟨_,setRow_heap w _ arr _ e _ h23,?_⟩
   simp only [List.size_toArray,List.length_append,List.length_take,List.length_drop,hlen,Array.length_toList]
   omega
theorem AcJ {T:TypeId}{x y:Operand}{t off:Nat}{cs:List D}{r:D}{sh:Bool×Nat}(hop:o.op=.store T x y)(hx:Ap env x=.ref t off)(hb:env t=.ubox cs)(htB:t<BIG)(hy:vd env y=some r)(hsh:Bl P T=some sh)(hn:r.cells.length=sh.2)(hoff:off+r.cells.length≤cs.length)(hdst:o.dst=none) :
 Step P N o env (upd env (some t) (.ubox (patch cs off r.cells))):=
 WR hop hx hb htB (fun base w0 ro0 ro blk a w hs=>(hs.getD hy).cells.toG) hsh hn hoff hdst
theorem YU {T:TypeId}{x y:Operand}{t off id sz n m:Nat}{cs:List D}(hop:o.op=.store T x y)(hx:Ap env x=.ref t off)(hb:env t=.ubox cs)(htB:t<BIG)(hy:Ap env y=.sref id sz n)(hsh:Bl P T=some (false,1))(hoff:off<cs.length)(hdst:o.dst=none) :
 Step P N o env (upd env (some t) (.ubox (patch cs off [.rr id sz n]))):=by
 refine WR hop hx hb htB (fun base w0 ro0 ro blk a w hs=>?_) hsh rfl hoff hdst
 have hv:=hs.get y 0
 rw [hy] at hv
 have hone:(a.eval y).oneCell'=true∧(a.eval y).cells = #[a.eval y]:=by
  rcases hv.2 with ⟨h,_⟩|⟨_,_,_,_,h,_⟩<;>rw [h]<;>exact ⟨rfl,rfl⟩
 rw [hone.2]
 refine ⟨rfl,by simpa using hone.1,fun j u c hu hc=>?_⟩
 cases j with
 |zero=>simp at hu hc;subst hu hc;exact hv
 |succ j=>simp at hu
def MP (zs:List D)(ps:List (Nat×Nat×Nat)):List D:=ps.foldl (fun cs q=>cs.set q.1 (.rr q.2.1 q.2.2 0)) zs
theorem Xm {us:List Value}:∀{ps:List (Nat×Nat×Nat)} {cs:List D},Dv .pbox ro blk w us cs→(∀q∈ps,us[q.1]? = some (.slice none 0 0)∧BIG≤q.2.1)→Dv .pbox ro blk w us (MP cs ps)
 | [],cs,h,_=>h
 |q::ps,cs,h,hp=>by
  refine Xm (ps:=ps) (cs:=cs.set q.1 (.rr q.2.1 q.2.2 0)) ⟨by simpa using h.1,h.2.1,fun j u c hu hc=>?_⟩ fun q' hq'=>hp q' (List.mem_cons_of_mem _ hq')
  rw [List.getElem?_set] at hc
  split at hc
  ·rename_i e
   subst e
   split at hc
   ·injection hc with hc;subst hc
    obtain ⟨h1,h2⟩:=hp q (List.mem_cons_self ..)
    rw [h1] at hu;injection hu with hu;subst hu
    exact ⟨h2,.inl ⟨rfl,rfl⟩⟩
   ·cases hc
  ·exact h.2.2 j u c hu hc
theorem Xr:∀{vs:List Value} {ds:List D} {j:Nat},Jm vs=some ds→ds[j]? = some (.row [])→vs[j]? = some (.slice none 0 0)
 | [],ds,j,h,hj=>by simp [Jm] at h;subst h;simp at hj
 |v::l,ds,j,h,hj=>by
  unfold Jm at h
  split at h
  ·rename_i d es h1 h2
   injection h with h;subst h
   cases j with
   |zero=>
    simp only [List.getElem?_cons_zero,Option.some.injEq] at hj ⊢
    subst hj
    unfold zc at h1
    split at h1
    ·rfl
    ·split at h1<;>cases h1
   |succ j=>simp only [List.getElem?_cons_succ] at hj ⊢;exact Xr h2 hj
  ·cases h
def JI (ps:List (Nat×Nat×Nat))(env:Env):Env:=fun u=>match ps.find? fun q=>q.2.1==u with
 |some q=>.gbox q.2.2 []
 |none=>env u
theorem Apt {T:TypeId}{zs:List D}{ps:List (Nat×Nat×Nat)}(hop:o.op=.alloc T)(hz:zeroOf P T=some zs)(hps:∀q∈ps,zs[q.1]? = some (.row [])∧BIG≤q.2.1∧0<q.2.2){d:Nat}(hdst:o.dst=some d)(hd:d<N)(hdB:d<BIG):Step P N o env (JI ps (upd (Gz env d zs) (some d) (.ubox (MP zs ps)))):=by
 intro base w0 ro0 a w ⟨ro,blk,hs⟩ K Q hK
 obtain ⟨i,z,hi,hzz,hzd⟩:=Qn hz
 unfold Oper.wp
 have hrun:(execOp a.eval o).run P w=.ok (.value (.pointer (some ⟨w.heap.size,0,none⟩))) (w.alloc (.cells z.cells T)):=by
  simp [execOp,hop,Instr.alloc,zeroValue,typeInfo,hi,hzz,newVar,newRow]
 rw [hrun,Oper.upon_value,hdst]
 have hb:=hs.box hd hdB (e:=T) (arr:=z.cells) (OW hzd)
 refine hK _ _ ⟨_,fun t=>if t=d then w.heap.size else blk t,hb.below,hb.room,hb.nodef,hb.size,hb.old,hb.new,hb.uniq,hb.given,fun t ht=>?_,fun t=>?_⟩
 ·unfold JI at ht
  split at ht
  ·cases ht
  ·by_cases e:t=d
   ·subst e;simp [upd] at ht
   ·simp only [upd,if_neg e] at ht;exact hb.left t ht
 ·unfold JI
  split
  ·rename_i q hq
   have hm:=List.mem_of_find?_eq_some hq
   exact ⟨(hps q hm).2.2,by simp,.inl rfl⟩
  ·have h1:=hb.sat t
   by_cases e:t=d
   ·subst e
    simp only [upd,if_true]
    simp only [Gz,if_true] at h1
    obtain ⟨h2,h3,h4,arr,e',h5,h6⟩:=h1
    refine ⟨h2,h3,h4,arr,e',h5,?_⟩
    have hnew:=heap_alloc_new w (.cells z.cells T (0,0))
    simp only [if_true] at h5
    have harr:arr=z.cells:=by
     rw [show (w.alloc (.cells z.cells T)).heap[w.heap.size]? = some (.cells z.cells T (0,0)) from hnew] at h5
     injection h5 with h5;injection h5 with h5;exact h5.symm
    subst harr
    exact Xm h6.toG fun q hq=>⟨Xr hzd (hps q hq).1,(hps q hq).2.1⟩
   ·simp only [upd,if_neg e];exact h1
def BH (id:Nat)(xs:List D):D→D
 | .rr i sz n=>if i=id then (if n=xs.length then .row xs else .stale) else .rr i sz n
 |c=>c
def JS (tv id sz:Nat)(cs xs:List D)(env:Env):Env:=fun u=>if u=tv then .ubox (cs.map (BH id xs)) else if u=id then .gbox sz [] else Du id (env u)
theorem Bf.ZB (hs:Bf P N base w0 ro0 ro blk env a w){tv id sz:Nat}{cs xs:List D}(htv:env tv=.ubox cs)(hid:env id=.gbox sz xs)(htB:tv<BIG)(hidB:BIG≤id):∃ro',Bf P N base w0 ro0 ro' blk (JS tv id sz cs xs env) a w:=by
 have hgx:=hs.sat id
 rw [hid] at hgx
 obtain ⟨g1,g2,g3⟩:=hgx
 have hub:=hs.sat tv
 rw [htv] at hub
 obtain ⟨u0,u1,u2,uarr,ue,u3,u4⟩:=hub
 have hmap:∀{ro':Aq},Evo ro ro' w w→(∀i sz n u,i≠id→BIG≤i→DV (.pbox i) ro w (blk i) sz n u→DV (.pbox i) ro' w (blk i) sz n u)→(∀sz n u,n=xs.length→DV (.pbox id) ro w (blk id) sz n u→Rep ro' w u (.row xs))→Dv .pbox ro' blk w uarr.toList (cs.map (BH id xs)):=by
  intro ro' hc h1 h2
  refine ⟨by rw [List.length_map];exact u4.1,u4.2.1,fun j u c hu hcj=>?_⟩
  rw [List.getElem?_map] at hcj
  cases hq:cs[j]? with
  |none=>rw [hq] at hcj;cases hcj
  |some d=>
   rw [hq] at hcj
   simp only [Option.map_some,Option.some.injEq] at hcj
   have:=u4.2.2 j u d hu hq
   subst hcj
   cases d with
   |rr i sz' n=>
    simp only [BH]
    by_cases ei:i=id
    ·rw [if_pos ei];subst ei
     by_cases en:n=xs.length
     ·rw [if_pos en];exact (h2 sz' n u en this.2).toG
     ·rw [if_neg en];trivial
    ·rw [if_neg ei];exact ⟨this.1,h1 i sz' n u ei this.1 this.2⟩
   |stale=>trivial
   |_=>exact (Rep.Bi hc this).toG
 have hleft:∀t,JS tv id sz cs xs env t=.free→ro0.names t:=by
  intro t ht
  unfold JS at ht
  split at ht
  ·cases ht
  ·split at ht
   ·cases ht
   ·exact hs.left t (RI ht)
 by_cases hx:xs= []
 ·subst hx
  refine ⟨ro,hs.below,hs.room,hs.nodef,hs.size,hs.old,hs.new,hs.uniq,hs.given,hleft,fun t=>?_⟩
  unfold JS
  by_cases et:t=tv
  ·rw [if_pos et];subst et
   refine ⟨u0,u1,u2,uarr,ue,u3,hmap ⟨fun b off u hok hc=>⟨hc,hok⟩,fun b i k hb hr=>⟨hb,k,hr⟩⟩ (fun _ _ _ _ _ _ h=>h) fun sz' n u hn h=>?_⟩
   rcases h with ⟨rfl,_⟩|⟨_,_,_,cap,rfl,_,hcm,_⟩
   ·exact .nil (Nat.zero_le _)
   ·simp at hn;subst hn;exact .nil hcm
  ·rw [if_neg et]
   by_cases ei:t=id
   ·rw [if_pos ei];exact ⟨g1,by simp,.inl rfl⟩
   ·rw [if_neg ei];exact (hs.sat t).Du id
 ·obtain ⟨hro,arr,e',hheap,hfit,hrep⟩:=g3.resolve_left hx
  have hlt:=block_lt hheap
  have hc:Evo ro (ro.set (blk id) .frozen) w w:=by
   refine ⟨fun b off' u hok hcu=>⟨hcu,?_⟩,fun b i k hb hr=>⟨hb,k,by rw [Aq.Dn];exact hr;rintro rfl;rw [hro] at hr;cases hr⟩⟩
   by_cases e:b=blk id
   ·subst e;unfold DD;rw [Aq.F9];trivial
   ·unfold DD at *;rw [Aq.Dn _ _ e];exact hok
  have hobj:∀b i k,(ro.set (blk id) .frozen) b=.obj i k→ro b=.obj i k:=by
   intro b i k e2
   by_cases hne:b=blk id
   ·subst hne;rw [Aq.F9] at e2;cases e2
   ·rwa [Aq.Dn _ _ hne] at e2
  have hsl:∀i sz n u,i≠id→DV (.pbox i) ro w (blk i) sz n u→DV (.pbox i) (ro.set (blk id) .frozen) w (blk i) sz n u:=fun i sz n u hi h=>h.keep fun _ hr=>⟨rfl,(Aq.Dn _ _ (fun e=>by rw [e,hro] at hr;injection hr with hr;exact hi hr.symm)).trans hr⟩
  have htid:tv≠id:=by omega
  refine ⟨ro.set (blk id) .frozen,hs.below,hs.room,hs.nodef,hs.size,hs.old.set ((hs.old.pb _ _ hro).imp (fun h=>h) fun k=>⟨k,fun _ _ h=>by cases h⟩),fun b hb2=>by rw [Aq.Dn _ _ (by omega)];exact hs.new b hb2,fun b b' i k k' e2 e3=>hs.uniq b b' i k k' (hobj b i k e2) (hobj b' i k' e3),fun b i k hb2 e2=>hs.given b i k hb2 (hobj b i k e2),hleft,fun t=>?_⟩
  unfold JS
  by_cases et:t=tv
  ·rw [if_pos et];subst et
   refine ⟨u0,u1,by rw [Aq.Dn];exact u2;(intro e;rw [e,hro] at u2;cases u2),uarr,ue,u3,hmap hc (fun i sz n u hi _ h=>hsl i sz n u hi h) fun sz' n u hn h=>?_⟩
   subst hn
   rcases h with ⟨_,h0⟩|⟨_,arr2,e2,cap,hv,hnc,hcm,hh2,hs2⟩
   ·exact absurd (List.length_eq_zero_iff.1 h0) hx
   ·rw [hheap] at hh2;injection hh2 with hh2;injection hh2 with hh2;subst hh2
    rw [hv]
    have hrep2:=hrep.Bi hc
    refine Rep.row (arr.toList.take (xs.length*sz)) g1 hnc hcm (by rw [List.length_take,Nat.min_eq_left (by simpa using hfit)]) g2 hrep2.2.1 (fun j u hj=>⟨?_,by unfold DD;rw [Aq.F9];trivial⟩) hrep2.2.2
    rw [cell_of_row w _ _ arr e' (0,0) hheap,Nat.zero_add]
    rw [List.getElem?_take] at hj
    split at hj
    ·simpa using hj
    ·cases hj
  ·rw [if_neg et]
   by_cases ei:t=id
   ·rw [if_pos ei];exact ⟨g1,by simp,.inl rfl⟩
   ·rw [if_neg ei]
    refine ((hs.sat t).Du id).write (g:=blk id) hc (fun _ _=>rfl) (fun k hk=>Aq.Dn _ _ hk) (fun cs' e2 e3=>?_) (fun _ _ _ _ e2=>by rw [hro] at e2;cases e2) (fun τ n e2=>by rw [hro] at e2;cases e2) (fun i k=>⟨(fun e2=>by rw [hro] at e2;cases e2),(fun e2=>by rw [hro] at e2;cases e2)⟩) (fun i k e2=>by rw [Aq.F9] at e2;cases e2) (fun _ _ _=>⟨(fun e2=>by rw [hro] at e2;first|(cases e2;done)|(injection e2 with e2;exact ei e2.symm)),(fun e2=>by rw [hro] at e2;first|(cases e2;done)|(injection e2 with e2;exact ei e2.symm))⟩) (fun τ hs2 e2=>?_)
    ·have:=(hs.sat t).Du id
     rw [e2] at this
     have h5:=this.2.2.1
     rw [e3,hro] at h5
     first|(cases h5;done)|(injection h5 with h5;exact ei h5.symm)
    ·rw [hro] at e2;injection e2 with e2;subst e2
     exfalso
     rcases hs2 with ⟨sz',n',hs2⟩|⟨sz',n',hs2⟩|⟨cs',sz',n',hs2,hm2⟩
     ·(cases hst:env t<;>rw [hst] at hs2<;>simp only [Du] at hs2<;>first|(cases hs2;done)|(split at hs2<;>first|(cases hs2;done)|(injection hs2 with k1 k2 k3;subst k1;contradiction)))
     ·(cases hst:env t<;>rw [hst] at hs2<;>simp only [Du] at hs2<;>first|(cases hs2;done)|(split at hs2<;>first|(cases hs2;done)|(injection hs2 with k1 k2 k3;subst k1;contradiction)))
     ·(cases hst:env t<;>rw [hst] at hs2<;>simp only [Du] at hs2<;>rcases hs2 with hs2|hs2|hs2<;>first|(cases hs2;done)|(split at hs2<;>cases hs2;done)|(injection hs2 with hs2;subst hs2;exact (SX hm2).1 rfl))
theorem Bf.AoN (hs:Bf P N base w0 ro0 ro blk env a w){tv:Nat}{cs:List D}(htv:env tv=.ubox cs)(hp:cs.all Kq=true):Bf P N base w0 ro0 ro blk (upd env (some tv) (.box cs)) a w:=by
 refine ⟨hs.below,hs.room,hs.nodef,hs.size,hs.old,hs.new,hs.uniq,hs.given,fun t ht=>?_,fun t=>?_⟩
 ·by_cases e:t=tv
  ·subst e;simp [upd] at ht
  ·simp only [upd,if_neg e] at ht;exact hs.left t ht
 ·have h1:=hs.sat t
  by_cases e:t=tv
  ·subst e
   rw [htv] at h1
   simp only [upd,if_true]
   obtain ⟨u0,u1,u2,uarr,ue,u3,u4⟩:=h1
   exact ⟨u0,u1,u2,uarr,ue,u3,u4.plain hp⟩
  ·simp only [upd,if_neg e];exact h1
theorem Ac1 {place:Nat→Option (Nat×Nat)}:∀{parts:List (Nat×Value)} {ds:List (Nat×D)} {cells:Array Value} {cs cs':List D},Dv .pbox ro blk w cells.toList cs→parts.length=ds.length →
 (∀(j:Nat) (p:Nat×Value) (q:Nat×D),parts[j]? = some p→ds[j]? = some q→p.1=q.1∧Rep ro w p.2 q.2)→GG place cs ds=some cs'→∃cells',Instr.fill place cells parts=some cells'∧Dv .pbox ro blk w cells'.toList cs'
 | [],[],cells,cs,cs',h,_,_,hf=>by
  simp [GG] at hf;subst hf;exact ⟨cells,by simp [Instr.fill],h⟩
 | [],_::_,_,_,_,_,hl,_,_=>by simp at hl
 |_::_,[],_,_,_,_,hl,_,_=>by simp at hl
 | (i,v)::parts,(i',d)::ds,cells,cs,cs',h,hl,hp,hf=>by
  obtain ⟨e1,hv⟩:=hp 0 (i,v) (i',d) rfl rfl
  simp only at e1 hv;subst e1
  unfold GG at hf
  split at hf
  ·cases hf
  ·rename_i off size hpl
   split at hf
   ·rename_i hc
    have hcl:=hv.cells
    have e2:v.cells.size=d.cells.length:=by simpa using hcl.1
    have e3:cells.size=cs.length:=by simpa using h.1
    have hle:off+v.cells.size≤cells.size:=by omega
    have hone:=PV off v.cells cells hle
    have hk:=h.patch (hcl.toG (rl:=.pbox) (blk:=blk)) off
    simp only [Array.length_toList] at hk
    rw [←hone] at hk
    obtain ⟨cells',h1,h2⟩:=Ac1 (parts:=parts) (ds:=ds) hk (by simpa using hl) (fun j p q hj hq=>hp (j+1) p q (by simpa using hj) (by simpa using hq)) hf
    refine ⟨cells',?_,h2⟩
    unfold Instr.fill
    rw [hpl]
    simp only
    rw [if_neg (by simp only [ne_eq,Bool.or_eq_true,decide_eq_true_eq];omega)]
    exact h1
   ·cases hf
theorem Amc {us:List (Nat×Nat×Nat)}(h:Bf P N base w0 ro0 ro blk env a w)(h0:∀q∈us,0<q.2.2):Bf P N base w0 ro0 ro blk (JI us env) a w:=by
 refine ⟨h.below,h.room,h.nodef,h.size,h.old,h.new,h.uniq,h.given,fun t ht=>?_,fun t=>?_⟩
 ·unfold JI at ht
  split at ht
  ·cases ht
  ·exact h.left t ht
 ·unfold JI
  split
  ·rename_i q hq
   exact ⟨h0 q (List.mem_of_find?_eq_some hq),by simp,.inl rfl⟩
  ·exact h.sat t
theorem Ake {T:TypeId}{parts:Array (Nat×Operand)}{ds:List (Nat×D)}{zs cs:List D}{ps:List (Nat×Nat)}{fields:Array Field}{us:List (Nat×Nat×Nat)}(hop:o.op=.build T parts)(hT:P.underlying T=some (.struct fields))(hps:fields.toList.mapM (fun f=>(P.info? f.type).map fun i=>(f.offset,i.size))=some ps)(hz:zeroOf P T=some zs)
 (hus:∀q∈us,zs[q.1]? = some (.row [])∧BIG≤q.2.1∧0<q.2.2) (hx:Eu env parts.toList=some ds) (hf:GG (ps.toArray[·]?) (MP zs us) ds=some cs) {d:Nat} (hdst:o.dst=some d) (hd:d<N):Step P N o env (JI us (upd env (some d) (.uagg cs))):=by
 intro base w0 ro0 a w ⟨ro,blk,hs⟩ K Q hK
 obtain ⟨i,z,hi,hzz,hzd⟩:=Qn hz
 obtain ⟨h1,h2⟩:=Uu hs hx
 have hzr:Dv .pbox ro blk w z.cells.toList (MP zs us):=Xm (OW hzd).toG fun q hq=>⟨Xr hzd (hus q hq).1,(hus q hq).2.1⟩
 obtain ⟨cells,h3,h4⟩:=Ac1 (place:=(ps.toArray[·]?)) hzr h1 h2 hf
 have hb:P.built T (parts.toList.map fun (i,x)=>(i,a.eval x))=some cells:=by
  unfold Program.built
  simp only [hi,hT,hzz,hps]
  exact h3
 have hr:=run_build (P:=P) w T (parts.map fun (i,x)=>(i,a.eval x)) cells (by rw [Array.toList_map];exact hb)
 unfold Oper.wp
 have hrun:(execOp a.eval o).run P w=.ok (.value (.agg cells)) w:=by
  simp only [execOp,hop,Sem.run_bind,hr,Result.andThen_ok]
  rfl
 rw [hrun,Oper.upon_value,hdst]
 exact hK _ _ ⟨ro,blk,Amc (hs.put (Grow.refl hs.new) hd (s:=.uagg cs) ⟨cells,rfl,h4⟩) fun q hq=>(hus q hq).2.2⟩
theorem AlW {T:TypeId}{x y:Operand}{t off:Nat}{cs ds:List D}{sh:Bool×Nat}(hop:o.op=.store T x y)(hx:Ap env x=.ref t off)(hb:env t=.ubox cs)(htB:t<BIG)(hy:Ap env y=.uagg ds)(hsh:Bl P T=some sh)(hn:ds.length=sh.2)(hoff:off+ds.length≤cs.length)(hdst:o.dst=none) :
 Step P N o env (upd env (some t) (.ubox (patch cs off ds))):=by
 refine WR hop hx hb htB (fun base w0 ro0 ro blk a w hs=>?_) hsh hn hoff hdst
 have hv:=hs.get y 0
 rw [hy] at hv
 obtain ⟨arr,h1,h2⟩:=hv
 rw [h1];exact h2
theorem AbI {T:TypeId}{x y:Operand}{ops:Array Oper}{fb:List Nat}{t off:Nat}{cs ds:List D}(hg:D7 ops o env=some true)(hop:o.op=.store T x y)(hx:Ap env x=.ref t off)(hb:env t=.ubox cs)(hst:∀env',Jy (FT fb o) o env env'→Step P N o env' (upd env' (some t) (.ubox ds)))(hdst:o.dst=none)(hd:Jb ops o env=true)(hsm:t<BIG) :
 DG P N fb ops o env (.cont t (.ubox ds)):=by
 have ha:addrOf o=some x:=by simp [addrOf,hop]
 refine ⟨⟨?_,hdst,by rw [hb];rfl,rfl⟩,N9 hd,.inl ⟨hg,fun env' he _=>hst env' he⟩,fun u hu=>(Option.some.inj hu)▸hsm⟩
 have:=N9 hd x t off ha hx
 simp [Md,hop,Yh,this]
theorem Auv {T:TypeId}{x y:Operand}{ops:Array Oper}{fb:List Nat}{t off:Nat}{cs:List D}{r:D}{sh:Bool×Nat}(hg:D7 ops o env=some true)(hop:o.op=.store T x y)(hx:Ap env x=.ref t off)(hb:env t=.ubox cs)(hy:vd env y=some r)(hsh:Bl P T=some sh)(hn:r.cells.length=sh.2)(hoff:off+r.cells.length≤cs.length)(hdst:o.dst=none)(hd:Jb ops o env=true)(hsm:t<BIG) :
 DG P N fb ops o env (.cont t (.ubox (patch cs off r.cells))):=by
 have ha:addrOf o=some x:=by simp [addrOf,hop]
 exact AbI hg hop hx hb (fun env' he=>AcJ hop (by rw [he.get (by simp [hop,Op.operands])];exact hx) ((he.2.1 x t off ha hx).trans hb) hsm (by rw [he.getD (by simp [hop,Op.operands])];exact hy) hsh hn hoff hdst) hdst hd hsm
theorem An6 {T:TypeId}{x y:Operand}{ops:Array Oper}{fb:List Nat}{t off id sz n:Nat}{cs:List D}(hg:D7 ops o env=some true)(hop:o.op=.store T x y)(hx:Ap env x=.ref t off)(hb:env t=.ubox cs)(hy:Ap env y=.sref id sz n)(hsh:Bl P T=some (false,1))(hoff:off<cs.length)(hdst:o.dst=none)(hd:Jb ops o env=true)(hsm:t<BIG) :
 DG P N fb ops o env (.cont t (.ubox (patch cs off [.rr id sz n]))):=by
 have ha:addrOf o=some x:=by simp [addrOf,hop]
 exact AbI hg hop hx hb (fun env' he=>YU (m:=1) hop (by rw [he.get (by simp [hop,Op.operands])];exact hx) ((he.2.1 x t off ha hx).trans hb) hsm (by rw [he.get (by simp [hop,Op.operands])];exact hy) hsh hoff hdst) hdst hd hsm
end
end Go.Vm
end
section
namespace Go.Vm
open Go.RowKit
section
variable {P:Program} {N base:Nat} {w0 w w':World} {ro0:Start} {ro ro':Aq} {blk blk':Nat→Nat} {env:Env} {a:Act} {o:Oper}
theorem Bf.Ati (hs:Bf P N base w0 ro0 ro blk env a w){id sz:Nat}(hid:BIG≤id)(hsz:0<sz){zs:List D}(hw:∀x∈zs,x.cells.length=sz){arr arr':Array Value}{e:TypeId}(hro:ro (blk id)=.pbox id)(hh:w.heap[blk id]? = some (.cells arr e (0,0)))
 (hl:arr'.size=arr.size) (hz:zs.length*sz≤arr'.size) (hr:AX ro w (arr'.toList.take (zs.length*sz)) (flat zs)) (hos:w'.os=w.os) (htp:w'.tape=w.tape) (hou:w'.output=w.output) (hsiz:w'.heap.size=w.heap.size) (hblk:∀k,k≠blk id→w'.heap[k]? = w.heap[k]?) (hnew:w'.heap[blk id]? = some (.cells arr' e (0,0))) :
 Bf P N base w0 ro0 ro blk (upd env (some id) (.gbox sz zs)) a w':=by
 have hc:Evo ro ro w w':=by
  refine ⟨fun b off' u hok hcu=>?_,fun b i k hb hr=>⟨by omega,k,hr⟩⟩
  have hne:b≠blk id:=by intro e;subst e;unfold DD at hok;rw [hro] at hok;exact hok
  exact ⟨by rw [World.cell?_of_block (w:=w) (a:=⟨b,off',none⟩) (hblk b hne)];exact hcu,hok⟩
 refine ⟨hs.below.trans (Under.ZU (hs.old.pb _ _ hro) hos htp hou (by omega) (fun k hk _=>hblk k hk) hs.room),by have:=hs.room;omega,hs.nodef,hs.size,hs.old,fun b hb=>hs.new b (by omega),hs.uniq,hs.given,fun t ht=>by
  simp only [upd] at ht
  split at ht
  ·cases ht
  ·exact hs.left t ht,fun t=>?_⟩
 by_cases ei:t=id
 ·subst ei
  simp only [upd,if_true]
  exact ⟨hsz,hw,.inr ⟨hro,arr',e,hnew,hz,hr.Bi hc⟩⟩
 ·simp only [upd,if_neg ei]
  refine (hs.sat t).write (g:=blk id) hc hblk (fun _ _=>rfl) (fun cs' e2 e3=>?_) (fun _ _ _ _ e2=>by rw [hro] at e2;cases e2) (fun τ n e2=>by rw [hro] at e2;cases e2) (fun i k=>⟨(fun e2=>by rw [hro] at e2;cases e2),(fun e2=>by rw [hro] at e2;cases e2)⟩) (fun i k e2=>by rw [hro] at e2;cases e2) (fun _ _ _=>⟨(fun e2=>by rw [hro] at e2;first|(cases e2;done)|(injection e2 with e2;exact ei e2.symm)),(fun e2=>by rw [hro] at e2;first|(cases e2;done)|(injection e2 with e2;exact ei e2.symm))⟩) (fun τ _ _=>⟨rfl,fun arr2 e2 x2 hh2=>by rw [hh] at hh2;injection hh2 with hh2;injection hh2 with k1 k2 k3;subst k1 k2 k3;exact ⟨_,hnew,hl⟩⟩)
  have:=hs.sat t
  rw [e2] at this
  have h5:=this.2.2.1
  rw [e3,hro] at h5
  first|(cases h5;done)|(injection h5 with h5;exact ei h5.symm)
theorem Asw {α:Type}(l m:List α)(off k:Nat)(h1:off+m.length≤k)(h2:k≤l.length):(l.take off++m++l.drop (off+m.length)).take k=(l.take k).take off++m++(l.take k).drop (off+m.length):=by
 apply List.ext_getElem?
 intro i
 simp only [List.getElem?_take,List.getElem?_append,List.getElem?_drop,List.length_append,List.length_take]
 split<;>split<;>(try split)<;>(try split)<;>(try split)<;>(try split)<;>(try omega)<;>(try rfl)<;>(try (congr 1;omega))<;>(try (rw [List.getElem?_eq_none (by omega)]))
theorem Av1 {T:TypeId}{x y:Operand}{id sz off:Nat}{xs zs:List D}{r:D}{sh:Bool×Nat}(hop:o.op=.store T x y)(hx:Ap env x=.gref id sz off)(hb:env id=.gbox sz xs)(hy:vd env y=some r)(hsh:Bl P T=some sh)(hn:r.cells.length=sh.2)(hoff:off+r.cells.length≤xs.length*sz)(hne:xs≠[])
 (hz:flat zs=patch (flat xs) off r.cells) (hzl:zs.length=xs.length) (hzw:∀z∈zs,z.cells.length=sz) (hdst:o.dst=none):Step P N o env (upd env (some id) (.gbox sz zs)):=by
 intro base w0 ro0 a w ⟨ro,blk,hs⟩ K Q hK
 have h1:=hs.get x 0
 rw [hx] at h1
 obtain ⟨hbig,hro,h1,_⟩:=h1
 have hg:=hs.sat id
 rw [hb] at hg
 obtain ⟨g1,g2,g3⟩:=hg
 obtain ⟨_,arr,e,h23,h24,h25⟩:=g3.resolve_left hne
 have hv:=(hs.getD hy).cells
 obtain ⟨ag,n⟩:=sh
 obtain ⟨i,dd,k1,k2,k3,k4⟩:=GL hsh
 have hvs:(a.eval y).cells.size=i.size:=by have:=hv.1;simp at this;omega
 have hlen:(a.eval y).cells.toList.length=r.cells.length:=hv.1
 have hst:=run_storeCells_at P (blk id) off e (a.eval y).cells.toList 0 arr w h23 (by rw [hlen];omega) hv.2.1
 simp only [Nat.add_zero] at hst
 have hrun:(execOp a.eval o).run P w=.ok .skip (w.setRow (blk id) (arr.toList.take off++(a.eval y).cells.toList++arr.toList.drop (off+(a.eval y).cells.toList.length)).toArray):=by
  simp only [execOp,hop,Instr.storeAt,h1,Instr.sureAddr,storeVar,sizeOf,typeInfo,Sem.run_bind,Sem.run_pure,Result.andThen_ok]
  simp [k1,hvs,hst]
 unfold Oper.wp
 rw [hrun,Oper.upon_skip,hdst]
 refine hK _ _ ⟨ro,blk,?_⟩
 have hsz:(arr.toList.take off++(a.eval y).cells.toList++arr.toList.drop (off+(a.eval y).cells.toList.length)).toArray.size=arr.size:=by
  simp only [List.size_toArray,List.length_append,List.length_take,List.length_drop,hlen,Array.length_toList]
  omega
 refine hs.Ati (w':=w.setRow (blk id) (arr.toList.take off++(a.eval y).cells.toList++arr.toList.drop (off+(a.eval y).cells.toList.length)).toArray) hbig g1 hzw hro h23 hsz (by rw [hsz,hzl];exact h24) ?_ rfl rfl rfl (by simp) (fun k hk=>setRow_other w _ k _ hk) (setRow_heap w _ arr _ e _ h23)
 rw [List.toList_toArray,hz,hzl]
 have hp:=h25.patch hv off
 have e1:(arr.toList.take off++(a.eval y).cells.toList++arr.toList.drop (off+(a.eval y).cells.toList.length)).take (xs.length*sz)=(arr.toList.take (xs.length*sz)).take off++(a.eval y).cells.toList++(arr.toList.take (xs.length*sz)).drop (off+(a.eval y).cells.toList.length):=by
  exact Asw _ _ _ _ (by rw [hlen];exact hoff) (by simpa using h24)
 rw [e1]
 exact hp
end
end Go.Vm
end
section
namespace Go.Vm
open Go.RowKit
section
variable {P:Program} {N base:Nat} {w0 w w':World} {ro0:Start} {ro ro':Aq} {blk blk':Nat→Nat} {env env':Env} {a:Act} {o:Oper}
end
section
variable {P:Program} {N:Nat} {env:Env} {o:Oper}
end
end Go.Vm
end
section
namespace Go.Vm
open Go.RowKit
structure MM (p:Prop):Prop where
 out:p
inductive Tr where
 |leaf
 |node (v:S) (l r:Tr)
def Tr.get:Tr→Nat→S
 | .leaf,_=>.junk
 | .node v l r,n=>match Nat.beq n 0 with
  |true=>v
  |false=>match Nat.beq (Nat.mod n 2) 1 with
   |true=>l.get (Nat.div n 2)
   |false=>r.get (Nat.sub (Nat.div n 2) 1)
def AQ:Nat→Tr→Nat→S→(Tr→Prop)→Prop
 |0,t,_,_,K=>False
 |f+1,.leaf,n,s,K=>match Nat.beq n 0 with
  |true=>K (.node s .leaf .leaf)
  |false=>match Nat.beq (Nat.mod n 2) 1 with
   |true=>AQ f .leaf (Nat.div n 2) s fun l=>K (.node .junk l .leaf)
   |false=>AQ f .leaf (Nat.sub (Nat.div n 2) 1) s fun r=>K (.node .junk .leaf r)
 |f+1,.node v l r,n,s,K=>match Nat.beq n 0 with
  |true=>K (.node s l r)
  |false=>match Nat.beq (Nat.mod n 2) 1 with
   |true=>AQ f l (Nat.div n 2) s fun l=>K (.node v l r)
   |false=>AQ f r (Nat.sub (Nat.div n 2) 1) s fun r=>K (.node v l r)
theorem Bh:∀{f:Nat} {t:Tr} {n:Nat} {s:S} {K:Tr→Prop},AQ f t n s K→∃t',(∀u,t'.get u=if u=n then s else t.get u)∧K t'
 |0,_,_,_,_,h=>h.elim
 |f+1,t,n,s,K,h=>by
  have beq0:∀m:Nat,Nat.beq m 0=decide (m=0):=fun m=>by cases m<;>rfl
  have E9:∀m k:Nat,Nat.beq m k=decide (m=k):=fun m k=>by
   rw [Bool.eq_iff_iff];simp [Nat.beq_eq]
  have key:∀(v:S) (l r:Tr),(∀u,t.get u=(Tr.node v l r).get u)→(match Nat.beq n 0 with
   |true=>K (.node s l r)
   |false=>match Nat.beq (Nat.mod n 2) 1 with
    |true=>AQ f l (Nat.div n 2) s fun l=>K (.node v l r)
    |false=>AQ f r (Nat.sub (Nat.div n 2) 1) s fun r=>K (.node v l r))→∃t',(∀u,t'.get u=if u=n then s else t.get u)∧K t':=by
   intro v l r hv h
   by_cases hn:n=0
   ·subst hn
    simp only [E9,decide_true] at h
    refine ⟨_,fun u=>?_,h⟩
    rw [hv]
    by_cases hu:u=0
    ·subst hu;rfl
    ·simp only [Tr.get,E9,hu,decide_false,if_false]
   ·have h0:Nat.beq n 0=false:=by rw [E9];simpa using hn
    rw [h0] at h
    by_cases hp:n % 2=1
    ·have h1:Nat.beq (Nat.mod n 2) 1=true:=by rw [E9];exact decide_eq_true hp
     rw [h1] at h
     obtain ⟨l',hl,hK⟩:=Bh h
     refine ⟨_,fun u=>?_,hK⟩
     rw [hv]
     simp only [Tr.get,E9,hl]
     have e1:Nat.mod u 2=u % 2:=rfl
     have e2:Nat.div u 2=u / 2:=rfl
     have e3:Nat.div n 2=n / 2:=rfl
     by_cases hu:u=0
     ·subst hu;simp [show ¬0=n from fun e=>hn e.symm]
     ·by_cases hq:u % 2=1
      ·simp only [hu,e1,hq,decide_false,decide_true,e2,e3]
       by_cases e:u=n
       ·subst e;simp
       ·rw [if_neg e,if_neg (by omega)]
      ·simp only [hu,e1,hq,decide_false]
       rw [if_neg (by intro e;subst e;exact hq hp)]
    ·have h1:Nat.beq (Nat.mod n 2) 1=false:=by rw [E9];exact decide_eq_false hp
     rw [h1] at h
     obtain ⟨r',hr,hK⟩:=Bh h
     refine ⟨_,fun u=>?_,hK⟩
     rw [hv]
     simp only [Tr.get,E9,hr]
     have e1:Nat.mod u 2=u % 2:=rfl
     have e2:Nat.sub (Nat.div u 2) 1=u / 2-1:=rfl
     have e3:Nat.sub (Nat.div n 2) 1=n / 2-1:=rfl
     by_cases hu:u=0
     ·subst hu;simp [show ¬0=n from fun e=>hn e.symm]
     ·by_cases hq:u % 2=1
      ·simp only [hu,e1,hq,decide_false,decide_true]
       rw [if_neg (by intro e;subst e;exact hp hq)]
      ·simp only [hu,e1,hq,decide_false,e2,e3]
       by_cases e:u=n
       ·subst e;simp
       ·rw [if_neg e,if_neg (by omega)]
  cases t with
  |leaf=>
   refine key .junk .leaf .leaf (fun u=>?_) h
   simp only [Tr.get]
   split
   ·rfl
   ·split<;>rfl
  |node v l r=>exact key v l r (fun u=>rfl) h
def Gl (g:S→(S→Prop)→Prop):Tr→(Tr→Prop)→Prop
 | .leaf,K=>K .leaf
 | .node v l r,K=>g v fun v'=>Gl g l fun l'=>Gl g r fun r'=>K (.node v' l' r')
theorem II {g:S→(S→Prop)→Prop}{f:S→S}(hf:f .junk=.junk)(hg:∀s K,g s K→K (f s)):∀{t:Tr} {K:Tr→Prop},Gl g t K→∃t',(∀u,t'.get u=f (t.get u))∧K t'
 | .leaf,K,h=>⟨.leaf,fun u=>hf.symm,h⟩
 | .node v l r,K,h=>by
  obtain ⟨l',hl,h⟩:=II hf hg (hg _ _ h)
  obtain ⟨r',hr,h⟩:=II hf hg h
  refine ⟨_,fun u=>?_,h⟩
  simp only [Tr.get]
  split
  ·rfl
  ·split
   ·exact hl _
   ·exact hr _
abbrev Hp:=Nat→S
def FP (s:S):S:=match s with
 | .obj cs=>.obj cs
 | .mapo es=>.mapo es
 | .free=>.free
 | .gbox sz xs=>.gbox sz xs
 | .uobj cs=>.uobj cs
 | .pack cs rows=>.pack cs rows
 |_=>.junk
def Af (t:Tr)(h:Hp):Env:=fun u=>if u<NAM then t.get u else FP (h u)
theorem Ed {t t':Tr}{h:Hp}{n:Nat}{s:S}(hn:n<NAM)(ht:∀u,t'.get u=if u=n then s else t.get u):Af t' h=upd (Af t h) (some n) s:=by
 funext u
 simp only [Af,upd,ht]
 by_cases e:u=n
 ·subst e;simp [hn]
 ·simp [e]
theorem Ql {t:Tr}{h:Hp}{n:Nat}{s:S}(hn:NAM≤n):Af t (fun u=>if u=n then s else h u)=upd (Af t h) (some n) (FP s):=by
 funext u
 simp only [Af,upd]
 by_cases e:u=n
 ·subst e;simp [show ¬u<NAM by omega]
 ·simp [e]
theorem Lj {t:Tr}{h:Hp}{n:Nat}(hn:NAM≤n):Af t h n=FP (h n):=by simp [Af,show ¬n<NAM by omega]
theorem CE {t:Tr}{h:Hp}{n:Nat}(hn:n<NAM):Af t h n=t.get n:=by simp [Af,hn]
def sK (s:S)(K:S→Prop):Prop:=match s with
 | .junk=>K .junk
 | .c (.d x)=>K (.c (.d x))
 | .c (.own τ e xs)=>K (.c (.own τ e xs))
 | .c .nil=>K (.c .nil)
 | .box cs=>K (.box cs)
 | .ref t o=>K (.ref t o)
 | .at_ cs o=>K (.at_ cs o)
 | .tup cs=>K (.tup cs)
 | .obj cs=>K (.obj cs)
 | .mapo es=>K (.mapo es)
 | .iter a b c=>K (.iter a b c)
 | .free=>K .free
 | .gbox a b=>K (.gbox a b)
 | .sref a b c=>K (.sref a b c)
 | .gref a b c=>K (.gref a b c)
 | .ubox cs=>K (.ubox cs)
 | .uagg cs=>K (.uagg cs)
 | .uobj cs=>K (.uobj cs)
 | .pack cs rows=>K (.pack cs rows)
theorem Ll {s:S}{K:S→Prop}(h:sK s K):K s:=by
 cases s with
 |c x=>cases x<;>exact h
 |_=>exact h
def lK:List D→(List D→Prop)→Prop
 | [],K=>K []
 |d::l,K=>lK l fun l'=>K (d::l')
theorem AdQ:∀{l:List D} {K:List D→Prop},lK l K→K l
 | [],_,h=>h
 |d::l,K,h=>AdQ (l:=l) (K:=fun l'=>K (d::l')) h
def I7 (d:D)(K:List D→Prop):Prop:=match d with
 | .agg cs=>lK cs K
 | .sc v=>K [.sc v]
 | .row xs=>K [.row xs]
 | .ptr a b=>K [.ptr a b]
 | .mp a=>K [.mp a]
 | .fn f cs=>K [.fn f cs]
 | .rr a b c=>K [.rr a b c]
 | .stale=>K [.stale]
theorem Ky {d:D}{K:List D→Prop}(h:I7 d K):K d.cells:=by
 cases d with
 |agg cs=>exact AdQ h
 |_=>exact h
def LJ:List D→Nat→(D→Prop)→Prop
 | [],_,_=>False
 |d::_,0,K=>K d
 |_::l,n+1,K=>LJ l n K
theorem Nq:∀{l:List D} {n:Nat} {K:D→Prop},LJ l n K→∃d,l[n]? = some d∧K d
 | [],_,_,h=>h.elim
 |d::_,0,_,h=>⟨d,rfl,h⟩
 |_::l,n+1,K,h=>by
  obtain ⟨d,h1,h2⟩:=Nq (l:=l) (n:=n) h
  exact ⟨d,by simpa using h1,h2⟩
def Je:Nat→List D→(List D→Prop)→Prop
 |0,_,K=>K []
 |_+1,[],_=>False
 |n+1,d::l,K=>Je n l fun l'=>K (d::l')
theorem Lu:∀{n:Nat} {l:List D} {K:List D→Prop},Je n l K→n≤l.length∧K (l.take n)
 |0,l,K,h=>⟨Nat.zero_le _,by have h':K []:=(by cases l<;>exact h);simpa using h'⟩
 |_+1,[],_,h=>h.elim
 |n+1,d::l,K,h=>by
  obtain ⟨h1,h2⟩:=Lu (n:=n) (l:=l) (K:=fun l'=>K (d::l')) h
  exact ⟨by simpa using h1,by simpa using h2⟩
def J6:Nat→List D→(List D→Prop)→Prop
 |0,l,K=>K l
 |_+1,[],_=>False
 |n+1,_::l,K=>J6 n l K
theorem KL:∀{n:Nat} {l:List D} {K:List D→Prop},J6 n l K→n≤l.length∧K (l.drop n)
 |0,l,K,h=>⟨Nat.zero_le _,by have h':K l:=(by cases l<;>exact h);simpa using h'⟩
 |_+1,[],_,h=>h.elim
 |n+1,d::l,K,h=>by
  obtain ⟨h1,h2⟩:=KL (n:=n) (l:=l) (K:=K) h
  exact ⟨by simpa using h1,by simpa using h2⟩
def Gt (sh:Bool×Nat)(cs:List D)(off:Nat)(K:D→Prop):Prop:=match sh.1 with
 |true=>J6 off cs fun l=>Je sh.2 l fun l'=>K (.agg l')
 |false=>LJ cs off K
theorem G9 {sh:Bool×Nat}{cs:List D}{off:Nat}{K:D→Prop}(h:Gt sh cs off K):∃d,Eo sh cs off=some d∧K d:=by
 obtain ⟨ag,n⟩:=sh
 cases ag with
 |true=>
  obtain ⟨h1,h2⟩:=KL (l:=cs) (K:=fun l=>Je n l fun l'=>K (.agg l')) h
  obtain ⟨h3,h4⟩:=Lu (K:=fun l'=>K (.agg l')) h2
  rw [List.length_drop] at h3
  exact ⟨_,by simp only [Eo,if_true];rw [if_pos (by omega)],h4⟩
 |false=>exact Nq h
def Gw:List D→Nat→List D→(List D→Prop)→Prop
 |l,0,[],K=>K l
 |_::l,0,r::rs,K=>Gw l 0 rs fun l'=>K (r::l')
 |d::l,n+1,rs,K=>Gw l n rs fun l'=>K (d::l')
 |_,_,_,_=>False
theorem GZ:∀{l:List D} {n:Nat} {rs:List D} {K:List D→Prop},Gw l n rs K→n+rs.length≤l.length∧K (patch l n rs)
 |l,0,[],K,h=>by
  have h':K l:=by cases l<;>exact h
  exact ⟨by simp,by simpa [patch] using h'⟩
 |d::l,0,r::rs,K,h=>by
  obtain ⟨h1,h2⟩:=GZ (l:=l) (n:=0) (rs:=rs) (K:=fun l'=>K (r::l')) h
  refine ⟨by simp at h1 ⊢;omega,?_⟩
  simpa [patch] using h2
 |d::l,n+1,rs,K,h=>by
  have h':Gw l n rs fun l'=>K (d::l'):=by cases rs<;>exact h
  obtain ⟨h1,h2⟩:=GZ h'
  refine ⟨by simp at h1 ⊢;omega,?_⟩
  have e:n+1+rs.length=(n+rs.length)+1:=by omega
  simpa [patch,e] using h2
 | [],0,_::_,_,h=>h.elim
 | [],_+1,[],_,h=>h.elim
 | [],_+1,_::_,_,h=>h.elim
inductive TyI where
 |one (z:List D)
 |str
 |agg (ps:List (Nat×Nat)) (z:List D)
 |slice (e sz bytes:Nat)
 |arr (n e sz:Nat) (z:List D)
 |arrB (n e sz:Nat)
inductive TT where
 |leaf
 |node (v:Option TyI) (l r:TT)
def TT.get:TT→Nat→Option TyI
 | .leaf,_=>none
 | .node v l r,n=>match Nat.beq n 0 with
  |true=>v
  |false=>match Nat.beq (Nat.mod n 2) 1 with
   |true=>l.get (Nat.div n 2)
   |false=>r.get (Nat.sub (Nat.div n 2) 1)
end Go.Vm
end
section
namespace Go.Vm
open Go.RowKit
def placesOf (P:Program)(t:TypeId):Option (List (Nat×Nat)):=match P.underlying t with
 |some (.struct fields)=>fields.toList.mapM (fun f=>(P.info? f.type).map fun i=>(f.offset,i.size))
 |_=>none
def Be (P:Program)(t:TypeId):TyI→Prop
 | .one z=>Bl P t=some (false,1)∧zeroOf P t=some z
 | .str=>Bl P t=some (false,1)∧P.underlying t=some .string∧zeroOf P t=some [.sc (.string ⟨#[]⟩)]
 | .agg ps z=>Bl P t=some (true,z.length)∧placesOf P t=some ps∧zeroOf P t=some z
 | .slice e sz bytes=>Bl P t=some (false,1)∧CU P t=some (e,sz,bytes)∧(zeroOf P e).isSome=true∧zeroOf P t=some [.row []]
 | .arr n e sz z=>Bl P t=some (true,n*sz)∧Fz P t=some (n,sz)∧zeroOf P t=some z
 | .arrB n e sz=>Bl P t=some (true,n*sz)∧Fz P t=some (n,sz)
def FX (P:Program)(tt:TT):Prop:=∀t i,tt.get t=some i→Be P t i
def TT.all (p:Nat→TyI→Prop):TT→Prop
 | .leaf=>True
 | .node v l r=>(∀i,v=some i→p 0 i)∧l.all (fun m i=>p (2*m+1) i)∧r.all (fun m i=>p (2*m+2) i)
theorem TT.mk {p:Nat→TyI→Prop}{v:Option TyI}{l r:TT}(h0:∀i,v=some i→p 0 i)(h1:l.all fun m i=>p (2*m+1) i)(h2:r.all fun m i=>p (2*m+2) i):(TT.node v l r).all p:=⟨h0,h1,h2⟩
theorem TT.UX:∀{tt:TT} {p:Nat→TyI→Prop},tt.all p→∀n i,tt.get n=some i→p n i
 | .leaf,_,_,n,i,h=>by simp [TT.get] at h
 | .node v l r,p,⟨h0,h1,h2⟩,n,i,h=>by
  have E9:∀m k:Nat,Nat.beq m k=decide (m=k):=fun m k=>by
   rw [Bool.eq_iff_iff];simp [Nat.beq_eq]
  simp only [TT.get,E9] at h
  by_cases hn:n=0
  ·subst hn;exact h0 i (by simpa using h)
  ·simp only [hn,decide_false] at h
   have e1:Nat.mod n 2=n % 2:=rfl
   have e2:Nat.div n 2=n / 2:=rfl
   by_cases hp:n % 2=1
   ·simp only [e1,hp,decide_true,e2] at h
    have:=TT.UX h1 (n / 2) i h
    simpa [show 2*(n / 2)+1=n by omega] using this
   ·simp only [e1,hp,decide_false] at h
    have:=TT.UX h2 (n / 2-1) i h
    simpa [show 2*(n / 2-1)+2=n by omega] using this
def shI:TyI→Bool×Nat
 | .one _=>(false,1)
 | .str=>(false,1)
 | .agg _ z=>(true,z.length)
 | .slice .. => (false,1)
 | .arr n _ sz _=>(true,n*sz)
 | .arrB n _ sz=>(true,n*sz)
def zI:TyI→Option (List D)
 | .one z=>some z
 | .str=>some [.sc (.string ⟨#[]⟩)]
 | .agg _ z=>some z
 | .slice .. => some [.row []]
 | .arr _ _ _ z=>some z
 | .arrB .. => none
theorem Hy {P:Program}{t:TypeId}{i:TyI}(h:Be P t i):Bl P t=some (shI i):=by
 cases i<;>exact h.1
theorem U3 {P:Program}{t:TypeId}{i:TyI}{z:List D}(h:Be P t i)(hz:zI i=some z):zeroOf P t=some z:=by
 cases i<;>simp only [zI,Option.some.injEq] at hz<;>first|(subst hz;first|exact h.2|exact h.2.2|exact h.2.2.2)|cases hz
theorem mapM_at {α β:Type}{f:α→Option β}:∀{l:List α} {r:List β} {k:Nat} {b:β},l.mapM f=some r→r[k]? = some b→∃a,l[k]? = some a∧f a=some b
 | [],r,k,b,h,hb=>by simp at h;subst h;simp at hb
 |x::l,r,k,b,h,hb=>by
  simp only [List.mapM_cons,Option.bind_eq_bind,Option.pure_def,Option.bind_eq_some_iff,Option.some.injEq] at h
  obtain ⟨y,hy,r',hr,rfl⟩:=h
  cases k with
  |zero=>simp at hb;subst hb;exact ⟨x,rfl,hy⟩
  |succ k=>
   obtain ⟨a,h1,h2⟩:=mapM_at hr (by simpa using hb)
   exact ⟨a,by simpa using h1,h2⟩
theorem Af1 {P:Program}{t:TypeId}{ps:List (Nat×Nat)}{f off sz:Nat}(h:placesOf P t=some ps)(hf:ps[f]? = some (off,sz))(h0:sz≠0):Ez P t f=some off:=by
 unfold placesOf at h
 split at h
 ·rename_i fields hu
  obtain ⟨g,h1,h2⟩:=mapM_at h hf
  obtain ⟨i,h3,h4⟩:=Option.map_eq_some_iff.1 h2
  simp only [Prod.mk.injEq] at h4
  unfold Ez
  rw [hu]
  simp only
  have:fields[f]? = some g:=by simpa using h1
  rw [this]
  simp only
  rw [if_neg (by unfold Program.cellsOf;rw [h3];simpa [h4.2] using h0),h4.1]
 ·cases h
theorem AvT {P:Program}{t:TypeId}{ps:List (Nat×Nat)}{z:List D}(h:placesOf P t=some ps)(hz:zeroOf P t=some z)(parts:List (Nat×D)):Qr P t parts=GG (ps.toArray[·]?) z parts:=by
 unfold placesOf at h
 split at h
 ·rename_i fields hu
  obtain ⟨i,zz,h1,h2,h3⟩:=Qn hz
  unfold Qr
  rw [h1,hu]
  simp only
  rw [h2,h]
  simp only
  rw [h3]
 ·cases h
def ovK (t:Tr)(x:Operand)(K:S→Prop):Prop:=match x with
 | .tmp u=>match Nat.ble 1000000 u with
  |true=>False
  |false=>sK (DK u (t.get u)) K
 | .const v=>sK (Og v) K
 | .func f=>K (.c (.d (.fn f [])))
 | .global _=>K .junk
theorem Iw {u:Nat}(h:Nat.ble 1000000 u=false):u<NAM:=by
 rcases Nat.lt_or_ge u 1000000 with h1|h1
 ·exact h1
 ·rw [Nat.ble_eq_true_of_le h1] at h;cases h
theorem Bj {t:Tr}{h:Hp}{x:Operand}{K:S→Prop}(hk:ovK t x K):K (Ap (Af t h) x):=by
 cases x with
 |tmp u=>
  simp only [ovK] at hk
  split at hk
  ·exact hk.elim
  ·rename_i hb
   show K (DK u (Af t h u))
   rw [CE (Iw hb)]
   exact Ll hk
 |const v=>exact Ll hk
 |global g=>exact hk
 |func f=>exact hk
def dK (t:Tr)(x:Operand)(K:D→Prop):Prop:=ovK t x fun s=>match s with
 | .c (.d x)=>K x
 | .c (.own _ _ xs)=>K (.row xs)
 | .c .nil=>K (.row [])
 |_=>False
theorem GU {t:Tr}{h:Hp}{x:Operand}{K:D→Prop}(hk:dK t x K):∃d,vd (Af t h) x=some d∧K d:=by
 have:=Bj (h:=h) hk
 unfold vd
 cases hs:Ap (Af t h) x with
 |c c=>
  rw [hs] at this
  cases c with
  |d x=>exact ⟨_,rfl,this⟩
  |own τ e xs=>exact ⟨_,rfl,this⟩
  |nil=>exact ⟨_,rfl,this⟩
 |_=>rw [hs] at this;exact this.elim
def vK (t:Tr)(x:Operand)(K:Value→Prop):Prop:=dK t x fun d=>match d with
 | .sc v=>K v
 |_=>False
theorem IJ {t:Tr}{h:Hp}{x:Operand}{K:Value→Prop}(hk:vK t x K):∃v,vd (Af t h) x=some (.sc v)∧vc1 (Af t h) x=some v∧K v:=by
 obtain ⟨d,h1,h2⟩:=GU (h:=h) hk
 cases d with
 |sc v=>exact ⟨v,h1,by unfold vc1;rw [h1];rfl,h2⟩
 |_=>exact h2.elim
def PE (t:Tr):List Operand→(List D→Prop)→Prop
 | [],K=>K []
 |x::l,K=>dK t x fun d=>PE t l fun ds=>K (d::ds)
theorem QP {t:Tr}{h:Hp}:∀{l:List Operand} {K:List D→Prop},PE t l K→∃ds,Ia (Af t h) l=some ds∧K ds
 | [],K,hk=>⟨[],rfl,hk⟩
 |x::l,K,hk=>by
  obtain ⟨d,h1,h2⟩:=GU (h:=h) hk
  obtain ⟨ds,h3,h4⟩:=QP (h:=h) (l:=l) (K:=fun ds=>K (d::ds)) h2
  exact ⟨d::ds,by simp [Ia,h1,h3],h4⟩
def JL:IntKind→IntKind→Bool
 | .i64,.i64=>true
 | .u8,.u8=>true
 | .i32,.i32=>true
 | .u32,.u32=>true
 | .u64,.u64=>true
 |_,_=>false
theorem KY {a b:IntKind}(h:JL a b=true):a=b:=by
 cases a<;>cases b<;>first|rfl|cases h
def Nr (P:Program)(op:BinOp)(T:TypeId)(x y:Operand)(u v:Value)(K:Value→Prop):Prop:=match op,u,v with
 | .lss,.int k a,.int k' b=>match JL k k' with
  |true=>K (.bool (decide (a<b)))
  |false=>False
 | .leq,.int k a,.int k' b=>match JL k k' with
  |true=>K (.bool (decide (a≤b)))
  |false=>False
 | .gtr,.int k a,.int k' b=>match JL k k' with
  |true=>K (.bool (decide (b<a)))
  |false=>False
 | .geq,.int k a,.int k' b=>match JL k k' with
  |true=>K (.bool (decide (b≤a)))
  |false=>False
 | .eql,.int k a,.int k' b=>match JL k k' with
  |true=>K (.bool (decide (a=b)))
  |false=>False
 | .neq,.int k a,.int k' b=>match JL k k' with
  |true=>K (.bool (!decide (a=b)))
  |false=>False
 | .eql,.string a,.string b=>K (.bool (decide (a=b)))
 | .neq,.string a,.string b=>K (.bool (!decide (a=b)))
 | .lss,.string a,.string b=>K (.bool (Op.bytesLess a.toList b.toList))
 | .add,.string a,.string b=>a.size+b.size≤9223372036854775807∧K (.string (a++b))
 |op,u,v=>∃r,AY P (do eqGuard op T x y u v;binOp op T u v:Sem Value)=some r∧BN r=true∧K r
theorem Wq {P:Program}{op:BinOp}{T:TypeId}{x y:Operand}{u v:Value}{K:Value→Prop}(h:Nr P op T x y u v K):∃r,AY P (do eqGuard op T x y u v;binOp op T u v:Sem Value)=some r∧BN r=true∧K r:=by
 unfold Nr at h
 split at h
 ·split at h
  ·rename_i hs;cases KY hs;exact ⟨_,AcP,rfl,h⟩
  ·exact h.elim
 ·split at h
  ·rename_i hs;cases KY hs;exact ⟨_,Aa7,rfl,h⟩
  ·exact h.elim
 ·split at h
  ·rename_i hs;cases KY hs;exact ⟨_,Aac,rfl,h⟩
  ·exact h.elim
 ·split at h
  ·rename_i hs;cases KY hs;exact ⟨_,AcF,rfl,h⟩
  ·exact h.elim
 ·split at h
  ·rename_i hs;cases KY hs;exact ⟨_,AbX,rfl,h⟩
  ·exact h.elim
 ·split at h
  ·rename_i hs;cases KY hs;exact ⟨_,Ac9,rfl,h⟩
  ·exact h.elim
 ·exact ⟨_,AdY,rfl,h⟩
 ·exact ⟨_,Aag,rfl,h⟩
 ·exact ⟨_,AsX,rfl,h⟩
 ·exact ⟨_,Zv h.1,rfl,h.2⟩
 ·exact h
def Qv (d:Nat):List C→(List C→Prop)→Prop
 | [],K=>K []
 | .d x::l,K=>Qv d l fun l'=>K (.d x::l')
 | .own _ e xs::l,K=>Qv d l fun l'=>K (.own d e xs::l')
 | .nil::l,K=>Qv d l fun l'=>K (.nil::l')
theorem Tv {d:Nat}:∀{l:List C} {K:List C→Prop},Qv d l K→K (l.map (Ew d))
 | [],_,h=>h
 | .d x::l,K,h=>Tv (l:=l) (K:=fun l'=>K (.d x::l')) h
 | .own _ e xs::l,K,h=>Tv (l:=l) (K:=fun l'=>K (.own d e xs::l')) h
 | .nil::l,K,h=>Tv (l:=l) (K:=fun l'=>K (.nil::l')) h
def OX (d:Nat)(res:List C)(K:S→Prop):Prop:=Qv d res fun l=>match l with
 | [c]=>K (.c c)
 |l=>K (.tup l)
theorem P8 {d:Nat}{res:List C}{K:S→Prop}(h:OX d res K):K (EN (res.map (Ew d))):=by
 have:=Tv h
 cases hl:res.map (Ew d) with
 |nil=>rw [hl] at this;exact this
 |cons c l=>
  rw [hl] at this
  cases l with
  |nil=>exact this
  |cons c' l=>exact this
def Qo (t:Tr)(ps:List (Nat×Nat)):List (Nat×Operand)→List D→(List D→Prop)→Prop
 | [],acc,K=>K acc
 | (i,x)::l,acc,K=>match ps[i]? with
  |some (off,sz)=>dK t x fun d=>I7 d fun cs=>match Nat.beq cs.length sz with
   |true=>Gw acc off cs fun acc'=>Qo t ps l acc' K
   |false=>False
  |none=>False
theorem Yq {t:Tr}{h:Hp}{ps:List (Nat×Nat)}:∀{l:List (Nat×Operand)} {acc:List D} {K:List D→Prop},Qo t ps l acc K→∃ds cs,Eu (Af t h) l=some ds∧GG (ps.toArray[·]?) acc ds=some cs∧K cs
 | [],acc,K,hk=>⟨[],acc,rfl,rfl,hk⟩
 | (i,x)::l,acc,K,hk=>by
  simp only [Qo] at hk
  split at hk
  ·rename_i off sz hp
   obtain ⟨d,h1,h2⟩:=GU (h:=h) hk
   have h3:=Ky h2
   split at h3
   ·rename_i hl
    have hl:=Nat.eq_of_beq_eq_true hl
    obtain ⟨h4,h5⟩:=GZ h3
    obtain ⟨ds,cs,h6,h7,h8⟩:=Yq (h:=h) h5
    refine ⟨(i,d)::ds,cs,by simp [Eu,h1,h6],?_,h8⟩
    unfold GG
    simp only [List.getElem?_toArray,hp]
    rw [if_pos ⟨hl,h4⟩]
    simpa using h7
   ·exact h3.elim
  ·exact hk.elim
def SN (t:Tr)(sz:Nat):Nat→List (Nat×Operand)→(List D→Prop)→Prop
 |_,[],K=>K []
 |k,(i,x)::l,K=>match Nat.beq i k with
  |true=>dK t x fun d=>I7 d fun cs=>match Nat.beq cs.length sz with
   |true=>SN t sz (Nat.succ k) l fun xs=>K (d::xs)
   |false=>False
  |false=>False
theorem Abu {t:Tr}{h:Hp}{sz:Nat}:∀{k:Nat} {l:List (Nat×Operand)} {K:List D→Prop},SN t sz k l K→∃xs,Eu (Af t h) l=some (JD k xs)∧xs.length=l.length∧(∀x∈xs,x.cells.length=sz)∧K xs
 |k,[],K,hk=>⟨[],rfl,rfl,by simp,hk⟩
 |k,(i,x)::l,K,hk=>by
  simp only [SN] at hk
  split at hk
  ·rename_i hi
   have hi:=Nat.eq_of_beq_eq_true hi
   subst hi
   obtain ⟨d,h1,h2⟩:=GU (h:=h) hk
   have h3:=Ky h2
   split at h3
   ·rename_i hl
    have hl:=Nat.eq_of_beq_eq_true hl
    obtain ⟨xs,h4,h5,h6,h7⟩:=Abu (h:=h) h3
    refine ⟨d::xs,by simp [Eu,h1,h4,JD],by simp [h5],?_,h7⟩
    intro y hy
    rcases List.mem_cons.1 hy with rfl|hy
    ·exact hl
    ·exact h6 y hy
   ·exact h3.elim
  ·exact hk.elim
theorem UM:∀(k:Nat) (xs:List D),(JD k xs).map (·.2)=xs
 |_,[]=>rfl
 |k,x::xs=>by simp [JD,UM]
theorem Adl:∀(k:Nat) (xs:List D),(JD k xs).length=xs.length
 |_,[]=>rfl
 |k,x::xs=>by simp [JD,Adl]
def FY (t:Tr)(x:Option Operand)(dflt:Nat)(K:Nat→Prop):Prop:=match x with
 |none=>K dflt
 |some x=>vK t x fun v=>match v with
  | .int _ i=>∃n:Nat,i=(n:Int)∧K n
  |_=>False
theorem Gm {t:Tr}{h:Hp}{x:Option Operand}{dflt:Nat}{K:Nat→Prop}(hk:FY t x dflt K):∃n,bnd (Af t h) x dflt=some n∧K n:=by
 cases x with
 |none=>exact ⟨dflt,rfl,hk⟩
 |some x=>
  obtain ⟨v,h1,h2,h3⟩:=IJ (h:=h) hk
  cases v with
  |int k i=>
   obtain ⟨n,rfl,h4⟩:=h3
   refine ⟨n,?_,h4⟩
   simp [bnd,h1]
  |_=>exact h3.elim
end Go.Vm
end
section
namespace Go.Vm
open Go.RowKit
def AdZ (P:Program)(T:TypeId)(f:Nat)(off:Nat)(sh:Bool×Nat):Prop:=∃fs g,P.underlying T=some (.struct fs)∧fs[f]? = some g∧Bl P g.type=some sh∧g.offset=off
theorem AeB {P:Program}{N:Nat}{env:Env}{o:Oper}{T:TypeId}{x:Operand}{f off:Nat}{cs:List D}{sh:Bool×Nat}{r:D}(hop:o.op=.field T x f)(hx:vd env x=some (.agg cs))(hf:AdZ P T f off sh)(hp:Eo sh cs off=some r){d:Nat}(hdst:o.dst=some d)(hd:d<N):Cf P N o env (.c (.d r)):=by
 refine DF hdst hd fun env' he base w0 ro0 ro blk a w hsim=>?_
 have h1:=hsim.getD (x:=x) (by rw [he.getD (by simp [hop,Op.operands])];exact hx)
 obtain ⟨fs,g,hu,hg,hsh,rfl⟩:=hf
 obtain ⟨ag,n⟩:=sh
 obtain ⟨i,dd,k1,k2,k3,k4⟩:=GL hsh
 have hagg:=Lm (w:=w) k2
 rw [k3] at hagg
 generalize hv:a.eval x=v at h1
 cases h1 with
 |agg hl h1 h=>
  rename_i arr
  cases ag with
  |true=>
   simp only [Eo,if_true] at hp
   split at hp
   ·rename_i hle
    injection hp with hp;subst hp
    have hr:AX ro w arr.toList cs:=⟨by simpa using hl,h1,h⟩
    have hk:=(hr.drop g.offset).take n
    refine ⟨.agg (arr.extract g.offset (g.offset+n)),w,ro,?_,Grow.refl hsim.new,.agg (by simp;omega) ?_ ?_⟩
    ·simp [execOp,hop,hv,Instr.field,run_underlying hu,hg,asAgg,part,Sem.run_bind,hagg,sizeOf,typeInfo,k1,k4]
    ·intro u hu
     exact h1 u (by
      have:u∈(arr.toList.drop g.offset).take n:=by simpa [Array.toList_extract,List.extract_eq_take_drop] using hu
      exact List.mem_of_mem_drop (List.mem_of_mem_take this))
    ·intro j u c hu hc
     refine hk.2.2 j u c ?_ hc
     simpa [Array.toList_extract,List.extract_eq_take_drop] using hu
   ·cases hp
  |false=>
   simp only [Eo,Bool.false_eq_true,if_false] at hp
   have hlt:=(List.getElem?_eq_some_iff.1 hp).1
   have hlt':g.offset<arr.size:=by omega
   have hu':arr[g.offset]? = some arr[g.offset]:=Array.getElem?_eq_getElem hlt'
   refine ⟨arr[g.offset],w,ro,?_,Grow.refl hsim.new,h g.offset _ _ (by simp [hlt']) hp⟩
   simp [execOp,hop,hv,Instr.field,run_underlying hu,hg,asAgg,part,Sem.run_bind,hagg,hu']
def Uh (sh:Bool×Nat)(cs:List D)(off:Nat)(K:S→Prop):Prop:=match sh.1 with
 |false=>LJ cs off fun d=>match d with
  | .rr a b c=>K (.sref a b c)
  | .sc v=>K (.c (.d (.sc v)))
  | .row xs=>K (.c (.d (.row xs)))
  |_=>False
 |true=>Gt sh cs off fun r=>match List.all (D.cells r) Kq with
  |true=>K (.c (.d r))
  |false=>False
theorem Arh {sh:Bool×Nat}{cs:List D}{off:Nat}{K:S→Prop}(h:Uh sh cs off K):(∃r,Eo sh cs off=some r∧(r.cells).all Kq=true∧K (.c (.d r)))∨∃a b c,sh.1=false∧cs[off]? = some (.rr a b c)∧K (.sref a b c):=by
 obtain ⟨ag,n⟩:=sh
 cases ag with
 |false=>
  simp only [Uh] at h
  obtain ⟨d,h1,h2⟩:=Nq h
  cases d with
  |rr a b c=>exact .inr ⟨a,b,c,rfl,h1,h2⟩
  |sc v=>exact .inl ⟨_,by simpa [Eo] using h1,rfl,h2⟩
  |row xs=>exact .inl ⟨_,by simpa [Eo] using h1,rfl,h2⟩
  |_=>exact h2.elim
 |true=>
  simp only [Uh] at h
  obtain ⟨r,h1,h2⟩:=G9 h
  split at h2
  ·rename_i hp;exact .inl ⟨r,h1,hp,h2⟩
  ·exact h2.elim
def yK (P:Program)(tt:TT)(N d:Nat)(o:Oper)(t:Tr)(h:Hp)(K:S→Prop):Prop:=match o.op with
 | .move x=>ovK t x K
 | .assign x=>ovK t x K
 | .pick x y z=>vK t x fun v=>match v with
  | .bool true=>ovK t y K
  | .bool false=>ovK t z K
  |_=>False
 | .binOp op T x y T'=>dK t x fun du=>dK t y fun dv=>match du,dv with
  | .sc u,.sc v=>Nr P op T x y u v fun r=>K (.c (.d (.sc r)))
  | .ptr _ _,dv=>match op,y with
   | .eql,.const (.pointer none)=>(∃e,P.underlying T=some (.pointer e))∧K (.c (.d (.sc (.bool false))))
   | .neq,.const (.pointer none)=>(∃e,P.underlying T=some (.pointer e))∧K (.c (.d (.sc (.bool true))))
   |_,_=>False
  | .mp _,dv=>match op,y with
   | .eql,.const (.map none)=>(∃k e,P.underlying T=some (.map k e))∧K (.c (.d (.sc (.bool false))))
   | .neq,.const (.map none)=>(∃k e,P.underlying T=some (.map k e))∧K (.c (.d (.sc (.bool true))))
   |_,_=>False
  |du,dv=>∃u v r,(Ai du=some u∧Ai dv=some v)∧(∀w,(do eqGuard op T x y u v;binOp op T u v:Sem Value).run P w=.ok r w)∧BN r=true∧K (.c (.d (.sc r)))
 | .unOp op T x=>vK t x fun u=>match op,u with
  | .not,.bool b=>K (.c (.d (.sc (.bool (!b)))))
  |op,u=>∃r,AY P (Op.unary op u)=some r∧BN r=true∧K (.c (.d (.sc r)))
 | .convert T T' x=>vK t x fun u=>∃r,AY P (convert T T' u)=some r∧BN r=true∧K (.c (.d (.sc r)))
 | .load T x=>match tt.get T with
  |some i=>ovK t x fun s=>match s with
   | .ref u off=>match t.get u with
    | .box cs=>match Nat.ble 1000000 u with
     |true=>False
     |false=>Gt (shI i) cs off fun r=>K (.c (.d r))
    | .ubox cs=>match Nat.ble 1000000 u with
     |true=>False
     |false=>Uh (shI i) cs off K
    |_=>False
   | .at_ cs off=>Gt (shI i) cs off fun r=>K (.c (.d r))
   | .c (.d (.ptr id off))=>∃cs,(NAM≤id∧h id=.obj cs)∧Gt (shI i) cs off fun r=>K (.c (.d r))
   |_=>False
  |none=>False
 | .fieldAddr T x f=>match tt.get T with
  |some (.agg ps z)=>match ps[f]? with
   |some (k,sz)=>match Nat.beq sz 0 with
    |true=>False
    |false=>ovK t x fun s=>match s with
     | .ref u off=>K (.ref u (off+k))
     | .at_ cs off=>K (.at_ cs (off+k))
     | .c (.d (.ptr id off))=>K (.c (.d (.ptr id (off+k))))
     |_=>False
   |none=>False
  |_=>False
 | .indexAddr T x ix=>match tt.get T with
  |some (.slice e sz bytes)=>dK t x fun dx=>match dx with
   | .row xs=>vK t ix fun v=>match v with
    | .int _ i=>∃(j:Nat) (y:D),i=(j:Int)∧xs[j]? = some y∧I7 y fun cs=>match Nat.beq cs.length sz with
     |true=>K (.at_ cs 0)
     |false=>False
    |_=>False
   |_=>False
  |_=>False
 | .index T x ix=>match tt.get T with
  |some .str=>vK t x fun u=>match u with
   | .string s=>vK t ix fun v=>match v with
    | .int _ i=>∃(j:Nat) (b:UInt8),i=(j:Int)∧s[j]? = some b∧K (.c (.d (.sc (.int .u8 b.toNat))))
    |_=>False
   |_=>False
  |_=>False
 | .extract x i=>ovK t x fun s=>match s with
  | .tup cs=>match cs[i]? with
   |some c=>sK (.c c) K
   |none=>False
  |_=>False
 | .build T parts=>match tt.get T with
  |some (.agg ps z)=>Qo t ps parts.toList z fun cs=>K (.c (.d (.agg cs)))
  |_=>False
 | .buildSlice T len parts=>match tt.get T with
  |some (.slice e sz bytes)=>match Nat.beq parts.toList.length len,Nat.ble (Nat.mul len sz) 16777216 with
   |true,true=>SN t sz 0 parts.toList fun xs=>K (.c (.own d e xs))
   |_,_=>False
  |_=>False
 | .makeSlice T l c=>match tt.get T with
  |some (.slice e sz bytes)=>vK t l fun u=>match u with
   | .int _ 0=>vK t c fun v=>match v with
    | .int _ i=>∃n:Nat,i=(n:Int)∧(bytes*n≤281474976710656∧n≤maxLen)∧K (.c (.own d e []))
    |_=>False
   |_=>False
  |_=>False
 | .slice T x lo hi none=>match tt.get T with
  |some (.slice e sz bytes)=>dK t x fun dx=>match dx with
   | .row xs=>FY t lo 0 fun l=>FY t hi xs.length fun hh=>(∀x∈xs,x.cells.length=sz)∧l≤hh∧hh≤xs.length∧∃ys,(xs.take hh).drop l=ys∧K (.c (.d (.row ys)))
   |_=>False
  |some .str=>vK t x fun u=>match u with
   | .string s=>FY t lo 0 fun l=>FY t hi s.size fun hh=>l≤hh∧hh≤s.size∧∃s',s.extract l hh=s'∧K (.c (.d (.sc (.string s'))))
   |_=>False
  |_=>False
 | .call c=>match c.callee with
  | .builtin .len=>match c.args.toList,c.argTypes.toList with
   | [x],[T]=>match tt.get T with
    |some (.slice e sz bytes)=>dK t x fun dx=>match dx with
     | .row xs=>∃n:Nat,xs.length=n∧K (.c (.d (.sc (.int .i64 n))))
     |_=>False
    |some .str=>vK t x fun u=>match u with
     | .string s=>∃n:Nat,s.size=n∧K (.c (.d (.sc (.int .i64 n))))
     |_=>False
    |_=>False
   |_,_=>False
  | .value (.func f)=>PE t c.args.toList fun ds=>∃res,(enters P f=true∧AP P f ds res)∧OX d res K
  |_=>∃s,Cf P N o (Af t h) s∧sK s K
 | .nilCheck x=>ovK t x fun s=>match s with
  | .c (.d (.ptr id off))=>K (.c (.d (.ptr id off)))
  |_=>False
 | .field T x f=>dK t x fun d=>match d with
  | .agg cs=>∃off sh,AdZ P T f off sh∧Gt sh cs off fun r=>K (.c (.d r))
  |_=>False
 |_=>False
theorem VR {P:Program}{tt:TT}(htt:FX P tt){N d:Nat}{o:Oper}{t:Tr}{h:Hp}{K:S→Prop}(hdst:o.dst=some d)(hd:d<N)(hk:yK P tt N d o t h K):∃s,Cf P N o (Af t h) s∧K s:=by
 unfold yK at hk
 split at hk
 ·rename_i x hop;exact ⟨_,Aoz hop rfl hdst hd,Bj (h:=h) hk⟩
 ·rename_i x hop;exact ⟨_,AuN hop rfl hdst hd,Bj (h:=h) hk⟩
 ·rename_i x y z hop
  obtain ⟨v,h1,_,h2⟩:=IJ (h:=h) hk
  split at h2
  ·exact ⟨_,Acl hop h1 rfl hdst hd,Bj (h:=h) h2⟩
  ·exact ⟨_,Acl hop h1 rfl hdst hd,Bj (h:=h) h2⟩
  ·exact h2.elim
 ·rename_i op T x y T' hop
  obtain ⟨du,h1,h2⟩:=GU (h:=h) hk
  obtain ⟨dv,h3,h4⟩:=GU (h:=h) h2
  split at h4
  ·obtain ⟨r,h5,h6,h7⟩:=Wq h4
   exact ⟨_,Awa hop (by unfold vc1;rw [h1];rfl) (by unfold vc1;rw [h3];rfl) h5 h6 hdst hd,h7⟩
  ·split at h4
   ·obtain ⟨⟨e,h5⟩,h6⟩:=h4;exact ⟨_,Abr (neg:=false) hop h1 h5 hdst hd,h6⟩
   ·obtain ⟨⟨e,h5⟩,h6⟩:=h4;exact ⟨_,Abr (neg:=true) hop h1 h5 hdst hd,h6⟩
   ·exact h4.elim
  ·split at h4
   ·obtain ⟨⟨k,e,h5⟩,h6⟩:=h4;exact ⟨_,Abw (neg:=false) hop h1 h5 hdst hd,h6⟩
   ·obtain ⟨⟨k,e,h5⟩,h6⟩:=h4;exact ⟨_,Abw (neg:=true) hop h1 h5 hdst hd,h6⟩
   ·exact h4.elim
  ·obtain ⟨u,v,r,⟨h5,h6⟩,h7,h8,h9⟩:=h4
   exact ⟨_,Ae1 hop (by unfold vc1;rw [h1];exact h5) (by unfold vc1;rw [h3];exact h6) h7 h8 hdst hd,h9⟩
 ·rename_i op T x hop
  obtain ⟨u,_,h1,h2⟩:=IJ (h:=h) hk
  split at h2
  ·exact ⟨_,Aah hop h1 rfl rfl hdst hd,h2⟩
  ·obtain ⟨r,h5,h6,h7⟩:=h2
   exact ⟨_,Aah hop h1 h5 h6 hdst hd,h7⟩
 ·rename_i T T' x hop
  obtain ⟨u,_,h1,r,h5,h6,h7⟩:=IJ (h:=h) hk
  exact ⟨_,Avl hop h1 h5 h6 hdst hd,h7⟩
 ·rename_i T x hop
  split at hk
  ·rename_i i hi
   have hsh:=Hy (htt _ _ hi)
   have hk:=Bj (h:=h) hk
   split at hk
   ·rename_i u off hx
    split at hk
    ·rename_i cs hcs
     split at hk
     ·exact hk.elim
     ·rename_i hb
      obtain ⟨r,h1,h2⟩:=G9 hk
      exact ⟨_,VQ hop hx (by rw [CE (Iw hb)];exact hcs) hsh h1 hdst hd,h2⟩
    ·rename_i cs hcs
     split at hk
     ·exact hk.elim
     ·rename_i hb
      rcases Arh hk with ⟨r,h1,h2,h3⟩|⟨q1,q2,q3,h0,h1,h2⟩
      ·exact ⟨_,As8 hop hx (by rw [CE (Iw hb)];exact hcs) hsh h1 h2 hdst hd,h3⟩
      ·have hsh':Bl P T=some (false,(shI i).2):=by rw [hsh];cases hq:shI i;rw [hq] at h0;simp at h0;rw [h0]
       exact ⟨_,AoQ hop hx (by rw [CE (Iw hb)];exact hcs) hsh' h1 hdst hd,h2⟩
    ·exact hk.elim
   ·rename_i cs off hx
    obtain ⟨r,h1,h2⟩:=G9 hk
    exact ⟨_,Asq hop hx hsh h1 hdst hd,h2⟩
   ·rename_i id off hx
    obtain ⟨cs,⟨hb,hid⟩,hk⟩:=hk
    obtain ⟨r,h1,h2⟩:=G9 hk
    exact ⟨_,Ap6 hop (by unfold vd;rw [hx];rfl) (by rw [Lj hb,hid];rfl) (Yg hb) hsh h1 hdst hd,h2⟩
   ·exact hk.elim
  ·exact hk.elim
 ·rename_i T x f hop
  split at hk
  ·rename_i ps z hi
   split at hk
   ·rename_i k sz hps
    split at hk
    ·exact hk.elim
    ·rename_i h0
     have hf:=Af1 (htt _ _ hi).2.1 hps (fun e=>by rw [e] at h0;cases h0)
     have hk:=Bj (h:=h) hk
     split at hk
     ·rename_i u off hx;exact ⟨_,AhM hop hx hf hdst hd,hk⟩
     ·rename_i cs off hx;exact ⟨_,Aky hop hx hf hdst hd,hk⟩
     ·rename_i id off hx;exact ⟨_,Alj hop (by unfold vd;rw [hx];rfl) hf hdst hd,hk⟩
     ·exact hk.elim
   ·exact hk.elim
  ·exact hk.elim
 ·rename_i T x ix hop
  split at hk
  ·rename_i e sz bytes hi
   obtain ⟨dx,h1,h2⟩:=GU (h:=h) hk
   split at h2
   ·rename_i xs
    obtain ⟨v,h3,_,h4⟩:=IJ (h:=h) h2
    split at h4
    ·rename_i k i
     obtain ⟨j,y,rfl,h5,h6⟩:=h4
     have h7:=Ky h6
     split at h7
     ·rename_i hl
      have hl:=Nat.eq_of_beq_eq_true hl
      obtain ⟨ii,zz,q1,q2,q3,q4,q5,q6,q7,q8⟩:=Fv (htt _ _ hi).2.1
      exact ⟨_,Amf hop h1 h3 (by unfold DL;rw [q1];simp [q2,q4]) h5 hl hdst hd,h7⟩
     ·exact h7.elim
    ·exact h4.elim
   ·exact h2.elim
  ·exact hk.elim
 ·rename_i T x ix hop
  split at hk
  ·rename_i hi
   obtain ⟨u,h1,_,h2⟩:=IJ (h:=h) hk
   split at h2
   ·rename_i s
    obtain ⟨v,h3,_,h4⟩:=IJ (h:=h) h2
    split at h4
    ·rename_i k i
     obtain ⟨j,b,rfl,h5,h6⟩:=h4
     exact ⟨_,AoG hop h1 h3 (htt _ _ hi).2.1 h5 hdst hd,h6⟩
    ·exact h4.elim
   ·exact h2.elim
  ·exact hk.elim
 ·rename_i x i hop
  have hk:=Bj (h:=h) hk
  split at hk
  ·rename_i cs hx
   split at hk
   ·rename_i c hc;exact ⟨_,Ah4 hop hx hc hdst hd,Ll hk⟩
   ·exact hk.elim
  ·exact hk.elim
 ·rename_i T parts hop
  split at hk
  ·rename_i ps z hi
   obtain ⟨ds,cs,h1,h2,h3⟩:=Yq (h:=h) hk
   exact ⟨_,AeU hop h1 (by rw [AvT (htt _ _ hi).2.1 (htt _ _ hi).2.2];exact h2) hdst hd,h3⟩
  ·exact hk.elim
 ·rename_i T len parts hop
  split at hk
  ·rename_i e sz bytes hi
   split at hk
   ·rename_i hl hm
    have hl:=Nat.eq_of_beq_eq_true hl
    have hm:=Nat.le_of_ble_eq_true hm
    obtain ⟨xs,h1,h2,h3,h4⟩:=Abu (h:=h) hk
    have:=Am2 (d:=d) (N:=N) hop (htt _ _ hi).2.1 h1 (by rw [UM]) (by rw [Adl,h2,hl]) (by rw [UM];exact h3) (htt _ _ hi).2.2.1 hm hdst hd
    rw [UM] at this
    exact ⟨_,this,h4⟩
   ·exact hk.elim
  ·exact hk.elim
 ·rename_i T l c hop
  split at hk
  ·rename_i e sz bytes hi
   obtain ⟨u,h1,_,h2⟩:=IJ (h:=h) hk
   split at h2
   ·obtain ⟨v,h3,_,h4⟩:=IJ (h:=h) h2
    split at h4
    ·obtain ⟨n,rfl,h5,h6⟩:=h4
     exact ⟨_,Ajh hop (htt _ _ hi).2.1 h1 h3 h5.1 h5.2 hdst hd,h6⟩
    ·exact h4.elim
   ·exact h2.elim
  ·exact hk.elim
 ·rename_i T x lo hi hop
  split at hk
  ·rename_i e sz bytes hti
   obtain ⟨dx,h1,h2⟩:=GU (h:=h) hk
   split at h2
   ·rename_i xs
    obtain ⟨l,h3,h4⟩:=Gm (h:=h) h2
    obtain ⟨hh,h5,h6,h7,h8,ys,rfl,h9⟩:=Gm (h:=h) h4
    obtain ⟨ii,zz,q1,q2,q3,q4,q5,q6,q7,q8⟩:=Fv (htt _ _ hti).2.1
    exact ⟨_,Ak8 hop h1 (by unfold DL;rw [q1];simp [q2,q4]) h6 h3 h5 h7 h8 hdst hd,h9⟩
   ·exact h2.elim
  ·rename_i hti
   obtain ⟨u,h1,_,h2⟩:=IJ (h:=h) hk
   split at h2
   ·rename_i s
    obtain ⟨l,h3,h4⟩:=Gm (h:=h) h2
    obtain ⟨hh,h5,h7,h8,ys,rfl,h9⟩:=Gm (h:=h) h4
    exact ⟨_,Ap2 hop h1 (htt _ _ hti).2.1 h3 h5 h7 h8 hdst hd,h9⟩
   ·exact h2.elim
  ·exact hk.elim
 ·rename_i c hop
  split at hk
  ·rename_i hcal
   split at hk
   ·rename_i x T hx hT
    obtain ⟨callee,args,argTypes⟩:=c
    obtain rfl:args = #[x]:=Array.ext' (by simpa using hx)
    obtain rfl:argTypes = #[T]:=Array.ext' (by simpa using hT)
    simp only at hcal
    subst hcal
    split at hk
    ·rename_i e sz bytes hti
     obtain ⟨dx,h1,h2⟩:=GU (h:=h) hk
     split at h2
     ·obtain ⟨n,rfl,h3⟩:=h2
      obtain ⟨ii,zz,q1,q2,q3,q4,q5,q6,q7,q8⟩:=Fv (htt _ _ hti).2.1
      exact ⟨_,Aoy (ts:=#[]) (sz:=sz) hop h1 (by unfold DL;rw [q1];simp [q2,q4]) hdst hd,h3⟩
     ·exact h2.elim
    ·rename_i hti
     obtain ⟨u,h1,_,h2⟩:=IJ (h:=h) hk
     split at h2
     ·obtain ⟨n,rfl,h3⟩:=h2
      exact ⟨_,AfS hop h1 (htt _ _ hti).2.1 hdst hd,h3⟩
     ·exact h2.elim
    ·exact hk.elim
   ·exact hk.elim
  ·rename_i f hcal
   obtain ⟨callee,args,argTypes⟩:=c
   simp only at hcal
   subst hcal
   obtain ⟨ds,h1,res,⟨h2,h3⟩,h4⟩:=QP (h:=h) hk
   exact ⟨_,AhK hop h2 h1 h3 hdst hd,P8 h4⟩
  ·obtain ⟨s,h1,h2⟩:=hk
   exact ⟨s,h1,Ll h2⟩
 ·rename_i x hop
  have hk:=Bj (h:=h) hk
  split at hk
  ·rename_i id off hx
   exact ⟨_,AqV hop (by unfold vd;rw [hx];rfl) hdst hd,hk⟩
  ·exact hk.elim
 ·rename_i T x f hop
  obtain ⟨dx,h1,h2⟩:=GU (h:=h) hk
  split at h2
  ·obtain ⟨off,sh,hf,h3⟩:=h2
   obtain ⟨r,h4,h5⟩:=G9 h3
   exact ⟨_,AeB hop h1 hf h4 hdst hd,h5⟩
  ·exact h2.elim
 ·exact hk.elim
end Go.Vm
end
section
namespace Go.Vm
open Go.RowKit
def GX (n:Nat):List Nat→Bool
 | []=>false
 |m::l=>match Nat.beq n m with
  |true=>true
  |false=>GX n l
def hset (h:Hp)(n:Nat)(s:S):Hp:=fun u=>if u=n then s else h u
def PW (d:Nat)(s:S)(K:S→Prop):Prop:=match s with
 | .ref u off=>match Nat.beq u d with
  |true=>K .junk
  |false=>K (.ref u off)
 |s=>sK s K
theorem Vo {d:Nat}(s:S)(K:S→Prop)(h:PW d s K):K (JZ d s):=by
 cases s with
 |ref u off=>
  simp only [PW] at h
  show K (if u=d then .junk else .ref u off)
  split at h
  ·rename_i hb;rw [if_pos (Nat.eq_of_beq_eq_true hb)];exact h
  ·rename_i hb;rw [if_neg (fun e=>by rw [e,Nat.beq_refl] at hb;cases hb)];exact h
 |c x=>cases x<;>exact h
 |_=>exact h
def NM (τ:Nat):List C→(List C→Prop)→Prop
 | [],K=>K []
 | .d x::l,K=>NM τ l fun l'=>K (.d x::l')
 | .own τ' e xs::l,K=>match Nat.beq τ' τ with
  |true=>NM τ l fun l'=>K (.d (.row xs)::l')
  |false=>NM τ l fun l'=>K (.own τ' e xs::l')
 | .nil::l,K=>NM τ l fun l'=>K (.nil::l')
theorem Qq {τ:Nat}:∀{l:List C} {K:List C→Prop},NM τ l K→K (l.map (Hq τ))
 | [],_,h=>h
 | .d x::l,K,h=>Qq (l:=l) (K:=fun l'=>K (.d x::l')) h
 | .own τ' e xs::l,K,h=>by
  simp only [NM] at h
  simp only [List.map_cons,Hq]
  split at h
  ·rename_i hb;rw [if_pos (Nat.eq_of_beq_eq_true hb)];exact Qq (l:=l) (K:=fun l'=>K (_::l')) h
  ·rename_i hb;rw [if_neg (fun e=>by rw [e,Nat.beq_refl] at hb;cases hb)];exact Qq (l:=l) (K:=fun l'=>K (_::l')) h
 | .nil::l,K,h=>Qq (l:=l) (K:=fun l'=>K (.nil::l')) h
def Ug (τ:Nat)(s:S)(K:S→Prop):Prop:=match s with
 | .c (.own τ' e xs)=>match Nat.beq τ' τ with
  |true=>K (.c (.d (.row xs)))
  |false=>K (.c (.own τ' e xs))
 | .tup cs=>NM τ cs fun cs'=>K (.tup cs')
 |s=>sK s K
theorem AcH {τ:Nat}(s:S)(K:S→Prop)(h:Ug τ s K):K (EK τ s):=by
 cases s with
 |c x=>
  cases x with
  |own τ' e xs=>
   simp only [Ug] at h
   unfold EK Hq
   simp only
   split at h
   ·rename_i hb;rw [if_pos (Nat.eq_of_beq_eq_true hb)];exact h
   ·rename_i hb;rw [if_neg (fun e=>by rw [e,Nat.beq_refl] at hb;cases hb)];exact h
  |_=>exact h
 |tup cs=>exact Qq h
 |_=>exact h
theorem AcA {d:Nat}(s:S):JZ d (FP s)=FP s:=by cases s<;>rfl
theorem Al4 {d:Nat}(s:S):EK d (FP s)=FP s:=by cases s<;>rfl
theorem ZJ {t t1 t2:Tr}{h:Hp}{d:Nat}{cs:List D}(hd:d<NAM)(h1:∀u,t1.get u=JZ d (t.get u))(h2:∀u,t2.get u=if u=d then .box cs else t1.get u):Af t2 h=Gz (Af t h) d cs:=by
 funext u
 simp only [Af,Gz,h2,h1]
 by_cases e:u=d
 ·subst e;simp [hd]
 ·simp only [if_neg e]
  split
  ·rfl
  ·exact (AcA _).symm
theorem Q5 {t t1 t2:Tr}{h:Hp}{d τ:Nat}{s:S}(hd:d<NAM)(h1:∀u,t1.get u=EK τ (t.get u))(h2:∀u,t2.get u=if u=d then s else t1.get u):Af t2 h=upd (JK (Af t h) τ) (some d) s:=by
 funext u
 simp only [Af,JK,upd,h2,h1]
 by_cases e:u=d
 ·subst e;simp [hd]
 ·simp only [if_neg e]
  split
  ·rfl
  ·exact (Al4 _).symm
theorem Jz {u:Nat}(h:Nat.ble 500000 u=false):u<BIG:=by
 rcases Nat.lt_or_ge u 500000 with h1|h1
 ·exact h1
 ·rw [Nat.ble_eq_true_of_le h1] at h;cases h
def JH (tt:TT)(d:Nat)(c:Call)(t:Tr)(K:Tr→Prop):Prop:=match c.args.toList,c.argTypes.toList with
 | [x,y],[T,T']=>match Nat.beq T T',tt.get T with
  |true,some (.slice e sz bytes)=>ovK t x fun s=>dK t y fun dy=>match dy with
   | .row ys=>match s with
    | .c (.own τ e' xs)=>match Nat.beq e' e with
     |true=>((∀y∈ys,y.cells.length=sz)∧xs.length+ys.length≤maxLen∧(xs.length+ys.length)*bytes≤140737488355328)∧∃zs,xs++ys=zs∧Gl (Ug τ) t fun t=>AQ 20 t d (.c (.own τ e zs)) fun t=>K t
     |false=>False
    | .c .nil=>((∀y∈ys,y.cells.length=sz)∧ys.length≤maxLen∧ys.length*bytes≤140737488355328)∧AQ 20 t d (.c (.own d e ys)) fun t=>K t
    |_=>False
   |_=>False
  |false,some (.slice e sz bytes)=>match Nat.beq sz 1,tt.get T' with
   |true,some .str=>ovK t x fun s=>vK t y fun v=>match s,v with
    | .c (.own τ e' xs),.string y=>match Nat.beq e' e with
     |true=>(xs.length+y.size≤maxLen∧(xs.length+y.size)*bytes≤140737488355328)∧∃zs,xs++bytesD y=zs∧Gl (Ug τ) t fun t=>AQ 20 t d (.c (.own τ e zs)) fun t=>K t
     |false=>False
    |_,_=>False
   |_,_=>False
  |_,_=>False
 |_,_=>False
def AdT (x:Operand)(fb:List Nat):Bool:=match x with
 | .tmp u=>GX (Nat.add u 9000000) fb
 |_=>false
def XX (P:Program)(tt:TT)(N:Nat)(fb:List Nat)(o:Oper)(t:Tr)(h:Hp)(K:Tr→Hp→Prop):Prop:=match o.dst with
 |none=>match o.op with
  | .store T x y=>match AdT x fb with
   |true=>∃(id:Nat) (s:S),(NAM≤id∧Step P N o (Af t h) (upd (Af t h) (some id) (FP s)))∧K t (hset h id s)
   |false=>match tt.get T with
    |some i=>ovK t y fun sy=>match sy with
     | .sref q1 q2 q3=>match (shI i).1,Nat.beq (shI i).2 1 with
      |false,true=>ovK t x fun s=>match s with
       | .ref u off=>match Nat.ble 500000 u,t.get u with
        |false,.ubox cs=>Gw cs off [.rr q1 q2 q3] fun cs'=>AQ 20 t u (.ubox cs') fun t'=>K t' h
        |_,_=>False
       |_=>False
      |_,_=>False
     | .uagg rc=>match Nat.beq rc.length (shI i).2 with
      |true=>ovK t x fun s=>match s with
       | .ref u off=>match Nat.ble 500000 u,t.get u with
        |false,.ubox cs=>Gw cs off rc fun cs'=>AQ 20 t u (.ubox cs') fun t'=>K t' h
        |_,_=>False
       |_=>False
      |false=>False
     |_=>dK t y fun r=>I7 r fun rc=>match Nat.beq rc.length (shI i).2 with
      |true=>ovK t x fun s=>match s with
       | .ref u off=>match Nat.ble 500000 u,t.get u with
        |false,.box cs=>Gw cs off rc fun cs'=>AQ 20 t u (.box cs') fun t'=>K t' h
        |false,.ubox cs=>Gw cs off rc fun cs'=>AQ 20 t u (.ubox cs') fun t'=>K t' h
        |_,_=>False
       | .c (.d (.ptr id off))=>∃cs,(NAM≤id∧h id=.obj cs)∧Gw cs off rc fun cs'=>K t (hset h id (.obj cs'))
       | .gref id sz off=>∃xs zs,(Nat.ble 1000000 id=false∧t.get id=.gbox sz xs∧off+rc.length≤xs.length*sz∧xs≠[]∧flat zs=patch (flat xs) off rc∧zs.length=xs.length∧∀z∈zs,z.cells.length=sz)∧AQ 20 t id (.gbox sz zs) fun t'=>K t' h
       |_=>False
      |false=>False
    |none=>False
  |_=>∃(id:Nat) (s:S),(NAM≤id∧Step P N o (Af t h) (upd (Af t h) (some id) (FP s)))∧K t (hset h id s)
 |some d=>match Nat.ble N d with
  |true=>False
  |false=>match GX d fb with
   |true=>∃(s:S) (h':Hp),Step P N o (Af t h) (upd (Af t h') (some d) s)∧sK s fun s=>AQ 20 t d s fun t'=>K t' h'
   |false=>match GX (Nat.add d 2000) fb with
   |true=>FZ P N o (Af t h) fun e=>∃(t':Tr) (h':Hp),e=Af t' h'∧K t' h'
   |false=>match o.op with
    | .box T x=>dK t x fun r=>I7 r fun cs=>Gl (PW d) t fun t=>AQ 20 t d (.box cs) fun t=>K t h
    | .alloc T=>match tt.get T with
     |some i=>match zI i with
      |some z=>Gl (PW d) t fun t=>AQ 20 t d (.box z) fun t=>K t h
      |none=>False
     |none=>False
    | .call c=>match c.callee with
     | .builtin .append=>JH tt d c t fun t=>K t h
     |_=>yK P tt N d o t h fun s=>AQ 20 t d s fun t=>K t h
    |_=>yK P tt N d o t h fun s=>AQ 20 t d s fun t=>K t h
def gK (all:List Oper)(kn:List Nat)(o:Oper)(t:Tr)(K:Bool→List Nat→Tr→Prop):Prop:=match o.guard with
 |none=>K true kn t
 |some (j,want)=>match all[j]? with
  |some oj=>match oj.dst with
   |some u=>match Nat.ble 1000000 u,t.get u with
    |false,.c (.d (.sc (.bool b)))=>match GX u kn with
     |true=>match b,want with
      |true,true=>K true kn t
      |false,false=>K true kn t
      |true,false=>K false kn t
      |false,true=>K false kn t
     |false=>(b=true→AQ 20 t u (.c (.d (.sc (.bool true)))) fun t=>K want (u::kn) t)∧(b=false→AQ 20 t u (.c (.d (.sc (.bool false)))) fun t=>K (!want) (u::kn) t)
    |false,.tup _=>K false kn t
    |_,_=>False
   |none=>False
  |none=>False
abbrev XL:=List Nat→Tr→Hp→(Tr→Hp→Prop)→Prop
def Oa (P:Program)(tt:TT)(N:Nat)(fb:List Nat)(all:List Oper)(o:Oper)(rest:XL):XL:=fun kn t h K=>gK all kn o t fun run kn t=>match run with
 |false=>match o.dst with
  |some d=>match Nat.ble 1000000 d with
   |true=>False
   |false=>AQ 20 t d (.tup []) fun t=>rest kn t h K
  |none=>rest kn t h K
 |true=>match o.op with
  | .next (.tmp it) false=>match o.dst,Nat.ble 1000000 it,t.get it with
   |some d,false,.iter id n seen=>match Nat.ble N d,Nat.beq d it with
    |false,false=>∃es,(NAM≤id∧h id=.mapo es∧es.length=n)∧((∀i,i<n→i∈seen)→AQ 20 t d (.tup [.d (.sc (.bool false))]) fun t=>rest kn t h K) ∧
     (∀i p,es[i]? = some p→i ∉ seen→AQ 20 t it (.iter id n (seen ++ [i])) fun t=>AQ 20 t d (.tup [.d (.sc (.bool true)),.d p.1,.d p.2]) fun t=>rest kn t h K)
    |_,_=>False
   |_,_,_=>False
  |_=>XX P tt N fb o t h fun t h=>rest kn t h K
def NQ (P:Program)(tt:TT)(N:Nat)(fb:List Nat)(all:List Oper)(l:List Oper):XL:=@List.rec Oper (fun _=>XL) (fun _ t h K=>K t h) (fun o _ ih=>Oa P tt N fb all o ih) l
section
variable {P:Program} {tt:TT} {N:Nat} {fb:List Nat} {o:Oper} {t:Tr} {h:Hp} {K:Tr→Hp→Prop}
theorem Sl {d:Nat}(h:Nat.ble N d=false):d<N:=by
 rcases Nat.lt_or_ge d N with h1|h1
 ·exact h1
 ·rw [Nat.ble_eq_true_of_le h1] at h;cases h
theorem Adn (htt:FX P tt)(hNB:N≤BIG){d:Nat}(hdst:o.dst=some d)(hd:d<N)(hk:yK P tt N d o t h fun s=>AQ 20 t d s fun t=>K t h):∃t' h',Step P N o (Af t h) (Af t' h')∧K t' h':=by
 obtain ⟨s,h1,h2⟩:=VR htt hdst hd hk
 obtain ⟨t',h3,h4⟩:=Bh h2
 refine ⟨t',h,?_,h4⟩
 rw [Ed (nam (Nat.lt_of_lt_of_le hd hNB)) h3]
 have:=h1.step
 rwa [hdst] at this
def OO (env env':Env):Prop:=∀t,(∀d off,env' t=.ref d off→env t=.ref d off)∧(nb (env t)=true→nb (env' t)=true)
theorem Ac3 (env:Env)(u:Nat)(s:S)(h1:nb s=true)(h2:∀d off,s≠.ref d off):OO env (upd env (some u) s):=by
 intro t
 by_cases e:t=u
 ·subst e
  simp only [upd,if_true]
  exact ⟨fun d off h=>absurd h (h2 d off),fun _=>h1⟩
 ·simp only [upd,if_neg e];exact ⟨fun _ _ h=>h,fun h=>h⟩
theorem ZM (env:Env)(τ u:Nat)(s:S)(h1:nb s=true)(h2:∀d off,s≠.ref d off):OO env (upd (JK env τ) (some u) s):=by
 intro t
 by_cases e:t=u
 ·subst e
  simp only [upd,if_true]
  exact ⟨fun d off h=>absurd h (h2 d off),fun _=>h1⟩
 ·simp only [upd,if_neg e,JK]
  cases env t<;>simp [EK,nb]
theorem AaM (htt:FX P tt)(hNB:N≤BIG){d:Nat}{c:Call}{K:Tr→Prop}(hop:o.op=.call c)(hcal:c.callee=.builtin .append)(hdst:o.dst=some d)(hd:d<N)(hk:JH tt d c t K):∃t2,Step P N o (Af t h) (Af t2 h)∧K t2∧OO (Af t h) (Af t2 h):=by
 have hdB:d<BIG:=Nat.lt_of_lt_of_le hd hNB
 unfold JH at hk
 split at hk
 ·rename_i x y T T' hx hT
  obtain ⟨callee,args,argTypes⟩:=c
  obtain rfl:args = #[x,y]:=Array.ext' (by simpa using hx)
  obtain rfl:argTypes = #[T,T']:=Array.ext' (by simpa using hT)
  simp only at hcal
  subst hcal
  split at hk
  ·rename_i e sz bytes hTT hi
   obtain rfl:=Nat.eq_of_beq_eq_true hTT
   have hfull:=(htt _ _ hi).2.1
   have hk:=Bj (h:=h) hk
   obtain ⟨dy,h1,h2⟩:=GU (h:=h) hk
   split at h2
   ·rename_i ys
    split at h2
    ·rename_i τ e' xs hs
     split at h2
     ·rename_i he
      obtain rfl:=Nat.eq_of_beq_eq_true he
      obtain ⟨⟨h3,h4,h5⟩,zs,rfl,h6⟩:=h2
      obtain ⟨t1,h7,h8⟩:=II (f:=EK τ) rfl AcH h6
      obtain ⟨t2,h9,h10⟩:=Bh h8
      exact ⟨t2,by rw [Q5 (nam hdB) h7 h9];exact Aol hop hfull hs h1 h3 h4 h5 hdst hd,h10,by rw [Q5 (nam hdB) h7 h9];exact ZM _ _ _ _ rfl (by intro _ _ e;cases e)⟩
     ·exact h2.elim
    ·rename_i hs
     obtain ⟨⟨h3,h4,h5⟩,h6⟩:=h2
     obtain ⟨t2,h9,h10⟩:=Bh h6
     refine ⟨t2,?_,h10,by rw [Ed (nam hdB) h9];exact Ac3 _ _ _ rfl (by intro _ _ e;cases e)⟩
     rw [Ed (nam hdB) h9]
     have:=(AiZ (d:=d) hop hfull hs h1 h3 h4 h5 hdst hd).step
     rwa [hdst] at this
    ·exact h2.elim
   ·exact h2.elim
  ·rename_i e sz bytes hTT hi
   split at hk
   ·rename_i hsz hstr
    obtain rfl:=Nat.eq_of_beq_eq_true hsz
    have hfull:=(htt _ _ hi).2.1
    have hk:=Bj (h:=h) hk
    obtain ⟨v,h1,_,h2⟩:=IJ (h:=h) hk
    split at h2
    ·rename_i τ e' xs y' hs _
     split at h2
     ·rename_i he
      obtain rfl:=Nat.eq_of_beq_eq_true he
      obtain ⟨⟨h4,h5⟩,zs,rfl,h6⟩:=h2
      obtain ⟨t1,h7,h8⟩:=II (f:=EK τ) rfl AcH h6
      obtain ⟨t2,h9,h10⟩:=Bh h8
      exact ⟨t2,by rw [Q5 (nam hdB) h7 h9];exact AnI hop hfull (htt _ _ hstr).2.1 hs h1 h4 h5 hdst hd,h10,by rw [Q5 (nam hdB) h7 h9];exact ZM _ _ _ _ rfl (by intro _ _ e;cases e)⟩
     ·exact h2.elim
    ·exact h2.elim
   ·exact hk.elim
  ·exact hk.elim
 ·exact hk.elim
theorem NH (hs:∃t' h',Step P N o (Af t h) (Af t' h')∧K t' h'):FZ P N o (Af t h) fun e=>∃t' h',e=Af t' h'∧K t' h':=by
 obtain ⟨t',h',h1,h2⟩:=hs
 exact h1.toP ⟨t',h',rfl,h2⟩
theorem ArG (htt:FX P tt)(hNB:N≤BIG)(hk:XX P tt N fb o t h K):FZ P N o (Af t h) fun e=>∃t' h',e=Af t' h'∧K t' h':=by
 unfold XX at hk
 split at hk
 ·rename_i hdst
  refine NH ?_
  split at hk
  ·rename_i T x y hop
   obtain hfb|hfb:=Bool.eq_false_or_eq_true (AdT x fb)
   ·rw [hfb] at hk
    obtain ⟨id,s,⟨hb,h1⟩,h2⟩:=hk
    refine ⟨t,_,?_,h2⟩
    unfold hset
    rw [Ql hb];exact h1
   rw [hfb] at hk
   dsimp only at hk
   split at hk
   ·rename_i i hi
    have hsh:=Hy (htt _ _ hi)
    have hk:=Bj (h:=h) hk
    split at hk
    ·rename_i q1 q2 q3 hy
     split at hk
     ·rename_i ha hl
      have hl:=Nat.eq_of_beq_eq_true hl
      have h2:=Bj (h:=h) hk
      split at h2
      ·rename_i u off hx
       split at h2
       ·rename_i cs hb hcs
        have hu:=Jz hb
        obtain ⟨h3,h4⟩:=GZ h2
        obtain ⟨t',h5,h6⟩:=Bh h4
        refine ⟨t',h,?_,h6⟩
        rw [Ed (nam hu) h5]
        have hsh':Bl P T=some (false,1):=by rw [hsh];cases hq:shI i;rw [hq] at ha hl;simp at ha hl;rw [ha,hl]
        exact YU (m:=1) hop hx (by rw [CE (nam hu)];exact hcs) hu hy hsh' h3 hdst
       ·exact h2.elim
      ·exact h2.elim
     ·exact hk.elim
    ·rename_i rc hy
     split at hk
     ·rename_i hl
      have hl:=Nat.eq_of_beq_eq_true hl
      have h2:=Bj (h:=h) hk
      split at h2
      ·rename_i u off hx
       split at h2
       ·rename_i cs hb hcs
        have hu:=Jz hb
        obtain ⟨h3,h4⟩:=GZ h2
        obtain ⟨t',h5,h6⟩:=Bh h4
        refine ⟨t',h,?_,h6⟩
        rw [Ed (nam hu) h5]
        exact AlW hop hx (by rw [CE (nam hu)];exact hcs) hu hy hsh hl h3 hdst
       ·exact h2.elim
      ·exact h2.elim
     ·exact hk.elim
    obtain ⟨r,h1,h2⟩:=GU (h:=h) hk
    have h2:=Ky h2
    split at h2
    ·rename_i hl
     have hl:=Nat.eq_of_beq_eq_true hl
     have h2:=Bj (h:=h) h2
     split at h2
     ·rename_i u off hx
      split at h2
      ·rename_i cs hb hcs
       have hu:=nam (Jz hb)
       obtain ⟨h3,h4⟩:=GZ h2
       obtain ⟨t',h5,h6⟩:=Bh h4
       refine ⟨t',h,?_,h6⟩
       rw [Ed hu h5]
       exact ZV hop hx (by rw [CE hu];exact hcs) h1 hsh hl h3 hdst
      ·rename_i cs hb hcs
       have hu:=nam (Jz hb)
       obtain ⟨h3,h4⟩:=GZ h2
       obtain ⟨t',h5,h6⟩:=Bh h4
       refine ⟨t',h,?_,h6⟩
       rw [Ed hu h5]
       exact AcJ hop hx (by rw [CE hu];exact hcs) (Jz hb) h1 hsh hl h3 hdst
      ·exact h2.elim
     ·rename_i id off hx
      obtain ⟨cs,⟨hb,hid⟩,h2⟩:=h2
      obtain ⟨h3,h4⟩:=GZ h2
      refine ⟨t,_,?_,h4⟩
      unfold hset
      rw [Ql hb]
      exact AuJ hop (by unfold vd;rw [hx];rfl) (by rw [Lj hb,hid];rfl) h1 hsh hl h3 hdst
     ·rename_i id sz off hx
      obtain ⟨xs,zs,⟨hb,hid,q1,q2,q3,q4,q5⟩,h2⟩:=h2
      obtain ⟨t',h5,h6⟩:=Bh h2
      refine ⟨t',h,?_,h6⟩
      rw [Ed (Iw hb) h5]
      exact Av1 hop hx (by rw [CE (Iw hb)];exact hid) h1 hsh hl q1 q2 q3 q4 q5 hdst
     ·exact h2.elim
    ·exact h2.elim
   ·exact hk.elim
  ·obtain ⟨id,s,⟨hb,h1⟩,h2⟩:=hk
   refine ⟨t,_,?_,h2⟩
   unfold hset
   rw [Ql hb];exact h1
 ·rename_i d hdst
  split at hk
  ·exact hk.elim
  ·rename_i hdN
   have hd:=Sl hdN
   have hdB:d<BIG:=Nat.lt_of_lt_of_le hd hNB
   split at hk
   ·refine NH ?_
    obtain ⟨s,h',h1,h2⟩:=hk
    obtain ⟨t',h3,h4⟩:=Bh (Ll h2)
    exact ⟨t',h',by rw [Ed (nam hdB) h3];exact h1,h4⟩
   ·split at hk
    ·exact hk
    refine NH ?_
    split at hk
    ·rename_i T x hop
     obtain ⟨r,h1,h2⟩:=GU (h:=h) hk
     obtain ⟨t1,h3,h4⟩:=II (f:=JZ d) rfl Vo (Ky h2)
     obtain ⟨t2,h5,h6⟩:=Bh h4
     exact ⟨t2,h,by rw [ZJ (nam hdB) h3 h5];exact Aa1 hop h1 hdst hd hdB,h6⟩
    ·rename_i T hop
     split at hk
     ·rename_i i hi
      split at hk
      ·rename_i z hz
       obtain ⟨t1,h3,h4⟩:=II (f:=JZ d) rfl Vo hk
       obtain ⟨t2,h5,h6⟩:=Bh h4
       exact ⟨t2,h,by rw [ZJ (nam hdB) h3 h5];exact AdF hop (U3 (htt _ _ hi) hz) hdst hd hdB,h6⟩
      ·exact hk.elim
     ·exact hk.elim
    ·rename_i c hop
     split at hk
     ·rename_i hcal
      obtain ⟨t2,h1,h2,_⟩:=AaM (h:=h) htt hNB hop hcal hdst hd hk
      exact ⟨t2,h,h1,h2⟩
     ·exact Adn htt hNB hdst hd hk
    ·exact Adn htt hNB hdst hd hk
theorem Xw {all:List Oper}{kn:List Nat}{K:Bool→List Nat→Tr→Prop}(hk:gK all kn o t K):∃run kn' t',D7 all.toArray o (Af t' h)=some run∧Af t' h=Af t h∧K run kn' t':=by
 unfold gK at hk
 unfold D7
 split at hk
 ·rename_i hg
  exact ⟨true,kn,t,by rw [hg],rfl,hk⟩
 ·rename_i j want hg
  simp only [hg,List.getElem?_toArray]
  split at hk
  ·rename_i oj hj
   simp only [hj,Option.bind_some]
   split at hk
   ·rename_i u hu
    simp only [hu]
    split at hk
    ·rename_i b hb hs
     have hlt:=Iw hb
     split at hk
     ·split at hk
      all_goals exact ⟨_,kn,t,by rw [CE hlt,hs];rfl,rfl,hk⟩
     ·cases b with
      |true=>
       obtain ⟨t',h1,h2⟩:=Bh (hk.1 rfl)
       have e:Af t' h=Af t h:=by
        rw [Ed hlt h1]
        funext v
        simp only [upd]
        split
        ·rename_i e;subst e;rw [CE hlt,hs]
        ·rfl
       refine ⟨_,_,t',?_,e,h2⟩
       rw [CE hlt,h1,if_pos rfl]
       cases want<;>rfl
      |false=>
       obtain ⟨t',h1,h2⟩:=Bh (hk.2 rfl)
       have e:Af t' h=Af t h:=by
        rw [Ed hlt h1]
        funext v
        simp only [upd]
        split
        ·rename_i e;subst e;rw [CE hlt,hs]
        ·rfl
       refine ⟨_,_,t',?_,e,h2⟩
       rw [CE hlt,h1,if_pos rfl]
       cases want<;>rfl
    ·rename_i cs hb hs
     exact ⟨false,kn,t,by rw [CE (Iw hb),hs],rfl,hk⟩
    ·exact hk.elim
   ·exact hk.elim
  ·exact hk.elim
theorem Pm (htt:FX P tt)(hNB:N≤BIG){all:List Oper}:∀{l:List Oper} {kn:List Nat} {t:Tr} {h:Hp} {K:Tr→Hp→Prop},NQ P tt N fb all l kn t h K→VL P N all.toArray l (Af t h) (fun env=>∃t h,env=Af t h∧K t h)
 | [],kn,t,h,K,hk=>AhU ⟨t,h,rfl,hk⟩
 |o::rest,kn,t,h,K,hk=>by
  change Oa P tt N fb all o (NQ P tt N fb all rest) kn t h K at hk
  unfold Oa at hk
  obtain ⟨run,kn',t',hg,he,hk⟩:=Xw (h:=h) hk
  rw [←he]
  cases run with
  |false=>
   simp only at hk
   refine Ath hg ?_
   split at hk
   ·rename_i d hdst
    split at hk
    ·exact hk.elim
    ·rename_i hb
     obtain ⟨t2,h1,h2⟩:=Bh hk
     rw [hdst,←Ed (Iw hb) h1]
     exact Pm htt hNB h2
   ·rename_i hdst
    rw [hdst]
    exact Pm htt hNB hk
  |true=>
   simp only at hk
   split at hk
   ·rename_i it hop
    split at hk
    ·rename_i d id n seen hdst hb hit
     split at hk
     ·rename_i hdN hne
      obtain ⟨es,⟨hid,hm,hn⟩,hk1,hk2⟩:=hk
      have hd:=Sl hdN
      have hlt:=Iw hb
      refine Aud (ty:=0) hop hg (by rw [CE hlt];exact hit) (by rw [Lj hid,hm];rfl) hn hdst hd (fun e=>by rw [e,Nat.beq_refl] at hne;cases hne) (fun h0=>?_) (fun i p hp hi=>?_)
      ·obtain ⟨t2,h1,h2⟩:=Bh (hk1 h0)
       rw [←Ed (nam (Nat.lt_of_lt_of_le hd hNB)) h1]
       exact Pm htt hNB h2
      ·obtain ⟨t2,h1,h2⟩:=Bh (hk2 i p hp hi)
       obtain ⟨t3,h3,h4⟩:=Bh h2
       rw [←Ed hlt h1,←Ed (nam (Nat.lt_of_lt_of_le hd hNB)) h3]
       exact Pm htt hNB h4
     ·exact hk.elim
    ·exact hk.elim
   ·refine AmU hg (ArG htt hNB hk) ?_
    rintro e ⟨t2,h2,rfl,h4⟩
    exact Pm htt hNB h4
end
end Go.Vm
end
section
namespace Go.Vm
open Go.RowKit
section
variable {P:Program} {N base:Nat} {w0 w w':World} {ro0:Start} {ro ro':Aq} {blk blk':Nat→Nat} {env env':Env} {a:Act} {o:Oper} {ops:Array Oper} {md:Region.Mode} {bar:List Nat} {fb:List Nat}
def anc (md:Region.Mode)(ops:Array Oper)(i:Nat):Nat→Nat→Bool
 |0,_=>false
 |f+1,m=>match ops[m]? with
  |none=>false
  |some o=>o.after.any fun e=>Region.binds md e&&(e.on==i||anc md ops i f e.on)
theorem Zr {listed:Array Bool}{i:Nat}(hc:Closed md ops listed):∀(f m:Nat),anc md ops i f m=true→listed.getD m false=true→listed.getD i false=true
 |0,m,h,_=>by cases h
 |f+1,m,h,hl=>by
  unfold anc at h
  split at h
  ·cases h
  ·rename_i o ho
   rw [Array.any_eq_true] at h
   obtain ⟨k,hk,h2⟩:=h
   simp only [Bool.and_eq_true,Bool.or_eq_true,beq_iff_eq] at h2
   have h3:=hc m o ho (JJ hl) _ (Array.getElem_mem hk) h2.1
   rcases h2.2 with h4|h4
   ·rw [←h4];exact h3
   ·exact Zr hc f _ h4 h3
theorem Aro {listed:Array Bool}{i m f:Nat}(hc:Closed md ops listed)(h:anc md ops i f m=true)(hr:m∈Region.ready md ops listed):listed.getD i false=true:=by
 obtain ⟨_,o,ho,hall⟩:=mem_ready.1 hr
 cases f with
 |zero=>cases h
 |succ f=>
  unfold anc at h
  rw [ho] at h
  simp only at h
  rw [Array.any_eq_true] at h
  obtain ⟨k,hk,h2⟩:=h
  simp only [Bool.and_eq_true,Bool.or_eq_true,beq_iff_eq] at h2
  have h3:=hall _ (Array.getElem_mem hk) h2.1
  rcases h2.2 with h4|h4
  ·rw [←h4];exact h3
  ·exact Zr hc f _ h4 h3
theorem AhO {K:Env→Prop}{i:Nat}{oi:Oper}{eff:Eff}(hi:ops[i]? = some oi)(hib:i ∉ bar) :
 ∀(fuel:Nat) (listed:Array Bool) (env:Env),Closed md ops listed →
  (∀m∈bar,listed.getD m true=false→anc md ops i ops.size m=true) →
  (∀j oj,ops[j]? = some oj→j ∉ bar→j≠i→listed.getD j true=false→(∀e∈oj.after,Region.binds md e=true→e.on≠i)→KN fb ops oi oj=true) →
  i∈Region.ready md ops listed→DG P N fb ops oi env eff →
  JX P N fb md ops bar K fuel (listed.setIfInBounds i true) (eff.app env)→JX P N fb md ops bar K (fuel+1) listed env:=by
 intro fuel
 induction fuel with
 |zero=>
  intro listed env hc hbars _ hr hy H
  refine ⟨fun h=>(by rw [h] at hr;cases hr),fun j hj=>?_⟩
  by_cases hji:j=i
  ·subst hji;unfold Fe;rw [hi];simp only;rw [if_neg hib];exact ⟨eff,hy,H⟩
  ·have:=ready_mono hj hji
   rw [H.1] at this
   cases this
 |succ fuel ih=>
  intro listed env hc hbars hfree hr hy H
  refine ⟨fun h=>(by rw [h] at hr;cases hr),fun j hj=>?_⟩
  by_cases hji:j=i
  ·subst hji;unfold Fe;rw [hi];simp only;rw [if_neg hib];exact ⟨eff,hy,H⟩
  ·have hjb:j ∉ bar:=fun hb=>F8 (Aro hc (hbars j hb (mem_ready.1 hj).1) hj) (mem_ready.1 hr).1
   have h1:=H.2 j (ready_mono hj hji)
   obtain ⟨hjun,oj,hoj,hall⟩:=mem_ready.1 hj
   have hnot:∀e∈oj.after,Region.binds md e=true→e.on≠i:=fun e he hb heq=>by
    have h1:=hall e he hb
    have h0:=(mem_ready.1 hr).1
    rw [heq] at h1
    exact F8 h1 h0
   have h2:=AbE hoj hjb (hfree j oj hoj hjb hji hjun hnot) hy h1
   have hless:∀k,(listed.setIfInBounds j true).getD k true=false→listed.getD k true=false:=fun k hun=>by
    by_cases hjk:j=k
    ·subst hjk;exact hjun
    ·rw [getD_set_ne true hjk] at hun;exact hun
   refine O4 (fun env' h3=>ih (listed.setIfInBounds j true) env' (hc.next hj) (fun m hm hun=>hbars m hm (hless m hun))
    (fun k ok hk hkb hki hun hno=>hfree k ok hk hkb hki (hless k hun) hno) (ready_mono hr (Ne.symm hji)) h3.1 ?_) h2
   rw [Array.setIfInBounds_comm _ _ hji]
   exact h3.2
inductive F6 where
 |fin
 |no
 |one (i:Nat) (p:F6)
 |alt (i:Nat) (p q:F6)
def F6.heads:F6→List Nat
 | .alt i _ q=>i::q.heads
 |_=>[]
def VP (P:Program)(N:Nat)(fb:List Nat)(ops:Array Oper)(bar:List Nat)(K:Env→Prop):F6→Env→Prop
 | .fin=>K
 | .no=>fun _=>True
 | .one i p=>Fe P N fb ops bar i (VP P N fb ops bar K p)
 | .alt i p q=>fun env=>Fe P N fb ops bar i (VP P N fb ops bar K p) env∧VP P N fb ops bar K q env
def Ada (fb:List Nat)(md:Region.Mode)(ops:Array Oper)(bar:List Nat)(listed:Array Bool)(i:Nat):Bool:=
 !bar.contains i&&SL fb md ops bar listed i&&bar.all fun m=>listed.getD m true||anc md ops i ops.size m
def okP (fb:List Nat)(md:Region.Mode)(ops:Array Oper)(bar:List Nat):F6→Nat→Bool→Array Bool→Bool
 | .fin,_,b,l=>!b&&(Region.ready md ops l).isEmpty
 | .no,_,b,_=>b
 | .one i p,fuel,b,l=>match fuel with
  |0=>false
  |f+1=>!b&&(Region.ready md ops l).contains i&&(Ada fb md ops bar l i||(Region.ready md ops l).all (· == i))&&okP fb md ops bar p f false (l.setIfInBounds i true)
 | .alt i p q,fuel,b,l=>match fuel with
  |0=>false
  |f+1=>(b||(Region.ready md ops l).all fun j=>(F6.alt i p q).heads.contains j)&&(Region.ready md ops l).contains i&&okP fb md ops bar p f false (l.setIfInBounds i true)&&okP fb md ops bar q (f+1) true l
theorem UF {K:Env→Prop}:∀(p:F6) (fuel:Nat) (b:Bool) (listed:Array Bool) (env:Env),Closed md ops listed→okP fb md ops bar p fuel b listed=true→VP P N fb ops bar K p env →
 (b=false→JX P N fb md ops bar K fuel listed env)∧(∀i∈p.heads,i∈Region.ready md ops listed→∃f,fuel=f+1∧Fe P N fb ops bar i (JX P N fb md ops bar K f (listed.setIfInBounds i true)) env)
 | .fin,fuel,b,listed,env,hc,hO,h=>by
  simp only [okP,Bool.and_eq_true,List.isEmpty_iff] at hO
  refine ⟨fun _=>?_,fun i hi=>by cases hi⟩
  cases fuel with
  |zero=>exact ⟨hO.2,h⟩
  |succ f=>exact ⟨fun _=>h,fun i hi=>by rw [hO.2] at hi;cases hi⟩
 | .no,fuel,b,listed,env,hc,hO,h=>⟨fun hb=>(by rw [show b=true from hO] at hb;cases hb),fun i hi=>(by cases hi)⟩
 | .one i p,fuel,b,listed,env,hc,hO,h=>by
  cases fuel with
  |zero=>cases hO
  |succ f=>
   simp only [okP,Bool.and_eq_true,Bool.or_eq_true,List.contains_iff_mem] at hO
   obtain ⟨⟨⟨_,hr⟩,hg⟩,hp⟩:=hO
   refine ⟨fun _=>?_,fun i hi=>by cases hi⟩
   have hv:=O4 (fun env' h'=>(UF p f false _ env' (hc.next hr) hp h').1 rfl) (show Fe P N fb ops bar i (VP P N fb ops bar K p) env from h)
   rcases hg with hg|hg
   ·simp only [Ada,Bool.and_eq_true,Bool.not_eq_true'] at hg
    obtain ⟨⟨hib,hf⟩,hm⟩:=hg
    have hib:i ∉ bar:=by simpa using hib
    obtain ⟨_,oi,hoi,_⟩:=mem_ready.1 hr
    unfold Fe at hv
    rw [hoi] at hv
    simp only [if_neg hib] at hv
    obtain ⟨eff,hy,hk⟩:=hv
    refine AhO hoi hib f listed env hc (fun m hmb hun=>?_) (AbS hoi hib hf) hr hy hk
    have:=List.all_eq_true.1 hm m hmb
    rw [hun,Bool.false_or] at this
    exact this
   ·refine ⟨fun h0=>(by rw [h0] at hr;cases hr),fun j hj=>?_⟩
    have:=List.all_eq_true.1 hg j hj
    obtain rfl:j=i:=by simpa using this
    exact hv
 | .alt i p q,fuel,b,listed,env,hc,hO,h=>by
  cases fuel with
  |zero=>cases hO
  |succ f=>
   simp only [okP,Bool.and_eq_true,Bool.or_eq_true,List.contains_iff_mem] at hO
   obtain ⟨⟨⟨hall,hr⟩,hp⟩,hq⟩:=hO
   have hv:=O4 (fun env' h'=>(UF p f false _ env' (hc.next hr) hp h').1 rfl) h.1
   have hrest:=(UF q (f+1) true listed env hc hq h.2).2
   have key:∀j∈(F6.alt i p q).heads,j∈Region.ready md ops listed→∃f',f+1=f' + 1∧Fe P N fb ops bar j (JX P N fb md ops bar K f' (listed.setIfInBounds j true)) env:=fun j hj hjr=>by
    rcases List.mem_cons.1 hj with rfl|hj
    ·exact ⟨f,rfl,hv⟩
    ·exact hrest j hj hjr
   refine ⟨fun hb=>⟨fun h0=>(by rw [h0] at hr;cases hr),fun j hj=>?_⟩,key⟩
   rcases hall with hall|hall
   ·rw [hall] at hb;cases hb
   ·obtain ⟨f',e,h2⟩:=key j (by simpa using List.all_eq_true.1 hall j hj) hj
    obtain rfl:f=f':=by omega
    exact h2
def Tm (fb:List Nat)(ops:Array Oper)(bar:List Nat)(p:F6):Bool:=QO ops&&okP fb .any ops bar p ops.size false (Array.replicate ops.size false)
theorem AkB {id:Nat}{l:List Oper}{Q:Exit→Env→Prop}(bar:List Nat)(p:F6)(hm:P.follows .mixedOrders=true)(hB:Tm fb l.toArray bar p=true)(h:VP P N fb l.toArray bar (Q .normal) p (freshen l env)):VC P N (.region id l.toArray true) env Q:=by
 intro base w0 ro0 a w hs
 simp only [Tm,Bool.and_eq_true] at hB
 obtain ⟨ro,blk,hs'⟩:=hs.weaken (AdP l env)
 refine wp_region_any hm (Oy (fb:=fb) (bar:=bar) (K:=Q .normal) hB.1 (fun env' a' w' hk hs'=>⟨env',hk,hs'⟩) _ _ _ _ _ (ZK l env) (?_:Sim P N base w0 ro0 (freshen l env) a _) ?_)
 ·exact ⟨ro,blk,hs'.rest ⟨(Below.refl _ _).drew,fun _ _=>rfl,hs'.new,fun b id k hb=>by rw [hs'.new b hb];simp⟩⟩
 ·have hc:Closed .any l.toArray (Array.replicate l.toArray.size false):=by
   intro k o ho hl
   exfalso
   have hlt:=EI ho
   simp [hlt] at hl
   simp only [List.size_toArray] at hlt
   simp [hlt] at hl
  exact (UF (P:=P) (N:=N) (md:=.any) (ops:=l.toArray) (K:=Q .normal) p l.toArray.size false (Array.replicate l.toArray.size false) (freshen l env) hc hB.2 h).1 rfl
end
end Go.Vm
end
section
namespace Go.Vm
open Go.RowKit
def PR (ds:List Nat)(s:S)(K:S→Prop):Prop:=match s with
 | .ref u off=>match GX u ds with
  |true=>K .junk
  |false=>K (.ref u off)
 |s=>sK s K
theorem NZ:∀{l:List Nat} {n:Nat},GX n l=l.contains n
 | [],n=>rfl
 |m::l,n=>by
  simp only [GX,List.contains_cons]
  have E9:Nat.beq n m=(n==m):=by rw [Bool.eq_iff_iff];simp [Nat.beq_eq]
  rw [←E9]
  split
  ·rename_i h;rw [h];rfl
  ·rename_i h;rw [h,Bool.false_or];exact NZ
def Nu:List Nat→Tr→(Tr→Prop)→Prop
 | [],t,K=>K t
 |d::l,t,K=>match Nat.ble 500000 d with
  |true=>False
  |false=>AQ 20 t d .junk fun t=>Nu l t K
theorem U1:∀{l:List Nat} {t:Tr} {K:Tr→Prop},Nu l t K→∃t',(∀u,t'.get u=if l.contains u then .junk else t.get u)∧(∀d∈l,d<BIG)∧K t'
 | [],t,K,h=>⟨t,fun u=>by simp,by simp,h⟩
 |d::l,t,K,h=>by
  simp only [Nu] at h
  split at h
  ·exact h.elim
  ·rename_i hb
   obtain ⟨t1,h1,h2⟩:=Bh h
   obtain ⟨t2,h3,h4,h5⟩:=U1 h2
   refine ⟨t2,fun u=>?_,?_,h5⟩
   ·rw [h3,h1,List.contains_cons]
    by_cases e:u=d
    ·subst e;simp
    ·have:(u==d)=false:=by simpa using e
     simp [this,e]
   ·intro x hx
    rcases List.mem_cons.1 hx with rfl|hx
    ·exact Jz hb
    ·exact h4 x hx
def xq1 (P:Program)(tt:TT)(N:Nat)(fb:List Nat)(all:List Oper)(o:Oper)(rest:XL)(run:Bool):XL:=fun kn t h K=>match Jb all.toArray o (Af t h) with
 |false=>False
 |true=>match run with
  |false=>match o.dst with
   |some d=>match Nat.ble 500000 d with
    |true=>False
    |false=>AQ 20 t d (.tup []) fun t=>rest kn t h K
   |none=>rest kn t h K
  |true=>match o.dst with
   |none=>match o.op with
    | .store T x y=>match tt.get T with
     |some i=>ovK t y fun sy=>match sy with
      | .sref q1 q2 q3=>match (shI i).1,Nat.beq (shI i).2 1 with
       |false,true=>ovK t x fun s=>match s with
        | .ref u off=>match Nat.ble 500000 u,t.get u with
         |false,.ubox cs=>Gw cs off [.rr q1 q2 q3] fun cs'=>AQ 20 t u (.ubox cs') fun t'=>rest kn t' h K
         |_,_=>False
        |_=>False
       |_,_=>False
      |_=>dK t y fun r=>I7 r fun rc=>match Nat.beq rc.length (shI i).2 with
       |true=>ovK t x fun s=>match s with
        | .ref u off=>match Nat.ble 500000 u,t.get u with
         |false,.box cs=>Gw cs off rc fun cs'=>AQ 20 t u (.box cs') fun t'=>rest kn t' h K
         |false,.ubox cs=>Gw cs off rc fun cs'=>AQ 20 t u (.ubox cs') fun t'=>rest kn t' h K
         |_,_=>False
        |_=>False
       |false=>False
     |none=>False
    |_=>False
   |some d=>match Nat.ble N d with
    |true=>False
    |false=>match GX d fb with
     |true=>∃s,DG P N fb all.toArray o (Af t h) (.slot (some d) s)∧sK s fun s=>AQ 20 t d s fun t=>rest kn t h K
     |false=>match GX (Nat.add d 4000) fb with
     |true=>∃(eff:Eff) (s:S) (h':Hp),(DG P N fb all.toArray o (Af t h) eff∧eff.app (Af t h)=upd (Af t h') (some d) s)∧sK s fun s=>AQ 20 t d s fun t=>rest kn t h' K
     |false=>match o.op with
      | .box T x=>dK t x fun r=>I7 r fun cs=>AQ 20 t d (.box cs) fun t=>rest kn t h K
      | .alloc T=>match tt.get T with
       |some i=>match zI i with
        |some z=>AQ 20 t d (.box z) fun t=>rest kn t h K
        |none=>False
       |none=>False
      |_=>match GX (Nat.add d 6000) fb with
       |true=>yK P tt N d o t (fun _=>.junk) fun s=>match nb s,NY o (Af t h) s with
        |true,true=>AQ 20 t d s fun t=>rest kn t h K
        |_,_=>False
       |false=>yK P tt N d o t h fun s=>match nb s,NY o (Af t h) s with
        |true,true=>AQ 20 t d s fun t=>rest kn t h K
        |_,_=>False
def Aix:S→Bool
 | .ref _ _=>false
 |_=>true
def Xz (P:Program)(tt:TT)(N:Nat)(fb:List Nat)(o:Oper)(t:Tr)(h:Hp)(K:Tr→Hp→Prop):Prop:=match o.dst with
 |none=>∃(id:Nat) (s:S),(NAM≤id∧Step P N o (Af t h) (upd (Af t h) (some id) (FP s)))∧K t (hset h id s)
 |some d=>match Nat.ble N d with
  |true=>False
  |false=>match o.op with
   | .call c=>match GX (Nat.add d 2000) fb with
    |true=>∃(t':Tr) (h':Hp),(Step P N o (Af t h) (Af t' h')∧OO (Af t h) (Af t' h'))∧K t' h'
    |false=>match c.callee with
     | .builtin .append=>JH tt d c t fun t=>K t h
     |_=>∃(s:S) (h':Hp),Step P N o (Af t h) (upd (Af t h') (some d) s)∧sK s fun s=>match nb s,Aix s with
      |true,true=>AQ 20 t d s fun t'=>K t' h'
      |_,_=>False
   |_=>False
def XW (fb:List Nat)(o:Oper):Bool:=match o.op with
 | .mapUpdate .. => true
 |_=>match o.dst with
  |some d=>GX (Nat.add d 1000) fb
  |none=>false
def barOf (fb:List Nat):List Oper→Nat→List Nat
 | [],_=>[]
 |o::l,k=>match XW fb o with
  |true=>k::barOf fb l (Nat.succ k)
  |false=>barOf fb l (Nat.succ k)
def xqB (P:Program)(tt:TT)(N:Nat)(fb:List Nat)(all:List Oper)(bar:List Nat)(o:Oper)(rest:Nat→XL):Nat→XL:=fun k kn t h K=>gK all kn o t fun run kn t=>match GX k bar with
 |true=>match run with
  |true=>Xz P tt N fb o t h fun t h=>rest (Nat.succ k) kn t h K
  |false=>False
 |false=>xq1 P tt N fb all o (rest (Nat.succ k)) run kn t h K
def xq (P:Program)(tt:TT)(N:Nat)(fb:List Nat)(all:List Oper)(bar:List Nat)(l:List Oper):Nat→XL:=@List.rec Oper (fun _=>Nat→XL) (fun _ _ t h K=>K t h) (fun o _ ih=>xqB P tt N fb all bar o ih) l
def xpo (P:Program)(tt:TT)(N:Nat)(fb:List Nat)(all:List Oper)(bar:List Nat)(i:Nat)(rest:XL):XL:=fun kn t h K=>match all[i]? with
 |some o=>xqB P tt N fb all bar o (fun _=>rest) i kn t h K
 |none=>False
def xp (P:Program)(tt:TT)(N:Nat)(fb:List Nat)(all:List Oper)(bar:List Nat)(p:F6):XL:=@F6.rec (fun _=>XL) (fun _ t h K=>K t h) (fun _ _ _ _=>True)
 (fun i _ ih=>xpo P tt N fb all bar i ih) (fun i _ _ ihp ihq kn t h K=>xpo P tt N fb all bar i ihp kn t h K∧ihq kn t h K) p
def Akh (fb:List Nat)(l:List Oper):Bool:=match l with
 |o::_=>match o.dst with
  |some d=>GX (Nat.add d 8000) fb
  |none=>false
 | []=>false
abbrev XC:=Tr→Hp→(Exit→Tr→Hp→Prop)→Prop
def Ard (a b:XC):XC:=fun t h K=>a t h fun e t h=>match e with
 | .normal=>b t h K
 | .ret=>K .ret t h
 | .exit id=>K (.exit id) t h
 | .goto l=>K (.goto l) t h
 | .panic c=>K (.panic c) t h
 | .outgrown=>K .outgrown t h
def ApN (c:Operand)(a b:XC):XC:=fun t h K=>ovK t c fun s=>match s with
 | .c (.d (.sc (.bool p)))=>match c with
  | .tmp u=>match Nat.ble 1000000 u with
   |true=>False
   |false=>(p=true→AQ 20 t u (.c (.d (.sc (.bool true)))) fun t=>a t h K)∧(p=false→AQ 20 t u (.c (.d (.sc (.bool false)))) fun t=>b t h K)
  |_=>(p=true→a t h K)∧(p=false→b t h K)
 |_=>False
def Aon (id:Nat)(b:XC):XC:=fun t h K=>b t h fun e t h=>match e with
 | .exit i=>match Nat.beq i id with
  |true=>K .normal t h
  |false=>K (.exit i) t h
 | .normal=>K .normal t h
 | .ret=>K .ret t h
 | .goto l=>K (.goto l) t h
 | .panic c=>K (.panic c) t h
 | .outgrown=>K .outgrown t h
def Xt (P:Program)(tt:TT)(N:Nat)(fb:List Nat)(ops:Array Oper)(draw:Bool):XC:=fun t h K=>match draw with
 |false=>NQ P tt N fb ops.toList ops.toList [] t h (K .normal)
 |true=>match Akh fb ops.toList with
  |false=>(P.follows .mixedOrders=true∧Ua fb ops (barOf fb ops.toList 0)=true)∧Gl (PR (news ops.toList)) t fun t=>Nu (news ops.toList) t fun t=>xq P tt N fb ops.toList (barOf fb ops.toList 0) ops.toList 0 [] t h (K .normal)
  |true=>∃p:F6,(P.follows .mixedOrders=true∧Tm fb ops (barOf fb ops.toList 0) p=true)∧Gl (PR (news ops.toList)) t fun t=>Nu (news ops.toList) t fun t=>xp P tt N fb ops.toList (barOf fb ops.toList 0) p [] t h (K .normal)
def Tt (P:Program)(N:Nat)(c:Code):XC:=fun t h K=>MM (VC P N c (Af t h) fun e env=>∃t h,env=Af t h∧K e t h)
def Jr (P:Program)(tt:TT)(N:Nat)(fb:List Nat)(c:Code):XC:=@Code.rec (fun _=>XC)
 (fun t h K=>K .normal t h)
 (fun _ ops draw=>Xt P tt N fb ops draw)
 (fun _ _ a b=>Ard a b)
 (fun c _ _ a b=>ApN c a b)
 (fun id _ b=>Aon id b)
 (fun b _=>Tt P N (.loop b))
 (fun f ps a b _ _=>Tt P N (.rangeFunc f ps a b))
 (fun id t h K=>K (.exit id) t h)
 (fun b _=>Tt P N (.scope b))
 (fun _ t h K=>K .normal t h)
 (fun l t h K=>K (.goto l) t h)
 (fun t h K=>K .ret t h)
 (fun why=>Tt P N (.refuse why))
 c
section
variable {P:Program} {tt:TT} {N:Nat} {fb:List Nat} {o:Oper} {t:Tr} {h:Hp}
def JP (ds:List Nat):S→S
 | .ref u off=>if ds.contains u then .junk else .ref u off
 |s=>s
theorem AcO {ds:List Nat}(s:S)(K:S→Prop)(h:PR ds s K):K (JP ds s):=by
 cases s with
 |ref u off=>
  simp only [PR,NZ] at h
  show K (if ds.contains u then .junk else .ref u off)
  split at h
  ·rename_i hb;rw [if_pos hb];exact h
  ·rename_i hb;rw [if_neg (by rw [hb];simp)];exact h
 |c x=>cases x<;>exact h
 |_=>exact h
theorem Z7 {ds:List Nat}{u:Nat}(hd:∀d∈ds,d<BIG)(hu:¬u<NAM)(s:S):Ik ds u (FP s)=FP s:=by
 cases s<;>rfl
theorem AdU (htt:FX P tt)(hNB:N≤BIG){all:List Oper}{rest:XL}{run:Bool}{kn:List Nat}{t:Tr}{h:Hp}{K:Tr→Hp→Prop}(hg:D7 all.toArray o (Af t h)=some run)(hk:xq1 P tt N fb all o rest run kn t h K) :
 ∃eff,DG P N fb all.toArray o (Af t h) eff∧∃t' h' kn',eff.app (Af t h)=Af t' h'∧rest kn' t' h' K:=by
 unfold xq1 at hk
 split at hk
 ·exact hk.elim
 ·rename_i hdr
  cases run with
  |false=>
   simp only at hk
   split at hk
   ·rename_i d hdst
    split at hk
    ·exact hk.elim
    ·rename_i hb
     obtain ⟨t2,h1,h2⟩:=Bh hk
     refine ⟨_,AcI hg hdr (fun u hu=>by rw [hdst] at hu;injection hu with hu;exact hu▸Jz hb),_,_,_,?_,h2⟩
     show upd _ o.dst _=_
     rw [hdst,←Ed (nam (Jz hb)) h1]
   ·rename_i hdst
    refine ⟨_,AcI hg hdr (fun u hu=>by rw [hdst] at hu;cases hu),_,_,_,?_,hk⟩
    show upd _ o.dst _=_
    rw [hdst];rfl
  |true=>
   simp only at hk
   split at hk
   ·rename_i hdst
    split at hk
    ·rename_i T x y hop
     split at hk
     ·rename_i i hi
      have hsh:=Hy (htt _ _ hi)
      have hk:=Bj (h:=h) hk
      split at hk
      ·rename_i q1 q2 q3 hy
       split at hk
       ·rename_i ha hl
        have hl:=Nat.eq_of_beq_eq_true hl
        have h2:=Bj (h:=h) hk
        split at h2
        ·rename_i u off hx
         split at h2
         ·rename_i cs hb hcs
          have hu:=Jz hb
          obtain ⟨h3,h4⟩:=GZ h2
          obtain ⟨t2,h5,h6⟩:=Bh h4
          have hsh':Bl P T=some (false,1):=by rw [hsh];cases hq:shI i;rw [hq] at ha hl;simp at ha hl;rw [ha,hl]
          refine ⟨_,An6 hg hop hx (by rw [CE (nam hu)];exact hcs) hy hsh' h3 hdst hdr hu,_,_,_,?_,h6⟩
          show upd _ (some u) _=_
          rw [←Ed (nam hu) h5]
         ·exact h2.elim
        ·exact h2.elim
       ·exact hk.elim
      obtain ⟨r,h1,h2⟩:=GU (h:=h) hk
      have h2:=Ky h2
      split at h2
      ·rename_i hl
       have hl:=Nat.eq_of_beq_eq_true hl
       have h2:=Bj (h:=h) h2
       split at h2
       ·rename_i u off hx
        split at h2
        ·rename_i cs hb hcs
         have hu:=Jz hb
         obtain ⟨h3,h4⟩:=GZ h2
         obtain ⟨t2,h5,h6⟩:=Bh h4
         refine ⟨_,AmB hg hop hx (by rw [CE (nam hu)];exact hcs) h1 hsh hl h3 hdst hdr hu,_,_,_,?_,h6⟩
         show upd _ (some u) _=_
         rw [←Ed (nam hu) h5]
        ·rename_i cs hb hcs
         have hu:=Jz hb
         obtain ⟨h3,h4⟩:=GZ h2
         obtain ⟨t2,h5,h6⟩:=Bh h4
         refine ⟨_,Auv hg hop hx (by rw [CE (nam hu)];exact hcs) h1 hsh hl h3 hdst hdr hu,_,_,_,?_,h6⟩
         show upd _ (some u) _=_
         rw [←Ed (nam hu) h5]
        ·exact h2.elim
       ·exact h2.elim
      ·exact h2.elim
     ·exact hk.elim
    ·exact hk.elim
   ·rename_i d hdst
    split at hk
    ·exact hk.elim
    ·rename_i hdN
     have hd:=Sl hdN
     have hdB:d<BIG:=Nat.lt_of_lt_of_le hd hNB
     split at hk
     ·obtain ⟨s,h1,h2⟩:=hk
      obtain ⟨t2,h3,h4⟩:=Bh (Ll h2)
      refine ⟨_,h1,_,_,_,?_,h4⟩
      show upd _ (some d) _=_
      rw [←Ed (nam hdB) h3]
     ·split at hk
      ·obtain ⟨eff,s,h',⟨h1,h2⟩,h3⟩:=hk
       obtain ⟨t2,h4,h5⟩:=Bh (Ll h3)
       refine ⟨_,h1,_,_,_,?_,h5⟩
       rw [h2,←Ed (nam hdB) h4]
      rename_i hw4
      split at hk
      ·rename_i T x hop
       obtain ⟨r,h1,h2⟩:=GU (h:=h) hk
       obtain ⟨t2,h5,h6⟩:=Bh (Ky h2)
       refine ⟨_,Auj hg hop h1 hdst hd hdB,_,_,_,?_,h6⟩
       show upd _ (some d) _=_
       rw [←Ed (nam hdB) h5]
      ·rename_i T hop
       split at hk
       ·rename_i i hi
        split at hk
        ·rename_i z hz
         obtain ⟨t2,h5,h6⟩:=Bh hk
         refine ⟨_,AqT hg hop (U3 (htt _ _ hi) hz) hdst hd hdB,_,_,_,?_,h6⟩
         show upd _ (some d) _=_
         rw [←Ed (nam hdB) h5]
        ·exact hk.elim
       ·exact hk.elim
      ·split at hk
       ·obtain ⟨s,h1,h2⟩:=VR htt hdst hd hk
        split at h2
        ·rename_i hn hr
         obtain ⟨t2,h5,h6⟩:=Bh h2
         have e0:Af t (fun _=>S.junk)=noN (Af t h):=by
          funext u
          unfold noN Af
          split<;>rfl
         rw [e0] at h1
         refine ⟨_,AmZ hg h1 hn hr hdr (fun u hu=>by rw [hdst] at hu;injection hu with hu;exact hu▸hdB),_,_,_,?_,h6⟩
         show upd _ o.dst _=_
         rw [hdst,←Ed (nam hdB) h5]
        ·exact h2.elim
       ·rename_i hw6
        have hcl:FT fb o≠0:=by
         unfold FT
         rw [hdst]
         simp only
         split
         ·decide
         ·rw [if_neg (by rw [←NZ];intro e;exact absurd (hw6.symm.trans e) (by decide))];decide
        obtain ⟨s,h1,h2⟩:=VR htt hdst hd hk
        split at h2
        ·rename_i hn hr
         obtain ⟨t2,h5,h6⟩:=Bh h2
         refine ⟨_,AcG hg h1.all hcl hn hr hdr (fun u hu=>by rw [hdst] at hu;injection hu with hu;exact hu▸hdB),_,_,_,?_,h6⟩
         show upd _ o.dst _=_
         rw [hdst,←Ed (nam hdB) h5]
        ·exact h2.elim
theorem Abn (htt:FX P tt)(hNB:N≤BIG){all:List Oper}{t:Tr}{h:Hp}{K:Tr→Hp→Prop}(hg:D7 all.toArray o (Af t h)=some true)(hk:Xz P tt N fb o t h K):∃t' h',QL P N all.toArray o (Af t h) (Af t' h')∧K t' h':=by
 have calm:∀{env env':Env},Step P N o env env'→OO env env'→D7 all.toArray o env=some true→QL P N all.toArray o env env':=fun h1 h2 h3=>⟨.inl ⟨h3,h1⟩,fun t=>(h2 t).1,fun t=>(h2 t).2⟩
 have cname:∀(id:Nat) (s:S),NAM≤id→OO (Af t h) (upd (Af t h) (some id) (FP s)):=fun id s _=>Ac3 _ _ _ (by cases s<;>rfl) (by intro _ _ e;cases s<;>cases e)
 unfold Xz at hk
 split at hk
 ·obtain ⟨id,s,⟨hb,h1⟩,h2⟩:=hk
  refine ⟨t,_,?_,h2⟩
  unfold hset
  rw [Ql hb]
  exact calm h1 (cname id s hb) hg
 ·rename_i d hdst
  split at hk
  ·exact hk.elim
  ·rename_i hdN
   have hd:=Sl hdN
   have hdB:d<BIG:=Nat.lt_of_lt_of_le hd hNB
   split at hk
   ·rename_i c hop
    split at hk
    ·obtain ⟨t',h',⟨h1,h2⟩,h3⟩:=hk
     exact ⟨t',h',calm h1 h2 hg,h3⟩
    split at hk
    ·rename_i hcal
     obtain ⟨t2,h1,h2,h3⟩:=AaM (h:=h) htt hNB hop hcal hdst hd hk
     exact ⟨t2,h,calm h1 h3 hg,h2⟩
    ·obtain ⟨s,h',h1,h2⟩:=hk
     have h2:=Ll h2
     split at h2
     ·rename_i hn hr
      obtain ⟨t',h3,h4⟩:=Bh h2
      refine ⟨t',h',?_,h4⟩
      rw [Ed (nam hdB) h3]
      refine calm h1 (fun u=>?_) hg
      by_cases e:u=d
      ·subst e
       simp only [upd,if_true]
       exact ⟨(fun a b e=>by rw [e] at hr;cases hr),fun _=>hn⟩
      ·simp only [upd,if_neg e]
       by_cases hu:u<NAM
       ·rw [CE hu,CE hu];exact ⟨fun _ _ h=>h,fun h=>h⟩
       ·simp only [Af,if_neg hu]
        exact ⟨(fun _ _ e=>by cases hx:h' u<;>rw [hx] at e<;>cases e),(fun _=>by cases h' u<;>rfl)⟩
     ·exact h2.elim
   ·exact hk.elim
theorem XT (htt:FX P tt)(hNB:N≤BIG){all:List Oper}{bar:List Nat}:∀{l:List Oper} {k:Nat} {kn:List Nat} {t:Tr} {h:Hp} {K:Tr→Hp→Prop},xq P tt N fb all bar l k kn t h K→VB P N fb all.toArray bar (fun env=>∃t h,env=Af t h∧K t h) k l (Af t h)
 | [],k,kn,t,h,K,hk=>⟨t,h,rfl,hk⟩
 |o::rest,k,kn,t,h,K,hk=>by
  change xqB P tt N fb all bar o (xq P tt N fb all bar rest) k kn t h K at hk
  unfold xqB at hk
  obtain ⟨run,kn',t',hg,he,hk⟩:=Xw (h:=h) hk
  rw [←he]
  unfold VB
  split at hk
  ·rename_i hm
   rw [if_pos (by rw [NZ] at hm;simpa using hm)]
   split at hk
   ·obtain ⟨t2,h2,h3,h4⟩:=Abn htt hNB hg hk
    exact ⟨_,h3,XT htt hNB h4⟩
   ·exact hk.elim
  ·rename_i hm
   rw [if_neg (by rw [NZ] at hm;simpa using hm)]
   obtain ⟨eff,h1,t2,h2,kn2,h3,h4⟩:=AdU htt hNB hg hk
   exact ⟨eff,h1,by rw [h3];exact XT htt hNB h4⟩
theorem Wx {ops:Array Oper}{bar:List Nat}{K K':Env→Prop}(hK:∀env,K env→K' env):∀{l:List Oper} {k:Nat} {env:Env},VB P N fb ops bar K k l env→VB P N fb ops bar K' k l env
 | [],k,env,h=>hK env h
 |o::l,k,env,h=>by
  unfold VB at h ⊢
  split
  ·rename_i hm
   rw [if_pos hm] at h
   obtain ⟨env',h1,h2⟩:=h
   exact ⟨env',h1,Wx hK h2⟩
  ·rename_i hm
   rw [if_neg hm] at h
   obtain ⟨eff,h1,h2⟩:=h
   exact ⟨eff,h1,Wx hK h2⟩
theorem AaO (htt:FX P tt)(hNB:N≤BIG){all:List Oper}{bar:List Nat}{K:Tr→Hp→Prop}{i:Nat}{rest:XL}{W:Env→Prop}(hrest:∀{kn t h},rest kn t h K→W (Af t h)){kn:List Nat}{t:Tr}{h:Hp}(hk:xpo P tt N fb all bar i rest kn t h K):Fe P N fb all.toArray bar i W (Af t h):=by
 unfold xpo at hk
 unfold Fe
 rw [List.getElem?_toArray]
 split at hk
 ·rename_i o ho
  rw [ho]
  simp only
  unfold xqB at hk
  obtain ⟨run,kn',t',hg,he,hk⟩:=Xw (h:=h) hk
  rw [←he]
  split at hk
  ·rename_i hm
   rw [if_pos (by rw [NZ] at hm;simpa using hm)]
   split at hk
   ·obtain ⟨t2,h2,h3,h4⟩:=Abn htt hNB hg hk
    exact ⟨_,h3,hrest h4⟩
   ·exact hk.elim
  ·rename_i hm
   rw [if_neg (by rw [NZ] at hm;simpa using hm)]
   obtain ⟨eff,h1,t2,h2,kn2,h3,h4⟩:=AdU htt hNB hg hk
   exact ⟨eff,h1,by rw [h3];exact hrest h4⟩
 ·exact hk.elim
theorem Sr (htt:FX P tt)(hNB:N≤BIG){all:List Oper}{bar:List Nat}{K:Tr→Hp→Prop}:∀{p:F6} {kn:List Nat} {t:Tr} {h:Hp},xp P tt N fb all bar p kn t h K→VP P N fb all.toArray bar (fun env=>∃t h,env=Af t h∧K t h) p (Af t h)
 | .fin,kn,t,h,hk=>⟨t,h,rfl,hk⟩
 | .no,kn,t,h,hk=>trivial
 | .one i p,kn,t,h,hk=>AaO htt hNB (rest:=xp P tt N fb all bar p) (fun hk=>Sr htt hNB hk) hk
 | .alt i p q,kn,t,h,hk=>⟨AaO htt hNB (rest:=xp P tt N fb all bar p) (fun hk=>Sr htt hNB hk) hk.1,Sr htt hNB (p:=q) hk.2⟩
theorem Ri {ops:Array Oper}{bar:List Nat}{K K':Env→Prop}(hK:∀env,K env→K' env):∀{p:F6} {env:Env},VP P N fb ops bar K p env→VP P N fb ops bar K' p env
 | .fin,env,h=>hK env h
 | .no,env,h=>trivial
 | .one i p,env,h=>O4 (fun env h=>Ri hK h) h
 | .alt i p q,env,h=>⟨O4 (fun env h=>Ri hK h) h.1,Ri hK (p:=q) h.2⟩
theorem AoB (htt:FX P tt)(hNB:N≤BIG){id:Nat}{l:List Oper}{K:Tr→Hp→Prop}{Q:Exit→Env→Prop}(hQ:∀t h,K t h→Q .normal (Af t h))(hm:P.follows .mixedOrders=true){bar:List Nat}(hB:Ua fb l.toArray bar=true)
 (hk:Gl (PR (news l)) t fun t=>Nu (news l) t fun t=>xq P tt N fb l bar l 0 [] t h K):VC P N (.region id l.toArray true) (Af t h) Q:=by
 obtain ⟨t1,h1,hk⟩:=II (f:=JP (news l)) rfl AcO hk
 obtain ⟨t2,h2,hds,hk⟩:=U1 hk
 refine Xk (env':=Af t2 h) (fun u=>?_) (Aow bar hm hB ?_)
 ·by_cases hu:u<NAM
  ·rw [CE hu,CE hu,h2,h1]
   by_cases hc:(news l).contains u=true
   ·right;simp only [hc,if_true]
   ·simp only [hc,Bool.false_eq_true,if_false]
    cases t.get u with
    |ref d off=>
     simp only [JP]
     by_cases hd:(news l).contains d=true
     ·right;simp only [hd,if_true]
     ·left;simp only [hd,Bool.false_eq_true,if_false]
    |_=>left;rfl
  ·left;simp only [Af,if_neg hu]
 ·have e:freshen l (Af t2 h)=Af t2 h:=by
   funext u
   unfold freshen
   by_cases hu:u<NAM
   ·rw [CE hu,h2,h1]
    by_cases hc:(news l).contains u=true
    ·simp only [hc,if_true];rfl
    ·simp only [hc,Bool.false_eq_true,if_false]
     cases t.get u with
     |ref d off=>
      simp only [JP]
      by_cases hd:(news l).contains d=true
      ·simp only [hd,if_true];rfl
      ·simp only [hd,Bool.false_eq_true,if_false,Ik]
     |box cs=>simp only [JP,Ik,hc,Bool.false_eq_true,if_false]
     |ubox cs=>simp only [JP,Ik,hc,Bool.false_eq_true,if_false]
     |_=>rfl
   ·simp only [Af,if_neg hu]
    exact Z7 hds hu _
  rw [e]
  have:=XT htt hNB hk
  refine Wx ?_ this
  rintro env ⟨t,h,rfl,hk⟩
  exact hQ t h hk
theorem Ajw (htt:FX P tt)(hNB:N≤BIG){id:Nat}{l:List Oper}{K:Tr→Hp→Prop}{Q:Exit→Env→Prop}(hQ:∀t h,K t h→Q .normal (Af t h))(hm:P.follows .mixedOrders=true){bar:List Nat}{p:F6}(hB:Tm fb l.toArray bar p=true)
 (hk:Gl (PR (news l)) t fun t=>Nu (news l) t fun t=>xp P tt N fb l bar p [] t h K):VC P N (.region id l.toArray true) (Af t h) Q:=by
 obtain ⟨t1,h1,hk⟩:=II (f:=JP (news l)) rfl AcO hk
 obtain ⟨t2,h2,hds,hk⟩:=U1 hk
 refine Xk (env':=Af t2 h) (fun u=>?_) (AkB bar p hm hB ?_)
 ·by_cases hu:u<NAM
  ·rw [CE hu,CE hu,h2,h1]
   by_cases hc:(news l).contains u=true
   ·right;simp only [hc,if_true]
   ·simp only [hc,Bool.false_eq_true,if_false]
    cases t.get u with
    |ref d off=>
     simp only [JP]
     by_cases hd:(news l).contains d=true
     ·right;simp only [hd,if_true]
     ·left;simp only [hd,Bool.false_eq_true,if_false]
    |_=>left;rfl
  ·left;simp only [Af,if_neg hu]
 ·have e:freshen l (Af t2 h)=Af t2 h:=by
   funext u
   unfold freshen
   by_cases hu:u<NAM
   ·rw [CE hu,h2,h1]
    by_cases hc:(news l).contains u=true
    ·simp only [hc,if_true];rfl
    ·simp only [hc,Bool.false_eq_true,if_false]
     cases t.get u with
     |ref d off=>
      simp only [JP]
      by_cases hd:(news l).contains d=true
      ·simp only [hd,if_true];rfl
      ·simp only [hd,Bool.false_eq_true,if_false,Ik]
     |box cs=>simp only [JP,Ik,hc,Bool.false_eq_true,if_false]
     |ubox cs=>simp only [JP,Ik,hc,Bool.false_eq_true,if_false]
     |_=>rfl
   ·simp only [Af,if_neg hu]
    exact Z7 hds hu _
  rw [e]
  have:=Sr htt hNB hk
  refine Ri ?_ this
  rintro env ⟨t,h,rfl,hk⟩
  exact hQ t h hk
end
end Go.Vm
end
