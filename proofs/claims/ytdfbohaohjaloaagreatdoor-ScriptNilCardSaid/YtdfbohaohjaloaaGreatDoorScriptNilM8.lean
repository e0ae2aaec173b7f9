/- Part 8 of what the proof of ScriptNil stands on: HmW, HmX, HmY, HmP, Ft, HmSum, Float, PlaneParts, PlaneOf, PlPlus, PkJoin, FgPl, HmOrc, HmAwk34, FwT, ScNLaw, ScriptNilWalk, LaidS, GtL. -/
import Derived.Test.YtdfbohaohjaloaaGreatDoorProg
import Derived.KernelRfl
import Ieee.Arith
import Derived.Laws.Externs
import Derived.Laws.FloatArith
import Derived.Deep.QuietTactic
import Derived.BigQuiet
import Derived.Lib.LaidTab
import Derived.Stop.LaidErr
import Derived.Below
import Derived.Test.YtdfbohaohjaloaaGreatDoorRows
import Derived.MakeChecks
import Derived.Test.YtdfbohaohjaloaaGreatDoorScriptNilM7
set_option linter.unusedVariables false
set_option linter.unusedSimpArgs false
set_option maxHeartbeats 1000000
section
namespace Go.Rn
open Go.RowKit
open Go.Vm (enters)
set_option linter.unusedSectionVars false
abbrev Orc:=List (FuncId×List V×V)
noncomputable def eqVs (l:List V):List V→Bool:=@List.rec V (fun _=>List V→Bool) (fun m=>match m with
 | []=>true
 | _::_=>false) (fun a _ ih m=>match m with
 | []=>false
 | b::m=>match eqV a b with
  | true=>ih m
  | false=>false) l
theorem eqVs_spec:∀{l m:List V},eqVs l m=true→l=m
 | [],[],_=>rfl
 | [],_::_,h=>by cases h
 | _::_,[],h=>by cases h
 | a::l,b::m,h=>by
  have h:(match eqV a b with | true=>eqVs l m | false=>false)=true:=h
  split at h
  ·rename_i h1;rw [eqV_spec h1,eqVs_spec h]
  ·cases h
noncomputable def orcK (l:Orc)(ck:CK):CK:=@List.rec (FuncId×List V×V) (fun _=>CK) ck (fun e _ ih f vs m n K=>match Nat.beq f e.1 with
 | true=>match eqVs e.2.1 vs with
  | true=>K e.2.2 m n
  | false=>ih f vs m n K
 | false=>ih f vs m n K) l
noncomputable def run (P:Program)(F:Tr Func)(l:Orc)(fuel depth:Nat):CK:=@Nat.rec (fun _=>CK) (fun _ _ _ _ _=>False) (fun _ ck=>orcK l (callB P F (xdrawn P) fuel ck)) depth
section
variable [Cx] {P:Program} {ck:CK}
def OrcOk (P:Program)(l:Orc):Prop:=∀e∈l,enters P e.1=true∧∀h n,CX P e.1 e.2.1 h n e.2.2 h n
theorem orcK_spec (hck:CKok P ck):∀{l:Orc},OrcOk P l→CKok P (orcK l ck)
 | [],_=>hck
 | e::l,hl=>by
  intro f vs m n K h
  have ih:=orcK_spec hck (l:=l) fun x hx=>hl x (List.mem_cons_of_mem _ hx)
  replace h:(match Nat.beq f e.1 with
   | true=>match eqVs e.2.1 vs with
    | true=>K e.2.2 m n
    | false=>orcK l ck f vs m n K
   | false=>orcK l ck f vs m n K):=h
  split at h
  ·rename_i h1
   have h1:=Nat.eq_of_beq_eq_true h1
   split at h
   ·rename_i h2
    have h2:=eqVs_spec h2
    subst h1 h2
    obtain ⟨q1,q2⟩:=hl e (List.mem_cons_self ..)
    exact ⟨_,m,n,q1,q2 _ _,h⟩
   ·exact ih _ _ _ _ _ h
  ·exact ih _ _ _ _ _ h
theorem run_spec {F:Tr Func}(hF:Fok P F){l:Orc}(hl:OrcOk P l){fuel:Nat}:∀{depth:Nat},CKok P (run P F l fuel depth)
 | 0=>fun f vs m n K h=>h.elim
 | d+1=>orcK_spec (callB_spec hF (fun ck h=>xdrawn_spec h) (run_spec hF hl (depth:=d))) hl
end
@[reducible] def trivCx:Cx:=⟨fun base w0 _=>GlobOk base w0,fun _ _ _ h=>h⟩
def noPi (op:Nat→Value):Pi:=⟨fun _=>none,op,[]⟩
theorem mem_none (w:World)(op:Nat→Value)(hG:GlobOk w.heap.size w:=by intro g cs h;cases h):@Mem trivCx w.heap.size w (noPi op) (fun _=>none) 0 w:=by
 letI:=trivCx
 exact ⟨(fun id b h=>by cases h),(fun id id' b b' p p' h=>by cases h),fun _ _=>rfl,(fun id p h=>by cases h),Below.refl _ _,Nat.le_refl _,hG,(fun x h=>by cases h)⟩
theorem known {P:Program}{f:FuncId}{v:V}{u:Value}{h':Hp}{n':Nat}(hr:@CX trivCx P f [] (fun _=>none) 0 v h' n')(hu:toV v=some u)(hc:∀π,Ak π v=some u) [Cx](h:Hp)(n:Nat):CX P f [] h n v h n:=by
 intro base w0 π w us hm hus
 have hus:us= []:=by rw [AB] at hus;injection hus with hus;exact hus.symm
 subst hus
 refine (hr w.heap.size w (noPi π.op) w [] (mem_none w _ (hm.glob.keep (Below.refl _ _) hm.size)) (by rw [AB])).mono ?_
 rintro e w' ⟨π',u',rfl,hle,hm',hv⟩
 have hbl:Below w.heap.size w w':=by
  letI:=trivCx
  exact hm'.below
 have:u'=u:=toV_conc hu hv
 subst this
 exact ⟨π,u',rfl,π.le_refl,hm.keep hbl,hc π⟩
def allF (p:Nat→Func→Prop):Tr Func→Nat→Nat→Prop
 | .leaf,_,_=>True
 | .node v l r,a,b=>(match v with
  | some x=>p b x
  | none=>True)∧allF p l (2*a) (a+b)∧allF p r (2*a) (2*a+b)
theorem allF_get {p:Nat→Func→Prop}:∀{t:Tr Func} {a b n:Nat} {x:Func},allF p t a b→t.get n=some x→p (a*n+b) x
 | .leaf,_,_,_,_,_,h=>by cases h
 | .node v l r,a,b,n,x,⟨h1,h2,h3⟩,h=>by
  rw [get_node] at h
  by_cases h0:n=0
  ·subst h0
   rw [if_pos rfl] at h
   subst h
   simpa using h1
  ·rw [if_neg h0] at h
   by_cases hp:n % 2=1
   ·rw [if_pos hp] at h
    have:=allF_get h2 h
    have e:2*a*(n / 2)+(a+b)=a*n+b:=by
     have:n=2*(n / 2)+1:=by omega
     have h9:a*n=a*(2*(n / 2)+1):=by rw [←this]
     rw [h9,Nat.mul_add,Nat.mul_one,←Nat.mul_assoc,Nat.mul_comm a 2];omega
    rwa [e] at this
   ·rw [if_neg hp] at h
    have:=allF_get h3 h
    have e:2*a*(n / 2-1)+(2*a+b)=a*n+b:=by
     have:n=2*(n / 2-1)+2:=by omega
     have h9:a*n=a*(2*(n / 2-1)+2):=by rw [←this]
     rw [h9,Nat.mul_add,←Nat.mul_assoc,Nat.mul_comm a 2];omega
    rwa [e] at this
abbrev Ah (P : Program) (f : Nat) (fn : Func) : Prop := P.funcs[f]? = some fn ∧ (fn.name != "runtime.NumGoroutine") = true
theorem fok_of {P:Program}{F:Tr Func}(h:allF (Ah P) F 1 0):Fok P F:=fun f fn hf=>by
 have:=allF_get h hf
 rwa [Nat.one_mul] at this
end Go.Rn
end
section
namespace Go.Rn
open Go.RowKit
open Go.Vm (enters Bc Rep D Ap allFrozen Evo Grow Bf)
set_option linter.unusedSectionVars false
def okV (v:V):Bool:=match v with
 | .sc x=>x.oneCell'
 | .agg cs=>cs.all V.one&&(match scL cs with
  | some vs=>vs.all (·.oneCell')
  | none=>false)
 | _=>false
theorem scL_all {π:Pi}:∀{cs:List V} {vs:List Value},scL cs=some vs→vs.all (·.oneCell')=true→AB π cs=some vs
 | [],vs,h,_=>by rw [scL] at h;injection h with h;subst h;rw [AB]
 | .sc v::l,vs,h,ha=>by
  rw [scL] at h
  obtain ⟨vs',h1,rfl⟩:=Option.map_eq_some_iff.1 h
  rw [List.all_cons,Bool.and_eq_true] at ha
  rw [AB,Ak,if_pos ha.1,scL_all h1 ha.2]
 | .agg _::_,_,h,_=>by simp [scL] at h
 | .tup _::_,_,h,_=>by simp [scL] at h
 | .ptr _ _::_,_,h,_=>by simp [scL] at h
 | .sl _ _ _ _ _::_,_,h,_=>by simp [scL] at h
 | .mp _::_,_,h,_=>by simp [scL] at h
 | .it _::_,_,h,_=>by simp [scL] at h
 | .fn _ _::_,_,h,_=>by simp [scL] at h
 | .opq _::_,_,h,_=>by simp [scL] at h
theorem okV_conc {v:V}{u:Value}(h:toV v=some u)(ho:okV v=true)(π:Pi):Ak π v=some u:=by
 cases v with
 | sc x=>rw [toV] at h;injection h with h;subst h;rw [Ak];exact if_pos ho
 | agg cs=>
  rw [toV] at h
  obtain ⟨vs,h1,rfl⟩:=Option.map_eq_some_iff.1 h
  simp only [okV,h1,Bool.and_eq_true] at ho
  rw [Ak,if_pos ho.1,scL_all h1 ho.2];rfl
 | _=>simp [toV] at h
@[reducible] def lawCx (W:World) (OP:Nat→Value):Cx:=⟨fun base w0 op=>base=W.heap.size∧w0=W∧op=OP∧GlobOk base w0,fun _ _ _ h=>h.2.2.2⟩
theorem globW_of [Cx]{base:Nat}{w:World}(h:GlobOk base w)(hs:base≤w.heap.size):Go.Vm.GlobW Go.Vm.allFrozen w:=fun g cs hg=>by
 obtain ⟨h1,h3⟩:=h g cs hg
 exact ⟨by omega,rfl,h3⟩
noncomputable def isV (x v:V):Prop:=match eqV x v with
 | true=>True
 | false=>False
theorem isV_spec {x v:V}(h:isV x v):v=x:=by
 unfold isV at h
 split at h
 ·rename_i h1;exact (eqV_spec h1).symm
 ·exact h.elim
theorem orcOk_nil [Cx]{P:Program}:OrcOk P []:=fun e he=>by cases he
theorem D8 [Cx]{P:Program}{f:FuncId}{vs:List V}{v:V}{l:Orc}(he:enters P f=true)(h:∀hp n,CX P f vs hp n v hp n)(hl:OrcOk P l):OrcOk P ((f,vs,v)::l):=by
 intro e hm
 rcases List.mem_cons.1 hm with rfl | hm
 ·exact ⟨he,h⟩
 ·exact hl e hm
structure Hold (p:Prop):Prop where
 out:p
theorem run_hold [Cx]{P:Program}{F:Tr Func}(hF:Fok P F){l:Orc}(hl:OrcOk P l){fuel depth:Nat}{f:FuncId}{vs:List V}{m:Tr Blk}{n:Nat}{K:V→Tr Blk→Nat→Prop}(h:Hold (run P F l fuel depth f vs m n K)):∃v m' n',enters P f=true∧CX P f vs m.get n v m'.get n'∧K v m' n':=run_spec hF hl (depth:=depth) _ _ _ _ _ h.out
theorem closed_run {P:Program}{F:Tr Func}(hF:Fok P F){l:Orc}(hl:∀[Cx],OrcOk P l){f:FuncId}{x:V}{u:Value}(hr:Hold (run P F l 1000000 1000 f [] .leaf 0 (fun v _ _=>isV x v)))(hu:toV x=some u)(ho:okV x=true):enters P f=true∧∀[Cx] h n,CX P f [] h n x h n:=by
 obtain ⟨v,m',n',q1,q2,q3⟩:=@run_hold trivCx P F hF l (@hl trivCx) 1000000 1000 _ _ _ _ _ hr
 rw [isV_spec q3] at q2
 exact ⟨q1,fun h n=>known q2 hu (okV_conc hu ho) h n⟩
end Go.Rn
end
section
namespace Go.Rn
open Go.RowKit
open Go.Vm (enters Bc Rep D Ap allFrozen Evo Grow Bf BB resS SatC)
theorem contract_known {P:Program}{f:FuncId}{x:V}{u:Value}{d:D}(h:∀[Cx] hp n,CX P f [] hp n x hp n)(hc:∀π,Ak π x=some u)(hr:∀ro w,Rep ro w u d):Bc P f [] [.d d]:=by
 intro ro w vs τ hnew huniq hlen _
 obtain rfl:vs = #[]:=Array.eq_empty_of_size_eq_zero (by simpa using hlen)
 refine (@h trivCx (fun _=>none) 0 w.heap.size w (noPi fun _=>.bool false) w [] (mem_none w _ (fun g cs hg=>by obtain ⟨q1,_,q3⟩:=hnew.glob g cs hg;exact ⟨q1,q3⟩)) (by rw [AB])).mono ?_
 rintro e w' ⟨π',u',rfl,hle,hm,hv⟩
 have hb:Below w.heap.size w w':=by
  letI:=trivCx
  exact hm.below
 rw [hc] at hv
 injection hv with hv
 subst hv
 have hw:∀b,w'.heap.size≤b→ro b=.frozen:=fun b h=>hnew.new b (Nat.le_trans hb.size h)
 exact ⟨u,ro,rfl,⟨hb,fun _ _=>rfl,hw,fun b id k h e=>by rw [hnew.new b h] at e;cases e⟩,hr ro w'⟩
theorem contract_bool {P:Program}{f:FuncId}{b:Bool}(h:∀[Cx] hp n,CX P f [] hp n (.sc (.bool b)) hp n):Bc P f [] [.d (.sc (.bool b))]:=
 contract_known h (fun π=>by rw [Ak];exact if_pos rfl) (fun ro w=>.sc rfl)
theorem reps_plain {ro:Ap}{w:World}:∀{vs:List Value},(∀v∈vs,Go.Vm.Cc v=true)→Bf ro w vs (vs.map .sc):=by
 intro vs h
 refine ⟨by simp,fun u hu=>Go.Vm.plainV_one (h u hu),fun j u c hu hc=>?_⟩
 rw [List.getElem?_map,hu] at hc
 simp only [Option.map_some,Option.some.injEq] at hc
 subst hc
 exact .sc (h u (List.mem_of_getElem? hu))
theorem concL_plain {π:Pi} [Cx]{us:List Value}(h:us.all (·.oneCell')=true):AB π (us.map .sc)=some us:=concL_scs h
end Go.Rn
end
section
namespace Go.Rn
open Go.RowKit
open Go.Vm (enters Bc Rep D C Ap allFrozen Evo Grow Bf Cc plainV_one)
def scD:D→Option Value
 | .sc v=>if Cc v=true then some v else none
 | _=>none
def scDs:List D→Option (List Value)
 | []=>some []
 | d::ds=>match scD d,scDs ds with
  | some v,some vs=>some (v::vs)
  | _,_=>none
def rV:D→Option V
 | .sc v=>if Cc v=true then some (.sc v) else none
 | .agg cs=>(scDs cs).map fun vs=>.agg (vs.map .sc)
 | _=>none
def rVs:List D→Option (List V)
 | []=>some []
 | d::ds=>match rV d,rVs ds with
  | some v,some vs=>some (v::vs)
  | _,_=>none
def cV:C→Option V
 | .d x=>rV x
 | _=>none
def cVs:List C→Option (List V)
 | []=>some []
 | d::ds=>match cV d,cVs ds with
  | some v,some vs=>some (v::vs)
  | _,_=>none
def resV:List C→Option V
 | [c]=>cV c
 | cs=>(cVs cs).map .tup
theorem scD_eq {d:D}{v:Value}(h:scD d=some v):d=.sc v∧Cc v=true:=by
 cases d with
 | sc u=>
  have h:(if Cc u=true then some u else none)=some v:=h
  split at h
  ·rename_i hp;injection h with h;subst h;exact ⟨rfl,hp⟩
  ·cases h
 | _=>cases h
theorem scDs_eq:∀{cs:List D} {vs:List Value},scDs cs=some vs→cs=vs.map .sc∧∀v∈vs,Cc v=true
 | [],vs,h=>by rw [scDs] at h;injection h with h;subst h;exact ⟨rfl,by simp⟩
 | d::ds,vs,h=>by
  rw [scDs] at h
  split at h
  ·rename_i v us h1 h2
   injection h with h;subst h
   obtain ⟨rfl,q1⟩:=scD_eq h1
   obtain ⟨rfl,q2⟩:=scDs_eq h2
   exact ⟨rfl,fun u hu=>by rcases List.mem_cons.1 hu with rfl | hu;exact q1;exact q2 u hu⟩
  ·cases h
theorem conc_agg_sc {π:Pi}{vs:List Value}(h:∀v∈vs,Cc v=true):Ak π (.agg (vs.map .sc))=some (.agg vs.toArray):=by
 letI:=trivCx
 rw [Ak,if_pos (by rw [List.all_map];exact List.all_eq_true.2 fun _ _=>rfl),concL_plain (List.all_eq_true.2 fun v hv=>plainV_one (h v hv))]
 rfl
theorem rV_conc {ro:Ap}{w:World}{d:D}{x:V}{v:Value}(h:rV d=some x)(hr:Rep ro w v d)(π:Pi):Ak π x=some v:=by
 cases d with
 | sc u=>
  have h:(if Cc u=true then some (V.sc u) else none)=some x:=h
  split at h
  ·rename_i hp
   injection h with h;subst h
   obtain ⟨rfl,_⟩:=Go.Vm.rep_sc hr
   rw [Ak];exact if_pos (plainV_one hp)
  ·cases h
 | agg cs=>
  obtain ⟨vs,h1,rfl⟩:=Option.map_eq_some_iff.1 h
  obtain ⟨rfl,h2⟩:=scDs_eq h1
  rw [conc_agg_sc h2]
  obtain ⟨arr,rfl,hl,ho,hq⟩:∃arr:Array Value,v=.agg arr∧arr.size=(vs.map D.sc).length∧(∀u∈arr.toList,u.oneCell'=true)∧∀(i:Nat) (u:Value) (c:D),arr.toList[i]? = some u→(vs.map D.sc)[i]? = some c→Rep ro w u c:=by
   generalize hd:D.agg (vs.map D.sc)=d at hr
   cases hr with
   | agg hl h1 h=>injection hd with hd;subst hd;exact ⟨_,rfl,hl,h1,h⟩
   | _=>cases hd
  congr 2
  apply Array.ext
  ·simpa using hl.symm
  ·intro i h3 h4
   have h5:i<vs.length:=by simpa using h3
   have:=hq i arr[i] (.sc vs[i]) (by simp [h4]) (by rw [List.getElem?_map,List.getElem?_eq_getElem h5];rfl)
   obtain ⟨q,_⟩:=Go.Vm.rep_sc this
   rw [q];simp
 | _=>cases h
theorem rV_rep {ro:Ap}{w:World}{d:D}{x:V}{v:Value}{π:Pi}(h:rV d=some x)(hc:Ak π x=some v):Rep ro w v d:=by
 cases d with
 | sc u=>
  have h:(if Cc u=true then some (V.sc u) else none)=some x:=h
  split at h
  ·rename_i hp
   injection h with h;subst h
   rw [Ak,if_pos (plainV_one hp)] at hc
   injection hc with hc;subst hc
   exact .sc hp
  ·cases h
 | agg cs=>
  obtain ⟨vs,h1,rfl⟩:=Option.map_eq_some_iff.1 h
  obtain ⟨rfl,h2⟩:=scDs_eq h1
  rw [conc_agg_sc h2] at hc
  injection hc with hc;subst hc
  have hr:=reps_plain (ro:=ro) (w:=w) h2
  exact .agg (by simp) (by simpa using fun v hv=>plainV_one (h2 v hv)) (by simpa using hr.2.2)
 | _=>cases h
theorem rVs_rep {ro:Ap}{w:World}{π:Pi}:∀{ds:List D} {vs:List V} {us:List Value},rVs ds=some vs→AB π vs=some us→us.length=ds.length∧∀(i:Nat) (u:Value) (d:D),us[i]? = some u→ds[i]? = some d→Rep ro w u d
 | [],vs,us,h,hc=>by
  rw [rVs] at h;injection h with h;subst h
  rw [AB] at hc;injection hc with hc;subst hc
  exact ⟨rfl,fun i u d h=>by simp at h⟩
 | d::ds,vs,us,h,hc=>by
  rw [rVs] at h
  split at h
  ·rename_i x xs h1 h2
   injection h with h;subst h
   obtain ⟨u,us',k1,k2,rfl⟩:=concL_cons hc
   obtain ⟨q1,q2⟩:=rVs_rep (ro:=ro) (w:=w) h2 k2
   refine ⟨by simp [q1],fun i a b ha hb=>?_⟩
   cases i with
   | zero=>simp at ha hb;subst ha;subst hb;exact rV_rep h1 k1
   | succ i=>exact q2 i a b (by simpa using ha) (by simpa using hb)
  ·cases h
theorem cVs_conc {P:Program}{base:Nat}{ro:Ap}{w:World}{π:Pi}:∀{cs:List C} {xs:List V} {us:List Value},cVs cs=some xs→us.length=cs.length→(∀(i:Nat) (u:Value) (c:C),us[i]? = some u→cs[i]? = some c→Go.Vm.SatC P base ro w u c)→AB π xs=some us
 | [],xs,us,h,hl,_=>by
  rw [cVs] at h;injection h with h;subst h
  obtain rfl:us= []:=List.length_eq_zero_iff.1 (by simpa using hl)
  rw [AB]
 | c::cs,xs,us,h,hl,hs=>by
  rw [cVs] at h
  split at h
  ·rename_i x xs' h1 h2
   injection h with h;subst h
   match us,hl with
   | u::us',hl=>
    have k1:=hs 0 u c rfl rfl
    have k2:Ak π x=some u:=by
     cases c with
     | d d=>exact rV_conc h1 k1 π
     | _=>cases h1
    rw [AB,k2,cVs_conc h2 (by simpa using hl) fun i a b ha hb=>hs (i+1) a b (by simpa using ha) (by simpa using hb)]
  ·cases h
theorem cV_tok {τ:Nat}{c:C}{x:V}(h:cV c=some x):Go.Vm.DN τ c=c:=by cases c<;>first | rfl | cases h
theorem cVs_tok {τ:Nat}:∀{cs:List C} {xs:List V},cVs cs=some xs→cs.map (Go.Vm.DN τ)=cs
 | [],_,_=>rfl
 | c::cs,xs,h=>by
  rw [cVs] at h
  split at h
  ·rename_i x xs' h1 h2
   rw [List.map_cons,cV_tok h1,cVs_tok h2]
  ·cases h
theorem Ee {P:Program}{f:FuncId}{ds:List D}{vs:List V}{cs:List C}{x:V}(hd:rVs ds=some vs)(hx:resV cs=some x)(hc:Bc P f ds cs) [Cx](h:Hp)(n:Nat):CX P f vs h n x h n:=by
 intro base w0 π w us' hm hus'
 obtain ⟨q1,q2⟩:=rVs_rep (ro:=Go.Vm.allFrozen) (w:=w) hd hus'
 refine (hc Go.Vm.allFrozen w us'.toArray 0 ⟨fun _ _=>rfl,globW_of hm.glob hm.size⟩ (fun b b' id k k' h=>by cases h) (by simpa using q1) (fun i u d h2 h3=>q2 i u d (by simpa using h2) h3)).mono ?_
 rintro e w' ⟨y,ro',rfl,hg,hs⟩
 refine ⟨π,y,rfl,π.le_refl,hm.keep hg.below,?_⟩
 match cs,hx,hs with
 | [],hx,hs=>
  have hx:(cVs []).map V.tup=some x:=hx
  obtain ⟨xs,k1,rfl⟩:=Option.map_eq_some_iff.1 hx
  have hs:∃arr:Array Value,y=.tuple arr∧arr.size=0∧∀(i:Nat) (u:Value) (a:C),arr.toList[i]? = some u→([]:List C)[i]? = some a→Go.Vm.SatC P w.heap.size ro' w' u a:=hs
  obtain ⟨arr,rfl,k2,k3⟩:=hs
  rw [Ak,cVs_conc k1 (us:=arr.toList) (by simpa using k2) k3];simp
 | [c],hx,hs=>
  have hx:cV c=some x:=hx
  have hs:Go.Vm.SatC P w.heap.size ro' w' y (Go.Vm.DN 0 c):=hs
  rw [cV_tok hx] at hs
  cases c with
  | d d=>exact rV_conc hx hs π
  | _=>cases hx
 | c::c'::l,hx,hs=>
  have hx:(cVs (c::c'::l)).map V.tup=some x:=hx
  obtain ⟨xs,k1,rfl⟩:=Option.map_eq_some_iff.1 hx
  have e:=cVs_tok (τ:=0) k1
  have hs:∃arr:Array Value,y=.tuple arr∧arr.size=((c::c'::l).map (Go.Vm.DN 0)).length∧∀(i:Nat) (u:Value) (a:C),arr.toList[i]? = some u→((c::c'::l).map (Go.Vm.DN 0))[i]? = some a→Go.Vm.SatC P w.heap.size ro' w' u a:=hs
  rw [e] at hs
  obtain ⟨arr,rfl,k2,k3⟩:=hs
  rw [Ak,cVs_conc k1 (us:=arr.toList) (by simpa using k2) k3];simp
end Go.Rn
end
section
namespace Go.Rn
open Go.Proofs.Tryz
open Go.RowKit
theorem fo7:Ah prog 7 f7:=⟨func7,by kernel_rfl⟩
theorem fo9:Ah prog 9 f9:=⟨func9,by kernel_rfl⟩
theorem fo13:Ah prog 13 f13:=⟨func13,by kernel_rfl⟩
theorem fo14:Ah prog 14 f14:=⟨func14,by kernel_rfl⟩
theorem fo16:Ah prog 16 f16:=⟨func16,by kernel_rfl⟩
theorem fo17:Ah prog 17 f17:=⟨func17,by kernel_rfl⟩
theorem fo23:Ah prog 23 f23:=⟨func23,by kernel_rfl⟩
theorem fo24:Ah prog 24 f24:=⟨func24,by kernel_rfl⟩
theorem fo28:Ah prog 28 f28:=⟨func28,by kernel_rfl⟩
theorem fo29:Ah prog 29 f29:=⟨func29,by kernel_rfl⟩
theorem fo31:Ah prog 31 f31:=⟨func31,by kernel_rfl⟩
theorem fo32:Ah prog 32 f32:=⟨func32,by kernel_rfl⟩
theorem fo39:Ah prog 39 f39:=⟨func39,by kernel_rfl⟩
theorem fo40:Ah prog 40 f40:=⟨func40,by kernel_rfl⟩
theorem fo41:Ah prog 41 f41:=⟨func41,by kernel_rfl⟩
theorem fo42:Ah prog 42 f42:=⟨func42,by kernel_rfl⟩
theorem fo43:Ah prog 43 f43:=⟨func43,by kernel_rfl⟩
theorem fo45:Ah prog 45 f45:=⟨func45,by kernel_rfl⟩
theorem fo54:Ah prog 54 f54:=⟨func54,by kernel_rfl⟩
theorem fo55:Ah prog 55 f55:=⟨func55,by kernel_rfl⟩
theorem fo60:Ah prog 60 f60:=⟨func60,by kernel_rfl⟩
theorem fo62:Ah prog 62 f62:=⟨func62,by kernel_rfl⟩
theorem fo64:Ah prog 64 f64:=⟨func64,by kernel_rfl⟩
theorem fo65:Ah prog 65 f65:=⟨func65,by kernel_rfl⟩
theorem fo75:Ah prog 75 f75:=⟨func75,by kernel_rfl⟩
theorem fo83:Ah prog 83 f83:=⟨func83,by kernel_rfl⟩
theorem fo84:Ah prog 84 f84:=⟨func84,by kernel_rfl⟩
theorem fo85:Ah prog 85 f85:=⟨func85,by kernel_rfl⟩
theorem fo99:Ah prog 99 f99:=⟨func99,by kernel_rfl⟩
theorem fo100:Ah prog 100 f100:=⟨func100,by kernel_rfl⟩
theorem fo101:Ah prog 101 f101:=⟨func101,by kernel_rfl⟩
theorem fo102:Ah prog 102 f102:=⟨func102,by kernel_rfl⟩
theorem fo103:Ah prog 103 f103:=⟨func103,by kernel_rfl⟩
theorem fo104:Ah prog 104 f104:=⟨func104,by kernel_rfl⟩
theorem fo105:Ah prog 105 f105:=⟨func105,by kernel_rfl⟩
theorem fo106:Ah prog 106 f106:=⟨func106,by kernel_rfl⟩
theorem fo109:Ah prog 109 f109:=⟨func109,by kernel_rfl⟩
theorem fo112:Ah prog 112 f112:=⟨func112,by kernel_rfl⟩
theorem fo114:Ah prog 114 f114:=⟨func114,by kernel_rfl⟩
theorem fo115:Ah prog 115 f115:=⟨func115,by kernel_rfl⟩
theorem fo117:Ah prog 117 f117:=⟨func117,by kernel_rfl⟩
theorem fo127:Ah prog 127 f127:=⟨func127,by kernel_rfl⟩
theorem fo130:Ah prog 130 f130:=⟨func130,by kernel_rfl⟩
theorem fo131:Ah prog 131 f131:=⟨func131,by kernel_rfl⟩
theorem fo134:Ah prog 134 f134:=⟨func134,by kernel_rfl⟩
theorem fo135:Ah prog 135 f135:=⟨func135,by kernel_rfl⟩
theorem fo140:Ah prog 140 f140:=⟨func140,by kernel_rfl⟩
theorem fo141:Ah prog 141 f141:=⟨func141,by kernel_rfl⟩
theorem fo154:Ah prog 154 f154:=⟨func154,by kernel_rfl⟩
theorem fo156:Ah prog 156 f156:=⟨func156,by kernel_rfl⟩
theorem fo157:Ah prog 157 f157:=⟨func157,by kernel_rfl⟩
theorem fo158:Ah prog 158 f158:=⟨func158,by kernel_rfl⟩
theorem fo159:Ah prog 159 f159:=⟨func159,by kernel_rfl⟩
theorem fo160:Ah prog 160 f160:=⟨func160,by kernel_rfl⟩
theorem fo164:Ah prog 164 f164:=⟨func164,by kernel_rfl⟩
theorem fo165:Ah prog 165 f165:=⟨func165,by kernel_rfl⟩
theorem fo169:Ah prog 169 f169:=⟨func169,by kernel_rfl⟩
theorem fo170:Ah prog 170 f170:=⟨func170,by kernel_rfl⟩
theorem fo171:Ah prog 171 f171:=⟨func171,by kernel_rfl⟩
theorem fo172:Ah prog 172 f172:=⟨func172,by kernel_rfl⟩
theorem fo173:Ah prog 173 f173:=⟨func173,by kernel_rfl⟩
theorem fo174:Ah prog 174 f174:=⟨func174,by kernel_rfl⟩
theorem fo175:Ah prog 175 f175:=⟨func175,by kernel_rfl⟩
theorem fo176:Ah prog 176 f176:=⟨func176,by kernel_rfl⟩
theorem fo177:Ah prog 177 f177:=⟨func177,by kernel_rfl⟩
theorem fo185:Ah prog 185 f185:=⟨func185,by kernel_rfl⟩
theorem fo200:Ah prog 200 f200:=⟨func200,by kernel_rfl⟩
theorem fo201:Ah prog 201 f201:=⟨func201,by kernel_rfl⟩
theorem fo202:Ah prog 202 f202:=⟨func202,by kernel_rfl⟩
theorem fo203:Ah prog 203 f203:=⟨func203,by kernel_rfl⟩
theorem fo208:Ah prog 208 f208:=⟨func208,by kernel_rfl⟩
theorem fo209:Ah prog 209 f209:=⟨func209,by kernel_rfl⟩
theorem fo210:Ah prog 210 f210:=⟨func210,by kernel_rfl⟩
theorem fo211:Ah prog 211 f211:=⟨func211,by kernel_rfl⟩
theorem fo212:Ah prog 212 f212:=⟨func212,by kernel_rfl⟩
theorem fo213:Ah prog 213 f213:=⟨func213,by kernel_rfl⟩
theorem fo215:Ah prog 215 f215:=⟨func215,by kernel_rfl⟩
theorem fo219:Ah prog 219 f219:=⟨func219,by kernel_rfl⟩
theorem fo220:Ah prog 220 f220:=⟨func220,by kernel_rfl⟩
theorem fo229:Ah prog 229 f229:=⟨func229,by kernel_rfl⟩
theorem fo230:Ah prog 230 f230:=⟨func230,by kernel_rfl⟩
theorem fo231:Ah prog 231 f231:=⟨func231,by kernel_rfl⟩
theorem fo232:Ah prog 232 f232:=⟨func232,by kernel_rfl⟩
theorem fo233:Ah prog 233 f233:=⟨func233,by kernel_rfl⟩
theorem fo234:Ah prog 234 f234:=⟨func234,by kernel_rfl⟩
theorem fo235:Ah prog 235 f235:=⟨func235,by kernel_rfl⟩
theorem fo236:Ah prog 236 f236:=⟨func236,by kernel_rfl⟩
theorem fo237:Ah prog 237 f237:=⟨func237,by kernel_rfl⟩
theorem fo238:Ah prog 238 f238:=⟨func238,by kernel_rfl⟩
theorem fo250:Ah prog 250 f250:=⟨func250,by kernel_rfl⟩
theorem fo251:Ah prog 251 f251:=⟨func251,by kernel_rfl⟩
theorem fo252:Ah prog 252 f252:=⟨func252,by kernel_rfl⟩
theorem fo253:Ah prog 253 f253:=⟨func253,by kernel_rfl⟩
theorem fo254:Ah prog 254 f254:=⟨func254,by kernel_rfl⟩
theorem fo255:Ah prog 255 f255:=⟨func255,by kernel_rfl⟩
theorem fo256:Ah prog 256 f256:=⟨func256,by kernel_rfl⟩
theorem fo257:Ah prog 257 f257:=⟨func257,by kernel_rfl⟩
theorem fo258:Ah prog 258 f258:=⟨func258,by kernel_rfl⟩
theorem fo259:Ah prog 259 f259:=⟨func259,by kernel_rfl⟩
theorem fo260:Ah prog 260 f260:=⟨func260,by kernel_rfl⟩
theorem fo261:Ah prog 261 f261:=⟨func261,by kernel_rfl⟩
theorem fo262:Ah prog 262 f262:=⟨func262,by kernel_rfl⟩
theorem fo263:Ah prog 263 f263:=⟨func263,by kernel_rfl⟩
theorem fo272:Ah prog 272 f272:=⟨func272,by kernel_rfl⟩
theorem fo274:Ah prog 274 f274:=⟨func274,by kernel_rfl⟩
theorem fo275:Ah prog 275 f275:=⟨func275,by kernel_rfl⟩
theorem fo285:Ah prog 285 f285:=⟨func285,by kernel_rfl⟩
theorem fo287:Ah prog 287 f287:=⟨func287,by kernel_rfl⟩
theorem fo292:Ah prog 292 f292:=⟨func292,by kernel_rfl⟩
theorem fo293:Ah prog 293 f293:=⟨func293,by kernel_rfl⟩
theorem fo294:Ah prog 294 f294:=⟨func294,by kernel_rfl⟩
theorem fo295:Ah prog 295 f295:=⟨func295,by kernel_rfl⟩
theorem fo296:Ah prog 296 f296:=⟨func296,by kernel_rfl⟩
theorem fo299:Ah prog 299 f299:=⟨func299,by kernel_rfl⟩
theorem fo300:Ah prog 300 f300:=⟨func300,by kernel_rfl⟩
theorem fo301:Ah prog 301 f301:=⟨func301,by kernel_rfl⟩
theorem fo302:Ah prog 302 f302:=⟨func302,by kernel_rfl⟩
theorem fo303:Ah prog 303 f303:=⟨func303,by kernel_rfl⟩
theorem fo304:Ah prog 304 f304:=⟨func304,by kernel_rfl⟩
theorem fo305:Ah prog 305 f305:=⟨func305,by kernel_rfl⟩
theorem fo306:Ah prog 306 f306:=⟨func306,by kernel_rfl⟩
theorem fo307:Ah prog 307 f307:=⟨func307,by kernel_rfl⟩
theorem fo309:Ah prog 309 f309:=⟨func309,by kernel_rfl⟩
theorem fo310:Ah prog 310 f310:=⟨func310,by kernel_rfl⟩
theorem fo311:Ah prog 311 f311:=⟨func311,by kernel_rfl⟩
theorem fo312:Ah prog 312 f312:=⟨func312,by kernel_rfl⟩
theorem fo314:Ah prog 314 f314:=⟨func314,by kernel_rfl⟩
theorem fo323:Ah prog 323 f323:=⟨func323,by kernel_rfl⟩
theorem fo324:Ah prog 324 f324:=⟨func324,by kernel_rfl⟩
theorem fo325:Ah prog 325 f325:=⟨func325,by kernel_rfl⟩
theorem fo329:Ah prog 329 f329:=⟨func329,by kernel_rfl⟩
theorem fo330:Ah prog 330 f330:=⟨func330,by kernel_rfl⟩
theorem fo331:Ah prog 331 f331:=⟨func331,by kernel_rfl⟩
theorem fo338:Ah prog 338 f338:=⟨func338,by kernel_rfl⟩
theorem fo343:Ah prog 343 f343:=⟨func343,by kernel_rfl⟩
theorem fo346:Ah prog 346 f346:=⟨func346,by kernel_rfl⟩
theorem fo347:Ah prog 347 f347:=⟨func347,by kernel_rfl⟩
theorem fo348:Ah prog 348 f348:=⟨func348,by kernel_rfl⟩
theorem fo349:Ah prog 349 f349:=⟨func349,by kernel_rfl⟩
theorem fo350:Ah prog 350 f350:=⟨func350,by kernel_rfl⟩
theorem fo351:Ah prog 351 f351:=⟨func351,by kernel_rfl⟩
theorem fo352:Ah prog 352 f352:=⟨func352,by kernel_rfl⟩
theorem fo353:Ah prog 353 f353:=⟨func353,by kernel_rfl⟩
theorem fo354:Ah prog 354 f354:=⟨func354,by kernel_rfl⟩
theorem fo355:Ah prog 355 f355:=⟨func355,by kernel_rfl⟩
theorem fo356:Ah prog 356 f356:=⟨func356,by kernel_rfl⟩
theorem fo357:Ah prog 357 f357:=⟨func357,by kernel_rfl⟩
theorem fo358:Ah prog 358 f358:=⟨func358,by kernel_rfl⟩
theorem fo359:Ah prog 359 f359:=⟨func359,by kernel_rfl⟩
theorem fo367:Ah prog 367 f367:=⟨func367,by kernel_rfl⟩
theorem fo368:Ah prog 368 f368:=⟨func368,by kernel_rfl⟩
theorem fo372:Ah prog 372 f372:=⟨func372,by kernel_rfl⟩
theorem fo373:Ah prog 373 f373:=⟨func373,by kernel_rfl⟩
theorem fo374:Ah prog 374 f374:=⟨func374,by kernel_rfl⟩
theorem fo375:Ah prog 375 f375:=⟨func375,by kernel_rfl⟩
theorem fo376:Ah prog 376 f376:=⟨func376,by kernel_rfl⟩
theorem fo377:Ah prog 377 f377:=⟨func377,by kernel_rfl⟩
theorem fo378:Ah prog 378 f378:=⟨func378,by kernel_rfl⟩
theorem fo379:Ah prog 379 f379:=⟨func379,by kernel_rfl⟩
theorem fo382:Ah prog 382 f382:=⟨func382,by kernel_rfl⟩
theorem fo391:Ah prog 391 f391:=⟨func391,by kernel_rfl⟩
theorem fo392:Ah prog 392 f392:=⟨func392,by kernel_rfl⟩
theorem fo394:Ah prog 394 f394:=⟨func394,by kernel_rfl⟩
theorem fo399:Ah prog 399 f399:=⟨func399,by kernel_rfl⟩
theorem fo401:Ah prog 401 f401:=⟨func401,by kernel_rfl⟩
theorem fo402:Ah prog 402 f402:=⟨func402,by kernel_rfl⟩
theorem fo403:Ah prog 403 f403:=⟨func403,by kernel_rfl⟩
theorem fo404:Ah prog 404 f404:=⟨func404,by kernel_rfl⟩
theorem fo405:Ah prog 405 f405:=⟨func405,by kernel_rfl⟩
theorem fo406:Ah prog 406 f406:=⟨func406,by kernel_rfl⟩
theorem fo407:Ah prog 407 f407:=⟨func407,by kernel_rfl⟩
theorem fo415:Ah prog 415 f415:=⟨func415,by kernel_rfl⟩
theorem fo420:Ah prog 420 f420:=⟨func420,by kernel_rfl⟩
theorem fo421:Ah prog 421 f421:=⟨func421,by kernel_rfl⟩
theorem fo423:Ah prog 423 f423:=⟨func423,by kernel_rfl⟩
theorem fo424:Ah prog 424 f424:=⟨func424,by kernel_rfl⟩
theorem fo441:Ah prog 441 f441:=⟨func441,by kernel_rfl⟩
noncomputable def ft:Tr Func:=(.node none (.node none (.node none (.node (some f7) (.node none (.node (some f31) (.node none (.node (some f127) (.node (some f255) .leaf .leaf) .leaf) .leaf) (.node none (.node (some f159) (.node (some f287) .leaf .leaf) (.node (some f415) .leaf .leaf)) (.node none (.node (some f351) .leaf .leaf) .leaf))) (.node none (.node none (.node none .leaf (.node (some f399) .leaf .leaf)) .leaf) (.node none (.node (some f175) (.node (some f303) .leaf .leaf) .leaf) (.node none (.node (some f367) .leaf .leaf) .leaf)))) (.node (some f23) (.node (some f39) (.node none (.node (some f135) (.node (some f263) .leaf .leaf) (.node (some f391) .leaf .leaf)) .leaf) (.node (some f103) (.node none (.node (some f295) .leaf .leaf) (.node (some f423) .leaf .leaf)) (.node (some f231) (.node (some f359) .leaf .leaf) .leaf))) (.node (some f55) (.node none (.node none .leaf (.node (some f407) .leaf .leaf)) (.node (some f215) (.node (some f343) .leaf .leaf) .leaf)) (.node none (.node none (.node (some f311) .leaf .leaf) .leaf) (.node none (.node (some f375) .leaf .leaf) .leaf))))) (.node none (.node none (.node none (.node none (.node (some f131) (.node (some f259) .leaf .leaf) .leaf) (.node none (.node (some f323) .leaf .leaf) .leaf)) (.node (some f99) .leaf (.node none (.node (some f355) .leaf .leaf) .leaf))) (.node none (.node (some f83) (.node none (.node (some f275) .leaf .leaf) (.node (some f403) .leaf .leaf)) (.node (some f211) .leaf .leaf)) (.node (some f115) (.node none (.node (some f307) .leaf .leaf) .leaf) .leaf))) (.node none (.node (some f43) (.node (some f75) .leaf (.node (some f203) (.node (some f331) .leaf .leaf) .leaf)) (.node none (.node (some f171) (.node (some f299) .leaf .leaf) .leaf) (.node (some f235) .leaf .leaf))) (.node none (.node none .leaf (.node (some f219) (.node (some f347) .leaf .leaf) .leaf)) (.node none .leaf (.node (some f251) (.node (some f379) .leaf .leaf) .leaf)))))) (.node none (.node (some f9) (.node (some f17) (.node none (.node (some f65) (.node none (.node (some f257) .leaf .leaf) .leaf) .leaf) (.node none .leaf (.node none (.node (some f353) .leaf .leaf) .leaf))) (.node none (.node none (.node none .leaf (.node (some f401) .leaf .leaf)) (.node (some f209) .leaf .leaf)) (.node none (.node (some f177) (.node (some f305) .leaf .leaf) .leaf) .leaf))) (.node none (.node (some f41) (.node none .leaf (.node (some f201) (.node (some f329) .leaf .leaf) .leaf)) (.node (some f105) (.node (some f169) .leaf .leaf) (.node (some f233) .leaf .leaf))) (.node none .leaf (.node none (.node (some f185) .leaf (.node (some f441) .leaf .leaf)) (.node none (.node (some f377) .leaf .leaf) .leaf))))) (.node (some f13) (.node none (.node none (.node none (.node none (.node (some f261) .leaf .leaf) .leaf) (.node none (.node (some f325) .leaf .leaf) .leaf)) (.node (some f101) (.node (some f165) (.node (some f293) .leaf .leaf) (.node (some f421) .leaf .leaf)) (.node (some f229) (.node (some f357) .leaf .leaf) .leaf))) (.node none (.node (some f85) (.node none .leaf (.node (some f405) .leaf .leaf)) (.node (some f213) .leaf .leaf)) (.node (some f117) (.node none (.node (some f309) .leaf .leaf) .leaf) (.node none (.node (some f373) .leaf .leaf) .leaf)))) (.node (some f29) (.node (some f45) (.node none (.node (some f141) .leaf .leaf) .leaf) (.node (some f109) (.node (some f173) (.node (some f301) .leaf .leaf) .leaf) (.node (some f237) .leaf .leaf))) (.node none (.node none (.node (some f157) (.node (some f285) .leaf .leaf) .leaf) (.node none (.node (some f349) .leaf .leaf) .leaf)) (.node none .leaf (.node (some f253) .leaf .leaf))))))) (.node none (.node none (.node none (.node (some f16) (.node (some f32) (.node (some f64) (.node none (.node (some f256) .leaf .leaf) .leaf) .leaf) (.node none (.node (some f160) .leaf .leaf) (.node none (.node (some f352) .leaf .leaf) .leaf))) (.node none (.node none (.node none (.node (some f272) .leaf .leaf) .leaf) (.node (some f208) .leaf .leaf)) (.node (some f112) (.node (some f176) (.node (some f304) .leaf .leaf) .leaf) (.node none (.node (some f368) .leaf .leaf) .leaf)))) (.node (some f24) (.node (some f40) (.node none (.node none .leaf (.node (some f392) .leaf .leaf)) (.node (some f200) .leaf .leaf)) (.node (some f104) (.node none (.node (some f296) .leaf .leaf) (.node (some f424) .leaf .leaf)) (.node (some f232) .leaf .leaf))) (.node none .leaf (.node none (.node none (.node (some f312) .leaf .leaf) .leaf) (.node none (.node (some f376) .leaf .leaf) .leaf))))) (.node none (.node none (.node none (.node none (.node none (.node (some f260) .leaf .leaf) .leaf) (.node none (.node (some f324) .leaf .leaf) .leaf)) (.node (some f100) (.node (some f164) (.node (some f292) .leaf .leaf) (.node (some f420) .leaf .leaf)) (.node none (.node (some f356) .leaf .leaf) .leaf))) (.node none (.node (some f84) (.node none .leaf (.node (some f404) .leaf .leaf)) (.node (some f212) .leaf .leaf)) (.node none .leaf (.node none (.node (some f372) .leaf .leaf) .leaf)))) (.node (some f28) (.node none (.node none (.node (some f140) .leaf .leaf) .leaf) (.node none (.node (some f172) (.node (some f300) .leaf .leaf) .leaf) (.node (some f236) .leaf .leaf))) (.node (some f60) (.node none (.node (some f156) .leaf .leaf) (.node (some f220) (.node (some f348) .leaf .leaf) .leaf)) (.node none .leaf (.node (some f252) .leaf .leaf)))))) (.node none (.node none (.node none (.node none (.node none (.node (some f130) (.node (some f258) .leaf .leaf) .leaf) .leaf) (.node none .leaf (.node none (.node (some f354) .leaf .leaf) .leaf))) (.node none (.node none (.node none (.node (some f274) .leaf .leaf) (.node (some f402) .leaf .leaf)) (.node (some f210) (.node (some f338) .leaf .leaf) .leaf)) (.node (some f114) (.node none (.node (some f306) .leaf .leaf) .leaf) .leaf))) (.node none (.node (some f42) (.node none (.node none .leaf (.node (some f394) .leaf .leaf)) (.node (some f202) (.node (some f330) .leaf .leaf) .leaf)) (.node (some f106) (.node (some f170) .leaf .leaf) (.node (some f234) .leaf .leaf))) (.node none (.node none (.node (some f154) .leaf .leaf) (.node none (.node (some f346) .leaf .leaf) .leaf)) (.node none (.node none (.node (some f314) .leaf .leaf) .leaf) (.node (some f250) (.node (some f378) .leaf .leaf) .leaf))))) (.node (some f14) (.node none (.node none (.node none (.node (some f134) (.node (some f262) .leaf .leaf) .leaf) .leaf) (.node (some f102) (.node none (.node (some f294) .leaf .leaf) .leaf) (.node (some f230) (.node (some f358) .leaf .leaf) .leaf))) (.node (some f54) (.node none (.node none .leaf (.node (some f406) .leaf .leaf)) .leaf) (.node none (.node none (.node (some f310) .leaf .leaf) .leaf) (.node none (.node (some f374) .leaf .leaf) .leaf)))) (.node none (.node none .leaf (.node none (.node (some f174) (.node (some f302) .leaf .leaf) .leaf) (.node (some f238) .leaf .leaf))) (.node (some f62) (.node none (.node (some f158) .leaf .leaf) (.node none (.node (some f350) .leaf .leaf) .leaf)) (.node none .leaf (.node (some f254) (.node (some f382) .leaf .leaf) .leaf))))))))
theorem ft_ok:Fok prog ft:=fok_of (⟨trivial,⟨trivial,⟨trivial,⟨fo7,⟨trivial,⟨fo31,⟨trivial,⟨fo127,⟨fo255,trivial,trivial⟩,trivial⟩,trivial⟩,⟨trivial,⟨fo159,⟨fo287,trivial,trivial⟩,⟨fo415,trivial,trivial⟩⟩,⟨trivial,⟨fo351,trivial,trivial⟩,trivial⟩⟩⟩,⟨trivial,⟨trivial,⟨trivial,trivial,⟨fo399,trivial,trivial⟩⟩,trivial⟩,⟨trivial,⟨fo175,⟨fo303,trivial,trivial⟩,trivial⟩,⟨trivial,⟨fo367,trivial,trivial⟩,trivial⟩⟩⟩⟩,⟨fo23,⟨fo39,⟨trivial,⟨fo135,⟨fo263,trivial,trivial⟩,⟨fo391,trivial,trivial⟩⟩,trivial⟩,⟨fo103,⟨trivial,⟨fo295,trivial,trivial⟩,⟨fo423,trivial,trivial⟩⟩,⟨fo231,⟨fo359,trivial,trivial⟩,trivial⟩⟩⟩,⟨fo55,⟨trivial,⟨trivial,trivial,⟨fo407,trivial,trivial⟩⟩,⟨fo215,⟨fo343,trivial,trivial⟩,trivial⟩⟩,⟨trivial,⟨trivial,⟨fo311,trivial,trivial⟩,trivial⟩,⟨trivial,⟨fo375,trivial,trivial⟩,trivial⟩⟩⟩⟩⟩,⟨trivial,⟨trivial,⟨trivial,⟨trivial,⟨fo131,⟨fo259,trivial,trivial⟩,trivial⟩,⟨trivial,⟨fo323,trivial,trivial⟩,trivial⟩⟩,⟨fo99,trivial,⟨trivial,⟨fo355,trivial,trivial⟩,trivial⟩⟩⟩,⟨trivial,⟨fo83,⟨trivial,⟨fo275,trivial,trivial⟩,⟨fo403,trivial,trivial⟩⟩,⟨fo211,trivial,trivial⟩⟩,⟨fo115,⟨trivial,⟨fo307,trivial,trivial⟩,trivial⟩,trivial⟩⟩⟩,⟨trivial,⟨fo43,⟨fo75,trivial,⟨fo203,⟨fo331,trivial,trivial⟩,trivial⟩⟩,⟨trivial,⟨fo171,⟨fo299,trivial,trivial⟩,trivial⟩,⟨fo235,trivial,trivial⟩⟩⟩,⟨trivial,⟨trivial,trivial,⟨fo219,⟨fo347,trivial,trivial⟩,trivial⟩⟩,⟨trivial,trivial,⟨fo251,⟨fo379,trivial,trivial⟩,trivial⟩⟩⟩⟩⟩⟩,⟨trivial,⟨fo9,⟨fo17,⟨trivial,⟨fo65,⟨trivial,⟨fo257,trivial,trivial⟩,trivial⟩,trivial⟩,⟨trivial,trivial,⟨trivial,⟨fo353,trivial,trivial⟩,trivial⟩⟩⟩,⟨trivial,⟨trivial,⟨trivial,trivial,⟨fo401,trivial,trivial⟩⟩,⟨fo209,trivial,trivial⟩⟩,⟨trivial,⟨fo177,⟨fo305,trivial,trivial⟩,trivial⟩,trivial⟩⟩⟩,⟨trivial,⟨fo41,⟨trivial,trivial,⟨fo201,⟨fo329,trivial,trivial⟩,trivial⟩⟩,⟨fo105,⟨fo169,trivial,trivial⟩,⟨fo233,trivial,trivial⟩⟩⟩,⟨trivial,trivial,⟨trivial,⟨fo185,trivial,⟨fo441,trivial,trivial⟩⟩,⟨trivial,⟨fo377,trivial,trivial⟩,trivial⟩⟩⟩⟩⟩,⟨fo13,⟨trivial,⟨trivial,⟨trivial,⟨trivial,⟨fo261,trivial,trivial⟩,trivial⟩,⟨trivial,⟨fo325,trivial,trivial⟩,trivial⟩⟩,⟨fo101,⟨fo165,⟨fo293,trivial,trivial⟩,⟨fo421,trivial,trivial⟩⟩,⟨fo229,⟨fo357,trivial,trivial⟩,trivial⟩⟩⟩,⟨trivial,⟨fo85,⟨trivial,trivial,⟨fo405,trivial,trivial⟩⟩,⟨fo213,trivial,trivial⟩⟩,⟨fo117,⟨trivial,⟨fo309,trivial,trivial⟩,trivial⟩,⟨trivial,⟨fo373,trivial,trivial⟩,trivial⟩⟩⟩⟩,⟨fo29,⟨fo45,⟨trivial,⟨fo141,trivial,trivial⟩,trivial⟩,⟨fo109,⟨fo173,⟨fo301,trivial,trivial⟩,trivial⟩,⟨fo237,trivial,trivial⟩⟩⟩,⟨trivial,⟨trivial,⟨fo157,⟨fo285,trivial,trivial⟩,trivial⟩,⟨trivial,⟨fo349,trivial,trivial⟩,trivial⟩⟩,⟨trivial,trivial,⟨fo253,trivial,trivial⟩⟩⟩⟩⟩⟩⟩,⟨trivial,⟨trivial,⟨trivial,⟨fo16,⟨fo32,⟨fo64,⟨trivial,⟨fo256,trivial,trivial⟩,trivial⟩,trivial⟩,⟨trivial,⟨fo160,trivial,trivial⟩,⟨trivial,⟨fo352,trivial,trivial⟩,trivial⟩⟩⟩,⟨trivial,⟨trivial,⟨trivial,⟨fo272,trivial,trivial⟩,trivial⟩,⟨fo208,trivial,trivial⟩⟩,⟨fo112,⟨fo176,⟨fo304,trivial,trivial⟩,trivial⟩,⟨trivial,⟨fo368,trivial,trivial⟩,trivial⟩⟩⟩⟩,⟨fo24,⟨fo40,⟨trivial,⟨trivial,trivial,⟨fo392,trivial,trivial⟩⟩,⟨fo200,trivial,trivial⟩⟩,⟨fo104,⟨trivial,⟨fo296,trivial,trivial⟩,⟨fo424,trivial,trivial⟩⟩,⟨fo232,trivial,trivial⟩⟩⟩,⟨trivial,trivial,⟨trivial,⟨trivial,⟨fo312,trivial,trivial⟩,trivial⟩,⟨trivial,⟨fo376,trivial,trivial⟩,trivial⟩⟩⟩⟩⟩,⟨trivial,⟨trivial,⟨trivial,⟨trivial,⟨trivial,⟨fo260,trivial,trivial⟩,trivial⟩,⟨trivial,⟨fo324,trivial,trivial⟩,trivial⟩⟩,⟨fo100,⟨fo164,⟨fo292,trivial,trivial⟩,⟨fo420,trivial,trivial⟩⟩,⟨trivial,⟨fo356,trivial,trivial⟩,trivial⟩⟩⟩,⟨trivial,⟨fo84,⟨trivial,trivial,⟨fo404,trivial,trivial⟩⟩,⟨fo212,trivial,trivial⟩⟩,⟨trivial,trivial,⟨trivial,⟨fo372,trivial,trivial⟩,trivial⟩⟩⟩⟩,⟨fo28,⟨trivial,⟨trivial,⟨fo140,trivial,trivial⟩,trivial⟩,⟨trivial,⟨fo172,⟨fo300,trivial,trivial⟩,trivial⟩,⟨fo236,trivial,trivial⟩⟩⟩,⟨fo60,⟨trivial,⟨fo156,trivial,trivial⟩,⟨fo220,⟨fo348,trivial,trivial⟩,trivial⟩⟩,⟨trivial,trivial,⟨fo252,trivial,trivial⟩⟩⟩⟩⟩⟩,⟨trivial,⟨trivial,⟨trivial,⟨trivial,⟨trivial,⟨fo130,⟨fo258,trivial,trivial⟩,trivial⟩,trivial⟩,⟨trivial,trivial,⟨trivial,⟨fo354,trivial,trivial⟩,trivial⟩⟩⟩,⟨trivial,⟨trivial,⟨trivial,⟨fo274,trivial,trivial⟩,⟨fo402,trivial,trivial⟩⟩,⟨fo210,⟨fo338,trivial,trivial⟩,trivial⟩⟩,⟨fo114,⟨trivial,⟨fo306,trivial,trivial⟩,trivial⟩,trivial⟩⟩⟩,⟨trivial,⟨fo42,⟨trivial,⟨trivial,trivial,⟨fo394,trivial,trivial⟩⟩,⟨fo202,⟨fo330,trivial,trivial⟩,trivial⟩⟩,⟨fo106,⟨fo170,trivial,trivial⟩,⟨fo234,trivial,trivial⟩⟩⟩,⟨trivial,⟨trivial,⟨fo154,trivial,trivial⟩,⟨trivial,⟨fo346,trivial,trivial⟩,trivial⟩⟩,⟨trivial,⟨trivial,⟨fo314,trivial,trivial⟩,trivial⟩,⟨fo250,⟨fo378,trivial,trivial⟩,trivial⟩⟩⟩⟩⟩,⟨fo14,⟨trivial,⟨trivial,⟨trivial,⟨fo134,⟨fo262,trivial,trivial⟩,trivial⟩,trivial⟩,⟨fo102,⟨trivial,⟨fo294,trivial,trivial⟩,trivial⟩,⟨fo230,⟨fo358,trivial,trivial⟩,trivial⟩⟩⟩,⟨fo54,⟨trivial,⟨trivial,trivial,⟨fo406,trivial,trivial⟩⟩,trivial⟩,⟨trivial,⟨trivial,⟨fo310,trivial,trivial⟩,trivial⟩,⟨trivial,⟨fo374,trivial,trivial⟩,trivial⟩⟩⟩⟩,⟨trivial,⟨trivial,trivial,⟨trivial,⟨fo174,⟨fo302,trivial,trivial⟩,trivial⟩,⟨fo238,trivial,trivial⟩⟩⟩,⟨fo62,⟨trivial,⟨fo158,trivial,trivial⟩,⟨trivial,⟨fo350,trivial,trivial⟩,trivial⟩⟩,⟨trivial,trivial,⟨fo254,⟨fo382,trivial,trivial⟩,trivial⟩⟩⟩⟩⟩⟩⟩⟩)
end Go.Rn
end
section
namespace Go.Rn
open Go.RowKit
open Go.Vm (enters)
set_option maxRecDepth 1000000
def sumTab:V:=.agg [.sc (.int .u32 0),.sc (.int .u32 1996959894),.sc (.int .u32 3993919788),.sc (.int .u32 2567524794),.sc (.int .u32 124634137),.sc (.int .u32 1886057615),.sc (.int .u32 3915621685),.sc (.int .u32 2657392035),.sc (.int .u32 249268274),.sc (.int .u32 2044508324),.sc (.int .u32 3772115230),.sc (.int .u32 2547177864),.sc (.int .u32 162941995),.sc (.int .u32 2125561021),.sc (.int .u32 3887607047),.sc (.int .u32 2428444049),.sc (.int .u32 498536548),.sc (.int .u32 1789927666),.sc (.int .u32 4089016648),.sc (.int .u32 2227061214),.sc (.int .u32 450548861),.sc (.int .u32 1843258603),.sc (.int .u32 4107580753),.sc (.int .u32 2211677639),.sc (.int .u32 325883990),.sc (.int .u32 1684777152),.sc (.int .u32 4251122042),.sc (.int .u32 2321926636),.sc (.int .u32 335633487),.sc (.int .u32 1661365465),.sc (.int .u32 4195302755),.sc (.int .u32 2366115317),.sc (.int .u32 997073096),.sc (.int .u32 1281953886),.sc (.int .u32 3579855332),.sc (.int .u32 2724688242),.sc (.int .u32 1006888145),.sc (.int .u32 1258607687),.sc (.int .u32 3524101629),.sc (.int .u32 2768942443),.sc (.int .u32 901097722),.sc (.int .u32 1119000684),.sc (.int .u32 3686517206),.sc (.int .u32 2898065728),.sc (.int .u32 853044451),.sc (.int .u32 1172266101),.sc (.int .u32 3705015759),.sc (.int .u32 2882616665),.sc (.int .u32 651767980),.sc (.int .u32 1373503546),.sc (.int .u32 3369554304),.sc (.int .u32 3218104598),.sc (.int .u32 565507253),.sc (.int .u32 1454621731),.sc (.int .u32 3485111705),.sc (.int .u32 3099436303),.sc (.int .u32 671266974),.sc (.int .u32 1594198024),.sc (.int .u32 3322730930),.sc (.int .u32 2970347812),.sc (.int .u32 795835527),.sc (.int .u32 1483230225),.sc (.int .u32 3244367275),.sc (.int .u32 3060149565),.sc (.int .u32 1994146192),.sc (.int .u32 31158534),.sc (.int .u32 2563907772),.sc (.int .u32 4023717930),.sc (.int .u32 1907459465),.sc (.int .u32 112637215),.sc (.int .u32 2680153253),.sc (.int .u32 3904427059),.sc (.int .u32 2013776290),.sc (.int .u32 251722036),.sc (.int .u32 2517215374),.sc (.int .u32 3775830040),.sc (.int .u32 2137656763),.sc (.int .u32 141376813),.sc (.int .u32 2439277719),.sc (.int .u32 3865271297),.sc (.int .u32 1802195444),.sc (.int .u32 476864866),.sc (.int .u32 2238001368),.sc (.int .u32 4066508878),.sc (.int .u32 1812370925),.sc (.int .u32 453092731),.sc (.int .u32 2181625025),.sc (.int .u32 4111451223),.sc (.int .u32 1706088902),.sc (.int .u32 314042704),.sc (.int .u32 2344532202),.sc (.int .u32 4240017532),.sc (.int .u32 1658658271),.sc (.int .u32 366619977),.sc (.int .u32 2362670323),.sc (.int .u32 4224994405),.sc (.int .u32 1303535960),.sc (.int .u32 984961486),.sc (.int .u32 2747007092),.sc (.int .u32 3569037538),.sc (.int .u32 1256170817),.sc (.int .u32 1037604311),.sc (.int .u32 2765210733),.sc (.int .u32 3554079995),.sc (.int .u32 1131014506),.sc (.int .u32 879679996),.sc (.int .u32 2909243462),.sc (.int .u32 3663771856),.sc (.int .u32 1141124467),.sc (.int .u32 855842277),.sc (.int .u32 2852801631),.sc (.int .u32 3708648649),.sc (.int .u32 1342533948),.sc (.int .u32 654459306),.sc (.int .u32 3188396048),.sc (.int .u32 3373015174),.sc (.int .u32 1466479909),.sc (.int .u32 544179635),.sc (.int .u32 3110523913),.sc (.int .u32 3462522015),.sc (.int .u32 1591671054),.sc (.int .u32 702138776),.sc (.int .u32 2966460450),.sc (.int .u32 3352799412),.sc (.int .u32 1504918807),.sc (.int .u32 783551873),.sc (.int .u32 3082640443),.sc (.int .u32 3233442989),.sc (.int .u32 3988292384),.sc (.int .u32 2596254646),.sc (.int .u32 62317068),.sc (.int .u32 1957810842),.sc (.int .u32 3939845945),.sc (.int .u32 2647816111),.sc (.int .u32 81470997),.sc (.int .u32 1943803523),.sc (.int .u32 3814918930),.sc (.int .u32 2489596804),.sc (.int .u32 225274430),.sc (.int .u32 2053790376),.sc (.int .u32 3826175755),.sc (.int .u32 2466906013),.sc (.int .u32 167816743),.sc (.int .u32 2097651377),.sc (.int .u32 4027552580),.sc (.int .u32 2265490386),.sc (.int .u32 503444072),.sc (.int .u32 1762050814),.sc (.int .u32 4150417245),.sc (.int .u32 2154129355),.sc (.int .u32 426522225),.sc (.int .u32 1852507879),.sc (.int .u32 4275313526),.sc (.int .u32 2312317920),.sc (.int .u32 282753626),.sc (.int .u32 1742555852),.sc (.int .u32 4189708143),.sc (.int .u32 2394877945),.sc (.int .u32 397917763),.sc (.int .u32 1622183637),.sc (.int .u32 3604390888),.sc (.int .u32 2714866558),.sc (.int .u32 953729732),.sc (.int .u32 1340076626),.sc (.int .u32 3518719985),.sc (.int .u32 2797360999),.sc (.int .u32 1068828381),.sc (.int .u32 1219638859),.sc (.int .u32 3624741850),.sc (.int .u32 2936675148),.sc (.int .u32 906185462),.sc (.int .u32 1090812512),.sc (.int .u32 3747672003),.sc (.int .u32 2825379669),.sc (.int .u32 829329135),.sc (.int .u32 1181335161),.sc (.int .u32 3412177804),.sc (.int .u32 3160834842),.sc (.int .u32 628085408),.sc (.int .u32 1382605366),.sc (.int .u32 3423369109),.sc (.int .u32 3138078467),.sc (.int .u32 570562233),.sc (.int .u32 1426400815),.sc (.int .u32 3317316542),.sc (.int .u32 2998733608),.sc (.int .u32 733239954),.sc (.int .u32 1555261956),.sc (.int .u32 3268935591),.sc (.int .u32 3050360625),.sc (.int .u32 752459403),.sc (.int .u32 1541320221),.sc (.int .u32 2607071920),.sc (.int .u32 3965973030),.sc (.int .u32 1969922972),.sc (.int .u32 40735498),.sc (.int .u32 2617837225),.sc (.int .u32 3943577151),.sc (.int .u32 1913087877),.sc (.int .u32 83908371),.sc (.int .u32 2512341634),.sc (.int .u32 3803740692),.sc (.int .u32 2075208622),.sc (.int .u32 213261112),.sc (.int .u32 2463272603),.sc (.int .u32 3855990285),.sc (.int .u32 2094854071),.sc (.int .u32 198958881),.sc (.int .u32 2262029012),.sc (.int .u32 4057260610),.sc (.int .u32 1759359992),.sc (.int .u32 534414190),.sc (.int .u32 2176718541),.sc (.int .u32 4139329115),.sc (.int .u32 1873836001),.sc (.int .u32 414664567),.sc (.int .u32 2282248934),.sc (.int .u32 4279200368),.sc (.int .u32 1711684554),.sc (.int .u32 285281116),.sc (.int .u32 2405801727),.sc (.int .u32 4167216745),.sc (.int .u32 1634467795),.sc (.int .u32 376229701),.sc (.int .u32 2685067896),.sc (.int .u32 3608007406),.sc (.int .u32 1308918612),.sc (.int .u32 956543938),.sc (.int .u32 2808555105),.sc (.int .u32 3495958263),.sc (.int .u32 1231636301),.sc (.int .u32 1047427035),.sc (.int .u32 2932959818),.sc (.int .u32 3654703836),.sc (.int .u32 1088359270),.sc (.int .u32 936918000),.sc (.int .u32 2847714899),.sc (.int .u32 3736837829),.sc (.int .u32 1202900863),.sc (.int .u32 817233897),.sc (.int .u32 3183342108),.sc (.int .u32 3401237130),.sc (.int .u32 1404277552),.sc (.int .u32 615818150),.sc (.int .u32 3134207493),.sc (.int .u32 3453421203),.sc (.int .u32 1423857449),.sc (.int .u32 601450431),.sc (.int .u32 3009837614),.sc (.int .u32 3294710456),.sc (.int .u32 1567103746),.sc (.int .u32 711928724),.sc (.int .u32 3020668471),.sc (.int .u32 3272380065),.sc (.int .u32 1510334235),.sc (.int .u32 755167117)]
def sumVal:Value:=(toV sumTab).getD (.int .u32 0)
set_option maxHeartbeats 100000000 in
theorem sum_run:Hold (run Go.Proofs.Tryz.prog ft [] 1000000 1000 102 [] .leaf 0 (fun v _ _=>isV sumTab v)):=⟨of_eq_true (by kernel_rfl)⟩
theorem sum_toV:toV sumTab=some sumVal:=by kernel_rfl
theorem sum_okV:okV sumTab=true:=by kernel_rfl
theorem sum_known:enters Go.Proofs.Tryz.prog 102=true∧∀[Cx] h n,CX Go.Proofs.Tryz.prog 102 [] h n sumTab h n:=closed_run (P:=Go.Proofs.Tryz.prog) (F:=ft) (l:=[]) (f:=102) (x:=sumTab) (u:=sumVal) ft_ok (fun [Cx]=>orcOk_nil) sum_run sum_toV sum_okV
abbrev orcS:Orc:=[(102,[],sumTab)]
theorem orcS_ok [Cx]:OrcOk Go.Proofs.Tryz.prog orcS:=D8 sum_known.1 sum_known.2 orcOk_nil
end Go.Rn
end
section
namespace Punnet.Flt
open Ieee
def far:Nat:=1074
theorem far_eq:far=1074:=rfl
def K:Int:=2 ^ far
theorem K_pos:0<K:=Int.pow_pos (by decide)
theorem read_eq (x:Nat):double.read x =
 (if x % 9223372036854775808<4503599627370496 then Datum.number (x / 9223372036854775808 % 2==1) (x % 9223372036854775808) (-1074)
   else if x % 9223372036854775808<9218868437227405312 then .number (x / 9223372036854775808 % 2==1) (4503599627370496+x % 9223372036854775808 % 4503599627370496) (-1074+((x % 9223372036854775808 / 4503599627370496-1:Nat):Int))
   else if x % 9223372036854775808=9218868437227405312 then .infinity (x / 9223372036854775808 % 2==1)
   else .nan (x / 9223372036854775808 % 2==1) (x % 9223372036854775808-9218868437227405312)):=rfl
theorem place_ge {x m:Nat}{s:Bool}{e:Int}(h:double.read x=.number s m e) : -1074≤e:=by
 rw [read_eq] at h
 split at h
 ·injection h with _ _ h;omega
 ·split at h
  ·injection h with _ _ h;omega
  ·split at h<;>cases h
theorem signed_eq (s:Bool)(m a:Nat):signed s m a=(if s then -1 else 1)*((m:Int)*2 ^ a):=by
 have h:((m <<< a:Nat):Int)=(m:Int)*2 ^ a:=by rw [Nat.shiftLeft_eq];simp
 unfold signed
 cases s<;>simp [h]
theorem signed_add (s:Bool)(m a b:Nat):signed s m (a+b)=signed s m a*2 ^ b:=by
 rw [signed_eq,signed_eq,Int.pow_add,Int.mul_assoc,Int.mul_assoc]
def BR (x:Nat):Option Int:=match double.read x with
 | .number s m e=>some (signed s m (e+1074).toNat)
 | _=>none
theorem unitOf_number {x m:Nat}{s:Bool}{e:Int}(h:double.read x=.number s m e):BR x=some (signed s m (e+1074).toNat):=by
 rw [BR,h]
theorem number_of_unit {x:Nat}{u:Int}(h:BR x=some u):∃s m e,double.read x=.number s m e∧-1074≤e∧u=signed s m (e+1074).toNat:=by
 unfold BR at h
 cases hr:double.read x with
 | number s m e=>rw [hr] at h;injection h with h;exact ⟨s,m,e,rfl,place_ge hr,h.symm⟩
 | infinity s=>rw [hr] at h;cases h
 | nan s t=>rw [hr] at h;cases h
theorem compare_scale (a b k:Int)(hk:0<k):compare (a*k) (b*k)=compare a b:=by
 simp only [compare,compareOfLessAndEq]
 have h1:a*k<b*k↔a<b:=⟨fun h=>Int.lt_of_mul_lt_mul_right h (Int.le_of_lt hk),fun h=>Int.mul_lt_mul_of_pos_right h hk⟩
 have h2:a*k=b*k↔a=b:=⟨fun h=>Int.eq_of_mul_eq_mul_right (by omega) h,fun h=>by rw [h]⟩
 simp only [h1,h2]
theorem order_units {x y:Nat}{u v:Int}(hx:BR x=some u)(hy:BR y=some v):double.order x y=some (compare u v):=by
 obtain ⟨s,m,i,hr,hi,rfl⟩:=number_of_unit hx
 obtain ⟨t,n,j,hr2,hj,rfl⟩:=number_of_unit hy
 rw [Format.order,hr,hr2,Datum.order]
 have e1:(i+1074).toNat=(i-min i j).toNat+(min i j+1074).toNat:=by omega
 have e2:(j+1074).toNat=(j-min i j).toNat+(min i j+1074).toNat:=by omega
 have hk:(0:Int)<2 ^ (min i j+1074).toNat:=Int.pow_pos (by decide)
 show some (compare (signed s m (i-min i j).toNat) (signed t n (j-min i j).toNat))=_
 rw [e1,e2,signed_add,signed_add,compare_scale _ _ _ hk]
theorem compare_lt {a b:Int}(h:a<b):compare a b=.lt:=by simp [compare,compareOfLessAndEq,h]
theorem compare_eq (a:Int):compare a a=.eq:=by simp [compare,compareOfLessAndEq]
theorem compare_gt {a b:Int}(h:b<a):compare a b=.gt:=by
 have h1:¬a<b:=by omega
 have h2:¬a=b:=by omega
 simp [compare,compareOfLessAndEq,h1,h2]
theorem order_lt {x y:Nat}{u v:Int}(hx:BR x=some u)(hy:BR y=some v)(h:u<v):double.order x y=some .lt:=by rw [order_units hx hy,compare_lt h]
theorem order_eq {x y:Nat}{u:Int}(hx:BR x=some u)(hy:BR y=some u):double.order x y=some .eq:=by rw [order_units hx hy,compare_eq]
theorem order_gt {x y:Nat}{u v:Int}(hx:BR x=some u)(hy:BR y=some v)(h:v<u):double.order x y=some .gt:=by rw [order_units hx hy,compare_gt h]
def geB (x y:Nat):Bool:=double.order x y==some .gt||double.order x y==some .eq
def leB (x y:Nat):Bool:=double.order x y==some .lt||double.order x y==some .eq
def eqB (x y:Nat):Bool:=double.order x y==some .eq
theorem geB_units {x y:Nat}{u v:Int}(hx:BR x=some u)(hy:BR y=some v):geB x y=decide (v≤u):=by
 rw [geB]
 rcases Int.lt_trichotomy u v with h | rfl | h
 ·rw [order_lt hx hy h,decide_eq_false (by omega)];rfl
 ·rw [order_eq hx hy,decide_eq_true (by omega)];rfl
 ·rw [order_gt hx hy h,decide_eq_true (by omega)];rfl
theorem leB_units {x y:Nat}{u v:Int}(hx:BR x=some u)(hy:BR y=some v):leB x y=decide (u≤v):=by
 rw [leB]
 rcases Int.lt_trichotomy u v with h | rfl | h
 ·rw [order_lt hx hy h,decide_eq_true (by omega)];rfl
 ·rw [order_eq hx hy,decide_eq_true (by omega)];rfl
 ·rw [order_gt hx hy h,decide_eq_false (by omega)];rfl
theorem eqB_units {x y:Nat}{u v:Int}(hx:BR x=some u)(hy:BR y=some v):eqB x y=decide (u=v):=by
 rw [eqB]
 rcases Int.lt_trichotomy u v with h | rfl | h
 ·rw [order_lt hx hy h,decide_eq_false (by omega)];rfl
 ·rw [order_eq hx hy,decide_eq_true rfl];rfl
 ·rw [order_gt hx hy h,decide_eq_false (by omega)];rfl
theorem not_within {x y z:Nat}{v v':Int}(hx:BR x=none)(hy:BR y=some v)(hz:BR z=some v'):(geB x y&&leB x z)=false:=by
 obtain ⟨t,n,j,hr,_,_⟩:=number_of_unit hy
 obtain ⟨t',n',j',hr',_,_⟩:=number_of_unit hz
 rw [geB,leB,Format.order,Format.order,hr,hr']
 cases h:double.read x with
 | number s m e=>rw [BR,h] at hx;cases hx
 | nan s f=>rfl
 | infinity s=>cases s<;>rfl
theorem word_read {neg:Bool}{rung:Nat}(h0:4503599627370496≤rung)(h1:rung<9218868437227405312) :
 double.read (double.word neg rung)=.number neg (4503599627370496+rung % 4503599627370496) (-1074+((rung / 4503599627370496-1:Nat):Int)):=by
 have hx:double.word neg rung % 9223372036854775808=rung:=by
  cases neg
  ·show rung % _=_;omega
  ·show (9223372036854775808+rung) % _=_;omega
 have hs:(double.word neg rung / 9223372036854775808 % 2==1)=neg:=by
  cases neg
  ·show (rung / 9223372036854775808 % 2==1)=false
   rw [show rung / 9223372036854775808=0 by omega];rfl
  ·show ((9223372036854775808+rung) / 9223372036854775808 % 2==1)=true
   rw [show (9223372036854775808+rung) / 9223372036854775808=1 by omega];rfl
 rw [read_eq,hx,hs,if_neg (by omega),if_pos h1]
theorem nearest_zero (neg:Bool):BR (double.nearest neg 0 0)=some 0:=by
 have h:double.read (double.nearest neg 0 0)=.number neg 0 (-1074):=by cases neg<;>rfl
 rw [unitOf_number h,signed_eq];simp
theorem cut_none (neg:Bool)(n:Nat):Toward.even.cut neg n 0=n:=by
 simp [Toward.cut,Nat.mod_one]
theorem nearest_units (neg:Bool)(m:Nat)(hm:m<9007199254740992):BR (double.nearest neg m 0)=some ((if neg then -1 else 1)*((m:Int)*K)):=by
 rcases Nat.eq_zero_or_pos m with rfl | h0
 ·rw [nearest_zero];simp
 have hne:m≠0:=by omega
 have hlo:2 ^ m.log2≤m:=Nat.log2_self_le hne
 have hhi:m<2 ^ (m.log2+1):=Nat.lt_log2_self
 have hL:m.log2≤52:=by
  rcases Nat.lt_or_ge 52 m.log2 with h | h
  ·have:2 ^ 53≤2 ^ m.log2:=Nat.pow_le_pow_right (by omega) h
   omega
  ·exact h
 have hM:2 ^ m.log2*2 ^ (52-m.log2)=4503599627370496:=by
  rw [←Nat.pow_add,show m.log2+(52-m.log2)=52 by omega]
 have hM2:2 ^ (m.log2+1)*2 ^ (52-m.log2)=9007199254740992:=by
  rw [←Nat.pow_add,show m.log2+1+(52-m.log2)=53 by omega]
 have hMlo:4503599627370496≤m*2 ^ (52-m.log2):=by rw [←hM];exact Nat.mul_le_mul_right _ hlo
 have hMhi:m*2 ^ (52-m.log2)<9007199254740992:=by rw [←hM2];exact Nat.mul_lt_mul_of_pos_right hhi (Nat.two_pow_pos _)
 have hw:double.nearest neg m 0=double.word neg ((m.log2+1022)*4503599627370496+m*2 ^ (52-m.log2)):=by
  unfold Format.nearest
  rw [if_neg hne]
  have hl:max ((0:Int)+(m.log2:Int)-(double.fractionBits:Int)) double.leastPlace=(m.log2:Int)-52:=by
   show max ((0:Int)+(m.log2:Int)-52) (-1074)=_
   omega
  simp only [hl]
  rw [show ((0:Int)-((m.log2:Int)-52)).toNat=52-m.log2 by omega,show ((m.log2:Int)-52-0).toNat=0 by omega,cut_none,Nat.shiftLeft_eq]
  rw [show ((m.log2:Int)-52-double.leastPlace).toNat=m.log2+1022 by show ((m.log2:Int)-52-(-1074)).toNat=_;omega]
  congr 1
  show min ((m.log2+1022)*4503599627370496+m*2 ^ (52-m.log2)) 9218868437227405312=_
  omega
 generalize hMe:m*2 ^ (52-m.log2)=M at *
 have hr:=word_read (neg:=neg) (rung:=(m.log2+1022)*4503599627370496+M) (by omega) (by omega)
 rw [←hw] at hr
 have e1:4503599627370496+((m.log2+1022)*4503599627370496+M) % 4503599627370496=M:=by omega
 have e2:(-1074:Int)+(((((m.log2+1022)*4503599627370496+M) / 4503599627370496-1:Nat)):Int)=(m.log2:Int)-52:=by omega
 rw [e1,e2] at hr
 have e3:K=2 ^ (52-m.log2)*2 ^ (m.log2+1022):=by
  rw [K,←Int.pow_add,show 52-m.log2+(m.log2+1022)=far by rw [far_eq];omega]
 have e4:(M:Int)*2 ^ (m.log2+1022)=(m:Int)*K:=by
  rw [e3,←hMe,Int.natCast_mul,Int.natCast_pow,Int.mul_assoc];simp
 rw [unitOf_number hr,signed_eq,show ((m.log2:Int)-52+1074).toNat=m.log2+1022 by omega,e4]
theorem ofInt_units (n:Int)(h:n.natAbs<9007199254740992):BR (double.write (.number (n<0) n.natAbs 0))=some (n*K):=by
 show BR (double.nearest (n<0) n.natAbs 0)=_
 rw [nearest_units _ _ h]
 congr 1
 by_cases hn:n<0
 ·rw [if_pos (by simpa using hn),show ((n.natAbs:Nat):Int) = -n by omega,Int.neg_mul,Int.neg_mul,Int.one_mul,Int.neg_neg]
 ·rw [if_neg (by simpa using hn),show ((n.natAbs:Nat):Int)=n by omega,Int.one_mul]
theorem log2_small {m d:Nat}(h:m.log2+2<d):m / 2 ^ d=0∧m / 2 ^ (m.log2+2)=0:=by
 have hhi:m<2 ^ (m.log2+1):=Nat.lt_log2_self
 have h1:2 ^ (m.log2+1)≤2 ^ d:=Nat.pow_le_pow_right (by omega) (by omega)
 have h2:2 ^ (m.log2+1)≤2 ^ (m.log2+2):=Nat.pow_le_pow_right (by omega) (by omega)
 exact ⟨Nat.div_eq_of_lt (by omega),Nat.div_eq_of_lt (by omega)⟩
theorem cut_zero (neg:Bool)(n d:Nat):Toward.zero.cut neg n d=n / 2 ^ d:=by
 have h:Toward.zero.cut neg n d=n / 2 ^ min d (n.log2+2):=by simp [Toward.cut,Nat.shiftLeft_eq]
 rw [h]
 rcases Nat.lt_or_ge (n.log2+2) d with h1 | h1
 ·rw [Nat.min_eq_right (by omega),(log2_small h1).1,(log2_small h1).2]
 ·rw [Nat.min_eq_left h1]
theorem integral_units {x:Nat}{u:Int}(h:BR x=some u):∃(s:Bool) (q:Nat),(double.read x).integral .zero=.number s q 0∧u.tdiv K=(if s then -1 else 1)*(q:Int)∧u.natAbs / (2 ^ far)=q:=by
 obtain ⟨s,m,e,hr,he,rfl⟩:=number_of_unit h
 refine ⟨s,m*2 ^ e.toNat / 2 ^ (-e).toNat,by rw [hr,Datum.integral,cut_zero,Nat.shiftLeft_eq],?_,?_⟩
 ·have hq:(m*2 ^ e.toNat / 2 ^ (-e).toNat:Nat)=m*2 ^ (e+1074).toNat / 2 ^ far:=by
   rcases Int.le_total 0 e with h0 | h0
   ·rw [show (-e).toNat=0 by omega,show (e+1074).toNat=e.toNat+far by rw [far_eq];omega,Nat.pow_add,←Nat.mul_assoc,Nat.mul_div_cancel _ (Nat.two_pow_pos _)];simp
   ·rw [show e.toNat=0 by omega,show far=(e+1074).toNat+(-e).toNat by rw [far_eq];omega,Nat.pow_add,Nat.mul_comm (2 ^ (e+1074).toNat),Nat.mul_div_mul_right _ _ (Nat.two_pow_pos _)];simp
  rw [hq,signed_eq,K]
  have e1:((m:Int)*2 ^ (e+1074).toNat)=((m*2 ^ (e+1074).toNat:Nat):Int):=by simp
  have e2:((2:Int) ^ far)=((2 ^ far:Nat):Int):=by rw [Int.natCast_pow];rfl
  rw [e1,e2]
  cases s
  ·simp only [Bool.false_eq_true,if_false,Int.one_mul];rfl
  ·simp only [if_true]
   rw [Int.neg_mul,Int.one_mul,Int.neg_mul,Int.one_mul,Int.neg_tdiv];rfl
 ·rw [signed_eq]
  have e1:((if s=true then (-1:Int) else 1)*((m:Int)*2 ^ (e+1074).toNat)).natAbs=m*2 ^ (e+1074).toNat:=by
   rw [Int.natAbs_mul]
   have e3:((m:Int)*2 ^ (e+1074).toNat).natAbs=m*2 ^ (e+1074).toNat:=by
    have:((m:Int)*2 ^ (e+1074).toNat)=((m*2 ^ (e+1074).toNat:Nat):Int):=by simp
    rw [this];rfl
   rw [e3]
   cases s<;>simp
  rw [e1]
  rcases Int.le_total 0 e with h0 | h0
  ·rw [show (-e).toNat=0 by omega,show (e+1074).toNat=e.toNat+far by rw [far_eq];omega,Nat.pow_add,←Nat.mul_assoc,Nat.mul_div_cancel _ (Nat.two_pow_pos _)];simp
  ·rw [show e.toNat=0 by omega,show far=(e+1074).toNat+(-e).toNat by rw [far_eq];omega,Nat.pow_add,Nat.mul_comm (2 ^ (e+1074).toNat),Nat.mul_div_mul_right _ _ (Nat.two_pow_pos _)];simp
def wholeOf (x:Nat):Option Int:=match BR x with
 | some u=>if -4503599627370496*K≤u∧u≤4503599627370496*K∧u.tdiv K*K=u then some (u.tdiv K) else none
 | none=>none
theorem tdiv_mul (n:Int):(n*K).tdiv K=n:=Int.mul_tdiv_cancel n (by have:=K_pos;omega)
theorem mul_le (a b:Int):a*K≤b*K↔a≤b:=⟨fun h=>Int.le_of_mul_le_mul_right h K_pos,fun h=>Int.mul_le_mul_of_nonneg_right h (Int.le_of_lt K_pos)⟩
theorem wholeOf_some {x:Nat}{n:Int}:wholeOf x=some n↔BR x=some (n*K)∧-4503599627370496≤n∧n≤4503599627370496:=by
 unfold wholeOf
 constructor
 ·intro h
  cases hu:BR x with
  | none=>rw [hu] at h;cases h
  | some u=>
   rw [hu] at h
   simp only at h
   split at h
   ·rename_i hc
    injection h with h
    obtain ⟨h1,h2,h3⟩:=hc
    rw [h] at h3
    rw [←h3] at h1 h2
    rw [h3]
    exact ⟨rfl,(mul_le _ _).1 h1,(mul_le _ _).1 h2⟩
   ·cases h
 ·rintro ⟨hu,h1,h2⟩
  rw [hu]
  simp only [tdiv_mul]
  rw [if_pos ⟨(mul_le _ _).2 h1,(mul_le _ _).2 h2,trivial⟩]
theorem tdiv_bound {u:Int}(h1 : -4503599627370496*K≤u)(h2:u≤4503599627370496*K) : -4503599627370496≤u.tdiv K∧u.tdiv K≤4503599627370496:=by
 have hk:=K_pos
 rcases Int.le_total 0 u with h | h
 ·rw [Int.tdiv_eq_ediv_of_nonneg h]
  have h3:u / K≤4503599627370496:=Int.ediv_le_of_le_mul hk h2
  have h4:0≤u / K:=Int.ediv_nonneg h (Int.le_of_lt hk)
  omega
 ·have e:u = -(-u):=by omega
  rw [e,Int.neg_tdiv,Int.tdiv_eq_ediv_of_nonneg (by omega)]
  have h3 : -u / K≤4503599627370496:=Int.ediv_le_of_le_mul hk (by omega)
  have h4:0≤-u / K:=Int.ediv_nonneg (by omega) (Int.le_of_lt hk)
  omega
theorem trunc_units {x:Nat}{u:Int}(h:BR x=some u)(h1 : -4503599627370496*K≤u)(h2:u≤4503599627370496*K):BR (double.write ((double.read x).integral .zero))=some (u.tdiv K*K):=by
 obtain ⟨s,q,hi,ht,_⟩:=integral_units h
 have hb:=tdiv_bound h1 h2
 have hq:q<9007199254740992:=by
  rw [ht] at hb
  cases s<;>simp at hb<;>omega
 rw [hi]
 show BR (double.nearest s q 0)=_
 rw [nearest_units s q hq,ht,Int.mul_assoc]
theorem toInt_units {x:Nat}{u:Int}(h:BR x=some u):(double.read x).toInt .zero=some (u.tdiv K):=by
 obtain ⟨s,q,hi,ht,_⟩:=integral_units h
 rw [Datum.toInt,hi,ht]
 show some (signed s q 0)=_
 rw [signed_eq];simp
theorem ofInt_whole (n:Int)(h0 : -4503599627370496≤n)(h1:n≤4503599627370496):wholeOf (double.write (.number (n<0) n.natAbs 0))=some n:=
 wholeOf_some.2 ⟨ofInt_units n (by omega),h0,h1⟩
end Punnet.Flt
end
section
namespace Go.Proofs.YtdfbohaohjaloaaGreatDoor
open Go.RowKit Punnet.Flt
theorem decode64 (x:Nat):FloatKind.f64.decode x=Ieee.double.read x:=rfl
section
attribute [local irreducible] FloatKind.decode
theorem call_archTrunc (x:Nat)(u:Int)(hu:BR x=some u)(w:World) :
 (callFunc 412 #[.float .f64 x]).run Tryz.prog w=.ok (.value (.float .f64 (Ieee.double.write ((Ieee.double.read x).integral .zero)))) w:=by
 rw [run_callFunc_extern (P := Tryz.prog) (f := 412) (fn := Tryz.f412) (e := Extern.MathFloor.toIntegral "math.archTrunc" .zero) (by kernel_rfl) (by kernel_rfl) (by kernel_rfl) (by kernel_rfl) (by kernel_rfl)]
 obtain ⟨s,m,e,hr,_,_⟩:=number_of_unit hu
 have h : (Extern.MathFloor.toIntegral "math.archTrunc" .zero #[.float .f64 x]).run Tryz.prog w = .ok (.float .f64 (Ieee.double.write ((Ieee.double.read x).integral .zero))) w := by
  have hd:FloatKind.f64.decode x=.number s m e:=(decode64 x).trans hr
  conv=>lhs;arg 2;whnf
  rw [hd,hr]
  rfl
 rw [h];rfl
end
set_option maxHeartbeats 400000 in
theorem trunc_any (x:Nat)(u:Int)(hu:BR x=some u)(w:World) :
 Calls Tryz.prog 377 #[.float .f64 x] w fun e w'=>e=.returned (.float .f64 (Ieee.double.write ((Ieee.double.read x).integral .zero)))∧w=w':=by
 have hc:=call_archTrunc x u hu
 clear hu
 generalize Ieee.double.write ((Ieee.double.read x).integral .zero)=t at *
 go_enter Tryz.func377,Tryz.ntmps377
 go_wp2
 go_ret
 exact ⟨rfl,rfl⟩
theorem store_float (P:Program)(w:World)(a:Addr)(m:Mode)(k:FloatKind)(b:Nat):(store a (.float k b) m).run P w=stored P w a (.float k b) m:=run_store P w a _ m rfl
attribute [local go_sem] store_float
set_option maxHeartbeats 400000 in
theorem parts_any (a b:Nat)(w:World) :
 Calls Tryz.prog 376 #[.complex .f64 a b] w fun e w'=>e=.returned (.agg #[.float .f64 a,.float .f64 b])∧Below w.heap.size w w':=by
 go_enter Tryz.func376,Tryz.ntmps376
 go_wp2
 exact bodyPost_ret (v:=.agg #[.float .f64 a,.float .f64 b]) (by simp [results,Tryz.results376,go_sem]) rfl ⟨rfl,(Below.refl _ _).alloc (Nat.le_refl _) _⟩
def okB (x:Nat)(M:Int):Bool:=match wholeOf x with
 | some n=>decide (-M≤n∧n≤M)
 | none=>false
theorem okB_units {x:Nat}{u M:Int}(hu:BR x=some u)(hM:M≤4503599627370496):okB x M=decide (-M*K≤u∧u≤M*K∧u.tdiv K*K=u):=by
 have hk:=K_pos
 unfold okB
 cases hw:wholeOf x with
 | some n=>
  obtain ⟨h1,h2,h3⟩:=wholeOf_some.1 hw
  rw [hu] at h1
  injection h1 with h1
  subst h1
  simp only [tdiv_mul,and_true,mul_le]
 | none=>
  symm
  rw [decide_eq_false_iff_not]
  rintro ⟨h1,h2,h3⟩
  rw [←h3] at h1 h2
  rw [mul_le] at h1 h2
  have:wholeOf x=some (u.tdiv K):=wholeOf_some.2 ⟨by rw [hu,h3],by omega,by omega⟩
  rw [hw] at this
  cases this
theorem okB_none {x:Nat}{M:Int}(hu:BR x=none):okB x M=false:=by
 unfold okB wholeOf;rw [hu]
set_option maxHeartbeats 800000 in
theorem within_any (a b mb:Nat)(M:Int)(w:World)(hm:BR mb=some (M*K))(hn:BR (Op.negFloat .f64 mb)=some (-M*K))(hM:M≤4503599627370496) :
 Calls Tryz.prog 293 #[.complex .f64 a b,.float .f64 mb] w fun e w'=>e=.returned (.bool (okB a M&&okB b M))∧Below w.heap.size w w':=by
 have i0:∀w,(Instr.index 463 (.agg #[.float .f64 a,.float .f64 b]) (.int .i64 0)).run Tryz.prog w=.ok (.float .f64 a) w:=fun _=>by kernel_rfl
 have i1:∀w,(Instr.index 463 (.agg #[.float .f64 a,.float .f64 b]) (.int .i64 1)).run Tryz.prog w=.ok (.float .f64 b) w:=fun _=>by kernel_rfl
 have hneg:∀w,(Op.unary .neg (.float .f64 mb)).run Tryz.prog w=.ok (.float .f64 (Op.negFloat .f64 mb)) w:=fun _=>rfl
 generalize Op.negFloat .f64 mb=nm at *
 have key:∀x,(geB x nm=false∧okB x M=false)∨(geB x nm=true∧leB x mb=false∧okB x M=false)∨(geB x nm=true∧leB x mb=true∧∃u,BR x=some u∧-4503599627370496*K≤u∧u≤4503599627370496*K∧okB x M=decide (u.tdiv K*K=u)):=by
  intro x
  cases hx:BR x with
  | none=>
   have hf:=not_within hx hn hm
   have ho:=okB_none (M:=M) hx
   cases hg:geB x nm with
   | false=>exact .inl ⟨rfl,ho⟩
   | true=>rw [hg,Bool.true_and] at hf;exact .inr (.inl ⟨rfl,hf,ho⟩)
  | some u=>
   have ho:=okB_units hx hM
   have h1:=geB_units hx hn
   have h2:=leB_units hx hm
   by_cases c1 : -M*K≤u
   ·by_cases c2:u≤M*K
    ·have c3 : -4503599627370496*K≤u:=Int.le_trans ((mul_le _ _).2 (by omega)) c1
     have c4:u≤4503599627370496*K:=Int.le_trans c2 ((mul_le _ _).2 hM)
     refine .inr (.inr ⟨by rw [h1,decide_eq_true c1],by rw [h2,decide_eq_true c2],u,rfl,c3,c4,?_⟩)
     rw [ho,decide_eq_decide]
     exact ⟨fun h=>h.2.2,fun h=>⟨c1,c2,h⟩⟩
    ·refine .inr (.inl ⟨by rw [h1,decide_eq_true c1],by rw [h2,decide_eq_false c2],?_⟩)
     rw [ho,decide_eq_false]
     exact fun h=>c2 h.2.1
   ·refine .inl ⟨by rw [h1,decide_eq_false c1],?_⟩
    rw [ho,decide_eq_false]
    exact fun h=>c1 h.1
 have tr:∀x u,BR x=some u→-4503599627370496*K≤u→u≤4503599627370496*K→eqB (Ieee.double.write ((Ieee.double.read x).integral .zero)) x=decide (u.tdiv K*K=u):=by
  intro x u hx c3 c4
  exact eqB_units (trunc_units hx c3 c4) hx
 have ords:∀x y,∃o,FloatKind.f64.format.order x y=o∧geB x y=(o==some .gt||o==some .eq)∧leB x y=(o==some .lt||o==some .eq)∧eqB x y=(o==some .eq):=fun x y=>⟨_,rfl,rfl,rfl,rfl⟩
 obtain ⟨oa,ea,ga,_,_⟩:=ords a nm
 obtain ⟨pa,fa,_,la,_⟩:=ords a mb
 obtain ⟨ob,eb,gb,_,_⟩:=ords b nm
 obtain ⟨pb,fb,_,lb,_⟩:=ords b mb
 rcases key a with ⟨g1,o1⟩ | ⟨g1,g2,o1⟩ | ⟨g1,g2,u,hu,c3,c4,o1⟩
 ·have HV:=Lib.hid (show (okB a M&&okB b M)=false by rw [o1];rfl)
  rw [ga] at g1
  clear hm hn hM o1 key tr ords ga la gb lb
  go_enter Tryz.func293,Tryz.ntmps293
  go_wp2_with (go_at_call 376;refine (parts_any _ _ _).mono ?_;rintro e w1 ⟨rfl,hb1⟩)
  refine wp_loop_rounds 1 ?_
  rw [rounds_succ]
  go_wp2
  go_ret
  exact ⟨Ei HV.out.symm,hb1⟩
 ·have HV:=Lib.hid (show (okB a M&&okB b M)=false by rw [o1];rfl)
  rw [ga] at g1
  rw [la] at g2
  clear hm hn hM o1 key tr ords ga la gb lb
  go_enter Tryz.func293,Tryz.ntmps293
  go_wp2_with (go_at_call 376;refine (parts_any _ _ _).mono ?_;rintro e w1 ⟨rfl,hb1⟩)
  refine wp_loop_rounds 1 ?_
  rw [rounds_succ]
  go_wp2
  go_ret
  exact ⟨Ei HV.out.symm,hb1⟩
 ·have HT:=Lib.hid (trunc_any a u hu)
  have ht:=tr a u hu c3 c4
  rw [←o1] at ht
  generalize Ieee.double.write ((Ieee.double.read a).integral .zero)=ta at *
  obtain ⟨ot,et,_,_,ht2⟩:=ords ta a
  rw [ht2] at ht
  rw [ga] at g1
  rw [la] at g2
  clear hm hn hM o1 hu c3 c4 ht2
  cases ho:okB a M with
  | false=>
   rw [ho] at ht
   have HV:=Lib.hid (show (false&&okB b M)=false from rfl)
   have ht':(ot != some .eq)=true:=by rw [bne,ht];rfl
   clear key tr ho ords ga la gb lb
   go_enter Tryz.func293,Tryz.ntmps293
   go_wp2_with (go_at_call 376;refine (parts_any _ _ _).mono ?_;rintro e w1 ⟨rfl,hb1⟩)
   refine wp_loop_rounds 1 ?_
   rw [rounds_succ]
   go_wp2_with (go_at_call 377;refine (HT.out _).mono ?_;rintro e w2 ⟨rfl,rfl⟩)
   go_ret
   exact ⟨Ei HV.out.symm,hb1⟩
  | true=>
   rw [ho] at ht
   have ht':(ot != some .eq)=false:=by rw [bne,ht];rfl
   rcases key b with ⟨k1,o1⟩ | ⟨k1,k2,o1⟩ | ⟨k1,k2,v,hv,c3,c4,o1⟩
   ·have HV:=Lib.hid (show (true&&okB b M)=false by rw [o1];rfl)
    rw [gb] at k1
    clear key tr ho o1 ords ga la gb lb
    go_enter Tryz.func293,Tryz.ntmps293
    go_wp2_with (go_at_call 376;refine (parts_any _ _ _).mono ?_;rintro e w1 ⟨rfl,hb1⟩)
    refine wp_loop_rounds 2 ?_
    rw [rounds_succ]
    go_wp2_with (go_at_call 377;refine (HT.out _).mono ?_;rintro e w2 ⟨rfl,rfl⟩)
    rw [rounds_succ]
    go_wp2
    go_ret
    exact ⟨Ei HV.out.symm,hb1⟩
   ·have HV:=Lib.hid (show (true&&okB b M)=false by rw [o1];rfl)
    rw [gb] at k1
    rw [lb] at k2
    clear key tr ho o1 ords ga la gb lb
    go_enter Tryz.func293,Tryz.ntmps293
    go_wp2_with (go_at_call 376;refine (parts_any _ _ _).mono ?_;rintro e w1 ⟨rfl,hb1⟩)
    refine wp_loop_rounds 2 ?_
    rw [rounds_succ]
    go_wp2_with (go_at_call 377;refine (HT.out _).mono ?_;rintro e w2 ⟨rfl,rfl⟩)
    rw [rounds_succ]
    go_wp2
    go_ret
    exact ⟨Ei HV.out.symm,hb1⟩
   ·have HT2:=Lib.hid (trunc_any b v hv)
    have hs:=tr b v hv c3 c4
    rw [←o1] at hs
    generalize Ieee.double.write ((Ieee.double.read b).integral .zero)=tb at *
    obtain ⟨os,es,_,_,hs2⟩:=ords tb b
    rw [hs2] at hs
    rw [gb] at k1
    rw [lb] at k2
    clear key tr ho o1 ords ga la gb lb hs2 hv c3 c4
    cases hob:okB b M with
    | false=>
     rw [hob] at hs
     have hs':(os != some .eq)=true:=by rw [bne,hs];rfl
     clear hob
     go_enter Tryz.func293,Tryz.ntmps293
     go_wp2_with (go_at_call 376;refine (parts_any _ _ _).mono ?_;rintro e w1 ⟨rfl,hb1⟩)
     refine wp_loop_rounds 2 ?_
     rw [rounds_succ]
     go_wp2_with (go_at_call 377;refine (HT.out _).mono ?_;rintro e w2 ⟨rfl,rfl⟩)
     rw [rounds_succ]
     go_wp2_with (go_at_call 377;refine (HT2.out _).mono ?_;rintro e w2 ⟨rfl,rfl⟩)
     go_ret
     exact ⟨rfl,hb1⟩
    | true=>
     rw [hob] at hs
     have hs':(os != some .eq)=false:=by rw [bne,hs];rfl
     clear hob
     go_enter Tryz.func293,Tryz.ntmps293
     go_wp2_with (go_at_call 376;refine (parts_any _ _ _).mono ?_;rintro e w1 ⟨rfl,hb1⟩)
     refine wp_loop_rounds 3 ?_
     rw [rounds_succ]
     go_wp2_with (go_at_call 377;refine (HT.out _).mono ?_;rintro e w2 ⟨rfl,rfl⟩)
     rw [rounds_succ]
     go_wp2_with (go_at_call 377;refine (HT2.out _).mono ?_;rintro e w2 ⟨rfl,rfl⟩)
     rw [rounds_succ]
     go_wp2
     go_ret
     exact ⟨rfl,hb1⟩
end Go.Proofs.YtdfbohaohjaloaaGreatDoor
end
section
namespace Go.Proofs.YtdfbohaohjaloaaGreatDoor
open Go.RowKit Punnet.Flt
theorem unit_most:BR 4841369599423283200=some (4503599627370496*K):=ofInt_units 4503599627370496 (by decide)
theorem unit_least:BR 14064741636278059008=some (-4503599627370496*K):=by
 have h:=ofInt_units (-4503599627370496) (by decide)
 rw [show Ieee.double.write (.number (decide ((-4503599627370496:Int)<0)) (-4503599627370496:Int).natAbs 0)=14064741636278059008 by decide +kernel] at h
 exact h
theorem unit_small:BR 4719772409484279808=some (33554432*K):=ofInt_units 33554432 (by decide)
theorem unit_small_neg:BR 13943144446339055616=some (-33554432*K):=by
 have h:=ofInt_units (-33554432) (by decide)
 rw [show Ieee.double.write (.number (decide ((-33554432:Int)<0)) (-33554432:Int).natAbs 0)=13943144446339055616 by decide +kernel] at h
 exact h
set_option maxHeartbeats 400000 in
theorem whole_any (a b:Nat)(w:World):Calls Tryz.prog 382 #[.complex .f64 a b] w fun e w'=>e=.returned (.bool (okB a 4503599627370496&&okB b 4503599627370496))∧Below w.heap.size w w':=by
 have H:=Lib.hid (within_any a b 4841369599423283200 4503599627370496 w unit_most unit_least (by omega))
 go_enter Tryz.func382,Tryz.ntmps382
 go_wp2_with (go_at_call 293;refine H.out.mono ?_;rintro e w1 ⟨rfl,hb1⟩)
 go_ret
 exact ⟨rfl,hb1⟩
set_option maxHeartbeats 400000 in
theorem small_any (a b:Nat)(w:World):Calls Tryz.prog 201 #[.complex .f64 a b] w fun e w'=>e=.returned (.bool (okB a 33554432&&okB b 33554432))∧Below w.heap.size w w':=by
 have H:=Lib.hid (within_any a b 4719772409484279808 33554432 w unit_small unit_small_neg (by omega))
 go_enter Tryz.func201,Tryz.ntmps201
 go_wp2_with (go_at_call 293;refine H.out.mono ?_;rintro e w1 ⟨rfl,hb1⟩)
 go_ret
 exact ⟨rfl,hb1⟩
def IsAt (x:Nat)(n M:Int):Prop:=wholeOf x=some n∧-M≤n∧n≤M
theorem okB_iff {x:Nat}{M:Int}:okB x M=true↔∃n,IsAt x n M:=by
 unfold okB IsAt
 cases h:wholeOf x with
 | none=>simp
 | some n=>simp
theorem IsAt.ok {x:Nat}{n M:Int}(h:IsAt x n M):okB x M=true:=okB_iff.2 ⟨n,h⟩
theorem IsAt.unit {x:Nat}{n M:Int}(h:IsAt x n M):BR x=some (n*K):=(wholeOf_some.1 h.1).1
theorem IsAt.bound {x:Nat}{n M:Int}(h:IsAt x n M) : -4503599627370496≤n∧n≤4503599627370496:=(wholeOf_some.1 h.1).2
theorem IsAt.toInt {x:Nat}{n M:Int}(h:IsAt x n M):floatToIntVal .f64 x .i64=some n:=by
 have hb:=h.bound
 have ht:(FloatKind.f64.decode x).toInt .zero=some n:=by
  have:=toInt_units h.unit
  rw [tdiv_mul] at this
  exact this
 unfold floatToIntVal
 rw [ht]
 simp only
 rw [if_pos]
 show -9223372036854775808≤n∧n≤9223372036854775807
 omega
theorem isAt_fl (n:Int){M:Int}(h0 : -M≤n)(h1:n≤M)(hM:M≤4503599627370496):IsAt (floatOfInt .f64 n) n M:=⟨ofInt_whole n (by omega) (by omega),h0,h1⟩
theorem isAt_zero:IsAt 0 0 0:=⟨wholeOf_some.2 ⟨(nearest_zero false).trans (by simp),by omega,by omega⟩,by omega,by omega⟩
theorem both_cases (a b:Nat)(M:Int):(∃n m,IsAt a n M∧IsAt b m M)∨(okB a M&&okB b M)=false:=by
 cases ha:okB a M with
 | false=>exact .inr rfl
 | true=>
  cases hb:okB b M with
  | false=>exact .inr rfl
  | true=>
   obtain ⟨n,hn⟩:=okB_iff.1 ha
   obtain ⟨m,hm⟩:=okB_iff.1 hb
   exact .inl ⟨n,m,hn,hm⟩
theorem both_ok {a b:Nat}{n m M:Int}(ha:IsAt a n M)(hb:IsAt b m M):(okB a M&&okB b M)=true:=by rw [ha.ok,hb.ok];rfl
set_option maxHeartbeats 400000 in
theorem parts_yes {a b:Nat}{n m:Int}(ha:IsAt a n 4503599627370496)(hb:IsAt b m 4503599627370496)(w:World) :
 Calls Tryz.prog 312 #[.complex .f64 a b] w fun e w'=>e=.returned (.tuple #[.int .i64 n,.int .i64 m,.int .i64 0])∧Below w.heap.size w w':=by
 have H:=Lib.hid (whole_any a b w)
 rw [both_ok ha hb] at H
 have c1:=fun w=>run_convert_float_int (P:=Tryz.prog) w 384 2 .f64 .i64 a n (by kernel_rfl) Tryz.underlying2 ha.toInt
 have c2:=fun w=>run_convert_float_int (P:=Tryz.prog) w 384 2 .f64 .i64 b m (by kernel_rfl) Tryz.underlying2 hb.toInt
 clear ha hb
 go_enter Tryz.func312,Tryz.ntmps312
 go_wp2_with (go_at_call 382;refine H.out.mono ?_;rintro e w1 ⟨rfl,hb1⟩)
 go_ret3
 exact ⟨rfl,hb1⟩
set_option maxHeartbeats 400000 in
theorem parts_no {a b:Nat}(h:(okB a 4503599627370496&&okB b 4503599627370496)=false)(w:World) :
 Calls Tryz.prog 312 #[.complex .f64 a b] w fun e w'=>e=.returned (.tuple #[.int .i64 0,.int .i64 0,.int .i64 5])∧Below w.heap.size w w':=by
 have H:=Lib.hid (whole_any a b w)
 rw [h] at H
 clear h
 go_enter Tryz.func312,Tryz.ntmps312
 go_wp2_with (go_at_call 382;refine H.out.mono ?_;rintro e w1 ⟨rfl,hb1⟩)
 go_ret3
 exact ⟨rfl,hb1⟩
def fitsB (n:Int):Bool:=decide (-4503599627370496≤n∧n≤4503599627370496)
theorem fits_any (n:Int)(w:World):Calls Tryz.prog 292 #[.int .i64 n] w fun e w'=>e=.returned (.bool (fitsB n))∧w=w':=by
 by_cases h1 : -4503599627370496≤n
 ·by_cases h2:n≤4503599627370496
  ·have HV:=Lib.hid (show fitsB n=true from decide_eq_true ⟨h1,h2⟩)
   go_enter Tryz.func292,Tryz.ntmps292
   go_wp2
   go_ret
   exact ⟨Ei (by rw [HV.out]),rfl⟩
  ·have HV:=Lib.hid (show fitsB n=false from decide_eq_false fun h=>h2 h.2)
   go_enter Tryz.func292,Tryz.ntmps292
   go_wp2
   go_ret
   exact ⟨Ei (by rw [HV.out]),rfl⟩
 ·have HV:=Lib.hid (show fitsB n=false from decide_eq_false fun h=>h1 h.1)
  go_enter Tryz.func292,Tryz.ntmps292
  go_wp2
  go_ret
  exact ⟨Ei (by rw [HV.out]),rfl⟩
set_option maxHeartbeats 400000 in
theorem of_yes {n m:Int}(h1 : -4503599627370496≤n)(h2:n≤4503599627370496)(h3 : -4503599627370496≤m)(h4:m≤4503599627370496)(w:World) :
 Calls Tryz.prog 200 #[.int .i64 n,.int .i64 m] w fun e w'=>e=.returned (.tuple #[.complex .f64 (floatOfInt .f64 n) (floatOfInt .f64 m),.int .i64 0])∧w=w':=by
 have F1:=Lib.hid (fits_any n w)
 have F2:=Lib.hid (fits_any m w)
 rw [show fitsB n=true from decide_eq_true ⟨h1,h2⟩] at F1
 rw [show fitsB m=true from decide_eq_true ⟨h3,h4⟩] at F2
 go_enter Tryz.func200,Tryz.ntmps200
 go_wp2_with fail
 refine F1.out.mono ?_
 rintro e w1 ⟨rfl,rfl⟩
 go_wp2_with fail
 refine F2.out.mono ?_
 rintro e w1 ⟨rfl,rfl⟩
 go_wp2_with fail
 go_ret2
 exact ⟨rfl,rfl⟩
set_option maxHeartbeats 400000 in
theorem of_no {n m:Int}(h:¬(-4503599627370496≤n∧n≤4503599627370496∧-4503599627370496≤m∧m≤4503599627370496))(w:World) :
 Calls Tryz.prog 200 #[.int .i64 n,.int .i64 m] w fun e w'=>e=.returned (.tuple #[.complex .f64 0 0,.int .i64 3])∧w=w':=by
 have F1:=Lib.hid (fits_any n w)
 have F2:=Lib.hid (fits_any m w)
 by_cases hn : -4503599627370496≤n∧n≤4503599627370496
 ·have hm:¬(-4503599627370496≤m∧m≤4503599627370496):=fun hm=>h ⟨hn.1,hn.2,hm⟩
  rw [show fitsB n=true from decide_eq_true hn] at F1
  rw [show fitsB m=false from decide_eq_false hm] at F2
  clear h hn hm
  go_enter Tryz.func200,Tryz.ntmps200
  go_wp2_with fail
  refine F1.out.mono ?_
  rintro e w1 ⟨rfl,rfl⟩
  go_wp2_with fail
  refine F2.out.mono ?_
  rintro e w1 ⟨rfl,rfl⟩
  go_wp2_with fail
  go_ret2
  exact ⟨rfl,rfl⟩
 ·rw [show fitsB n=false from decide_eq_false hn] at F1
  clear h hn
  go_enter Tryz.func200,Tryz.ntmps200
  go_wp2_with fail
  refine F1.out.mono ?_
  rintro e w1 ⟨rfl,rfl⟩
  go_wp2_with fail
  go_ret2
  exact ⟨rfl,rfl⟩
end Go.Proofs.YtdfbohaohjaloaaGreatDoor
end
section
namespace Go.Proofs.YtdfbohaohjaloaaGreatDoor
open Go.RowKit Punnet.Flt
def ofR (n m:Int):Nat×Nat×Int:=if -4503599627370496≤n∧n≤4503599627370496∧-4503599627370496≤m∧m≤4503599627370496 then (floatOfInt .f64 n,floatOfInt .f64 m,0) else (0,0,3)
theorem of_any (n m:Int)(w:World):Calls Tryz.prog 200 #[.int .i64 n,.int .i64 m] w fun e w'=>e=.returned (.tuple #[.complex .f64 (ofR n m).1 (ofR n m).2.1,.int .i64 (ofR n m).2.2])∧w=w':=by
 unfold ofR
 by_cases h : -4503599627370496≤n∧n≤4503599627370496∧-4503599627370496≤m∧m≤4503599627370496
 ·rw [if_pos h];exact of_yes h.1 h.2.1 h.2.2.1 h.2.2.2 w
 ·rw [if_neg h];exact of_no h w
set_option maxHeartbeats 400000 in
theorem plus_yes {a b c d:Nat}{n m n' m':Int}(ha:IsAt a n 4503599627370496)(hb:IsAt b m 4503599627370496)(hc:IsAt c n' 4503599627370496)(hd:IsAt d m' 4503599627370496)(w:World) :
 Calls Tryz.prog 405 #[.complex .f64 a b,.complex .f64 c d] w fun e w'=>e=.returned (.tuple #[.complex .f64 (ofR (n+n') (m+m')).1 (ofR (n+n') (m+m')).2.1,.int .i64 (ofR (n+n') (m+m')).2.2])∧Below w.heap.size w w':=by
 have S1:=Lib.hid (whole_any a b)
 have S2:=Lib.hid (whole_any c d)
 rw [both_ok ha hb] at S1
 rw [both_ok hc hd] at S2
 have P1:=Lib.hid (parts_yes ha hb)
 have P2:=Lib.hid (parts_yes hc hd)
 obtain ⟨b1,b2⟩:=ha.bound
 obtain ⟨b3,b4⟩:=hb.bound
 obtain ⟨b5,b6⟩:=hc.bound
 obtain ⟨b7,b8⟩:=hd.bound
 have O:=Lib.hid (of_any (n+n') (m+m'))
 generalize ofR (n+n') (m+m')=R at *
 clear ha hb hc hd
 go_enter Tryz.func405,Tryz.ntmps405
 go_wp2_with fail
 refine (S1.out _).mono ?_
 rintro e w1 ⟨rfl,hb1⟩
 go_wp2_with fail
 refine (S2.out _).mono ?_
 rintro e w2 ⟨rfl,hb2⟩
 go_wp2_with fail
 refine (P1.out _).mono ?_
 rintro e w3 ⟨rfl,hb3⟩
 go_wp2_with fail
 refine (P2.out _).mono ?_
 rintro e w4 ⟨rfl,hb4⟩
 go_wp2_with fail
 refine (O.out _).mono ?_
 rintro e w5 ⟨rfl,rfl⟩
 go_wp2_with fail
 go_ret2
 exact ⟨rfl,by repeat (first | exact Below.refl _ _ | assumption | refine below_two ?_ (by assumption))⟩
set_option maxHeartbeats 400000 in
theorem plus_no {a b c d:Nat}(h:(okB a 4503599627370496&&okB b 4503599627370496&&(okB c 4503599627370496&&okB d 4503599627370496))=false)(w:World) :
 Calls Tryz.prog 405 #[.complex .f64 a b,.complex .f64 c d] w fun e w'=>e=.returned (.tuple #[.complex .f64 0 0,.int .i64 5])∧Below w.heap.size w w':=by
 have S1:=Lib.hid (whole_any a b)
 have S2:=Lib.hid (whole_any c d)
 cases h1:(okB a 4503599627370496&&okB b 4503599627370496) with
 | false=>
  rw [h1] at S1
  clear h h1
  go_enter Tryz.func405,Tryz.ntmps405
  go_wp2_with fail
  refine (S1.out _).mono ?_
  rintro e w1 ⟨rfl,hb1⟩
  go_wp2_with fail
  go_ret2
  exact ⟨rfl,hb1⟩
 | true=>
  rw [h1,Bool.true_and] at h
  rw [h1] at S1
  rw [h] at S2
  clear h h1
  go_enter Tryz.func405,Tryz.ntmps405
  go_wp2_with fail
  refine (S1.out _).mono ?_
  rintro e w1 ⟨rfl,hb1⟩
  go_wp2_with fail
  refine (S2.out _).mono ?_
  rintro e w2 ⟨rfl,hb2⟩
  go_wp2_with fail
  go_ret2
  exact ⟨rfl,below_two hb1 hb2⟩
end Go.Proofs.YtdfbohaohjaloaaGreatDoor
end
section
namespace Go.Proofs.YtdfbohaohjaloaaGreatDoor
open Go.RowKit Punnet.Flt
end Go.Proofs.YtdfbohaohjaloaaGreatDoor
end
section
namespace Go.Vm
open Go.RowKit Punnet.Flt Go.Proofs Go.Proofs.YtdfbohaohjaloaaGreatDoor
def cOf (n m:Int):Nat×Nat:=((ofR n m).1,(ofR n m).2.1)
def okN (n:Int):Prop:=-4503599627370496≤n∧n≤4503599627370496
def IsC (x:Nat×Nat)(n m:Int):Prop:=IsAt x.1 n 4503599627370496∧IsAt x.2 m 4503599627370496
theorem isC_of {n m:Int}(hn:okN n)(hm:okN m):IsC (cOf n m) n m:=by
 unfold cOf ofR
 rw [if_pos ⟨hn.1,hn.2,hm.1,hm.2⟩]
 exact ⟨isAt_fl n hn.1 hn.2 (by omega),isAt_fl m hm.1 hm.2 (by omega)⟩
theorem isC_zero:IsC (0,0) 0 0:=⟨⟨isAt_zero.1,by decide,by decide⟩,⟨isAt_zero.1,by decide,by decide⟩⟩
theorem isC_uniq {x:Nat×Nat}{n m n' m':Int}(h:IsC x n m)(k:IsC x n' m'):n=n'∧m=m':=by
 have a:=h.1.1;have b:=k.1.1;have c:=h.2.1;have d:=k.2.1
 rw [a] at b;rw [c] at d
 injection b with b;injection d with d
 exact ⟨b,d⟩
noncomputable def partsR (x:Nat×Nat):Int×Int×Int:=open Classical in if h:∃n m,IsC x n m then (h.choose,h.choose_spec.choose,0) else (0,0,5)
noncomputable def plusR (x y:Nat×Nat):Nat×Nat×Int:=ofR' (partsR x) (partsR y)
where ofR' (a b:Int×Int×Int):Nat×Nat×Int:=if a.2.2=0∧b.2.2=0 then ofR (a.1+b.1) (a.2.1+b.2.1) else (0,0,5)
theorem partsR_yes {x:Nat×Nat}{n m:Int}(h:IsC x n m):partsR x=(n,m,0):=by
 unfold partsR
 have hh:∃n m,IsC x n m:=⟨n,m,h⟩
 rw [dif_pos hh]
 obtain ⟨a,b⟩:=isC_uniq hh.choose_spec.choose_spec h
 rw [b]
 simp only [a]
theorem partsR_no {x:Nat×Nat}(h:¬∃n m,IsC x n m):partsR x=(0,0,5):=by unfold partsR;rw [dif_neg h]
theorem isC_cases (x:Nat×Nat):(∃n m,IsC x n m)∨(okB x.1 4503599627370496&&okB x.2 4503599627370496)=false:=by
 rcases both_cases x.1 x.2 4503599627370496 with ⟨n,m,hn,hm⟩ | h
 ·exact .inl ⟨n,m,hn,hm⟩
 ·exact .inr h
theorem isC_not {x:Nat×Nat}(h:(okB x.1 4503599627370496&&okB x.2 4503599627370496)=false):¬∃n m,IsC x n m:=by
 rintro ⟨n,m,hn,hm⟩
 rw [both_ok hn hm] at h;cases h
theorem planeOf_any (n m:Int):Bc Tryz.prog 200 [.sc (.int .i64 n),.sc (.int .i64 m)] [.d (.sc (.complex .f64 (cOf n m).1 (cOf n m).2)),.d (.sc (.int .i64 (ofR n m).2.2))]:=
 old_tup (us:=[.int .i64 n,.int .i64 m]) (rs:=[]) (by simp [Cc]) fun w=>(of_any n m w).mono fun e w' h=>⟨h.1,by rw [h.2];exact Below.refl _ _⟩
theorem planeParts_any (x:Nat×Nat):Bc Tryz.prog 312 [.sc (.complex .f64 x.1 x.2)] [.d (.sc (.int .i64 (partsR x).1)),.d (.sc (.int .i64 (partsR x).2.1)),.d (.sc (.int .i64 (partsR x).2.2))]:=by
 refine old_tup (us:=[.complex .f64 x.1 x.2]) (rs:=[.int .i64 (partsR x).2.2]) (by simp [Cc]) fun w=>?_
 rcases isC_cases x with ⟨n,m,h⟩ | h
 ·rw [partsR_yes h];exact parts_yes h.1 h.2 w
 ·rw [partsR_no (isC_not h)];exact parts_no h w
theorem planePlus_any (x y:Nat×Nat):Bc Tryz.prog 405 [.sc (.complex .f64 x.1 x.2),.sc (.complex .f64 y.1 y.2)] [.d (.sc (.complex .f64 (plusR x y).1 (plusR x y).2.1)),.d (.sc (.int .i64 (plusR x y).2.2))]:=by
 refine old_tup (us:=[.complex .f64 x.1 x.2,.complex .f64 y.1 y.2]) (rs:=[]) (by simp [Cc]) fun w=>?_
 unfold plusR plusR.ofR'
 rcases isC_cases x with ⟨n,m,h⟩ | h
 ·rcases isC_cases y with ⟨n',m',k⟩ | k
  ·rw [partsR_yes h,partsR_yes k,if_pos ⟨rfl,rfl⟩];exact plus_yes h.1 h.2 k.1 k.2 w
  ·rw [partsR_no (isC_not k),if_neg (by simp)];exact plus_no (by rw [k,Bool.and_false]) w
 ·rw [partsR_no (isC_not h),if_neg (by simp)];exact plus_no (by rw [h];rfl) w
end Go.Vm
end
section
namespace Go.Vm
open Go.RowKit Go.Proofs Go.Proofs.YtdfbohaohjaloaaGreatDoor Punnet.Name Punnet.Num Punnet.Flt
set_option maxRecDepth 1000000
theorem read9000_c:Bc Go.Proofs.Tryz.prog 23 [.sc (.string ⟨#[57,48,48,48]⟩)] [.d (.sc (.int .i64 9000)),.d (.sc (.int .i64 0))]:=by
 have h:=numRead_any ⟨#[57,48,48,48]⟩ (by decide)
 rw [show Au (⟨#[57,48,48,48]⟩:ByteArray)=(9000,0) from by kernel_rfl] at h
 exact h
theorem read2_c:Bc Go.Proofs.Tryz.prog 23 [.sc (.string ⟨#[50]⟩)] [.d (.sc (.int .i64 2)),.d (.sc (.int .i64 0))]:=by
 have h:=numRead_any ⟨#[50]⟩ (by decide)
 rw [show Au (⟨#[50]⟩:ByteArray)=(2,0) from by kernel_rfl] at h
 exact h
theorem read0_c:Bc Go.Proofs.Tryz.prog 23 [.sc (.string ⟨#[48]⟩)] [.d (.sc (.int .i64 0)),.d (.sc (.int .i64 0))]:=by
 have h:=numRead_any ⟨#[48]⟩ (by decide)
 rw [show Au (⟨#[48]⟩:ByteArray)=(0,0) from by kernel_rfl] at h
 exact h
theorem read1_c:Bc Go.Proofs.Tryz.prog 23 [.sc (.string ⟨#[49]⟩)] [.d (.sc (.int .i64 1)),.d (.sc (.int .i64 0))]:=by
 have h:=numRead_any ⟨#[49]⟩ (by decide)
 rw [show Au (⟨#[49]⟩:ByteArray)=(1,0) from by kernel_rfl] at h
 exact h
theorem read3_c:Bc Go.Proofs.Tryz.prog 23 [.sc (.string ⟨#[51]⟩)] [.d (.sc (.int .i64 3)),.d (.sc (.int .i64 0))]:=by
 have h:=numRead_any ⟨#[51]⟩ (by decide)
 rw [show Au (⟨#[51]⟩:ByteArray)=(3,0) from by kernel_rfl] at h
 exact h
theorem prin0_c:Bc Go.Proofs.Tryz.prog 24 [.sc (.int .i64 0)] [.d (.sc (.string ⟨#[48]⟩))]:=by
 have h:=numPrint_any 0 (by decide)
 rw [show printB 0=⟨#[48]⟩ from by kernel_rfl] at h
 exact h
theorem prin1_c:Bc Go.Proofs.Tryz.prog 24 [.sc (.int .i64 1)] [.d (.sc (.string ⟨#[49]⟩))]:=by
 have h:=numPrint_any 1 (by decide)
 rw [show printB 1=⟨#[49]⟩ from by kernel_rfl] at h
 exact h
theorem prin2_c:Bc Go.Proofs.Tryz.prog 24 [.sc (.int .i64 2)] [.d (.sc (.string ⟨#[50]⟩))]:=by
 have h:=numPrint_any 2 (by decide)
 rw [show printB 2=⟨#[50]⟩ from by kernel_rfl] at h
 exact h
theorem prin3_c:Bc Go.Proofs.Tryz.prog 24 [.sc (.int .i64 3)] [.d (.sc (.string ⟨#[51]⟩))]:=by
 have h:=numPrint_any 3 (by decide)
 rw [show printB 3=⟨#[51]⟩ from by kernel_rfl] at h
 exact h
theorem fread0_c:Bc Go.Proofs.Tryz.prog 141 [.sc (.string ⟨#[108,105,110,101,46,113,116,121]⟩)] [.d (.agg [.sc (.int .i64 1),.sc (.string ⟨#[]⟩),.sc (.string ⟨#[113,116,121]⟩)]),.d (.sc (.int .i64 0))]:=by
 have h:=fieldRead_any ⟨#[108,105,110,101,46,113,116,121]⟩ (by decide)
 rw [EO (r:=(⟨1,⟨#[]⟩,⟨#[113,116,121]⟩⟩:BA)) (by kernel_rfl) (s:=⟨#[108,105,110,101,46,113,116,121]⟩) (by kernel_rfl)] at h
 exact h
theorem fprin0_c:Bc Go.Proofs.Tryz.prog 134 [.agg [.sc (.int .i64 0),.sc (.string ⟨#[]⟩),.sc (.string ⟨#[99,111,117,112,111,110]⟩)]] [.d (.sc (.string ⟨#[104,101,97,100,46,99,111,117,112,111,110]⟩))]:=by
 have h:=CB (⟨0,⟨#[]⟩,⟨#[99,111,117,112,111,110]⟩⟩:BA)
 rw [show (if BD (⟨0,⟨#[]⟩,⟨#[99,111,117,112,111,110]⟩⟩:BA)=true then BI (⟨0,⟨#[]⟩,⟨#[99,111,117,112,111,110]⟩⟩:BA) else ⟨#[63]⟩)=(⟨#[104,101,97,100,46,99,111,117,112,111,110]⟩:ByteArray) from by kernel_rfl] at h
 exact h
theorem fprin1_c:Bc Go.Proofs.Tryz.prog 134 [.agg [.sc (.int .i64 1),.sc (.string ⟨#[]⟩),.sc (.string ⟨#[110,111,116,101]⟩)]] [.d (.sc (.string ⟨#[108,105,110,101,46,110,111,116,101]⟩))]:=by
 have h:=CB (⟨1,⟨#[]⟩,⟨#[110,111,116,101]⟩⟩:BA)
 rw [show (if BD (⟨1,⟨#[]⟩,⟨#[110,111,116,101]⟩⟩:BA)=true then BI (⟨1,⟨#[]⟩,⟨#[110,111,116,101]⟩⟩:BA) else ⟨#[63]⟩)=(⟨#[108,105,110,101,46,110,111,116,101]⟩:ByteArray) from by kernel_rfl] at h
 exact h
theorem fprin2_c:Bc Go.Proofs.Tryz.prog 134 [.agg [.sc (.int .i64 1),.sc (.string ⟨#[]⟩),.sc (.string ⟨#[113,116,121]⟩)]] [.d (.sc (.string ⟨#[108,105,110,101,46,113,116,121]⟩))]:=by
 have h:=CB (⟨1,⟨#[]⟩,⟨#[113,116,121]⟩⟩:BA)
 rw [show (if BD (⟨1,⟨#[]⟩,⟨#[113,116,121]⟩⟩:BA)=true then BI (⟨1,⟨#[]⟩,⟨#[113,116,121]⟩⟩:BA) else ⟨#[63]⟩)=(⟨#[108,105,110,101,46,113,116,121]⟩:ByteArray) from by kernel_rfl] at h
 exact h
theorem fprin3_c:Bc Go.Proofs.Tryz.prog 134 [.agg [.sc (.int .i64 1),.sc (.string ⟨#[]⟩),.sc (.string ⟨#[115,105,122,101]⟩)]] [.d (.sc (.string ⟨#[108,105,110,101,46,115,105,122,101]⟩))]:=by
 have h:=CB (⟨1,⟨#[]⟩,⟨#[115,105,122,101]⟩⟩:BA)
 rw [show (if BD (⟨1,⟨#[]⟩,⟨#[115,105,122,101]⟩⟩:BA)=true then BI (⟨1,⟨#[]⟩,⟨#[115,105,122,101]⟩⟩:BA) else ⟨#[63]⟩)=(⟨#[108,105,110,101,46,115,105,122,101]⟩:ByteArray) from by kernel_rfl] at h
 exact h
theorem fprin4_c:Bc Go.Proofs.Tryz.prog 134 [.agg [.sc (.int .i64 1),.sc (.string ⟨#[]⟩),.sc (.string ⟨#[116,97,103,115]⟩)]] [.d (.sc (.string ⟨#[108,105,110,101,46,116,97,103,115]⟩))]:=by
 have h:=CB (⟨1,⟨#[]⟩,⟨#[116,97,103,115]⟩⟩:BA)
 rw [show (if BD (⟨1,⟨#[]⟩,⟨#[116,97,103,115]⟩⟩:BA)=true then BI (⟨1,⟨#[]⟩,⟨#[116,97,103,115]⟩⟩:BA) else ⟨#[63]⟩)=(⟨#[108,105,110,101,46,116,97,103,115]⟩:ByteArray) from by kernel_rfl] at h
 exact h
theorem c3:cOf 3 0=(4613937818241073152,0):=by kernel_rfl
theorem isC3:IsC (4613937818241073152,0) 3 0:=by have:=isC_of (n:=3) (m:=0) (by unfold okN;decide) (by unfold okN;decide);rwa [c3] at this
theorem pof0_c:Bc Go.Proofs.Tryz.prog 200 [.sc (.int .i64 0),.sc (.int .i64 0)] [.d (.sc (.complex .f64 0 0)),.d (.sc (.int .i64 0))]:=by
 have h:=planeOf_any 0 0
 rw [show cOf 0 0=(0,0) from by kernel_rfl] at h
 rw [show (ofR 0 0).2.2=0 from by kernel_rfl] at h
 exact h
theorem ppart0_c:Bc Go.Proofs.Tryz.prog 312 [.sc (.complex .f64 0 0)] [.d (.sc (.int .i64 0)),.d (.sc (.int .i64 0)),.d (.sc (.int .i64 0))]:=by
 have h:=planeParts_any (0,0)
 rw [partsR_yes isC_zero] at h
 exact h
theorem pof3_c:Bc Go.Proofs.Tryz.prog 200 [.sc (.int .i64 3),.sc (.int .i64 0)] [.d (.sc (.complex .f64 4613937818241073152 0)),.d (.sc (.int .i64 0))]:=by
 have h:=planeOf_any 3 0
 rw [show cOf 3 0=(4613937818241073152,0) from by kernel_rfl] at h
 rw [show (ofR 3 0).2.2=0 from by kernel_rfl] at h
 exact h
theorem ppart3_c:Bc Go.Proofs.Tryz.prog 312 [.sc (.complex .f64 4613937818241073152 0)] [.d (.sc (.int .i64 3)),.d (.sc (.int .i64 0)),.d (.sc (.int .i64 0))]:=by
 have h:=planeParts_any (4613937818241073152,0)
 rw [partsR_yes isC3] at h
 exact h
theorem pplus_c:Bc Go.Proofs.Tryz.prog 405 [.sc (.complex .f64 0 0),.sc (.complex .f64 4613937818241073152 0)] [.d (.sc (.complex .f64 4613937818241073152 0)),.d (.sc (.int .i64 0))]:=by
 have h:=planePlus_any (0,0) (4613937818241073152,0)
 rw [show plusR (0,0) (4613937818241073152,0)=(4613937818241073152,0,0) from by unfold plusR plusR.ofR';rw [partsR_yes isC_zero,partsR_yes isC3];kernel_rfl] at h
 exact h
theorem psmall_c:Bc Go.Proofs.Tryz.prog 201 [.sc (.complex .f64 0 0)] [.d (.sc (.bool true))]:=by
 have h:=old_one (us:=[.complex .f64 0 0]) (r:=.bool true) rfl (fun w=>(small_any 0 0 w).mono (by rintro e w1 ⟨rfl,hb⟩;exact ⟨by rw [show (okB 0 33554432&&okB 0 33554432)=true from by kernel_rfl],hb⟩))
 exact h
end Go.Vm
namespace Go.Rn
open Go.RowKit
open Go.Vm (enters D C read9000_c read2_c read0_c read1_c read3_c prin0_c prin1_c prin2_c prin3_c fread0_c fprin0_c fprin1_c fprin2_c fprin3_c fprin4_c pof0_c ppart0_c pof3_c ppart3_c pplus_c psmall_c)
theorem read9000_r [Cx](h:Hp)(n:Nat):CX Go.Proofs.Tryz.prog 23 [.sc (.string ⟨#[57,48,48,48]⟩)] h n (.tup [.sc (.int .i64 9000),.sc (.int .i64 0)]) h n:=Ee (ds:=[.sc (.string ⟨#[57,48,48,48]⟩)]) (cs:=[.d (.sc (.int .i64 9000)),.d (.sc (.int .i64 0))]) (by kernel_rfl) (by kernel_rfl) read9000_c h n
theorem read2_r [Cx](h:Hp)(n:Nat):CX Go.Proofs.Tryz.prog 23 [.sc (.string ⟨#[50]⟩)] h n (.tup [.sc (.int .i64 2),.sc (.int .i64 0)]) h n:=Ee (ds:=[.sc (.string ⟨#[50]⟩)]) (cs:=[.d (.sc (.int .i64 2)),.d (.sc (.int .i64 0))]) (by kernel_rfl) (by kernel_rfl) read2_c h n
theorem read0_r [Cx](h:Hp)(n:Nat):CX Go.Proofs.Tryz.prog 23 [.sc (.string ⟨#[48]⟩)] h n (.tup [.sc (.int .i64 0),.sc (.int .i64 0)]) h n:=Ee (ds:=[.sc (.string ⟨#[48]⟩)]) (cs:=[.d (.sc (.int .i64 0)),.d (.sc (.int .i64 0))]) (by kernel_rfl) (by kernel_rfl) read0_c h n
theorem read1_r [Cx](h:Hp)(n:Nat):CX Go.Proofs.Tryz.prog 23 [.sc (.string ⟨#[49]⟩)] h n (.tup [.sc (.int .i64 1),.sc (.int .i64 0)]) h n:=Ee (ds:=[.sc (.string ⟨#[49]⟩)]) (cs:=[.d (.sc (.int .i64 1)),.d (.sc (.int .i64 0))]) (by kernel_rfl) (by kernel_rfl) read1_c h n
theorem read3_r [Cx](h:Hp)(n:Nat):CX Go.Proofs.Tryz.prog 23 [.sc (.string ⟨#[51]⟩)] h n (.tup [.sc (.int .i64 3),.sc (.int .i64 0)]) h n:=Ee (ds:=[.sc (.string ⟨#[51]⟩)]) (cs:=[.d (.sc (.int .i64 3)),.d (.sc (.int .i64 0))]) (by kernel_rfl) (by kernel_rfl) read3_c h n
theorem prin0_r [Cx](h:Hp)(n:Nat):CX Go.Proofs.Tryz.prog 24 [.sc (.int .i64 0)] h n (.sc (.string ⟨#[48]⟩)) h n:=Ee (ds:=[.sc (.int .i64 0)]) (cs:=[.d (.sc (.string ⟨#[48]⟩))]) (by kernel_rfl) (by kernel_rfl) prin0_c h n
theorem prin1_r [Cx](h:Hp)(n:Nat):CX Go.Proofs.Tryz.prog 24 [.sc (.int .i64 1)] h n (.sc (.string ⟨#[49]⟩)) h n:=Ee (ds:=[.sc (.int .i64 1)]) (cs:=[.d (.sc (.string ⟨#[49]⟩))]) (by kernel_rfl) (by kernel_rfl) prin1_c h n
theorem prin2_r [Cx](h:Hp)(n:Nat):CX Go.Proofs.Tryz.prog 24 [.sc (.int .i64 2)] h n (.sc (.string ⟨#[50]⟩)) h n:=Ee (ds:=[.sc (.int .i64 2)]) (cs:=[.d (.sc (.string ⟨#[50]⟩))]) (by kernel_rfl) (by kernel_rfl) prin2_c h n
theorem prin3_r [Cx](h:Hp)(n:Nat):CX Go.Proofs.Tryz.prog 24 [.sc (.int .i64 3)] h n (.sc (.string ⟨#[51]⟩)) h n:=Ee (ds:=[.sc (.int .i64 3)]) (cs:=[.d (.sc (.string ⟨#[51]⟩))]) (by kernel_rfl) (by kernel_rfl) prin3_c h n
theorem fread0_r [Cx](h:Hp)(n:Nat):CX Go.Proofs.Tryz.prog 141 [.sc (.string ⟨#[108,105,110,101,46,113,116,121]⟩)] h n (.tup [.agg [.sc (.int .i64 1),.sc (.string ⟨#[]⟩),.sc (.string ⟨#[113,116,121]⟩)],.sc (.int .i64 0)]) h n:=Ee (ds:=[.sc (.string ⟨#[108,105,110,101,46,113,116,121]⟩)]) (cs:=[.d (.agg [.sc (.int .i64 1),.sc (.string ⟨#[]⟩),.sc (.string ⟨#[113,116,121]⟩)]),.d (.sc (.int .i64 0))]) (by kernel_rfl) (by kernel_rfl) fread0_c h n
theorem fprin0_r [Cx](h:Hp)(n:Nat):CX Go.Proofs.Tryz.prog 134 [.agg [.sc (.int .i64 0),.sc (.string ⟨#[]⟩),.sc (.string ⟨#[99,111,117,112,111,110]⟩)]] h n (.sc (.string ⟨#[104,101,97,100,46,99,111,117,112,111,110]⟩)) h n:=Ee (ds:=[.agg [.sc (.int .i64 0),.sc (.string ⟨#[]⟩),.sc (.string ⟨#[99,111,117,112,111,110]⟩)]]) (cs:=[.d (.sc (.string ⟨#[104,101,97,100,46,99,111,117,112,111,110]⟩))]) (by kernel_rfl) (by kernel_rfl) fprin0_c h n
theorem fprin1_r [Cx](h:Hp)(n:Nat):CX Go.Proofs.Tryz.prog 134 [.agg [.sc (.int .i64 1),.sc (.string ⟨#[]⟩),.sc (.string ⟨#[110,111,116,101]⟩)]] h n (.sc (.string ⟨#[108,105,110,101,46,110,111,116,101]⟩)) h n:=Ee (ds:=[.agg [.sc (.int .i64 1),.sc (.string ⟨#[]⟩),.sc (.string ⟨#[110,111,116,101]⟩)]]) (cs:=[.d (.sc (.string ⟨#[108,105,110,101,46,110,111,116,101]⟩))]) (by kernel_rfl) (by kernel_rfl) fprin1_c h n
theorem fprin2_r [Cx](h:Hp)(n:Nat):CX Go.Proofs.Tryz.prog 134 [.agg [.sc (.int .i64 1),.sc (.string ⟨#[]⟩),.sc (.string ⟨#[113,116,121]⟩)]] h n (.sc (.string ⟨#[108,105,110,101,46,113,116,121]⟩)) h n:=Ee (ds:=[.agg [.sc (.int .i64 1),.sc (.string ⟨#[]⟩),.sc (.string ⟨#[113,116,121]⟩)]]) (cs:=[.d (.sc (.string ⟨#[108,105,110,101,46,113,116,121]⟩))]) (by kernel_rfl) (by kernel_rfl) fprin2_c h n
theorem fprin3_r [Cx](h:Hp)(n:Nat):CX Go.Proofs.Tryz.prog 134 [.agg [.sc (.int .i64 1),.sc (.string ⟨#[]⟩),.sc (.string ⟨#[115,105,122,101]⟩)]] h n (.sc (.string ⟨#[108,105,110,101,46,115,105,122,101]⟩)) h n:=Ee (ds:=[.agg [.sc (.int .i64 1),.sc (.string ⟨#[]⟩),.sc (.string ⟨#[115,105,122,101]⟩)]]) (cs:=[.d (.sc (.string ⟨#[108,105,110,101,46,115,105,122,101]⟩))]) (by kernel_rfl) (by kernel_rfl) fprin3_c h n
theorem fprin4_r [Cx](h:Hp)(n:Nat):CX Go.Proofs.Tryz.prog 134 [.agg [.sc (.int .i64 1),.sc (.string ⟨#[]⟩),.sc (.string ⟨#[116,97,103,115]⟩)]] h n (.sc (.string ⟨#[108,105,110,101,46,116,97,103,115]⟩)) h n:=Ee (ds:=[.agg [.sc (.int .i64 1),.sc (.string ⟨#[]⟩),.sc (.string ⟨#[116,97,103,115]⟩)]]) (cs:=[.d (.sc (.string ⟨#[108,105,110,101,46,116,97,103,115]⟩))]) (by kernel_rfl) (by kernel_rfl) fprin4_c h n
theorem pof0_r [Cx](h:Hp)(n:Nat):CX Go.Proofs.Tryz.prog 200 [.sc (.int .i64 0),.sc (.int .i64 0)] h n (.tup [.sc (.complex .f64 0 0),.sc (.int .i64 0)]) h n:=Ee (ds:=[.sc (.int .i64 0),.sc (.int .i64 0)]) (cs:=[.d (.sc (.complex .f64 0 0)),.d (.sc (.int .i64 0))]) (by kernel_rfl) (by kernel_rfl) pof0_c h n
theorem ppart0_r [Cx](h:Hp)(n:Nat):CX Go.Proofs.Tryz.prog 312 [.sc (.complex .f64 0 0)] h n (.tup [.sc (.int .i64 0),.sc (.int .i64 0),.sc (.int .i64 0)]) h n:=Ee (ds:=[.sc (.complex .f64 0 0)]) (cs:=[.d (.sc (.int .i64 0)),.d (.sc (.int .i64 0)),.d (.sc (.int .i64 0))]) (by kernel_rfl) (by kernel_rfl) ppart0_c h n
theorem pof3_r [Cx](h:Hp)(n:Nat):CX Go.Proofs.Tryz.prog 200 [.sc (.int .i64 3),.sc (.int .i64 0)] h n (.tup [.sc (.complex .f64 4613937818241073152 0),.sc (.int .i64 0)]) h n:=Ee (ds:=[.sc (.int .i64 3),.sc (.int .i64 0)]) (cs:=[.d (.sc (.complex .f64 4613937818241073152 0)),.d (.sc (.int .i64 0))]) (by kernel_rfl) (by kernel_rfl) pof3_c h n
theorem ppart3_r [Cx](h:Hp)(n:Nat):CX Go.Proofs.Tryz.prog 312 [.sc (.complex .f64 4613937818241073152 0)] h n (.tup [.sc (.int .i64 3),.sc (.int .i64 0),.sc (.int .i64 0)]) h n:=Ee (ds:=[.sc (.complex .f64 4613937818241073152 0)]) (cs:=[.d (.sc (.int .i64 3)),.d (.sc (.int .i64 0)),.d (.sc (.int .i64 0))]) (by kernel_rfl) (by kernel_rfl) ppart3_c h n
theorem pplus_r [Cx](h:Hp)(n:Nat):CX Go.Proofs.Tryz.prog 405 [.sc (.complex .f64 0 0),.sc (.complex .f64 4613937818241073152 0)] h n (.tup [.sc (.complex .f64 4613937818241073152 0),.sc (.int .i64 0)]) h n:=Ee (ds:=[.sc (.complex .f64 0 0),.sc (.complex .f64 4613937818241073152 0)]) (cs:=[.d (.sc (.complex .f64 4613937818241073152 0)),.d (.sc (.int .i64 0))]) (by kernel_rfl) (by kernel_rfl) pplus_c h n
theorem psmall_r [Cx](h:Hp)(n:Nat):CX Go.Proofs.Tryz.prog 201 [.sc (.complex .f64 0 0)] h n (.sc (.bool true)) h n:=Ee (ds:=[.sc (.complex .f64 0 0)]) (cs:=[.d (.sc (.bool true))]) (by kernel_rfl) (by kernel_rfl) psmall_c h n
abbrev orcP:Orc:=(23,[.sc (.string ⟨#[57,48,48,48]⟩)],.tup [.sc (.int .i64 9000),.sc (.int .i64 0)])::(23,[.sc (.string ⟨#[50]⟩)],.tup [.sc (.int .i64 2),.sc (.int .i64 0)])::(23,[.sc (.string ⟨#[48]⟩)],.tup [.sc (.int .i64 0),.sc (.int .i64 0)])::(23,[.sc (.string ⟨#[49]⟩)],.tup [.sc (.int .i64 1),.sc (.int .i64 0)])::(23,[.sc (.string ⟨#[51]⟩)],.tup [.sc (.int .i64 3),.sc (.int .i64 0)])::(24,[.sc (.int .i64 0)],.sc (.string ⟨#[48]⟩))::(24,[.sc (.int .i64 1)],.sc (.string ⟨#[49]⟩))::(24,[.sc (.int .i64 2)],.sc (.string ⟨#[50]⟩))::(24,[.sc (.int .i64 3)],.sc (.string ⟨#[51]⟩))::(141,[.sc (.string ⟨#[108,105,110,101,46,113,116,121]⟩)],.tup [.agg [.sc (.int .i64 1),.sc (.string ⟨#[]⟩),.sc (.string ⟨#[113,116,121]⟩)],.sc (.int .i64 0)])::(134,[.agg [.sc (.int .i64 0),.sc (.string ⟨#[]⟩),.sc (.string ⟨#[99,111,117,112,111,110]⟩)]],.sc (.string ⟨#[104,101,97,100,46,99,111,117,112,111,110]⟩))::(134,[.agg [.sc (.int .i64 1),.sc (.string ⟨#[]⟩),.sc (.string ⟨#[110,111,116,101]⟩)]],.sc (.string ⟨#[108,105,110,101,46,110,111,116,101]⟩))::(134,[.agg [.sc (.int .i64 1),.sc (.string ⟨#[]⟩),.sc (.string ⟨#[113,116,121]⟩)]],.sc (.string ⟨#[108,105,110,101,46,113,116,121]⟩))::(134,[.agg [.sc (.int .i64 1),.sc (.string ⟨#[]⟩),.sc (.string ⟨#[115,105,122,101]⟩)]],.sc (.string ⟨#[108,105,110,101,46,115,105,122,101]⟩))::(134,[.agg [.sc (.int .i64 1),.sc (.string ⟨#[]⟩),.sc (.string ⟨#[116,97,103,115]⟩)]],.sc (.string ⟨#[108,105,110,101,46,116,97,103,115]⟩))::(200,[.sc (.int .i64 0),.sc (.int .i64 0)],.tup [.sc (.complex .f64 0 0),.sc (.int .i64 0)])::(312,[.sc (.complex .f64 0 0)],.tup [.sc (.int .i64 0),.sc (.int .i64 0),.sc (.int .i64 0)])::(200,[.sc (.int .i64 3),.sc (.int .i64 0)],.tup [.sc (.complex .f64 4613937818241073152 0),.sc (.int .i64 0)])::(312,[.sc (.complex .f64 4613937818241073152 0)],.tup [.sc (.int .i64 3),.sc (.int .i64 0),.sc (.int .i64 0)])::(405,[.sc (.complex .f64 0 0),.sc (.complex .f64 4613937818241073152 0)],.tup [.sc (.complex .f64 4613937818241073152 0),.sc (.int .i64 0)])::(201,[.sc (.complex .f64 0 0)],.sc (.bool true))::orcS
theorem orcP_ok [Cx]:OrcOk Go.Proofs.Tryz.prog orcP:=(D8 (by kernel_rfl) read9000_r (D8 (by kernel_rfl) read2_r (D8 (by kernel_rfl) read0_r (D8 (by kernel_rfl) read1_r (D8 (by kernel_rfl) read3_r (D8 (by kernel_rfl) prin0_r (D8 (by kernel_rfl) prin1_r (D8 (by kernel_rfl) prin2_r (D8 (by kernel_rfl) prin3_r (D8 (by kernel_rfl) fread0_r (D8 (by kernel_rfl) fprin0_r (D8 (by kernel_rfl) fprin1_r (D8 (by kernel_rfl) fprin2_r (D8 (by kernel_rfl) fprin3_r (D8 (by kernel_rfl) fprin4_r (D8 (by kernel_rfl) pof0_r (D8 (by kernel_rfl) ppart0_r (D8 (by kernel_rfl) pof3_r (D8 (by kernel_rfl) ppart3_r (D8 (by kernel_rfl) pplus_r (D8 (by kernel_rfl) psmall_r orcS_ok)))))))))))))))))))))
end Go.Rn
end
section
namespace Go.Rn
open Go.RowKit
open Go.Vm (enters)
set_option maxRecDepth 1000000
set_option maxHeartbeats 100000000 in
theorem awake34_run:Hold (run Go.Proofs.Tryz.prog ft orcP 1000000 1000 7 [] .leaf 0 (fun v _ _=>isV (.sc (.bool true)) v)):=⟨of_eq_true (by kernel_rfl)⟩
theorem awake34_known:enters Go.Proofs.Tryz.prog 7=true∧∀[Cx] h n,CX Go.Proofs.Tryz.prog 7 [] h n (.sc (.bool true)) h n:=closed_run (P:=Go.Proofs.Tryz.prog) (F:=ft) (l:=orcP) (f:=7) (x:=.sc (.bool true)) (u:=.bool true) ft_ok (fun [Cx]=>orcP_ok) awake34_run rfl rfl
end Go.Rn
end
section
namespace Go.Vm
open Go.RowKit Go.Proofs
set_option maxRecDepth 10000
open Go.Proofs Go.Proofs.YtdfbohaohjaloaaGreatDoor Punnet.Name Punnet.Num
theorem awake34_any:Bc Tryz.prog 7 [] [.d (.sc (.bool (true)))]:=Go.Rn.contract_bool Go.Rn.awake34_known.2
end Go.Vm
end
section
namespace Go.Vm
open Go.RowKit Go.Proofs
set_option maxRecDepth 10000
open Go.Proofs Go.Proofs.YtdfbohaohjaloaaGreatDoor Punnet.Name Punnet.Num
theorem not_new {s v:ByteArray}{l:List ByteArray}{m:Ar}(hz:s.size≤1000000)(hsp:splitB s 0=v::l)(hm:BG s=some (m,0)):¬v=⟨#[110,101,119]⟩∧¬v=⟨#[107,110,111,119,110]⟩:=by
 constructor
 all_goals
  rintro rfl
  have h:BG s=some (Be,4):=by
   unfold BG
   rw [AL hz,hsp,CG,Option.bind_some]
   dsimp only
   first | rw [show Bv Ci ⟨#[110,101,119]⟩=some 0 from by kernel_rfl] | rw [show Bv Ci ⟨#[107,110,111,119,110]⟩=some 0 from by kernel_rfl]
   rw [Option.bind_some,if_neg (by decide)]
   first | rw [show Bv DC ⟨#[110,101,119]⟩=some 0 from by kernel_rfl] | rw [show Bv DC ⟨#[107,110,111,119,110]⟩=some 0 from by kernel_rfl]
   rw [Option.bind_some,if_neg (by decide),if_neg (by decide),if_neg (by decide),if_neg (by decide),if_neg (by decide)]
  rw [h] at hm
  injection hm with hm
  injection hm with _ hm
  cases hm
theorem scriptNil_any (s:ByteArray):DK Tryz.prog 4 [.sc (.string (s))] [(1000000,.free)] [.d (.sc (.bool (true)))] []:=by
 refine T.fnH [35,37] Tryz.func4 ?_ (by simp only [List.forall_mem_cons,List.not_mem_nil,false_implies,implies_true,and_true];decide) (by simp [thing]) (by simp [thing])
 refine AY T.en_7 (awake34_any) ?_
 refine brF ?_
 refine AA ?_
 refine br (fun hc2=>?y2) (fun hc2=>?n2)
 case' n2=>
  obtain ⟨m,ok,p1,p2,_⟩:=line_both s (by omega)
  refine AY T.en_13 (doNil_any s) ?_
  refine AY T.en_12 (refSames_any [E1] [E1] (by decide)) ?_
  refine br (fun hg3=>?y3) (fun hg3=>?n3)
  case' y3=>
   exact absurd rfl hg3
  case' n3=>
   refine AY T.en_14 (runNil_any [s,s] (by simp)) ?_
   refine AY T.en_12 (refSames_any (List.replicate 2 E1) [E1,E1] (by decide)) ?_
   refine br (fun hc4=>?y4) (fun hc4=>?n4)
   case' y4=>
    exact absurd rfl hc4
   case' n4=>
    refine AY T.en_15 (ref34_Parse_any s _ p2) ?_
    refine br (fun hg5=>?y5) (fun hg5=>?n5)
    case' n5=>
     have hok:ok=true:=hg5
     have hm:BG s=some (m,0):=by rw [p1,if_pos hok]
     obtain ⟨v,l,hsp⟩:=splitB_ne s 0
     obtain ⟨h1,h2⟩:=not_new (by omega) hsp hm
     refine Bq T.en_16 (consNew_any 1000000 (by decide)) ?_ ⟨⟨(by decide),(by first | rfl | (simp only [hOf,hset,hpost,if_true,if_false,not_false_eq_true];first | done | rfl))⟩,trivial⟩
     refine x_callR T.en_13 (doNew_any 1000000 (by decide) s v l m hsp h1 h2 (by omega) hm) ?_ ⟨⟨(by decide),(by first | rfl | (simp only [hOf,hset,hpost,if_true,if_false,not_false_eq_true];first | done | rfl))⟩,trivial⟩
     refine AY T.en_12 (refSames_any [E1] [E1] (by decide)) ?_
 all_goals (refine ⟨?_,trivial⟩;simp only [BL,fits,C.asD,and_true]<;>(first | rfl | (refine scb ?_;first | rfl | (simp;done))))
end Go.Vm
end
section
namespace Go.Vm
open Go.RowKit Go.Proofs
set_option maxRecDepth 10000
end Go.Vm
namespace Go.Proofs.YtdfbohaohjaloaaGreatDoor
open Go.RowKit Go.Vm
theorem scriptNil_walk (a0:ByteArray)(w:World)(_w0:a0.size≤maxLen)(hG:∀g cs,Go.gtab g=some cs→g<w.heap.size∧∀(j:Nat) (u:Value),cs[j]? = some u→w.cell? ⟨g,j,none⟩=some u) :
 Calls Tryz.prog 4 #[.string a0] w fun e w'=>e=.returned (.bool true)∧Below w.heap.size w w':=by
 refine law_trueH (scriptNil_any a0) (by simp) rfl ?_ (hG:=fun g cs hg=>⟨(hG g cs hg).1,rfl,(hG g cs hg).2⟩)
 intro i v d hv hd
 match i,hv,hd with
 | 0,hv,hd=>simp at hv hd;subst hv hd;exact Rep.sc rfl
 | i+1,hv,_=>simp at hv
end Go.Proofs.YtdfbohaohjaloaaGreatDoor
namespace Go.Vm
end Go.Vm
end
section
namespace Go.Lib
def strTab {H:Type}(zs:List (List UInt8)):DataW H:=.agg (zs.map fun z=>.lit (.string z))
theorem cells_of_strs {H:Type}{enc:TypeId×Value→H}{P:Program}{w:World}{base:Nat}{sp:Nat→Bool}{held:Bool}{fuel:Nat}{t e:TypeId}{n:Nat}{cs:List Value}{zs:List (List UInt8)}{p:List MemPlace}
 (ht:P.underlying t=some (.array n e)) (he:P.underlying e=some .string) (hce:P.cellsOf e=1) (hct:P.cellsOf t=n)
 (h:DataW.trod enc P w base sp held fuel t cs=some (strTab zs,p)):cs=zs.map fun z=>Value.string ⟨z.toArray⟩:=by
 cases fuel with
 | zero=>simp [DataW.trod] at h
 | succ fuel=>
  simp only [DataW.trod,ht,hce,hct,Nat.mul_one] at h
  split at h
  ·rename_i hl
   obtain ⟨xs,hm,hx⟩:=Option.map_eq_some_iff.1 h
   have hxs:xs.map (·.1)=zs.map fun z=>(DataW.lit (.string z):DataW H):=by
    have:=congrArg Prod.fst hx
    simpa [strTab] using this
   have hxl:xs.length=n:=by simpa using mapM_length hm
   have hzl:zs.length=n:=by
    have:=congrArg List.length hxs
    simp at this
    omega
   apply List.ext_getElem?
   intro i
   by_cases hi:i<n
   ·obtain ⟨b,hb,hf⟩:=mapM_at hm i i (by simp [hi])
    obtain ⟨s,hc,rfl,_⟩:=DataW.trod_string he hf
    have h1:cs[i]? = some (.string s):=by
     have:=congrArg (·[0]?) hc
     simpa [List.getElem?_take,List.getElem?_drop] using this
    have h2:(xs.map (·.1))[i]? = some (DataW.lit (.string s.data.toList):DataW H):=by simp [hb]
    rw [hxs] at h2
    simp only [List.getElem?_map,Option.map_eq_some_iff,DataW.lit.injEq,Lit.string.injEq] at h2
    obtain ⟨z',hz',e⟩:=h2
    have:s=⟨z'.toArray⟩:=by rw [e]
    simp [h1,hz',this]
   ·rw [List.getElem?_eq_none (by omega),List.getElem?_eq_none (by simp;omega)]
  ·cases h
theorem strs_of_head {P:Program}{W:World}{name:String}{zs:List (List UInt8)}{rest:List (String×DataW Unit)}{g:Nat}{t e:TypeId}{n:Nat}
 (hg:P.globalNamed name=some g) (hty:(P.globals[g]?).map (·.type)=some t) (ht:P.underlying t=some (.array n e)) (he:P.underlying e=some .string) (hce:P.cellsOf e=1) (hct:P.cellsOf t=n) (hz:zs≠[])
 (h:laidMet P ((name,strTab zs)::rest) W):g<W.heap.size∧∀(j:Nat) (u:Value),(zs.map fun z=>Value.string ⟨z.toArray⟩)[j]? = some u→W.cell? ⟨g,j,none⟩=some u:=by
 obtain ⟨ps,⟨g',t',cs,fuel,p,q,hg',ht',hvar,hd,_,_⟩,_⟩:=h
 obtain rfl:=Option.some.inj (hg.symm.trans hg')
 obtain rfl:=Option.some.inj (hty.symm.trans ht')
 have hcs:=cells_of_strs ht he hce hct hd
 have hcell:∀(j:Nat) (u:Value),(zs.map fun z=>Value.string ⟨z.toArray⟩)[j]? = some u→W.cell? ⟨g,j,none⟩=some u:=by
  intro j u hu
  have:=World.var?_cell hg hvar j
  rw [←hcs] at hu
  rw [this];simpa using hu
 refine ⟨?_,hcell⟩
 cases zs with
 | nil=>exact absurd rfl hz
 | cons z zs=>exact World.block_lt_of_cell? W ⟨g,0,none⟩ (hcell 0 _ rfl)
end Go.Lib
end
section
namespace Go.Proofs.YtdfbohaohjaloaaGreatDoor
open Go.RowKit
set_option maxRecDepth 100000 in
theorem scriptNil_globs (W:World)(h:laidMetH Tryz.prog Rows.scriptNilRow.laid W):∀g cs,Go.gtab g=some cs→g<W.heap.size∧∀(j:Nat) (u:Value),cs[j]? = some u→W.cell? ⟨g,j,none⟩=some u:=by
 rw [MakeChecks.laidMetH_plain _ _ _ (by kernel_rfl)] at h
 have h0:=h.tail
 have k0:=Lib.strs_of_head (g:=0) (t:=97) (e:=9) (n:=13) (zs:=[[],[97,100,100],[114,101,109,111,118,101],[97,100,106,117,115,116],[115,101,116],[112,117,116],[116,97,107,101],[99,108,101,97,114],[112,117,98,108,105,115,104],[115,119,105,116,99,104],[118,105,101,119],[97,116],[112,114,111,106,101,99,116]]) (by kernel_rfl) (by kernel_rfl) Tryz.underlying97 Tryz.underlying9 (by kernel_rfl) (by kernel_rfl) (by simp) h0
 have h1:=h0.tail
 have k1:=Lib.strs_of_head (g:=1) (t:=97) (e:=9) (n:=13) (zs:=[[],[],[104,101,108,108,111],[100,101,108,105,118,101,114],[108,111,115,101],[100,111,117,98,108,101],[99,117,116],[102,117,115,101],[99,114,97,115,104],[102,111,108,100],[109,101,101,116],[],[]]) (by kernel_rfl) (by kernel_rfl) Tryz.underlying97 Tryz.underlying9 (by kernel_rfl) (by kernel_rfl) (by simp) h1
 have h2:=h1.tail
 have k2:=Lib.strs_of_head (g:=2) (t:=97) (e:=9) (n:=13) (zs:=[[],[114,101,110,97,109,101],[],[],[104,111,105,115,116],[112,108,117,110,103,101],[115,112,108,105,116],[119,114,97,112],[],[],[],[],[]]) (by kernel_rfl) (by kernel_rfl) Tryz.underlying97 Tryz.underlying9 (by kernel_rfl) (by kernel_rfl) (by simp) h2
 have h3:=h2.tail
 have k3:=Lib.strs_of_head (g:=3) (t:=97) (e:=9) (n:=13) (zs:=[[],[99,111,117,110,116,101,114],[116,101,120,116],[],[108,105,115,116],[],[],[],[],[],[],[],[]]) (by kernel_rfl) (by kernel_rfl) Tryz.underlying97 Tryz.underlying9 (by kernel_rfl) (by kernel_rfl) (by simp) h3
 have h4:=h3.tail
 intro g cs hg
 match g,hg with
 | 0,hg=>injection hg with hg;subst hg;exact k0
 | 1,hg=>injection hg with hg;subst hg;exact k1
 | 2,hg=>injection hg with hg;subst hg;exact k2
 | 3,hg=>injection hg with hg;subst hg;exact k3
 | g+4,hg=>cases hg
end Go.Proofs.YtdfbohaohjaloaaGreatDoor
end
