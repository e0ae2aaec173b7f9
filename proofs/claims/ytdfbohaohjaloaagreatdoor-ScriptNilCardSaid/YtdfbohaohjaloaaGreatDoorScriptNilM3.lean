/- Part 3 of what the proof of ScriptNil stands on: Xg5, Xg6, Xg7, Xg8, LnPlain, Tt, LnName, LnPlace, LnEq, LnTexts, LnField, LnSchemaP, LnLensP, LnSchema, LnSchema2, LnSchema3, LnHeavy, LnKeepP, LnLens2P, LnTables, LnLensS, LnLens, LnLens2, LnLens3, LnMerged, LnArr, LnApply, LnApplyR, Xg9, TrPlain, OpP, TrSettleP, TrSortP, TrRefP, XgU, XgS, FgM, SkA, NamePlain, NameSign, NameQuoted, NameScan, NameSplit, NameLaw, NameRef, NameBegins. -/
import Derived.IntWalk
import Derived.Laws.StructEq
import Derived.KernelRfl
import Derived.Laws.IdiomStrings
import Derived.Lib.Join
import Derived.Lib.SplitLaws
import Derived.Lib.CutLaws
import Derived.Lib.IndexBytes
import Derived.Test.YtdfbohaohjaloaaGreatDoorScriptNilM2
set_option linter.unusedVariables false
set_option linter.unusedSimpArgs false
set_option maxHeartbeats 1000000
section
namespace Go.Vm
open Go.RowKit
def freshK (ds:List Nat)(s:S)(K:S→Prop):Prop:=match s with
 | .ref u off=>match memN u ds with
  | true=>K .junk
  | false=>K (.ref u off)
 | s=>sK s K
theorem memN_spec:∀{l:List Nat} {n:Nat},memN n l=l.contains n
 | [],n=>rfl
 | m::l,n=>by
  simp only [memN,List.contains_cons]
  have beqe:Nat.beq n m=(n==m):=by rw [Bool.eq_iff_iff];simp [Nat.beq_eq]
  rw [←beqe]
  split
  ·rename_i h;rw [h];rfl
  ·rename_i h;rw [h,Bool.false_or];exact memN_spec
def clearK:List Nat→Tr→(Tr→Prop)→Prop
 | [],t,K=>K t
 | d::l,t,K=>match Nat.ble 500000 d with
  | true=>False
  | false=>AQ 20 t d .junk fun t=>clearK l t K
theorem clearK_spec:∀{l:List Nat} {t:Tr} {K:Tr→Prop},clearK l t K→∃t',(∀u,t'.get u=if l.contains u then .junk else t.get u)∧(∀d∈l,d<BIG)∧K t'
 | [],t,K,h=>⟨t,fun u=>by simp,by simp,h⟩
 | d::l,t,K,h=>by
  simp only [clearK] at h
  split at h
  ·exact h.elim
  ·rename_i hb
   obtain ⟨t1,h1,h2⟩:=Bh h
   obtain ⟨t2,h3,h4,h5⟩:=clearK_spec h2
   refine ⟨t2,fun u=>?_,?_,h5⟩
   ·rw [h3,h1,List.contains_cons]
    by_cases e:u=d
    ·subst e;simp
    ·have:(u==d)=false:=by simpa using e
     simp [this,e]
   ·intro x hx
    rcases List.mem_cons.1 hx with rfl | hx
    ·exact blb_lt hb
    ·exact h4 x hx
def xq1 (P:Program)(tt:TT)(N:Nat)(fb:List Nat)(all:List Oper)(o:Oper)(rest:XL)(run:Bool):XL:=fun kn t h K=>match derefOk all.toArray o (Af t h) with
 | false=>False
 | true=>match run with
  | false=>match o.dst with
   | some d=>match Nat.ble 500000 d with
    | true=>False
    | false=>AQ 20 t d (.tup []) fun t=>rest kn t h K
   | none=>rest kn t h K
  | true=>match o.dst with
   | none=>match o.op with
    | .store T x y=>match tt.get T with
     | some i=>ovK t y fun sy=>match sy with
      | .sref q1 q2 q3=>match (shI i).1,Nat.beq (shI i).2 1 with
       | false,true=>ovK t x fun s=>match s with
        | .ref u off=>match Nat.ble 500000 u,t.get u with
         | false,.ubox cs=>patchK cs off [.rr q1 q2 q3] fun cs'=>AQ 20 t u (.ubox cs') fun t'=>rest kn t' h K
         | _,_=>False
        | _=>False
       | _,_=>False
      | _=>dK t y fun r=>cellsK r fun rc=>match Nat.beq rc.length (shI i).2 with
       | true=>ovK t x fun s=>match s with
        | .ref u off=>match Nat.ble 500000 u,t.get u with
         | false,.box cs=>patchK cs off rc fun cs'=>AQ 20 t u (.box cs') fun t'=>rest kn t' h K
         | false,.ubox cs=>patchK cs off rc fun cs'=>AQ 20 t u (.ubox cs') fun t'=>rest kn t' h K
         | _,_=>False
        | _=>False
       | false=>False
     | none=>False
    | _=>False
   | some d=>match Nat.ble N d with
    | true=>False
    | false=>match memN d fb with
     | true=>∃s,DG P N fb all.toArray o (Af t h) (.slot (some d) s)∧sK s fun s=>AQ 20 t d s fun t=>rest kn t h K
     | false=>match memN (Nat.add d 4000) fb with
     | true=>∃(eff:Eff) (s:S) (h':Hp),(DG P N fb all.toArray o (Af t h) eff∧eff.app (Af t h)=upd (Af t h') (some d) s)∧sK s fun s=>AQ 20 t d s fun t=>rest kn t h' K
     | false=>match o.op with
      | .box T x=>dK t x fun r=>cellsK r fun cs=>AQ 20 t d (.box cs) fun t=>rest kn t h K
      | .alloc T=>match tt.get T with
       | some i=>match zI i with
        | some z=>AQ 20 t d (.box z) fun t=>rest kn t h K
        | none=>False
       | none=>False
      | _=>match memN (Nat.add d 6000) fb with
       | true=>yK P tt N d o t (fun _=>.junk) fun s=>match nb s,refOk o (Af t h) s with
        | true,true=>AQ 20 t d s fun t=>rest kn t h K
        | _,_=>False
       | false=>yK P tt N d o t h fun s=>match nb s,refOk o (Af t h) s with
        | true,true=>AQ 20 t d s fun t=>rest kn t h K
        | _,_=>False
def notRef:S→Bool
 | .ref _ _=>false
 | _=>true
def barK (P:Program)(tt:TT)(N:Nat)(fb:List Nat)(o:Oper)(t:Tr)(h:Hp)(K:Tr→Hp→Prop):Prop:=match o.dst with
 | none=>∃(id:Nat) (s:S),(NAM≤id∧Step P N o (Af t h) (upd (Af t h) (some id) (nameS s)))∧K t (hset h id s)
 | some d=>match Nat.ble N d with
  | true=>False
  | false=>match o.op with
   | .call c=>match memN (Nat.add d 2000) fb with
    | true=>∃(t':Tr) (h':Hp),(Step P N o (Af t h) (Af t' h')∧CalmE (Af t h) (Af t' h'))∧K t' h'
    | false=>match c.callee with
     | .builtin .append=>appK tt d c t fun t=>K t h
     | _=>∃(s:S) (h':Hp),Step P N o (Af t h) (upd (Af t h') (some d) s)∧sK s fun s=>match nb s,notRef s with
      | true,true=>AQ 20 t d s fun t'=>K t' h'
      | _,_=>False
   | _=>False
def isBar (fb:List Nat)(o:Oper):Bool:=match o.op with
 | .mapUpdate .. => true
 | _=>match o.dst with
  | some d=>memN (Nat.add d 1000) fb
  | none=>false
def barOf (fb:List Nat):List Oper→Nat→List Nat
 | [],_=>[]
 | o::l,k=>match isBar fb o with
  | true=>k::barOf fb l (Nat.succ k)
  | false=>barOf fb l (Nat.succ k)
def xqB (P:Program)(tt:TT)(N:Nat)(fb:List Nat)(all:List Oper)(bar:List Nat)(o:Oper)(rest:Nat→XL):Nat→XL:=fun k kn t h K=>gK all kn o t fun run kn t=>match memN k bar with
 | true=>match run with
  | true=>barK P tt N fb o t h fun t h=>rest (Nat.succ k) kn t h K
  | false=>False
 | false=>xq1 P tt N fb all o (rest (Nat.succ k)) run kn t h K
def xq (P:Program)(tt:TT)(N:Nat)(fb:List Nat)(all:List Oper)(bar:List Nat)(l:List Oper):Nat→XL:=@List.rec Oper (fun _=>Nat→XL) (fun _ _ t h K=>K t h) (fun o _ ih=>xqB P tt N fb all bar o ih) l
def xpo (P:Program)(tt:TT)(N:Nat)(fb:List Nat)(all:List Oper)(bar:List Nat)(i:Nat)(rest:XL):XL:=fun kn t h K=>match all[i]? with
 | some o=>xqB P tt N fb all bar o (fun _=>rest) i kn t h K
 | none=>False
def xp (P:Program)(tt:TT)(N:Nat)(fb:List Nat)(all:List Oper)(bar:List Nat)(p:OrdP):XL:=@OrdP.rec (fun _=>XL) (fun _ t h K=>K t h) (fun _ _ _ _=>True)
 (fun i _ ih=>xpo P tt N fb all bar i ih) (fun i _ _ ihp ihq kn t h K=>xpo P tt N fb all bar i ihp kn t h K∧ihq kn t h K) p
def planned (fb:List Nat)(l:List Oper):Bool:=match l with
 | o::_=>match o.dst with
  | some d=>memN (Nat.add d 8000) fb
  | none=>false
 | []=>false
abbrev XC:=Tr→Hp→(Exit→Tr→Hp→Prop)→Prop
def xseq (a b:XC):XC:=fun t h K=>a t h fun e t h=>match e with
 | .normal=>b t h K
 | .ret=>K .ret t h
 | .exit id=>K (.exit id) t h
 | .goto l=>K (.goto l) t h
 | .panic c=>K (.panic c) t h
 | .outgrown=>K .outgrown t h
def xcond (c:Operand)(a b:XC):XC:=fun t h K=>ovK t c fun s=>match s with
 | .c (.d (.sc (.bool p)))=>match c with
  | .tmp u=>match Nat.ble 1000000 u with
   | true=>False
   | false=>(p=true→AQ 20 t u (.c (.d (.sc (.bool true)))) fun t=>a t h K)∧(p=false→AQ 20 t u (.c (.d (.sc (.bool false)))) fun t=>b t h K)
  | _=>(p=true→a t h K)∧(p=false→b t h K)
 | _=>False
def xblock (id:Nat)(b:XC):XC:=fun t h K=>b t h fun e t h=>match e with
 | .exit i=>match Nat.beq i id with
  | true=>K .normal t h
  | false=>K (.exit i) t h
 | .normal=>K .normal t h
 | .ret=>K .ret t h
 | .goto l=>K (.goto l) t h
 | .panic c=>K (.panic c) t h
 | .outgrown=>K .outgrown t h
def xregion (P:Program)(tt:TT)(N:Nat)(fb:List Nat)(ops:Array Oper)(draw:Bool):XC:=fun t h K=>match draw with
 | false=>xops P tt N fb ops.toList ops.toList [] t h (K .normal)
 | true=>match planned fb ops.toList with
  | false=>(P.follows .mixedOrders=true∧drawnB fb ops (barOf fb ops.toList 0)=true)∧mapK (freshK (news ops.toList)) t fun t=>clearK (news ops.toList) t fun t=>xq P tt N fb ops.toList (barOf fb ops.toList 0) ops.toList 0 [] t h (K .normal)
  | true=>∃p:OrdP,(P.follows .mixedOrders=true∧planB fb ops (barOf fb ops.toList 0) p=true)∧mapK (freshK (news ops.toList)) t fun t=>clearK (news ops.toList) t fun t=>xp P tt N fb ops.toList (barOf fb ops.toList 0) p [] t h (K .normal)
def xleaf (P:Program)(N:Nat)(c:Code):XC:=fun t h K=>Leaf (VC P N c (Af t h) fun e env=>∃t h,env=Af t h∧K e t h)
def xcode (P:Program)(tt:TT)(N:Nat)(fb:List Nat)(c:Code):XC:=@Code.rec (fun _=>XC)
 (fun t h K=>K .normal t h)
 (fun _ ops draw=>xregion P tt N fb ops draw)
 (fun _ _ a b=>xseq a b)
 (fun c _ _ a b=>xcond c a b)
 (fun id _ b=>xblock id b)
 (fun b _=>xleaf P N (.loop b))
 (fun f ps a b _ _=>xleaf P N (.rangeFunc f ps a b))
 (fun id t h K=>K (.exit id) t h)
 (fun b _=>xleaf P N (.scope b))
 (fun _ t h K=>K .normal t h)
 (fun l t h K=>K (.goto l) t h)
 (fun t h K=>K .ret t h)
 (fun why=>xleaf P N (.refuse why))
 c
section
variable {P:Program} {tt:TT} {N:Nat} {fb:List Nat} {o:Oper} {t:Tr} {h:Hp}
def freshF (ds:List Nat):S→S
 | .ref u off=>if ds.contains u then .junk else .ref u off
 | s=>s
theorem freshK_spec {ds:List Nat}(s:S)(K:S→Prop)(h:freshK ds s K):K (freshF ds s):=by
 cases s with
 | ref u off=>
  simp only [freshK,memN_spec] at h
  show K (if ds.contains u then .junk else .ref u off)
  split at h
  ·rename_i hb;rw [if_pos hb];exact h
  ·rename_i hb;rw [if_neg (by rw [hb];simp)];exact h
 | c x=>cases x<;>exact h
 | _=>exact h
theorem nameS_fresh {ds:List Nat}{u:Nat}(hd:∀d∈ds,d<BIG)(hu:¬u<NAM)(s:S):fresh1 ds u (nameS s)=nameS s:=by
 cases s<;>rfl
theorem xq1_sound (htt:TTok P tt)(hNB:N≤BIG){all:List Oper}{rest:XL}{run:Bool}{kn:List Nat}{t:Tr}{h:Hp}{K:Tr→Hp→Prop}(hg:Dy all.toArray o (Af t h)=some run)(hk:xq1 P tt N fb all o rest run kn t h K) :
 ∃eff,DG P N fb all.toArray o (Af t h) eff∧∃t' h' kn',eff.app (Af t h)=Af t' h'∧rest kn' t' h' K:=by
 unfold xq1 at hk
 split at hk
 ·exact hk.elim
 ·rename_i hdr
  cases run with
  | false=>
   simp only at hk
   split at hk
   ·rename_i d hdst
    split at hk
    ·exact hk.elim
    ·rename_i hb
     obtain ⟨t2,h1,h2⟩:=Bh hk
     refine ⟨_,dg_skip hg hdr (fun u hu=>by rw [hdst] at hu;injection hu with hu;exact hu▸blb_lt hb),_,_,_,?_,h2⟩
     show upd _ o.dst _=_
     rw [hdst,←Du (nam (blb_lt hb)) h1]
   ·rename_i hdst
    refine ⟨_,dg_skip hg hdr (fun u hu=>by rw [hdst] at hu;cases hu),_,_,_,?_,hk⟩
    show upd _ o.dst _=_
    rw [hdst];rfl
  | true=>
   simp only at hk
   split at hk
   ·rename_i hdst
    split at hk
    ·rename_i T x y hop
     split at hk
     ·rename_i i hi
      have hsh:=shI_ok (htt _ _ hi)
      have hk:=Bj (h:=h) hk
      split at hk
      ·rename_i q1 q2 q3 hy
       split at hk
       ·rename_i ha hl
        have hl:=Nat.eq_of_beq_eq_true hl
        have h2:=Bj (h:=h) hk
        split at h2
        ·rename_i u off hx
         split at h2
         ·rename_i cs hb hcs
          have hu:=blb_lt hb
          obtain ⟨h3,h4⟩:=Ey h2
          obtain ⟨t2,h5,h6⟩:=Bh h4
          have hsh':Bo P T=some (false,1):=by rw [hsh];cases hq:shI i;rw [hq] at ha hl;simp at ha hl;rw [ha,hl]
          refine ⟨_,dg_storeR hg hop hx (by rw [BV (nam hu)];exact hcs) hy hsh' h3 hdst hdr hu,_,_,_,?_,h6⟩
          show upd _ (some u) _=_
          rw [←Du (nam hu) h5]
         ·exact h2.elim
        ·exact h2.elim
       ·exact hk.elim
      obtain ⟨r,h1,h2⟩:=dK_spec (h:=h) hk
      have h2:=cellsK_spec h2
      split at h2
      ·rename_i hl
       have hl:=Nat.eq_of_beq_eq_true hl
       have h2:=Bj (h:=h) h2
       split at h2
       ·rename_i u off hx
        split at h2
        ·rename_i cs hb hcs
         have hu:=blb_lt hb
         obtain ⟨h3,h4⟩:=Ey h2
         obtain ⟨t2,h5,h6⟩:=Bh h4
         refine ⟨_,dg_store hg hop hx (by rw [BV (nam hu)];exact hcs) h1 hsh hl h3 hdst hdr hu,_,_,_,?_,h6⟩
         show upd _ (some u) _=_
         rw [←Du (nam hu) h5]
        ·rename_i cs hb hcs
         have hu:=blb_lt hb
         obtain ⟨h3,h4⟩:=Ey h2
         obtain ⟨t2,h5,h6⟩:=Bh h4
         refine ⟨_,dg_storeU hg hop hx (by rw [BV (nam hu)];exact hcs) h1 hsh hl h3 hdst hdr hu,_,_,_,?_,h6⟩
         show upd _ (some u) _=_
         rw [←Du (nam hu) h5]
        ·exact h2.elim
       ·exact h2.elim
      ·exact h2.elim
     ·exact hk.elim
    ·exact hk.elim
   ·rename_i d hdst
    split at hk
    ·exact hk.elim
    ·rename_i hdN
     have hd:=blt_of hdN
     have hdB:d<BIG:=Nat.lt_of_lt_of_le hd hNB
     split at hk
     ·obtain ⟨s,h1,h2⟩:=hk
      obtain ⟨t2,h3,h4⟩:=Bh (sK_spec h2)
      refine ⟨_,h1,_,_,_,?_,h4⟩
      show upd _ (some d) _=_
      rw [←Du (nam hdB) h3]
     ·split at hk
      ·obtain ⟨eff,s,h',⟨h1,h2⟩,h3⟩:=hk
       obtain ⟨t2,h4,h5⟩:=Bh (sK_spec h3)
       refine ⟨_,h1,_,_,_,?_,h5⟩
       rw [h2,←Du (nam hdB) h4]
      rename_i hw4
      split at hk
      ·rename_i T x hop
       obtain ⟨r,h1,h2⟩:=dK_spec (h:=h) hk
       obtain ⟨t2,h5,h6⟩:=Bh (cellsK_spec h2)
       refine ⟨_,dg_box hg hop h1 hdst hd hdB,_,_,_,?_,h6⟩
       show upd _ (some d) _=_
       rw [←Du (nam hdB) h5]
      ·rename_i T hop
       split at hk
       ·rename_i i hi
        split at hk
        ·rename_i z hz
         obtain ⟨t2,h5,h6⟩:=Bh hk
         refine ⟨_,dg_alloc hg hop (zI_ok (htt _ _ hi) hz) hdst hd hdB,_,_,_,?_,h6⟩
         show upd _ (some d) _=_
         rw [←Du (nam hdB) h5]
        ·exact hk.elim
       ·exact hk.elim
      ·split at hk
       ·obtain ⟨s,h1,h2⟩:=yK_sound htt hdst hd hk
        split at h2
        ·rename_i hn hr
         obtain ⟨t2,h5,h6⟩:=Bh h2
         have e0:Af t (fun _=>S.junk)=noN (Af t h):=by
          funext u
          unfold noN Af
          split<;>rfl
         rw [e0] at h1
         refine ⟨_,dg_free hg h1 hn hr hdr (fun u hu=>by rw [hdst] at hu;injection hu with hu;exact hu▸hdB),_,_,_,?_,h6⟩
         show upd _ o.dst _=_
         rw [hdst,←Du (nam hdB) h5]
        ·exact h2.elim
       ·rename_i hw6
        have hcl:clsOf fb o≠0:=by
         unfold clsOf
         rw [hdst]
         simp only
         split
         ·decide
         ·rw [if_neg (by rw [←memN_spec];intro e;exact absurd (hw6.symm.trans e) (by decide))];decide
        obtain ⟨s,h1,h2⟩:=yK_sound htt hdst hd hk
        split at h2
        ·rename_i hn hr
         obtain ⟨t2,h5,h6⟩:=Bh h2
         refine ⟨_,dg_yield hg h1.all hcl hn hr hdr (fun u hu=>by rw [hdst] at hu;injection hu with hu;exact hu▸hdB),_,_,_,?_,h6⟩
         show upd _ o.dst _=_
         rw [hdst,←Du (nam hdB) h5]
        ·exact h2.elim
theorem barK_sound (htt:TTok P tt)(hNB:N≤BIG){all:List Oper}{t:Tr}{h:Hp}{K:Tr→Hp→Prop}(hg:Dy all.toArray o (Af t h)=some true)(hk:barK P tt N fb o t h K):∃t' h',BStep P N all.toArray o (Af t h) (Af t' h')∧K t' h':=by
 have calm:∀{env env':Env},Step P N o env env'→CalmE env env'→Dy all.toArray o env=some true→BStep P N all.toArray o env env':=fun h1 h2 h3=>⟨.inl ⟨h3,h1⟩,fun t=>(h2 t).1,fun t=>(h2 t).2⟩
 have cname:∀(id:Nat) (s:S),NAM≤id→CalmE (Af t h) (upd (Af t h) (some id) (nameS s)):=fun id s _=>calm_upd _ _ _ (by cases s<;>rfl) (by intro _ _ e;cases s<;>cases e)
 unfold barK at hk
 split at hk
 ·obtain ⟨id,s,⟨hb,h1⟩,h2⟩:=hk
  refine ⟨t,_,?_,h2⟩
  unfold hset
  rw [envT_name hb]
  exact calm h1 (cname id s hb) hg
 ·rename_i d hdst
  split at hk
  ·exact hk.elim
  ·rename_i hdN
   have hd:=blt_of hdN
   have hdB:d<BIG:=Nat.lt_of_lt_of_le hd hNB
   split at hk
   ·rename_i c hop
    split at hk
    ·obtain ⟨t',h',⟨h1,h2⟩,h3⟩:=hk
     exact ⟨t',h',calm h1 h2 hg,h3⟩
    split at hk
    ·rename_i hcal
     obtain ⟨t2,h1,h2,h3⟩:=appK_sound (h:=h) htt hNB hop hcal hdst hd hk
     exact ⟨t2,h,calm h1 h3 hg,h2⟩
    ·obtain ⟨s,h',h1,h2⟩:=hk
     have h2:=sK_spec h2
     split at h2
     ·rename_i hn hr
      obtain ⟨t',h3,h4⟩:=Bh h2
      refine ⟨t',h',?_,h4⟩
      rw [Du (nam hdB) h3]
      refine calm h1 (fun u=>?_) hg
      by_cases e:u=d
      ·subst e
       simp only [upd,if_true]
       exact ⟨(fun a b e=>by rw [e] at hr;cases hr),fun _=>hn⟩
      ·simp only [upd,if_neg e]
       by_cases hu:u<NAM
       ·rw [BV hu,BV hu];exact ⟨fun _ _ h=>h,fun h=>h⟩
       ·simp only [Af,if_neg hu]
        exact ⟨(fun _ _ e=>by cases hx:h' u<;>rw [hx] at e<;>cases e),(fun _=>by cases h' u<;>rfl)⟩
     ·exact h2.elim
   ·exact hk.elim
theorem xq_sound (htt:TTok P tt)(hNB:N≤BIG){all:List Oper}{bar:List Nat}:∀{l:List Oper} {k:Nat} {kn:List Nat} {t:Tr} {h:Hp} {K:Tr→Hp→Prop},xq P tt N fb all bar l k kn t h K→VB P N fb all.toArray bar (fun env=>∃t h,env=Af t h∧K t h) k l (Af t h)
 | [],k,kn,t,h,K,hk=>⟨t,h,rfl,hk⟩
 | o::rest,k,kn,t,h,K,hk=>by
  change xqB P tt N fb all bar o (xq P tt N fb all bar rest) k kn t h K at hk
  unfold xqB at hk
  obtain ⟨run,kn',t',hg,he,hk⟩:=gK_sound (h:=h) hk
  rw [←he]
  unfold VB
  split at hk
  ·rename_i hm
   rw [if_pos (by rw [memN_spec] at hm;simpa using hm)]
   split at hk
   ·obtain ⟨t2,h2,h3,h4⟩:=barK_sound htt hNB hg hk
    exact ⟨_,h3,xq_sound htt hNB h4⟩
   ·exact hk.elim
  ·rename_i hm
   rw [if_neg (by rw [memN_spec] at hm;simpa using hm)]
   obtain ⟨eff,h1,t2,h2,kn2,h3,h4⟩:=xq1_sound htt hNB hg hk
   exact ⟨eff,h1,by rw [h3];exact xq_sound htt hNB h4⟩
theorem vb_mono {ops:Array Oper}{bar:List Nat}{K K':Env→Prop}(hK:∀env,K env→K' env):∀{l:List Oper} {k:Nat} {env:Env},VB P N fb ops bar K k l env→VB P N fb ops bar K' k l env
 | [],k,env,h=>hK env h
 | o::l,k,env,h=>by
  unfold VB at h ⊢
  split
  ·rename_i hm
   rw [if_pos hm] at h
   obtain ⟨env',h1,h2⟩:=h
   exact ⟨env',h1,vb_mono hK h2⟩
  ·rename_i hm
   rw [if_neg hm] at h
   obtain ⟨eff,h1,h2⟩:=h
   exact ⟨eff,h1,vb_mono hK h2⟩
theorem xpo_sound (htt:TTok P tt)(hNB:N≤BIG){all:List Oper}{bar:List Nat}{K:Tr→Hp→Prop}{i:Nat}{rest:XL}{W:Env→Prop}(hrest:∀{kn t h},rest kn t h K→W (Af t h)){kn:List Nat}{t:Tr}{h:Hp}(hk:xpo P tt N fb all bar i rest kn t h K):vOpB P N fb all.toArray bar i W (Af t h):=by
 unfold xpo at hk
 unfold vOpB
 rw [List.getElem?_toArray]
 split at hk
 ·rename_i o ho
  rw [ho]
  simp only
  unfold xqB at hk
  obtain ⟨run,kn',t',hg,he,hk⟩:=gK_sound (h:=h) hk
  rw [←he]
  split at hk
  ·rename_i hm
   rw [if_pos (by rw [memN_spec] at hm;simpa using hm)]
   split at hk
   ·obtain ⟨t2,h2,h3,h4⟩:=barK_sound htt hNB hg hk
    exact ⟨_,h3,hrest h4⟩
   ·exact hk.elim
  ·rename_i hm
   rw [if_neg (by rw [memN_spec] at hm;simpa using hm)]
   obtain ⟨eff,h1,t2,h2,kn2,h3,h4⟩:=xq1_sound htt hNB hg hk
   exact ⟨eff,h1,by rw [h3];exact hrest h4⟩
 ·exact hk.elim
theorem xp_sound (htt:TTok P tt)(hNB:N≤BIG){all:List Oper}{bar:List Nat}{K:Tr→Hp→Prop}:∀{p:OrdP} {kn:List Nat} {t:Tr} {h:Hp},xp P tt N fb all bar p kn t h K→VP P N fb all.toArray bar (fun env=>∃t h,env=Af t h∧K t h) p (Af t h)
 | .fin,kn,t,h,hk=>⟨t,h,rfl,hk⟩
 | .no,kn,t,h,hk=>trivial
 | .one i p,kn,t,h,hk=>xpo_sound htt hNB (rest:=xp P tt N fb all bar p) (fun hk=>xp_sound htt hNB hk) hk
 | .alt i p q,kn,t,h,hk=>⟨xpo_sound htt hNB (rest:=xp P tt N fb all bar p) (fun hk=>xp_sound htt hNB hk) hk.1,xp_sound htt hNB (p:=q) hk.2⟩
theorem vp_mono {ops:Array Oper}{bar:List Nat}{K K':Env→Prop}(hK:∀env,K env→K' env):∀{p:OrdP} {env:Env},VP P N fb ops bar K p env→VP P N fb ops bar K' p env
 | .fin,env,h=>hK env h
 | .no,env,h=>trivial
 | .one i p,env,h=>vOpB_mono (fun env h=>vp_mono hK h) h
 | .alt i p q,env,h=>⟨vOpB_mono (fun env h=>vp_mono hK h) h.1,vp_mono hK (p:=q) h.2⟩
theorem xdrawn_sound (htt:TTok P tt)(hNB:N≤BIG){id:Nat}{l:List Oper}{K:Tr→Hp→Prop}{Q:Exit→Env→Prop}(hQ:∀t h,K t h→Q .normal (Af t h))(hm:P.follows .mixedOrders=true){bar:List Nat}(hB:drawnB fb l.toArray bar=true)
 (hk:mapK (freshK (news l)) t fun t=>clearK (news l) t fun t=>xq P tt N fb l bar l 0 [] t h K):VC P N (.region id l.toArray true) (Af t h) Q:=by
 obtain ⟨t1,h1,hk⟩:=mapK_spec (f:=freshF (news l)) rfl freshK_spec hk
 obtain ⟨t2,h2,hds,hk⟩:=clearK_spec hk
 refine vc_weaken (env':=Af t2 h) (fun u=>?_) (vc_drawnB bar hm hB ?_)
 ·by_cases hu:u<NAM
  ·rw [BV hu,BV hu,h2,h1]
   by_cases hc:(news l).contains u=true
   ·right;simp only [hc,if_true]
   ·simp only [hc,Bool.false_eq_true,if_false]
    cases t.get u with
    | ref d off=>
     simp only [freshF]
     by_cases hd:(news l).contains d=true
     ·right;simp only [hd,if_true]
     ·left;simp only [hd,Bool.false_eq_true,if_false]
    | _=>left;rfl
  ·left;simp only [Af,if_neg hu]
 ·have e:freshen l (Af t2 h)=Af t2 h:=by
   funext u
   unfold freshen
   by_cases hu:u<NAM
   ·rw [BV hu,h2,h1]
    by_cases hc:(news l).contains u=true
    ·simp only [hc,if_true];rfl
    ·simp only [hc,Bool.false_eq_true,if_false]
     cases t.get u with
     | ref d off=>
      simp only [freshF]
      by_cases hd:(news l).contains d=true
      ·simp only [hd,if_true];rfl
      ·simp only [hd,Bool.false_eq_true,if_false,fresh1]
     | box cs=>simp only [freshF,fresh1,hc,Bool.false_eq_true,if_false]
     | ubox cs=>simp only [freshF,fresh1,hc,Bool.false_eq_true,if_false]
     | _=>rfl
   ·simp only [Af,if_neg hu]
    exact nameS_fresh hds hu _
  rw [e]
  have:=xq_sound htt hNB hk
  refine vb_mono ?_ this
  rintro env ⟨t,h,rfl,hk⟩
  exact hQ t h hk
theorem xplan_sound (htt:TTok P tt)(hNB:N≤BIG){id:Nat}{l:List Oper}{K:Tr→Hp→Prop}{Q:Exit→Env→Prop}(hQ:∀t h,K t h→Q .normal (Af t h))(hm:P.follows .mixedOrders=true){bar:List Nat}{p:OrdP}(hB:planB fb l.toArray bar p=true)
 (hk:mapK (freshK (news l)) t fun t=>clearK (news l) t fun t=>xp P tt N fb l bar p [] t h K):VC P N (.region id l.toArray true) (Af t h) Q:=by
 obtain ⟨t1,h1,hk⟩:=mapK_spec (f:=freshF (news l)) rfl freshK_spec hk
 obtain ⟨t2,h2,hds,hk⟩:=clearK_spec hk
 refine vc_weaken (env':=Af t2 h) (fun u=>?_) (vc_planB bar p hm hB ?_)
 ·by_cases hu:u<NAM
  ·rw [BV hu,BV hu,h2,h1]
   by_cases hc:(news l).contains u=true
   ·right;simp only [hc,if_true]
   ·simp only [hc,Bool.false_eq_true,if_false]
    cases t.get u with
    | ref d off=>
     simp only [freshF]
     by_cases hd:(news l).contains d=true
     ·right;simp only [hd,if_true]
     ·left;simp only [hd,Bool.false_eq_true,if_false]
    | _=>left;rfl
  ·left;simp only [Af,if_neg hu]
 ·have e:freshen l (Af t2 h)=Af t2 h:=by
   funext u
   unfold freshen
   by_cases hu:u<NAM
   ·rw [BV hu,h2,h1]
    by_cases hc:(news l).contains u=true
    ·simp only [hc,if_true];rfl
    ·simp only [hc,Bool.false_eq_true,if_false]
     cases t.get u with
     | ref d off=>
      simp only [freshF]
      by_cases hd:(news l).contains d=true
      ·simp only [hd,if_true];rfl
      ·simp only [hd,Bool.false_eq_true,if_false,fresh1]
     | box cs=>simp only [freshF,fresh1,hc,Bool.false_eq_true,if_false]
     | ubox cs=>simp only [freshF,fresh1,hc,Bool.false_eq_true,if_false]
     | _=>rfl
   ·simp only [Af,if_neg hu]
    exact nameS_fresh hds hu _
  rw [e]
  have:=xp_sound htt hNB hk
  refine vp_mono ?_ this
  rintro env ⟨t,h,rfl,hk⟩
  exact hQ t h hk
end
end Go.Vm
end
section
namespace Go.Vm
open Go.RowKit
def liftK (K:Exit→Tr→Hp→Prop):Exit→Env→Prop:=fun e env=>∃t h,env=Af t h∧K e t h
section
variable {P:Program} {tt:TT} {N:Nat} {fb:List Nat} {t:Tr} {h:Hp} {K:Exit→Tr→Hp→Prop}
theorem xcode_sound (htt:TTok P tt)(hNB:N≤BIG):∀{c:Code} {t:Tr} {h:Hp} {K:Exit→Tr→Hp→Prop},xcode P tt N fb c t h K→VC P N c (Af t h) (liftK K):=by
 intro c
 induction c with
 | skip=>intro t h K hk;exact vc_skip ⟨t,h,rfl,hk⟩
 | label l=>intro t h K hk;exact vc_label ⟨t,h,rfl,hk⟩
 | ret=>intro t h K hk;exact vc_ret ⟨t,h,rfl,hk⟩
 | exit id=>intro t h K hk;exact vc_exit ⟨t,h,rfl,hk⟩
 | goto l=>intro t h K hk;exact vc_goto ⟨t,h,rfl,hk⟩
 | region id ops draw=>
  intro t h K hk
  cases draw with
  | false=>
   obtain ⟨l⟩:=ops
   exact vc_region (xops_sound htt hNB hk)
  | true=>
   obtain ⟨l⟩:=ops
   change xregion P tt N fb l.toArray true t h K at hk
   unfold xregion at hk
   simp only at hk
   split at hk
   ·obtain ⟨⟨h1,h2⟩,h3⟩:=hk
    exact xdrawn_sound htt hNB (fun t h hk=>⟨t,h,rfl,hk⟩) h1 h2 h3
   ·obtain ⟨p,⟨h1,h2⟩,h3⟩:=hk
    exact xplan_sound htt hNB (fun t h hk=>⟨t,h,rfl,hk⟩) h1 h2 h3
 | seq a b iha ihb=>
  intro t h K hk
  refine vc_then (vc_mono (iha hk) ?_)
  rintro e env ⟨t',h',rfl,hk'⟩
  cases e with
  | normal=>exact ihb hk'
  | _=>exact ⟨t',h',rfl,hk'⟩
 | cond c a b iha ihb=>
  intro t h K hk
  have hk:=Bj (h:=h) hk
  split at hk
  ·rename_i p hp
   have hv:vd (Af t h) c=some (.sc (.bool p)):=by unfold vd;rw [hp];rfl
   cases c with
   | tmp u=>
    simp only at hk
    split at hk
    ·exact hk.elim
    ·rename_i hb
     have hlt:=ble_lt hb
     have hs:(Af t h) u=.c (.d (.sc (.bool p))):=by
      have h2:slotV u (Af t h u)=.c (.d (.sc (.bool p))):=hp
      cases hx:Af t h u with
      | c x=>rw [hx] at h2;exact h2
      | _=>rw [hx] at h2;cases h2
     have key:∀t',(∀v,t'.get v=if v=u then .c (.d (.sc (.bool p))) else t.get v)→Af t' h=Af t h:=by
      intro t' h1
      rw [Du hlt h1]
      funext v
      simp only [upd]
      split
      ·rename_i e;subst e;exact hs.symm
      ·rfl
     refine vc_if hv (fun e=>?_) (fun e=>?_)
     ·obtain ⟨t',h1,h2⟩:=Bh (hk.1 e)
      rw [←key t' (by rw [e];exact h1)]
      exact iha h2
     ·obtain ⟨t',h1,h2⟩:=Bh (hk.2 e)
      rw [←key t' (by rw [e];exact h1)]
      exact ihb h2
   | _=>exact vc_if hv (fun e=>iha (hk.1 e)) (fun e=>ihb (hk.2 e))
  ·exact hk.elim
 | block id b ih=>
  intro t h K hk
  refine vc_block (vc_mono (ih hk) ?_)
  rintro e env ⟨t',h',rfl,hk'⟩
  cases e with
  | exit i=>
   simp only at hk'
   show if i=id then _ else _
   split at hk'
   ·rename_i hb;rw [if_pos (Nat.eq_of_beq_eq_true hb)];exact ⟨t',h',rfl,hk'⟩
   ·rename_i hb;rw [if_neg (fun e=>by rw [e,Nat.beq_refl] at hb;cases hb)];exact ⟨t',h',rfl,hk'⟩
  | _=>exact ⟨t',h',rfl,hk'⟩
 | _=>intro t h K hk;exact hk.out
def copyK:List Nat→Tr→Tr→(Tr→Prop)→Prop
 | [],_,t1,K=>K t1
 | a::L,t,t1,K=>sK (t.get a) fun s=>AQ 20 t1 a s fun t1=>copyK L t t1 K
theorem copyK_spec:∀{L:List Nat} {t t1:Tr} {K:Tr→Prop},copyK L t t1 K→∃t',(∀u,t'.get u=if L.contains u then t.get u else t1.get u)∧K t'
 | [],t,t1,K,h=>⟨t1,by simp,h⟩
 | a::L,t,t1,K,h=>by
  obtain ⟨t2,h1,h2⟩:=Bh (sK_spec h)
  obtain ⟨t3,h3,h4⟩:=copyK_spec h2
  refine ⟨t3,fun u=>?_,h4⟩
  rw [h3,h1,List.contains_cons]
  by_cases e:u=a
  ·subst e;simp
  ·have:(u==a)=false:=by simpa using e
   simp [this,e]
def setsK:List (Nat×S)→Tr→(Tr→Prop)→Prop
 | [],t,K=>K t
 | (a,s)::F,t,K=>AQ 20 t a s fun t=>setsK F t K
theorem setsK_spec:∀{F:List (Nat×S)} {t:Tr} {K:Tr→Prop},setsK F t K→∃t',(∀u,(∃s,(u,s)∈F∧t'.get u=s)∨((∀s,(u,s) ∉ F)∧t'.get u=t.get u))∧K t'
 | [],t,K,h=>⟨t,fun u=>.inr ⟨by simp,rfl⟩,h⟩
 | (a,s)::F,t,K,h=>by
  obtain ⟨t1,h1,h2⟩:=Bh h
  obtain ⟨t2,h3,h4⟩:=setsK_spec h2
  refine ⟨t2,fun u=>?_,h4⟩
  rcases h3 u with ⟨s',k1,k2⟩ | ⟨k1,k2⟩
  ·exact .inl ⟨s',List.mem_cons_of_mem _ k1,k2⟩
  ·rw [h1] at k2
   by_cases e:u=a
   ·subst e
    exact .inl ⟨s,List.mem_cons_self ..,by simpa using k2⟩
   ·refine .inr ⟨fun s' hm=>?_,by simpa [e] using k2⟩
    rcases List.mem_cons.1 hm with h | h
    ·injection h with h;exact e h
    ·exact k1 s' h
def startK (L:List Nat)(F:List (Nat×S))(t:Tr)(K:Tr→Prop):Prop:=copyK L t .leaf fun t1=>setsK F t1 K
def ent (t:Tr):List (Nat×S)→Prop
 | []=>True
 | (a,s)::F=>t.get a=s∧ent t F
theorem ent_mem {t:Tr}:∀{F:List (Nat×S)},ent t F→∀a s,(a,s)∈F→t.get a=s
 | [],_,a,s,h=>by cases h
 | (a',s')::F,⟨h1,h2⟩,a,s,h=>by
  rcases List.mem_cons.1 h with h | h
  ·injection h with e1 e2;subst e1 e2;exact h1
  ·exact ent_mem h2 a s h
theorem mapf_at {α β:Type}{f g:α→β}:∀{L:List α},L.map f=L.map g→∀a∈L,f a=g a
 | [],_,a,h=>by cases h
 | b::L,h,a,ha=>by
  simp only [List.map_cons,List.cons.injEq] at h
  rcases List.mem_cons.1 ha with rfl | ha
  ·exact h.1
  ·exact mapf_at h.2 a ha
theorem start_sub {L:List Nat}{F:List (Nat×S)}{t0 t:Tr}{h:Hp}{K:Tr→Prop}(hs:startK L F t0 K)(hL:L.map t.get=L.map t0.get)(hF:ent t F):∃t1,(∀u,Af t1 h u=Af t h u∨Af t1 h u=.junk)∧K t1:=by
 obtain ⟨t1,h1,h2⟩:=copyK_spec hs
 obtain ⟨t2,h3,h4⟩:=setsK_spec h2
 refine ⟨t2,fun u=>?_,h4⟩
 by_cases hu:u<NAM
 ·rw [BV hu,BV hu]
  rcases h3 u with ⟨s,k1,k2⟩ | ⟨k1,k2⟩
  ·left;rw [k2,ent_mem hF u s k1]
  ·rw [k2,h1]
   by_cases hc:L.contains u=true
   ·left;rw [if_pos hc];exact (mapf_at hL u (by simpa using hc)).symm
   ·right;rw [if_neg hc];rfl
 ·left;simp only [Af,if_neg hu]
def rndK {σ:Type}(L:List Nat)(F:σ→List (Nat×S))(G:σ→Hp)(I:σ→Prop)(μ:σ→Nat)(t0:Tr)(m:Nat)(K:Exit→Tr→Hp→Prop):Exit→Tr→Hp→Prop
 | .normal,t,h=>∃s,I s∧μ s<m∧L.map t.get=L.map t0.get∧ent t (F s)∧G s=h
 | e,t,h=>K e t h
theorem xloop (htt:TTok P tt)(hNB:N≤BIG){body:Code}(L:List Nat){σ:Type}(F:σ→List (Nat×S))(G:σ→Hp)(I:σ→Prop)(μ:σ→Nat)(s0:σ)(h0:I s0)(hF:ent t (F s0))(hG:G s0=h)
 (round:∀s,I s→startK L (F s) t fun t1=>xcode P tt N fb body t1 (G s) (rndK L F G I μ t (μ s) K)):Leaf (VC P N (.loop body) (Af t h) fun e env=>∃t h,env=Af t h∧K e t h):=by
 refine ⟨vc_loop (fun n env=>∃s t',I s∧n=μ s∧L.map t'.get=L.map t.get∧ent t' (F s)∧env=Af t' (G s)) (n:=μ s0) ⟨s0,t,h0,rfl,rfl,hF,by rw [hG]⟩ ?_⟩
 rintro n env ⟨s,t',h1,rfl,h2,h3,rfl⟩
 obtain ⟨t1,h4,h5⟩:=start_sub (h:=G s) (round s h1) h2 h3
 refine vc_weaken h4 (vc_mono (xcode_sound htt hNB h5) ?_)
 rintro e env ⟨t2,h2,rfl,hk⟩
 cases e with
 | normal=>
  obtain ⟨s',k1,k2,k3,k4,k5⟩:=hk
  exact ⟨_,k2,s',t2,k1,rfl,k3,k4,by rw [k5]⟩
 | _=>exact ⟨t2,h2,rfl,hk⟩
theorem xloopR (htt:TTok P tt)(hNB:N≤BIG){body:Code}(L:List Nat){σ:Type}(F:σ→List (Nat×S))(I:σ→Prop)(μ:σ→Nat)(s0:σ)(h0:I s0)(hF:ent t (F s0))
 (round:∀s,I s→startK L (F s) t fun t1=>xcode P tt N fb body t1 h (rndK L F (fun _=>h) I μ t (μ s) K)):Leaf (VC P N (.loop body) (Af t h) fun e env=>∃t h,env=Af t h∧K e t h):=
 xloop htt hNB L F (fun _=>h) I μ s0 h0 hF rfl round
end
end Go.Vm
end
section
namespace Go.Vm
open Go.RowKit
section
variable {P:Program} {tt:TT} {N:Nat} {fb stop:List Nat} {t:Tr} {h:Hp} {K:Exit→Tr→Hp→Prop}
def argsT:Nat→List D→Tr→(Tr→Prop)→Prop
 | _,[],t,K=>K t
 | k,d::l,t,K=>AQ 20 t k (.c (.d d)) fun t=>argsT (Nat.succ k) l t K
theorem argsT_spec:∀{l:List D} {k:Nat} {t:Tr} {K:Tr→Prop},argsT k l t K→∃t',(∀u,t'.get u=if u<k then t.get u else match l[u-k]? with | some d=>.c (.d d) | none=>t.get u)∧K t'
 | [],k,t,K,h=>⟨t,by simp,h⟩
 | d::l,k,t,K,h=>by
  obtain ⟨t1,h1,h2⟩:=Bh h
  obtain ⟨t2,h3,h4⟩:=argsT_spec h2
  refine ⟨t2,fun u=>?_,h4⟩
  rw [h3,h1]
  rcases Nat.lt_trichotomy u k with e | e | e
  ·rw [if_pos (show u<Nat.succ k by omega),if_neg (by omega),if_pos e]
  ·subst e;rw [if_pos (show u<Nat.succ u by omega),if_pos rfl,if_neg (by omega),Nat.sub_self];rfl
  ·rw [if_neg (show ¬u<Nat.succ k by omega),if_neg (show ¬u=k by omega),if_neg (show ¬u<k by omega),show u-k=(u-Nat.succ k)+1 by omega,List.getElem?_cons_succ]
def resvK (tt:TT)(t:Tr):List ResultVar→(List C→Prop)→Prop
 | [],K=>K []
 | .tmp u::l,K=>match Nat.ble 1000000 u,t.get u with
  | false,.c (.d x)=>resvK tt t l fun cs=>K (.d x::cs)
  | false,.c (.own τ e xs)=>resvK tt t l fun cs=>K (.own τ e xs::cs)
  | false,.c .nil=>resvK tt t l fun cs=>K (.nil::cs)
  | _,_=>False
 | .cell u T::l,K=>match Nat.ble 1000000 u,t.get u,tt.get T with
  | false,.box cs,some i=>partK (shI i) cs 0 fun d=>resvK tt t l fun cs=>K (.d d::cs)
  | _,_,_=>False
theorem resvK_spec (htt:TTok P tt):∀{l:List ResultVar} {K:List C→Prop},resvK tt t l K→∃cs,vres P (Af t h) l=some cs∧K cs
 | [],K,hk=>⟨[],rfl,hk⟩
 | .tmp u::l,K,hk=>by
  simp only [resvK] at hk
  split at hk
  all_goals first | exact hk.elim | skip
  all_goals
   rename_i hb hs
   obtain ⟨cs,h1,h2⟩:=resvK_spec htt hk
   refine ⟨_::cs,?_,h2⟩
   simp only [vres,vres1,BV (ble_lt hb),hs,h1]
 | .cell u T::l,K,hk=>by
  simp only [resvK] at hk
  split at hk
  ·rename_i cs i hb hs hi
   obtain ⟨d,h1,h2⟩:=EC hk
   obtain ⟨cs',h3,h4⟩:=resvK_spec htt h2
   exact ⟨_,by simp only [vres,vres1,BV (ble_lt hb),hs,shI_ok (htt _ _ hi),h1,h3,Option.map_some],h4⟩
  ·exact hk.elim
def postL (h:Hp):List (Nat×S)→Prop
 | []=>True
 | (n,s)::l=>(NAM≤n∧h n=s)∧postL h l
theorem postL_spec {post:List (Nat×S)}(h1:postL h post)(h2:∀p∈post,thing p.2=true):∀p∈post,Af t h p.1=p.2:=by
 induction post with
 | nil=>intro p hp;cases hp
 | cons q l ih=>
  obtain ⟨n,s⟩:=q
  intro p hp
  rcases List.mem_cons.1 hp with rfl | hp
  ·have ht:=h2 (n,s) (List.mem_cons_self ..)
   simp only [envT_at h1.1.1,h1.1.2]
   cases s<;>first | rfl | cases ht
  ·exact ih h1.2 (fun q hq=>h2 q (List.mem_cons_of_mem _ hq)) p hp
def finK (P:Program)(tt:TT)(rs:List ResultVar)(res:List C)(post:List (Nat×S)):Exit→Tr→Hp→Prop
 | .normal,t,h=>resvK tt t rs fun cs=>Leaf (BL P cs res∧postL h post)
 | .ret,t,h=>resvK tt t rs fun cs=>Leaf (BL P cs res∧postL h post)
 | _,_,_=>False
def hOf:List (Nat×S)→Hp
 | []=>fun _=>.junk
 | (n,s)::l=>hset (hOf l) n s
theorem hOf_find:∀(l:List (Nat×S)) (u:Nat),hOf l u=match l.find? fun p=>p.1==u with | some p=>p.2 | none=>.junk
 | [],u=>rfl
 | (n,s)::l,u=>by
  simp only [hOf,hset,List.find?_cons]
  by_cases e:u=n
  ·subst e;simp
  ·have:(n==u)=false:=by simpa using fun h=>e h.symm
   simp only [if_neg e,this];exact hOf_find l u
theorem xfnH (htt:TTok P tt){f:FuncId}{fn:Func}{c:Code}{args:List D}{res:List C}{pre post:List (Nat×S)}{rs:List ResultVar}(fb:List Nat)(hf:P.funcs[f]? = some fn)(hb:fn.body=some c)(hN:fn.ntmps=N)(hrs:fn.results.toList=rs)(hargs:args.length≤N)(hNB:N≤BIG)
 (hbig:∀p∈pre,NAM≤p.1) (hp:∀p∈pre,thing p.2=true) (hq:∀p∈post,thing p.2=true) (hk:argsT 0 args .leaf fun t=>xcode P tt N fb c t (hOf pre) (finK P tt rs res post)):DK P f args pre res post:=by
 subst hrs
 refine contractH_of hf hb hN hargs hp hq ?_
 obtain ⟨t,h1,h2⟩:=argsT_spec hk
 have e:envH args pre=Af t (hOf pre):=by
  funext u
  unfold envH
  by_cases hu:u<NAM
  ·rw [BV hu,h1]
   simp only [Nat.not_lt_zero,if_false,Nat.sub_zero]
   cases args[u]? with
   | some d=>rfl
   | none=>
    have:(pre.find? fun p=>p.1==u)=none:=by
     rw [List.find?_eq_none]
     intro p hm
     have:=hbig p hm
     simp only [beq_iff_eq];omega
    simp only [this];rfl
  ·have hge:NAM≤u:=by omega
   have hbn:BIG≤NAM:=by decide
   rw [envT_at hge,hOf_find,List.getElem?_eq_none (by omega)]
   cases hfd:pre.find? fun p=>p.1==u with
   | none=>rfl
   | some p=>
    have:=hp p (List.mem_of_find?_eq_some hfd)
    simp only
    cases hs:p.2<;>rw [hs] at this<;>first | rfl | cases this
 rw [e]
 refine vc_mono (xcode_sound htt hNB h2) ?_
 rintro e env ⟨t',h',rfl,hk⟩
 have key:(resvK tt t' fn.results.toList fun cs=>Leaf (BL P cs res∧postL h' post))→(∃cs,vres P (Af t' h') fn.results.toList=some cs∧BL P cs res)∧∀p∈post,Af t' h' p.1=p.2:=by
  intro hk
  obtain ⟨cs,h1,⟨h2,h3⟩⟩:=resvK_spec (h:=h') htt hk
  exact ⟨⟨cs,h1,h2⟩,postL_spec h3 hq⟩
 cases e with
 | normal=>exact ⟨.inl rfl,key hk⟩
 | ret=>exact ⟨.inr rfl,key hk⟩
 | _=>exact hk.elim
theorem xfn (htt:TTok P tt){f:FuncId}{fn:Func}{c:Code}{args:List D}{res:List C}{rs:List ResultVar}(fb:List Nat)(hf:P.funcs[f]? = some fn)(hb:fn.body=some c)(hN:fn.ntmps=N)(hrs:fn.results.toList=rs)(hargs:args.length≤N)(hNB:N≤BIG)
 (hk:argsT 0 args .leaf fun t=>xcode P tt N fb c t (fun _=>.junk) (finK P tt rs res [])):Bc P f args res:=by
 have hc:=xfnH (pre:=[]) (post:=[]) htt fb hf hb hN hrs hargs hNB (by simp) (by simp) (by simp) hk
 intro ro w vs τ h1 h2 h3 h4
 refine (hc ro w vs τ h1 h2 h3 h4 (by simp)).mono ?_
 rintro e w' ⟨v,ro',rfl,hg,hs,_⟩
 exact ⟨v,ro',rfl,hg.plain,hs⟩
end
end Go.Vm
end
section
namespace Go.Vm
open Go.RowKit
section
variable {P:Program} {T:TypeId} {x y:Operand}
theorem x_bin {op:BinOp}{u v r:Value}{K:Value→Prop}(h:AX P (do eqGuard op T x y u v;binOp op T u v:Sem Value)=some r)(hp:Cc r=true)(hK:K r):∃r,AX P (do eqGuard op T x y u v;binOp op T u v:Sem Value)=some r∧Cc r=true∧K r:=⟨r,h,hp,hK⟩
theorem x_add {k:IntKind}{a b c:Int}{K:Value→Prop}(hK:K (.int k c))(h:k.wrap (a+b)=c:=by first | exact IntWalk.i64_in _ (by first | omega | (simp only [List.length_map,List.length_append,List.length_nil,List.length_cons,List.length_take,List.length_drop];omega)) | rfl):∃r,AX P (do eqGuard .add T x y (.int k a) (.int k b);binOp .add T (.int k a) (.int k b):Sem Value)=some r∧Cc r=true∧K r:=⟨_,pr_add h,rfl,hK⟩
theorem x_inc {n:Nat}{K:Value→Prop}(hK:K (.int .i64 ((n+1:Nat):Int)))(h:n+1≤9223372036854775807:=by first | omega | (simp only [List.length_map,List.length_append,List.length_nil,List.length_cons,List.length_take,List.length_drop];omega)):∃r,AX P (do eqGuard .add T x y (.int .i64 (n:Int)) (.int .i64 1);binOp .add T (.int .i64 (n:Int)) (.int .i64 1):Sem Value)=some r∧Cc r=true∧K r:=⟨_,pr_add (IntWalk.i64_in _ (by omega)),rfl,hK⟩
end
theorem x_ix {xs:List D}{j:Nat}{y:D}{i:Int}{K:Nat→D→Prop}(hy:xs[j]? = some y)(hK:K j y)(hi:i=(j:Int):=by rfl):∃(j:Nat) (y:D),i=(j:Int)∧xs[j]? = some y∧K j y:=⟨j,y,hi,hy,hK⟩
theorem Ag {xs:List D}{y:D}{i:Int}{K:Nat→D→Prop}(hy:xs[i.toNat]? = some y)(hK:K i.toNat y)(h0:0≤i:=by omega):∃(j:Nat) (y:D),i=(j:Int)∧xs[j]? = some y∧K j y:=⟨i.toNat,y,(Int.toNat_of_nonneg h0).symm,hy,hK⟩
theorem x_ch {s:ByteArray}{j:Nat}{y:UInt8}{i:Int}{K:Nat→UInt8→Prop}(hy:s[j]? = some y)(hK:K j y)(hi:i=(j:Int):=by rfl):∃(j:Nat) (y:UInt8),i=(j:Int)∧s[j]? = some y∧K j y:=⟨j,y,hi,hy,hK⟩
theorem x_chI {s:ByteArray}{y:UInt8}{i:Int}{K:Nat→UInt8→Prop}(hy:s[i.toNat]? = some y)(hK:K i.toNat y)(h0:0≤i:=by omega):∃(j:Nat) (y:UInt8),i=(j:Int)∧s[j]? = some y∧K j y:=⟨i.toNat,y,(Int.toNat_of_nonneg h0).symm,hy,hK⟩
theorem x_bnd {i:Int}{j:Nat}{K:Nat→Prop}(hK:K j)(hi:i=(j:Int):=by rfl):∃j:Nat,i=(j:Int)∧K j:=⟨j,hi,hK⟩
theorem DI {i:Int}{K:Nat→Prop}(hK:K i.toNat)(h0:0≤i:=by omega):∃j:Nat,i=(j:Int)∧K j:=⟨i.toNat,(Int.toNat_of_nonneg h0).symm,hK⟩
theorem AA {α:Type}{a n:α}{K:α→Prop}(hK:K n)(h:a=n:=by first | exact List.length_map .. | rfl):∃n,a=n∧K n:=⟨n,h,hK⟩
theorem x_str {s s':ByteArray}{l hh:Nat}{K:ByteArray→Prop}(hK:K s')(h1:l≤hh:=by first | omega | (simp only [List.length_map,List.length_append,List.length_nil,List.length_cons,List.length_take,List.length_drop];omega))(h2:hh≤s.size:=by first | omega | (simp only [List.length_map,List.length_append,List.length_nil,List.length_cons,List.length_take,List.length_drop];omega))(hy:s.extract l hh=s':=by rfl):l≤hh∧hh≤s.size∧∃s',s.extract l hh=s'∧K s':=⟨h1,h2,s',hy,hK⟩
theorem x_app {xs ys zs:List D}{sz bytes:Nat}{K:List D→Prop}(hK:K zs)(hw:∀y∈ys,y.cells.length=sz)(hz:xs++ys=zs:=by rfl)(h1:xs.length+ys.length≤maxLen:=by unfold maxLen;(first | omega | (simp only [List.length_map,List.length_append,List.length_nil,List.length_cons,List.length_take,List.length_drop];omega)))(h2:(xs.length+ys.length)*bytes≤140737488355328:=by first | omega | (simp only [List.length_map,List.length_append,List.length_nil,List.length_cons,List.length_take,List.length_drop];omega)):((∀y∈ys,y.cells.length=sz)∧xs.length+ys.length≤maxLen∧(xs.length+ys.length)*bytes≤140737488355328)∧∃z,xs++ys=z∧K z:=⟨⟨hw,h1,h2⟩,zs,hz,hK⟩
theorem x_cat {a b:ByteArray}{K:Prop}(hK:K)(h:a.size+b.size≤9223372036854775807:=by first | omega | (simp only [List.length_map,List.length_append,List.length_nil,List.length_cons,List.length_take,List.length_drop];omega)):a.size+b.size≤9223372036854775807∧K:=⟨h,hK⟩
theorem AY {P:Program}{f:FuncId}{ds:List D}{res:List C}{K:List C→Prop}(he:enters P f=true)(hc:Bc P f ds res)(hK:K res):∃res,(enters P f=true∧Bc P f ds res)∧K res:=⟨res,⟨he,hc⟩,hK⟩
theorem x_fy {P:Program}{N d:Nat}{o:Oper}{t:Tr}{h:Hp}{s:S}{K:S→Hp→Prop}(hy:Cb P N o (Af t h) s)(hK:K s h)(hd:o.dst=some d:=by rfl):∃(s:S) (h':Hp),Step P N o (Af t h) (upd (Af t h') (some d) s)∧K s h':=⟨s,h,by have:=hy.step;rwa [hd] at this,hK⟩
theorem BX {h:Hp}{id:Nat}{cs:List D}{K:List D→Prop}(hb:NAM≤id)(hh:h id=.obj cs)(hK:K cs):∃cs,(NAM≤id∧h id=.obj cs)∧K cs:=⟨cs,⟨hb,hh⟩,hK⟩
theorem Sim.nil_own {P:Program}{N base:Nat}{w0:World}{ro0:Start}{env:Env}{a:Act}{w:World}(h:Sim P N base w0 ro0 env a w){u:Nat}{τ e:Nat}(hu:env u=.c .nil)(he:0<P.cellsOf e):Sim P N base w0 ro0 (upd env (some u) (.c (.own τ e []))) a w:=by
 obtain ⟨ro,blk,h⟩:=h
 refine ⟨ro,blk,h.below,h.room,h.nodef,h.size,h.old,h.new,h.uniq,h.given,fun t ht=>?_,fun t=>?_⟩
 ·by_cases et:t=u
  ·subst et;simp [upd] at ht
  ·simp only [upd,if_neg et] at ht;exact h.left t ht
 ·have hs:=h.sat t
  by_cases et:t=u
  ·subst et
   rw [hu] at hs
   simp only [upd,if_true]
   have hv:a.tmps.getD t undef=.slice none 0 0:=hs
   exact ⟨P.cellsOf e,[],he,rfl,by rw [hv];exact World.ownsRow_nil w base e _,by simp,by simpa [flat] using Bf.nil,fun g hg=>by rw [hv] at hg;simp [Value.ownBlock] at hg⟩
  ·simp only [upd,if_neg et];exact hs
theorem xnil {P:Program}{N:Nat}{c:Code}{t:Tr}{h:Hp}{Q:Exit→Env→Prop}(u τ e:Nat)(hu:t.get u=.c .nil)(hb:u<NAM)(he:0<P.cellsOf e)(hk:AQ 20 t u (.c (.own τ e [])) fun t=>Leaf (VC P N c (Af t h) Q)):Leaf (VC P N c (Af t h) Q):=by
 obtain ⟨t',h1,⟨h2⟩⟩:=Bh hk
 refine ⟨fun base w0 ro0 a w hs=>h2 base w0 ro0 a w ?_⟩
 rw [Du hb h1]
 exact hs.nil_own (by rw [BV hb];exact hu) he
theorem CZ {σ:Type}{L:List Nat}{F:σ→List (Nat×S)}{G:σ→Hp}{I:σ→Prop}{μ:σ→Nat}{t0 t:Tr}{h:Hp}{m:Nat}(s:σ)(hI:I s)(hm:μ s<m)(hL:L.map t.get=L.map t0.get)(hE:ent t (F s))(hG:G s=h):∃s,I s∧μ s<m∧L.map t.get=L.map t0.get∧ent t (F s)∧G s=h:=⟨s,hI,hm,hL,hE,hG⟩
theorem Aq {t:Tr}{a:Nat}{s:S}{F:List (Nat×S)}(h:t.get a=s)(h':ent t F):ent t ((a,s)::F):=⟨h,h'⟩
theorem x_ret {P:Program}{cs res:List C}{h:Hp}(hf:BL P cs res):Leaf (BL P cs res∧postL h []):=⟨hf,trivial⟩
class BP (b:Bool) (p q:outParam Prop):Prop where
 yes:b=true→p
 no:b=false→q
instance bp_dec (p:Prop) [d:Decidable p]:BP (@decide p d) p (¬p):=⟨of_decide_eq_true,of_decide_eq_false⟩
instance bp_not (b:Bool) (p q:Prop) [h:BP b p q]:BP (!b) q p:=⟨fun e=>h.no (by cases b<;>simp_all),fun e=>h.yes (by cases b<;>simp_all)⟩
instance (priority:=low) bp_any (b:Bool):BP b (b=true) (b=false):=⟨id,id⟩
theorem br {b:Bool}{p q A B:Prop} [h:BP b p q](hA:p→A)(hB:q→B):(b=true→A)∧(b=false→B):=⟨fun e=>hA (h.yes e),fun e=>hB (h.no e)⟩
theorem brT {A B:Prop}(hA:A):(true=true→A)∧(true=false→B):=⟨fun _=>hA,fun h=>nomatch h⟩
theorem brF {A B:Prop}(hB:B):(false=true→A)∧(false=false→B):=⟨(fun h=>nomatch h),fun _=>hB⟩
end Go.Vm
end
section
namespace Go.Vm
instance lawfulBytes:LawfulBEq ByteArray where
 eq_of_beq:=by intro a b h;rw [beq_toListBytes,eq_strs] at h;exact of_decide_eq_true h
 rfl:=by intro a;rw [beq_toListBytes,eq_strs];simp
structure BA where
 scope:Int
 group:ByteArray
 name:ByteArray
 deriving DecidableEq
structure Az where
 at_:BA
 kind:Int
 deft:ByteArray
 cases:List ByteArray
 worth:Int
 deriving DecidableEq
structure AP where
 kind:Int
 at_:BA
 name:ByteArray
 other:ByteArray
 factor:Int
 field:Az
 forth:List (ByteArray×ByteArray)
 back:List (ByteArray×ByteArray)
 deriving DecidableEq
abbrev noB:ByteArray:=⟨#[]⟩
def Ac:BA:=⟨0,noB,noB⟩
def noField:Az:=⟨Ac,0,noB,[],0⟩
def noLens:AP:=⟨0,Ac,noB,noB,0,noField,[],[]⟩
def pairD (p:ByteArray×ByteArray):D:=.agg [.sc (.string p.1),.sc (.string p.2)]
def rD (r:BA):D:=.agg [.sc (.int .i64 r.scope),.sc (.string r.group),.sc (.string r.name)]
def lD (x:AP):D:=.agg [.sc (.int .i64 x.kind),.sc (.int .i64 x.at_.scope),.sc (.string x.at_.group),.sc (.string x.at_.name),.sc (.string x.name),.sc (.string x.other),.sc (.int .i64 x.factor),
 .sc (.int .i64 x.field.at_.scope),.sc (.string x.field.at_.group),.sc (.string x.field.at_.name),.sc (.int .i64 x.field.kind),.sc (.string x.field.deft),.row (x.field.cases.map strD),.sc (.int .i64 x.field.worth),.row (x.forth.map pairD),.row (x.back.map pairD)]
def charB (c:Int)(j:Nat):Bool:=(decide (97≤c)&&decide (c≤122))||(decide (48≤c)&&decide (c≤57) && !decide (j=0))
def okTo (s:ByteArray)(k:Nat):Prop:=∀j (b:UInt8),j<k→s[j]? = some b→charB b.toNat j=true
def nameB (s:ByteArray):Bool:=decide (1≤s.size∧s.size≤12)&&(List.range s.size).all fun j=>match s[j]? with
 | some b=>charB b.toNat j
 | none=>true
theorem name_yes {s:ByteArray}{k:Nat}(h1:1≤s.size)(h2:s.size≤12)(hk:s.size≤k)(h:okTo s k):nameB s=true:=by
 unfold nameB
 rw [decide_eq_true (show 1≤s.size∧s.size≤12 from ⟨h1,h2⟩),Bool.true_and,List.all_eq_true]
 intro j hj
 split
 ·rename_i b hb;exact h j b (by have:=List.mem_range.1 hj;omega) hb
 ·rfl
theorem name_no {s:ByteArray}{j:Nat}{b:UInt8}(hj:j<s.size)(hb:s[j]? = some b)(h:charB b.toNat j=false):nameB s=false:=by
 unfold nameB
 rw [Bool.and_eq_false_iff]
 right
 rw [List.all_eq_false]
 exact ⟨j,List.mem_range.2 hj,by rw [hb];simp [h]⟩
theorem name_short {s:ByteArray}(h:s.size<1):nameB s=false:=by unfold nameB;rw [decide_eq_false (fun k=>by omega)];rfl
theorem name_long {s:ByteArray}(h:12<s.size):nameB s=false:=by unfold nameB;rw [decide_eq_false (fun k=>by omega)];rfl
theorem okTo_zero (s:ByteArray):okTo s 0:=fun j b hj=>by omega
theorem okTo_next {s:ByteArray}{k:Nat}{b:UInt8}(h:okTo s k)(hb:s[k]? = some b)(hc:charB b.toNat k=true):okTo s (k+1):=by
 intro j b' hj hb'
 by_cases e:j=k
 ·subst e;rw [hb] at hb';injection hb' with e;subst e;exact hc
 ·exact h j b' (by omega) hb'
theorem char_lt {s:ByteArray}{k:Nat}{b:UInt8}(h:s[k]? = some b):k<s.size:=by
 rcases Nat.lt_or_ge k s.size with h1 | h1
 ·exact h1
 ·simp [show ¬k<s.size by omega] at h
def BD (r:BA):Bool:=(decide (r.scope=0)||decide (r.scope=1))&&nameB r.name&&(decide (r.group=noB)||nameB r.group)
def ltB (a b:ByteArray):Bool:=Op.bytesLess a.toList b.toList
def lessB (a b:BA):Bool:=if a.scope≠b.scope then decide (a.scope<b.scope) else if a.group≠b.group then ltB a.group b.group else ltB a.name b.name
def okC (l:List ByteArray)(k:Nat):Bool:=(List.range k).all fun j=>match l[j]? with
 | some c=>nameB c && !decide (c∈l.take j)
 | none=>true
def casesB (l:List ByteArray):Bool:=decide (1≤l.length)&&decide (l.length≤6)&&okC l l.length
def rightF (f:Az):Bool:=BD f.at_ &&
 (if f.kind=1 then decide (f.deft=noB)&&decide (f.cases.length=0)&&decide (1≤f.worth)&&decide (f.worth≤1048576)
   else if f.kind=2 then decide (f.deft.size≤40)&&decide (f.cases.length=0)&&decide (f.worth=0)
   else if f.kind=3 then casesB f.cases&&decide (f.deft∈f.cases)&&decide (f.worth=0)
   else if f.kind=4 then decide (f.deft=noB)&&decide (f.cases.length=0)&&decide (f.worth=0)
   else false)
end Go.Vm
end
section
namespace Go.Vm.T
open Go.Proofs.Tryz
open Go.RowKit
theorem k_1:AO prog 1 (.one [.sc .nilFunc]):=⟨by kernel_rfl,by kernel_rfl⟩
theorem k_2:AO prog 2 (.one [.sc (.int .i64 0)]):=⟨by kernel_rfl,by kernel_rfl⟩
theorem k_3:AO prog 3 (.one [.sc (.int .i64 0)]):=⟨by kernel_rfl,by kernel_rfl⟩
theorem k_4:AO prog 4 (.one [.sc (.bool false)]):=⟨by kernel_rfl,by kernel_rfl⟩
theorem k_5:AO prog 5 (.one [.sc (.int .u8 0)]):=⟨by kernel_rfl,by kernel_rfl⟩
theorem k_6:AO prog 6 (.one [.sc (.int .u8 0)]):=⟨by kernel_rfl,by kernel_rfl⟩
theorem k_7:AO prog 7 (.agg [(0,1),(1,1),(2,1),(3,1)] [.sc (.int .i64 0),.sc (.int .i64 0),.sc (.bool false),.sc (.int .u8 0)]):=⟨by kernel_rfl,by kernel_rfl,by kernel_rfl⟩
theorem k_8:AO prog 8 (.agg [(0,1),(1,1),(2,1),(3,1)] [.sc (.int .i64 0),.sc (.int .i64 0),.sc (.bool false),.sc (.int .u8 0)]):=⟨by kernel_rfl,by kernel_rfl,by kernel_rfl⟩
theorem k_9:AO prog 9 (.str):=⟨by kernel_rfl,by kernel_rfl,by kernel_rfl⟩
theorem k_10:AO prog 10 (.str):=⟨by kernel_rfl,by kernel_rfl,by kernel_rfl⟩
theorem k_11:AO prog 11 (.str):=⟨by kernel_rfl,by kernel_rfl,by kernel_rfl⟩
theorem k_12:AO prog 12 (.one [.sc (.int .u64 0)]):=⟨by kernel_rfl,by kernel_rfl⟩
theorem k_13:AO prog 13 (.agg [(0,1),(1,1)] [.sc (.string ⟨#[]⟩),.sc (.int .u64 0)]):=⟨by kernel_rfl,by kernel_rfl,by kernel_rfl⟩
theorem k_14:AO prog 14 (.agg [(0,1),(1,1)] [.sc (.string ⟨#[]⟩),.sc (.int .u64 0)]):=⟨by kernel_rfl,by kernel_rfl,by kernel_rfl⟩
theorem k_15:AO prog 15 (.one [.sc (.pointer none)]):=⟨by kernel_rfl,by kernel_rfl⟩
theorem k_16:AO prog 16 (.one [.sc (.pointer none)]):=⟨by kernel_rfl,by kernel_rfl⟩
theorem k_17:AO prog 17 (.one [.sc (.pointer none)]):=⟨by kernel_rfl,by kernel_rfl⟩
theorem k_21:AO prog 21 (.one [.sc (.int .i32 0)]):=⟨by kernel_rfl,by kernel_rfl⟩
theorem k_23:AO prog 23 (.agg [(0,1),(1,1)] [.sc (.int .i64 0),.sc (.int .i64 0)]):=⟨by kernel_rfl,by kernel_rfl,by kernel_rfl⟩
theorem k_25:AO prog 25 (.one [.sc (.int .i64 0)]):=⟨by kernel_rfl,by kernel_rfl⟩
theorem k_32:AO prog 32 (.one [.sc (.pointer none)]):=⟨by kernel_rfl,by kernel_rfl⟩
theorem k_34:AO prog 34 (.slice 9 1 16):=⟨by kernel_rfl,by kernel_rfl,by kernel_rfl,by kernel_rfl⟩
theorem k_38:AO prog 38 (.agg [(0,1),(1,1),(2,1)] [.sc (.int .i64 0),.sc (.string ⟨#[]⟩),.sc (.string ⟨#[]⟩)]):=⟨by kernel_rfl,by kernel_rfl,by kernel_rfl⟩
theorem k_40:AO prog 40 (.agg [(0,3),(3,1),(4,1),(5,1),(6,1)] [.sc (.int .i64 0),.sc (.string ⟨#[]⟩),.sc (.string ⟨#[]⟩),.sc (.int .i64 0),.sc (.string ⟨#[]⟩),.row [],.sc (.int .i64 0)]):=⟨by kernel_rfl,by kernel_rfl,by kernel_rfl⟩
theorem k_41:AO prog 41 (.slice 172 2 32):=⟨by kernel_rfl,by kernel_rfl,by kernel_rfl,by kernel_rfl⟩
theorem k_43:AO prog 43 (.agg [(0,1),(1,3),(4,1),(5,1),(6,1),(7,7),(14,1),(15,1)] [.sc (.int .i64 0),.sc (.int .i64 0),.sc (.string ⟨#[]⟩),.sc (.string ⟨#[]⟩),.sc (.string ⟨#[]⟩),.sc (.string ⟨#[]⟩),.sc (.int .i64 0),.sc (.int .i64 0),.sc (.string ⟨#[]⟩),.sc (.string ⟨#[]⟩),.sc (.int .i64 0),.sc (.string ⟨#[]⟩),.row [],.sc (.int .i64 0),.row [],.row []]):=⟨by kernel_rfl,by kernel_rfl,by kernel_rfl⟩
theorem k_45:AO prog 45 (.agg [(0,1),(1,1),(2,1),(3,3),(6,1),(7,1),(8,2),(10,16)] [.sc (.int .i64 0),.sc (.string ⟨#[]⟩),.sc (.string ⟨#[]⟩),.sc (.int .i64 0),.sc (.string ⟨#[]⟩),.sc (.string ⟨#[]⟩),.sc (.int .i64 0),.sc (.string ⟨#[]⟩),.sc (.int .i64 0),.sc (.int .i64 0),.sc (.int .i64 0),.sc (.int .i64 0),.sc (.string ⟨#[]⟩),.sc (.string ⟨#[]⟩),.sc (.string ⟨#[]⟩),.sc (.string ⟨#[]⟩),.sc (.int .i64 0),.sc (.int .i64 0),.sc (.string ⟨#[]⟩),.sc (.string ⟨#[]⟩),.sc (.int .i64 0),.sc (.string ⟨#[]⟩),.row [],.sc (.int .i64 0),.row [],.row []]):=⟨by kernel_rfl,by kernel_rfl,by kernel_rfl⟩
theorem k_47:AO prog 47 (.agg [(0,1),(1,1),(2,1),(3,1),(4,1),(5,1),(6,1),(7,26)] [.sc (.int .i64 0),.sc (.int .i64 0),.sc (.int .i64 0),.sc (.int .i64 0),.sc (.int .i64 0),.sc (.int .i64 0),.sc (.int .i64 0),.sc (.int .i64 0),.sc (.string ⟨#[]⟩),.sc (.string ⟨#[]⟩),.sc (.int .i64 0),.sc (.string ⟨#[]⟩),.sc (.string ⟨#[]⟩),.sc (.int .i64 0),.sc (.string ⟨#[]⟩),.sc (.int .i64 0),.sc (.int .i64 0),.sc (.int .i64 0),.sc (.int .i64 0),.sc (.string ⟨#[]⟩),.sc (.string ⟨#[]⟩),.sc (.string ⟨#[]⟩),.sc (.string ⟨#[]⟩),.sc (.int .i64 0),.sc (.int .i64 0),.sc (.string ⟨#[]⟩),.sc (.string ⟨#[]⟩),.sc (.int .i64 0),.sc (.string ⟨#[]⟩),.row [],.sc (.int .i64 0),.row [],.row []]):=⟨by kernel_rfl,by kernel_rfl,by kernel_rfl⟩
theorem k_68:AO prog 68 (.slice 146 5 72):=⟨by kernel_rfl,by kernel_rfl,by kernel_rfl,by kernel_rfl⟩
theorem k_69:AO prog 69 (.slice 149 2 40):=⟨by kernel_rfl,by kernel_rfl,by kernel_rfl,by kernel_rfl⟩
theorem k_71:AO prog 71 (.agg [(0,1),(1,1)] [.row [],.row []]):=⟨by kernel_rfl,by kernel_rfl,by kernel_rfl⟩
theorem k_73:AO prog 73 (.agg [(0,1),(1,2),(3,2)] [.sc (.int .i64 0),.sc (.int .i64 0),.sc (.int .i64 0),.row [],.row []]):=⟨by kernel_rfl,by kernel_rfl,by kernel_rfl⟩
theorem k_74:AO prog 74 (.one [.sc (.pointer none)]):=⟨by kernel_rfl,by kernel_rfl⟩
theorem k_76:AO prog 76 (.agg [(0,1)] [.sc (.pointer none)]):=⟨by kernel_rfl,by kernel_rfl,by kernel_rfl⟩
theorem k_80:AO prog 80 (.slice 91 2 32):=⟨by kernel_rfl,by kernel_rfl,by kernel_rfl,by kernel_rfl⟩
theorem k_83:AO prog 83 (.slice 2 1 8):=⟨by kernel_rfl,by kernel_rfl,by kernel_rfl,by kernel_rfl⟩
theorem k_84:AO prog 84 (.slice 23 2 16):=⟨by kernel_rfl,by kernel_rfl,by kernel_rfl,by kernel_rfl⟩
theorem k_85:AO prog 85 (.slice 38 3 40):=⟨by kernel_rfl,by kernel_rfl,by kernel_rfl,by kernel_rfl⟩
theorem k_87:AO prog 87 (.agg [(0,1),(1,1),(2,1),(3,1),(4,1)] [.row [],.row [],.row [],.row [],.row []]):=⟨by kernel_rfl,by kernel_rfl,by kernel_rfl⟩
theorem k_91:AO prog 91 (.agg [(0,1),(1,1)] [.sc (.string ⟨#[]⟩),.sc (.string ⟨#[]⟩)]):=⟨by kernel_rfl,by kernel_rfl,by kernel_rfl⟩
theorem k_92:AO prog 92 (.one [.sc (.pointer none)]):=⟨by kernel_rfl,by kernel_rfl⟩
theorem k_94:AO prog 94 (.agg [(0,1),(1,1)] [.row [],.sc (.bool false)]):=⟨by kernel_rfl,by kernel_rfl,by kernel_rfl⟩
theorem k_97:AO prog 97 (.arr 13 9 1 [.sc (.string ⟨#[]⟩),.sc (.string ⟨#[]⟩),.sc (.string ⟨#[]⟩),.sc (.string ⟨#[]⟩),.sc (.string ⟨#[]⟩),.sc (.string ⟨#[]⟩),.sc (.string ⟨#[]⟩),.sc (.string ⟨#[]⟩),.sc (.string ⟨#[]⟩),.sc (.string ⟨#[]⟩),.sc (.string ⟨#[]⟩),.sc (.string ⟨#[]⟩),.sc (.string ⟨#[]⟩)]):=⟨by kernel_rfl,by kernel_rfl,by kernel_rfl⟩
theorem k_107:AO prog 107 (.arr 20 5 1 [.sc (.int .u8 0),.sc (.int .u8 0),.sc (.int .u8 0),.sc (.int .u8 0),.sc (.int .u8 0),.sc (.int .u8 0),.sc (.int .u8 0),.sc (.int .u8 0),.sc (.int .u8 0),.sc (.int .u8 0),.sc (.int .u8 0),.sc (.int .u8 0),.sc (.int .u8 0),.sc (.int .u8 0),.sc (.int .u8 0),.sc (.int .u8 0),.sc (.int .u8 0),.sc (.int .u8 0),.sc (.int .u8 0),.sc (.int .u8 0)]):=⟨by kernel_rfl,by kernel_rfl,by kernel_rfl⟩
theorem k_108:AO prog 108 (.one [.sc (.int .u64 0)]):=⟨by kernel_rfl,by kernel_rfl⟩
theorem k_109:AO prog 109 (.slice 5 1 1):=⟨by kernel_rfl,by kernel_rfl,by kernel_rfl,by kernel_rfl⟩
theorem k_114:AO prog 114 (.one [.sc (.pointer none)]):=⟨by kernel_rfl,by kernel_rfl⟩
theorem k_118:AO prog 118 (.one [.sc (.pointer none)]):=⟨by kernel_rfl,by kernel_rfl⟩
theorem k_122:AO prog 122 (.one [.sc (.pointer none)]):=⟨by kernel_rfl,by kernel_rfl⟩
theorem k_127:AO prog 127 (.one [.sc (.pointer none)]):=⟨by kernel_rfl,by kernel_rfl⟩
theorem k_129:AO prog 129 (.agg [(0,1),(1,1),(2,1)] [.sc (.pointer none),.sc (.pointer none),.sc (.int .i64 0)]):=⟨by kernel_rfl,by kernel_rfl,by kernel_rfl⟩
theorem k_130:AO prog 130 (.slice 129 3 24):=⟨by kernel_rfl,by kernel_rfl,by kernel_rfl,by kernel_rfl⟩
theorem k_131:AO prog 131 (.one [.sc (.pointer none)]):=⟨by kernel_rfl,by kernel_rfl⟩
theorem k_132:AO prog 132 (.one [.sc (.int .u32 0)]):=⟨by kernel_rfl,by kernel_rfl⟩
theorem k_134:AO prog 134 (.arrB 256 132 1):=⟨by kernel_rfl,by kernel_rfl⟩
theorem k_143:AO prog 143 (.one [.sc (.pointer none)]):=⟨by kernel_rfl,by kernel_rfl⟩
theorem k_146:AO prog 146 (.agg [(0,3),(3,1),(4,1)] [.sc (.int .i64 0),.sc (.string ⟨#[]⟩),.sc (.string ⟨#[]⟩),.sc (.int .i64 0),.row []]):=⟨by kernel_rfl,by kernel_rfl,by kernel_rfl⟩
theorem k_149:AO prog 149 (.agg [(0,1),(1,1)] [.sc (.string ⟨#[]⟩),.row []]):=⟨by kernel_rfl,by kernel_rfl,by kernel_rfl⟩
theorem k_172:AO prog 172 (.agg [(0,1),(1,1)] [.sc (.string ⟨#[]⟩),.sc (.string ⟨#[]⟩)]):=⟨by kernel_rfl,by kernel_rfl,by kernel_rfl⟩
theorem k_185:AO prog 185 (.one [.sc (.pointer none)]):=⟨by kernel_rfl,by kernel_rfl⟩
theorem k_187:AO prog 187 (.agg [(0,1),(1,1),(2,1),(3,2),(5,1),(6,1),(7,1)] [.sc (.pointer none),.sc (.pointer none),.sc (.int .i64 0),.sc (.int .i64 0),.sc (.int .i64 0),.sc (.pointer none),.sc (.pointer none),.sc (.bool false)]):=⟨by kernel_rfl,by kernel_rfl,by kernel_rfl⟩
theorem k_188:AO prog 188 (.slice 263 15 176):=⟨by kernel_rfl,by kernel_rfl,by kernel_rfl,by kernel_rfl⟩
theorem k_189:AO prog 189 (.arr 6 188 1 [.row [],.row [],.row [],.row [],.row [],.row []]):=⟨by kernel_rfl,by kernel_rfl,by kernel_rfl⟩
theorem k_191:AO prog 191 (.agg [(0,6)] [.row [],.row [],.row [],.row [],.row [],.row []]):=⟨by kernel_rfl,by kernel_rfl,by kernel_rfl⟩
theorem k_194:AO prog 194 (.agg [(0,2),(2,2),(4,16)] [.sc (.int .i64 0),.sc (.int .i64 0),.sc (.int .i64 0),.sc (.int .i64 0),.sc (.int .i64 0),.sc (.int .i64 0),.sc (.string ⟨#[]⟩),.sc (.string ⟨#[]⟩),.sc (.string ⟨#[]⟩),.sc (.string ⟨#[]⟩),.sc (.int .i64 0),.sc (.int .i64 0),.sc (.string ⟨#[]⟩),.sc (.string ⟨#[]⟩),.sc (.int .i64 0),.sc (.string ⟨#[]⟩),.row [],.sc (.int .i64 0),.row [],.row []]):=⟨by kernel_rfl,by kernel_rfl,by kernel_rfl⟩
theorem k_195:AO prog 195 (.slice 40 7 96):=⟨by kernel_rfl,by kernel_rfl,by kernel_rfl,by kernel_rfl⟩
theorem k_197:AO prog 197 (.agg [(0,20),(20,1),(21,1),(22,1)] [.sc (.int .i64 0),.sc (.int .i64 0),.sc (.int .i64 0),.sc (.int .i64 0),.sc (.int .i64 0),.sc (.int .i64 0),.sc (.string ⟨#[]⟩),.sc (.string ⟨#[]⟩),.sc (.string ⟨#[]⟩),.sc (.string ⟨#[]⟩),.sc (.int .i64 0),.sc (.int .i64 0),.sc (.string ⟨#[]⟩),.sc (.string ⟨#[]⟩),.sc (.int .i64 0),.sc (.string ⟨#[]⟩),.row [],.sc (.int .i64 0),.row [],.row [],.sc (.int .i64 0),.row [],.sc (.int .i64 0)]):=⟨by kernel_rfl,by kernel_rfl,by kernel_rfl⟩
theorem k_200:AO prog 200 (.one [.sc (.map none)]):=⟨by kernel_rfl,by kernel_rfl⟩
theorem k_202:AO prog 202 (.agg [(0,1)] [.sc (.map none)]):=⟨by kernel_rfl,by kernel_rfl,by kernel_rfl⟩
theorem k_216:AO prog 216 (.agg [(0,1),(1,1),(2,1)] [.sc (.int .i64 0),.sc (.int .i64 0),.row []]):=⟨by kernel_rfl,by kernel_rfl,by kernel_rfl⟩
theorem k_222:AO prog 222 (.slice 216 3 40):=⟨by kernel_rfl,by kernel_rfl,by kernel_rfl,by kernel_rfl⟩
theorem k_224:AO prog 224 (.slice 225 1 16):=⟨by kernel_rfl,by kernel_rfl,by kernel_rfl,by kernel_rfl⟩
theorem k_225:AO prog 225 (.one [.sc (.complex .f64 0 0)]):=⟨by kernel_rfl,by kernel_rfl⟩
theorem k_227:AO prog 227 (.agg [(0,1),(1,1),(2,1),(3,1),(4,1)] [.row [],.row [],.sc (.bool false),.sc (.complex .f64 0 0),.sc (.int .i64 0)]):=⟨by kernel_rfl,by kernel_rfl,by kernel_rfl⟩
theorem k_231:AO prog 231 (.arr 4 109 1 [.row [],.row [],.row [],.row []]):=⟨by kernel_rfl,by kernel_rfl,by kernel_rfl⟩
theorem k_232:AO prog 232 (.slice 387 4 48):=⟨by kernel_rfl,by kernel_rfl,by kernel_rfl,by kernel_rfl⟩
theorem k_234:AO prog 234 (.agg [(0,1),(1,4),(5,4),(9,1),(10,1),(11,1),(12,1),(13,1),(14,1)] [.sc (.int .i64 0),.row [],.row [],.row [],.row [],.row [],.row [],.row [],.row [],.row [],.sc (.int .i64 0),.sc (.int .i64 0),.sc (.bool false),.sc (.int .i64 0),.sc (.bool false)]):=⟨by kernel_rfl,by kernel_rfl,by kernel_rfl⟩
theorem k_247:AO prog 247 (.one [.sc (.pointer none)]):=⟨by kernel_rfl,by kernel_rfl⟩
theorem k_252:AO prog 252 (.one [.sc (.int .u64 0)]):=⟨by kernel_rfl,by kernel_rfl⟩
theorem k_263:AO prog 263 (.agg [(0,2),(2,2),(4,1),(5,1),(6,1),(7,1),(8,3),(11,1),(12,1),(13,1),(14,1)] [.sc (.int .i64 0),.sc (.int .i64 0),.sc (.int .i64 0),.sc (.int .i64 0),.sc (.int .i64 0),.sc (.string ⟨#[]⟩),.sc (.int .i64 0),.sc (.string ⟨#[]⟩),.sc (.int .i64 0),.sc (.string ⟨#[]⟩),.sc (.string ⟨#[]⟩),.sc (.int .i64 0),.sc (.bool false),.sc (.string ⟨#[]⟩),.row []]):=⟨by kernel_rfl,by kernel_rfl,by kernel_rfl⟩
theorem k_307:AO prog 307 (.one [.sc (.pointer none)]):=⟨by kernel_rfl,by kernel_rfl⟩
theorem k_308:AO prog 308 (.one [.sc (.pointer none)]):=⟨by kernel_rfl,by kernel_rfl⟩
theorem k_384:AO prog 384 (.one [.sc (.float .f64 0)]):=⟨by kernel_rfl,by kernel_rfl⟩
theorem k_387:AO prog 387 (.agg [(0,1),(1,1),(2,1),(3,1)] [.sc (.int .i64 0),.sc (.bool false),.sc (.int .i64 0),.row []]):=⟨by kernel_rfl,by kernel_rfl,by kernel_rfl⟩
theorem k_463:AO prog 463 (.arr 2 384 1 [.sc (.float .f64 0),.sc (.float .f64 0)]):=⟨by kernel_rfl,by kernel_rfl,by kernel_rfl⟩
theorem k_514:AO prog 514 (.arrB 256 5 1):=⟨by kernel_rfl,by kernel_rfl⟩
theorem k_516:AO prog 516 (.agg [(0,1),(1,1)] [.sc (.int .u8 0),.sc (.int .u8 0)]):=⟨by kernel_rfl,by kernel_rfl,by kernel_rfl⟩
theorem k_517:AO prog 517 (.arr 16 516 2 [.sc (.int .u8 0),.sc (.int .u8 0),.sc (.int .u8 0),.sc (.int .u8 0),.sc (.int .u8 0),.sc (.int .u8 0),.sc (.int .u8 0),.sc (.int .u8 0),.sc (.int .u8 0),.sc (.int .u8 0),.sc (.int .u8 0),.sc (.int .u8 0),.sc (.int .u8 0),.sc (.int .u8 0),.sc (.int .u8 0),.sc (.int .u8 0),.sc (.int .u8 0),.sc (.int .u8 0),.sc (.int .u8 0),.sc (.int .u8 0),.sc (.int .u8 0),.sc (.int .u8 0),.sc (.int .u8 0),.sc (.int .u8 0),.sc (.int .u8 0),.sc (.int .u8 0),.sc (.int .u8 0),.sc (.int .u8 0),.sc (.int .u8 0),.sc (.int .u8 0),.sc (.int .u8 0),.sc (.int .u8 0)]):=⟨by kernel_rfl,by kernel_rfl,by kernel_rfl⟩
theorem k_522:AO prog 522 (.agg [(0,1),(1,1),(2,1),(3,1)] [.sc (.pointer none),.sc (.pointer none),.sc (.pointer none),.sc (.string ⟨#[]⟩)]):=⟨by kernel_rfl,by kernel_rfl,by kernel_rfl⟩
theorem k_523:AO prog 523 (.arr 0 16 1 []):=⟨by kernel_rfl,by kernel_rfl,by kernel_rfl⟩
theorem k_525:AO prog 525 (.agg [(0,0)] []):=⟨by kernel_rfl,by kernel_rfl,by kernel_rfl⟩
theorem k_526:AO prog 526 (.one [.sc (.int .u8 0)]):=⟨by kernel_rfl,by kernel_rfl⟩
theorem k_527:AO prog 527 (.one [.sc (.int .u8 0)]):=⟨by kernel_rfl,by kernel_rfl⟩
theorem k_528:AO prog 528 (.one [.sc .nilFunc]):=⟨by kernel_rfl,by kernel_rfl⟩
theorem k_529:AO prog 529 (.one [.sc (.int .i32 0)]):=⟨by kernel_rfl,by kernel_rfl⟩
theorem k_530:AO prog 530 (.one [.sc (.int .i32 0)]):=⟨by kernel_rfl,by kernel_rfl⟩
theorem k_532:AO prog 532 (.agg [(0,1),(1,1),(2,1),(3,1),(4,1),(5,1),(6,1),(7,1),(8,1),(9,1),(10,1)] [.sc (.int .u64 0),.sc (.int .u64 0),.sc (.int .u32 0),.sc (.int .u8 0),.sc (.int .u8 0),.sc (.int .u8 0),.sc (.int .u8 0),.sc .nilFunc,.sc (.pointer none),.sc (.int .i32 0),.sc (.int .i32 0)]):=⟨by kernel_rfl,by kernel_rfl,by kernel_rfl⟩
theorem sm {p:TyI→Prop}{a:TyI}(h:p a):∀i,some a=some i→p i:=fun i e=>by injection e with e;subst e;exact h
theorem nn {p:TyI→Prop}:∀i,(none:Option TyI)=some i→p i:=fun i e=>by cases e
def tt:TT:=.node (none) (.node (some (.one [.sc .nilFunc])) (.node (some (.one [.sc (.int .i64 0)])) (.node (some (.agg [(0,1),(1,1),(2,1),(3,1)] [.sc (.int .i64 0),.sc (.int .i64 0),.sc (.bool false),.sc (.int .u8 0)])) (.node (some (.one [.sc (.pointer none)])) (.node (none) (.node (none) (.node (some (.one [.sc (.pointer none)])) (.leaf) (.leaf)) (.node (some (.agg [(0,6)] [.row [],.row [],.row [],.row [],.row [],.row []])) (.leaf) (.leaf))) (.leaf)) (.node (some (.agg [(0,1),(1,1),(2,1),(3,1),(4,1),(5,1),(6,1),(7,26)] [.sc (.int .i64 0),.sc (.int .i64 0),.sc (.int .i64 0),.sc (.int .i64 0),.sc (.int .i64 0),.sc (.int .i64 0),.sc (.int .i64 0),.sc (.int .i64 0),.sc (.string ⟨#[]⟩),.sc (.string ⟨#[]⟩),.sc (.int .i64 0),.sc (.string ⟨#[]⟩),.sc (.string ⟨#[]⟩),.sc (.int .i64 0),.sc (.string ⟨#[]⟩),.sc (.int .i64 0),.sc (.int .i64 0),.sc (.int .i64 0),.sc (.int .i64 0),.sc (.string ⟨#[]⟩),.sc (.string ⟨#[]⟩),.sc (.string ⟨#[]⟩),.sc (.string ⟨#[]⟩),.sc (.int .i64 0),.sc (.int .i64 0),.sc (.string ⟨#[]⟩),.sc (.string ⟨#[]⟩),.sc (.int .i64 0),.sc (.string ⟨#[]⟩),.row [],.sc (.int .i64 0),.row [],.row []])) (.node (none) (.node (some (.one [.sc (.pointer none)])) (.node (none) (.node (some (.one [.sc (.int .u8 0)])) (.leaf) (.leaf)) (.leaf)) (.leaf)) (.node (none) (.leaf) (.node (some (.arr 2 384 1 [.sc (.float .f64 0),.sc (.float .f64 0)])) (.leaf) (.leaf)))) (.leaf))) (.node (some (.agg [(0,1),(1,1)] [.sc (.int .i64 0),.sc (.int .i64 0)])) (.node (none) (.node (some (.agg [(0,1),(1,1)] [.row [],.row []])) (.node (none) (.node (some (.agg [(0,2),(2,2),(4,1),(5,1),(6,1),(7,1),(8,3),(11,1),(12,1),(13,1),(14,1)] [.sc (.int .i64 0),.sc (.int .i64 0),.sc (.int .i64 0),.sc (.int .i64 0),.sc (.int .i64 0),.sc (.string ⟨#[]⟩),.sc (.int .i64 0),.sc (.string ⟨#[]⟩),.sc (.int .i64 0),.sc (.string ⟨#[]⟩),.sc (.string ⟨#[]⟩),.sc (.int .i64 0),.sc (.bool false),.sc (.string ⟨#[]⟩),.row []])) (.leaf) (.leaf)) (.leaf)) (.leaf)) (.node (none) (.leaf) (.node (some (.arr 4 109 1 [.row [],.row [],.row [],.row []])) (.leaf) (.leaf)))) (.node (none) (.node (some (.agg [(0,1),(1,1),(2,1),(3,1),(4,1)] [.row [],.row [],.row [],.row [],.row []])) (.leaf) (.leaf)) (.node (none) (.leaf) (.node (some (.one [.sc (.pointer none)])) (.leaf) (.leaf)))))) (.node (some (.str)) (.node (none) (.node (none) (.node (none) (.node (some (.one [.sc (.pointer none)])) (.leaf) (.node (some (.agg [(0,1),(1,1),(2,1),(3,1)] [.sc (.int .i64 0),.sc (.bool false),.sc (.int .i64 0),.row []])) (.leaf) (.leaf))) (.node (some (.slice 40 7 96)) (.leaf) (.leaf))) (.node (none) (.leaf) (.node (some (.agg [(0,1),(1,1),(2,1),(3,1),(4,1)] [.row [],.row [],.sc (.bool false),.sc (.complex .f64 0 0),.sc (.int .i64 0)])) (.leaf) (.leaf)))) (.node (none) (.node (some (.slice 2 1 8)) (.leaf) (.leaf)) (.node (none) (.node (none) (.node (some (.one [.sc (.pointer none)])) (.leaf) (.leaf)) (.leaf)) (.leaf)))) (.node (none) (.node (some (.agg [(0,1),(1,3),(4,1),(5,1),(6,1),(7,7),(14,1),(15,1)] [.sc (.int .i64 0),.sc (.int .i64 0),.sc (.string ⟨#[]⟩),.sc (.string ⟨#[]⟩),.sc (.string ⟨#[]⟩),.sc (.string ⟨#[]⟩),.sc (.int .i64 0),.sc (.int .i64 0),.sc (.string ⟨#[]⟩),.sc (.string ⟨#[]⟩),.sc (.int .i64 0),.sc (.string ⟨#[]⟩),.row [],.sc (.int .i64 0),.row [],.row []])) (.node (none) (.node (none) (.node (none) (.node (some (.arr 0 16 1 [])) (.leaf) (.leaf)) (.leaf)) (.leaf)) (.leaf)) (.node (some (.arr 20 5 1 [.sc (.int .u8 0),.sc (.int .u8 0),.sc (.int .u8 0),.sc (.int .u8 0),.sc (.int .u8 0),.sc (.int .u8 0),.sc (.int .u8 0),.sc (.int .u8 0),.sc (.int .u8 0),.sc (.int .u8 0),.sc (.int .u8 0),.sc (.int .u8 0),.sc (.int .u8 0),.sc (.int .u8 0),.sc (.int .u8 0),.sc (.int .u8 0),.sc (.int .u8 0),.sc (.int .u8 0),.sc (.int .u8 0),.sc (.int .u8 0)])) (.leaf) (.leaf))) (.node (none) (.node (some (.agg [(0,1),(1,1)] [.sc (.string ⟨#[]⟩),.sc (.string ⟨#[]⟩)])) (.leaf) (.leaf)) (.node (none) (.node (some (.agg [(0,1),(1,1),(2,1),(3,2),(5,1),(6,1),(7,1)] [.sc (.pointer none),.sc (.pointer none),.sc (.int .i64 0),.sc (.int .i64 0),.sc (.int .i64 0),.sc (.pointer none),.sc (.pointer none),.sc (.bool false)])) (.leaf) (.leaf)) (.leaf)))))) (.node (some (.one [.sc (.int .u8 0)])) (.node (some (.str)) (.node (some (.one [.sc (.pointer none)])) (.node (none) (.node (none) (.node (some (.agg [(0,1),(1,1),(2,1)] [.sc (.pointer none),.sc (.pointer none),.sc (.int .i64 0)])) (.leaf) (.leaf)) (.leaf)) (.node (some (.arr 13 9 1 [.sc (.string ⟨#[]⟩),.sc (.string ⟨#[]⟩),.sc (.string ⟨#[]⟩),.sc (.string ⟨#[]⟩),.sc (.string ⟨#[]⟩),.sc (.string ⟨#[]⟩),.sc (.string ⟨#[]⟩),.sc (.string ⟨#[]⟩),.sc (.string ⟨#[]⟩),.sc (.string ⟨#[]⟩),.sc (.string ⟨#[]⟩),.sc (.string ⟨#[]⟩),.sc (.string ⟨#[]⟩)])) (.leaf) (.node (some (.one [.sc (.complex .f64 0 0)])) (.leaf) (.leaf)))) (.node (none) (.node (none) (.node (none) (.node (none) (.node (some (.one [.sc (.int .i32 0)])) (.leaf) (.leaf)) (.leaf)) (.leaf)) (.leaf)) (.leaf))) (.node (some (.one [.sc (.int .i64 0)])) (.node (some (.slice 172 2 32)) (.node (some (.agg [(0,1),(1,2),(3,2)] [.sc (.int .i64 0),.sc (.int .i64 0),.sc (.int .i64 0),.row [],.row []])) (.leaf) (.leaf)) (.leaf)) (.node (none) (.leaf) (.node (none) (.node (some (.one [.sc (.pointer none)])) (.leaf) (.leaf)) (.leaf))))) (.node (some (.agg [(0,1),(1,1)] [.sc (.string ⟨#[]⟩),.sc (.int .u64 0)])) (.node (some (.one [.sc (.int .i32 0)])) (.node (none) (.node (some (.slice 149 2 40)) (.node (none) (.node (none) (.node (some (.arr 16 516 2 [.sc (.int .u8 0),.sc (.int .u8 0),.sc (.int .u8 0),.sc (.int .u8 0),.sc (.int .u8 0),.sc (.int .u8 0),.sc (.int .u8 0),.sc (.int .u8 0),.sc (.int .u8 0),.sc (.int .u8 0),.sc (.int .u8 0),.sc (.int .u8 0),.sc (.int .u8 0),.sc (.int .u8 0),.sc (.int .u8 0),.sc (.int .u8 0),.sc (.int .u8 0),.sc (.int .u8 0),.sc (.int .u8 0),.sc (.int .u8 0),.sc (.int .u8 0),.sc (.int .u8 0),.sc (.int .u8 0),.sc (.int .u8 0),.sc (.int .u8 0),.sc (.int .u8 0),.sc (.int .u8 0),.sc (.int .u8 0),.sc (.int .u8 0),.sc (.int .u8 0),.sc (.int .u8 0),.sc (.int .u8 0)])) (.leaf) (.leaf)) (.leaf)) (.leaf)) (.node (some (.agg [(0,20),(20,1),(21,1),(22,1)] [.sc (.int .i64 0),.sc (.int .i64 0),.sc (.int .i64 0),.sc (.int .i64 0),.sc (.int .i64 0),.sc (.int .i64 0),.sc (.string ⟨#[]⟩),.sc (.string ⟨#[]⟩),.sc (.string ⟨#[]⟩),.sc (.string ⟨#[]⟩),.sc (.int .i64 0),.sc (.int .i64 0),.sc (.string ⟨#[]⟩),.sc (.string ⟨#[]⟩),.sc (.int .i64 0),.sc (.string ⟨#[]⟩),.row [],.sc (.int .i64 0),.row [],.row [],.sc (.int .i64 0),.row [],.sc (.int .i64 0)])) (.leaf) (.leaf))) (.leaf)) (.node (none) (.node (some (.slice 38 3 40)) (.node (some (.agg [(0,1),(1,1)] [.sc (.string ⟨#[]⟩),.row []])) (.leaf) (.leaf)) (.leaf)) (.leaf))) (.node (none) (.node (some (.agg [(0,1),(1,1),(2,1),(3,3),(6,1),(7,1),(8,2),(10,16)] [.sc (.int .i64 0),.sc (.string ⟨#[]⟩),.sc (.string ⟨#[]⟩),.sc (.int .i64 0),.sc (.string ⟨#[]⟩),.sc (.string ⟨#[]⟩),.sc (.int .i64 0),.sc (.string ⟨#[]⟩),.sc (.int .i64 0),.sc (.int .i64 0),.sc (.int .i64 0),.sc (.int .i64 0),.sc (.string ⟨#[]⟩),.sc (.string ⟨#[]⟩),.sc (.string ⟨#[]⟩),.sc (.string ⟨#[]⟩),.sc (.int .i64 0),.sc (.int .i64 0),.sc (.string ⟨#[]⟩),.sc (.string ⟨#[]⟩),.sc (.int .i64 0),.sc (.string ⟨#[]⟩),.row [],.sc (.int .i64 0),.row [],.row []])) (.node (none) (.node (none) (.node (none) (.node (some (.agg [(0,0)] [])) (.leaf) (.leaf)) (.leaf)) (.leaf)) (.leaf)) (.node (some (.slice 5 1 1)) (.leaf) (.leaf))) (.node (none) (.leaf) (.node (none) (.node (some (.arr 6 188 1 [.row [],.row [],.row [],.row [],.row [],.row []])) (.leaf) (.leaf)) (.leaf))))))) (.node (some (.one [.sc (.int .i64 0)])) (.node (some (.one [.sc (.bool false)])) (.node (some (.agg [(0,1),(1,1),(2,1),(3,1)] [.sc (.int .i64 0),.sc (.int .i64 0),.sc (.bool false),.sc (.int .u8 0)])) (.node (some (.one [.sc (.pointer none)])) (.node (some (.one [.sc (.pointer none)])) (.node (none) (.node (none) (.leaf) (.node (some (.one [.sc (.float .f64 0)])) (.leaf) (.leaf))) (.leaf)) (.node (none) (.leaf) (.node (some (.slice 225 1 16)) (.leaf) (.leaf)))) (.node (none) (.node (some (.slice 91 2 32)) (.node (none) (.node (none) (.node (some (.one [.sc .nilFunc])) (.leaf) (.leaf)) (.leaf)) (.leaf)) (.leaf)) (.leaf))) (.node (none) (.node (some (.agg [(0,3),(3,1),(4,1),(5,1),(6,1)] [.sc (.int .i64 0),.sc (.string ⟨#[]⟩),.sc (.string ⟨#[]⟩),.sc (.int .i64 0),.sc (.string ⟨#[]⟩),.row [],.sc (.int .i64 0)])) (.node (none) (.leaf) (.node (some (.one [.sc (.map none)])) (.leaf) (.leaf))) (.node (none) (.leaf) (.node (some (.slice 387 4 48)) (.leaf) (.leaf)))) (.node (none) (.node (none) (.leaf) (.node (some (.agg [(0,1),(1,1),(2,1)] [.sc (.int .i64 0),.sc (.int .i64 0),.row []])) (.leaf) (.leaf))) (.leaf)))) (.node (some (.one [.sc (.int .u64 0)])) (.node (none) (.node (none) (.node (some (.slice 146 5 72)) (.node (some (.one [.sc (.int .u32 0)])) (.node (none) (.node (some (.agg [(0,1),(1,1)] [.sc (.int .u8 0),.sc (.int .u8 0)])) (.leaf) (.leaf)) (.leaf)) (.leaf)) (.leaf)) (.leaf)) (.node (none) (.node (some (.slice 23 2 16)) (.node (none) (.node (none) (.node (some (.agg [(0,1),(1,1),(2,1),(3,1),(4,1),(5,1),(6,1),(7,1),(8,1),(9,1),(10,1)] [.sc (.int .u64 0),.sc (.int .u64 0),.sc (.int .u32 0),.sc (.int .u8 0),.sc (.int .u8 0),.sc (.int .u8 0),.sc (.int .u8 0),.sc .nilFunc,.sc (.pointer none),.sc (.int .i32 0),.sc (.int .i32 0)])) (.leaf) (.leaf)) (.leaf)) (.leaf)) (.leaf)) (.node (none) (.node (none) (.node (some (.one [.sc (.pointer none)])) (.leaf) (.leaf)) (.leaf)) (.leaf)))) (.node (none) (.node (none) (.node (some (.agg [(0,1)] [.sc (.pointer none)])) (.leaf) (.leaf)) (.node (some (.one [.sc (.int .u64 0)])) (.node (some (.agg [(0,1),(1,1)] [.sc (.string ⟨#[]⟩),.sc (.string ⟨#[]⟩)])) (.leaf) (.leaf)) (.leaf))) (.node (none) (.node (some (.one [.sc (.pointer none)])) (.leaf) (.leaf)) (.node (none) (.node (some (.slice 263 15 176)) (.leaf) (.leaf)) (.node (some (.one [.sc (.int .u64 0)])) (.leaf) (.leaf))))))) (.node (some (.one [.sc (.int .u8 0)])) (.node (some (.str)) (.node (none) (.node (some (.slice 9 1 16)) (.node (none) (.node (some (.slice 129 3 24)) (.node (none) (.node (some (.arrB 256 5 1)) (.leaf) (.leaf)) (.leaf)) (.leaf)) (.node (some (.agg [(0,2),(2,2),(4,16)] [.sc (.int .i64 0),.sc (.int .i64 0),.sc (.int .i64 0),.sc (.int .i64 0),.sc (.int .i64 0),.sc (.int .i64 0),.sc (.string ⟨#[]⟩),.sc (.string ⟨#[]⟩),.sc (.string ⟨#[]⟩),.sc (.string ⟨#[]⟩),.sc (.int .i64 0),.sc (.int .i64 0),.sc (.string ⟨#[]⟩),.sc (.string ⟨#[]⟩),.sc (.int .i64 0),.sc (.string ⟨#[]⟩),.row [],.sc (.int .i64 0),.row [],.row []])) (.leaf) (.leaf))) (.leaf)) (.node (none) (.node (none) (.node (some (.agg [(0,3),(3,1),(4,1)] [.sc (.int .i64 0),.sc (.string ⟨#[]⟩),.sc (.string ⟨#[]⟩),.sc (.int .i64 0),.row []])) (.node (none) (.node (some (.one [.sc (.int .i32 0)])) (.leaf) (.leaf)) (.leaf)) (.leaf)) (.leaf)) (.node (some (.one [.sc (.pointer none)])) (.leaf) (.leaf)))) (.node (none) (.node (none) (.node (some (.one [.sc (.pointer none)])) (.node (none) (.node (none) (.node (some (.agg [(0,1),(1,1),(2,1),(3,1)] [.sc (.pointer none),.sc (.pointer none),.sc (.pointer none),.sc (.string ⟨#[]⟩)])) (.leaf) (.leaf)) (.leaf)) (.leaf)) (.node (some (.agg [(0,1)] [.sc (.map none)])) (.leaf) (.leaf))) (.node (none) (.leaf) (.node (some (.agg [(0,1),(1,4),(5,4),(9,1),(10,1),(11,1),(12,1),(13,1),(14,1)] [.sc (.int .i64 0),.row [],.row [],.row [],.row [],.row [],.row [],.row [],.row [],.row [],.sc (.int .i64 0),.sc (.int .i64 0),.sc (.bool false),.sc (.int .i64 0),.sc (.bool false)])) (.leaf) (.leaf)))) (.node (none) (.leaf) (.node (some (.one [.sc (.pointer none)])) (.leaf) (.leaf))))) (.node (some (.agg [(0,1),(1,1)] [.sc (.string ⟨#[]⟩),.sc (.int .u64 0)])) (.node (none) (.node (some (.agg [(0,1),(1,1),(2,1)] [.sc (.int .i64 0),.sc (.string ⟨#[]⟩),.sc (.string ⟨#[]⟩)])) (.node (none) (.node (some (.arrB 256 132 1)) (.leaf) (.leaf)) (.leaf)) (.leaf)) (.node (none) (.leaf) (.node (some (.one [.sc (.pointer none)])) (.leaf) (.leaf)))) (.node (none) (.node (none) (.node (none) (.node (none) (.node (none) (.node (some (.one [.sc (.int .u8 0)])) (.leaf) (.leaf)) (.leaf)) (.leaf)) (.leaf)) (.leaf)) (.node (none) (.node (some (.agg [(0,1),(1,1)] [.row [],.sc (.bool false)])) (.leaf) (.node (some (.slice 216 3 40)) (.leaf) (.leaf))) (.leaf))))))
theorem all:tt.all (AO prog):=(TT.mk nn (TT.mk (sm k_1) (TT.mk (sm k_3) (TT.mk (sm k_7) (TT.mk (sm k_15) (TT.mk nn (TT.mk nn (TT.mk (sm k_127) trivial trivial) (TT.mk (sm k_191) trivial trivial)) trivial) (TT.mk (sm k_47) (TT.mk nn (TT.mk (sm k_143) (TT.mk nn (TT.mk (sm k_527) trivial trivial) trivial) trivial) (TT.mk nn trivial (TT.mk (sm k_463) trivial trivial))) trivial)) (TT.mk (sm k_23) (TT.mk nn (TT.mk (sm k_71) (TT.mk nn (TT.mk (sm k_263) trivial trivial) trivial) trivial) (TT.mk nn trivial (TT.mk (sm k_231) trivial trivial))) (TT.mk nn (TT.mk (sm k_87) trivial trivial) (TT.mk nn trivial (TT.mk (sm k_247) trivial trivial))))) (TT.mk (sm k_11) (TT.mk nn (TT.mk nn (TT.mk nn (TT.mk (sm k_131) trivial (TT.mk (sm k_387) trivial trivial)) (TT.mk (sm k_195) trivial trivial)) (TT.mk nn trivial (TT.mk (sm k_227) trivial trivial))) (TT.mk nn (TT.mk (sm k_83) trivial trivial) (TT.mk nn (TT.mk nn (TT.mk (sm k_307) trivial trivial) trivial) trivial))) (TT.mk nn (TT.mk (sm k_43) (TT.mk nn (TT.mk nn (TT.mk nn (TT.mk (sm k_523) trivial trivial) trivial) trivial) trivial) (TT.mk (sm k_107) trivial trivial)) (TT.mk nn (TT.mk (sm k_91) trivial trivial) (TT.mk nn (TT.mk (sm k_187) trivial trivial) trivial))))) (TT.mk (sm k_5) (TT.mk (sm k_9) (TT.mk (sm k_17) (TT.mk nn (TT.mk nn (TT.mk (sm k_129) trivial trivial) trivial) (TT.mk (sm k_97) trivial (TT.mk (sm k_225) trivial trivial))) (TT.mk nn (TT.mk nn (TT.mk nn (TT.mk nn (TT.mk (sm k_529) trivial trivial) trivial) trivial) trivial) trivial)) (TT.mk (sm k_25) (TT.mk (sm k_41) (TT.mk (sm k_73) trivial trivial) trivial) (TT.mk nn trivial (TT.mk nn (TT.mk (sm k_185) trivial trivial) trivial)))) (TT.mk (sm k_13) (TT.mk (sm k_21) (TT.mk nn (TT.mk (sm k_69) (TT.mk nn (TT.mk nn (TT.mk (sm k_517) trivial trivial) trivial) trivial) (TT.mk (sm k_197) trivial trivial)) trivial) (TT.mk nn (TT.mk (sm k_85) (TT.mk (sm k_149) trivial trivial) trivial) trivial)) (TT.mk nn (TT.mk (sm k_45) (TT.mk nn (TT.mk nn (TT.mk nn (TT.mk (sm k_525) trivial trivial) trivial) trivial) trivial) (TT.mk (sm k_109) trivial trivial)) (TT.mk nn trivial (TT.mk nn (TT.mk (sm k_189) trivial trivial) trivial)))))) (TT.mk (sm k_2) (TT.mk (sm k_4) (TT.mk (sm k_8) (TT.mk (sm k_16) (TT.mk (sm k_32) (TT.mk nn (TT.mk nn trivial (TT.mk (sm k_384) trivial trivial)) trivial) (TT.mk nn trivial (TT.mk (sm k_224) trivial trivial))) (TT.mk nn (TT.mk (sm k_80) (TT.mk nn (TT.mk nn (TT.mk (sm k_528) trivial trivial) trivial) trivial) trivial) trivial)) (TT.mk nn (TT.mk (sm k_40) (TT.mk nn trivial (TT.mk (sm k_200) trivial trivial)) (TT.mk nn trivial (TT.mk (sm k_232) trivial trivial))) (TT.mk nn (TT.mk nn trivial (TT.mk (sm k_216) trivial trivial)) trivial))) (TT.mk (sm k_12) (TT.mk nn (TT.mk nn (TT.mk (sm k_68) (TT.mk (sm k_132) (TT.mk nn (TT.mk (sm k_516) trivial trivial) trivial) trivial) trivial) trivial) (TT.mk nn (TT.mk (sm k_84) (TT.mk nn (TT.mk nn (TT.mk (sm k_532) trivial trivial) trivial) trivial) trivial) (TT.mk nn (TT.mk nn (TT.mk (sm k_308) trivial trivial) trivial) trivial))) (TT.mk nn (TT.mk nn (TT.mk (sm k_76) trivial trivial) (TT.mk (sm k_108) (TT.mk (sm k_172) trivial trivial) trivial)) (TT.mk nn (TT.mk (sm k_92) trivial trivial) (TT.mk nn (TT.mk (sm k_188) trivial trivial) (TT.mk (sm k_252) trivial trivial)))))) (TT.mk (sm k_6) (TT.mk (sm k_10) (TT.mk nn (TT.mk (sm k_34) (TT.mk nn (TT.mk (sm k_130) (TT.mk nn (TT.mk (sm k_514) trivial trivial) trivial) trivial) (TT.mk (sm k_194) trivial trivial)) trivial) (TT.mk nn (TT.mk nn (TT.mk (sm k_146) (TT.mk nn (TT.mk (sm k_530) trivial trivial) trivial) trivial) trivial) (TT.mk (sm k_114) trivial trivial))) (TT.mk nn (TT.mk nn (TT.mk (sm k_74) (TT.mk nn (TT.mk nn (TT.mk (sm k_522) trivial trivial) trivial) trivial) (TT.mk (sm k_202) trivial trivial)) (TT.mk nn trivial (TT.mk (sm k_234) trivial trivial))) (TT.mk nn trivial (TT.mk (sm k_122) trivial trivial)))) (TT.mk (sm k_14) (TT.mk nn (TT.mk (sm k_38) (TT.mk nn (TT.mk (sm k_134) trivial trivial) trivial) trivial) (TT.mk nn trivial (TT.mk (sm k_118) trivial trivial))) (TT.mk nn (TT.mk nn (TT.mk nn (TT.mk nn (TT.mk nn (TT.mk (sm k_526) trivial trivial) trivial) trivial) trivial) trivial) (TT.mk nn (TT.mk (sm k_94) trivial (TT.mk (sm k_222) trivial trivial)) trivial))))))
theorem ok:TTok prog tt:=fun t i h=>TT.all_get all t i h
theorem en_7:enters prog 7=true:=by kernel_rfl
theorem en_8:enters prog 8=true:=by kernel_rfl
theorem en_10:enters prog 10=true:=by kernel_rfl
theorem en_12:enters prog 12=true:=by kernel_rfl
theorem en_13:enters prog 13=true:=by kernel_rfl
theorem en_14:enters prog 14=true:=by kernel_rfl
theorem en_15:enters prog 15=true:=by kernel_rfl
theorem en_16:enters prog 16=true:=by kernel_rfl
theorem en_17:enters prog 17=true:=by kernel_rfl
theorem en_22:enters prog 22=true:=by kernel_rfl
theorem en_23:enters prog 23=true:=by kernel_rfl
theorem en_24:enters prog 24=true:=by kernel_rfl
theorem en_25:enters prog 25=true:=by kernel_rfl
theorem en_27:enters prog 27=true:=by kernel_rfl
theorem en_28:enters prog 28=true:=by kernel_rfl
theorem en_31:enters prog 31=true:=by kernel_rfl
theorem en_33:enters prog 33=true:=by kernel_rfl
theorem en_34:enters prog 34=true:=by kernel_rfl
theorem en_35:enters prog 35=true:=by kernel_rfl
theorem en_36:enters prog 36=true:=by kernel_rfl
theorem en_37:enters prog 37=true:=by kernel_rfl
theorem en_38:enters prog 38=true:=by kernel_rfl
theorem en_39:enters prog 39=true:=by kernel_rfl
theorem en_40:enters prog 40=true:=by kernel_rfl
theorem en_41:enters prog 41=true:=by kernel_rfl
theorem en_42:enters prog 42=true:=by kernel_rfl
theorem en_43:enters prog 43=true:=by kernel_rfl
theorem en_50:enters prog 50=true:=by kernel_rfl
theorem en_53:enters prog 53=true:=by kernel_rfl
theorem en_77:enters prog 77=true:=by kernel_rfl
theorem en_78:enters prog 78=true:=by kernel_rfl
theorem en_79:enters prog 79=true:=by kernel_rfl
theorem en_80:enters prog 80=true:=by kernel_rfl
theorem en_81:enters prog 81=true:=by kernel_rfl
theorem en_82:enters prog 82=true:=by kernel_rfl
theorem en_83:enters prog 83=true:=by kernel_rfl
theorem en_84:enters prog 84=true:=by kernel_rfl
theorem en_85:enters prog 85=true:=by kernel_rfl
theorem en_86:enters prog 86=true:=by kernel_rfl
theorem en_96:enters prog 96=true:=by kernel_rfl
theorem en_134:enters prog 134=true:=by kernel_rfl
theorem en_137:enters prog 137=true:=by kernel_rfl
theorem en_138:enters prog 138=true:=by kernel_rfl
theorem en_139:enters prog 139=true:=by kernel_rfl
theorem en_140:enters prog 140=true:=by kernel_rfl
theorem en_141:enters prog 141=true:=by kernel_rfl
theorem en_142:enters prog 142=true:=by kernel_rfl
theorem en_219:enters prog 219=true:=by kernel_rfl
theorem en_222:enters prog 222=true:=by kernel_rfl
theorem mixed:prog.follows .mixedOrders=true:=by kernel_rfl
theorem fn {N:Nat}{f:FuncId}{fn:Func}{c:Code}{args:List D}{res:List C}{rs:List ResultVar}(fb:List Nat)(hf:prog.funcs[f]? = some fn)(hk:argsT 0 args .leaf fun t=>xcode prog tt N fb c t (fun _=>.junk) (finK prog tt rs res []))
 (hb:fn.body=some c:=by rfl) (hN:fn.ntmps=N:=by rfl) (hrs:fn.results.toList=rs:=by rfl) (hargs:args.length≤N:=by exact Nat.le_of_ble_eq_true rfl) (hNB:N≤BIG:=by exact Nat.le_of_ble_eq_true rfl):Bc prog f args res:=xfn ok fb hf hb hN hrs hargs hNB hk
theorem fnH {N:Nat}{f:FuncId}{fn:Func}{c:Code}{args:List D}{res:List C}{pre post:List (Nat×S)}{rs:List ResultVar}(fb:List Nat)(hf:prog.funcs[f]? = some fn)(hk:argsT 0 args .leaf fun t=>xcode prog tt N fb c t (hOf pre) (finK prog tt rs res post))
 (hbig:∀p∈pre,NAM≤p.1) (hp:∀p∈pre,thing p.2=true) (hq:∀p∈post,thing p.2=true) (hb:fn.body=some c:=by rfl) (hN:fn.ntmps=N:=by rfl) (hrs:fn.results.toList=rs:=by rfl) (hargs:args.length≤N:=by exact Nat.le_of_ble_eq_true rfl) (hNB:N≤BIG:=by exact Nat.le_of_ble_eq_true rfl):DK prog f args pre res post:=xfnH ok fb hf hb hN hrs hargs hNB hbig hp hq hk
end Go.Vm.T
end
section
namespace Go.Vm
open Go.RowKit Go.Proofs
set_option maxRecDepth 10000
theorem emp:ByteArray.empty=noB:=rfl
theorem scb {a b:Bool}(h:a=b):D.sc (.bool a)=D.sc (.bool b):=by rw [h]
theorem elem_at {α:Type}{l:List α}{k:Nat}(h:(k:Int)<(l.length:Int)):∃p,l[k]? = some p:=by
 have:k<l.length:=by omega
 exact ⟨_,List.getElem?_eq_getElem this⟩
theorem charAt {s:ByteArray}{k:Nat}(h:(k:Int)<(s.size:Int)):∃b,s[k]? = some b:=⟨s[k]'(by omega),by rw [getElem?_pos]⟩
theorem mapAt {α:Type}{f:α→D}{l:List α}{k:Nat}{x:α}(h:l[k]? = some x):(l.map f)[k]? = some (f x):=by
 rw [List.getElem?_map,h];rfl
theorem name_any (s:ByteArray):Bc Tryz.prog 140 [.sc (.string s)] [.d (.sc (.bool (nameB s)))]:=by
 refine T.fn [] Tryz.func140 ?_
 refine AA ?_
 refine br (fun hg1=>?y1) (fun hg1=>?n1)
 case' y1=>
  refine brT ?_
 case' n1=>
  refine AA ?_
  refine br (fun hc3=>?y3) (fun hc3=>?n3)
  case' n3=>
   have hlo:1≤s.size:=by omega
   have hhi:s.size≤12:=by omega
   refine AA ?_
   refine xloopR (fb:=[]) T.ok (Nat.le_of_ble_eq_true rfl) [0,15] (fun (k:Nat)=>[(16,.c (.d (.sc (.int .i64 (k:Nat)))))]) (fun k=>k≤s.size∧okTo s k∧1≤s.size∧s.size≤12) (fun k=>s.size-k) 0 ⟨Nat.zero_le _,okTo_zero s,hlo,hhi⟩ (Aq (by first | rfl | (simp only [Tr.get];simp;done)) trivial) ?_
   rintro k ⟨hk,hok,hlo,hhi⟩
   refine br (fun hc4=>?y4) (fun hc4=>?n4)
   case' y4=>
    obtain ⟨b,hb⟩:=charAt hc4
    first | refine x_ch (by exact hb) ?_ | refine x_chI (by exact hb) ?_
    refine br (fun hg5=>?y5) (fun hg5=>?n5)
    case' y5=>
     first | refine x_ch (by exact hb) ?_ | refine x_chI (by exact hb) ?_
     first | refine x_ch (by exact hb) ?_ | refine x_chI (by exact hb) ?_
     refine br (fun hg6=>?y6) (fun hg6=>?n6)
     case' y6=>
      first | refine x_ch (by exact hb) ?_ | refine x_chI (by exact hb) ?_
      refine br (fun hg7=>?y7) (fun hg7=>?n7)
      case' y7=>
       refine br (fun hg8=>?y8) (fun hg8=>?n8)
       case' y8=>
        refine brT ?_
       case' n8=>
        refine br (fun hc10=>?y10) (fun hc10=>?n10)
        case' n10=>
         first | refine x_inc ?_ | refine x_add ?_ | refine x_bin rfl rfl ?_
         refine CZ (k+1) ⟨char_lt hb,okTo_next hok hb (by (simp only [charB,decide_eq_true_eq,decide_eq_false_iff_not,Bool.not_eq_true',Bool.not_eq_false',Bool.and_eq_true,Bool.or_eq_true,Bool.or_eq_false_iff,Bool.and_eq_false_iff,beq_iff_eq,beq_eq_false_iff_ne,ne_eq,Bool.not_true,Bool.not_false,Bool.false_eq_true,Bool.true_eq_false] at *<;>omega)),hlo,hhi⟩ (by (try dsimp only);have:=char_lt hb;omega) rfl (Aq (by first | rfl | (simp only [Tr.get];simp;done)) trivial) (by first | rfl | (funext u;simp only [hdrop,hset,hpost,hOf];(repeat' split)<;>rfl))
      case' n7=>
       refine brF ?_
       first | refine x_inc ?_ | refine x_add ?_ | refine x_bin rfl rfl ?_
       refine CZ (k+1) ⟨char_lt hb,okTo_next hok hb (by (simp only [charB,decide_eq_true_eq,decide_eq_false_iff_not,Bool.not_eq_true',Bool.not_eq_false',Bool.and_eq_true,Bool.or_eq_true,Bool.or_eq_false_iff,Bool.and_eq_false_iff,beq_iff_eq,beq_eq_false_iff_ne,ne_eq,Bool.not_true,Bool.not_false,Bool.false_eq_true,Bool.true_eq_false] at *<;>omega)),hlo,hhi⟩ (by (try dsimp only);have:=char_lt hb;omega) rfl (Aq (by first | rfl | (simp only [Tr.get];simp;done)) trivial) (by first | rfl | (funext u;simp only [hdrop,hset,hpost,hOf];(repeat' split)<;>rfl))
     case' n6=>
      refine br (fun hg12=>?y12) (fun hg12=>?n12)
      case' y12=>
       refine brT ?_
       refine brT ?_
      case' n12=>
       refine brF ?_
       first | refine x_inc ?_ | refine x_add ?_ | refine x_bin rfl rfl ?_
       refine CZ (k+1) ⟨char_lt hb,okTo_next hok hb (by (simp only [charB,decide_eq_true_eq,decide_eq_false_iff_not,Bool.not_eq_true',Bool.not_eq_false',Bool.and_eq_true,Bool.or_eq_true,Bool.or_eq_false_iff,Bool.and_eq_false_iff,beq_iff_eq,beq_eq_false_iff_ne,ne_eq,Bool.not_true,Bool.not_false,Bool.false_eq_true,Bool.true_eq_false] at *<;>omega)),hlo,hhi⟩ (by (try dsimp only);have:=char_lt hb;omega) rfl (Aq (by first | rfl | (simp only [Tr.get];simp;done)) trivial) (by first | rfl | (funext u;simp only [hdrop,hset,hpost,hOf];(repeat' split)<;>rfl))
    case' n5=>
     first | refine x_ch (by exact hb) ?_ | refine x_chI (by exact hb) ?_
     refine br (fun hg16=>?y16) (fun hg16=>?n16)
     case' y16=>
      first | refine x_ch (by exact hb) ?_ | refine x_chI (by exact hb) ?_
      refine brT ?_
      refine br (fun hg18=>?y18) (fun hg18=>?n18)
      case' y18=>
       refine brT ?_
      case' n18=>
       refine br (fun hc20=>?y20) (fun hc20=>?n20)
       case' n20=>
        first | refine x_inc ?_ | refine x_add ?_ | refine x_bin rfl rfl ?_
        refine CZ (k+1) ⟨char_lt hb,okTo_next hok hb (by (simp only [charB,decide_eq_true_eq,decide_eq_false_iff_not,Bool.not_eq_true',Bool.not_eq_false',Bool.and_eq_true,Bool.or_eq_true,Bool.or_eq_false_iff,Bool.and_eq_false_iff,beq_iff_eq,beq_eq_false_iff_ne,ne_eq,Bool.not_true,Bool.not_false,Bool.false_eq_true,Bool.true_eq_false] at *<;>omega)),hlo,hhi⟩ (by (try dsimp only);have:=char_lt hb;omega) rfl (Aq (by first | rfl | (simp only [Tr.get];simp;done)) trivial) (by first | rfl | (funext u;simp only [hdrop,hset,hpost,hOf];(repeat' split)<;>rfl))
     case' n16=>
      refine brT ?_
      refine brT ?_
      refine brT ?_
 all_goals (refine x_ret ?_;simp only [BL,fits,C.asD,and_true]<;>(refine scb ?_;first | (refine (name_short ?_).symm;omega;done) | (refine (name_long ?_).symm;omega;done) | (refine (name_no (char_lt hb) hb ?_).symm;(simp only [charB,decide_eq_true_eq,decide_eq_false_iff_not,Bool.not_eq_true',Bool.not_eq_false',Bool.and_eq_true,Bool.or_eq_true,Bool.or_eq_false_iff,Bool.and_eq_false_iff,beq_iff_eq,beq_eq_false_iff_ne,ne_eq,Bool.not_true,Bool.not_false,Bool.false_eq_true,Bool.true_eq_false] at *<;>omega);done) | (refine (name_yes hlo hhi ?_ hok).symm;omega;done)))
theorem refName_any (s:ByteArray):Bc Tryz.prog 80 [.sc (.string s)] [.d (.sc (.bool (nameB s)))]:=by
 refine T.fn [] Tryz.func80 ?_
 refine AA ?_
 refine br (fun hg1=>?y1) (fun hg1=>?n1)
 case' y1=>
  refine brT ?_
 case' n1=>
  refine AA ?_
  refine br (fun hc3=>?y3) (fun hc3=>?n3)
  case' n3=>
   have hlo:1≤s.size:=by omega
   have hhi:s.size≤12:=by omega
   refine xloopR (fb:=[]) T.ok (Nat.le_of_ble_eq_true rfl) [0] (fun (k:Nat)=>[(3,.c (.d (.sc (.int .i64 (k:Nat)))))]) (fun k=>k≤s.size∧okTo s k∧1≤s.size∧s.size≤12) (fun k=>s.size-k) 0 ⟨Nat.zero_le _,okTo_zero s,hlo,hhi⟩ (Aq (by first | rfl | (simp only [Tr.get];simp;done)) trivial) ?_
   rintro k ⟨hk,hok,hlo,hhi⟩
   refine AA ?_
   refine br (fun hc4=>?y4) (fun hc4=>?n4)
   case' y4=>
    obtain ⟨b,hb⟩:=charAt hc4
    first | refine x_ch (by exact hb) ?_ | refine x_chI (by exact hb) ?_
    refine br (fun hg5=>?y5) (fun hg5=>?n5)
    case' y5=>
     first | refine x_ch (by exact hb) ?_ | refine x_chI (by exact hb) ?_
     first | refine x_ch (by exact hb) ?_ | refine x_chI (by exact hb) ?_
     refine br (fun hg6=>?y6) (fun hg6=>?n6)
     case' y6=>
      first | refine x_ch (by exact hb) ?_ | refine x_chI (by exact hb) ?_
      refine br (fun hg7=>?y7) (fun hg7=>?n7)
      case' y7=>
       refine br (fun hg8=>?y8) (fun hg8=>?n8)
       case' y8=>
        refine brT ?_
       case' n8=>
        refine br (fun hc10=>?y10) (fun hc10=>?n10)
        case' n10=>
         first | refine x_inc ?_ | refine x_add ?_ | refine x_bin rfl rfl ?_
         refine CZ (k+1) ⟨char_lt hb,okTo_next hok hb (by (simp only [charB,decide_eq_true_eq,decide_eq_false_iff_not,Bool.not_eq_true',Bool.not_eq_false',Bool.and_eq_true,Bool.or_eq_true,Bool.or_eq_false_iff,Bool.and_eq_false_iff,beq_iff_eq,beq_eq_false_iff_ne,ne_eq,Bool.not_true,Bool.not_false,Bool.false_eq_true,Bool.true_eq_false] at *<;>omega)),hlo,hhi⟩ (by (try dsimp only);have:=char_lt hb;omega) rfl (Aq (by first | rfl | (simp only [Tr.get];simp;done)) trivial) (by first | rfl | (funext u;simp only [hdrop,hset,hpost,hOf];(repeat' split)<;>rfl))
      case' n7=>
       refine brF ?_
       first | refine x_inc ?_ | refine x_add ?_ | refine x_bin rfl rfl ?_
       refine CZ (k+1) ⟨char_lt hb,okTo_next hok hb (by (simp only [charB,decide_eq_true_eq,decide_eq_false_iff_not,Bool.not_eq_true',Bool.not_eq_false',Bool.and_eq_true,Bool.or_eq_true,Bool.or_eq_false_iff,Bool.and_eq_false_iff,beq_iff_eq,beq_eq_false_iff_ne,ne_eq,Bool.not_true,Bool.not_false,Bool.false_eq_true,Bool.true_eq_false] at *<;>omega)),hlo,hhi⟩ (by (try dsimp only);have:=char_lt hb;omega) rfl (Aq (by first | rfl | (simp only [Tr.get];simp;done)) trivial) (by first | rfl | (funext u;simp only [hdrop,hset,hpost,hOf];(repeat' split)<;>rfl))
     case' n6=>
      refine br (fun hg12=>?y12) (fun hg12=>?n12)
      case' y12=>
       refine brT ?_
       refine brT ?_
      case' n12=>
       refine brF ?_
       first | refine x_inc ?_ | refine x_add ?_ | refine x_bin rfl rfl ?_
       refine CZ (k+1) ⟨char_lt hb,okTo_next hok hb (by (simp only [charB,decide_eq_true_eq,decide_eq_false_iff_not,Bool.not_eq_true',Bool.not_eq_false',Bool.and_eq_true,Bool.or_eq_true,Bool.or_eq_false_iff,Bool.and_eq_false_iff,beq_iff_eq,beq_eq_false_iff_ne,ne_eq,Bool.not_true,Bool.not_false,Bool.false_eq_true,Bool.true_eq_false] at *<;>omega)),hlo,hhi⟩ (by (try dsimp only);have:=char_lt hb;omega) rfl (Aq (by first | rfl | (simp only [Tr.get];simp;done)) trivial) (by first | rfl | (funext u;simp only [hdrop,hset,hpost,hOf];(repeat' split)<;>rfl))
    case' n5=>
     first | refine x_ch (by exact hb) ?_ | refine x_chI (by exact hb) ?_
     refine br (fun hg16=>?y16) (fun hg16=>?n16)
     case' y16=>
      first | refine x_ch (by exact hb) ?_ | refine x_chI (by exact hb) ?_
      refine brT ?_
      refine br (fun hg18=>?y18) (fun hg18=>?n18)
      case' y18=>
       refine brT ?_
      case' n18=>
       refine br (fun hc20=>?y20) (fun hc20=>?n20)
       case' n20=>
        first | refine x_inc ?_ | refine x_add ?_ | refine x_bin rfl rfl ?_
        refine CZ (k+1) ⟨char_lt hb,okTo_next hok hb (by (simp only [charB,decide_eq_true_eq,decide_eq_false_iff_not,Bool.not_eq_true',Bool.not_eq_false',Bool.and_eq_true,Bool.or_eq_true,Bool.or_eq_false_iff,Bool.and_eq_false_iff,beq_iff_eq,beq_eq_false_iff_ne,ne_eq,Bool.not_true,Bool.not_false,Bool.false_eq_true,Bool.true_eq_false] at *<;>omega)),hlo,hhi⟩ (by (try dsimp only);have:=char_lt hb;omega) rfl (Aq (by first | rfl | (simp only [Tr.get];simp;done)) trivial) (by first | rfl | (funext u;simp only [hdrop,hset,hpost,hOf];(repeat' split)<;>rfl))
     case' n16=>
      refine brT ?_
      refine brT ?_
      refine brT ?_
 all_goals (refine x_ret ?_;simp only [BL,fits,C.asD,and_true]<;>(refine scb ?_;first | (refine (name_short ?_).symm;omega;done) | (refine (name_long ?_).symm;omega;done) | (refine (name_no (char_lt hb) hb ?_).symm;(simp only [charB,decide_eq_true_eq,decide_eq_false_iff_not,Bool.not_eq_true',Bool.not_eq_false',Bool.and_eq_true,Bool.or_eq_true,Bool.or_eq_false_iff,Bool.and_eq_false_iff,beq_iff_eq,beq_eq_false_iff_ne,ne_eq,Bool.not_true,Bool.not_false,Bool.false_eq_true,Bool.true_eq_false] at *<;>omega);done) | (refine (name_yes hlo hhi ?_ hok).symm;omega;done)))
end Go.Vm
end
section
namespace Go.Vm
open Go.RowKit Go.Proofs
set_option maxRecDepth 10000
theorem CP (r:BA):Bc Tryz.prog 219 [rD r] [.d (.sc (.bool (BD r)))]:=by
 refine T.fn [] Tryz.func219 ?_
 refine br (fun hg1=>?y1) (fun hg1=>?n1)
 case' y1=>
  refine br (fun hc2=>?y2) (fun hc2=>?n2)
  case' n2=>
   refine AY T.en_140 (name_any _) ?_
   refine br (fun hg3=>?y3) (fun hg3=>?n3)
   case' y3=>
    refine br (fun hg4=>?y4) (fun hg4=>?n4)
    case' n4=>
     refine AY T.en_140 (name_any _) ?_
 case' n1=>
  refine brF ?_
  refine AY T.en_140 (name_any _) ?_
  refine br (fun hg6=>?y6) (fun hg6=>?n6)
  case' y6=>
   refine br (fun hg7=>?y7) (fun hg7=>?n7)
   case' n7=>
    refine AY T.en_140 (name_any _) ?_
 all_goals (refine x_ret ?_;simp only [BL,fits,C.asD,and_true]<;>(refine scb ?_;rcases (show r.scope=0∨r.scope=1∨(r.scope≠0∧r.scope≠1) by omega) with h | h | h<;>simp_all [BD,emp]<;>omega))
theorem refPlace_any (r:BA):Bc Tryz.prog 138 [rD r] [.d (.sc (.bool (BD r)))]:=by
 refine T.fn [] Tryz.func138 ?_
 refine br (fun hg1=>?y1) (fun hg1=>?n1)
 case' y1=>
  refine br (fun hg2=>?y2) (fun hg2=>?n2)
  case' y2=>
   refine AY T.en_80 (refName_any _) ?_
   refine br (fun hg3=>?y3) (fun hg3=>?n3)
   case' y3=>
    refine AA ?_
    refine br (fun hg4=>?y4) (fun hg4=>?n4)
    case' n4=>
     refine AY T.en_80 (refName_any _) ?_
  case' n2=>
   refine brF ?_
 case' n1=>
  refine brF ?_
  refine brF ?_
 all_goals (refine x_ret ?_;simp only [BL,fits,C.asD,and_true]<;>(refine scb ?_;rcases (show r.scope=0∨r.scope=1∨(r.scope≠0∧r.scope≠1) by omega) with h | h | h<;>simp_all [BD,emp]<;>omega))
end Go.Vm
end
section
namespace Go.Vm
open Go.RowKit Go.Proofs
set_option maxRecDepth 10000
end Go.Vm
end
section
namespace Go.Vm
open Go.RowKit Go.Proofs
set_option maxRecDepth 10000
theorem past_end {α:Type}{l:List α}{k:Nat}(h:¬(k:Int)<(l.length:Int)):l.length≤k:=by omega
theorem lt_len {α:Type}{l:List α}{k:Nat}{p:α}(hp:l[k]? = some p):k<l.length:=(List.getElem?_eq_some_iff.1 hp).1
theorem take_eq_next {α:Type}{l m:List α}{p q:α}{k:Nat}(hp:l[k]? = some p)(hq:m[k]? = some q)(h:l.take k=m.take k)(hn:p=q):l.take (k+1)=m.take (k+1):=by
 rw [List.take_add_one,List.take_add_one,hp,hq,h,hn]
theorem take_eq_end {α:Type}{l m:List α}{k:Nat}(hl:l.length=m.length)(hk:l.length≤k)(h:l.take k=m.take k):l=m:=by
 rwa [List.take_of_length_le hk,List.take_of_length_le (by omega)] at h
theorem elem_too {α β:Type}{l:List α}{m:List β}{k:Nat}{p:α}(hp:l[k]? = some p)(hl:l.length=m.length):∃q,m[k]? = some q:=⟨_,List.getElem?_eq_getElem (by have:=lt_len hp;omega)⟩
theorem refSames_any (l m:List ByteArray)(hl:l.length≤1000000):Bc Tryz.prog 12 [.row (l.map strD),.row (m.map strD)] [.d (.sc (.bool (decide (l=m))))]:=by
 refine T.fn [] Tryz.func12 ?_
 refine AA ?_
 refine AA ?_
 refine br (fun hc1=>?y1) (fun hc1=>?n1)
 case' n1=>
  have hlen:l.length=m.length:=by omega
  refine xloopR (fb:=[]) T.ok (Nat.le_of_ble_eq_true rfl) [0,1] (fun (k:Nat)=>[(5,.c (.d (.sc (.int .i64 (k:Nat)))))]) (fun k=>k≤l.length∧l.take k=m.take k) (fun k=>l.length-k) 0 ⟨Nat.zero_le _,rfl⟩ (Aq (by first | rfl | (simp only [Tr.get];simp;done)) trivial) ?_
  rintro k ⟨hk,hi⟩
  refine AA ?_
  refine br (fun hc2=>?y2) (fun hc2=>?n2)
  case' y2=>
   obtain ⟨p,hp⟩:=elem_at hc2
   obtain ⟨q,hq⟩:=elem_too hp hlen
   refine And.intro ⟨T.mixed,by decide +kernel⟩ ?_
   first | refine x_ix (by first | exact mapAt hp | exact mapAt hq) ?_ | refine Ag (by first | exact mapAt hp | exact mapAt hq) ?_
   first | refine x_ix (by first | exact mapAt hp | exact mapAt hq) ?_ | refine Ag (by first | exact mapAt hp | exact mapAt hq) ?_
   refine br (fun hc3=>?y3) (fun hc3=>?n3)
   case' n3=>
    first | refine x_inc ?_ | refine x_add ?_ | refine x_bin rfl rfl ?_
    refine CZ (k+1) ⟨lt_len hp,take_eq_next hp hq hi (by simp_all)⟩ (by (try dsimp only);have:=lt_len hp;omega) rfl (Aq (by first | rfl | (simp only [Tr.get];simp;done)) trivial) (by first | rfl | (funext u;simp only [hdrop,hset,hpost,hOf];(repeat' split)<;>rfl))
 all_goals (refine x_ret ?_;simp only [BL,fits,C.asD,and_true]<;>(refine scb ?_;first | exact (decide_eq_false (fun e=>by simp_all)).symm | exact (decide_eq_false (ne_at hp hq (fun e=>by simp_all))).symm | exact (decide_eq_true (take_eq_end hlen (past_end (by assumption)) hi)).symm))
end Go.Vm
end
section
namespace Go.Vm
open Go.RowKit Go.Proofs
set_option maxRecDepth 10000
end Go.Vm
end
section
namespace Go.Vm
def okSk (l:List Az)(k:Nat):Bool:=(List.range k).all fun j=>match l[j]? with
 | some f=>rightF f&&(match l[j-1]? with | some g=>decide (j=0)||lessB g.at_ f.at_ | none=>true)
 | none=>true
def rightS (l:List Az):Bool:=decide (l.length≤16)&&okSk l l.length
def indexS (l:List Az)(r:BA):Int:=if (l.findIdx fun f=>decide (f.at_=r))<l.length then ((l.findIdx fun f=>decide (f.at_=r):Nat):Int) else -1
def fieldAt (l:List Az)(r:BA):Az:=match l[(indexS l r).toNat]? with
 | some f=>f
 | none=>noField
def insF (l:List Az)(f:Az):List Az:=(l.takeWhile fun g=>lessB g.at_ f.at_)++f::(l.dropWhile fun g=>lessB g.at_ f.at_)
def withS (l:List Az)(f:Az):List Az×Int:=
 if (rightS l&&rightF f)=false then ([],5) else if 0≤indexS l f.at_ then ([],7) else if 16≤l.length then ([],14) else (insF l f,0)
def delF (l:List Az)(r:BA):List Az:=l.filter fun f=>!decide (f.at_=r)
end Go.Vm
end
section
namespace Go.Vm
def caseT (t:List (ByteArray×ByteArray))(s:ByteArray):ByteArray×Bool:=match t.find? fun p=>decide (p.1=s) with
 | some p=>(p.2,true)
 | none=>(noB,false)
def froms (t:List (ByteArray×ByteArray)):List ByteArray:=t.map (·.1)
def okT (t o:List (ByteArray×ByteArray))(k:Nat):Bool:=(List.range k).all fun j=>match t[j]? with
 | some p=>nameB p.1 && !decide (p.1∈froms (t.take j))&&decide (p.2∈froms o)
 | none=>true
def rightT (t o:List (ByteArray×ByteArray)):Bool:=decide (1≤t.length)&&decide (t.length≤6)&&okT t o t.length
def rightL (x:AP):Bool:=
 if x.kind=2∨x.kind=3 then decide (x.at_=Ac)&&decide (x.name=noB)&&decide (x.other=noB)&&decide (x.factor=0)&&decide (x.forth.length=0)&&decide (x.back.length=0)&&rightF x.field
 else BD x.at_&&decide (x.field=noField) &&
  (if x.kind=8 then decide (x.factor=0)&&rightT x.forth x.back&&rightT x.back x.forth&&decide (caseT x.forth x.name=(x.other,true))&&decide (caseT x.back x.other=(x.name,true))
    else decide (x.forth.length=0)&&decide (x.back.length=0) &&
     (if x.kind=6∨x.kind=9 then nameB x.name&&nameB x.other && !decide (x.name=x.other)&&decide (2≤x.factor)&&decide (x.factor≤1000)
       else decide (x.factor=0) &&
        (if x.kind=7∨x.kind=10 then decide (x.name=noB)&&decide (x.other.size≤40)
          else decide (x.other=noB)&&(if x.kind=1 then nameB x.name else if x.kind=4 then decide (x.name=noB) && !decide (x.at_.group=noB) else if x.kind=5 then decide (x.at_.group=noB)&&nameB x.name else false))))
def named (r:BA)(s:ByteArray):BA:=⟨r.scope,r.group,s⟩
def goesL (x:AP):List BA:=if x.kind=2 then [] else if x.kind=3 then [x.field.at_] else if x.kind=9 then [named x.at_ x.name,named x.at_ x.other] else [x.at_]
def comesL (x:AP):List BA:=if x.kind=2 then [x.field.at_] else if x.kind=3 then [] else if x.kind=6 then [named x.at_ x.name,named x.at_ x.other] else if x.kind=1 then [named x.at_ x.name]
 else if x.kind=4 then [⟨x.at_.scope,noB,x.at_.name⟩] else if x.kind=5 then [⟨x.at_.scope,x.name,x.at_.name⟩] else [x.at_]
def newsL (l:List Az)(x:AP):Option (List Az):=
 if x.kind=2 then some [x.field]
 else if x.kind=3 then (if fieldAt l x.field.at_=x.field then some [] else none)
 else if x.kind=9 then (if (fieldAt l (named x.at_ x.name)).kind=1∧(fieldAt l (named x.at_ x.other)).kind=1∧(fieldAt l (named x.at_ x.other)).worth=(fieldAt l (named x.at_ x.name)).worth*x.factor then some [⟨x.at_,1,noB,[],(fieldAt l (named x.at_ x.name)).worth⟩] else none)
 else if x.kind=6 then (if (fieldAt l x.at_).kind=1 then some [⟨named x.at_ x.name,1,noB,[],(fieldAt l x.at_).worth⟩,⟨named x.at_ x.other,1,noB,[],(fieldAt l x.at_).worth*x.factor⟩] else none)
 else if x.kind=7 then (if (fieldAt l x.at_).kind=2∧(fieldAt l x.at_).deft=x.other then some [⟨x.at_,4,noB,[],0⟩] else none)
 else if x.kind=10 then (if (fieldAt l x.at_).kind=4 then some [⟨x.at_,2,x.other,[],0⟩] else none)
 else if x.kind=8 then (if fieldAt l x.at_=⟨x.at_,3,x.name,froms x.forth,0⟩ then some [⟨x.at_,3,x.other,froms x.back,0⟩] else none)
 else some (match comesL x with | []=>[] | c::_=>[⟨c,(fieldAt l x.at_).kind,(fieldAt l x.at_).deft,(fieldAt l x.at_).cases,(fieldAt l x.at_).worth⟩])
def withAll:List Az→List Az→List Az×Int
 | l,[]=>(l,0)
 | l,f::fs=>if (withS l f).2=0 then withAll (withS l f).1 fs else ([],16)
def delAll (l:List Az)(rs:List BA):List Az:=rs.foldl delF l
def applyS (l:List Az)(x:AP):List Az×Int:=
 if (rightS l&&rightL x)=false then ([],5)
 else if (goesL x).any (fun g=>decide (indexS l g<0)) then ([],16)
 else match newsL l x with
  | none=>([],16)
  | some fs=>withAll (delAll l (goesL x)) fs
end Go.Vm
end
section
namespace Go.Vm
open Go.RowKit Go.Proofs
set_option maxRecDepth 10000
end Go.Vm
end
section
namespace Go.Vm
open Go.RowKit Go.Proofs
set_option maxRecDepth 10000
end Go.Vm
end
section
namespace Go.Vm
open Go.RowKit Go.Proofs
set_option maxRecDepth 10000
end Go.Vm
end
section
namespace Go.Vm
open Go.RowKit Go.Proofs
set_option maxRecDepth 10000
end Go.Vm
end
section
namespace Go.Vm
end Go.Vm
end
section
namespace Go.Vm
def okX (x:AP):Prop:=x.field.cases.length≤1000000∧x.forth.length≤1000∧x.back.length≤1000
end Go.Vm
end
section
namespace Go.Vm
open Go.RowKit Go.Proofs
set_option maxRecDepth 10000
theorem take_length {α:Type}{l:List α}{k:Nat}(h:k<l.length):(l.take k).length=k:=by rw [List.length_take];omega
end Go.Vm
end
section
namespace Go.Vm
open Go.RowKit Go.Proofs
set_option maxRecDepth 10000
end Go.Vm
end
section
namespace Go.Vm
open Go.RowKit Go.Proofs
set_option maxRecDepth 10000
end Go.Vm
end
section
namespace Go.Vm
open Go.RowKit Go.Proofs
set_option maxRecDepth 10000
end Go.Vm
end
section
namespace Go.Vm
open Go.RowKit Go.Proofs
set_option maxRecDepth 10000
end Go.Vm
end
section
namespace Go.Vm
open Go.RowKit Go.Proofs
set_option maxRecDepth 10000
end Go.Vm
end
section
namespace Go.Vm
open Go.RowKit Go.Proofs
set_option maxRecDepth 10000
end Go.Vm
end
section
namespace Go.Vm
open Go.RowKit Go.Proofs
set_option maxRecDepth 10000
end Go.Vm
end
section
namespace Go.Vm
open Go.RowKit Go.Proofs
set_option maxRecDepth 10000
end Go.Vm
end
section
namespace Go.Vm
open Go.RowKit
section
variable {P:Program} {N:Nat} {t:Tr} {h:Hp} {o:Oper}
theorem at_free {id:Nat}(hb:NAM≤id)(hm:h id=.free):Af t h id=.free:=by rw [envT_at hb,hm];rfl
theorem x_newbox {T:TypeId}{x:Nat}{d:Nat}{r:D}{cs:List D}{K:S→Hp→Prop}(n:Nat)(hK:K (.c (.d (.ptr n 0))) (hset h n (.obj cs)))(hm:NAM≤n∧h n=.free)(hc:r.cells=cs:=by rfl)(hop:o.op=.box T (.tmp x):=by rfl)(hx:vd (Af t h) (.tmp x)=some r:=by rfl)(hd:o.dst=some d:=by rfl)(hdN:d<N:=by exact Nat.le_of_ble_eq_true rfl)(hNB:N≤BIG:=by exact Nat.le_of_ble_eq_true rfl) :
 ∃(s:S) (h':Hp),Step P N o (Af t h) (upd (Af t h') (some d) s)∧K s h':=by
 subst hc
 refine ⟨_,_,?_,hK⟩
 unfold hset
 rw [envT_name hm.1]
 exact s_new_box hop hx (at_free hm.1 hm.2) hd hdN (by have:=namb hm.1;omega)
def hpost (h:Hp):List (Nat×S)→Hp
 | []=>h
 | (n,s)::l=>hset (hpost h l) n s
theorem hpost_find:∀(l:List (Nat×S)) (h:Hp) (u:Nat),hpost h l u=match l.find? fun p=>p.1==u with | some p=>p.2 | none=>h u
 | [],h,u=>rfl
 | (n,s)::l,h,u=>by
  simp only [hpost,hset,List.find?_cons]
  by_cases e:u=n
  ·subst e;simp
  ·have:(n==u)=false:=by simpa using fun h=>e h.symm
   simp only [if_neg e,this];exact hpost_find l h u
def preOk (h:Hp):List (Nat×S)→Prop
 | []=>True
 | (n,s)::l=>(NAM≤n∧h n=s)∧preOk h l
theorem preOk_spec:∀{pre:List (Nat×S)},preOk h pre→∀p∈pre,NAM≤p.1∧h p.1=p.2
 | [],_,p,hp=>by cases hp
 | (n,s)::l,⟨h1,h2⟩,p,hp=>by
  rcases List.mem_cons.1 hp with rfl | hp
  ·exact h1
  ·exact preOk_spec h2 p hp
theorem setH_env {pre post:List (Nat×S)}(hpre:preOk h pre)(hq:∀p∈post,live p.2=true∧BJ pre p.1=true)(hall:∀p∈pre,BJ post p.1=true):setH pre post (Af t h)=Af t (hpost h post):=by
 have hp:=preOk_spec hpre
 have hbig:∀p∈post,NAM≤p.1:=fun p hm=>by
  obtain ⟨s,hs⟩:=nameIn_mem (hq p hm).2
  exact (hp _ hs).1
 funext u
 unfold setH
 by_cases hu:u<NAM
 ·have h1:(post.find? fun p=>p.1==u)=none:=by
   rw [List.find?_eq_none];intro p hm;have:=hbig p hm;simp only [beq_iff_eq];omega
  have h2:BJ pre u=false:=by
   unfold BJ
   rw [List.any_eq_false]
   intro p hm;have:=(hp p hm).1;simp only [beq_iff_eq];omega
  rw [h1,h2,BV hu,BV hu];rfl
 ·have hge:NAM≤u:=by omega
  have e2:Af t (hpost h post) u=nameS (hpost h post u):=envT_at hge
  rw [e2,hpost_find]
  cases hf:post.find? fun p=>p.1==u with
  | some p=>
   have hl:=(hq p (List.mem_of_find?_eq_some hf)).1
   simp only
   cases hs:p.2<;>rw [hs] at hl<;>first | rfl | cases hl
  | none=>
   simp only
   have h2:BJ pre u=false:=by
    cases h3:BJ pre u with
    | false=>rfl
    | true=>
     obtain ⟨s,hs⟩:=nameIn_mem h3
     have h4:=hall _ hs
     obtain ⟨s',hs'⟩:=nameIn_mem h4
     have:=List.find?_eq_none.1 hf _ hs'
     simp at this
   rw [h2,envT_at hge];rfl
theorem pre_env {pre:List (Nat×S)}(hpre:preOk h pre)(hl:∀p∈pre,live p.2=true∨p.2=.free):∀p∈pre,Af t h p.1=p.2∧(live p.2=true∨p.2=.free):=by
 intro p hm
 refine ⟨?_,hl p hm⟩
 obtain ⟨h1,h2⟩:=preOk_spec hpre p hm
 rw [envT_at h1,h2]
 rcases hl p hm with h3 | h3
 ·cases hs:p.2<;>rw [hs] at h3<;>first | rfl | cases h3
 ·rw [h3];rfl
theorem post_big {pre post:List (Nat×S)}(hpre:preOk h pre)(hq:∀p∈post,live p.2=true∧BJ pre p.1=true):∀p∈post,live p.2=true∧BJ pre p.1=true∧BIG≤p.1:=fun p hm=>by
 obtain ⟨s,hs⟩:=nameIn_mem (hq p hm).2
 exact ⟨(hq p hm).1,(hq p hm).2,namb (preOk_spec hpre _ hs).1⟩
theorem Bq {f:FuncId}{xs:Array Operand}{ts:Array TypeId}{ds:List D}{res:List C}{d:Nat}{pre post:List (Nat×S)}{K:S→Hp→Prop}(he:enters P f=true)(hc:DK P f ds pre res post)(hK:K (resS (res.map (DN d))) (hpost h post))(hpre:preOk h pre)
 (hl:∀p∈pre,live p.2=true∨p.2=.free:=by simp [live]) (hq:∀p∈post,live p.2=true∧BJ pre p.1=true:=by simp [live,BJ]) (hall:∀p∈pre,BJ post p.1=true:=by simp [BJ])
 (hop:o.op=.call { callee:=.value (.func f),args:=xs,argTypes:=ts }:=by rfl) (hx:vargs (Af t h) xs.toList=some ds:=by rfl) (hd:o.dst=some d:=by rfl) (hdN:d<N:=by exact Nat.le_of_ble_eq_true rfl) (hNB:N≤BIG:=by exact Nat.le_of_ble_eq_true rfl) :
 ∃(s:S) (h':Hp),Step P N o (Af t h) (upd (Af t h') (some d) s)∧K s h':=by
 refine ⟨_,_,?_,hK⟩
 have:=s_callH (N:=N) (env:=Af t h) hop he hx hc (pre_env hpre hl) (post_big hpre hq) hd hdN hNB
 rwa [setH_env hpre hq hall] at this
theorem hset_self {h:Hp}{n:Nat}{s:S}(e:h n=s):hset h n s=h:=by
 funext u;simp only [hset];split
 ·rename_i e2;rw [e2,e]
 ·rfl
theorem hpost_self:∀{pre:List (Nat×S)},preOk h pre→hpost h pre=h
 | [],_=>rfl
 | (n,s)::l,hp=>by
  simp only [hpost]
  rw [hpost_self hp.2]
  exact hset_self hp.1.2
theorem x_callR {f:FuncId}{xs:Array Operand}{ts:Array TypeId}{ds:List D}{res:List C}{d:Nat}{pre:List (Nat×S)}{K:S→Hp→Prop}(he:enters P f=true)(hc:DK P f ds pre res pre)(hK:K (resS (res.map (DN d))) h)(hpre:preOk h pre)
 (hl:∀p∈pre,live p.2=true:=by simp [live])
 (hop:o.op=.call { callee:=.value (.func f),args:=xs,argTypes:=ts }:=by rfl) (hx:vargs (Af t h) xs.toList=some ds:=by rfl) (hd:o.dst=some d:=by rfl) (hdN:d<N:=by exact Nat.le_of_ble_eq_true rfl) (hNB:N≤BIG:=by exact Nat.le_of_ble_eq_true rfl) :
 ∃(s:S) (h':Hp),Step P N o (Af t h) (upd (Af t h') (some d) s)∧K s h':=by
 have hin:∀p∈pre,BJ pre p.1=true:=fun p hp=>List.any_eq_true.2 ⟨p,hp,by simp⟩
 exact Bq he hc (by rw [hpost_self hpre];exact hK) hpre (fun p hp=>.inl (hl p hp)) (fun p hp=>⟨hl p hp,hin p hp⟩) hin hop hx hd hdN hNB
end
end Go.Vm
end
section
namespace Go.Vm
open Go.RowKit
structure TagD where
 r:Int
 n:Int
 deriving DecidableEq
def AU:TagD:=⟨0,0⟩
structure EdgeD where
 id:TagD
 parent:TagD
 lens:AP
 deriving DecidableEq
structure NodeD where
 edge:EdgeD
 state:Int
 schema:List Az
 depth:Int
 deriving DecidableEq
def tD (t:TagD):D:=.agg [.sc (.int .i64 t.r),.sc (.int .i64 t.n)]
def lensC (x:AP):List D:=[.sc (.int .i64 x.kind),.sc (.int .i64 x.at_.scope),.sc (.string x.at_.group),.sc (.string x.at_.name),.sc (.string x.name),.sc (.string x.other),.sc (.int .i64 x.factor),
 .sc (.int .i64 x.field.at_.scope),.sc (.string x.field.at_.group),.sc (.string x.field.at_.name),.sc (.int .i64 x.field.kind),.sc (.string x.field.deft),.row (x.field.cases.map strD),.sc (.int .i64 x.field.worth),.row (x.forth.map pairD),.row (x.back.map pairD)]
def noEdge:EdgeD:=⟨AU,AU,noLens⟩
def noNode:NodeD:=⟨noEdge,0,[],0⟩
def findT {β:Type}(k:TagD):List (TagD×β)→Option β
 | []=>none
 | p::l=>if k=p.1 then some p.2 else findT k l
def rootS:List Az:=[⟨⟨0,noB,⟨#[99,111,117,112,111,110]⟩⟩,2,noB,[],0⟩,⟨⟨1,noB,⟨#[110,111,116,101]⟩⟩,2,noB,[],0⟩,⟨⟨1,noB,⟨#[113,116,121]⟩⟩,1,noB,[],1⟩,⟨⟨1,noB,⟨#[115,105,122,101]⟩⟩,3,⟨#[109,101,100,105,117,109]⟩,[⟨#[115,109,97,108,108]⟩,⟨#[109,101,100,105,117,109]⟩,⟨#[108,97,114,103,101]⟩],0⟩,⟨⟨1,noB,⟨#[116,97,103,115]⟩⟩,4,noB,[],0⟩]
def edgeOf (E:List EdgeD)(id:TagD):Option EdgeD:=E.find? fun e=>decide (e.id=id)
def stepC (r:Int×List Az×Int)(x:AP):Int×List Az×Int:=
 if r.1=2 then (if (applyS r.2.1 x).2=0 then (2,(applyS r.2.1 x).1,r.2.2+1) else (3,[],0)) else if r.1=3 then (3,[],0) else (1,[],0)
def comes:Nat→List EdgeD→TagD→Int×List Az×Int
 | 0,_,_=>(1,[],0)
 | n+1,E,id=>if id=AU then (2,rootS,0) else match edgeOf E id with
  | none=>(0,[],0)
  | some e=>stepC (comes n E e.parent) e.lens
def pend (e:EdgeD):NodeD:=⟨e,1,[],0⟩
def nodeOf (E:List EdgeD)(e:EdgeD):NodeD:=let r:=comes (E.length+1) E e.id;⟨e,r.1,r.2.1,r.2.2⟩
def atT (l:List (TagD×NodeD))(id:TagD):NodeD:=if id=AU then ⟨noEdge,2,rootS,0⟩ else (findT id l).getD noNode
theorem at_root {l:List (TagD×NodeD)}{id:TagD}(h:id=AU):atT l id=⟨noEdge,2,rootS,0⟩:=if_pos h
theorem at_other {l:List (TagD×NodeD)}{id:TagD}(h:¬id=AU):atT l id=(findT id l).getD noNode:=if_neg h
end Go.Vm
end
section
namespace Go.Vm
open Go.RowKit
structure OpD where
 id:TagD
 schema:TagD
 time:Int
 cart:ByteArray
 kind:Int
 item:ByteArray
 at_:BA
 delta:Int
 has:Bool
 text:ByteArray
 drops:List TagD
 deriving DecidableEq
structure VecD where
 v1:Int
 v2:Int
 v3:Int
 v4:Int
 v5:Int
 v6:Int
 deriving DecidableEq
structure NoteD where
 kind:Int
 who:Int
 format:Int
 have_:VecD
 tags:List TagD
 edges:List EdgeD
 ops:List OpD
 deriving DecidableEq
structure AV where
 kind:Int
 cart:ByteArray
 item:ByteArray
 at_:BA
 n:Int
 text:ByteArray
 tag:TagD
 lens:AP
 deriving DecidableEq
def deedC (d:AV):List D:=.sc (.int .i64 d.kind) :: .sc (.string d.cart) :: .sc (.string d.item) :: .sc (.int .i64 d.at_.scope) :: .sc (.string d.at_.group) :: .sc (.string d.at_.name) :: .sc (.int .i64 d.n) :: .sc (.string d.text) :: .sc (.int .i64 d.tag.r) :: .sc (.int .i64 d.tag.n)::lensC d.lens
def deedD (d:AV):D:=.agg (deedC d)
end Go.Vm
end
section
namespace Go.Vm
abbrev Came:=Int×List Az×Int
theorem comes_root {n:Nat}{E:List EdgeD}:comes (n+1) E AU=(2,rootS,0):=by simp [comes]
def cameOf (E:List EdgeD)(id:TagD):Came:=comes (E.length+1) E id
theorem came_root {E:List EdgeD}:cameOf E AU=(2,rootS,0):=comes_root
structure Good (E:List EdgeD):Prop where
 ok:∀e∈E,okX e.lens
 tag:∀e∈E,¬e.id=AU
 uniq:E.Pairwise fun a b=>¬a.id=b.id
structure Half (E:List EdgeD) (l:List (TagD×NodeD)):Prop where
 edges:l.map (fun p=>p.2.edge)=E
 each:∀p∈l,p.1=p.2.edge.id∧(p.2=nodeOf E p.2.edge∨p.2=pend p.2.edge)
theorem findT_mem {β:Type}{k:TagD}:∀{l:List (TagD×β)} {n:β},findT k l=some n→(k,n)∈l
 | [],n,h=>by cases h
 | p::l,n,h=>by
  unfold findT at h
  split at h
  ·rename_i e;injection h with h;subst h e;exact List.mem_cons_self ..
  ·exact List.mem_cons_of_mem _ (findT_mem h)
theorem edge_find {l:List (TagD×NodeD)}{k:TagD}:(∀p∈l,p.1=p.2.edge.id)→edgeOf (l.map fun p=>p.2.edge) k=(findT k l).map (·.edge):=by
 induction l with
 | nil=>intro _;rfl
 | cons p l ih=>
  intro h
  have hp:=h p (List.mem_cons_self ..)
  unfold edgeOf findT
  simp only [List.map_cons]
  by_cases e:k=p.1
  ·rw [if_pos e,List.find?_cons_of_pos (by simp [e,hp])];rfl
  ·rw [if_neg e,List.find?_cons_of_neg (by simp only [decide_eq_true_eq];intro e2;exact e (by rw [hp,e2]))]
   exact ih fun q hq=>h q (List.mem_cons_of_mem _ hq)
theorem Half.edge {E:List EdgeD}{l:List (TagD×NodeD)}(h:Half E l)(k:TagD):edgeOf E k=(findT k l).map (·.edge):=by
 have:=edge_find (k:=k) fun p hp=>(h.each p hp).1
 rwa [h.edges] at this
theorem Half.at {E:List EdgeD}{l:List (TagD×NodeD)}(h:Half E l){id:TagD}(hs:(atT l id).state=2∨(atT l id).state=3):(atT l id).state=(cameOf E id).1∧(atT l id).schema=(cameOf E id).2.1∧(atT l id).depth=(cameOf E id).2.2:=by
 by_cases h0:id=AU
 ·subst h0;rw [at_root rfl,came_root];exact ⟨rfl,rfl,rfl⟩
 ·rw [at_other h0] at hs ⊢
  cases hf:findT id l with
  | none=>rw [hf] at hs;simp [noNode] at hs
  | some n=>
   rw [hf] at hs
   simp only [Option.getD_some] at hs ⊢
   obtain ⟨h1,h2⟩:=h.each _ (findT_mem hf)
   simp only at h1 h2
   rcases h2 with h2 | h2
   ·rw [h2,h1];exact ⟨rfl,rfl,rfl⟩
   ·rw [h2] at hs;simp [pend] at hs
theorem Half.uniq {E:List EdgeD}{l:List (TagD×NodeD)}(hg:Good E)(h:Half E l){i j:Nat}{p q:TagD×NodeD}(hp:l[i]? = some p)(hq:l[j]? = some q)(hlt:i<j):¬p.1=q.1:=by
 have h1:E[i]? = some p.2.edge:=by rw [←h.edges,List.getElem?_map,hp];rfl
 have h2:E[j]? = some q.2.edge:=by rw [←h.edges,List.getElem?_map,hq];rfl
 obtain ⟨hi,e1⟩:=List.getElem?_eq_some_iff.1 h1
 obtain ⟨hj,e2⟩:=List.getElem?_eq_some_iff.1 h2
 have:=(List.pairwise_iff_getElem.1 hg.uniq) i j hi hj hlt
 rw [e1,e2] at this
 rw [(h.each p (List.mem_of_getElem? hp)).1,(h.each q (List.mem_of_getElem? hq)).1]
 exact this
section
variable {E:List EdgeD} {l:List (TagD×NodeD)} {e:EdgeD} {n:NodeD}
end
section
variable {E:List EdgeD} {e f:EdgeD}
end
end Go.Vm
end
section
namespace Go.Vm
end Go.Vm
end
section
namespace Go.Vm
end Go.Vm
end
section
namespace Go.Vm
open Go.RowKit
def udropK (id:Nat):List D→(List D→Prop)→Prop
 | [],K=>K []
 | .rr a b c::l,K=>match Nat.beq a id with
  | true=>udropK id l fun l'=>K (.stale::l')
  | false=>udropK id l fun l'=>K (.rr a b c::l')
 | x::l,K=>udropK id l fun l'=>K (x::l')
theorem udropK_spec {id:Nat}:∀{l:List D} {K:List D→Prop},udropK id l K→K (l.map (dropC id))
 | [],K,h=>h
 | d::l,K,h=>by
  cases d with
  | rr a b c=>
   simp only [udropK] at h
   split at h
   ·rename_i hb
    have:=udropK_spec (K:=fun l'=>K (.stale::l')) h
    simp only [List.map_cons,dropC,if_pos (Nat.eq_of_beq_eq_true hb)];exact this
   ·rename_i hb
    have:=udropK_spec (K:=fun l'=>K (.rr a b c::l')) h
    have hne:¬a=id:=fun e=>by rw [e,Nat.beq_refl] at hb;cases hb
    simp only [List.map_cons,dropC,if_neg hne];exact this
  | _=>exact udropK_spec (K:=fun l'=>K (_::l')) h
def dropGK (id:Nat)(s:S)(K:S→Prop):Prop:=match s with
 | .sref u sz n=>match Nat.beq u id with
  | true=>K .junk
  | false=>K (.sref u sz n)
 | .gref u sz n=>match Nat.beq u id with
  | true=>K .junk
  | false=>K (.gref u sz n)
 | .ref u off=>match Nat.beq u id with
  | true=>K .junk
  | false=>K (.ref u off)
 | .ubox cs=>udropK id cs fun cs'=>K (.ubox cs')
 | .uagg cs=>udropK id cs fun cs'=>K (.uagg cs')
 | .uobj cs=>udropK id cs fun cs'=>K (.uobj cs')
 | s=>sK s K
theorem dropGK_spec {id:Nat}(s:S)(K:S→Prop)(h:dropGK id s K):K (CS id s):=by
 cases s with
 | sref u sz n=>
  simp only [dropGK] at h
  show K (if u=id then .junk else .sref u sz n)
  split at h
  ·rename_i hb;rw [if_pos (Nat.eq_of_beq_eq_true hb)];exact h
  ·rename_i hb;rw [if_neg (fun e=>by rw [e,Nat.beq_refl] at hb;cases hb)];exact h
 | gref u sz n=>
  simp only [dropGK] at h
  show K (if u=id then .junk else .gref u sz n)
  split at h
  ·rename_i hb;rw [if_pos (Nat.eq_of_beq_eq_true hb)];exact h
  ·rename_i hb;rw [if_neg (fun e=>by rw [e,Nat.beq_refl] at hb;cases hb)];exact h
 | ref u off=>
  simp only [dropGK] at h
  show K (if u=id then .junk else .ref u off)
  split at h
  ·rename_i hb;rw [if_pos (Nat.eq_of_beq_eq_true hb)];exact h
  ·rename_i hb;rw [if_neg (fun e=>by rw [e,Nat.beq_refl] at hb;cases hb)];exact h
 | ubox cs=>exact udropK_spec (K:=fun cs'=>K (.ubox cs')) h
 | uagg cs=>exact udropK_spec (K:=fun cs'=>K (.uagg cs')) h
 | uobj cs=>exact udropK_spec (K:=fun cs'=>K (.uobj cs')) h
 | c x=>cases x<;>exact h
 | _=>exact h
def hdrop (id:Nat)(h:Hp):Hp:=fun u=>CS id (h u)
theorem nameS_dropG {id:Nat}(s:S):CS id (nameS s)=nameS (CS id s):=by
 cases s with
 | sref i sz n=>simp only [CS,nameS];by_cases e:i=id<;>simp [e]
 | gref i sz n=>simp only [CS,nameS];by_cases e:i=id<;>simp [e]
 | ref i n=>simp only [CS,nameS];by_cases e:i=id<;>simp [e]
 | _=>rfl
theorem envT_appG {t t1 t2 t3:Tr}{h:Hp}{id d:Nat}{s g:S}(hd:d<NAM)(hid:id<NAM)(hdi:d≠id)(h1:∀u,t1.get u=CS id (t.get u))(h2:∀u,t2.get u=if u=id then g else t1.get u)(h3:∀u,t3.get u=if u=d then s else t2.get u):Af t3 (hdrop id h)=appG (Af t h) id d s g:=by
 funext u
 simp only [Af,appG,h3,h2,h1]
 by_cases e:u=d
 ·subst e;simp [hd]
 ·simp only [if_neg e]
  by_cases e2:u=id
  ·subst e2;simp [hid]
  ·simp only [if_neg e2]
   split
   ·rfl
   ·exact (nameS_dropG _).symm
section
variable {P:Program} {N:Nat} {t:Tr} {h:Hp} {o:Oper}
theorem at_row {id sz:Nat}{xs:List D}(hi:id<NAM)(hg:t.get id=.gbox sz xs):Af t h id=.gbox sz xs:=by rw [BV hi,hg]
theorem x_appG {T e:TypeId}{sz bytes id n d m:Nat}{x y:Operand}{xs ys zs:List D}{K:Tr→Hp→Prop}(hT:Cf P T=some (e,sz,bytes))
 (hx:Am (Af t h) x=.sref id sz n) (hg:t.get id=.gbox sz xs) (hy:vd (Af t h) y=some (.row ys)) (hn:xs.length=n) (hw:∀y∈ys,y.cells.length=sz) (h63:n+ys.length≤maxLen) (hby:(n+ys.length)*bytes≤140737488355328) (hz:xs++ys=zs) (hm:n+ys.length=m)
 (hk:mapK (dropGK id) t fun t1=>AQ 20 t1 id (.gbox sz zs) fun t2=>AQ 20 t2 d (.sref id sz m) fun t3=>K t3 (hdrop id h))
 (hop:o.op=.call { callee:=.builtin .append,args:=#[x,y],argTypes:=#[T,T] }:=by rfl) (hd:o.dst=some d:=by rfl) (hdN:d<N:=by exact Nat.le_of_ble_eq_true rfl) (hNB:N≤BIG:=by exact Nat.le_of_ble_eq_true rfl) (hid:BIG≤id:=by exact Nat.le_of_ble_eq_true rfl) (hid2:id<NAM:=by exact Nat.le_of_ble_eq_true rfl) :
 StepP P N o (Af t h) fun e=>∃(t':Tr) (h':Hp),e=Af t' h'∧K t' h':=by
 refine stepP_of ?_
 subst hz hm
 obtain ⟨t1,k1,hk⟩:=mapK_spec (f:=CS id) rfl dropGK_spec hk
 obtain ⟨t2,k2,hk⟩:=Bh hk
 obtain ⟨t3,k3,hk⟩:=Bh hk
 have hdB:d<BIG:=Nat.lt_of_lt_of_le hdN hNB
 exact ⟨t3,hdrop id h,by rw [envT_appG (nam hdB) hid2 (by omega) k1 k2 k3];exact s_appendG hop hT hx (at_row hid2 hg) hn hy hw h63 hby hd hdN hdB,hk⟩
end
section
variable {P:Program} {N:Nat} {env:Env} {t:Tr} {h:Hp} {o:Oper}
end
end Go.Vm
end
section
namespace Go.Vm
open Go.RowKit
section
variable {P:Program} {N:Nat} {env:Env} {t:Tr} {h:Hp} {o:Oper}
end
section
variable {P:Program} {t t':TypeId} {x y:Operand} {k k' yk:IntKind} {a b n c:Int}
end
end Go.Vm
end
section
namespace Go.Vm
def w64 (x:Int):Int:=IntKind.i64.wrap x
theorem w64_id {x:Int}(h1 : -9223372036854775808≤x)(h2:x≤9223372036854775807):w64 x=x:=IntWalk.i64_in _ (by omega)
noncomputable def grd {α:Type}(p:Prop)(x:Option α):Option α:=open Classical in if p then x else none
theorem grd_of {α:Type}{p:Prop}{x:Option α}{r:α}(h:grd p x=some r):p∧x=some r:=by
 unfold grd at h
 split at h
 ·exact ⟨by assumption,h⟩
 ·cases h
theorem AL {α:Type}{p:Prop}{x:Option α}(h:p):grd p x=x:=if_pos h
theorem bind_of {α β:Type}{a:Option α}{f:α→Option β}{r:β}(h:a.bind f=some r):∃o,a=some o∧f o=some r:=by
 cases a with
 | none=>cases h
 | some o=>exact ⟨o,rfl,h⟩
theorem Ad {α:Type}{c:Prop} [Decidable c]{a b r:α}(h:(if c then a else b)=r)(hc:c):a=r:=by rwa [if_pos hc] at h
theorem Ae {α:Type}{c:Prop} [Decidable c]{a b r:α}(h:(if c then a else b)=r)(hc:¬c):b=r:=by rwa [if_neg hc] at h
theorem nf {b:Bool}(h:b=false):¬b=true:=by rw [h];exact Bool.false_ne_true
def idx {α:Type}(l:List α)(i:Int):Option α:=if 0≤i then l[i.toNat]? else none
theorem idx_of {α:Type}{l:List α}{i:Int}{p:α}(h:idx l i=some p):0≤i∧l[i.toNat]? = some p:=by
 unfold idx at h
 split at h
 ·exact ⟨by assumption,h⟩
 ·cases h
theorem idx_nat {α:Type}{l:List α}{i:Nat}:idx l (i:Int)=l[i]? := by unfold idx;rw [if_pos (by omega),Int.toNat_natCast]
def subL {α:Type}(l:List α)(lo hi:Int):Option (List α):=if 0≤lo∧lo≤hi∧hi≤(l.length:Int) then some ((l.take hi.toNat).drop lo.toNat) else none
theorem subL_of {α:Type}{l y:List α}{lo hi:Int}(h:subL l lo hi=some y):0≤lo∧lo≤hi∧hi≤(l.length:Int)∧(l.take hi.toNat).drop lo.toNat=y:=by
 unfold subL at h
 split at h
 ·rename_i h1;injection h with h;exact ⟨h1.1,h1.2.1,h1.2.2,h⟩
 ·cases h
theorem subL_to {α:Type}{l:List α}{k:Nat}(h:k≤l.length):subL l 0 (k:Int)=some (l.take k):=by
 unfold subL;rw [if_pos ⟨by omega,by omega,by omega⟩];simp
theorem subL_on {α:Type}{l:List α}{k:Nat}(h:k≤l.length):subL l (k:Int) (l.length:Int)=some (l.drop k):=by
 unfold subL;rw [if_pos ⟨by omega,by omega,by omega⟩];simp
def BF {α:Type}(a b:List α):Option (List α):=if a.length+b.length≤1000000000 then some (a++b) else none
theorem appL_of {α:Type}{a b z:List α}(h:BF a b=some z):a.length+b.length≤1000000000∧a++b=z:=by
 unfold BF at h
 split at h
 ·injection h with h;exact ⟨by assumption,h⟩
 ·cases h
theorem appL_ok {α:Type}{a b:List α}(h:a.length+b.length≤1000000000):BF a b=some (a++b):=if_pos h
theorem Aa {α β:Type}{a:Option α}{f:α→Option β}{r:β}{G:Prop}(h:a.bind f=some r)(g:∀o,a=some o→f o=some r→G):G:=by
 obtain ⟨o,h1,h2⟩:=bind_of h;exact g o h1 h2
theorem grdG {α:Type}{p:Prop}{x:Option α}{r:α}{G:Prop}(h:grd p x=some r)(g:p→x=some r→G):G:=g (grd_of h).1 (grd_of h).2
theorem Aj {α:Type}{l:List α}{i:Int}{p:α}{G:Prop}(h:idx l i=some p)(g:0≤i→l[i.toNat]? = some p→G):G:=g (idx_of h).1 (idx_of h).2
theorem subLG {α:Type}{l y:List α}{lo hi:Int}{G:Prop}(h:subL l lo hi=some y)(g:0≤lo→lo≤hi→hi≤(l.length:Int)→(l.take hi.toNat).drop lo.toNat=y→G):G:=g (subL_of h).1 (subL_of h).2.1 (subL_of h).2.2.1 (subL_of h).2.2.2
theorem elemG {α:Type}{l:List α}{k:Nat}{G:Prop}(h:(k:Int)<(l.length:Int))(g:∀p,l[k]? = some p→G):G:=by
 have:k<l.length:=by omega
 exact g l[k] (by simp [this])
theorem idxN {α:Type}{l:List α}{k:Nat}{x:α}(h:l[k]? = some x):idx l (k:Int)=some x:=idx_nat.trans h
def idxS (s:ByteArray)(i:Int):Option UInt8:=if 0≤i then s[i.toNat]? else none
theorem idxS_of {s:ByteArray}{i:Int}{p:UInt8}(h:idxS s i=some p):0≤i∧s[i.toNat]? = some p:=by
 unfold idxS at h
 split at h
 ·exact ⟨by assumption,h⟩
 ·cases h
theorem idxSG {s:ByteArray}{i:Int}{p:UInt8}{G:Prop}(h:idxS s i=some p)(g:0≤i→s[i.toNat]? = some p→G):G:=g (idxS_of h).1 (idxS_of h).2
abbrev intD (x:Int):D:=.sc (.int .i64 x)
def schC (E:List EdgeD)(id:TagD):Int:=if (cameOf E id).1=2 then 0 else if (cameOf E id).1=3 then 16 else 13
end Go.Vm
end
section
namespace Go.Vm
theorem ba_ext {a b:ByteArray}(h:a.data.toList=b.data.toList):a=b:=by
 obtain ⟨⟨a⟩⟩:=a
 obtain ⟨⟨b⟩⟩:=b
 simp only at h
 rw [h]
abbrev mkB (l:List UInt8):ByteArray:=⟨l.toArray⟩
theorem Ea (l:List UInt8):(mkB l).data.toList=l:=by simp
theorem mkB_of (s:ByteArray):mkB s.data.toList=s:=ba_ext (Ea _)
theorem ba_app (a b:ByteArray):(a++b).data.toList=a.data.toList++b.data.toList:=by rw [ByteArray.data_append];simp
theorem ba_len (a:ByteArray):a.data.toList.length=a.size:=rfl
section
variable {c:UInt8}
def splitC (c:UInt8):List UInt8→List (List UInt8)
 | []=>[[]]
 | b::l=>if b=c then []::splitC c l else match splitC c l with
  | []=>[[b]]
  | w::ws=>(b::w)::ws
def joinC (c:UInt8):List (List UInt8)→List UInt8
 | []=>[]
 | [w]=>w
 | w::v::r=>w++c::joinC c (v::r)
theorem splitC_ne (l:List UInt8):splitC c l≠[]:=by
 cases l with
 | nil=>simp [splitC]
 | cons b l=>unfold splitC;split;simp;split<;>simp
theorem splitC_free:∀{w:List UInt8},c ∉ w→splitC c w= [w]
 | [],_=>rfl
 | b::w,h=>by
  have hb:¬b=c:=fun e=>h (by rw [e];exact List.mem_cons_self ..)
  have ih:=splitC_free (w:=w) fun k=>h (List.mem_cons_of_mem _ k)
  unfold splitC
  rw [if_neg hb,ih]
theorem splitC_app:∀{w:List UInt8} (l:List UInt8),c ∉ w→splitC c (w++c::l)=w::splitC c l
 | [],l,_=>by simp [splitC]
 | b::w,l,h=>by
  have hb:¬b=c:=fun e=>h (by rw [e];exact List.mem_cons_self ..)
  have ih:=splitC_app (w:=w) l fun k=>h (List.mem_cons_of_mem _ k)
  rw [List.cons_append,splitC,if_neg hb,ih]
theorem idx_cases:∀l:List UInt8,(Lib.index l [c] = -1∧c ∉ l)∨∃a r,l=a++c::r∧c ∉ a∧Lib.index l [c] = (a.length:Int)
 | []=>.inl ⟨rfl,by simp⟩
 | b::l=>by
  by_cases e:c=b
  ·subst e
   exact .inr ⟨[],l,rfl,by simp,by unfold Lib.index;rw [if_pos (by simp)];rfl⟩
  ·have hp:¬[c].isPrefixOf (b::l)=true:=by simp [List.isPrefixOf,e]
   rcases idx_cases l with ⟨h1,h2⟩ | ⟨a,r,rfl,h2,h3⟩
   ·refine .inl ⟨by unfold Lib.index;rw [if_neg hp,h1];rfl,fun k=>?_⟩
    rcases List.mem_cons.1 k with k | k
    ·exact e k
    ·exact h2 k
   ·refine .inr ⟨b::a,r,rfl,fun k=>?_,?_⟩
    ·rcases List.mem_cons.1 k with k | k
     ·exact e k
     ·exact h2 k
    ·unfold Lib.index
     rw [if_neg hp,h3,if_neg (by simp),List.length_cons];omega
theorem splitK_C:∀(k:Nat) (l:List UInt8),l.count c=k→Lib.splitK [c] 0 k l=splitC c l
 | 0,l,h=>by
  rw [splitC_free (List.count_eq_zero.1 h)];rfl
 | k+1,l,h=>by
  rcases idx_cases (c:=c) l with ⟨h1,h2⟩ | ⟨a,r,rfl,h2,h3⟩
  ·rw [List.count_eq_zero.2 h2] at h;cases h
  ·rw [splitC_app _ h2]
   unfold Lib.splitK
   rw [h3,if_neg (by simp)]
   rw [List.count_append,List.count_cons_self,List.count_eq_zero.2 h2] at h
   have hd:(a++c::r).drop (((a.length:Int)).toNat + [c].length)=r:=by
    rw [Int.toNat_natCast,List.length_singleton,←List.drop_drop,List.drop_left];rfl
   rw [hd,splitK_C k r (by omega),Int.toNat_natCast,Nat.add_zero,List.take_left]
def Aw (c:UInt8)(s:ByteArray):List ByteArray:=(splitC c s.data.toList).map mkB
theorem splitW_lib (s:ByteArray):Lib.splitB ⟨#[c]⟩ 0 (Lib.countB s ⟨#[c]⟩) s=Aw c s:=by
 have h:=Lib.splitB_data ⟨#[c]⟩ 0 (Lib.countB s ⟨#[c]⟩) s
 have hc:Lib.countB s ⟨#[c]⟩=s.data.toList.count c:=Lib.count_one c _
 rw [show (⟨#[c]⟩:ByteArray).data.toList= [c] from rfl,hc,splitK_C _ _ rfl] at h
 rw [←hc] at h
 unfold Aw
 rw [←h,List.map_map]
 conv=>lhs;rw [←List.map_id (Lib.splitB _ _ _ _)]
 exact List.map_congr_left fun a _=>(mkB_of a).symm
theorem splitW_ne (s:ByteArray):Aw c s≠[]:=by unfold Aw;simp [splitC_ne]
def joinW (c:UInt8)(l:List ByteArray):ByteArray:=mkB (joinC c (l.map (·.data.toList)))
theorem joinW_data (l:List ByteArray):(joinW c l).data.toList=joinC c (l.map (·.data.toList)):=Ea _
def cutC (c:UInt8)(l:List UInt8):List UInt8×List UInt8×Bool:=if c∈l then (l.takeWhile (fun b=>!decide (b=c)),(l.dropWhile (fun b=>!decide (b=c))).drop 1,true) else (l,[],false)
theorem takeW_app:∀{a:List UInt8} (r:List UInt8),c ∉ a→(a++c::r).takeWhile (fun b=>!decide (b=c))=a∧(a++c::r).dropWhile (fun b=>!decide (b=c))=c::r
 | [],r,_=>by simp
 | b::a,r,h=>by
  have hb:¬b=c:=fun e=>h (by rw [e];exact List.mem_cons_self ..)
  have ih:=takeW_app (a:=a) r fun k=>h (List.mem_cons_of_mem _ k)
  simp [hb,ih.1,ih.2]
theorem cutC_hit {a r:List UInt8}(h:c ∉ a):cutC c (a++c::r)=(a,r,true):=by
 unfold cutC
 rw [if_pos (by simp),(takeW_app r h).1,(takeW_app r h).2];rfl
theorem cutC_miss {l:List UInt8}(h:c ∉ l):cutC c l=(l,[],false):=by unfold cutC;rw [if_neg h]
theorem mem_split {l:List UInt8}(h:c∈l):∃a r,l=a++c::r∧c ∉ a:=by
 rcases idx_cases (c:=c) l with ⟨_,h2⟩ | ⟨a,r,h1,h2,_⟩
 ·exact absurd h h2
 ·exact ⟨a,r,h1,h2⟩
end
-- names
theorem nameB_bytes {s:ByteArray}(h:nameB s=true):∀c∈s.data.toList,(97≤c.toNat∧c.toNat≤122)∨(48≤c.toNat∧c.toNat≤57):=by
 intro c hc
 unfold nameB at h
 simp only [Bool.and_eq_true,List.all_eq_true] at h
 obtain ⟨i,hi,rfl⟩:=List.getElem_of_mem hc
 have:=h.2 i (List.mem_range.2 hi)
 have he:s[i]? = some s.data.toList[i]:=by
  rw [getElem?_pos s i hi]
  rfl
 rw [he] at this
 simp only [charB,Bool.or_eq_true,Bool.and_eq_true,decide_eq_true_eq] at this
 omega
theorem nameB_ne {s:ByteArray}(h:nameB s=true):s.data.toList≠[]:=by
 unfold nameB at h
 simp only [Bool.and_eq_true,decide_eq_true_eq] at h
 intro e
 have:s.size=0:=by rw [←ba_len,e];rfl
 omega
theorem nameB_free {s:ByteArray}(h:nameB s=true){c:UInt8}(hc:c.toNat<48∨(57<c.toNat∧c.toNat<97)):c ∉ s.data.toList:=fun k=>by have:=nameB_bytes h c k;omega
end Go.Vm
end
section
namespace Punnet.Name
set_option maxRecDepth 10000
def plainB (c:UInt8):Bool:=decide (32≤c.toNat)&&decide (c.toNat≤126)&&decide (c.toNat≠34)&&decide (c.toNat≠92)
def hexD (c:UInt8):Option Nat:=if 48≤c.toNat∧c.toNat≤57 then some (c.toNat-48) else if 97≤c.toNat∧c.toNat≤102 then some (c.toNat-87) else none
def hexOf (n:Nat):UInt8:=UInt8.ofNat (if n<10 then 48+n else 87+n)
def code2 (a b:UInt8):Option UInt8:=match hexD a,hexD b with
 | some h,some l=>if plainB (UInt8.ofNat (16*h+l)) then none else some (UInt8.ofNat (16*h+l))
 | _,_=>none
def coded:List UInt8→Option (UInt8×Nat)
 | a::b::_=>(code2 a b).map fun x=>(x,2)
 | _=>none
def sign:List UInt8→Option (UInt8×Nat)
 | []=>none
 | c::r=>if c.toNat=92 then coded r else if plainB c then some (c,0) else none
def bodyAt (l:List UInt8)(k:Nat):Option (List UInt8×Nat):=
 if h:k<l.length then
  if l[k].toNat=34 then some ([],k+1)
  else match sign (l.drop k) with
   | none=>none
   | some (c,n)=>(bodyAt l (k+n+1)).map fun p=>(c::p.1,p.2)
 else none
 termination_by l.length-k
def Dq (l:List UInt8)(k:Nat):Option (List UInt8×Nat):=
 if h:k<l.length then (if l[k].toNat=34 then bodyAt l (k+1) else none) else none
theorem bodyAt_out {l:List UInt8}{k:Nat}(h:¬k<l.length):bodyAt l k=none:=by rw [bodyAt,dif_neg h]
theorem bodyAt_end {l:List UInt8}{k:Nat}(h:k<l.length)(hq:l[k].toNat=34):bodyAt l k=some ([],k+1):=by rw [bodyAt,dif_pos h,if_pos hq]
theorem bodyAt_none {l:List UInt8}{k:Nat}(h:k<l.length)(hq:l[k].toNat≠34)(hs:sign (l.drop k)=none):bodyAt l k=none:=by
 rw [bodyAt,dif_pos h,if_neg hq,hs]
theorem bodyAt_some {l:List UInt8}{k n:Nat}{c:UInt8}(h:k<l.length)(hq:l[k].toNat≠34)(hs:sign (l.drop k)=some (c,n)):bodyAt l k=(bodyAt l (k+n+1)).map fun p=>(c::p.1,p.2):=by
 rw [bodyAt,dif_pos h,if_neg hq,hs]
theorem drop_cons {l:List UInt8}{k:Nat}(h:k<l.length):l.drop k=l[k]::l.drop (k+1):=List.drop_eq_getElem_cons h
theorem sign_plain {l:List UInt8}{k:Nat}(h:k<l.length)(h1:l[k].toNat≠92)(h2:plainB l[k] = true):sign (l.drop k)=some (l[k],0):=by
 rw [drop_cons h,sign,if_neg h1,if_pos h2]
theorem sign_other {l:List UInt8}{k:Nat}(h:k<l.length)(h1:l[k].toNat≠92)(h2:plainB l[k] = false):sign (l.drop k)=none:=by
 rw [drop_cons h,sign,if_neg h1,if_neg (by rw [h2];decide)]
theorem sign_short {l:List UInt8}{k:Nat}(h:k<l.length)(h1:l[k].toNat=92)(h2:l.length<k+3):sign (l.drop k)=none:=by
 rw [drop_cons h,sign,if_pos h1]
 have hl:(l.drop (k+1)).length<2:=by rw [List.length_drop];omega
 match l.drop (k+1),hl with
 | [],_=>rfl
 | [_],_=>rfl
theorem sign_code {l:List UInt8}{k:Nat}(h:k+2<l.length)(h1:l[k].toNat=92):sign (l.drop k)=(code2 l[k+1] l[k+2]).map fun x=>(x,2):=by
 rw [drop_cons (by omega),sign,if_pos h1,drop_cons (show k+1<l.length by omega),drop_cons (show k+1+1<l.length by omega)];rfl
theorem bodyAt_le {l:List UInt8}:∀{k e:Nat} {t:List UInt8},bodyAt l k=some (t,e)→k<e∧e≤l.length:=by
 intro k
 induction hn:l.length-k using Nat.strongRecOn generalizing k with
 | _ n ih=>
  intro e t h
  by_cases hk:k<l.length
  ·by_cases hq:l[k].toNat=34
   ·rw [bodyAt_end hk hq] at h
    injection h with h
    injection h with h1 h2
    omega
   ·cases hs:sign (l.drop k) with
    | none=>rw [bodyAt_none hk hq hs] at h;cases h
    | some p=>
     obtain ⟨c,m⟩:=p
     rw [bodyAt_some hk hq hs] at h
     cases hb:bodyAt l (k+m+1) with
     | none=>rw [hb] at h;cases h
     | some p=>
      obtain ⟨t',e'⟩:=p
      rw [hb] at h
      injection h with h
      injection h with h1 h2
      have:=ih (l.length-(k+m+1)) (by omega) rfl hb
      omega
  ·rw [bodyAt_out hk] at h;cases h
theorem quotedAt_le {l:List UInt8}{k e:Nat}{t:List UInt8}(h:Dq l k=some (t,e)):k<e∧e≤l.length:=by
 unfold Dq at h
 split at h
 ·split at h
  ·have:=bodyAt_le h;omega
  ·cases h
 ·cases h
end Punnet.Name
end
section
namespace Go.Proofs.YtdfbohaohjaloaaGreatDoor
set_option maxRecDepth 10000
open Go.RowKit Punnet.Name
theorem plain_any (c:UInt8)(w:World):Calls Tryz.prog 154 #[.int .u8 (c.toNat:Int)] w fun e w'=>e=.returned (.bool (plainB c))∧w=w':=by
 have H:=Lib.hid (show plainB c=(decide (32≤c.toNat)&&decide (c.toNat≤126)&&decide (c.toNat≠34)&&decide (c.toNat≠92)) from rfl)
 have key:(c.toNat<32∧plainB c=false)∨(32≤c.toNat∧126<c.toNat∧plainB c=false)∨(32≤c.toNat∧c.toNat≤126∧(((c.toNat:Int) != 34)=false)∧plainB c=false) ∨
  (32≤c.toNat∧c.toNat≤126∧(((c.toNat:Int) != 34)=true)∧(((c.toNat:Int) != 92)=false)∧plainB c=false)∨(32≤c.toNat∧c.toNat≤126∧(((c.toNat:Int) != 34)=true)∧(((c.toNat:Int) != 92)=true)∧plainB c=true):=by
  rw [H.out]
  generalize c.toNat=n
  by_cases h1:32≤n
  ·by_cases h2:n≤126
   ·by_cases h3:n=34
    ·right;right;left;subst h3;exact ⟨h1,h2,rfl,rfl⟩
    ·have b3:((n:Int) != 34)=true:=by rw [bne_iff_ne];omega
     by_cases h4:n=92
     ·right;right;right;left;subst h4;exact ⟨h1,h2,rfl,rfl,rfl⟩
     ·have b4:((n:Int) != 92)=true:=by rw [bne_iff_ne];omega
      right;right;right;right;exact ⟨h1,h2,b3,b4,by simp [h1,h2,h3,h4]⟩
   ·right;left;exact ⟨h1,by omega,by simp [h2]⟩
  ·left;exact ⟨by omega,by simp [h1]⟩
 clear H
 rcases key with ⟨h1,h⟩ | ⟨h1,h2,h⟩ | ⟨h1,h2,h3,h⟩ | ⟨h1,h2,h3,h4,h⟩ | ⟨h1,h2,h3,h4,h⟩
 all_goals
  have HV:=Lib.hid h
  clear h
  go_enter Tryz.func154,Tryz.ntmps154
  go_wp2
  go_ret
  exact ⟨Ei (by rw [HV.out]),rfl⟩
theorem digit_yes {c:UInt8}{h:Nat}(hh:hexD c=some h)(w:World):Calls Tryz.prog 228 #[.int .u8 (c.toNat:Int)] w fun e w'=>e=.returned (.tuple #[.int .u8 (h:Int),.bool true])∧w=w':=by
 unfold hexD at hh
 split at hh
 ·rename_i hc
  injection hh with hh
  obtain ⟨h1,h2⟩:=hc
  have HE:=Lib.hid (show ((c.toNat:Int)-48)=(h:Int) by omega)
  clear hh
  go_enter Tryz.func228,Tryz.ntmps228
  go_wp2
  go_ret2
  exact ⟨by rw [←HE.out];rfl,rfl⟩
 ·split at hh
  ·rename_i hc
   injection hh with hh
   obtain ⟨h1,h2⟩:=hc
   have h3:¬(c.toNat:Int)≤57:=by omega
   have HE:=Lib.hid (show ((c.toNat:Int)-97+10)=(h:Int) by omega)
   clear hh
   go_enter Tryz.func228,Tryz.ntmps228
   go_wp2
   go_ret2
   exact ⟨by rw [←HE.out];rfl,rfl⟩
  ·cases hh
theorem digit_no {c:UInt8}(hh:hexD c=none)(w:World):Calls Tryz.prog 228 #[.int .u8 (c.toNat:Int)] w fun e w'=>e=.returned (.tuple #[.int .u8 0,.bool false])∧w=w':=by
 unfold hexD at hh
 split at hh
 ·cases hh
 ·rename_i h1
  split at hh
  ·cases hh
  ·rename_i h2
   have key:c.toNat<48∨(57<c.toNat∧c.toNat<97)∨102<c.toNat:=by omega
   clear h1 h2 hh
   rcases key with h | ⟨h,h'⟩ | h
   all_goals
    go_enter Tryz.func228,Tryz.ntmps228
    go_wp2
    go_ret2
    exact ⟨rfl,rfl⟩
theorem hexD_lt {c:UInt8}{h:Nat}(hh:hexD c=some h):h<16:=by
 unfold hexD at hh
 split at hh
 ·injection hh;omega
 ·split at hh
  ·injection hh;omega
  ·cases hh
theorem or_nat {a b:Nat}(ha:a<16)(hb:b<16):bits .or .u8 ((a:Int)*16) (b:Int)=((16*a+b:Nat):Int):=by
 have h:=u8_or_nat (a*16) b (by omega) (by omega)
 have e:a*16 ||| b=16*a+b:=by
  have:=Nat.shiftLeft_add_eq_or_of_lt (i:=4) (b:=b) (by omega) a
  rw [Nat.shiftLeft_eq] at this
  rw [←this];omega
 rw [e] at h
 rw [←h]
 congr 1
set_option maxHeartbeats 400000 in
theorem coded_short (s:ByteArray)(k:Nat)(w:World)(hs:s.size≤maxLen)(hk:k<s.size)(h:s.size<k+3) :
 Calls Tryz.prog 155 #[.string s,.int .i64 k] w fun e w'=>e=.returned (.tuple #[.int .u8 0,.bool false])∧w=w':=by
 unfold maxLen at hs
 have h':(s.size:Int)-k<3:=by omega
 go_enter Tryz.func155,Tryz.ntmps155
 go_wp2
 go_ret2
 exact ⟨rfl,rfl⟩
set_option maxHeartbeats 400000 in
theorem coded_yes (s:ByteArray)(k:Nat)(w:World)(hs:s.size≤maxLen)(hk:k+2<s.size){x:UInt8}(h:code2 s[k+1] s[k+2] = some x) :
 Calls Tryz.prog 155 #[.string s,.int .i64 k] w fun e w'=>e=.returned (.tuple #[.int .u8 (x.toNat:Int),.bool true])∧w=w':=by
 unfold maxLen at hs
 unfold code2 at h
 cases h1:hexD s[k+1] with
 | none=>rw [h1] at h;cases h
 | some a=>
  cases h2:hexD s[k+2] with
  | none=>rw [h1,h2] at h;cases h
  | some b=>
   rw [h1,h2] at h
   simp only at h
   split at h
   ·cases h
   ·rename_i hp
    injection h with h
    have D1:=Lib.hid (digit_yes h1)
    have D2:=Lib.hid (digit_yes h2)
    have la:=hexD_lt h1
    have lb:=hexD_lt h2
    have P:=Lib.hid (plain_any (UInt8.ofNat (16*a+b)))
    rw [Bool.not_eq_true] at hp
    rw [hp] at P
    have hx:x.toNat=16*a+b:=by rw [←h,UInt8.toNat_ofNat'];omega
    rw [h] at P
    have hor:bits .or .u8 ((a:Int)*16) (b:Int)=(x.toNat:Int):=by rw [or_nat la lb,hx]
    clear h1 h2 hp h hx
    have hb:¬(s.size:Int)-k<3:=by omega
    go_enter Tryz.func155,Tryz.ntmps155
    go_wp2_with fail
    refine (D1.out _).mono ?_
    rintro e w1 ⟨rfl,rfl⟩
    go_wp2_with fail
    refine (D2.out _).mono ?_
    rintro e w1 ⟨rfl,rfl⟩
    go_wp2_with fail
    refine (P.out _).mono ?_
    rintro e w1 ⟨rfl,rfl⟩
    go_wp2_with fail
    go_ret2
    exact ⟨rfl,rfl⟩
def NoCode (w:World)(e:Ending)(w':World):Prop:=∃n:Int,e=.returned (.tuple #[.int .u8 n,.bool false])∧w=w'
set_option maxHeartbeats 800000 in
theorem coded_no (s:ByteArray)(k:Nat)(w:World)(hs:s.size≤maxLen)(hk:k+2<s.size)(h:code2 s[k+1] s[k+2] = none) :
 Calls Tryz.prog 155 #[.string s,.int .i64 k] w (NoCode w):=by
 unfold maxLen at hs
 have hb:¬(s.size:Int)-k<3:=by omega
 unfold code2 at h
 cases h1:hexD s[k+1] with
 | none=>
  have D1:=Lib.hid (digit_no h1)
  cases h2:hexD s[k+2] with
  | none=>
   have D2:=Lib.hid (digit_no h2)
   clear h1 h2 h
   go_enter Tryz.func155,Tryz.ntmps155
   go_wp2_with fail
   refine (D1.out _).mono ?_
   rintro e w1 ⟨rfl,rfl⟩
   go_wp2_with fail
   refine (D2.out _).mono ?_
   rintro e w1 ⟨rfl,rfl⟩
   go_wp2_with fail
   go_ret2
   exact ⟨_,rfl,rfl⟩
  | some b=>
   have D2:=Lib.hid (digit_yes h2)
   have lb:=hexD_lt h2
   clear h1 h2 h
   go_enter Tryz.func155,Tryz.ntmps155
   go_wp2_with fail
   refine (D1.out _).mono ?_
   rintro e w1 ⟨rfl,rfl⟩
   go_wp2_with fail
   refine (D2.out _).mono ?_
   rintro e w1 ⟨rfl,rfl⟩
   go_wp2_with fail
   go_ret2
   exact ⟨_,rfl,rfl⟩
 | some a=>
  have D1:=Lib.hid (digit_yes h1)
  have la:=hexD_lt h1
  cases h2:hexD s[k+2] with
  | none=>
   have D2:=Lib.hid (digit_no h2)
   clear h1 h2 h
   go_enter Tryz.func155,Tryz.ntmps155
   go_wp2_with fail
   refine (D1.out _).mono ?_
   rintro e w1 ⟨rfl,rfl⟩
   go_wp2_with fail
   refine (D2.out _).mono ?_
   rintro e w1 ⟨rfl,rfl⟩
   go_wp2_with fail
   go_ret2
   exact ⟨_,rfl,rfl⟩
  | some b=>
   rw [h1,h2] at h
   simp only at h
   split at h
   ·rename_i hp
    have D2:=Lib.hid (digit_yes h2)
    have lb:=hexD_lt h2
    have P:=Lib.hid (plain_any (UInt8.ofNat (16*a+b)))
    rw [hp] at P
    have hx:(UInt8.ofNat (16*a+b)).toNat=16*a+b:=by rw [UInt8.toNat_ofNat'];omega
    have hor:bits .or .u8 ((a:Int)*16) (b:Int)=((UInt8.ofNat (16*a+b)).toNat:Int):=by rw [or_nat la lb,hx]
    clear h1 h2 hp h hx
    generalize UInt8.ofNat (16*a+b)=x at *
    go_enter Tryz.func155,Tryz.ntmps155
    go_wp2_with fail
    refine (D1.out _).mono ?_
    rintro e w1 ⟨rfl,rfl⟩
    go_wp2_with fail
    refine (D2.out _).mono ?_
    rintro e w1 ⟨rfl,rfl⟩
    go_wp2_with fail
    refine (P.out _).mono ?_
    rintro e w1 ⟨rfl,rfl⟩
    go_wp2_with fail
    go_ret2
    exact ⟨_,rfl,rfl⟩
   ·cases h
end Go.Proofs.YtdfbohaohjaloaaGreatDoor
end
section
namespace Go.Proofs.YtdfbohaohjaloaaGreatDoor
set_option maxRecDepth 10000
open Go.RowKit Punnet.Name
theorem Eb (s:ByteArray)(k:Nat)(h:k<s.size):s.data.toList[k]'(by simpa using h)=s[k]:=by simp;rfl
def cellsOf (l:List UInt8):List Value:=l.map fun b=>.int .u8 (b.toNat:Int)
theorem cellsOf_snoc (l:List UInt8)(b:UInt8):cellsOf (l ++ [b])=cellsOf l ++ [.int .u8 (b.toNat:Int)]:=by simp [cellsOf]
theorem u8_info:(Tryz.prog.info? 5).map (fun i=>(i.zero,i.size,i.bytes))=some (some (.int .u8 0),1,1):=by kernel_rfl
def QRel (s:ByteArray)(k0:Nat)(w:World)(k:Nat)(T:List UInt8)(v:Value)(w':World):Prop:=
 k≤s.size∧T.length≤k∧w'.ownsRow w.heap.size 5 1 v T.length (cellsOf T)∧Below w.heap.size w w'∧Dq s.data.toList k0=(bodyAt s.data.toList k).map fun p=>(T++p.1,p.2)
def Quoted (s:ByteArray)(k0:Nat)(w:World)(e:Ending)(w':World):Prop:=
 (Dq s.data.toList k0=none∧e=.returned (.tuple #[.slice none 0 0,.int .i64 0,.bool false])∧Below w.heap.size w w') ∨
 ∃(t:List UInt8) (n:Nat) (v:Value),Dq s.data.toList k0=some (t,n)∧e=.returned (.tuple #[v,.int .i64 (n:Int),.bool true])∧w'.ownsRow w.heap.size 5 1 v t.length (cellsOf t)∧Below w.heap.size w w'
def QSign (s:ByteArray)(k0:Nat)(w:World)(a':Act)(w':World):Prop:=
 ∃(k:Nat) (T:List UInt8) (v:Value) (u8 u9 u10 u11 u12 u13 u14 u15 u16 u17 u18 u19 u20 u21 u22 u23 u24 u25 u26 u27 u28 u29 u30 u31 u32 u33 u34 u35 u36 u37 u38 u39 u40 u41 u42 u43 u44 u45 u46 u47 u48 u49 u50 u51 u52 u53 u54 u55 u56 u57 u58:Value),a' = { tmps:=#[.string s,.int .i64 (k:Int),undef,undef,.slice none 0 0,.int .i64 0,.bool false,v,u8,u9,u10,u11,u12,u13,u14,u15,u16,u17,u18,u19,u20,u21,u22,u23,u24,u25,u26,u27,u28,u29,u30,u31,u32,u33,u34,u35,u36,u37,u38,u39,u40,u41,u42,u43,u44,u45,u46,u47,u48,u49,u50,u51,u52,u53,u54,u55,u56,u57,u58],defers:=[] }∧QRel s k0 w k T v w'
def QCode (s:ByteArray)(k0:Nat)(w:World)(a':Act)(w':World):Prop:=
 ∃(k:Nat) (T:List UInt8) (v:Value) (u8 u9 u10 u11 u12 u13 u14 u15 u16 u17 u18 u19 u20 u21 u22 u23 u24 u25 u26 u27 u28 u29 u30 u31 u32 u33 u34 u35 u36 u37 u38 u39 u40 u41 u42 u43 u44 u45 u46 u47 u48 u49 u50 u51 u52 u53 u54 u55 u56 u57 u58:Value),a' = { tmps:=#[.string s,.int .i64 (k:Int),undef,undef,.slice none 0 0,.int .i64 0,.bool false,v,u8,u9,u10,u11,u12,u13,u14,u15,u16,u17,u18,u19,u20,u21,u22,u23,u24,u25,u26,u27,u28,u29,u30,u31,u32,u33,u34,u35,u36,u37,u38,u39,u40,u41,u42,u43,u44,u45,u46,u47,u48,u49,u50,u51,u52,u53,u54,u55,u56,u57,u58],defers:=[] }∧QRel s k0 w k T v w'∧∃h:k<s.size,s[k].toNat=92
def QEnd (s:ByteArray)(k0:Nat)(w:World)(a':Act)(w':World):Prop:=
 ∃(k:Nat) (T:List UInt8) (v:Value) (u8 u9 u10 u11 u12 u13 u14 u15 u16 u17 u18 u19 u20 u21 u22 u23 u24 u25 u26 u27 u28 u29 u30 u31 u32 u33 u34 u35 u36 u37 u38 u39 u40 u41 u42 u43 u44 u45 u46 u47 u48 u49 u50 u51 u52 u53 u54 u55 u56 u57 u58:Value),a' = { tmps:=#[.string s,.int .i64 (k:Int),undef,undef,.slice none 0 0,.int .i64 0,.bool false,v,u8,u9,u10,u11,u12,u13,u14,u15,u16,u17,u18,u19,u20,u21,u22,u23,u24,u25,u26,u27,u28,u29,u30,u31,u32,u33,u34,u35,u36,u37,u38,u39,u40,u41,u42,u43,u44,u45,u46,u47,u48,u49,u50,u51,u52,u53,u54,u55,u56,u57,u58],defers:=[] }∧QRel s k0 w k T v w'∧∃h:k<s.size,s[k].toNat=34
theorem none_map {s:ByteArray}{k0:Nat}{w:World}{k:Nat}{T:List UInt8}{v:Value}{w':World}(h:QRel s k0 w k T v w')(hb:bodyAt s.data.toList k=none):Dq s.data.toList k0=none:=by rw [h.2.2.2.2,hb];rfl
theorem end_map {s:ByteArray}{k0:Nat}{w:World}{k:Nat}{T:List UInt8}{v:Value}{w':World}(h:QRel s k0 w k T v w')(hk:k<s.size)(hq:s[k].toNat=34):Dq s.data.toList k0=some (T,k+1):=by
 rw [h.2.2.2.2,bodyAt_end (by simpa using hk) (by rw [Eb s k hk];exact hq)];simp
theorem next_map {s:ByteArray}{k0:Nat}{w:World}{k:Nat}{T:List UInt8}{v v':Value}{w' w2:World}(h:QRel s k0 w k T v w')(hk:k<s.size)(hq:s[k].toNat≠34){c:UInt8}{n:Nat}(hs:sign (s.data.toList.drop k)=some (c,n))(hn:k+n+1≤s.size)
 (ho:w2.ownsRow w.heap.size 5 1 v' (T.length+1) (cellsOf T ++ [.int .u8 (c.toNat:Int)])) (hb:Below w.heap.size w' w2):QRel s k0 w (k+n+1) (T ++ [c]) v' w2:=by
 obtain ⟨h1,h2,h3,h4,h5⟩:=h
 refine ⟨hn,by simp;omega,by rw [cellsOf_snoc,List.length_append,List.length_singleton];exact ho,h4.trans hb,?_⟩
 rw [h5,bodyAt_some (by simpa using hk) (by rw [Eb s k hk];exact hq) hs]
 cases bodyAt s.data.toList (k+n+1) with
 | none=>rfl
 | some p=>simp
set_option maxHeartbeats 2000000 in
theorem quoted_go (s:ByteArray)(k0:Nat)(w:World)(hs:s.size≤16777216)(hk0:k0<s.size)(hq:s[k0].toNat=34) :
 Calls Tryz.prog 99 #[.string s,.int .i64 (k0:Int)] w (Quoted s k0 w):=by
 obtain ⟨i0,hi0,hz0,hz1,hz2⟩:=info_parts u8_info
 have hk0':¬(s.size:Int)≤k0:=by omega
 have b34:((s[k0].toNat:Int) != 34)=false:=by rw [bne_eq_false_iff_eq];omega
 have hml:s.size≤9223372036854775807:=by omega
 go_enter Tryz.func99,Tryz.ntmps99
 go_wp2
 refine wp_scope_three (QSign s k0 w) (QEnd s k0 w) (QCode s k0 w) (fun a' _=>3*(s.size-(intOf (a'.tmps.getD 1 undef)).toNat)+2) (fun _ _=>0) (fun a' _=>3*(s.size-(intOf (a'.tmps.getD 1 undef)).toNat)+1) rfl rfl rfl ?_ ?_ ?_ ?_
 ·clear b34 hk0' hq
  rintro a' w' ⟨k,T,v,u8,u9,u10,u11,u12,u13,u14,u15,u16,u17,u18,u19,u20,u21,u22,u23,u24,u25,u26,u27,u28,u29,u30,u31,u32,u33,u34,u35,u36,u37,u38,u39,u40,u41,u42,u43,u44,u45,u46,u47,u48,u49,u50,u51,u52,u53,u54,u55,u56,u57,u58,rfl,hr⟩
  have hks:=hr.1
  have hT:=hr.2.1
  have hown:=Lib.hid hr.2.2.1
  have hbw:=hr.2.2.2.1
  have HR:=Lib.hid hr
  clear hr
  by_cases hlt:k<s.size
  ·have hlt':¬(s.size:Int)≤k:=by omega
   have hl:k<s.data.toList.length:=by simpa using hlt
   by_cases h34:s[k].toNat=34
   ·have b1:((s[k].toNat:Int)==34)=true:=beq_iff_eq.2 (by omega)
    have H34:=Lib.hid h34
    clear h34
    go_wp2
    go_step3
    refine ⟨⟨_,_,_,_,_,_,_,_,_,_,_,_,_,_,_,_,_,_,_,_,_,_,_,_,_,_,_,_,_,_,_,_,_,_,_,_,_,_,_,_,_,_,_,_,_,_,_,_,_,_,_,_,_,_,rfl,HR.out,hlt,H34.out⟩,?_⟩
    show 0 < _
    omega
   ·have b1:((s[k].toNat:Int)==34)=false:=beq_eq_false_iff_ne.2 (by omega)
    by_cases h92:s[k].toNat=92
    ·have b2:((s[k].toNat:Int)==92)=true:=beq_iff_eq.2 (by omega)
     have H92:=Lib.hid h92
     clear h92 h34
     go_wp2
     go_step3
     refine ⟨⟨_,_,_,_,_,_,_,_,_,_,_,_,_,_,_,_,_,_,_,_,_,_,_,_,_,_,_,_,_,_,_,_,_,_,_,_,_,_,_,_,_,_,_,_,_,_,_,_,_,_,_,_,_,_,rfl,HR.out,hlt,H92.out⟩,?_⟩
     show 3*(s.size-(intOf (Value.int .i64 (k:Int))).toNat)+1<3*(s.size-(intOf (Value.int .i64 (k:Int))).toNat)+2
     omega
    ·have b2:((s[k].toNat:Int)==92)=false:=beq_eq_false_iff_ne.2 (by omega)
     have P:=Lib.hid (plain_any s[k])
     cases hp:plainB s[k] with
     | true=>
      rw [hp] at P
      have HN:=Lib.hid (fun v' w2=>next_map (v':=v') (w2:=w2) HR.out hlt h34 (sign_plain hl (by rw [Eb s k hlt];exact h92) (by rw [Eb s k hlt];exact hp)))
      rw [Eb s k hlt] at HN
      clear hp h34 h92
      go_wp2_with (first | (go_at_call 154;refine (P.out _).mono ?_;rintro e w1 ⟨rfl,rfl⟩) | (at_builtin;go_must (refine EU rfl (.tmp 36) (.tmp 38) _ rfl w.heap.size 5 i0 _ 1 Tryz.underlying109 hi0 hz0 hz1 hz2 rfl 5 (.int .u8 (s[k].toNat:Int)) rfl v T.length (cellsOf T) rfl hown.out rfl (by simp only [maxLen];omega) (by omega) hbw.size ?_;intro v1 w1 ho1 hb1)))
      go_step3
      refine ⟨⟨_,_,_,_,_,_,_,_,_,_,_,_,_,_,_,_,_,_,_,_,_,_,_,_,_,_,_,_,_,_,_,_,_,_,_,_,_,_,_,_,_,_,_,_,_,_,_,_,_,_,_,_,_,_,rfl,HN.out v1 w1 (by omega) ho1 hb1⟩,?_⟩
      show 3*(s.size-(intOf (Value.int .i64 ((k:Int)+1))).toNat)+2<3*(s.size-(intOf (Value.int .i64 (k:Int))).toNat)+2
      simp only [intOf]
      omega
     | false=>
      rw [hp] at P
      have HQ:=Lib.hid (none_map HR.out (bodyAt_none hl (by rw [Eb s k hlt];exact h34) (sign_other hl (by rw [Eb s k hlt];exact h92) (by rw [Eb s k hlt];exact hp))))
      clear hp h34 h92
      go_wp2_with (go_at_call 154;refine (P.out _).mono ?_;rintro e w1 ⟨rfl,rfl⟩)
      simp only [Exit.jumps]
      go_ret3
      exact .inl ⟨HQ.out,rfl,hbw⟩
  ·have hlt':(s.size:Int)≤k:=by omega
   have HQ:=Lib.hid (none_map HR.out (bodyAt_out (by simpa using hlt)))
   go_wp2
   simp only [Exit.jumps]
   go_ret3
   exact .inl ⟨HQ.out,rfl,hbw⟩
 ·clear b34 hk0' hq
  rintro a' w' ⟨k,T,v,u8,u9,u10,u11,u12,u13,u14,u15,u16,u17,u18,u19,u20,u21,u22,u23,u24,u25,u26,u27,u28,u29,u30,u31,u32,u33,u34,u35,u36,u37,u38,u39,u40,u41,u42,u43,u44,u45,u46,u47,u48,u49,u50,u51,u52,u53,u54,u55,u56,u57,u58,rfl,hr,hk,h34⟩
  have HE:=Lib.hid (end_map hr hk h34)
  have hown:=Lib.hid hr.2.2.1
  have hbw:=hr.2.2.2.1
  clear hr h34
  go_wp2
  simp only [Exit.jumps]
  go_ret3
  exact .inr ⟨T,k+1,v,HE.out,rfl,hown.out,hbw⟩
 ·rintro a' w' ⟨k,T,v,u8,u9,u10,u11,u12,u13,u14,u15,u16,u17,u18,u19,u20,u21,u22,u23,u24,u25,u26,u27,u28,u29,u30,u31,u32,u33,u34,u35,u36,u37,u38,u39,u40,u41,u42,u43,u44,u45,u46,u47,u48,u49,u50,u51,u52,u53,u54,u55,u56,u57,u58,rfl,hr,hk,h92⟩
  clear b34 hk0' hq
  have hks:=hr.1
  have hT:=hr.2.1
  have hown:=Lib.hid hr.2.2.1
  have hbw:=hr.2.2.2.1
  have HR:=Lib.hid hr
  clear hr
  have hl:k<s.data.toList.length:=by simpa using hk
  have hms:s.size≤maxLen:=by simp only [maxLen];omega
  have g92:s.data.toList[k].toNat=92:=by rw [Eb s k hk];exact h92
  have g34:s.data.toList[k].toNat≠34:=by omega
  by_cases h3:k+2<s.size
  ·have hsg:=sign_code (l:=s.data.toList) (k:=k) (by simpa using h3) g92
   rw [Eb s (k+1) (by omega),Eb s (k+2) h3] at hsg
   cases hc:code2 s[k+1] s[k+2] with
   | none=>
    rw [hc] at hsg
    have C:=Lib.hid (fun w=>coded_no s k w hms h3 hc)
    have HQ:=Lib.hid (none_map HR.out (bodyAt_none hl g34 hsg))
    clear hc hsg g92 g34 h92
    go_wp2_with (go_at_call 155;refine (C.out _).mono ?_;rintro e w1 ⟨n,rfl,rfl⟩)
    simp only [Exit.jumps]
    go_ret3
    exact .inl ⟨HQ.out,rfl,hbw⟩
   | some x=>
    rw [hc] at hsg
    have C:=Lib.hid (fun w=>coded_yes s k w hms h3 hc)
    have HN:=Lib.hid (fun v' w2=>next_map (v':=v') (w2:=w2) (n:=2) HR.out hk (by omega) hsg)
    clear hc hsg g92 g34 h92
    go_wp2_with (first | (go_at_call 155;refine (C.out _).mono ?_;rintro e w1 ⟨rfl,rfl⟩) | (at_builtin;go_must (refine EU rfl (.tmp 50) (.tmp 52) _ rfl w.heap.size 5 i0 _ 1 Tryz.underlying109 hi0 hz0 hz1 hz2 rfl 5 (.int .u8 (x.toNat:Int)) rfl v T.length (cellsOf T) rfl hown.out rfl (by simp only [maxLen];omega) (by omega) hbw.size ?_;intro v1 w1 ho1 hb1)))
    go_step3
    refine ⟨⟨_,_,_,_,_,_,_,_,_,_,_,_,_,_,_,_,_,_,_,_,_,_,_,_,_,_,_,_,_,_,_,_,_,_,_,_,_,_,_,_,_,_,_,_,_,_,_,_,_,_,_,_,_,_,rfl,HN.out v1 w1 (by omega) ho1 hb1⟩,?_⟩
    show 3*(s.size-(intOf (Value.int .i64 ((k:Int)+3))).toNat)+2<3*(s.size-(intOf (Value.int .i64 (k:Int))).toNat)+1
    simp only [intOf]
    omega
  ·have C:=Lib.hid (fun w=>coded_short s k w hms hk (by omega))
   have HQ:=Lib.hid (none_map HR.out (bodyAt_none hl g34 (sign_short hl g92 (by simp;omega))))
   clear g92 g34 h92
   go_wp2_with (go_at_call 155;refine (C.out _).mono ?_;rintro e w1 ⟨rfl,rfl⟩)
   simp only [Exit.jumps]
   go_ret3
   exact .inl ⟨HQ.out,rfl,hbw⟩
 ·intro HL
  go_wp2
  go_step3
  refine (‹∀(a:Act) (w:World),Code.wp _ _ _ a w→_› : _) _ _ (HL.out _ _ ?_)
  refine ⟨k0+1,[],.slice none 0 0,_,_,_,_,_,_,_,_,_,_,_,_,_,_,_,_,_,_,_,_,_,_,_,_,_,_,_,_,_,_,_,_,_,_,_,_,_,_,_,_,_,_,_,_,_,_,_,_,_,_,_,rfl,by omega,by simp,⟨rfl,.inl ⟨rfl,rfl⟩⟩,Below.refl _ _,?_⟩
  rw [Dq,dif_pos (by simpa using hk0),if_pos (by rw [Eb s k0 hk0];exact hq)]
  simp
end Go.Proofs.YtdfbohaohjaloaaGreatDoor
end
section
namespace Go.Proofs.YtdfbohaohjaloaaGreatDoor
set_option maxRecDepth 10000
open Go.RowKit Punnet.Name
theorem quoted_no (s:ByteArray)(k0:Nat)(w:World)(hs:s.size≤16777216)(h:∀hk:k0<s.size,s[k0].toNat≠34) :
 Calls Tryz.prog 99 #[.string s,.int .i64 (k0:Int)] w (Quoted s k0 w):=by
 have hq:Dq s.data.toList k0=none:=by
  unfold Dq
  split
  ·rename_i hk
   have hk':k0<s.size:=by simpa using hk
   rw [if_neg (by rw [Eb s k0 hk'];exact h hk')]
  ·rfl
 have HQ:=Lib.hid hq
 clear hq
 by_cases hk:k0<s.size
 ·have hk':¬(s.size:Int)≤k0:=by omega
  have h1:=h hk
  have b34:((s[k0].toNat:Int) != 34)=true:=by rw [bne_iff_ne];omega
  clear h h1
  go_enter Tryz.func99,Tryz.ntmps99
  go_wp2
  go_step3
  go_wp2
  rw [Exit.noGoto_ret]
  go_ret3
  exact .inl ⟨HQ.out,rfl,Below.refl _ _⟩
 ·have hk':(s.size:Int)≤k0:=by omega
  clear h
  go_enter Tryz.func99,Tryz.ntmps99
  go_wp2
  go_step3
  go_wp2
  rw [Exit.noGoto_ret]
  go_ret3
  exact .inl ⟨HQ.out,rfl,Below.refl _ _⟩
theorem quoted_any (s:ByteArray)(k0:Nat)(w:World)(hs:s.size≤16777216) :
 Calls Tryz.prog 99 #[.string s,.int .i64 (k0:Int)] w (Quoted s k0 w):=by
 by_cases h:∃hk:k0<s.size,s[k0].toNat=34
 ·obtain ⟨hk,h34⟩:=h
  exact quoted_go s k0 w hs hk h34
 ·exact quoted_no s k0 w hs fun hk h34=>h ⟨hk,h34⟩
def Eh (l:List UInt8)(k:Nat):Nat:=k+((l.drop k).takeWhile fun b=>decide (b.toNat≠32)).length
def BH (l:List UInt8)(k:Nat):Nat:=match Dq l k with
 | some (_,e)=>if e=l.length∨l[e]? = some 32 then e else Eh l k
 | none=>Eh l k
theorem blankAt_eq {l:List UInt8}{k e:Nat}(hk:k≤e)(he:e≤l.length)(ha:∀j (h:j<l.length),k≤j→j<e→l[j].toNat≠32)(hs:∀h:e<l.length,l[e].toNat=32):Eh l k=e:=by
 have h:∀(n:Nat) (m:List UInt8),n≤m.length→(∀j (h:j<m.length),j<n→m[j].toNat≠32)→(∀h:n<m.length,m[n].toNat=32)→(m.takeWhile fun b=>decide (b.toNat≠32)).length=n:=by
  intro n m
  induction m generalizing n with
  | nil=>intro hn _ _;simp at hn;simp [hn]
  | cons b r ih=>
   intro hn ha hs
   cases n with
   | zero=>
    have hb:b.toNat=32:=hs (by simp)
    rw [List.takeWhile_cons,if_neg (by simp [hb])];rfl
   | succ n=>
    have hb:b.toNat≠32:=ha 0 (by simp) (by omega)
    rw [List.takeWhile_cons,if_pos (by simp [hb]),List.length_cons,ih n (by simpa using hn) (fun j h hj=>ha (j+1) (by simpa using h) (by omega)) (fun h=>hs (by simpa using h))]
 rw [Eh,h (e-k) (l.drop k) (by rw [List.length_drop];omega)]
 ·omega
 ·intro j hj hje
  rw [List.length_drop] at hj
  rw [List.getElem_drop]
  exact ha _ _ (by omega) (by omega)
 ·intro hj
  rw [List.length_drop] at hj
  rw [List.getElem_drop]
  have:=hs (by omega)
  rw [show l[k+(e-k)]'(by omega)=l[e]'(by omega) from by congr 1;omega]
  exact this
theorem blank_eq {s:ByteArray}{k j:Nat}(h1:k≤j)(h2:j≤s.size)(hd:∀x (h:x<s.size),k≤x→x<j→s[x].toNat≠32)(hs:∀h:j<s.size,s[j].toNat=32):Eh s.data.toList k=j:=by
 have hlen:s.data.toList.length=s.size:=by simp
 refine blankAt_eq h1 (by omega) (fun x h hk hx=>?_) (fun h=>?_)
 ·rw [Eb s x (by omega)];exact hd x _ hk hx
 ·rw [Eb s j (by omega)];exact hs _
theorem wordEnd_any (s:ByteArray)(k:Nat)(w:World)(hs:s.size≤16777216)(hk:k≤s.size) :
 Calls Tryz.prog 54 #[.string s,.int .i64 (k:Int)] w fun e w'=>e=.returned (.int .i64 (BH s.data.toList k:Int))∧Below w.heap.size w w':=by
 have hml:s.size≤9223372036854775807:=by omega
 go_enter Tryz.func54,Tryz.ntmps54
 go_wp2_with fail
 refine (quoted_any s k w hs).mono ?_
 rintro e w1 (⟨hq,rfl,hb1⟩ | ⟨t,n,v,hq,rfl,hown,hb1⟩)
 ·have HW:=Lib.hid (show BH s.data.toList k=Eh s.data.toList k by unfold BH;rw [hq])
  clear hq
  go_wp2_with fail
  go_loop [6] (fun i=>∃j:Nat,k≤j∧j≤s.size∧i=.int .i64 (j:Int)∧∀x (h:x<s.size),k≤x→x<j→s[x].toNat≠32) (fun i=>s.size-(intOf i).toNat)
  case atStart=>exact ⟨k,Nat.le_refl _,hk,rfl,fun _ _ h1 h2=>absurd h1 (by omega)⟩
  case round=>
   obtain ⟨j,hj1,hj2,rfl,hd⟩:=hrel
   have HD:=Lib.hid hd
   clear hd
   by_cases hlt:j<s.size
   ·have hlt':(j:Int)<s.size:=by omega
    by_cases hb:s[j].toNat=32
    ·have b32:((s[j].toNat:Int) != 32)=false:=by rw [bne_eq_false_iff_eq];omega
     have HE:=Lib.hid (show BH s.data.toList k=j by rw [HW.out];exact blank_eq hj1 hj2 HD.out (fun _=>hb))
     clear hb
     go_wp2_with fail
     go_ret
     exact ⟨ret_i64 (by rw [HE.out]),hb1⟩
    ·have b32:((s[j].toNat:Int) != 32)=true:=by rw [bne_iff_ne];omega
     have HD2:=Lib.hid (show ∀x (h:x<s.size),k≤x→x<j+1→s[x].toNat≠32 from fun x h h1 h2=>by
      by_cases e:x=j
      ·subst e;exact hb
      ·exact HD.out x h h1 (by omega))
     clear hb
     go_wp2_with fail
     go_round
     case rel=>exact ⟨j+1,by omega,by omega,by go_num,HD2.out⟩
     case measure=>simp [intOf];omega
   ·have hlt':¬(j:Int)<s.size:=by omega
    have HE:=Lib.hid (show BH s.data.toList k=j by rw [HW.out];exact blank_eq hj1 hj2 HD.out (fun h=>absurd h hlt))
    go_wp2_with fail
    go_ret
    exact ⟨ret_i64 (by rw [HE.out]),hb1⟩
 ·have hle:=quotedAt_le hq
  have hlen:s.data.toList.length=s.size:=by simp
  have hn:n≤s.size:=by omega
  have hwe:BH s.data.toList k=if n=s.size∨s.data.toList[n]? = some 32 then n else Eh s.data.toList k:=by unfold BH;rw [hq,hlen]
  clear hq hle hown hlen
  by_cases he:n=s.size
  ·have HW:=Lib.hid (show BH s.data.toList k=n by rw [hwe,if_pos (.inl he)])
   have b1:((n:Int)==(s.size:Int))=true:=beq_iff_eq.2 (by omega)
   clear he hwe
   go_wp2_with fail
   go_ret
   exact ⟨ret_i64 (by rw [HW.out]),hb1⟩
  ·have b1:((n:Int)==(s.size:Int))=false:=beq_eq_false_iff_ne.2 (by omega)
   have hlt:n<s.size:=by omega
   have hlt':(n:Int)<s.size:=by omega
   have hg:s.data.toList[n]? = some s[n]:=by rw [List.getElem?_eq_getElem (by simpa using hlt),Eb s n hlt]
   by_cases hb:s[n].toNat=32
   ·have HW:=Lib.hid (show BH s.data.toList k=n by
     rw [hwe,if_pos (.inr (by rw [hg];congr 1;exact UInt8.toNat_inj.1 hb))])
    have b2:((s[n].toNat:Int)==32)=true:=beq_iff_eq.2 (by omega)
    clear he hwe hg hb
    go_wp2_with fail
    go_ret
    exact ⟨ret_i64 (by rw [HW.out]),hb1⟩
   ·have HW:=Lib.hid (show BH s.data.toList k=Eh s.data.toList k by
     rw [hwe,if_neg]
     rintro (h | h)
     ·exact he h
     ·rw [hg] at h;injection h with h;exact hb (by rw [h];rfl))
    have b2:((s[n].toNat:Int)==32)=false:=beq_eq_false_iff_ne.2 (by omega)
    clear he hwe hg hb
    go_wp2_with fail
    go_loop [6] (fun i=>∃j:Nat,k≤j∧j≤s.size∧i=.int .i64 (j:Int)∧∀x (h:x<s.size),k≤x→x<j→s[x].toNat≠32) (fun i=>s.size-(intOf i).toNat)
    case atStart=>exact ⟨k,Nat.le_refl _,hk,rfl,fun _ _ h1 h2=>absurd h1 (by omega)⟩
    case round=>
     obtain ⟨j,hj1,hj2,rfl,hd⟩:=hrel
     have HD:=Lib.hid hd
     clear hd
     by_cases hlt3:j<s.size
     ·have hlt3':(j:Int)<s.size:=by omega
      by_cases hb:s[j].toNat=32
      ·have b32:((s[j].toNat:Int) != 32)=false:=by rw [bne_eq_false_iff_eq];omega
       have HE:=Lib.hid (show BH s.data.toList k=j by rw [HW.out];exact blank_eq hj1 hj2 HD.out (fun _=>hb))
       clear hb
       go_wp2_with fail
       go_ret
       exact ⟨ret_i64 (by rw [HE.out]),hb1⟩
      ·have b32:((s[j].toNat:Int) != 32)=true:=by rw [bne_iff_ne];omega
       have HD2:=Lib.hid (show ∀x (h:x<s.size),k≤x→x<j+1→s[x].toNat≠32 from fun x h h1 h2=>by
        by_cases e:x=j
        ·subst e;exact hb
        ·exact HD.out x h h1 (by omega))
       clear hb
       go_wp2_with fail
       go_round
       case rel=>exact ⟨j+1,by omega,by omega,by go_num,HD2.out⟩
       case measure=>simp [intOf];omega
     ·have hlt3':¬(j:Int)<s.size:=by omega
      have HE:=Lib.hid (show BH s.data.toList k=j by rw [HW.out];exact blank_eq hj1 hj2 HD.out (fun h=>absurd h hlt3))
      go_wp2_with fail
      go_ret
      exact ⟨ret_i64 (by rw [HE.out]),hb1⟩
end Go.Proofs.YtdfbohaohjaloaaGreatDoor
end
section
namespace Go.Proofs.YtdfbohaohjaloaaGreatDoor
set_option maxRecDepth 10000
open Go.RowKit Punnet.Name
theorem takeWhile_le (p:UInt8→Bool)(l:List UInt8):(l.takeWhile p).length≤l.length:=by
 induction l with
 | nil=>simp
 | cons b r ih=>rw [List.takeWhile_cons];split<;>simp<;>omega
theorem blankAt_bound (l:List UInt8){k:Nat}(hk:k≤l.length):k≤Eh l k∧Eh l k≤l.length:=by
 unfold Eh
 have h:=takeWhile_le (fun b=>decide (b.toNat≠32)) (l.drop k)
 rw [List.length_drop] at h
 omega
theorem wordEnd_bound (l:List UInt8){k:Nat}(hk:k≤l.length):k≤BH l k∧BH l k≤l.length:=by
 have hb:=blankAt_bound l hk
 unfold BH
 cases hq:Dq l k with
 | none=>exact hb
 | some p=>
  obtain ⟨t,e⟩:=p
  have:=quotedAt_le hq
  simp only
  split
  ·omega
  ·exact hb
def splitB (s:ByteArray)(k:Nat):List ByteArray:=
 if h:k≤s.size∧BH s.data.toList k<s.size then
  s.extract k (BH s.data.toList k)::splitB s (BH s.data.toList k+1)
 else [s.extract k (BH s.data.toList k)]
 termination_by s.size-k
 decreasing_by
  have h1:s.data.toList.length=s.size:=by simp
  have:=wordEnd_bound s.data.toList (k:=k) (by omega)
  omega
theorem splitB_last {s:ByteArray}{k:Nat}(h:¬BH s.data.toList k<s.size):splitB s k= [s.extract k (BH s.data.toList k)]:=by rw [splitB,dif_neg (fun x=>h x.2)]
theorem splitB_more {s:ByteArray}{k:Nat}(hk:k≤s.size)(h:BH s.data.toList k<s.size):splitB s k=s.extract k (BH s.data.toList k)::splitB s (BH s.data.toList k+1):=by rw [splitB,dif_pos ⟨hk,h⟩]
theorem str_info:(Tryz.prog.info? 9).map (fun i=>(i.zero,i.size,i.bytes))=some (some (.string ⟨#[]⟩),1,16):=by kernel_rfl
def strsOf (l:List ByteArray):List Value:=l.map Value.string
theorem strsOf_snoc (l:List ByteArray)(b:ByteArray):strsOf (l ++ [b])=strsOf l ++ [.string b]:=by simp [strsOf]
def Words (w:World)(l:List ByteArray)(e:Ending)(w':World):Prop:=
 ∃v,e=.returned v∧w'.ownsRow w.heap.size 9 1 v l.length (strsOf l)∧Below w.heap.size w w'
def SplitRel (s:ByteArray)(w:World)(k:Nat)(v:Value)(W:List ByteArray)(w':World):Prop:=
 w'.ownsRow w.heap.size 9 1 v W.length (strsOf W)∧Below w.heap.size w w'∧splitB s 0=W++splitB s k
theorem SplitRel.more {s:ByteArray}{w:World}{k:Nat}{v v':Value}{W:List ByteArray}{w1 w2 w3:World}(h:SplitRel s w k v W w1)(hk:k≤s.size)(he:BH s.data.toList k<s.size)(hb:Below w1.heap.size w1 w2)
 (ho:w3.ownsRow w.heap.size 9 1 v' (W.length+1) (strsOf W ++ [.string (s.extract k (BH s.data.toList k))])) (hb2:Below w.heap.size w2 w3):SplitRel s w (BH s.data.toList k+1) v' (W ++ [s.extract k (BH s.data.toList k)]) w3:=by
 obtain ⟨h1,h2,h3⟩:=h
 refine ⟨by rw [strsOf_snoc,List.length_append,List.length_singleton];exact ho,(h2.trans (hb.mono h2.size)).trans hb2,?_⟩
 rw [h3,splitB_more hk he];simp
theorem SplitRel.done {s:ByteArray}{w:World}{k:Nat}{v v':Value}{W:List ByteArray}{w1 w2 w3:World}(h:SplitRel s w k v W w1)(he:¬BH s.data.toList k<s.size)(hb:Below w1.heap.size w1 w2)
 (ho:w3.ownsRow w.heap.size 9 1 v' (W.length+1) (strsOf W ++ [.string (s.extract k (BH s.data.toList k))])) (hb2:Below w.heap.size w2 w3):Words w (splitB s 0) (.returned v') w3:=by
 obtain ⟨h1,h2,h3⟩:=h
 rw [h3,splitB_last he]
 exact ⟨v',rfl,by rw [strsOf_snoc,List.length_append,List.length_singleton];exact ho,(h2.trans (hb.mono h2.size)).trans hb2⟩
theorem split_any (s:ByteArray)(w:World)(hs:s.size≤16777216):Calls Tryz.prog 28 #[.string s] w (Words w (splitB s 0)):=by
 obtain ⟨i0,hi0,hz0,hz1,hz2⟩:=info_parts str_info
 have hlen:s.data.toList.length=s.size:=by simp
 have hml:s.size≤9223372036854775807:=by omega
 have HL:=Lib.hid hlen
 clear hlen
 go_enter Tryz.func28,Tryz.ntmps28
 go_wp2_with fail
 go_loopw [3,4] (fun v i wr=>∃(k:Nat) (W:List ByteArray),i=.int .i64 (k:Int)∧k≤s.size∧W.length≤k∧SplitRel s w k v W wr) (fun _ i _=>s.size-(intOf i).toNat)
 case atStart=>exact ⟨0,[],rfl,Nat.zero_le _,Nat.le_refl _,⟨rfl,.inl ⟨rfl,rfl⟩⟩,Below.refl _ _,by simp⟩
 case round=>
  obtain ⟨k,W,rfl,hk,hW,hr⟩:=hrel
  obtain ⟨e1,e2⟩:=wordEnd_bound s.data.toList (k:=k) (by have:=HL.out;omega)
  have e3:BH s.data.toList k≤s.size:=by have:=HL.out;omega
  have E:=Lib.hid (fun w=>wordEnd_any s k w hs hk)
  have hown:=Lib.hid hr.1
  have hbw:=hr.2.1
  have HM:=Lib.hid (fun he v' w2 w3=>SplitRel.more (v':=v') (w2:=w2) (w3:=w3) hr hk he)
  have HE:=Lib.hid (fun he v' w2 w3=>SplitRel.done (v':=v') (w2:=w2) (w3:=w3) hr he)
  clear hr e2
  generalize BH s.data.toList k=n at *
  have hn1:(k:Int)≤n:=by omega
  have hn2:(n:Int)≤s.size:=by omega
  by_cases he:n<s.size
  ·have b1:((n:Int)==(s.size:Int))=false:=beq_eq_false_iff_ne.2 (by omega)
   have HM:=Lib.hid (HM.out he)
   clear HE
   go_wp2_with (first | (go_at_call 54;refine (E.out _).mono ?_;rintro e w1 ⟨rfl,hb1⟩) | (at_builtin;go_must (refine EU rfl (.tmp 9) (.tmp 14) _ rfl w.heap.size 9 i0 _ 16 Tryz.underlying34 hi0 hz0 hz1 hz2 rfl 9 (.string (s.extract k n)) rfl _ W.length (strsOf W) rfl (own_later hown.out hb1) rfl (by simp only [maxLen];omega) (by omega) (Nat.le_trans hbw.size hb1.size) ?_;intro v1 w2 ho1 hb2)))
   go_roundw
   case rel=>exact ⟨n+1,W ++ [s.extract k n],by go_num,by omega,by simp;omega,HM.out v1 w1 w2 hb1 ho1 hb2⟩
   case measure=>simp [intOf];omega
  ·have b1:((n:Int)==(s.size:Int))=true:=beq_iff_eq.2 (by omega)
   have HE:=Lib.hid (HE.out he)
   clear HM
   go_wp2_with (first | (go_at_call 54;refine (E.out _).mono ?_;rintro e w1 ⟨rfl,hb1⟩) | (at_builtin;go_must (refine EU rfl (.tmp 9) (.tmp 14) _ rfl w.heap.size 9 i0 _ 16 Tryz.underlying34 hi0 hz0 hz1 hz2 rfl 9 (.string (s.extract k n)) rfl _ W.length (strsOf W) rfl (own_later hown.out hb1) rfl (by simp only [maxLen];omega) (by omega) (Nat.le_trans hbw.size hb1.size) ?_;intro v1 w2 ho1 hb2)))
   go_ret
   exact HE.out v1 w1 w2 hb1 ho1 hb2
end Go.Proofs.YtdfbohaohjaloaaGreatDoor
end
section
namespace Punnet.Name
set_option maxRecDepth 10000
def Dt (c:UInt8):List UInt8:=if plainB c then [c] else [92,hexOf (c.toNat / 16),hexOf (c.toNat % 16)]
theorem hexD_hexOf {n:Nat}(h:n<16):hexD (hexOf n)=some n:=by
 unfold hexD hexOf
 by_cases h1:n<10
 ·rw [if_pos h1,UInt8.toNat_ofNat',Nat.mod_eq_of_lt (by omega),if_pos (by omega)]
  congr 1
  omega
 ·rw [if_neg h1,UInt8.toNat_ofNat',Nat.mod_eq_of_lt (by omega),if_neg (by omega),if_pos (by omega)]
  congr 1
  omega
theorem hexOf_hexD {c:UInt8}{n:Nat}(h:hexD c=some n):hexOf n=c∧n<16:=by
 unfold hexD at h
 split at h
 ·injection h with h
  refine ⟨?_,by omega⟩
  unfold hexOf
  apply UInt8.toNat_inj.1
  rw [if_pos (by omega),UInt8.toNat_ofNat'];omega
 ·split at h
  ·injection h with h
   refine ⟨?_,by omega⟩
   unfold hexOf
   apply UInt8.toNat_inj.1
   rw [if_neg (by omega),UInt8.toNat_ofNat'];omega
  ·cases h
theorem code2_of {c:UInt8}(h:plainB c=false):code2 (hexOf (c.toNat / 16)) (hexOf (c.toNat % 16))=some c:=by
 have hc:=c.toNat_lt
 unfold code2
 rw [hexD_hexOf (by omega),hexD_hexOf (by omega)]
 simp only
 have e:UInt8.ofNat (16*(c.toNat / 16)+c.toNat % 16)=c:=by
  rw [Nat.div_add_mod];simp
 rw [e,h]
 rfl
theorem code2_inv {a b c:UInt8}(h:code2 a b=some c):plainB c=false∧a=hexOf (c.toNat / 16)∧b=hexOf (c.toNat % 16):=by
 unfold code2 at h
 cases h1:hexD a with
 | none=>rw [h1] at h;cases h
 | some x=>
  cases h2:hexD b with
  | none=>rw [h1,h2] at h;cases h
  | some y=>
   rw [h1,h2] at h
   simp only at h
   split at h
   ·cases h
   ·rename_i hp
    injection h with h
    obtain ⟨e1,l1⟩:=hexOf_hexD h1
    obtain ⟨e2,l2⟩:=hexOf_hexD h2
    have hx:c.toNat=16*x+y:=by rw [←h,UInt8.toNat_ofNat'];omega
    refine ⟨by rw [←h];simpa using hp,?_,?_⟩
    ·rw [hx,show (16*x+y) / 16=x by omega,e1]
    ·rw [hx,show (16*x+y) % 16=y by omega,e2]
theorem plain_ne {c:UInt8}(h:plainB c=true):c.toNat≠92∧c.toNat≠34:=by
 unfold plainB at h
 simp only [Bool.and_eq_true,decide_eq_true_iff] at h
 exact ⟨h.2,h.1.2⟩
theorem sign_signOf (c:UInt8)(r:List UInt8):sign (Dt c++r)=some (c,(Dt c).length-1):=by
 unfold Dt
 cases hp:plainB c with
 | true=>
  rw [if_pos rfl]
  show sign (c::r)=_
  rw [sign,if_neg (plain_ne hp).1,if_pos hp];rfl
 | false=>
  rw [if_neg (by decide)]
  show sign (92::hexOf (c.toNat / 16)::hexOf (c.toNat % 16)::r)=_
  rw [sign,if_pos (show (92:UInt8).toNat=92 from rfl),coded,code2_of hp];rfl
theorem sign_inv {m:List UInt8}{c:UInt8}{n:Nat}(h:sign m=some (c,n)):∃r,m=Dt c++r∧n+1=(Dt c).length:=by
 match m,h with
 | [],h=>cases h
 | x::r,h=>
  rw [sign] at h
  split at h
  ·rename_i h92
   have e92:x=92:=UInt8.toNat_inj.1 h92
   subst e92
   match r,h with
   | [],h=>cases h
   | [_],h=>cases h
   | a::b::r',h=>
    rw [coded] at h
    cases hc:code2 a b with
    | none=>rw [hc] at h;cases h
    | some y=>
     rw [hc] at h
     injection h with h
     injection h with h1 h2
     subst h1 h2
     obtain ⟨hp,e1,e2⟩:=code2_inv hc
     refine ⟨r',?_,?_⟩
     ·unfold Dt;rw [hp,if_neg (by decide),e1,e2];rfl
     ·unfold Dt;rw [hp,if_neg (by decide)];rfl
  ·split at h
   ·rename_i hp
    injection h with h
    injection h with h1 h2
    subst h1 h2
    refine ⟨r,?_,?_⟩
    ·unfold Dt;rw [hp,if_pos rfl];rfl
    ·unfold Dt;rw [hp,if_pos rfl];rfl
   ·cases h
end Punnet.Name
end
section
namespace Go.Proofs.YtdfbohaohjaloaaGreatDoor
set_option maxRecDepth 10000
open Go.RowKit Punnet.Name
theorem conv_byte (W:World)(d:UInt8)(z:Int)(hz:z=d.toNat)(t:TypeId) :
 (convert 109 9 (.slice (some ⟨W.heap.size,0,none⟩) 1 1)).run Tryz.prog (W.alloc (.cells #[.int .u8 z] t))=.ok (.string ⟨#[d]⟩) (W.alloc (.cells #[.int .u8 z] t)):=by
 subst hz
 refine run_convert_bytes_back _ 109 9 5 _ _ [d] Tryz.underlying109 Tryz.underlying5 Tryz.underlying9 fun j hj=>?_
 obtain rfl:j=0:=by simpa using hj
 exact World.cell?_alloc_new _ _ _ _
theorem hex_any (n:Int)(h0:0≤n)(h1:n<16)(w:World):Calls Tryz.prog 221 #[.int .u8 n] w fun e w'=>e=.returned (.string ⟨#[hexOf n.toNat]⟩)∧Below w.heap.size w w':=by
 by_cases h:n<10
 ·have hcv:=fun W t=>conv_byte W (hexOf n.toNat) (48+n) (by unfold hexOf;rw [if_pos (by omega),UInt8.toNat_ofNat'];omega) t
  generalize hexOf n.toNat=d at *
  go_enter Tryz.func221,Tryz.ntmps221
  go_wp2
  go_ret
  exact ⟨rfl,(Below.refl _ _).alloc (Nat.le_refl _) _⟩
 ·have hcv:=fun W t=>conv_byte W (hexOf n.toNat) (87+n) (by unfold hexOf;rw [if_neg (by omega),UInt8.toNat_ofNat'];omega) t
  generalize hexOf n.toNat=d at *
  go_enter Tryz.func221,Tryz.ntmps221
  go_wp2
  go_ret
  exact ⟨rfl,(Below.refl _ _).alloc (Nat.le_refl _) _⟩
def byteB (c:UInt8):ByteArray:=⟨(Dt c).toArray⟩
theorem byteB_data (c:UInt8):(byteB c).data.toList=Dt c:=by simp [byteB]
theorem byteB_size (c:UInt8):(byteB c).size=(Dt c).length:=by rw [←byteB_data];simp
set_option maxHeartbeats 800000 in
theorem byte_any (c:UInt8)(w:World):Calls Tryz.prog 136 #[.int .u8 (c.toNat:Int)] w fun e w'=>e=.returned (.string (byteB c))∧Below w.heap.size w w':=by
 have hc:=c.toNat_lt
 have H:=Lib.hid (show plainB c=(decide (32≤c.toNat)&&decide (c.toNat≤126)&&decide (c.toNat≠34)&&decide (c.toNat≠92)) from rfl)
 cases hp:plainB c with
 | true=>
  have HB:=Lib.hid (show byteB c=⟨#[c]⟩ by unfold byteB Dt;rw [hp];rfl)
  rw [H.out] at hp
  simp only [Bool.and_eq_true,decide_eq_true_iff] at hp
  obtain ⟨⟨⟨h1,h2⟩,h3⟩,h4⟩:=hp
  have b3:((c.toNat:Int)==34)=false:=beq_eq_false_iff_ne.2 (by omega)
  have b4:((c.toNat:Int)==92)=false:=beq_eq_false_iff_ne.2 (by omega)
  have hcv:=fun W t=>conv_byte W c (c.toNat:Int) rfl t
  clear H h3 h4
  go_enter Tryz.func136,Tryz.ntmps136
  go_wp2_with fail
  go_ret
  exact ⟨by rw [HB.out];rfl,(Below.refl _ _).alloc (Nat.le_refl _) _⟩
 | false=>
  have HB:=Lib.hid (show byteB c=⟨#[92]⟩++⟨#[hexOf (c.toNat / 16)]⟩++⟨#[hexOf (c.toNat % 16)]⟩ by unfold byteB Dt;rw [hp];rfl)
  have X1:=Lib.hid (hex_any ((c.toNat:Int) / 16) (by omega) (by omega))
  have X2:=Lib.hid (hex_any ((c.toNat:Int) % 16) (by omega) (by omega))
  rw [show ((c.toNat:Int) / 16).toNat=c.toNat / 16 by omega] at X1
  rw [show ((c.toNat:Int) % 16).toNat=c.toNat % 16 by omega] at X2
  have key:c.toNat<32∨(32≤c.toNat∧126<c.toNat)∨(32≤c.toNat∧c.toNat≤126∧((c.toNat:Int)==34)=true)∨(32≤c.toNat∧c.toNat≤126∧((c.toNat:Int)==34)=false∧((c.toNat:Int)==92)=true):=by
   rw [H.out] at hp
   by_cases h1:32≤c.toNat
   ·by_cases h2:c.toNat≤126
    ·by_cases h3:c.toNat=34
     ·right;right;left;exact ⟨h1,h2,beq_iff_eq.2 (by omega)⟩
     ·right;right;right
      refine ⟨h1,h2,beq_eq_false_iff_ne.2 (by omega),beq_iff_eq.2 ?_⟩
      by_cases h4:c.toNat=92
      ·omega
      ·simp [h1,h2,h3,h4] at hp
    ·right;left;omega
   ·left;omega
  clear H hp
  generalize hexOf (c.toNat / 16)=d1 at *
  generalize hexOf (c.toNat % 16)=d2 at *
  rcases key with h | ⟨h,h'⟩ | ⟨h,h',h''⟩ | ⟨h,h',h'',h3⟩
  all_goals
   go_enter Tryz.func136,Tryz.ntmps136
   go_wp2_with fail
   refine (X1.out _).mono ?_
   rintro e w1 ⟨rfl,hb1⟩
   go_wp2_with fail
   refine (X2.out _).mono ?_
   rintro e w2 ⟨rfl,hb2⟩
   go_wp2_with fail
   go_ret
   exact ⟨by rw [HB.out];rfl,below_two hb1 hb2⟩
end Go.Proofs.YtdfbohaohjaloaaGreatDoor
end
section
namespace Go.Proofs.YtdfbohaohjaloaaGreatDoor
set_option maxRecDepth 10000
open Go.RowKit Punnet.Name
theorem byteN_any (n:Nat)(h:n<256)(w:World):Calls Tryz.prog 136 #[.int .u8 (n:Int)] w fun e w'=>e=.returned (.string (byteB (UInt8.ofNat n)))∧Below w.heap.size w w':=by
 have:=byte_any (UInt8.ofNat n) w
 rw [show ((UInt8.ofNat n).toNat:Int)=(n:Int) by rw [UInt8.toNat_ofNat'];omega] at this
 exact this
theorem match_iff (s:ByteArray)(k:Nat)(hk:k<s.size)(x:UInt8) :
 (k+(byteB x).size≤s.size∧((s.extract k (k+(byteB x).size)).toList==(byteB x).toList)=true)↔sign (s.data.toList.drop k)=some (x,(byteB x).size-1):=by
 rw [byteB_size,Lib.toList_data,Lib.toList_data,Lib.extract_data,byteB_data,beq_iff_eq]
 have hlen:s.data.toList.length=s.size:=by simp
 constructor
 ·rintro ⟨h1,h2⟩
  have h3:s.data.toList.drop k=Dt x++(s.data.toList.drop k).drop (Dt x).length:=by
   conv=>lhs;rw [←List.take_append_drop (Dt x).length (s.data.toList.drop k)]
   rw [show k+(Dt x).length-k=(Dt x).length by omega] at h2
   rw [h2]
  rw [h3]
  exact sign_signOf x _
 ·intro h
  obtain ⟨r,h1,h2⟩:=sign_inv h
  have hl:=congrArg List.length h1
  rw [List.length_drop,List.length_append] at hl
  refine ⟨by omega,?_⟩
  rw [h1,show k+(Dt x).length-k=(Dt x).length by omega,List.take_left]
theorem signOf_le (c:UInt8):(Dt c).length≤3:=by unfold Dt;split<;>simp
theorem signOf_pos (c:UInt8):1≤(Dt c).length:=by unfold Dt;split<;>simp
theorem cat_one (T:List UInt8)(x:UInt8):(⟨(T ++ [x]).toArray⟩:ByteArray)=⟨T.toArray⟩++⟨#[x]⟩:=by
 rw [ByteArray.ext_iff,ByteArray.data_append];simp
theorem next_no {r:List UInt8}{C z:Nat}(hq:∀n,sign r=some (UInt8.ofNat C,n)→n=z)(hn:∀j<C,∀n,sign r≠some (UInt8.ofNat j,n))(h:sign r≠some (UInt8.ofNat C,z)):∀j<C+1,∀n,sign r≠some (UInt8.ofNat j,n):=by
 intro j hj n he
 by_cases e:j=C
 ·subst e
  obtain rfl:=hq n he
  exact h he
 ·exact hn j (by omega) n he
def BRel (s:ByteArray)(k0:Nat)(w:World)(k:Nat)(T:List UInt8)(w':World):Prop:=
 Below w.heap.size w w'∧Dq s.data.toList k0=(bodyAt s.data.toList k).map fun p=>(T++p.1,p.2)
def CRel (s:ByteArray)(w:World)(k:Nat)(T:List UInt8)(a o f c:Value)(w':World):Prop:=
 Below w.heap.size w w'∧∃C:Nat,c=.int .i64 (C:Int)∧C≤256 ∧
  ((a=.int .i64 (k:Int)∧o=.string ⟨T.toArray⟩∧f=.bool false∧∀j<C,∀n,sign (s.data.toList.drop k)≠some (UInt8.ofNat j,n)) ∨
     ∃(x:UInt8) (n:Nat),a=.int .i64 ((k+n+1:Nat):Int)∧o=.string ⟨(T ++ [x]).toArray⟩∧f=.bool true∧sign (s.data.toList.drop k)=some (x,n)∧k+n+1≤s.size)
def Begun (s:ByteArray)(k0:Nat)(w:World)(e:Ending)(w':World):Prop:=
 Below w.heap.size w w'∧((Dq s.data.toList k0=none∧e=.returned (.tuple #[.string ⟨#[]⟩,.int .i64 0,.bool false])) ∨
 ∃(t:List UInt8) (n:Nat),Dq s.data.toList k0=some (t,n)∧e=.returned (.tuple #[.string ⟨t.toArray⟩,.int .i64 (n:Int),.bool true]))
set_option maxHeartbeats 2000000 in
theorem begins_go (s:ByteArray)(k0:Nat)(w:World)(hs:s.size≤16777216)(hk0:k0<s.size)(hq:s[k0].toNat=34) :
 Calls Tryz.prog 76 #[.string s,.int .i64 (k0:Int)] w (Begun s k0 w):=by
 have hk0':¬(s.size:Int)≤k0:=by omega
 have b34:((s[k0].toNat:Int) != 34)=false:=by rw [bne_eq_false_iff_eq];omega
 have hml:s.size≤9223372036854775807:=by omega
 have hstart:Dq s.data.toList k0=bodyAt s.data.toList (k0+1):=by
  rw [Dq,dif_pos (by simpa using hk0),if_pos (by rw [Eb s k0 hk0];exact hq)]
 have HS:=Lib.hid hstart
 clear hq hstart
 go_enter Tryz.func76,Tryz.ntmps76
 go_wp2_with fail
 go_loopw [1,7] (fun a o wr=>∃(k:Nat) (T:List UInt8),a=.int .i64 (k:Int)∧o=.string ⟨T.toArray⟩∧k≤s.size∧T.length≤k∧BRel s k0 w k T wr) (fun a _ _=>s.size-(intOf a).toNat)
 case atStart=>exact ⟨k0+1,[],by go_num,rfl,by omega,by simp,Below.refl _ _,by rw [HS.out];simp⟩
 case round=>
  obtain ⟨k,T,rfl,rfl,hk,hT,hr⟩:=hrel
  obtain ⟨wo,rfl⟩:∃wo:World,wo=wr:=⟨_,rfl⟩
  have hbw:=hr.1
  have HB:=Lib.hid hr.2
  clear hr hk0' b34
  by_cases hlt:k<s.size
  ·have hlt':(k:Int)<s.size:=by omega
   have hl:k<s.data.toList.length:=by simpa using hlt
   by_cases h34:s[k].toNat=34
   ·have b1:((s[k].toNat:Int)==34)=true:=beq_iff_eq.2 (by omega)
    have HE:=Lib.hid (show Dq s.data.toList k0=some (T,k+1) by rw [HB.out,bodyAt_end hl (by rw [Eb s k hlt];exact h34)];simp)
    clear h34
    go_wp2_with fail
    go_ret3
    exact ⟨hbw,.inr ⟨T,k+1,HE.out,rfl⟩⟩
   ·have b1:((s[k].toNat:Int)==34)=false:=beq_eq_false_iff_ne.2 (by omega)
    have g34:s.data.toList[k].toNat≠34:=by rw [Eb s k hlt];exact h34
    have HNO:=Lib.hid (fun h=>show Dq s.data.toList k0=none by rw [HB.out,bodyAt_none hl g34 h];rfl)
    have HYES:=Lib.hid (fun x n (h:sign (s.data.toList.drop k)=some (x,n))=>show Dq s.data.toList k0=(bodyAt s.data.toList (k+n+1)).map fun p=>(T ++ [x]++p.1,p.2) by
     rw [HB.out,bodyAt_some hl g34 h]
     cases bodyAt s.data.toList (k+n+1) with
     | none=>rfl
     | some p=>simp)
    clear h34 g34 HB
    go_wp2_with fail
    go_loopw [1,7,8,9] (fun a o f c wr=>CRel s w k T a o f c wr) (fun _ _ _ c _=>257-(intOf c).toNat)
    case atStart=>exact ⟨hbw,0,rfl,by omega,.inl ⟨rfl,rfl,rfl,fun j hj=>absurd hj (by omega)⟩⟩
    case round=>
     obtain ⟨hbc,C,rfl,hC,h⟩:=hrel
     rcases h with ⟨rfl,rfl,rfl,hn⟩ | ⟨x,n,rfl,rfl,rfl,hx,hle⟩
     ·by_cases hc:C<256
      ·have hc':(C:Int)<256:=by omega
       have XB:=Lib.hid (byteN_any C hc)
       have hcv:=fun W t=>conv_byte W (UInt8.ofNat C) (C:Int) (by rw [UInt8.toNat_ofNat'];omega) t
       have hm:=match_iff s k hlt (UInt8.ofNat C)
       have hz1:(byteB (UInt8.ofNat C)).size≤3:=by rw [byteB_size];exact signOf_le _
       have hz0:1≤(byteB (UInt8.ofNat C)).size:=by rw [byteB_size];exact signOf_pos _
       have HQ:∀n,sign (s.data.toList.drop k)=some (UInt8.ofNat C,n)→n=(byteB (UInt8.ofNat C)).size-1:=fun n h=>by rw [byteB_size];obtain ⟨r,h1,h2⟩:=sign_inv h;omega
       generalize byteB (UInt8.ofNat C)=q at *
       have HN:=Lib.hid hn
       clear hn
       by_cases h1:k+q.size≤s.size
       ·have h1':(k:Int)+q.size≤s.size:=by omega
        cases h2:((s.extract k (k+q.size)).toList==q.toList) with
        | true=>
         have HM:=Lib.hid (hm.1 ⟨h1,h2⟩)
         clear hm HQ
         go_wp2_with (go_at_call 136;refine (XB.out _).mono ?_;rintro e w1 ⟨rfl,hb1⟩)
         go_roundw
         case rel=>
          refine ⟨?_,C+1,by go_num,by omega,.inr ⟨UInt8.ofNat C,q.size-1,?_,?_,rfl,HM.out,by omega⟩⟩
          ·exact (hbc.trans (hb1.mono hbc.size)).alloc (Nat.le_trans hbc.size hb1.size) _
          ·congr 1;omega
          ·rw [cat_one]
         case measure=>simp [intOf];omega
        | false=>
         have HM:=Lib.hid (next_no HQ HN.out fun h=>by rw [(hm.2 h).2] at h2;cases h2)
         clear hm HQ
         go_wp2_with (go_at_call 136;refine (XB.out _).mono ?_;rintro e w1 ⟨rfl,hb1⟩)
         go_roundw
         case rel=>exact ⟨hbc.trans (hb1.mono hbc.size),C+1,by go_num,by omega,.inl ⟨rfl,rfl,rfl,HM.out⟩⟩
         case measure=>simp [intOf];omega
       ·have h1':¬(k:Int)+q.size≤s.size:=by omega
        have HM:=Lib.hid (next_no HQ HN.out fun h=>h1 (hm.2 h).1)
        clear hm HQ h1 HNO HYES
        have b2:decide ((k:Int)+(q.size:Int)≤(s.size:Int))=false:=decide_eq_false h1'
        clear h1'
        go_wp2_with (go_at_call 136;refine (XB.out _).mono ?_;rintro e w1 ⟨rfl,hb1⟩)
        go_roundw
        case rel=>exact ⟨hbc.trans (hb1.mono hbc.size),C+1,by go_num,by omega,.inl ⟨rfl,rfl,rfl,HM.out⟩⟩
        case measure=>simp [intOf];omega
      ·have hc':¬(C:Int)<256:=by omega
       have hC2:256≤C:=by omega
       have HE:=Lib.hid (HNO.out (by
        cases h:sign (s.data.toList.drop k) with
        | none=>rfl
        | some p=>obtain ⟨x,n⟩:=p;exact absurd (by rw [h,UInt8.ofNat_toNat]) (hn x.toNat (by have:=x.toNat_lt;omega) n)))
       clear hn
       go_wp2_with fail
       go_ret3
       exact ⟨hbc,.inl ⟨HE.out,rfl⟩⟩
     ·have HY:=Lib.hid (HYES.out x n hx)
      by_cases hc:C<256
      ·have hc':(C:Int)<256:=by omega
       go_wp2_with fail
       go_roundw
       case rel=>exact ⟨k+n+1,T ++ [x],rfl,rfl,hle,by simp;omega,hbc,HY.out⟩
       case measure=>simp [intOf];omega
      ·have hc':¬(C:Int)<256:=by omega
       go_wp2_with fail
       go_roundw
       case rel=>exact ⟨k+n+1,T ++ [x],rfl,rfl,hle,by simp;omega,hbc,HY.out⟩
       case measure=>simp [intOf];omega
  ·have hlt':¬(k:Int)<s.size:=by omega
   have HE:=Lib.hid (show Dq s.data.toList k0=none by rw [HB.out,bodyAt_out (by simpa using hlt)];rfl)
   go_wp2_with fail
   go_ret3
   exact ⟨hbw,.inl ⟨HE.out,rfl⟩⟩
theorem begins_no (s:ByteArray)(k0:Nat)(w:World)(hs:s.size≤16777216)(h:∀hk:k0<s.size,s[k0].toNat≠34) :
 Calls Tryz.prog 76 #[.string s,.int .i64 (k0:Int)] w (Begun s k0 w):=by
 have hq:Dq s.data.toList k0=none:=by
  unfold Dq
  split
  ·rename_i hk
   have hk':k0<s.size:=by simpa using hk
   rw [if_neg (by rw [Eb s k0 hk'];exact h hk')]
  ·rfl
 have HQ:=Lib.hid hq
 clear hq
 by_cases hk:k0<s.size
 ·have hk':¬(s.size:Int)≤k0:=by omega
  have h1:=h hk
  have b34:((s[k0].toNat:Int) != 34)=true:=by rw [bne_iff_ne];omega
  clear h h1
  go_enter Tryz.func76,Tryz.ntmps76
  go_wp2_with fail
  go_ret3
  exact ⟨Below.refl _ _,.inl ⟨HQ.out,rfl⟩⟩
 ·have hk':(s.size:Int)≤k0:=by omega
  clear h
  go_enter Tryz.func76,Tryz.ntmps76
  go_wp2_with fail
  go_ret3
  exact ⟨Below.refl _ _,.inl ⟨HQ.out,rfl⟩⟩
theorem begins_any (s:ByteArray)(k0:Nat)(w:World)(hs:s.size≤16777216) :
 Calls Tryz.prog 76 #[.string s,.int .i64 (k0:Int)] w (Begun s k0 w):=by
 by_cases h:∃hk:k0<s.size,s[k0].toNat=34
 ·obtain ⟨hk,h34⟩:=h
  exact begins_go s k0 w hs hk h34
 ·exact begins_no s k0 w hs fun hk h34=>h ⟨hk,h34⟩
end Go.Proofs.YtdfbohaohjaloaaGreatDoor
end
