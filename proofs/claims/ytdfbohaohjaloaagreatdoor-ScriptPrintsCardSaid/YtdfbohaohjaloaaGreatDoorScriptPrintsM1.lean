/- Part 1. -/
import Derived.Test.YtdfbohaohjaloaaGreatDoorRows
import Derived.WalkKit
import Derived.WalkSpells
import Derived.WalkLawsBesides
import Derived.ScopeJumps
import Derived.Lib.Hide
import Derived.Below
import Derived.ChangeStays
import Derived.ReadAgain
import Derived.ChangeSame
import Derived.ProofKit
import Derived.OpenShut
import Derived.Deep.Draws
import Derived.Deep.AppendLies
import Derived.Laws.CopyRow
import Derived.Laws.Cells
import Derived.Deep.AppendSrc
import Derived.Laws.Tables
import Derived.Laws.MakeOwn
import Derived.Great.BuildSlice
import Derived.Deep.Quiet
import Derived.IntWalk
set_option linter.unusedVariables false
set_option linter.unusedSimpArgs false
set_option maxHeartbeats 1000000
section
namespace Go
section
variable {P:Program} {a:Act} {w:World} {Q:Exit→Act→World→Prop}
theorem Ad0 {c y:Code}(l:Nat)(J:Act→World→Prop)(μ:Act→World→Nat)(hf:findLabel c l=some (.seq .skip y))
 (pass:∀a w,J a w→y.wp P (Exit.jump l (fun a' w'=>J a' w'∧μ a' w' < μ a w) Q) a w)
 (first:RowKit.Hid (∀a w,J a w→y.wp P (Exit.jump l J Q) a w)→c.wp P (Exit.jump l J Q) a w):(Code.scope c).wp P Q a w:=by
 refine wp_scope_jumps l J μ hf (first fun a w hJ=>wp_mono (pass a w hJ) ?_) (fun a w hJ=>wp_seq (wp_skip (pass a w hJ)))
 intro e a' w' h
 cases e with
 |goto l'=>exact ⟨h.1,h.2.1⟩
 |normal=>exact h
 |exit id=>exact h
 |ret=>exact h
 |panic ch=>exact h
 |outgrown=>exact h
end
theorem FM {b c:Bool}(h:b=c):Ending.returned (.bool b)=.returned (.bool c):=by rw [h]
theorem EF (s:ByteArray)(k:Nat)(h:k<s.size):s.data.toList[k]'(by simpa using h)=s[k]:=by simp;rfl
theorem KC {a b:Int}(h:a=b):Ending.returned (.int .i64 a)=.returned (.int .i64 b):=by rw [h]
theorem Io {a b c d:Int}(h:(a,b)=(c,d)):Ending.returned (.tuple #[.int .i64 a,.int .i64 b])=.returned (.tuple #[.int .i64 c,.int .i64 d]):=by injection h with h1 h2;rw [h1,h2]
def Exit.jumps (J:Nat→Act→World→Prop)(Q:Exit→Act→World→Prop):Exit→Act→World→Prop
 | .goto l,a,w=>J l a w
 |e,a,w=>Q e a w
section
variable {P:Program} {a:Act} {w:World} {Q:Exit→Act→World→Prop}
theorem Aj3 {c:Code}(J:Nat→Act→World→Prop)(μ:Nat→Act→World→Nat)(R:Nat→Code)(hf:∀l a w,J l a w→findLabel c l=some (R l))
 (first:c.wp P (Exit.jumps J Q) a w)
 (pass:∀l a w,J l a w→(R l).wp P (Exit.jumps (fun l' a' w'=>J l' a' w'∧μ l' a' w' < μ l a w) Q) a w):(Code.scope c).wp P Q a w:=by
 intro b k cs
 have key:∀n l a w,μ l a w=n→J l a w→∃e a' w',Q e a' w'∧Arrives P (lone (b.at a (.code (R l) :: .inScope c::k)) cs w) b k cs e a' w':=by
  intro n
  induction n using Nat.strongRecOn with
  |_ n ih=>
   intro l a w hn hJ
   obtain ⟨e,a₁,w₁,hq,harr⟩:=pass l a w hJ b (.inScope c::k) cs
   cases e with
   |normal=>exact ⟨.normal,a₁,w₁,hq,Steps.trans harr (.one step_inScope)⟩
   |exit id=>exact ⟨.exit id,a₁,w₁,hq,fun k' hk=>harr k' (by simp [exitTo,hk])⟩
   |goto l'=>
    obtain ⟨hJ',hlt⟩:=hq
    have hg:gotoIn l' (.inScope c::k)=some (.code (R l') :: .inScope c::k):=by simp [gotoIn,hf l' a₁ w₁ hJ']
    obtain ⟨e₂,a₂,w₂,hq₂,harr₂⟩:=ih _ (by omega) l' a₁ w₁ rfl hJ'
    exact ⟨e₂,a₂,w₂,hq₂,.of_steps (harr _ hg) harr₂⟩
   |ret=>exact ⟨_,a₁,w₁,hq,harr⟩
   |panic ch=>exact ⟨_,a₁,w₁,hq,harr⟩
   |outgrown=>exact ⟨_,a₁,w₁,hq,harr⟩
 obtain ⟨e,a₁,w₁,hq,harr⟩:=first b (.inScope c::k) cs
 cases e with
 |normal=>exact ⟨.normal,a₁,w₁,hq,.head step_scope (Steps.trans harr (.one step_inScope))⟩
 |exit id=>exact ⟨.exit id,a₁,w₁,hq,fun k' hk=>.head step_scope (harr k' (by simp [exitTo,hk]))⟩
 |goto l'=>
  have hg:gotoIn l' (.inScope c::k)=some (.code (R l') :: .inScope c::k):=by simp [gotoIn,hf l' a₁ w₁ hq]
  obtain ⟨e₂,a₂,w₂,hq₂,harr₂⟩:=key _ l' a₁ w₁ rfl hq
  exact ⟨e₂,a₂,w₂,hq₂,.of_steps (.head step_scope (harr _ hg)) harr₂⟩
 |ret=>exact ⟨_,a₁,w₁,hq,.of_steps (.one step_scope) harr⟩
 |panic ch=>exact ⟨_,a₁,w₁,hq,.of_steps (.one step_scope) harr⟩
 |outgrown=>exact ⟨_,a₁,w₁,hq,.of_steps (.one step_scope) harr⟩
def three (J0 J1 J2:Act→World→Prop):Nat→Act→World→Prop
 |0=>J0
 |1=>J1
 |2=>J2
 |_=>fun _ _=>False
def TY (m0 m1 m2:Act→World→Nat):Nat→Act→World→Nat
 |0=>m0
 |1=>m1
 |_=>m2
theorem Avg {c y0 y1 y2:Code}(J0 J1 J2:Act→World→Prop)(m0 m1 m2:Act→World→Nat)
 (h0:findLabel c 0=some (.seq .skip y0)) (h1:findLabel c 1=some (.seq .skip y1)) (h2:findLabel c 2=some (.seq .skip y2))
 (p0:∀a w,J0 a w→y0.wp P (Exit.jumps (fun l' a' w'=>three J0 J1 J2 l' a' w'∧TY m0 m1 m2 l' a' w' < m0 a w) Q) a w)
 (p1:∀a w,J1 a w→y1.wp P (Exit.jumps (fun l' a' w'=>three J0 J1 J2 l' a' w'∧TY m0 m1 m2 l' a' w' < m1 a w) Q) a w)
 (p2:∀a w,J2 a w→y2.wp P (Exit.jumps (fun l' a' w'=>three J0 J1 J2 l' a' w'∧TY m0 m1 m2 l' a' w' < m2 a w) Q) a w)
 (first:RowKit.Hid (∀a w,J0 a w→y0.wp P (Exit.jumps (three J0 J1 J2) Q) a w)→c.wp P (Exit.jumps (three J0 J1 J2) Q) a w):(Code.scope c).wp P Q a w:=by
 refine Aj3 (three J0 J1 J2) (TY m0 m1 m2) (fun l=>.seq .skip (match l with|0=>y0|1=>y1|_=>y2)) ?_ (first fun a w hJ=>wp_mono (p0 a w hJ) ?_) ?_
 ·intro l a w hJ
  match l,hJ with
  |0,_=>exact h0
  |1,_=>exact h1
  |2,_=>exact h2
 ·intro e a' w' h
  cases e with
  |goto l'=>exact h.1
  |normal=>exact h
  |exit id=>exact h
  |ret=>exact h
  |panic ch=>exact h
  |outgrown=>exact h
 ·intro l a w hJ
  match l,hJ with
  |0,hJ=>exact wp_seq (wp_skip (p0 a w hJ))
  |1,hJ=>exact wp_seq (wp_skip (p1 a w hJ))
  |2,hJ=>exact wp_seq (wp_skip (p2 a w hJ))
theorem JR {ops:Array Oper}{rest:List Oper}{o:Oper}(hgd:o.guard=none)(s x:Operand)(t:TypeId)
 (ho:o.op=.call { callee:=.builtin .append,args:=#[s,x],argTypes:=#[t,t] })
 (base:Nat) (e:TypeId) (i:TypeInfo) (z:Value) (bytes:Nat) (ht:P.underlying t=some (.slice e)) (hi:P.info? e=some i) (hz:i.zero=some z)
 (hsize:i.size=1) (hby:i.bytes=bytes) (hzs:z.cells.size=1) (te:TypeId) (u:Value) (h1:u.oneCell'=true)
 (v:Value) (n:Nat) (xs:List Value) (hs:a.eval s=v) (hown:w.ownsRow base e 1 v n xs) (hx:a.eval x=.slice (some ⟨w.heap.size,0,none⟩) 1 1)
 (h63:n+1≤maxLen) (hbytes:(n+1)*bytes≤140737488355328) (hbase:base≤w.heap.size)
 (h:∀v' w',w'.ownsRow base e 1 v' (n+1) (xs ++ [u])→RowKit.Below base w w'→wpList P ops Q rest (a.put o.dst v') w'):wpList P ops Q (o::rest) a (w.alloc (.cells #[u] te)):=by
 refine wpList_append_own _ hgd s x t ho base e i z 1 bytes ht hi hz hsize hby hzs (by omega) v n xs hs (hown.alloc _) ⟨w.heap.size,0,none⟩ 1 1 [u] hx rfl ?_ ?_ h63 hbytes (by simp;omega) ?_
 ·exact cell_one_new _ _ _
 ·intro y hy
  obtain rfl:y=u:=by simpa using hy
  exact h1
 ·intro v' w' hown' hg _
  refine h v' w' hown' (((RowKit.Below.refl _ _).alloc hbase _).grown hg (by simp;omega) ?_)
  intro g hg'
  rcases hown.2 with ⟨rfl,_⟩|⟨g',cap,cur,rfl,hb,_⟩
  ·simp [Value.ownBlock] at hg'
  ·simp [Value.ownBlock] at hg';omega
end
theorem L6 {w w1:World}{base n size:Nat}{e:TypeId}{v:Value}{xs:List Value}(h:w.ownsRow base e size v n xs)(hb:RowKit.Below w.heap.size w w1):w1.ownsRow base e size v n xs:=by
 refine ⟨h.1,?_⟩
 rcases h.2 with h2|⟨g,cap,cur,h1,h2,h3,h4⟩
 ·exact .inl h2
 ·have hlt:g<w.heap.size:=by
   rcases Nat.lt_or_ge g w.heap.size with hlt|hge
   ·exact hlt
   ·rw [Array.getElem?_eq_none hge] at h3;cases h3
  exact .inr ⟨g,cap,cur,h1,h2,(hb.block g hlt).trans h3,h4⟩
theorem AbD {w W w1:World}{base n size:Nat}{e:TypeId}{v:Value}{xs:List Value}(h:w.ownsRow base e size v n xs)(hW:RowKit.Below base w W)(hbase:base≤W.heap.size)(hg:W.grownBy w1 v.ownBlock):RowKit.Below base w w1:=by
 refine hW.grown hg hbase ?_
 intro g hg'
 rcases h.2 with ⟨rfl,_⟩|⟨g',cap,cur,rfl,hb,_⟩
 ·simp [Value.ownBlock] at hg'
 ·simp [Value.ownBlock] at hg';omega
theorem Ti {w w1 w2:World}(h1:RowKit.Below w.heap.size w w1)(h2:RowKit.Below w1.heap.size w1 w2):RowKit.Below w.heap.size w w2:=h1.trans (h2.mono h1.size)
end Go
end
section
namespace Go.RowKit
open Go.ChangeShapes Go.WideShapes
def Reads (P:Program)(w:World)(t:TypeId)(cs:List Value):Prop:=
 ∃(H:Type) (enc:TypeId×Value→H) (fuel:Nat) (x:DataW H×List MemPlace),DataW.trod enc P w 0 (fun _=>true) true fuel t cs=some x
section
variable {P:Program} {w:World} {t e:TypeId} {cs:List Value}
theorem Reads.int {k:IntKind}(ht:P.underlying t=some (.int k))(h:Reads P w t cs):∃n,cs= [.int k n]∧(Lit.int k n).wf=true:=by
 obtain ⟨H,enc,fuel,x,hf⟩:=h
 obtain ⟨n,h1,h2,h3⟩:=DataW.trod_int ht hf
 exact ⟨n,h1,h3⟩
theorem Reads.string (ht:P.underlying t=some .string)(h:Reads P w t cs):∃s:ByteArray,cs= [.string s]∧s.size≤maxLen:=by
 obtain ⟨H,enc,fuel,x,hf⟩:=h
 cases fuel with
 |zero=>simp [DataW.trod] at hf
 |succ n=>
  simp only [DataW.trod,ht] at hf
  split at hf<;>first|(rename_i s _;split at hf;(· exact ⟨_,rfl,by assumption⟩);(· cases hf))|(simp at *)
theorem Reads.struct {fs:Array Field}(ht:P.underlying t=some (.struct fs))(h:Reads P w t cs):cs.length=P.cellsOf t∧∀f∈fs.toList,Reads P w f.type ((cs.drop f.offset).take (P.cellsOf f.type)):=by
 obtain ⟨H,enc,fuel,x,hf⟩:=h
 cases fuel with
 |zero=>simp [DataW.trod] at hf
 |succ n=>
  have hf':(if cs.length=P.cellsOf t then (fs.toList.mapM fun f=>DataW.trod enc P w 0 (fun _=>true) true n f.type ((cs.drop f.offset).take (P.cellsOf f.type))).map fun xs=>(DataW.agg (xs.map (·.1)),xs.flatMap (·.2)) else none)=some x:=by
   rw [←hf];simp only [DataW.trod,ht]
  split at hf'
  ·rename_i hl
   refine ⟨hl,fun f hm=>?_⟩
   rw [Option.map_eq_some_iff] at hf'
   obtain ⟨r,hr,_⟩:=hf'
   have key:∀(l:List Field) (r:List (DataW H×List MemPlace)),l.mapM (fun f=>DataW.trod enc P w 0 (fun _=>true) true n f.type ((cs.drop f.offset).take (P.cellsOf f.type)))=some r→f∈l→∃y,DataW.trod enc P w 0 (fun _=>true) true n f.type ((cs.drop f.offset).take (P.cellsOf f.type))=some y:=by
    intro l
    induction l with
    |nil=>intro r _ h;cases h
    |cons a l ih=>
     intro r hr hm
     rw [List.mapM_cons] at hr
     cases ha:DataW.trod enc P w 0 (fun _=>true) true n a.type ((cs.drop a.offset).take (P.cellsOf a.type)) with
     |none=>rw [ha] at hr;cases hr
     |some y=>
      rw [ha] at hr
      cases hl:l.mapM (fun f=>DataW.trod enc P w 0 (fun _=>true) true n f.type ((cs.drop f.offset).take (P.cellsOf f.type))) with
      |none=>rw [hl] at hr;cases hr
      |some r'=>
       rcases List.mem_cons.1 hm with rfl|hm
       ·exact ⟨y,ha⟩
       ·exact ih r' hl hm
   obtain ⟨y,hy⟩:=key _ _ hr hm
   exact ⟨H,enc,n,y,hy⟩
  ·cases hf'
theorem Atf {a:Addr}{n:Nat}{es:List Value}(h:w.cells? 0 a n=some es):es.length=n∧∀j (hj:j<es.length),w.cell? (a.add j)=some es[j]:=by
 unfold World.cells? at h
 rw [if_pos (Nat.zero_le _)] at h
 have key:∀(l:List Nat) (r:List Value),l.mapM (fun i=>w.cell? (a.add i))=some r→r.length=l.length∧∀j (hj:j<r.length) (hl:j<l.length),w.cell? (a.add l[j])=some r[j]:=by
  intro l
  induction l with
  |nil=>intro r hr;simp at hr;subst hr;exact ⟨rfl,fun j hj=>absurd hj (by simp)⟩
  |cons b l ih=>
   intro r hr
   rw [List.mapM_cons] at hr
   cases hb:w.cell? (a.add b) with
   |none=>rw [hb] at hr;cases hr
   |some y=>
    rw [hb] at hr
    cases hl:l.mapM (fun i=>w.cell? (a.add i)) with
    |none=>rw [hl] at hr;cases hr
    |some r'=>
     rw [hl] at hr
     obtain rfl:r=y::r':=by injection hr with hr;exact hr.symm
     obtain ⟨h1,h2⟩:=ih r' hl
     refine ⟨by simp [h1],fun j hj hl'=>?_⟩
     cases j with
     |zero=>exact hb
     |succ j=>exact h2 j (by simpa using hj) (by simpa using hl')
 obtain ⟨h1,h2⟩:=key _ _ h
 rw [List.length_range] at h1
 refine ⟨h1,fun j hj=>?_⟩
 have:=h2 j hj (by simpa using (by omega:j<n))
 simpa using this
theorem Reads.slice (ht:P.underlying t=some (.slice e))(h:Reads P w t cs):cs= [.slice none 0 0]∨∃(a:Addr) (len cap:Nat),cs= [.slice (some a) len cap]∧len≤cap∧cap≤maxLen ∧
 ∀i<len,∃es,es.length=P.cellsOf e∧(∀j (hj:j<es.length),w.cell? ((a.add (i*P.cellsOf e)).add j)=some es[j])∧Reads P w e es:=by
 obtain ⟨H,enc,fuel,x,hf⟩:=h
 rcases DataW.trod_slice ht hf with h0|⟨a,len,cap,elems,rest,n,_,rfl,rfl,hb,hl,hm,hlen,hel,hsp,hns⟩
 ·exact .inl h0.1
 ·refine .inr ⟨a,len,cap,rfl,hl,hm,fun i hi=>?_⟩
  have h1:=hel i hi
  have hlt:i<elems.length:=by omega
  rw [List.getElem?_eq_getElem hlt] at h1
  rw [Option.bind_eq_some_iff] at h1
  obtain ⟨es,h2,h3⟩:=h1
  obtain ⟨h4,h5⟩:=Atf h2
  exact ⟨es,h4,h5,H,enc,n,_,h3⟩
theorem Reads.one {v:Value}{H:Type}{enc:TypeId×Value→H}{d:DataW H}{ps:List MemPlace}(h:DataW.Trod enc P w 0 (fun _=>true) true t v d ps):Reads P w t v.cells.toList:=by
 obtain ⟨fuel,hf⟩:=h
 exact ⟨H,enc,fuel,_,hf⟩
end
section
variable {H:Type} {enc:TypeId×Value→H} {P:Program}
theorem AnX (K:Kids P (· < P.types.size))(hz:∀{t e:TypeId},t<P.types.size→P.underlying t=some (.slice e)→0<P.cellsOf e){W W':World}(hb:Below W.heap.size W W')(sp:Nat→Bool) :
 ∀{ts:List TypeId} {vs:List Value} {ds:List (DataW H)} {ps:List MemPlace},(∀t∈ts,t<P.types.size)→DataW.TrodAll enc P W 0 (fun _=>true) true ts vs ds ps→(∀p∈ps,sp p.block=true)→DataW.TrodAll enc P W' 0 sp true ts vs ds ps:=by
 intro ts
 induction ts with
 |nil=>intro vs ds ps _ h _;obtain ⟨rfl,rfl,rfl⟩:=trodAll_nil h;exact trodAll_mk0
 |cons t ts ih=>
  intro vs ds ps ht h hs
  have hlt:=h.lt
  obtain ⟨v,vs',d,ds',p,q,rfl,rfl,rfl,⟨fuel,h0⟩,r⟩:=trodAll_cons h
  refine ⟨p,q,⟨fuel,DataW.trod_stays K hz (fun h=>by cases h) (ht t (List.mem_cons_self ..)) h0 ?_ ?_⟩,ih (fun t h=>ht t (List.mem_cons_of_mem _ h)) r (fun p hp=>hs p (List.mem_append_right _ hp)),rfl⟩
  ·intro p hp
   have:=hlt p (List.mem_append_left _ hp)
   cases p with
   |cell b off=>exact hb.cell (p:=⟨b,off,none⟩) this
   |map b=>exact hb.block b this
  ·exact fun p hp=>hs p (List.mem_append_left _ hp)
theorem Ap9 {f:Func}{s:ChangeSpec}{apart fresh handsOn:Bool}(K:Kids P (· < P.types.size))(hz:∀{t e:TypeId},t<P.types.size→P.underlying t=some (.slice e)→0<P.cellsOf e)(hts:∀t∈f.params.toList,t<P.types.size)
 {W W':World} {args:Array Value} {v:Value} {ds:List (DataW H)} {before:List MemPlace}
 (hv:s.vars= [])
 (hW:DataW.Whole enc P f.params.toList s.vars apart W args.toList ds [] before)
 (hres:∀(b:Nat) (sp:Nat→Bool) (hd:Bool),DataW.TrodAll enc P W' b sp hd f.resultTypes.toList (v.resultList f.resultTypes.size) (s.fn H (ds ++ [])).results [])
 (hargs:(s.fn H (ds ++ [])).args=ds) (hvars:(s.fn H (ds ++ [])).vars= [])
 (hb:Below W.heap.size W W'):s.post enc P f apart fresh handsOn false W args v W':=by
 have hlt:∀p∈before,p.block<W.heap.size:=fun p hp=>hW.lt p hp
 have hW':=hW
 obtain ⟨p,q,hA,hV,rfl,hfz,hnd⟩:=hW
 rw [hv] at hV
 obtain ⟨_,rfl⟩:=trodVars_none hV
 refine ⟨ds,[],p ++ [],[],p,[],hW',hres _ _ _,?_,?_,hb.frame _,fun h=>by cases h⟩
 ·rw [hargs]
  refine AnX K hz hb _ hts hA fun x hx=>?_
  simpa using hlt x (List.mem_append_left _ hx)
 ·rw [hvars,hv];rfl
end
end Go.RowKit
namespace Go.RowKit
theorem Al3 {α:Type}{Q:Nat→α→Prop}:∀(n:Nat),(∀i<n,∃x,Q i x)→∃l:List α,l.length=n∧∀i (hi:i<l.length),Q i l[i]:=by
 intro n
 induction n with
 |zero=>intro _;exact ⟨[],rfl,fun i hi=>absurd hi (by simp)⟩
 |succ n ih=>
  intro h
  obtain ⟨l,h1,h2⟩:=ih fun i hi=>h i (by omega)
  obtain ⟨x,hx⟩:=h n (by omega)
  refine ⟨l ++ [x],by simp [h1],fun i hi=>?_⟩
  by_cases hl:i<l.length
  ·rw [List.getElem_append_left hl];exact h2 i hl
  ·have:i=n:=by simp at hi;omega
   subst this
   rw [List.getElem_append_right (by omega)];simpa [h1] using hx
theorem AsJ {w:World}{a:Addr}{v:Value}(h:w.cell? a=some v):a=⟨a.block,a.off,none⟩:=by
 obtain ⟨b,o,s⟩:=a
 cases s with
 |none=>rfl
 |some k=>unfold World.cell? at h;split at h<;>simp at h
theorem GY (b o j:Nat):(⟨b,o,none⟩:Addr).add j=⟨b,o+j,none⟩:=by
 unfold Addr.add;split<;>simp_all
end Go.RowKit
end
section
namespace Go.RowKit
structure NP (S:Nat→Prop) (w w':World):Prop where
 os:w'.os=w.os
 tape:w'.tape=w.tape
 output:w'.output=w.output
 size:w.heap.size≤w'.heap.size
 block:∀k,k<w.heap.size→¬S k→w'.heap[k]? = w.heap[k]?
theorem NP.trans {S:Nat→Prop}{a b c:World}(h:NP S a b)(k:NP S b c):NP S a c:=
 ⟨k.os.trans h.os,k.tape.trans h.tape,k.output.trans h.output,Nat.le_trans h.size k.size,fun i hi hs=>(k.block i (Nat.lt_of_lt_of_le hi h.size) hs).trans (h.block i hi hs)⟩
theorem NP.mono {S T:Nat→Prop}{a b:World}(h:NP S a b)(hST:∀k,k<a.heap.size→S k→T k):NP T a b:=
 ⟨h.os,h.tape,h.output,h.size,fun i hi ht=>h.block i hi fun hs=>ht (hST i hi hs)⟩
theorem block_lt {w:World}{k:Nat}{o:Obj}(h:w.heap[k]? = some o):k<w.heap.size:=by
 rcases Nat.lt_or_ge k w.heap.size with h1|h1
 ·exact h1
 ·rw [Array.getElem?_eq_none h1] at h;cases h
theorem Ahd {w:World}{base base' n size:Nat}{e:TypeId}{v:Value}{xs:List Value}(h:w.ownsRow base e size v n xs)(hb:base'≤base):w.ownsRow base' e size v n xs:=by
 refine ⟨h.1,?_⟩
 rcases h.2 with h2|⟨g,cap,cur,h1,h2,h3⟩
 ·exact .inl h2
 ·exact .inr ⟨g,cap,cur,h1,Nat.le_trans hb h2,h3⟩
end Go.RowKit
namespace Go
open Go.RowKit
end Go
end
section
namespace Go
abbrev gv0:List Value:=[.string ⟨#[]⟩,.string ⟨#[97,100,100]⟩,.string ⟨#[114,101,109,111,118,101]⟩,.string ⟨#[97,100,106,117,115,116]⟩,.string ⟨#[115,101,116]⟩,.string ⟨#[112,117,116]⟩,.string ⟨#[116,97,107,101]⟩,.string ⟨#[99,108,101,97,114]⟩,.string ⟨#[112,117,98,108,105,115,104]⟩,.string ⟨#[115,119,105,116,99,104]⟩,.string ⟨#[118,105,101,119]⟩,.string ⟨#[97,116]⟩,.string ⟨#[112,114,111,106,101,99,116]⟩]
abbrev gv1:List Value:=[.string ⟨#[]⟩,.string ⟨#[]⟩,.string ⟨#[104,101,108,108,111]⟩,.string ⟨#[100,101,108,105,118,101,114]⟩,.string ⟨#[108,111,115,101]⟩,.string ⟨#[100,111,117,98,108,101]⟩,.string ⟨#[99,117,116]⟩,.string ⟨#[102,117,115,101]⟩,.string ⟨#[99,114,97,115,104]⟩,.string ⟨#[102,111,108,100]⟩,.string ⟨#[109,101,101,116]⟩,.string ⟨#[]⟩,.string ⟨#[]⟩]
abbrev gv2:List Value:=[.string ⟨#[]⟩,.string ⟨#[114,101,110,97,109,101]⟩,.string ⟨#[]⟩,.string ⟨#[]⟩,.string ⟨#[104,111,105,115,116]⟩,.string ⟨#[112,108,117,110,103,101]⟩,.string ⟨#[115,112,108,105,116]⟩,.string ⟨#[119,114,97,112]⟩,.string ⟨#[]⟩,.string ⟨#[]⟩,.string ⟨#[]⟩,.string ⟨#[]⟩,.string ⟨#[]⟩]
abbrev gv3:List Value:=[.string ⟨#[]⟩,.string ⟨#[99,111,117,110,116,101,114]⟩,.string ⟨#[116,101,120,116]⟩,.string ⟨#[]⟩,.string ⟨#[108,105,115,116]⟩,.string ⟨#[]⟩,.string ⟨#[]⟩,.string ⟨#[]⟩,.string ⟨#[]⟩,.string ⟨#[]⟩,.string ⟨#[]⟩,.string ⟨#[]⟩,.string ⟨#[]⟩]
abbrev I9:Nat→Option (List Value):=fun g=>match g with
 |0=>some gv0
 |1=>some gv1
 |2=>some gv2
 |3=>some gv3
 |_=>none
end Go
end
section
namespace Go.Vm
open Go.RowKit
inductive D where
 |sc (v:Value)
 |agg (cs:List D)
 |row (xs:List D)
 |ptr (id off:Nat)
 |mp (id:Nat)
 |fn (f:FuncId) (cs:List D)
 |rr (id sz n:Nat)
 |stale
instance:Inhabited D:=⟨.row []⟩
def D.cells:D→List D
 | .agg cs=>cs
 |d=>[d]
def flat (xs:List D):List D:=xs.flatMap D.cells
theorem Qy (xs ys:List D):flat (xs++ys)=flat xs++flat ys:=by simp [flat]
theorem flat_length {sz:Nat}:∀{xs:List D},(∀x∈xs,x.cells.length=sz)→(flat xs).length=xs.length*sz
 | [],_=>by simp [flat]
 |x::xs,h=>by
  have:=flat_length (xs:=xs) (fun y hy=>h y (List.mem_cons_of_mem _ hy))
  have hx:=h x (List.mem_cons_self ..)
  simp only [flat,List.flatMap_cons,List.length_append,List.length_cons] at this ⊢
  rw [this,hx,Nat.add_mul,Nat.one_mul,Nat.add_comm]
theorem Aca {sz:Nat}:∀{xs:List D} {i:Nat} {x:D} {j:Nat} {c:D},(∀x∈xs,x.cells.length=sz)→xs[i]? = some x→x.cells[j]? = some c→(flat xs)[i*sz+j]? = some c
 | [],i,x,j,c,_,hx,_=>by simp at hx
 |y::ys,0,x,j,c,h,hx,hc=>by
  simp only [List.getElem?_cons_zero,Option.some.injEq] at hx
  subst hx
  have hj:=(List.getElem?_eq_some_iff.1 hc).1
  simp only [flat,List.flatMap_cons,Nat.zero_mul,Nat.zero_add]
  rw [List.getElem?_append_left hj];exact hc
 |y::ys,i+1,x,j,c,h,hx,hc=>by
  have hy:=h y (List.mem_cons_self ..)
  have ih:=Aca (xs:=ys) (fun z hz=>h z (List.mem_cons_of_mem _ hz)) (by simpa using hx) hc
  have e:(i+1)*sz+j=sz+(i*sz+j):=by rw [Nat.add_mul,Nat.one_mul];omega
  simp only [flat,List.flatMap_cons] at ih ⊢
  rw [e,List.getElem?_append_right (by omega),hy]
  simpa using ih
def BN:Value→Bool
 | .bool _ | .int .. | .float .. | .complex .. | .string _ | .nilFunc | .nilIface=>true
 | .pointer none | .map none=>true
 |_=>false
theorem LQ {v:Value}(h:BN v=true):v.oneCell'=true:=by
 cases v<;>simp_all [BN,Value.oneCell']
inductive Fa where
 |frozen
 |box (t:Nat)
 |row (τ n:Nat)
 |obj (id:Nat) (wr:Bool)
 |priv (id:Nat)
 |pbox (id:Nat)
 deriving DecidableEq
abbrev Aq:=Nat→Fa
def DD (ro:Aq)(b off:Nat):Prop:=
 match ro b with
 | .frozen=>True
 | .box _=>False
 | .row _ n=>off<n
 | .obj _ _=>False
 | .priv _=>False
 | .pbox _=>False
inductive Rep (ro:Aq) (w:World):Value→D→Prop
 |sc {v:Value} (h:BN v=true):Rep ro w v (.sc v)
 |agg {arr:Array Value} {cs:List D} (hl:arr.size=cs.length) (h1:∀u∈arr.toList,u.oneCell'=true)
  (h:∀(i:Nat) (u:Value) (c:D),arr.toList[i]? = some u→cs[i]? = some c→Rep ro w u c):Rep ro w (.agg arr) (.agg cs)
 |nil {a:Option Addr} {cap:Nat} (hm:cap≤maxLen):Rep ro w (.slice a 0 cap) (.row [])
 |row {b off cap sz:Nat} {xs:List D} (us:List Value) (hsz:0<sz) (hlen:xs.length≤cap) (hm:cap≤maxLen) (hus:us.length=xs.length*sz) (hw:∀x∈xs,x.cells.length=sz)
  (h1:∀u∈us,u.oneCell'=true) (hcell:∀(j:Nat) (u:Value),us[j]? = some u→w.cell? ⟨b,off+j,none⟩=some u∧DD ro b (off+j))
  (h:∀(j:Nat) (u:Value) (c:D),us[j]? = some u→(flat xs)[j]? = some c→Rep ro w u c):Rep ro w (.slice (some ⟨b,off,none⟩) xs.length cap) (.row xs)
 |ptr {b id off:Nat} {k:Bool} (hb:b<w.heap.size) (h:ro b=.obj id k):Rep ro w (.pointer (some ⟨b,off,none⟩)) (.ptr id off)
 |mp {b id:Nat} {k:Bool} (hb:b<w.heap.size) (h:ro b=.obj id k):Rep ro w (.map (some b)) (.mp id)
 |fn {f:FuncId} {cap:Array Value} {cs:List D} (hl:cap.size=cs.length) (h:∀(i:Nat) (u:Value) (c:D),cap.toList[i]? = some u→cs[i]? = some c→Rep ro w u c):Rep ro w (.func (.func f) #[] cap) (.fn f cs)
structure Evo (ro ro':Aq) (w w':World):Prop where
 cell:∀b off u,DD ro b off→w.cell? ⟨b,off,none⟩=some u→w'.cell? ⟨b,off,none⟩=some u∧DD ro' b off
 obj:∀b id k,b<w.heap.size→ro b=.obj id k→b<w'.heap.size∧∃k',ro' b=.obj id k'
theorem Rep.Bi {ro ro':Aq}{w w':World}(hc:Evo ro ro' w w'){v:Value}{d:D}(h:Rep ro w v d):Rep ro' w' v d:=by
 induction h with
 |sc h=>exact .sc h
 |agg hl h1 _ ih=>exact .agg hl h1 ih
 |nil hm=>exact .nil hm
 |row us hsz hlen hm hus hw h1 hcell _ ih=>
  exact .row us hsz hlen hm hus hw h1 (fun j u hj=>hc.cell _ _ _ (hcell j u hj).2 (hcell j u hj).1) ih
 |ptr hb h=>exact .ptr (hc.obj _ _ _ hb h).1 (hc.obj _ _ _ hb h).2.choose_spec
 |mp hb h=>exact .mp (hc.obj _ _ _ hb h).1 (hc.obj _ _ _ hb h).2.choose_spec
 |fn hl _ ih=>exact .fn hl ih
def AX (ro:Aq)(w:World)(us:List Value)(cs:List D):Prop:=
 us.length=cs.length∧(∀u∈us,u.oneCell'=true)∧∀(j:Nat) (u:Value) (c:D),us[j]? = some u→cs[j]? = some c→Rep ro w u c
theorem AX.Bi {ro ro':Aq}{w w':World}(hc:Evo ro ro' w w'){us:List Value}{cs:List D}(h:AX ro w us cs):AX ro' w' us cs:=
 ⟨h.1,h.2.1,fun j u c hu hd=>(h.2.2 j u c hu hd).Bi hc⟩
theorem AX.append {ro:Aq}{w:World}{us vs:List Value}{cs ds:List D}(h:AX ro w us cs)(k:AX ro w vs ds):AX ro w (us++vs) (cs++ds):=by
 refine ⟨by simp [h.1,k.1],?_,?_⟩
 ·intro u hu
  rcases List.mem_append.1 hu with hu|hu
  ·exact h.2.1 u hu
  ·exact k.2.1 u hu
 ·intro j u c hu hc
  by_cases hj:j<us.length
  ·rw [List.getElem?_append_left hj] at hu
   rw [List.getElem?_append_left (by rw [←h.1];exact hj)] at hc
   exact h.2.2 j u c hu hc
  ·rw [List.getElem?_append_right (by omega)] at hu
   rw [List.getElem?_append_right (by rw [←h.1];omega),←h.1] at hc
   exact k.2.2 _ u c hu hc
theorem AX.nil {ro:Aq}{w:World}:AX ro w [] []:=⟨rfl,by simp,by simp⟩
theorem AX.drop {ro:Aq}{w:World}{us:List Value}{cs:List D}(h:AX ro w us cs)(n:Nat):AX ro w (us.drop n) (cs.drop n):=
 ⟨by simp [h.1],fun u hu=>h.2.1 u (List.mem_of_mem_drop hu),fun j u c hu hc=>h.2.2 (n+j) u c (by rw [←List.getElem?_drop];exact hu) (by rw [←List.getElem?_drop];exact hc)⟩
theorem AX.take {ro:Aq}{w:World}{us:List Value}{cs:List D}(h:AX ro w us cs)(n:Nat):AX ro w (us.take n) (cs.take n):=by
 refine ⟨by simp [h.1],fun u hu=>h.2.1 u (List.mem_of_mem_take hu),fun j u c hu hc=>?_⟩
 rw [List.getElem?_take] at hu hc
 split at hu
 ·rw [if_pos (by assumption)] at hc;exact h.2.2 j u c hu hc
 ·cases hu
theorem Vy {ro:Aq}{w:World}{v:Value}{d:D}(hv:v.oneCell'=true)(h:Rep ro w v d):AX ro w [v] [d]:=by
 refine ⟨rfl,by simpa using hv,fun j u c hu hc=>?_⟩
 cases j with
 |zero=>simp at hu hc;subst hu hc;exact h
 |succ j=>simp at hu
theorem Rep.cells {ro:Aq}{w:World}{v:Value}{d:D}(h:Rep ro w v d):AX ro w v.cells.toList d.cells:=by
 cases h with
 |sc h=>
  have hone:=LQ h
  have e:v.cells = #[v]:=by cases v<;>simp_all [Value.cells,Value.oneCell']
  rw [e]
  refine ⟨rfl,by simpa using hone,fun j u c hu hc=>?_⟩
  cases j with
  |zero=>simp [D.cells] at hu hc;subst hu hc;exact .sc h
  |succ j=>simp at hu
 |agg hl h1 h=>exact ⟨by simpa [Value.cells,D.cells] using hl,by simpa [Value.cells] using h1,by simpa [Value.cells,D.cells] using h⟩
 |nil hm=>
  refine ⟨rfl,by simp [Value.cells,Value.oneCell'],fun j u c hu hc=>?_⟩
  cases j with
  |zero=>simp [D.cells,Value.cells] at hu hc;subst hu hc;exact .nil hm
  |succ j=>simp [Value.cells] at hu
 |row us hsz hlen hm hus hw h1 hcell h=>
  refine ⟨rfl,by simp [Value.cells,Value.oneCell'],fun j u c hu hc=>?_⟩
  cases j with
  |zero=>simp [D.cells,Value.cells] at hu hc;subst hu hc;exact .row us hsz hlen hm hus hw h1 hcell h
  |succ j=>simp [Value.cells] at hu
 |ptr hb h=>exact Vy (by simp [Value.oneCell']) (.ptr hb h)
 |mp hb h=>exact Vy (by simp [Value.oneCell']) (.mp hb h)
 |fn hl h=>exact Vy (by simp [Value.oneCell']) (.fn hl h)
inductive C where
 |d (x:D)
 |own (τ:Nat) (e:TypeId) (xs:List D)
 |nil
inductive S where
 |junk
 |c (x:C)
 |box (cs:List D)
 |ref (t off:Nat)
 |at_ (cs:List D) (off:Nat)
 |tup (cs:List C)
 |obj (cs:List D)
 |mapo (es:List (D×D))
 |iter (id n:Nat) (seen:List Nat)
 |gbox (sz:Nat) (xs:List D)
 |sref (id sz n:Nat)
 |gref (id sz off:Nat)
 |free
 |ubox (cs:List D)
 |uagg (cs:List D)
 |uobj (cs:List D)
 |pack (cs:List D) (rows:List (Nat×Nat×List D))
instance:Inhabited S:=⟨.junk⟩
abbrev Env:=Nat→S
abbrev BIG:Nat:=500000
abbrev NAM:Nat:=1000000
theorem nam {d:Nat}(h:d<BIG):d<NAM:=Nat.lt_of_lt_of_le h (by decide)
theorem Yg {d:Nat}(h:NAM≤d):BIG≤d:=Nat.le_trans (by decide) h
def upd (env:Env)(t:Option Nat)(s:S):Env:=match t with
 |none=>env
 |some t=>fun u=>if u=t then s else env u
def CV (P:Program)(base:Nat)(ro:Aq)(w:World)(v:Value):C→Prop
 | .d x=>Rep ro w v x
 | .nil=>v=.slice none 0 0
 | .own τ e xs=>∃sz us,0<sz∧P.cellsOf e=sz∧w.ownsRow base e sz v xs.length us∧(∀x∈xs,x.cells.length=sz)∧AX ro w us (flat xs)∧(∀g,v.ownBlock=some g→ro g=.row τ (xs.length*sz))
def Qm (base:Nat)(ro:Aq)(w:World)(t b:Nat)(cs:List D):Prop:=
 base≤b∧ro b=.box t∧∃arr e,w.heap[b]? = some (.cells arr e (0,0))∧AX ro w arr.toList cs
structure MapAt (ro:Aq) (w:World) (b:Nat) (es:List (D×D)) (ents:Array MapEntry):Prop where
 heap:w.heap[b]? = some (.map ents es.length)
 len:ents.size=es.length
 born:∀(i:Nat) (e:MapEntry),ents.toList[i]? = some e→e.born=i
 rep:∀(i:Nat) (e:MapEntry) (p:D×D),ents.toList[i]? = some e→es[i]? = some p→Rep ro w e.key p.1∧Rep ro w e.val p.2
theorem MapAt.Bi {ro ro':Aq}{w w':World}{b b':Nat}{es:List (D×D)}{ents:Array MapEntry}(h:MapAt ro w b es ents)(hc:Evo ro ro' w w')(hb:w'.heap[b']? = w.heap[b]?):MapAt ro' w' b' es ents:=
 ⟨hb.trans h.heap,h.len,h.born,fun i e p he hp=>⟨(h.rep i e p he hp).1.Bi hc,(h.rep i e p he hp).2.Bi hc⟩⟩
def O1 (base:Nat)(ro:Aq)(w:World)(t b id n:Nat)(seen:List Nat):Prop:=
 base≤b∧ro b=.box t∧∃sn bm k,w.heap[b]? = some (.mapIter (some bm) n sn n)∧sn.toList=seen∧bm<w.heap.size∧ro bm=.obj id k
theorem O1.Bi {base:Nat}{ro ro':Aq}{w w':World}{t b id n:Nat}{seen:List Nat}(h:O1 base ro w t b id n seen)(hc:Evo ro ro' w w')(hb:w'.heap[b]? = w.heap[b]?)(hr:ro' b=ro b):O1 base ro' w' t b id n seen:=by
 obtain ⟨h1,h2,sn,bm,k,h3,h5,h6,h7⟩:=h
 obtain ⟨h8,k',h9⟩:=hc.obj bm id k h6 h7
 exact ⟨h1,hr.trans h2,sn,bm,k',hb.trans h3,h5,h8,h9⟩
theorem O1.lt {base:Nat}{ro:Aq}{w:World}{t b id n:Nat}{seen:List Nat}(h:O1 base ro w t b id n seen):b<w.heap.size:=by
 obtain ⟨_,_,sn,bm,k,h3,_⟩:=h
 exact (Array.getElem?_eq_some_iff.1 h3).1
def GAt (rl:Fa)(ro:Aq)(w:World)(b sz:Nat)(xs:List D):Prop:=
 0<sz∧(∀x∈xs,x.cells.length=sz)∧(xs= []∨(ro b=rl∧∃arr e,w.heap[b]? = some (.cells arr e (0,0))∧xs.length*sz≤arr.size∧AX ro w (arr.toList.take (xs.length*sz)) (flat xs)))
def DV (rl:Fa)(ro:Aq)(w:World)(b sz n:Nat)(v:Value):Prop:=
 (v=.slice none 0 0∧n=0)∨(ro b=rl∧∃arr e cap,v=.slice (some ⟨b,0,none⟩) n cap∧n≤cap∧cap≤maxLen∧w.heap[b]? = some (.cells arr e (0,0))∧arr.size=cap*sz)
theorem GAt.keep {rl rl':Fa}{ro ro':Aq}{w w':World}{b sz:Nat}{xs:List D}(h:GAt rl ro w b sz xs)(hc:Evo ro ro' w w')(hb:b<w.heap.size→ro b=rl→w'.heap[b]? = w.heap[b]?∧ro' b=rl'):GAt rl' ro' w' b sz xs:=by
 refine ⟨h.1,h.2.1,h.2.2.imp id fun ⟨h2,arr,e,h3,h4,h5⟩=>?_⟩
 obtain ⟨k1,k2⟩:=hb (Array.getElem?_eq_some_iff.1 h3).1 h2
 exact ⟨k2,arr,e,k1.trans h3,h4,h5.Bi hc⟩
theorem DV.keep {rl rl':Fa}{ro ro':Aq}{w w':World}{b sz n:Nat}{v:Value}(h:DV rl ro w b sz n v)(hb:b<w.heap.size→ro b=rl→w'.heap[b]? = w.heap[b]?∧ro' b=rl'):DV rl' ro' w' b sz n v:=by
 refine h.imp id fun ⟨h2,arr,e,cap,h3,h4,h5,h6,h7⟩=>?_
 obtain ⟨k1,k2⟩:=hb (Array.getElem?_eq_some_iff.1 h6).1 h2
 exact ⟨k2,arr,e,cap,h3,h4,h5,k1.trans h6,h7⟩
theorem DV.size {rl:Fa}{ro ro':Aq}{w w':World}{b sz n:Nat}{v:Value}(h:DV rl ro w b sz n v)(hr:ro' b=ro b)(hb:∀arr e x,w.heap[b]? = some (.cells arr e x)→∃arr',w'.heap[b]? = some (.cells arr' e x)∧arr'.size=arr.size):DV rl ro' w' b sz n v:=by
 refine h.imp id fun ⟨h2,arr,e,cap,h3,h4,h5,h6,h7⟩=>?_
 obtain ⟨arr',k1,k2⟩:=hb arr e (0,0) h6
 exact ⟨hr.trans h2,arr',e,cap,h3,h4,h5,k1,k2.trans h7⟩
def Ny (rl:Nat→Fa)(ro:Aq)(blk:Nat→Nat)(w:World)(u:Value):D→Prop
 | .rr id sz n=>BIG≤id∧DV (rl id) ro w (blk id) sz n u
 | .stale=>True
 |c=>Rep ro w u c
def Dv (rl:Nat→Fa)(ro:Aq)(blk:Nat→Nat)(w:World)(us:List Value)(cs:List D):Prop:=
 us.length=cs.length∧(∀u∈us,u.oneCell'=true)∧∀(j:Nat) (u:Value) (c:D),us[j]? = some u→cs[j]? = some c→Ny rl ro blk w u c
theorem Ny.keep {rl rl':Nat→Fa}{ro ro':Aq}{blk blk':Nat→Nat}{w w':World}{u:Value}{c:D}(h:Ny rl ro blk w u c)(hc:Evo ro ro' w w')(hs:∀id sz n,c=.rr id sz n→DV (rl id) ro w (blk id) sz n u→DV (rl' id) ro' w' (blk' id) sz n u):Ny rl' ro' blk' w' u c:=by
 cases c with
 |rr id sz n=>exact ⟨h.1,hs id sz n rfl h.2⟩
 |stale=>trivial
 |_=>exact Rep.Bi hc h
theorem Dv.keep {rl rl':Nat→Fa}{ro ro':Aq}{blk blk':Nat→Nat}{w w':World}{us:List Value}{cs:List D}(h:Dv rl ro blk w us cs)(hc:Evo ro ro' w w')(hs:∀id sz n u,.rr id sz n∈cs→DV (rl id) ro w (blk id) sz n u→DV (rl' id) ro' w' (blk' id) sz n u):Dv rl' ro' blk' w' us cs:=
 ⟨h.1,h.2.1,fun j u c hu hcj=>(h.2.2 j u c hu hcj).keep hc fun id sz n e=>hs id sz n u (e▸List.mem_of_getElem? hcj)⟩
def GM (ro:Aq)(w:World)(t:Nat)(cs:List D)(rows:List (Nat×Nat×List D)):Prop:=
 ∃(b:Nat) (arr:Array Value) (e:TypeId) (bk:Nat→Nat),ro b=.obj t true∧w.heap[b]? = some (.cells arr e (0,0))∧Dv (fun _=>.priv t) ro bk w arr.toList cs∧(∀r∈rows,GAt (.priv t) ro w (bk r.1) r.2.1 r.2.2) ∧
  (∀id sz n,D.rr id sz n∈cs→∃r∈rows,r.1=id)∧∀r∈rows,∀r'∈rows,ro (bk r.1)=.priv t→bk r.1=bk r'.1→r.1=r'.1
theorem GM.keep {ro ro':Aq}{w w':World}{t:Nat}{cs:List D}{rows:List (Nat×Nat×List D)}(h:GM ro w t cs rows)(hc:Evo ro ro' w w')(hk:∀k,k<w.heap.size→(ro k=.obj t true∨ro k=.priv t)→w'.heap[k]? = w.heap[k]?∧ro' k=ro k):GM ro' w' t cs rows:=by
 obtain ⟨b,arr,e,bk,h1,h2,h3,h4,h5,h6⟩:=h
 have hb:=(Array.getElem?_eq_some_iff.1 h2).1
 obtain ⟨k1,k2⟩:=hk b hb (.inl h1)
 -- where a row has no block, any block will do
 refine ⟨b,arr,e,fun g=>if ro (bk g)=.priv t then bk g else b,k2.trans h1,k1.trans h2,h3.keep hc fun id sz n u _ hs=>?_,fun r hr=>?_,h5,fun r hr r' hr' e1 e2=>?_⟩
 ·rcases hs with hs|hs
  ·exact .inl hs
  ·rw [if_pos hs.1]
   exact DV.keep (.inr hs) fun hlt hp=>⟨(hk _ hlt (.inr hp)).1,(hk _ hlt (.inr hp)).2.trans hp⟩
 ·have:=h4 r hr
  dsimp only
  by_cases hp:ro (bk r.1)=.priv t
  ·rw [if_pos hp]
   exact this.keep hc fun hlt hp=>⟨(hk _ hlt (.inr hp)).1,(hk _ hlt (.inr hp)).2.trans hp⟩
  ·rw [if_neg hp]
   refine ⟨this.1,this.2.1,.inl ?_⟩
   rcases this.2.2 with k|k
   ·exact k
   ·exact absurd k.1 hp
 ·dsimp only at e1 e2
  by_cases hp:ro (bk r.1)=.priv t
  ·rw [if_pos hp] at e1 e2
   by_cases hp':ro (bk r'.1)=.priv t
   ·rw [if_pos hp'] at e2
    exact h6 r hr r' hr' hp e2
   ·rw [if_neg hp'] at e2
    rw [e2,h1] at hp;cases hp
  ·rw [if_neg hp,k2,h1] at e1;cases e1
def BB (P:Program)(base:Nat)(ro:Aq)(blk:Nat→Nat)(w:World)(t:Nat)(v:Value):S→Prop
 | .junk=>True
 | .c x=>CV P base ro w v x
 | .box cs=>v=.pointer (some ⟨blk t,0,none⟩)∧Qm base ro w t (blk t) cs
 | .ref t' off=>v=.pointer (some ⟨blk t',off,none⟩)
 | .at_ cs off=>∃b o us,v=.pointer (some ⟨b,o+off,none⟩)∧AX ro w us cs∧∀(j:Nat) (u:Value),us[j]? = some u→w.cell? ⟨b,o+j,none⟩=some u∧DD ro b (o+j)
 | .tup cs=>∃arr:Array Value,v=.tuple arr∧arr.size=cs.length∧∀(i:Nat) (u:Value) (c:C),arr.toList[i]? = some u→cs[i]? = some c→CV P base ro w u c
 | .obj cs=>∃b arr e,ro b=.obj t true∧w.heap[b]? = some (.cells arr e (0,0))∧AX ro w arr.toList cs
 | .mapo es=>∃b ents,ro b=.obj t true∧MapAt ro w b es ents
 | .iter id n seen=>∃b,v=.pointer (some ⟨b,0,none⟩)∧O1 base ro w t b id n seen
 | .gbox sz xs=>GAt (.pbox t) ro w (blk t) sz xs
 | .sref id sz n=>BIG≤id∧DV (.pbox id) ro w (blk id) sz n v
 | .gref id sz off=>BIG≤id∧ro (blk id)=.pbox id∧v=.pointer (some ⟨blk id,off,none⟩)∧∃arr e x,w.heap[blk id]? = some (.cells arr e x)
 | .free=>∀b k,ro b≠.obj t k
 | .ubox cs=>v=.pointer (some ⟨blk t,0,none⟩)∧base≤blk t∧ro (blk t)=.box t∧∃arr e,w.heap[blk t]? = some (.cells arr e (0,0))∧Dv .pbox ro blk w arr.toList cs
 | .uagg cs=>∃arr:Array Value,v=.agg arr∧Dv .pbox ro blk w arr.toList cs
 | .uobj cs=>∃b arr e,ro b=.obj t true∧w.heap[b]? = some (.cells arr e (0,0))∧Dv .pbox ro blk w arr.toList cs
 | .pack cs rows=>GM ro w t cs rows
structure Start where
 ro:Aq
 names:Nat→Prop
 wr:∀b id,ro b=.obj id true→names id
structure Under (base:Nat) (ro0:Start) (w w':World):Prop where
 os:w'.os=w.os
 tape:w'.tape=w.tape
 output:w'.output=w.output
 size:w.heap.size≤w'.heap.size
 block:∀k,k<base→(∀id,ro0.ro k≠.obj id true)→(∀id,ro0.ro k=.priv id→¬ro0.names id)→w'.heap[k]? = w.heap[k]?
theorem Under.refl (base:Nat)(ro0:Start)(w:World):Under base ro0 w w:=⟨rfl,rfl,rfl,Nat.le_refl _,fun _ _ _ _=>rfl⟩
theorem Under.trans {base:Nat}{ro0:Start}{a b c:World}(h:Under base ro0 a b)(k:Under base ro0 b c):Under base ro0 a c:=
 ⟨k.os.trans h.os,k.tape.trans h.tape,k.output.trans h.output,Nat.le_trans h.size k.size,fun i hi hn hp=>(k.block i hi hn hp).trans (h.block i hi hn hp)⟩
theorem Under.of_below {base:Nat}{ro0:Start}{a b:World}(h:Below base a b):Under base ro0 a b:=⟨h.os,h.tape,h.output,h.size,fun k hk _ _=>h.block k hk⟩
theorem Under.below {base:Nat}{ro0:Start}{a b:World}(h:Under base ro0 a b)(hn:∀k id,k<base→ro0.ro k≠.obj id true)(hp:∀k id,k<base→ro0.ro k≠.priv id):Below base a b:=⟨h.os,h.tape,h.output,h.size,fun k hk=>h.block k hk (fun id=>hn k id hk) (fun id e=>absurd e (hp k id hk))⟩
def QK (s:Start)(b:Nat):Prop:=∃t,s.ro b=.priv t∧s.names t
structure Old (base:Nat) (ro0:Start) (ro:Aq):Prop where
 same:∀b,b<base→ro b=ro0.ro b∨(QK ro0 b∧∀id k,ro b≠.obj id k)
 pb:∀b g,ro b=.pbox g→base≤b∨QK ro0 b
theorem Old.obj {base:Nat}{ro0:Start}{ro:Aq}(h:Old base ro0 ro){b id:Nat}{k:Bool}(hb:b<base)(hr:ro b=.obj id k):ro0.ro b=.obj id k:=by
 rcases h.same b hb with e|⟨_,e⟩
 ·exact e▸hr
 ·exact absurd hr (e id k)
theorem Old.set {base:Nat}{ro0:Start}{ro:Aq}(h:Old base ro0 ro){b:Nat}{r:Fa}(hb:base≤b∨(QK ro0 b∧∀id k,r≠.obj id k)):Old base ro0 (fun k=>if k=b then r else ro k):=by
 refine ⟨fun k hk=>?_,fun k g hr=>?_⟩
 ·by_cases e:k=b
  ·subst e
   rcases hb with hb|hb
   ·omega
   ·exact .inr ⟨hb.1,by simpa using hb.2⟩
  ·rw [if_neg e];exact h.same k hk
 ·by_cases e:k=b
  ·subst e;exact hb.imp id (·.1)
  ·rw [if_neg e] at hr;exact h.pb k g hr
theorem Old.keep {base:Nat}{ro0:Start}{ro ro':Aq}{n:Nat}(h:Old base ro0 ro)(hn:base≤n)(hs:∀b,b<n→ro' b=ro b):Old base ro0 ro':=by
 refine ⟨fun b hb=>by rw [hs b (by omega)];exact h.same b hb,fun b g hr=>?_⟩
 rcases Nat.lt_or_ge b n with k|k
 ·rw [hs b k] at hr;exact h.pb b g hr
 ·exact .inl (by omega)
theorem Under.ZU {base:Nat}{ro0:Start}{a b:World}{g:Nat}(hg:base≤g∨QK ro0 g)(h1:b.os=a.os)(h2:b.tape=a.tape)(h3:b.output=a.output)(h4:a.heap.size≤b.heap.size)(h5:∀k,k≠g→k<a.heap.size→b.heap[k]? = a.heap[k]?)(h6:base≤a.heap.size):Under base ro0 a b:=by
 refine ⟨h1,h2,h3,h4,fun k hk _ hp=>h5 k (fun e=>?_) (by omega)⟩
 subst e
 rcases hg with hg|⟨t,q1,q2⟩
 ·omega
 ·exact hp t q1 q2
def RF (ro:Aq)(w:World):Prop:=∀g cs,I9 g=some cs→g<w.heap.size∧ro g=.frozen∧∀(j:Nat) (u:Value),cs[j]? = some u→w.cell? ⟨g,j,none⟩=some u
structure Rf (ro:Aq) (w:World):Prop where
 new:∀b,w.heap.size≤b→ro b=.frozen
 KU:RF ro w:=by intro g cs h;cases h
structure SC (base:Nat) (ro0:Start) (w w':World):Prop extends Under base ro0 w w' where
 KU:∀g cs,I9 g=some cs→g<base∧ro0.ro g=.frozen∧∀(j:Nat) (u:Value),cs[j]? = some u→w.cell? ⟨g,j,none⟩=some u
theorem SC.trans {base:Nat}{ro0:Start}{a b c:World}(h:SC base ro0 a b)(k:Under base ro0 b c):SC base ro0 a c:=⟨h.toUnder.trans k,h.KU⟩
structure Bf (P:Program) (N base:Nat) (w0:World) (ro0:Start) (ro:Aq) (blk:Nat→Nat) (env:Env) (a:Act) (w:World):Prop where
 below:SC base ro0 w0 w
 room:base≤w.heap.size
 nodef:a.defers= []
 size:a.tmps.size=N
 old:Old base ro0 ro
 new:∀b,w.heap.size≤b→ro b=.frozen
 uniq:∀b b' id k k',ro b=.obj id k→ro b'=.obj id k'→b=b'
 given:∀b id k,base≤b→ro b=.obj id k→ro0.names id
 left:∀t,env t=.free→ro0.names t
 sat:∀t,BB P base ro blk w t (a.tmps.getD t undef) (env t)
theorem Bf.AbF {P:Program}{N base:Nat}{w0 w:World}{ro0:Start}{ro:Aq}{blk:Nat→Nat}{env:Env}{a:Act}(h:Bf P N base w0 ro0 ro blk env a w):RF ro w:=fun g cs hg=>by
 obtain ⟨h1,h2,h3⟩:=h.below.KU g cs hg
 refine ⟨Nat.lt_of_lt_of_le h1 h.room,?_,fun j u hj=>?_⟩
 ·rcases h.old.same g h1 with e|⟨⟨t,e,_⟩,_⟩
  ·rw [e,h2]
  ·rw [h2] at e;cases e
 ·rw [←h3 j u hj]
  exact World.cell?_of_block (w:=w0) (h.below.block g h1 (fun id e=>by rw [h2] at e;cases e) (fun id e=>by rw [h2] at e;cases e))
theorem Bf.ZG {P:Program}{N base:Nat}{w0 w:World}{ro0:Start}{ro:Aq}{blk:Nat→Nat}{env:Env}{a:Act}(h:Bf P N base w0 ro0 ro blk env a w):Rf ro w:=⟨h.new,h.AbF⟩
def Sim (P:Program)(N base:Nat)(w0:World)(ro0:Start)(env:Env)(a:Act)(w:World):Prop:=∃ro blk,Bf P N base w0 ro0 ro blk env a w
end Go.Vm
end
section
namespace Go.Vm
open Go.RowKit
section
variable {P:Program} {N base:Nat} {w0 w w':World} {ro0:Start} {ro ro':Aq} {blk blk':Nat→Nat} {env env':Env} {a:Act} {o:Oper}
structure Grow (ro ro':Aq) (w w':World):Prop where
 below:Below w.heap.size w w'
 role:∀b,b<w.heap.size→ro' b=ro b
 new:∀b,w'.heap.size≤b→ro' b=.frozen
 noobj:∀b id k,w.heap.size≤b→ro' b≠.obj id k
theorem Grow.evo (h:Grow ro ro' w w'):Evo ro ro' w w':=by
 refine ⟨fun b off u hok hc=>?_,fun b id k hb hr=>⟨Nat.lt_of_lt_of_le hb h.below.size,k,(h.role b hb).trans hr⟩⟩
 have hlt:b<w.heap.size:=World.block_lt_of_cell? w ⟨b,off,none⟩ hc
 refine ⟨by rw [h.below.cell (p:=⟨b,off,none⟩) hlt];exact hc,?_⟩
 unfold DD at *;rw [h.role b hlt];exact hok
theorem Grow.uniq (h:Grow ro ro' w w')(hu:∀b b' id k k',ro b=.obj id k→ro b'=.obj id k'→b=b'):∀b b' id k k',ro' b=.obj id k→ro' b'=.obj id k'→b=b':=by
 intro b b' id m m' h1 h2
 have l1:b<w.heap.size:=by
  rcases Nat.lt_or_ge b w.heap.size with k|k
  ·exact k
  ·exact absurd h1 (h.noobj b id m k)
 have l2:b' < w.heap.size:=by
  rcases Nat.lt_or_ge b' w.heap.size with k|k
  ·exact k
  ·exact absurd h2 (h.noobj b' id m' k)
 exact hu b b' id m m' ((h.role b l1).symm.trans h1) ((h.role b' l2).symm.trans h2)
theorem Grow.given {base:Nat}{names:Nat→Prop}(h:Grow ro ro' w w')(hu:∀b id k,base≤b→ro b=.obj id k→names id):∀b id k,base≤b→ro' b=.obj id k→names id:=by
 intro b id m hb h1
 have l1:b<w.heap.size:=by
  rcases Nat.lt_or_ge b w.heap.size with k|k
  ·exact k
  ·exact absurd h1 (h.noobj b id m k)
 exact hu b id m hb ((h.role b l1).symm.trans h1)
theorem QA {e sz n:Nat}{v:Value}{us:List Value}(h:w.ownsRow base e sz v n us)(hb:∀g,v.ownBlock=some g→w'.heap[g]? = w.heap[g]?):w'.ownsRow base e sz v n us:=by
 refine ⟨h.1,?_⟩
 rcases h.2 with h2|⟨g,cap,cur,h1,h2,h3,h4⟩
 ·exact .inl h2
 ·exact .inr ⟨g,cap,cur,h1,h2,(hb g (by rw [h1];rfl)).trans h3,h4⟩
theorem CV.grow {v:Value}{c:C}(h:CV P base ro w v c)(hg:Grow ro ro' w w'):CV P base ro' w' v c:=by
 cases c with
 |d x=>exact Rep.Bi hg.evo h
 |nil=>exact h
 |own τ e xs=>
  obtain ⟨sz,us,h1,h2,h3,h4,h5,h6⟩:=h
  refine ⟨sz,us,h1,h2,QA h3 (fun g hgk=>hg.below.block g (h3.lt g hgk).2),h4,h5.Bi hg.evo,fun g hgk=>?_⟩
  rw [hg.role g (h3.lt g hgk).2];exact h6 g hgk
theorem Qm.lt {t b:Nat}{cs:List D}(h:Qm base ro w t b cs):b<w.heap.size:=by
 obtain ⟨_,_,arr,e,h3,_⟩:=h
 exact block_lt h3
theorem BB.grow {t:Nat}{v:Value}{s:S}(h:BB P base ro blk w t v s)(hg:Grow ro ro' w w')(hblk:∀t,blk' t=blk t):BB P base ro' blk' w' t v s:=by
 obtain rfl:blk'=blk:=funext hblk
 cases s with
 |junk=>trivial
 |c x=>exact CV.grow h hg
 |box cs=>
  obtain ⟨h0,h1⟩:=h
  refine ⟨h0,?_⟩
  have hlt:=h1.lt
  obtain ⟨h2,h3,arr,e,h4,h5⟩:=h1
  exact ⟨h2,by rw [hg.role _ hlt];exact h3,arr,e,(hg.below.block _ hlt).trans h4,h5.Bi hg.evo⟩
 |ref t' off=>exact h
 |at_ cs off=>
  obtain ⟨b,o,us,h1,h2,h3⟩:=h
  exact ⟨b,o,us,h1,h2.Bi hg.evo,fun j u hu=>hg.evo.cell _ _ _ (h3 j u hu).2 (h3 j u hu).1⟩
 |tup cs=>
  obtain ⟨arr,h1,h2,h3⟩:=h
  exact ⟨arr,h1,h2,fun i u c hu hc=>(h3 i u c hu hc).grow hg⟩
 |obj cs=>
  obtain ⟨b,arr,e,h1,h2,h3⟩:=h
  have hlt:=block_lt h2
  exact ⟨b,arr,e,(hg.role b hlt).trans h1,(hg.below.block b hlt).trans h2,h3.Bi hg.evo⟩
 |mapo es=>
  obtain ⟨b,ents,h1,h2⟩:=h
  have hlt:=block_lt h2.heap
  exact ⟨b,ents,(hg.role b hlt).trans h1,h2.Bi hg.evo ((hg.below.block b hlt))⟩
 |iter id n seen=>
  obtain ⟨b,h1,h2⟩:=h
  exact ⟨b,h1,h2.Bi hg.evo (hg.below.block b h2.lt) (hg.role b h2.lt)⟩
 |gbox sz xs=>exact GAt.keep h hg.evo fun hlt hr=>⟨hg.below.block _ hlt,(hg.role _ hlt).trans hr⟩
 |sref id sz n=>exact ⟨h.1,DV.keep h.2 fun hlt hr=>⟨hg.below.block _ hlt,(hg.role _ hlt).trans hr⟩⟩
 |gref id sz off=>
  obtain ⟨h1,h3,h4,arr,e,x,h5⟩:=h
  have hlt:=block_lt h5
  exact ⟨h1,(hg.role _ hlt).trans h3,h4,arr,e,x,(hg.below.block _ hlt).trans h5⟩
 |uagg cs=>
  obtain ⟨arr,h1,h5⟩:=h
  exact ⟨arr,h1,h5.keep hg.evo fun id sz n u _ hs=>hs.keep fun hlt hr=>⟨hg.below.block _ hlt,(hg.role _ hlt).trans hr⟩⟩
 |ubox cs=>
  obtain ⟨h0,h2,h3,arr,e,h4,h5⟩:=h
  have hlt:=block_lt h4
  exact ⟨h0,h2,(hg.role _ hlt).trans h3,arr,e,(hg.below.block _ hlt).trans h4,h5.keep hg.evo fun id sz n u _ hs=>hs.keep fun hlt hr=>⟨hg.below.block _ hlt,(hg.role _ hlt).trans hr⟩⟩
 |pack cs rows=>exact GM.keep h hg.evo fun k hk _=>⟨hg.below.block k hk,hg.role k hk⟩
 |uobj cs=>
  obtain ⟨b,arr,e,h1,h2,h3⟩:=h
  have hlt:=block_lt h2
  exact ⟨b,arr,e,(hg.role b hlt).trans h1,(hg.below.block b hlt).trans h2,h3.keep hg.evo fun id sz n u _ hs=>hs.keep fun hlt hr=>⟨hg.below.block _ hlt,(hg.role _ hlt).trans hr⟩⟩
 |free=>
  intro b m hb
  rcases Nat.lt_or_ge b w.heap.size with k|k
  ·exact h b m ((hg.role b k).symm.trans hb)
  ·exact hg.noobj b _ m k hb
theorem Grow.refl (hn:∀b,w.heap.size≤b→ro b=.frozen):Grow ro ro w w:=⟨Below.refl _ _,fun _ _=>rfl,hn,fun b id k hb=>by rw [hn b hb];simp⟩
theorem Lt {d t:Nat}{v:Value}:((a.put (some d) v).tmps.getD t undef)=if t=d∧d<a.tmps.size then v else a.tmps.getD t undef:=by
 simp only [Act.put,Array.getD_eq_getD_getElem?,Array.getElem?_setIfInBounds]
 by_cases h:d=t
 ·subst h
  by_cases hd:d<a.tmps.size<;>simp [hd]
 ·have:¬t=d:=fun e=>h e.symm
  simp [h,this]
theorem Bf.put (h:Bf P N base w0 ro0 ro blk env a w)(hg:Grow ro ro' w w'){d:Nat}(hd:d<N){v:Value}{s:S}(hs:BB P base ro' blk w' d v s)(hf:s≠.free:=by simp) :
 Bf P N base w0 ro0 ro' blk (upd env (some d) s) (a.put (some d) v) w':=by
 refine ⟨h.below.trans (Under.of_below (hg.below.mono h.room)),Nat.le_trans h.room hg.below.size,by simpa [Act.put] using h.nodef,by simpa [Act.put] using h.size,h.old.keep h.room hg.role,hg.new,hg.uniq h.uniq,hg.given h.given,fun t ht=>by
  by_cases e:t=d
  ·subst e;simp [upd] at ht;exact absurd ht hf
  ·simp only [upd,if_neg e] at ht;exact h.left t ht,fun t=>?_⟩
 rw [Lt]
 by_cases e:t=d
 ·subst e
  rw [if_pos ⟨rfl,by rw [h.size];exact hd⟩]
  simpa [upd] using hs
 ·rw [if_neg (fun k=>e k.1)]
  simp only [upd,if_neg e]
  exact (h.sat t).grow hg fun _=>rfl
theorem Bf.rest (h:Bf P N base w0 ro0 ro blk env a w)(hg:Grow ro ro' w w'):Bf P N base w0 ro0 ro' blk env a w':=
 ⟨h.below.trans (Under.of_below (hg.below.mono h.room)),Nat.le_trans h.room hg.below.size,h.nodef,h.size,h.old.keep h.room hg.role,hg.new,hg.uniq h.uniq,hg.given h.given,h.left,fun t=>(h.sat t).grow hg fun _=>rfl⟩
theorem Bf.weaken (h:Bf P N base w0 ro0 ro blk env a w)(he:∀t,env' t=env t∨env' t=.junk):Bf P N base w0 ro0 ro blk env' a w:=by
 refine ⟨h.below,h.room,h.nodef,h.size,h.old,h.new,h.uniq,h.given,fun t ht=>(he t).elim (fun e=>h.left t (e▸ht)) (fun e=>by rw [e] at ht;cases ht),fun t=>?_⟩
 rcases he t with e|e<;>rw [e]
 ·exact h.sat t
 ·trivial
theorem Sim.weaken (h:Sim P N base w0 ro0 env a w)(he:∀t,env' t=env t∨env' t=.junk):Sim P N base w0 ro0 env' a w:=let ⟨ro,blk,h⟩:=h;⟨ro,blk,h.weaken he⟩
def C.asD:C→D
 | .d x=>x
 | .own _ _ xs=>.row xs
 | .nil=>.row []
theorem CV.rep {v:Value}{c:C}(h:CV P base ro w v c):Rep ro w v c.asD:=by
 cases c with
 |d x=>exact h
 |nil=>rw [show v=.slice none 0 0 from h];exact .nil (by simp [maxLen])
 |own τ e xs=>
  obtain ⟨sz,us,h1,h2,h3,h4,h5,h6⟩:=h
  rcases h3.2 with ⟨rfl,h7⟩|⟨g,cap,cur,rfl,hb,hh,hl,hm,hs,ht⟩
  ·obtain rfl:xs= []:=List.length_eq_zero_iff.1 h7
   exact .nil (by simp [maxLen])
  ·refine .row us h1 hl hm h3.1 h4 h5.2.1 (fun j u hj=>?_) h5.2.2
   have hc:=h3.cells (g:=g) rfl j u hj
   rw [GY] at hc
   refine ⟨hc,?_⟩
   have hlt:=(List.getElem?_eq_some_iff.1 hj).1
   unfold DD
   rw [h6 g rfl]
   show 0+j<xs.length*sz
   rw [h3.1] at hlt;omega
def Og:Value→S
 | .slice none 0 0=>.c .nil
 |v=>if BN v then .c (.d (.sc v)) else .junk
def DK (t:Nat):S→S
 | .box _ | .ubox _=>.ref t 0
 | .obj _ | .mapo _ | .iter .. | .free | .gbox .. | .pack .. | .uobj _=>.junk
 |s=>s
def Ap (env:Env):Operand→S
 | .tmp t=>DK t (env t)
 | .const v=>Og v
 | .func f=>.c (.d (.fn f []))
 |_=>.junk
theorem ApZ (v:Value)(t:Nat):BB P base ro blk w t v (Og v):=by
 unfold Og
 split
 ·rfl
 ·split
  ·exact Rep.sc (by assumption)
  ·trivial
theorem Bf.get (h:Bf P N base w0 ro0 ro blk env a w)(x:Operand)(t:Nat):BB P base ro blk w t (a.eval x) (Ap env x):=by
 cases x with
 |tmp u=>
  have hu:=h.sat u
  show BB P base ro blk w t (a.tmps.getD u undef) (DK u (env u))
  cases hs:env u with
  |box cs=>rw [hs] at hu;exact hu.1
  |ubox cs=>rw [hs] at hu;exact hu.1
  |uagg cs=>rw [hs] at hu;exact hu
  |junk=>trivial
  |c x=>rw [hs] at hu;exact hu
  |ref t' off=>rw [hs] at hu;exact hu
  |at_ cs off=>rw [hs] at hu;exact hu
  |tup cs=>rw [hs] at hu;exact hu
  |obj cs=>trivial
  |mapo es=>trivial
  |iter id n seen=>trivial
  |gbox sz xs=>trivial
  |pack cs rows=>trivial
  |uobj cs=>trivial
  |sref τ sz n=>rw [hs] at hu;exact hu
  |gref τ sz n=>rw [hs] at hu;exact hu
  |free=>trivial
 |const v=>exact ApZ v t
 |global g=>trivial
 |func f=>exact Rep.fn rfl (fun i u c hu hc=>by simp at hu)
def vd (env:Env)(x:Operand):Option D:=match Ap env x with
 | .c c=>some c.asD
 |_=>none
theorem Bf.getD (h:Bf P N base w0 ro0 ro blk env a w){x:Operand}{d:D}(hx:vd env x=some d):Rep ro w (a.eval x) d:=by
 have:=h.get x 0
 unfold vd at hx
 cases hs:Ap env x with
 |c c=>rw [hs] at this hx;injection hx with hx;subst hx;exact CV.rep this
 |_=>rw [hs] at hx;cases hx
def addrOf (o:Oper):Option Operand:=match o.op with
 | .load _ x=>some x
 | .store _ x _=>some x
 |_=>none
def Agree (o:Oper)(env env':Env):Prop:=(∀x∈o.op.operands,Ap env' x=Ap env x)∧(∀x t off,addrOf o=some x→Ap env x=.ref t off→env' t=env t)∧∀t,BIG≤t→env' t=env t
theorem Agree.refl (o:Oper)(env:Env):Agree o env env:=⟨fun _ _=>rfl,fun _ _ _ _ _=>rfl,fun _ _=>rfl⟩
theorem Agree.get (h:Agree o env env'){x:Operand}(hx:x∈o.op.operands):Ap env' x=Ap env x:=h.1 x hx
theorem Agree.getD (h:Agree o env env'){x:Operand}(hx:x∈o.op.operands):vd env' x=vd env x:=by unfold vd;rw [h.get hx]
def Step (P:Program)(N:Nat)(o:Oper)(env env':Env):Prop:=
 ∀base w0 ro0 a w,Sim P N base w0 ro0 env a w→∀(K:Act→World→Prop) (Q:Exit→Act→World→Prop),(∀a' w',Sim P N base w0 ro0 env' a' w'→K a' w')→o.wp P a w K Q
def FZ (P:Program)(N:Nat)(o:Oper)(env:Env)(Φ:Env→Prop):Prop:=
 ∀base w0 ro0 a w,Sim P N base w0 ro0 env a w→∀(K:Act→World→Prop) (Q:Exit→Act→World→Prop),(∀env' a' w',Φ env'→Sim P N base w0 ro0 env' a' w'→K a' w')→o.wp P a w K Q
theorem Step.toP {Φ:Env→Prop}(h:Step P N o env env')(hp:Φ env'):FZ P N o env Φ:=fun base w0 ro0 a w hs K Q hK=>h base w0 ro0 a w hs K Q fun a' w' hs'=>hK env' a' w' hp hs'
theorem FZ.one (h:FZ P N o env fun e=>e=env'):Step P N o env env':=fun base w0 ro0 a w hs K Q hK=>h base w0 ro0 a w hs K Q fun e a' w' he hs'=>hK a' w' (he▸hs')
abbrev XD (P:Program)(N:Nat)(o:Oper)(env:Env)(s:S):Prop:=∀env',Agree o env env'→Step P N o env' (upd env' o.dst s)
def Cf (P:Program)(N:Nat)(o:Oper)(env:Env)(s:S):Prop:=(∃d,o.dst=some d∧d<N)∧s≠.free∧∀env',Agree o env env'→∀base w0 ro0 ro blk a w,Bf P N base w0 ro0 ro blk env' a w →
 ∀(K:Act→World→Prop) (Q:Exit→Act→World→Prop),(∀v w' ro',Grow ro ro' w w'→(∀d,o.dst=some d→BB P base ro' blk w' d v s)→K (a.put o.dst v) w')→o.wp P a w K Q
theorem Cf.all {s:S}(h:Cf P N o env s):XD P N o env s:=by
 intro env' he base w0 ro0 a w ⟨ro,blk,hs⟩ K Q hK
 obtain ⟨⟨d,hdst,hd⟩,hf,h⟩:=h
 refine h env' he base w0 ro0 ro blk a w hs K Q fun v w' ro' hg hv=>hK _ _ ⟨ro',blk,?_⟩
 rw [hdst]
 exact hs.put hg hd (hv d hdst) hf
theorem Cf.step {s:S}(h:Cf P N o env s):Step P N o env (upd env o.dst s):=h.all env (Agree.refl _ _)
def Zj (o:Oper)(env env':Env):Prop:=(∀x∈o.op.operands,Ap env' x=Ap env x)∧(∀x t off,addrOf o=some x→Ap env x=.ref t off→env' t=env t)∧∀t,BIG≤t→t<NAM→env' t=env t
def noN (env:Env):Env:=fun t=>if t<NAM then env t else .junk
theorem Cf.free {s:S}(h:Cf P N o (noN env) s):∀env',Zj o env env'→Step P N o env' (upd env' o.dst s):=by
 intro env' he base w0 ro0 a w ⟨ro,blk,hs⟩ K Q hK
 obtain ⟨⟨d,hdst,hd⟩,hf,h⟩:=h
 have hw:Bf P N base w0 ro0 ro blk (noN env') a w:=hs.weaken fun t=>by
  unfold noN
  split
  ·exact .inl rfl
  ·exact .inr rfl
 have hv:∀x∈o.op.operands,Ap (noN env') x=Ap (noN env) x:=by
  intro x hx
  cases x with
  |tmp t=>
   have:=he.1 _ hx
   show DK t (noN env' t)=DK t (noN env t)
   unfold noN
   split
   ·exact this
   ·rfl
  |_=>rfl
 have ha:Agree o (noN env) (noN env'):=by
  refine ⟨hv,fun x t off hx hr=>?_,fun t ht=>?_⟩
  ·unfold noN
   split
   ·refine he.2.1 x t off hx ?_
    cases x with
    |tmp u=>
     have hr':DK u (noN env u)=.ref t off:=hr
     show DK u (env u)=.ref t off
     unfold noN at hr'
     split at hr'
     ·exact hr'
     ·cases hr'
    |_=>exact hr
   ·rfl
  ·unfold noN
   split
   ·rename_i h1;exact he.2.2 t ht h1
   ·rfl
 refine h (noN env') ha base w0 ro0 ro blk a w hw K Q fun v w' ro' hg hv=>hK _ _ ⟨ro',blk,?_⟩
 rw [hdst]
 exact hs.put hg hd (hv d hdst) hf
theorem DF {s:S}{d:Nat}(hdst:o.dst=some d)(hd:d<N)
 (h:∀env',Agree o env env'→∀base w0 ro0 ro blk a w,Bf P N base w0 ro0 ro blk env' a w→∃v w' ro',(execOp a.eval o).run P w=.ok (.value v) w'∧Grow ro ro' w w'∧BB P base ro' blk w' d v s) (hf:s≠.free:=by simp):Cf P N o env s:=by
 refine ⟨⟨d,hdst,hd⟩,hf,fun env' he base w0 ro0 ro blk a w hs K Q hK=>?_⟩
 obtain ⟨v,w',ro',h1,h2,h3⟩:=h env' he base w0 ro0 ro blk a w hs
 unfold Oper.wp
 rw [h1,Oper.upon_value]
 exact hK v w' ro' h2 fun d' hd'=>by rw [hdst] at hd';injection hd' with hd';exact hd'▸h3
theorem XV (env:Env)(x:Operand):Ap env x≠.free:=by
 cases x with
 |tmp t=>
  show DK t (env t)≠.free
  cases env t<;>simp [DK]
 |const v=>
  show Og v≠.free
  unfold Og
  split
  ·simp
  ·split<;>simp
 |global g=>simp [Ap]
 |func f=>simp [Ap]
theorem Aoz {x:Operand}{s:S}(hop:o.op=.move x)(hx:Ap env x=s){d:Nat}(hdst:o.dst=some d)(hd:d<N):Cf P N o env s:=by
 refine DF hdst hd (hf:=hx▸XV env x) fun env' he base w0 ro0 ro blk a w hs=>⟨a.eval x,w,ro,by simp [execOp,hop],Grow.refl hs.new,?_⟩
 have:=hs.get x d
 rwa [he.get (by simp [hop,Op.operands]),hx] at this
theorem AuN {x:Operand}{s:S}(hop:o.op=.assign x)(hx:Ap env x=s){d:Nat}(hdst:o.dst=some d)(hd:d<N):Cf P N o env s:=by
 refine DF hdst hd (hf:=hx▸XV env x) fun env' he base w0 ro0 ro blk a w hs=>⟨a.eval x,w,ro,by simp [execOp,hop],Grow.refl hs.new,?_⟩
 have:=hs.get x d
 rwa [he.get (by simp [hop,Op.operands]),hx] at this
theorem EL {v u:Value}(h:Rep ro w v (.sc u)):v=u∧BN u=true:=by
 cases h with
 |sc h=>exact ⟨rfl,h⟩
theorem Acl {x y z:Operand}{b:Bool}{s:S}(hop:o.op=.pick x y z)(hx:vd env x=some (.sc (.bool b)))(hs:(if b then Ap env y else Ap env z)=s){d:Nat}(hdst:o.dst=some d)(hd:d<N):Cf P N o env s:=by
 refine DF hdst hd (hf:=by rw [←hs];split<;>exact XV _ _) fun env' he base w0 ro0 ro blk a w hsim=>⟨if b then a.eval y else a.eval z,w,ro,?_,Grow.refl hsim.new,?_⟩
 ·have h1:=hsim.getD (x:=x) (by rw [he.getD (by simp [hop,Op.operands])];exact hx)
  have:=(EL h1).1
  simp [execOp,hop,this,asBool]
 ·have h1:=hsim.get y d
  have h2:=hsim.get z d
  rw [he.get (by simp [hop,Op.operands])] at h1 h2
  cases b
  ·simp only [Bool.false_eq_true,if_false] at hs ⊢;rw [←hs];exact h2
  ·simp only [if_true] at hs ⊢;rw [←hs];exact h1
end
end Go.Vm
end
section
namespace Go.Vm
open Go.RowKit
def NG:TypeDesc→Bool
 | .struct _ | .array _ _=>true
 |_=>false
def Bl (P:Program)(t:TypeId):Option (Bool×Nat):=match P.info? t,P.underlying t with
 |some i,some d=>some (NG d,i.size)
 |_,_=>none
def Eo (sh:Bool×Nat)(cs:List D)(off:Nat):Option D:=
 if sh.1 then (if off+sh.2≤cs.length then some (.agg ((cs.drop off).take sh.2)) else none) else cs[off]?
def patch (cs:List D)(off:Nat)(ds:List D):List D:=cs.take off++ds++cs.drop (off+ds.length)
def Ez (P:Program)(t:TypeId)(f:Nat):Option Nat:=match P.underlying t with
 |some (.struct fs)=>match fs[f]? with
  |some g=>if P.cellsOf g.type=0 then none else some g.offset
  |none=>none
 |_=>none
def DL (P:Program)(t:TypeId):Option Nat:=match P.underlying t with
 |some (.slice e)=>(P.info? e).map (·.size)
 |_=>none
def Fz (P:Program)(t:TypeId):Option (Nat×Nat):=match P.underlying t with
 |some (.array n e)=>(P.info? e).map fun i=>(n,i.size)
 |_=>none
section
variable {P:Program} {N base:Nat} {w0 w w':World} {ro0:Start} {ro ro':Aq} {blk blk':Nat→Nat} {env env':Env} {a:Act} {o:Oper}
theorem GL {t:TypeId}{b:Bool}{n:Nat}(h:Bl P t=some (b,n)):∃i d,P.info? t=some i∧P.underlying t=some d∧NG d=b∧i.size=n:=by
 unfold Bl at h
 split at h
 ·rename_i i d h1 h2
  simp only [Option.some.injEq,Prod.mk.injEq] at h
  exact ⟨i,d,h1,h2,h.1,h.2⟩
 ·cases h
theorem Lm {t:TypeId}{d:TypeDesc}(h:P.underlying t=some d):(isAgg t).run P w=.ok (NG d) w:=by
 unfold isAgg
 rw [Sem.run_bind,run_underlying h w]
 cases d<;>simp [NG]
theorem O5 {t:TypeId}{b o off:Nat}{us:List Value}{cs:List D}{sh:Bool×Nat}{d:D}(hsh:Bl P t=some sh)(hr:AX ro w us cs)
 (hc:∀(j:Nat) (u:Value),us[j]? = some u→w.cell? ⟨b,o+j,none⟩=some u) (hp:Eo sh cs off=some d):∃v,(loadVar t ⟨b,o+off,none⟩).run P w=.ok v w∧Rep ro w v d:=by
 obtain ⟨ag,n⟩:=sh
 obtain ⟨i,dd,h1,h2,h3,h4⟩:=GL hsh
 have hagg:=Lm (w:=w) h2
 rw [h3] at hagg
 cases ag with
 |true=>
  simp only [Eo,if_true] at hp
  split at hp
  ·rename_i hle
   injection hp with hp;subst hp
   have hk:=(hr.drop off).take n
   have hlen:((us.drop off).take n).length=n:=by rw [List.length_take,List.length_drop,hr.1];omega
   refine ⟨.agg ((us.drop off).take n).toArray,?_,.agg (by simpa using hk.1) (by simpa using hk.2.1) (by simpa using hk.2.2)⟩
   have hl:=run_loadCells_list (P:=P) w ⟨b,o+off,none⟩ ((us.drop off).take n) (fun j v hv=>by
    rw [List.getElem?_take] at hv
    split at hv
    ·rw [List.getElem?_drop] at hv
     rw [GY,Nat.add_assoc];exact hc _ _ hv
    ·cases hv)
   rw [hlen] at hl
   simp [loadVar,Sem.run_bind,hagg,sizeOf,typeInfo,h1,h4,hl]
  ·cases hp
 |false=>
  simp only [Eo,Bool.false_eq_true,if_false] at hp
  have hlt:=(List.getElem?_eq_some_iff.1 hp).1
  have hlt':off<us.length:=by rw [hr.1];exact hlt
  obtain ⟨u,hu⟩:∃u,us[off]? = some u:=⟨_,List.getElem?_eq_getElem hlt'⟩
  refine ⟨u,?_,hr.2.2 off _ d hu hp⟩
  have hcu:=hc off _ hu
  simp [loadVar,Sem.run_bind,hagg,run_load,hcu,Result.andThen]
theorem Qm.cells {t b:Nat}{cs:List D}(h:Qm base ro w t b cs):∃us,AX ro w us cs∧∀(j:Nat) (u:Value),us[j]? = some u→w.cell? ⟨b,0+j,none⟩=some u:=by
 obtain ⟨_,_,arr,e,h3,h4⟩:=h
 refine ⟨arr.toList,h4,fun j u hu=>?_⟩
 rw [cell_of_row w b _ arr e (0,0) h3,Nat.zero_add]
 simpa using hu
theorem VQ {T:TypeId}{x:Operand}{t off:Nat}{cs:List D}{sh:Bool×Nat}{r:D}(hop:o.op=.load T x)(hx:Ap env x=.ref t off)(hb:env t=.box cs)(hsh:Bl P T=some sh)(hp:Eo sh cs off=some r){d:Nat}(hdst:o.dst=some d)(hd:d<N):Cf P N o env (.c (.d r)):=by
 refine DF hdst hd fun env' he base w0 ro0 ro blk a w hsim=>?_
 have h1:=hsim.get x 0
 rw [he.get (by simp [hop,Op.operands]),hx] at h1
 have h2:=hsim.sat t
 rw [he.2.1 x t off (by simp [addrOf,hop]) hx,hb] at h2
 obtain ⟨us,h3,h4⟩:=h2.2.cells
 obtain ⟨v,h5,h6⟩:=O5 (P:=P) hsh h3 h4 hp
 refine ⟨v,w,ro,?_,Grow.refl hsim.new,h6⟩
 rw [Nat.zero_add] at h5
 simp only [execOp,hop,Instr.loadAt,show a.eval x=_ from h1,Instr.sureAddr,Sem.run_bind,Sem.run_pure,Result.andThen_ok,h5]
theorem Asq {T:TypeId}{x:Operand}{off:Nat}{cs:List D}{sh:Bool×Nat}{r:D}(hop:o.op=.load T x)(hx:Ap env x=.at_ cs off)(hsh:Bl P T=some sh)(hp:Eo sh cs off=some r){d:Nat}(hdst:o.dst=some d)(hd:d<N):Cf P N o env (.c (.d r)):=by
 refine DF hdst hd fun env' he base w0 ro0 ro blk a w hsim=>?_
 have h1:=hsim.get x 0
 rw [he.get (by simp [hop,Op.operands]),hx] at h1
 obtain ⟨b,off0,us,h1,h3,h4⟩:=h1
 obtain ⟨v,h5,h6⟩:=O5 (P:=P) hsh h3 (fun j u hu=>(h4 j u hu).1) hp
 refine ⟨v,w,ro,?_,Grow.refl hsim.new,h6⟩
 simp only [execOp,hop,Instr.loadAt,show a.eval x=_ from h1,Instr.sureAddr,Sem.run_bind,Sem.run_pure,Result.andThen_ok,h5]
theorem MK {T:TypeId}{f off b o:Nat}(h:Ez P T f=some off):(Instr.fieldAt T (.pointer (some ⟨b,o,none⟩)) f).run P w=.ok (.pointer (some ⟨b,o+off,none⟩)) w:=by
 unfold Ez at h
 split at h
 ·rename_i fs hu
  split at h
  ·rename_i g hg
   split at h
   ·cases h
   ·rename_i hne
    injection h with h
    have hi:∃i,P.info? g.type=some i∧i.size≠0:=by
     unfold Program.cellsOf at hne
     cases hq:P.info? g.type with
     |none=>simp [hq] at hne
     |some i=>exact ⟨i,rfl,by simpa [hq] using hne⟩
    obtain ⟨i,hi,h0⟩:=hi
    simp [Instr.fieldAt,run_underlying hu,hg,Instr.sureAddr,fieldPlace,sizeOf,typeInfo,hi,h0,Addr.add_lit,h]
  ·cases h
 ·cases h
theorem AhM {T:TypeId}{x:Operand}{f t off k:Nat}(hop:o.op=.fieldAddr T x f)(hx:Ap env x=.ref t off)(hf:Ez P T f=some k){d:Nat}(hdst:o.dst=some d)(hd:d<N):Cf P N o env (.ref t (off+k)):=by
 refine DF hdst hd fun env' he base w0 ro0 ro blk a w hsim=>?_
 have h1:=hsim.get x 0
 rw [he.get (by simp [hop,Op.operands]),hx] at h1
 refine ⟨_,w,ro,?_,Grow.refl hsim.new,rfl⟩
 simp only [execOp,hop,show a.eval x=_ from h1,Sem.run_bind,Sem.run_pure,Result.andThen_ok,MK hf]
theorem Aky {T:TypeId}{x:Operand}{f off k:Nat}{cs:List D}(hop:o.op=.fieldAddr T x f)(hx:Ap env x=.at_ cs off)(hf:Ez P T f=some k){d:Nat}(hdst:o.dst=some d)(hd:d<N):Cf P N o env (.at_ cs (off+k)):=by
 refine DF hdst hd fun env' he base w0 ro0 ro blk a w hsim=>?_
 have h1:=hsim.get x 0
 rw [he.get (by simp [hop,Op.operands]),hx] at h1
 obtain ⟨b,off0,us,h1,h3,h4⟩:=h1
 refine ⟨.pointer (some ⟨b,off0+off+k,none⟩),w,ro,?_,Grow.refl hsim.new,b,off0,us,by rw [Nat.add_assoc],h3,h4⟩
 simp only [execOp,hop,show a.eval x=_ from h1,Sem.run_bind,Sem.run_pure,Result.andThen_ok,MK hf]
theorem JC {t:TypeId}{n:Nat}(h:DL P t=some n):∃e i,P.underlying t=some (.slice e)∧P.info? e=some i∧i.size=n:=by
 unfold DL at h
 split at h
 ·rename_i e hu
  obtain ⟨i,h1,h2⟩:=Option.map_eq_some_iff.1 h
  exact ⟨e,i,hu,h1,h2⟩
 ·cases h
theorem SQ {v:Value}{xs:List D}(h:Rep ro w v (.row xs)):∃ad cap,v=.slice ad xs.length cap∧cap≤maxLen∧xs.length≤cap∧(xs≠[]→∃b off sz us,ad=some ⟨b,off,none⟩∧0<sz∧us.length=xs.length*sz∧(∀x∈xs,x.cells.length=sz)∧AX ro w us (flat xs)∧∀(j:Nat) (u:Value),us[j]? = some u→w.cell? ⟨b,off+j,none⟩=some u∧DD ro b (off+j)):=by
 cases h with
 |nil hm=>exact ⟨_,_,rfl,hm,Nat.zero_le _,fun h=>absurd rfl h⟩
 |row us hsz hlen hm hus hw h1 hcell h=>exact ⟨_,_,rfl,hm,hlen,fun _=>⟨_,_,_,us,rfl,hsz,hus,hw,⟨by rw [hus,flat_length hw],h1,h⟩,hcell⟩⟩
theorem Amf {T:TypeId}{x ix:Operand}{k:IntKind}{i:Nat}{xs:List D}{y:D}{sz:Nat}(hop:o.op=.indexAddr T x ix)(hx:vd env x=some (.row xs))(hi:vd env ix=some (.sc (.int k (i:Int))))(hT:DL P T=some sz)(hy:xs[i]? = some y)(hsz:y.cells.length=sz){d:Nat}(hdst:o.dst=some d)(hd:d<N):Cf P N o env (.at_ y.cells 0):=by
 refine DF hdst hd fun env' he base w0 ro0 ro blk a w hsim=>?_
 have h1:=hsim.getD (x:=x) (by rw [he.getD (by simp [hop,Op.operands])];exact hx)
 have h2:=(EL (hsim.getD (x:=ix) (by rw [he.getD (by simp [hop,Op.operands])];exact hi))).1
 obtain ⟨e,inf,hu,hinf,hs⟩:=JC hT
 obtain ⟨ad,cap,hv,_,_,h3⟩:=SQ h1
 have hlt:=(List.getElem?_eq_some_iff.1 hy).1
 obtain ⟨b,off,sz',us,rfl,h4,h5,h6,h7,h8⟩:=h3 (by intro e;rw [e] at hlt;simp at hlt)
 have hmem:y∈xs:=List.mem_of_getElem? hy
 obtain rfl:sz'=sz:=(h6 y hmem).symm.trans hsz
 subst hs
 refine ⟨.pointer (some ⟨b,off+i*inf.size,none⟩),w,ro,?_,Grow.refl hsim.new,b,off+i*inf.size,(us.drop (i*inf.size)).take inf.size,rfl,?_,?_⟩
 ·have hlt':(i:Int)<xs.length:=by omega
  simp [execOp,hop,h2,hv,Instr.indexAt,asIntOf,run_underlying hu,sizeOf,typeInfo,hinf,Addr.add_lit]
  intro hbad;omega
 ·have hle:i*inf.size+inf.size≤us.length:=by
   rw [h5];have:=Nat.mul_le_mul_right inf.size (show i+1≤xs.length from hlt);rw [Nat.add_mul,Nat.one_mul] at this;exact this
  refine ⟨by rw [List.length_take,List.length_drop,hsz];omega,fun u hu=>h7.2.1 u (List.mem_of_mem_drop (List.mem_of_mem_take hu)),fun j u c hu hc=>?_⟩
  rw [List.getElem?_take] at hu
  split at hu
  ·rw [List.getElem?_drop] at hu
   exact h7.2.2 _ u c hu (Aca h6 hy hc)
  ·cases hu
 ·intro j u hu
  rw [List.getElem?_take] at hu
  split at hu
  ·rw [List.getElem?_drop] at hu
   have:=h8 _ u hu
   rwa [←Nat.add_assoc] at this
  ·cases hu
theorem Aoy {T:TypeId}{ts:Array TypeId}{x:Operand}{xs:List D}{sz:Nat}(hop:o.op=.call { callee:=.builtin .len,args:=#[x],argTypes:=#[T] })(hx:vd env x=some (.row xs))(hT:DL P T=some sz){d:Nat}(hdst:o.dst=some d)(hd:d<N):Cf P N o env (.c (.d (.sc (.int .i64 xs.length)))):=by
 refine DF hdst hd fun env' he base w0 ro0 ro blk a w hsim=>?_
 have h1:=hsim.getD (x:=x) (by rw [he.getD (by simp [hop,Op.operands,Call.operands])];exact hx)
 obtain ⟨e,inf,hu,hinf,hs⟩:=JC hT
 obtain ⟨ad,cap,hv,_⟩:=SQ h1
 refine ⟨.int .i64 xs.length,w,ro,?_,Grow.refl hsim.new,Rep.sc rfl⟩
 simp [execOp,hop,resolve,invoke,builtin,hv,Builtin.len_,run_underlying hu,goInt]
theorem AfS {T:TypeId}{x:Operand}{s:ByteArray}(hop:o.op=.call { callee:=.builtin .len,args:=#[x],argTypes:=#[T] })(hx:vd env x=some (.sc (.string s)))(hT:P.underlying T=some .string){d:Nat}(hdst:o.dst=some d)(hd:d<N):Cf P N o env (.c (.d (.sc (.int .i64 s.size)))):=by
 refine DF hdst hd fun env' he base w0 ro0 ro blk a w hsim=>?_
 have h1:=(EL (hsim.getD (x:=x) (by rw [he.getD (by simp [hop,Op.operands,Call.operands])];exact hx))).1
 refine ⟨.int .i64 s.size,w,ro,?_,Grow.refl hsim.new,Rep.sc rfl⟩
 simp [execOp,hop,resolve,invoke,builtin,h1,Builtin.len_,run_underlying hT,goInt]
theorem Ah4 {x:Operand}{i:Nat}{cs:List C}{c:C}(hop:o.op=.extract x i)(hx:Ap env x=.tup cs)(hi:cs[i]? = some c){d:Nat}(hdst:o.dst=some d)(hd:d<N):Cf P N o env (.c c):=by
 refine DF hdst hd fun env' he base w0 ro0 ro blk a w hsim=>?_
 have h1:=hsim.get x 0
 rw [he.get (by simp [hop,Op.operands]),hx] at h1
 obtain ⟨arr,h1,h2,h3⟩:=h1
 have hlt:i<arr.size:=by rw [h2];exact (List.getElem?_eq_some_iff.1 hi).1
 have hu:arr[i]? = some arr[i]:=Array.getElem?_eq_getElem hlt
 refine ⟨arr[i],w,ro,?_,Grow.refl hsim.new,h3 i _ c (by simp [hlt]) hi⟩
 simp [execOp,hop,show a.eval x=_ from h1,Instr.extract,hu]
theorem AoG {T:TypeId}{x ix:Operand}{k:IntKind}{i:Nat}{s:ByteArray}{b:UInt8}(hop:o.op=.index T x ix)(hx:vd env x=some (.sc (.string s)))(hi:vd env ix=some (.sc (.int k (i:Int))))(hT:P.underlying T=some .string)(hb:s[i]? = some b){d:Nat}(hdst:o.dst=some d)(hd:d<N):Cf P N o env (.c (.d (.sc (.int .u8 b.toNat)))):=by
 refine DF hdst hd fun env' he base w0 ro0 ro blk a w hsim=>?_
 have h1:=(EL (hsim.getD (x:=x) (by rw [he.getD (by simp [hop,Op.operands])];exact hx))).1
 have h2:=(EL (hsim.getD (x:=ix) (by rw [he.getD (by simp [hop,Op.operands])];exact hi))).1
 refine ⟨_,w,ro,?_,Grow.refl hsim.new,Rep.sc rfl⟩
 simp [execOp,hop,h1,h2,Instr.index,asIntOf,run_underlying hT,hb]
end
end Go.Vm
end
section
namespace Go.Vm
open Go.RowKit
def bnd (env:Env)(x:Option Operand)(dflt:Nat):Option Nat:=match x with
 |none=>some dflt
 |some x=>match vd env x with
  |some (.sc (.int _ i))=>if 0≤i then some i.toNat else none
  |_=>none
def zc:Value→Option D
 | .slice none 0 0=>some (.row [])
 |v=>if BN v then some (.sc v) else none
def Jm:List Value→Option (List D)
 | []=>some []
 |v::l=>match zc v,Jm l with
  |some d,some ds=>some (d::ds)
  |_,_=>none
def zeroOf (P:Program)(t:TypeId):Option (List D):=match P.info? t with
 |some i=>match i.zero with
  |some z=>Jm z.cells.toList
  |none=>none
 |none=>none
def GG (place:Nat→Option (Nat×Nat))(cells:List D):List (Nat×D)→Option (List D)
 | []=>some cells
 | (i,d)::rest=>match place i with
  |none=>none
  |some (off,size)=>if d.cells.length=size∧off+d.cells.length≤cells.length then GG place (patch cells off d.cells) rest else none
def Qr (P:Program)(t:TypeId)(parts:List (Nat×D)):Option (List D):=
 match P.info? t,P.underlying t with
 |some it,some (.array _ e)=>
  match it.zero,P.info? e with
  |some z,some ie=>match Jm z.cells.toList with
   |some zs=>GG (fun i=>some (i*ie.size,ie.size)) zs parts
   |none=>none
  |_,_=>none
 |some it,some (.struct fields)=>
  match it.zero,fields.toList.mapM (fun f=>(P.info? f.type).map fun i=>(f.offset,i.size)) with
  |some z,some places=>match Jm z.cells.toList with
   |some zs=>GG (places.toArray[·]?) zs parts
   |none=>none
  |_,_=>none
 |_,_=>none
def Eu (env:Env):List (Nat×Operand)→Option (List (Nat×D))
 | []=>some []
 | (i,x)::l=>match vd env x,Eu env l with
  |some d,some ds=>some ((i,d)::ds)
  |_,_=>none
section
variable {P:Program} {N base:Nat} {w0 w w':World} {ro0:Start} {ro ro':Aq} {blk blk':Nat→Nat} {env env':Env} {a:Act} {o:Oper}
theorem AuA {v:Value}{d:D}(h:zc v=some d):Rep ro w v d∧v.oneCell'=true:=by
 unfold zc at h
 split at h
 ·injection h with h;subst h;exact ⟨.nil (by simp [maxLen]),rfl⟩
 ·split at h
  ·rename_i hp;injection h with h;subst h;exact ⟨.sc hp,LQ hp⟩
  ·cases h
theorem OW:∀{vs:List Value} {ds:List D},Jm vs=some ds→AX ro w vs ds
 | [],ds,h=>by simp [Jm] at h;subst h;exact AX.nil
 |v::vs,ds,h=>by
  unfold Jm at h
  split at h
  ·rename_i d es h1 h2
   injection h with h;subst h
   have ih:=OW h2
   obtain ⟨k1,k2⟩:=AuA (ro:=ro) (w:=w) h1
   refine ⟨by simp [ih.1],?_,?_⟩
   ·intro u hu
    rcases List.mem_cons.1 hu with rfl|hu
    ·exact k2
    ·exact ih.2.1 u hu
   ·intro j u c hu hc
    cases j with
    |zero=>simp at hu hc;subst hu hc;exact k1
    |succ j=>exact ih.2.2 j u c (by simpa using hu) (by simpa using hc)
  ·cases h
theorem Ab7:∀(l:List Value) (off k:Nat) (cells:Array Value),off+k+l.length≤cells.size →
 ((l.zipIdx k).foldl (fun cs (x:Value×Nat)=>cs.setIfInBounds (off+x.2) x.1) cells).toList=cells.toList.take (off+k)++l++cells.toList.drop (off+k+l.length)
 | [],off,k,cells,h=>by simp
 |v::l,off,k,cells,h=>by
  rw [List.zipIdx_cons,List.foldl_cons,Ab7 l off (k+1) _ (by simp at h ⊢;omega)]
  have e:=list_seg_step cells.toList (off+k) v l (by simp at h ⊢;omega)
  simpa [Array.toList_setIfInBounds,Nat.add_assoc] using e
theorem PV (off:Nat)(vs cells:Array Value)(h:off+vs.size≤cells.size) :
 (vs.zipIdx.foldl (fun cs (x:Value×Nat)=>cs.setIfInBounds (off+x.2) x.1) cells).toList=cells.toList.take off++vs.toList++cells.toList.drop (off+vs.size):=by
 have:=Ab7 vs.toList off 0 cells (by simpa using h)
 rw [←Array.foldl_toList,Array.toList_zipIdx]
 simpa using this
theorem AX.patch {us vs:List Value}{cs ds:List D}(h:AX ro w us cs)(k:AX ro w vs ds)(off:Nat):AX ro w (us.take off++vs++us.drop (off+vs.length)) (patch cs off ds):=by
 unfold Vm.patch
 rw [k.1]
 exact ((h.take off).append k).append (h.drop _)
theorem Ur {place:Nat→Option (Nat×Nat)}:∀{parts:List (Nat×Value)} {ds:List (Nat×D)} {cells:Array Value} {cs cs':List D},AX ro w cells.toList cs→parts.length=ds.length →
 (∀(j:Nat) (p:Nat×Value) (q:Nat×D),parts[j]? = some p→ds[j]? = some q→p.1=q.1∧Rep ro w p.2 q.2)→GG place cs ds=some cs'→∃cells',Instr.fill place cells parts=some cells'∧AX ro w cells'.toList cs'
 | [],[],cells,cs,cs',h,_,_,hf=>by
  simp [GG] at hf;subst hf;exact ⟨cells,by simp [Instr.fill],h⟩
 | [],_::_,_,_,_,_,hl,_,_=>by simp at hl
 |_::_,[],_,_,_,_,hl,_,_=>by simp at hl
 | (i,v)::parts,(i',d)::ds,cells,cs,cs',h,hl,hp,hf=>by
  obtain ⟨e1,hv⟩:=hp 0 (i,v) (i',d) rfl rfl
  simp only at e1 hv;subst e1
  unfold GG at hf
  split at hf
  ·cases hf
  ·rename_i off size hpl
   split at hf
   ·rename_i hc
    have hcl:=hv.cells
    have e2:v.cells.size=d.cells.length:=by simpa using hcl.1
    have e3:cells.size=cs.length:=by simpa using h.1
    have hle:off+v.cells.size≤cells.size:=by omega
    have hone:=PV off v.cells cells hle
    have hk:=h.patch hcl off
    simp only [Array.length_toList] at hk
    rw [←hone] at hk
    obtain ⟨cells',h1,h2⟩:=Ur (parts:=parts) (ds:=ds) hk (by simpa using hl) (fun j p q hj hq=>hp (j+1) p q (by simpa using hj) (by simpa using hq)) hf
    refine ⟨cells',?_,h2⟩
    unfold Instr.fill
    rw [hpl]
    simp only
    rw [if_neg (by simp only [ne_eq,Bool.or_eq_true,decide_eq_true_eq];omega)]
    exact h1
   ·cases hf
theorem Uu:∀{parts:List (Nat×Operand)} {ds:List (Nat×D)},Bf P N base w0 ro0 ro blk env a w→Eu env parts=some ds →
 (parts.map fun (i,x)=>(i,a.eval x)).length=ds.length∧∀(j:Nat) (p:Nat×Value) (q:Nat×D),(parts.map fun (i,x)=>(i,a.eval x))[j]? = some p→ds[j]? = some q→p.1=q.1∧Rep ro w p.2 q.2
 | [],ds,hs,h=>by simp [Eu] at h;subst h;exact ⟨rfl,by simp⟩
 | (i,x)::l,ds,hs,h=>by
  unfold Eu at h
  split at h
  ·rename_i d es h1 h2
   injection h with h;subst h
   obtain ⟨k1,k2⟩:=Uu hs h2
   refine ⟨by simpa using k1,fun j p q hp hq=>?_⟩
   cases j with
   |zero=>simp at hp hq;subst hp hq;exact ⟨rfl,hs.getD h1⟩
   |succ j=>exact k2 j p q (by simpa using hp) (by simpa using hq)
  ·cases h
theorem WG:∀{parts:List (Nat×Operand)},(∀x∈parts,vd env' x.2=vd env x.2)→Eu env' parts=Eu env parts
 | [],_=>rfl
 | (i,x)::l,h=>by
  unfold Eu
  rw [h (i,x) (List.mem_cons_self ..),WG fun y hy=>h y (List.mem_cons_of_mem _ hy)]
theorem AgI {t:TypeId}{parts:List (Nat×Value)}{ds:List (Nat×D)}{cs:List D}(hl:parts.length=ds.length)
 (hp:∀(j:Nat) (p:Nat×Value) (q:Nat×D),parts[j]? = some p→ds[j]? = some q→p.1=q.1∧Rep ro w p.2 q.2) (h:Qr P t ds=some cs):∃cells,P.built t parts=some cells∧AX ro w cells.toList cs:=by
 unfold Qr at h
 unfold Program.built
 cases hit:P.info? t with
 |none=>simp [hit] at h
 |some it=>
  cases hu:P.underlying t with
  |none=>simp [hit,hu] at h
  |some d=>
   cases hz:it.zero with
   |none=>cases d<;>simp [hit,hu,hz] at h
   |some z=>
    cases hzd:Jm z.cells.toList with
    |none=>
     cases d<;>try (simp [hit,hu] at h;done)
     case array n e=>cases hie:P.info? e<;>simp [hit,hu,hz,hie,hzd] at h
     case struct fields=>cases hpl:fields.toList.mapM (fun f=>(P.info? f.type).map fun i=>(f.offset,i.size))<;>simp [hit,hu,hz,hpl,hzd] at h
    |some zs=>
     have hzr:=OW (ro:=ro) (w:=w) hzd
     cases d<;>try (simp [hit,hu] at h;done)
     case array n e=>
      cases hie:P.info? e with
      |none=>simp [hit,hu,hz,hie] at h
      |some ie=>
       simp only [hit,hu,hz,hie,hzd] at h ⊢
       exact Ur hzr hl hp h
     case struct fields=>
      cases hpl:fields.toList.mapM (fun f=>(P.info? f.type).map fun i=>(f.offset,i.size)) with
      |none=>simp [hit,hu,hz,hpl] at h
      |some places=>
       simp only [hit,hu,hz,hpl,hzd] at h ⊢
       exact Ur hzr hl hp h
theorem AeU {T:TypeId}{parts:Array (Nat×Operand)}{ds:List (Nat×D)}{cs:List D}(hop:o.op=.build T parts)(hx:Eu env parts.toList=some ds)(hb:Qr P T ds=some cs){d:Nat}(hdst:o.dst=some d)(hd:d<N):Cf P N o env (.c (.d (.agg cs))):=by
 refine DF hdst hd fun env' he base w0 ro0 ro blk a w hsim=>?_
 have hx':Eu env' parts.toList=some ds:=by
  rw [←hx]
  refine WG fun x hm=>he.getD ?_
  simp only [hop,Op.operands]
  exact List.mem_toArray.2 (List.mem_map.2 ⟨x,hm,rfl⟩)
 obtain ⟨h1,h2⟩:=Uu hsim hx'
 obtain ⟨cells,h3,h4⟩:=AgI (P:=P) h1 h2 hb
 refine ⟨.agg cells,w,ro,?_,Grow.refl hsim.new,.agg (by simpa using h4.1) h4.2.1 h4.2.2⟩
 have hr:=run_build (P:=P) w T (parts.map fun (i,x)=>(i,a.eval x)) cells (by rw [Array.toList_map];exact h3)
 simp only [execOp,hop,Sem.run_bind,hr,Result.andThen_ok]
 rfl
theorem AlJ {sz n:Nat}{xs:List D}(h:∀x∈xs,x.cells.length=sz)(hn:n≤xs.length):flat (xs.take n)=(flat xs).take (n*sz):=by
 have e:flat xs=flat (xs.take n)++flat (xs.drop n):=by rw [←Qy,List.take_append_drop]
 have hl:(flat (xs.take n)).length=n*sz:=by rw [flat_length (sz:=sz) (fun x hx=>h x (List.mem_of_mem_take hx)),List.length_take,Nat.min_eq_left hn]
 rw [e,←hl,List.take_left]
theorem AgX {sz n:Nat}{xs:List D}(h:∀x∈xs,x.cells.length=sz)(hn:n≤xs.length):flat (xs.drop n)=(flat xs).drop (n*sz):=by
 have e:flat xs=flat (xs.take n)++flat (xs.drop n):=by rw [←Qy,List.take_append_drop]
 have hl:(flat (xs.take n)).length=n*sz:=by rw [flat_length (sz:=sz) (fun x hx=>h x (List.mem_of_mem_take hx)),List.length_take,Nat.min_eq_left hn]
 rw [e,←hl,List.drop_left]
theorem Js {x:Value}{k:IntKind}{i:Int}{y:Nat}{code:BoundsCode}(hx:x=.int k i)(h0:0≤i)(hy:i.toNat≤y):(Instr.sliceBound x y code).run P w=.ok i.toNat w:=by
 subst hx
 have:i≤(y:Int):=by omega
 simp [Instr.sliceBound,asIntOf,h0,this]
theorem RD (he:Agree o env env'){x:Option Operand}{n:Nat}(hx:∀y,x=some y→y∈o.op.operands):bnd env' x n=bnd env x n:=by
 cases x with
 |none=>rfl
 |some y=>unfold bnd;simp only;rw [he.getD (hx y rfl)]
theorem Bf.bound (h:Bf P N base w0 ro0 ro blk env a w){x:Operand}{n l:Nat}(hb:bnd env (some x) n=some l):∃k i,a.eval x=.int k i∧0≤i∧i.toNat=l:=by
 unfold bnd at hb
 simp only at hb
 split at hb
 ·rename_i k i hv
  split at hb
  ·rename_i h0
   injection hb with hb
   exact ⟨k,i,(EL (h.getD hv)).1,h0,hb⟩
  ·cases hb
 ·cases hb
theorem Zk (hs:Bf P N base w0 ro0 ro blk env a w){isS:Bool}{len cap:Nat}{lo hi:Option Operand}{l h:Nat}(hlc:len≤cap)(hl:bnd env lo 0=some l)(hh:bnd env hi len=some h)(h1:l≤h)(h2:h≤len) :
 (Instr.sliceBounds isS len cap (lo.map a.eval) (hi.map a.eval) none).run P w=.ok (l,h,cap) w:=by
 have hc:h≤cap:=by omega
 cases hi with
 |none=>
  simp only [bnd,Option.some.injEq] at hh;subst hh
  cases lo with
  |none=>simp only [bnd,Option.some.injEq] at hl;subst hl;simp [Instr.sliceBounds]
  |some x=>
   obtain ⟨k,i,e1,e2,e3⟩:=hs.bound hl
   have hr:=Js (P:=P) (w:=w) (code:=.sliceB) e1 e2 (y:=len) (by omega)
   simp [Instr.sliceBounds,hr,e3]
 |some y=>
  obtain ⟨k',i',f1,f2,f3⟩:=hs.bound hh
  have hr':=Js (P:=P) (w:=w) (code:=if isS then .sliceAcap else .sliceAlen) f1 f2 (y:=cap) (by omega)
  cases lo with
  |none=>simp only [bnd,Option.some.injEq] at hl;subst hl;simp [Instr.sliceBounds,hr',f3]
  |some x=>
   obtain ⟨k,i,e1,e2,e3⟩:=hs.bound hl
   have hr:=Js (P:=P) (w:=w) (code:=.sliceB) e1 e2 (y:=h) (by omega)
   simp [Instr.sliceBounds,hr',f3,hr,e3]
theorem Ap2 {T:TypeId}{x:Operand}{lo hi:Option Operand}{s:ByteArray}{l h:Nat}(hop:o.op=.slice T x lo hi none)(hx:vd env x=some (.sc (.string s)))(hT:P.underlying T=some .string)(hl:bnd env lo 0=some l)(hh:bnd env hi s.size=some h)(h1:l≤h)(h2:h≤s.size){d:Nat}(hdst:o.dst=some d)(hd:d<N):Cf P N o env (.c (.d (.sc (.string (s.extract l h))))):=by
 refine DF hdst hd fun env' he base w0 ro0 ro blk a w hsim=>?_
 have hv:=(EL (hsim.getD (x:=x) (by rw [he.getD (by simp [hop,Op.operands])];exact hx))).1
 have m1:∀y,lo=some y→y∈o.op.operands:=fun y hy=>by simp [hop,Op.operands,hy]
 have m2:∀y,hi=some y→y∈o.op.operands:=fun y hy=>by simp [hop,Op.operands,hy]
 have hr:=Zk hsim (isS:=false) (len:=s.size) (cap:=s.size) (Nat.le_refl _) (by rw [RD he m1];exact hl) (by rw [RD he m2];exact hh) h1 h2
 refine ⟨_,w,ro,?_,Grow.refl hsim.new,Rep.sc rfl⟩
 simp [execOp,hop,Instr.sliceAt,run_underlying hT,Instr.slice,hv,hr]
theorem Ak8 {T:TypeId}{x:Operand}{lo hi:Option Operand}{xs:List D}{l h sz:Nat}(hop:o.op=.slice T x lo hi none)(hx:vd env x=some (.row xs))(hT:DL P T=some sz)(hsz:∀x∈xs,x.cells.length=sz)(hl:bnd env lo 0=some l)(hh:bnd env hi xs.length=some h)(h1:l≤h)(h2:h≤xs.length){d:Nat}(hdst:o.dst=some d)(hd:d<N):Cf P N o env (.c (.d (.row ((xs.take h).drop l)))):=by
 refine DF hdst hd fun env' he base w0 ro0 ro blk a w hsim=>?_
 have hv:=hsim.getD (x:=x) (by rw [he.getD (by simp [hop,Op.operands])];exact hx)
 obtain ⟨e,inf,hu,hinf,hs⟩:=JC hT
 obtain ⟨ad,cap,hv,hm,hlc,hrow⟩:=SQ hv
 have m1:∀y,lo=some y→y∈o.op.operands:=fun y hy=>by simp [hop,Op.operands,hy]
 have m2:∀y,hi=some y→y∈o.op.operands:=fun y hy=>by simp [hop,Op.operands,hy]
 have hr:=Zk hsim (isS:=true) (len:=xs.length) (cap:=cap) hlc (by rw [RD he m1];exact hl) (by rw [RD he m2];exact hh) h1 h2
 refine ⟨.slice (if cap=l then ad else ad.map (·.add (l*inf.size))) (h-l) (cap-l),w,ro,?_,Grow.refl hsim.new,?_⟩
 ·simp [execOp,hop,Instr.sliceAt,run_underlying hu,Instr.slice,hv,hr,sizeOf,typeInfo,hinf]
 ·have hlen:((xs.take h).drop l).length=h-l:=by rw [List.length_drop,List.length_take];omega
  by_cases h0:h-l=0
  ·have:(xs.take h).drop l= []:=List.length_eq_zero_iff.1 (by omega)
   rw [this,h0]
   exact .nil (by omega)
  ·have hne:xs≠[]:=by intro e;subst e;simp at h2;omega
   obtain ⟨b,off,sz',us,rfl,g1,g2,g3,g4,g5⟩:=hrow hne
   obtain ⟨y,hy⟩:=List.exists_mem_of_ne_nil _ hne
   obtain rfl:sz'=sz:=(g3 y hy).symm.trans (hsz y hy)
   subst hs
   rw [if_neg (by omega),Option.map_some,GY,←hlen]
   have hwt:∀x∈xs.take h,x.cells.length=inf.size:=fun x hx=>g3 x (List.mem_of_mem_take hx)
   have hfl:flat ((xs.take h).drop l)=((flat xs).take (h*inf.size)).drop (l*inf.size):=by
    rw [AgX hwt (by rw [List.length_take];omega),AlJ g3 h2]
   refine .row ((us.take (h*inf.size)).drop (l*inf.size)) g1 (by omega) (by omega) ?_ (fun x hx=>hwt x (List.mem_of_mem_drop hx)) (fun u hu=>g4.2.1 u (List.mem_of_mem_take (List.mem_of_mem_drop hu))) ?_ ?_
   ·rw [List.length_drop,List.length_take,hlen,g2,Nat.min_eq_left (Nat.mul_le_mul_right _ h2),Nat.sub_mul]
   ·intro j u hj
    rw [List.getElem?_drop,List.getElem?_take] at hj
    split at hj
    ·have:=g5 _ u hj
     rwa [←Nat.add_assoc] at this
    ·cases hj
   ·rw [hfl]
    exact ((g4.take (h*inf.size)).drop (l*inf.size)).2.2
end
end Go.Vm
end
section
namespace Go.Vm
open Go.RowKit
def Aq.set (ro:Aq)(b:Nat)(r:Fa):Aq:=fun k=>if k=b then r else ro k
def JZ (d:Nat):S→S
 | .ref t off=>if t=d then .junk else .ref t off
 |s=>s
def Gz (env:Env)(d:Nat)(cs:List D):Env:=fun t=>if t=d then .box cs else JZ d (env t)
def Hq (τ:Nat):C→C
 | .own τ' e xs=>if τ'=τ then .d (.row xs) else .own τ' e xs
 |c=>c
def EK (τ:Nat):S→S
 | .c x=>.c (Hq τ x)
 | .tup cs=>.tup (cs.map (Hq τ))
 |s=>s
def JK (env:Env)(τ:Nat):Env:=fun t=>EK τ (env t)
def CU (P:Program)(t:TypeId):Option (TypeId×Nat×Nat):=match P.underlying t with
 |some (.slice e)=>match P.info? e with
  |some i=>match i.zero with
   |some z=>if z.cells.size=i.size∧0<i.size then some (e,i.size,i.bytes) else none
   |none=>none
  |none=>none
 |_=>none
def JD:Nat→List D→List (Nat×D)
 |_,[]=>[]
 |k,x::xs=>(k,x)::JD (k+1) xs
def bytesD (s:ByteArray):List D:=s.data.toList.map fun b=>D.sc (.int .u8 b.toNat)
def enters (P:Program)(f:FuncId):Bool:=match P.funcs[f]? with
 | some fn => fn.name != "runtime.NumGoroutine" && fn.body.isSome
 |none=>false
def Ew (τ:Nat):C→C
 | .own _ e xs=>.own τ e xs
 |c=>c
def EN:List C→S
 | [c]=>.c c
 |cs=>.tup cs
def Ia (env:Env):List Operand→Option (List D)
 | []=>some []
 |x::l=>match vd env x,Ia env l with
  |some d,some ds=>some (d::ds)
  |_,_=>none
def AP (P:Program)(f:FuncId)(args:List D)(res:List C):Prop:=
 ∀(ro:Aq) (w:World) (vs:Array Value) (τ:Nat),Rf ro w→(∀b b' id k k',ro b=.obj id k→ro b'=.obj id k'→b=b')→vs.size=args.length→(∀(i:Nat) (v:Value) (d:D),vs.toList[i]? = some v→args[i]? = some d→Rep ro w v d) →
  Calls P f vs w fun e w'=>∃v ro',e=.returned v∧Grow ro ro' w w'∧BB P w.heap.size ro' (fun _=>0) w' 0 v (EN (res.map (Ew τ)))
section
variable {P:Program} {N base:Nat} {w0 w w':World} {ro0:Start} {ro ro':Aq} {blk blk':Nat→Nat} {env env':Env} {a:Act} {o:Oper}
theorem Aq.F9 (ro:Aq)(b:Nat)(r:Fa):ro.set b r b=r:=by simp [Aq.set]
theorem Aq.Dn (ro:Aq){b k:Nat}(r:Fa)(h:k≠b):ro.set b r k=ro k:=by simp [Aq.set,h]
theorem Grow.Us (hn:∀b,w.heap.size≤b→ro b=.frozen)(ob:Obj)(r:Fa)(hr:∀id k,r≠.obj id k:=by intro id k;simp):Grow ro (ro.set w.heap.size r) w (w.alloc ob):=by
 refine ⟨(Below.refl _ _).alloc (Nat.le_refl _) ob,fun b hb=>Aq.Dn _ _ (by omega),fun b hb=>?_,fun b id k hb=>?_⟩
 ·rw [World.size_alloc] at hb
  rw [Aq.Dn _ _ (by omega)]
  exact hn b (by omega)
 ·by_cases e:b=w.heap.size
  ·subst e;rw [Aq.F9];exact hr id k
  ·rw [Aq.Dn _ _ e,hn b hb];simp
theorem Bf.box (h:Bf P N base w0 ro0 ro blk env a w){d:Nat}(hd:d<N)(hdB:d<BIG){arr:Array Value}{cs:List D}{e:TypeId}(hr:AX ro w arr.toList cs) :
 Bf P N base w0 ro0 (ro.set w.heap.size (.box d)) (fun t=>if t=d then w.heap.size else blk t) (Gz env d cs) (a.put (some d) (.pointer (some ⟨w.heap.size,0,none⟩))) (w.alloc (.cells arr e)):=by
 have hg:=Grow.Us (ro:=ro) h.new (.cells arr e) (.box d)
 refine ⟨h.below.trans (Under.of_below (hg.below.mono h.room)),Nat.le_trans h.room hg.below.size,by simpa [Act.put] using h.nodef,by simpa [Act.put] using h.size,h.old.keep h.room hg.role,hg.new,hg.uniq h.uniq,hg.given h.given,fun t ht=>by
  by_cases et:t=d
  ·subst et;simp [Gz] at ht
  ·simp only [Gz,if_neg et] at ht
   cases hst:env t<;>rw [hst] at ht<;>simp [JZ] at ht
   ·split at ht<;>cases ht
   ·exact h.left t hst,fun t=>?_⟩
 rw [Lt]
 by_cases et:t=d
 ·subst et
  rw [if_pos ⟨rfl,by rw [h.size];exact hd⟩]
  simp only [Gz,if_true]
  refine ⟨by simp,?_⟩
  simp only [if_true]
  exact ⟨h.room,Aq.F9 _ _ _,arr,e,heap_alloc_new w _,hr.Bi hg.evo⟩
 ·rw [if_neg (fun k=>et k.1)]
  simp only [Gz,if_neg et]
  have hs:=(h.sat t).grow hg (blk':=blk) fun _=>rfl
  cases hst:env t with
  |ref t' off=>
   rw [hst] at hs
   simp only [JZ]
   split
   ·trivial
   ·rename_i hne;show _=_;dsimp only;rw [if_neg hne];exact hs
  |box cs'=>
   rw [hst] at hs
   show _∧_
   dsimp only;rw [if_neg et];exact hs
  |junk=>trivial
  |c x=>rw [hst] at hs;exact hs
  |at_ cs' off=>rw [hst] at hs;exact hs
  |tup cs'=>rw [hst] at hs;exact hs
  |obj cs'=>rw [hst] at hs;exact hs
  |mapo es'=>rw [hst] at hs;exact hs
  |iter id n seen=>rw [hst] at hs;exact hs
  |pack cs' rows'=>rw [hst] at hs;exact hs
  |uobj cs'=>
   rw [hst] at hs
   obtain ⟨b',arr',e',h1,h4,h5⟩:=hs
   refine ⟨b',arr',e',h1,h4,h5.1,h5.2.1,fun j u c hu hc=>?_⟩
   have:=h5.2.2 j u c hu hc
   cases c with
   |rr id sz n=>
    have hne:¬id=d:=by have:=this.1;omega
    refine ⟨this.1,?_⟩
    dsimp only;rw [if_neg hne];exact this.2
   |_=>exact this
  |uagg cs'=>
   rw [hst] at hs
   obtain ⟨arr',h1,h5⟩:=hs
   refine ⟨arr',h1,h5.1,h5.2.1,fun j u c hu hc=>?_⟩
   have:=h5.2.2 j u c hu hc
   cases c with
   |rr id sz n=>
    have hne:¬id=d:=by have:=this.1;omega
    refine ⟨this.1,?_⟩
    dsimp only;rw [if_neg hne];exact this.2
   |_=>exact this
  |ubox cs'=>
   rw [hst] at hs
   show _∧_
   dsimp only;rw [if_neg et]
   refine ⟨hs.1,hs.2.1,hs.2.2.1,?_⟩
   obtain ⟨arr',e',h4,h5⟩:=hs.2.2.2
   refine ⟨arr',e',h4,h5.1,h5.2.1,fun j u c hu hc=>?_⟩
   have:=h5.2.2 j u c hu hc
   cases c with
   |rr id sz n=>
    have hne:¬id=d:=by have:=this.1;omega
    refine ⟨this.1,?_⟩
    dsimp only;rw [if_neg hne];exact this.2
   |_=>exact this
  |gbox sz xs=>
   rw [hst] at hs
   show GAt _ _ _ _ _ _
   dsimp only;rw [if_neg et];exact hs
  |sref id sz n=>
   rw [hst] at hs
   have hne:¬id=d:=by have:=hs.1;omega
   refine ⟨hs.1,?_⟩
   dsimp only;rw [if_neg hne];exact hs.2
  |gref id sz off=>
   rw [hst] at hs
   have hne:¬id=d:=by have:=hs.1;omega
   refine ⟨hs.1,?_⟩
   dsimp only;rw [if_neg hne];exact hs.2
  |free=>rw [hst] at hs;exact hs
theorem Aa1 {T:TypeId}{x:Operand}{r:D}(hop:o.op=.box T x)(hx:vd env x=some r){d:Nat}(hdst:o.dst=some d)(hd:d<N)(hdB:d<BIG):Step P N o env (Gz env d r.cells):=by
 intro base w0 ro0 a w ⟨ro,blk,hs⟩ K Q hK
 have hv:=(hs.getD hx).cells
 unfold Oper.wp
 have hrun:(execOp a.eval o).run P w=.ok (.value (.pointer (some ⟨w.heap.size,0,none⟩))) (w.alloc (.cells (a.eval x).cells T)):=by
  simp [execOp,hop,Instr.box,newVar,newRow]
 rw [hrun,Oper.upon_value,hdst]
 exact hK _ _ ⟨_,_,hs.box hd hdB hv⟩
theorem Qn {T:TypeId}{cs:List D}(h:zeroOf P T=some cs):∃i z,P.info? T=some i∧i.zero=some z∧Jm z.cells.toList=some cs:=by
 unfold zeroOf at h
 split at h
 ·rename_i i hi
  split at h
  ·rename_i z hz;exact ⟨i,z,hi,hz,h⟩
  ·cases h
 ·cases h
theorem AdF {T:TypeId}{cs:List D}(hop:o.op=.alloc T)(hz:zeroOf P T=some cs){d:Nat}(hdst:o.dst=some d)(hd:d<N)(hdB:d<BIG):Step P N o env (Gz env d cs):=by
 intro base w0 ro0 a w ⟨ro,blk,hs⟩ K Q hK
 obtain ⟨i,z,hi,hzz,hzd⟩:=Qn hz
 unfold Oper.wp
 have hrun:(execOp a.eval o).run P w=.ok (.value (.pointer (some ⟨w.heap.size,0,none⟩))) (w.alloc (.cells z.cells T)):=by
  simp [execOp,hop,Instr.alloc,zeroValue,typeInfo,hi,hzz,newVar,newRow]
 rw [hrun,Oper.upon_value,hdst]
 exact hK _ _ ⟨_,_,hs.box hd hdB (OW hzd)⟩
theorem BB.write {g:Nat}{t:Nat}{v:Value}{s:S}(h:BB P base ro blk w t v s)(hc:Evo ro ro' w w')
 (hb:∀k,k≠g→w'.heap[k]? = w.heap[k]?) (hro:∀k,k≠g→ro' k=ro k) (hbox:∀cs,s=.box cs→blk t≠g) (hit:∀id n sn,s=.iter id n sn→ro g≠.box t) (hown:∀τ n,ro g=.row τ n→s=EK τ s) (hg1:∀id k,ro g≠.obj id k∧ro g≠.priv id) (hg2:∀id k,ro' g≠.obj id k) (hgb:∀(sz:Nat) (xs:List D),s=.gbox sz xs∨s=.ubox xs→ro g≠.box t∧ro g≠.pbox t) (hsr:∀τ,((∃sz n,s=.sref τ sz n)∨(∃sz n,s=.gref τ sz n)∨∃cs sz n,(s=.ubox cs∨s=.uagg cs∨s=.uobj cs)∧.rr τ sz n∈cs)→ro g=.pbox τ→ro' g=ro g∧∀arr e x,w.heap[g]? = some (.cells arr e x)→∃arr',w'.heap[g]? = some (.cells arr' e x)∧arr'.size=arr.size):BB P base ro' blk w' t v s:=by
 have key:∀(u:Value) (c:C),CV P base ro w u c→(∀τ n,ro g=.row τ n→c=Hq τ c)→CV P base ro' w' u c:=by
  intro u c h hd
  cases c with
  |d x=>exact Rep.Bi hc h
  |nil=>exact h
  |own τ e xs=>
   obtain ⟨sz,us,h1,h2,h3,h4,h5,h6⟩:=h
   have hne:∀k,u.ownBlock=some k→k≠g:=by
    intro k hk e
    have hk2:=h6 k hk
    rw [e] at hk2
    have:=hd τ _ hk2
    simp [Hq] at this
   refine ⟨sz,us,h1,h2,QA h3 (fun k hk=>hb k (hne k hk)),h4,h5.Bi hc,fun k hk=>?_⟩
   rw [hro k (hne k hk)];exact h6 k hk
 have sl:∀(τ sz n:Nat) (u:Value),((∃sz n,s=.sref τ sz n)∨(∃sz n,s=.gref τ sz n)∨∃cs sz n,(s=.ubox cs∨s=.uagg cs∨s=.uobj cs)∧.rr τ sz n∈cs)→DV (.pbox τ) ro w (blk τ) sz n u→DV (.pbox τ) ro' w' (blk τ) sz n u:=by
  intro τ sz n u hs h
  by_cases e:blk τ=g
  ·rcases h with h|h
   ·exact .inl h
   ·have hr:ro g=.pbox τ:=e▸h.1
    obtain ⟨k1,k2⟩:=hsr τ hs hr
    rw [e] at h ⊢
    exact DV.size (.inr h) k1 k2
  ·exact DV.keep h fun _ hr=>⟨hb _ e,(hro _ e).trans hr⟩
 cases s with
 |junk=>trivial
 |c x=>exact key v x h fun τ n e=>by have:=hown τ n e;simpa [EK] using this
 |box cs=>
  obtain ⟨h0,h2,h3,arr,e,h4,h5⟩:=h
  have hne:=hbox cs rfl
  exact ⟨h0,h2,by rw [hro _ hne];exact h3,arr,e,(hb _ hne).trans h4,h5.Bi hc⟩
 |ref t' off=>exact h
 |at_ cs off=>
  obtain ⟨b,o,us,h1,h2,h3⟩:=h
  exact ⟨b,o,us,h1,h2.Bi hc,fun j u hu=>hc.cell _ _ _ (h3 j u hu).2 (h3 j u hu).1⟩
 |obj cs=>
  obtain ⟨b,arr,e,h1,h2,h3⟩:=h
  have hne:b≠g:=by rintro rfl;exact (hg1 _ _).1 h1
  exact ⟨b,arr,e,(hro b hne).trans h1,(hb b hne).trans h2,h3.Bi hc⟩
 |mapo es=>
  obtain ⟨b,ents,h1,h2⟩:=h
  have hne:b≠g:=by rintro rfl;exact (hg1 _ _).1 h1
  exact ⟨b,ents,(hro b hne).trans h1,h2.Bi hc ((hb b hne))⟩
 |iter id n seen=>
  obtain ⟨b,h1,h2⟩:=h
  have hne:b≠g:=by rintro rfl;exact hit id n seen rfl h2.2.1
  exact ⟨b,h1,h2.Bi hc (hb b hne) (hro b hne)⟩
 |gbox sz xs=>
  refine GAt.keep h hc fun _ hr=>?_
  have hne:blk t≠g:=fun e=>(hgb sz xs (.inl rfl)).2 (e▸hr)
  exact ⟨hb _ hne,(hro _ hne).trans hr⟩
 |sref τ sz n=>exact ⟨h.1,sl τ sz n v (.inl ⟨_,_,rfl⟩) h.2⟩
 |ubox cs=>
  obtain ⟨h0,h2,h3,arr,e,h4,h5⟩:=h
  have hne:blk t≠g:=fun e=>(hgb 0 cs (.inr rfl)).1 (e▸h3)
  exact ⟨h0,h2,by rw [hro _ hne];exact h3,arr,e,(hb _ hne).trans h4,h5.keep hc fun id sz n u hm hs=>sl id sz n u (.inr (.inr ⟨cs,sz,n,.inl rfl,hm⟩)) hs⟩
 |uagg cs=>
  obtain ⟨arr,h1,h5⟩:=h
  exact ⟨arr,h1,h5.keep hc fun id sz n u hm hs=>sl id sz n u (.inr (.inr ⟨cs,sz,n,.inr (.inl rfl),hm⟩)) hs⟩
 |gref id sz off=>
  obtain ⟨h1,h3,h4,arr,e',x,h5⟩:=h
  by_cases e:blk id=g
  ·subst e
   obtain ⟨k1,k2⟩:=hsr id (.inr (.inl ⟨_,_,rfl⟩)) h3
   obtain ⟨arr',k3,_⟩:=k2 _ _ _ h5
   exact ⟨h1,k1.trans h3,h4,arr',e',x,k3⟩
  ·exact ⟨h1,(hro _ e).trans h3,h4,arr,e',x,(hb _ e).trans h5⟩
 |pack cs rows=>
  refine GM.keep h hc fun k _ hr=>?_
  have hne:k≠g:=by
   rintro rfl
   rcases hr with hr|hr
   ·exact (hg1 _ true).1 hr
   ·exact (hg1 _ true).2 hr
  exact ⟨hb k hne,hro k hne⟩
 |uobj cs=>
  obtain ⟨b,arr,e,h1,h2,h3⟩:=h
  have hne:b≠g:=by rintro rfl;exact (hg1 _ _).1 h1
  exact ⟨b,arr,e,(hro b hne).trans h1,(hb b hne).trans h2,h3.keep hc fun id sz n u hm hs=>sl id sz n u (.inr (.inr ⟨cs,sz,n,.inr (.inr rfl),hm⟩)) hs⟩
 |free=>
  intro b k hk
  by_cases e:b=g
  ·subst e;exact hg2 _ _ hk
  ·exact h b k ((hro b e).symm.trans hk)
 |tup cs=>
  obtain ⟨arr,h1,h2,h3⟩:=h
  refine ⟨arr,h1,h2,fun i u c hu hci=>key u c (h3 i u c hu hci) fun τ n e=>?_⟩
  have:=hown τ n e
  simp only [EK,S.tup.injEq] at this
  have h4:(cs.map (Hq τ))[i]? = some c:=by rw [←this];exact hci
  rw [List.getElem?_map,hci] at h4
  simpa using h4.symm
theorem ZV {T:TypeId}{x y:Operand}{t off:Nat}{cs:List D}{r:D}{sh:Bool×Nat}(hop:o.op=.store T x y)(hx:Ap env x=.ref t off)(hb:env t=.box cs)(hy:vd env y=some r)(hsh:Bl P T=some sh)(hn:r.cells.length=sh.2)(hoff:off+r.cells.length≤cs.length)(hdst:o.dst=none) :
 Step P N o env (upd env (some t) (.box (patch cs off r.cells))):=by
 intro base w0 ro0 a w ⟨ro,blk,hs⟩ K Q hK
 have h1:=hs.get x 0
 rw [hx] at h1
 have h2:=hs.sat t
 rw [hb] at h2
 obtain ⟨h20,h21,h22,arr,e,h23,h24⟩:=h2
 have hv:=(hs.getD hy).cells
 obtain ⟨ag,n⟩:=sh
 obtain ⟨i,dd,k1,k2,k3,k4⟩:=GL hsh
 have hvs:(a.eval y).cells.size=i.size:=by have:=hv.1;simp at this;omega
 have harr:arr.size=cs.length:=by simpa using h24.1
 have hlen:(a.eval y).cells.toList.length=r.cells.length:=hv.1
 have hst:=run_storeCells_at P (blk t) off e (a.eval y).cells.toList 0 arr w h23 (by rw [hlen];omega) hv.2.1
 simp only [Nat.add_zero] at hst
 have hrun:(execOp a.eval o).run P w=.ok .skip (w.setRow (blk t) (arr.toList.take off++(a.eval y).cells.toList++arr.toList.drop (off+(a.eval y).cells.toList.length)).toArray):=by
  simp only [execOp,hop,Instr.storeAt,show a.eval x=_ from h1,Instr.sureAddr,storeVar,sizeOf,typeInfo,Sem.run_bind,Sem.run_pure,Result.andThen_ok]
  simp [k1,hvs,hst]
 unfold Oper.wp
 rw [hrun,Oper.upon_skip,hdst]
 refine hK _ _ ⟨ro,blk,?_⟩
 have hblk:∀k,k≠blk t→(w.setRow (blk t) (arr.toList.take off++(a.eval y).cells.toList++arr.toList.drop (off+(a.eval y).cells.toList.length)).toArray).heap[k]? = w.heap[k]? := fun k hk=>setRow_other w _ k _ hk
 have hc:Evo ro ro w (w.setRow (blk t) (arr.toList.take off++(a.eval y).cells.toList++arr.toList.drop (off+(a.eval y).cells.toList.length)).toArray):=by
  refine ⟨fun b off' u hok hcu=>?_,fun b id k hb hr=>⟨by simpa using hb,k,hr⟩⟩
  have hne:b≠blk t:=by intro e;subst e;unfold DD at hok;rw [h22] at hok;exact hok
  exact ⟨by rw [World.cell?_of_block (w:=w) (a:=⟨b,off',none⟩) (hblk b hne)];exact hcu,hok⟩
 refine ⟨hs.below.trans (Under.of_below ⟨rfl,rfl,rfl,by simp,fun k hk=>hblk k (by omega)⟩),by simpa using hs.room,hs.nodef,hs.size,hs.old,fun b hb=>hs.new b (by simpa using hb),hs.uniq,hs.given,fun s ht=>by
  by_cases es:s=t
  ·subst es;simp [upd] at ht
  ·simp only [upd,if_neg es] at ht;exact hs.left s ht,fun s=>?_⟩
 show BB P base ro blk _ s (a.tmps.getD s undef) _
 by_cases es:s=t
 ·subst es
  simp only [upd,if_true]
  refine ⟨h20,h21,h22,_,e,setRow_heap w _ arr _ e _ h23,?_⟩
  rw [List.toList_toArray]
  exact (h24.Bi hc).patch (hv.Bi hc) off
 ·simp only [upd,if_neg es]
  refine (hs.sat s).write (g:=blk t) hc hblk (fun _ _=>rfl) (fun cs' e2 e3=>?_) (fun _ _ _ _ e2=>by rw [h22] at e2;injection e2 with e2;exact es e2.symm) (fun τ n e2=>by rw [h22] at e2;cases e2) (fun id k=>⟨(fun e2=>by rw [h22] at e2;cases e2),(fun e2=>by rw [h22] at e2;cases e2)⟩) (fun id k e2=>by rw [h22] at e2;cases e2) (fun _ _ _=>⟨(fun e2=>by rw [h22] at e2;first|(cases e2;done)|(injection e2 with e2;exact es e2.symm)),(fun e2=>by rw [h22] at e2;first|(cases e2;done)|(injection e2 with e2;exact es e2.symm))⟩) (fun τ _ _=>⟨rfl,fun arr' e' x' hh=>by rw [h23] at hh;injection hh with hh;injection hh with hh1 hh2 hh3;subst hh1 hh2 hh3;exact ⟨_,setRow_heap w _ arr _ e _ h23,by simp only [List.size_toArray,List.length_append,List.length_take,List.length_drop,Array.length_toList];omega⟩⟩)
  ·have:=hs.sat s
   rw [e2] at this
   have h5:=this.2.2.1
   rw [e3,h22] at h5
   injection h5 with h5;exact es h5.symm
theorem Fv {T e:TypeId}{sz bytes:Nat}(h:CU P T=some (e,sz,bytes)):∃i z,P.underlying T=some (.slice e)∧P.info? e=some i∧i.zero=some z∧i.size=sz∧i.bytes=bytes∧z.cells.size=sz∧0<sz∧P.cellsOf e=sz:=by
 unfold CU at h
 split at h
 ·rename_i e' hu
  split at h
  ·rename_i i hi
   split at h
   ·rename_i z hz
    split at h
    ·rename_i hc
     simp only [Option.some.injEq,Prod.mk.injEq] at h
     obtain ⟨rfl,rfl,rfl⟩:=h
     exact ⟨i,z,hu,hi,hz,rfl,rfl,hc.1,hc.2,by simp [Program.cellsOf,hi]⟩
    ·cases h
   ·cases h
  ·cases h
 ·cases h
theorem Bf.own (h:Bf P N base w0 ro0 ro blk env a w){d:Nat}{e:TypeId}{sz:Nat}{xs:List D}{us:List Value}{cap:Nat}{cur:Array Value}(h0:0<sz)(hc:P.cellsOf e=sz)(hw:∀x∈xs,x.cells.length=sz)(hr:AX ro w us (flat xs))
 (hcap:xs.length≤cap) (hm:cap≤maxLen) (hcs:cur.size=cap*sz) (ht:cur.toList.take (xs.length*sz)=us) :
 Grow ro (ro.set w.heap.size (.row d (xs.length*sz))) w (w.alloc (.cells cur e))∧BB P base (ro.set w.heap.size (.row d (xs.length*sz))) blk (w.alloc (.cells cur e)) d (.slice (some ⟨w.heap.size,0,none⟩) xs.length cap) (.c (.own d e xs)):=by
 have hg:=Grow.Us (ro:=ro) h.new (.cells cur e) (.row d (xs.length*sz))
 refine ⟨hg,sz,us,h0,hc,⟨by rw [hr.1,flat_length hw],.inr ⟨w.heap.size,cap,cur,rfl,h.room,heap_alloc_new w _,hcap,hm,hcs,ht⟩⟩,hw,hr.Bi hg.evo,fun g hgk=>?_⟩
 have:w.heap.size=g:=by simpa [Value.ownBlock] using hgk
 subst this
 exact Aq.F9 _ _ _
theorem Ajh {T e:TypeId}{sz bytes:Nat}{l c:Operand}{kl kc:IntKind}{n:Nat}(hop:o.op=.makeSlice T l c)(hT:CU P T=some (e,sz,bytes))(hl:vd env l=some (.sc (.int kl 0)))(hc:vd env c=some (.sc (.int kc (n:Int))))(hb:bytes*n≤281474976710656)(hm:n≤maxLen){d:Nat}(hdst:o.dst=some d)(hd:d<N):Cf P N o env (.c (.own d e [])):=by
 refine DF hdst hd fun env' he base w0 ro0 ro blk a w hsim=>?_
 obtain ⟨i,z,h1,h2,h3,h4,h5,h6,h7,h8⟩:=Fv hT
 have e1:=(EL (hsim.getD (x:=l) (by rw [he.getD (by simp [hop,Op.operands])];exact hl))).1
 have e2:=(EL (hsim.getD (x:=c) (by rw [he.getD (by simp [hop,Op.operands])];exact hc))).1
 obtain ⟨w',hrun,hown,hgr⟩:=run_make_own (P:=P) w base T e i z sz h1 h2 h3 h4 kl kc n (by rw [h5];exact hb) hm hsim.room
 have hg:Grow ro (ro.set w.heap.size (.row d 0)) w w':=by
  refine ⟨⟨hgr.os,hgr.tape,hgr.output,hgr.size,fun k hk=>hgr.block k hk (by simp)⟩,fun b hb=>Aq.Dn _ _ (by omega),fun b hb=>?_,fun b id k hb=>?_⟩
  ·have hlt:=(hown.lt w.heap.size rfl).2
   rw [Aq.Dn _ _ (by omega)]
   exact hsim.new b (by have:=hgr.size;omega)
  ·by_cases e:b=w.heap.size
   ·subst e;rw [Aq.F9];simp
   ·rw [Aq.Dn _ _ e,hsim.new b hb];simp
 refine ⟨.slice (some ⟨w.heap.size,0,none⟩) 0 n,w',ro.set w.heap.size (.row d 0),by simp [execOp,hop,e1,e2,hrun],hg,sz,[],h7,h8,by simpa using hown,by simp,by simpa [flat] using AX.nil,fun g hgk=>?_⟩
 have:w.heap.size=g:=by simpa [Value.ownBlock] using hgk
 subst this
 simpa using Aq.F9 ro _ _
theorem XE {T e:TypeId}{sz:Nat}{v:Value}{ys:List D}(hT:P.underlying T=some (.slice e))(h:Rep ro w v (.row ys))(hw:∀y∈ys,y.cells.length=sz):∃news,Src P sz T v ys.length news w∧AX ro w news (flat ys):=by
 obtain ⟨ad,cap,rfl,hm,hc,hrow⟩:=SQ h
 by_cases h0:ys= []
 ·subst h0
  refine ⟨[],?_,by simpa [flat] using AX.nil⟩
  cases ad with
  |none=>exact Src.ofNil w hT cap
  |some ad=>exact Src.ofSlice w hT ad 0 cap [] (by simp) (by simp) (by simp)
 ·obtain ⟨b,off,sz',us,rfl,g1,g2,g3,g4,g5⟩:=hrow h0
  obtain ⟨y,hy⟩:=List.exists_mem_of_ne_nil _ h0
  obtain rfl:sz'=sz:=(g3 y hy).symm.trans (hw y hy)
  exact ⟨us,Src.ofSlice w hT ⟨b,off,none⟩ _ cap us g2 (fun j u hu=>by rw [GY];exact (g5 j u hu).1) g4.2.1,g4⟩
theorem Arc {T tx ty e:TypeId}{i:TypeInfo}(ht:P.underlying T=some (.slice e))(hi:P.info? e=some i){g sLen sCap:Nat}{cur:Array Value}(hg:w.heap[g]? = some (.cells cur e (0,0))){x:Value}{n:Nat}{news:List Value}(hs:Src P i.size tx x n news w)
 (hroom:sLen+n≤sCap) (hfit:sLen*i.size+news.length≤cur.size) :
 (Builtin.append_ #[T,tx] ty #[.slice (some ⟨g,0,none⟩) sLen sCap,x]).run P w=.ok (.slice (some ⟨g,0,none⟩) (sLen+n) sCap) (w.setRow g (cur.toList.take (sLen*i.size)++news++cur.toList.drop (sLen*i.size+news.length)).toArray):=by
 have hst:=run_storeCells_at P g (sLen*i.size) e news 0 cur w hg (by simpa using hfit) hs.one
 simp only [Nat.add_zero] at hst
 rcases hs.kind with ⟨e',hk⟩|hk<;>simp [Builtin.append_,run_underlying ht,run_underlying hk,sizeOf,typeInfo,hi,hs.len,hroom,hs.cells,Addr.add_lit,hst]
theorem AbB (τ:Nat)(c:C):Hq τ (Hq τ c)=Hq τ c:=by
 cases c with
 |own τ' e xs=>by_cases h:τ'=τ<;>simp [Hq,h]
 |_=>rfl
theorem AkY (τ:Nat)(s:S):EK τ s=EK τ (EK τ s):=by
 cases s with
 |c x=>simp [EK,AbB]
 |tup cs=>simp [EK,AbB]
 |_=>rfl
theorem CV.EK {v:Value}{c:C}(τ:Nat)(h:CV P base ro w v c):CV P base ro w v (Hq τ c):=by
 cases c with
 |own τ' e xs=>
  simp only [Hq]
  split
  ·exact h.rep
  ·exact h
 |_=>exact h
theorem BB.EK {t:Nat}{v:Value}{s:S}(τ:Nat)(h:BB P base ro blk w t v s):BB P base ro blk w t v (EK τ s):=by
 cases s with
 |c x=>exact CV.EK τ h
 |tup cs=>
  obtain ⟨arr,h1,h2,h3⟩:=h
  refine ⟨arr,h1,by simpa using h2,fun i u c hu hc=>?_⟩
  rw [List.getElem?_map] at hc
  cases hci:cs[i]? with
  |none=>rw [hci] at hc;cases hc
  |some c'=>
   rw [hci] at hc
   simp only [Option.map_some,Option.some.injEq] at hc
   subst hc
   exact (h3 i u c' hu hci).EK τ
 |_=>exact h
theorem Aa6 (hsim:Bf P N base w0 ro0 ro blk env a w){T tx e ty:TypeId}{sz bytes τ:Nat}{xs ys:List D}{v y:Value}{news:List Value}(hT:CU P T=some (e,sz,bytes))(hv:CV P base ro w v (.own τ e xs))(hs:Src P sz tx y ys.length news w)(hn:AX ro w news (flat ys))(hwy:∀y∈ys,y.cells.length=sz)
 (h63:xs.length+ys.length≤maxLen) (hby:(xs.length+ys.length)*bytes≤140737488355328) {d:Nat} (σ:Nat) (hd:d<N) :
 ∃v' w',(Builtin.append_ #[T,tx] ty #[v,y]).run P w=.ok v' w'∧Sim P N base w0 ro0 (upd (JK env τ) (some d) (.c (.own σ e (xs++ys)))) (a.put (some d) v') w':=by
 obtain ⟨i,z,h1,h2,h3,h4,h5,h6,h7,h8⟩:=Fv hT
 obtain ⟨sz',us,k1,k2,k3,k4,k5,k6⟩:=hv
 obtain rfl:sz'=sz:=k2.symm.trans h8
 subst h4
 have hwxy:∀x∈xs++ys,x.cells.length=i.size:=fun x hx=>by
  rcases List.mem_append.1 hx with hx|hx
  ·exact k4 x hx
  ·exact hwy x hx
 have hsp:Bf P N base w0 ro0 ro blk (JK env τ) a w:=⟨hsim.below,hsim.room,hsim.nodef,hsim.size,hsim.old,hsim.new,hsim.uniq,hsim.given,fun t ht=>hsim.left t (by
  cases hst:env t<;>simp [JK,hst,Vm.EK] at ht;rfl),fun t=>(hsim.sat t).EK τ⟩
 have hrall:AX ro w (us++news) (flat (xs++ys)):=by rw [Qy];exact k5.append hn
 have hbig:(xs.length+ys.length:Nat)≤9223372036854775807:=by simp only [maxLen] at h63;omega
 have hlen:(us++news).length=(xs.length+ys.length)*i.size:=by rw [List.length_append,k3.1,hs.newsLen,Nat.add_mul]
 -- the arm that grows
 have grown:∀(v:Value) (ad:Option Addr) (old:Nat),v=.slice ad xs.length old→old<xs.length+ys.length→(Builtin.firstCells i.size xs.length (.slice ad xs.length old)).run P w.drew=.ok us.toArray w.drew →
  ∃v' w',(Builtin.append_ #[T,tx] ty #[v,y]).run P w=.ok v' w'∧Sim P N base w0 ro0 (upd (JK env τ) (some d) (.c (.own σ e (xs++ys)))) (a.put (some d) v') w':=by
  intro v ad old hv hlt hf
  subst hv
  have hr:=run_append_grow_src (P:=P) w T tx ty e i z h1 h2 h3 ad xs.length old us hf y ys.length news hs hlt (by omega) (growslice_fits hlt (by rw [h5];exact hby))
  refine ⟨_,_,hr,?_⟩
  have hge:=grownCap_ge w (xs.length+ys.length) old e
  have hcm:grownCap w (xs.length+ys.length) old e≤maxLen:=grownCap_le_maxLen w (xs.length+ys.length) old e h63
  have hdrew:Bf P N base w0 ro0 ro blk (JK env τ) a w.drew:=hsp.rest ⟨(Below.refl _ _).drew,fun _ _=>rfl,hsp.new,fun b id k hb=>by rw [hsp.new b hb];simp⟩
  have hk:=hdrew.own (d:=σ) (e:=e) (sz:=i.size) (xs:=xs++ys) (us:=us++news) (cap:=grownCap w (xs.length+ys.length) old e) (cur:=(us++news).toArray++Builtin.zeroCells z.cells (grownCap w (xs.length+ys.length) old e-(xs.length+ys.length))) k1 h8 hwxy ?_ (by simpa using hge) hcm ?_ ?_
  ·obtain ⟨hg,hsat⟩:=hk
   rw [List.length_append] at hsat hg
   exact ⟨_,_,hdrew.put hg hd hsat⟩
  ·exact hrall.Bi ⟨fun b off u hok hc=>⟨by simpa using hc,hok⟩,fun b id k hb hr=>⟨by simpa using hb,k,hr⟩⟩
  ·simp only [Array.size_append,List.size_toArray,size_zeroCells,h6]
   rw [hlen,←Nat.add_mul]
   congr 1;omega
  ·rw [List.length_append,←hlen]
   simp only [Array.toList_append]
   exact List.take_left
 rcases k3.2 with ⟨rfl,h00⟩|⟨g,cap,cur,rfl,hbg,hgh,hnc,hcm,hcs,htake⟩
 ·obtain rfl:xs= []:=List.length_eq_zero_iff.1 h00
  obtain rfl:us= []:=List.length_eq_zero_iff.1 (by simpa using k3.1)
  by_cases hm:ys= []
  ·subst hm
   have hne:news= []:=List.length_eq_zero_iff.1 (by simpa using hs.newsLen)
   subst hne
   refine ⟨.slice none 0 0,w,?_,ro,blk,hsp.put (Grow.refl hsp.new) hd ?_⟩
   ·have hl0:=hs.len w
    have hc0:=hs.cells
    rcases hs.kind with ⟨e',hk⟩|hk<;>simp at hl0 hc0<;>simp [Builtin.append_,run_underlying h1,run_underlying hk,sizeOf,typeInfo,h2,hl0,hc0]
   ·exact ⟨i.size,[],k1,h8,World.ownsRow_nil w base e i.size,by simp,by simpa [flat] using AX.nil,fun g hgk=>by simp [Value.ownBlock] at hgk⟩
  ·exact grown _ none 0 rfl (by have:=List.length_pos_iff.2 hm;rw [List.length_nil];omega) (run_firstCells_none (P:=P) w.drew i.size 0 0 0)
 ·by_cases hroom:xs.length+ys.length≤cap
  ·have hfit:xs.length*i.size+news.length≤cur.size:=by rw [hs.newsLen,hcs,←Nat.add_mul];exact Nat.mul_le_mul_right _ hroom
   have hr:=Arc (P:=P) (ty:=ty) h1 h2 hgh hs hroom hfit
   refine ⟨_,_,hr,ro.set g (.row σ ((xs.length+ys.length)*i.size)),blk,?_⟩
   have hrg:=k6 g rfl
   have hglt:=block_lt hgh
   have hblk:∀k,k≠g→(w.setRow g (cur.toList.take (xs.length*i.size)++news++cur.toList.drop (xs.length*i.size+news.length)).toArray).heap[k]? = w.heap[k]? := fun k hk=>setRow_other w _ k _ hk
   have hnew:=setRow_heap w g cur (cur.toList.take (xs.length*i.size)++news++cur.toList.drop (xs.length*i.size+news.length)).toArray e (0,0) hgh
   have hrne:∀id k,ro g≠.obj id k:=fun id k e2=>by rw [hrg] at e2;cases e2
   have hrne2:∀id k,(ro.set g (.row σ ((xs.length+ys.length)*i.size))) g≠.obj id k:=fun id k e2=>by rw [Aq.F9] at e2;cases e2
   have hobj:∀b id k,(ro.set g (.row σ ((xs.length+ys.length)*i.size))) b=.obj id k→ro b=.obj id k:=by
    intro b id k e2
    by_cases hne:b=g
    ·subst hne;exact absurd e2 (hrne2 id k)
    ·rwa [Aq.Dn _ _ hne] at e2
   have hc:Evo ro (ro.set g (.row σ ((xs.length+ys.length)*i.size))) w (w.setRow g (cur.toList.take (xs.length*i.size)++news++cur.toList.drop (xs.length*i.size+news.length)).toArray):=by
    refine ⟨fun b off' u hok hcu=>?_,fun b id k hb hr2=>⟨by simpa using hb,k,by
     rw [Aq.Dn];exact hr2
     rintro rfl;exact hrne id k hr2⟩⟩
    by_cases hne:b=g
    ·subst hne
     unfold DD at hok
     rw [hrg] at hok
     simp only at hok
     constructor
     ·rw [cell_of_row _ b off' _ e (0,0) hnew]
      rw [cell_of_row _ b off' _ e (0,0) hgh] at hcu
      have hle:off' < (cur.toList.take (xs.length*i.size)).length:=by rw [htake,k3.1];exact hok
      rw [List.getElem?_toArray,List.append_assoc,List.getElem?_append_left hle,List.getElem?_take,if_pos hok]
      simpa using hcu
     ·unfold DD
      rw [Aq.F9]
      show off' < (xs.length+ys.length)*i.size
      rw [Nat.add_mul];omega
    ·refine ⟨by rw [World.cell?_of_block (w:=w) (a:=⟨b,off',none⟩) (hblk b hne)];exact hcu,?_⟩
     unfold DD at *;rw [Aq.Dn _ _ hne];exact hok
   refine ⟨hsp.below.trans (Under.of_below ⟨rfl,rfl,rfl,by simp,fun k hk=>hblk k (by omega)⟩),by simpa using hsp.room,by simpa [Act.put] using hsp.nodef,by simpa [Act.put] using hsp.size,hsp.old.set (.inl hbg),fun b hb=>by rw [Aq.Dn _ _ (by simp at hb;omega)];exact hsp.new b (by simpa using hb),fun b b' id k k' e2 e3=>hsp.uniq b b' id k k' (hobj b id k e2) (hobj b' id k' e3),fun b id k hb e2=>hsp.given b id k hb (hobj b id k e2),fun t ht=>by
    by_cases et:t=d
    ·subst et;simp [upd] at ht
    ·simp only [upd,if_neg et] at ht;exact hsp.left t ht,fun t=>?_⟩
   rw [Lt]
   by_cases et:t=d
   ·subst et
    rw [if_pos ⟨rfl,by rw [hsp.size];exact hd⟩]
    simp only [upd,if_true]
    refine ⟨i.size,us++news,k1,h8,⟨by rw [hlen,List.length_append],.inr ⟨g,cap,_,by rw [List.length_append],hbg,hnew,by rw [List.length_append];exact hroom,hcm,?_,?_⟩⟩,hwxy,hrall.Bi hc,fun g' hg'=>?_⟩
    ·simp only [List.size_toArray,List.length_append,List.length_take,List.length_drop,Array.length_toList]
     omega
    ·rw [htake,List.length_append,←hlen]
     exact List.take_left
    ·have:g=g':=by simpa [Value.ownBlock] using hg'
     subst this
     rw [Aq.F9,List.length_append]
   ·rw [if_neg (fun k=>et k.1)]
    simp only [upd,if_neg et]
    refine (hsp.sat t).write (g:=g) hc hblk (fun k hk=>Aq.Dn _ _ hk) (fun cs' e2 e3=>?_) (fun _ _ _ _ e2=>by rw [hrg] at e2;cases e2) (fun τ' n e2=>?_) (fun id k=>⟨hrne id k,(fun e2=>by rw [hrg] at e2;cases e2)⟩) hrne2 (fun _ _ _=>⟨(fun e2=>by rw [hrg] at e2;cases e2),(fun e2=>by rw [hrg] at e2;cases e2)⟩) (fun τ' _ e2=>by rw [hrg] at e2;cases e2)
    ·have:=hsp.sat t
     rw [e2] at this
     have h5:=this.2.2.1
     rw [e3,hrg] at h5
     cases h5
    ·rw [hrg] at e2
     injection e2 with e2 _
     subst e2
     exact AkY _ _
  ·have holds:=k3.cells (g:=g) rfl
   refine grown _ (some ⟨g,0,none⟩) cap rfl (by omega) ?_
   exact run_firstCells_some (P:=P) w.drew i.size xs.length ⟨g,0,none⟩ xs.length cap us k3.1 (by simpa using holds)
theorem Aol {T e:TypeId}{sz bytes τ:Nat}{x y:Operand}{xs ys:List D}(hop:o.op=.call { callee:=.builtin .append,args:=#[x,y],argTypes:=#[T,T] })(hT:CU P T=some (e,sz,bytes))(hx:Ap env x=.c (.own τ e xs))(hy:vd env y=some (.row ys))(hw:∀y∈ys,y.cells.length=sz)
 (h63:xs.length+ys.length≤maxLen) (hby:(xs.length+ys.length)*bytes≤140737488355328) {d σ:Nat} (hdst:o.dst=some d) (hd:d<N):Step P N o env (upd (JK env τ) (some d) (.c (.own σ e (xs++ys)))):=by
 intro base w0 ro0 a w ⟨ro,blk,hs⟩ K Q hK
 have h1:=hs.get x 0
 rw [hx] at h1
 obtain ⟨i,z,e1,_⟩:=Fv hT
 obtain ⟨news,h2,h3⟩:=XE (P:=P) e1 (hs.getD hy) hw
 obtain ⟨v',w',h4,h5⟩:=Aa6 (ty:=o.type) hs hT h1 h2 h3 hw h63 hby σ hd
 unfold Oper.wp
 have hrun:(execOp a.eval o).run P w=.ok (.value v') w':=by
  simp only [execOp,hop,resolve,invoke,builtin,Sem.run_bind,Sem.run_pure,Result.andThen_ok,List.map_toArray,List.map_cons,List.map_nil,h4]
 rw [hrun,Oper.upon_value,hdst]
 exact hK _ _ h5
theorem AnI {T tx e:TypeId}{bytes τ:Nat}{x y:Operand}{xs:List D}{s:ByteArray}(hop:o.op=.call { callee:=.builtin .append,args:=#[x,y],argTypes:=#[T,tx] })(hT:CU P T=some (e,1,bytes))(htx:P.underlying tx=some .string)(hx:Ap env x=.c (.own τ e xs))(hy:vd env y=some (.sc (.string s)))
 (h63:xs.length+s.size≤maxLen) (hby:(xs.length+s.size)*bytes≤140737488355328) {d σ:Nat} (hdst:o.dst=some d) (hd:d<N):Step P N o env (upd (JK env τ) (some d) (.c (.own σ e (xs++bytesD s)))):=by
 intro base w0 ro0 a w ⟨ro,blk,hs⟩ K Q hK
 have h1:=hs.get x 0
 rw [hx] at h1
 have hv:=(EL (hs.getD hy)).1
 have hbl:(bytesD s).length=s.size:=by simp [bytesD]
 have hfl:flat (bytesD s)=bytesD s:=by
  unfold flat bytesD
  induction s.data.toList with
  |nil=>rfl
  |cons b l ih=>simp only [List.map_cons,List.flatMap_cons,ih];rfl
 have h3:AX ro w (byteCells s) (flat (bytesD s)):=by
  rw [hfl]
  refine ⟨by rw [byteCells_length,hbl],(Src.ofString (P:=P) w htx s).one,fun j u c hu hc=>?_⟩
  unfold byteCells at hu
  unfold bytesD at hc
  rw [List.getElem?_map] at hu hc
  cases hj:s.data.toList[j]? with
  |none=>rw [hj] at hu;cases hu
  |some b=>rw [hj] at hu hc;simp at hu hc;subst hu hc;exact .sc rfl
 obtain ⟨v',w',h4,h5⟩:=Aa6 (ty:=o.type) (ys:=bytesD s) hs hT h1 (by rw [hbl];exact Src.ofString (P:=P) w htx s) h3 (fun y hy=>by obtain ⟨b,_,rfl⟩:=List.mem_map.1 hy;rfl) (by rw [hbl];exact h63) (by rw [hbl];exact hby) σ hd
 unfold Oper.wp
 have hrun:(execOp a.eval o).run P w=.ok (.value v') w':=by
  simp only [execOp,hop,resolve,invoke,builtin,Sem.run_bind,Sem.run_pure,Result.andThen_ok,List.map_toArray,List.map_cons,List.map_nil,hv,h4]
 rw [hrun,Oper.upon_value,hdst]
 exact hK _ _ h5
theorem At8 (T:TypeId){e:TypeId}{sz bytes τ:Nat}(hT:CU P T=some (e,sz,bytes)){v:Value}(h:v=.slice none 0 0):CV P base ro w v (.own τ e []):=by
 subst h
 obtain ⟨i,z,h1,h2,h3,h4,h5,h6,h7,h8⟩:=Fv hT
 exact ⟨sz,[],h7,h8,World.ownsRow_nil w base e sz,by simp,by simpa [flat] using AX.nil,fun g hg=>by simp [Value.ownBlock] at hg⟩
theorem CV.mono {b':Nat}{v:Value}{c:C}(h:CV P base ro w v c)(hb:b'≤base):CV P b' ro w v c:=by
 cases c with
 |own τ e xs=>
  obtain ⟨sz,us,h1,h2,h3,h4,h5,h6⟩:=h
  exact ⟨sz,us,h1,h2,Ahd h3 hb,h4,h5,h6⟩
 |_=>exact h
theorem Yd:∀{xs:List Operand} {ds:List D},Bf P N base w0 ro0 ro blk env a w→Ia env xs=some ds→(xs.map a.eval).length=ds.length∧∀(i:Nat) (v:Value) (d:D),(xs.map a.eval)[i]? = some v→ds[i]? = some d→Rep ro w v d
 | [],ds,hs,h=>by simp [Ia] at h;subst h;exact ⟨rfl,by simp⟩
 |x::l,ds,hs,h=>by
  unfold Ia at h
  split at h
  ·rename_i d es h1 h2
   injection h with h;subst h
   obtain ⟨k1,k2⟩:=Yd hs h2
   refine ⟨by simpa using k1,fun j p q hp hq=>?_⟩
   cases j with
   |zero=>simp at hp hq;subst hp hq;exact hs.getD h1
   |succ j=>exact k2 j p q (by simpa using hp) (by simpa using hq)
  ·cases h
theorem Aa8:∀{xs:List Operand},(∀x∈xs,vd env' x=vd env x)→Ia env' xs=Ia env xs
 | [],_=>rfl
 |x::l,h=>by
  unfold Ia
  rw [h x (List.mem_cons_self ..),Aa8 fun y hy=>h y (List.mem_cons_of_mem _ hy)]
theorem AcM (cs:List C):EN cs≠.free:=by
 match cs with
 | []=>simp [EN]
 | [c]=>simp [EN]
 |c::c'::l=>simp [EN]
theorem Y3 {v:Value}{cs:List C}{t:Nat}{b:Nat→Nat}(hb:base≤w.heap.size)(h:BB P w.heap.size ro' (fun _=>0) w' 0 v (EN cs)):BB P base ro' b w' t v (EN cs):=by
 match cs,h with
 | [],h=>
  obtain ⟨arr,h1,h2,h3⟩:=h
  exact ⟨arr,h1,h2,fun i u c hu hc=>(h3 i u c hu hc).mono hb⟩
 | [c],h=>exact CV.mono h hb
 |c::c'::cs,h=>
  obtain ⟨arr,h1,h2,h3⟩:=h
  exact ⟨arr,h1,h2,fun i u c hu hc=>(h3 i u c hu hc).mono hb⟩
theorem AhK {f:FuncId}{xs:Array Operand}{ts:Array TypeId}{ds:List D}{res:List C}(hop:o.op=.call { callee:=.value (.func f),args:=xs,argTypes:=ts })(hf:enters P f=true)(hx:Ia env xs.toList=some ds)(hc:AP P f ds res){d:Nat}(hdst:o.dst=some d)(hd:d<N):Cf P N o env (EN (res.map (Ew d))):=by
 refine ⟨⟨d,hdst,hd⟩,AcM _,fun env' he base w0 ro0 ro blk a w hs K Q hK=>?_⟩
 have hx':Ia env' xs.toList=some ds:=by
  rw [←hx]
  refine Aa8 fun x hm=>he.getD ?_
  simp only [hop,Op.operands,Call.operands]
  simp [Array.mem_toList_iff.1 hm]
 obtain ⟨h1,h2⟩:=Yd hs hx'
 unfold Oper.wp
 have hrun:(execOp a.eval o).run P w=.ok (.enter f (xs.map a.eval)) w:=by
  unfold enters at hf
  split at hf
  ·rename_i fn hfn
   simp only [Bool.and_eq_true,bne_iff_ne,ne_eq] at hf
   cases hbody:fn.body with
   |none=>rw [hbody] at hf;simp at hf
   |some c=>simp [execOp,hop,resolve,Act.eval,Deferred.ofValue,invoke,callFunc,hfn,hf.1,hbody]
  ·cases hf
 rw [hrun,Oper.upon_enter]
 refine (hc ro w (xs.map a.eval) d hs.ZG hs.uniq (by simpa using h1) (by simpa using h2)).mono ?_
 rintro e w' ⟨v,ro',rfl,hg,hsat⟩
 exact hK _ _ _ hg fun _ _=>Y3 hs.room hsat
theorem AhY {T tx e ty:TypeId}{sz bytes:Nat}{ys:List D}{y:Value}{news:List Value}(hT:CU P T=some (e,sz,bytes))(hs:Src P sz tx y ys.length news w)(hn:AX ro w news (flat ys))(hwy:∀y∈ys,y.cells.length=sz)(hnew:∀b,w.heap.size≤b→ro b=.frozen)(hroom:base≤w.heap.size)
 (h63:ys.length≤maxLen) (hby:ys.length*bytes≤140737488355328) (d:Nat) :
 ∃v' w' ro',(Builtin.append_ #[T,tx] ty #[.slice none 0 0,y]).run P w=.ok v' w'∧Grow ro ro' w w'∧CV P base ro' w' v' (.own d e ys):=by
 obtain ⟨i,z,h1,h2,h3,h4,h5,h6,h7,h8⟩:=Fv hT
 subst h4
 by_cases hm:ys= []
 ·subst hm
  have hne:news= []:=List.length_eq_zero_iff.1 (by simpa using hs.newsLen)
  subst hne
  refine ⟨.slice none 0 0,w,ro,?_,Grow.refl hnew,At8 T hT rfl⟩
  have hl0:=hs.len w
  have hc0:=hs.cells
  rcases hs.kind with ⟨e',hk⟩|hk<;>simp at hl0 hc0<;>simp [Builtin.append_,run_underlying h1,run_underlying hk,sizeOf,typeInfo,h2,hl0,hc0]
 ·have hlt:0<0+ys.length:=by have:=List.length_pos_iff.2 hm;omega
  have hbig:(0+ys.length:Nat)≤9223372036854775807:=by simp only [maxLen] at h63;omega
  have hr:=run_append_grow_src (P:=P) w T tx ty e i z h1 h2 h3 none 0 0 [] (run_firstCells_none (P:=P) w.drew i.size 0 0 0) y ys.length news hs hlt (by omega) (growslice_fits hlt (by rw [h5,Nat.zero_add];exact hby))
  have hge:=grownCap_ge w (0+ys.length) 0 e
  have hcm:grownCap w (0+ys.length) 0 e≤maxLen:=grownCap_le_maxLen w (0+ys.length) 0 e (by omega)
  rw [Nat.zero_add,List.nil_append] at hr
  rw [Nat.zero_add] at hge hcm
  have hg1:Grow ro ro w w.drew:=⟨(Below.refl _ _).drew,fun _ _=>rfl,hnew,fun b id k hb=>by rw [hnew b hb];simp⟩
  have hg2:=Grow.Us (ro:=ro) (w:=w.drew) hnew (.cells (news.toArray++Builtin.zeroCells z.cells (grownCap w ys.length 0 e-ys.length)) e) (.row d (ys.length*i.size))
  refine ⟨_,_,_,hr,⟨hg1.below.trans hg2.below,fun b hb=>(hg2.role b hb).trans (hg1.role b hb),hg2.new,fun b id k hb=>hg2.noobj b id k hb⟩,i.size,news,h7,h8,⟨hs.newsLen,.inr ⟨w.heap.size,_,_,rfl,hroom,heap_alloc_new w.drew _,hge,hcm,?_,?_⟩⟩,hwy,(hn.Bi hg1.evo).Bi hg2.evo,fun g hg=>?_⟩
  ·simp only [Array.size_append,List.size_toArray,size_zeroCells,h6]
   rw [hs.newsLen,←Nat.add_mul]
   congr 1;omega
  ·rw [←hs.newsLen]
   simp only [Array.toList_append]
   exact List.take_left
  ·have:w.heap.size=g:=by simpa [Value.ownBlock] using hg
   subst this
   exact Aq.F9 _ _ _
theorem AiZ {T e:TypeId}{sz bytes:Nat}{x y:Operand}{ys:List D}(hop:o.op=.call { callee:=.builtin .append,args:=#[x,y],argTypes:=#[T,T] })(hT:CU P T=some (e,sz,bytes))(hx:Ap env x=.c .nil)(hy:vd env y=some (.row ys))(hw:∀y∈ys,y.cells.length=sz)
 (h63:ys.length≤maxLen) (hby:ys.length*bytes≤140737488355328) {d:Nat} (hdst:o.dst=some d) (hd:d<N):Cf P N o env (.c (.own d e ys)):=by
 refine DF hdst hd fun env' he base w0 ro0 ro blk a w hsim=>?_
 have h1:=hsim.get x 0
 rw [he.get (by simp [hop,Op.operands,Call.operands]),hx] at h1
 obtain ⟨i,z,e1,_⟩:=Fv hT
 obtain ⟨news,h2,h3⟩:=XE (P:=P) e1 (hsim.getD (x:=y) (by rw [he.getD (by simp [hop,Op.operands,Call.operands])];exact hy)) hw
 obtain ⟨v',w',ro',h4,h5,h6⟩:=AhY (base:=base) (ty:=o.type) hT h2 h3 hw hsim.new hsim.room h63 hby d
 refine ⟨v',w',ro',?_,h5,h6⟩
 simp only [execOp,hop,resolve,invoke,builtin,Sem.run_bind,Sem.run_pure,Result.andThen_ok,List.map_toArray,List.map_cons,List.map_nil,show a.eval x=_ from h1,h4]
theorem AaH {sz:Nat}:∀{xs:List D} {k:Nat} {cs:List D},(∀x∈xs,x.cells.length=sz)→(k+xs.length)*sz≤cs.length→GG (fun i=>some (i*sz,sz)) cs (JD k xs)=some (cs.take (k*sz)++flat xs++cs.drop ((k+xs.length)*sz))
 | [],k,cs,_,_=>by simp [JD,GG,flat]
 |x::xs,k,cs,h,hl=>by
  have hx:=h x (List.mem_cons_self ..)
  have hk:k*sz+sz≤cs.length:=by
   have:(k+1)*sz≤(k+(x::xs).length)*sz:=Nat.mul_le_mul_right _ (by simp)
   rw [Nat.add_mul,Nat.one_mul] at this;omega
  have hpl:(patch cs (k*sz) x.cells).length=cs.length:=by
   simp only [patch,List.length_append,List.length_take,List.length_drop,hx];omega
  unfold JD GG
  simp only
  rw [if_pos ⟨hx,by rw [hx];exact hk⟩,AaH (xs:=xs) (k:=k+1) (fun y hy=>h y (List.mem_cons_of_mem _ hy)) (by rw [hpl];simp only [List.length_cons] at hl;rw [show k+1+xs.length=k+(xs.length+1) by omega];exact hl)]
  congr 1
  have e1:(patch cs (k*sz) x.cells).take ((k+1)*sz)=cs.take (k*sz)++x.cells:=by
   unfold patch
   rw [List.take_left']
   rw [List.length_append,List.length_take,hx,Nat.add_mul,Nat.one_mul];omega
  have e2:(patch cs (k*sz) x.cells).drop ((k+1+xs.length)*sz)=cs.drop ((k+(x::xs).length)*sz):=by
   unfold patch
   have hle:(cs.take (k*sz)++x.cells).length=(k+1)*sz:=by rw [List.length_append,List.length_take,hx,Nat.add_mul,Nat.one_mul];omega
   rw [List.drop_append,List.drop_of_length_le (by rw [hle];exact Nat.mul_le_mul_right _ (by omega)),List.nil_append,hle,List.drop_drop,hx]
   congr 1
   simp only [List.length_cons]
   rw [show k+1+xs.length=(k+1)+xs.length from rfl,Nat.add_mul (k+1),Nat.add_sub_cancel_left,show k+(xs.length+1)=(k+1)+xs.length by omega,Nat.add_mul (k+1) xs.length,Nat.add_mul k 1,Nat.one_mul]
  rw [e1,e2]
  simp [flat]
theorem Am2 {T e:TypeId}{sz bytes len:Nat}{parts:Array (Nat×Operand)}{ds:List (Nat×D)}(hop:o.op=.buildSlice T len parts)(hT:CU P T=some (e,sz,bytes))(hx:Eu env parts.toList=some ds)(hds:ds=JD 0 (ds.map (·.2)))(hlen:ds.length=len)(hw:∀x∈ds.map (·.2),x.cells.length=sz)(hz:(zeroOf P e).isSome=true)(hsmall:len*sz≤16777216){d:Nat}(hdst:o.dst=some d)(hd:d<N):Cf P N o env (.c (.own d e (ds.map (·.2)))):=by
 refine DF hdst hd fun env' he base w0 ro0 ro blk a w hsim=>?_
 obtain ⟨i,z,h1,h2,h3,h4,h5,h6,h7,h8⟩:=Fv hT
 subst h4
 have hx':Eu env' parts.toList=some ds:=by
  rw [←hx]
  refine WG fun x hm=>he.getD ?_
  simp only [hop,Op.operands]
  exact List.mem_toArray.2 (List.mem_map.2 ⟨x,hm,rfl⟩)
 obtain ⟨k1,k2⟩:=Uu hsim hx'
 obtain ⟨zs,hzs⟩:=Option.isSome_iff_exists.1 hz
 obtain ⟨i',z',q1,q2,q3⟩:=Qn hzs
 rw [h2] at q1;injection q1 with q1;subst q1
 rw [h3] at q2;injection q2 with q2;subst q2
 have hzr:=OW (ro:=ro) (w:=w) q3
 have hlenx:(ds.map (·.2)).length=len:=by simpa using hlen
 have hzc:AX ro w ((Array.range (len*i.size)).map (z.cells[· % z.cells.size]!)).toList ((List.range (len*i.size)).map fun j=>zs.getD (j % z.cells.size) default):=by
  have hzl:z.cells.size=zs.length:=by simpa using hzr.1
  have hmod:∀j,j % z.cells.size<z.cells.size:=fun j=>Nat.mod_lt _ (by rw [h6];exact h7)
  have hget:∀j,z.cells.toList[j % z.cells.size]? = some (z.cells[j % z.cells.size]!):=fun j=>by
   rw [getElem!_pos z.cells _ (hmod j)];simp [hmod j]
  refine ⟨by simp,fun u hu=>?_,fun j u c hu hc=>?_⟩
  ·simp only [Array.toList_map,Array.toList_range,List.mem_map] at hu
   obtain ⟨j,_,rfl⟩:=hu
   exact hzr.2.1 _ (List.mem_of_getElem? (hget j))
  ·simp only [Array.toList_map,Array.toList_range,List.getElem?_map] at hu hc
   cases hj:(List.range (len*i.size))[j]? with
   |none=>rw [hj] at hu;cases hu
   |some m=>
    rw [hj] at hu hc
    simp only [Option.map_some,Option.some.injEq] at hu hc
    subst hu hc
    refine hzr.2.2 _ _ _ (hget m) ?_
    rw [List.getD_eq_getElem?_getD,List.getElem?_eq_getElem (by rw [←hzl];exact hmod m)];rfl
 have hfd:=AaH (sz:=i.size) (k:=0) (cs:=(List.range (len*i.size)).map fun j=>zs.getD (j % z.cells.size) default) hw (by rw [Nat.zero_add,hlenx];simp)
 rw [←hds] at hfd
 obtain ⟨cells,f1,f2⟩:=Ur (parts:=parts.toList.map fun (i,x)=>(i,a.eval x)) hzc k1 k2 hfd
 rw [Nat.zero_add,hlenx,Nat.zero_mul,List.take_zero,List.nil_append,List.drop_of_length_le (by simp),List.append_nil] at f2
 have hcs:cells.size=len*i.size:=by have:=f2.1;rw [flat_length hw,hlenx] at this;simpa using this
 have hk:=hsim.own (d:=d) (e:=e) (sz:=i.size) (xs:=ds.map (·.2)) (us:=cells.toList) (cap:=len) (cur:=cells) h7 h8 hw f2 (by omega) (by
  have:len≤len*i.size:=Nat.le_mul_of_pos_right _ h7
  unfold maxLen;omega) hcs (by rw [hlenx,←hcs,←Array.length_toList,List.take_length])
 rw [hlenx] at hk
 refine ⟨_,_,_,?_,hk.1,hk.2⟩
 by_cases hpos:len*i.size=0
 ·have hl0:len=0:=by
   rcases Nat.mul_eq_zero.1 hpos with h|h
   ·exact h
   ·omega
  subst hl0
  obtain rfl:cells = #[]:=Array.eq_empty_of_size_eq_zero (by simpa using hcs)
  have hp0:parts = #[]:=by
   have h9:parts.toList.length=0:=by rw [List.length_map] at k1;omega
   exact Array.eq_empty_of_size_eq_zero (by simpa using h9)
  subst hp0
  simp [execOp,hop,Instr.buildSlice,run_underlying h1,sizeOf,typeInfo,h2,newRow,Instr.fill,show Array.range 0 = #[] from rfl]
 ·have hr:=run_buildSlice (P:=P) w T e len (parts.map fun (i,x)=>(i,a.eval x)) cells i z h1 h2 h3 (by omega) hpos (by rw [Array.toList_map];exact f1)
  simp only [execOp,hop,Sem.run_bind,hr,Result.andThen_ok]
  rfl
end
end Go.Vm
end
section
namespace Go.Vm
open Go.RowKit
section
variable {P:Program} {N base:Nat} {w0 w w':World} {ro0:Start} {ro ro':Aq} {blk blk':Nat→Nat} {env env':Env} {a:Act} {o:Oper} {ops:Array Oper} {fb:List Nat}
def D7 (ops:Array Oper)(o:Oper)(env:Env):Option Bool:=match o.guard with
 |none=>some true
 |some (j,want)=>match (ops[j]?).bind (·.dst) with
  |none=>none
  |some t=>match env t with
   | .c (.d (.sc (.bool b)))=>some (b==want)
   | .tup _=>some false
   |_=>none
theorem guard_true (h:D7 ops o env=some true)(hs:Sim P N base w0 ro0 env a w):Region.wanted o (yielded ops a.tmps)=true:=by
 obtain ⟨ro,blk,hs⟩:=hs
 unfold D7 at h
 unfold Region.wanted
 cases hg:o.guard with
 |none=>rfl
 |some p=>
  obtain ⟨j,want⟩:=p
  simp only [hg] at h ⊢
  split at h
  ·cases h
  ·rename_i t ht
   split at h
   ·rename_i b hb
    have:=hs.sat t
    rw [hb] at this
    have hv:=(EL this).1
    simp only [Option.some.injEq] at h
    unfold yielded
    rw [ht]
    have hlt:t<a.tmps.size:=by
     rcases Nat.lt_or_ge t a.tmps.size with h1|h1
     ·exact h1
     ·rw [Array.getD_eq_getD_getElem?,Array.getElem?_eq_none h1] at hv;cases hv
    rw [Array.getD_eq_getD_getElem?,Array.getElem?_eq_getElem hlt] at hv
    simp only [Option.getD_some] at hv
    simp only [Option.bind_some,Array.getElem?_eq_getElem hlt,hv]
    simpa using h
   ·cases h
   ·cases h
theorem guard_false (h:D7 ops o env=some false)(hs:Sim P N base w0 ro0 env a w):Region.wanted o (yielded ops a.tmps)=false:=by
 obtain ⟨ro,blk,hs⟩:=hs
 unfold D7 at h
 unfold Region.wanted
 cases hg:o.guard with
 |none=>simp [hg] at h
 |some p=>
  obtain ⟨j,want⟩:=p
  simp only [hg] at h ⊢
  split at h
  ·cases h
  ·rename_i t ht
   split at h
   ·rename_i b hb
    have:=hs.sat t
    rw [hb] at this
    have hv:=(EL this).1
    simp only [Option.some.injEq] at h
    unfold yielded
    rw [ht]
    have hlt:t<a.tmps.size:=by
     rcases Nat.lt_or_ge t a.tmps.size with h1|h1
     ·exact h1
     ·rw [Array.getD_eq_getD_getElem?,Array.getElem?_eq_none h1] at hv;cases hv
    rw [Array.getD_eq_getD_getElem?,Array.getElem?_eq_getElem hlt] at hv
    simp only [Option.getD_some] at hv
    simp only [Option.bind_some,Array.getElem?_eq_getElem hlt,hv]
    simpa using h
   ·rename_i cs hb
    have:=hs.sat t
    rw [hb] at this
    obtain ⟨arr,hv,_⟩:=this
    unfold yielded
    rw [ht]
    cases hq:a.tmps[t]? with
    |none=>simp [hq]
    |some v=>
     rw [Array.getD_eq_getD_getElem?,hq] at hv
     simp only [Option.getD_some] at hv
     subst hv
     simp [hq]
   ·cases h
def VL (P:Program)(N:Nat)(ops:Array Oper)(l:List Oper)(env:Env)(K:Env→Prop):Prop:=
 ∀base w0 ro0 a w,Sim P N base w0 ro0 env a w→∀(Q:Exit→Act→World→Prop),(∀env' a' w',K env'→Sim P N base w0 ro0 env' a' w'→Q .normal a' w')→wpList P ops Q l a w
theorem AhU {K:Env→Prop}(h:K env):VL P N ops [] env K:=fun base w0 ro0 a w hs Q hQ=>hQ _ _ _ h hs
theorem AmU {rest:List Oper}{K Φ:Env→Prop}(hg:D7 ops o env=some true)(hst:FZ P N o env Φ)(h:∀env',Φ env'→VL P N ops rest env' K):VL P N ops (o::rest) env K:=by
 intro base w0 ro0 a w hs Q hQ
 refine wpList_step fun K' hK'=>?_
 rw [if_pos (guard_true hg hs)]
 exact hst base w0 ro0 a w hs K' Q fun env' a' w' hp hs'=>hK' _ _ (h env' hp base w0 ro0 a' w' hs' Q hQ)
theorem Bf.undef (h:Bf P N base w0 ro0 ro blk env a w)(d:Option Nat):Bf P N base w0 ro0 ro blk (upd env d (.tup [])) (a.put d undef) w:=by
 cases d with
 |none=>exact h
 |some d=>
  refine ⟨h.below,h.room,by simpa [Act.put] using h.nodef,by simpa [Act.put] using h.size,h.old,h.new,h.uniq,h.given,fun t ht=>by
   by_cases e:t=d
   ·subst e;simp [upd] at ht
   ·simp only [upd,if_neg e] at ht;exact h.left t ht,fun t=>?_⟩
  by_cases e:t=d
  ·subst e
   simp only [upd,if_true]
   rw [Lt]
   refine ⟨#[],?_,rfl,fun i u c hu _=>by simp at hu⟩
   split
   ·rfl
   ·rename_i hn
    have:¬t<a.tmps.size:=fun k=>hn ⟨rfl,k⟩
    rw [Array.getD_eq_getD_getElem?,Array.getElem?_eq_none (by omega)];rfl
  ·rw [Lt,if_neg (fun k=>e k.1)]
   simp only [upd,if_neg e]
   exact h.sat t
theorem Ath {rest:List Oper}{K:Env→Prop}(hg:D7 ops o env=some false)(h:VL P N ops rest (upd env o.dst (.tup [])) K):VL P N ops (o::rest) env K:=by
 intro base w0 ro0 a w hs Q hQ
 refine wpList_step fun K' hK'=>?_
 rw [if_neg (by rw [guard_false hg hs];decide)]
 obtain ⟨ro,blk,hs⟩:=hs
 exact hK' _ _ (h base w0 ro0 _ w ⟨ro,blk,hs.undef o.dst⟩ Q hQ)
def Afa:Op→Bool
 | .fieldAddr .. | .indexAddr .. | .nilCheck _ | .load .. | .extract .. | .call _=>true
 |_=>false
def rootOf (ops:Array Oper):Nat→Operand→Option Nat
 |n+1,.tmp t=>match ops.toList.find? (fun o=>o.dst==some t&&Afa o.op) with
  |some o=>match o.op with
   | .fieldAddr _ x _=>rootOf ops n x
   | .indexAddr _ (.tmp u) _=>if ops.toList.any (fun o=>o.dst==some u) then none else some u
   | .indexAddr .. | .nilCheck _ | .load .. | .extract .. | .call _=>none
   |_=>some t
  |none=>some t
 |_,_=>none
def Iu (ops:Array Oper)(o:Oper):Option Nat:=match addrOf o with
 |some x=>rootOf ops (ops.size+1) x
 |none=>none
def Yh:Op→Bool
 | .store .. => true
 |_=>false
def Kv:Op→Bool
 | .alloc _ | .box .. => true
 |_=>false
def Md (ops:Array Oper)(o:Oper):Option Nat:=if Yh o.op then Iu ops o else none
def P7 (ops:Array Oper)(x y:Oper):Bool:=
 (match x.dst with
   |some d=>!(y.looksAt ops).contains d&&Iu ops y != some d&&y.dst != some d
   |none=>true) &&
 (match Md ops x with
   |some t=>Iu ops y != some t&&y.dst != some t
   |none=>true)
def Yn (ops:Array Oper)(x y:Oper):Bool:=P7 ops x y&&P7 ops y x
def FT (fb:List Nat)(o:Oper):Nat:=match o.dst with
 |some d=>if fb.contains (d+4000) then 2 else if fb.contains (d+6000) then 0 else 1
 |none=>0
def YE (ops:Array Oper)(y:Oper):Bool:=(y.looksAt ops).all (fun t=>Nat.blt t NAM)&&(match Iu ops y with
 |some t=>Nat.blt t NAM
 |none=>true)
def QF (fb:List Nat)(ops:Array Oper)(x y:Oper):Bool:=!Nat.beq (FT fb x) 2||(Nat.beq (FT fb y) 0&&YE ops y)
def KN (fb:List Nat)(ops:Array Oper)(x y:Oper):Bool:=Yn ops x y&&QF fb ops x y&&QF fb ops y x
theorem Rk {fb:List Nat}{ops:Array Oper}{x y:Oper}(h:QF fb ops x y=true)(h2:FT fb x=2):FT fb y=0∧(∀t∈y.looksAt ops,t<NAM)∧∀t,Iu ops y=some t→t<NAM:=by
 unfold QF at h
 rw [h2] at h
 simp only [Nat.beq_refl,Bool.not_true,Bool.false_or,Bool.and_eq_true,YE] at h
 refine ⟨Nat.eq_of_beq_eq_true h.1,fun t ht=>?_,fun t ht=>?_⟩
 ·have:=List.all_eq_true.1 h.2.1 t ht
  simpa [Nat.blt_eq] using this
 ·have:=h.2.2
  rw [ht] at this
  simpa [Nat.blt_eq] using this
def Jy (c:Nat)(o:Oper)(env env':Env):Prop:=(∀x∈o.op.operands,Ap env' x=Ap env x)∧(∀x t off,addrOf o=some x→Ap env x=.ref t off→env' t=env t)∧∀t,BIG≤t→(t<NAM∨c≠0)→env' t=env t
theorem Agree.toC (c:Nat)(h:Agree o env env'):Jy c o env env':=⟨h.1,h.2.1,fun t ht _=>h.2.2 t ht⟩
theorem Jy.get {c:Nat}(h:Jy c o env env'){x:Operand}(hx:x∈o.op.operands):Ap env' x=Ap env x:=h.1 x hx
theorem Jy.getD {c:Nat}(h:Jy c o env env'){x:Operand}(hx:x∈o.op.operands):vd env' x=vd env x:=by unfold vd;rw [h.get hx]
theorem Jy.zero {c:Nat}(h:Jy c o env env'):Zj o env env':=⟨h.1,h.2.1,fun t ht h1=>h.2.2 t ht (.inl h1)⟩
theorem Jy.all {c:Nat}(h:Jy c o env env')(hc:c≠0):Agree o env env':=⟨h.1,h.2.1,fun t ht=>h.2.2 t ht (.inr hc)⟩
inductive Eff where
 |slot (w:Option Nat) (s:S)
 |cont (t:Nat) (s:S)
 |new (d:Nat) (cs:List D)
 |named (w:Option Nat) (s:S) (chg:Nat→Option S)
def Eff.tgt:Eff→Option Nat
 | .slot w _=>w
 | .cont t _=>some t
 | .new d _=>some d
 | .named w _ _=>w
def Eff.chg:Eff→Nat→Option S
 | .named _ _ c=>c
 |_=>fun _=>none
def FQ (c:Nat→Option S)(env:Env):Env:=fun t=>(c t).getD (env t)
def Eff.app:Eff→Env→Env
 | .slot w s,env=>upd env w s
 | .cont t s,env=>upd env (some t) s
 | .new d cs,env=>upd env (some d) (.box cs)
 | .named w s c,env=>upd (FQ c env) w s
def Vw (d:Nat)(env:Env):Prop:=∀t off,env t≠.ref d off
def nb:S→Bool
 | .box _ | .ubox _=>false
 |_=>true
theorem AaV {t:Nat}{s:S}(h:nb s=false):DK t s=.ref t 0:=by
 cases s<;>first|rfl|cases h
theorem AdI {s:S}(h:nb s=false)(want:Bool):(match s with
      | .c (.d (.sc (.bool b)))=>some (b==want)
      | .tup _=>some false
      |_=>(none:Option Bool))=none:=by
 cases s<;>first|rfl|cases h
structure DG (P:Program) (N:Nat) (fb:List Nat) (ops:Array Oper) (o:Oper) (env:Env) (eff:Eff):Prop where
 kind:match eff with
  | .slot w s=>w=o.dst∧nb s=true∧∀d off,s=.ref d off→∃x∈o.op.operands,∃off',Ap env x=.ref d off'
  | .cont t s=>Md ops o=some t∧o.dst=none∧nb (env t)=false∧nb s=false
  | .new d _=>o.dst=some d∧Kv o.op=true
  | .named w s c=>w=o.dst∧nb s=true∧(∀d off,s≠.ref d off)∧FT fb o=2∧∀t r,c t=some r→NAM≤t∧nb r=true∧∀d off,r≠.ref d off
 deref:∀x t off,addrOf o=some x→Ap env x=.ref t off→Iu ops o=some t
 run:(D7 ops o env=some true∧∀env',Jy (FT fb o) o env env'→(∀d,Kv o.op=true→o.dst=some d→Vw d env')→Step P N o env' (eff.app env'))∨(D7 ops o env=some false∧eff=.slot o.dst (.tup []))
 small:∀t,eff.tgt=some t→t<BIG
structure Same (fb:List Nat) (ops:Array Oper) (o:Oper) (env env':Env):Prop where
 get:∀x∈o.op.operands,Ap env' x=Ap env x
 guard:D7 ops o env'=D7 ops o env
 cont:∀t,Iu ops o=some t→env' t=env t
 names:∀t,BIG≤t→(t<NAM∨FT fb o≠0)→env' t=env t
theorem Same.symm (h:Same fb ops o env env'):Same fb ops o env' env:=⟨fun x hx=>(h.get x hx).symm,h.guard.symm,fun t ht=>(h.cont t ht).symm,fun t ht hc=>(h.names t ht hc).symm⟩
theorem Aa5 {x:Operand}(h:addrOf o=some x):x∈o.op.operands:=by
 unfold addrOf at h
 split at h
 ·rename_i hop;injection h with h;subst h;simp [hop,Op.operands]
 ·rename_i hop;injection h with h;subst h;simp [hop,Op.operands]
 ·cases h
theorem DG.carry {eff:Eff}(h:DG P N fb ops o env eff)(hs:Same fb ops o env env'):DG P N fb ops o env' eff:=by
 refine ⟨?_,fun x t off ha hx=>h.deref x t off ha (by rw [←hs.get x (Aa5 ha)];exact hx),?_,h.small⟩
 ·have hk:=h.kind
  cases eff with
  |slot w s=>
   refine ⟨hk.1,hk.2.1,fun d off e=>?_⟩
   obtain ⟨x,hx,off',h1⟩:=hk.2.2 d off e
   exact ⟨x,hx,off',by rw [hs.get x hx];exact h1⟩
  |cont t cs=>
   obtain ⟨h1,h2,h3,h4⟩:=hk
   refine ⟨h1,h2,?_,h4⟩
   have:Iu ops o=some t:=by
    unfold Md at h1
    split at h1
    ·exact h1
    ·cases h1
   rw [hs.cont t this];exact h3
  |new d cs=>exact hk
  |named w s c=>exact hk
 ·rcases h.run with ⟨h1,h2⟩|⟨h1,h2⟩
  ·refine .inl ⟨by rw [hs.guard];exact h1,fun env'' he hn=>h2 env'' ⟨fun x hx=>(he.1 x hx).trans (hs.get x hx),fun x t off ha hx=>?_,fun t ht hc=>(he.2.2 t ht hc).trans (hs.names t ht hc)⟩ hn⟩
   refine (he.2.1 x t off ha (by rw [hs.get x (Aa5 ha)];exact hx)).trans ?_
   exact hs.cont t (h.deref x t off ha hx)
  ·exact .inr ⟨by rw [hs.guard];exact h1,h2⟩
theorem QN {t:Nat}(h:Operand.tmp t∈o.op.operands):t∈o.looksAt ops:=
 List.mem_append_left _ (List.mem_filterMap.2 ⟨.tmp t,by simpa using h,rfl⟩)
theorem XM (eff:Eff):∃s,∀env',eff.app env'=upd (FQ eff.chg env') eff.tgt s:=by
 cases eff with
 |slot w s=>exact ⟨s,fun _=>rfl⟩
 |cont t s=>exact ⟨s,fun _=>rfl⟩
 |new d cs=>exact ⟨.box cs,fun _=>rfl⟩
 |named w s c=>exact ⟨s,fun _=>rfl⟩
theorem DG.Amd {eff:Eff}(h:DG P N fb ops o env eff){t:Nat}{r:S}(hc:eff.chg t=some r):NAM≤t∧FT fb o=2:=by
 have hk:=h.kind
 cases eff with
 |named w s c=>exact ⟨(hk.2.2.2.2 t r hc).1,hk.2.2.2.1⟩
 |_=>cases hc
theorem Xj {c:Nat→Option S}{t:Nat}(env:Env)(h:c t=none):FQ c env t=env t:=by unfold FQ;rw [h];rfl
theorem DG.SG {eff:Eff}(h:DG P N fb ops o env eff){t:Nat}(ht:t<NAM∨FT fb o≠2):eff.chg t=none:=by
 cases hc:eff.chg t with
 |none=>rfl
 |some r=>
  obtain ⟨h1,h2⟩:=h.Amd hc
  rcases ht with ht|ht
  ·omega
  ·exact absurd h2 ht
theorem Aem {y:Oper}{eff:Eff}(hy:DG P N fb ops y env eff)(hap:P7 ops y o=true)(hcl:QF fb ops y o=true):Same fb ops o env (eff.app env):=by
 simp only [P7,Bool.and_eq_true] at hap
 obtain ⟨h1,h2⟩:=hap
 -- the slot that is written is none of those that count
 have key:∀t,eff.tgt=some t→(t ∉ o.looksAt ops∨(nb (env t)=false∧nb (eff.app env t)=false))∧Iu ops o≠some t:=by
  intro t ht
  have hk:=hy.kind
  cases eff with
  |slot w s=>
   obtain ⟨rfl,_⟩:=hk
   have ht':y.dst=some t:=ht
   rw [ht'] at h1
   simp only [Bool.and_eq_true,Bool.not_eq_true',bne_iff_ne,ne_eq] at h1
   exact ⟨.inl (by have:=h1.1.1;simpa using this),h1.1.2⟩
  |cont t' s=>
   obtain ⟨k1,k2,k3,k4⟩:=hk
   have ht':t'=t:=by simpa [Eff.tgt] using ht
   subst ht'
   rw [k1] at h2
   simp only [Bool.and_eq_true,bne_iff_ne,ne_eq] at h2
   exact ⟨.inr ⟨k3,by simpa [Eff.app,upd] using k4⟩,h2.1⟩
  |new d cs=>
   have ht':d=t:=by simpa [Eff.tgt] using ht
   subst ht'
   rw [hk.1] at h1
   simp only [Bool.and_eq_true,Bool.not_eq_true',bne_iff_ne,ne_eq] at h1
   exact ⟨.inl (by have:=h1.1.1;simpa using this),h1.1.2⟩
  |named w s c=>
   obtain ⟨rfl,_⟩:=hk
   have ht':y.dst=some t:=ht
   rw [ht'] at h1
   simp only [Bool.and_eq_true,Bool.not_eq_true',bne_iff_ne,ne_eq] at h1
   exact ⟨.inl (by have:=h1.1.1;simpa using this),h1.1.2⟩
 have other:∀t,eff.tgt≠some t→(t<NAM∨FT fb y≠2)→eff.app env t=env t:=by
  intro t ht hc
  obtain ⟨s,hs⟩:=XM eff
  rw [hs]
  have e:FQ eff.chg env t=env t:=Xj env (hy.SG hc)
  cases hw:eff.tgt with
  |none=>exact e
  |some w=>
   have hne:t≠w:=fun e=>ht (by rw [hw,e])
   simp only [upd,if_neg hne];exact e
 have low:∀t,(t∈o.looksAt ops∨Iu ops o=some t)→t<NAM∨FT fb y≠2:=by
  intro t ht
  by_cases h2:FT fb y=2
  ·exact .inl (ht.elim ((Rk hcl h2).2.1 t) ((Rk hcl h2).2.2 t))
  ·exact .inr h2
 have hsl:∀t,t∈o.looksAt ops→(DK t (eff.app env t)=DK t (env t)∧(eff.app env t=env t∨(nb (env t)=false∧nb (eff.app env t)=false))):=by
  intro t hl
  by_cases ht:eff.tgt=some t
  ·rcases (key t ht).1 with h|⟨h3,h4⟩
   ·exact absurd hl h
   ·exact ⟨by rw [AaV h3,AaV h4],.inr ⟨h3,h4⟩⟩
  ·rw [other t ht (low t (.inl hl))];exact ⟨rfl,.inl rfl⟩
 refine ⟨fun x hx=>?_,?_,fun t ht=>?_,fun t ht hc=>other t (fun e=>by have:=hy.small t e;omega) ?_⟩
 ·cases x with
  |tmp t=>exact (hsl t (QN hx)).1
  |_=>rfl
 ·unfold D7
  cases hg:o.guard with
  |none=>rfl
  |some p=>
   obtain ⟨j,want⟩:=p
   simp only
   cases hd:(ops[j]?).bind (·.dst) with
   |none=>rfl
   |some t=>
    simp only
    rcases (hsl t (by simp [Oper.looksAt,hg,hd])).2 with h|⟨h3,h4⟩
    ·rw [h]
    ·rw [AdI h3,AdI h4]
 ·by_cases h:eff.tgt=some t
  ·exact absurd ht (key t h).2
  ·exact other t h (low t (.inr ht))
 ·rcases hc with hc|hc
  ·exact .inl hc
  ·exact .inr fun h2=>hc (Rk hcl h2).1
theorem ApO {x y:Option Nat}(env:Env)(s r:S)(h:∀d,x=some d→y≠some d):upd (upd env x s) y r=upd (upd env y r) x s:=by
 cases x with
 |none=>rfl
 |some d=>
  cases y with
  |none=>rfl
  |some e=>
   have hne:d≠e:=fun he=>h d rfl (he▸rfl)
   funext u
   by_cases e1:u=d
   ·subst e1
    simp [upd,hne]
   ·simp [upd,e1]
theorem Vs {eff:Eff}{t:Nat}(h:DG P N fb ops o env eff)(ht:eff.tgt=some t):o.dst=some t∨Md ops o=some t:=by
 have hk:=h.kind
 cases eff with
 |slot w s=>exact .inl (hk.1▸ht)
 |cont t' cs=>
                 have:t'=t:=by simpa [Eff.tgt] using ht
                 subst this;exact .inr hk.1
 |new d cs=>
               have:d=t:=by simpa [Eff.tgt] using ht
               subst this;exact .inl hk.1
 |named w s c=>exact .inl (hk.1▸ht)
theorem Adz {t:Nat}(h:Md ops o=some t):Iu ops o=some t:=by
 unfold Md at h
 split at h
 ·exact h
 ·cases h
theorem Aax {c:Nat→Option S}{w:Option Nat}(env:Env)(s:S)(h:∀t,w=some t→c t=none):FQ c (upd env w s)=upd (FQ c env) w s:=by
 cases w with
 |none=>rfl
 |some d=>
  funext t
  unfold FQ upd
  by_cases e:t=d
  ·subst e;simp [h t rfl]
  ·simp [e]
theorem Aja {c1 c2:Nat→Option S}(env:Env)(h:(∀t,c1 t=none)∨∀t,c2 t=none):FQ c1 (FQ c2 env)=FQ c2 (FQ c1 env):=by
 funext t
 unfold FQ
 rcases h with h|h
 ·simp [h t]
 ·simp [h t]
theorem AoA {x y:Oper}{e f:Eff}{env1 env2:Env}(hx:DG P N fb ops x env1 e)(hy:DG P N fb ops y env2 f)(hap:KN fb ops x y=true)(env:Env):f.app (e.app env)=e.app (f.app env):=by
 simp only [KN,Bool.and_eq_true] at hap
 obtain ⟨⟨hap,hc1⟩,hc2⟩:=hap
 obtain ⟨s,h1⟩:=XM e
 obtain ⟨r,h2⟩:=XM f
 have small:∀{o:Oper} {env:Env} {g g':Eff} {o':Oper} {env':Env},DG P N fb ops o env g→DG P N fb ops o' env' g'→∀t,g'.tgt=some t→g.chg t=none:=by
  intro o env g g' o' env' hg hg' t ht
  have hb:=hg'.small t ht
  exact hg.SG (.inl (nam hb))
 rw [h1,h2,h2,h1,Aax _ _ (small hy hx),Aax _ _ (small hx hy)]
 have hcc:(∀t,e.chg t=none)∨∀t,f.chg t=none:=by
  by_cases h:FT fb x=2
  ·refine .inr fun t=>hy.SG (.inr ?_)
   rw [(Rk hc1 h).1];decide
  ·exact .inl fun t=>hx.SG (.inr h)
 rw [Aja env hcc]
 refine ApO _ s r fun d hd hd'=>?_
 simp only [Yn,P7,Bool.and_eq_true] at hap
 obtain ⟨⟨a1,a2⟩,b1,b2⟩:=hap
 rcases Vs hx hd with hd|hd
 ·rw [hd] at a1
  simp only [Bool.and_eq_true,Bool.not_eq_true',bne_iff_ne,ne_eq] at a1
  rcases Vs hy hd' with hd' | hd'
  ·exact a1.2 hd'
  ·exact a1.1.2 (Adz hd')
 ·rw [hd] at a2
  simp only [Bool.and_eq_true,bne_iff_ne,ne_eq] at a2
  rcases Vs hy hd' with hd' | hd'
  ·exact a2.2 hd'
  ·exact a2.1 (Adz hd')
def QO (ops:Array Oper):Bool:=ops.toList.zipIdx.all fun (o,k)=>!Kv o.op||ops.toList.zipIdx.all fun (o',k')=>k==k'||o'.dst != o.dst
theorem ArY (h:QO ops=true){k k':Nat}{o o':Oper}(hk:ops[k]? = some o)(hk':ops[k']? = some o')(hn:Kv o.op=true)(hne:k≠k'):o'.dst≠o.dst:=by
 have m1:(o,k)∈ops.toList.zipIdx:=by rw [List.mem_zipIdx_iff_getElem?];simpa using hk
 have m2:(o',k')∈ops.toList.zipIdx:=by rw [List.mem_zipIdx_iff_getElem?];simpa using hk'
 have h1:=List.all_eq_true.1 h _ m1
 simp only [hn,Bool.not_true,Bool.false_or] at h1
 have h2:=List.all_eq_true.1 h1 _ m2
 simp only [Bool.or_eq_true,beq_iff_eq,bne_iff_ne,ne_eq] at h2
 exact h2.resolve_left hne
def NR (ops:Array Oper)(listed:Array Bool)(env:Env):Prop:=∀k o d,ops[k]? = some o→Kv o.op=true→listed.getD k true=false→o.dst=some d→Vw d env∧nb (env d)=true
theorem NR.next {listed:Array Bool}{i:Nat}{eff:Eff}(hu:QO ops=true)(hi:ops[i]? = some o)(h:NR ops listed env)(hd:DG P N fb ops o env eff):NR ops (listed.setIfInBounds i true) (eff.app env):=by
 intro k o' d hk hn hl hdst
 by_cases hki:k=i
 ·subst hki
  rcases Nat.lt_or_ge k listed.size with h' | h'
  ·simp [h'] at hl
  ·simp [Array.getElem?_eq_none h',Array.getD_eq_getD_getElem?] at hl
 ·have hl':listed.getD k true=false:=by rwa [getD_set_ne true (fun e=>hki e.symm)] at hl
  obtain ⟨h1,h2⟩:=h k o' d hk hn hl' hdst
  have hne:o.dst≠some d:=fun e=>ArY hu hk hi hn hki (by rw [e,hdst])
  have hkd:=hd.kind
  cases eff with
  |slot w s=>
   obtain ⟨rfl,hnb,href⟩:=hkd
   have hs:∀off,s≠.ref d off:=by
    intro off e
    obtain ⟨x,hx,off',hv⟩:=href d off e
    cases x with
    |tmp t=>
     have hv':DK t (env t)=.ref d off':=hv
     cases ht:env t with
     |box cs=>rw [ht] at hv';simp only [DK,S.ref.injEq] at hv';rw [hv'.1] at ht;rw [ht] at h2;simp [nb] at h2
     |ubox cs=>rw [ht] at hv';simp only [DK,S.ref.injEq] at hv';rw [hv'.1] at ht;rw [ht] at h2;simp [nb] at h2
     |ref t' off''=>rw [ht] at hv';simp only [DK,S.ref.injEq] at hv';exact h1 t off'' (by rw [ht,hv'.1])
     |junk=>rw [ht] at hv';simp [DK] at hv'
     |uagg cs=>rw [ht] at hv';simp [DK] at hv'
     |pack cs rows=>rw [ht] at hv';simp [DK] at hv'
     |uobj cs=>rw [ht] at hv';simp [DK] at hv'
     |c x=>rw [ht] at hv';simp [DK] at hv'
     |at_ cs off=>rw [ht] at hv';simp [DK] at hv'
     |tup cs=>rw [ht] at hv';simp [DK] at hv'
     |obj cs=>rw [ht] at hv';simp [DK] at hv'
     |mapo es=>rw [ht] at hv';simp [DK] at hv'
     |iter id n seen=>rw [ht] at hv';simp [DK] at hv'
     |gbox sz xs=>rw [ht] at hv';simp [DK] at hv'
     |sref τ sz n=>rw [ht] at hv';simp [DK] at hv'
     |gref τ sz n=>rw [ht] at hv';simp [DK] at hv'
     |free=>rw [ht] at hv';simp [DK] at hv'
    |const v=>simp only [Ap,Og] at hv;split at hv<;>first|(cases hv;done)|(split at hv<;>cases hv)
    |global g=>simp [Ap] at hv
    |func f=>simp [Ap] at hv
   cases hw:o.dst with
   |none=>exact ⟨h1,h2⟩
   |some w=>
    have hwd:d≠w:=fun e=>hne (by rw [hw,e])
    refine ⟨fun t off=>?_,by simpa [Eff.app,upd,hwd] using h2⟩
    simp only [Eff.app,upd]
    split
    ·exact hs off
    ·exact h1 t off
  |cont t s=>
   obtain ⟨_,_,hb,hs⟩:=hkd
   have htd:d≠t:=fun e=>by rw [←e] at hb;rw [hb] at h2;cases h2
   refine ⟨fun u off=>?_,by simpa [Eff.app,upd,htd] using h2⟩
   simp only [Eff.app,upd]
   split
   ·intro e;rw [e] at hs;cases hs
   ·exact h1 u off
  |named w s c=>
   obtain ⟨rfl,hnb,href,_,hc⟩:=hkd
   have hch:∀t,nb (FQ c env t)=true∨FQ c env t=env t:=by
    intro t
    cases e:c t with
    |none=>exact .inr (Xj env e)
    |some r=>left;unfold FQ;rw [e];exact (hc t r e).2.1
   have hcr:∀t off,FQ c env t≠.ref d off:=by
    intro t off
    cases e:c t with
    |none=>rw [Xj env e];exact h1 t off
    |some r=>unfold FQ;rw [e];exact (hc t r e).2.2 d off
   have hcd:nb (FQ c env d)=true:=(hch d).elim id fun e=>by rw [e];exact h2
   cases hw:o.dst with
   |none=>exact ⟨hcr,hcd⟩
   |some w=>
    have hwd:d≠w:=fun e=>hne (by rw [hw,e])
    refine ⟨fun t off=>?_,by simpa [Eff.app,upd,hwd] using hcd⟩
    simp only [Eff.app,upd]
    split
    ·exact href d off
    ·exact hcr t off
  |new d' cs=>
   have hdd:d≠d':=fun e=>hne (by rw [hkd.1,e])
   refine ⟨fun u off=>?_,by simpa [Eff.app,upd,hdd] using h2⟩
   simp only [Eff.app,upd]
   split
   ·simp
   ·exact h1 u off
def Ik (ds:List Nat)(t:Nat):S→S
 | .ref d off=>if ds.contains d then .junk else .ref d off
 | .box cs=>if ds.contains t then .junk else .box cs
 | .ubox cs=>if ds.contains t then .junk else .ubox cs
 |s=>s
def news (ops:List Oper):List Nat:=ops.filterMap fun o=>if Kv o.op then o.dst else none
def freshen (ops:List Oper)(env:Env):Env:=fun t=>Ik (news ops) t (env t)
def VC (P:Program)(N:Nat)(c:Code)(env:Env)(Q:Exit→Env→Prop):Prop:=
 ∀base w0 ro0 a w,Sim P N base w0 ro0 env a w→c.wp P (fun e a' w'=>∃env',Q e env'∧Sim P N base w0 ro0 env' a' w') a w
theorem Xk {c:Code}{Q:Exit→Env→Prop}(he:∀t,env' t=env t∨env' t=.junk)(h:VC P N c env' Q):VC P N c env Q:=fun base w0 ro0 a w hs=>h base w0 ro0 a w (hs.weaken he)
theorem Pj {c:Code}{Q Q':Exit→Env→Prop}(h:VC P N c env Q)(hq:∀e env,Q e env→Q' e env):VC P N c env Q':=
 fun base w0 ro0 a w hs=>wp_mono (h base w0 ro0 a w hs) fun e a' w' ⟨env',h1,h2⟩=>⟨env',hq _ _ h1,h2⟩
theorem Ajn {id:Nat}{l:List Oper}{Q:Exit→Env→Prop}(h:VL P N l.toArray l env (Q .normal)):VC P N (.region id l.toArray false) env Q:=
 fun base w0 ro0 a w hs=>wp_region_lit (h base w0 ro0 a w hs _ fun env' a' w' hk hs'=>⟨env',hk,hs'⟩)
theorem Afi (ds:List Nat)(t:Nat)(s:S):Ik ds t s=s∨Ik ds t s=.junk:=by
 cases s<;>simp only [Ik]<;>first|exact .inl trivial|(split<;>first|exact .inl rfl|exact .inr rfl)
theorem AdP (l:List Oper)(env:Env):∀t,freshen l env t=env t∨freshen l env t=.junk:=fun t=>Afi _ t _
theorem ZK (l:List Oper)(env:Env):NR l.toArray (Array.replicate l.toArray.size false) (freshen l env):=by
 intro k o d hk hn _ hdst
 have hmem:d∈news l:=by
  unfold news
  refine List.mem_filterMap.2 ⟨o,?_,by rw [if_pos hn];exact hdst⟩
  have:l[k]? = some o:=by simpa using hk
  exact List.mem_of_getElem? this
 have hc:(news l).contains d=true:=by simpa using hmem
 refine ⟨fun t off e=>?_,?_⟩
 ·unfold freshen at e
  cases hs:env t<;>rw [hs] at e<;>simp only [Ik] at e<;>first|(cases e;done)|(split at e<;>first|(cases e;done)|(injection e with e1 e2;subst e1;exact absurd hc (by assumption)))
 ·unfold freshen
  cases hs:env d<;>simp only [Ik]<;>first|rfl|(split<;>first|rfl|(exact absurd hc (by assumption)))
theorem AiD {x y:Code}{Q:Exit→Env→Prop}(h:VC P N x env (fun e env'=>match e with | .normal=>VC P N y env' Q|e=>Q e env')):VC P N (.seq x y) env Q:=by
 intro base w0 ro0 a w hs
 refine wp_seq (wp_mono (h base w0 ro0 a w hs) ?_)
 rintro e a' w' ⟨env',h1,h2⟩
 cases e<;>first|exact ⟨env',h1,h2⟩|exact h1 base w0 ro0 a' w' h2
theorem Afm {Q:Exit→Env→Prop}(h:Q .normal env):VC P N .skip env Q:=fun base w0 ro0 a w hs=>wp_skip ⟨env,h,hs⟩
theorem Agm {Q:Exit→Env→Prop}(h:Q .ret env):VC P N .ret env Q:=fun base w0 ro0 a w hs=>wp_ret ⟨env,h,hs⟩
theorem AvX {id:Nat}{Q:Exit→Env→Prop}(h:Q (.exit id) env):VC P N (.exit id) env Q:=fun base w0 ro0 a w hs=>wp_exit ⟨env,h,hs⟩
theorem Anl {l:Nat}{Q:Exit→Env→Prop}(h:Q (.goto l) env):VC P N (.goto l) env Q:=fun base w0 ro0 a w hs=>wp_goto ⟨env,h,hs⟩
theorem Ak4 {l:Nat}{Q:Exit→Env→Prop}(h:Q .normal env):VC P N (.label l) env Q:=fun base w0 ro0 a w hs=>wp_label ⟨env,h,hs⟩
end
end Go.Vm
end
section
namespace Go.Vm
open Go.RowKit
def Apd (P:Program)(N:Nat)(y:Code)(Q:Exit→Env→Prop):Exit→Env→Prop
 | .normal,env=>VC P N y env Q
 |e,env=>Q e env
def inB (id:Nat)(Q:Exit→Env→Prop):Exit→Env→Prop
 | .exit id',env=>if id'=id then Q .normal env else Q (.exit id') env
 |e,env=>Q e env
def Afw (Inv:Nat→Env→Prop)(n:Nat)(Q:Exit→Env→Prop):Exit→Env→Prop
 | .normal,env=>∃m,m<n∧Inv m env
 |e,env=>Q e env
section
variable {P:Program} {N base:Nat} {w0 w w':World} {ro0:Start} {ro ro':Aq} {v v':Value} {blk blk':Nat→Nat} {env env':Env} {a:Act} {o:Oper} {ops:Array Oper} {Q:Exit→Env→Prop}
theorem AoR {x y:Code}(h:VC P N x env (Apd P N y Q)):VC P N (.seq x y) env Q:=
 AiD (Pj h fun e env h=>by cases e<;>exact h)
theorem AeT {c:Operand}{x y:Code}{b:Bool}(hc:vd env c=some (.sc (.bool b)))(h:VC P N (if b then x else y) env Q):VC P N (.cond c x y) env Q:=by
 intro base w0 ro0 a w hs
 refine wp_cond (t:=b) ?_ (h base w0 ro0 a w hs)
 obtain ⟨ro,blk,hs⟩:=hs
 exact (EL (hs.getD hc)).1
theorem AdA {c:Operand}{x y:Code}{b:Bool}(hc:vd env c=some (.sc (.bool b)))(ht:b=true→VC P N x env Q)(hf:b=false→VC P N y env Q):VC P N (.cond c x y) env Q:=by
 refine AeT hc ?_
 cases b
 ·exact hf rfl
 ·exact ht rfl
theorem Aev {id:Nat}{c:Code}(h:VC P N c env (inB id Q)):VC P N (.block id c) env Q:=by
 intro base w0 ro0 a w hs
 refine wp_block (wp_mono (h base w0 ro0 a w hs) ?_)
 rintro e a' w' ⟨env',h1,h2⟩
 cases e with
 |exit id'=>
  simp only [inB,Exit.inBlock] at h1 ⊢
  split at h1
  ·rename_i e;rw [if_pos e];exact ⟨env',h1,h2⟩
  ·rename_i e;rw [if_neg e];exact ⟨env',h1,h2⟩
 |_=>exact ⟨env',h1,h2⟩
theorem AfR {c:Code}(Inv:Nat→Env→Prop){n:Nat}(h0:Inv n env)(round:∀n env,Inv n env→VC P N c env (Afw Inv n Q)):VC P N (.loop c) env Q:=by
 intro base w0 ro0 a w hs b k cs
 have key:∀n env a w,Inv n env→Sim P N base w0 ro0 env a w →
  ∃e a' w',(∃env',Q e env'∧Sim P N base w0 ro0 env' a' w')∧Arrives P (lone (b.at a (.code c :: .inLoop c::k)) cs w) b k cs e a' w':=by
  intro n
  induction n using Nat.strongRecOn with
  |_ n ih=>
   intro env a w hI hs
   obtain ⟨e,a₁,w₁,⟨env₁,hq,hs₁⟩,harr⟩:=round n env hI base w0 ro0 a w hs b (.inLoop c::k) cs
   cases e with
   |normal=>
    obtain ⟨m,hlt,hI₁⟩:=hq
    obtain ⟨e₂,a₂,w₂,hq₂,harr₂⟩:=ih m hlt env₁ a₁ w₁ hI₁ hs₁
    exact ⟨e₂,a₂,w₂,hq₂,.of_steps (Steps.trans harr (.one step_inLoop)) harr₂⟩
   |exit id=>exact ⟨_,a₁,w₁,⟨env₁,hq,hs₁⟩,.pass (x:=.inLoop c) rfl (fun _ _=>.inl (by simp)) harr⟩
   |goto l=>exact ⟨_,a₁,w₁,⟨env₁,hq,hs₁⟩,.pass (x:=.inLoop c) rfl (fun _ _=>.inl (by simp)) harr⟩
   |ret=>exact ⟨_,a₁,w₁,⟨env₁,hq,hs₁⟩,.pass (x:=.inLoop c) rfl (fun _ _=>.inl (by simp)) harr⟩
   |panic ch=>exact ⟨_,a₁,w₁,⟨env₁,hq,hs₁⟩,.pass (x:=.inLoop c) rfl (fun _ _=>.inl (by simp)) harr⟩
   |outgrown=>exact ⟨_,a₁,w₁,⟨env₁,hq,hs₁⟩,.pass (x:=.inLoop c) rfl (fun _ _=>.inl (by simp)) harr⟩
 obtain ⟨e,a',w',hq,harr⟩:=key n env a w h0 hs
 exact ⟨e,a',w',hq,.of_steps (.one step_loop) harr⟩
def Qw (P:Program)(env:Env):ResultVar→Option C
 | .tmp t=>match env t with
  | .c c=>some c
  |_=>none
 | .cell t T=>match env t,Bl P T with
  | .box cs,some sh=>(Eo sh cs 0).map .d
  |_,_=>none
def Ko (P:Program)(env:Env):List ResultVar→Option (List C)
 | []=>some []
 |r::l=>match Qw P env r,Ko P env l with
  |some c,some cs=>some (c::cs)
  |_,_=>none
def fits (P:Program)(c:C):C→Prop
 | .d x=>c.asD=x
 | .nil=>c=.nil
 | .own _ e xs=>(∃τ,c=.own τ e xs)∨(c=.nil∧xs= []∧0<P.cellsOf e)
def Bo (P:Program):List C→List C→Prop
 | [],[]=>True
 |c::cs,r::rs=>fits P c r∧Bo P cs rs
 |_,_=>False
def JY (a:Act):ResultVar→Sem Value
 | .tmp t=>pure (a.tmps.getD t undef)
 | .cell x t=>do loadVar t (←asAddr (a.tmps.getD x undef))
theorem AbK:∀{rs:List ResultVar} {cs:List C},Bf P N base w0 ro0 ro blk env a w→Ko P env rs=some cs →
 ∃vs:List Value,(rs.mapM (JY a)).run P w=.ok vs w∧vs.length=cs.length∧∀(i:Nat) (v:Value) (c:C),vs[i]? = some v→cs[i]? = some c→CV P base ro w v c
 | [],cs,hs,h=>by simp [Ko] at h;subst h;exact ⟨[],by simp,rfl,by simp⟩
 |r::rs,cs,hs,h=>by
  unfold Ko at h
  split at h
  ·rename_i c cs' h1 h2
   injection h with h;subst h
   obtain ⟨vs,k1,k2,k3⟩:=AbK hs h2
   have key:∃v,(JY a r).run P w=.ok v w∧CV P base ro w v c:=by
    cases r with
    |tmp t=>
     simp only [Qw] at h1
     have hst:=hs.sat t
     split at h1
     ·rename_i c' hc'
      injection h1 with h1;subst h1
      rw [hc'] at hst
      exact ⟨_,rfl,hst⟩
     ·cases h1
    |cell x T=>
     simp only [Qw] at h1
     have hst:=hs.sat x
     split at h1
     ·rename_i cs0 sh hb hsh
      rw [hb] at hst
      obtain ⟨d,hd,rfl⟩:=Option.map_eq_some_iff.1 h1
      obtain ⟨us,q1,q2⟩:=hst.2.cells
      obtain ⟨v,q3,q4⟩:=O5 (P:=P) hsh q1 q2 hd
      rw [Nat.zero_add] at q3
      refine ⟨v,?_,q4⟩
      simp only [JY,hst.1,asAddr,Sem.run_bind,Sem.run_pure,Result.andThen_ok,q3]
     ·cases h1
   obtain ⟨v,h3,h4⟩:=key
   refine ⟨v::vs,?_,by simp [k2],fun i u c' hu hc'=>?_⟩
   ·rw [List.mapM_cons,Sem.run_bind,h3,Result.andThen_ok,Sem.run_bind,k1,Result.andThen_ok,Sem.run_pure]
   ·cases i with
    |zero=>simp at hu hc';subst hu hc';exact h4
    |succ i=>exact k3 i u c' (by simpa using hu) (by simpa using hc')
  ·cases h
def calm (S:Nat→Bool)(ro:Aq):Aq:=fun b=>match ro b with
 | .obj id k=>.obj id (k&&S id)
 | .pbox g=>.box g
 |r=>r
theorem Lr {S:Nat→Bool}{ro:Aq}{b id:Nat}{k:Bool}(h:calm S ro b=.obj id k):∃k',ro b=.obj id k'∧k=(k'&&S id):=by
 unfold calm at h
 cases hr:ro b with
 |obj id' k'=>
  rw [hr] at h
  injection h with h2 h3
  subst h2
  exact ⟨k',rfl,h3.symm⟩
 |_=>rw [hr] at h;cases h
theorem XU {S:Nat→Bool}{ro:Aq}{b t:Nat}(h:calm S ro b=.priv t):ro b=.priv t:=by
 unfold calm at h
 cases hr:ro b<;>rw [hr] at h<;>first|exact h|cases h
theorem Aq7 {S:Nat→Bool}{ro:Aq}{b g:Nat}:calm S ro b≠.pbox g:=by
 intro h
 unfold calm at h
 cases hr:ro b<;>rw [hr] at h<;>cases h
theorem AbA (S:Nat→Bool)(ro:Aq)(w:World):Evo ro (calm S ro) w w:=by
 refine ⟨fun b off u hok hc=>⟨hc,?_⟩,fun b id k hb hr=>⟨hb,k&&S id,by unfold calm;rw [hr]⟩⟩
 unfold DD calm at *
 cases hr:ro b<;>rw [hr] at hok<;>simp_all
def gr (S:Nat→Bool):Fa→Bool
 | .priv t=>S t
 |_=>false
def hand (S:Nat→Bool)(ro0:Aq)(base τ:Nat)(ro:Aq):Aq:=fun b=>if b<base∧gr S (ro0 b)=false then ro0 b else match ro b with
 | .row _ n=>.row τ n
 | .obj id k=>.obj id k
 | .priv id=>.priv id
 |_=>.frozen
def Held (S:Nat→Bool)(ro0:Aq)(base:Nat)(ro:Aq):Prop:=∀b,b<base→ro b=calm S ro0 b∨(gr S (ro0 b)=true∧∀id k,ro b≠.obj id k)
theorem Held.eq {S:Nat→Bool}{ro0 ro:Aq}{base b:Nat}(h:Held S ro0 base ro)(hb:b<base∧gr S (ro0 b)=false):ro b=calm S ro0 b:=(h b hb.1).resolve_right fun k=>by rw [hb.2] at k;cases k.1
theorem MZ {S:Nat→Bool}{ro0 ro:Aq}{base τ b:Nat}(hb:b<base∧gr S (ro0 b)=false):hand S ro0 base τ ro b=ro0 b:=if_pos hb
theorem Lh {S:Nat→Bool}{ro0 ro:Aq}{base τ b:Nat}(hb:¬(b<base∧gr S (ro0 b)=false)):hand S ro0 base τ ro b=(match ro b with | .row _ n=>.row τ n | .obj id k=>.obj id k | .priv id=>.priv id|_=>.frozen):=if_neg hb
theorem YC {S:Nat→Bool}{ro0 ro:Aq}{base τ:Nat}{w:World}(hold:Held S ro0 base ro):Evo ro (hand S ro0 base τ ro) w w:=by
 refine ⟨fun b off u hok hc=>⟨hc,?_⟩,fun b id k hb hr=>⟨hb,?_⟩⟩
 ·by_cases hlt:b<base∧gr S (ro0 b)=false
  ·unfold DD at *
   rw [MZ hlt]
   rw [hold.eq hlt] at hok
   unfold calm at hok
   cases hr:ro0 b<;>rw [hr] at hok<;>simp_all
  ·unfold DD at *
   rw [Lh hlt]
   cases hr:ro b<;>rw [hr] at hok<;>simp_all
 ·by_cases hlt:b<base∧gr S (ro0 b)=false
  ·rw [hold.eq hlt] at hr
   obtain ⟨k',h1,_⟩:=Lr hr
   exact ⟨k',by rw [MZ hlt];exact h1⟩
  ·exact ⟨k,by rw [Lh hlt,hr]⟩
theorem Ajb {S:Nat→Bool}{ro0:Aq}{τ:Nat}{v:Value}{c r:C}(hold:Held S ro0 base ro)(h:CV P base ro w v c)(hf:fits P c r):CV P base (hand S ro0 base τ ro) w v (Ew τ r):=by
 have hev:=YC (τ:=τ) (w:=w) hold
 cases r with
 |d x=>
  obtain rfl:c.asD=x:=hf
  exact Rep.Bi hev h.rep
 |nil=>
  obtain rfl:c=.nil:=hf
  exact h
 |own τ0 e xs=>
  rcases hf with ⟨τ',rfl⟩|⟨rfl,rfl,h0⟩
  ·obtain ⟨sz,us,h1,h2,h3,h4,h5,h6⟩:=h
   refine ⟨sz,us,h1,h2,h3,h4,h5.Bi hev,fun g hg=>?_⟩
   have hlt:=(h3.lt g hg).1
   rw [Lh (fun k=>by omega),h6 g hg]
  ·rw [show v=.slice none 0 0 from h]
   exact ⟨P.cellsOf e,[],h0,rfl,World.ownsRow_nil w base e _,by simp,by simpa [flat] using AX.nil,fun g hg=>by simp [Value.ownBlock] at hg⟩
theorem Zo:∀{cs rs:List C},Bo P cs rs→cs.length=rs.length
 | [],[],_=>rfl
 |_::cs,_::rs,h=>by simp [Zo h.2]
theorem AdG:∀{cs rs:List C} {i:Nat} {r:C},Bo P cs rs→rs[i]? = some r→∃c,cs[i]? = some c∧fits P c r
 | [],[],i,r,_,h=>by simp at h
 |c::cs,r'::rs,0,r,h,hr=>by simp at hr;subst hr;exact ⟨c,rfl,h.1⟩
 |c::cs,r'::rs,i+1,r,h,hr=>by
  obtain ⟨c',h1,h2⟩:=AdG h.2 (by simpa using hr)
  exact ⟨c',by simpa using h1,h2⟩
def BL (pre:List (Nat×S))(t:Nat):Bool:=pre.any fun p=>p.1==t
def PD (args:List D)(pre:List (Nat×S)):Env:=fun t=>match args[t]? with
 |some d=>.c (.d d)
 |none=>match pre.find? fun p=>p.1==t with
  |some p=>p.2
  |none=>.junk
def thing:S→Bool
 | .obj _ | .mapo _ | .free | .junk | .pack .. => true
 |_=>false
def Ws:Fa→Bool
 | .obj .. | .box _ | .pbox _=>false
 |_=>true
structure Ox (S:Nat→Bool) (ro ro':Aq) (w w':World):Prop where
 os:w'.os=w.os
 tape:w'.tape=w.tape
 output:w'.output=w.output
 size:w.heap.size≤w'.heap.size
 block:∀b,b<w.heap.size→(∀id k,ro b=.obj id k→S id=false)→(∀id,ro b=.priv id→S id=false)→w'.heap[b]? = w.heap[b]?
 role:∀b,b<w.heap.size→ro' b=ro b∨(gr S (ro b)=true∧Ws (ro' b)=true)
 new:∀b,w'.heap.size≤b→ro' b=.frozen
 names:∀b id k,w.heap.size≤b→ro' b=.obj id k→S id=true
 uniq:∀b b' id k k',ro' b=.obj id k→ro' b'=.obj id k'→b=b'
def Ad7 {α:Type}(P:Program)(f:FuncId)(args:List D)(pre:List (Nat×S))(R:α→Prop)(res:α→List C)(post:α→List (Nat×S)):Prop:=
 ∀(ro:Aq) (w:World) (vs:Array Value) (τ:Nat),Rf ro w→(∀b b' id k k',ro b=.obj id k→ro b'=.obj id k'→b=b')→vs.size=args.length →
  (∀(i:Nat) (v:Value) (d:D),vs.toList[i]? = some v→args[i]? = some d→Rep ro w v d)→(∀p∈pre,BB P w.heap.size ro (fun _=>0) w p.1 undef p.2) →
  Calls P f vs w fun e w'=>∃x,R x∧∃v ro',e=.returned v∧Ox (BL pre) ro ro' w w'∧BB P w.heap.size ro' (fun _=>0) w' 0 v (EN ((res x).map (Ew τ)))∧∀p∈post x,BB P w.heap.size ro' (fun _=>0) w' p.1 undef p.2
def FO (P:Program)(f:FuncId)(args:List D)(pre:List (Nat×S))(res:List C)(post:List (Nat×S)):Prop:=
 ∀(ro:Aq) (w:World) (vs:Array Value) (τ:Nat),Rf ro w→(∀b b' id k k',ro b=.obj id k→ro b'=.obj id k'→b=b')→vs.size=args.length →
  (∀(i:Nat) (v:Value) (d:D),vs.toList[i]? = some v→args[i]? = some d→Rep ro w v d)→(∀p∈pre,BB P w.heap.size ro (fun _=>0) w p.1 undef p.2) →
  Calls P f vs w fun e w'=>∃v ro',e=.returned v∧Ox (BL pre) ro ro' w w'∧BB P w.heap.size ro' (fun _=>0) w' 0 v (EN (res.map (Ew τ)))∧∀p∈post,BB P w.heap.size ro' (fun _=>0) w' p.1 undef p.2
theorem AiG {S':Nat→Bool}{t:Nat}{s:S}(hs:thing s=true)(hS:S' t=true)(h:BB P base ro blk w t v s):BB P base (calm S' ro) blk' w t v' s:=by
 have hev:=AbA S' ro w
 cases s with
 |obj cs=>
  obtain ⟨b,arr,e,h1,h2,h3⟩:=h
  exact ⟨b,arr,e,by unfold calm;rw [h1];show Fa.obj t (true&&S' t)=_;rw [hS];rfl,h2,h3.Bi hev⟩
 |mapo es=>
  obtain ⟨b,ents,h1,h2⟩:=h
  exact ⟨b,ents,by unfold calm;rw [h1];show Fa.obj t (true&&S' t)=_;rw [hS];rfl,h2.Bi hev rfl⟩
 |pack cs rows=>
  refine GM.keep h hev fun k _ hr=>⟨rfl,?_⟩
  unfold calm
  rcases hr with hr|hr
  ·rw [hr];show Fa.obj t (true&&S' t)=_;rw [hS];rfl
  ·rw [hr]
 |free=>
  intro b k hb
  obtain ⟨k',h1,_⟩:=Lr hb
  exact h b k' h1
 |junk=>trivial
 |_=>cases hs
theorem Avi {S':Nat→Bool}{ro0:Aq}{t τ:Nat}{s:S}(hold:Held S' ro0 base ro)(hs:thing s=true)(h:BB P base ro blk w t v s):BB P base (hand S' ro0 base τ ro) blk' w t v' s:=by
 have hev:=YC (τ:=τ) (w:=w) hold
 have key:∀b,ro b=.obj t true→hand S' ro0 base τ ro b=.obj t true:=by
  intro b h1
  by_cases hlt:b<base∧gr S' (ro0 b)=false
  ·rw [hold.eq hlt] at h1
   obtain ⟨k',h2,h3⟩:=Lr h1
   rw [MZ hlt,h2]
   cases k' with
   |true=>rfl
   |false=>exact absurd h3 (by simp)
  ·rw [Lh hlt,h1]
 cases s with
 |obj cs=>
  obtain ⟨b,arr,e,h1,h2,h3⟩:=h
  exact ⟨b,arr,e,key b h1,h2,h3.Bi hev⟩
 |mapo es=>
  obtain ⟨b,ents,h1,h2⟩:=h
  exact ⟨b,ents,key b h1,h2.Bi hev rfl⟩
 |pack cs rows=>
  refine GM.keep h hev fun k _ hr=>⟨rfl,?_⟩
  rcases hr with hr|hr
  ·rw [key k hr,hr]
  ·by_cases hlt:k<base∧gr S' (ro0 k)=false
   ·rw [MZ hlt,hr]
    rw [hold.eq hlt] at hr
    exact XU hr
   ·rw [Lh hlt,hr]
 |free=>
  intro b k hb
  by_cases hlt:b<base∧gr S' (ro0 b)=false
  ·rw [MZ hlt] at hb
   exact h b (k&&S' t) (by rw [hold.eq hlt];unfold calm;rw [hb])
  ·rw [Lh hlt] at hb
   cases hr:ro b with
   |obj id k'=>rw [hr] at hb;simp only at hb;injection hb with h1 h2;subst h1;exact h b k' hr
   |_=>rw [hr] at hb;cases hb
 |junk=>trivial
 |_=>cases hs
theorem ArK {α:Type}{R:α→Prop}{f:FuncId}{fn:Func}{c:Code}{args:List D}{pre:List (Nat×S)}{post:α→List (Nat×S)}{res:α→List C}(hf:P.funcs[f]? = some fn)(hb:fn.body=some c)(hN:fn.ntmps=N)(hargs:args.length≤N)(hpre:∀p∈pre,thing p.2=true)(hpost:∀x,R x→∀p∈post x,thing p.2=true)
 (h:VC P N c (PD args pre) (fun e env=>(e=.normal∨e=.ret)∧∃x,R x∧(∃cs,Ko P env fn.results.toList=some cs∧Bo P cs (res x))∧∀p∈post x,env p.1=p.2)):Ad7 P f args pre R res post:=by
 intro ro w vs τ hnew huniq hlen hrep hthings
 have hev:=AbA (BL pre) ro w
 refine calls_of_wp hf hb (wp_mono (h w.heap.size w ⟨calm (BL pre) ro,fun t=>BL pre t=true,fun b id h=>by obtain ⟨k,_,e⟩:=Lr h;cases hn:BL pre id with|true=>rfl|false=>rw [hn,Bool.and_false] at e;cases e⟩ { tmps:=vs++Array.replicate (fn.ntmps-vs.size) undef,defers:=[] } w ⟨calm (BL pre) ro,fun _=>0,?_⟩) ?_)
 ·refine ⟨⟨Under.refl _ _ _,fun g cs hg=>by
   obtain ⟨q1,q2,q3⟩:=hnew.KU g cs hg
   exact ⟨q1,by show calm _ ro g=_;unfold calm;rw [q2],q3⟩⟩,Nat.le_refl _,rfl,by simp;omega,⟨fun _ _=>.inl rfl,fun b g h=>absurd h Aq7⟩,fun b hb=>by unfold calm;rw [hnew.new b hb],?_,?_,?_,fun t=>?_⟩
  ·intro b b' id k k' h1 h2
   obtain ⟨m,h3,_⟩:=Lr h1
   obtain ⟨m',h4,_⟩:=Lr h2
   exact huniq b b' id m m' h3 h4
  ·intro b id k hb h1
   obtain ⟨m,h3,_⟩:=Lr h1
   rw [hnew.new b hb] at h3;cases h3
  ·intro t ht
   unfold PD at ht
   cases hd:args[t]? with
   |some d=>rw [hd] at ht;cases ht
   |none=>
    rw [hd] at ht
    simp only at ht
    cases hp:pre.find? fun p=>p.1==t with
    |none=>rw [hp] at ht;cases ht
    |some p=>
     have h1:=List.find?_some hp
     have h2:=List.mem_of_find?_eq_some hp
     exact List.any_eq_true.2 ⟨p,h2,h1⟩
  ·unfold PD
   cases hd:args[t]? with
   |some d=>
    have hlt:=(List.getElem?_eq_some_iff.1 hd).1
    have hv:vs[t]? = some vs[t]:=Array.getElem?_eq_getElem (by omega)
    have hg:(vs++Array.replicate (fn.ntmps-vs.size) undef).getD t undef=vs[t]:=by
     rw [Array.getD_eq_getD_getElem?,Array.getElem?_append_left (by omega),hv];rfl
    show Rep (calm (BL pre) ro) w ((vs++Array.replicate (fn.ntmps-vs.size) undef).getD t undef) d
    rw [hg]
    exact (hrep t _ d (by simp [hlen,hlt]) hd).Bi hev
   |none=>
    simp only
    cases hp:pre.find? fun p=>p.1==t with
    |none=>trivial
    |some p=>
     have h1:=List.find?_some hp
     have h2:=List.mem_of_find?_eq_some hp
     obtain ⟨t',s⟩:=p
     simp only [beq_iff_eq] at h1
     subst h1
     exact AiG (hpre _ h2) (List.any_eq_true.2 ⟨_,h2,by simp⟩) (hthings _ h2)
 ·rintro e a' w' ⟨env',⟨he,x,hx,⟨cs,hres,hfit⟩,hpo⟩,ro',blk',hs⟩
  obtain ⟨vals,k1,k2,k3⟩:=AbK hs hres
  have hl:=Zo hfit
  have hrun:(results fn a'.tmps).run P w'=.ok (if h:vals.toArray.size=1 then vals.toArray[0] else .tuple vals.toArray) w':=by
   have hfun:results fn a'.tmps=(do let vs ←fn.results.mapM (JY a');pure (if h:vs.size=1 then vs[0] else .tuple vs)):=by
    unfold results
    congr 1
   rw [hfun,Array.mapM_eq_mapM_toList]
   simp [k1]
  have hR:∃v ro'',(if h:vals.toArray.size=1 then vals.toArray[0] else Value.tuple vals.toArray)=v∧Ox (BL pre) ro ro'' w w'∧BB P w.heap.size ro'' (fun _=>0) w' 0 v (EN ((res x).map (Ew τ)))∧∀p∈post x,BB P w.heap.size ro'' (fun _=>0) w' p.1 undef p.2:=by
   have hold:Held (BL pre) ro w.heap.size ro':=fun b hb=>(hs.old.same b hb).imp id fun ⟨⟨t,q1,q2⟩,q3⟩=>⟨by rw [XU q1];exact q2,q3⟩
   have hobj:∀b id k,hand (BL pre) ro w.heap.size τ ro' b=.obj id k→∃k',ro' b=.obj id k':=by
    intro b id k h1
    by_cases hlt:b<w.heap.size∧gr (BL pre) (ro b)=false
    ·rw [MZ hlt] at h1
     exact ⟨k&&BL pre id,by rw [hold.eq hlt];unfold calm;rw [h1]⟩
    ·rw [Lh hlt] at h1
     cases hr:ro' b with
     |obj id' k'=>rw [hr] at h1;simp only at h1;injection h1 with h2 h3;subst h2;exact ⟨k',rfl⟩
     |_=>rw [hr] at h1;cases h1
   refine ⟨_,hand (BL pre) ro w.heap.size τ ro',rfl,⟨hs.below.os,hs.below.tape,hs.below.output,hs.below.size,fun b hb hn hp=>hs.below.block b hb (fun id h1=>?_) (fun id h1 hi=>?_),fun b hb=>?_,fun b hb=>?_,fun b id k hb h1=>?_,fun b b' id k k' h1 h2=>?_⟩,?_,fun p hp=>?_⟩
   ·obtain ⟨k',h2,h3⟩:=Lr h1
    rw [hn id k' h2,Bool.and_false] at h3;cases h3
   ·have hi:BL pre id=true:=hi
    rw [hp id (XU h1)] at hi;cases hi
   ·by_cases hlt:gr (BL pre) (ro b)=false
    ·exact .inl (MZ ⟨hb,hlt⟩)
    ·refine .inr ⟨by simpa using hlt,?_⟩
     rw [Lh (fun k=>hlt k.2)]
     cases hr:ro' b with
     |obj id k=>
      rcases hold b hb with e|e
      ·rw [hr] at e
       obtain ⟨k',h2,_⟩:=Lr e.symm
       rw [h2] at hlt;exact absurd rfl hlt
      ·exact absurd hr (e.2 id k)
     |_=>rfl
   ·rw [Lh (fun k=>by have:=hs.below.size;omega),hs.new b hb]
   ·obtain ⟨k',h2⟩:=hobj b id k h1
    exact hs.given b id k' hb h2
   ·obtain ⟨m,h3⟩:=hobj b id k h1
    obtain ⟨m',h4⟩:=hobj b' id k' h2
    exact hs.uniq b b' id m m' h3 h4
   ·have hsat:∀(i:Nat) (v:Value) (r:C),vals[i]? = some v→((res x).map (Ew τ))[i]? = some r→CV P w.heap.size (hand (BL pre) ro w.heap.size τ ro') w' v r:=by
     intro i v r hv hr
     rw [List.getElem?_map] at hr
     cases hri:(res x)[i]? with
     |none=>rw [hri] at hr;cases hr
     |some r'=>
      rw [hri] at hr
      simp only [Option.map_some,Option.some.injEq] at hr
      subst hr
      obtain ⟨c,hc,hfc⟩:=AdG hfit hri
      exact Ajb hold (k3 i v c hv hc) hfc
    have hvl:vals.length=((res x).map (Ew τ)).length:=by simp;omega
    match hres2:(res x).map (Ew τ),vals,hvl,hsat with
    | [],[],_,hsat=>exact ⟨#[],by simp,rfl,fun i v r hv hr=>by simp at hv⟩
    | [r],[v],_,hsat=>simpa [EN,BB] using hsat 0 v r rfl rfl
    |r::r'::rs,v::v'::vs',hvl,hsat=>exact ⟨(v::v'::vs').toArray,by simp,by simpa using hvl,fun i u c hu hc=>hsat i u c (by simpa using hu) hc⟩
   ·have h1:=hs.sat p.1
    rw [hpo p hp] at h1
    exact Avi hold (hpost x hx p hp) h1
  obtain ⟨v,ro'',rfl,hg,hsat,hth⟩:=hR
  rcases he with rfl|rfl
  ·exact ⟨hs.nodef,_,hrun,x,hx,_,ro'',rfl,hg,hsat,hth⟩
  ·exact ⟨hs.nodef,_,hrun,x,hx,_,ro'',rfl,hg,hsat,hth⟩
theorem Ahk {f:FuncId}{fn:Func}{c:Code}{args:List D}{pre post:List (Nat×S)}{res:List C}(hf:P.funcs[f]? = some fn)(hb:fn.body=some c)(hN:fn.ntmps=N)(hargs:args.length≤N)(hpre:∀p∈pre,thing p.2=true)(hpost:∀p∈post,thing p.2=true)
 (h:VC P N c (PD args pre) (fun e env=>(e=.normal∨e=.ret)∧(∃cs,Ko P env fn.results.toList=some cs∧Bo P cs res)∧∀p∈post,env p.1=p.2)):FO P f args pre res post:=by
 have hc:=ArK (R:=fun _:Unit=>True) (res:=fun _=>res) (post:=fun _=>post) hf hb hN hargs hpre (fun _ _=>hpost) (Pj h fun e env h=>⟨h.1,(),trivial,h.2⟩)
 intro ro w vs τ h1 h2 h3 h4 h5
 refine (hc ro w vs τ h1 h2 h3 h4 h5).mono ?_
 rintro e w' ⟨_,_,h⟩
 exact h
theorem Ox.plain {ro ro':Aq}{w w':World}(h:Ox (BL []) ro ro' w w'):Grow ro ro' w w':=
 ⟨⟨h.os,h.tape,h.output,h.size,fun b hb=>h.block b hb (fun _ _ _=>rfl) (fun _ _=>rfl)⟩,fun b hb=>(h.role b hb).resolve_right (fun k=>by have:=k.1;unfold gr at this;split at this<;>cases this),h.new,fun b id k hb h1=>by have:=h.names b id k hb h1;cases this⟩
end
end Go.Vm
end
section
namespace Go.Vm
open Go.RowKit
def AY {α:Type}(P:Program):Sem α→Option α
 | .pure a=>some a
 | .program k=>AY P (k P)
 | .mark _ k=>AY P k
 |_=>none
theorem Dt {α:Type}{P:Program}:∀{s:Sem α} {r:α},AY P s=some r→∀w:World,s.run P w=.ok r w
 | .pure a,r,h,w=>by simp [AY] at h;subst h;rfl
 | .program k,r,h,w=>by simp only [AY] at h;simp only [Sem.run];exact Dt h w
 | .mark _ k,r,h,w=>by simp only [AY] at h;simp only [Sem.run];exact Dt h w
 | .load ..,_,h,_=>by simp [AY] at h
 | .store ..,_,h,_=>by simp [AY] at h
 | .new ..,_,h,_=>by simp [AY] at h
 | .shape ..,_,h,_=>by simp [AY] at h
 | .freeze ..,_,h,_=>by simp [AY] at h
 | .frozen ..,_,h,_=>by simp [AY] at h
 | .getObj ..,_,h,_=>by simp [AY] at h
 | .setObj ..,_,h,_=>by simp [AY] at h
 | .choose ..,_,h,_=>by simp [AY] at h
 | .sys ..,_,h,_=>by simp [AY] at h
 | .halt ..,_,h,_=>by simp [AY] at h
def scs:List D→Option (List Value)
 | []=>some []
 | .sc v::l=>(scs l).map (v :: ·)
 |_=>none
def Ai:D→Option Value
 | .sc v=>some v
 | .agg cs=>(scs cs).map fun vs=>.agg vs.toArray
 |_=>none
section
variable {P:Program} {N base:Nat} {w0 w w':World} {ro0:Start} {ro ro':Aq} {blk blk':Nat→Nat} {env env':Env} {a:Act} {o:Oper} {ops:Array Oper} {Q:Exit→Env→Prop}
theorem AdW:∀{cs:List D} {vs us:List Value},scs cs=some vs→us.length=cs.length→(∀(i:Nat) (u:Value) (c:D),us[i]? = some u→cs[i]? = some c→Rep ro w u c)→us=vs
 | [],vs,us,h,hl,_=>by simp [scs] at h;subst h;exact List.length_eq_zero_iff.1 (by simpa using hl)
 | .sc v::cs,vs,us,h,hl,hr=>by
  simp only [scs,Option.map_eq_some_iff] at h
  obtain ⟨vs',h1,rfl⟩:=h
  match us,hl,hr with
  | [],hl,_=>simp at hl
  |u::us,hl,hr=>
   have h0:=(EL (hr 0 u (.sc v) rfl rfl)).1
   have ih:=AdW h1 (by simpa using hl) (fun i u c hu hc=>hr (i+1) u c (by simpa using hu) (by simpa using hc))
   rw [h0,ih]
 | .agg _::cs,vs,us,h,_,_=>by simp [scs] at h
 | .row _::cs,vs,us,h,_,_=>by simp [scs] at h
 | .ptr _ _::cs,vs,us,h,_,_=>by simp [scs] at h
 | .mp _::cs,vs,us,h,_,_=>by simp [scs] at h
 | .fn _ _::cs,vs,us,h,_,_=>by simp [scs] at h
 | .rr _ _ _::cs,vs,us,h,_,_=>by simp [scs] at h
 | .stale::cs,vs,us,h,_,_=>by simp [scs] at h
theorem AjA {v u:Value}{d:D}(h:Rep ro w v d)(hc:Ai d=some u):v=u:=by
 cases d with
 |sc x=>simp [Ai] at hc;subst hc;exact (EL h).1
 |agg cs=>
  simp only [Ai,Option.map_eq_some_iff] at hc
  obtain ⟨vs,h1,rfl⟩:=hc
  cases h with
  |agg hl h1' hr=>
   have:=AdW h1 (by simpa using hl) hr
   rw [←this]
 |row xs=>simp [Ai] at hc
 |ptr id off=>simp [Ai] at hc
 |mp id=>simp [Ai] at hc
 |fn f cs=>simp [Ai] at hc
 |rr id sz n=>simp [Ai] at hc
 |stale=>simp [Ai] at hc
def vc1 (env:Env)(x:Operand):Option Value:=match vd env x with
 |some d=>Ai d
 |none=>none
theorem Bf.IB (h:Bf P N base w0 ro0 ro blk env a w){x:Operand}{u:Value}(hx:vc1 env x=some u):a.eval x=u:=by
 unfold vc1 at hx
 split at hx
 ·rename_i d hd;exact AjA (h.getD hd) hx
 ·cases hx
theorem Agree.IB (h:Agree o env env'){x:Operand}(hx:x∈o.op.operands):vc1 env' x=vc1 env x:=by unfold vc1;rw [h.getD hx]
theorem Awa {op:BinOp}{t t':TypeId}{x y:Operand}{u v r:Value}(hop:o.op=.binOp op t x y t')(hx:vc1 env x=some u)(hy:vc1 env y=some v)
 (hr:AY P (do eqGuard op t x y u v;binOp op t u v:Sem Value)=some r) (hpl:BN r=true) {d:Nat} (hdst:o.dst=some d) (hd:d<N):Cf P N o env (.c (.d (.sc r))):=by
 refine DF hdst hd fun env' he base w0 ro0 ro blk a w hsim=>⟨r,w,ro,?_,Grow.refl hsim.new,Rep.sc hpl⟩
 have h1:=hsim.IB (x:=x) (by rw [he.IB (by simp [hop,Op.operands])];exact hx)
 have h2:=hsim.IB (x:=y) (by rw [he.IB (by simp [hop,Op.operands])];exact hy)
 have h3:=Dt hr w
 simp only [execOp,hop,h1,h2,Sem.run_bind,Sem.run_pure] at h3 ⊢
 rw [h3];rfl
theorem Ae1 {op:BinOp}{t t':TypeId}{x y:Operand}{u v r:Value}(hop:o.op=.binOp op t x y t')(hx:vc1 env x=some u)(hy:vc1 env y=some v)
 (hr:∀w:World,(do eqGuard op t x y u v;binOp op t u v:Sem Value).run P w=.ok r w) (hpl:BN r=true) {d:Nat} (hdst:o.dst=some d) (hd:d<N):Cf P N o env (.c (.d (.sc r))):=by
 refine DF hdst hd fun env' he base w0 ro0 ro blk a w hsim=>⟨r,w,ro,?_,Grow.refl hsim.new,Rep.sc hpl⟩
 have h1:=hsim.IB (x:=x) (by rw [he.IB (by simp [hop,Op.operands])];exact hx)
 have h2:=hsim.IB (x:=y) (by rw [he.IB (by simp [hop,Op.operands])];exact hy)
 have h3:=hr w
 simp only [execOp,hop,h1,h2,Sem.run_bind,Sem.run_pure] at h3 ⊢
 rw [h3];rfl
theorem Aah {op:UnOp}{t:TypeId}{x:Operand}{u r:Value}(hop:o.op=.unOp op t x)(hx:vc1 env x=some u)
 (hr:AY P (Op.unary op u)=some r) (hpl:BN r=true) {d:Nat} (hdst:o.dst=some d) (hd:d<N):Cf P N o env (.c (.d (.sc r))):=by
 refine DF hdst hd fun env' he base w0 ro0 ro blk a w hsim=>⟨r,w,ro,?_,Grow.refl hsim.new,Rep.sc hpl⟩
 have h1:=hsim.IB (x:=x) (by rw [he.IB (by simp [hop,Op.operands])];exact hx)
 have h3:=Dt hr w
 simp only [execOp,hop,h1,Sem.run_bind,Sem.run_pure] at h3 ⊢
 rw [h3];rfl
theorem Avl {t t':TypeId}{x:Operand}{u r:Value}(hop:o.op=.convert t t' x)(hx:vc1 env x=some u)
 (hr:AY P (convert t t' u)=some r) (hpl:BN r=true) {d:Nat} (hdst:o.dst=some d) (hd:d<N):Cf P N o env (.c (.d (.sc r))):=by
 refine DF hdst hd fun env' he base w0 ro0 ro blk a w hsim=>⟨r,w,ro,?_,Grow.refl hsim.new,Rep.sc hpl⟩
 have h1:=hsim.IB (x:=x) (by rw [he.IB (by simp [hop,Op.operands])];exact hx)
 have h3:=Dt hr w
 simp only [execOp,hop,h1,Sem.run_bind,Sem.run_pure] at h3 ⊢
 rw [h3];rfl
end
end Go.Vm
end
section
namespace Go.Vm
open Go.RowKit
def strD (s:ByteArray):D:=.sc (.string s)
section
variable {P:Program} {N base:Nat} {w0 w w':World} {ro0:Start} {ro ro':Aq} {blk blk':Nat→Nat} {env env' e:Env} {a:Act} {o:Oper} {ops:Array Oper} {fb:List Nat} {Q:Exit→Env→Prop}
def NY (o:Oper)(env:Env):S→Bool
 | .ref d _=>o.op.operands.toList.any fun x=>match Ap env x with
  | .ref d' _=>d'==d
  |_=>false
 |_=>true
def Jb (ops:Array Oper)(o:Oper)(env:Env):Bool:=match addrOf o with
 |some x=>match Ap env x with
  | .ref t _=>Iu ops o==some t
  |_=>true
 |none=>true
theorem Aeh {s:S}(h:NY o env s=true):∀d off,s=.ref d off→∃x∈o.op.operands,∃off',Ap env x=.ref d off':=by
 intro d off e
 subst e
 simp only [NY,List.any_eq_true] at h
 obtain ⟨x,hx,h1⟩:=h
 split at h1
 ·rename_i d' off' hv
  have:d'=d:=by simpa using h1
  subst this
  exact ⟨x,by simpa using hx,off',hv⟩
 ·cases h1
theorem N9 (h:Jb ops o env=true):∀x t off,addrOf o=some x→Ap env x=.ref t off→Iu ops o=some t:=by
 intro x t off ha hv
 simp only [Jb,ha,hv,beq_iff_eq] at h
 exact h
theorem AcG {s:S}(hg:D7 ops o env=some true)(hy:XD P N o env s)(hcl:FT fb o≠0)(hnb:nb s=true)(hr:NY o env s=true)(hd:Jb ops o env=true)(hsm:∀t,o.dst=some t→t<BIG):DG P N fb ops o env (.slot o.dst s):=
 ⟨⟨rfl,hnb,Aeh hr⟩,N9 hd,.inl ⟨hg,fun env' he _=>hy env' (he.all hcl)⟩,hsm⟩
theorem AmZ {s:S}(hg:D7 ops o env=some true)(hy:Cf P N o (noN env) s)(hnb:nb s=true)(hr:NY o env s=true)(hd:Jb ops o env=true)(hsm:∀t,o.dst=some t→t<BIG):DG P N fb ops o env (.slot o.dst s):=
 ⟨⟨rfl,hnb,Aeh hr⟩,N9 hd,.inl ⟨hg,fun env' he _=>hy.free env' he.zero⟩,hsm⟩
theorem AcI (hg:D7 ops o env=some false)(hd:Jb ops o env=true)(hsm:∀t,o.dst=some t→t<BIG):DG P N fb ops o env (.slot o.dst (.tup [])):=
 ⟨⟨rfl,rfl,fun d off e=>by cases e⟩,N9 hd,.inr ⟨hg,rfl⟩,hsm⟩
theorem AmB {T:TypeId}{x y:Operand}{t off:Nat}{cs:List D}{r:D}{sh:Bool×Nat}(hg:D7 ops o env=some true)(hop:o.op=.store T x y)(hx:Ap env x=.ref t off)(hb:env t=.box cs)(hy:vd env y=some r)(hsh:Bl P T=some sh)(hn:r.cells.length=sh.2)(hoff:off+r.cells.length≤cs.length)(hdst:o.dst=none)(hd:Jb ops o env=true)(hsm:t<BIG) :
 DG P N fb ops o env (.cont t (.box (patch cs off r.cells))):=by
 have ha:addrOf o=some x:=by simp [addrOf,hop]
 refine ⟨⟨?_,hdst,by rw [hb];rfl,rfl⟩,N9 hd,.inl ⟨hg,fun env' he _=>?_⟩,fun u hu=>(Option.some.inj hu)▸hsm⟩
 ·have:=N9 hd x t off ha hx
  simp [Md,hop,Yh,this]
 ·exact ZV hop (by rw [he.get (by simp [hop,Op.operands])];exact hx) ((he.2.1 x t off ha hx).trans hb) (by rw [he.getD (by simp [hop,Op.operands])];exact hy) hsh hn hoff hdst
theorem AcS {d:Nat}{cs:List D}(h:Vw d env):Gz env d cs=upd env (some d) (.box cs):=by
 funext t
 simp only [Gz,upd]
 split
 ·rfl
 ·cases ht:env t with
  |ref t' off=>
   simp only [JZ]
   split
   ·rename_i e;subst e;exact absurd ht (h t off)
   ·rfl
  |_=>rfl
theorem AqT {T:TypeId}{cs:List D}(hg:D7 ops o env=some true)(hop:o.op=.alloc T)(hz:zeroOf P T=some cs){d:Nat}(hdst:o.dst=some d)(hd:d<N)(hsm:d<BIG):DG P N fb ops o env (.new d cs):=by
 refine ⟨⟨hdst,by simp [hop,Kv]⟩,fun x t off ha _=>by simp [addrOf,hop] at ha,.inl ⟨hg,fun env' he hn=>?_⟩,fun u hu=>(Option.some.inj hu)▸hsm⟩
 have:=AdF (P:=P) (N:=N) (env:=env') hop hz hdst hd hsm
 rwa [AcS (hn d (by simp [hop,Kv]) hdst)] at this
theorem Auj {T:TypeId}{x:Operand}{r:D}(hg:D7 ops o env=some true)(hop:o.op=.box T x)(hx:vd env x=some r){d:Nat}(hdst:o.dst=some d)(hd:d<N)(hsm:d<BIG):DG P N fb ops o env (.new d r.cells):=by
 refine ⟨⟨hdst,by simp [hop,Kv]⟩,fun x t off ha _=>by simp [addrOf,hop] at ha,.inl ⟨hg,fun env' he hn=>?_⟩,fun u hu=>(Option.some.inj hu)▸hsm⟩
 have:=Aa1 (P:=P) (N:=N) (env:=env') (r:=r) hop (by rw [he.getD (by simp [hop,Op.operands])];exact hx) hdst hd hsm
 rwa [AcS (hn d (by simp [hop,Kv]) hdst)] at this
end
section
variable {P:Program} {t:TypeId} {x y:Operand}
theorem AcP {k:IntKind}{a b:Int}:AY P (do eqGuard .lss t x y (.int k a) (.int k b);binOp .lss t (.int k a) (.int k b):Sem Value)=some (.bool (decide (a<b))):=by cases k<;>rfl
theorem Aa7 {k:IntKind}{a b:Int}:AY P (do eqGuard .leq t x y (.int k a) (.int k b);binOp .leq t (.int k a) (.int k b):Sem Value)=some (.bool (decide (a≤b))):=by cases k<;>rfl
theorem Aac {k:IntKind}{a b:Int}:AY P (do eqGuard .gtr t x y (.int k a) (.int k b);binOp .gtr t (.int k a) (.int k b):Sem Value)=some (.bool (decide (b<a))):=by cases k<;>rfl
theorem AcF {k:IntKind}{a b:Int}:AY P (do eqGuard .geq t x y (.int k a) (.int k b);binOp .geq t (.int k a) (.int k b):Sem Value)=some (.bool (decide (b≤a))):=by cases k<;>rfl
theorem AbX {k:IntKind}{a b:Int}:AY P (do eqGuard .eql t x y (.int k a) (.int k b);binOp .eql t (.int k a) (.int k b):Sem Value)=some (.bool (decide (a=b))):=by cases k<;>rfl
theorem Ac9 {k:IntKind}{a b:Int}:AY P (do eqGuard .neq t x y (.int k a) (.int k b);binOp .neq t (.int k a) (.int k b):Sem Value)=some (.bool (!decide (a=b))):=by cases k<;>rfl
theorem TR {k:IntKind}{a b c:Int}(h:k.wrap (a+b)=c):AY P (do eqGuard .add t x y (.int k a) (.int k b);binOp .add t (.int k a) (.int k b):Sem Value)=some (.int k c):=by subst h;cases k<;>rfl
theorem AcB {k:IntKind}{a b c:Int}(h:k.wrap (a-b)=c):AY P (do eqGuard .sub t x y (.int k a) (.int k b);binOp .sub t (.int k a) (.int k b):Sem Value)=some (.int k c):=by subst h;cases k<;>rfl
theorem Aqm {k:IntKind}{a b c:Int}(h:k.wrap (a*b)=c):AY P (do eqGuard .mul t x y (.int k a) (.int k b);binOp .mul t (.int k a) (.int k b):Sem Value)=some (.int k c):=by subst h;cases k<;>rfl
theorem Oe (a b:ByteArray):(a.toList==b.toList)=decide (a=b):=by
 by_cases h:a=b
 ·subst h;simp
 ·rw [decide_eq_false h,beq_eq_false_iff_ne,ne_eq,ByteArray.toList_eq,ByteArray.toList_eq]
  intro e
  exact h (ByteArray.ext (Array.toList_inj.1 e))
theorem AdY {a b:ByteArray}:AY P (do eqGuard .eql t x y (.string a) (.string b);binOp .eql t (.string a) (.string b):Sem Value)=some (.bool (decide (a=b))):=by rw [←Oe];rfl
theorem Aag {a b:ByteArray}:AY P (do eqGuard .neq t x y (.string a) (.string b);binOp .neq t (.string a) (.string b):Sem Value)=some (.bool (!decide (a=b))):=by rw [←Oe];rfl
theorem AsX {a b:ByteArray}:AY P (do eqGuard .lss t x y (.string a) (.string b);binOp .lss t (.string a) (.string b):Sem Value)=some (.bool (Op.bytesLess a.toList b.toList)):=rfl
theorem Zv {a b:ByteArray}(h:a.size+b.size≤9223372036854775807):AY P (do eqGuard .add t x y (.string a) (.string b);binOp .add t (.string a) (.string b):Sem Value)=some (.string (a++b)):=by
 have h1:¬(((a.size+b.size:Nat):Int) > IntKind.i64.max):=by
  have:IntKind.i64.max=9223372036854775807:=rfl
  omega
 show AY P (Op.stringOp .add a b)=_
 unfold Op.stringOp
 simp only [if_neg h1]
 rfl
theorem AsO {b:Bool}:AY P (Op.unary .not (.bool b))=some (.bool (!b)):=rfl
end
theorem wrap64 (n:Int)(h : -9223372036854775808≤n∧n≤9223372036854775807):IntKind.i64.wrap n=n:=IntWalk.i64_in _ (by omega)
end Go.Vm
end
section
namespace Go.Vm
open Go.RowKit
section
variable {P:Program} {N:Nat} {env:Env} {Q:Exit→Env→Prop}
end
end Go.Vm
end
