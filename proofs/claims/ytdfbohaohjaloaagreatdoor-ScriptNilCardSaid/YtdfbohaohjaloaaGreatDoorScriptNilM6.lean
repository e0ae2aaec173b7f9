/- Part 6 of what the proof of ScriptNil stands on: ScN, FmT, FwS3, Hm1, HmG, Hm2, Hm3, Hm4, Hm5, Hm6, Hm7, Hm8, Hm9. -/
import Derived.Test.YtdfbohaohjaloaaGreatDoorScriptNilM5
set_option linter.unusedVariables false
set_option linter.unusedSimpArgs false
set_option maxHeartbeats 1000000
section
namespace Go.Vm
open Go.RowKit Go.Proofs
set_option maxRecDepth 10000
open Go.Proofs Go.Proofs.YtdfbohaohjaloaaGreatDoor Punnet.Name Punnet.Num
abbrev E1:ByteArray:=⟨#[101,114,114,111,114,32,49]⟩
theorem rep_snoc {k:Nat}:(List.replicate (k+1) E1).map strD=(List.replicate k E1).map strD ++ [strD E1]:=by
 rw [show k+1=k+1 from rfl,List.replicate_succ',List.map_append];rfl
theorem head_at {v:ByteArray}{l:List ByteArray}:((v::l).map strD)[(0:Int).toNat]? = some (strD v):=rfl
theorem print1:printB 1=⟨#[49]⟩:=by kernel_rfl
theorem failed1_any  : Bc Tryz.prog 27 [.sc (.int .i64 (1))] [.own 0 9 [strD E1]]:=by
 refine T.fn [] Tryz.func27 ?_
 refine AY T.en_24 (numPrint_any 1 (by decide)) ?_
 refine x_cat ?_ (by rw [print1];decide)
 all_goals (refine x_ret ?_;simp only [BL,fits,C.asD,and_true]<;>(exact own_fit (by rw [print1];rfl)))
theorem doNil_any (s:ByteArray):Bc Tryz.prog 13 [.sc (.pointer none),.sc (.string (s))] [.d (.row [strD E1])]:=by
 refine T.fn [] Tryz.func13 ?_
 first | refine And.intro ⟨_,Tryz.underlying32⟩ ?_ | refine x_bin rfl rfl ?_
 refine brT ?_
 refine AY T.en_27 (failed1_any) ?_
 all_goals (refine x_ret ?_;simp only [BL,fits,C.asD,and_true]<;>(rfl))
theorem runNil_any (l:List ByteArray)(hl:l.length≤1000):Bc Tryz.prog 14 [.sc (.pointer none),.row (l.map strD)] [.d (.row ((List.replicate l.length E1).map strD))]:=by
 refine T.fn [] Tryz.func14 ?_
 refine AA ?_
 refine xnil 5 500005 9 rfl (by decide) (by decide +kernel) ?_
 refine xloopR (fb:=[]) T.ok (Nat.le_of_ble_eq_true rfl) [0,8,9] (fun (k:Nat)=>[(10,.c (.d (.sc (.int .i64 (k:Nat))))),(5,.c (.own 500005 9 ((List.replicate k E1).map strD)))]) (fun k=>k≤l.length∧True) (fun k=>l.length-k) 0 ⟨Nat.zero_le _,trivial⟩ (Aq (by first | rfl | (simp only [Tr.get];simp;done)) (Aq (by first | rfl | (simp only [Tr.get];simp;done)) trivial)) ?_
 rintro k ⟨hk,hi⟩
 refine br (fun hc1=>?y1) (fun hc1=>?n1)
 case' y1=>
  obtain ⟨p,hp⟩:=elem_at hc1
  have hkl:=lt_len hp
  first | refine x_ix (by exact mapAt hp) ?_ | refine Ag (by exact mapAt hp) ?_
  refine AY T.en_13 (doNil_any _) ?_
  first | refine x_app ?_ (by first | exact str1_wide | exact strsl_wide _ | (intro x hx;cases hx)) (h1:=by unfold maxLen;((try simp only [List.length_map,List.length_append,List.length_cons,List.length_nil,List.length_replicate]);omega)) (h2:=by ((try simp only [List.length_map,List.length_append,List.length_cons,List.length_nil,List.length_replicate]);omega)) | refine x_appN ?_ (by first | exact str1_wide | exact strsl_wide _ | (intro x hx;cases hx)) (h1:=by unfold maxLen;((try simp only [List.length_map,List.length_append,List.length_cons,List.length_nil,List.length_replicate]);omega)) (h2:=by ((try simp only [List.length_map,List.length_append,List.length_cons,List.length_nil,List.length_replicate]);omega))
  first | refine x_inc ?_ (h:=by ((try simp only [List.length_map,List.length_append,List.length_cons,List.length_nil,List.length_replicate]);omega)) | refine x_add ?_ (h:=by first | exact IntWalk.i64_in _ (by ((try simp only [List.length_map,List.length_append,List.length_cons,List.length_nil,List.length_replicate]);omega)) | rfl) | refine x_bin rfl rfl ?_
  refine CZ (k+1) ⟨lt_len hp,trivial⟩ (by (try dsimp only);have:=lt_len hp;omega) rfl (Aq (by first | rfl | (simp only [Tr.get];simp;done)) (Aq (by simp only [Tr.get];first | (rw [rep_snoc];done) | (rw [rep_snoc];rfl)) trivial)) (by first | rfl | (funext u;simp only [hdrop,hset,hpost,hOf];(repeat' split)<;>rfl))
 case' n1=>
  obtain rfl:k=l.length:=by have:=past_end hc1;omega
 all_goals (refine x_ret ?_;simp only [BL,fits,C.asD,and_true]<;>(rfl))
theorem townNil_any (m:Ar):Bc Tryz.prog 31 [.sc (.pointer none),moveD m] [.d (.agg [.sc (.int .i64 1),.sc (.int .i64 0),.sc (.int .i64 0),.row [],.row []])]:=by
 refine T.fn [] Tryz.func31 ?_
 first | refine And.intro ⟨_,Tryz.underlying74⟩ ?_ | refine x_bin rfl rfl ?_
 refine brT ?_
 all_goals (refine x_ret ?_;simp only [BL,fits,C.asD,and_true]<;>(rfl))
theorem consNew_any (t:Nat)(ht:NAM≤t):DK Tryz.prog 16 [] [(t,.free)] [.d (.ptr t 0)] [(t,.obj [.sc (.pointer none)])]:=by
 refine T.fnH [2] Tryz.func16 ?_ (by simp only [List.forall_mem_cons,List.not_mem_nil,false_implies,implies_true,and_true];exact ht) (by simp [thing]) (by simp [thing])
 refine x_newbox t ?_ ⟨ht,(by first | rfl | (simp only [hOf,hset,hpost,if_true,if_false,not_false_eq_true];first | done | rfl))⟩
 all_goals (refine ⟨?_,⟨⟨ht,(by first | rfl | (simp only [hOf,hset,hpost,if_true,if_false,not_false_eq_true];first | done | rfl))⟩,trivial⟩⟩;simp only [BL,fits,C.asD,and_true]<;>(trivial))
theorem doNew_any (t:Nat)(ht:NAM≤t)(s v:ByteArray)(l:List ByteArray)(m:Ar)(hsp:splitB s 0=v::l)(h1:¬v=⟨#[110,101,119]⟩)(h2:¬v=⟨#[107,110,111,119,110]⟩)(hs:s.size≤1000000)(hm:BG s=some (m,0)):DK Tryz.prog 13 [.ptr t 0,.sc (.string (s))] [(t,.obj [.sc (.pointer none)])] [.d (.row [strD E1])] [(t,.obj [.sc (.pointer none)])]:=by
 refine T.fnH [] Tryz.func13 ?_ (by simp only [List.forall_mem_cons,List.not_mem_nil,false_implies,implies_true,and_true];exact ht) (by simp [thing]) (by simp [thing])
 have hspl:=nameSplit_any s hs
 rw [hsp] at hspl
 first | refine And.intro ⟨_,Tryz.underlying32⟩ ?_ | refine x_bin rfl rfl ?_
 refine brF ?_
 refine AY T.en_28 (hspl) ?_
 refine AA ?_
 refine br (fun hg2=>?y2) (fun hg2=>?n2)
 case' y2=>
  first | refine x_ix (by exact head_at) ?_ | refine Ag (by exact head_at) ?_
  refine br (fun hc3=>?y3) (fun hc3=>?n3)
  case' y3=>
   exact absurd hc3 h1
  case' n3=>
   refine AA ?_
   refine br (fun hg4=>?y4) (fun hg4=>?n4)
   case' y4=>
    first | refine x_ix (by exact head_at) ?_ | refine Ag (by exact head_at) ?_
    refine br (fun hc5=>?y5) (fun hc5=>?n5)
    case' y5=>
     exact absurd hc5 h2
    case' n5=>
     refine AY T.en_17 (script_Parse_any s _ hm) ?_
     refine brF ?_
     refine And.intro ⟨T.mixed,by decide +kernel⟩ ?_
     refine BX ht (by first | rfl | (simp only [hOf,hset,hpost,if_true,if_false,not_false_eq_true];first | done | rfl)) ?_
     refine AY T.en_31 (townNil_any _) ?_
     refine brT ?_
     refine AY T.en_27 (failed1_any) ?_
   case' n4=>
    exact absurd hg4 (by first | (simp;done) | (simp;omega))
 case' n2=>
  exact absurd hg2 (by first | (simp;done) | (simp;omega))
 all_goals (refine ⟨?_,⟨⟨ht,(by first | rfl | (simp only [hOf,hset,hpost,if_true,if_false,not_false_eq_true];first | done | rfl))⟩,trivial⟩⟩;simp only [BL,fits,C.asD,and_true]<;>(rfl))
end Go.Vm
end
section
namespace Go.Vm
open Go.Proofs Go.Proofs.YtdfbohaohjaloaaGreatDoor Punnet.Name Punnet.Num
end Go.Vm
end
section
namespace Go.Vm
open Go.RowKit Go.Proofs
set_option maxRecDepth 10000
open Go.Proofs Go.Proofs.YtdfbohaohjaloaaGreatDoor Punnet.Name Punnet.Num
set_option maxHeartbeats 16000000 in
theorem ref34_deeds_any   : Bc Tryz.prog 35 [] [.d (.row (List.map formD (Cm )))]:=by
 generalize h:Cm  = r
 refine T.fn [] Tryz.func35 ?_
 unfold Cm at h
 subst h
 all_goals (refine x_ret ?_;simp only [BL,fits,C.asD,and_true]<;>(first | exact rfl | trivial | exact ⟨rfl,rfl⟩ | exact ⟨rfl,rfl,rfl⟩ | (simp [*];done) | (simp_all;done) | (simp only [schC] at *;simp_all;first | done | rfl)))
set_option maxHeartbeats 16000000 in
theorem ref34_moves_any   : Bc Tryz.prog 37 [] [.d (.row (List.map formD (DF )))]:=by
 generalize h:DF  = r
 refine T.fn [] Tryz.func37 ?_
 unfold DF at h
 subst h
 all_goals (refine x_ret ?_;simp only [BL,fits,C.asD,and_true]<;>(first | exact rfl | trivial | exact ⟨rfl,rfl⟩ | exact ⟨rfl,rfl,rfl⟩ | (simp [*];done) | (simp_all;done) | (simp only [schC] at *;simp_all;first | done | rfl)))
set_option maxHeartbeats 16000000 in
theorem ref34_lenses_any   : Bc Tryz.prog 137 [] [.d (.row (List.map formD (DY )))]:=by
 generalize h:DY  = r
 refine T.fn [] Tryz.func137 ?_
 unfold DY at h
 subst h
 all_goals (refine x_ret ?_;simp only [BL,fits,C.asD,and_true]<;>(first | exact rfl | trivial | exact ⟨rfl,rfl⟩ | exact ⟨rfl,rfl,rfl⟩ | (simp [*];done) | (simp_all;done) | (simp only [schC] at *;simp_all;first | done | rfl)))
set_option maxHeartbeats 16000000 in
theorem ref34_take_any (l:(List ByteArray))(form:ByteArray)  (r:BN×Bool)(h:ref34_take l form=some r):Bc Tryz.prog 38 [.row (List.map strD l),.sc (.string form)] [.d (gotD r.1),.d (.sc (.bool r.2))]:=by
 refine T.fn [2006,2018,2024,2049,2054,2069,2074,2088,2093,2107,2112,2136,2141,2143] Tryz.func38 ?_
 unfold ref34_take at h
 refine x_buildU [(0,600120,1),(1,600121,2),(3,600122,3),(4,600123,1),(2,600124,1)] (T.ok 87 _ rfl) (by simp only [List.forall_mem_cons,List.not_mem_nil,false_implies,implies_true,and_true];exact ⟨⟨rfl,by decide,by decide⟩,⟨rfl,by decide,by decide⟩,⟨rfl,by decide,by decide⟩,⟨rfl,by decide,by decide⟩,⟨rfl,by decide,by decide⟩⟩) (by simp only [List.forall_mem_cons,List.not_mem_nil,false_implies,implies_true,and_true];decide) ?_
 refine x_allocU [] (zI_ok (T.ok 87 _ rfl) rfl) (by simp) (by simp) ?_
 refine AA ?_
 refine AA ?_
 refine br (fun c1=>?c1y) (fun c1=>?c1n)
 case' c1y=>
  replace h:=Ad h c1
  refine CE (tv:=6) (id:=600120) (cs':=[.row (List.map intD []),.rr 600121 2 0,.rr 600124 1 0,.rr 600122 3 0,.rr 600123 1 0]) rfl rfl (by simp [BC]) ?_
  refine CE (tv:=6) (id:=600121) (cs':=[.row (List.map intD []),.row (List.map tD []),.rr 600124 1 0,.rr 600122 3 0,.rr 600123 1 0]) rfl rfl (by simp [BC]) ?_
  refine CE (tv:=6) (id:=600124) (cs':=[.row (List.map intD []),.row (List.map tD []),.row (List.map strD []),.rr 600122 3 0,.rr 600123 1 0]) rfl rfl (by simp [BC]) ?_
  refine CE (tv:=6) (id:=600122) (cs':=[.row (List.map intD []),.row (List.map tD []),.row (List.map strD []),.row (List.map rD []),.rr 600123 1 0]) rfl rfl (by simp [BC]) ?_
  refine x_frzP (tv:=6) (id:=600123) (cs':=[.row (List.map intD []),.row (List.map tD []),.row (List.map strD []),.row (List.map rD []),.row (List.map strD [])]) rfl rfl (by simp [BC]) rfl ?_
  refine x_ldB (u:=6) rfl rfl (shI_ok (T.ok 87 _ rfl)) rfl ?_
  obtain rfl:=Option.some.inj h
 case' c1n=>
  replace h:=Ae h (fun k=>k c1)
  refine Aa h fun o1 H1 h=>?_
  refine xloopR (fb:=[2006,2018,2024,2049,2054,2069,2074,2088,2093,2107,2112,2136,2141,2143]) T.ok (Nat.le_of_ble_eq_true rfl) [0,1] (fun (s:Nat×BN×BN×Int)=>[(4,.box [.row (List.map intD s.2.1.n),.row (List.map tD s.2.1.t),.row (List.map strD s.2.1.s),.row (List.map rD s.2.1.p),.row (List.map strD s.2.1.q)]),(6,.ubox [.rr 600120 1 s.2.2.1.n.length,.rr 600121 2 s.2.2.1.t.length,.rr 600124 1 s.2.2.1.s.length,.rr 600122 3 s.2.2.1.p.length,.rr 600123 1 s.2.2.1.q.length]),(600120,.gbox 1 (List.map intD s.2.2.1.n)),(600121,.gbox 2 (List.map tD s.2.2.1.t)),(600124,.gbox 1 (List.map strD s.2.2.1.s)),(600122,.gbox 3 (List.map rD s.2.2.1.p)),(600123,.gbox 1 (List.map strD s.2.2.1.q)),(7,.c (.d (.sc (.int .i64 s.2.2.2))))]) (fun s=>EE l form s.1 s.2.1 s.2.2.1 s.2.2.2=some o1) (fun s=>s.1) (1000000,(⟨[],[],[],[],[]⟩:BN),(⟨[],[],[],[],[]⟩:BN),0) H1 (Aq rfl (Aq rfl (Aq rfl (Aq rfl (Aq rfl (Aq rfl (Aq rfl (Aq rfl trivial)))))))) ?_
  rintro ⟨nl1,v4l1,v6l1,v7l1⟩ h1
  try dsimp only at h1
  rcases nl1 with _ | nl1
  ·rw [EE] at h1;cases h1
  rw [EE] at h1
  refine AA ?_
  refine br (fun c2=>?c2y) (fun c2=>?c2n)
  case' c2y=>
   replace h1:=Ad h1 c2
   refine Aa h1 fun p33 q1 h1=>idxSG q1 fun q1n q1=>?_
   refine x_chI q1 ?_ q1n
   refine br (fun c3=>?c3y) (fun c3=>?c3n)
   case' c3y=>
    refine brT ?_
    replace h1:=Ad h1 (.inl c3)
    refine Aa h1 fun p62 q2 h1=>Aj q2 fun q2n q2=>?_
    refine Ag (Ai q2) ?_ q2n
    refine grdG h1 fun g1 h1=>?_
    refine AY T.en_25 (ref34Number_any p62 g1) ?_
    refine br (fun c4=>?c4y) (fun c4=>?c4n)
    case' c4y=>
     replace h1:=Ad h1 c4
     refine CE (tv:=6) (id:=600120) (cs':=[.row (List.map intD v6l1.n),.rr 600121 2 v6l1.t.length,.rr 600124 1 v6l1.s.length,.rr 600122 3 v6l1.p.length,.rr 600123 1 v6l1.q.length]) rfl rfl (by simp [BC]) ?_
     refine CE (tv:=6) (id:=600121) (cs':=[.row (List.map intD v6l1.n),.row (List.map tD v6l1.t),.rr 600124 1 v6l1.s.length,.rr 600122 3 v6l1.p.length,.rr 600123 1 v6l1.q.length]) rfl rfl (by simp [BC]) ?_
     refine CE (tv:=6) (id:=600124) (cs':=[.row (List.map intD v6l1.n),.row (List.map tD v6l1.t),.row (List.map strD v6l1.s),.rr 600122 3 v6l1.p.length,.rr 600123 1 v6l1.q.length]) rfl rfl (by simp [BC]) ?_
     refine CE (tv:=6) (id:=600122) (cs':=[.row (List.map intD v6l1.n),.row (List.map tD v6l1.t),.row (List.map strD v6l1.s),.row (List.map rD v6l1.p),.rr 600123 1 v6l1.q.length]) rfl rfl (by simp [BC]) ?_
     refine x_frzP (tv:=6) (id:=600123) (cs':=[.row (List.map intD v6l1.n),.row (List.map tD v6l1.t),.row (List.map strD v6l1.s),.row (List.map rD v6l1.p),.row (List.map strD v6l1.q)]) rfl rfl (by simp [BC]) rfl ?_
     refine x_ldB (u:=6) rfl rfl (shI_ok (T.ok 87 _ rfl)) rfl ?_
     obtain rfl:=Option.some.inj h1
     try dsimp only at h
     obtain rfl:=Option.some.inj h
    case' c4n=>
     replace h1:=Ae h1 (fun k=>k c4)
     refine Aa h1 fun z74 q3 h1=>?_
     refine x_appGL (f:=intD) (id:=600120) q3 (T.ok 83 _ rfl).2.1 (Nat.le_of_ble_eq_true rfl) rfl rfl rfl (wide_map _ fun _=>rfl) ?_
     refine x_addW ?_
     refine CZ ((nl1,v4l1,(⟨z74,v6l1.t,v6l1.s,v6l1.p,v6l1.q⟩:BN),(w64 (v7l1+1)))) h1 (by (try dsimp only);omega) rfl (Aq rfl (Aq rfl (Aq rfl (Aq rfl (Aq rfl (Aq rfl (Aq rfl (Aq rfl trivial)))))))) rfl
   case' c3n=>
    refine br (fun c5=>?c5y) (fun c5=>?c5n)
    case' c5y=>
     replace h1:=Ad h1 (.inr c5)
     refine Aa h1 fun p62 q4 h1=>Aj q4 fun q4n q4=>?_
     refine Ag (Ai q4) ?_ q4n
     refine grdG h1 fun g2 h1=>?_
     refine AY T.en_25 (ref34Number_any p62 g2) ?_
     refine br (fun c6=>?c6y) (fun c6=>?c6n)
     case' c6y=>
      replace h1:=Ad h1 c6
      refine CE (tv:=6) (id:=600120) (cs':=[.row (List.map intD v6l1.n),.rr 600121 2 v6l1.t.length,.rr 600124 1 v6l1.s.length,.rr 600122 3 v6l1.p.length,.rr 600123 1 v6l1.q.length]) rfl rfl (by simp [BC]) ?_
      refine CE (tv:=6) (id:=600121) (cs':=[.row (List.map intD v6l1.n),.row (List.map tD v6l1.t),.rr 600124 1 v6l1.s.length,.rr 600122 3 v6l1.p.length,.rr 600123 1 v6l1.q.length]) rfl rfl (by simp [BC]) ?_
      refine CE (tv:=6) (id:=600124) (cs':=[.row (List.map intD v6l1.n),.row (List.map tD v6l1.t),.row (List.map strD v6l1.s),.rr 600122 3 v6l1.p.length,.rr 600123 1 v6l1.q.length]) rfl rfl (by simp [BC]) ?_
      refine CE (tv:=6) (id:=600122) (cs':=[.row (List.map intD v6l1.n),.row (List.map tD v6l1.t),.row (List.map strD v6l1.s),.row (List.map rD v6l1.p),.rr 600123 1 v6l1.q.length]) rfl rfl (by simp [BC]) ?_
      refine x_frzP (tv:=6) (id:=600123) (cs':=[.row (List.map intD v6l1.n),.row (List.map tD v6l1.t),.row (List.map strD v6l1.s),.row (List.map rD v6l1.p),.row (List.map strD v6l1.q)]) rfl rfl (by simp [BC]) rfl ?_
      refine x_ldB (u:=6) rfl rfl (shI_ok (T.ok 87 _ rfl)) rfl ?_
      obtain rfl:=Option.some.inj h1
      try dsimp only at h
      obtain rfl:=Option.some.inj h
     case' c6n=>
      replace h1:=Ae h1 (fun k=>k c6)
      refine Aa h1 fun z74 q5 h1=>?_
      refine x_appGL (f:=intD) (id:=600120) q5 (T.ok 83 _ rfl).2.1 (Nat.le_of_ble_eq_true rfl) rfl rfl rfl (wide_map _ fun _=>rfl) ?_
      refine x_addW ?_
      refine CZ ((nl1,v4l1,(⟨z74,v6l1.t,v6l1.s,v6l1.p,v6l1.q⟩:BN),(w64 (v7l1+1)))) h1 (by (try dsimp only);omega) rfl (Aq rfl (Aq rfl (Aq rfl (Aq rfl (Aq rfl (Aq rfl (Aq rfl (Aq rfl trivial)))))))) rfl
    case' c5n=>
     replace h1:=Ae h1 (fun k=>k.elim c3 c5)
     refine br (fun c7=>?c7y) (fun c7=>?c7n)
     case' c7y=>
      replace h1:=Ad h1 c7
      refine Aa h1 fun p81 q6 h1=>Aj q6 fun q6n q6=>?_
      refine Ag (Ai q6) ?_ q6n
      refine grdG h1 fun g3 h1=>?_
      refine AY T.en_10 (ref34ReadTag_any p81 g3) ?_
      refine br (fun c8=>?c8y) (fun c8=>?c8n)
      case' c8y=>
       replace h1:=Ad h1 (nf c8)
       refine CE (tv:=6) (id:=600120) (cs':=[.row (List.map intD v6l1.n),.rr 600121 2 v6l1.t.length,.rr 600124 1 v6l1.s.length,.rr 600122 3 v6l1.p.length,.rr 600123 1 v6l1.q.length]) rfl rfl (by simp [BC]) ?_
       refine CE (tv:=6) (id:=600121) (cs':=[.row (List.map intD v6l1.n),.row (List.map tD v6l1.t),.rr 600124 1 v6l1.s.length,.rr 600122 3 v6l1.p.length,.rr 600123 1 v6l1.q.length]) rfl rfl (by simp [BC]) ?_
       refine CE (tv:=6) (id:=600124) (cs':=[.row (List.map intD v6l1.n),.row (List.map tD v6l1.t),.row (List.map strD v6l1.s),.rr 600122 3 v6l1.p.length,.rr 600123 1 v6l1.q.length]) rfl rfl (by simp [BC]) ?_
       refine CE (tv:=6) (id:=600122) (cs':=[.row (List.map intD v6l1.n),.row (List.map tD v6l1.t),.row (List.map strD v6l1.s),.row (List.map rD v6l1.p),.rr 600123 1 v6l1.q.length]) rfl rfl (by simp [BC]) ?_
       refine x_frzP (tv:=6) (id:=600123) (cs':=[.row (List.map intD v6l1.n),.row (List.map tD v6l1.t),.row (List.map strD v6l1.s),.row (List.map rD v6l1.p),.row (List.map strD v6l1.q)]) rfl rfl (by simp [BC]) rfl ?_
       refine x_ldB (u:=6) rfl rfl (shI_ok (T.ok 87 _ rfl)) rfl ?_
       obtain rfl:=Option.some.inj h1
       try dsimp only at h
       obtain rfl:=Option.some.inj h
      case' c8n=>
       replace h1:=Ae h1 (fun k=>k c8)
       refine Aa h1 fun z93 q7 h1=>?_
       refine x_appGL (f:=tD) (id:=600121) q7 (T.ok 84 _ rfl).2.1 (Nat.le_of_ble_eq_true rfl) rfl rfl rfl (wide_map _ fun _=>rfl) ?_
       refine x_addW ?_
       refine CZ ((nl1,v4l1,(⟨v6l1.n,z93,v6l1.s,v6l1.p,v6l1.q⟩:BN),(w64 (v7l1+1)))) h1 (by (try dsimp only);omega) rfl (Aq rfl (Aq rfl (Aq rfl (Aq rfl (Aq rfl (Aq rfl (Aq rfl (Aq rfl trivial)))))))) rfl
     case' c7n=>
      replace h1:=Ae h1 c7
      refine br (fun c9=>?c9y) (fun c9=>?c9n)
      case' c9y=>
       replace h1:=Ad h1 c9
       refine Aa h1 fun p100 q8 h1=>Aj q8 fun q8n q8=>?_
       refine Ag (Ai q8) ?_ q8n
       refine grdG h1 fun g4 h1=>?_
       refine AY T.en_78 (ref13Read_any p100 g4) ?_
       refine br (fun c10=>?c10y) (fun c10=>?c10n)
       case' c10y=>
        replace h1:=Ad h1 (nf c10)
        refine CE (tv:=6) (id:=600120) (cs':=[.row (List.map intD v6l1.n),.rr 600121 2 v6l1.t.length,.rr 600124 1 v6l1.s.length,.rr 600122 3 v6l1.p.length,.rr 600123 1 v6l1.q.length]) rfl rfl (by simp [BC]) ?_
        refine CE (tv:=6) (id:=600121) (cs':=[.row (List.map intD v6l1.n),.row (List.map tD v6l1.t),.rr 600124 1 v6l1.s.length,.rr 600122 3 v6l1.p.length,.rr 600123 1 v6l1.q.length]) rfl rfl (by simp [BC]) ?_
        refine CE (tv:=6) (id:=600124) (cs':=[.row (List.map intD v6l1.n),.row (List.map tD v6l1.t),.row (List.map strD v6l1.s),.rr 600122 3 v6l1.p.length,.rr 600123 1 v6l1.q.length]) rfl rfl (by simp [BC]) ?_
        refine CE (tv:=6) (id:=600122) (cs':=[.row (List.map intD v6l1.n),.row (List.map tD v6l1.t),.row (List.map strD v6l1.s),.row (List.map rD v6l1.p),.rr 600123 1 v6l1.q.length]) rfl rfl (by simp [BC]) ?_
        refine x_frzP (tv:=6) (id:=600123) (cs':=[.row (List.map intD v6l1.n),.row (List.map tD v6l1.t),.row (List.map strD v6l1.s),.row (List.map rD v6l1.p),.row (List.map strD v6l1.q)]) rfl rfl (by simp [BC]) rfl ?_
        refine x_ldB (u:=6) rfl rfl (shI_ok (T.ok 87 _ rfl)) rfl ?_
        obtain rfl:=Option.some.inj h1
        try dsimp only at h
        obtain rfl:=Option.some.inj h
       case' c10n=>
        replace h1:=Ae h1 (fun k=>k c10)
        refine Aa h1 fun z112 q9 h1=>?_
        refine x_appGL (f:=rD) (id:=600122) q9 (T.ok 85 _ rfl).2.1 (Nat.le_of_ble_eq_true rfl) rfl rfl rfl (wide_map _ fun _=>rfl) ?_
        refine x_addW ?_
        refine CZ ((nl1,v4l1,(⟨v6l1.n,v6l1.t,v6l1.s,z112,v6l1.q⟩:BN),(w64 (v7l1+1)))) h1 (by (try dsimp only);omega) rfl (Aq rfl (Aq rfl (Aq rfl (Aq rfl (Aq rfl (Aq rfl (Aq rfl (Aq rfl trivial)))))))) rfl
      case' c9n=>
       replace h1:=Ae h1 c9
       refine br (fun c11=>?c11y) (fun c11=>?c11n)
       case' c11y=>
        replace h1:=Ad h1 c11
        refine Aa h1 fun p119 q10 h1=>Aj q10 fun q10n q10=>?_
        refine Ag (Ai q10) ?_ q10n
        refine grdG h1 fun g5 h1=>?_
        refine AY T.en_79 (refScan_c p119 g5) ?_
        refine br (fun c12=>?c12y) (fun c12=>?c12n)
        case' c12y=>
         replace h1:=Ad h1 c12
         refine brT ?_
         refine CE (tv:=6) (id:=600120) (cs':=[.row (List.map intD v6l1.n),.rr 600121 2 v6l1.t.length,.rr 600124 1 v6l1.s.length,.rr 600122 3 v6l1.p.length,.rr 600123 1 v6l1.q.length]) rfl rfl (by simp [BC]) ?_
         refine CE (tv:=6) (id:=600121) (cs':=[.row (List.map intD v6l1.n),.row (List.map tD v6l1.t),.rr 600124 1 v6l1.s.length,.rr 600122 3 v6l1.p.length,.rr 600123 1 v6l1.q.length]) rfl rfl (by simp [BC]) ?_
         refine CE (tv:=6) (id:=600124) (cs':=[.row (List.map intD v6l1.n),.row (List.map tD v6l1.t),.row (List.map strD v6l1.s),.rr 600122 3 v6l1.p.length,.rr 600123 1 v6l1.q.length]) rfl rfl (by simp [BC]) ?_
         refine CE (tv:=6) (id:=600122) (cs':=[.row (List.map intD v6l1.n),.row (List.map tD v6l1.t),.row (List.map strD v6l1.s),.row (List.map rD v6l1.p),.rr 600123 1 v6l1.q.length]) rfl rfl (by simp [BC]) ?_
         refine x_frzP (tv:=6) (id:=600123) (cs':=[.row (List.map intD v6l1.n),.row (List.map tD v6l1.t),.row (List.map strD v6l1.s),.row (List.map rD v6l1.p),.row (List.map strD v6l1.q)]) rfl rfl (by simp [BC]) rfl ?_
         refine x_ldB (u:=6) rfl rfl (shI_ok (T.ok 87 _ rfl)) rfl ?_
         obtain rfl:=Option.some.inj h1
         try dsimp only at h
         obtain rfl:=Option.some.inj h
        case' c12n=>
         replace h1:=Ae h1 (fun k=>k c12)
         refine Aa h1 fun p131 q11 h1=>Aj q11 fun q11n q11=>?_
         refine Ag (Ai q11) ?_ q11n
         refine AA ?_
         refine br (fun c13=>?c13y) (fun c13=>?c13n)
         case' c13y=>
          replace h1:=Ad h1 c13
          refine CE (tv:=6) (id:=600120) (cs':=[.row (List.map intD v6l1.n),.rr 600121 2 v6l1.t.length,.rr 600124 1 v6l1.s.length,.rr 600122 3 v6l1.p.length,.rr 600123 1 v6l1.q.length]) rfl rfl (by simp [BC]) ?_
          refine CE (tv:=6) (id:=600121) (cs':=[.row (List.map intD v6l1.n),.row (List.map tD v6l1.t),.rr 600124 1 v6l1.s.length,.rr 600122 3 v6l1.p.length,.rr 600123 1 v6l1.q.length]) rfl rfl (by simp [BC]) ?_
          refine CE (tv:=6) (id:=600124) (cs':=[.row (List.map intD v6l1.n),.row (List.map tD v6l1.t),.row (List.map strD v6l1.s),.rr 600122 3 v6l1.p.length,.rr 600123 1 v6l1.q.length]) rfl rfl (by simp [BC]) ?_
          refine CE (tv:=6) (id:=600122) (cs':=[.row (List.map intD v6l1.n),.row (List.map tD v6l1.t),.row (List.map strD v6l1.s),.row (List.map rD v6l1.p),.rr 600123 1 v6l1.q.length]) rfl rfl (by simp [BC]) ?_
          refine x_frzP (tv:=6) (id:=600123) (cs':=[.row (List.map intD v6l1.n),.row (List.map tD v6l1.t),.row (List.map strD v6l1.s),.row (List.map rD v6l1.p),.row (List.map strD v6l1.q)]) rfl rfl (by simp [BC]) rfl ?_
          refine x_ldB (u:=6) rfl rfl (shI_ok (T.ok 87 _ rfl)) rfl ?_
          obtain rfl:=Option.some.inj h1
          try dsimp only at h
          obtain rfl:=Option.some.inj h
         case' c13n=>
          replace h1:=Ae h1 (fun k=>k c13)
          refine Aa h1 fun z141 q12 h1=>?_
          refine x_appGL (f:=strD) (id:=600123) q12 (T.ok 34 _ rfl).2.1 (Nat.le_of_ble_eq_true rfl) rfl rfl rfl (wide_map _ fun _=>rfl) ?_
          refine x_addW ?_
          refine CZ ((nl1,v4l1,(⟨v6l1.n,v6l1.t,v6l1.s,v6l1.p,z141⟩:BN),(w64 (v7l1+1)))) h1 (by (try dsimp only);omega) rfl (Aq rfl (Aq rfl (Aq rfl (Aq rfl (Aq rfl (Aq rfl (Aq rfl (Aq rfl trivial)))))))) rfl
       case' c11n=>
        replace h1:=Ae h1 c11
        refine Aa h1 fun p36 q13 h1=>Aj q13 fun q13n q13=>?_
        refine Ag (Ai q13) ?_ q13n
        refine Aa h1 fun p40 q14 h1=>idxSG q14 fun q14n q14=>?_
        refine x_chI q14 ?_ q14n
        refine br (fun c14=>?c14y) (fun c14=>?c14n)
        case' c14y=>
         refine br (fun c15=>?c15y) (fun c15=>?c15n)
         case' c15y=>
          replace h1:=Ad h1 ⟨c14,c15⟩
          refine Aa h1 fun z54 q15 h1=>?_
          refine x_appGL (f:=strD) (id:=600124) q15 (T.ok 34 _ rfl).2.1 (Nat.le_of_ble_eq_true rfl) rfl rfl rfl (wide_map _ fun _=>rfl) ?_
          refine x_addW ?_
          refine CZ ((nl1,v4l1,(⟨v6l1.n,v6l1.t,z54,v6l1.p,v6l1.q⟩:BN),(w64 (v7l1+1)))) h1 (by (try dsimp only);omega) rfl (Aq rfl (Aq rfl (Aq rfl (Aq rfl (Aq rfl (Aq rfl (Aq rfl (Aq rfl trivial)))))))) rfl
         case' c15n=>
          replace h1:=Ae h1 (fun k=>absurd k.2 c15)
          refine AY T.en_80 (refName_any p36) ?_
          refine br (fun c16=>?c16y) (fun c16=>?c16n)
          case' c16y=>
           replace h1:=Ad h1 (nf c16)
           refine CE (tv:=6) (id:=600120) (cs':=[.row (List.map intD v6l1.n),.rr 600121 2 v6l1.t.length,.rr 600124 1 v6l1.s.length,.rr 600122 3 v6l1.p.length,.rr 600123 1 v6l1.q.length]) rfl rfl (by simp [BC]) ?_
           refine CE (tv:=6) (id:=600121) (cs':=[.row (List.map intD v6l1.n),.row (List.map tD v6l1.t),.rr 600124 1 v6l1.s.length,.rr 600122 3 v6l1.p.length,.rr 600123 1 v6l1.q.length]) rfl rfl (by simp [BC]) ?_
           refine CE (tv:=6) (id:=600124) (cs':=[.row (List.map intD v6l1.n),.row (List.map tD v6l1.t),.row (List.map strD v6l1.s),.rr 600122 3 v6l1.p.length,.rr 600123 1 v6l1.q.length]) rfl rfl (by simp [BC]) ?_
           refine CE (tv:=6) (id:=600122) (cs':=[.row (List.map intD v6l1.n),.row (List.map tD v6l1.t),.row (List.map strD v6l1.s),.row (List.map rD v6l1.p),.rr 600123 1 v6l1.q.length]) rfl rfl (by simp [BC]) ?_
           refine x_frzP (tv:=6) (id:=600123) (cs':=[.row (List.map intD v6l1.n),.row (List.map tD v6l1.t),.row (List.map strD v6l1.s),.row (List.map rD v6l1.p),.row (List.map strD v6l1.q)]) rfl rfl (by simp [BC]) rfl ?_
           refine x_ldB (u:=6) rfl rfl (shI_ok (T.ok 87 _ rfl)) rfl ?_
           obtain rfl:=Option.some.inj h1
           try dsimp only at h
           obtain rfl:=Option.some.inj h
          case' c16n=>
           replace h1:=Ae h1 (fun k=>k c16)
           refine Aa h1 fun z54 q16 h1=>?_
           refine x_appGL (f:=strD) (id:=600124) q16 (T.ok 34 _ rfl).2.1 (Nat.le_of_ble_eq_true rfl) rfl rfl rfl (wide_map _ fun _=>rfl) ?_
           refine x_addW ?_
           refine CZ ((nl1,v4l1,(⟨v6l1.n,v6l1.t,z54,v6l1.p,v6l1.q⟩:BN),(w64 (v7l1+1)))) h1 (by (try dsimp only);omega) rfl (Aq rfl (Aq rfl (Aq rfl (Aq rfl (Aq rfl (Aq rfl (Aq rfl (Aq rfl trivial)))))))) rfl
        case' c14n=>
         refine brF ?_
         replace h1:=Ae h1 (fun k=>absurd k.1 c14)
         refine AY T.en_80 (refName_any p36) ?_
         refine br (fun c17=>?c17y) (fun c17=>?c17n)
         case' c17y=>
          replace h1:=Ad h1 (nf c17)
          refine CE (tv:=6) (id:=600120) (cs':=[.row (List.map intD v6l1.n),.rr 600121 2 v6l1.t.length,.rr 600124 1 v6l1.s.length,.rr 600122 3 v6l1.p.length,.rr 600123 1 v6l1.q.length]) rfl rfl (by simp [BC]) ?_
          refine CE (tv:=6) (id:=600121) (cs':=[.row (List.map intD v6l1.n),.row (List.map tD v6l1.t),.rr 600124 1 v6l1.s.length,.rr 600122 3 v6l1.p.length,.rr 600123 1 v6l1.q.length]) rfl rfl (by simp [BC]) ?_
          refine CE (tv:=6) (id:=600124) (cs':=[.row (List.map intD v6l1.n),.row (List.map tD v6l1.t),.row (List.map strD v6l1.s),.rr 600122 3 v6l1.p.length,.rr 600123 1 v6l1.q.length]) rfl rfl (by simp [BC]) ?_
          refine CE (tv:=6) (id:=600122) (cs':=[.row (List.map intD v6l1.n),.row (List.map tD v6l1.t),.row (List.map strD v6l1.s),.row (List.map rD v6l1.p),.rr 600123 1 v6l1.q.length]) rfl rfl (by simp [BC]) ?_
          refine x_frzP (tv:=6) (id:=600123) (cs':=[.row (List.map intD v6l1.n),.row (List.map tD v6l1.t),.row (List.map strD v6l1.s),.row (List.map rD v6l1.p),.row (List.map strD v6l1.q)]) rfl rfl (by simp [BC]) rfl ?_
          refine x_ldB (u:=6) rfl rfl (shI_ok (T.ok 87 _ rfl)) rfl ?_
          obtain rfl:=Option.some.inj h1
          try dsimp only at h
          obtain rfl:=Option.some.inj h
         case' c17n=>
          replace h1:=Ae h1 (fun k=>k c17)
          refine Aa h1 fun z54 q17 h1=>?_
          refine x_appGL (f:=strD) (id:=600124) q17 (T.ok 34 _ rfl).2.1 (Nat.le_of_ble_eq_true rfl) rfl rfl rfl (wide_map _ fun _=>rfl) ?_
          refine x_addW ?_
          refine CZ ((nl1,v4l1,(⟨v6l1.n,v6l1.t,z54,v6l1.p,v6l1.q⟩:BN),(w64 (v7l1+1)))) h1 (by (try dsimp only);omega) rfl (Aq rfl (Aq rfl (Aq rfl (Aq rfl (Aq rfl (Aq rfl (Aq rfl (Aq rfl trivial)))))))) rfl
  case' c2n=>
   replace h1:=Ae h1 c2
   obtain rfl:=Option.some.inj h1
   try dsimp only at h
   refine CE (tv:=6) (id:=600120) (cs':=[.row (List.map intD v6l1.n),.rr 600121 2 v6l1.t.length,.rr 600124 1 v6l1.s.length,.rr 600122 3 v6l1.p.length,.rr 600123 1 v6l1.q.length]) rfl rfl (by simp [BC]) ?_
   refine CE (tv:=6) (id:=600121) (cs':=[.row (List.map intD v6l1.n),.row (List.map tD v6l1.t),.rr 600124 1 v6l1.s.length,.rr 600122 3 v6l1.p.length,.rr 600123 1 v6l1.q.length]) rfl rfl (by simp [BC]) ?_
   refine CE (tv:=6) (id:=600124) (cs':=[.row (List.map intD v6l1.n),.row (List.map tD v6l1.t),.row (List.map strD v6l1.s),.rr 600122 3 v6l1.p.length,.rr 600123 1 v6l1.q.length]) rfl rfl (by simp [BC]) ?_
   refine CE (tv:=6) (id:=600122) (cs':=[.row (List.map intD v6l1.n),.row (List.map tD v6l1.t),.row (List.map strD v6l1.s),.row (List.map rD v6l1.p),.rr 600123 1 v6l1.q.length]) rfl rfl (by simp [BC]) ?_
   refine x_frzP (tv:=6) (id:=600123) (cs':=[.row (List.map intD v6l1.n),.row (List.map tD v6l1.t),.row (List.map strD v6l1.s),.row (List.map rD v6l1.p),.row (List.map strD v6l1.q)]) rfl rfl (by simp [BC]) rfl ?_
   refine x_ldB (u:=6) rfl rfl (shI_ok (T.ok 87 _ rfl)) rfl ?_
   obtain rfl:=Option.some.inj h
 all_goals (refine x_ret ?_;simp only [BL,fits,C.asD,and_true]<;>(first | exact rfl | trivial | exact ⟨rfl,rfl⟩ | exact ⟨rfl,rfl,rfl⟩ | (simp [*];done) | (simp_all;done) | (simp only [schC] at *;simp_all;first | done | rfl)))
set_option maxHeartbeats 16000000 in
theorem ref34_find_any (l:(List Bd))(verb:ByteArray)  (r:Int)(h:BQ l verb=some r):Bc Tryz.prog 34 [.row (List.map formD l),.sc (.string verb)] [.d (.sc (.int .i64 r))]:=by
 refine T.fn [] Tryz.func34 ?_
 unfold BQ at h
 refine grdG h fun g1 h=>?_
 refine Aa h fun o1 H1 h=>?_
 refine xloopR (fb:=[]) T.ok (Nat.le_of_ble_eq_true rfl) [0,1] (fun (s:Nat)=>[(5,.c (.d (.sc (.int .i64 ((s:Nat):Int)))))]) (fun s=>s≤l.length∧ref34_find_l1 verb (List.drop s l) s=some o1) (fun s=>l.length-s) 0 ⟨Nat.zero_le _,H1⟩ (Aq rfl trivial) ?_
 rintro kl1 ⟨b1,h1⟩
 try dsimp only at b1 h1
 refine AA ?_
 refine br (fun c1=>?c1y) (fun c1=>?c1n)
 case' c1y=>
  refine elemG (l:=l) c1 fun xl1 X1=>?_
  rw [drop_cons X1,ref34_find_l1] at h1
  refine x_ix (Ai X1) ?_
  refine br (fun c2=>?c2y) (fun c2=>?c2n)
  case' c2y=>
   refine br (fun c3=>?c3y) (fun c3=>?c3n)
   case' c3y=>
    replace h1:=Ad h1 ⟨c2,c3⟩
    obtain rfl:=Option.some.inj h1
    try dsimp only at h
    obtain rfl:=Option.some.inj h
   case' c3n=>
    replace h1:=Ae h1 (fun k=>absurd k.2 (fun k=>k c3))
    refine x_inc ?_ (lt_inc g1 c1)
    refine CZ (kl1+1) ⟨flt_len X1,h1⟩ (by have:=flt_len X1;(try dsimp only);omega) rfl (Aq rfl trivial) rfl
  case' c2n=>
   refine brF ?_
   replace h1:=Ae h1 (fun k=>absurd k.1 c2)
   refine x_inc ?_ (lt_inc g1 c1)
   refine CZ (kl1+1) ⟨flt_len X1,h1⟩ (by have:=flt_len X1;(try dsimp only);omega) rfl (Aq rfl trivial) rfl
 case' c1n=>
  rw [drop_end (l:=l) c1,ref34_find_l1] at h1
  obtain rfl:=Option.some.inj h1
  try dsimp only at h
  obtain rfl:=Option.some.inj h
 all_goals (refine x_ret ?_;simp only [BL,fits,C.asD,and_true]<;>(first | exact rfl | trivial | exact ⟨rfl,rfl⟩ | exact ⟨rfl,rfl,rfl⟩ | (simp [*];done) | (simp_all;done) | (simp only [schC] at *;simp_all;first | done | rfl)))
set_option maxHeartbeats 16000000 in
theorem ref34_lens_any (l:(List ByteArray))  (r:AP×Bool)(h:D5 l=some r):Bc Tryz.prog 77 [.row (List.map strD l)] [.d (lD r.1),.d (.sc (.bool r.2))]:=by
 refine T.fn [] Tryz.func77 ?_
 unfold D5 at h
 refine AA ?_
 refine br (fun c1=>?c1y) (fun c1=>?c1n)
 case' c1y=>
  replace h:=Ad h c1
  obtain rfl:=Option.some.inj h
 case' c1n=>
  replace h:=Ae h c1
  refine And.intro ⟨T.mixed,by decide +kernel⟩ ?_
  refine AY T.en_137 (ref34_lenses_any ) ?_
  refine Aa h fun p15 q1 h=>Aj q1 fun q1n q1=>?_
  refine Ag (Ai q1) ?_ q1n
  refine Aa h fun r17 q2 h=>?_
  refine AY T.en_34 (ref34_find_any (DY) p15 r17 q2) ?_
  refine br (fun c2=>?c2y) (fun c2=>?c2n)
  case' c2y=>
   replace h:=Ad h c2
   obtain rfl:=Option.some.inj h
  case' c2n=>
   replace h:=Ae h c2
   refine And.intro ⟨T.mixed,by decide +kernel⟩ ?_
   refine Aa h fun y23 q3 h=>subLG q3 fun q3a q3b q3c q3=>?_
   refine DI ?_ q3a
   refine x_subL ?_ (wide_map _ fun _=>rfl) q3a q3b q3c q3
   refine AY T.en_137 (ref34_lenses_any ) ?_
   refine Aa h fun p26 q4 h=>Aj q4 fun q4n q4=>?_
   refine Ag (Ai q4) ?_ q4n
   refine Aa h fun r29 q5 h=>?_
   refine AY T.en_38 (ref34_take_any y23 p26.words r29 q5) ?_
   refine br (fun c3=>?c3y) (fun c3=>?c3n)
   case' c3y=>
    replace h:=Ad h (nf c3)
    obtain rfl:=Option.some.inj h
   case' c3n=>
    replace h:=Ae h (fun k=>k c3)
    refine br (fun c4=>?c4y) (fun c4=>?c4n)
    case' c4y=>
     replace h:=Ad h c4
     refine Aa h fun p39 q6 h=>Aj q6 fun q6n q6=>?_
     refine Ag (Ai q6) ?_ q6n
     refine x_subW ?_
     refine br (fun c5=>?c5y) (fun c5=>?c5n)
     case' c5y=>
      replace h:=Ad h c5
      refine Aa h fun p48 q7 h=>Aj q7 fun q7n q7=>?_
      refine Ag (Ai q7) ?_ q7n
      refine br (fun c6=>?c6y) (fun c6=>?c6n)
      case' c6y=>
       replace h:=Ad h c6
       refine Aa h fun p55 q8 h=>Aj q8 fun q8n q8=>?_
       refine Ag (Ai q8) ?_ q8n
       obtain rfl:=Option.some.inj h
      case' c6n=>
       replace h:=Ae h c6
       obtain rfl:=Option.some.inj h
     case' c5n=>
      replace h:=Ae h c5
      refine br (fun c7=>?c7y) (fun c7=>?c7n)
      case' c7y=>
       replace h:=Ad h c7
       refine Aa h fun p55 q9 h=>Aj q9 fun q9n q9=>?_
       refine Ag (Ai q9) ?_ q9n
       obtain rfl:=Option.some.inj h
      case' c7n=>
       replace h:=Ae h c7
       obtain rfl:=Option.some.inj h
    case' c4n=>
     replace h:=Ae h c4
     refine Aa h fun p63 q10 h=>Aj q10 fun q10n q10=>?_
     refine Ag (Ai q10) ?_ q10n
     refine AA ?_
     refine br (fun c8=>?c8y) (fun c8=>?c8n)
     case' c8y=>
      replace h:=Ad h c8
      refine Aa h fun p72 q11 h=>Aj q11 fun q11n q11=>?_
      refine Ag (Ai q11) ?_ q11n
      unfold EK at h
      refine br (fun c9=>?c9y) (fun c9=>?c9n)
      case' c9y=>
       replace h:=Ad h c9
       refine Aa h fun p79 q12 h=>Aj q12 fun q12n q12=>?_
       refine Ag (Ai q12) ?_ q12n
       refine Aa h fun p84 q13 h=>Aj q13 fun q13n q13=>?_
       refine Ag (Ai q13) ?_ q13n
       refine br (fun c10=>?c10y) (fun c10=>?c10n)
       case' c10y=>
        replace h:=Ad h c10
        refine Aa h fun p91 q14 h=>Aj q14 fun q14n q14=>?_
        refine Ag (Ai q14) ?_ q14n
        obtain rfl:=Option.some.inj h
       case' c10n=>
        replace h:=Ae h c10
        obtain rfl:=Option.some.inj h
      case' c9n=>
       replace h:=Ae h c9
       refine br (fun c11=>?c11y) (fun c11=>?c11n)
       case' c11y=>
        replace h:=Ad h c11
        refine Aa h fun p91 q15 h=>Aj q15 fun q15n q15=>?_
        refine Ag (Ai q15) ?_ q15n
        obtain rfl:=Option.some.inj h
       case' c11n=>
        replace h:=Ae h c11
        obtain rfl:=Option.some.inj h
     case' c8n=>
      replace h:=Ae h c8
      unfold EK at h
      refine br (fun c12=>?c12y) (fun c12=>?c12n)
      case' c12y=>
       replace h:=Ad h c12
       refine Aa h fun p79 q16 h=>Aj q16 fun q16n q16=>?_
       refine Ag (Ai q16) ?_ q16n
       refine Aa h fun p84 q17 h=>Aj q17 fun q17n q17=>?_
       refine Ag (Ai q17) ?_ q17n
       refine br (fun c13=>?c13y) (fun c13=>?c13n)
       case' c13y=>
        replace h:=Ad h c13
        refine Aa h fun p91 q18 h=>Aj q18 fun q18n q18=>?_
        refine Ag (Ai q18) ?_ q18n
        obtain rfl:=Option.some.inj h
       case' c13n=>
        replace h:=Ae h c13
        obtain rfl:=Option.some.inj h
      case' c12n=>
       replace h:=Ae h c12
       refine br (fun c14=>?c14y) (fun c14=>?c14n)
       case' c14y=>
        replace h:=Ad h c14
        refine Aa h fun p91 q19 h=>Aj q19 fun q19n q19=>?_
        refine Ag (Ai q19) ?_ q19n
        obtain rfl:=Option.some.inj h
       case' c14n=>
        replace h:=Ae h c14
        obtain rfl:=Option.some.inj h
 all_goals (refine x_ret ?_;simp only [BL,fits,C.asD,and_true]<;>(first | exact rfl | trivial | exact ⟨rfl,rfl⟩ | exact ⟨rfl,rfl,rfl⟩ | (simp [*];done) | (simp_all;done) | (simp only [schC] at *;simp_all;first | done | rfl)))
set_option maxHeartbeats 16000000 in
theorem ref34_deed_any (k:Int)(l:(List ByteArray))  (r:Ar×Bool)(h:Eo k l=some r):Bc Tryz.prog 36 [.sc (.int .i64 k),.row (List.map strD l)] [.d (moveD r.1),.d (.sc (.bool r.2))]:=by
 refine T.fn [] Tryz.func36 ?_
 unfold Eo at h
 refine br (fun c1=>?c1y) (fun c1=>?c1n)
 case' c1y=>
  replace h:=Ad h c1
  refine AA ?_
  refine br (fun c2=>?c2y) (fun c2=>?c2n)
  case' c2y=>
   replace h:=Ad h c2
   obtain rfl:=Option.some.inj h
  case' c2n=>
   replace h:=Ae h c2
   refine Aa h fun y22 q1 h=>subLG q1 fun q1a q1b q1c q1=>?_
   refine DI ?_ q1a
   refine x_subL ?_ (wide_map _ fun _=>rfl) q1a q1b q1c q1
   refine Aa h fun r23 q2 h=>?_
   refine AY T.en_77 (ref34_lens_any y22 r23 q2) ?_
   refine br (fun c3=>?c3y) (fun c3=>?c3n)
   case' c3y=>
    replace h:=Ad h (nf c3)
    obtain rfl:=Option.some.inj h
   case' c3n=>
    replace h:=Ae h (fun k=>k c3)
    refine Aa h fun y33 q3 h=>subLG q3 fun q3a q3b q3c q3=>?_
    refine DI ?_ (Int.le_trans q3a q3b)
    refine x_subH ?_ (wide_map _ fun _=>rfl) q3a q3b q3c q3
    unfold Es at h
    refine AY T.en_35 (ref34_deeds_any ) ?_
    refine Aa h fun p38 q4 h=>Aj q4 fun q4n q4=>?_
    refine Ag (Ai q4) ?_ q4n
    refine Aa h fun r41 q5 h=>?_
    refine AY T.en_38 (ref34_take_any y33 p38.words r41 q5) ?_
    refine br (fun c4=>?c4y) (fun c4=>?c4n)
    case' c4y=>
     replace h:=Ad h (nf c4)
     obtain rfl:=Option.some.inj h
    case' c4n=>
     replace h:=Ae h (fun k=>k c4)
     refine Aa h fun p49 q6 h=>Aj q6 fun q6n q6=>?_
     refine Ag (Ai q6) ?_ q6n
     refine AA ?_
     refine br (fun c5=>?c5y) (fun c5=>?c5n)
     case' c5y=>
      replace h:=Ad h c5
      refine Aa h fun p58 q7 h=>Aj q7 fun q7n q7=>?_
      refine Ag (Ai q7) ?_ q7n
      unfold Ej at h
      refine AA ?_
      refine br (fun c6=>?c6y) (fun c6=>?c6n)
      case' c6y=>
       replace h:=Ad h c6
       refine Aa h fun p68 q8 h=>Aj q8 fun q8n q8=>?_
       refine Ag (Ai q8) ?_ q8n
       unfold D9 at h
       refine AA ?_
       refine br (fun c7=>?c7y) (fun c7=>?c7n)
       case' c7y=>
        replace h:=Ad h c7
        refine Aa h fun p78 q9 h=>Aj q9 fun q9n q9=>?_
        refine Ag (Ai q9) ?_ q9n
        unfold Dn at h
        refine AA ?_
        refine br (fun c8=>?c8y) (fun c8=>?c8n)
        case' c8y=>
         replace h:=Ad h c8
         refine Aa h fun p88 q10 h=>Aj q10 fun q10n q10=>?_
         refine Ag (Ai q10) ?_ q10n
         unfold BZ at h
         refine AA ?_
         refine br (fun c9=>?c9y) (fun c9=>?c9n)
         case' c9y=>
          replace h:=Ad h c9
          refine Aa h fun p98 q11 h=>Aj q11 fun q11n q11=>?_
          refine Ag (Ai q11) ?_ q11n
          refine br (fun c10=>?c10y) (fun c10=>?c10n)
          case' c10y=>
           replace h:=Ad h c10
           refine Aa h fun p106 q12 h=>Aj q12 fun q12n q12=>?_
           refine Ag (Ai q12) ?_ q12n
           obtain rfl:=Option.some.inj h
          case' c10n=>
           replace h:=Ae h c10
           obtain rfl:=Option.some.inj h
         case' c9n=>
          replace h:=Ae h c9
          refine br (fun c11=>?c11y) (fun c11=>?c11n)
          case' c11y=>
           replace h:=Ad h c11
           refine Aa h fun p106 q13 h=>Aj q13 fun q13n q13=>?_
           refine Ag (Ai q13) ?_ q13n
           obtain rfl:=Option.some.inj h
          case' c11n=>
           replace h:=Ae h c11
           obtain rfl:=Option.some.inj h
        case' c8n=>
         replace h:=Ae h c8
         unfold BZ at h
         refine AA ?_
         refine br (fun c12=>?c12y) (fun c12=>?c12n)
         case' c12y=>
          replace h:=Ad h c12
          refine Aa h fun p98 q14 h=>Aj q14 fun q14n q14=>?_
          refine Ag (Ai q14) ?_ q14n
          refine br (fun c13=>?c13y) (fun c13=>?c13n)
          case' c13y=>
           replace h:=Ad h c13
           refine Aa h fun p106 q15 h=>Aj q15 fun q15n q15=>?_
           refine Ag (Ai q15) ?_ q15n
           obtain rfl:=Option.some.inj h
          case' c13n=>
           replace h:=Ae h c13
           obtain rfl:=Option.some.inj h
         case' c12n=>
          replace h:=Ae h c12
          refine br (fun c14=>?c14y) (fun c14=>?c14n)
          case' c14y=>
           replace h:=Ad h c14
           refine Aa h fun p106 q16 h=>Aj q16 fun q16n q16=>?_
           refine Ag (Ai q16) ?_ q16n
           obtain rfl:=Option.some.inj h
          case' c14n=>
           replace h:=Ae h c14
           obtain rfl:=Option.some.inj h
       case' c7n=>
        replace h:=Ae h c7
        unfold Dn at h
        refine AA ?_
        refine br (fun c15=>?c15y) (fun c15=>?c15n)
        case' c15y=>
         replace h:=Ad h c15
         refine Aa h fun p88 q17 h=>Aj q17 fun q17n q17=>?_
         refine Ag (Ai q17) ?_ q17n
         unfold BZ at h
         refine AA ?_
         refine br (fun c16=>?c16y) (fun c16=>?c16n)
         case' c16y=>
          replace h:=Ad h c16
          refine Aa h fun p98 q18 h=>Aj q18 fun q18n q18=>?_
          refine Ag (Ai q18) ?_ q18n
          refine br (fun c17=>?c17y) (fun c17=>?c17n)
          case' c17y=>
           replace h:=Ad h c17
           refine Aa h fun p106 q19 h=>Aj q19 fun q19n q19=>?_
           refine Ag (Ai q19) ?_ q19n
           obtain rfl:=Option.some.inj h
          case' c17n=>
           replace h:=Ae h c17
           obtain rfl:=Option.some.inj h
         case' c16n=>
          replace h:=Ae h c16
          refine br (fun c18=>?c18y) (fun c18=>?c18n)
          case' c18y=>
           replace h:=Ad h c18
           refine Aa h fun p106 q20 h=>Aj q20 fun q20n q20=>?_
           refine Ag (Ai q20) ?_ q20n
           obtain rfl:=Option.some.inj h
          case' c18n=>
           replace h:=Ae h c18
           obtain rfl:=Option.some.inj h
        case' c15n=>
         replace h:=Ae h c15
         unfold BZ at h
         refine AA ?_
         refine br (fun c19=>?c19y) (fun c19=>?c19n)
         case' c19y=>
          replace h:=Ad h c19
          refine Aa h fun p98 q21 h=>Aj q21 fun q21n q21=>?_
          refine Ag (Ai q21) ?_ q21n
          refine br (fun c20=>?c20y) (fun c20=>?c20n)
          case' c20y=>
           replace h:=Ad h c20
           refine Aa h fun p106 q22 h=>Aj q22 fun q22n q22=>?_
           refine Ag (Ai q22) ?_ q22n
           obtain rfl:=Option.some.inj h
          case' c20n=>
           replace h:=Ae h c20
           obtain rfl:=Option.some.inj h
         case' c19n=>
          replace h:=Ae h c19
          refine br (fun c21=>?c21y) (fun c21=>?c21n)
          case' c21y=>
           replace h:=Ad h c21
           refine Aa h fun p106 q23 h=>Aj q23 fun q23n q23=>?_
           refine Ag (Ai q23) ?_ q23n
           obtain rfl:=Option.some.inj h
          case' c21n=>
           replace h:=Ae h c21
           obtain rfl:=Option.some.inj h
      case' c6n=>
       replace h:=Ae h c6
       unfold D9 at h
       refine AA ?_
       refine br (fun c22=>?c22y) (fun c22=>?c22n)
       case' c22y=>
        replace h:=Ad h c22
        refine Aa h fun p78 q24 h=>Aj q24 fun q24n q24=>?_
        refine Ag (Ai q24) ?_ q24n
        unfold Dn at h
        refine AA ?_
        refine br (fun c23=>?c23y) (fun c23=>?c23n)
        case' c23y=>
         replace h:=Ad h c23
         refine Aa h fun p88 q25 h=>Aj q25 fun q25n q25=>?_
         refine Ag (Ai q25) ?_ q25n
         unfold BZ at h
         refine AA ?_
         refine br (fun c24=>?c24y) (fun c24=>?c24n)
         case' c24y=>
          replace h:=Ad h c24
          refine Aa h fun p98 q26 h=>Aj q26 fun q26n q26=>?_
          refine Ag (Ai q26) ?_ q26n
          refine br (fun c25=>?c25y) (fun c25=>?c25n)
          case' c25y=>
           replace h:=Ad h c25
           refine Aa h fun p106 q27 h=>Aj q27 fun q27n q27=>?_
           refine Ag (Ai q27) ?_ q27n
           obtain rfl:=Option.some.inj h
          case' c25n=>
           replace h:=Ae h c25
           obtain rfl:=Option.some.inj h
         case' c24n=>
          replace h:=Ae h c24
          refine br (fun c26=>?c26y) (fun c26=>?c26n)
          case' c26y=>
           replace h:=Ad h c26
           refine Aa h fun p106 q28 h=>Aj q28 fun q28n q28=>?_
           refine Ag (Ai q28) ?_ q28n
           obtain rfl:=Option.some.inj h
          case' c26n=>
           replace h:=Ae h c26
           obtain rfl:=Option.some.inj h
        case' c23n=>
         replace h:=Ae h c23
         unfold BZ at h
         refine AA ?_
         refine br (fun c27=>?c27y) (fun c27=>?c27n)
         case' c27y=>
          replace h:=Ad h c27
          refine Aa h fun p98 q29 h=>Aj q29 fun q29n q29=>?_
          refine Ag (Ai q29) ?_ q29n
          refine br (fun c28=>?c28y) (fun c28=>?c28n)
          case' c28y=>
           replace h:=Ad h c28
           refine Aa h fun p106 q30 h=>Aj q30 fun q30n q30=>?_
           refine Ag (Ai q30) ?_ q30n
           obtain rfl:=Option.some.inj h
          case' c28n=>
           replace h:=Ae h c28
           obtain rfl:=Option.some.inj h
         case' c27n=>
          replace h:=Ae h c27
          refine br (fun c29=>?c29y) (fun c29=>?c29n)
          case' c29y=>
           replace h:=Ad h c29
           refine Aa h fun p106 q31 h=>Aj q31 fun q31n q31=>?_
           refine Ag (Ai q31) ?_ q31n
           obtain rfl:=Option.some.inj h
          case' c29n=>
           replace h:=Ae h c29
           obtain rfl:=Option.some.inj h
       case' c22n=>
        replace h:=Ae h c22
        unfold Dn at h
        refine AA ?_
        refine br (fun c30=>?c30y) (fun c30=>?c30n)
        case' c30y=>
         replace h:=Ad h c30
         refine Aa h fun p88 q32 h=>Aj q32 fun q32n q32=>?_
         refine Ag (Ai q32) ?_ q32n
         unfold BZ at h
         refine AA ?_
         refine br (fun c31=>?c31y) (fun c31=>?c31n)
         case' c31y=>
          replace h:=Ad h c31
          refine Aa h fun p98 q33 h=>Aj q33 fun q33n q33=>?_
          refine Ag (Ai q33) ?_ q33n
          refine br (fun c32=>?c32y) (fun c32=>?c32n)
          case' c32y=>
           replace h:=Ad h c32
           refine Aa h fun p106 q34 h=>Aj q34 fun q34n q34=>?_
           refine Ag (Ai q34) ?_ q34n
           obtain rfl:=Option.some.inj h
          case' c32n=>
           replace h:=Ae h c32
           obtain rfl:=Option.some.inj h
         case' c31n=>
          replace h:=Ae h c31
          refine br (fun c33=>?c33y) (fun c33=>?c33n)
          case' c33y=>
           replace h:=Ad h c33
           refine Aa h fun p106 q35 h=>Aj q35 fun q35n q35=>?_
           refine Ag (Ai q35) ?_ q35n
           obtain rfl:=Option.some.inj h
          case' c33n=>
           replace h:=Ae h c33
           obtain rfl:=Option.some.inj h
        case' c30n=>
         replace h:=Ae h c30
         unfold BZ at h
         refine AA ?_
         refine br (fun c34=>?c34y) (fun c34=>?c34n)
         case' c34y=>
          replace h:=Ad h c34
          refine Aa h fun p98 q36 h=>Aj q36 fun q36n q36=>?_
          refine Ag (Ai q36) ?_ q36n
          refine br (fun c35=>?c35y) (fun c35=>?c35n)
          case' c35y=>
           replace h:=Ad h c35
           refine Aa h fun p106 q37 h=>Aj q37 fun q37n q37=>?_
           refine Ag (Ai q37) ?_ q37n
           obtain rfl:=Option.some.inj h
          case' c35n=>
           replace h:=Ae h c35
           obtain rfl:=Option.some.inj h
         case' c34n=>
          replace h:=Ae h c34
          refine br (fun c36=>?c36y) (fun c36=>?c36n)
          case' c36y=>
           replace h:=Ad h c36
           refine Aa h fun p106 q38 h=>Aj q38 fun q38n q38=>?_
           refine Ag (Ai q38) ?_ q38n
           obtain rfl:=Option.some.inj h
          case' c36n=>
           replace h:=Ae h c36
           obtain rfl:=Option.some.inj h
     case' c5n=>
      replace h:=Ae h c5
      unfold Ej at h
      refine AA ?_
      refine br (fun c37=>?c37y) (fun c37=>?c37n)
      case' c37y=>
       replace h:=Ad h c37
       refine Aa h fun p68 q39 h=>Aj q39 fun q39n q39=>?_
       refine Ag (Ai q39) ?_ q39n
       unfold D9 at h
       refine AA ?_
       refine br (fun c38=>?c38y) (fun c38=>?c38n)
       case' c38y=>
        replace h:=Ad h c38
        refine Aa h fun p78 q40 h=>Aj q40 fun q40n q40=>?_
        refine Ag (Ai q40) ?_ q40n
        unfold Dn at h
        refine AA ?_
        refine br (fun c39=>?c39y) (fun c39=>?c39n)
        case' c39y=>
         replace h:=Ad h c39
         refine Aa h fun p88 q41 h=>Aj q41 fun q41n q41=>?_
         refine Ag (Ai q41) ?_ q41n
         unfold BZ at h
         refine AA ?_
         refine br (fun c40=>?c40y) (fun c40=>?c40n)
         case' c40y=>
          replace h:=Ad h c40
          refine Aa h fun p98 q42 h=>Aj q42 fun q42n q42=>?_
          refine Ag (Ai q42) ?_ q42n
          refine br (fun c41=>?c41y) (fun c41=>?c41n)
          case' c41y=>
           replace h:=Ad h c41
           refine Aa h fun p106 q43 h=>Aj q43 fun q43n q43=>?_
           refine Ag (Ai q43) ?_ q43n
           obtain rfl:=Option.some.inj h
          case' c41n=>
           replace h:=Ae h c41
           obtain rfl:=Option.some.inj h
         case' c40n=>
          replace h:=Ae h c40
          refine br (fun c42=>?c42y) (fun c42=>?c42n)
          case' c42y=>
           replace h:=Ad h c42
           refine Aa h fun p106 q44 h=>Aj q44 fun q44n q44=>?_
           refine Ag (Ai q44) ?_ q44n
           obtain rfl:=Option.some.inj h
          case' c42n=>
           replace h:=Ae h c42
           obtain rfl:=Option.some.inj h
        case' c39n=>
         replace h:=Ae h c39
         unfold BZ at h
         refine AA ?_
         refine br (fun c43=>?c43y) (fun c43=>?c43n)
         case' c43y=>
          replace h:=Ad h c43
          refine Aa h fun p98 q45 h=>Aj q45 fun q45n q45=>?_
          refine Ag (Ai q45) ?_ q45n
          refine br (fun c44=>?c44y) (fun c44=>?c44n)
          case' c44y=>
           replace h:=Ad h c44
           refine Aa h fun p106 q46 h=>Aj q46 fun q46n q46=>?_
           refine Ag (Ai q46) ?_ q46n
           obtain rfl:=Option.some.inj h
          case' c44n=>
           replace h:=Ae h c44
           obtain rfl:=Option.some.inj h
         case' c43n=>
          replace h:=Ae h c43
          refine br (fun c45=>?c45y) (fun c45=>?c45n)
          case' c45y=>
           replace h:=Ad h c45
           refine Aa h fun p106 q47 h=>Aj q47 fun q47n q47=>?_
           refine Ag (Ai q47) ?_ q47n
           obtain rfl:=Option.some.inj h
          case' c45n=>
           replace h:=Ae h c45
           obtain rfl:=Option.some.inj h
       case' c38n=>
        replace h:=Ae h c38
        unfold Dn at h
        refine AA ?_
        refine br (fun c46=>?c46y) (fun c46=>?c46n)
        case' c46y=>
         replace h:=Ad h c46
         refine Aa h fun p88 q48 h=>Aj q48 fun q48n q48=>?_
         refine Ag (Ai q48) ?_ q48n
         unfold BZ at h
         refine AA ?_
         refine br (fun c47=>?c47y) (fun c47=>?c47n)
         case' c47y=>
          replace h:=Ad h c47
          refine Aa h fun p98 q49 h=>Aj q49 fun q49n q49=>?_
          refine Ag (Ai q49) ?_ q49n
          refine br (fun c48=>?c48y) (fun c48=>?c48n)
          case' c48y=>
           replace h:=Ad h c48
           refine Aa h fun p106 q50 h=>Aj q50 fun q50n q50=>?_
           refine Ag (Ai q50) ?_ q50n
           obtain rfl:=Option.some.inj h
          case' c48n=>
           replace h:=Ae h c48
           obtain rfl:=Option.some.inj h
         case' c47n=>
          replace h:=Ae h c47
          refine br (fun c49=>?c49y) (fun c49=>?c49n)
          case' c49y=>
           replace h:=Ad h c49
           refine Aa h fun p106 q51 h=>Aj q51 fun q51n q51=>?_
           refine Ag (Ai q51) ?_ q51n
           obtain rfl:=Option.some.inj h
          case' c49n=>
           replace h:=Ae h c49
           obtain rfl:=Option.some.inj h
        case' c46n=>
         replace h:=Ae h c46
         unfold BZ at h
         refine AA ?_
         refine br (fun c50=>?c50y) (fun c50=>?c50n)
         case' c50y=>
          replace h:=Ad h c50
          refine Aa h fun p98 q52 h=>Aj q52 fun q52n q52=>?_
          refine Ag (Ai q52) ?_ q52n
          refine br (fun c51=>?c51y) (fun c51=>?c51n)
          case' c51y=>
           replace h:=Ad h c51
           refine Aa h fun p106 q53 h=>Aj q53 fun q53n q53=>?_
           refine Ag (Ai q53) ?_ q53n
           obtain rfl:=Option.some.inj h
          case' c51n=>
           replace h:=Ae h c51
           obtain rfl:=Option.some.inj h
         case' c50n=>
          replace h:=Ae h c50
          refine br (fun c52=>?c52y) (fun c52=>?c52n)
          case' c52y=>
           replace h:=Ad h c52
           refine Aa h fun p106 q54 h=>Aj q54 fun q54n q54=>?_
           refine Ag (Ai q54) ?_ q54n
           obtain rfl:=Option.some.inj h
          case' c52n=>
           replace h:=Ae h c52
           obtain rfl:=Option.some.inj h
      case' c37n=>
       replace h:=Ae h c37
       unfold D9 at h
       refine AA ?_
       refine br (fun c53=>?c53y) (fun c53=>?c53n)
       case' c53y=>
        replace h:=Ad h c53
        refine Aa h fun p78 q55 h=>Aj q55 fun q55n q55=>?_
        refine Ag (Ai q55) ?_ q55n
        unfold Dn at h
        refine AA ?_
        refine br (fun c54=>?c54y) (fun c54=>?c54n)
        case' c54y=>
         replace h:=Ad h c54
         refine Aa h fun p88 q56 h=>Aj q56 fun q56n q56=>?_
         refine Ag (Ai q56) ?_ q56n
         unfold BZ at h
         refine AA ?_
         refine br (fun c55=>?c55y) (fun c55=>?c55n)
         case' c55y=>
          replace h:=Ad h c55
          refine Aa h fun p98 q57 h=>Aj q57 fun q57n q57=>?_
          refine Ag (Ai q57) ?_ q57n
          refine br (fun c56=>?c56y) (fun c56=>?c56n)
          case' c56y=>
           replace h:=Ad h c56
           refine Aa h fun p106 q58 h=>Aj q58 fun q58n q58=>?_
           refine Ag (Ai q58) ?_ q58n
           obtain rfl:=Option.some.inj h
          case' c56n=>
           replace h:=Ae h c56
           obtain rfl:=Option.some.inj h
         case' c55n=>
          replace h:=Ae h c55
          refine br (fun c57=>?c57y) (fun c57=>?c57n)
          case' c57y=>
           replace h:=Ad h c57
           refine Aa h fun p106 q59 h=>Aj q59 fun q59n q59=>?_
           refine Ag (Ai q59) ?_ q59n
           obtain rfl:=Option.some.inj h
          case' c57n=>
           replace h:=Ae h c57
           obtain rfl:=Option.some.inj h
        case' c54n=>
         replace h:=Ae h c54
         unfold BZ at h
         refine AA ?_
         refine br (fun c58=>?c58y) (fun c58=>?c58n)
         case' c58y=>
          replace h:=Ad h c58
          refine Aa h fun p98 q60 h=>Aj q60 fun q60n q60=>?_
          refine Ag (Ai q60) ?_ q60n
          refine br (fun c59=>?c59y) (fun c59=>?c59n)
          case' c59y=>
           replace h:=Ad h c59
           refine Aa h fun p106 q61 h=>Aj q61 fun q61n q61=>?_
           refine Ag (Ai q61) ?_ q61n
           obtain rfl:=Option.some.inj h
          case' c59n=>
           replace h:=Ae h c59
           obtain rfl:=Option.some.inj h
         case' c58n=>
          replace h:=Ae h c58
          refine br (fun c60=>?c60y) (fun c60=>?c60n)
          case' c60y=>
           replace h:=Ad h c60
           refine Aa h fun p106 q62 h=>Aj q62 fun q62n q62=>?_
           refine Ag (Ai q62) ?_ q62n
           obtain rfl:=Option.some.inj h
          case' c60n=>
           replace h:=Ae h c60
           obtain rfl:=Option.some.inj h
       case' c53n=>
        replace h:=Ae h c53
        unfold Dn at h
        refine AA ?_
        refine br (fun c61=>?c61y) (fun c61=>?c61n)
        case' c61y=>
         replace h:=Ad h c61
         refine Aa h fun p88 q63 h=>Aj q63 fun q63n q63=>?_
         refine Ag (Ai q63) ?_ q63n
         unfold BZ at h
         refine AA ?_
         refine br (fun c62=>?c62y) (fun c62=>?c62n)
         case' c62y=>
          replace h:=Ad h c62
          refine Aa h fun p98 q64 h=>Aj q64 fun q64n q64=>?_
          refine Ag (Ai q64) ?_ q64n
          refine br (fun c63=>?c63y) (fun c63=>?c63n)
          case' c63y=>
           replace h:=Ad h c63
           refine Aa h fun p106 q65 h=>Aj q65 fun q65n q65=>?_
           refine Ag (Ai q65) ?_ q65n
           obtain rfl:=Option.some.inj h
          case' c63n=>
           replace h:=Ae h c63
           obtain rfl:=Option.some.inj h
         case' c62n=>
          replace h:=Ae h c62
          refine br (fun c64=>?c64y) (fun c64=>?c64n)
          case' c64y=>
           replace h:=Ad h c64
           refine Aa h fun p106 q66 h=>Aj q66 fun q66n q66=>?_
           refine Ag (Ai q66) ?_ q66n
           obtain rfl:=Option.some.inj h
          case' c64n=>
           replace h:=Ae h c64
           obtain rfl:=Option.some.inj h
        case' c61n=>
         replace h:=Ae h c61
         unfold BZ at h
         refine AA ?_
         refine br (fun c65=>?c65y) (fun c65=>?c65n)
         case' c65y=>
          replace h:=Ad h c65
          refine Aa h fun p98 q67 h=>Aj q67 fun q67n q67=>?_
          refine Ag (Ai q67) ?_ q67n
          refine br (fun c66=>?c66y) (fun c66=>?c66n)
          case' c66y=>
           replace h:=Ad h c66
           refine Aa h fun p106 q68 h=>Aj q68 fun q68n q68=>?_
           refine Ag (Ai q68) ?_ q68n
           obtain rfl:=Option.some.inj h
          case' c66n=>
           replace h:=Ae h c66
           obtain rfl:=Option.some.inj h
         case' c65n=>
          replace h:=Ae h c65
          refine br (fun c67=>?c67y) (fun c67=>?c67n)
          case' c67y=>
           replace h:=Ad h c67
           refine Aa h fun p106 q69 h=>Aj q69 fun q69n q69=>?_
           refine Ag (Ai q69) ?_ q69n
           obtain rfl:=Option.some.inj h
          case' c67n=>
           replace h:=Ae h c67
           obtain rfl:=Option.some.inj h
 case' c1n=>
  replace h:=Ae h c1
  unfold Es at h
  refine AY T.en_35 (ref34_deeds_any ) ?_
  refine Aa h fun p38 q70 h=>Aj q70 fun q70n q70=>?_
  refine Ag (Ai q70) ?_ q70n
  refine Aa h fun r41 q71 h=>?_
  refine AY T.en_38 (ref34_take_any l p38.words r41 q71) ?_
  refine br (fun c68=>?c68y) (fun c68=>?c68n)
  case' c68y=>
   replace h:=Ad h (nf c68)
   obtain rfl:=Option.some.inj h
  case' c68n=>
   replace h:=Ae h (fun k=>k c68)
   refine Aa h fun p49 q72 h=>Aj q72 fun q72n q72=>?_
   refine Ag (Ai q72) ?_ q72n
   refine AA ?_
   refine br (fun c69=>?c69y) (fun c69=>?c69n)
   case' c69y=>
    replace h:=Ad h c69
    refine Aa h fun p58 q73 h=>Aj q73 fun q73n q73=>?_
    refine Ag (Ai q73) ?_ q73n
    unfold Ej at h
    refine AA ?_
    refine br (fun c70=>?c70y) (fun c70=>?c70n)
    case' c70y=>
     replace h:=Ad h c70
     refine Aa h fun p68 q74 h=>Aj q74 fun q74n q74=>?_
     refine Ag (Ai q74) ?_ q74n
     unfold D9 at h
     refine AA ?_
     refine br (fun c71=>?c71y) (fun c71=>?c71n)
     case' c71y=>
      replace h:=Ad h c71
      refine Aa h fun p78 q75 h=>Aj q75 fun q75n q75=>?_
      refine Ag (Ai q75) ?_ q75n
      unfold Dn at h
      refine AA ?_
      refine br (fun c72=>?c72y) (fun c72=>?c72n)
      case' c72y=>
       replace h:=Ad h c72
       refine Aa h fun p88 q76 h=>Aj q76 fun q76n q76=>?_
       refine Ag (Ai q76) ?_ q76n
       unfold BZ at h
       refine AA ?_
       refine br (fun c73=>?c73y) (fun c73=>?c73n)
       case' c73y=>
        replace h:=Ad h c73
        refine Aa h fun p98 q77 h=>Aj q77 fun q77n q77=>?_
        refine Ag (Ai q77) ?_ q77n
        refine br (fun c74=>?c74y) (fun c74=>?c74n)
        case' c74y=>
         replace h:=Ad h c74
         refine Aa h fun p106 q78 h=>Aj q78 fun q78n q78=>?_
         refine Ag (Ai q78) ?_ q78n
         obtain rfl:=Option.some.inj h
        case' c74n=>
         replace h:=Ae h c74
         obtain rfl:=Option.some.inj h
       case' c73n=>
        replace h:=Ae h c73
        refine br (fun c75=>?c75y) (fun c75=>?c75n)
        case' c75y=>
         replace h:=Ad h c75
         refine Aa h fun p106 q79 h=>Aj q79 fun q79n q79=>?_
         refine Ag (Ai q79) ?_ q79n
         obtain rfl:=Option.some.inj h
        case' c75n=>
         replace h:=Ae h c75
         obtain rfl:=Option.some.inj h
      case' c72n=>
       replace h:=Ae h c72
       unfold BZ at h
       refine AA ?_
       refine br (fun c76=>?c76y) (fun c76=>?c76n)
       case' c76y=>
        replace h:=Ad h c76
        refine Aa h fun p98 q80 h=>Aj q80 fun q80n q80=>?_
        refine Ag (Ai q80) ?_ q80n
        refine br (fun c77=>?c77y) (fun c77=>?c77n)
        case' c77y=>
         replace h:=Ad h c77
         refine Aa h fun p106 q81 h=>Aj q81 fun q81n q81=>?_
         refine Ag (Ai q81) ?_ q81n
         obtain rfl:=Option.some.inj h
        case' c77n=>
         replace h:=Ae h c77
         obtain rfl:=Option.some.inj h
       case' c76n=>
        replace h:=Ae h c76
        refine br (fun c78=>?c78y) (fun c78=>?c78n)
        case' c78y=>
         replace h:=Ad h c78
         refine Aa h fun p106 q82 h=>Aj q82 fun q82n q82=>?_
         refine Ag (Ai q82) ?_ q82n
         obtain rfl:=Option.some.inj h
        case' c78n=>
         replace h:=Ae h c78
         obtain rfl:=Option.some.inj h
     case' c71n=>
      replace h:=Ae h c71
      unfold Dn at h
      refine AA ?_
      refine br (fun c79=>?c79y) (fun c79=>?c79n)
      case' c79y=>
       replace h:=Ad h c79
       refine Aa h fun p88 q83 h=>Aj q83 fun q83n q83=>?_
       refine Ag (Ai q83) ?_ q83n
       unfold BZ at h
       refine AA ?_
       refine br (fun c80=>?c80y) (fun c80=>?c80n)
       case' c80y=>
        replace h:=Ad h c80
        refine Aa h fun p98 q84 h=>Aj q84 fun q84n q84=>?_
        refine Ag (Ai q84) ?_ q84n
        refine br (fun c81=>?c81y) (fun c81=>?c81n)
        case' c81y=>
         replace h:=Ad h c81
         refine Aa h fun p106 q85 h=>Aj q85 fun q85n q85=>?_
         refine Ag (Ai q85) ?_ q85n
         obtain rfl:=Option.some.inj h
        case' c81n=>
         replace h:=Ae h c81
         obtain rfl:=Option.some.inj h
       case' c80n=>
        replace h:=Ae h c80
        refine br (fun c82=>?c82y) (fun c82=>?c82n)
        case' c82y=>
         replace h:=Ad h c82
         refine Aa h fun p106 q86 h=>Aj q86 fun q86n q86=>?_
         refine Ag (Ai q86) ?_ q86n
         obtain rfl:=Option.some.inj h
        case' c82n=>
         replace h:=Ae h c82
         obtain rfl:=Option.some.inj h
      case' c79n=>
       replace h:=Ae h c79
       unfold BZ at h
       refine AA ?_
       refine br (fun c83=>?c83y) (fun c83=>?c83n)
       case' c83y=>
        replace h:=Ad h c83
        refine Aa h fun p98 q87 h=>Aj q87 fun q87n q87=>?_
        refine Ag (Ai q87) ?_ q87n
        refine br (fun c84=>?c84y) (fun c84=>?c84n)
        case' c84y=>
         replace h:=Ad h c84
         refine Aa h fun p106 q88 h=>Aj q88 fun q88n q88=>?_
         refine Ag (Ai q88) ?_ q88n
         obtain rfl:=Option.some.inj h
        case' c84n=>
         replace h:=Ae h c84
         obtain rfl:=Option.some.inj h
       case' c83n=>
        replace h:=Ae h c83
        refine br (fun c85=>?c85y) (fun c85=>?c85n)
        case' c85y=>
         replace h:=Ad h c85
         refine Aa h fun p106 q89 h=>Aj q89 fun q89n q89=>?_
         refine Ag (Ai q89) ?_ q89n
         obtain rfl:=Option.some.inj h
        case' c85n=>
         replace h:=Ae h c85
         obtain rfl:=Option.some.inj h
    case' c70n=>
     replace h:=Ae h c70
     unfold D9 at h
     refine AA ?_
     refine br (fun c86=>?c86y) (fun c86=>?c86n)
     case' c86y=>
      replace h:=Ad h c86
      refine Aa h fun p78 q90 h=>Aj q90 fun q90n q90=>?_
      refine Ag (Ai q90) ?_ q90n
      unfold Dn at h
      refine AA ?_
      refine br (fun c87=>?c87y) (fun c87=>?c87n)
      case' c87y=>
       replace h:=Ad h c87
       refine Aa h fun p88 q91 h=>Aj q91 fun q91n q91=>?_
       refine Ag (Ai q91) ?_ q91n
       unfold BZ at h
       refine AA ?_
       refine br (fun c88=>?c88y) (fun c88=>?c88n)
       case' c88y=>
        replace h:=Ad h c88
        refine Aa h fun p98 q92 h=>Aj q92 fun q92n q92=>?_
        refine Ag (Ai q92) ?_ q92n
        refine br (fun c89=>?c89y) (fun c89=>?c89n)
        case' c89y=>
         replace h:=Ad h c89
         refine Aa h fun p106 q93 h=>Aj q93 fun q93n q93=>?_
         refine Ag (Ai q93) ?_ q93n
         obtain rfl:=Option.some.inj h
        case' c89n=>
         replace h:=Ae h c89
         obtain rfl:=Option.some.inj h
       case' c88n=>
        replace h:=Ae h c88
        refine br (fun c90=>?c90y) (fun c90=>?c90n)
        case' c90y=>
         replace h:=Ad h c90
         refine Aa h fun p106 q94 h=>Aj q94 fun q94n q94=>?_
         refine Ag (Ai q94) ?_ q94n
         obtain rfl:=Option.some.inj h
        case' c90n=>
         replace h:=Ae h c90
         obtain rfl:=Option.some.inj h
      case' c87n=>
       replace h:=Ae h c87
       unfold BZ at h
       refine AA ?_
       refine br (fun c91=>?c91y) (fun c91=>?c91n)
       case' c91y=>
        replace h:=Ad h c91
        refine Aa h fun p98 q95 h=>Aj q95 fun q95n q95=>?_
        refine Ag (Ai q95) ?_ q95n
        refine br (fun c92=>?c92y) (fun c92=>?c92n)
        case' c92y=>
         replace h:=Ad h c92
         refine Aa h fun p106 q96 h=>Aj q96 fun q96n q96=>?_
         refine Ag (Ai q96) ?_ q96n
         obtain rfl:=Option.some.inj h
        case' c92n=>
         replace h:=Ae h c92
         obtain rfl:=Option.some.inj h
       case' c91n=>
        replace h:=Ae h c91
        refine br (fun c93=>?c93y) (fun c93=>?c93n)
        case' c93y=>
         replace h:=Ad h c93
         refine Aa h fun p106 q97 h=>Aj q97 fun q97n q97=>?_
         refine Ag (Ai q97) ?_ q97n
         obtain rfl:=Option.some.inj h
        case' c93n=>
         replace h:=Ae h c93
         obtain rfl:=Option.some.inj h
     case' c86n=>
      replace h:=Ae h c86
      unfold Dn at h
      refine AA ?_
      refine br (fun c94=>?c94y) (fun c94=>?c94n)
      case' c94y=>
       replace h:=Ad h c94
       refine Aa h fun p88 q98 h=>Aj q98 fun q98n q98=>?_
       refine Ag (Ai q98) ?_ q98n
       unfold BZ at h
       refine AA ?_
       refine br (fun c95=>?c95y) (fun c95=>?c95n)
       case' c95y=>
        replace h:=Ad h c95
        refine Aa h fun p98 q99 h=>Aj q99 fun q99n q99=>?_
        refine Ag (Ai q99) ?_ q99n
        refine br (fun c96=>?c96y) (fun c96=>?c96n)
        case' c96y=>
         replace h:=Ad h c96
         refine Aa h fun p106 q100 h=>Aj q100 fun q100n q100=>?_
         refine Ag (Ai q100) ?_ q100n
         obtain rfl:=Option.some.inj h
        case' c96n=>
         replace h:=Ae h c96
         obtain rfl:=Option.some.inj h
       case' c95n=>
        replace h:=Ae h c95
        refine br (fun c97=>?c97y) (fun c97=>?c97n)
        case' c97y=>
         replace h:=Ad h c97
         refine Aa h fun p106 q101 h=>Aj q101 fun q101n q101=>?_
         refine Ag (Ai q101) ?_ q101n
         obtain rfl:=Option.some.inj h
        case' c97n=>
         replace h:=Ae h c97
         obtain rfl:=Option.some.inj h
      case' c94n=>
       replace h:=Ae h c94
       unfold BZ at h
       refine AA ?_
       refine br (fun c98=>?c98y) (fun c98=>?c98n)
       case' c98y=>
        replace h:=Ad h c98
        refine Aa h fun p98 q102 h=>Aj q102 fun q102n q102=>?_
        refine Ag (Ai q102) ?_ q102n
        refine br (fun c99=>?c99y) (fun c99=>?c99n)
        case' c99y=>
         replace h:=Ad h c99
         refine Aa h fun p106 q103 h=>Aj q103 fun q103n q103=>?_
         refine Ag (Ai q103) ?_ q103n
         obtain rfl:=Option.some.inj h
        case' c99n=>
         replace h:=Ae h c99
         obtain rfl:=Option.some.inj h
       case' c98n=>
        replace h:=Ae h c98
        refine br (fun c100=>?c100y) (fun c100=>?c100n)
        case' c100y=>
         replace h:=Ad h c100
         refine Aa h fun p106 q104 h=>Aj q104 fun q104n q104=>?_
         refine Ag (Ai q104) ?_ q104n
         obtain rfl:=Option.some.inj h
        case' c100n=>
         replace h:=Ae h c100
         obtain rfl:=Option.some.inj h
   case' c69n=>
    replace h:=Ae h c69
    unfold Ej at h
    refine AA ?_
    refine br (fun c101=>?c101y) (fun c101=>?c101n)
    case' c101y=>
     replace h:=Ad h c101
     refine Aa h fun p68 q105 h=>Aj q105 fun q105n q105=>?_
     refine Ag (Ai q105) ?_ q105n
     unfold D9 at h
     refine AA ?_
     refine br (fun c102=>?c102y) (fun c102=>?c102n)
     case' c102y=>
      replace h:=Ad h c102
      refine Aa h fun p78 q106 h=>Aj q106 fun q106n q106=>?_
      refine Ag (Ai q106) ?_ q106n
      unfold Dn at h
      refine AA ?_
      refine br (fun c103=>?c103y) (fun c103=>?c103n)
      case' c103y=>
       replace h:=Ad h c103
       refine Aa h fun p88 q107 h=>Aj q107 fun q107n q107=>?_
       refine Ag (Ai q107) ?_ q107n
       unfold BZ at h
       refine AA ?_
       refine br (fun c104=>?c104y) (fun c104=>?c104n)
       case' c104y=>
        replace h:=Ad h c104
        refine Aa h fun p98 q108 h=>Aj q108 fun q108n q108=>?_
        refine Ag (Ai q108) ?_ q108n
        refine br (fun c105=>?c105y) (fun c105=>?c105n)
        case' c105y=>
         replace h:=Ad h c105
         refine Aa h fun p106 q109 h=>Aj q109 fun q109n q109=>?_
         refine Ag (Ai q109) ?_ q109n
         obtain rfl:=Option.some.inj h
        case' c105n=>
         replace h:=Ae h c105
         obtain rfl:=Option.some.inj h
       case' c104n=>
        replace h:=Ae h c104
        refine br (fun c106=>?c106y) (fun c106=>?c106n)
        case' c106y=>
         replace h:=Ad h c106
         refine Aa h fun p106 q110 h=>Aj q110 fun q110n q110=>?_
         refine Ag (Ai q110) ?_ q110n
         obtain rfl:=Option.some.inj h
        case' c106n=>
         replace h:=Ae h c106
         obtain rfl:=Option.some.inj h
      case' c103n=>
       replace h:=Ae h c103
       unfold BZ at h
       refine AA ?_
       refine br (fun c107=>?c107y) (fun c107=>?c107n)
       case' c107y=>
        replace h:=Ad h c107
        refine Aa h fun p98 q111 h=>Aj q111 fun q111n q111=>?_
        refine Ag (Ai q111) ?_ q111n
        refine br (fun c108=>?c108y) (fun c108=>?c108n)
        case' c108y=>
         replace h:=Ad h c108
         refine Aa h fun p106 q112 h=>Aj q112 fun q112n q112=>?_
         refine Ag (Ai q112) ?_ q112n
         obtain rfl:=Option.some.inj h
        case' c108n=>
         replace h:=Ae h c108
         obtain rfl:=Option.some.inj h
       case' c107n=>
        replace h:=Ae h c107
        refine br (fun c109=>?c109y) (fun c109=>?c109n)
        case' c109y=>
         replace h:=Ad h c109
         refine Aa h fun p106 q113 h=>Aj q113 fun q113n q113=>?_
         refine Ag (Ai q113) ?_ q113n
         obtain rfl:=Option.some.inj h
        case' c109n=>
         replace h:=Ae h c109
         obtain rfl:=Option.some.inj h
     case' c102n=>
      replace h:=Ae h c102
      unfold Dn at h
      refine AA ?_
      refine br (fun c110=>?c110y) (fun c110=>?c110n)
      case' c110y=>
       replace h:=Ad h c110
       refine Aa h fun p88 q114 h=>Aj q114 fun q114n q114=>?_
       refine Ag (Ai q114) ?_ q114n
       unfold BZ at h
       refine AA ?_
       refine br (fun c111=>?c111y) (fun c111=>?c111n)
       case' c111y=>
        replace h:=Ad h c111
        refine Aa h fun p98 q115 h=>Aj q115 fun q115n q115=>?_
        refine Ag (Ai q115) ?_ q115n
        refine br (fun c112=>?c112y) (fun c112=>?c112n)
        case' c112y=>
         replace h:=Ad h c112
         refine Aa h fun p106 q116 h=>Aj q116 fun q116n q116=>?_
         refine Ag (Ai q116) ?_ q116n
         obtain rfl:=Option.some.inj h
        case' c112n=>
         replace h:=Ae h c112
         obtain rfl:=Option.some.inj h
       case' c111n=>
        replace h:=Ae h c111
        refine br (fun c113=>?c113y) (fun c113=>?c113n)
        case' c113y=>
         replace h:=Ad h c113
         refine Aa h fun p106 q117 h=>Aj q117 fun q117n q117=>?_
         refine Ag (Ai q117) ?_ q117n
         obtain rfl:=Option.some.inj h
        case' c113n=>
         replace h:=Ae h c113
         obtain rfl:=Option.some.inj h
      case' c110n=>
       replace h:=Ae h c110
       unfold BZ at h
       refine AA ?_
       refine br (fun c114=>?c114y) (fun c114=>?c114n)
       case' c114y=>
        replace h:=Ad h c114
        refine Aa h fun p98 q118 h=>Aj q118 fun q118n q118=>?_
        refine Ag (Ai q118) ?_ q118n
        refine br (fun c115=>?c115y) (fun c115=>?c115n)
        case' c115y=>
         replace h:=Ad h c115
         refine Aa h fun p106 q119 h=>Aj q119 fun q119n q119=>?_
         refine Ag (Ai q119) ?_ q119n
         obtain rfl:=Option.some.inj h
        case' c115n=>
         replace h:=Ae h c115
         obtain rfl:=Option.some.inj h
       case' c114n=>
        replace h:=Ae h c114
        refine br (fun c116=>?c116y) (fun c116=>?c116n)
        case' c116y=>
         replace h:=Ad h c116
         refine Aa h fun p106 q120 h=>Aj q120 fun q120n q120=>?_
         refine Ag (Ai q120) ?_ q120n
         obtain rfl:=Option.some.inj h
        case' c116n=>
         replace h:=Ae h c116
         obtain rfl:=Option.some.inj h
    case' c101n=>
     replace h:=Ae h c101
     unfold D9 at h
     refine AA ?_
     refine br (fun c117=>?c117y) (fun c117=>?c117n)
     case' c117y=>
      replace h:=Ad h c117
      refine Aa h fun p78 q121 h=>Aj q121 fun q121n q121=>?_
      refine Ag (Ai q121) ?_ q121n
      unfold Dn at h
      refine AA ?_
      refine br (fun c118=>?c118y) (fun c118=>?c118n)
      case' c118y=>
       replace h:=Ad h c118
       refine Aa h fun p88 q122 h=>Aj q122 fun q122n q122=>?_
       refine Ag (Ai q122) ?_ q122n
       unfold BZ at h
       refine AA ?_
       refine br (fun c119=>?c119y) (fun c119=>?c119n)
       case' c119y=>
        replace h:=Ad h c119
        refine Aa h fun p98 q123 h=>Aj q123 fun q123n q123=>?_
        refine Ag (Ai q123) ?_ q123n
        refine br (fun c120=>?c120y) (fun c120=>?c120n)
        case' c120y=>
         replace h:=Ad h c120
         refine Aa h fun p106 q124 h=>Aj q124 fun q124n q124=>?_
         refine Ag (Ai q124) ?_ q124n
         obtain rfl:=Option.some.inj h
        case' c120n=>
         replace h:=Ae h c120
         obtain rfl:=Option.some.inj h
       case' c119n=>
        replace h:=Ae h c119
        refine br (fun c121=>?c121y) (fun c121=>?c121n)
        case' c121y=>
         replace h:=Ad h c121
         refine Aa h fun p106 q125 h=>Aj q125 fun q125n q125=>?_
         refine Ag (Ai q125) ?_ q125n
         obtain rfl:=Option.some.inj h
        case' c121n=>
         replace h:=Ae h c121
         obtain rfl:=Option.some.inj h
      case' c118n=>
       replace h:=Ae h c118
       unfold BZ at h
       refine AA ?_
       refine br (fun c122=>?c122y) (fun c122=>?c122n)
       case' c122y=>
        replace h:=Ad h c122
        refine Aa h fun p98 q126 h=>Aj q126 fun q126n q126=>?_
        refine Ag (Ai q126) ?_ q126n
        refine br (fun c123=>?c123y) (fun c123=>?c123n)
        case' c123y=>
         replace h:=Ad h c123
         refine Aa h fun p106 q127 h=>Aj q127 fun q127n q127=>?_
         refine Ag (Ai q127) ?_ q127n
         obtain rfl:=Option.some.inj h
        case' c123n=>
         replace h:=Ae h c123
         obtain rfl:=Option.some.inj h
       case' c122n=>
        replace h:=Ae h c122
        refine br (fun c124=>?c124y) (fun c124=>?c124n)
        case' c124y=>
         replace h:=Ad h c124
         refine Aa h fun p106 q128 h=>Aj q128 fun q128n q128=>?_
         refine Ag (Ai q128) ?_ q128n
         obtain rfl:=Option.some.inj h
        case' c124n=>
         replace h:=Ae h c124
         obtain rfl:=Option.some.inj h
     case' c117n=>
      replace h:=Ae h c117
      unfold Dn at h
      refine AA ?_
      refine br (fun c125=>?c125y) (fun c125=>?c125n)
      case' c125y=>
       replace h:=Ad h c125
       refine Aa h fun p88 q129 h=>Aj q129 fun q129n q129=>?_
       refine Ag (Ai q129) ?_ q129n
       unfold BZ at h
       refine AA ?_
       refine br (fun c126=>?c126y) (fun c126=>?c126n)
       case' c126y=>
        replace h:=Ad h c126
        refine Aa h fun p98 q130 h=>Aj q130 fun q130n q130=>?_
        refine Ag (Ai q130) ?_ q130n
        refine br (fun c127=>?c127y) (fun c127=>?c127n)
        case' c127y=>
         replace h:=Ad h c127
         refine Aa h fun p106 q131 h=>Aj q131 fun q131n q131=>?_
         refine Ag (Ai q131) ?_ q131n
         obtain rfl:=Option.some.inj h
        case' c127n=>
         replace h:=Ae h c127
         obtain rfl:=Option.some.inj h
       case' c126n=>
        replace h:=Ae h c126
        refine br (fun c128=>?c128y) (fun c128=>?c128n)
        case' c128y=>
         replace h:=Ad h c128
         refine Aa h fun p106 q132 h=>Aj q132 fun q132n q132=>?_
         refine Ag (Ai q132) ?_ q132n
         obtain rfl:=Option.some.inj h
        case' c128n=>
         replace h:=Ae h c128
         obtain rfl:=Option.some.inj h
      case' c125n=>
       replace h:=Ae h c125
       unfold BZ at h
       refine AA ?_
       refine br (fun c129=>?c129y) (fun c129=>?c129n)
       case' c129y=>
        replace h:=Ad h c129
        refine Aa h fun p98 q133 h=>Aj q133 fun q133n q133=>?_
        refine Ag (Ai q133) ?_ q133n
        refine br (fun c130=>?c130y) (fun c130=>?c130n)
        case' c130y=>
         replace h:=Ad h c130
         refine Aa h fun p106 q134 h=>Aj q134 fun q134n q134=>?_
         refine Ag (Ai q134) ?_ q134n
         obtain rfl:=Option.some.inj h
        case' c130n=>
         replace h:=Ae h c130
         obtain rfl:=Option.some.inj h
       case' c129n=>
        replace h:=Ae h c129
        refine br (fun c131=>?c131y) (fun c131=>?c131n)
        case' c131y=>
         replace h:=Ad h c131
         refine Aa h fun p106 q135 h=>Aj q135 fun q135n q135=>?_
         refine Ag (Ai q135) ?_ q135n
         obtain rfl:=Option.some.inj h
        case' c131n=>
         replace h:=Ae h c131
         obtain rfl:=Option.some.inj h
 all_goals (refine x_ret ?_;simp only [BL,fits,C.asD,and_true]<;>(first | exact rfl | trivial | exact ⟨rfl,rfl⟩ | exact ⟨rfl,rfl,rfl⟩ | (simp [*];done) | (simp_all;done) | (simp only [schC] at *;simp_all;first | done | rfl)))
set_option maxHeartbeats 16000000 in
theorem ref34_Parse_any (line:ByteArray)  (r:Ar×Bool)(h:BO line=some r):Bc Tryz.prog 15 [.sc (.string line)] [.d (moveD r.1),.d (.sc (.bool r.2))]:=by
 refine T.fn [] Tryz.func15 ?_
 unfold BO at h
 refine grdG h fun g1 h=>?_
 refine AY T.en_33 (refSplit_c line g1) ?_
 refine And.intro ⟨T.mixed,by decide +kernel⟩ ?_
 refine AY T.en_35 (ref34_deeds_any ) ?_
 refine Aa h fun p15 q1 h=>Aj q1 fun q1n q1=>?_
 refine Ag (Ai q1) ?_ q1n
 refine Aa h fun r17 q2 h=>?_
 refine AY T.en_34 (ref34_find_any (Cm) p15 r17 q2) ?_
 refine br (fun c1=>?c1y) (fun c1=>?c1n)
 case' c1y=>
  replace h:=Ad h c1
  refine Aa h fun y23 q3 h=>subLG q3 fun q3a q3b q3c q3=>?_
  refine DI ?_ q3a
  refine x_subL ?_ (wide_map _ fun _=>rfl) q3a q3b q3c q3
  refine Aa h fun r24 q4 h=>?_
  refine AY T.en_36 (ref34_deed_any r17 y23 r24 q4) ?_
  refine br (fun c2=>?c2y) (fun c2=>?c2n)
  case' c2y=>
   replace h:=Ad h (nf c2)
   obtain rfl:=Option.some.inj h
  case' c2n=>
   replace h:=Ae h (fun k=>k c2)
   obtain rfl:=Option.some.inj h
 case' c1n=>
  replace h:=Ae h c1
  refine And.intro ⟨T.mixed,by decide +kernel⟩ ?_
  refine AY T.en_37 (ref34_moves_any ) ?_
  refine Aa h fun p33 q5 h=>Aj q5 fun q5n q5=>?_
  refine Ag (Ai q5) ?_ q5n
  refine Aa h fun r35 q6 h=>?_
  refine AY T.en_34 (ref34_find_any (DF) p33 r35 q6) ?_
  refine br (fun c3=>?c3y) (fun c3=>?c3n)
  case' c3y=>
   replace h:=Ad h c3
   obtain rfl:=Option.some.inj h
  case' c3n=>
   replace h:=Ae h c3
   refine And.intro ⟨T.mixed,by decide +kernel⟩ ?_
   refine Aa h fun y41 q7 h=>subLG q7 fun q7a q7b q7c q7=>?_
   refine DI ?_ q7a
   refine x_subL ?_ (wide_map _ fun _=>rfl) q7a q7b q7c q7
   refine AY T.en_37 (ref34_moves_any ) ?_
   refine Aa h fun p44 q8 h=>Aj q8 fun q8n q8=>?_
   refine Ag (Ai q8) ?_ q8n
   refine Aa h fun r47 q9 h=>?_
   refine AY T.en_38 (ref34_take_any y41 p44.words r47 q9) ?_
   refine br (fun c4=>?c4y) (fun c4=>?c4n)
   case' c4y=>
    replace h:=Ad h (nf c4)
    obtain rfl:=Option.some.inj h
   case' c4n=>
    replace h:=Ae h (fun k=>k c4)
    refine br (fun c5=>?c5y) (fun c5=>?c5n)
    case' c5y=>
     refine brT ?_
     replace h:=Ad h (.inl c5)
     refine Aa h fun p61 q10 h=>Aj q10 fun q10n q10=>?_
     refine Ag (Ai q10) ?_ q10n
     refine Aa h fun p66 q11 h=>Aj q11 fun q11n q11=>?_
     refine Ag (Ai q11) ?_ q11n
     obtain rfl:=Option.some.inj h
    case' c5n=>
     refine br (fun c6=>?c6y) (fun c6=>?c6n)
     case' c6y=>
      replace h:=Ad h (.inr c6)
      refine Aa h fun p61 q12 h=>Aj q12 fun q12n q12=>?_
      refine Ag (Ai q12) ?_ q12n
      refine Aa h fun p66 q13 h=>Aj q13 fun q13n q13=>?_
      refine Ag (Ai q13) ?_ q13n
      obtain rfl:=Option.some.inj h
     case' c6n=>
      replace h:=Ae h (fun k=>k.elim c5 c6)
      refine br (fun c7=>?c7y) (fun c7=>?c7n)
      case' c7y=>
       refine brT ?_
       replace h:=Ad h (.inl c7)
       refine Aa h fun p75 q14 h=>Aj q14 fun q14n q14=>?_
       refine Ag (Ai q14) ?_ q14n
       obtain rfl:=Option.some.inj h
      case' c7n=>
       refine br (fun c8=>?c8y) (fun c8=>?c8n)
       case' c8y=>
        refine brT ?_
        replace h:=Ad h (.inr (.inl c8))
        refine Aa h fun p75 q15 h=>Aj q15 fun q15n q15=>?_
        refine Ag (Ai q15) ?_ q15n
        obtain rfl:=Option.some.inj h
       case' c8n=>
        refine br (fun c9=>?c9y) (fun c9=>?c9n)
        case' c9y=>
         replace h:=Ad h (.inr (.inr c9))
         refine Aa h fun p75 q16 h=>Aj q16 fun q16n q16=>?_
         refine Ag (Ai q16) ?_ q16n
         obtain rfl:=Option.some.inj h
        case' c9n=>
         replace h:=Ae h (fun k=>k.elim c7 (fun k=>k.elim c8 c9))
         refine br (fun c10=>?c10y) (fun c10=>?c10n)
         case' c10y=>
          replace h:=Ad h c10
          refine Aa h fun p82 q17 h=>Aj q17 fun q17n q17=>?_
          refine Ag (Ai q17) ?_ q17n
          refine Aa h fun p87 q18 h=>Aj q18 fun q18n q18=>?_
          refine Ag (Ai q18) ?_ q18n
          refine Aa h fun p92 q19 h=>Aj q19 fun q19n q19=>?_
          refine Ag (Ai q19) ?_ q19n
          obtain rfl:=Option.some.inj h
         case' c10n=>
          replace h:=Ae h c10
          refine br (fun c11=>?c11y) (fun c11=>?c11n)
          case' c11y=>
           refine brT ?_
           replace h:=Ad h (.inl c11)
           refine Aa h fun p100 q20 h=>Aj q20 fun q20n q20=>?_
           refine Ag (Ai q20) ?_ q20n
           refine Aa h fun p105 q21 h=>Aj q21 fun q21n q21=>?_
           refine Ag (Ai q21) ?_ q21n
           obtain rfl:=Option.some.inj h
          case' c11n=>
           refine br (fun c12=>?c12y) (fun c12=>?c12n)
           case' c12y=>
            replace h:=Ad h (.inr c12)
            refine Aa h fun p100 q22 h=>Aj q22 fun q22n q22=>?_
            refine Ag (Ai q22) ?_ q22n
            refine Aa h fun p105 q23 h=>Aj q23 fun q23n q23=>?_
            refine Ag (Ai q23) ?_ q23n
            obtain rfl:=Option.some.inj h
           case' c12n=>
            replace h:=Ae h (fun k=>k.elim c11 c12)
            refine br (fun c13=>?c13y) (fun c13=>?c13n)
            case' c13y=>
             replace h:=Ad h c13
             refine Aa h fun p112 q24 h=>Aj q24 fun q24n q24=>?_
             refine Ag (Ai q24) ?_ q24n
             obtain rfl:=Option.some.inj h
            case' c13n=>
             replace h:=Ae h c13
             obtain rfl:=Option.some.inj h
 all_goals (refine x_ret ?_;simp only [BL,fits,C.asD,and_true]<;>(first | exact rfl | trivial | exact ⟨rfl,rfl⟩ | exact ⟨rfl,rfl,rfl⟩ | (simp [*];done) | (simp_all;done) | (simp only [schC] at *;simp_all;first | done | rfl)))
end Go.Vm
end
section
namespace Go.Rn
open Go.RowKit
inductive V where
 | sc (v:Value)
 | agg (cs:List V)
 | tup (cs:List V)
 | ptr (id off:Nat)
 | sl (id off sz n:Nat) (cap:Option Nat)
 | mp (id:Nat)
 | it (id:Nat)
 | fn (f:FuncId) (cs:List V)
 | opq (k:Nat)
instance:Inhabited V:=⟨.tup []⟩
inductive Blk where
 | cells (cs:List V)
 | ro (cs:List V)
 | map (es:List (V×V))
 | iter (m:Option Nat) (n k:Nat)
structure Pl where
 b:Nat
 base:Nat
 room:Nat
 sz:Nat
structure Pi where
 pl:Nat→Option Pl
 op:Nat→Value
 fl:List (Nat×Obj):=[]
def Pi.sub (π π':Pi):Prop:=(∀id p,π.pl id=some p→π'.pl id=some p)∧π'.op=π.op
def Pi.le (π π':Pi):Prop:=(∀id p,π.pl id=some p→π'.pl id=some p)∧π'.op=π.op∧π'.fl=π.fl
theorem Pi.le.sub {π π':Pi}(h:π.le π'):π.sub π':=⟨h.1,h.2.1⟩
theorem Pi.le_refl (π:Pi):π.le π:=⟨fun _ _ h=>h,rfl,rfl⟩
theorem Pi.le_trans {a b c:Pi}(h:a.le b)(k:b.le c):a.le c:=⟨fun id p e=>k.1 id p (h.1 id p e),k.2.1.trans h.2.1,k.2.2.trans h.2.2⟩
theorem Pi.sub_trans {a b c:Pi}(h:a.sub b)(k:b.sub c):a.sub c:=⟨fun id p e=>k.1 id p (h.1 id p e),k.2.trans h.2⟩
def V.one:V→Bool
 | .agg _=>false
 | .tup _=>false
 | _=>true
def V.cells:V→List V
 | .agg cs=>cs
 | v=>[v]
def capOf (p:Pl)(off:Nat)(c:Option Nat):Nat:=match c with
 | some k=>k
 | none=>(p.room-off) / p.sz
mutual
def Ak (π:Pi):V→Option Value
 | .sc v=>if v.oneCell' then some v else none
 | .agg cs=>if cs.all V.one then (AB π cs).map fun us=>.agg us.toArray else none
 | .tup cs=>(AB π cs).map fun us=>.tuple us.toArray
 | .ptr id off=>match π.pl id with
  | some p=>some (.pointer (some ⟨p.b,p.base+off,none⟩))
  | none=>none
 | .sl id off sz n c=>match π.pl id with
  | some p=>if p.sz=sz∧n≤capOf p off c∧off+capOf p off c*p.sz≤p.room∧capOf p off c≤maxLen then some (.slice (some ⟨p.b,p.base+off,none⟩) n (capOf p off c)) else none
  | none=>none
 | .mp id=>match π.pl id with
  | some p=>some (.map (some p.b))
  | none=>none
 | .it id=>match π.pl id with
  | some p=>some (.pointer (some ⟨p.b,0,none⟩))
  | none=>none
 | .fn f cs=>(AB π cs).map fun us=>.func (.func f) #[] us.toArray
 | .opq k=>if (π.op k).oneCell' then some (π.op k) else none
def AB (π:Pi):List V→Option (List Value)
 | []=>some []
 | c::cs=>match Ak π c,AB π cs with
  | some u,some us=>some (u::us)
  | _,_=>none
end
theorem concL_cons {π:Pi}{c:V}{cs:List V}{us:List Value}(h:AB π (c::cs)=some us):∃u us',Ak π c=some u∧AB π cs=some us'∧us=u::us':=by
 rw [AB] at h
 split at h
 ·rename_i u us' h1 h2
  injection h with h
  exact ⟨u,us',h1,h2,h.symm⟩
 ·cases h
theorem Ec {π:Pi}:∀{cs:List V} {us:List Value},AB π cs=some us→us.length=cs.length
 | [],us,h=>by rw [AB] at h;injection h with h;subst h;rfl
 | c::cs,us,h=>by
  obtain ⟨u,us',_,h2,rfl⟩:=concL_cons h
  simp [Ec h2]
theorem concL_at {π:Pi}:∀{cs:List V} {us:List Value} {i:Nat} {c:V},AB π cs=some us→cs[i]? = some c→∃u,us[i]? = some u∧Ak π c=some u
 | [],us,i,c,_,hc=>by simp at hc
 | d::cs,us,0,c,h,hc=>by
  obtain ⟨u,us',h1,h2,rfl⟩:=concL_cons h
  simp at hc;subst hc
  exact ⟨u,rfl,h1⟩
 | d::cs,us,i+1,c,h,hc=>by
  obtain ⟨u,us',h1,h2,rfl⟩:=concL_cons h
  obtain ⟨x,hx,hy⟩:=concL_at h2 (i:=i) (by simpa using hc)
  exact ⟨x,by simpa using hx,hy⟩
theorem concL_mk {π:Pi}:∀{cs:List V} {us:List Value},us.length=cs.length→(∀(i:Nat) (u:Value) (c:V),us[i]? = some u→cs[i]? = some c→Ak π c=some u)→AB π cs=some us
 | [],us,hl,_=>by
  have e:us= []:=List.length_eq_zero_iff.1 (by simpa using hl)
  subst e;rw [AB]
 | c::cs,[],hl,_=>by simp at hl
 | c::cs,u::us,hl,h=>by
  rw [AB,h 0 u c rfl rfl,concL_mk (us:=us) (by simpa using hl) (fun i u c h1 h2=>h (i+1) u c (by simpa using h1) (by simpa using h2))]
theorem concL_append {π:Pi}:∀{cs ds:List V} {us vs:List Value},AB π cs=some us→AB π ds=some vs→AB π (cs++ds)=some (us++vs)
 | [],ds,us,vs,h,k=>by rw [AB] at h;injection h with h;subst h;exact k
 | c::cs,ds,us,vs,h,k=>by
  obtain ⟨u,us',h1,h2,rfl⟩:=concL_cons h
  rw [List.cons_append,AB,h1,concL_append h2 k];rfl
theorem concL_take {π:Pi}(n:Nat){cs:List V}{us:List Value}(h:AB π cs=some us):AB π (cs.take n)=some (us.take n):=by
 have hl:=Ec h
 refine concL_mk (by simp [hl]) fun i u c h1 h2=>?_
 rw [List.getElem?_take] at h1 h2
 split at h1
 ·rw [if_pos (by assumption)] at h2
  obtain ⟨u',h3,h4⟩:=concL_at h h2
  rw [h1] at h3;injection h3 with h3;subst h3;exact h4
 ·cases h1
theorem concL_drop {π:Pi}(n:Nat){cs:List V}{us:List Value}(h:AB π cs=some us):AB π (cs.drop n)=some (us.drop n):=by
 have hl:=Ec h
 refine concL_mk (by simp [hl]) fun i u c h1 h2=>?_
 rw [List.getElem?_drop] at h1 h2
 obtain ⟨u',h3,h4⟩:=concL_at h h2
 rw [h1] at h3;injection h3 with h3;subst h3;exact h4
mutual
theorem conc_sub {π π':Pi}(hl:π.sub π'):∀{v:V} {u:Value},Ak π v=some u→Ak π' v=some u
 | .sc v,u,h=>by rw [Ak] at h ⊢;exact h
 | .agg cs,u,h=>by
  rw [Ak] at h ⊢
  split at h
  ·rename_i ho
   rw [if_pos ho]
   obtain ⟨us,h1,h2⟩:=Option.map_eq_some_iff.1 h
   rw [concL_sub hl h1,←h2];rfl
  ·cases h
 | .tup cs,u,h=>by
  rw [Ak] at h ⊢
  obtain ⟨us,h1,h2⟩:=Option.map_eq_some_iff.1 h
  rw [concL_sub hl h1,←h2];rfl
 | .ptr id off,u,h=>by
  rw [Ak] at h ⊢
  split at h
  ·rename_i p hp;rw [hl.1 id p hp];exact h
  ·cases h
 | .sl id off sz n c,u,h=>by
  rw [Ak] at h ⊢
  split at h
  ·rename_i p hp;rw [hl.1 id p hp];exact h
  ·cases h
 | .mp id,u,h=>by
  rw [Ak] at h ⊢
  split at h
  ·rename_i p hp;rw [hl.1 id p hp];exact h
  ·cases h
 | .it id,u,h=>by
  rw [Ak] at h ⊢
  split at h
  ·rename_i p hp;rw [hl.1 id p hp];exact h
  ·cases h
 | .fn f cs,u,h=>by
  rw [Ak] at h ⊢
  obtain ⟨us,h1,h2⟩:=Option.map_eq_some_iff.1 h
  rw [concL_sub hl h1,←h2];rfl
 | .opq k,u,h=>by rw [Ak] at h ⊢;rw [hl.2];exact h
theorem concL_sub {π π':Pi}(hl:π.sub π'):∀{cs:List V} {us:List Value},AB π cs=some us→AB π' cs=some us
 | [],us,h=>by rw [AB] at h ⊢;exact h
 | c::cs,us,h=>by
  obtain ⟨u,us',h1,h2,rfl⟩:=concL_cons h
  rw [AB,conc_sub hl h1,concL_sub hl h2]
end
theorem conc_le {π π':Pi}(hl:π.le π'){v:V}{u:Value}(h:Ak π v=some u):Ak π' v=some u:=conc_sub hl.sub h
theorem concL_le {π π':Pi}(hl:π.le π'){cs:List V}{us:List Value}(h:AB π cs=some us):AB π' cs=some us:=concL_sub hl.sub h
theorem conc_one {π:Pi}{v:V}{u:Value}(h:Ak π v=some u)(ho:v.one=true):u.oneCell'=true:=by
 cases v with
 | sc x=>rw [Ak] at h;split at h<;>first | (injection h with h;subst h;assumption) | cases h
 | agg cs=>cases ho
 | tup cs=>cases ho
 | ptr id off=>rw [Ak] at h;split at h<;>first | (injection h with h;subst h;rfl) | cases h
 | sl id off sz n c=>
  rw [Ak] at h
  split at h
  ·split at h<;>first | (injection h with h;subst h;rfl) | cases h
  ·cases h
 | mp id=>rw [Ak] at h;split at h<;>first | (injection h with h;subst h;rfl) | cases h
 | it id=>rw [Ak] at h;split at h<;>first | (injection h with h;subst h;rfl) | cases h
 | fn f cs=>rw [Ak] at h;obtain ⟨us,_,rfl⟩:=Option.map_eq_some_iff.1 h;rfl
 | opq k=>rw [Ak] at h;split at h<;>first | (injection h with h;subst h;assumption) | cases h
theorem cells_one {u:Value}(h:u.oneCell'=true):u.cells = #[u]:=by cases u<;>simp_all [Value.cells,Value.oneCell']
theorem conc_cells {π:Pi}{v:V}{u:Value}(h:Ak π v=some u)(hn:∀cs,v≠.tup cs):AB π v.cells=some u.cells.toList∧∀x∈u.cells.toList,x.oneCell'=true:=by
 by_cases ho:v.one=true
 ·have h1:=conc_one h ho
  rw [cells_one h1]
  have e:v.cells= [v]:=by cases v<;>first | rfl | cases ho
  rw [e,AB,h,AB]
  exact ⟨rfl,fun x hx=>by simp at hx;rw [hx];exact h1⟩
 ·cases v with
  | agg cs=>
   rw [Ak] at h
   split at h
   ·rename_i hall
    obtain ⟨us,h1,rfl⟩:=Option.map_eq_some_iff.1 h
    refine ⟨by simpa [V.cells,Value.cells] using h1,fun x hx=>?_⟩
    have hx:x∈us:=by simpa [Value.cells] using hx
    obtain ⟨i,hi,rfl⟩:=List.getElem_of_mem hx
    have hl:=Ec h1
    obtain ⟨u',h3,h4⟩:=concL_at h1 (List.getElem?_eq_getElem (show i<cs.length by omega))
    rw [List.getElem?_eq_getElem hi] at h3;injection h3 with h3
    rw [h3]
    exact conc_one h4 (List.all_eq_true.1 hall _ (List.getElem_mem ..))
   ·cases h
  | tup cs=>exact absurd rfl (hn cs)
  | _=>exact absurd rfl ho
end Go.Rn
end
section
namespace Go.Rn
abbrev gtab:Nat→Option (List Value):=Go.gtab
end Go.Rn
end
section
namespace Go.Rn
open Go.RowKit
def Blk.rw:Blk→Bool
 | .ro _=>false
 | _=>true
abbrev Hp:=Nat→Option Blk
def hset (h:Hp)(id:Nat)(b:Option Blk):Hp:=fun k=>if k=id then b else h k
def Pi.put (π:Pi)(id:Nat)(p:Pl):Pi:=⟨fun k=>if k=id then some p else π.pl k,π.op,π.fl⟩
theorem Pi.le_put {π:Pi}{id:Nat}{p:Pl}(h:π.pl id=none):π.le (π.put id p):=⟨fun k q e=>by
 show (if k=id then some p else π.pl k)=some q
 rw [if_neg (by rintro rfl;rw [h] at e;cases e)]
 exact e,rfl,rfl⟩
theorem Pi.DZ (π:Pi)(id:Nat)(p:Pl):(π.put id p).pl id=some p:=if_pos rfl
theorem Pi.put_ne {π:Pi}{id k:Nat}{p:Pl}(h:k≠id):(π.put id p).pl k=π.pl k:=if_neg h
def mapIs (π:Pi)(es:List (V×V))(arr:Array MapEntry):Prop:=
 arr.size=es.length∧∀(i:Nat) (e:MapEntry),arr.toList[i]? = some e→e.born=i∧∃kv:V×V,es[i]? = some kv∧Ak π kv.1=some e.key∧Ak π kv.2=some e.val
def BlkAt (π:Pi)(w:World)(p:Pl):Blk→Prop
 | .cells cs=>∃(arr:Array Value) (e:TypeId) (us:List Value),w.heap[p.b]? = some (.cells arr e (0,0))∧arr.size=p.base+p.room∧AB π cs=some us∧(∀u∈us,u.oneCell'=true)∧cs.length≤p.room∧∀(j:Nat) (u:Value),us[j]? = some u→arr.toList[p.base+j]? = some u
 | .ro cs=>∃us:List Value,AB π cs=some us∧(∀u∈us,u.oneCell'=true)∧∀(j:Nat) (u:Value),us[j]? = some u→w.cell? ⟨p.b,p.base+j,none⟩=some u
 | .map es=>∃arr:Array MapEntry,w.heap[p.b]? = some (.map arr es.length)∧mapIs π es arr
 | .iter m n k=>match m with
  | none=>w.heap[p.b]? = some (.mapIter none 0 #[] 0)
  | some id=>∃q:Pl,π.pl id=some q∧k≤n∧n≤1∧w.heap[p.b]? = some (.mapIter (some q.b) n (if k=0 then #[] else #[0]) n)
theorem mapIs_sub {π π':Pi}(hl:π.sub π'){es:List (V×V)}{arr:Array MapEntry}(h:mapIs π es arr):mapIs π' es arr:=
 ⟨h.1,fun i e he=>by
  obtain ⟨h1,kv,h2,h3,h4⟩:=h.2 i e he
  exact ⟨h1,kv,h2,conc_sub hl h3,conc_sub hl h4⟩⟩
theorem BlkAt.sub {π π':Pi}(hl:π.sub π'){w:World}{p:Pl}{b:Blk}(h:BlkAt π w p b):BlkAt π' w p b:=by
 cases b with
 | cells cs=>
  obtain ⟨arr,e,us,h1,h2,h3,h4⟩:=h
  exact ⟨arr,e,us,h1,h2,concL_sub hl h3,h4⟩
 | ro cs=>
  obtain ⟨us,h3,h4⟩:=h
  exact ⟨us,concL_sub hl h3,h4⟩
 | map es=>
  obtain ⟨arr,h1,h2⟩:=h
  exact ⟨arr,h1,mapIs_sub hl h2⟩
 | iter m n k=>
  cases m with
  | none=>exact h
  | some id=>
   obtain ⟨q,h1,h2⟩:=h
   exact ⟨q,hl.1 id q h1,h2⟩
theorem BlkAt.le {π π':Pi}(hl:π.le π'){w:World}{p:Pl}{b:Blk}(h:BlkAt π w p b):BlkAt π' w p b:=BlkAt.sub hl.sub h
theorem BlkAt.keep {π:Pi}{w w':World}{p:Pl}{b:Blk}(h:BlkAt π w p b)(e:w'.heap[p.b]? = w.heap[p.b]?):BlkAt π w' p b:=by
 cases b with
 | cells cs=>
  obtain ⟨arr,ee,us,h1,h2⟩:=h
  exact ⟨arr,ee,us,by rw [e];exact h1,h2⟩
 | ro cs=>
  obtain ⟨us,h3,h4,h5⟩:=h
  exact ⟨us,h3,h4,fun j u hj=>by rw [←h5 j u hj];exact World.cell?_of_block (w:=w) e⟩
 | map es=>
  obtain ⟨arr,h1,h2⟩:=h
  exact ⟨arr,by rw [e];exact h1,h2⟩
 | iter m n k=>
  cases m with
  | none=>exact e.trans h
  | some id=>
   obtain ⟨q,h1,h2,h3,h4⟩:=h
   exact ⟨q,h1,h2,h3,e.trans h4⟩
set_option linter.unusedSectionVars false
def GlobOk (base:Nat)(w0:World):Prop:=∀g cs,gtab g=some cs→g<base∧∀(j:Nat) (u:Value),cs[j]? = some u→w0.cell? ⟨g,j,none⟩=some u
class Cx where
 p:Nat→World→(Nat→Value)→Prop
 g:∀base w0 op,p base w0 op→GlobOk base w0
variable [Cx]
structure Mem (base:Nat) (w0:World) (π:Pi) (h:Hp) (n:Nat) (w:World):Prop where
 place:∀id b,h id=some b→∃p,π.pl id=some p∧BlkAt π w p b∧(b.rw=true→base≤p.b)∧(b.rw=false→p.b<base)
 sep:∀id id' b b' p p',h id=some b→h id'=some b'→b.rw=true→b'.rw=true→π.pl id=some p→π.pl id'=some p'→p.b=p'.b→id=id'
 fresh:∀id,n≤id→π.pl id=none
 lt:∀id p,π.pl id=some p→p.b<w.heap.size
 below:Below base w0 w
 size:base≤w.heap.size
 ctx:Cx.p base w0 π.op
 fl:∀x∈π.fl,base≤x.1∧w.heap[x.1]? = some x.2∧∀id p,π.pl id=some p→p.b≠x.1
section
variable {base n:Nat} {w0 w w':World} {π:Pi} {h:Hp}
theorem Mem.update (hm:Mem base w0 π h n w){id:Nat}{b b':Blk}{p:Pl}(hb:h id=some b)(hr:b.rw=true)(hp:π.pl id=some p)(ho:∀k,k≠p.b→w'.heap[k]? = w.heap[k]?)(hs:w'.heap.size=w.heap.size)(hbl:Below base w w')(hat:BlkAt π w' p b')(hr':b'.rw=true):Mem base w0 π (hset h id (some b')) n w':=by
 obtain ⟨p0,hp0,_,hbase,_⟩:=hm.place id b hb
 rw [hp] at hp0;injection hp0 with hp0;subst hp0
 refine ⟨fun k c hk=>?_,fun k k' c c' q q' hk hk' hc hc' hq hq' e=>?_,hm.fresh,fun k q hq=>by rw [hs];exact hm.lt k q hq,hm.below.trans hbl,by rw [hs];exact hm.size,hm.ctx,fun x hx=>?_⟩
 rotate_left 2
 ·obtain ⟨x1,x2,x3⟩:=hm.fl x hx
  exact ⟨x1,by rw [ho _ (fun e=>x3 id p hp e.symm)];exact x2,x3⟩
 ·unfold hset at hk
  split at hk
  ·rename_i e;subst e;injection hk with hk;subst hk
   exact ⟨p,hp,hat,fun _=>hbase hr,fun h0=>by rw [hr'] at h0;cases h0⟩
  ·rename_i hne
   obtain ⟨q,h1,h2,h3,h4⟩:=hm.place k c hk
   refine ⟨q,h1,h2.keep (ho _ ?_),h3,h4⟩
   intro e
   cases hc:c.rw with
   | true=>exact hne (hm.sep k id c b q p hk hb hc hr h1 hp e)
   | false=>have:=h4 hc;have:=hbase hr;omega
 ·unfold hset at hk hk'
  split at hk<;>split at hk'
  ·rename_i e1 e2;rw [e1,e2]
  ·rename_i e1 e2;subst e1;exact hm.sep k k' b c' q q' hb hk' hr hc' hq hq' e
  ·rename_i e1 e2;subst e2;exact hm.sep k k' c b q q' hk hb hc hr hq hq' e
  ·exact hm.sep k k' c c' q q' hk hk' hc hc' hq hq' e
theorem GlobOk.keep {base b':Nat}{w0 w:World}(h:GlobOk base w0)(hb:Below base w0 w)(hle:base≤b'):GlobOk b' w:=fun g cs hg=>by
 obtain ⟨h1,h3⟩:=h g cs hg
 exact ⟨by omega,fun j u hj=>by rw [←h3 j u hj];exact World.cell?_of_block (w:=w0) (hb.block g h1)⟩
theorem Mem.glob (hm:Mem base w0 π h n w):GlobOk base w:=(Cx.g _ _ _ hm.ctx).keep hm.below (Nat.le_refl _)
theorem Mem.kill (hm:Mem base w0 π h n w)(id:Nat):Mem base w0 π (hset h id none) n w:=by
 refine ⟨fun k c hk=>?_,fun k k' c c' q q' hk hk'=>?_,hm.fresh,hm.lt,hm.below,hm.size,hm.ctx,hm.fl⟩
 ·unfold hset at hk;split at hk
  ·cases hk
  ·exact hm.place k c hk
 ·unfold hset at hk hk';split at hk
  ·cases hk
  ·split at hk'
   ·cases hk'
   ·exact hm.sep k k' c c' q q' hk hk'
theorem Mem.keep (hm:Mem base w0 π h n w)(hb:Below w.heap.size w w'):Mem base w0 π h n w':=by
 refine ⟨fun k c hk=>?_,hm.sep,hm.fresh,fun k q hq=>Nat.lt_of_lt_of_le (hm.lt k q hq) hb.size,hm.below.trans (hb.mono hm.size),Nat.le_trans hm.size hb.size,hm.ctx,fun x hx=>?_⟩
 rotate_left
 ·obtain ⟨x1,x2,x3⟩:=hm.fl x hx
  exact ⟨x1,by rw [hb.block _ (Array.getElem?_eq_some_iff.1 x2).1];exact x2,x3⟩
 obtain ⟨q,h1,h2,h3⟩:=hm.place k c hk
 exact ⟨q,h1,h2.keep (hb.block _ (hm.lt k q h1)),h3⟩
theorem Mem.new (hm:Mem base w0 π h n w){o:Obj}{b:Blk}{p:Pl}(hpb:p.b=w.heap.size)(hat:BlkAt (π.put n p) (w.alloc o) p b)(hr:b.rw=true):Mem base w0 (π.put n p) (hset h n (some b)) (n+1) (w.alloc o):=by
 have hle:=Pi.le_put (p:=p) (hm.fresh n (Nat.le_refl _))
 have hbl:Below w.heap.size w (w.alloc o):=(Below.refl _ w).alloc (Nat.le_refl _) o
 have hk:=hm.keep hbl
 have hsz:(w.alloc o).heap.size=w.heap.size+1:=by show (w.heap.push o).size=_;exact Array.size_push ..
 have hne:∀k c,h k=some c→k≠n:=by
  rintro k c h0 rfl
  obtain ⟨q,h1,_⟩:=hm.place k c h0
  rw [hm.fresh k (Nat.le_refl _)] at h1;cases h1
 refine ⟨fun k c hc=>?_,fun k k' c c' q q' hc hc' r r' hq hq' e=>?_,fun k hk=>?_,fun k q hq=>?_,hk.below,hk.size,hm.ctx,fun x hx=>?_⟩
 rotate_left 4
 ·obtain ⟨x1,x2,x3⟩:=hk.fl x hx
  have hxl:=(Array.getElem?_eq_some_iff.1 (hm.fl x hx).2.1).1
  refine ⟨x1,x2,fun id r hr=>?_⟩
  by_cases e:id=n
  ·subst e
   rw [Pi.DZ] at hr;injection hr with hr;subst hr
   rw [hpb];omega
  ·rw [Pi.put_ne e] at hr
   exact x3 id r hr
 ·unfold hset at hc
  split at hc
  ·rename_i e;subst e;injection hc with hc;subst hc
   exact ⟨p,Pi.DZ ..,hat,fun _=>by rw [hpb];exact hm.size,fun h0=>by rw [hr] at h0;cases h0⟩
  ·rename_i e
   obtain ⟨q,h1,h2,h3⟩:=hk.place k c hc
   exact ⟨q,by rw [Pi.put_ne e];exact h1,h2.le hle,h3⟩
 ·unfold hset at hc hc'
  split at hc<;>split at hc'
  ·rename_i e1 e2;rw [e1,e2]
  ·rename_i e1 e2
   subst e1
   rw [Pi.DZ] at hq;injection hq with hq;subst hq
   rw [Pi.put_ne e2] at hq'
   have:=hm.lt _ _ hq'
   omega
  ·rename_i e1 e2
   subst e2
   rw [Pi.DZ] at hq';injection hq' with hq';subst hq'
   rw [Pi.put_ne e1] at hq
   have:=hm.lt _ _ hq
   omega
  ·rename_i e1 e2
   rw [Pi.put_ne e1] at hq
   rw [Pi.put_ne e2] at hq'
   exact hm.sep k k' c c' q q' hc hc' r r' hq hq' e
 ·rw [Pi.put_ne (by omega)];exact hm.fresh k (by omega)
 ·by_cases e:k=n
  ·subst e
   rw [Pi.DZ] at hq;injection hq with hq;subst hq
   rw [hsz,hpb];omega
  ·rw [Pi.put_ne e] at hq
   have:=hm.lt _ _ hq
   rw [hsz];omega
theorem Mem.regrow (hm:Mem base w0 π h n w){id:Nat}{b b':Blk}{p q:Pl}(hb:h id=some b)(hr:b.rw=true)(hp:π.pl id=some p)(hq:q.b=p.b)(ho:∀k,k≠p.b→w'.heap[k]? = w.heap[k]?)(hs:w'.heap.size=w.heap.size)(hbl:Below base w w')(hat:BlkAt (π.put n q) w' q b')(hr':b'.rw=true):Mem base w0 (π.put n q) (hset (hset h id none) n (some b')) (n+1) w':=by
 have hle:=Pi.le_put (p:=q) (hm.fresh n (Nat.le_refl _))
 obtain ⟨p0,hp0,_,hbase,_⟩:=hm.place id b hb
 rw [hp] at hp0;injection hp0 with hp0;subst hp0
 refine ⟨fun k c hc=>?_,fun k k' c c' s s' hc hc' r r' hq1 hq2 e=>?_,fun k hk=>?_,fun k s hq1=>?_,hm.below.trans hbl,by rw [hs];exact hm.size,hm.ctx,fun x hx=>?_⟩
 rotate_left 4
 ·obtain ⟨x1,x2,x3⟩:=hm.fl x hx
  refine ⟨x1,by rw [ho _ (fun e=>x3 id p hp e.symm)];exact x2,fun k r hr=>?_⟩
  by_cases e:k=n
  ·subst e
   rw [Pi.DZ] at hr;injection hr with hr;subst hr
   rw [hq];exact x3 id p hp
  ·rw [Pi.put_ne e] at hr
   exact x3 k r hr
 ·unfold hset at hc
  split at hc
  ·rename_i e;subst e;injection hc with hc;subst hc
   exact ⟨q,Pi.DZ ..,hat,fun _=>by rw [hq];exact hbase hr,fun h0=>by rw [hr'] at h0;cases h0⟩
  ·rename_i e
   split at hc
   ·cases hc
   ·rename_i e2
    obtain ⟨s,h1,h2,h3,h4⟩:=hm.place k c hc
    refine ⟨s,by rw [Pi.put_ne e];exact h1,(h2.keep (ho _ ?_)).le hle,h3,h4⟩
    intro e3
    cases hc1:c.rw with
    | true=>exact e2 (hm.sep k id c b s p hc hb hc1 hr h1 hp e3)
    | false=>have:=h4 hc1;have:=hbase hr;omega
 ·have key:∀k c s,k≠n→(if k=id then none else h k)=some c→c.rw=true→π.pl k=some s→s.b≠p.b:=by
   intro k c s hkn hc r hs e
   split at hc
   ·cases hc
   ·rename_i e2
    exact e2 (hm.sep k id c b s p hc hb r hr hs hp e)
  unfold hset at hc hc'
  split at hc<;>split at hc'
  ·rename_i e1 e2;rw [e1,e2]
  ·rename_i e1 e2
   subst e1
   rw [Pi.DZ] at hq1;injection hq1 with hq1;subst hq1
   rw [Pi.put_ne e2] at hq2
   exact absurd (by rw [←e,hq]) (key k' c' s' e2 hc' r' hq2)
  ·rename_i e1 e2
   subst e2
   rw [Pi.DZ] at hq2;injection hq2 with hq2;subst hq2
   rw [Pi.put_ne e1] at hq1
   exact absurd (by rw [e,hq]) (key k c s e1 hc r hq1)
  ·rename_i e1 e2
   rw [Pi.put_ne e1] at hq1
   rw [Pi.put_ne e2] at hq2
   split at hc
   ·cases hc
   ·split at hc'
    ·cases hc'
    ·exact hm.sep k k' c c' s s' hc hc' r r' hq1 hq2 e
 ·rw [Pi.put_ne (by omega)];exact hm.fresh k (by omega)
 ·by_cases e:k=n
  ·subst e
   rw [Pi.DZ] at hq1;injection hq1 with hq1;subst hq1
   rw [hs,hq];exact hm.lt _ _ hp
  ·rw [Pi.put_ne e] at hq1
   rw [hs];exact hm.lt _ _ hq1
end
end Go.Rn
end
section
namespace Go.Rn
open Go.RowKit
open Go.Vm (AX CV DV run_fieldAt)
set_option linter.unusedSectionVars false
variable [Cx]
structure St where
 t:Nat→Option V
 h:Hp
 n:Nat
def St.put (s:St)(d:Option Nat)(v:V):St:=match d with
 | none=>s
 | some d=>{ s with t:=fun u=>if u=d then some v else s.t u }
structure Rel (base N:Nat) (w0:World) (π:Pi) (s:St) (a:Act) (w:World):Prop where
 mem:Mem base w0 π s.h s.n w
 tsz:a.tmps.size=N
 defs:a.defers= []
 slot:∀i v,s.t i=some v→∃u,a.tmps[i]? = some u∧Ak π v=some u
def ofV (v:Value):Option V:=if v.oneCell' then some (.sc v) else match v with
 | .agg cs=>if cs.toList.all (·.oneCell') then some (.agg (cs.toList.map .sc)) else none
 | _=>none
theorem concL_scs {π:Pi}:∀{l:List Value},(l.all (·.oneCell'))=true→AB π (l.map .sc)=some l
 | [],_=>by rw [List.map_nil,AB]
 | v::l,h=>by
  rw [List.all_cons,Bool.and_eq_true] at h
  rw [List.map_cons,AB,Ak,if_pos h.1,concL_scs h.2]
theorem ofV_conc {π:Pi}{v:Value}{x:V}(h:ofV v=some x):Ak π x=some v:=by
 unfold ofV at h
 split at h
 ·rename_i h1;injection h with h;subst h;rw [Ak,if_pos h1]
 ·split at h
  ·rename_i cs
   split at h
   ·rename_i h2;injection h with h;subst h
    rw [Ak,if_pos (by rw [List.all_map];exact List.all_eq_true.2 fun _ _=>rfl),concL_scs h2]
    rfl
   ·cases h
  ·cases h
def scL:List V→Option (List Value)
 | []=>some []
 | .sc v::l=>(scL l).map (v :: ·)
 | _=>none
def toV:V→Option Value
 | .sc v=>some v
 | .agg cs=>(scL cs).map fun vs=>.agg vs.toArray
 | _=>none
theorem scL_conc {π:Pi}:∀{cs:List V} {vs us:List Value},scL cs=some vs→AB π cs=some us→us=vs
 | [],vs,us,h,k=>by rw [scL] at h;rw [AB] at k;injection h with h;injection k with k;rw [←h,←k]
 | .sc v::l,vs,us,h,k=>by
  rw [scL] at h
  obtain ⟨vs',h1,rfl⟩:=Option.map_eq_some_iff.1 h
  obtain ⟨u,us',h2,h3,rfl⟩:=concL_cons k
  rw [Ak] at h2;split at h2
  ·injection h2 with h2;rw [h2,scL_conc h1 h3]
  ·cases h2
 | .agg _::_,_,_,h,_=>by simp [scL] at h
 | .tup _::_,_,_,h,_=>by simp [scL] at h
 | .ptr _ _::_,_,_,h,_=>by simp [scL] at h
 | .sl _ _ _ _ _::_,_,_,h,_=>by simp [scL] at h
 | .mp _::_,_,_,h,_=>by simp [scL] at h
 | .it _::_,_,_,h,_=>by simp [scL] at h
 | .fn _ _::_,_,_,h,_=>by simp [scL] at h
 | .opq _::_,_,_,h,_=>by simp [scL] at h
theorem toV_conc {π:Pi}{x:V}{v u:Value}(h:toV x=some v)(k:Ak π x=some u):u=v:=by
 cases x with
 | sc y=>rw [toV] at h;injection h with h;subst h;rw [Ak] at k;split at k<;>first | (injection k with k;exact k.symm) | cases k
 | agg cs=>
  rw [toV] at h
  obtain ⟨vs,h1,rfl⟩:=Option.map_eq_some_iff.1 h
  rw [Ak] at k
  split at k
  ·obtain ⟨us,h2,rfl⟩:=Option.map_eq_some_iff.1 k
   rw [scL_conc h1 h2]
  ·cases k
 | _=>simp [toV] at h
def Am (s:St):Operand→Option V
 | .tmp t=>s.t t
 | .const v=>ofV v
 | .func f=>some (.fn f [])
 | .global _=>none
section
variable {P:Program} {N base n:Nat} {w0 w w':World} {π π':Pi} {s s':St} {a:Act} {o:Oper}
theorem Rel.get (hr:Rel base N w0 π s a w){x:Operand}{v:V}(h:Am s x=some v):Ak π v=some (a.eval x):=by
 cases x with
 | tmp t=>
  obtain ⟨u,h1,h2⟩:=hr.slot t v h
  rw [h2]
  simp [Act.eval,Array.getD_eq_getD_getElem?,h1]
 | const c=>exact ofV_conc h
 | func f=>
  rw [Am] at h;injection h with h;subst h
  rw [Ak,AB];rfl
 | global g=>cases h
theorem Rel.getV (hr:Rel base N w0 π s a w){x:Operand}{v:V}{u:Value}(h:Am s x=some v)(hu:toV v=some u):a.eval x=u:=toV_conc hu (hr.get h)
theorem Rel.put (hr:Rel base N w0 π s a w)(hl:π.le π'){h':Hp}{n':Nat}(hm:Mem base w0 π' h' n' w'){d:Nat}(hd:d<N){v:V}{u:Value}(hv:Ak π' v=some u):Rel base N w0 π' { (s.put (some d) v) with h:=h',n:=n' } (a.put (some d) u) w':=by
 refine ⟨hm,by simp [Act.put,hr.tsz],hr.defs,fun i x hi=>?_⟩
 simp only [St.put] at hi
 split at hi
 ·rename_i e;subst e;injection hi with hi;subst hi
  exact ⟨u,by simp [Act.put,hr.tsz,hd],hv⟩
 ·rename_i e
  obtain ⟨y,h1,h2⟩:=hr.slot i x hi
  refine ⟨y,?_,conc_le hl h2⟩
  rw [←h1]
  simp [Act.put,Array.getElem?_setIfInBounds_ne (fun q=>e q.symm)]
def Step (P:Program)(N:Nat)(o:Oper)(s s':St):Prop:=
 ∀base w0 π a w,Rel base N w0 π s a w→∀(K:Act→World→Prop) (Q:Exit→Act→World→Prop),(∀π' a' w',π.le π'→Rel base N w0 π' s' a' w'→K a' w')→o.wp P a w K Q
theorem step_mem {d:Nat}{v:V}{h':Hp}{n':Nat}(hdst:o.dst=some d)(hd:d<N)
 (hx:∀base w0 π a w,Rel base N w0 π s a w→∃u w' π',(execOp a.eval o).run P w=.ok (.value u) w'∧π.le π'∧Mem base w0 π' h' n' w'∧Ak π' v=some u):Step P N o s { (s.put (some d) v) with h:=h',n:=n' }:=by
 intro base w0 π a w hr K Q hK
 obtain ⟨u,w',π',h1,h2,h3,h4⟩:=hx base w0 π a w hr
 unfold Oper.wp
 rw [h1,Oper.upon_value,hdst]
 exact hK π' _ w' h2 (hr.put h2 h3 hd h4)
theorem CJ {d:Nat}{v:V}(hdst:o.dst=some d)(hd:d<N)
 (hx:∀base w0 π a w,Rel base N w0 π s a w→∃u,(execOp a.eval o).run P w=.ok (.value u) w∧Ak π v=some u):Step P N o s (s.put (some d) v):=by
 refine step_mem (h':=s.h) (n':=s.n) hdst hd fun base w0 π a w hr=>?_
 obtain ⟨u,h1,h2⟩:=hx base w0 π a w hr
 exact ⟨u,w,π,h1,π.le_refl,hr.mem,h2⟩
theorem r_move {x:Operand}{v:V}(hop:o.op=.move x∨o.op=.assign x)(hx:Am s x=some v){d:Nat}(hdst:o.dst=some d)(hd:d<N):Step P N o s (s.put (some d) v):=
 CJ hdst hd fun base w0 π a w hr=>⟨a.eval x,by rcases hop with h | h<;>simp [execOp,h],hr.get hx⟩
theorem r_pick {c x y:Operand}{b:Bool}{v:V}(hop:o.op=.pick c x y)(hc:Am s c=some (.sc (.bool b)))(hx:Am s (if b then x else y)=some v){d:Nat}(hdst:o.dst=some d)(hd:d<N):Step P N o s (s.put (some d) v):=
 CJ hdst hd fun base w0 π a w hr=>⟨a.eval (if b then x else y),by
  have:=hr.getV hc rfl
  cases b<;>simp [execOp,hop,this,asBool],hr.get hx⟩
theorem r_nil {x:Operand}{v:V}(hop:o.op=.nilCheck x)(hx:Am s x=some v)(hv:(∃id off,v=.ptr id off)∨∃f cs,v=.fn f cs){d:Nat}(hdst:o.dst=some d)(hd:d<N):Step P N o s (s.put (some d) v):=
 CJ hdst hd fun base w0 π a w hr=>⟨a.eval x,by
  have h:=hr.get hx
  rcases hv with ⟨id,off,rfl⟩ | ⟨f,cs,rfl⟩
  ·rw [Ak] at h;split at h
   ·injection h with h;simp [execOp,hop,←h]
   ·cases h
  ·rw [Ak] at h;obtain ⟨us,_,h⟩:=Option.map_eq_some_iff.1 h
   simp [execOp,hop,←h],hr.get hx⟩
theorem r_bin {op:BinOp}{T T':TypeId}{x y:Operand}{v1 v2:V}{u1 u2 r:Value}(hop:o.op=.binOp op T x y T')(hx:Am s x=some v1)(hy:Am s y=some v2)(h1:toV v1=some u1)(h2:toV v2=some u2)
 (hr:AX P (do eqGuard op T x y u1 u2;binOp op T u1 u2:Sem Value)=some r) (ho:r.oneCell'=true) {d:Nat} (hdst:o.dst=some d) (hd:d<N):Step P N o s (s.put (some d) (.sc r)):=
 CJ hdst hd fun base w0 π a w hrel=>⟨r,by
  have e1:=hrel.getV hx h1
  have e2:=hrel.getV hy h2
  have h3:=CV hr w
  simp only [execOp,hop,e1,e2,Sem.run_bind,Sem.run_pure] at h3 ⊢
  rw [h3];rfl,by rw [Ak,if_pos ho]⟩
theorem r_un {op:UnOp}{T:TypeId}{x:Operand}{v1:V}{u1 r:Value}(hop:o.op=.unOp op T x)(hx:Am s x=some v1)(h1:toV v1=some u1)
 (hr:AX P (Op.unary op u1)=some r) (ho:r.oneCell'=true) {d:Nat} (hdst:o.dst=some d) (hd:d<N):Step P N o s (s.put (some d) (.sc r)):=
 CJ hdst hd fun base w0 π a w hrel=>⟨r,by
  have e1:=hrel.getV hx h1
  have h3:=CV hr w
  simp only [execOp,hop,e1,Sem.run_bind,Sem.run_pure] at h3 ⊢
  rw [h3];rfl,by rw [Ak,if_pos ho]⟩
theorem r_conv {T T':TypeId}{x:Operand}{v1:V}{u1 r:Value}(hop:o.op=.convert T T' x)(hx:Am s x=some v1)(h1:toV v1=some u1)
 (hr:AX P (convert T T' u1)=some r) (ho:r.oneCell'=true) {d:Nat} (hdst:o.dst=some d) (hd:d<N):Step P N o s (s.put (some d) (.sc r)):=
 CJ hdst hd fun base w0 π a w hrel=>⟨r,by
  have e1:=hrel.getV hx h1
  have h3:=CV hr w
  simp only [execOp,hop,e1,Sem.run_bind,Sem.run_pure] at h3 ⊢
  rw [h3];rfl,by rw [Ak,if_pos ho]⟩
def notNil:V→Value→Bool
 | .ptr _ _,.pointer none=>true
 | .mp _,.map none=>true
 | .sl _ _ _ _ _,.slice none _ _=>true
 | .fn _ _,.nilFunc=>true
 | _,_=>false
theorem Rel.getL (hr:Rel base N w0 π s a w):∀{xs:List Operand} {vs:List V},xs.mapM (Am s)=some vs→AB π vs=some (xs.map a.eval)
 | [],vs,h=>by simp at h;subst h;rw [AB];rfl
 | x::xs,vs,h=>by
  simp only [List.mapM_cons,Option.bind_eq_bind,Option.pure_def,Option.bind_eq_some_iff,Option.some.injEq] at h
  obtain ⟨v,h1,vs',h2,rfl⟩:=h
  rw [AB,hr.get h1,hr.getL h2];rfl
theorem r_func {f:FuncId}{caps:Array Operand}{vs:List V}(hop:o.op=.makeFunc (.func f) #[] caps)(hx:caps.toList.mapM (Am s)=some vs){d:Nat}(hdst:o.dst=some d)(hd:d<N):Step P N o s (s.put (some d) (.fn f vs)):=
 CJ hdst hd fun base w0 π a w hr=>⟨.func (.func f) #[] (caps.map a.eval),by simp [execOp,hop,Instr.makeFunc],by
  have h:=hr.getL hx
  rw [Ak,h]
  simp only [Option.map_some,Option.some.injEq,Value.func.injEq,true_and]
  apply Array.ext'
  simp⟩
theorem r_extract {x:Operand}{cs:List V}{i:Nat}{v:V}(hop:o.op=.extract x i)(hx:Am s x=some (.tup cs))(hi:cs[i]? = some v){d:Nat}(hdst:o.dst=some d)(hd:d<N):Step P N o s (s.put (some d) v):=
 CJ hdst hd fun base w0 π a w hr=>by
  have h:=hr.get hx
  rw [Ak] at h
  obtain ⟨us,h1,h2⟩:=Option.map_eq_some_iff.1 h
  obtain ⟨u,h3,h4⟩:=concL_at h1 hi
  exact ⟨u,by simp [execOp,hop,←h2,Instr.extract,h3],h4⟩
theorem r_fieldA {T:TypeId}{x:Operand}{id off f k:Nat}(hop:o.op=.fieldAddr T x f)(hx:Am s x=some (.ptr id off))(hf:DV P T f=some k){d:Nat}(hdst:o.dst=some d)(hd:d<N):Step P N o s (s.put (some d) (.ptr id (off+k))):=
 CJ hdst hd fun base w0 π a w hr=>by
  have h:=hr.get hx
  rw [Ak] at h
  split at h
  ·rename_i p hp
   injection h with h
   refine ⟨.pointer (some ⟨p.b,p.base+off+k,none⟩),?_,by rw [Ak,hp,Nat.add_assoc]⟩
   simp only [execOp,hop,←h,Sem.run_bind,run_fieldAt hf];rfl
  ·cases h
end
end Go.Rn
end
section
namespace Go.Rn
open Go.RowKit
open Go.Vm (AX CV DV run_fieldAt Bo ED isAggD run_isAgg Dj ER Cf Ed Ef fill_one)
set_option linter.unusedSectionVars false
variable [Cx]
theorem one_conc {π:Pi}{v:V}{u:Value}(h:Ak π v=some u)(ho:u.oneCell'=true):v.one=true:=by
 cases v with
 | agg cs=>
  rw [Ak] at h
  split at h
  ·obtain ⟨us,_,rfl⟩:=Option.map_eq_some_iff.1 h;cases ho
  ·cases h
 | tup cs=>
  rw [Ak] at h
  obtain ⟨us,_,rfl⟩:=Option.map_eq_some_iff.1 h;cases ho
 | _=>rfl
theorem all_one {π:Pi}{cs:List V}{us:List Value}(h:AB π cs=some us)(ho:∀u∈us,u.oneCell'=true):cs.all V.one=true:=by
 refine List.all_eq_true.2 fun c hc=>?_
 obtain ⟨i,hi,rfl⟩:=List.getElem_of_mem hc
 obtain ⟨u,h1,h2⟩:=concL_at h (List.getElem?_eq_getElem hi)
 exact one_conc h2 (ho u (List.mem_of_getElem? h1))
theorem conc_sl {π:Pi}{id off sz n:Nat}{c:Option Nat}{p:Pl}(hp:π.pl id=some p)(h:p.sz=sz∧n≤capOf p off c∧off+capOf p off c*p.sz≤p.room∧capOf p off c≤maxLen):Ak π (.sl id off sz n c)=some (.slice (some ⟨p.b,p.base+off,none⟩) n (capOf p off c)):=by
 rw [Ak,hp];exact if_pos h
theorem sl_conc {π:Pi}{id off sz n:Nat}{c:Option Nat}{u:Value}(h:Ak π (.sl id off sz n c)=some u):∃p,π.pl id=some p∧p.sz=sz∧n≤capOf p off c∧off+capOf p off c*p.sz≤p.room∧capOf p off c≤maxLen∧u=.slice (some ⟨p.b,p.base+off,none⟩) n (capOf p off c):=by
 rw [Ak] at h
 split at h
 ·rename_i p hp
  split at h
  ·rename_i hc;injection h with h;exact ⟨p,hp,hc.1,hc.2.1,hc.2.2.1,hc.2.2.2,h.symm⟩
  ·cases h
 ·cases h
def partV (sh:Bool×Nat)(cs:List V)(off:Nat):Option V:=
 if sh.1 then (if off+sh.2≤cs.length then some (.agg ((cs.drop off).take sh.2)) else none) else cs[off]?
def patchV (cs:List V)(off:Nat)(ds:List V):List V:=cs.take off++ds++cs.drop (off+ds.length)
theorem concL_patch {π:Pi}{cs ds:List V}{us vs:List Value}(h:AB π cs=some us)(k:AB π ds=some vs)(off:Nat):AB π (patchV cs off ds)=some (us.take off++vs++us.drop (off+vs.length)):=by
 unfold patchV
 rw [Ec k]
 exact concL_append (concL_append (concL_take off h) k) (concL_drop _ h)
theorem part_conc {π:Pi}{cs:List V}{us:List Value}{sh:Bool×Nat}{off:Nat}{v:V}(h:AB π cs=some us)(ho:∀u∈us,u.oneCell'=true)(hp:partV sh cs off=some v) :
 (sh.1=true∧off+sh.2≤us.length∧Ak π v=some (.agg ((us.drop off).take sh.2).toArray))∨(sh.1=false∧∃u,us[off]? = some u∧Ak π v=some u):=by
 unfold partV at hp
 have hl:=Ec h
 split at hp
 ·rename_i hb
  split at hp
  ·injection hp with hp;subst hp
   have h1:=concL_take sh.2 (concL_drop off h)
   refine .inl ⟨hb,by omega,?_⟩
   rw [Ak,if_pos (all_one h1 fun u hu=>ho u (List.mem_of_mem_drop (List.mem_of_mem_take hu))),h1];rfl
  ·cases hp
 ·rename_i hb
  obtain ⟨u,h1,h2⟩:=concL_at h hp
  exact .inr ⟨by simpa using hb,u,h1,h2⟩
theorem run_loadV {P:Program}{π:Pi}{w:World}{T:TypeId}{b o off:Nat}{us:List Value}{cs:List V}{sh:Bool×Nat}{v:V}(hsh:Bo P T=some sh)(h:AB π cs=some us)(ho:∀u∈us,u.oneCell'=true)
 (hc:∀(j:Nat) (u:Value),us[j]? = some u→w.cell? ⟨b,o+j,none⟩=some u) (hp:partV sh cs off=some v):∃u,(loadVar T ⟨b,o+off,none⟩).run P w=.ok u w∧Ak π v=some u:=by
 obtain ⟨ag,n⟩:=sh
 obtain ⟨i,dd,h1,h2,h3,h4⟩:=ED hsh
 have hagg:=run_isAgg (w:=w) h2
 rw [h3] at hagg
 rcases part_conc h ho hp with ⟨e,hle,hv⟩ | ⟨e,u,hu,hv⟩
 ·simp only at e hle hv;subst e
  refine ⟨_,?_,hv⟩
  have hlen:((us.drop off).take n).length=n:=by rw [List.length_take,List.length_drop];omega
  have hl:=run_loadCells_list (P:=P) w ⟨b,o+off,none⟩ ((us.drop off).take n) (fun j v hv=>by
   rw [List.getElem?_take] at hv
   split at hv
   ·rw [List.getElem?_drop] at hv
    rw [add_spot,Nat.add_assoc];exact hc _ _ hv
   ·cases hv)
  rw [hlen] at hl
  simp [loadVar,Sem.run_bind,hagg,sizeOf,typeInfo,h1,h4,hl]
 ·simp only at e;subst e
  refine ⟨u,?_,hv⟩
  have hcu:=hc off _ hu
  simp [loadVar,Sem.run_bind,hagg,run_load,hcu,Result.andThen]
def Blk.cs:Blk→Option (List V)
 | .cells cs=>some cs
 | .ro cs=>some cs
 | _=>none
theorem BlkAt.cells {π:Pi}{w:World}{p:Pl}{b:Blk}{cs:List V}(h:BlkAt π w p b)(hc:b.cs=some cs):∃us,AB π cs=some us∧(∀u∈us,u.oneCell'=true)∧∀(j:Nat) (u:Value),us[j]? = some u→w.cell? ⟨p.b,p.base+j,none⟩=some u:=by
 cases b with
 | cells ds=>
  injection hc with hc;subst hc
  obtain ⟨arr,e,us,h1,h2,h3,h4,h5,h6⟩:=h
  refine ⟨us,h3,h4,fun j u hj=>?_⟩
  rw [cell_of_row w p.b _ arr e (0,0) h1]
  have:=h6 j u hj
  simpa using this
 | ro ds=>
  injection hc with hc;subst hc
  exact h
 | map es=>cases hc
 | iter m n k=>cases hc
section
variable {P:Program} {N base n:Nat} {w0 w w':World} {π π':Pi} {s s':St} {a:Act} {o:Oper}
theorem Rel.at (hr:Rel base N w0 π s a w){id:Nat}{b:Blk}(h:s.h id=some b):∃p,π.pl id=some p∧BlkAt π w p b:=by
 obtain ⟨p,h1,h2,_⟩:=hr.mem.place id b h
 exact ⟨p,h1,h2⟩
theorem Rel.ptr (hr:Rel base N w0 π s a w){x:Operand}{id off:Nat}(h:Am s x=some (.ptr id off)){p:Pl}(hp:π.pl id=some p):a.eval x=.pointer (some ⟨p.b,p.base+off,none⟩):=by
 have:=hr.get h
 rw [Ak,hp] at this
 injection this with this;exact this.symm
theorem r_load {T:TypeId}{x:Operand}{id off:Nat}{b:Blk}{cs:List V}{sh:Bool×Nat}{v:V}(hop:o.op=.load T x)(hx:Am s x=some (.ptr id off))(hb:s.h id=some b)(hc:b.cs=some cs)(hsh:Bo P T=some sh)(hp:partV sh cs off=some v){d:Nat}(hdst:o.dst=some d)(hd:d<N):Step P N o s (s.put (some d) v):=
 CJ hdst hd fun base w0 π a w hr=>by
  obtain ⟨p,h1,h2⟩:=hr.at hb
  obtain ⟨us,h3,h4,h5⟩:=h2.cells hc
  obtain ⟨u,h6,h7⟩:=run_loadV (P:=P) hsh h3 h4 h5 hp
  refine ⟨u,?_,h7⟩
  simp only [execOp,hop,Instr.loadAt,hr.ptr hx h1,Instr.sureAddr,Sem.run_bind,Sem.run_pure,Result.andThen_ok,h6]
theorem r_loadG {T:TypeId}{g:Nat}{cs:List Value}{sh:Bool×Nat}{v:V}(hop:o.op=.load T (.global g))(hg:gtab g=some cs)(ho:cs.all (·.oneCell')=true)(hsh:Bo P T=some sh)(hp:partV sh (cs.map .sc) 0=some v){d:Nat}(hdst:o.dst=some d)(hd:d<N):Step P N o s (s.put (some d) v):=
 CJ hdst hd fun base w0 π a w hr=>by
  obtain ⟨h1,h3⟩:=hr.mem.glob g cs hg
  have h2:=List.all_eq_true.1 ho
  obtain ⟨u,h6,h7⟩:=run_loadV (P:=P) (π:=π) (w:=w) (b:=g) (o:=0) (off:=0) hsh (concL_scs (List.all_eq_true.2 h2)) h2 (fun j u hj=>by simpa using h3 j u hj) hp
  refine ⟨u,?_,h7⟩
  have e:a.eval (.global g)=.pointer (some ⟨g,0,none⟩):=rfl
  simp only [execOp,hop,Instr.loadAt,e,Instr.sureAddr,Sem.run_bind,Sem.run_pure,Result.andThen_ok]
  rw [show (0:Nat)=0+0 from rfl,h6];rfl
theorem step_new {d:Nat}{cs:List V}{v:V}{sz:Nat}(hdst:o.dst=some d)(hd:d<N)
 (hx:∀base w0 π a w,Rel base N w0 π s a w→∃(u:Value) (arr:Array Value) (e:TypeId) (us:List Value),(execOp a.eval o).run P w=.ok (.value u) (w.alloc (.cells arr e))∧AB π cs=some us∧(∀u∈us,u.oneCell'=true)∧us=arr.toList ∧
   Ak (π.put s.n ⟨w.heap.size,0,arr.size,sz⟩) v=some u):Step P N o s { (s.put (some d) v) with h:=hset s.h s.n (some (.cells cs)),n:=s.n+1 }:=
 step_mem hdst hd fun base w0 π a w hr=>by
  obtain ⟨u,arr,e,us,h1,h2,h3,h4,h5⟩:=hx base w0 π a w hr
  have hle:=Pi.le_put (p:=⟨w.heap.size,0,arr.size,sz⟩) (hr.mem.fresh s.n (Nat.le_refl _))
  refine ⟨u,_,_,h1,hle,hr.mem.new rfl ⟨arr,e,us,heap_alloc_new w _,by simp,concL_le hle h2,h3,?_,fun j u hj=>?_⟩ rfl,h5⟩
  ·have:=Ec h2;rw [h4] at this;simp at this ⊢;omega
  ·rw [h4] at hj;simpa using hj
theorem r_box {T:TypeId}{x:Operand}{v:V}(hop:o.op=.box T x)(hx:Am s x=some v)(hn:∀cs,v≠.tup cs){d:Nat}(hdst:o.dst=some d)(hd:d<N):Step P N o s { (s.put (some d) (.ptr s.n 0)) with h:=hset s.h s.n (some (.cells v.cells)),n:=s.n+1 }:=
 step_new (sz:=1) hdst hd fun base w0 π a w hr=>by
  obtain ⟨h1,h2⟩:=conc_cells (hr.get hx) hn
  exact ⟨.pointer (some ⟨w.heap.size,0,none⟩),(a.eval x).cells,T,_,by simp [execOp,hop,Instr.box,newVar,newRow],h1,h2,rfl,by rw [Ak,Pi.DZ]⟩
def zeroV (P:Program)(t:TypeId):Option (List V):=match P.info? t with
 | some i=>match i.zero with
  | some z=>if z.cells.toList.all (·.oneCell') then some (z.cells.toList.map .sc) else none
  | none=>none
 | none=>none
theorem zeroV_parts {T:TypeId}{cs:List V}(h:zeroV P T=some cs):∃i z,P.info? T=some i∧i.zero=some z∧cs=z.cells.toList.map .sc∧∀u∈z.cells.toList,u.oneCell'=true:=by
 unfold zeroV at h
 split at h
 ·rename_i i hi
  split at h
  ·rename_i z hz
   split at h
   ·rename_i ho;injection h with h;exact ⟨i,z,hi,hz,h.symm,List.all_eq_true.1 ho⟩
   ·cases h
  ·cases h
 ·cases h
theorem r_alloc {T:TypeId}{cs:List V}(hop:o.op=.alloc T)(hz:zeroV P T=some cs){d:Nat}(hdst:o.dst=some d)(hd:d<N):Step P N o s { (s.put (some d) (.ptr s.n 0)) with h:=hset s.h s.n (some (.cells cs)),n:=s.n+1 }:=
 step_new (sz:=1) hdst hd fun base w0 π a w hr=>by
  obtain ⟨i,z,hi,hzz,rfl,ho⟩:=zeroV_parts hz
  exact ⟨.pointer (some ⟨w.heap.size,0,none⟩),z.cells,T,_,by simp [execOp,hop,Instr.alloc,zeroValue,typeInfo,hi,hzz,newVar,newRow],concL_scs (List.all_eq_true.2 ho),ho,rfl,by rw [Ak,Pi.DZ]⟩
theorem r_store {T:TypeId}{x y:Operand}{id off:Nat}{cs:List V}{v:V}{sh:Bool×Nat}(hop:o.op=.store T x y)(hx:Am s x=some (.ptr id off))(hb:s.h id=some (.cells cs))(hy:Am s y=some v)(hn:∀cs,v≠.tup cs)(hsh:Bo P T=some sh)(hl:v.cells.length=sh.2)(hoff:off+v.cells.length≤cs.length)(hdst:o.dst=none) :
 Step P N o s { s with h:=hset s.h id (some (.cells (patchV cs off v.cells))) }:=by
 intro base w0 π a w hr K Q hK
 obtain ⟨p,hp,hat⟩:=hr.at hb
 obtain ⟨arr,e,us,h1,h2,h3,h4,h5,h6⟩:=hat
 obtain ⟨k1,k2⟩:=conc_cells (hr.get hy) hn
 obtain ⟨ag,n⟩:=sh
 obtain ⟨i,dd,q1,q2,q3,q4⟩:=ED hsh
 have hus:=Ec h3
 have hvl:=Ec k1
 have hvs:(a.eval y).cells.size=i.size:=by simp at hvl;omega
 have hst:=run_storeCells_at P p.b (p.base+off) e (a.eval y).cells.toList 0 arr w h1 (by rw [hvl,h2];omega) k2
 simp only [Nat.add_zero] at hst
 have hrun:(execOp a.eval o).run P w=.ok .skip (w.setRow p.b (arr.toList.take (p.base+off)++(a.eval y).cells.toList++arr.toList.drop (p.base+off+(a.eval y).cells.toList.length)).toArray):=by
  simp only [execOp,hop,Instr.storeAt,hr.ptr hx hp,Instr.sureAddr,storeVar,sizeOf,typeInfo,Sem.run_bind,Sem.run_pure,Result.andThen_ok]
  simp [q1,hvs,hst]
 unfold Oper.wp
 rw [hrun,Oper.upon_skip,hdst]
 have hoth:∀k,k≠p.b→(w.setRow p.b (arr.toList.take (p.base+off)++(a.eval y).cells.toList++arr.toList.drop (p.base+off+(a.eval y).cells.toList.length)).toArray).heap[k]? = w.heap[k]? := fun k hk=>setRow_other w _ k _ hk
 obtain ⟨p',hp',_,hbase,_⟩:=hr.mem.place id _ hb
 rw [hp] at hp';injection hp' with hp';subst hp'
 refine hK π _ _ π.le_refl ⟨hr.mem.update hb rfl hp hoth (by simp) ⟨rfl,rfl,rfl,by simp,fun k hk=>hoth k (by have:=hbase rfl;omega)⟩ ?_ rfl,by simpa [Act.put] using hr.tsz,by simpa [Act.put] using hr.defs,fun i v hi=>by simpa [Act.put] using hr.slot i v hi⟩
 refine ⟨_,e,_,setRow_heap w _ arr _ e _ h1,?_,concL_patch h3 k1 off,fun u hu=>?_,?_,fun j u hj=>?_⟩
 ·simp only [List.size_toArray,List.length_append,List.length_take,List.length_drop,Array.length_toList]
  simp only [Array.length_toList] at hvl
  rw [h2];omega
 ·rcases List.mem_append.1 hu with hu | hu
  ·rcases List.mem_append.1 hu with hu | hu
   ·exact h4 u (List.mem_of_mem_take hu)
   ·exact k2 u hu
  ·exact h4 u (List.mem_of_mem_drop hu)
 ·simp only [patchV,List.length_append,List.length_take,List.length_drop];omega
 ·rw [List.toList_toArray]
  have hal:arr.toList.length=p.base+p.room:=by simpa using h2
  have hul:us.length=cs.length:=hus
  by_cases c1:j<off
  ·rw [List.append_assoc,List.getElem?_append_left (by rw [List.length_take];omega),List.getElem?_take,if_pos c1] at hj
   rw [List.append_assoc,List.getElem?_append_left (by rw [List.length_take];omega),List.getElem?_take,if_pos (by omega)]
   exact h6 j u hj
  ·by_cases c2:j<off+(a.eval y).cells.toList.length
   ·rw [List.append_assoc,List.getElem?_append_right (by rw [List.length_take];omega),List.getElem?_append_left (by rw [List.length_take];omega)] at hj
    rw [List.append_assoc,List.getElem?_append_right (by rw [List.length_take];omega),List.getElem?_append_left (by rw [List.length_take];omega)]
    rw [←hj];congr 1
    rw [List.length_take,List.length_take];omega
   ·rw [List.getElem?_append_right (by rw [List.length_append,List.length_take];omega),List.getElem?_drop] at hj
    rw [List.getElem?_append_right (by rw [List.length_append,List.length_take];omega),List.getElem?_drop]
    have:=h6 _ u hj
    rw [←this];congr 1
    rw [List.length_append,List.length_append,List.length_take,List.length_take];omega
end
end Go.Rn
end
section
namespace Go.Rn
open Go.RowKit
open Go.Vm (AX CV DV run_fieldAt Bo ED isAggD run_isAgg Dj ER Cf Ed Ef fill_one run_bound)
set_option linter.unusedSectionVars false
variable [Cx]
def V.noTup:V→Bool
 | .tup _=>false
 | _=>true
theorem noTup_spec {v:V}(h:v.noTup=true):∀cs,v≠.tup cs:=by rintro cs rfl;cases h
def fillV (place:Nat→Option (Nat×Nat))(cells:List V):List (Nat×V)→Option (List V)
 | []=>some cells
 | (i,d)::rest=>match place i with
  | none=>none
  | some (off,size)=>if d.cells.length=size∧off+d.cells.length≤cells.length∧d.noTup=true then fillV place (patchV cells off d.cells) rest else none
def builtV (P:Program)(t:TypeId)(parts:List (Nat×V)):Option (List V):=
 match P.underlying t,zeroV P t with
 | some (.array _ e),some zs=>match P.info? e with
  | some ie=>fillV (fun i=>some (i*ie.size,ie.size)) zs parts
  | none=>none
 | some (.struct fields),some zs=>match fields.toList.mapM (fun f=>(P.info? f.type).map fun i=>(f.offset,i.size)) with
  | some places=>fillV (places.toArray[·]?) zs parts
  | none=>none
 | _,_=>none
def DJ (s:St):List (Nat×Operand)→Option (List (Nat×V))
 | []=>some []
 | (i,x)::l=>match Am s x,DJ s l with
  | some d,some ds=>some ((i,d)::ds)
  | _,_=>none
theorem fill_conc {π:Pi}{place:Nat→Option (Nat×Nat)}:∀{parts:List (Nat×Value)} {ds:List (Nat×V)} {cells:Array Value} {cs cs':List V},AB π cs=some cells.toList→(∀u∈cells.toList,u.oneCell'=true)→parts.length=ds.length →
 (∀(j:Nat) (p:Nat×Value) (q:Nat×V),parts[j]? = some p→ds[j]? = some q→p.1=q.1∧Ak π q.2=some p.2)→fillV place cs ds=some cs'→∃cells',Instr.fill place cells parts=some cells'∧AB π cs'=some cells'.toList∧∀u∈cells'.toList,u.oneCell'=true
 | [],[],cells,cs,cs',h,ho,_,_,hf=>by
  simp [fillV] at hf;subst hf;exact ⟨cells,by simp [Instr.fill],h,ho⟩
 | [],_::_,_,_,_,_,_,hl,_,_=>by simp at hl
 | _::_,[],_,_,_,_,_,hl,_,_=>by simp at hl
 | (i,v)::parts,(i',d)::ds,cells,cs,cs',h,ho,hl,hp,hf=>by
  obtain ⟨e1,hv⟩:=hp 0 (i,v) (i',d) rfl rfl
  simp only at e1 hv;subst e1
  unfold fillV at hf
  split at hf
  ·cases hf
  ·rename_i off size hpl
   split at hf
   ·rename_i hc
    obtain ⟨hcl,hone⟩:=conc_cells hv (noTup_spec hc.2.2)
    have e2:v.cells.size=d.cells.length:=by have:=Ec hcl;simpa using this
    have e3:cells.size=cs.length:=by have:=Ec h;simpa using this
    have hle:off+v.cells.size≤cells.size:=by omega
    have hfo:=fill_one off v.cells cells hle
    have hk:=concL_patch h hcl off
    simp only [Array.length_toList] at hk
    rw [←hfo] at hk
    obtain ⟨cells',h1,h2,h3⟩:=fill_conc (parts:=parts) (ds:=ds) hk (by
     intro u hu
     rw [hfo] at hu
     rcases List.mem_append.1 hu with hu | hu
     ·rcases List.mem_append.1 hu with hu | hu
      ·exact ho u (List.mem_of_mem_take hu)
      ·exact hone u hu
     ·exact ho u (List.mem_of_mem_drop hu)) (by simpa using hl) (fun j p q hj hq=>hp (j+1) p q (by simpa using hj) (by simpa using hq)) hf
    refine ⟨cells',?_,h2,h3⟩
    unfold Instr.fill
    rw [hpl]
    simp only
    rw [if_neg (by simp only [ne_eq,Bool.or_eq_true,decide_eq_true_eq];omega)]
    exact h1
   ·cases hf
theorem built_conc {P:Program}{π:Pi}{t:TypeId}{parts:List (Nat×Value)}{ds:List (Nat×V)}{cs:List V}(hl:parts.length=ds.length)
 (hp:∀(j:Nat) (p:Nat×Value) (q:Nat×V),parts[j]? = some p→ds[j]? = some q→p.1=q.1∧Ak π q.2=some p.2) (h:builtV P t ds=some cs):∃cells,P.built t parts=some cells∧AB π cs=some cells.toList∧∀u∈cells.toList,u.oneCell'=true:=by
 unfold builtV at h
 unfold Program.built
 split at h
 ·rename_i n e zs hu hz
  obtain ⟨i,z,h1,h2,rfl,ho⟩:=zeroV_parts hz
  split at h
  ·rename_i ie hie
   simp only [h1,hu,h2,hie]
   exact fill_conc (concL_scs (List.all_eq_true.2 ho)) ho hl hp h
  ·cases h
 ·rename_i fields zs hu hz
  obtain ⟨i,z,h1,h2,rfl,ho⟩:=zeroV_parts hz
  split at h
  ·rename_i places hpl
   simp only [h1,hu,h2,hpl]
   exact fill_conc (concL_scs (List.all_eq_true.2 ho)) ho hl hp h
  ·cases h
 ·cases h
section
variable {P:Program} {N base n:Nat} {w0 w w':World} {π π':Pi} {s s':St} {a:Act} {o:Oper}
theorem Rel.parts (hr:Rel base N w0 π s a w):∀{parts:List (Nat×Operand)} {ds:List (Nat×V)},DJ s parts=some ds→(parts.map fun (i,x)=>(i,a.eval x)).length=ds.length ∧
 ∀(j:Nat) (p:Nat×Value) (q:Nat×V),(parts.map fun (i,x)=>(i,a.eval x))[j]? = some p→ds[j]? = some q→p.1=q.1∧Ak π q.2=some p.2
 | [],ds,h=>by simp [DJ] at h;subst h;simp
 | (i,x)::l,ds,h=>by
  unfold DJ at h
  split at h
  ·rename_i d ds' h1 h2
   injection h with h;subst h
   obtain ⟨k1,k2⟩:=hr.parts h2
   refine ⟨by simpa using k1,fun j p q hj hq=>?_⟩
   cases j with
   | zero=>
    simp at hj hq;subst hj hq
    exact ⟨rfl,hr.get h1⟩
   | succ j=>exact k2 j p q (by simpa using hj) (by simpa using hq)
  ·cases h
theorem r_build {T:TypeId}{parts:Array (Nat×Operand)}{ds:List (Nat×V)}{cs:List V}(hop:o.op=.build T parts)(hx:DJ s parts.toList=some ds)(hb:builtV P T ds=some cs){d:Nat}(hdst:o.dst=some d)(hd:d<N):Step P N o s (s.put (some d) (.agg cs)):=
 CJ hdst hd fun base w0 π a w hr=>by
  obtain ⟨h1,h2⟩:=hr.parts hx
  obtain ⟨cells,h3,h4,h5⟩:=built_conc (P:=P) h1 h2 hb
  refine ⟨.agg cells,?_,by rw [Ak,if_pos (all_one h4 h5),h4];rfl⟩
  have hr:=run_build (P:=P) w T (parts.map fun (i,x)=>(i,a.eval x)) cells (by rw [Array.toList_map];exact h3)
  simp only [execOp,hop,Sem.run_bind,hr,Result.andThen_ok]
  rfl
def litV (P:Program)(e:TypeId)(sz len:Nat)(ds:List (Nat×V)):Option (List V):=match zeroV P e with
 | some zs=>fillV (fun i=>some (i*sz,sz)) ((List.range (len*sz)).map fun j=>zs.getD (j % zs.length) default) ds
 | none=>none
theorem made_conc {π:Pi}{z:Array Value}(ho:∀u∈z.toList,u.oneCell'=true){m:Nat}(hm:0<m→0<z.size):AB π ((List.range m).map fun j=>(z.toList.map V.sc).getD (j % (z.toList.map V.sc).length) default)=some (madeCells z m).toList∧∀u∈(madeCells z m).toList,u.oneCell'=true:=by
 have key:∀j,j<m→∃u,z.toList[j % z.size]? = some u∧z[j % z.size]! = u∧u.oneCell'=true:=fun j hj=>by
  have hlt:j % z.size<z.size:=Nat.mod_lt _ (hm (by omega))
  exact ⟨z[j % z.size],by simp [hlt],by rw [getElem!_pos z _ hlt],ho _ (by simp)⟩
 refine ⟨concL_mk (by simp [madeCells]) fun i u c h1 h2=>?_,fun u hu=>?_⟩
 ·simp only [madeCells,Array.toList_map,Array.toList_range,List.getElem?_map] at h1 h2
  cases hj:(List.range m)[i]? with
  | none=>rw [hj] at h1;cases h1
  | some j=>
   rw [hj] at h1 h2
   simp only [Option.map_some,Option.some.injEq] at h1 h2
   have hjm:j<m:=by have:=List.mem_of_getElem? hj;simpa using this
   obtain ⟨v,e1,e2,e3⟩:=key j hjm
   rw [e2] at h1
   subst h1 h2
   rw [List.getD_eq_getElem?_getD,List.length_map,Array.length_toList,List.getElem?_map,e1]
   simp only [Option.map_some,Option.getD_some]
   rw [Ak,if_pos e3]
 ·simp only [madeCells,Array.toList_map,Array.toList_range,List.mem_map] at hu
  obtain ⟨j,hj,rfl⟩:=hu
  obtain ⟨v,e1,e2,e3⟩:=key j (by simpa using hj)
  rw [e2];exact e3
theorem r_lit {T e:TypeId}{sz bytes len:Nat}{parts:Array (Nat×Operand)}{ds:List (Nat×V)}{cs:List V}(hop:o.op=.buildSlice T len parts)(hT:Cf P T=some (e,sz,bytes))(hx:DJ s parts.toList=some ds)(hb:litV P e sz len ds=some cs)(hs:len*sz≤16777216){d:Nat}(hdst:o.dst=some d)(hd:d<N) :
 Step P N o s { (s.put (some d) (.sl s.n 0 sz len (some len))) with h:=hset s.h s.n (some (.cells cs)),n:=s.n+1 }:=
 step_new (sz:=sz) hdst hd fun base w0 π a w hr=>by
  obtain ⟨i,z,h1,h2,h3,h4,h5,h6,h7,h8⟩:=Ed hT
  subst h4
  unfold litV at hb
  split at hb
  ·rename_i zs hz
   obtain ⟨i',z',q1,q2,rfl,ho⟩:=zeroV_parts hz
   rw [h2] at q1;injection q1 with q1;subst q1
   rw [h3] at q2;injection q2 with q2;subst q2
   obtain ⟨k1,k2⟩:=hr.parts hx
   obtain ⟨m1,m2⟩:=made_conc (π:=π) ho (m:=len*i.size) (fun _=>by rw [h6];exact h7)
   obtain ⟨cells,f1,f2,f3⟩:=fill_conc m1 m2 k1 k2 hb
   have hlen:cells.size=len*i.size:=by
    have e1:=Ec f2
    have:∀{parts:List (Nat×Value)} {cells cells':Array Value},Instr.fill (fun j=>some (j*i.size,i.size)) cells parts=some cells'→cells'.size=cells.size:=by
     intro parts
     induction parts with
     | nil=>intro cells cells' h;simp [Instr.fill] at h;rw [h]
     | cons p rest ih=>
      intro cells cells' h
      obtain ⟨j,v⟩:=p
      unfold Instr.fill at h
      simp only at h
      split at h
      ·cases h
      ·have:=ih h
       rw [this]
       have hfold:∀(l:List (Value×Nat)) (off:Nat) (c:Array Value),(l.foldl (fun cs x=>cs.setIfInBounds (off+x.2) x.1) c).size=c.size:=by
        intro l
        induction l with
        | nil=>intro off c;rfl
        | cons y l ih2=>intro off c;rw [List.foldl_cons,ih2];simp
       rw [←Array.foldl_toList]
       exact hfold _ _ _
    rw [this f1];simp [madeCells]
   have hmx:len≤maxLen:=by
    have:len≤len*i.size:=Nat.le_mul_of_pos_right _ h7
    unfold maxLen;omega
   refine ⟨.slice (some ⟨w.heap.size,0,none⟩) len len,cells,e,_,?_,f2,f3,rfl,?_⟩
   ·by_cases hpos:len*i.size=0
    ·have hl0:len=0:=by
      rcases Nat.mul_eq_zero.1 hpos with h | h
      ·exact h
      ·omega
     subst hl0
     have hc0:cells = #[]:=Array.eq_empty_of_size_eq_zero (by simpa using hlen)
     subst hc0
     have hpv:Instr.fill (fun j=>some (j*i.size,i.size)) #[] (parts.toList.map fun (i,x)=>(i,a.eval x))=some #[]:=by simpa [madeCells,show Array.range 0 = #[] from rfl] using f1
     have hr0:Array.range 0 = #[]:=rfl
     simp [execOp,hop,Instr.buildSlice,run_underlying h1,sizeOf,typeInfo,h2,newRow,hr0,hpv]
    ·have hr2:=run_buildSlice (P:=P) w T e len (parts.map fun (i,x)=>(i,a.eval x)) cells i z h1 h2 h3 (by omega) hpos (by rw [Array.toList_map];exact f1)
     simp only [execOp,hop,Sem.run_bind,hr2,Result.andThen_ok]
     rfl
   ·exact conc_sl (c:=some len) (Pi.DZ ..) ⟨rfl,Nat.le_refl _,by show 0+len*i.size≤cells.size;omega,hmx⟩
  ·cases hb
theorem r_make {T e:TypeId}{sz bytes l c:Nat}{x y:Operand}{kl kc:IntKind}{zs:List V}(hop:o.op=.makeSlice T x y)(hT:Cf P T=some (e,sz,bytes))(hx:Am s x=some (.sc (.int kl (l:Int))))(hy:Am s y=some (.sc (.int kc (c:Int))))(hz:zeroV P e=some zs)(hlc:l≤c)(hb:bytes*c≤281474976710656)(hm:c≤maxLen){d:Nat}(hdst:o.dst=some d)(hd:d<N) :
 Step P N o s { (s.put (some d) (.sl s.n 0 sz l (some c))) with h:=hset s.h s.n (some (.cells ((List.range (c*sz)).map fun j=>zs.getD (j % zs.length) default))),n:=s.n+1 }:=
 step_new (sz:=sz) hdst hd fun base w0 π a w hr=>by
  obtain ⟨i,z,h1,h2,h3,h4,h5,h6,h7,h8⟩:=Ed hT
  subst h4 h5
  obtain ⟨i',z',q1,q2,rfl,ho⟩:=zeroV_parts hz
  rw [h2] at q1;injection q1 with q1;subst q1
  rw [h3] at q2;injection q2 with q2;subst q2
  obtain ⟨m1,m2⟩:=made_conc (π:=π) ho (m:=c*i.size) (fun _=>by rw [h6];exact h7)
  have e1:=hr.getV hx rfl
  have e2:=hr.getV hy rfl
  have hbi:(i.bytes:Int)*(c:Int)≤281474976710656:=by
   have h:((i.bytes*c:Nat):Int)≤281474976710656:=by omega
   rwa [Int.natCast_mul] at h
  have hrun:=run_make (P:=P) w T e i z h1 h2 h3 kl kc (l:Int) (c:Int) (by omega) (by omega) hbi (by simp [maxLen] at hm;omega)
  simp only [Int.toNat_natCast] at hrun
  refine ⟨.slice (some ⟨w.heap.size,0,none⟩) l c,madeCells z.cells (c*i.size),e,_,by simp [execOp,hop,e1,e2,hrun],m1,m2,rfl,?_⟩
  exact conc_sl (c:=some c) (Pi.DZ ..) ⟨rfl,hlc,by show 0+c*i.size≤(madeCells z.cells (c*i.size)).size;rw [size_madeCells];omega,hm⟩
theorem r_map {T:TypeId}(hop:o.op=.makeMap T none){d:Nat}(hdst:o.dst=some d)(hd:d<N):Step P N o s { (s.put (some d) (.mp s.n)) with h:=hset s.h s.n (some (.map [])),n:=s.n+1 }:=
 step_mem hdst hd fun base w0 π a w hr=>by
  have hle:=Pi.le_put (p:=⟨w.heap.size,0,0,1⟩) (hr.mem.fresh s.n (Nat.le_refl _))
  refine ⟨.map (some w.heap.size),w.alloc (.map #[] 0),π.put s.n ⟨w.heap.size,0,0,1⟩,by simp [execOp,hop,Instr.makeMap],hle,hr.mem.new rfl ⟨#[],heap_alloc_new w _,rfl,by simp⟩ rfl,by rw [Ak,Pi.DZ]⟩
end
end Go.Rn
end
section
namespace Go.Rn
open Go.RowKit
open Go.Vm (Cf Ed)
set_option linter.unusedSectionVars false
variable [Cx]
theorem BlkAt.write {π:Pi}{w:World}{p:Pl}{cs ds:List V}{vs:List Value}{off:Nat}(h:BlkAt π w p (.cells cs))(k:AB π ds=some vs)(ho:∀u∈vs,u.oneCell'=true)(h1:off≤cs.length)(h2:off+vs.length≤p.room) :
 ∃(arr:Array Value) (e:TypeId),w.heap[p.b]? = some (.cells arr e (0,0))∧arr.size=p.base+p.room ∧
  BlkAt π (w.setRow p.b (arr.toList.take (p.base+off)++vs++arr.toList.drop (p.base+off+vs.length)).toArray) p (.cells (patchV cs off ds)):=by
 obtain ⟨arr,e,us,g1,g2,g3,g4,g5,g6⟩:=h
 have hul:=Ec g3
 have hvl:=Ec k
 refine ⟨arr,e,g1,g2,_,e,_,setRow_heap w _ arr _ e _ g1,?_,concL_patch g3 k off,fun u hu=>?_,?_,fun j u hj=>?_⟩
 ·simp only [List.size_toArray,List.length_append,List.length_take,List.length_drop,Array.length_toList]
  rw [g2];omega
 ·rcases List.mem_append.1 hu with hu | hu
  ·rcases List.mem_append.1 hu with hu | hu
   ·exact g4 u (List.mem_of_mem_take hu)
   ·exact ho u hu
  ·exact g4 u (List.mem_of_mem_drop hu)
 ·simp only [patchV,List.length_append,List.length_take,List.length_drop];omega
 ·rw [List.toList_toArray]
  have hal:arr.toList.length=p.base+p.room:=by simpa using g2
  by_cases c1:j<off
  ·rw [List.append_assoc,List.getElem?_append_left (by rw [List.length_take];omega),List.getElem?_take,if_pos c1] at hj
   rw [List.append_assoc,List.getElem?_append_left (by rw [List.length_take];omega),List.getElem?_take,if_pos (by omega)]
   exact g6 j u hj
  ·by_cases c2:j<off+vs.length
   ·rw [List.append_assoc,List.getElem?_append_right (by rw [List.length_take];omega),List.getElem?_append_left (by rw [List.length_take];omega)] at hj
    rw [List.append_assoc,List.getElem?_append_right (by rw [List.length_take];omega),List.getElem?_append_left (by rw [List.length_take];omega)]
    rw [←hj];congr 1
    rw [List.length_take,List.length_take];omega
   ·rw [List.getElem?_append_right (by rw [List.length_append,List.length_take];omega),List.getElem?_drop] at hj
    rw [List.getElem?_append_right (by rw [List.length_append,List.length_take];omega),List.getElem?_drop]
    have:=g6 _ u hj
    rw [←this];congr 1
    rw [List.length_append,List.length_append,List.length_take,List.length_take];omega
theorem run_append_off {P:Program}{w:World}{T tx ty e e':TypeId}{i:TypeInfo}(ht:P.underlying T=some (.slice e))(hi:P.info? e=some i){g o sLen sCap:Nat}{cur:Array Value}(hg:w.heap[g]? = some (.cells cur e' (0,0))){x:Value}{n:Nat}{news:List Value}(hs:Src P i.size tx x n news w)
 (hroom:sLen+n≤sCap) (hfit:o+sLen*i.size+news.length≤cur.size) :
 (Builtin.append_ #[T,tx] ty #[.slice (some ⟨g,o,none⟩) sLen sCap,x]).run P w=.ok (.slice (some ⟨g,o,none⟩) (sLen+n) sCap) (w.setRow g (cur.toList.take (o+sLen*i.size)++news++cur.toList.drop (o+sLen*i.size+news.length)).toArray):=by
 have hst:=run_storeCells_at P g (o+sLen*i.size) e' news 0 cur w hg (by simpa using hfit) hs.one
 simp only [Nat.add_zero] at hst
 rcases hs.kind with ⟨e',hk⟩ | hk<;>simp [Builtin.append_,run_underlying ht,run_underlying hk,sizeOf,typeInfo,hi,hs.len,hroom,hs.cells,add_spot,hst]
def strV (s:ByteArray):List V:=s.data.toList.map fun b=>.sc (.int .u8 b.toNat)
def srcV (h:Hp)(sz:Nat):V→Option (Nat×List V)
 | .sc (.string s)=>if sz=1 then some (s.size,strV s) else none
 | .sc (.slice none 0 0)=>some (0,[])
 | .sl id off sz' n _=>if sz'=sz then (if n=0 then some (0,[]) else match h id with
  | some b=>match b.cs with
   | some cs=>if off+n*sz≤cs.length then some (n,(cs.drop off).take (n*sz)) else none
   | none=>none
  | none=>none) else none
 | _=>none
def srcKind (P:Program)(tx:TypeId):V→Prop
 | .sc (.string _)=>P.underlying tx=some .string
 | _=>∃e',P.underlying tx=some (.slice e')
section
variable {P:Program} {N base n:Nat} {w0 w w':World} {π π':Pi} {s s':St} {a:Act} {o:Oper}
theorem Rel.src (hr:Rel base N w0 π s a w){y:Operand}{v:V}{sz m:Nat}{ds:List V}{tx:TypeId}(hy:Am s y=some v)(hk:srcKind P tx v)(hs:srcV s.h sz v=some (m,ds)):∃news,Src P sz tx (a.eval y) m news w∧AB π ds=some news:=by
 have hc:=hr.get hy
 unfold srcV at hs
 split at hs
 ·rename_i st
  split at hs
  ·rename_i h1
   subst h1
   injection hs with hs;injection hs with e1 e2;subst e1 e2
   have e:=toV_conc (v:=.string st) rfl hc
   rw [e]
   refine ⟨_,Src.ofString (P:=P) w hk st,?_⟩
   unfold strV byteCells
   have:∀l:List UInt8,AB π (l.map fun b=>V.sc (.int .u8 b.toNat))=some (l.map fun b=>Value.int .u8 b.toNat):=by
    intro l
    induction l with
    | nil=>rw [List.map_nil,AB];rfl
    | cons b l ih=>rw [List.map_cons,AB,ih,Ak,if_pos (by rfl)];rfl
   exact this _
  ·cases hs
 ·injection hs with hs;injection hs with e1 e2;subst e1 e2
  have e:=toV_conc (v:=.slice none 0 0) rfl hc
  rw [e]
  obtain ⟨e',hk⟩:=hk
  exact ⟨[],Src.ofNil w hk 0,by rw [AB]⟩
 ·rename_i id off sz' k c
  obtain ⟨e',hk⟩:=hk
  obtain ⟨p,hp,q1,q2,q3,q4,q5⟩:=sl_conc hc
  rw [q5]
  split at hs
  ·rename_i h1
   subst h1
   split at hs
   ·rename_i h0
    injection hs with hs;injection hs with e1 e2;subst e1 e2 h0
    exact ⟨[],Src.ofSlice w hk _ 0 _ [] (by simp) (by simp) (by simp),by rw [AB]⟩
   ·split at hs
    ·rename_i b hb
     split at hs
     ·rename_i cs hcs
      split at hs
      ·rename_i hle
       injection hs with hs;injection hs with e1 e2;subst e1 e2
       obtain ⟨p',hp',hat⟩:=hr.at hb
       rw [hp] at hp';injection hp' with hp';subst hp'
       obtain ⟨us,f1,f2,f3⟩:=hat.cells hcs
       have hul:=Ec f1
       have hg:=concL_take (k*sz') (concL_drop off f1)
       refine ⟨_,Src.ofSlice w hk ⟨p.b,p.base+off,none⟩ k _ ((us.drop off).take (k*sz')) (by rw [List.length_take,List.length_drop];omega) (fun j u hu=>?_) (fun u hu=>f2 u (List.mem_of_mem_drop (List.mem_of_mem_take hu))),hg⟩
       rw [List.getElem?_take] at hu
       split at hu
       ·rw [List.getElem?_drop] at hu
        rw [add_spot,Nat.add_assoc]
        exact f3 _ u hu
       ·cases hu
      ·cases hs
     ·cases hs
    ·cases hs
  ·cases hs
 ·cases hs
theorem append_wp {x y:Operand}{T tx:TypeId}(hop:o.op=.call { callee:=.builtin .append,args:=#[x,y],argTypes:=#[T,tx] }){v:Value}{w':World}(h:(Builtin.append_ #[T,tx] o.type #[a.eval x,a.eval y]).run P w=.ok v w'):(execOp a.eval o).run P w=.ok (.value v) w':=by
 simp only [execOp,hop,resolve,invoke,builtin,Sem.run_bind,Sem.run_pure,Result.andThen_ok,List.map_toArray,List.map_cons,List.map_nil,h]
theorem r_app0 {T tx e:TypeId}{sz bytes:Nat}{x y:Operand}{v vy:V}(hop:o.op=.call { callee:=.builtin .append,args:=#[x,y],argTypes:=#[T,tx] })(hT:Cf P T=some (e,sz,bytes))(hx:Am s x=some v)(hv:(∃id off n c,v=.sl id off sz n c)∨v=.sc (.slice none 0 0))(hy:Am s y=some vy)(hk:srcKind P tx vy)(hs:srcV s.h sz vy=some (0,[]))
 (hb:∀id off n c,v=.sl id off sz n c→∃cs,s.h id=some (.cells cs)∧off+n*sz≤cs.length) {d:Nat} (hdst:o.dst=some d) (hd:d<N):Step P N o s (s.put (some d) v):=
 CJ hdst hd fun base w0 π a w hr=>by
  obtain ⟨i,z,h1,h2,h3,h4,h5,h6,h7,h8⟩:=Ed hT
  subst h4
  obtain ⟨news,k1,k2⟩:=hr.src hy hk hs
  rw [AB] at k2;injection k2 with k2;subst k2
  refine ⟨a.eval x,append_wp hop ?_,hr.get hx⟩
  have hl0:=k1.len w
  have hc0:=k1.cells
  rcases hv with ⟨id,off,n,c,rfl⟩ | rfl
  ·obtain ⟨cs,hcs,hle⟩:=hb id off n c rfl
   obtain ⟨p,hp,q1,q2,q3,q4,q5⟩:=sl_conc (hr.get hx)
   obtain ⟨p',hp',hat⟩:=hr.at hcs
   rw [hp] at hp';injection hp' with hp';subst hp'
   obtain ⟨arr,e',us,g1,g2,g3,g4,g5,g6⟩:=hat
   rw [q5]
   have hrun:=run_append_off (P:=P) (ty:=o.type) (o:=p.base+off) h1 h2 g1 k1 (sLen:=n) (sCap:=capOf p off c) (by omega) (by rw [g2];simp only [List.length_nil];omega)
   rw [hrun]
   simp only [List.append_nil,List.length_nil,Nat.add_zero,List.take_append_drop,Array.toArray_toList]
   rw [setRow_self w p.b arr e' (0,0) g1]
  ·have e0:=hr.getV hx rfl
   rw [e0]
   rcases k1.kind with ⟨e',hk⟩ | hk<;>simp [Builtin.append_,run_underlying h1,run_underlying hk,sizeOf,typeInfo,h2,hl0,hc0]
theorem r_appR {T tx e:TypeId}{sz bytes id off n c m:Nat}{x y:Operand}{vy:V}{cs ds:List V}(hop:o.op=.call { callee:=.builtin .append,args:=#[x,y],argTypes:=#[T,tx] })(hT:Cf P T=some (e,sz,bytes))(hx:Am s x=some (.sl id off sz n (some c)))(hy:Am s y=some vy)(hk:srcKind P tx vy)(hs:srcV s.h sz vy=some (m,ds))
 (hb:s.h id=some (.cells cs)) (hle:off+n*sz≤cs.length) (hroom:n+m≤c) {d:Nat} (hdst:o.dst=some d) (hd:d<N):Step P N o s { (s.put (some d) (.sl id off sz (n+m) (some c))) with h:=hset s.h id (some (.cells (patchV cs (off+n*sz) ds))),n:=s.n }:=
 step_mem hdst hd fun base w0 π a w hr=>by
  obtain ⟨i,z,h1,h2,h3,h4,h5,h6,h7,h8⟩:=Ed hT
  subst h4
  obtain ⟨news,k1,k2⟩:=hr.src hy hk hs
  obtain ⟨p,hp,q1,q2,q3,q4,q5⟩:=sl_conc (hr.get hx)
  obtain ⟨p',hp',hat,hbase,_⟩:=hr.mem.place id _ hb
  rw [hp] at hp';injection hp' with hp';subst hp'
  have hnl:=k1.newsLen
  have hcap:capOf p off (some c)=c:=rfl
  rw [hcap,q1] at q3
  have hmul:(n+m)*i.size≤c*i.size:=Nat.mul_le_mul_right _ hroom
  rw [Nat.add_mul] at hmul
  obtain ⟨arr,e',g1,g2,g3⟩:=hat.write (off:=off+n*i.size) k2 k1.one hle (by rw [hnl];omega)
  have hrun:=run_append_off (P:=P) (ty:=o.type) (o:=p.base+off) h1 h2 g1 k1 (sLen:=n) (sCap:=c) hroom (by rw [g2,hnl];omega)
  rw [Nat.add_assoc p.base] at hrun
  have hoth:∀k,k≠p.b→(w.setRow p.b (arr.toList.take (p.base+(off+n*i.size))++news++arr.toList.drop (p.base+(off+n*i.size)+news.length)).toArray).heap[k]? = w.heap[k]? := fun k hk=>setRow_other w _ k _ hk
  refine ⟨.slice (some ⟨p.b,p.base+off,none⟩) (n+m) c,_,π,append_wp hop (by rw [q5,hcap];exact hrun),π.le_refl,hr.mem.update hb rfl hp hoth (by simp) ⟨rfl,rfl,rfl,by simp,fun k hk=>hoth k (by have:=hbase rfl;omega)⟩ g3 rfl,?_⟩
  exact conc_sl (c:=some c) hp ⟨q1,hroom,by rw [hcap,q1];exact q3,q4⟩
theorem grow_run (hr:Rel base N w0 π s a w){T tx e:TypeId}{sz bytes n m cap:Nat}{x y:Operand}{vy:V}{olds:List V}{ds:List V}{ad:Option Addr}{us:List Value}(hT:Cf P T=some (e,sz,bytes))(hx:a.eval x=.slice ad n cap)(hold:(Builtin.firstCells sz n (.slice ad n cap)).run P w.drew=.ok us.toArray w.drew)(hus:AB π olds=some us)(huo:∀u∈us,u.oneCell'=true)(hul:us.length=n*sz)
 (hy:Am s y=some vy) (hk:srcKind P tx vy) (hs:srcV s.h sz vy=some (m,ds)) (hgt:cap<n+m) (hm:n+m≤maxLen) (hby:(n+m)*bytes≤140737488355328) (ty:TypeId) :
 ∃v w' q,(Builtin.append_ #[T,tx] ty #[a.eval x,a.eval y]).run P w=.ok v w'∧π.le (π.put s.n q)∧Mem base w0 (π.put s.n q) (hset s.h s.n (some (.cells (olds++ds)))) (s.n+1) w'∧Ak (π.put s.n q) (.sl s.n 0 sz (n+m) none)=some v:=by
 obtain ⟨i,z,h1,h2,h3,h4,h5,h6,h7,h8⟩:=Ed hT
 subst h4
 obtain ⟨news,k1,k2⟩:=hr.src hy hk hs
 have hnl:=k1.newsLen
 have hrun:=run_append_grow_src (P:=P) w T tx ty e i z h1 h2 h3 ad n cap us hold (a.eval y) m news k1 hgt (by simp only [maxLen] at hm;omega) (growslice_fits hgt (by rw [h5];exact hby))
 rw [←hx] at hrun
 have hge:=grownCap_ge w (n+m) cap e
 have hcm:=grownCap_le_maxLen w (n+m) cap e hm
 have hsz:((us++news).toArray++Builtin.zeroCells z.cells (grownCap w (n+m) cap e-(n+m))).size=grownCap w (n+m) cap e*i.size:=by
  simp only [Array.size_append,List.size_toArray,size_zeroCells,h6,List.length_append]
  rw [hul,hnl,←Nat.add_mul,←Nat.add_mul]
  congr 1;omega
 have hmd:=hr.mem.keep (w':=w.drew) (Below.refl _ _).drew
 have hle:=Pi.le_put (p:=⟨w.heap.size,0,grownCap w (n+m) cap e*i.size,i.size⟩) (hr.mem.fresh s.n (Nat.le_refl _))
 have hcc:=concL_append hus k2
 refine ⟨_,_,⟨w.heap.size,0,grownCap w (n+m) cap e*i.size,i.size⟩,hrun,hle,hmd.new rfl ⟨_,e,us++news,heap_alloc_new w.drew _,by rw [hsz];simp,concL_le hle hcc,fun u hu=>?_,?_,fun j u hj=>?_⟩ rfl,?_⟩
 ·rcases List.mem_append.1 hu with hu | hu
  ·exact huo u hu
  ·exact k1.one u hu
 ·have:=Ec hcc
  rw [←this,List.length_append,hul,hnl,←Nat.add_mul]
  exact Nat.mul_le_mul_right _ hge
 ·simp only [Array.toList_append,Nat.zero_add]
  rw [List.getElem?_append_left (by simpa using (List.getElem?_eq_some_iff.1 hj).1)]
  simpa using hj
 ·have hcap:capOf ⟨w.heap.size,0,grownCap w (n+m) cap e*i.size,i.size⟩ 0 none=grownCap w (n+m) cap e:=by
   show (grownCap w (n+m) cap e*i.size-0) / i.size=_
   rw [Nat.sub_zero,Nat.mul_div_cancel _ h7]
  rw [conc_sl (c:=none) (Pi.DZ ..) ⟨rfl,by rw [hcap];exact hge,by rw [hcap];show 0+grownCap w (n+m) cap e*i.size≤grownCap w (n+m) cap e*i.size;omega,by rw [hcap];exact hcm⟩,hcap]
theorem r_appN {T tx e:TypeId}{sz bytes m:Nat}{x y:Operand}{vy:V}{ds:List V}(hop:o.op=.call { callee:=.builtin .append,args:=#[x,y],argTypes:=#[T,tx] })(hT:Cf P T=some (e,sz,bytes))(hx:Am s x=some (.sc (.slice none 0 0)))(hy:Am s y=some vy)(hk:srcKind P tx vy)(hs:srcV s.h sz vy=some (m,ds))
 (hpos:0<m) (hm:m≤maxLen) (hby:m*bytes≤140737488355328) {d:Nat} (hdst:o.dst=some d) (hd:d<N):Step P N o s { (s.put (some d) (.sl s.n 0 sz m none)) with h:=hset s.h s.n (some (.cells ds)),n:=s.n+1 }:=
 step_mem hdst hd fun base w0 π a w hr=>by
  obtain ⟨v,w',q,r1,r2,r3,r4⟩:=grow_run (P:=P) hr (olds:=[]) (us:=[]) (n:=0) (cap:=0) hT (hr.getV hx rfl) (run_firstCells_none (P:=P) w.drew sz 0 0 0) (by rw [AB]) (by simp) (by simp) hy hk hs (by omega) (by omega) (by rw [Nat.zero_add];exact hby) o.type
  rw [Nat.zero_add] at r4
  exact ⟨v,w',_,append_wp hop r1,r2,r3,r4⟩
theorem r_appG {T tx e:TypeId}{sz bytes id off n c m:Nat}{x y:Operand}{vy:V}{b:Blk}{cs ds:List V}(hop:o.op=.call { callee:=.builtin .append,args:=#[x,y],argTypes:=#[T,tx] })(hT:Cf P T=some (e,sz,bytes))(hx:Am s x=some (.sl id off sz n (some c)))(hy:Am s y=some vy)(hk:srcKind P tx vy)(hs:srcV s.h sz vy=some (m,ds))
 (hb:s.h id=some b) (hbc:b.cs=some cs) (hle:off+n*sz≤cs.length) (hgt:c<n+m) (hm:n+m≤maxLen) (hby:(n+m)*bytes≤140737488355328) {d:Nat} (hdst:o.dst=some d) (hd:d<N) :
 Step P N o s { (s.put (some d) (.sl s.n 0 sz (n+m) none)) with h:=hset s.h s.n (some (.cells ((cs.drop off).take (n*sz)++ds))),n:=s.n+1 }:=
 step_mem hdst hd fun base w0 π a w hr=>by
  obtain ⟨p,hp,q1,q2,q3,q4,q5⟩:=sl_conc (hr.get hx)
  obtain ⟨p',hp',hat⟩:=hr.at hb
  rw [hp] at hp';injection hp' with hp';subst hp'
  obtain ⟨us,f1,f2,f3⟩:=hat.cells hbc
  have hul:=Ec f1
  have hl:((us.drop off).take (n*sz)).length=n*sz:=by rw [List.length_take,List.length_drop];omega
  obtain ⟨v,w',q,r1,r2,r3,r4⟩:=grow_run (P:=P) hr (us:=(us.drop off).take (n*sz)) hT q5 (run_firstCells_some (P:=P) w.drew sz n ⟨p.b,p.base+off,none⟩ n _ _ hl (fun j u hu=>by
   rw [List.getElem?_take] at hu
   split at hu
   ·rw [List.getElem?_drop] at hu
    rw [add_spot,Nat.add_assoc]
    exact f3 _ u hu
   ·cases hu)) (concL_take _ (concL_drop _ f1)) (fun u hu=>f2 u (List.mem_of_mem_drop (List.mem_of_mem_take hu))) hl hy hk hs hgt hm hby o.type
  exact ⟨v,w',_,append_wp hop r1,r2,r3,r4⟩
theorem r_appU {T tx e:TypeId}{sz bytes id off n m:Nat}{x y:Operand}{vy:V}{cs ds:List V}(hop:o.op=.call { callee:=.builtin .append,args:=#[x,y],argTypes:=#[T,tx] })(hT:Cf P T=some (e,sz,bytes))(hx:Am s x=some (.sl id off sz n none))(hy:Am s y=some vy)(hk:srcKind P tx vy)(hs:srcV s.h sz vy=some (m,ds))
 (hb:s.h id=some (.cells cs)) (hle:off+n*sz≤cs.length) (hm:n+m≤maxLen) (hby:(n+m)*bytes≤140737488355328) {d:Nat} (hdst:o.dst=some d) (hd:d<N) :
 Step P N o s { (s.put (some d) (.sl s.n 0 sz (n+m) none)) with h:=hset (hset s.h id none) s.n (some (.cells ((cs.drop off).take (n*sz)++ds))),n:=s.n+1 }:=
 step_mem hdst hd fun base w0 π a w hr=>by
  obtain ⟨p,hp,q1,q2,q3,q4,q5⟩:=sl_conc (hr.get hx)
  obtain ⟨p',hp',hat,hbase,_⟩:=hr.mem.place id _ hb
  rw [hp] at hp';injection hp' with hp';subst hp'
  obtain ⟨us,f1,f2,f3⟩:=hat.cells (cs:=cs) rfl
  have hul:=Ec f1
  have hl:((us.drop off).take (n*sz)).length=n*sz:=by rw [List.length_take,List.length_drop];omega
  by_cases hroom:n+m≤capOf p off none
  ·obtain ⟨i,z,h1,h2,h3,h4,h5,h6,h7,h8⟩:=Ed hT
   subst h4
   obtain ⟨news,k1,k2⟩:=hr.src hy hk hs
   have hnl:=k1.newsLen
   rw [q1] at q3
   have hmul:(n+m)*i.size≤capOf p off none*i.size:=Nat.mul_le_mul_right _ hroom
   rw [Nat.add_mul] at hmul
   obtain ⟨arr,e',g1,g2,g3⟩:=hat.write (off:=off+n*i.size) k2 k1.one hle (by rw [hnl];omega)
   have hrun:=run_append_off (P:=P) (ty:=o.type) (o:=p.base+off) h1 h2 g1 k1 (sLen:=n) (sCap:=capOf p off none) hroom (by rw [g2,hnl];omega)
   rw [Nat.add_assoc p.base] at hrun
   have hoth:∀k,k≠p.b→(w.setRow p.b (arr.toList.take (p.base+(off+n*i.size))++news++arr.toList.drop (p.base+(off+n*i.size)+news.length)).toArray).heap[k]? = w.heap[k]? := fun k hk=>setRow_other w _ k _ hk
   have hfr:=hr.mem.fresh s.n (Nat.le_refl _)
   have hle2:=Pi.le_put (p:=⟨p.b,p.base+off,p.room-off,i.size⟩) hfr
   have hcap:capOf ⟨p.b,p.base+off,p.room-off,i.size⟩ 0 none=capOf p off none:=by
    show (p.room-off-0) / i.size=(p.room-off) / p.sz
    rw [Nat.sub_zero,q1]
   obtain ⟨arr2,e2,us2,m1,m2,m3,m4,m5,m6⟩:=g3
   refine ⟨.slice (some ⟨p.b,p.base+off,none⟩) (n+m) (capOf p off none),_,π.put s.n ⟨p.b,p.base+off,p.room-off,i.size⟩,append_wp hop (by rw [q5];exact hrun),hle2,hr.mem.regrow hb rfl hp rfl hoth (by simp) ⟨rfl,rfl,rfl,by simp,fun k hk=>hoth k (by have:=hbase rfl;omega)⟩ ?_ rfl,?_⟩
   ·have hcc:=concL_append (concL_take (n*i.size) (concL_drop off f1)) k2
    refine ⟨arr2,e2,_,m1,by rw [m2];show _=p.base+off+(p.room-off);omega,concL_le hle2 hcc,fun u hu=>?_,?_,fun j u hj=>?_⟩
    ·rcases List.mem_append.1 hu with hu | hu
     ·exact f2 u (List.mem_of_mem_drop (List.mem_of_mem_take hu))
     ·exact k1.one u hu
    ·have:=Ec hcc
     rw [←this,List.length_append,hl,hnl]
     show _≤p.room-off
     omega
    ·have hp2:=concL_patch f1 k2 (off+n*i.size)
     rw [hp2] at m3;injection m3 with m3
     have:us2[off+j]? = some u:=by
      rw [←m3]
      by_cases c1:j<n*i.size
      ·rw [List.getElem?_append_left (by rw [hl];exact c1),List.getElem?_take,if_pos c1,List.getElem?_drop] at hj
       rw [List.append_assoc,List.getElem?_append_left (by rw [List.length_take];omega),List.getElem?_take,if_pos (by omega)]
       exact hj
      ·have hj2:=(List.getElem?_eq_some_iff.1 hj).1
       rw [List.length_append,hl] at hj2
       rw [List.getElem?_append_right (by rw [hl];omega),hl] at hj
       rw [List.append_assoc,List.getElem?_append_right (by rw [List.length_take];omega),List.getElem?_append_left (by rw [List.length_take];omega)]
       rw [←hj];congr 1
       rw [List.length_take];omega
     have:=m6 _ u this
     rw [←Nat.add_assoc] at this
     exact this
   ·rw [conc_sl (c:=none) (Pi.DZ ..) ⟨rfl,by rw [hcap];exact hroom,by rw [hcap];show 0 + _≤p.room-off;show 0+capOf p off none*i.size≤p.room-off;omega,by rw [hcap];exact q4⟩,hcap]
    rfl
  ·obtain ⟨v,w',q,r1,r2,r3,r4⟩:=grow_run (P:=P) hr (us:=(us.drop off).take (n*sz)) hT q5 (run_firstCells_some (P:=P) w.drew sz n ⟨p.b,p.base+off,none⟩ n _ _ hl (fun j u hu=>by
    rw [List.getElem?_take] at hu
    split at hu
    ·rw [List.getElem?_drop] at hu
     rw [add_spot,Nat.add_assoc]
     exact f3 _ u hu
    ·cases hu)) (concL_take _ (concL_drop _ f1)) (fun u hu=>f2 u (List.mem_of_mem_drop (List.mem_of_mem_take hu))) hl hy hk hs (by omega) hm hby o.type
   refine ⟨v,w',_,append_wp hop r1,r2,?_,r4⟩
   have hne:id≠s.n:=by
    rintro rfl
    rw [hr.mem.fresh s.n (Nat.le_refl _)] at hp;cases hp
   have hk2:=r3.kill id
   have:hset (hset s.h s.n (some (.cells ((cs.drop off).take (n*sz)++ds)))) id none=hset (hset s.h id none) s.n (some (.cells ((cs.drop off).take (n*sz)++ds))):=by
    funext k
    unfold hset
    by_cases e1:k=id
    ·subst e1;rw [if_pos rfl,if_neg hne,if_pos rfl]
    ·by_cases e2:k=s.n
     ·subst e2;rw [if_neg e1,if_pos rfl,if_pos rfl]
     ·rw [if_neg e1,if_neg e2,if_neg e2,if_neg e1]
   rw [this] at hk2
   exact hk2
end
end Go.Rn
end
section
namespace Go.Rn
open Go.RowKit
open Go.Vm (AX CV Bo ED isAggD run_isAgg Dj ER Cf Ed Ef run_bound)
set_option linter.unusedSectionVars false
variable [Cx]
theorem run_partV {P:Program}{π:Pi}{w:World}{T:TypeId}{arr:Array Value}{cs:List V}{sh:Bool×Nat}{off:Nat}{v:V}(hsh:Bo P T=some sh)(h:AB π cs=some arr.toList)(ho:∀u∈arr.toList,u.oneCell'=true)(hp:partV sh cs off=some v) :
 ∃u,(part T arr off).run P w=.ok u w∧Ak π v=some u:=by
 obtain ⟨ag,n⟩:=sh
 obtain ⟨i,dd,h1,h2,h3,h4⟩:=ED hsh
 have hagg:=run_isAgg (w:=w) h2
 rw [h3] at hagg
 rcases part_conc h ho hp with ⟨e,hle,hv⟩ | ⟨e,u,hu,hv⟩
 ·simp only at e hle hv;subst e
  refine ⟨_,?_,hv⟩
  have:arr.extract off (off+n)=((arr.toList.drop off).take n).toArray:=by
   apply Array.ext'
   simp [List.take_drop]
  simp [part,Sem.run_bind,hagg,sizeOf,typeInfo,h1,h4,this]
 ·simp only at e;subst e
  refine ⟨u,?_,hv⟩
  have hu':arr[off]? = some u:=by simpa using hu
  simp [part,Sem.run_bind,hagg,hu']
theorem agg_conc {π:Pi}{cs:List V}{u:Value}(h:Ak π (.agg cs)=some u):∃arr,u=.agg arr∧AB π cs=some arr.toList∧∀x∈arr.toList,x.oneCell'=true:=by
 have hc:=conc_cells h (by rintro _ ⟨⟩)
 rw [Ak] at h
 split at h
 ·obtain ⟨us,h1,rfl⟩:=Option.map_eq_some_iff.1 h
  exact ⟨us.toArray,rfl,by simpa using h1,by simpa [Value.cells] using hc.2⟩
 ·cases h
def fieldAt? (P:Program)(t:TypeId)(f:Nat):Option (Nat×(Bool×Nat)):=match P.underlying t with
 | some (.struct fs)=>match fs[f]? with
  | some g=>(Bo P g.type).map fun sh=>(g.offset,sh)
  | none=>none
 | _=>none
def arrFull (P:Program)(t:TypeId):Option (Nat×Nat×(Bool×Nat)):=match P.underlying t with
 | some (.array n e)=>match P.info? e,Bo P e with
  | some i,some sh=>some (n,i.size,sh)
  | _,_=>none
 | _=>none
section
variable {P:Program} {N base n:Nat} {w0 w w':World} {π π':Pi} {s s':St} {a:Act} {o:Oper}
theorem r_field {T:TypeId}{x:Operand}{f off:Nat}{sh:Bool×Nat}{cs:List V}{v:V}(hop:o.op=.field T x f)(hx:Am s x=some (.agg cs))(hf:fieldAt? P T f=some (off,sh))(hp:partV sh cs off=some v){d:Nat}(hdst:o.dst=some d)(hd:d<N):Step P N o s (s.put (some d) v):=
 CJ hdst hd fun base w0 π a w hr=>by
  obtain ⟨arr,e,h1,h2⟩:=agg_conc (hr.get hx)
  unfold fieldAt? at hf
  split at hf
  ·rename_i fs hu
   split at hf
   ·rename_i g hg
    obtain ⟨sh',h3,h4⟩:=Option.map_eq_some_iff.1 hf
    injection h4 with h4 h5;subst h4 h5
    obtain ⟨u,h6,h7⟩:=run_partV (P:=P) (w:=w) h3 h1 h2 hp
    exact ⟨u,by simp [execOp,hop,e,Instr.field,run_underlying hu,hg,asAgg,h6],h7⟩
   ·cases hf
  ·cases hf
theorem arrFull_parts {T:TypeId}{n sz:Nat}{sh:Bool×Nat}(h:arrFull P T=some (n,sz,sh)):∃e i,P.underlying T=some (.array n e)∧P.info? e=some i∧i.size=sz∧Bo P e=some sh:=by
 unfold arrFull at h
 split at h
 ·rename_i m e hu
  split at h
  ·rename_i i sh' hi hsh
   injection h with h;injection h with h1 h;injection h with h2 h3
   subst h1 h2 h3
   exact ⟨e,i,hu,hi,rfl,hsh⟩
  ·cases h
 ·cases h
theorem r_index {T:TypeId}{x ix:Operand}{k:IntKind}{i n sz:Nat}{sh:Bool×Nat}{cs:List V}{v:V}(hop:o.op=.index T x ix)(hx:Am s x=some (.agg cs))(hi:Am s ix=some (.sc (.int k (i:Int))))(hT:arrFull P T=some (n,sz,sh))(hlt:i<n)(hp:partV sh cs (i*sz)=some v){d:Nat}(hdst:o.dst=some d)(hd:d<N):Step P N o s (s.put (some d) v):=
 CJ hdst hd fun base w0 π a w hr=>by
  obtain ⟨arr,e,h1,h2⟩:=agg_conc (hr.get hx)
  obtain ⟨el,inf,q1,q2,q3,q4⟩:=arrFull_parts hT
  have e2:=hr.getV hi rfl
  obtain ⟨u,h6,h7⟩:=run_partV (P:=P) (w:=w) q4 h1 h2 hp
  refine ⟨u,?_,h7⟩
  have h9:(i:Int)<n:=by omega
  simp [execOp,hop,e,e2,Instr.index,asIntOf,run_underlying q1,sizeOf,typeInfo,q2,q3,h6]
  intro hbad;omega
theorem r_char {T:TypeId}{x ix:Operand}{k:IntKind}{i:Nat}{st:ByteArray}{b:UInt8}(hop:o.op=.index T x ix)(hx:Am s x=some (.sc (.string st)))(hi:Am s ix=some (.sc (.int k (i:Int))))(hT:P.underlying T=some .string)(hb:st[i]? = some b){d:Nat}(hdst:o.dst=some d)(hd:d<N):Step P N o s (s.put (some d) (.sc (.int .u8 b.toNat))):=
 CJ hdst hd fun base w0 π a w hr=>by
  have e1:=hr.getV hx rfl
  have e2:=hr.getV hi rfl
  exact ⟨.int .u8 b.toNat,by simp [execOp,hop,e1,e2,Instr.index,asIntOf,run_underlying hT,hb],by rw [Ak,if_pos (by rfl)]⟩
theorem r_ixS {T:TypeId}{x ix:Operand}{k:IntKind}{i id off sz sz' n:Nat}{c:Option Nat}(hop:o.op=.indexAddr T x ix)(hx:Am s x=some (.sl id off sz n c))(hi:Am s ix=some (.sc (.int k (i:Int))))(hT:Dj P T=some sz')(hlt:i<n){d:Nat}(hdst:o.dst=some d)(hd:d<N):Step P N o s (s.put (some d) (.ptr id (off+i*sz'))):=
 CJ hdst hd fun base w0 π a w hr=>by
  obtain ⟨p,hp,q1,q2,q3,q4,q5⟩:=sl_conc (hr.get hx)
  have e2:=hr.getV hi rfl
  obtain ⟨e,inf,hu,hinf,hs⟩:=ER hT
  subst hs
  refine ⟨.pointer (some ⟨p.b,p.base+off+i*inf.size,none⟩),?_,by rw [Ak,hp,Nat.add_assoc]⟩
  have h9:(i:Int)<n:=by omega
  simp [execOp,hop,q5,e2,Instr.indexAt,asIntOf,run_underlying hu,sizeOf,typeInfo,hinf,Addr.add_lit]
  intro hbad;omega
theorem r_ixA {T:TypeId}{x ix:Operand}{k:IntKind}{i id off n sz:Nat}(hop:o.op=.indexAddr T x ix)(hx:Am s x=some (.ptr id off))(hi:Am s ix=some (.sc (.int k (i:Int))))(hT:Ef P T=some (n,sz))(hlt:i<n){d:Nat}(hdst:o.dst=some d)(hd:d<N):Step P N o s (s.put (some d) (.ptr id (off+i*sz))):=
 CJ hdst hd fun base w0 π a w hr=>by
  have h:=hr.get hx
  rw [Ak] at h
  split at h
  ·rename_i p hp
   injection h with h
   have e2:=hr.getV hi rfl
   unfold Ef at hT
   split at hT
   ·rename_i m e hu
    obtain ⟨inf,hinf,h4⟩:=Option.map_eq_some_iff.1 hT
    injection h4 with h4 h5;subst h4 h5
    refine ⟨.pointer (some ⟨p.b,p.base+off+i*inf.size,none⟩),?_,by rw [Ak,hp,Nat.add_assoc]⟩
    have h9:(i:Int)<m:=by omega
    simp [execOp,hop,←h,e2,Instr.indexAt,asIntOf,run_underlying hu,Instr.sureAddr,sizeOf,typeInfo,hinf,Addr.add_lit]
    intro hbad;omega
   ·cases hT
  ·cases h
def bndV (s:St)(x:Option Operand)(dflt:Nat):Option Nat:=match x with
 | none=>some dflt
 | some y=>match Am s y with
  | some (.sc (.int _ i))=>if 0≤i then some i.toNat else none
  | _=>none
theorem Rel.bound (hr:Rel base N w0 π s a w){x:Operand}{n l:Nat}(hb:bndV s (some x) n=some l):∃k i,a.eval x=.int k i∧0≤i∧i.toNat=l:=by
 unfold bndV at hb
 simp only at hb
 split at hb
 ·rename_i k i hv
  split at hb
  ·rename_i h0
   injection hb with hb
   exact ⟨k,i,hr.getV hv rfl,h0,hb⟩
  ·cases hb
 ·cases hb
theorem run_boundsV (hs:Rel base N w0 π s a w){isS:Bool}{len cap:Nat}{lo hi:Option Operand}{l h:Nat}(hl:bndV s lo 0=some l)(hh:bndV s hi len=some h)(h1:l≤h)(h2:h≤cap) :
 (Instr.sliceBounds isS len cap (lo.map a.eval) (hi.map a.eval) none).run P w=.ok (l,h,cap) w:=by
 cases hi with
 | none=>
  simp only [bndV,Option.some.injEq] at hh;subst hh
  cases lo with
  | none=>simp only [bndV,Option.some.injEq] at hl;subst hl;simp [Instr.sliceBounds]
  | some x=>
   obtain ⟨k,i,e1,e2,e3⟩:=hs.bound hl
   have hr:=run_bound (P:=P) (w:=w) (code:=.sliceB) e1 e2 (y:=len) (by omega)
   simp [Instr.sliceBounds,hr,e3]
 | some y=>
  obtain ⟨k',i',f1,f2,f3⟩:=hs.bound hh
  have hr':=run_bound (P:=P) (w:=w) (code:=if isS then .sliceAcap else .sliceAlen) f1 f2 (y:=cap) (by omega)
  cases lo with
  | none=>simp only [bndV,Option.some.injEq] at hl;subst hl;simp [Instr.sliceBounds,hr',f3]
  | some x=>
   obtain ⟨k,i,e1,e2,e3⟩:=hs.bound hl
   have hr:=run_bound (P:=P) (w:=w) (code:=.sliceB) e1 e2 (y:=h) (by omega)
   simp [Instr.sliceBounds,hr',f3,hr,e3]
theorem run_bounds3 (hs:Rel base N w0 π s a w){len cap:Nat}{lo:Option Operand}{y z:Operand}{l h m:Nat}(hl:bndV s lo 0=some l)(hh:bndV s (some y) len=some h)(hm:bndV s (some z) len=some m)(h1:l≤h)(h2:h≤m)(h3:m≤cap) :
 (Instr.sliceBounds true len cap (lo.map a.eval) (some (a.eval y)) (some (a.eval z))).run P w=.ok (l,h,m) w:=by
 obtain ⟨k',i',f1,f2,f3⟩:=hs.bound hh
 obtain ⟨k'',i'',g1,g2,g3⟩:=hs.bound hm
 have hr'':=run_bound (P:=P) (w:=w) (code:=.slice3Acap) g1 g2 (y:=cap) (by omega)
 have hr':=run_bound (P:=P) (w:=w) (code:=.slice3B) f1 f2 (y:=m) (by omega)
 cases lo with
 | none=>simp only [bndV,Option.some.injEq] at hl;subst hl;simp [Instr.sliceBounds,hr',f3,hr'',g3]
 | some x=>
  obtain ⟨k,i,e1,e2,e3⟩:=hs.bound hl
  have hr:=run_bound (P:=P) (w:=w) (code:=.slice3C) e1 e2 (y:=h) (by omega)
  simp [Instr.sliceBounds,hr',f3,hr,e3,hr'',g3]
theorem r_substr {T:TypeId}{x:Operand}{lo hi:Option Operand}{st:ByteArray}{l h:Nat}(hop:o.op=.slice T x lo hi none)(hx:Am s x=some (.sc (.string st)))(hT:P.underlying T=some .string)(hl:bndV s lo 0=some l)(hh:bndV s hi st.size=some h)(h1:l≤h)(h2:h≤st.size){d:Nat}(hdst:o.dst=some d)(hd:d<N):Step P N o s (s.put (some d) (.sc (.string (st.extract l h)))):=
 CJ hdst hd fun base w0 π a w hr=>by
  have e1:=hr.getV hx rfl
  have hb:=run_boundsV (P:=P) hr (isS:=false) (len:=st.size) (cap:=st.size) hl hh h1 h2
  exact ⟨.string (st.extract l h),by simp [execOp,hop,Instr.sliceAt,run_underlying hT,Instr.slice,e1,hb],by rw [Ak,if_pos (by rfl)]⟩
theorem r_slice {T:TypeId}{x:Operand}{lo hi:Option Operand}{id off sz n l h:Nat}{c:Option Nat}(hop:o.op=.slice T x lo hi none)(hx:Am s x=some (.sl id off sz n c))(hT:Dj P T=some sz)(hl:bndV s lo 0=some l)(hh:bndV s hi n=some h)(h1:l≤h)(h2:h≤n∨∃k,c=some k∧h≤k)(h3:l=0∨l<n∨∃k,c=some k∧l<k)(h0:0<sz){d:Nat}(hdst:o.dst=some d)(hd:d<N):Step P N o s (s.put (some d) (.sl id (off+l*sz) sz (h-l) (c.map (· - l)))):=
 CJ hdst hd fun base w0 π a w hr=>by
  obtain ⟨p,hp,q1,q2,q3,q4,q5⟩:=sl_conc (hr.get hx)
  obtain ⟨e,inf,hu,hinf,hs⟩:=ER hT
  have hcap:h≤capOf p off c:=by
   rcases h2 with h2 | ⟨k,rfl,h2⟩
   ·omega
   ·exact h2
  have hb:=run_boundsV (P:=P) hr (isS:=true) (len:=n) (cap:=capOf p off c) hl hh h1 hcap
  have hlc:l=0∨l<capOf p off c:=by
   rcases h3 with h3 | h3 | ⟨k,rfl,h3⟩
   ·exact .inl h3
   ·exact .inr (by omega)
   ·exact .inr h3
  have hmul:l*sz≤capOf p off c*sz:=Nat.mul_le_mul_right _ (by omega)
  rw [q1] at q3
  have hcap2:capOf p (off+l*sz) (c.map (· - l))=capOf p off c-l:=by
   cases c with
   | some k=>rfl
   | none=>
    show (p.room-(off+l*sz)) / p.sz=(p.room-off) / p.sz-l
    rw [q1,Nat.sub_add_eq,Nat.mul_comm l sz,Nat.sub_mul_div]
  refine ⟨.slice (some ⟨p.b,p.base+(off+l*sz),none⟩) (h-l) (capOf p off c-l),?_,?_⟩
  ·subst hs
   have hz:(if capOf p off c=l then (⟨p.b,p.base+off,none⟩:Addr) else (⟨p.b,p.base+off,none⟩:Addr).add (l*inf.size))=⟨p.b,p.base+(off+l*inf.size),none⟩:=by
    split
    ·rename_i e0
     have:l=0:=by omega
     subst this;simp
    ·rw [add_spot,Nat.add_assoc]
   simp [execOp,hop,Instr.sliceAt,run_underlying hu,Instr.slice,q5,hb,sizeOf,typeInfo,hinf]
   split
   ·rename_i e0;rw [if_pos e0] at hz;exact congrArg some hz
   ·rename_i e0;rw [if_neg e0] at hz;exact congrArg some hz
  ·rw [conc_sl hp ⟨q1,by rw [hcap2];omega,by rw [hcap2,q1,Nat.sub_mul];omega,by rw [hcap2];omega⟩,hcap2]
theorem r_sliceC {T:TypeId}{x:Operand}{lo hi:Option Operand}{id off sz n k:Nat}(hop:o.op=.slice T x lo hi none)(hx:Am s x=some (.sl id off sz n (some k)))(hT:Dj P T=some sz)(hl:bndV s lo 0=some k)(hh:bndV s hi n=some k)(h0:0<sz){d:Nat}(hdst:o.dst=some d)(hd:d<N):Step P N o s (s.put (some d) (.sl id off sz 0 (some 0))):=
 CJ hdst hd fun base w0 π a w hr=>by
  obtain ⟨p,hp,q1,q2,q3,q4,q5⟩:=sl_conc (hr.get hx)
  obtain ⟨e,inf,hu,hinf,hs⟩:=ER hT
  have hb:=run_boundsV (P:=P) hr (isS:=true) (len:=n) (cap:=capOf p off (some k)) hl hh (Nat.le_refl _) (Nat.le_refl _)
  have hc:capOf p off (some k)=k:=rfl
  rw [hc] at hb q5
  subst hs
  refine ⟨.slice (some ⟨p.b,p.base+off,none⟩) 0 0,?_,?_⟩
  ·simp [execOp,hop,Instr.sliceAt,run_underlying hu,Instr.slice,q5,hb,sizeOf,typeInfo,hinf]
  ·refine conc_sl (c:=some 0) hp ⟨q1,Nat.zero_le _,?_,Nat.zero_le _⟩
   rw [hc] at q3
   show off+0*p.sz≤p.room
   omega
theorem r_sliceE {T:TypeId}{x:Operand}{lo hi:Option Operand}{id off sz n:Nat}(hop:o.op=.slice T x lo hi none)(hx:Am s x=some (.sl id off sz n none))(hT:Dj P T=some sz)(hl:bndV s lo 0=some n)(hh:bndV s hi n=some n)(h0:0<sz){d:Nat}(hdst:o.dst=some d)(hd:d<N):Step P N o s { (s.put (some d) (.sl s.n 0 sz 0 none)) with h:=hset s.h s.n none,n:=s.n+1 }:=
 step_mem hdst hd fun base w0 π a w hr=>by
  obtain ⟨p,hp,q1,q2,q3,q4,q5⟩:=sl_conc (hr.get hx)
  obtain ⟨e,inf,hu,hinf,hs⟩:=ER hT
  have hb:=run_boundsV (P:=P) hr (isS:=true) (len:=n) (cap:=capOf p off none) hl hh (Nat.le_refl _) q2
  have hfr:=hr.mem.fresh s.n (Nat.le_refl _)
  have hlt:=hr.mem.lt id p hp
  have key:∀q:Pl,q.b=p.b→Mem base w0 (π.put s.n q) (hset s.h s.n none) (s.n+1) w:=fun q hq=>by
   have hle:=Pi.le_put (p:=q) hfr
   have hne:∀k c,s.h k=some c→k≠s.n:=by
    rintro k c hk rfl
    obtain ⟨q,h1,_⟩:=hr.mem.place _ c hk
    rw [hfr] at h1;cases h1
   refine ⟨fun k c hk=>?_,fun k k' c c' q1 q2 hk hk' r r' hq1 hq2 e=>?_,fun k hk=>?_,fun k r hk=>?_,hr.mem.below,hr.mem.size,hr.mem.ctx,fun x hx=>?_⟩
   rotate_left 4
   ·obtain ⟨x1,x2,x3⟩:=hr.mem.fl x hx
    refine ⟨x1,x2,fun k r hk=>?_⟩
    by_cases e:k=s.n
    ·subst e
     rw [Pi.DZ] at hk;injection hk with hk;subst hk
     rw [hq];exact x3 id p hp
    ·rw [Pi.put_ne e] at hk
     exact x3 k r hk
   ·unfold hset at hk;split at hk
    ·cases hk
    ·rename_i e
     obtain ⟨r,g1,g2,g3⟩:=hr.mem.place k c hk
     exact ⟨r,by rw [Pi.put_ne e];exact g1,g2.le hle,g3⟩
   ·unfold hset at hk hk'
    split at hk
    ·cases hk
    ·split at hk'
     ·cases hk'
     ·rename_i e1 e2
      rw [Pi.put_ne e1] at hq1
      rw [Pi.put_ne e2] at hq2
      exact hr.mem.sep k k' c c' q1 q2 hk hk' r r' hq1 hq2 e
   ·rw [Pi.put_ne (by omega)];exact hr.mem.fresh k (by omega)
   ·by_cases e:k=s.n
    ·subst e;rw [Pi.DZ] at hk;injection hk with hk;subst hk;rw [hq];exact hlt
    ·rw [Pi.put_ne e] at hk;exact hr.mem.lt k r hk
  subst hs
  by_cases hc:capOf p off none=n
  ·refine ⟨.slice (some ⟨p.b,p.base+off,none⟩) 0 0,w,π.put s.n ⟨p.b,p.base+off,0,inf.size⟩,?_,Pi.le_put hfr,key _ rfl,?_⟩
   ·rw [hc] at hb q5
    simp [execOp,hop,Instr.sliceAt,run_underlying hu,Instr.slice,q5,hb,sizeOf,typeInfo,hinf]
   ·have hcap:capOf ⟨p.b,p.base+off,0,inf.size⟩ 0 none=0:=by show (0-0) / inf.size=0;simp
    rw [conc_sl (Pi.DZ ..) ⟨rfl,Nat.zero_le _,by rw [hcap];simp,by rw [hcap];exact Nat.zero_le _⟩,hcap]
    rfl
  ·have hcap:capOf ⟨p.b,p.base+off+n*inf.size,(capOf p off none-n)*inf.size,inf.size⟩ 0 none=capOf p off none-n:=by
    show ((capOf p off none-n)*inf.size-0) / inf.size=_
    rw [Nat.sub_zero,Nat.mul_div_cancel _ h0]
   refine ⟨.slice (some ⟨p.b,p.base+off+n*inf.size,none⟩) 0 (capOf p off none-n),w,π.put s.n ⟨p.b,p.base+off+n*inf.size,(capOf p off none-n)*inf.size,inf.size⟩,?_,Pi.le_put hfr,key _ rfl,?_⟩
   ·simp [execOp,hop,Instr.sliceAt,run_underlying hu,Instr.slice,q5,hb,sizeOf,typeInfo,hinf,hc,add_spot]
   ·rw [conc_sl (Pi.DZ ..) ⟨rfl,Nat.zero_le _,by rw [hcap];simp,by rw [hcap];omega⟩,hcap]
    rfl
theorem r_slice3 {T:TypeId}{x y z:Operand}{lo:Option Operand}{id off sz n l h m:Nat}{c:Option Nat}(hop:o.op=.slice T x lo (some y) (some z))(hx:Am s x=some (.sl id off sz n c))(hT:Dj P T=some sz)(hl:bndV s lo 0=some l)(hh:bndV s (some y) n=some h)(hm:bndV s (some z) n=some m)(h1:l≤h)(h2:h≤m)(h3:m≤n){d:Nat}(hdst:o.dst=some d)(hd:d<N):Step P N o s (s.put (some d) (.sl id (if m=l then off else off+l*sz) sz (h-l) (some (m-l)))):=
 CJ hdst hd fun base w0 π a w hr=>by
  obtain ⟨p,hp,q1,q2,q3,q4,q5⟩:=sl_conc (hr.get hx)
  obtain ⟨e,inf,hu,hinf,hs⟩:=ER hT
  have hb:=run_bounds3 (P:=P) hr (len:=n) (cap:=capOf p off c) hl hh hm h1 h2 (by omega)
  have hmul:m*sz≤capOf p off c*sz:=Nat.mul_le_mul_right _ (by omega)
  have hmul2:l*sz≤m*sz:=Nat.mul_le_mul_right _ (by omega)
  rw [q1] at q3
  subst hs
  refine ⟨.slice (some ⟨p.b,p.base+(if m=l then off else off+l*inf.size),none⟩) (h-l) (m-l),?_,?_⟩
  ·by_cases hc:m=l
   ·simp [execOp,hop,Instr.sliceAt,run_underlying hu,Instr.slice,q5,hb,sizeOf,typeInfo,hinf,hc]
   ·simp [execOp,hop,Instr.sliceAt,run_underlying hu,Instr.slice,q5,hb,sizeOf,typeInfo,hinf,hc,add_spot,Nat.add_assoc]
  ·refine conc_sl (c:=some (m-l)) hp ⟨q1,by show h-l≤m-l;omega,?_,by show m-l≤_;omega⟩
   show (if m=l then off else off+l*inf.size)+(m-l)*p.sz≤p.room
   rw [q1,Nat.sub_mul]
   split<;>omega
theorem r_len {T e:TypeId}{x:Operand}{id off sz n:Nat}{c:Option Nat}(hop:o.op=.call { callee:=.builtin .len,args:=#[x],argTypes:=#[T] })(hx:Am s x=some (.sl id off sz n c))(hT:P.underlying T=some (.slice e)){d:Nat}(hdst:o.dst=some d)(hd:d<N):Step P N o s (s.put (some d) (.sc (.int .i64 n))):=
 CJ hdst hd fun base w0 π a w hr=>by
  obtain ⟨p,hp,q1,q2,q3,q4,q5⟩:=sl_conc (hr.get hx)
  exact ⟨.int .i64 n,by simp [execOp,hop,resolve,invoke,builtin,q5,Builtin.len_,run_underlying hT,goInt],by rw [Ak,if_pos (by rfl)]⟩
theorem r_len0 {T e:TypeId}{x:Operand}(hop:o.op=.call { callee:=.builtin .len,args:=#[x],argTypes:=#[T] })(hx:Am s x=some (.sc (.slice none 0 0)))(hT:P.underlying T=some (.slice e)){d:Nat}(hdst:o.dst=some d)(hd:d<N):Step P N o s (s.put (some d) (.sc (.int .i64 0))):=
 CJ hdst hd fun base w0 π a w hr=>by
  have e1:=hr.getV hx rfl
  exact ⟨.int .i64 0,by simp [execOp,hop,resolve,invoke,builtin,e1,Builtin.len_,run_underlying hT,goInt],by rw [Ak,if_pos (by rfl)]⟩
theorem r_lens {T:TypeId}{x:Operand}{st:ByteArray}(hop:o.op=.call { callee:=.builtin .len,args:=#[x],argTypes:=#[T] })(hx:Am s x=some (.sc (.string st)))(hT:P.underlying T=some .string){d:Nat}(hdst:o.dst=some d)(hd:d<N):Step P N o s (s.put (some d) (.sc (.int .i64 st.size))):=
 CJ hdst hd fun base w0 π a w hr=>by
  have e1:=hr.getV hx rfl
  exact ⟨.int .i64 st.size,by simp [execOp,hop,resolve,invoke,builtin,e1,Builtin.len_,run_underlying hT,goInt],by rw [Ak,if_pos (by rfl)]⟩
theorem r_lenA {T e:TypeId}{x:Operand}{n:Nat}(hop:o.op=.call { callee:=.builtin .len,args:=#[x],argTypes:=#[T] })(hT:P.underlying T=some (.array n e)){d:Nat}(hdst:o.dst=some d)(hd:d<N):Step P N o s (s.put (some d) (.sc (.int .i64 n))):=
 CJ hdst hd fun base w0 π a w hr=>⟨.int .i64 n,by simp [execOp,hop,resolve,invoke,builtin,Builtin.len_,run_underlying hT,goInt],by rw [Ak,if_pos (by rfl)]⟩
theorem r_eqnil {T T':TypeId}{x y:Operand}{v:V}{u:Value}{td:TypeDesc}{neg:Bool}(hop:o.op=.binOp (if neg then .neq else .eql) T x y T')(hx:Am s x=some v)(hy:Am s y=some (.sc u))(hn:notNil v u=true)(hT:P.underlying T=some td)(hk:match td,v with
      | .pointer _,.ptr _ _=>True
      | .map _ _,.mp _=>True
      | .slice _,.sl _ _ _ _ _=>True
      | .func _ _ _,.fn _ _=>True
      | _,_=>False) {d:Nat} (hdst:o.dst=some d) (hd:d<N):Step P N o s (s.put (some d) (.sc (.bool neg))):=
 CJ hdst hd fun base w0 π a w hr=>by
  have e2:=hr.getV hy rfl
  have h:=hr.get hx
  have key:∀z:Value,a.eval x=z→(eqGuard (if neg then .neq else .eql) T x y z u).run P w=.ok () w→(Op.equal T z u).run P w=.ok false w→(binOp (if neg then .neq else .eql) T z u=if neg then (do pure (.bool (!(←Op.equal T z u)))) else (do pure (.bool (←Op.equal T z u))))→(execOp a.eval o).run P w=.ok (.value (.bool neg)) w:=by
   intro z hz hg he hb
   simp only [execOp,hop,hz,e2,Sem.run_bind,hg,Result.andThen_ok,hb]
   cases neg<;>simp [he,Result.andThen]
  refine ⟨.bool neg,?_,by rw [Ak,if_pos (by rfl)]⟩
  cases v with
  | ptr id off=>
   rw [Ak] at h;split at h
   ·injection h with h
    cases u<;>try (cases hn;done)
    rename_i ad
    cases ad with
    | some _=>cases hn
    | none=>
     cases td<;>try (cases hk;done)
     refine key _ h.symm (by cases neg<;>rfl) ?_ (by cases neg<;>rfl)
     unfold Op.equal
     rw [show Op.maxDepth=9999+1 from rfl,Op.equalIn,Sem.run_bind,run_underlying hT w]
     rfl
   ·cases h
  | mp id=>
   rw [Ak] at h;split at h
   ·injection h with h
    cases u<;>try (cases hn;done)
    rename_i ad
    cases ad with
    | some _=>cases hn
    | none=>
     cases td<;>try (cases hk;done)
     refine key _ h.symm (by cases neg<;>rfl) ?_ (by cases neg<;>rfl)
     unfold Op.equal
     rw [show Op.maxDepth=9999+1 from rfl,Op.equalIn,Sem.run_bind,run_underlying hT w]
     rfl
   ·cases h
  | sl id off sz n c=>
   obtain ⟨p,hp,q1,q2,q3,q4,q5⟩:=sl_conc h
   cases u<;>try (cases hn;done)
   rename_i ad l2 c2
   cases ad with
   | some _=>cases hn
   | none=>
    cases td<;>try (cases hk;done)
    refine key _ q5 (by cases neg<;>rfl) ?_ (by cases neg<;>rfl)
    unfold Op.equal
    rw [show Op.maxDepth=9999+1 from rfl,Op.equalIn,Sem.run_bind,run_underlying hT w]
    rfl
  | fn f cs=>
   rw [Ak] at h
   obtain ⟨us,_,h⟩:=Option.map_eq_some_iff.1 h
   cases u<;>try (cases hn;done)
   cases td<;>try (cases hk;done)
   refine key _ h.symm (by cases neg<;>rfl) ?_ (by cases neg<;>rfl)
   unfold Op.equal
   rw [show Op.maxDepth=9999+1 from rfl,Op.equalIn,Sem.run_bind,run_underlying hT w]
   rfl
  | _=>cases hn
end
end Go.Rn
end
section
namespace Go.Rn
open Go.RowKit
open Go.Vm (AX CV)
inductive Tr (α:Type) where
 | leaf
 | node (v:Option α) (l r:Tr α)
noncomputable def Tr.get {α:Type}(t:Tr α):Nat→Option α:=@Tr.rec α (fun _=>Nat→Option α) (fun _=>none) (fun v _ _ gl gr n=>match Nat.beq n 0 with
 | true=>v
 | false=>match Nat.beq (Nat.mod n 2) 1 with
  | true=>gl (Nat.div n 2)
  | false=>gr (Nat.sub (Nat.div n 2) 1)) t
abbrev SK (α:Type):=Tr α→Nat→Option α→(Tr α→Prop)→Prop
def setB {α:Type}(ih:SK α):SK α:=fun t n s K=>match t with
 | .leaf=>match Nat.beq n 0 with
  | true=>K (.node s .leaf .leaf)
  | false=>match Nat.beq (Nat.mod n 2) 1 with
   | true=>ih .leaf (Nat.div n 2) s fun l=>K (.node none l .leaf)
   | false=>ih .leaf (Nat.sub (Nat.div n 2) 1) s fun r=>K (.node none .leaf r)
 | .node v l r=>match Nat.beq n 0 with
  | true=>K (.node s l r)
  | false=>match Nat.beq (Nat.mod n 2) 1 with
   | true=>ih l (Nat.div n 2) s fun l=>K (.node v l r)
   | false=>ih r (Nat.sub (Nat.div n 2) 1) s fun r=>K (.node v l r)
def setN {α:Type}(f:Nat):SK α:=@Nat.rec (fun _=>SK α) (fun _ _ _ _=>False) (fun _ ih=>setB ih) f
def AQ {α:Type}:SK α:=setN 40
theorem beqe (m k:Nat):Nat.beq m k=decide (m=k):=by rw [Bool.eq_iff_iff];simp [Nat.beq_eq]
theorem get_node {α:Type}(v:Option α)(l r:Tr α)(n:Nat):(Tr.node v l r).get n=if n=0 then v else if n % 2=1 then l.get (n / 2) else r.get (n / 2-1):=by
 show (match Nat.beq n 0 with | true=>v | false=>match Nat.beq (Nat.mod n 2) 1 with | true=>l.get (Nat.div n 2) | false=>r.get (Nat.sub (Nat.div n 2) 1))=_
 rw [beqe,beqe]
 by_cases h:n=0
 ·subst h;rfl
 ·by_cases h1:n % 2=1
  ·have:Nat.mod n 2=1:=h1
   simp [h,h1,this];rfl
  ·have:¬Nat.mod n 2=1:=h1
   simp [h,h1,this];rfl
theorem setN_spec {α:Type}:∀{f:Nat} {t:Tr α} {n:Nat} {s:Option α} {K:Tr α→Prop},setN f t n s K→∃t',(∀u,t'.get u=if u=n then s else t.get u)∧K t'
 | 0,_,_,_,_,h=>h.elim
 | f+1,t,n,s,K,h=>by
  have key:∀(v:Option α) (l r:Tr α),(∀u,t.get u=(Tr.node v l r).get u)→(match Nat.beq n 0 with
   | true=>K (.node s l r)
   | false=>match Nat.beq (Nat.mod n 2) 1 with
    | true=>setN f l (Nat.div n 2) s fun l=>K (.node v l r)
    | false=>setN f r (Nat.sub (Nat.div n 2) 1) s fun r=>K (.node v l r))→∃t',(∀u,t'.get u=if u=n then s else t.get u)∧K t':=by
   intro v l r hv h
   by_cases hn:n=0
   ·subst hn
    simp only [beqe,decide_true] at h
    refine ⟨_,fun u=>?_,h⟩
    rw [hv,get_node,get_node]
    split<;>rfl
   ·have h0:Nat.beq n 0=false:=by rw [beqe];simpa using hn
    rw [h0] at h
    by_cases hp:n % 2=1
    ·have h1:Nat.beq (Nat.mod n 2) 1=true:=by rw [beqe];exact decide_eq_true hp
     rw [h1] at h
     obtain ⟨l',hl,hK⟩:=setN_spec h
     refine ⟨_,fun u=>?_,hK⟩
     rw [hv,get_node,get_node,hl]
     have e3:Nat.div n 2=n / 2:=rfl
     rw [e3]
     by_cases hu:u=0
     ·subst hu;rw [if_pos rfl,if_neg (fun e=>hn e.symm),if_pos rfl]
     ·rw [if_neg hu,if_neg hu]
      by_cases hq:u % 2=1
      ·rw [if_pos hq,if_pos hq]
       by_cases e:u=n
       ·subst e;simp
       ·rw [if_neg e,if_neg (by omega)]
      ·rw [if_neg hq,if_neg hq,if_neg (by intro e;subst e;exact hq hp)]
    ·have h1:Nat.beq (Nat.mod n 2) 1=false:=by rw [beqe];exact decide_eq_false hp
     rw [h1] at h
     obtain ⟨r',hr,hK⟩:=setN_spec h
     refine ⟨_,fun u=>?_,hK⟩
     rw [hv,get_node,get_node,hr]
     have e3:Nat.sub (Nat.div n 2) 1=n / 2-1:=rfl
     rw [e3]
     by_cases hu:u=0
     ·subst hu;rw [if_pos rfl,if_neg (fun e=>hn e.symm),if_pos rfl]
     ·rw [if_neg hu,if_neg hu]
      by_cases hq:u % 2=1
      ·rw [if_pos hq,if_pos hq,if_neg (by intro e;subst e;exact hp hq)]
      ·rw [if_neg hq,if_neg hq]
       by_cases e:u=n
       ·subst e;simp
       ·rw [if_neg e,if_neg (by omega)]
  cases t with
  | leaf=>exact key none .leaf .leaf (fun u=>by rw [get_node];split<;>(try split)<;>rfl) h
  | node v l r=>exact key v l r (fun u=>rfl) h
theorem Bh {α:Type}{t:Tr α}{n:Nat}{s:Option α}{K:Tr α→Prop}(h:AQ t n s K):∃t',(∀u,t'.get u=if u=n then s else t.get u)∧K t':=setN_spec h
def natK (n:Nat)(K:Nat→Prop):Prop:=@Nat.rec (fun _=>Prop) (K 0) (fun m _=>K (Nat.succ m)) n
theorem Dz {n:Nat}{K:Nat→Prop}(h:natK n K):K n:=by cases n<;>exact h
def intK (i:Int)(K:Int→Prop):Prop:=match i with
 | .ofNat n=>natK n fun n=>K (.ofNat n)
 | .negSucc n=>natK n fun n=>K (.negSucc n)
theorem intK_spec {i:Int}{K:Int→Prop}(h:intK i K):K i:=by
 cases i with
 | ofNat n=>exact Dz (K:=fun n=>K (.ofNat n)) h
 | negSucc n=>exact Dz (K:=fun n=>K (.negSucc n)) h
def byteK (b:UInt8)(K:UInt8→Prop):Prop:=natK b.toNat fun n=>K (UInt8.ofNat n)
theorem byteK_spec {b:UInt8}{K:UInt8→Prop}(h:byteK b K):K b:=by
 have:=Dz h
 rwa [UInt8.ofNat_toNat] at this
def bytesK (l:List UInt8):(List UInt8→Prop)→Prop:=@List.rec UInt8 (fun _=>(List UInt8→Prop)→Prop) (fun K=>K []) (fun b _ ih K=>byteK b fun b=>ih fun l=>K (b::l)) l
theorem bytesK_spec:∀{l:List UInt8} {K:List UInt8→Prop},bytesK l K→K l
 | [],_,h=>h
 | b::l,K,h=>bytesK_spec (l:=l) (K:=fun l=>K (b::l)) (byteK_spec (K:=fun b=>bytesK l fun l=>K (b::l)) h)
def strK (s:ByteArray)(K:ByteArray→Prop):Prop:=bytesK s.data.toList fun l=>K ⟨⟨l⟩⟩
theorem strK_spec {s:ByteArray}{K:ByteArray→Prop}(h:strK s K):K s:=by have:=bytesK_spec h;exact this
def scK (v:Value)(K:Value→Prop):Prop:=match v with
 | .int k i=>intK i fun i=>K (.int k i)
 | .bool b=>match b with
  | true=>K (.bool true)
  | false=>K (.bool false)
 | .string s=>strK s fun s=>K (.string s)
 | v=>K v
theorem scK_spec {v:Value}{K:Value→Prop}(h:scK v K):K v:=by
 unfold scK at h
 split at h
 ·exact intK_spec (K:=fun i=>K (.int _ i)) h
 ·split at h<;>exact h
 ·exact strK_spec (K:=fun s=>K (.string s)) h
 ·exact h
def sameK (a b:IntKind):Bool:=match a,b with
 | .i8,.i8=>true
 | .i16,.i16=>true
 | .i32,.i32=>true
 | .i64,.i64=>true
 | .u8,.u8=>true
 | .u16,.u16=>true
 | .u32,.u32=>true
 | .u64,.u64=>true
 | _,_=>false
theorem sameK_spec {a b:IntKind}(h:sameK a b=true):a=b:=by
 cases a<;>cases b<;>first | rfl | cases h
def ltI (a b:Int):Bool:=match a,b with
 | .ofNat a,.ofNat b=>Nat.ble (Nat.succ a) b
 | .ofNat _,.negSucc _=>false
 | .negSucc _,.ofNat _=>true
 | .negSucc a,.negSucc b=>Nat.ble (Nat.succ b) a
theorem ltI_eq (a b:Int):ltI a b=decide (a<b):=by
 cases a with
 | ofNat a=>cases b with
  | ofNat b=>
   show Nat.ble (Nat.succ a) b=_
   rw [Bool.eq_iff_iff,decide_eq_true_eq,Nat.ble_eq]
   show a+1≤b↔(a:Int)<(b:Int)
   omega
  | negSucc b=>
   show false=_
   symm;rw [decide_eq_false_iff_not,Int.negSucc_eq]
   show ¬(a:Int) < _
   omega
 | negSucc a=>cases b with
  | ofNat b=>
   show true=_
   symm;rw [decide_eq_true_eq,Int.negSucc_eq]
   show _<(b:Int)
   omega
  | negSucc b=>
   show Nat.ble (Nat.succ b) a=_
   rw [Bool.eq_iff_iff,decide_eq_true_eq,Nat.ble_eq,Int.negSucc_eq,Int.negSucc_eq]
   show b+1≤a↔_
   omega
def eqI (a b:Int):Bool:=match a,b with
 | .ofNat a,.ofNat b=>Nat.beq a b
 | .negSucc a,.negSucc b=>Nat.beq a b
 | _,_=>false
theorem eqI_eq (a b:Int):eqI a b=decide (a=b):=by
 cases a with
 | ofNat a=>cases b with
  | ofNat b=>
   show Nat.beq a b=_
   rw [beqe,decide_eq_decide]
   show a=b↔(a:Int)=(b:Int)
   omega
  | negSucc b=>rfl
 | negSucc a=>cases b with
  | ofNat b=>rfl
  | negSucc b=>
   show Nat.beq a b=_
   rw [beqe,decide_eq_decide,Int.negSucc_eq,Int.negSucc_eq]
   omega
def wrapF (k:IntKind)(i:Int):Int:=match i with
 | .ofNat n=>match k with
  | .i64=>match Nat.ble n 9223372036854775807 with
   | true=>.ofNat n
   | false=>IntKind.wrap .i64 (.ofNat n)
  | .u8=>.ofNat (Nat.mod n 256)
  | .u16=>.ofNat (Nat.mod n 65536)
  | .u32=>.ofNat (Nat.mod n 4294967296)
  | .u64=>.ofNat (Nat.mod n 18446744073709551616)
  | k=>k.wrap (.ofNat n)
 | i=>k.wrap i
theorem wrap_i64 {i:Int}(h0:0≤i)(h1:i≤9223372036854775807):IntKind.wrap .i64 i=i:=by
 unfold IntKind.wrap
 have e:i % (2 ^ IntKind.i64.bits:Int)=i:=Int.emod_eq_of_lt h0 (by show i<18446744073709551616;omega)
 simp only [e]
 rw [if_neg]
 simp only [Bool.and_eq_true,decide_eq_true_eq,not_and]
 intro _
 show ¬i ≥ 9223372036854775808
 omega
theorem wrap_u (k:IntKind)(hk:k.signed=false)(n:Nat):IntKind.wrap k (.ofNat n)=.ofNat (n % 2 ^ k.bits):=by
 unfold IntKind.wrap
 rw [hk]
 simp only [Bool.false_and,Bool.false_eq_true,if_false]
 rw [Int.ofNat_eq_natCast,Int.ofNat_eq_natCast,Int.natCast_emod,Int.natCast_pow];rfl
theorem wrapF_eq (k:IntKind)(i:Int):wrapF k i=k.wrap i:=by
 cases i with
 | negSucc n=>rfl
 | ofNat n=>
  cases k with
  | i64=>
   simp only [wrapF]
   split
   ·rename_i h
    have h:=Nat.le_of_ble_eq_true h
    exact (wrap_i64 (Int.natCast_nonneg n) (by show (n:Int)≤_;omega)).symm
   ·rfl
  | u8=>exact (wrap_u .u8 rfl n).symm
  | u16=>exact (wrap_u .u16 rfl n).symm
  | u32=>exact (wrap_u .u32 rfl n).symm
  | u64=>exact (wrap_u .u64 rfl n).symm
  | _=>rfl
end Go.Rn
end
section
namespace Go.Rn
open Go.RowKit
open Go.Vm (AX CV DV Bo Cf Dj Ef)
def spK (l:List V):(List V→Prop)→Prop:=@List.rec V (fun _=>(List V→Prop)→Prop) (fun K=>K []) (fun v _ ih K=>ih fun l=>K (v::l)) l
theorem spK_spec:∀{l:List V} {K:List V→Prop},spK l K→K l
 | [],_,h=>h
 | v::l,K,h=>spK_spec (l:=l) (K:=fun l=>K (v::l)) h
def nthK (n:Nat):List V→(V→Prop)→Prop:=@Nat.rec (fun _=>List V→(V→Prop)→Prop) (fun l K=>match l with
 | d::_=>K d
 | []=>False) (fun _ ih l K=>match l with
 | _::l=>ih l K
 | []=>False) n
theorem nthK_spec:∀{n:Nat} {l:List V} {K:V→Prop},nthK n l K→∃d,l[n]? = some d∧K d
 | 0,[],_,h=>h.elim
 | 0,d::_,_,h=>⟨d,rfl,h⟩
 | n+1,[],_,h=>h.elim
 | n+1,_::l,K,h=>by
  obtain ⟨d,h1,h2⟩:=nthK_spec (l:=l) (n:=n) h
  exact ⟨d,by simpa using h1,h2⟩
def dropK (n:Nat):List V→(List V→Prop)→Prop:=@Nat.rec (fun _=>List V→(List V→Prop)→Prop) (fun l K=>K l) (fun _ ih l K=>match l with
 | _::l=>ih l K
 | []=>False) n
theorem dropK_spec:∀{n:Nat} {l:List V} {K:List V→Prop},dropK n l K→n≤l.length∧K (l.drop n)
 | 0,l,K,h=>⟨Nat.zero_le _,by rw [List.drop_zero];exact h⟩
 | _+1,[],_,h=>h.elim
 | n+1,d::l,K,h=>by
  obtain ⟨h1,h2⟩:=dropK_spec (n:=n) (l:=l) (K:=K) h
  exact ⟨by simpa using h1,by simpa using h2⟩
def takeK (n:Nat):List V→(List V→Prop)→Prop:=@Nat.rec (fun _=>List V→(List V→Prop)→Prop) (fun l K=>K []) (fun _ ih l K=>match l with
 | d::l=>ih l fun l=>K (d::l)
 | []=>False) n
theorem takeK_spec:∀{n:Nat} {l:List V} {K:List V→Prop},takeK n l K→n≤l.length∧K (l.take n)
 | 0,l,K,h=>⟨Nat.zero_le _,by simpa using (show K [] from h)⟩
 | _+1,[],_,h=>h.elim
 | n+1,d::l,K,h=>by
  obtain ⟨h1,h2⟩:=takeK_spec (n:=n) (l:=l) (K:=fun l'=>K (d::l')) h
  exact ⟨by simpa using h1,by simpa using h2⟩
def appK (l ds:List V):(List V→Prop)→Prop:=@List.rec V (fun _=>(List V→Prop)→Prop) (fun K=>K ds) (fun v _ ih K=>ih fun l=>K (v::l)) l
theorem appK_spec:∀{l ds:List V} {K:List V→Prop},appK l ds K→K (l++ds)
 | [],_,_,h=>h
 | v::l,ds,K,h=>appK_spec (l:=l) (K:=fun l=>K (v::l)) h
def patchK (ds:List V)(n:Nat):List V→(List V→Prop)→Prop:=@Nat.rec (fun _=>List V→(List V→Prop)→Prop) (fun l K=>@List.rec V (fun _=>List V→(List V→Prop)→Prop) (fun l K=>K l) (fun r _ ih l K=>match l with
 | _::l=>ih l fun l=>K (r::l)
 | []=>False) ds l K) (fun _ ih l K=>match l with
 | d::l=>ih l fun l=>K (d::l)
 | []=>False) n
theorem Ey:∀{n:Nat} {ds l:List V} {K:List V→Prop},patchK ds n l K→n+ds.length≤l.length∧K (patchV l n ds)
 | 0,[],l,K,h=>⟨by simp,by simpa [patchV] using (show K l from h)⟩
 | 0,r::rs,[],K,h=>h.elim
 | 0,r::rs,_::l,K,h=>by
  obtain ⟨h1,h2⟩:=Ey (n:=0) (ds:=rs) (l:=l) (K:=fun l=>K (r::l)) h
  refine ⟨by simp at h1 ⊢;omega,?_⟩
  simpa [patchV] using h2
 | n+1,ds,[],K,h=>h.elim
 | n+1,ds,d::l,K,h=>by
  obtain ⟨h1,h2⟩:=Ey (n:=n) (ds:=ds) (l:=l) (K:=fun l=>K (d::l)) h
  refine ⟨by simp at h1 ⊢;omega,?_⟩
  have e:n+1+ds.length=(n+ds.length)+1:=by omega
  simpa [patchV,e] using h2
def partK (ag:Bool)(n:Nat)(cs:List V)(off:Nat)(K:V→Prop):Prop:=match ag with
 | true=>dropK off cs fun l=>takeK n l fun l=>K (.agg l)
 | false=>nthK off cs K
theorem EC {ag:Bool}{n:Nat}{cs:List V}{off:Nat}{K:V→Prop}(h:partK ag n cs off K):∃d,partV (ag,n) cs off=some d∧K d:=by
 cases ag with
 | true=>
  obtain ⟨h1,h2⟩:=dropK_spec (l:=cs) (K:=fun l=>takeK n l fun l'=>K (.agg l')) h
  obtain ⟨h3,h4⟩:=takeK_spec (K:=fun l'=>K (.agg l')) h2
  rw [List.length_drop] at h3
  exact ⟨_,by simp only [partV,if_true];rw [if_pos (by omega)],h4⟩
 | false=>
  obtain ⟨d,h1,h2⟩:=nthK_spec h
  exact ⟨d,by simpa [partV] using h1,h2⟩
noncomputable def lenN (l:List V):Nat:=@List.rec V (fun _=>Nat) 0 (fun _ _ ih=>Nat.succ ih) l
theorem lenN_eq:∀l:List V,lenN l=l.length
 | []=>rfl
 | _::l=>congrArg Nat.succ (lenN_eq l)
noncomputable def lenB (l:List UInt8):Nat:=@List.rec UInt8 (fun _=>Nat) 0 (fun _ _ ih=>Nat.succ ih) l
theorem lenB_eq:∀l:List UInt8,lenB l=l.length
 | []=>rfl
 | _::l=>congrArg Nat.succ (lenB_eq l)
theorem size_eq (s:ByteArray):s.size=lenB s.data.toList:=(lenB_eq _).symm
def nthB (n:Nat):List UInt8→(UInt8→Prop)→Prop:=@Nat.rec (fun _=>List UInt8→(UInt8→Prop)→Prop) (fun l K=>match l with
 | d::_=>K d
 | []=>False) (fun _ ih l K=>match l with
 | _::l=>ih l K
 | []=>False) n
theorem nthB_spec:∀{n:Nat} {l:List UInt8} {K:UInt8→Prop},nthB n l K→∃d,l[n]? = some d∧K d
 | 0,[],_,h=>h.elim
 | 0,d::_,_,h=>⟨d,rfl,h⟩
 | n+1,[],_,h=>h.elim
 | n+1,_::l,K,h=>by
  obtain ⟨d,h1,h2⟩:=nthB_spec (l:=l) (n:=n) h
  exact ⟨d,by simpa using h1,h2⟩
noncomputable def eqB (l:List UInt8):List UInt8→Bool:=@List.rec UInt8 (fun _=>List UInt8→Bool) (fun m=>match m with
 | []=>true
 | _::_=>false) (fun b _ ih m=>match m with
 | []=>false
 | c::m=>match Nat.beq b.toNat c.toNat with
  | true=>ih m
  | false=>false) l
theorem eqB_eq:∀l m:List UInt8,eqB l m=decide (l=m)
 | [],[]=>rfl
 | [],_::_=>rfl
 | _::_,[]=>rfl
 | b::l,c::m=>by
  show (match Nat.beq b.toNat c.toNat with | true=>eqB l m | false=>false)=_
  rw [beqe]
  by_cases h:b.toNat=c.toNat
  ·rw [decide_eq_true h]
   have:=UInt8.toNat_inj.1 h
   subst this
   show eqB l m=_
   rw [eqB_eq l m];simp
  ·rw [decide_eq_false h]
   have:b≠c:=fun e=>h (congrArg _ e)
   simp [this]
theorem eqS (a b:ByteArray):eqB a.data.toList b.data.toList=decide (a=b):=by
 rw [eqB_eq,decide_eq_decide]
 constructor
 ·intro h;exact ByteArray.ext (Array.ext' h)
 ·intro h;rw [h]
theorem cat_eq (a b:ByteArray):(⟨⟨a.data.toList++b.data.toList⟩⟩:ByteArray)=a++b:=by
 apply ByteArray.ext
 apply Array.ext'
 simp
theorem ext_eq (a:ByteArray)(l h:Nat):(⟨⟨(a.data.toList.drop l).take (h-l)⟩⟩:ByteArray)=a.extract l h:=by
 apply ByteArray.ext
 apply Array.ext'
 simp [List.extract]
theorem getB_eq (s:ByteArray)(n:Nat):s[n]? = s.data.toList[n]? := by
 rcases Nat.lt_or_ge n s.size with h | h
 ·have h':n<s.data.toList.length:=by simpa using h
  rw [getElem?_pos s n h,List.getElem?_eq_getElem h'];rfl
 ·have h':s.data.toList.length≤n:=by simpa using h
  rw [getElem?_neg s n (by omega),List.getElem?_eq_none h']
noncomputable def ovK (t:Tr V)(x:Operand)(K:V→Prop):Prop:=match x with
 | .tmp u=>match t.get u with
  | some v=>K v
  | none=>False
 | .const v=>match ofV v with
  | some v=>K v
  | none=>False
 | .func f=>K (.fn f [])
 | .global _=>False
noncomputable def stT (t:Tr V)(m:Tr Blk)(n:Nat):St:=⟨t.get,m.get,n⟩
theorem Bj {t:Tr V}{x:Operand}{K:V→Prop}(h:ovK t x K):∃v,(∀(m:Tr Blk) (n:Nat),Am (stT t m n) x=some v)∧K v:=by
 cases x with
 | tmp u=>
  simp only [ovK] at h
  split at h
  ·rename_i v hv;exact ⟨v,fun _ _=>hv,h⟩
  ·exact h.elim
 | const v=>
  simp only [ovK] at h
  split at h
  ·rename_i v' hv;exact ⟨v',fun _ _=>hv,h⟩
  ·exact h.elim
 | func f=>exact ⟨_,fun _ _=>rfl,h⟩
 | global g=>exact h.elim
set_option linter.unusedSectionVars false
variable [Cx]
def FV (P:Program)(o:Oper)(t:Tr V)(h:Hp)(v:V):Prop:=∀(N:Nat) (s:St) (d:Nat),(∀x v,x∈o.op.operands→Am (stT t .leaf 0) x=some v→Am s x=some v)→s.h=h→o.dst=some d→d<N→Step P N o s (s.put (some d) v)
def toK (v:V)(K:Value→Prop):Prop:=match v with
 | .sc u=>K u
 | v=>match toV v with
  | some u=>K u
  | none=>False
theorem toK_spec {v:V}{K:Value→Prop}(h:toK v K):∃u,toV v=some u∧K u:=by
 unfold toK at h
 split at h
 ·exact ⟨_,rfl,h⟩
 ·split at h
  ·exact ⟨_,by assumption,h⟩
  ·exact h.elim
def boolK (b:Bool)(K:Value→Prop):Prop:=match b with
 | true=>K (.bool true)
 | false=>K (.bool false)
theorem boolK_spec {b:Bool}{K:Value→Prop}(h:boolK b K):K (.bool b):=by cases b<;>exact h
def anyK (r:Option Value)(K:Value→Prop):Prop:=match r with
 | some r=>match r.oneCell' with
  | true=>scK r K
  | false=>False
 | none=>False
theorem anyK_spec {r:Option Value}{K:Value→Prop}(h:anyK r K):∃v,r=some v∧v.oneCell'=true∧K v:=by
 unfold anyK at h
 split at h
 ·rename_i r
  split at h
  ·rename_i h1;exact ⟨_,rfl,h1,scK_spec h⟩
  ·exact h.elim
 ·exact h.elim
def numK (k:IntKind)(i:Int)(K:Value→Prop):Prop:=intK (wrapF k i) fun i=>K (.int k i)
theorem numK_spec {k:IntKind}{i:Int}{K:Value→Prop}(h:numK k i K):K (.int k (k.wrap i)):=by
 have:=intK_spec h
 rwa [wrapF_eq] at this
def binK (P:Program)(op:BinOp)(T:TypeId)(x y:Operand)(u v:Value)(K:Value→Prop):Prop:=match u,v with
 | .int k a,.int k' b=>match sameK k k' with
  | true=>match op with
   | .add=>numK k (a+b) K
   | .sub=>numK k (a-b) K
   | .mul=>numK k (a*b) K
   | .lss=>boolK (ltI a b) K
   | .gtr=>boolK (ltI b a) K
   | .leq=>boolK (!ltI b a) K
   | .geq=>boolK (!ltI a b) K
   | .eql=>boolK (eqI a b) K
   | .neq=>boolK (!eqI a b) K
   | op=>anyK (AX P (do eqGuard op T x y (.int k a) (.int k' b);binOp op T (.int k a) (.int k' b):Sem Value)) K
  | false=>anyK (AX P (do eqGuard op T x y (.int k a) (.int k' b);binOp op T (.int k a) (.int k' b):Sem Value)) K
 | .string a,.string b=>match op with
  | .add=>match Nat.ble (Nat.add (lenB a.data.toList) (lenB b.data.toList)) 9223372036854775807 with
   | true=>bytesK (a.data.toList++b.data.toList) fun l=>K (.string ⟨⟨l⟩⟩)
   | false=>False
  | .eql=>boolK (eqB a.data.toList b.data.toList) K
  | .neq=>boolK (!eqB a.data.toList b.data.toList) K
  | op=>anyK (AX P (do eqGuard op T x y (.string a) (.string b);binOp op T (.string a) (.string b):Sem Value)) K
 | u,v=>anyK (AX P (do eqGuard op T x y u v;binOp op T u v:Sem Value)) K
theorem binK_spec {P:Program}{op:BinOp}{T:TypeId}{x y:Operand}{u v:Value}{K:Value→Prop}(h:binK P op T x y u v K):∃r,AX P (do eqGuard op T x y u v;binOp op T u v:Sem Value)=some r∧r.oneCell'=true∧K r:=by
 unfold binK at h
 split at h
 ·split at h
  ·rename_i hs
   cases sameK_spec hs
   split at h
   ·exact ⟨_,Go.Vm.pr_add rfl,rfl,numK_spec h⟩
   ·exact ⟨_,Go.Vm.pr_sub rfl,rfl,numK_spec h⟩
   ·exact ⟨_,Go.Vm.pr_mul rfl,rfl,numK_spec h⟩
   ·have:=boolK_spec h;rw [ltI_eq] at this;exact ⟨_,Go.Vm.pr_lss,rfl,this⟩
   ·have:=boolK_spec h;rw [ltI_eq] at this;exact ⟨_,Go.Vm.pr_gtr,rfl,this⟩
   ·have:=boolK_spec h;rw [ltI_eq,←decide_not] at this;exact ⟨_,Go.Vm.pr_leq,rfl,by simpa using this⟩
   ·have:=boolK_spec h;rw [ltI_eq,←decide_not] at this;exact ⟨_,Go.Vm.pr_geq,rfl,by simpa using this⟩
   ·have:=boolK_spec h;rw [eqI_eq] at this;exact ⟨_,Go.Vm.pr_eql,rfl,this⟩
   ·have:=boolK_spec h;rw [eqI_eq] at this;exact ⟨_,Go.Vm.pr_neq,rfl,this⟩
   ·exact anyK_spec h
  ·exact anyK_spec h
 ·split at h
  ·split at h
   ·rename_i hb
    have hb:=Nat.le_of_ble_eq_true hb
    have:=bytesK_spec h
    rw [cat_eq] at this
    exact ⟨_,Go.Vm.pr_cat (by rw [size_eq,size_eq];exact hb),rfl,this⟩
   ·exact h.elim
  ·have:=boolK_spec h;rw [eqS] at this;exact ⟨_,Go.Vm.pr_eqs,rfl,this⟩
  ·have:=boolK_spec h;rw [eqS] at this;exact ⟨_,Go.Vm.pr_nes,rfl,this⟩
  ·exact anyK_spec h
 ·exact anyK_spec h
end Go.Rn
end
