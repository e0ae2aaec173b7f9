/- Part 8. -/
import Derived.Lib.LaidTab
import Derived.Stop.LaidErr
import Derived.Below
import Derived.Test.YtdfbohaohjaloaaGreatDoorRows
import Derived.MakeChecks
import Derived.Test.YtdfbohaohjaloaaGreatDoorScriptParsesM7
set_option linter.unusedVariables false
set_option linter.unusedSimpArgs false
set_option maxHeartbeats 1000000
section
namespace Go.Vm
open Go.RowKit Go.Proofs
set_option maxRecDepth 10000
open Go.Proofs Go.Proofs.YtdfbohaohjaloaaGreatDoor Punnet.Name Punnet.Num
set_option maxHeartbeats 16000000 in
theorem Pj (s0:ByteArray)  : AQ Tryz.prog 148 [.sc (.string s0)] [.d (.sc (.string (LX s0)))]:=by
 generalize h:LX s0=r
 refine T.fn [] Tryz.func148 ?_
 unfold LX at h
 refine Ar T.en_135 (Aai s0) ?_
 refine br (fun c1=>?c1y) (fun c1=>?c1n)
 case' c1y=>
  replace h:=Ac h c1
  subst h
 case' c1n=>
  replace h:=Ad h (fun k=>k c1)
  subst h
 all_goals (refine CV ?_;simp only [Bq,fits,C.asD,and_true]<;>(first | exact rfl | trivial | exact ⟨rfl,rfl⟩ | exact ⟨rfl,rfl,rfl⟩ | (simp [*];done) | (simp_all;done) | (simp only [DZ] at *;simp_all;first | done | rfl)))
set_option maxHeartbeats 16000000 in
theorem Ov (s0:ByteArray)  : AQ Tryz.prog 147 [.sc (.string s0)] [.d (.sc (.string (LD s0)))]:=by
 generalize h:LD s0=r
 refine T.fn [] Tryz.func147 ?_
 unfold LD at h
 refine br (fun c1=>?c1y) (fun c1=>?c1n)
 case' c1y=>
  replace h:=Ac h c1
  subst h
 case' c1n=>
  replace h:=Ad h c1
  subst h
 all_goals (refine CV ?_;simp only [Bq,fits,C.asD,and_true]<;>(first | exact rfl | trivial | exact ⟨rfl,rfl⟩ | exact ⟨rfl,rfl,rfl⟩ | (simp [*];done) | (simp_all;done) | (simp only [DZ] at *;simp_all;first | done | rfl)))
set_option maxHeartbeats 16000000 in
theorem TD (x:AP)  (r:(List ByteArray))(h:Fz x=some r):AQ Tryz.prog 146 [lD x] [.d (.row (List.map strD r))]:=by
 refine T.fn [4,44,1033] Tryz.func146 ?_
 unfold Fz at h
 refine And.intro ⟨T.mixed,by decide +kernel⟩ ?_
 refine q_loadGl (r:=Kt Ew) ?_ rfl rfl rfl rfl
 refine Aa h fun r7 q1 h=>?_
 refine Ar T.en_93 (Qg Ew x.kind r7 q1) ?_
 refine Ar T.I7 (Cb x.at_) ?_
 refine br (fun c1=>?c1y) (fun c1=>?c1n)
 case' c1y=>
  refine brT ?_
  replace h:=Ac h (.inl c1)
  refine Aa h fun z21 q2 h=>?_
  refine Dz (f:=strD) (bytes:=16) ?_ (Cj _ fun _=>rfl) q2
  obtain rfl:=Option.some.inj h
 case' c1n=>
  refine br (fun c2=>?c2y) (fun c2=>?c2n)
  case' c2y=>
   replace h:=Ac h (.inr c2)
   refine Aa h fun z21 q3 h=>?_
   refine Dz (f:=strD) (bytes:=16) ?_ (Cj _ fun _=>rfl) q3
   obtain rfl:=Option.some.inj h
  case' c2n=>skip
  replace h:=Ad h (fun k=>k.elim c1 c2)
  refine br (fun c3=>?c3y) (fun c3=>?c3n)
  case' c3y=>
   replace h:=Ac h c3
   refine And.intro ⟨T.mixed,by decide +kernel⟩ ?_
   refine CB h fun g1 h=>?_
   refine Ar T.Gq (Fj x.factor g1) ?_
   refine Aa h fun z33 q4 h=>?_
   refine Dz (f:=strD) (bytes:=16) ?_ (Cj _ fun _=>rfl) q4
   obtain rfl:=Option.some.inj h
  case' c3n=>skip
  replace h:=Ad h c3
  refine br (fun c4=>?c4y) (fun c4=>?c4n)
  case' c4y=>
   replace h:=Ac h c4
   refine Ar T.PD (Pj x.other) ?_
   refine Aa h fun z41 q5 h=>?_
   refine Dz (f:=strD) (bytes:=16) ?_ (Cj _ fun _=>rfl) q5
   obtain rfl:=Option.some.inj h
  case' c4n=>skip
  replace h:=Ad h c4
  refine br (fun c5=>?c5y) (fun c5=>?c5n)
  case' c5y=>
   replace h:=Ac h c5
   refine And.intro ⟨T.mixed,by decide +kernel⟩ ?_
   refine q_loadGl (r:=Kt Gg) ?_ rfl rfl rfl rfl
   refine Aa h fun r48 q6 h=>?_
   refine Ar T.en_93 (Qg Gg x.field.kind r48 q6) ?_
   refine Ar T.I7 (Cb x.field.at_) ?_
   refine br (fun c6=>?c6y) (fun c6=>?c6n)
   case' c6y=>
    replace h:=Ac h c6
    refine CB h fun g2 h=>?_
    refine Ar T.Gq (Fj x.field.worth g2) ?_
    refine Aa h fun z65 q7 h=>?_
    refine Dz (f:=strD) (bytes:=16) ?_ (Cj _ fun _=>rfl) q7
    obtain rfl:=Option.some.inj h
   case' c6n=>skip
   replace h:=Ad h c6
   refine br (fun c7=>?c7y) (fun c7=>?c7n)
   case' c7y=>
    replace h:=Ac h c7
    refine Ar T.PD (Pj x.field.deft) ?_
    refine Aa h fun z74 q8 h=>?_
    refine Dz (f:=strD) (bytes:=16) ?_ (Cj _ fun _=>rfl) q8
    obtain rfl:=Option.some.inj h
   case' c7n=>skip
   replace h:=Ad h c7
   obtain rfl:=Option.some.inj h
  case' c5n=>skip
  replace h:=Ad h c5
  obtain rfl:=Option.some.inj h
 all_goals (refine CV ?_;simp only [Bq,fits,C.asD,and_true]<;>(first | exact rfl | trivial | exact ⟨rfl,rfl⟩ | exact ⟨rfl,rfl,rfl⟩ | (simp [*];done) | (simp_all;done) | (simp only [DZ] at *;simp_all;first | done | rfl)))
set_option maxHeartbeats 16000000 in
theorem Zv (who:Int)(d:AY)  (r:(List ByteArray))(h:Gw who d=some r):AQ Tryz.prog 92 [.sc (.int .i64 who),deedD d] [.d (.row (List.map strD r))]:=by
 refine T.fn [6,1022,1026,1064,1080,8017] Tryz.func92 ?_
 unfold Gw at h
 refine Oo (r:=Kt CS) ?_ rfl rfl rfl rfl
 refine Aa h fun r9 q1 h=>?_
 refine Ar T.en_93 (Qg CS d.kind r9 q1) ?_
 refine CB h fun g1 h=>?_
 refine Ar T.Gq (Fj who g1) ?_
 refine br (fun c1=>?c1y) (fun c1=>?c1n)
 case' c1y=>
  replace h:=Ac h c1
  refine Exists.intro (.one 0 (.one 1 (.one 2 (.one 3 (.one 4 (.alt 5 (.one 6 (.one 7 (.one 8 (.one 9 (.one 10 (.fin)))))) (.alt 6 (.alt 5 (.one 7 (.one 8 (.one 9 (.one 10 (.fin))))) (.alt 7 (.one 5 (.one 8 (.one 9 (.one 10 (.fin))))) (.no))) (.no))))))):F5) (And.intro ⟨T.mixed,by decide +kernel⟩ ?_)
  refine CB h fun g2 h=>?_
  refine Ar T.en_9 (QU d.tag g2) ?_
  refine And.intro ?a1b (And.intro ?a1c (trivial))
  case' a1b=>
   refine Aa h fun z22 q2 h=>?_
   refine Dz (f:=strD) (bytes:=16) ?_ (Cj _ fun _=>rfl) q2
   refine Aa h fun r25 q3 h=>?_
   refine Ar T.en_146 (TD d.lens r25 q3) ?_
   refine Aa h fun z26 q4 h=>?_
   refine Dz (f:=strD) (bytes:=16) ?_ (Cj _ fun _=>rfl) q4
   obtain rfl:=Option.some.inj h
  case' a1c=>
   refine And.intro ?a2b (And.intro ?a2c (trivial))
   case' a2b=>
    refine Aa h fun z22 q5 h=>?_
    refine Dz (f:=strD) (bytes:=16) ?_ (Cj _ fun _=>rfl) q5
    refine Aa h fun r25 q6 h=>?_
    refine Ar T.en_146 (TD d.lens r25 q6) ?_
    refine Aa h fun z26 q7 h=>?_
    refine Dz (f:=strD) (bytes:=16) ?_ (Cj _ fun _=>rfl) q7
    obtain rfl:=Option.some.inj h
   case' a2c=>
    refine Aa h fun z22 q8 h=>?_
    refine Dz (f:=strD) (bytes:=16) ?_ (Cj _ fun _=>rfl) q8
    refine Aa h fun r25 q9 h=>?_
    refine Ar T.en_146 (TD d.lens r25 q9) ?_
    refine Aa h fun z26 q10 h=>?_
    refine Dz (f:=strD) (bytes:=16) ?_ (Cj _ fun _=>rfl) q10
    obtain rfl:=Option.some.inj h
 case' c1n=>
  replace h:=Ad h c1
  refine br (fun c2=>?c2y) (fun c2=>?c2n)
  case' c2y=>
   replace h:=Ac h c2
   refine CB h fun g3 h=>?_
   refine Ar T.en_9 (QU d.tag g3) ?_
   refine Aa h fun z34 q11 h=>?_
   refine Dz (f:=strD) (bytes:=16) ?_ (Cj _ fun _=>rfl) q11
   obtain rfl:=Option.some.inj h
  case' c2n=>skip
  replace h:=Ad h c2
  refine Aa h fun z39 q12 h=>?_
  refine Dz (f:=strD) (bytes:=16) ?_ (Cj _ fun _=>rfl) q12
  refine br (fun c3=>?c3y) (fun c3=>?c3n)
  case' c3y=>
   refine brT ?_
   replace h:=Ac h (.inl c3)
   refine Ar T.O1 (Ov d.item) ?_
   refine Aa h fun z50 q13 h=>?_
   refine Dz (f:=strD) (bytes:=16) ?_ (Cj _ fun _=>rfl) q13
   obtain rfl:=Option.some.inj h
  case' c3n=>skip
  refine br (fun c4=>?c4y) (fun c4=>?c4n)
  case' c4y=>
   replace h:=Ac h (.inr c4)
   refine Ar T.O1 (Ov d.item) ?_
   refine Aa h fun z50 q14 h=>?_
   refine Dz (f:=strD) (bytes:=16) ?_ (Cj _ fun _=>rfl) q14
   obtain rfl:=Option.some.inj h
  case' c4n=>skip
  replace h:=Ad h (fun k=>k.elim c3 c4)
  refine br (fun c5=>?c5y) (fun c5=>?c5n)
  case' c5y=>
   replace h:=Ac h c5
   refine And.intro ⟨T.mixed,by decide +kernel⟩ ?_
   refine Ar T.O1 (Ov d.item) ?_
   refine Ar T.I7 (Cb d.at_) ?_
   refine CB h fun g4 h=>?_
   refine Ar T.Gq (Fj d.n g4) ?_
   refine Aa h fun z64 q15 h=>?_
   refine Dz (f:=strD) (bytes:=16) ?_ (Cj _ fun _=>rfl) q15
   obtain rfl:=Option.some.inj h
  case' c5n=>skip
  replace h:=Ad h c5
  refine br (fun c6=>?c6y) (fun c6=>?c6n)
  case' c6y=>
   refine brT ?_
   replace h:=Ac h (.inl c6)
   refine And.intro ⟨T.mixed,by decide +kernel⟩ ?_
   refine Ar T.O1 (Ov d.item) ?_
   refine Ar T.I7 (Cb d.at_) ?_
   refine Ar T.PD (Pj d.text) ?_
   refine Aa h fun z80 q16 h=>?_
   refine Dz (f:=strD) (bytes:=16) ?_ (Cj _ fun _=>rfl) q16
   obtain rfl:=Option.some.inj h
  case' c6n=>skip
  refine br (fun c7=>?c7y) (fun c7=>?c7n)
  case' c7y=>
   refine brT ?_
   replace h:=Ac h (.inr (.inl c7))
   refine And.intro ⟨T.mixed,by decide +kernel⟩ ?_
   refine Ar T.O1 (Ov d.item) ?_
   refine Ar T.I7 (Cb d.at_) ?_
   refine Ar T.PD (Pj d.text) ?_
   refine Aa h fun z80 q17 h=>?_
   refine Dz (f:=strD) (bytes:=16) ?_ (Cj _ fun _=>rfl) q17
   obtain rfl:=Option.some.inj h
  case' c7n=>skip
  refine br (fun c8=>?c8y) (fun c8=>?c8n)
  case' c8y=>
   replace h:=Ac h (.inr (.inr c8))
   refine And.intro ⟨T.mixed,by decide +kernel⟩ ?_
   refine Ar T.O1 (Ov d.item) ?_
   refine Ar T.I7 (Cb d.at_) ?_
   refine Ar T.PD (Pj d.text) ?_
   refine Aa h fun z80 q18 h=>?_
   refine Dz (f:=strD) (bytes:=16) ?_ (Cj _ fun _=>rfl) q18
   obtain rfl:=Option.some.inj h
  case' c8n=>skip
  replace h:=Ad h (fun k=>k.elim c6 (fun k=>k.elim c7 c8))
  refine br (fun c9=>?c9y) (fun c9=>?c9n)
  case' c9y=>
   refine brT ?_
   replace h:=Ac h (.inl c9)
   refine CB h fun g5 h=>?_
   refine Ar T.en_9 (QU d.tag g5) ?_
   refine Aa h fun z89 q19 h=>?_
   refine Dz (f:=strD) (bytes:=16) ?_ (Cj _ fun _=>rfl) q19
   obtain rfl:=Option.some.inj h
  case' c9n=>skip
  refine br (fun c10=>?c10y) (fun c10=>?c10n)
  case' c10y=>
   replace h:=Ac h (.inr c10)
   refine CB h fun g6 h=>?_
   refine Ar T.en_9 (QU d.tag g6) ?_
   refine Aa h fun z89 q20 h=>?_
   refine Dz (f:=strD) (bytes:=16) ?_ (Cj _ fun _=>rfl) q20
   obtain rfl:=Option.some.inj h
  case' c10n=>skip
  replace h:=Ad h (fun k=>k.elim c9 c10)
  obtain rfl:=Option.some.inj h
 all_goals (refine CV ?_;simp only [Bq,fits,C.asD,and_true]<;>(first | exact rfl | trivial | exact ⟨rfl,rfl⟩ | exact ⟨rfl,rfl,rfl⟩ | (simp [*];done) | (simp_all;done) | (simp only [DZ] at *;simp_all;first | done | rfl)))
set_option maxHeartbeats 16000000 in
theorem Zc (m:Au)  (r:(List ByteArray))(h:Ce m=some r):AQ Tryz.prog 46 [JU m] [.d (.row (List.map strD r))]:=by
 refine T.fn [15] Tryz.func46 ?_
 unfold Ce at h
 refine br (fun c1=>?c1y) (fun c1=>?c1n)
 case' c1y=>
  replace h:=Ac h c1
  refine Aa h fun r14 q1 h=>?_
  refine Ar T.en_92 (Zv m.who m.deed r14 q1) ?_
  obtain rfl:=Option.some.inj h
 case' c1n=>
  replace h:=Ad h c1
  refine Oo (r:=Kt Ec) ?_ rfl rfl rfl rfl
  refine Aa h fun r18 q2 h=>?_
  refine Ar T.en_93 (Qg Ec m.kind r18 q2) ?_
  refine br (fun c2=>?c2y) (fun c2=>?c2n)
  case' c2y=>
   refine brT ?_
   replace h:=Ac h (.inl c2)
   unfold Eo at h
   refine Az ?_
   refine CB h fun g1 h=>?_
   refine Aa h fun o1 H1 h=>?_
   refine Et (fb:=[15]) T.ok (Nat.le_of_ble_eq_true rfl) [59,60] (fun (s:Nat×(List ByteArray))=>[(61,.c (.d (.sc (.int .i64 ((s.1:Nat):Int))))),(3,.c (.own 19 9 (List.map strD s.2)))]) (fun s=>s.1≤[m.who,m.to_].length∧CW (List.drop s.1 [m.who,m.to_]) s.2=some o1) (fun s=>[m.who,m.to_].length-s.1) (0,[r18]) ⟨Nat.zero_le _,H1⟩ (Ap rfl (Ap rfl trivial)) ?_
   rintro ⟨kl1,v3l1⟩ ⟨b1,h1⟩
   try dsimp only at b1 h1
   refine br (fun c3=>?c3y) (fun c3=>?c3n)
   case' c3y=>
    refine Ji (l:=[m.who,m.to_]) c3 fun xl1 X1=>?_
    rw [drop_cons X1,CW] at h1
    refine Ef (Ah (f:=fun x=>.sc (.int .i64 x)) X1) ?_
    refine CB h1 fun g2 h1=>?_
    refine Ar T.Gq (Fj xl1 g2) ?_
    refine Aa h1 fun z69 q3 h1=>?_
    refine Dz (f:=strD) (bytes:=16) ?_ (Cj _ fun _=>rfl) q3
    refine CJ ?_ (lt_inc g1 c3)
    refine Cc ((kl1+1,z69)) ⟨Ep X1,h1⟩ (by have:=Ep X1;(try dsimp only);omega) rfl (Ap rfl (Ap rfl trivial)) rfl
   case' c3n=>skip
   rw [drop_end (l:=[m.who,m.to_]) c3,CW] at h1
   obtain rfl:=Option.some.inj h1
   try dsimp only at h
   obtain rfl:=Option.some.inj h
  case' c2n=>skip
  refine br (fun c4=>?c4y) (fun c4=>?c4n)
  case' c4y=>
   replace h:=Ac h (.inr c4)
   unfold Eo at h
   refine Az ?_
   refine CB h fun g3 h=>?_
   refine Aa h fun o2 H2 h=>?_
   refine Et (fb:=[15]) T.ok (Nat.le_of_ble_eq_true rfl) [59,60] (fun (s:Nat×(List ByteArray))=>[(61,.c (.d (.sc (.int .i64 ((s.1:Nat):Int))))),(3,.c (.own 19 9 (List.map strD s.2)))]) (fun s=>s.1≤[m.who,m.to_].length∧CW (List.drop s.1 [m.who,m.to_]) s.2=some o2) (fun s=>[m.who,m.to_].length-s.1) (0,[r18]) ⟨Nat.zero_le _,H2⟩ (Ap rfl (Ap rfl trivial)) ?_
   rintro ⟨kl1,v3l1⟩ ⟨b2,h2⟩
   try dsimp only at b2 h2
   refine br (fun c5=>?c5y) (fun c5=>?c5n)
   case' c5y=>
    refine Ji (l:=[m.who,m.to_]) c5 fun xl1 X2=>?_
    rw [drop_cons X2,CW] at h2
    refine Ef (Ah (f:=fun x=>.sc (.int .i64 x)) X2) ?_
    refine CB h2 fun g4 h2=>?_
    refine Ar T.Gq (Fj xl1 g4) ?_
    refine Aa h2 fun z69 q4 h2=>?_
    refine Dz (f:=strD) (bytes:=16) ?_ (Cj _ fun _=>rfl) q4
    refine CJ ?_ (lt_inc g3 c5)
    refine Cc ((kl1+1,z69)) ⟨Ep X2,h2⟩ (by have:=Ep X2;(try dsimp only);omega) rfl (Ap rfl (Ap rfl trivial)) rfl
   case' c5n=>skip
   rw [drop_end (l:=[m.who,m.to_]) c5,CW] at h2
   obtain rfl:=Option.some.inj h2
   try dsimp only at h
   obtain rfl:=Option.some.inj h
  case' c4n=>skip
  replace h:=Ad h (fun k=>k.elim c2 c4)
  refine br (fun c6=>?c6y) (fun c6=>?c6n)
  case' c6y=>
   refine brT ?_
   replace h:=Ac h (.inl c6)
   unfold Eo at h
   refine Az ?_
   refine CB h fun g5 h=>?_
   refine Aa h fun o3 H3 h=>?_
   refine Et (fb:=[15]) T.ok (Nat.le_of_ble_eq_true rfl) [59,60] (fun (s:Nat×(List ByteArray))=>[(61,.c (.d (.sc (.int .i64 ((s.1:Nat):Int))))),(3,.c (.own 19 9 (List.map strD s.2)))]) (fun s=>s.1≤[m.n].length∧CW (List.drop s.1 [m.n]) s.2=some o3) (fun s=>[m.n].length-s.1) (0,[r18]) ⟨Nat.zero_le _,H3⟩ (Ap rfl (Ap rfl trivial)) ?_
   rintro ⟨kl1,v3l1⟩ ⟨b3,h3⟩
   try dsimp only at b3 h3
   refine br (fun c7=>?c7y) (fun c7=>?c7n)
   case' c7y=>
    refine Ji (l:=[m.n]) c7 fun xl1 X3=>?_
    rw [drop_cons X3,CW] at h3
    refine Ef (Ah (f:=fun x=>.sc (.int .i64 x)) X3) ?_
    refine CB h3 fun g6 h3=>?_
    refine Ar T.Gq (Fj xl1 g6) ?_
    refine Aa h3 fun z69 q5 h3=>?_
    refine Dz (f:=strD) (bytes:=16) ?_ (Cj _ fun _=>rfl) q5
    refine CJ ?_ (lt_inc g5 c7)
    refine Cc ((kl1+1,z69)) ⟨Ep X3,h3⟩ (by have:=Ep X3;(try dsimp only);omega) rfl (Ap rfl (Ap rfl trivial)) rfl
   case' c7n=>skip
   rw [drop_end (l:=[m.n]) c7,CW] at h3
   obtain rfl:=Option.some.inj h3
   try dsimp only at h
   obtain rfl:=Option.some.inj h
  case' c6n=>skip
  refine br (fun c8=>?c8y) (fun c8=>?c8n)
  case' c8y=>
   refine brT ?_
   replace h:=Ac h (.inr (.inl c8))
   unfold Eo at h
   refine Az ?_
   refine CB h fun g7 h=>?_
   refine Aa h fun o4 H4 h=>?_
   refine Et (fb:=[15]) T.ok (Nat.le_of_ble_eq_true rfl) [59,60] (fun (s:Nat×(List ByteArray))=>[(61,.c (.d (.sc (.int .i64 ((s.1:Nat):Int))))),(3,.c (.own 19 9 (List.map strD s.2)))]) (fun s=>s.1≤[m.n].length∧CW (List.drop s.1 [m.n]) s.2=some o4) (fun s=>[m.n].length-s.1) (0,[r18]) ⟨Nat.zero_le _,H4⟩ (Ap rfl (Ap rfl trivial)) ?_
   rintro ⟨kl1,v3l1⟩ ⟨b4,h4⟩
   try dsimp only at b4 h4
   refine br (fun c9=>?c9y) (fun c9=>?c9n)
   case' c9y=>
    refine Ji (l:=[m.n]) c9 fun xl1 X4=>?_
    rw [drop_cons X4,CW] at h4
    refine Ef (Ah (f:=fun x=>.sc (.int .i64 x)) X4) ?_
    refine CB h4 fun g8 h4=>?_
    refine Ar T.Gq (Fj xl1 g8) ?_
    refine Aa h4 fun z69 q6 h4=>?_
    refine Dz (f:=strD) (bytes:=16) ?_ (Cj _ fun _=>rfl) q6
    refine CJ ?_ (lt_inc g7 c9)
    refine Cc ((kl1+1,z69)) ⟨Ep X4,h4⟩ (by have:=Ep X4;(try dsimp only);omega) rfl (Ap rfl (Ap rfl trivial)) rfl
   case' c9n=>skip
   rw [drop_end (l:=[m.n]) c9,CW] at h4
   obtain rfl:=Option.some.inj h4
   try dsimp only at h
   obtain rfl:=Option.some.inj h
  case' c8n=>skip
  refine br (fun c10=>?c10y) (fun c10=>?c10n)
  case' c10y=>
   replace h:=Ac h (.inr (.inr c10))
   unfold Eo at h
   refine Az ?_
   refine CB h fun g9 h=>?_
   refine Aa h fun o5 H5 h=>?_
   refine Et (fb:=[15]) T.ok (Nat.le_of_ble_eq_true rfl) [59,60] (fun (s:Nat×(List ByteArray))=>[(61,.c (.d (.sc (.int .i64 ((s.1:Nat):Int))))),(3,.c (.own 19 9 (List.map strD s.2)))]) (fun s=>s.1≤[m.n].length∧CW (List.drop s.1 [m.n]) s.2=some o5) (fun s=>[m.n].length-s.1) (0,[r18]) ⟨Nat.zero_le _,H5⟩ (Ap rfl (Ap rfl trivial)) ?_
   rintro ⟨kl1,v3l1⟩ ⟨b5,h5⟩
   try dsimp only at b5 h5
   refine br (fun c11=>?c11y) (fun c11=>?c11n)
   case' c11y=>
    refine Ji (l:=[m.n]) c11 fun xl1 X5=>?_
    rw [drop_cons X5,CW] at h5
    refine Ef (Ah (f:=fun x=>.sc (.int .i64 x)) X5) ?_
    refine CB h5 fun g10 h5=>?_
    refine Ar T.Gq (Fj xl1 g10) ?_
    refine Aa h5 fun z69 q7 h5=>?_
    refine Dz (f:=strD) (bytes:=16) ?_ (Cj _ fun _=>rfl) q7
    refine CJ ?_ (lt_inc g9 c11)
    refine Cc ((kl1+1,z69)) ⟨Ep X5,h5⟩ (by have:=Ep X5;(try dsimp only);omega) rfl (Ap rfl (Ap rfl trivial)) rfl
   case' c11n=>skip
   rw [drop_end (l:=[m.n]) c11,CW] at h5
   obtain rfl:=Option.some.inj h5
   try dsimp only at h
   obtain rfl:=Option.some.inj h
  case' c10n=>skip
  replace h:=Ad h (fun k=>k.elim c6 (fun k=>k.elim c8 c10))
  refine br (fun c12=>?c12y) (fun c12=>?c12n)
  case' c12y=>
   replace h:=Ac h c12
   unfold Eo at h
   refine Az ?_
   refine CB h fun g11 h=>?_
   refine Aa h fun o6 H6 h=>?_
   refine Et (fb:=[15]) T.ok (Nat.le_of_ble_eq_true rfl) [59,60] (fun (s:Nat×(List ByteArray))=>[(61,.c (.d (.sc (.int .i64 ((s.1:Nat):Int))))),(3,.c (.own 19 9 (List.map strD s.2)))]) (fun s=>s.1≤[m.re,m.im,m.off].length∧CW (List.drop s.1 [m.re,m.im,m.off]) s.2=some o6) (fun s=>[m.re,m.im,m.off].length-s.1) (0,[r18]) ⟨Nat.zero_le _,H6⟩ (Ap rfl (Ap rfl trivial)) ?_
   rintro ⟨kl1,v3l1⟩ ⟨b6,h6⟩
   try dsimp only at b6 h6
   refine br (fun c13=>?c13y) (fun c13=>?c13n)
   case' c13y=>
    refine Ji (l:=[m.re,m.im,m.off]) c13 fun xl1 X6=>?_
    rw [drop_cons X6,CW] at h6
    refine Ef (Ah (f:=fun x=>.sc (.int .i64 x)) X6) ?_
    refine CB h6 fun g12 h6=>?_
    refine Ar T.Gq (Fj xl1 g12) ?_
    refine Aa h6 fun z69 q8 h6=>?_
    refine Dz (f:=strD) (bytes:=16) ?_ (Cj _ fun _=>rfl) q8
    refine CJ ?_ (lt_inc g11 c13)
    refine Cc ((kl1+1,z69)) ⟨Ep X6,h6⟩ (by have:=Ep X6;(try dsimp only);omega) rfl (Ap rfl (Ap rfl trivial)) rfl
   case' c13n=>skip
   rw [drop_end (l:=[m.re,m.im,m.off]) c13,CW] at h6
   obtain rfl:=Option.some.inj h6
   try dsimp only at h
   obtain rfl:=Option.some.inj h
  case' c12n=>skip
  replace h:=Ad h c12
  refine br (fun c14=>?c14y) (fun c14=>?c14n)
  case' c14y=>
   refine brT ?_
   replace h:=Ac h (.inl c14)
   unfold Eo at h
   refine Az ?_
   refine CB h fun g13 h=>?_
   refine Aa h fun o7 H7 h=>?_
   refine Et (fb:=[15]) T.ok (Nat.le_of_ble_eq_true rfl) [59,60] (fun (s:Nat×(List ByteArray))=>[(61,.c (.d (.sc (.int .i64 ((s.1:Nat):Int))))),(3,.c (.own 19 9 (List.map strD s.2)))]) (fun s=>s.1≤[m.who,m.n].length∧CW (List.drop s.1 [m.who,m.n]) s.2=some o7) (fun s=>[m.who,m.n].length-s.1) (0,[r18]) ⟨Nat.zero_le _,H7⟩ (Ap rfl (Ap rfl trivial)) ?_
   rintro ⟨kl1,v3l1⟩ ⟨b7,h7⟩
   try dsimp only at b7 h7
   refine br (fun c15=>?c15y) (fun c15=>?c15n)
   case' c15y=>
    refine Ji (l:=[m.who,m.n]) c15 fun xl1 X7=>?_
    rw [drop_cons X7,CW] at h7
    refine Ef (Ah (f:=fun x=>.sc (.int .i64 x)) X7) ?_
    refine CB h7 fun g14 h7=>?_
    refine Ar T.Gq (Fj xl1 g14) ?_
    refine Aa h7 fun z69 q9 h7=>?_
    refine Dz (f:=strD) (bytes:=16) ?_ (Cj _ fun _=>rfl) q9
    refine CJ ?_ (lt_inc g13 c15)
    refine Cc ((kl1+1,z69)) ⟨Ep X7,h7⟩ (by have:=Ep X7;(try dsimp only);omega) rfl (Ap rfl (Ap rfl trivial)) rfl
   case' c15n=>skip
   rw [drop_end (l:=[m.who,m.n]) c15,CW] at h7
   obtain rfl:=Option.some.inj h7
   try dsimp only at h
   obtain rfl:=Option.some.inj h
  case' c14n=>skip
  refine br (fun c16=>?c16y) (fun c16=>?c16n)
  case' c16y=>
   replace h:=Ac h (.inr c16)
   unfold Eo at h
   refine Az ?_
   refine CB h fun g15 h=>?_
   refine Aa h fun o8 H8 h=>?_
   refine Et (fb:=[15]) T.ok (Nat.le_of_ble_eq_true rfl) [59,60] (fun (s:Nat×(List ByteArray))=>[(61,.c (.d (.sc (.int .i64 ((s.1:Nat):Int))))),(3,.c (.own 19 9 (List.map strD s.2)))]) (fun s=>s.1≤[m.who,m.n].length∧CW (List.drop s.1 [m.who,m.n]) s.2=some o8) (fun s=>[m.who,m.n].length-s.1) (0,[r18]) ⟨Nat.zero_le _,H8⟩ (Ap rfl (Ap rfl trivial)) ?_
   rintro ⟨kl1,v3l1⟩ ⟨b8,h8⟩
   try dsimp only at b8 h8
   refine br (fun c17=>?c17y) (fun c17=>?c17n)
   case' c17y=>
    refine Ji (l:=[m.who,m.n]) c17 fun xl1 X8=>?_
    rw [drop_cons X8,CW] at h8
    refine Ef (Ah (f:=fun x=>.sc (.int .i64 x)) X8) ?_
    refine CB h8 fun g16 h8=>?_
    refine Ar T.Gq (Fj xl1 g16) ?_
    refine Aa h8 fun z69 q10 h8=>?_
    refine Dz (f:=strD) (bytes:=16) ?_ (Cj _ fun _=>rfl) q10
    refine CJ ?_ (lt_inc g15 c17)
    refine Cc ((kl1+1,z69)) ⟨Ep X8,h8⟩ (by have:=Ep X8;(try dsimp only);omega) rfl (Ap rfl (Ap rfl trivial)) rfl
   case' c17n=>skip
   rw [drop_end (l:=[m.who,m.n]) c17,CW] at h8
   obtain rfl:=Option.some.inj h8
   try dsimp only at h
   obtain rfl:=Option.some.inj h
  case' c16n=>skip
  replace h:=Ad h (fun k=>k.elim c14 c16)
  refine br (fun c18=>?c18y) (fun c18=>?c18n)
  case' c18y=>
   replace h:=Ac h c18
   unfold Eo at h
   refine Az ?_
   refine CB h fun g17 h=>?_
   refine Aa h fun o9 H9 h=>?_
   refine Et (fb:=[15]) T.ok (Nat.le_of_ble_eq_true rfl) [59,60] (fun (s:Nat×(List ByteArray))=>[(61,.c (.d (.sc (.int .i64 ((s.1:Nat):Int))))),(3,.c (.own 19 9 (List.map strD s.2)))]) (fun s=>s.1≤[m.who].length∧CW (List.drop s.1 [m.who]) s.2=some o9) (fun s=>[m.who].length-s.1) (0,[r18]) ⟨Nat.zero_le _,H9⟩ (Ap rfl (Ap rfl trivial)) ?_
   rintro ⟨kl1,v3l1⟩ ⟨b9,h9⟩
   try dsimp only at b9 h9
   refine br (fun c19=>?c19y) (fun c19=>?c19n)
   case' c19y=>
    refine Ji (l:=[m.who]) c19 fun xl1 X9=>?_
    rw [drop_cons X9,CW] at h9
    refine Ef (Ah (f:=fun x=>.sc (.int .i64 x)) X9) ?_
    refine CB h9 fun g18 h9=>?_
    refine Ar T.Gq (Fj xl1 g18) ?_
    refine Aa h9 fun z69 q11 h9=>?_
    refine Dz (f:=strD) (bytes:=16) ?_ (Cj _ fun _=>rfl) q11
    refine CJ ?_ (lt_inc g17 c19)
    refine Cc ((kl1+1,z69)) ⟨Ep X9,h9⟩ (by have:=Ep X9;(try dsimp only);omega) rfl (Ap rfl (Ap rfl trivial)) rfl
   case' c19n=>skip
   rw [drop_end (l:=[m.who]) c19,CW] at h9
   obtain rfl:=Option.some.inj h9
   try dsimp only at h
   obtain rfl:=Option.some.inj h
  case' c18n=>skip
  replace h:=Ad h c18
  unfold Eo at h
  refine Az ?_
  refine CB h fun g19 h=>?_
  refine Aa h fun o10 H10 h=>?_
  refine Et (fb:=[15]) T.ok (Nat.le_of_ble_eq_true rfl) [59,60] (fun (s:Nat×(List ByteArray))=>[(61,.c (.d (.sc (.int .i64 ((s.1:Nat):Int))))),(3,.c (.own 19 9 (List.map strD s.2)))]) (fun s=>s.1≤([]:List Int).length∧CW (List.drop s.1 ([]:List Int)) s.2=some o10) (fun s=>([]:List Int).length-s.1) (0,[r18]) ⟨Nat.zero_le _,H10⟩ (Ap rfl (Ap rfl trivial)) ?_
  rintro ⟨kl1,v3l1⟩ ⟨b10,h10⟩
  try dsimp only at b10 h10
  refine br (fun c20=>?c20y) (fun c20=>?c20n)
  case' c20y=>
   refine Ji (l:=([]:List Int)) c20 fun xl1 X10=>?_
   rw [drop_cons X10,CW] at h10
   refine Ef (Ah (f:=fun x=>.sc (.int .i64 x)) X10) ?_
   refine CB h10 fun g20 h10=>?_
   refine Ar T.Gq (Fj xl1 g20) ?_
   refine Aa h10 fun z69 q12 h10=>?_
   refine Dz (f:=strD) (bytes:=16) ?_ (Cj _ fun _=>rfl) q12
   refine CJ ?_ (lt_inc g19 c20)
   refine Cc ((kl1+1,z69)) ⟨Ep X10,h10⟩ (by have:=Ep X10;(try dsimp only);omega) rfl (Ap rfl (Ap rfl trivial)) rfl
  case' c20n=>skip
  rw [drop_end (l:=([]:List Int)) c20,CW] at h10
  obtain rfl:=Option.some.inj h10
  try dsimp only at h
  obtain rfl:=Option.some.inj h
 all_goals (refine CV ?_;simp only [Bq,fits,C.asD,and_true]<;>(first | exact rfl | trivial | exact ⟨rfl,rfl⟩ | exact ⟨rfl,rfl,rfl⟩ | (simp [*];done) | (simp_all;done) | (simp only [DZ] at *;simp_all;first | done | rfl)))
set_option maxHeartbeats 16000000 in
theorem Aab (a:Au)(b:Au)  (r:Bool)(h:PQ a b=some r):AQ Tryz.prog 47 [JU a,JU b] [.d (.sc (.bool r))]:=by
 refine T.fn [] Tryz.func47 ?_
 unfold PQ at h
 refine And.intro ⟨T.mixed,by decide +kernel⟩ ?_
 refine And.intro ⟨T.mixed,by decide +kernel⟩ ?_
 refine br (fun c1=>?c1y) (fun c1=>?c1n)
 case' c1y=>
  replace h:=Ac h c1
  refine br (fun c2=>?c2y) (fun c2=>?c2n)
  case' c2y=>
   replace h:=Ac h c2
   refine br (fun c3=>?c3y) (fun c3=>?c3n)
   case' c3y=>
    replace h:=Ac h c3
    refine br (fun c4=>?c4y) (fun c4=>?c4n)
    case' c4y=>
     replace h:=Ac h c4
     refine br (fun c5=>?c5y) (fun c5=>?c5n)
     case' c5y=>
      replace h:=Ac h c5
      refine br (fun c6=>?c6y) (fun c6=>?c6n)
      case' c6y=>
       replace h:=Ac h c6
       refine br (fun c7=>?c7y) (fun c7=>?c7n)
       case' c7y=>
        replace h:=Ac h c7
        refine br (fun c8=>?c8y) (fun c8=>?c8n)
        case' c8y=>
         replace h:=Ac h c8
         refine br (fun c9=>?c9y) (fun c9=>?c9n)
         case' c9y=>
          replace h:=Ac h c9
          refine br (fun c10=>?c10y) (fun c10=>?c10n)
          case' c10y=>
           replace h:=Ac h c10
           refine II a.deed.at_ b.deed.at_ ?_
           refine br (fun c11=>?c11y) (fun c11=>?c11n)
           case' c11y=>
            replace h:=Ac h c11
            refine br (fun c12=>?c12y) (fun c12=>?c12n)
            case' c12y=>
             replace h:=Ac h c12
             refine br (fun c13=>?c13y) (fun c13=>?c13n)
             case' c13y=>
              replace h:=Ac h c13
              refine xeq_23e a.deed.tag b.deed.tag ?_
              refine br (fun c14=>?c14y) (fun c14=>?c14n)
              case' c14y=>
               replace h:=Ac h c14
               refine br (fun c15=>?c15y) (fun c15=>?c15n)
               case' c15y=>
                replace h:=Ac h c15
                refine II a.deed.lens.at_ b.deed.lens.at_ ?_
                refine br (fun c16=>?c16y) (fun c16=>?c16n)
                case' c16y=>
                 replace h:=Ac h c16
                 refine br (fun c17=>?c17y) (fun c17=>?c17n)
                 case' c17y=>
                  replace h:=Ac h c17
                  refine br (fun c18=>?c18y) (fun c18=>?c18n)
                  case' c18y=>
                   replace h:=Ac h c18
                   refine br (fun c19=>?c19y) (fun c19=>?c19n)
                   case' c19y=>
                    replace h:=Ac h c19
                    refine CB h fun g1 h=>?_
                    refine Ar T.en_94 (Y5 a.deed.lens.field b.deed.lens.field g1) ?_
                    refine br (fun c20=>?c20y) (fun c20=>?c20n)
                    case' c20y=>
                     replace h:=Ac h c20
                     refine CB h fun g2 h=>?_
                     refine Ar T.en_95 (Xg a.deed.lens.forth b.deed.lens.forth g2) ?_
                     refine br (fun c21=>?c21y) (fun c21=>?c21n)
                     case' c21y=>
                      replace h:=Ac h c21
                      refine CB h fun g3 h=>?_
                      refine Ar T.en_95 (Xg a.deed.lens.back b.deed.lens.back g3) ?_
                      obtain rfl:=Option.some.inj h
                     case' c21n=>skip
                     replace h:=Ad h c21
                     obtain rfl:=Option.some.inj h
                    case' c20n=>skip
                    replace h:=Ad h c20
                    refine brF ?_
                    obtain rfl:=Option.some.inj h
                   case' c19n=>skip
                   replace h:=Ad h c19
                   refine brF ?_
                   refine brF ?_
                   obtain rfl:=Option.some.inj h
                  case' c18n=>skip
                  replace h:=Ad h c18
                  refine brF ?_
                  refine brF ?_
                  refine brF ?_
                  obtain rfl:=Option.some.inj h
                 case' c17n=>skip
                 replace h:=Ad h c17
                 refine brF ?_
                 refine brF ?_
                 refine brF ?_
                 refine brF ?_
                 obtain rfl:=Option.some.inj h
                case' c16n=>skip
                replace h:=Ad h c16
                refine brF ?_
                refine brF ?_
                refine brF ?_
                refine brF ?_
                refine brF ?_
                obtain rfl:=Option.some.inj h
               case' c15n=>skip
               replace h:=Ad h c15
               refine brF ?_
               refine brF ?_
               refine brF ?_
               refine brF ?_
               refine brF ?_
               refine brF ?_
               obtain rfl:=Option.some.inj h
              case' c14n=>skip
              replace h:=Ad h c14
              refine brF ?_
              refine brF ?_
              refine brF ?_
              refine brF ?_
              refine brF ?_
              refine brF ?_
              refine brF ?_
              obtain rfl:=Option.some.inj h
             case' c13n=>skip
             replace h:=Ad h c13
             refine brF ?_
             refine brF ?_
             refine brF ?_
             refine brF ?_
             refine brF ?_
             refine brF ?_
             refine brF ?_
             refine brF ?_
             obtain rfl:=Option.some.inj h
            case' c12n=>skip
            replace h:=Ad h c12
            refine brF ?_
            refine brF ?_
            refine brF ?_
            refine brF ?_
            refine brF ?_
            refine brF ?_
            refine brF ?_
            refine brF ?_
            refine brF ?_
            obtain rfl:=Option.some.inj h
           case' c11n=>skip
           replace h:=Ad h c11
           refine brF ?_
           refine brF ?_
           refine brF ?_
           refine brF ?_
           refine brF ?_
           refine brF ?_
           refine brF ?_
           refine brF ?_
           refine brF ?_
           refine brF ?_
           obtain rfl:=Option.some.inj h
          case' c10n=>skip
          replace h:=Ad h c10
          refine brF ?_
          refine brF ?_
          refine brF ?_
          refine brF ?_
          refine brF ?_
          refine brF ?_
          refine brF ?_
          refine brF ?_
          refine brF ?_
          refine brF ?_
          refine brF ?_
          obtain rfl:=Option.some.inj h
         case' c9n=>skip
         replace h:=Ad h c9
         refine brF ?_
         refine brF ?_
         refine brF ?_
         refine brF ?_
         refine brF ?_
         refine brF ?_
         refine brF ?_
         refine brF ?_
         refine brF ?_
         refine brF ?_
         refine brF ?_
         refine brF ?_
         obtain rfl:=Option.some.inj h
        case' c8n=>skip
        replace h:=Ad h c8
        refine brF ?_
        refine brF ?_
        refine brF ?_
        refine brF ?_
        refine brF ?_
        refine brF ?_
        refine brF ?_
        refine brF ?_
        refine brF ?_
        refine brF ?_
        refine brF ?_
        refine brF ?_
        refine brF ?_
        obtain rfl:=Option.some.inj h
       case' c7n=>skip
       replace h:=Ad h c7
       refine brF ?_
       refine brF ?_
       refine brF ?_
       refine brF ?_
       refine brF ?_
       refine brF ?_
       refine brF ?_
       refine brF ?_
       refine brF ?_
       refine brF ?_
       refine brF ?_
       refine brF ?_
       refine brF ?_
       refine brF ?_
       obtain rfl:=Option.some.inj h
      case' c6n=>skip
      replace h:=Ad h c6
      refine brF ?_
      refine brF ?_
      refine brF ?_
      refine brF ?_
      refine brF ?_
      refine brF ?_
      refine brF ?_
      refine brF ?_
      refine brF ?_
      refine brF ?_
      refine brF ?_
      refine brF ?_
      refine brF ?_
      refine brF ?_
      refine brF ?_
      obtain rfl:=Option.some.inj h
     case' c5n=>skip
     replace h:=Ad h c5
     refine brF ?_
     refine brF ?_
     refine brF ?_
     refine brF ?_
     refine brF ?_
     refine brF ?_
     refine brF ?_
     refine brF ?_
     refine brF ?_
     refine brF ?_
     refine brF ?_
     refine brF ?_
     refine brF ?_
     refine brF ?_
     refine brF ?_
     refine brF ?_
     obtain rfl:=Option.some.inj h
    case' c4n=>skip
    replace h:=Ad h c4
    refine brF ?_
    refine brF ?_
    refine brF ?_
    refine brF ?_
    refine brF ?_
    refine brF ?_
    refine brF ?_
    refine brF ?_
    refine brF ?_
    refine brF ?_
    refine brF ?_
    refine brF ?_
    refine brF ?_
    refine brF ?_
    refine brF ?_
    refine brF ?_
    refine brF ?_
    obtain rfl:=Option.some.inj h
   case' c3n=>skip
   replace h:=Ad h c3
   refine brF ?_
   refine brF ?_
   refine brF ?_
   refine brF ?_
   refine brF ?_
   refine brF ?_
   refine brF ?_
   refine brF ?_
   refine brF ?_
   refine brF ?_
   refine brF ?_
   refine brF ?_
   refine brF ?_
   refine brF ?_
   refine brF ?_
   refine brF ?_
   refine brF ?_
   refine brF ?_
   obtain rfl:=Option.some.inj h
  case' c2n=>skip
  replace h:=Ad h c2
  refine brF ?_
  refine brF ?_
  refine brF ?_
  refine brF ?_
  refine brF ?_
  refine brF ?_
  refine brF ?_
  refine brF ?_
  refine brF ?_
  refine brF ?_
  refine brF ?_
  refine brF ?_
  refine brF ?_
  refine brF ?_
  refine brF ?_
  refine brF ?_
  refine brF ?_
  refine brF ?_
  refine brF ?_
  obtain rfl:=Option.some.inj h
 case' c1n=>
  replace h:=Ad h c1
  refine brF ?_
  refine brF ?_
  refine brF ?_
  refine brF ?_
  refine brF ?_
  refine brF ?_
  refine brF ?_
  refine brF ?_
  refine brF ?_
  refine brF ?_
  refine brF ?_
  refine brF ?_
  refine brF ?_
  refine brF ?_
  refine brF ?_
  refine brF ?_
  refine brF ?_
  refine brF ?_
  refine brF ?_
  refine brF ?_
  obtain rfl:=Option.some.inj h
 all_goals (refine CV ?_;simp only [Bq,fits,C.asD,and_true]<;>(first | exact rfl | trivial | exact ⟨rfl,rfl⟩ | exact ⟨rfl,rfl,rfl⟩ | (simp [*];done) | (simp_all;done) | (simp only [DZ] at *;simp_all;first | done | rfl)))
set_option maxHeartbeats 16000000 in
theorem Zg (m:Au)  (r:ByteArray×Int)(h:O0 m=some r):AQ Tryz.prog 19 [JU m] [.d (.sc (.string r.1)),.d (.sc (.int .i64 r.2))]:=by
 refine T.fn [] Tryz.func19 ?_
 unfold O0 at h
 refine Aa h fun r8 q1 h=>?_
 refine Ar T.en_46 (Zc m r8 q1) ?_
 refine CB h fun g1 h=>?_
 refine CB h fun g2 h=>?_
 refine Ar T.en_45 (join_any 32 r8 g1 g2) ?_
 refine Aa h fun r12 q2 h=>?_
 refine Ar T.en_17 (U8 (GR 32 r8) r12 q2) ?_
 refine br (fun c1=>?c1y) (fun c1=>?c1n)
 case' c1y=>
  replace h:=Ac h c1
  refine brT ?_
  obtain rfl:=Option.some.inj h
 case' c1n=>
  replace h:=Ad h (fun k=>k c1)
  refine Aa h fun r20 q3 h=>?_
  refine Ar T.en_47 (Aab m r12.1 r20 q3) ?_
  refine br (fun c2=>?c2y) (fun c2=>?c2n)
  case' c2y=>
   replace h:=Ac h (nf c2)
   obtain rfl:=Option.some.inj h
  case' c2n=>skip
  replace h:=Ad h (fun k=>k c2)
  obtain rfl:=Option.some.inj h
 all_goals (refine CV ?_;simp only [Bq,fits,C.asD,and_true]<;>(first | exact rfl | trivial | exact ⟨rfl,rfl⟩ | exact ⟨rfl,rfl,rfl⟩ | (simp [*];done) | (simp_all;done) | (simp only [DZ] at *;simp_all;first | done | rfl)))
end Go.Vm
end
section
namespace Go.Vm
open Go.RowKit Go.Proofs
set_option maxRecDepth 10000
open Go.Proofs Go.Proofs.YtdfbohaohjaloaaGreatDoor Punnet.Name Punnet.Num
set_option maxHeartbeats 16000000 in
theorem Aay (line:ByteArray)  (r:Bool)(h:QE line=some r):AQ Tryz.prog 5 [.sc (.string line)] [.d (.sc (.bool r))]:=by
 refine T.fn [] Tryz.func5 ?_
 unfold QE at h
 refine Ar T.en_7 (awake34_any) ?_
 refine br (fun c1=>?c1y) (fun c1=>?c1n)
 case' c1y=>
  replace h:=Ac h (nf c1)
  obtain rfl:=Option.some.inj h
 case' c1n=>
  replace h:=Ad h (fun k=>k c1)
  refine Az ?_
  refine br (fun c2=>?c2y) (fun c2=>?c2n)
  case' c2y=>
   replace h:=Ac h c2
   obtain rfl:=Option.some.inj h
  case' c2n=>skip
  replace h:=Ad h c2
  refine Aa h fun r16 q1 h=>?_
  refine Ar T.en_17 (U8 line r16 q1) ?_
  refine Aa h fun r21 q2 h=>?_
  refine Ar T.en_15 (Yx line r21 q2) ?_
  refine DC (pr_neb Tryz.underlying4) rfl ?_
  refine br (fun c3=>?c3y) (fun c3=>?c3n)
  case' c3y=>
   replace h:=Ac h (nf c3)
   refine brT ?_
   refine brT ?_
   obtain rfl:=Option.some.inj h
  case' c3n=>skip
  replace h:=Ad h (fun k=>k c3)
  refine br (fun c4=>?c4y) (fun c4=>?c4n)
  case' c4y=>
   replace h:=Ac h (nf c4)
   refine br (fun c5=>?c5y) (fun c5=>?c5n)
   case' c5y=>
    replace h:=Ac h c5
    refine brT ?_
    obtain rfl:=Option.some.inj h
   case' c5n=>skip
   replace h:=Ad h (fun k=>k c5)
   refine Aa h fun r39 q3 h=>?_
   refine Ar T.en_18 (VI r16.1 r21.1 r39 q3) ?_
   refine br (fun c6=>?c6y) (fun c6=>?c6n)
   case' c6y=>
    replace h:=Ac h (nf c6)
    obtain rfl:=Option.some.inj h
   case' c6n=>skip
   replace h:=Ad h (fun k=>k c6)
   refine br (fun c7=>?c7y) (fun c7=>?c7n)
   case' c7y=>
    replace h:=Ac h (nf c7)
    obtain rfl:=Option.some.inj h
   case' c7n=>skip
   exact absurd c7 (nf c4)
  case' c4n=>skip
  replace h:=Ad h (fun k=>k c4)
  refine brF ?_
  refine Aa h fun r39 q4 h=>?_
  refine Ar T.en_18 (VI r16.1 r21.1 r39 q4) ?_
  refine br (fun c8=>?c8y) (fun c8=>?c8n)
  case' c8y=>
   replace h:=Ac h (nf c8)
   obtain rfl:=Option.some.inj h
  case' c8n=>skip
  replace h:=Ad h (fun k=>k c8)
  refine br (fun c9=>?c9y) (fun c9=>?c9n)
  case' c9y=>
   exact absurd c4 (nf c9)
  case' c9n=>skip
  replace h:=Ad h (fun k=>k c9)
  refine Aa h fun r46 q5 h=>?_
  refine Ar T.en_19 (Zg r16.1 r46 q5) ?_
  refine br (fun c10=>?c10y) (fun c10=>?c10n)
  case' c10y=>
   obtain rfl:=Option.some.inj h
  case' c10n=>skip
  obtain rfl:=Option.some.inj h
 all_goals (refine CV ?_;simp only [Bq,fits,C.asD,and_true]<;>(first | exact rfl | trivial | exact ⟨rfl,rfl⟩ | exact ⟨rfl,rfl,rfl⟩ | (simp [*];done) | (simp_all;done) | (simp only [DZ] at *;simp_all;first | done | rfl)))
end Go.Vm
end
section
namespace Go.Vm
open Go.Proofs Go.Proofs.YtdfbohaohjaloaaGreatDoor Punnet.Name Punnet.Num
inductive RK where
 | n | t | p | m | i | q
abbrev DASH:ByteArray:=⟨#[45]⟩
noncomputable def okK:RK→ByteArray→Bool
 | .n,a=>decide ((Aw a).2=0)
 | .t,a=>(CQ a).isSome
 | .p,a=>(placeOf a).isSome
 | .m,a=>nameB a
 | .i,a=>decide (a=DASH)||nameB a
 | .q,a=>decide ((DD a).2=0)
noncomputable def nxt (k:RK):A8→A8
 | ⟨[],_⟩=>⟨[],true⟩
 | ⟨a::l,b⟩=>⟨l,b || !okK k a⟩
def wrd:A8→ByteArray
 | ⟨[],_⟩=>noB
 | ⟨a::_,_⟩=>a
def Du (a:ByteArray):ByteArray:=if a=DASH then noB else a
def Sm (r:A8):Prop:=∀a∈r.words,a.size≤1000000 
theorem Sm.nxt {r:A8}(h:Sm r)(k:RK):Sm (nxt k r):=by
 obtain ⟨l,b⟩:=r
 cases l with
 | nil=>intro a ha;cases ha
 | cons x l=>intro a ha;exact h a (List.mem_cons_of_mem _ ha)
theorem Sm.wrd {r:A8}(h:Sm r):(wrd r).size≤1000000:=by
 obtain ⟨l,b⟩:=r
 cases l with
 | nil=>exact Nat.zero_le _
 | cons x l=>exact h x (List.mem_cons_self ..)
theorem NH {b:Bool}:Hu ⟨[],b⟩=some (noB,⟨[],true⟩):=rfl
theorem Dh {a:ByteArray}{l:List ByteArray}{b:Bool}:Hu ⟨a::l,b⟩=some (a,⟨l,b⟩):=by
 unfold Hu
 rw [if_neg (by simp;omega),show (0:Int)=((0:Nat):Int) from rfl,idx_nat]
 show ((some a).bind fun p=>_)=_
 rw [Option.bind_some,show (1:Int)=((1:Nat):Int) from rfl,UH (by simp)]
 rfl
theorem OT {b:Bool}{p:Prop} [Decidable p]{c:Bool}(h:c=decide p):decide ((b=true)∨¬p)=(b || !c):=by
 subst h;cases b<;>by_cases hp:p<;>simp [hp]
theorem number_eq {r:A8}(h:Sm r):Jo r=some ((Aw (wrd r)).1,nxt .n r):=by
 have hw:=h.wrd
 obtain ⟨l,b⟩:=r
 unfold Jo
 cases l with
 | nil=>rw [NH,Option.bind_some,AO (by decide)];simp [nxt,wrd]
 | cons a l=>have hw:a.size≤1000000:=hw;rw [Dh,Option.bind_some];dsimp only;rw [AO hw];simp only [nxt,wrd];rw [OT (c:=okK .n a) rfl]
theorem EE {r:A8}(h:Sm r):Jw r=some ((Aw (wrd r)).1,nxt .n r):=by
 unfold Jw;rw [number_eq h];rfl
theorem some4 {α:Type}{x:Option α}:(¬((if x.isSome=true then (0:Int) else 4)=0))↔¬(x.isSome=true):=by cases x<;>simp
theorem Qq {r:A8}(h:Sm r):MC r=some ((CQ (wrd r)).getD AU,nxt .t r):=by
 have hw:=h.wrd
 obtain ⟨l,b⟩:=r
 unfold MC
 cases l with
 | nil=>rw [NH,Option.bind_some,AO (by decide)];simp [nxt,wrd]
 | cons a l=>
  have hw:a.size≤1000000:=hw
  rw [Dh,Option.bind_some];dsimp only;rw [AO hw]
  simp only [nxt,wrd,some4]
  rw [OT (c:=okK .t a) (by show (CQ a).isSome=_;cases (CQ a).isSome<;>rfl)]
theorem GX {r:A8}(h:Sm r):Jv r=some ((placeOf (wrd r)).getD Ae,nxt .p r):=by
 have hw:=h.wrd
 obtain ⟨l,b⟩:=r
 unfold Jv
 cases l with
 | nil=>rw [NH,Option.bind_some,AO (by decide)];simp [nxt,wrd]
 | cons a l=>
  have hw:a.size≤1000000:=hw
  rw [Dh,Option.bind_some];dsimp only;rw [AO hw]
  simp only [nxt,wrd,some4]
  rw [OT (c:=okK .p a) (by show (placeOf a).isSome=_;cases (placeOf a).isSome<;>rfl)]
theorem G9 {r:A8}:LQ r=some (wrd r,nxt .m r):=by
 obtain ⟨l,b⟩:=r
 unfold LQ
 cases l with
 | nil=>rw [NH,Option.bind_some];simp [nxt,wrd]
 | cons a l=>rw [Dh,Option.bind_some];simp only [nxt,wrd];rw [OT (c:=okK .m a) (by simp [okK])]
theorem NZ {r:A8}:MR r=some (Du (wrd r),nxt .i r):=by
 obtain ⟨l,b⟩:=r
 unfold MR
 cases l with
 | nil=>rw [NH,Option.bind_some,if_neg (by decide)];simp [nxt,wrd,Du]
 | cons a l=>
  rw [Dh,Option.bind_some]
  by_cases ha:a=DASH
  ·rw [if_pos ha];simp [nxt,wrd,Du,okK,ha]
  ·rw [if_neg ha,OT (c:=okK .i a) (by simp [okK,ha])]
   show some (a,_)=some (Du a,_)
   rw [Du,if_neg ha];rfl
theorem text_eq {r:A8}(h:Sm r):Nr r=some ((DD (wrd r)).1,nxt .q r):=by
 have hw:=h.wrd
 obtain ⟨l,b⟩:=r
 unfold Nr
 cases l with
 | nil=>rw [NH,Option.bind_some,AO (by decide)];simp [nxt,wrd]
 | cons a l=>have hw:a.size≤1000000:=hw;rw [Dh,Option.bind_some];dsimp only;rw [AO hw];simp only [nxt,wrd];rw [OT (c:=okK .q a) rfl]
noncomputable def okF:List RK→List ByteArray→Bool
 | [],[]=>true
 | k::ks,a::l=>okK k a&&okF ks l
 | _,_=>false
noncomputable def CG (ks:List RK)(r:A8):A8:=ks.foldl (fun r k=>nxt k r) r
def good (r:A8):Bool:=!r.bad&&r.words.isEmpty
theorem Jp:∀(ks:List RK) (l:List ByteArray) (b:Bool),good (CG ks ⟨l,b⟩)=(!b&&okF ks l)
 | [],[],b=>by simp [CG,good,okF]
 | [],a::l,b=>by simp [CG,good,okF]
 | k::ks,[],b=>by
  show good (CG ks (nxt k ⟨[],b⟩))=_
  rw [nxt,Jp ks [] true];simp [okF]
 | k::ks,a::l,b=>by
  show good (CG ks (nxt k ⟨a::l,b⟩))=_
  rw [nxt,Jp ks l _,okF];cases b<;>cases okK k a<;>rfl
theorem bad_iff {r:A8}:((r.bad=true)∨(0<((r.words.length:Nat):Int)))↔good r=false:=by
 obtain ⟨l,b⟩:=r
 cases b<;>cases l<;>simp [good]<;>omega
end Go.Vm
end
section
namespace Go.Vm
open Go.Proofs Go.Proofs.YtdfbohaohjaloaaGreatDoor Punnet.Name Punnet.Num
def kOf (c:UInt8):RK:=if c.toNat=119∨c.toNat=110 then .n else if c.toNat=116 then .t else if c.toNat=112 then .p else if c.toNat=113 then .q else if c.toNat=105 then .i else .m
noncomputable def Dk (k:RK)(a:ByteArray)(g:BQ):BQ:=match k with
 | .n=>{ g with n:=g.n ++ [(Aw a).1] }
 | .t=>{ g with t:=g.t ++ [(CQ a).getD AU] }
 | .p=>{ g with p:=g.p ++ [(placeOf a).getD Ae] }
 | .q=>{ g with q:=g.q ++ [(Dq a 0).1] }
 | .i=>{ g with s:=g.s ++ [Du a] }
 | .m=>{ g with s:=g.s ++ [a] }
noncomputable def DL:List RK→List ByteArray→BQ→BQ
 | k::ks,a::l,g=>DL ks l (Dk k a g)
 | _,_,g=>g
def few (g:BQ)(i:Nat):Prop:=g.n.length≤i∧g.t.length≤i∧g.s.length≤i∧g.p.length≤i∧g.q.length≤i
theorem few_add {g:BQ}{i:Nat}(h:few g i)(k:RK)(a:ByteArray):few (Dk k a g) (i+1):=by
 obtain ⟨h1,h2,h3,h4,h5⟩:=h
 cases k<;>simp only [Dk,few,List.length_append,List.length_singleton]<;>omega
theorem Qz {a:ByteArray}:okK .q a=true↔(Dq a 0).2.2=0∧(((Dq a 0).2.1:Nat))=((a.size:Nat):Int):=by
 unfold okK DD
 rw [decide_eq_true_eq]
 by_cases h1:(Dq a 0).2.2=0
 ·rw [if_pos h1]
  by_cases h2:(Dq a 0).2.1=a.size
  ·rw [if_pos h2];exact ⟨fun _=>⟨h1,by rw [h2]⟩,fun _=>rfl⟩
  ·rw [if_neg h2]
   refine ⟨fun h=>absurd h (by decide),fun h=>absurd (Int.ofNat_inj.1 h.2) h2⟩
 ·rw [if_neg h1];exact ⟨fun h=>absurd h h1,fun h=>absurd h.1 h1⟩
theorem Oc {a:ByteArray}(h:okK .q a=true):(DD a).1=(Dq a 0).1:=by
 obtain ⟨h1,h2⟩:=Qz.1 h
 unfold DD
 rw [if_pos h1,if_pos (Int.ofNat_inj.1 h2)]
def CO (form:ByteArray):List RK:=form.data.toList.map kOf
def endOf (ks:List RK)(ws:List ByteArray)(g:BQ):Sum (BQ×Bool) (BQ×BQ×Int)→Prop
 | .inl x=>x.2=false∧okF ks ws=false
 | .inr x=>okF ks ws=true∧x.2.1=DL ks ws g
theorem MN {α:Type}{l:List α}{x:α}{i:Nat}(h:l.length≤i)(hi:i≤1000):BG l [x] = some (l ++ [x]):=appL_ok (by rw [List.length_singleton];omega)
theorem take_step (l:List ByteArray)(form:ByteArray)(hl:l.length=form.size)(hf:form.size≤1000)(hs:∀a∈l,a.size≤1000000):∀(n i:Nat) (v g:BQ),i≤form.size→form.size-i<n→few g i →
 ∃x,Hr l form n v g (i:Int)=some x∧endOf ((CO form).drop i) (l.drop i) g x:=by
 intro n
 induction n with
 | zero=>intro i v g hi hn _;omega
 | succ n ih=>
  intro i v g hi hn hg
  rw [Hr]
  by_cases hc:(i:Int)<((form.size:Nat):Int)
  ·rw [if_pos hc]
   have hi2:i<form.size:=by omega
   obtain ⟨c,hcc⟩:∃c,form[i]? = some c:=⟨_,getElem?_pos form i hi2⟩
   obtain ⟨a,haa⟩:∃a,l[i]? = some a:=⟨_,List.getElem?_eq_getElem (by omega)⟩
   have e1:idxS form (i:Int)=some c:=by unfold idxS;rw [if_pos (by omega),Int.toNat_natCast];exact hcc
   have e2:idx l (i:Int)=some a:=idxN haa
   have hsz:=hs a (List.mem_of_getElem? haa)
   have hk:(CO form)[i]? = some (kOf c):=by
    unfold CO
    rw [List.getElem?_map,←NL,hcc];rfl
   have d1:(CO form).drop i=kOf c::(CO form).drop (i+1):=by
    obtain ⟨h1,h2⟩:=List.getElem?_eq_some_iff.1 hk
    rw [List.drop_eq_getElem_cons h1,h2]
   have d2:l.drop i=a::l.drop (i+1):=by
    obtain ⟨h1,h2⟩:=List.getElem?_eq_some_iff.1 haa
    rw [List.drop_eq_getElem_cons h1,h2]
   have ew:w64 ((i:Int)+1)=((i+1:Nat):Int):=by rw [w64_id (by omega) (by omega)];omega
   have no:okK (kOf c) a=false→∃x,(some (Sum.inl (g,false)):Option (Sum (BQ×Bool) (BQ×BQ×Int)))=some x∧endOf ((CO form).drop i) (l.drop i) g x:=fun h=>⟨_,rfl,rfl,by rw [d1,d2,okF,h];rfl⟩
   have yes:∀g',okK (kOf c) a=true→g'=Dk (kOf c) a g→∃x,Hr l form n v g' (w64 ((i:Int)+1))=some x∧endOf ((CO form).drop i) (l.drop i) g x:=by
    rintro g' h rfl
    rw [ew]
    obtain ⟨x,h1,h2⟩:=ih (i+1) v (Dk (kOf c) a g) (by omega) (by omega) (few_add hg _ _)
    refine ⟨x,h1,?_⟩
    rw [d1,d2]
    cases x with
    | inl x=>exact ⟨h2.1,by rw [okF,h,h2.2];rfl⟩
    | inr x=>exact ⟨by rw [okF,h,h2.1];rfl,h2.2⟩
   obtain ⟨g1,g2,g3,g4,g5⟩:=hg
   rw [e1,Option.bind_some]
   have conv:∀k:Nat,((((c.toNat:Nat):Int)=(k:Int))↔c.toNat=k):=fun k=>Int.ofNat_inj
   have c119:=conv 119;have c110:=conv 110;have c116:=conv 116;have c112:=conv 112;have c113:=conv 113;have c105:=conv 105
   simp only [Int.cast_ofNat_Int] at c119 c110 c116 c112 c113 c105
   by_cases k1:c.toNat=119∨c.toNat=110
   ·have hk:kOf c=.n:=by unfold kOf;rw [if_pos k1]
    rw [if_pos (by rw [c119,c110];exact k1),e2,Option.bind_some,AO hsz]
    by_cases ho:(Aw a).2=0
    ·rw [if_neg (fun h=>h ho),MN g1 (by omega),Option.bind_some]
     exact yes _ (by rw [hk];exact decide_eq_true ho) (by rw [hk];rfl)
    ·rw [if_pos (by simpa using ho)];exact no (by rw [hk];exact decide_eq_false ho)
   rw [if_neg (by rw [c119,c110];exact k1)]
   by_cases k2:c.toNat=116
   ·have hk:kOf c=.t:=by unfold kOf;rw [if_neg k1,if_pos k2]
    rw [if_pos (c116.2 k2),e2,Option.bind_some,AO hsz]
    by_cases ho:(CQ a).isSome=true
    ·rw [if_neg (fun h=>h ho),MN g2 (by omega),Option.bind_some]
     exact yes _ (by rw [hk];exact ho) (by rw [hk];rfl)
    ·rw [if_pos ho];exact no (by rw [hk];exact Bool.eq_false_iff.2 ho)
   rw [if_neg (fun h=>k2 (c116.1 h))]
   by_cases k3:c.toNat=112
   ·have hk:kOf c=.p:=by unfold kOf;rw [if_neg k1,if_neg k2,if_pos k3]
    rw [if_pos (c112.2 k3),e2,Option.bind_some,AO hsz]
    by_cases ho:(placeOf a).isSome=true
    ·rw [if_neg (fun h=>h ho),MN g4 (by omega),Option.bind_some]
     exact yes _ (by rw [hk];exact ho) (by rw [hk];rfl)
    ·rw [if_pos ho];exact no (by rw [hk];exact Bool.eq_false_iff.2 ho)
   rw [if_neg (fun h=>k3 (c112.1 h))]
   by_cases k4:c.toNat=113
   ·have hk:kOf c=.q:=by unfold kOf;rw [if_neg k1,if_neg k2,if_neg k3,if_pos k4]
    rw [if_pos (c113.2 k4),e2,Option.bind_some,AO hsz]
    by_cases ho:okK .q a=true
    ·obtain ⟨o1,o2⟩:=Qz.1 ho
     rw [if_neg (fun h=>h o1),Option.bind_some,if_neg (fun h=>h o2),MN g5 (by omega),Option.bind_some]
     exact yes _ (by rw [hk];exact ho) (by rw [hk];rfl)
    ·by_cases o1:(Dq a 0).2.2=0
     ·rw [if_neg (fun h=>h o1),Option.bind_some,if_pos (fun h=>ho (Qz.2 ⟨o1,h⟩))];exact no (by rw [hk];exact Bool.eq_false_iff.2 ho)
     ·rw [if_pos o1];exact no (by rw [hk];exact Bool.eq_false_iff.2 ho)
   rw [if_neg (fun h=>k4 (c113.1 h)),e2,Option.bind_some,Option.bind_some]
   by_cases k5:c.toNat=105
   ·have hk:kOf c=.i:=by unfold kOf;rw [if_neg k1,if_neg k2,if_neg k3,if_neg k4,if_pos k5]
    by_cases hd:a=DASH
    ·rw [if_pos ⟨c105.2 k5,hd⟩,MN g3 (by omega),Option.bind_some]
     exact yes _ (by rw [hk];simp [okK,hd]) (by rw [hk,Dk,Du,if_pos hd])
    ·rw [if_neg (fun h=>hd h.2)]
     by_cases ho:nameB a=true
     ·rw [if_neg (fun h=>h ho),MN g3 (by omega),Option.bind_some]
      exact yes _ (by rw [hk];simp [okK,ho]) (by rw [hk,Dk,Du,if_neg hd])
     ·rw [if_pos ho];exact no (by rw [hk];simp [okK,hd,ho])
   ·have hk:kOf c=.m:=by unfold kOf;rw [if_neg k1,if_neg k2,if_neg k3,if_neg k4,if_neg k5]
    rw [if_neg (fun h=>k5 (c105.1 h.1))]
    by_cases ho:nameB a=true
    ·rw [if_neg (fun h=>h ho),MN g3 (by omega),Option.bind_some]
     exact yes _ (by rw [hk];exact ho) (by rw [hk];rfl)
    ·rw [if_pos ho];exact no (by rw [hk];exact Bool.eq_false_iff.2 ho)
  ·rw [if_neg hc]
   obtain rfl:i=form.size:=by omega
   have z1:(CO form).drop form.size= []:=List.drop_eq_nil_of_le (by unfold CO;rw [List.length_map];exact Nat.le_of_eq (FT form))
   have z2:l.drop form.size= []:=List.drop_eq_nil_of_le (by omega)
   refine ⟨_,rfl,?_,?_⟩
   ·rw [z1,z2];rfl
   ·rw [z1,z2];rfl
abbrev noGot:BQ:=⟨[],[],[],[],[]⟩
theorem okF_len:∀{ks:List RK} {l:List ByteArray},okF ks l=true→l.length=ks.length
 | [],[],_=>rfl
 | [],_::_,h=>by cases h
 | _::_,[],h=>by cases h
 | k::ks,a::l,h=>by rw [okF,Bool.and_eq_true] at h;rw [List.length_cons,List.length_cons,okF_len h.2]
theorem D7 (l:List ByteArray)(form:ByteArray)(hf:form.size≤1000)(hs:∀a∈l,a.size≤1000000):∃g,Ny l form=some (g,okF (CO form) l)∧(okF (CO form) l=true→g=DL (CO form) l noGot):=by
 unfold Ny
 by_cases hl:l.length=form.size
 ·rw [if_neg (by omega)]
  obtain ⟨x,h1,h2⟩:=take_step l form hl hf hs 1000000 0 noGot noGot (by omega) (by omega) ⟨by simp,by simp,by simp,by simp,by simp⟩
  rw [show ((0:Nat):Int)=0 from rfl] at h1
  rw [h1,Option.bind_some]
  rw [List.drop_zero,List.drop_zero] at h2
  cases x with
  | inl x=>obtain ⟨g,b⟩:=x;obtain ⟨q1,q2⟩:=h2;exact ⟨g,by rw [q2,show b=false from q1],fun h=>by rw [q2] at h;cases h⟩
  | inr x=>obtain ⟨v,g,j⟩:=x;obtain ⟨q1,q2⟩:=h2;exact ⟨g,by rw [q1],fun _=>q2⟩
 ·rw [if_pos (by omega)]
  have hno:okF (CO form) l=false:=by
   refine Bool.eq_false_iff.2 fun h=>hl ?_
   rw [okF_len h];unfold CO;rw [List.length_map];exact FT form
  exact ⟨noGot,by rw [hno],fun h=>by rw [hno] at h;cases h⟩
end Go.Vm
end
section
namespace Go.Vm
open Go.Proofs Go.Proofs.YtdfbohaohjaloaaGreatDoor Punnet.Name Punnet.Num
set_option maxRecDepth 10000
theorem Bz {s:ByteArray}(h:okK .n s=true):EZ (Aw s).1=s∧G6 (Aw s).1:=by
 obtain ⟨h1,h2,h3⟩:=SN (of_decide_eq_true h)
 exact ⟨GI (by rw [WE];exact h1),⟨h2,by show (BO s.data.toList).1 < _;omega⟩⟩
theorem LZ {s:ByteArray}(h:okK .t s=true):IA ((CQ s).getD AU)∧FU ((CQ s).getD AU)=s:=by
 have h:(CQ s).isSome=true:=h
 cases hs:CQ s with
 | none=>rw [hs] at h;cases h
 | some t=>exact U2 hs
theorem IM {s:ByteArray}(h:okK .p s=true):(if BF ((placeOf s).getD Ae)=true then BJ ((placeOf s).getD Ae) else ⟨#[63]⟩)=s:=by
 have h:(placeOf s).isSome=true:=h
 cases hs:placeOf s with
 | none=>rw [hs] at h;cases h
 | some t=>
  obtain ⟨h1,h2⟩:=Tq hs
  rw [Option.getD_some,if_pos h1,h2]
theorem Qb {s:ByteArray}(h:okK .q s=true):LX (DD s).1=s:=by
 rw [Oc h]
 obtain ⟨h1,h2⟩:=Qz.1 h
 have hq:(N9 s).2=true:=by
  unfold N9
  simp only [Bool.and_eq_true,decide_eq_true_eq]
  exact ⟨h1,h2⟩
 obtain ⟨h3,h4⟩:=YS hq
 unfold LX OX
 have h4:(Dq s 0).1.size≤40:=h4
 rw [if_pos h4,if_neg (by simp)]
 exact h3
theorem NT {s:ByteArray}(h:okK .i s=true):LD (Du s)=s:=by
 unfold LD Du
 by_cases hd:s=DASH
 ·rw [if_pos hd,if_pos rfl,hd]
 ·rw [if_neg hd,if_neg]
  intro e
  have h:(decide (s=DASH)||nameB s)=true:=h
  rw [decide_eq_false hd,Bool.false_or] at h
  exact nameB_ne h (by rw [e])
theorem find_eq {l:List Bc}{v:ByteArray}(h:l.length≤1000000000):BU l v=((LY v l 0).bind fun m_=>match m_ with | .inl rl1=>some rl1 | .inr _=>some (-1)):=by
 unfold BU;rw [AO h];rfl
theorem DU {t:Il}{k:Int}{v:ByteArray}(h1:¬(k<0∨13≤k))(h2:idx [t.e0,t.e1,t.e2,t.e3,t.e4,t.e5,t.e6,t.e7,t.e8,t.e9,t.e10,t.e11,t.e12] k=some v):CZ t k=some v:=by
 unfold CZ;rw [if_neg h1,h2];rfl
theorem Dy {α:Type}{a:α}{l:List α}:idx (a::l) 0=some a:=rfl
theorem DR {a:ByteArray}{l:List ByteArray}:Gv (a::l) 1 (((a::l).length:Nat):Int)=some l:=by
 rw [show (1:Int)=((1:Nat):Int) from rfl,UH (by simp)];rfl
abbrev I9:ByteArray:=⟨#[97,100,100]⟩
abbrev IY:ByteArray:=⟨#[114,101,109,111,118,101]⟩
abbrev Je:ByteArray:=⟨#[97,100,106,117,115,116]⟩
abbrev IU:ByteArray:=⟨#[115,101,116]⟩
abbrev IQ:ByteArray:=⟨#[112,117,116]⟩
abbrev Jh:ByteArray:=⟨#[116,97,107,101]⟩
abbrev Jc:ByteArray:=⟨#[99,108,101,97,114]⟩
abbrev KU:ByteArray:=⟨#[112,117,98,108,105,115,104]⟩
abbrev IK:ByteArray:=⟨#[115,119,105,116,99,104]⟩
abbrev IG:ByteArray:=⟨#[118,105,101,119]⟩
abbrev Jd:ByteArray:=⟨#[97,116]⟩
abbrev Jf:ByteArray:=⟨#[112,114,111,106,101,99,116]⟩
abbrev GZ:ByteArray:=⟨#[104,101,108,108,111]⟩
abbrev G7:ByteArray:=⟨#[100,101,108,105,118,101,114]⟩
abbrev G8:ByteArray:=⟨#[108,111,115,101]⟩
abbrev GV:ByteArray:=⟨#[100,111,117,98,108,101]⟩
abbrev Ho:ByteArray:=⟨#[99,117,116]⟩
abbrev Hg:ByteArray:=⟨#[102,117,115,101]⟩
abbrev Ha:ByteArray:=⟨#[99,114,97,115,104]⟩
abbrev Hl:ByteArray:=⟨#[102,111,108,100]⟩
abbrev GY:ByteArray:=⟨#[109,101,101,116]⟩
abbrev I4:ByteArray:=⟨#[114,101,110,97,109,101]⟩
abbrev IB:ByteArray:=⟨#[104,111,105,115,116]⟩
abbrev I8:ByteArray:=⟨#[112,108,117,110,103,101]⟩
abbrev Ja:ByteArray:=⟨#[115,112,108,105,116]⟩
abbrev IW:ByteArray:=⟨#[119,114,97,112]⟩
abbrev Hw:ByteArray:=⟨#[99,111,117,110,116,101,114]⟩
abbrev Ip:ByteArray:=⟨#[116,101,120,116]⟩
abbrev Ic:ByteArray:=⟨#[108,105,115,116]⟩
theorem Y2:BC Ew I4=some 1:=by kernel_rfl
theorem ZC:BC Ew IB=some 4:=by kernel_rfl
theorem Z7:BC Ew I8=some 5:=by kernel_rfl
theorem YP:BC Ew Ja=some 6:=by kernel_rfl
theorem YJ:BC Ew IW=some 7:=by kernel_rfl
theorem Zp:BC Ew Hw=some 0:=by kernel_rfl
theorem Yb:BC Gg Hw=some 1:=by kernel_rfl
theorem Aaq:BC Ew Ip=some 0:=by kernel_rfl
theorem kAdded_text:BC Gg Ip=some 2:=by kernel_rfl
theorem Ym:BC Ew Ic=some 0:=by kernel_rfl
theorem kAdded_list:BC Gg Ic=some 4:=by kernel_rfl
theorem kDeeds_add:BC CS I9=some 1:=by kernel_rfl
theorem Zl:BC CS IY=some 2:=by kernel_rfl
theorem Yc:BC CS Je=some 3:=by kernel_rfl
theorem kDeeds_set:BC CS IU=some 4:=by kernel_rfl
theorem kDeeds_put:BC CS IQ=some 5:=by kernel_rfl
theorem kDeeds_take:BC CS Jh=some 6:=by kernel_rfl
theorem Zu:BC CS Jc=some 7:=by kernel_rfl
theorem YF:BC CS KU=some 8:=by kernel_rfl
theorem Yg:BC CS IK=some 9:=by kernel_rfl
theorem kDeeds_view:BC CS IG=some 10:=by kernel_rfl
theorem kDeeds_at:BC CS Jd=some 11:=by kernel_rfl
theorem Aau:BC CS Jf=some 12:=by kernel_rfl
theorem Yq:BC Ec GZ=some 2:=by kernel_rfl
theorem Aao:BC CS GZ=some 0:=by kernel_rfl
theorem Y1:BC Ec G7=some 3:=by kernel_rfl
theorem YT:BC CS G7=some 0:=by kernel_rfl
theorem kMoves_lose:BC Ec G8=some 4:=by kernel_rfl
theorem kDeeds_lose:BC CS G8=some 0:=by kernel_rfl
theorem Yy:BC Ec GV=some 5:=by kernel_rfl
theorem YQ:BC CS GV=some 0:=by kernel_rfl
theorem kMoves_cut:BC Ec Ho=some 6:=by kernel_rfl
theorem kDeeds_cut:BC CS Ho=some 0:=by kernel_rfl
theorem kMoves_fuse:BC Ec Hg=some 7:=by kernel_rfl
theorem kDeeds_fuse:BC CS Hg=some 0:=by kernel_rfl
theorem Zd:BC Ec Ha=some 8:=by kernel_rfl
theorem ZH:BC CS Ha=some 0:=by kernel_rfl
theorem kMoves_fold:BC Ec Hl=some 9:=by kernel_rfl
theorem kDeeds_fold:BC CS Hl=some 0:=by kernel_rfl
theorem kMoves_meet:BC Ec GY=some 10:=by kernel_rfl
theorem kDeeds_meet:BC CS GY=some 0:=by kernel_rfl
theorem fdeeds_add:BU CX I9=some 1:=by rw [find_eq (by decide)];kernel_rfl
theorem ZG:BU CX IY=some 2:=by rw [find_eq (by decide)];kernel_rfl
theorem Z9:BU CX Je=some 3:=by rw [find_eq (by decide)];kernel_rfl
theorem fdeeds_set:BU CX IU=some 4:=by rw [find_eq (by decide)];kernel_rfl
theorem fdeeds_put:BU CX IQ=some 5:=by rw [find_eq (by decide)];kernel_rfl
theorem fdeeds_take:BU CX Jh=some 6:=by rw [find_eq (by decide)];kernel_rfl
theorem Zt:BU CX Jc=some 7:=by rw [find_eq (by decide)];kernel_rfl
theorem Tv:BU CX KU=some 8:=by rw [find_eq (by decide)];kernel_rfl
theorem Zr:BU CX IK=some 9:=by rw [find_eq (by decide)];kernel_rfl
theorem fdeeds_view:BU CX IG=some 10:=by rw [find_eq (by decide)];kernel_rfl
theorem fdeeds_at:BU CX Jd=some 11:=by rw [find_eq (by decide)];kernel_rfl
theorem ZT:BU CX Jf=some 12:=by rw [find_eq (by decide)];kernel_rfl
theorem YK:BU Eh GZ=some 2:=by rw [find_eq (by decide)];kernel_rfl
theorem YA:BU Eh G7=some 3:=by rw [find_eq (by decide)];kernel_rfl
theorem fmoves_lose:BU Eh G8=some 4:=by rw [find_eq (by decide)];kernel_rfl
theorem ZU:BU Eh GV=some 5:=by rw [find_eq (by decide)];kernel_rfl
theorem fmoves_cut:BU Eh Ho=some 6:=by rw [find_eq (by decide)];kernel_rfl
theorem fmoves_fuse:BU Eh Hg=some 7:=by rw [find_eq (by decide)];kernel_rfl
theorem Aae:BU Eh Ha=some 8:=by rw [find_eq (by decide)];kernel_rfl
theorem fmoves_fold:BU Eh Hl=some 9:=by rw [find_eq (by decide)];kernel_rfl
theorem fmoves_meet:BU Eh GY=some 10:=by rw [find_eq (by decide)];kernel_rfl
theorem Zx:BU EC I4=some 1:=by rw [find_eq (by decide)];kernel_rfl
theorem Aak:BU EC IB=some 4:=by rw [find_eq (by decide)];kernel_rfl
theorem Yd:BU EC I8=some 5:=by rw [find_eq (by decide)];kernel_rfl
theorem Aad:BU EC Ja=some 6:=by rw [find_eq (by decide)];kernel_rfl
theorem YN:BU EC IW=some 7:=by rw [find_eq (by decide)];kernel_rfl
theorem ZJ:BU EC Hw=some 11:=by rw [find_eq (by decide)];kernel_rfl
theorem Zf:BU EC Ip=some 12:=by rw [find_eq (by decide)];kernel_rfl
theorem Zi:BU EC Ic=some 14:=by rw [find_eq (by decide)];kernel_rfl
theorem Z4:BU CX GZ=some (-1):=by rw [find_eq (by decide)];kernel_rfl
theorem Aav:BU CX G7=some (-1):=by rw [find_eq (by decide)];kernel_rfl
theorem fdeeds_lose:BU CX G8=some (-1):=by rw [find_eq (by decide)];kernel_rfl
theorem Yf:BU CX GV=some (-1):=by rw [find_eq (by decide)];kernel_rfl
theorem fdeeds_cut:BU CX Ho=some (-1):=by rw [find_eq (by decide)];kernel_rfl
theorem fdeeds_fuse:BU CX Hg=some (-1):=by rw [find_eq (by decide)];kernel_rfl
theorem ZO:BU CX Ha=some (-1):=by rw [find_eq (by decide)];kernel_rfl
theorem fdeeds_fold:BU CX Hl=some (-1):=by rw [find_eq (by decide)];kernel_rfl
theorem fdeeds_meet:BU CX GY=some (-1):=by rw [find_eq (by decide)];kernel_rfl
theorem vDeeds_add:CZ CS 1=some I9:=DU (by decide) rfl
theorem Yl:CZ CS 2=some IY:=DU (by decide) rfl
theorem Ye:CZ CS 3=some Je:=DU (by decide) rfl
theorem vDeeds_set:CZ CS 4=some IU:=DU (by decide) rfl
theorem vDeeds_put:CZ CS 5=some IQ:=DU (by decide) rfl
theorem vDeeds_take:CZ CS 6=some Jh:=DU (by decide) rfl
theorem ZR:CZ CS 7=some Jc:=DU (by decide) rfl
theorem ZQ:CZ CS 8=some KU:=DU (by decide) rfl
theorem Yz:CZ CS 9=some IK:=DU (by decide) rfl
theorem vDeeds_view:CZ CS 10=some IG:=DU (by decide) rfl
theorem vDeeds_at:CZ CS 11=some Jd:=DU (by decide) rfl
theorem Y0:CZ CS 12=some Jf:=DU (by decide) rfl
theorem X0:CZ Ec 2=some GZ:=DU (by decide) rfl
theorem Zj:CZ Ec 3=some G7:=DU (by decide) rfl
theorem vMoves_lose:CZ Ec 4=some G8:=DU (by decide) rfl
theorem ZY:CZ Ec 5=some GV:=DU (by decide) rfl
theorem vMoves_cut:CZ Ec 6=some Ho:=DU (by decide) rfl
theorem vMoves_fuse:CZ Ec 7=some Hg:=DU (by decide) rfl
theorem ZX:CZ Ec 8=some Ha:=DU (by decide) rfl
theorem vMoves_fold:CZ Ec 9=some Hl:=DU (by decide) rfl
theorem vMoves_meet:CZ Ec 10=some GY:=DU (by decide) rfl
theorem Zb:CZ Ew 1=some I4:=DU (by decide) rfl
theorem Ze:CZ Ew 4=some IB:=DU (by decide) rfl
theorem YD:CZ Ew 5=some I8:=DU (by decide) rfl
theorem Y8:CZ Ew 6=some Ja:=DU (by decide) rfl
theorem YI:CZ Ew 7=some IW:=DU (by decide) rfl
theorem ZA:CZ Gg 1=some Hw:=DU (by decide) rfl
theorem vAdded_text:CZ Gg 2=some Ip:=DU (by decide) rfl
theorem vAdded_list:CZ Gg 4=some Ic:=DU (by decide) rfl
theorem Uz:CZ Ew 2=some noB:=DU (by decide) rfl
theorem Iu {t:Il}{w:ByteArray}{n:Nat}{i:Int}{p:ByteArray}(hi:i<13)(h:idx [t.e0,t.e1,t.e2,t.e3,t.e4,t.e5,t.e6,t.e7,t.e8,t.e9,t.e10,t.e11,t.e12] i=some p)(hn:¬(p=w∧¬p=noB)):Df t w (n+1) i=Df t w n (w64 (i+1)):=by
 rw [Df,if_pos hi,h,Option.bind_some,if_neg hn]
theorem kind_none {t:Il}{w:ByteArray}(h:∀p∈[t.e0,t.e1,t.e2,t.e3,t.e4,t.e5,t.e6,t.e7,t.e8,t.e9,t.e10,t.e11,t.e12],¬(p=w∧¬p=noB)):Df t w 1000000 0=some (.inr 13):=by
 rw [show Df t w 1000000 0=Df t w 999999 (w64 (0+1)) from Iu (by decide) rfl (h _ (by simp)),show w64 (0+1)=1 from by decide]
 rw [show Df t w 999999 1=Df t w 999998 (w64 (1+1)) from Iu (by decide) rfl (h _ (by simp)),show w64 (1+1)=2 from by decide]
 rw [show Df t w 999998 2=Df t w 999997 (w64 (2+1)) from Iu (by decide) rfl (h _ (by simp)),show w64 (2+1)=3 from by decide]
 rw [show Df t w 999997 3=Df t w 999996 (w64 (3+1)) from Iu (by decide) rfl (h _ (by simp)),show w64 (3+1)=4 from by decide]
 rw [show Df t w 999996 4=Df t w 999995 (w64 (4+1)) from Iu (by decide) rfl (h _ (by simp)),show w64 (4+1)=5 from by decide]
 rw [show Df t w 999995 5=Df t w 999994 (w64 (5+1)) from Iu (by decide) rfl (h _ (by simp)),show w64 (5+1)=6 from by decide]
 rw [show Df t w 999994 6=Df t w 999993 (w64 (6+1)) from Iu (by decide) rfl (h _ (by simp)),show w64 (6+1)=7 from by decide]
 rw [show Df t w 999993 7=Df t w 999992 (w64 (7+1)) from Iu (by decide) rfl (h _ (by simp)),show w64 (7+1)=8 from by decide]
 rw [show Df t w 999992 8=Df t w 999991 (w64 (8+1)) from Iu (by decide) rfl (h _ (by simp)),show w64 (8+1)=9 from by decide]
 rw [show Df t w 999991 9=Df t w 999990 (w64 (9+1)) from Iu (by decide) rfl (h _ (by simp)),show w64 (9+1)=10 from by decide]
 rw [show Df t w 999990 10=Df t w 999989 (w64 (10+1)) from Iu (by decide) rfl (h _ (by simp)),show w64 (10+1)=11 from by decide]
 rw [show Df t w 999989 11=Df t w 999988 (w64 (11+1)) from Iu (by decide) rfl (h _ (by simp)),show w64 (11+1)=12 from by decide]
 rw [show Df t w 999988 12=Df t w 999987 (w64 (12+1)) from Iu (by decide) rfl (h _ (by simp)),show w64 (12+1)=13 from by decide]
 rw [show Df t w 999987 13=some (.inr 13) from by rw [Df,if_neg (by decide)]]
theorem nDeeds {w:ByteArray}(h_add:¬w=I9)(h_remove:¬w=IY)(h_adjust:¬w=Je)(h_set:¬w=IU)(h_put:¬w=IQ)(h_take:¬w=Jh)(h_clear:¬w=Jc)(h_publish:¬w=KU)(h_switch:¬w=IK)(h_view:¬w=IG)(h_at:¬w=Jd)(h_project:¬w=Jf):BC CS w=some 0:=by
 unfold BC
 rw [kind_none (t:=CS) (w:=w) fun p hp hq=>?_]
 ·rfl
 ·obtain ⟨rfl,h0⟩:=hq
  simp only [CS,List.mem_cons,List.not_mem_nil,or_false] at hp
  rcases hp with h | h | h | h | h | h | h | h | h | h | h | h | h<;>first | exact h0 h | (first | exact h_add h | exact h_remove h | exact h_adjust h | exact h_set h | exact h_put h | exact h_take h | exact h_clear h | exact h_publish h | exact h_switch h | exact h_view h | exact h_at h | exact h_project h)
theorem nMoves {w:ByteArray}(h_hello:¬w=GZ)(h_deliver:¬w=G7)(h_lose:¬w=G8)(h_double:¬w=GV)(h_cut:¬w=Ho)(h_fuse:¬w=Hg)(h_crash:¬w=Ha)(h_fold:¬w=Hl)(h_meet:¬w=GY):BC Ec w=some 0:=by
 unfold BC
 rw [kind_none (t:=Ec) (w:=w) fun p hp hq=>?_]
 ·rfl
 ·obtain ⟨rfl,h0⟩:=hq
  simp only [Ec,List.mem_cons,List.not_mem_nil,or_false] at hp
  rcases hp with h | h | h | h | h | h | h | h | h | h | h | h | h<;>first | exact h0 h | (first | exact h_hello h | exact h_deliver h | exact h_lose h | exact h_double h | exact h_cut h | exact h_fuse h | exact h_crash h | exact h_fold h | exact h_meet h)
theorem nLenses {w:ByteArray}(h_rename:¬w=I4)(h_hoist:¬w=IB)(h_plunge:¬w=I8)(h_split:¬w=Ja)(h_wrap:¬w=IW):BC Ew w=some 0:=by
 unfold BC
 rw [kind_none (t:=Ew) (w:=w) fun p hp hq=>?_]
 ·rfl
 ·obtain ⟨rfl,h0⟩:=hq
  simp only [Ew,List.mem_cons,List.not_mem_nil,or_false] at hp
  rcases hp with h | h | h | h | h | h | h | h | h | h | h | h | h<;>first | exact h0 h | (first | exact h_rename h | exact h_hoist h | exact h_plunge h | exact h_split h | exact h_wrap h)
theorem nAdded {w:ByteArray}(h_counter:¬w=Hw)(h_text:¬w=Ip)(h_list:¬w=Ic):BC Gg w=some 0:=by
 unfold BC
 rw [kind_none (t:=Gg) (w:=w) fun p hp hq=>?_]
 ·rfl
 ·obtain ⟨rfl,h0⟩:=hq
  simp only [Gg,List.mem_cons,List.not_mem_nil,or_false] at hp
  rcases hp with h | h | h | h | h | h | h | h | h | h | h | h | h<;>first | exact h0 h | (first | exact h_counter h | exact h_text h | exact h_list h)
theorem Ry {v:ByteArray}:∀{l:List Bc} {k:Nat},(∀f∈l,¬(f.verb=v∧¬v=noB))→LY v l k=some (.inr ())
 | [],_,_=>rfl
 | f::l,k,h=>by rw [LY,if_neg (h f (List.mem_cons_self ..)),Ry fun g hg=>h g (List.mem_cons_of_mem _ hg)]
theorem mdeeds {w:ByteArray}(h_add:¬w=I9)(h_remove:¬w=IY)(h_adjust:¬w=Je)(h_set:¬w=IU)(h_put:¬w=IQ)(h_take:¬w=Jh)(h_clear:¬w=Jc)(h_publish:¬w=KU)(h_switch:¬w=IK)(h_view:¬w=IG)(h_at:¬w=Jd)(h_project:¬w=Jf):BU CX w=some (-1):=by
 rw [find_eq (by decide),Ry fun p hp hq=>?_]
 ·rfl
 ·obtain ⟨hq,h0⟩:=hq
  simp only [CX,List.mem_cons,List.not_mem_nil,or_false] at hp
  rcases hp with h | h | h | h | h | h | h | h | h | h | h | h | h<;>subst h<;>first | exact h0 hq.symm | (first | exact h_add hq.symm | exact h_remove hq.symm | exact h_adjust hq.symm | exact h_set hq.symm | exact h_put hq.symm | exact h_take hq.symm | exact h_clear hq.symm | exact h_publish hq.symm | exact h_switch hq.symm | exact h_view hq.symm | exact h_at hq.symm | exact h_project hq.symm)
theorem mmoves {w:ByteArray}(h_hello:¬w=GZ)(h_deliver:¬w=G7)(h_lose:¬w=G8)(h_double:¬w=GV)(h_cut:¬w=Ho)(h_fuse:¬w=Hg)(h_crash:¬w=Ha)(h_fold:¬w=Hl)(h_meet:¬w=GY):BU Eh w=some (-1):=by
 rw [find_eq (by decide),Ry fun p hp hq=>?_]
 ·rfl
 ·obtain ⟨hq,h0⟩:=hq
  simp only [Eh,List.mem_cons,List.not_mem_nil,or_false] at hp
  rcases hp with h | h | h | h | h | h | h | h | h | h | h<;>subst h<;>first | exact h0 hq.symm | (first | exact h_hello hq.symm | exact h_deliver hq.symm | exact h_lose hq.symm | exact h_double hq.symm | exact h_cut hq.symm | exact h_fuse hq.symm | exact h_crash hq.symm | exact h_fold hq.symm | exact h_meet hq.symm)
theorem mlenses {w:ByteArray}(h_rename:¬w=I4)(h_hoist:¬w=IB)(h_plunge:¬w=I8)(h_split:¬w=Ja)(h_wrap:¬w=IW)(h_counter:¬w=Hw)(h_text:¬w=Ip)(h_list:¬w=Ic):BU EC w=some (-1):=by
 rw [find_eq (by decide),Ry fun p hp hq=>?_]
 ·rfl
 ·obtain ⟨hq,h0⟩:=hq
  simp only [EC,List.mem_cons,List.not_mem_nil,or_false] at hp
  rcases hp with h | h | h | h | h | h | h | h | h | h | h | h | h | h | h<;>subst h<;>first | exact h0 hq.symm | (first | exact h_rename hq.symm | exact h_hoist hq.symm | exact h_plunge hq.symm | exact h_split hq.symm | exact h_wrap hq.symm | exact h_counter hq.symm | exact h_text hq.symm | exact h_list hq.symm)
abbrev BV:AP:=⟨0,Ae,noB,noB,0,(⟨Ae,0,noB,[],0⟩:AB),[],[]⟩
def JJ (l:List ByteArray)(b:Bool):Prop:=∃(x:AP) (r:A8) (z:AP) (ok:Bool),EL ⟨l,b⟩=some (x,r)∧good r=(!b&&ok)∧ER l=some (z,ok)∧(ok=true→x=z∧Fz x=some l∧x.forth= []∧x.back= []∧x.field.cases= [])
theorem lp_rename {l:List ByteArray}{b:Bool}(h:Sm ⟨l,b⟩):EL ⟨I4::l,b⟩=some ((⟨1,((placeOf (wrd ⟨l,b⟩)).getD Ae),(wrd (nxt .p ⟨l,b⟩)),noB,0,(⟨Ae,0,noB,[],0⟩:AB),[],[]⟩:AP),CG [.p,.m] ⟨l,b⟩):=by
 unfold EL
 rw [Dh,Option.bind_some]
 dsimp only
 rw [Y2,Option.bind_some]
 rw [if_pos (by decide)]
 rw [GX h,Option.bind_some]
 dsimp only
 rw [G9,Option.bind_some]
 dsimp only
 rfl
theorem lr_rename {l:List ByteArray}(hs:∀a∈l,a.size≤1000000):∃z,ER (I4::l)=some (z,okF [.p,.m] l)∧(okF [.p,.m] l=true→∀bb,z=(⟨1,((placeOf (wrd ⟨l,bb⟩)).getD Ae),(wrd (nxt .p ⟨l,bb⟩)),noB,0,(⟨Ae,0,noB,[],0⟩:AB),[],[]⟩:AP)):=by
 obtain ⟨g,h1,h2⟩:=D7 l (⟨#[112,109]⟩:ByteArray) (by decide) hs
 rw [show CO (⟨#[112,109]⟩:ByteArray)= [.p,.m] from by kernel_rfl] at h1 h2
 unfold ER
 rw [if_neg (by simp only [List.length_cons];omega),Dy,Option.bind_some,Zx,Option.bind_some,if_neg (by decide),DR,Option.bind_some]
 rw [show idx EC 1=some (⟨I4,(⟨#[112,109]⟩:ByteArray)⟩:Bc) from rfl,Option.bind_some]
 dsimp only
 rw [h1,Option.bind_some]
 cases hb:okF [.p,.m] l with
 | false=>exact ⟨_,by dsimp only;rw [if_pos (by decide)],fun h=>by cases h⟩
 | true=>
  obtain rfl:=h2 hb
  rcases l with _ | ⟨a,_ | ⟨b,_ | ⟨u,l⟩⟩⟩
  ·simp [okF] at hb
  ·simp [okF] at hb
  ·refine ⟨_,by dsimp only;rw [if_neg (by decide)];simp [DL,Dk,idx,IC,show w64 1=1 from by decide,show w64 2=2 from by decide,show w64 4=4 from by decide];rfl,fun _ bb=>?_⟩
   first | rfl | simp [wrd,nxt]
  ·simp [okF] at hb
theorem lw_rename {a b:ByteArray}(hb:okF [.p,.m] [a,b] = true):Fz (⟨1,((placeOf a).getD Ae),b,noB,0,(⟨Ae,0,noB,[],0⟩:AB),[],[]⟩:AP)=some (I4 :: [a,b]):=by
 simp only [okF,Bool.and_true,Bool.and_eq_true] at hb
 obtain ⟨qa,qb⟩:=hb
 unfold Fz
 dsimp only
 simp [Zb,BG,IM qa]
theorem both_rename {l:List ByteArray}{b:Bool}(hs:∀a∈l,a.size≤1000000):JJ (I4::l) b:=by
 obtain ⟨z,h1,h2⟩:=lr_rename hs
 refine ⟨_,_,z,_,lp_rename (b:=b) hs,Jp _ l b,h1,fun hb=>⟨(h2 hb b).symm,?_,rfl,rfl,rfl⟩⟩
 rcases l with _ | ⟨a,_ | ⟨b,_ | ⟨u,l⟩⟩⟩
 ·simp [okF] at hb
 ·simp [okF] at hb
 ·exact lw_rename hb
 ·simp [okF] at hb
theorem lp_hoist {l:List ByteArray}{b:Bool}(h:Sm ⟨l,b⟩):EL ⟨IB::l,b⟩=some ((⟨4,((placeOf (wrd ⟨l,b⟩)).getD Ae),noB,noB,0,(⟨Ae,0,noB,[],0⟩:AB),[],[]⟩:AP),CG [.p] ⟨l,b⟩):=by
 unfold EL
 rw [Dh,Option.bind_some]
 dsimp only
 rw [ZC,Option.bind_some]
 rw [if_neg (by decide),if_pos rfl]
 rw [GX h,Option.bind_some]
 dsimp only
 rfl
theorem lr_hoist {l:List ByteArray}(hs:∀a∈l,a.size≤1000000):∃z,ER (IB::l)=some (z,okF [.p] l)∧(okF [.p] l=true→∀bb,z=(⟨4,((placeOf (wrd ⟨l,bb⟩)).getD Ae),noB,noB,0,(⟨Ae,0,noB,[],0⟩:AB),[],[]⟩:AP)):=by
 obtain ⟨g,h1,h2⟩:=D7 l (⟨#[112]⟩:ByteArray) (by decide) hs
 rw [show CO (⟨#[112]⟩:ByteArray)= [.p] from by kernel_rfl] at h1 h2
 unfold ER
 rw [if_neg (by simp only [List.length_cons];omega),Dy,Option.bind_some,Aak,Option.bind_some,if_neg (by decide),DR,Option.bind_some]
 rw [show idx EC 4=some (⟨IB,(⟨#[112]⟩:ByteArray)⟩:Bc) from rfl,Option.bind_some]
 dsimp only
 rw [h1,Option.bind_some]
 cases hb:okF [.p] l with
 | false=>exact ⟨_,by dsimp only;rw [if_pos (by decide)],fun h=>by cases h⟩
 | true=>
  obtain rfl:=h2 hb
  rcases l with _ | ⟨a,_ | ⟨u,l⟩⟩
  ·simp [okF] at hb
  ·refine ⟨_,by dsimp only;rw [if_neg (by decide)];simp [DL,Dk,idx,IC,show w64 1=1 from by decide,show w64 2=2 from by decide,show w64 4=4 from by decide];rfl,fun _ bb=>?_⟩
   first | rfl | simp [wrd,nxt]
  ·simp [okF] at hb
theorem lw_hoist {a:ByteArray}(hb:okF [.p] [a] = true):Fz (⟨4,((placeOf a).getD Ae),noB,noB,0,(⟨Ae,0,noB,[],0⟩:AB),[],[]⟩:AP)=some (IB :: [a]):=by
 simp only [okF,Bool.and_true,Bool.and_eq_true] at hb
 have qa:=hb
 unfold Fz
 dsimp only
 simp [Ze,BG,IM qa]
theorem both_hoist {l:List ByteArray}{b:Bool}(hs:∀a∈l,a.size≤1000000):JJ (IB::l) b:=by
 obtain ⟨z,h1,h2⟩:=lr_hoist hs
 refine ⟨_,_,z,_,lp_hoist (b:=b) hs,Jp _ l b,h1,fun hb=>⟨(h2 hb b).symm,?_,rfl,rfl,rfl⟩⟩
 rcases l with _ | ⟨a,_ | ⟨u,l⟩⟩
 ·simp [okF] at hb
 ·exact lw_hoist hb
 ·simp [okF] at hb
theorem lp_plunge {l:List ByteArray}{b:Bool}(h:Sm ⟨l,b⟩):EL ⟨I8::l,b⟩=some ((⟨5,((placeOf (wrd ⟨l,b⟩)).getD Ae),(wrd (nxt .p ⟨l,b⟩)),noB,0,(⟨Ae,0,noB,[],0⟩:AB),[],[]⟩:AP),CG [.p,.m] ⟨l,b⟩):=by
 unfold EL
 rw [Dh,Option.bind_some]
 dsimp only
 rw [Z7,Option.bind_some]
 rw [if_pos (by decide)]
 rw [GX h,Option.bind_some]
 dsimp only
 rw [G9,Option.bind_some]
 dsimp only
 rfl
theorem lr_plunge {l:List ByteArray}(hs:∀a∈l,a.size≤1000000):∃z,ER (I8::l)=some (z,okF [.p,.m] l)∧(okF [.p,.m] l=true→∀bb,z=(⟨5,((placeOf (wrd ⟨l,bb⟩)).getD Ae),(wrd (nxt .p ⟨l,bb⟩)),noB,0,(⟨Ae,0,noB,[],0⟩:AB),[],[]⟩:AP)):=by
 obtain ⟨g,h1,h2⟩:=D7 l (⟨#[112,109]⟩:ByteArray) (by decide) hs
 rw [show CO (⟨#[112,109]⟩:ByteArray)= [.p,.m] from by kernel_rfl] at h1 h2
 unfold ER
 rw [if_neg (by simp only [List.length_cons];omega),Dy,Option.bind_some,Yd,Option.bind_some,if_neg (by decide),DR,Option.bind_some]
 rw [show idx EC 5=some (⟨I8,(⟨#[112,109]⟩:ByteArray)⟩:Bc) from rfl,Option.bind_some]
 dsimp only
 rw [h1,Option.bind_some]
 cases hb:okF [.p,.m] l with
 | false=>exact ⟨_,by dsimp only;rw [if_pos (by decide)],fun h=>by cases h⟩
 | true=>
  obtain rfl:=h2 hb
  rcases l with _ | ⟨a,_ | ⟨b,_ | ⟨u,l⟩⟩⟩
  ·simp [okF] at hb
  ·simp [okF] at hb
  ·refine ⟨_,by dsimp only;rw [if_neg (by decide)];simp [DL,Dk,idx,IC,show w64 1=1 from by decide,show w64 2=2 from by decide,show w64 4=4 from by decide];rfl,fun _ bb=>?_⟩
   first | rfl | simp [wrd,nxt]
  ·simp [okF] at hb
theorem lw_plunge {a b:ByteArray}(hb:okF [.p,.m] [a,b] = true):Fz (⟨5,((placeOf a).getD Ae),b,noB,0,(⟨Ae,0,noB,[],0⟩:AB),[],[]⟩:AP)=some (I8 :: [a,b]):=by
 simp only [okF,Bool.and_true,Bool.and_eq_true] at hb
 obtain ⟨qa,qb⟩:=hb
 unfold Fz
 dsimp only
 simp [YD,BG,IM qa]
theorem both_plunge {l:List ByteArray}{b:Bool}(hs:∀a∈l,a.size≤1000000):JJ (I8::l) b:=by
 obtain ⟨z,h1,h2⟩:=lr_plunge hs
 refine ⟨_,_,z,_,lp_plunge (b:=b) hs,Jp _ l b,h1,fun hb=>⟨(h2 hb b).symm,?_,rfl,rfl,rfl⟩⟩
 rcases l with _ | ⟨a,_ | ⟨b,_ | ⟨u,l⟩⟩⟩
 ·simp [okF] at hb
 ·simp [okF] at hb
 ·exact lw_plunge hb
 ·simp [okF] at hb
theorem lp_split {l:List ByteArray}{b:Bool}(h:Sm ⟨l,b⟩):EL ⟨Ja::l,b⟩=some ((⟨6,((placeOf (wrd ⟨l,b⟩)).getD Ae),(wrd (nxt .p ⟨l,b⟩)),(wrd (nxt .m (nxt .p ⟨l,b⟩))),(Aw (wrd (nxt .m (nxt .m (nxt .p ⟨l,b⟩))))).1,(⟨Ae,0,noB,[],0⟩:AB),[],[]⟩:AP),CG [.p,.m,.m,.n] ⟨l,b⟩):=by
 unfold EL
 rw [Dh,Option.bind_some]
 dsimp only
 rw [YP,Option.bind_some]
 rw [if_neg (by decide),if_neg (by decide),if_pos rfl]
 rw [GX h,Option.bind_some]
 dsimp only
 rw [G9,Option.bind_some]
 dsimp only
 rw [G9,Option.bind_some]
 dsimp only
 rw [number_eq (((h.nxt .p).nxt .m).nxt .m),Option.bind_some]
 dsimp only
 rfl
theorem lr_split {l:List ByteArray}(hs:∀a∈l,a.size≤1000000):∃z,ER (Ja::l)=some (z,okF [.p,.m,.m,.n] l)∧(okF [.p,.m,.m,.n] l=true→∀bb,z=(⟨6,((placeOf (wrd ⟨l,bb⟩)).getD Ae),(wrd (nxt .p ⟨l,bb⟩)),(wrd (nxt .m (nxt .p ⟨l,bb⟩))),(Aw (wrd (nxt .m (nxt .m (nxt .p ⟨l,bb⟩))))).1,(⟨Ae,0,noB,[],0⟩:AB),[],[]⟩:AP)):=by
 obtain ⟨g,h1,h2⟩:=D7 l (⟨#[112,109,109,110]⟩:ByteArray) (by decide) hs
 rw [show CO (⟨#[112,109,109,110]⟩:ByteArray)= [.p,.m,.m,.n] from by kernel_rfl] at h1 h2
 unfold ER
 rw [if_neg (by simp only [List.length_cons];omega),Dy,Option.bind_some,Aad,Option.bind_some,if_neg (by decide),DR,Option.bind_some]
 rw [show idx EC 6=some (⟨Ja,(⟨#[112,109,109,110]⟩:ByteArray)⟩:Bc) from rfl,Option.bind_some]
 dsimp only
 rw [h1,Option.bind_some]
 cases hb:okF [.p,.m,.m,.n] l with
 | false=>exact ⟨_,by dsimp only;rw [if_pos (by decide)],fun h=>by cases h⟩
 | true=>
  obtain rfl:=h2 hb
  rcases l with _ | ⟨a,_ | ⟨b,_ | ⟨c,_ | ⟨d,_ | ⟨u,l⟩⟩⟩⟩⟩
  ·simp [okF] at hb
  ·simp [okF] at hb
  ·simp [okF] at hb
  ·simp [okF] at hb
  ·refine ⟨_,by dsimp only;rw [if_neg (by decide)];simp [DL,Dk,idx,IC,show w64 1=1 from by decide,show w64 2=2 from by decide,show w64 4=4 from by decide];rfl,fun _ bb=>?_⟩
   first | rfl | simp [wrd,nxt]
  ·simp [okF] at hb
theorem lw_split {a b c d:ByteArray}(hb:okF [.p,.m,.m,.n] [a,b,c,d] = true):Fz (⟨6,((placeOf a).getD Ae),b,c,(Aw d).1,(⟨Ae,0,noB,[],0⟩:AB),[],[]⟩:AP)=some (Ja :: [a,b,c,d]):=by
 simp only [okF,Bool.and_true,Bool.and_eq_true] at hb
 obtain ⟨qa,qb,qc,qd⟩:=hb
 unfold Fz
 dsimp only
 simp [Y8,BG,IM qa,AO (Bz qd).2,(Bz qd).1]
theorem both_split {l:List ByteArray}{b:Bool}(hs:∀a∈l,a.size≤1000000):JJ (Ja::l) b:=by
 obtain ⟨z,h1,h2⟩:=lr_split hs
 refine ⟨_,_,z,_,lp_split (b:=b) hs,Jp _ l b,h1,fun hb=>⟨(h2 hb b).symm,?_,rfl,rfl,rfl⟩⟩
 rcases l with _ | ⟨a,_ | ⟨b,_ | ⟨c,_ | ⟨d,_ | ⟨u,l⟩⟩⟩⟩⟩
 ·simp [okF] at hb
 ·simp [okF] at hb
 ·simp [okF] at hb
 ·simp [okF] at hb
 ·exact lw_split hb
 ·simp [okF] at hb
theorem lp_wrap {l:List ByteArray}{b:Bool}(h:Sm ⟨l,b⟩):EL ⟨IW::l,b⟩=some ((⟨7,((placeOf (wrd ⟨l,b⟩)).getD Ae),noB,(DD (wrd (nxt .p ⟨l,b⟩))).1,0,(⟨Ae,0,noB,[],0⟩:AB),[],[]⟩:AP),CG [.p,.q] ⟨l,b⟩):=by
 unfold EL
 rw [Dh,Option.bind_some]
 dsimp only
 rw [YJ,Option.bind_some]
 rw [if_neg (by decide),if_neg (by decide),if_neg (by decide),if_pos rfl]
 rw [GX h,Option.bind_some]
 dsimp only
 rw [text_eq (h.nxt .p),Option.bind_some]
 dsimp only
 rfl
theorem lr_wrap {l:List ByteArray}(hs:∀a∈l,a.size≤1000000):∃z,ER (IW::l)=some (z,okF [.p,.q] l)∧(okF [.p,.q] l=true→∀bb,z=(⟨7,((placeOf (wrd ⟨l,bb⟩)).getD Ae),noB,(DD (wrd (nxt .p ⟨l,bb⟩))).1,0,(⟨Ae,0,noB,[],0⟩:AB),[],[]⟩:AP)):=by
 obtain ⟨g,h1,h2⟩:=D7 l (⟨#[112,113]⟩:ByteArray) (by decide) hs
 rw [show CO (⟨#[112,113]⟩:ByteArray)= [.p,.q] from by kernel_rfl] at h1 h2
 unfold ER
 rw [if_neg (by simp only [List.length_cons];omega),Dy,Option.bind_some,YN,Option.bind_some,if_neg (by decide),DR,Option.bind_some]
 rw [show idx EC 7=some (⟨IW,(⟨#[112,113]⟩:ByteArray)⟩:Bc) from rfl,Option.bind_some]
 dsimp only
 rw [h1,Option.bind_some]
 cases hb:okF [.p,.q] l with
 | false=>exact ⟨_,by dsimp only;rw [if_pos (by decide)],fun h=>by cases h⟩
 | true=>
  obtain rfl:=h2 hb
  rcases l with _ | ⟨a,_ | ⟨b,_ | ⟨u,l⟩⟩⟩
  ·simp [okF] at hb
  ·simp [okF] at hb
  ·refine ⟨_,by dsimp only;rw [if_neg (by decide)];simp [DL,Dk,idx,IC,show w64 1=1 from by decide,show w64 2=2 from by decide,show w64 4=4 from by decide];rfl,fun _ bb=>?_⟩
   have hq:okK .q b=true:=by simp [okF] at hb;first | exact hb.2 | exact hb
   simp [wrd,nxt,Oc hq]
  ·simp [okF] at hb
theorem lw_wrap {a b:ByteArray}(hb:okF [.p,.q] [a,b] = true):Fz (⟨7,((placeOf a).getD Ae),noB,(DD b).1,0,(⟨Ae,0,noB,[],0⟩:AB),[],[]⟩:AP)=some (IW :: [a,b]):=by
 simp only [okF,Bool.and_true,Bool.and_eq_true] at hb
 obtain ⟨qa,qb⟩:=hb
 unfold Fz
 dsimp only
 simp [YI,BG,IM qa,Qb qb]
theorem both_wrap {l:List ByteArray}{b:Bool}(hs:∀a∈l,a.size≤1000000):JJ (IW::l) b:=by
 obtain ⟨z,h1,h2⟩:=lr_wrap hs
 refine ⟨_,_,z,_,lp_wrap (b:=b) hs,Jp _ l b,h1,fun hb=>⟨(h2 hb b).symm,?_,rfl,rfl,rfl⟩⟩
 rcases l with _ | ⟨a,_ | ⟨b,_ | ⟨u,l⟩⟩⟩
 ·simp [okF] at hb
 ·simp [okF] at hb
 ·exact lw_wrap hb
 ·simp [okF] at hb
theorem lp_counter {l:List ByteArray}{b:Bool}(h:Sm ⟨l,b⟩):EL ⟨Hw::l,b⟩=some ((⟨2,Ae,noB,noB,0,(⟨((placeOf (wrd ⟨l,b⟩)).getD Ae),1,noB,[],(Aw (wrd (nxt .p ⟨l,b⟩))).1⟩:AB),[],[]⟩:AP),CG [.p,.n] ⟨l,b⟩):=by
 unfold EL
 rw [Dh,Option.bind_some]
 dsimp only
 rw [Zp,Option.bind_some]
 rw [if_neg (by decide),if_neg (by decide),if_neg (by decide),if_neg (by decide)]
 rw [Yb,Option.bind_some,GX h,Option.bind_some]
 dsimp only
 rw [if_pos rfl]
 rw [number_eq (h.nxt .p),Option.bind_some]
 rfl
theorem lr_counter {l:List ByteArray}(hs:∀a∈l,a.size≤1000000):∃z,ER (Hw::l)=some (z,okF [.p,.n] l)∧(okF [.p,.n] l=true→∀bb,z=(⟨2,Ae,noB,noB,0,(⟨((placeOf (wrd ⟨l,bb⟩)).getD Ae),1,noB,[],(Aw (wrd (nxt .p ⟨l,bb⟩))).1⟩:AB),[],[]⟩:AP)):=by
 obtain ⟨g,h1,h2⟩:=D7 l (⟨#[112,110]⟩:ByteArray) (by decide) hs
 rw [show CO (⟨#[112,110]⟩:ByteArray)= [.p,.n] from by kernel_rfl] at h1 h2
 unfold ER
 rw [if_neg (by simp only [List.length_cons];omega),Dy,Option.bind_some,ZJ,Option.bind_some,if_neg (by decide),DR,Option.bind_some]
 rw [show idx EC 11=some (⟨Hw,(⟨#[112,110]⟩:ByteArray)⟩:Bc) from rfl,Option.bind_some]
 dsimp only
 rw [h1,Option.bind_some]
 cases hb:okF [.p,.n] l with
 | false=>exact ⟨_,by dsimp only;rw [if_pos (by decide)],fun h=>by cases h⟩
 | true=>
  obtain rfl:=h2 hb
  rcases l with _ | ⟨a,_ | ⟨b,_ | ⟨u,l⟩⟩⟩
  ·simp [okF] at hb
  ·simp [okF] at hb
  ·refine ⟨_,by dsimp only;rw [if_neg (by decide)];simp [DL,Dk,idx,IC,show w64 1=1 from by decide,show w64 2=2 from by decide,show w64 4=4 from by decide];rfl,fun _ bb=>?_⟩
   first | rfl | simp [wrd,nxt]
  ·simp [okF] at hb
theorem lw_counter {a b:ByteArray}(hb:okF [.p,.n] [a,b] = true):Fz (⟨2,Ae,noB,noB,0,(⟨((placeOf a).getD Ae),1,noB,[],(Aw b).1⟩:AB),[],[]⟩:AP)=some (Hw :: [a,b]):=by
 simp only [okF,Bool.and_true,Bool.and_eq_true] at hb
 obtain ⟨qa,qb⟩:=hb
 unfold Fz
 dsimp only
 simp [Uz,ZA,BG,IM qa,AO (Bz qb).2,(Bz qb).1]
theorem Yu {l:List ByteArray}{b:Bool}(hs:∀a∈l,a.size≤1000000):JJ (Hw::l) b:=by
 obtain ⟨z,h1,h2⟩:=lr_counter hs
 refine ⟨_,_,z,_,lp_counter (b:=b) hs,Jp _ l b,h1,fun hb=>⟨(h2 hb b).symm,?_,rfl,rfl,rfl⟩⟩
 rcases l with _ | ⟨a,_ | ⟨b,_ | ⟨u,l⟩⟩⟩
 ·simp [okF] at hb
 ·simp [okF] at hb
 ·exact lw_counter hb
 ·simp [okF] at hb
theorem lp_text {l:List ByteArray}{b:Bool}(h:Sm ⟨l,b⟩):EL ⟨Ip::l,b⟩=some ((⟨2,Ae,noB,noB,0,(⟨((placeOf (wrd ⟨l,b⟩)).getD Ae),2,(DD (wrd (nxt .p ⟨l,b⟩))).1,[],0⟩:AB),[],[]⟩:AP),CG [.p,.q] ⟨l,b⟩):=by
 unfold EL
 rw [Dh,Option.bind_some]
 dsimp only
 rw [Aaq,Option.bind_some]
 rw [if_neg (by decide),if_neg (by decide),if_neg (by decide),if_neg (by decide)]
 rw [kAdded_text,Option.bind_some,GX h,Option.bind_some]
 dsimp only
 rw [if_neg (by decide),if_pos rfl]
 rw [text_eq (h.nxt .p),Option.bind_some]
 rfl
theorem lr_text {l:List ByteArray}(hs:∀a∈l,a.size≤1000000):∃z,ER (Ip::l)=some (z,okF [.p,.q] l)∧(okF [.p,.q] l=true→∀bb,z=(⟨2,Ae,noB,noB,0,(⟨((placeOf (wrd ⟨l,bb⟩)).getD Ae),2,(DD (wrd (nxt .p ⟨l,bb⟩))).1,[],0⟩:AB),[],[]⟩:AP)):=by
 obtain ⟨g,h1,h2⟩:=D7 l (⟨#[112,113]⟩:ByteArray) (by decide) hs
 rw [show CO (⟨#[112,113]⟩:ByteArray)= [.p,.q] from by kernel_rfl] at h1 h2
 unfold ER
 rw [if_neg (by simp only [List.length_cons];omega),Dy,Option.bind_some,Zf,Option.bind_some,if_neg (by decide),DR,Option.bind_some]
 rw [show idx EC 12=some (⟨Ip,(⟨#[112,113]⟩:ByteArray)⟩:Bc) from rfl,Option.bind_some]
 dsimp only
 rw [h1,Option.bind_some]
 cases hb:okF [.p,.q] l with
 | false=>exact ⟨_,by dsimp only;rw [if_pos (by decide)],fun h=>by cases h⟩
 | true=>
  obtain rfl:=h2 hb
  rcases l with _ | ⟨a,_ | ⟨b,_ | ⟨u,l⟩⟩⟩
  ·simp [okF] at hb
  ·simp [okF] at hb
  ·refine ⟨_,by dsimp only;rw [if_neg (by decide)];simp [DL,Dk,idx,IC,show w64 1=1 from by decide,show w64 2=2 from by decide,show w64 4=4 from by decide];rfl,fun _ bb=>?_⟩
   have hq:okK .q b=true:=by simp [okF] at hb;first | exact hb.2 | exact hb
   simp [wrd,nxt,Oc hq]
  ·simp [okF] at hb
theorem lw_text {a b:ByteArray}(hb:okF [.p,.q] [a,b] = true):Fz (⟨2,Ae,noB,noB,0,(⟨((placeOf a).getD Ae),2,(DD b).1,[],0⟩:AB),[],[]⟩:AP)=some (Ip :: [a,b]):=by
 simp only [okF,Bool.and_true,Bool.and_eq_true] at hb
 obtain ⟨qa,qb⟩:=hb
 unfold Fz
 dsimp only
 simp [Uz,vAdded_text,BG,IM qa,Qb qb]
theorem both_text {l:List ByteArray}{b:Bool}(hs:∀a∈l,a.size≤1000000):JJ (Ip::l) b:=by
 obtain ⟨z,h1,h2⟩:=lr_text hs
 refine ⟨_,_,z,_,lp_text (b:=b) hs,Jp _ l b,h1,fun hb=>⟨(h2 hb b).symm,?_,rfl,rfl,rfl⟩⟩
 rcases l with _ | ⟨a,_ | ⟨b,_ | ⟨u,l⟩⟩⟩
 ·simp [okF] at hb
 ·simp [okF] at hb
 ·exact lw_text hb
 ·simp [okF] at hb
theorem lp_list {l:List ByteArray}{b:Bool}(h:Sm ⟨l,b⟩):EL ⟨Ic::l,b⟩=some ((⟨2,Ae,noB,noB,0,(⟨((placeOf (wrd ⟨l,b⟩)).getD Ae),4,noB,[],0⟩:AB),[],[]⟩:AP),CG [.p] ⟨l,b⟩):=by
 unfold EL
 rw [Dh,Option.bind_some]
 dsimp only
 rw [Ym,Option.bind_some]
 rw [if_neg (by decide),if_neg (by decide),if_neg (by decide),if_neg (by decide)]
 rw [kAdded_list,Option.bind_some,GX h,Option.bind_some]
 dsimp only
 rw [if_neg (by decide),if_neg (by decide),if_pos rfl]
 rfl
theorem lr_list {l:List ByteArray}(hs:∀a∈l,a.size≤1000000):∃z,ER (Ic::l)=some (z,okF [.p] l)∧(okF [.p] l=true→∀bb,z=(⟨2,Ae,noB,noB,0,(⟨((placeOf (wrd ⟨l,bb⟩)).getD Ae),4,noB,[],0⟩:AB),[],[]⟩:AP)):=by
 obtain ⟨g,h1,h2⟩:=D7 l (⟨#[112]⟩:ByteArray) (by decide) hs
 rw [show CO (⟨#[112]⟩:ByteArray)= [.p] from by kernel_rfl] at h1 h2
 unfold ER
 rw [if_neg (by simp only [List.length_cons];omega),Dy,Option.bind_some,Zi,Option.bind_some,if_neg (by decide),DR,Option.bind_some]
 rw [show idx EC 14=some (⟨Ic,(⟨#[112]⟩:ByteArray)⟩:Bc) from rfl,Option.bind_some]
 dsimp only
 rw [h1,Option.bind_some]
 cases hb:okF [.p] l with
 | false=>exact ⟨_,by dsimp only;rw [if_pos (by decide)],fun h=>by cases h⟩
 | true=>
  obtain rfl:=h2 hb
  rcases l with _ | ⟨a,_ | ⟨u,l⟩⟩
  ·simp [okF] at hb
  ·refine ⟨_,by dsimp only;rw [if_neg (by decide)];simp [DL,Dk,idx,IC,show w64 1=1 from by decide,show w64 2=2 from by decide,show w64 4=4 from by decide];rfl,fun _ bb=>?_⟩
   first | rfl | simp [wrd,nxt]
  ·simp [okF] at hb
theorem lw_list {a:ByteArray}(hb:okF [.p] [a] = true):Fz (⟨2,Ae,noB,noB,0,(⟨((placeOf a).getD Ae),4,noB,[],0⟩:AB),[],[]⟩:AP)=some (Ic :: [a]):=by
 simp only [okF,Bool.and_true,Bool.and_eq_true] at hb
 have qa:=hb
 unfold Fz
 dsimp only
 simp [Uz,vAdded_list,BG,IM qa]
theorem both_list {l:List ByteArray}{b:Bool}(hs:∀a∈l,a.size≤1000000):JJ (Ic::l) b:=by
 obtain ⟨z,h1,h2⟩:=lr_list hs
 refine ⟨_,_,z,_,lp_list (b:=b) hs,Jp _ l b,h1,fun hb=>⟨(h2 hb b).symm,?_,rfl,rfl,rfl⟩⟩
 rcases l with _ | ⟨a,_ | ⟨u,l⟩⟩
 ·simp [okF] at hb
 ·exact lw_list hb
 ·simp [okF] at hb
theorem good_bad {l:List ByteArray}:good ⟨l,true⟩=false:=by cases l<;>rfl
theorem both_other {v:ByteArray}{l:List ByteArray}{b:Bool}(hs:∀a∈l,a.size≤1000000)(h_rename:¬v=I4)(h_hoist:¬v=IB)(h_plunge:¬v=I8)(h_split:¬v=Ja)(h_wrap:¬v=IW)(h_counter:¬v=Hw)(h_text:¬v=Ip)(h_list:¬v=Ic):JJ (v::l) b:=by
 have h:Sm ⟨l,b⟩:=hs
 refine ⟨(⟨2,Ae,noB,noB,0,(⟨(placeOf (wrd ⟨l,b⟩)).getD Ae,0,noB,[],0⟩:AB),[],[]⟩:AP),⟨(nxt .p ⟨l,b⟩).words,true⟩,BV,false,?_,by rw [good_bad];simp,?_,fun h=>by cases h⟩
 rotate_left 1
 ·unfold ER
  rw [if_neg (by simp only [List.length_cons];omega),Dy,Option.bind_some,mlenses h_rename h_hoist h_plunge h_split h_wrap h_counter h_text h_list,Option.bind_some,if_pos (by decide)]
 ·unfold EL
  rw [Dh,Option.bind_some]
  dsimp only
  rw [nLenses h_rename h_hoist h_plunge h_split h_wrap,Option.bind_some,if_neg (by decide),if_neg (by decide),if_neg (by decide),if_neg (by decide),nAdded h_counter h_text h_list,Option.bind_some,GX h,Option.bind_some]
  dsimp only
  rw [if_neg (by decide),if_neg (by decide),if_neg (by decide)]
theorem both_empty {b:Bool}:JJ [] b:=by
 refine ⟨(⟨2,Ae,noB,noB,0,(⟨(placeOf (wrd ⟨[],true⟩)).getD Ae,0,noB,[],0⟩:AB),[],[]⟩:AP),⟨(nxt .p ⟨[],true⟩).words,true⟩,BV,false,?_,by rw [good_bad];simp,?_,fun h=>by cases h⟩
 rotate_left 1
 ·unfold ER;exact if_pos rfl
 ·unfold EL
  rw [NH,Option.bind_some]
  dsimp only
  rw [show BC Ew noB=some 0 from by kernel_rfl,Option.bind_some,if_neg (by decide),if_neg (by decide),if_neg (by decide),if_neg (by decide),show BC Gg noB=some 0 from by kernel_rfl,Option.bind_some,GX (r:=⟨[],true⟩) (fun a h=>by cases h),Option.bind_some]
  dsimp only
  rw [if_neg (by decide),if_neg (by decide),if_neg (by decide)]
theorem lens_both:∀(l:List ByteArray) (b:Bool),(∀a∈l,a.size≤1000000)→JJ l b
 | [],b,_=>both_empty
 | v::l,b,hs=>by
  have hs2:∀a∈l,a.size≤1000000:=fun a ha=>hs a (List.mem_cons_of_mem _ ha)
  by_cases h_rename:v=I4
  ·subst h_rename;exact both_rename hs2
  by_cases h_hoist:v=IB
  ·subst h_hoist;exact both_hoist hs2
  by_cases h_plunge:v=I8
  ·subst h_plunge;exact both_plunge hs2
  by_cases h_split:v=Ja
  ·subst h_split;exact both_split hs2
  by_cases h_wrap:v=IW
  ·subst h_wrap;exact both_wrap hs2
  by_cases h_counter:v=Hw
  ·subst h_counter;exact Yu hs2
  by_cases h_text:v=Ip
  ·subst h_text;exact both_text hs2
  by_cases h_list:v=Ic
  ·subst h_list;exact both_list hs2
  exact both_other hs2 h_rename h_hoist h_plunge h_split h_wrap h_counter h_text h_list
end Go.Vm
end
section
namespace Go.Vm
open Go.Proofs Go.Proofs.YtdfbohaohjaloaaGreatDoor Punnet.Name Punnet.Num
set_option maxRecDepth 10000
abbrev Eb:AY:=⟨0,noB,noB,Ae,0,noB,AU,BV⟩
abbrev Be:Au:=⟨0,0,0,0,0,0,0,Eb⟩
theorem Fa {r:A8}{x y:Au×Int}:(if (r.bad=true)∨(0<((r.words.length:Nat):Int)) then some y else some x)=some (if good r=true then x else y):=by
 by_cases hg:good r=true
 ·rw [if_pos hg,if_neg (by rw [bad_iff,hg];decide)]
 ·rw [if_neg hg,if_pos (by rw [bad_iff];exact Bool.eq_false_iff.2 hg)]
theorem Xt {c:UInt8}:∀{l:List (List UInt8)} {w:List UInt8},w∈l→w.length≤(Jt c l).length
 | [],w,h=>by cases h
 | [v],w,h=>by rw [List.mem_singleton.1 h];exact Nat.le_refl _
 | v::u::r,w,h=>by
  rw [Jt,List.length_append,List.length_cons]
  rcases List.mem_cons.1 h with rfl | h
  ·omega
  ·have:=Xt (c:=c) h;omega
theorem Vg {c:UInt8}:∀{l:List (List UInt8)},l.length≤(Jt c l).length+1
 | []=>by simp
 | [v]=>by simp
 | v::u::r=>by
  have:=Vg (c:=c) (l:=u::r)
  rw [Jt,List.length_append,List.length_cons (a:=v),List.length_cons (a:=c)]
  omega
theorem split_size9 {s w:ByteArray}(h:w∈splitB s 0):w.size≤s.size:=by
 have e:=congrArg (fun x:ByteArray=>x.data.toList) (TJ s)
 simp only [lineT,Tj] at e
 rw [←FT,←FT s,←e]
 exact Xt (List.mem_map.2 ⟨w,h,rfl⟩)
theorem V7 {s:ByteArray}:(splitB s 0).length≤s.size+1:=by
 have e:=congrArg (fun x:ByteArray=>x.data.toList) (TJ s)
 simp only [lineT,Tj] at e
 rw [←FT s,←e]
 have:=Vg (c:=32) (l:=(splitB s 0).map (·.data.toList))
 rwa [List.length_map] at this
def Eu (line:ByteArray):Prop:=∃(m:Au) (ok:Bool),BM line=some (m,if ok=true then 0 else 4)∧BN line=some (m,ok)∧((ok=true→Ce m=some (splitB line 0)∧m.deed.lens.forth= []∧m.deed.lens.back= []∧m.deed.lens.field.cases= [])∧(ok=false→m=Be))
variable {line:ByteArray} {l:List ByteArray}
theorem Fp {m:Au}{ks:List RK}(h1:BM line=some (if good (CG ks ⟨l,false⟩)=true then (m,0) else (Be,4)))(h2:∃z,BN line=some (z,okF ks l)∧(okF ks l=false→z=Be)∧(okF ks l=true→z=m))
 (h3:okF ks l=true→Ce m=some (splitB line 0)∧m.deed.lens.forth= []∧m.deed.lens.back= []∧m.deed.lens.field.cases= []):Eu line:=by
 obtain ⟨z,k1,k2,k3⟩:=h2
 rw [Jp] at h1
 cases hok:okF ks l with
 | false=>rw [hok] at h1 k1;rw [k2 hok] at k1;exact ⟨Be,false,h1,k1,⟨fun h=>(by cases h),fun _=>rfl⟩⟩
 | true=>rw [hok] at h1 k1;rw [k3 hok] at k1;exact ⟨m,true,h1,k1,⟨fun _=>h3 hok,fun h=>(by cases h)⟩⟩
theorem dp_add {r:A8}(h:Sm r):Ei r 1=some ((⟨1,(wrd r),(Du (wrd (nxt .m r))),Ae,0,noB,AU,BV⟩:AY),CG [.m,.i] r):=by
 unfold Ei
 rw [if_neg (by decide),if_neg (by decide)]
 rw [G9,Option.bind_some]
 dsimp only
 rw [if_pos (by decide)]
 rw [NZ,Option.bind_some]
 dsimp only
 rfl
theorem pp_add (hsp:splitB line 0=I9::l)(hz:line.size≤1000000)(hs:∀a∈l,a.size≤1000000):BM line=some (if good (CG [.n,.m,.i] ⟨l,false⟩)=true then ((⟨1,(Aw (wrd ⟨l,false⟩)).1,0,0,0,0,0,(⟨1,(wrd (nxt .n ⟨l,false⟩)),(Du (wrd (nxt .m (nxt .n ⟨l,false⟩)))),Ae,0,noB,AU,BV⟩:AY)⟩:Au),0) else (Be,4)):=by
 have h:Sm ⟨l,false⟩:=hs
 unfold BM
 rw [AO hz,hsp,Dh,Option.bind_some]
 dsimp only
 rw [kDeeds_add,Option.bind_some,if_pos (by decide),EE h,Option.bind_some]
 dsimp only
 rw [dp_add (h.nxt .n),Option.bind_some]
 exact Fa
theorem rr_add (hsp:splitB line 0=I9::l)(hz:line.size≤1000000)(hs:∀a∈l,a.size≤1000000):∃z,BN line=some (z,okF [.n,.m,.i] l)∧(okF [.n,.m,.i] l=false→z=Be)∧(okF [.n,.m,.i] l=true→z=(⟨1,(Aw (wrd ⟨l,false⟩)).1,0,0,0,0,0,(⟨1,(wrd (nxt .n ⟨l,false⟩)),(Du (wrd (nxt .m (nxt .n ⟨l,false⟩)))),Ae,0,noB,AU,BV⟩:AY)⟩:Au)):=by
 obtain ⟨g,h1,h2⟩:=D7 l (⟨#[119,99,105]⟩:ByteArray) (by decide) hs
 rw [show CO (⟨#[119,99,105]⟩:ByteArray)= [.n,.m,.i] from by kernel_rfl] at h1 h2
 unfold BN
 rw [AO hz,hsp,Dy,Option.bind_some,fdeeds_add,Option.bind_some,if_pos (by decide),DR,Option.bind_some]
 unfold F7 Gl
 rw [if_neg (by decide),show idx CX 1=some (⟨I9,(⟨#[119,99,105]⟩:ByteArray)⟩:Bc) from rfl,Option.bind_some]
 dsimp only
 rw [h1,Option.bind_some]
 cases hb:okF [.n,.m,.i] l with
 | false=>exact ⟨Be,by dsimp only;rw [if_pos (by decide),Option.bind_some];rfl,fun _=>rfl,fun h=>by cases h⟩
 | true=>
  obtain rfl:=h2 hb
  rcases l with _ | ⟨a,_ | ⟨b,_ | ⟨c,_ | ⟨u,l⟩⟩⟩⟩
  ·simp [okF] at hb
  ·simp [okF] at hb
  ·simp [okF] at hb
  ·refine ⟨_,by dsimp only;rw [if_neg (by decide)];simp [DL,Dk,idx,FZ,EW,DX,Ci];rfl,fun h=>(by cases h),fun _=>?_⟩
   first | rfl | simp [wrd,nxt]
  ·simp [okF] at hb
theorem mw_add {a b c:ByteArray}(hb:okF [.n,.m,.i] [a,b,c] = true):Ce (⟨1,(Aw a).1,0,0,0,0,0,(⟨1,b,(Du c),Ae,0,noB,AU,BV⟩:AY)⟩:Au)=some (I9 :: [a,b,c]):=by
 simp only [okF,Bool.and_true,Bool.and_eq_true] at hb
 obtain ⟨qa,qb,qc⟩:=hb
 unfold Ce Gw
 simp [vDeeds_add,BG,AO (Bz qa).2,(Bz qa).1,NT qc]
theorem line_add (hsp:splitB line 0=I9::l)(hz:line.size≤1000000)(hs:∀a∈l,a.size≤1000000):Eu line:=by
 refine Fp (pp_add hsp hz hs) (rr_add hsp hz hs) fun hb=>⟨?_,rfl,rfl,rfl⟩
 rw [hsp]
 rcases l with _ | ⟨a,_ | ⟨b,_ | ⟨c,_ | ⟨u,l⟩⟩⟩⟩
 ·simp [okF] at hb
 ·simp [okF] at hb
 ·simp [okF] at hb
 ·exact mw_add hb
 ·simp [okF] at hb
theorem dp_remove {r:A8}(h:Sm r):Ei r 2=some ((⟨2,(wrd r),(Du (wrd (nxt .m r))),Ae,0,noB,AU,BV⟩:AY),CG [.m,.i] r):=by
 unfold Ei
 rw [if_neg (by decide),if_neg (by decide)]
 rw [G9,Option.bind_some]
 dsimp only
 rw [if_pos (by decide)]
 rw [NZ,Option.bind_some]
 dsimp only
 rfl
theorem pp_remove (hsp:splitB line 0=IY::l)(hz:line.size≤1000000)(hs:∀a∈l,a.size≤1000000):BM line=some (if good (CG [.n,.m,.i] ⟨l,false⟩)=true then ((⟨1,(Aw (wrd ⟨l,false⟩)).1,0,0,0,0,0,(⟨2,(wrd (nxt .n ⟨l,false⟩)),(Du (wrd (nxt .m (nxt .n ⟨l,false⟩)))),Ae,0,noB,AU,BV⟩:AY)⟩:Au),0) else (Be,4)):=by
 have h:Sm ⟨l,false⟩:=hs
 unfold BM
 rw [AO hz,hsp,Dh,Option.bind_some]
 dsimp only
 rw [Zl,Option.bind_some,if_pos (by decide),EE h,Option.bind_some]
 dsimp only
 rw [dp_remove (h.nxt .n),Option.bind_some]
 exact Fa
theorem rr_remove (hsp:splitB line 0=IY::l)(hz:line.size≤1000000)(hs:∀a∈l,a.size≤1000000):∃z,BN line=some (z,okF [.n,.m,.i] l)∧(okF [.n,.m,.i] l=false→z=Be)∧(okF [.n,.m,.i] l=true→z=(⟨1,(Aw (wrd ⟨l,false⟩)).1,0,0,0,0,0,(⟨2,(wrd (nxt .n ⟨l,false⟩)),(Du (wrd (nxt .m (nxt .n ⟨l,false⟩)))),Ae,0,noB,AU,BV⟩:AY)⟩:Au)):=by
 obtain ⟨g,h1,h2⟩:=D7 l (⟨#[119,99,105]⟩:ByteArray) (by decide) hs
 rw [show CO (⟨#[119,99,105]⟩:ByteArray)= [.n,.m,.i] from by kernel_rfl] at h1 h2
 unfold BN
 rw [AO hz,hsp,Dy,Option.bind_some,ZG,Option.bind_some,if_pos (by decide),DR,Option.bind_some]
 unfold F7 Gl
 rw [if_neg (by decide),show idx CX 2=some (⟨IY,(⟨#[119,99,105]⟩:ByteArray)⟩:Bc) from rfl,Option.bind_some]
 dsimp only
 rw [h1,Option.bind_some]
 cases hb:okF [.n,.m,.i] l with
 | false=>exact ⟨Be,by dsimp only;rw [if_pos (by decide),Option.bind_some];rfl,fun _=>rfl,fun h=>by cases h⟩
 | true=>
  obtain rfl:=h2 hb
  rcases l with _ | ⟨a,_ | ⟨b,_ | ⟨c,_ | ⟨u,l⟩⟩⟩⟩
  ·simp [okF] at hb
  ·simp [okF] at hb
  ·simp [okF] at hb
  ·refine ⟨_,by dsimp only;rw [if_neg (by decide)];simp [DL,Dk,idx,FZ,EW,DX,Ci];rfl,fun h=>(by cases h),fun _=>?_⟩
   first | rfl | simp [wrd,nxt]
  ·simp [okF] at hb
theorem mw_remove {a b c:ByteArray}(hb:okF [.n,.m,.i] [a,b,c] = true):Ce (⟨1,(Aw a).1,0,0,0,0,0,(⟨2,b,(Du c),Ae,0,noB,AU,BV⟩:AY)⟩:Au)=some (IY :: [a,b,c]):=by
 simp only [okF,Bool.and_true,Bool.and_eq_true] at hb
 obtain ⟨qa,qb,qc⟩:=hb
 unfold Ce Gw
 simp [Yl,BG,AO (Bz qa).2,(Bz qa).1,NT qc]
theorem line_remove (hsp:splitB line 0=IY::l)(hz:line.size≤1000000)(hs:∀a∈l,a.size≤1000000):Eu line:=by
 refine Fp (pp_remove hsp hz hs) (rr_remove hsp hz hs) fun hb=>⟨?_,rfl,rfl,rfl⟩
 rw [hsp]
 rcases l with _ | ⟨a,_ | ⟨b,_ | ⟨c,_ | ⟨u,l⟩⟩⟩⟩
 ·simp [okF] at hb
 ·simp [okF] at hb
 ·simp [okF] at hb
 ·exact mw_remove hb
 ·simp [okF] at hb
theorem dp_adjust {r:A8}(h:Sm r):Ei r 3=some ((⟨3,(wrd r),(Du (wrd (nxt .m r))),((placeOf (wrd (nxt .i (nxt .m r)))).getD Ae),(Aw (wrd (nxt .p (nxt .i (nxt .m r))))).1,noB,AU,BV⟩:AY),CG [.m,.i,.p,.n] r):=by
 unfold Ei
 rw [if_neg (by decide),if_neg (by decide)]
 rw [G9,Option.bind_some]
 dsimp only
 rw [if_neg (by decide)]
 rw [if_pos (by decide)]
 rw [NZ,Option.bind_some]
 dsimp only
 rw [GX ((h.nxt .m).nxt .i),Option.bind_some]
 dsimp only
 rw [number_eq (((h.nxt .m).nxt .i).nxt .p),Option.bind_some]
 dsimp only
 rfl
theorem pp_adjust (hsp:splitB line 0=Je::l)(hz:line.size≤1000000)(hs:∀a∈l,a.size≤1000000):BM line=some (if good (CG [.n,.m,.i,.p,.n] ⟨l,false⟩)=true then ((⟨1,(Aw (wrd ⟨l,false⟩)).1,0,0,0,0,0,(⟨3,(wrd (nxt .n ⟨l,false⟩)),(Du (wrd (nxt .m (nxt .n ⟨l,false⟩)))),((placeOf (wrd (nxt .i (nxt .m (nxt .n ⟨l,false⟩))))).getD Ae),(Aw (wrd (nxt .p (nxt .i (nxt .m (nxt .n ⟨l,false⟩)))))).1,noB,AU,BV⟩:AY)⟩:Au),0) else (Be,4)):=by
 have h:Sm ⟨l,false⟩:=hs
 unfold BM
 rw [AO hz,hsp,Dh,Option.bind_some]
 dsimp only
 rw [Yc,Option.bind_some,if_pos (by decide),EE h,Option.bind_some]
 dsimp only
 rw [dp_adjust (h.nxt .n),Option.bind_some]
 exact Fa
theorem rr_adjust (hsp:splitB line 0=Je::l)(hz:line.size≤1000000)(hs:∀a∈l,a.size≤1000000):∃z,BN line=some (z,okF [.n,.m,.i,.p,.n] l)∧(okF [.n,.m,.i,.p,.n] l=false→z=Be)∧(okF [.n,.m,.i,.p,.n] l=true→z=(⟨1,(Aw (wrd ⟨l,false⟩)).1,0,0,0,0,0,(⟨3,(wrd (nxt .n ⟨l,false⟩)),(Du (wrd (nxt .m (nxt .n ⟨l,false⟩)))),((placeOf (wrd (nxt .i (nxt .m (nxt .n ⟨l,false⟩))))).getD Ae),(Aw (wrd (nxt .p (nxt .i (nxt .m (nxt .n ⟨l,false⟩)))))).1,noB,AU,BV⟩:AY)⟩:Au)):=by
 obtain ⟨g,h1,h2⟩:=D7 l (⟨#[119,99,105,112,110]⟩:ByteArray) (by decide) hs
 rw [show CO (⟨#[119,99,105,112,110]⟩:ByteArray)= [.n,.m,.i,.p,.n] from by kernel_rfl] at h1 h2
 unfold BN
 rw [AO hz,hsp,Dy,Option.bind_some,Z9,Option.bind_some,if_pos (by decide),DR,Option.bind_some]
 unfold F7 Gl
 rw [if_neg (by decide),show idx CX 3=some (⟨Je,(⟨#[119,99,105,112,110]⟩:ByteArray)⟩:Bc) from rfl,Option.bind_some]
 dsimp only
 rw [h1,Option.bind_some]
 cases hb:okF [.n,.m,.i,.p,.n] l with
 | false=>exact ⟨Be,by dsimp only;rw [if_pos (by decide),Option.bind_some];rfl,fun _=>rfl,fun h=>by cases h⟩
 | true=>
  obtain rfl:=h2 hb
  rcases l with _ | ⟨a,_ | ⟨b,_ | ⟨c,_ | ⟨d,_ | ⟨e,_ | ⟨u,l⟩⟩⟩⟩⟩⟩
  ·simp [okF] at hb
  ·simp [okF] at hb
  ·simp [okF] at hb
  ·simp [okF] at hb
  ·simp [okF] at hb
  ·refine ⟨_,by dsimp only;rw [if_neg (by decide)];simp [DL,Dk,idx,FZ,EW,DX,Ci];rfl,fun h=>(by cases h),fun _=>?_⟩
   first | rfl | simp [wrd,nxt]
  ·simp [okF] at hb
theorem mw_adjust {a b c d e:ByteArray}(hb:okF [.n,.m,.i,.p,.n] [a,b,c,d,e] = true):Ce (⟨1,(Aw a).1,0,0,0,0,0,(⟨3,b,(Du c),((placeOf d).getD Ae),(Aw e).1,noB,AU,BV⟩:AY)⟩:Au)=some (Je :: [a,b,c,d,e]):=by
 simp only [okF,Bool.and_true,Bool.and_eq_true] at hb
 obtain ⟨qa,qb,qc,qd,qe⟩:=hb
 unfold Ce Gw
 simp [Ye,BG,AO (Bz qa).2,(Bz qa).1,NT qc,IM qd,AO (Bz qe).2,(Bz qe).1]
theorem line_adjust (hsp:splitB line 0=Je::l)(hz:line.size≤1000000)(hs:∀a∈l,a.size≤1000000):Eu line:=by
 refine Fp (pp_adjust hsp hz hs) (rr_adjust hsp hz hs) fun hb=>⟨?_,rfl,rfl,rfl⟩
 rw [hsp]
 rcases l with _ | ⟨a,_ | ⟨b,_ | ⟨c,_ | ⟨d,_ | ⟨e,_ | ⟨u,l⟩⟩⟩⟩⟩⟩
 ·simp [okF] at hb
 ·simp [okF] at hb
 ·simp [okF] at hb
 ·simp [okF] at hb
 ·simp [okF] at hb
 ·exact mw_adjust hb
 ·simp [okF] at hb
theorem dp_set {r:A8}(h:Sm r):Ei r 4=some ((⟨4,(wrd r),(Du (wrd (nxt .m r))),((placeOf (wrd (nxt .i (nxt .m r)))).getD Ae),0,(DD (wrd (nxt .p (nxt .i (nxt .m r))))).1,AU,BV⟩:AY),CG [.m,.i,.p,.q] r):=by
 unfold Ei
 rw [if_neg (by decide),if_neg (by decide)]
 rw [G9,Option.bind_some]
 dsimp only
 rw [if_neg (by decide)]
 rw [if_neg (by decide)]
 rw [if_pos (by decide)]
 rw [NZ,Option.bind_some]
 dsimp only
 rw [GX ((h.nxt .m).nxt .i),Option.bind_some]
 dsimp only
 rw [text_eq (((h.nxt .m).nxt .i).nxt .p),Option.bind_some]
 dsimp only
 rfl
theorem pp_set (hsp:splitB line 0=IU::l)(hz:line.size≤1000000)(hs:∀a∈l,a.size≤1000000):BM line=some (if good (CG [.n,.m,.i,.p,.q] ⟨l,false⟩)=true then ((⟨1,(Aw (wrd ⟨l,false⟩)).1,0,0,0,0,0,(⟨4,(wrd (nxt .n ⟨l,false⟩)),(Du (wrd (nxt .m (nxt .n ⟨l,false⟩)))),((placeOf (wrd (nxt .i (nxt .m (nxt .n ⟨l,false⟩))))).getD Ae),0,(DD (wrd (nxt .p (nxt .i (nxt .m (nxt .n ⟨l,false⟩)))))).1,AU,BV⟩:AY)⟩:Au),0) else (Be,4)):=by
 have h:Sm ⟨l,false⟩:=hs
 unfold BM
 rw [AO hz,hsp,Dh,Option.bind_some]
 dsimp only
 rw [kDeeds_set,Option.bind_some,if_pos (by decide),EE h,Option.bind_some]
 dsimp only
 rw [dp_set (h.nxt .n),Option.bind_some]
 exact Fa
theorem rr_set (hsp:splitB line 0=IU::l)(hz:line.size≤1000000)(hs:∀a∈l,a.size≤1000000):∃z,BN line=some (z,okF [.n,.m,.i,.p,.q] l)∧(okF [.n,.m,.i,.p,.q] l=false→z=Be)∧(okF [.n,.m,.i,.p,.q] l=true→z=(⟨1,(Aw (wrd ⟨l,false⟩)).1,0,0,0,0,0,(⟨4,(wrd (nxt .n ⟨l,false⟩)),(Du (wrd (nxt .m (nxt .n ⟨l,false⟩)))),((placeOf (wrd (nxt .i (nxt .m (nxt .n ⟨l,false⟩))))).getD Ae),0,(DD (wrd (nxt .p (nxt .i (nxt .m (nxt .n ⟨l,false⟩)))))).1,AU,BV⟩:AY)⟩:Au)):=by
 obtain ⟨g,h1,h2⟩:=D7 l (⟨#[119,99,105,112,113]⟩:ByteArray) (by decide) hs
 rw [show CO (⟨#[119,99,105,112,113]⟩:ByteArray)= [.n,.m,.i,.p,.q] from by kernel_rfl] at h1 h2
 unfold BN
 rw [AO hz,hsp,Dy,Option.bind_some,fdeeds_set,Option.bind_some,if_pos (by decide),DR,Option.bind_some]
 unfold F7 Gl
 rw [if_neg (by decide),show idx CX 4=some (⟨IU,(⟨#[119,99,105,112,113]⟩:ByteArray)⟩:Bc) from rfl,Option.bind_some]
 dsimp only
 rw [h1,Option.bind_some]
 cases hb:okF [.n,.m,.i,.p,.q] l with
 | false=>exact ⟨Be,by dsimp only;rw [if_pos (by decide),Option.bind_some];rfl,fun _=>rfl,fun h=>by cases h⟩
 | true=>
  obtain rfl:=h2 hb
  rcases l with _ | ⟨a,_ | ⟨b,_ | ⟨c,_ | ⟨d,_ | ⟨e,_ | ⟨u,l⟩⟩⟩⟩⟩⟩
  ·simp [okF] at hb
  ·simp [okF] at hb
  ·simp [okF] at hb
  ·simp [okF] at hb
  ·simp [okF] at hb
  ·refine ⟨_,by dsimp only;rw [if_neg (by decide)];simp [DL,Dk,idx,FZ,EW,DX,Ci];rfl,fun h=>(by cases h),fun _=>?_⟩
   have hq:okK .q e=true:=by simp only [okF,Bool.and_true,Bool.and_eq_true] at hb;exact hb.2.2.2.2
   simp [wrd,nxt,Oc hq]
  ·simp [okF] at hb
theorem mw_set {a b c d e:ByteArray}(hb:okF [.n,.m,.i,.p,.q] [a,b,c,d,e] = true):Ce (⟨1,(Aw a).1,0,0,0,0,0,(⟨4,b,(Du c),((placeOf d).getD Ae),0,(DD e).1,AU,BV⟩:AY)⟩:Au)=some (IU :: [a,b,c,d,e]):=by
 simp only [okF,Bool.and_true,Bool.and_eq_true] at hb
 obtain ⟨qa,qb,qc,qd,qe⟩:=hb
 unfold Ce Gw
 simp [vDeeds_set,BG,AO (Bz qa).2,(Bz qa).1,NT qc,IM qd,Qb qe]
theorem line_set (hsp:splitB line 0=IU::l)(hz:line.size≤1000000)(hs:∀a∈l,a.size≤1000000):Eu line:=by
 refine Fp (pp_set hsp hz hs) (rr_set hsp hz hs) fun hb=>⟨?_,rfl,rfl,rfl⟩
 rw [hsp]
 rcases l with _ | ⟨a,_ | ⟨b,_ | ⟨c,_ | ⟨d,_ | ⟨e,_ | ⟨u,l⟩⟩⟩⟩⟩⟩
 ·simp [okF] at hb
 ·simp [okF] at hb
 ·simp [okF] at hb
 ·simp [okF] at hb
 ·simp [okF] at hb
 ·exact mw_set hb
 ·simp [okF] at hb
theorem dp_put {r:A8}(h:Sm r):Ei r 5=some ((⟨5,(wrd r),(Du (wrd (nxt .m r))),((placeOf (wrd (nxt .i (nxt .m r)))).getD Ae),0,(DD (wrd (nxt .p (nxt .i (nxt .m r))))).1,AU,BV⟩:AY),CG [.m,.i,.p,.q] r):=by
 unfold Ei
 rw [if_neg (by decide),if_neg (by decide)]
 rw [G9,Option.bind_some]
 dsimp only
 rw [if_neg (by decide)]
 rw [if_neg (by decide)]
 rw [if_pos (by decide)]
 rw [NZ,Option.bind_some]
 dsimp only
 rw [GX ((h.nxt .m).nxt .i),Option.bind_some]
 dsimp only
 rw [text_eq (((h.nxt .m).nxt .i).nxt .p),Option.bind_some]
 dsimp only
 rfl
theorem pp_put (hsp:splitB line 0=IQ::l)(hz:line.size≤1000000)(hs:∀a∈l,a.size≤1000000):BM line=some (if good (CG [.n,.m,.i,.p,.q] ⟨l,false⟩)=true then ((⟨1,(Aw (wrd ⟨l,false⟩)).1,0,0,0,0,0,(⟨5,(wrd (nxt .n ⟨l,false⟩)),(Du (wrd (nxt .m (nxt .n ⟨l,false⟩)))),((placeOf (wrd (nxt .i (nxt .m (nxt .n ⟨l,false⟩))))).getD Ae),0,(DD (wrd (nxt .p (nxt .i (nxt .m (nxt .n ⟨l,false⟩)))))).1,AU,BV⟩:AY)⟩:Au),0) else (Be,4)):=by
 have h:Sm ⟨l,false⟩:=hs
 unfold BM
 rw [AO hz,hsp,Dh,Option.bind_some]
 dsimp only
 rw [kDeeds_put,Option.bind_some,if_pos (by decide),EE h,Option.bind_some]
 dsimp only
 rw [dp_put (h.nxt .n),Option.bind_some]
 exact Fa
theorem rr_put (hsp:splitB line 0=IQ::l)(hz:line.size≤1000000)(hs:∀a∈l,a.size≤1000000):∃z,BN line=some (z,okF [.n,.m,.i,.p,.q] l)∧(okF [.n,.m,.i,.p,.q] l=false→z=Be)∧(okF [.n,.m,.i,.p,.q] l=true→z=(⟨1,(Aw (wrd ⟨l,false⟩)).1,0,0,0,0,0,(⟨5,(wrd (nxt .n ⟨l,false⟩)),(Du (wrd (nxt .m (nxt .n ⟨l,false⟩)))),((placeOf (wrd (nxt .i (nxt .m (nxt .n ⟨l,false⟩))))).getD Ae),0,(DD (wrd (nxt .p (nxt .i (nxt .m (nxt .n ⟨l,false⟩)))))).1,AU,BV⟩:AY)⟩:Au)):=by
 obtain ⟨g,h1,h2⟩:=D7 l (⟨#[119,99,105,112,113]⟩:ByteArray) (by decide) hs
 rw [show CO (⟨#[119,99,105,112,113]⟩:ByteArray)= [.n,.m,.i,.p,.q] from by kernel_rfl] at h1 h2
 unfold BN
 rw [AO hz,hsp,Dy,Option.bind_some,fdeeds_put,Option.bind_some,if_pos (by decide),DR,Option.bind_some]
 unfold F7 Gl
 rw [if_neg (by decide),show idx CX 5=some (⟨IQ,(⟨#[119,99,105,112,113]⟩:ByteArray)⟩:Bc) from rfl,Option.bind_some]
 dsimp only
 rw [h1,Option.bind_some]
 cases hb:okF [.n,.m,.i,.p,.q] l with
 | false=>exact ⟨Be,by dsimp only;rw [if_pos (by decide),Option.bind_some];rfl,fun _=>rfl,fun h=>by cases h⟩
 | true=>
  obtain rfl:=h2 hb
  rcases l with _ | ⟨a,_ | ⟨b,_ | ⟨c,_ | ⟨d,_ | ⟨e,_ | ⟨u,l⟩⟩⟩⟩⟩⟩
  ·simp [okF] at hb
  ·simp [okF] at hb
  ·simp [okF] at hb
  ·simp [okF] at hb
  ·simp [okF] at hb
  ·refine ⟨_,by dsimp only;rw [if_neg (by decide)];simp [DL,Dk,idx,FZ,EW,DX,Ci];rfl,fun h=>(by cases h),fun _=>?_⟩
   have hq:okK .q e=true:=by simp only [okF,Bool.and_true,Bool.and_eq_true] at hb;exact hb.2.2.2.2
   simp [wrd,nxt,Oc hq]
  ·simp [okF] at hb
theorem mw_put {a b c d e:ByteArray}(hb:okF [.n,.m,.i,.p,.q] [a,b,c,d,e] = true):Ce (⟨1,(Aw a).1,0,0,0,0,0,(⟨5,b,(Du c),((placeOf d).getD Ae),0,(DD e).1,AU,BV⟩:AY)⟩:Au)=some (IQ :: [a,b,c,d,e]):=by
 simp only [okF,Bool.and_true,Bool.and_eq_true] at hb
 obtain ⟨qa,qb,qc,qd,qe⟩:=hb
 unfold Ce Gw
 simp [vDeeds_put,BG,AO (Bz qa).2,(Bz qa).1,NT qc,IM qd,Qb qe]
theorem line_put (hsp:splitB line 0=IQ::l)(hz:line.size≤1000000)(hs:∀a∈l,a.size≤1000000):Eu line:=by
 refine Fp (pp_put hsp hz hs) (rr_put hsp hz hs) fun hb=>⟨?_,rfl,rfl,rfl⟩
 rw [hsp]
 rcases l with _ | ⟨a,_ | ⟨b,_ | ⟨c,_ | ⟨d,_ | ⟨e,_ | ⟨u,l⟩⟩⟩⟩⟩⟩
 ·simp [okF] at hb
 ·simp [okF] at hb
 ·simp [okF] at hb
 ·simp [okF] at hb
 ·simp [okF] at hb
 ·exact mw_put hb
 ·simp [okF] at hb
theorem dp_take {r:A8}(h:Sm r):Ei r 6=some ((⟨6,(wrd r),(Du (wrd (nxt .m r))),((placeOf (wrd (nxt .i (nxt .m r)))).getD Ae),0,(DD (wrd (nxt .p (nxt .i (nxt .m r))))).1,AU,BV⟩:AY),CG [.m,.i,.p,.q] r):=by
 unfold Ei
 rw [if_neg (by decide),if_neg (by decide)]
 rw [G9,Option.bind_some]
 dsimp only
 rw [if_neg (by decide)]
 rw [if_neg (by decide)]
 rw [if_pos (by decide)]
 rw [NZ,Option.bind_some]
 dsimp only
 rw [GX ((h.nxt .m).nxt .i),Option.bind_some]
 dsimp only
 rw [text_eq (((h.nxt .m).nxt .i).nxt .p),Option.bind_some]
 dsimp only
 rfl
theorem pp_take (hsp:splitB line 0=Jh::l)(hz:line.size≤1000000)(hs:∀a∈l,a.size≤1000000):BM line=some (if good (CG [.n,.m,.i,.p,.q] ⟨l,false⟩)=true then ((⟨1,(Aw (wrd ⟨l,false⟩)).1,0,0,0,0,0,(⟨6,(wrd (nxt .n ⟨l,false⟩)),(Du (wrd (nxt .m (nxt .n ⟨l,false⟩)))),((placeOf (wrd (nxt .i (nxt .m (nxt .n ⟨l,false⟩))))).getD Ae),0,(DD (wrd (nxt .p (nxt .i (nxt .m (nxt .n ⟨l,false⟩)))))).1,AU,BV⟩:AY)⟩:Au),0) else (Be,4)):=by
 have h:Sm ⟨l,false⟩:=hs
 unfold BM
 rw [AO hz,hsp,Dh,Option.bind_some]
 dsimp only
 rw [kDeeds_take,Option.bind_some,if_pos (by decide),EE h,Option.bind_some]
 dsimp only
 rw [dp_take (h.nxt .n),Option.bind_some]
 exact Fa
theorem rr_take (hsp:splitB line 0=Jh::l)(hz:line.size≤1000000)(hs:∀a∈l,a.size≤1000000):∃z,BN line=some (z,okF [.n,.m,.i,.p,.q] l)∧(okF [.n,.m,.i,.p,.q] l=false→z=Be)∧(okF [.n,.m,.i,.p,.q] l=true→z=(⟨1,(Aw (wrd ⟨l,false⟩)).1,0,0,0,0,0,(⟨6,(wrd (nxt .n ⟨l,false⟩)),(Du (wrd (nxt .m (nxt .n ⟨l,false⟩)))),((placeOf (wrd (nxt .i (nxt .m (nxt .n ⟨l,false⟩))))).getD Ae),0,(DD (wrd (nxt .p (nxt .i (nxt .m (nxt .n ⟨l,false⟩)))))).1,AU,BV⟩:AY)⟩:Au)):=by
 obtain ⟨g,h1,h2⟩:=D7 l (⟨#[119,99,105,112,113]⟩:ByteArray) (by decide) hs
 rw [show CO (⟨#[119,99,105,112,113]⟩:ByteArray)= [.n,.m,.i,.p,.q] from by kernel_rfl] at h1 h2
 unfold BN
 rw [AO hz,hsp,Dy,Option.bind_some,fdeeds_take,Option.bind_some,if_pos (by decide),DR,Option.bind_some]
 unfold F7 Gl
 rw [if_neg (by decide),show idx CX 6=some (⟨Jh,(⟨#[119,99,105,112,113]⟩:ByteArray)⟩:Bc) from rfl,Option.bind_some]
 dsimp only
 rw [h1,Option.bind_some]
 cases hb:okF [.n,.m,.i,.p,.q] l with
 | false=>exact ⟨Be,by dsimp only;rw [if_pos (by decide),Option.bind_some];rfl,fun _=>rfl,fun h=>by cases h⟩
 | true=>
  obtain rfl:=h2 hb
  rcases l with _ | ⟨a,_ | ⟨b,_ | ⟨c,_ | ⟨d,_ | ⟨e,_ | ⟨u,l⟩⟩⟩⟩⟩⟩
  ·simp [okF] at hb
  ·simp [okF] at hb
  ·simp [okF] at hb
  ·simp [okF] at hb
  ·simp [okF] at hb
  ·refine ⟨_,by dsimp only;rw [if_neg (by decide)];simp [DL,Dk,idx,FZ,EW,DX,Ci];rfl,fun h=>(by cases h),fun _=>?_⟩
   have hq:okK .q e=true:=by simp only [okF,Bool.and_true,Bool.and_eq_true] at hb;exact hb.2.2.2.2
   simp [wrd,nxt,Oc hq]
  ·simp [okF] at hb
theorem mw_take {a b c d e:ByteArray}(hb:okF [.n,.m,.i,.p,.q] [a,b,c,d,e] = true):Ce (⟨1,(Aw a).1,0,0,0,0,0,(⟨6,b,(Du c),((placeOf d).getD Ae),0,(DD e).1,AU,BV⟩:AY)⟩:Au)=some (Jh :: [a,b,c,d,e]):=by
 simp only [okF,Bool.and_true,Bool.and_eq_true] at hb
 obtain ⟨qa,qb,qc,qd,qe⟩:=hb
 unfold Ce Gw
 simp [vDeeds_take,BG,AO (Bz qa).2,(Bz qa).1,NT qc,IM qd,Qb qe]
theorem line_take (hsp:splitB line 0=Jh::l)(hz:line.size≤1000000)(hs:∀a∈l,a.size≤1000000):Eu line:=by
 refine Fp (pp_take hsp hz hs) (rr_take hsp hz hs) fun hb=>⟨?_,rfl,rfl,rfl⟩
 rw [hsp]
 rcases l with _ | ⟨a,_ | ⟨b,_ | ⟨c,_ | ⟨d,_ | ⟨e,_ | ⟨u,l⟩⟩⟩⟩⟩⟩
 ·simp [okF] at hb
 ·simp [okF] at hb
 ·simp [okF] at hb
 ·simp [okF] at hb
 ·simp [okF] at hb
 ·exact mw_take hb
 ·simp [okF] at hb
theorem dp_clear {r:A8}(h:Sm r):Ei r 7=some ((⟨7,(wrd r),noB,Ae,0,noB,AU,BV⟩:AY),CG [.m] r):=by
 unfold Ei
 rw [if_neg (by decide),if_neg (by decide)]
 rw [G9,Option.bind_some]
 dsimp only
 rw [if_neg (by decide)]
 rw [if_neg (by decide)]
 rw [if_neg (by decide)]
 rw [if_neg (by decide)]
 rfl
theorem pp_clear (hsp:splitB line 0=Jc::l)(hz:line.size≤1000000)(hs:∀a∈l,a.size≤1000000):BM line=some (if good (CG [.n,.m] ⟨l,false⟩)=true then ((⟨1,(Aw (wrd ⟨l,false⟩)).1,0,0,0,0,0,(⟨7,(wrd (nxt .n ⟨l,false⟩)),noB,Ae,0,noB,AU,BV⟩:AY)⟩:Au),0) else (Be,4)):=by
 have h:Sm ⟨l,false⟩:=hs
 unfold BM
 rw [AO hz,hsp,Dh,Option.bind_some]
 dsimp only
 rw [Zu,Option.bind_some,if_pos (by decide),EE h,Option.bind_some]
 dsimp only
 rw [dp_clear (h.nxt .n),Option.bind_some]
 exact Fa
theorem rr_clear (hsp:splitB line 0=Jc::l)(hz:line.size≤1000000)(hs:∀a∈l,a.size≤1000000):∃z,BN line=some (z,okF [.n,.m] l)∧(okF [.n,.m] l=false→z=Be)∧(okF [.n,.m] l=true→z=(⟨1,(Aw (wrd ⟨l,false⟩)).1,0,0,0,0,0,(⟨7,(wrd (nxt .n ⟨l,false⟩)),noB,Ae,0,noB,AU,BV⟩:AY)⟩:Au)):=by
 obtain ⟨g,h1,h2⟩:=D7 l (⟨#[119,99]⟩:ByteArray) (by decide) hs
 rw [show CO (⟨#[119,99]⟩:ByteArray)= [.n,.m] from by kernel_rfl] at h1 h2
 unfold BN
 rw [AO hz,hsp,Dy,Option.bind_some,Zt,Option.bind_some,if_pos (by decide),DR,Option.bind_some]
 unfold F7 Gl
 rw [if_neg (by decide),show idx CX 7=some (⟨Jc,(⟨#[119,99]⟩:ByteArray)⟩:Bc) from rfl,Option.bind_some]
 dsimp only
 rw [h1,Option.bind_some]
 cases hb:okF [.n,.m] l with
 | false=>exact ⟨Be,by dsimp only;rw [if_pos (by decide),Option.bind_some];rfl,fun _=>rfl,fun h=>by cases h⟩
 | true=>
  obtain rfl:=h2 hb
  rcases l with _ | ⟨a,_ | ⟨b,_ | ⟨u,l⟩⟩⟩
  ·simp [okF] at hb
  ·simp [okF] at hb
  ·refine ⟨_,by dsimp only;rw [if_neg (by decide)];simp [DL,Dk,idx,FZ,EW,DX,Ci];rfl,fun h=>(by cases h),fun _=>?_⟩
   first | rfl | simp [wrd,nxt]
  ·simp [okF] at hb
theorem mw_clear {a b:ByteArray}(hb:okF [.n,.m] [a,b] = true):Ce (⟨1,(Aw a).1,0,0,0,0,0,(⟨7,b,noB,Ae,0,noB,AU,BV⟩:AY)⟩:Au)=some (Jc :: [a,b]):=by
 simp only [okF,Bool.and_true,Bool.and_eq_true] at hb
 obtain ⟨qa,qb⟩:=hb
 unfold Ce Gw
 simp [ZR,BG,AO (Bz qa).2,(Bz qa).1]
theorem line_clear (hsp:splitB line 0=Jc::l)(hz:line.size≤1000000)(hs:∀a∈l,a.size≤1000000):Eu line:=by
 refine Fp (pp_clear hsp hz hs) (rr_clear hsp hz hs) fun hb=>⟨?_,rfl,rfl,rfl⟩
 rw [hsp]
 rcases l with _ | ⟨a,_ | ⟨b,_ | ⟨u,l⟩⟩⟩
 ·simp [okF] at hb
 ·simp [okF] at hb
 ·exact mw_clear hb
 ·simp [okF] at hb
theorem dp_switch {r:A8}(h:Sm r):Ei r 9=some ((⟨9,noB,noB,Ae,0,noB,((CQ (wrd r)).getD AU),BV⟩:AY),CG [.t] r):=by
 unfold Ei
 rw [if_neg (by decide),if_pos rfl]
 rw [Qq h,Option.bind_some]
 rfl
theorem pp_switch (hsp:splitB line 0=IK::l)(hz:line.size≤1000000)(hs:∀a∈l,a.size≤1000000):BM line=some (if good (CG [.n,.t] ⟨l,false⟩)=true then ((⟨1,(Aw (wrd ⟨l,false⟩)).1,0,0,0,0,0,(⟨9,noB,noB,Ae,0,noB,((CQ (wrd (nxt .n ⟨l,false⟩))).getD AU),BV⟩:AY)⟩:Au),0) else (Be,4)):=by
 have h:Sm ⟨l,false⟩:=hs
 unfold BM
 rw [AO hz,hsp,Dh,Option.bind_some]
 dsimp only
 rw [Yg,Option.bind_some,if_pos (by decide),EE h,Option.bind_some]
 dsimp only
 rw [dp_switch (h.nxt .n),Option.bind_some]
 exact Fa
theorem rr_switch (hsp:splitB line 0=IK::l)(hz:line.size≤1000000)(hs:∀a∈l,a.size≤1000000):∃z,BN line=some (z,okF [.n,.t] l)∧(okF [.n,.t] l=false→z=Be)∧(okF [.n,.t] l=true→z=(⟨1,(Aw (wrd ⟨l,false⟩)).1,0,0,0,0,0,(⟨9,noB,noB,Ae,0,noB,((CQ (wrd (nxt .n ⟨l,false⟩))).getD AU),BV⟩:AY)⟩:Au)):=by
 obtain ⟨g,h1,h2⟩:=D7 l (⟨#[119,116]⟩:ByteArray) (by decide) hs
 rw [show CO (⟨#[119,116]⟩:ByteArray)= [.n,.t] from by kernel_rfl] at h1 h2
 unfold BN
 rw [AO hz,hsp,Dy,Option.bind_some,Zr,Option.bind_some,if_pos (by decide),DR,Option.bind_some]
 unfold F7 Gl
 rw [if_neg (by decide),show idx CX 9=some (⟨IK,(⟨#[119,116]⟩:ByteArray)⟩:Bc) from rfl,Option.bind_some]
 dsimp only
 rw [h1,Option.bind_some]
 cases hb:okF [.n,.t] l with
 | false=>exact ⟨Be,by dsimp only;rw [if_pos (by decide),Option.bind_some];rfl,fun _=>rfl,fun h=>by cases h⟩
 | true=>
  obtain rfl:=h2 hb
  rcases l with _ | ⟨a,_ | ⟨b,_ | ⟨u,l⟩⟩⟩
  ·simp [okF] at hb
  ·simp [okF] at hb
  ·refine ⟨_,by dsimp only;rw [if_neg (by decide)];simp [DL,Dk,idx,FZ,EW,DX,Ci];rfl,fun h=>(by cases h),fun _=>?_⟩
   first | rfl | simp [wrd,nxt]
  ·simp [okF] at hb
theorem mw_switch {a b:ByteArray}(hb:okF [.n,.t] [a,b] = true):Ce (⟨1,(Aw a).1,0,0,0,0,0,(⟨9,noB,noB,Ae,0,noB,((CQ b).getD AU),BV⟩:AY)⟩:Au)=some (IK :: [a,b]):=by
 simp only [okF,Bool.and_true,Bool.and_eq_true] at hb
 obtain ⟨qa,qb⟩:=hb
 unfold Ce Gw
 simp [Yz,BG,AO (Bz qa).2,(Bz qa).1,AO (LZ qb).1,(LZ qb).2]
theorem line_switch (hsp:splitB line 0=IK::l)(hz:line.size≤1000000)(hs:∀a∈l,a.size≤1000000):Eu line:=by
 refine Fp (pp_switch hsp hz hs) (rr_switch hsp hz hs) fun hb=>⟨?_,rfl,rfl,rfl⟩
 rw [hsp]
 rcases l with _ | ⟨a,_ | ⟨b,_ | ⟨u,l⟩⟩⟩
 ·simp [okF] at hb
 ·simp [okF] at hb
 ·exact mw_switch hb
 ·simp [okF] at hb
theorem dp_view {r:A8}(h:Sm r):Ei r 10=some ((⟨10,(wrd r),noB,Ae,0,noB,AU,BV⟩:AY),CG [.m] r):=by
 unfold Ei
 rw [if_neg (by decide),if_neg (by decide)]
 rw [G9,Option.bind_some]
 dsimp only
 rw [if_neg (by decide)]
 rw [if_neg (by decide)]
 rw [if_neg (by decide)]
 rw [if_neg (by decide)]
 rfl
theorem pp_view (hsp:splitB line 0=IG::l)(hz:line.size≤1000000)(hs:∀a∈l,a.size≤1000000):BM line=some (if good (CG [.n,.m] ⟨l,false⟩)=true then ((⟨1,(Aw (wrd ⟨l,false⟩)).1,0,0,0,0,0,(⟨10,(wrd (nxt .n ⟨l,false⟩)),noB,Ae,0,noB,AU,BV⟩:AY)⟩:Au),0) else (Be,4)):=by
 have h:Sm ⟨l,false⟩:=hs
 unfold BM
 rw [AO hz,hsp,Dh,Option.bind_some]
 dsimp only
 rw [kDeeds_view,Option.bind_some,if_pos (by decide),EE h,Option.bind_some]
 dsimp only
 rw [dp_view (h.nxt .n),Option.bind_some]
 exact Fa
theorem rr_view (hsp:splitB line 0=IG::l)(hz:line.size≤1000000)(hs:∀a∈l,a.size≤1000000):∃z,BN line=some (z,okF [.n,.m] l)∧(okF [.n,.m] l=false→z=Be)∧(okF [.n,.m] l=true→z=(⟨1,(Aw (wrd ⟨l,false⟩)).1,0,0,0,0,0,(⟨10,(wrd (nxt .n ⟨l,false⟩)),noB,Ae,0,noB,AU,BV⟩:AY)⟩:Au)):=by
 obtain ⟨g,h1,h2⟩:=D7 l (⟨#[119,99]⟩:ByteArray) (by decide) hs
 rw [show CO (⟨#[119,99]⟩:ByteArray)= [.n,.m] from by kernel_rfl] at h1 h2
 unfold BN
 rw [AO hz,hsp,Dy,Option.bind_some,fdeeds_view,Option.bind_some,if_pos (by decide),DR,Option.bind_some]
 unfold F7 Gl
 rw [if_neg (by decide),show idx CX 10=some (⟨IG,(⟨#[119,99]⟩:ByteArray)⟩:Bc) from rfl,Option.bind_some]
 dsimp only
 rw [h1,Option.bind_some]
 cases hb:okF [.n,.m] l with
 | false=>exact ⟨Be,by dsimp only;rw [if_pos (by decide),Option.bind_some];rfl,fun _=>rfl,fun h=>by cases h⟩
 | true=>
  obtain rfl:=h2 hb
  rcases l with _ | ⟨a,_ | ⟨b,_ | ⟨u,l⟩⟩⟩
  ·simp [okF] at hb
  ·simp [okF] at hb
  ·refine ⟨_,by dsimp only;rw [if_neg (by decide)];simp [DL,Dk,idx,FZ,EW,DX,Ci];rfl,fun h=>(by cases h),fun _=>?_⟩
   first | rfl | simp [wrd,nxt]
  ·simp [okF] at hb
theorem mw_view {a b:ByteArray}(hb:okF [.n,.m] [a,b] = true):Ce (⟨1,(Aw a).1,0,0,0,0,0,(⟨10,b,noB,Ae,0,noB,AU,BV⟩:AY)⟩:Au)=some (IG :: [a,b]):=by
 simp only [okF,Bool.and_true,Bool.and_eq_true] at hb
 obtain ⟨qa,qb⟩:=hb
 unfold Ce Gw
 simp [vDeeds_view,BG,AO (Bz qa).2,(Bz qa).1]
theorem line_view (hsp:splitB line 0=IG::l)(hz:line.size≤1000000)(hs:∀a∈l,a.size≤1000000):Eu line:=by
 refine Fp (pp_view hsp hz hs) (rr_view hsp hz hs) fun hb=>⟨?_,rfl,rfl,rfl⟩
 rw [hsp]
 rcases l with _ | ⟨a,_ | ⟨b,_ | ⟨u,l⟩⟩⟩
 ·simp [okF] at hb
 ·simp [okF] at hb
 ·exact mw_view hb
 ·simp [okF] at hb
theorem dp_at {r:A8}(h:Sm r):Ei r 11=some ((⟨11,(wrd r),noB,Ae,0,noB,((CQ (wrd (nxt .m r))).getD AU),BV⟩:AY),CG [.m,.t] r):=by
 unfold Ei
 rw [if_neg (by decide),if_neg (by decide)]
 rw [G9,Option.bind_some]
 dsimp only
 rw [if_neg (by decide)]
 rw [if_neg (by decide)]
 rw [if_neg (by decide)]
 rw [if_pos (by decide)]
 rw [Qq (h.nxt .m),Option.bind_some]
 dsimp only
 rfl
theorem pp_at (hsp:splitB line 0=Jd::l)(hz:line.size≤1000000)(hs:∀a∈l,a.size≤1000000):BM line=some (if good (CG [.n,.m,.t] ⟨l,false⟩)=true then ((⟨1,(Aw (wrd ⟨l,false⟩)).1,0,0,0,0,0,(⟨11,(wrd (nxt .n ⟨l,false⟩)),noB,Ae,0,noB,((CQ (wrd (nxt .m (nxt .n ⟨l,false⟩)))).getD AU),BV⟩:AY)⟩:Au),0) else (Be,4)):=by
 have h:Sm ⟨l,false⟩:=hs
 unfold BM
 rw [AO hz,hsp,Dh,Option.bind_some]
 dsimp only
 rw [kDeeds_at,Option.bind_some,if_pos (by decide),EE h,Option.bind_some]
 dsimp only
 rw [dp_at (h.nxt .n),Option.bind_some]
 exact Fa
theorem rr_at (hsp:splitB line 0=Jd::l)(hz:line.size≤1000000)(hs:∀a∈l,a.size≤1000000):∃z,BN line=some (z,okF [.n,.m,.t] l)∧(okF [.n,.m,.t] l=false→z=Be)∧(okF [.n,.m,.t] l=true→z=(⟨1,(Aw (wrd ⟨l,false⟩)).1,0,0,0,0,0,(⟨11,(wrd (nxt .n ⟨l,false⟩)),noB,Ae,0,noB,((CQ (wrd (nxt .m (nxt .n ⟨l,false⟩)))).getD AU),BV⟩:AY)⟩:Au)):=by
 obtain ⟨g,h1,h2⟩:=D7 l (⟨#[119,99,116]⟩:ByteArray) (by decide) hs
 rw [show CO (⟨#[119,99,116]⟩:ByteArray)= [.n,.m,.t] from by kernel_rfl] at h1 h2
 unfold BN
 rw [AO hz,hsp,Dy,Option.bind_some,fdeeds_at,Option.bind_some,if_pos (by decide),DR,Option.bind_some]
 unfold F7 Gl
 rw [if_neg (by decide),show idx CX 11=some (⟨Jd,(⟨#[119,99,116]⟩:ByteArray)⟩:Bc) from rfl,Option.bind_some]
 dsimp only
 rw [h1,Option.bind_some]
 cases hb:okF [.n,.m,.t] l with
 | false=>exact ⟨Be,by dsimp only;rw [if_pos (by decide),Option.bind_some];rfl,fun _=>rfl,fun h=>by cases h⟩
 | true=>
  obtain rfl:=h2 hb
  rcases l with _ | ⟨a,_ | ⟨b,_ | ⟨c,_ | ⟨u,l⟩⟩⟩⟩
  ·simp [okF] at hb
  ·simp [okF] at hb
  ·simp [okF] at hb
  ·refine ⟨_,by dsimp only;rw [if_neg (by decide)];simp [DL,Dk,idx,FZ,EW,DX,Ci];rfl,fun h=>(by cases h),fun _=>?_⟩
   first | rfl | simp [wrd,nxt]
  ·simp [okF] at hb
theorem mw_at {a b c:ByteArray}(hb:okF [.n,.m,.t] [a,b,c] = true):Ce (⟨1,(Aw a).1,0,0,0,0,0,(⟨11,b,noB,Ae,0,noB,((CQ c).getD AU),BV⟩:AY)⟩:Au)=some (Jd :: [a,b,c]):=by
 simp only [okF,Bool.and_true,Bool.and_eq_true] at hb
 obtain ⟨qa,qb,qc⟩:=hb
 unfold Ce Gw
 simp [vDeeds_at,BG,AO (Bz qa).2,(Bz qa).1,AO (LZ qc).1,(LZ qc).2]
theorem line_at (hsp:splitB line 0=Jd::l)(hz:line.size≤1000000)(hs:∀a∈l,a.size≤1000000):Eu line:=by
 refine Fp (pp_at hsp hz hs) (rr_at hsp hz hs) fun hb=>⟨?_,rfl,rfl,rfl⟩
 rw [hsp]
 rcases l with _ | ⟨a,_ | ⟨b,_ | ⟨c,_ | ⟨u,l⟩⟩⟩⟩
 ·simp [okF] at hb
 ·simp [okF] at hb
 ·simp [okF] at hb
 ·exact mw_at hb
 ·simp [okF] at hb
theorem dp_project {r:A8}(h:Sm r):Ei r 12=some ((⟨12,(wrd r),noB,Ae,0,noB,((CQ (wrd (nxt .m r))).getD AU),BV⟩:AY),CG [.m,.t] r):=by
 unfold Ei
 rw [if_neg (by decide),if_neg (by decide)]
 rw [G9,Option.bind_some]
 dsimp only
 rw [if_neg (by decide)]
 rw [if_neg (by decide)]
 rw [if_neg (by decide)]
 rw [if_pos (by decide)]
 rw [Qq (h.nxt .m),Option.bind_some]
 dsimp only
 rfl
theorem pp_project (hsp:splitB line 0=Jf::l)(hz:line.size≤1000000)(hs:∀a∈l,a.size≤1000000):BM line=some (if good (CG [.n,.m,.t] ⟨l,false⟩)=true then ((⟨1,(Aw (wrd ⟨l,false⟩)).1,0,0,0,0,0,(⟨12,(wrd (nxt .n ⟨l,false⟩)),noB,Ae,0,noB,((CQ (wrd (nxt .m (nxt .n ⟨l,false⟩)))).getD AU),BV⟩:AY)⟩:Au),0) else (Be,4)):=by
 have h:Sm ⟨l,false⟩:=hs
 unfold BM
 rw [AO hz,hsp,Dh,Option.bind_some]
 dsimp only
 rw [Aau,Option.bind_some,if_pos (by decide),EE h,Option.bind_some]
 dsimp only
 rw [dp_project (h.nxt .n),Option.bind_some]
 exact Fa
theorem rr_project (hsp:splitB line 0=Jf::l)(hz:line.size≤1000000)(hs:∀a∈l,a.size≤1000000):∃z,BN line=some (z,okF [.n,.m,.t] l)∧(okF [.n,.m,.t] l=false→z=Be)∧(okF [.n,.m,.t] l=true→z=(⟨1,(Aw (wrd ⟨l,false⟩)).1,0,0,0,0,0,(⟨12,(wrd (nxt .n ⟨l,false⟩)),noB,Ae,0,noB,((CQ (wrd (nxt .m (nxt .n ⟨l,false⟩)))).getD AU),BV⟩:AY)⟩:Au)):=by
 obtain ⟨g,h1,h2⟩:=D7 l (⟨#[119,99,116]⟩:ByteArray) (by decide) hs
 rw [show CO (⟨#[119,99,116]⟩:ByteArray)= [.n,.m,.t] from by kernel_rfl] at h1 h2
 unfold BN
 rw [AO hz,hsp,Dy,Option.bind_some,ZT,Option.bind_some,if_pos (by decide),DR,Option.bind_some]
 unfold F7 Gl
 rw [if_neg (by decide),show idx CX 12=some (⟨Jf,(⟨#[119,99,116]⟩:ByteArray)⟩:Bc) from rfl,Option.bind_some]
 dsimp only
 rw [h1,Option.bind_some]
 cases hb:okF [.n,.m,.t] l with
 | false=>exact ⟨Be,by dsimp only;rw [if_pos (by decide),Option.bind_some];rfl,fun _=>rfl,fun h=>by cases h⟩
 | true=>
  obtain rfl:=h2 hb
  rcases l with _ | ⟨a,_ | ⟨b,_ | ⟨c,_ | ⟨u,l⟩⟩⟩⟩
  ·simp [okF] at hb
  ·simp [okF] at hb
  ·simp [okF] at hb
  ·refine ⟨_,by dsimp only;rw [if_neg (by decide)];simp [DL,Dk,idx,FZ,EW,DX,Ci];rfl,fun h=>(by cases h),fun _=>?_⟩
   first | rfl | simp [wrd,nxt]
  ·simp [okF] at hb
theorem mw_project {a b c:ByteArray}(hb:okF [.n,.m,.t] [a,b,c] = true):Ce (⟨1,(Aw a).1,0,0,0,0,0,(⟨12,b,noB,Ae,0,noB,((CQ c).getD AU),BV⟩:AY)⟩:Au)=some (Jf :: [a,b,c]):=by
 simp only [okF,Bool.and_true,Bool.and_eq_true] at hb
 obtain ⟨qa,qb,qc⟩:=hb
 unfold Ce Gw
 simp [Y0,BG,AO (Bz qa).2,(Bz qa).1,AO (LZ qc).1,(LZ qc).2]
theorem Aax (hsp:splitB line 0=Jf::l)(hz:line.size≤1000000)(hs:∀a∈l,a.size≤1000000):Eu line:=by
 refine Fp (pp_project hsp hz hs) (rr_project hsp hz hs) fun hb=>⟨?_,rfl,rfl,rfl⟩
 rw [hsp]
 rcases l with _ | ⟨a,_ | ⟨b,_ | ⟨c,_ | ⟨u,l⟩⟩⟩⟩
 ·simp [okF] at hb
 ·simp [okF] at hb
 ·simp [okF] at hb
 ·exact mw_project hb
 ·simp [okF] at hb
theorem pp_hello (hsp:splitB line 0=GZ::l)(hz:line.size≤1000000)(hs:∀a∈l,a.size≤1000000):BM line=some (if good (CG [.n,.n] ⟨l,false⟩)=true then ((⟨2,(Aw (wrd ⟨l,false⟩)).1,(Aw (wrd (nxt .n ⟨l,false⟩))).1,0,0,0,0,Eb⟩:Au),0) else (Be,4)):=by
 have h:Sm ⟨l,false⟩:=hs
 unfold BM
 rw [AO hz,hsp,Dh,Option.bind_some]
 dsimp only
 rw [Aao,Option.bind_some,if_neg (by decide),Yq,Option.bind_some]
 rw [if_pos (by decide)]
 rw [EE h,Option.bind_some]
 dsimp only
 rw [EE (h.nxt .n),Option.bind_some]
 dsimp only
 exact Fa
theorem rr_hello (hsp:splitB line 0=GZ::l)(hz:line.size≤1000000)(hs:∀a∈l,a.size≤1000000):∃z,BN line=some (z,okF [.n,.n] l)∧(okF [.n,.n] l=false→z=Be)∧(okF [.n,.n] l=true→z=(⟨2,(Aw (wrd ⟨l,false⟩)).1,(Aw (wrd (nxt .n ⟨l,false⟩))).1,0,0,0,0,Eb⟩:Au)):=by
 obtain ⟨g,h1,h2⟩:=D7 l (⟨#[119,119]⟩:ByteArray) (by decide) hs
 rw [show CO (⟨#[119,119]⟩:ByteArray)= [.n,.n] from by kernel_rfl] at h1 h2
 unfold BN
 rw [AO hz,hsp,Dy,Option.bind_some,Z4,Option.bind_some,if_neg (by decide),Option.bind_some,YK,Option.bind_some,if_neg (by decide),DR,Option.bind_some,show idx Eh 2=some (⟨GZ,(⟨#[119,119]⟩:ByteArray)⟩:Bc) from rfl,Option.bind_some]
 dsimp only
 rw [h1,Option.bind_some]
 cases hb:okF [.n,.n] l with
 | false=>exact ⟨Be,by dsimp only;rw [if_pos (by decide)],fun _=>rfl,fun h=>by cases h⟩
 | true=>
  obtain rfl:=h2 hb
  rcases l with _ | ⟨a,_ | ⟨b,_ | ⟨u,l⟩⟩⟩
  ·simp [okF] at hb
  ·simp [okF] at hb
  ·refine ⟨_,by dsimp only;rw [if_neg (by decide)];simp [DL,Dk,idx];rfl,fun h=>(by cases h),fun _=>?_⟩
   first | rfl | simp [wrd,nxt]
  ·simp [okF] at hb
theorem mw_hello {a b:ByteArray}(hb:okF [.n,.n] [a,b] = true):Ce (⟨2,(Aw a).1,(Aw b).1,0,0,0,0,Eb⟩:Au)=some (GZ :: [a,b]):=by
 simp only [okF,Bool.and_true,Bool.and_eq_true] at hb
 obtain ⟨qa,qb⟩:=hb
 unfold Ce
 simp [X0,Eo,CW,AO,BG,AO (Bz qa).2,(Bz qa).1,AO (Bz qb).2,(Bz qb).1]
theorem line_hello (hsp:splitB line 0=GZ::l)(hz:line.size≤1000000)(hs:∀a∈l,a.size≤1000000):Eu line:=by
 refine Fp (pp_hello hsp hz hs) (rr_hello hsp hz hs) fun hb=>⟨?_,rfl,rfl,rfl⟩
 rw [hsp]
 rcases l with _ | ⟨a,_ | ⟨b,_ | ⟨u,l⟩⟩⟩
 ·simp [okF] at hb
 ·simp [okF] at hb
 ·exact mw_hello hb
 ·simp [okF] at hb
theorem pp_deliver (hsp:splitB line 0=G7::l)(hz:line.size≤1000000)(hs:∀a∈l,a.size≤1000000):BM line=some (if good (CG [.n] ⟨l,false⟩)=true then ((⟨3,0,0,(Aw (wrd ⟨l,false⟩)).1,0,0,0,Eb⟩:Au),0) else (Be,4)):=by
 have h:Sm ⟨l,false⟩:=hs
 unfold BM
 rw [AO hz,hsp,Dh,Option.bind_some]
 dsimp only
 rw [YT,Option.bind_some,if_neg (by decide),Y1,Option.bind_some]
 rw [if_neg (by decide)]
 rw [if_pos (by decide)]
 rw [EE h,Option.bind_some]
 dsimp only
 exact Fa
theorem rr_deliver (hsp:splitB line 0=G7::l)(hz:line.size≤1000000)(hs:∀a∈l,a.size≤1000000):∃z,BN line=some (z,okF [.n] l)∧(okF [.n] l=false→z=Be)∧(okF [.n] l=true→z=(⟨3,0,0,(Aw (wrd ⟨l,false⟩)).1,0,0,0,Eb⟩:Au)):=by
 obtain ⟨g,h1,h2⟩:=D7 l (⟨#[110]⟩:ByteArray) (by decide) hs
 rw [show CO (⟨#[110]⟩:ByteArray)= [.n] from by kernel_rfl] at h1 h2
 unfold BN
 rw [AO hz,hsp,Dy,Option.bind_some,Aav,Option.bind_some,if_neg (by decide),Option.bind_some,YA,Option.bind_some,if_neg (by decide),DR,Option.bind_some,show idx Eh 3=some (⟨G7,(⟨#[110]⟩:ByteArray)⟩:Bc) from rfl,Option.bind_some]
 dsimp only
 rw [h1,Option.bind_some]
 cases hb:okF [.n] l with
 | false=>exact ⟨Be,by dsimp only;rw [if_pos (by decide)],fun _=>rfl,fun h=>by cases h⟩
 | true=>
  obtain rfl:=h2 hb
  rcases l with _ | ⟨a,_ | ⟨u,l⟩⟩
  ·simp [okF] at hb
  ·refine ⟨_,by dsimp only;rw [if_neg (by decide)];simp [DL,Dk,idx];rfl,fun h=>(by cases h),fun _=>?_⟩
   first | rfl | simp [wrd,nxt]
  ·simp [okF] at hb
theorem mw_deliver {a:ByteArray}(hb:okF [.n] [a] = true):Ce (⟨3,0,0,(Aw a).1,0,0,0,Eb⟩:Au)=some (G7 :: [a]):=by
 simp only [okF,Bool.and_true,Bool.and_eq_true] at hb
 have qa:=hb
 unfold Ce
 simp [Zj,Eo,CW,AO,BG,AO (Bz qa).2,(Bz qa).1]
theorem Aal (hsp:splitB line 0=G7::l)(hz:line.size≤1000000)(hs:∀a∈l,a.size≤1000000):Eu line:=by
 refine Fp (pp_deliver hsp hz hs) (rr_deliver hsp hz hs) fun hb=>⟨?_,rfl,rfl,rfl⟩
 rw [hsp]
 rcases l with _ | ⟨a,_ | ⟨u,l⟩⟩
 ·simp [okF] at hb
 ·exact mw_deliver hb
 ·simp [okF] at hb
theorem pp_lose (hsp:splitB line 0=G8::l)(hz:line.size≤1000000)(hs:∀a∈l,a.size≤1000000):BM line=some (if good (CG [.n] ⟨l,false⟩)=true then ((⟨4,0,0,(Aw (wrd ⟨l,false⟩)).1,0,0,0,Eb⟩:Au),0) else (Be,4)):=by
 have h:Sm ⟨l,false⟩:=hs
 unfold BM
 rw [AO hz,hsp,Dh,Option.bind_some]
 dsimp only
 rw [kDeeds_lose,Option.bind_some,if_neg (by decide),kMoves_lose,Option.bind_some]
 rw [if_neg (by decide)]
 rw [if_pos (by decide)]
 rw [EE h,Option.bind_some]
 dsimp only
 exact Fa
theorem rr_lose (hsp:splitB line 0=G8::l)(hz:line.size≤1000000)(hs:∀a∈l,a.size≤1000000):∃z,BN line=some (z,okF [.n] l)∧(okF [.n] l=false→z=Be)∧(okF [.n] l=true→z=(⟨4,0,0,(Aw (wrd ⟨l,false⟩)).1,0,0,0,Eb⟩:Au)):=by
 obtain ⟨g,h1,h2⟩:=D7 l (⟨#[110]⟩:ByteArray) (by decide) hs
 rw [show CO (⟨#[110]⟩:ByteArray)= [.n] from by kernel_rfl] at h1 h2
 unfold BN
 rw [AO hz,hsp,Dy,Option.bind_some,fdeeds_lose,Option.bind_some,if_neg (by decide),Option.bind_some,fmoves_lose,Option.bind_some,if_neg (by decide),DR,Option.bind_some,show idx Eh 4=some (⟨G8,(⟨#[110]⟩:ByteArray)⟩:Bc) from rfl,Option.bind_some]
 dsimp only
 rw [h1,Option.bind_some]
 cases hb:okF [.n] l with
 | false=>exact ⟨Be,by dsimp only;rw [if_pos (by decide)],fun _=>rfl,fun h=>by cases h⟩
 | true=>
  obtain rfl:=h2 hb
  rcases l with _ | ⟨a,_ | ⟨u,l⟩⟩
  ·simp [okF] at hb
  ·refine ⟨_,by dsimp only;rw [if_neg (by decide)];simp [DL,Dk,idx];rfl,fun h=>(by cases h),fun _=>?_⟩
   first | rfl | simp [wrd,nxt]
  ·simp [okF] at hb
theorem mw_lose {a:ByteArray}(hb:okF [.n] [a] = true):Ce (⟨4,0,0,(Aw a).1,0,0,0,Eb⟩:Au)=some (G8 :: [a]):=by
 simp only [okF,Bool.and_true,Bool.and_eq_true] at hb
 have qa:=hb
 unfold Ce
 simp [vMoves_lose,Eo,CW,AO,BG,AO (Bz qa).2,(Bz qa).1]
theorem line_lose (hsp:splitB line 0=G8::l)(hz:line.size≤1000000)(hs:∀a∈l,a.size≤1000000):Eu line:=by
 refine Fp (pp_lose hsp hz hs) (rr_lose hsp hz hs) fun hb=>⟨?_,rfl,rfl,rfl⟩
 rw [hsp]
 rcases l with _ | ⟨a,_ | ⟨u,l⟩⟩
 ·simp [okF] at hb
 ·exact mw_lose hb
 ·simp [okF] at hb
theorem pp_double (hsp:splitB line 0=GV::l)(hz:line.size≤1000000)(hs:∀a∈l,a.size≤1000000):BM line=some (if good (CG [.n] ⟨l,false⟩)=true then ((⟨5,0,0,(Aw (wrd ⟨l,false⟩)).1,0,0,0,Eb⟩:Au),0) else (Be,4)):=by
 have h:Sm ⟨l,false⟩:=hs
 unfold BM
 rw [AO hz,hsp,Dh,Option.bind_some]
 dsimp only
 rw [YQ,Option.bind_some,if_neg (by decide),Yy,Option.bind_some]
 rw [if_neg (by decide)]
 rw [if_pos (by decide)]
 rw [EE h,Option.bind_some]
 dsimp only
 exact Fa
theorem rr_double (hsp:splitB line 0=GV::l)(hz:line.size≤1000000)(hs:∀a∈l,a.size≤1000000):∃z,BN line=some (z,okF [.n] l)∧(okF [.n] l=false→z=Be)∧(okF [.n] l=true→z=(⟨5,0,0,(Aw (wrd ⟨l,false⟩)).1,0,0,0,Eb⟩:Au)):=by
 obtain ⟨g,h1,h2⟩:=D7 l (⟨#[110]⟩:ByteArray) (by decide) hs
 rw [show CO (⟨#[110]⟩:ByteArray)= [.n] from by kernel_rfl] at h1 h2
 unfold BN
 rw [AO hz,hsp,Dy,Option.bind_some,Yf,Option.bind_some,if_neg (by decide),Option.bind_some,ZU,Option.bind_some,if_neg (by decide),DR,Option.bind_some,show idx Eh 5=some (⟨GV,(⟨#[110]⟩:ByteArray)⟩:Bc) from rfl,Option.bind_some]
 dsimp only
 rw [h1,Option.bind_some]
 cases hb:okF [.n] l with
 | false=>exact ⟨Be,by dsimp only;rw [if_pos (by decide)],fun _=>rfl,fun h=>by cases h⟩
 | true=>
  obtain rfl:=h2 hb
  rcases l with _ | ⟨a,_ | ⟨u,l⟩⟩
  ·simp [okF] at hb
  ·refine ⟨_,by dsimp only;rw [if_neg (by decide)];simp [DL,Dk,idx];rfl,fun h=>(by cases h),fun _=>?_⟩
   first | rfl | simp [wrd,nxt]
  ·simp [okF] at hb
theorem mw_double {a:ByteArray}(hb:okF [.n] [a] = true):Ce (⟨5,0,0,(Aw a).1,0,0,0,Eb⟩:Au)=some (GV :: [a]):=by
 simp only [okF,Bool.and_true,Bool.and_eq_true] at hb
 have qa:=hb
 unfold Ce
 simp [ZY,Eo,CW,AO,BG,AO (Bz qa).2,(Bz qa).1]
theorem line_double (hsp:splitB line 0=GV::l)(hz:line.size≤1000000)(hs:∀a∈l,a.size≤1000000):Eu line:=by
 refine Fp (pp_double hsp hz hs) (rr_double hsp hz hs) fun hb=>⟨?_,rfl,rfl,rfl⟩
 rw [hsp]
 rcases l with _ | ⟨a,_ | ⟨u,l⟩⟩
 ·simp [okF] at hb
 ·exact mw_double hb
 ·simp [okF] at hb
theorem pp_cut (hsp:splitB line 0=Ho::l)(hz:line.size≤1000000)(hs:∀a∈l,a.size≤1000000):BM line=some (if good (CG [.n,.n,.n] ⟨l,false⟩)=true then ((⟨6,0,0,0,(Aw (wrd ⟨l,false⟩)).1,(Aw (wrd (nxt .n ⟨l,false⟩))).1,(Aw (wrd (nxt .n (nxt .n ⟨l,false⟩)))).1,Eb⟩:Au),0) else (Be,4)):=by
 have h:Sm ⟨l,false⟩:=hs
 unfold BM
 rw [AO hz,hsp,Dh,Option.bind_some]
 dsimp only
 rw [kDeeds_cut,Option.bind_some,if_neg (by decide),kMoves_cut,Option.bind_some]
 rw [if_neg (by decide)]
 rw [if_neg (by decide)]
 rw [if_pos (by decide)]
 rw [number_eq h,Option.bind_some]
 dsimp only
 rw [number_eq (h.nxt .n),Option.bind_some]
 dsimp only
 rw [number_eq ((h.nxt .n).nxt .n),Option.bind_some]
 dsimp only
 exact Fa
theorem rr_cut (hsp:splitB line 0=Ho::l)(hz:line.size≤1000000)(hs:∀a∈l,a.size≤1000000):∃z,BN line=some (z,okF [.n,.n,.n] l)∧(okF [.n,.n,.n] l=false→z=Be)∧(okF [.n,.n,.n] l=true→z=(⟨6,0,0,0,(Aw (wrd ⟨l,false⟩)).1,(Aw (wrd (nxt .n ⟨l,false⟩))).1,(Aw (wrd (nxt .n (nxt .n ⟨l,false⟩)))).1,Eb⟩:Au)):=by
 obtain ⟨g,h1,h2⟩:=D7 l (⟨#[110,110,110]⟩:ByteArray) (by decide) hs
 rw [show CO (⟨#[110,110,110]⟩:ByteArray)= [.n,.n,.n] from by kernel_rfl] at h1 h2
 unfold BN
 rw [AO hz,hsp,Dy,Option.bind_some,fdeeds_cut,Option.bind_some,if_neg (by decide),Option.bind_some,fmoves_cut,Option.bind_some,if_neg (by decide),DR,Option.bind_some,show idx Eh 6=some (⟨Ho,(⟨#[110,110,110]⟩:ByteArray)⟩:Bc) from rfl,Option.bind_some]
 dsimp only
 rw [h1,Option.bind_some]
 cases hb:okF [.n,.n,.n] l with
 | false=>exact ⟨Be,by dsimp only;rw [if_pos (by decide)],fun _=>rfl,fun h=>by cases h⟩
 | true=>
  obtain rfl:=h2 hb
  rcases l with _ | ⟨a,_ | ⟨b,_ | ⟨c,_ | ⟨u,l⟩⟩⟩⟩
  ·simp [okF] at hb
  ·simp [okF] at hb
  ·simp [okF] at hb
  ·refine ⟨_,by dsimp only;rw [if_neg (by decide)];simp [DL,Dk,idx];rfl,fun h=>(by cases h),fun _=>?_⟩
   first | rfl | simp [wrd,nxt]
  ·simp [okF] at hb
theorem mw_cut {a b c:ByteArray}(hb:okF [.n,.n,.n] [a,b,c] = true):Ce (⟨6,0,0,0,(Aw a).1,(Aw b).1,(Aw c).1,Eb⟩:Au)=some (Ho :: [a,b,c]):=by
 simp only [okF,Bool.and_true,Bool.and_eq_true] at hb
 obtain ⟨qa,qb,qc⟩:=hb
 unfold Ce
 simp [vMoves_cut,Eo,CW,AO,BG,AO (Bz qa).2,(Bz qa).1,AO (Bz qb).2,(Bz qb).1,AO (Bz qc).2,(Bz qc).1]
theorem line_cut (hsp:splitB line 0=Ho::l)(hz:line.size≤1000000)(hs:∀a∈l,a.size≤1000000):Eu line:=by
 refine Fp (pp_cut hsp hz hs) (rr_cut hsp hz hs) fun hb=>⟨?_,rfl,rfl,rfl⟩
 rw [hsp]
 rcases l with _ | ⟨a,_ | ⟨b,_ | ⟨c,_ | ⟨u,l⟩⟩⟩⟩
 ·simp [okF] at hb
 ·simp [okF] at hb
 ·simp [okF] at hb
 ·exact mw_cut hb
 ·simp [okF] at hb
theorem pp_fuse (hsp:splitB line 0=Hg::l)(hz:line.size≤1000000)(hs:∀a∈l,a.size≤1000000):BM line=some (if good (CG [.n,.n] ⟨l,false⟩)=true then ((⟨7,(Aw (wrd ⟨l,false⟩)).1,0,(Aw (wrd (nxt .n ⟨l,false⟩))).1,0,0,0,Eb⟩:Au),0) else (Be,4)):=by
 have h:Sm ⟨l,false⟩:=hs
 unfold BM
 rw [AO hz,hsp,Dh,Option.bind_some]
 dsimp only
 rw [kDeeds_fuse,Option.bind_some,if_neg (by decide),kMoves_fuse,Option.bind_some]
 rw [if_neg (by decide)]
 rw [if_neg (by decide)]
 rw [if_neg (by decide)]
 rw [if_pos (by decide)]
 rw [EE h,Option.bind_some]
 dsimp only
 rw [EE (h.nxt .n),Option.bind_some]
 dsimp only
 exact Fa
theorem rr_fuse (hsp:splitB line 0=Hg::l)(hz:line.size≤1000000)(hs:∀a∈l,a.size≤1000000):∃z,BN line=some (z,okF [.n,.n] l)∧(okF [.n,.n] l=false→z=Be)∧(okF [.n,.n] l=true→z=(⟨7,(Aw (wrd ⟨l,false⟩)).1,0,(Aw (wrd (nxt .n ⟨l,false⟩))).1,0,0,0,Eb⟩:Au)):=by
 obtain ⟨g,h1,h2⟩:=D7 l (⟨#[119,110]⟩:ByteArray) (by decide) hs
 rw [show CO (⟨#[119,110]⟩:ByteArray)= [.n,.n] from by kernel_rfl] at h1 h2
 unfold BN
 rw [AO hz,hsp,Dy,Option.bind_some,fdeeds_fuse,Option.bind_some,if_neg (by decide),Option.bind_some,fmoves_fuse,Option.bind_some,if_neg (by decide),DR,Option.bind_some,show idx Eh 7=some (⟨Hg,(⟨#[119,110]⟩:ByteArray)⟩:Bc) from rfl,Option.bind_some]
 dsimp only
 rw [h1,Option.bind_some]
 cases hb:okF [.n,.n] l with
 | false=>exact ⟨Be,by dsimp only;rw [if_pos (by decide)],fun _=>rfl,fun h=>by cases h⟩
 | true=>
  obtain rfl:=h2 hb
  rcases l with _ | ⟨a,_ | ⟨b,_ | ⟨u,l⟩⟩⟩
  ·simp [okF] at hb
  ·simp [okF] at hb
  ·refine ⟨_,by dsimp only;rw [if_neg (by decide)];simp [DL,Dk,idx];rfl,fun h=>(by cases h),fun _=>?_⟩
   first | rfl | simp [wrd,nxt]
  ·simp [okF] at hb
theorem mw_fuse {a b:ByteArray}(hb:okF [.n,.n] [a,b] = true):Ce (⟨7,(Aw a).1,0,(Aw b).1,0,0,0,Eb⟩:Au)=some (Hg :: [a,b]):=by
 simp only [okF,Bool.and_true,Bool.and_eq_true] at hb
 obtain ⟨qa,qb⟩:=hb
 unfold Ce
 simp [vMoves_fuse,Eo,CW,AO,BG,AO (Bz qa).2,(Bz qa).1,AO (Bz qb).2,(Bz qb).1]
theorem line_fuse (hsp:splitB line 0=Hg::l)(hz:line.size≤1000000)(hs:∀a∈l,a.size≤1000000):Eu line:=by
 refine Fp (pp_fuse hsp hz hs) (rr_fuse hsp hz hs) fun hb=>⟨?_,rfl,rfl,rfl⟩
 rw [hsp]
 rcases l with _ | ⟨a,_ | ⟨b,_ | ⟨u,l⟩⟩⟩
 ·simp [okF] at hb
 ·simp [okF] at hb
 ·exact mw_fuse hb
 ·simp [okF] at hb
theorem pp_crash (hsp:splitB line 0=Ha::l)(hz:line.size≤1000000)(hs:∀a∈l,a.size≤1000000):BM line=some (if good (CG [.n,.n] ⟨l,false⟩)=true then ((⟨8,(Aw (wrd ⟨l,false⟩)).1,0,(Aw (wrd (nxt .n ⟨l,false⟩))).1,0,0,0,Eb⟩:Au),0) else (Be,4)):=by
 have h:Sm ⟨l,false⟩:=hs
 unfold BM
 rw [AO hz,hsp,Dh,Option.bind_some]
 dsimp only
 rw [ZH,Option.bind_some,if_neg (by decide),Zd,Option.bind_some]
 rw [if_neg (by decide)]
 rw [if_neg (by decide)]
 rw [if_neg (by decide)]
 rw [if_pos (by decide)]
 rw [EE h,Option.bind_some]
 dsimp only
 rw [EE (h.nxt .n),Option.bind_some]
 dsimp only
 exact Fa
theorem rr_crash (hsp:splitB line 0=Ha::l)(hz:line.size≤1000000)(hs:∀a∈l,a.size≤1000000):∃z,BN line=some (z,okF [.n,.n] l)∧(okF [.n,.n] l=false→z=Be)∧(okF [.n,.n] l=true→z=(⟨8,(Aw (wrd ⟨l,false⟩)).1,0,(Aw (wrd (nxt .n ⟨l,false⟩))).1,0,0,0,Eb⟩:Au)):=by
 obtain ⟨g,h1,h2⟩:=D7 l (⟨#[119,110]⟩:ByteArray) (by decide) hs
 rw [show CO (⟨#[119,110]⟩:ByteArray)= [.n,.n] from by kernel_rfl] at h1 h2
 unfold BN
 rw [AO hz,hsp,Dy,Option.bind_some,ZO,Option.bind_some,if_neg (by decide),Option.bind_some,Aae,Option.bind_some,if_neg (by decide),DR,Option.bind_some,show idx Eh 8=some (⟨Ha,(⟨#[119,110]⟩:ByteArray)⟩:Bc) from rfl,Option.bind_some]
 dsimp only
 rw [h1,Option.bind_some]
 cases hb:okF [.n,.n] l with
 | false=>exact ⟨Be,by dsimp only;rw [if_pos (by decide)],fun _=>rfl,fun h=>by cases h⟩
 | true=>
  obtain rfl:=h2 hb
  rcases l with _ | ⟨a,_ | ⟨b,_ | ⟨u,l⟩⟩⟩
  ·simp [okF] at hb
  ·simp [okF] at hb
  ·refine ⟨_,by dsimp only;rw [if_neg (by decide)];simp [DL,Dk,idx];rfl,fun h=>(by cases h),fun _=>?_⟩
   first | rfl | simp [wrd,nxt]
  ·simp [okF] at hb
theorem mw_crash {a b:ByteArray}(hb:okF [.n,.n] [a,b] = true):Ce (⟨8,(Aw a).1,0,(Aw b).1,0,0,0,Eb⟩:Au)=some (Ha :: [a,b]):=by
 simp only [okF,Bool.and_true,Bool.and_eq_true] at hb
 obtain ⟨qa,qb⟩:=hb
 unfold Ce
 simp [ZX,Eo,CW,AO,BG,AO (Bz qa).2,(Bz qa).1,AO (Bz qb).2,(Bz qb).1]
theorem line_crash (hsp:splitB line 0=Ha::l)(hz:line.size≤1000000)(hs:∀a∈l,a.size≤1000000):Eu line:=by
 refine Fp (pp_crash hsp hz hs) (rr_crash hsp hz hs) fun hb=>⟨?_,rfl,rfl,rfl⟩
 rw [hsp]
 rcases l with _ | ⟨a,_ | ⟨b,_ | ⟨u,l⟩⟩⟩
 ·simp [okF] at hb
 ·simp [okF] at hb
 ·exact mw_crash hb
 ·simp [okF] at hb
theorem pp_fold (hsp:splitB line 0=Hl::l)(hz:line.size≤1000000)(hs:∀a∈l,a.size≤1000000):BM line=some (if good (CG [.n] ⟨l,false⟩)=true then ((⟨9,(Aw (wrd ⟨l,false⟩)).1,0,0,0,0,0,Eb⟩:Au),0) else (Be,4)):=by
 have h:Sm ⟨l,false⟩:=hs
 unfold BM
 rw [AO hz,hsp,Dh,Option.bind_some]
 dsimp only
 rw [kDeeds_fold,Option.bind_some,if_neg (by decide),kMoves_fold,Option.bind_some]
 rw [if_neg (by decide)]
 rw [if_neg (by decide)]
 rw [if_neg (by decide)]
 rw [if_neg (by decide)]
 rw [if_pos (by decide)]
 rw [EE h,Option.bind_some]
 dsimp only
 exact Fa
theorem rr_fold (hsp:splitB line 0=Hl::l)(hz:line.size≤1000000)(hs:∀a∈l,a.size≤1000000):∃z,BN line=some (z,okF [.n] l)∧(okF [.n] l=false→z=Be)∧(okF [.n] l=true→z=(⟨9,(Aw (wrd ⟨l,false⟩)).1,0,0,0,0,0,Eb⟩:Au)):=by
 obtain ⟨g,h1,h2⟩:=D7 l (⟨#[119]⟩:ByteArray) (by decide) hs
 rw [show CO (⟨#[119]⟩:ByteArray)= [.n] from by kernel_rfl] at h1 h2
 unfold BN
 rw [AO hz,hsp,Dy,Option.bind_some,fdeeds_fold,Option.bind_some,if_neg (by decide),Option.bind_some,fmoves_fold,Option.bind_some,if_neg (by decide),DR,Option.bind_some,show idx Eh 9=some (⟨Hl,(⟨#[119]⟩:ByteArray)⟩:Bc) from rfl,Option.bind_some]
 dsimp only
 rw [h1,Option.bind_some]
 cases hb:okF [.n] l with
 | false=>exact ⟨Be,by dsimp only;rw [if_pos (by decide)],fun _=>rfl,fun h=>by cases h⟩
 | true=>
  obtain rfl:=h2 hb
  rcases l with _ | ⟨a,_ | ⟨u,l⟩⟩
  ·simp [okF] at hb
  ·refine ⟨_,by dsimp only;rw [if_neg (by decide)];simp [DL,Dk,idx];rfl,fun h=>(by cases h),fun _=>?_⟩
   first | rfl | simp [wrd,nxt]
  ·simp [okF] at hb
theorem mw_fold {a:ByteArray}(hb:okF [.n] [a] = true):Ce (⟨9,(Aw a).1,0,0,0,0,0,Eb⟩:Au)=some (Hl :: [a]):=by
 simp only [okF,Bool.and_true,Bool.and_eq_true] at hb
 have qa:=hb
 unfold Ce
 simp [vMoves_fold,Eo,CW,AO,BG,AO (Bz qa).2,(Bz qa).1]
theorem line_fold (hsp:splitB line 0=Hl::l)(hz:line.size≤1000000)(hs:∀a∈l,a.size≤1000000):Eu line:=by
 refine Fp (pp_fold hsp hz hs) (rr_fold hsp hz hs) fun hb=>⟨?_,rfl,rfl,rfl⟩
 rw [hsp]
 rcases l with _ | ⟨a,_ | ⟨u,l⟩⟩
 ·simp [okF] at hb
 ·exact mw_fold hb
 ·simp [okF] at hb
theorem pp_meet (hsp:splitB line 0=GY::l)(hz:line.size≤1000000)(hs:∀a∈l,a.size≤1000000):BM line=some (if good (CG [.n,.n] ⟨l,false⟩)=true then ((⟨10,(Aw (wrd ⟨l,false⟩)).1,(Aw (wrd (nxt .n ⟨l,false⟩))).1,0,0,0,0,Eb⟩:Au),0) else (Be,4)):=by
 have h:Sm ⟨l,false⟩:=hs
 unfold BM
 rw [AO hz,hsp,Dh,Option.bind_some]
 dsimp only
 rw [kDeeds_meet,Option.bind_some,if_neg (by decide),kMoves_meet,Option.bind_some]
 rw [if_pos (by decide)]
 rw [EE h,Option.bind_some]
 dsimp only
 rw [EE (h.nxt .n),Option.bind_some]
 dsimp only
 exact Fa
theorem rr_meet (hsp:splitB line 0=GY::l)(hz:line.size≤1000000)(hs:∀a∈l,a.size≤1000000):∃z,BN line=some (z,okF [.n,.n] l)∧(okF [.n,.n] l=false→z=Be)∧(okF [.n,.n] l=true→z=(⟨10,(Aw (wrd ⟨l,false⟩)).1,(Aw (wrd (nxt .n ⟨l,false⟩))).1,0,0,0,0,Eb⟩:Au)):=by
 obtain ⟨g,h1,h2⟩:=D7 l (⟨#[119,119]⟩:ByteArray) (by decide) hs
 rw [show CO (⟨#[119,119]⟩:ByteArray)= [.n,.n] from by kernel_rfl] at h1 h2
 unfold BN
 rw [AO hz,hsp,Dy,Option.bind_some,fdeeds_meet,Option.bind_some,if_neg (by decide),Option.bind_some,fmoves_meet,Option.bind_some,if_neg (by decide),DR,Option.bind_some,show idx Eh 10=some (⟨GY,(⟨#[119,119]⟩:ByteArray)⟩:Bc) from rfl,Option.bind_some]
 dsimp only
 rw [h1,Option.bind_some]
 cases hb:okF [.n,.n] l with
 | false=>exact ⟨Be,by dsimp only;rw [if_pos (by decide)],fun _=>rfl,fun h=>by cases h⟩
 | true=>
  obtain rfl:=h2 hb
  rcases l with _ | ⟨a,_ | ⟨b,_ | ⟨u,l⟩⟩⟩
  ·simp [okF] at hb
  ·simp [okF] at hb
  ·refine ⟨_,by dsimp only;rw [if_neg (by decide)];simp [DL,Dk,idx];rfl,fun h=>(by cases h),fun _=>?_⟩
   first | rfl | simp [wrd,nxt]
  ·simp [okF] at hb
theorem mw_meet {a b:ByteArray}(hb:okF [.n,.n] [a,b] = true):Ce (⟨10,(Aw a).1,(Aw b).1,0,0,0,0,Eb⟩:Au)=some (GY :: [a,b]):=by
 simp only [okF,Bool.and_true,Bool.and_eq_true] at hb
 obtain ⟨qa,qb⟩:=hb
 unfold Ce
 simp [vMoves_meet,Eo,CW,AO,BG,AO (Bz qa).2,(Bz qa).1,AO (Bz qb).2,(Bz qb).1]
theorem line_meet (hsp:splitB line 0=GY::l)(hz:line.size≤1000000)(hs:∀a∈l,a.size≤1000000):Eu line:=by
 refine Fp (pp_meet hsp hz hs) (rr_meet hsp hz hs) fun hb=>⟨?_,rfl,rfl,rfl⟩
 rw [hsp]
 rcases l with _ | ⟨a,_ | ⟨b,_ | ⟨u,l⟩⟩⟩
 ·simp [okF] at hb
 ·simp [okF] at hb
 ·exact mw_meet hb
 ·simp [okF] at hb
theorem ZN (hsp:splitB line 0=KU::l)(hz:line.size≤1000000)(hs:∀a∈l,a.size≤1000000)(hn:l.length≤1000000):Eu line:=by
 have h:Sm ⟨l,false⟩:=hs
 obtain ⟨x,r,z,ok,e1,e2,e3,e4⟩:=lens_both (nxt .t (nxt .n ⟨l,false⟩)).words (nxt .t (nxt .n ⟨l,false⟩)).bad (((h.nxt .n).nxt .t))
 have hp:BM line=some (if good r=true then ((⟨1,(Aw (wrd ⟨l,false⟩)).1,0,0,0,0,0,(⟨8,noB,noB,Ae,0,noB,((CQ (wrd (nxt .n ⟨l,false⟩))).getD AU),x⟩:AY)⟩:Au),0) else (Be,4)):=by
  unfold BM
  rw [AO hz,hsp,Dh,Option.bind_some]
  dsimp only
  rw [YF,Option.bind_some,if_pos (by decide),EE h,Option.bind_some]
  dsimp only
  unfold Ei
  rw [if_pos rfl,Qq (h.nxt .n),Option.bind_some]
  dsimp only
  rw [show nxt .t (nxt .n ⟨l,false⟩)=⟨(nxt .t (nxt .n ⟨l,false⟩)).words,(nxt .t (nxt .n ⟨l,false⟩)).bad⟩ from rfl,e1,Option.bind_some]
  exact Fa
 rcases l with _ | ⟨a,_ | ⟨b,l⟩⟩
 ·refine ⟨Be,false,?_,?_,⟨fun h=>(by cases h),fun _=>rfl⟩⟩
  ·rw [hp,e2];rfl
  ·unfold BN
   rw [AO hz,hsp,Dy,Option.bind_some,Tv,Option.bind_some,if_pos (by decide),DR,Option.bind_some]
   unfold F7
   rw [if_pos rfl,if_pos (by simp),Option.bind_some];rfl
 ·refine ⟨Be,false,?_,?_,⟨fun h=>(by cases h),fun _=>rfl⟩⟩
  ·rw [hp,e2];rfl
  ·unfold BN
   rw [AO hz,hsp,Dy,Option.bind_some,Tv,Option.bind_some,if_pos (by decide),DR,Option.bind_some]
   unfold F7
   rw [if_pos rfl,if_pos (by simp),Option.bind_some];rfl
 ·have ew:(nxt .t (nxt .n ⟨a::b::l,false⟩)).words=l:=rfl
  have eb:(nxt .t (nxt .n ⟨a::b::l,false⟩)).bad=(false || !okK .n a || !okK .t b):=rfl
  rw [ew] at e3 e4
  rw [eb] at e2
  have hok:good r=(okF [.n,.t] [a,b]&&ok):=by rw [e2,okF,okF,okF];cases okK .n a<;>cases okK .t b<;>cases ok<;>rfl
  obtain ⟨g,h1,h2⟩:=D7 [a,b] (⟨#[119,116]⟩:ByteArray) (by decide) (fun c hc=>hs c (by simp at hc ⊢;rcases hc with rfl | rfl<;>simp))
  rw [show CO (⟨#[119,116]⟩:ByteArray)= [.n,.t] from by kernel_rfl] at h1 h2
  have hr:∃zz,BN line=some (zz,okF [.n,.t] [a,b]&&ok)∧((okF [.n,.t] [a,b]&&ok)=false→zz=Be)∧((okF [.n,.t] [a,b]&&ok)=true→zz=(⟨1,(Aw a).1,0,0,0,0,0,(⟨8,noB,noB,Ae,0,noB,((CQ b).getD AU),z⟩:AY)⟩:Au)):=by
   unfold BN
   rw [AO hz,hsp,Dy,Option.bind_some,Tv,Option.bind_some,if_pos (by decide),DR,Option.bind_some]
   unfold F7
   rw [if_pos rfl,if_neg (by simp only [List.length_cons];omega),show Gv (a::b::l) 2 (((a::b::l).length:Nat):Int)=some l from by rw [show (2:Int)=((2:Nat):Int) from rfl,UH (by simp)];rfl,Option.bind_some,e3,Option.bind_some]
   cases hx:ok with
   | false=>exact ⟨Be,by dsimp only;rw [if_pos (by decide),Option.bind_some];simp,fun _=>rfl,fun h=>by simp at h⟩
   | true=>
    dsimp only
    rw [if_neg (by decide),show Gv (a::b::l) 0 2=some [a,b] from by rw [show (2:Int)=((2:Nat):Int) from rfl,subL_to (by simp)];rfl,Option.bind_some]
    unfold Gl
    rw [show idx CX 8=some (⟨KU,(⟨#[119,116]⟩:ByteArray)⟩:Bc) from rfl,Option.bind_some]
    dsimp only
    rw [h1,Option.bind_some]
    cases hb:okF [.n,.t] [a,b] with
    | false=>exact ⟨Be,by dsimp only;rw [if_pos (by decide),Option.bind_some];rfl,fun _=>rfl,fun h=>by cases h⟩
    | true=>
     obtain rfl:=h2 hb
     exact ⟨_,by dsimp only;rw [if_neg (by decide)];simp [DL,Dk,idx,FZ,EW,DX,Ci];try rfl,fun h=>(by cases h),fun _=>rfl⟩
  obtain ⟨zz,k1,k2,k3⟩:=hr
  rw [hok] at hp
  cases hall:(okF [.n,.t] [a,b]&&ok) with
  | false=>rw [hall] at hp k1;rw [k2 hall] at k1;exact ⟨Be,false,hp,k1,⟨fun h=>(by cases h),fun _=>rfl⟩⟩
  | true=>
   rw [hall] at hp k1
   rw [k3 hall] at k1
   obtain ⟨hb,hx⟩:=Bool.and_eq_true_iff.1 hall
   obtain ⟨rfl,w1,w2,w3,w4⟩:=e4 hx
   refine ⟨_,true,hp,k1,⟨fun _=>⟨?_,w2,w3,w4⟩,fun h=>(by cases h)⟩⟩
   rw [hsp]
   simp only [okF,Bool.and_true,Bool.and_eq_true] at hb
   obtain ⟨qa,qb⟩:=hb
   unfold Ce Gw
   simp only [wrd,nxt]
   have hl:l.length≤1000000:=by simp only [List.length_cons] at hn;omega
   simp [ZQ,w1,BG,AO (Bz qa).2,(Bz qa).1,AO (LZ qb).1,(LZ qb).2,show l.length+3≤1000000000 by omega,show 1+1+1+l.length≤1000000000 by omega,show 3+l.length≤1000000000 by omega]
theorem line_other {v:ByteArray}(hsp:splitB line 0=v::l)(hz:line.size≤1000000)(h_add:¬v=I9)(h_remove:¬v=IY)(h_adjust:¬v=Je)(h_set:¬v=IU)(h_put:¬v=IQ)(h_take:¬v=Jh)(h_clear:¬v=Jc)(h_publish:¬v=KU)(h_switch:¬v=IK)(h_view:¬v=IG)(h_at:¬v=Jd)(h_project:¬v=Jf)(h_hello:¬v=GZ)(h_deliver:¬v=G7)(h_lose:¬v=G8)(h_double:¬v=GV)(h_cut:¬v=Ho)(h_fuse:¬v=Hg)(h_crash:¬v=Ha)(h_fold:¬v=Hl)(h_meet:¬v=GY):Eu line:=by
 refine ⟨Be,false,?_,?_,⟨fun h=>(by cases h),fun _=>rfl⟩⟩
 ·unfold BM
  rw [AO hz,hsp,Dh,Option.bind_some]
  dsimp only
  rw [nDeeds h_add h_remove h_adjust h_set h_put h_take h_clear h_publish h_switch h_view h_at h_project,Option.bind_some,if_neg (by decide),nMoves h_hello h_deliver h_lose h_double h_cut h_fuse h_crash h_fold h_meet,Option.bind_some,if_neg (by decide),if_neg (by decide),if_neg (by decide),if_neg (by decide),if_neg (by decide)];rfl
 ·unfold BN
  rw [AO hz,hsp,Dy,Option.bind_some,mdeeds h_add h_remove h_adjust h_set h_put h_take h_clear h_publish h_switch h_view h_at h_project,Option.bind_some,if_neg (by decide),Option.bind_some,mmoves h_hello h_deliver h_lose h_double h_cut h_fuse h_crash h_fold h_meet,Option.bind_some,if_pos (by decide)]
theorem line_both (line:ByteArray)(hz:line.size≤900000):Eu line:=by
 obtain ⟨v,l,hsp⟩:=Xv line 0
 have hsz:∀a∈l,a.size≤1000000:=fun a ha=>Nat.le_trans (split_size9 (s:=line) (by rw [hsp];exact List.mem_cons_of_mem _ ha)) (by omega)
 have hn:l.length≤1000000:=by have:=V7 (s:=line);rw [hsp,List.length_cons] at this;omega
 have hz1:line.size≤1000000:=by omega
 by_cases h_add:v=I9
 ·subst h_add;exact line_add hsp hz1 hsz
 by_cases h_remove:v=IY
 ·subst h_remove;exact line_remove hsp hz1 hsz
 by_cases h_adjust:v=Je
 ·subst h_adjust;exact line_adjust hsp hz1 hsz
 by_cases h_set:v=IU
 ·subst h_set;exact line_set hsp hz1 hsz
 by_cases h_put:v=IQ
 ·subst h_put;exact line_put hsp hz1 hsz
 by_cases h_take:v=Jh
 ·subst h_take;exact line_take hsp hz1 hsz
 by_cases h_clear:v=Jc
 ·subst h_clear;exact line_clear hsp hz1 hsz
 by_cases h_publish:v=KU
 ·subst h_publish;exact ZN hsp hz1 hsz hn
 by_cases h_switch:v=IK
 ·subst h_switch;exact line_switch hsp hz1 hsz
 by_cases h_view:v=IG
 ·subst h_view;exact line_view hsp hz1 hsz
 by_cases h_at:v=Jd
 ·subst h_at;exact line_at hsp hz1 hsz
 by_cases h_project:v=Jf
 ·subst h_project;exact Aax hsp hz1 hsz
 by_cases h_hello:v=GZ
 ·subst h_hello;exact line_hello hsp hz1 hsz
 by_cases h_deliver:v=G7
 ·subst h_deliver;exact Aal hsp hz1 hsz
 by_cases h_lose:v=G8
 ·subst h_lose;exact line_lose hsp hz1 hsz
 by_cases h_double:v=GV
 ·subst h_double;exact line_double hsp hz1 hsz
 by_cases h_cut:v=Ho
 ·subst h_cut;exact line_cut hsp hz1 hsz
 by_cases h_fuse:v=Hg
 ·subst h_fuse;exact line_fuse hsp hz1 hsz
 by_cases h_crash:v=Ha
 ·subst h_crash;exact line_crash hsp hz1 hsz
 by_cases h_fold:v=Hl
 ·subst h_fold;exact line_fold hsp hz1 hsz
 by_cases h_meet:v=GY
 ·subst h_meet;exact line_meet hsp hz1 hsz
 exact line_other hsp hz1 h_add h_remove h_adjust h_set h_put h_take h_clear h_publish h_switch h_view h_at h_project h_hello h_deliver h_lose h_double h_cut h_fuse h_crash h_fold h_meet
end Go.Vm
end
section
namespace Go.Vm
open Go.RowKit Go.Proofs Go.Proofs.YtdfbohaohjaloaaGreatDoor Punnet.Name Punnet.Num
theorem Yj {m:Au}(h1:m.deed.lens.forth= [])(h2:m.deed.lens.back= [])(h3:m.deed.lens.field.cases= []):PQ m m=some true:=by
 unfold PQ
 simp [h1,h2,h3,grd]
theorem WU {m:Au}(h1:m.deed.lens.forth= [])(h2:m.deed.lens.back= [])(h3:m.deed.lens.field.cases= []):OE m m=some true:=by
 unfold OE
 simp [h1,h2,h3,grd,okX]
theorem joinW_split (s:ByteArray):GR 32 (splitB s 0)=s:=TJ s
theorem ZL {m:Au}{line:ByteArray}(hz:line.size≤900000)(p1:BM line=some (m,0))(hw:Ce m=some (splitB line 0))(h1:m.deed.lens.forth= [])(h2:m.deed.lens.back= [])(h3:m.deed.lens.field.cases= []):O0 m=some (line,0):=by
 have hn:=V7 (s:=line)
 unfold O0
 rw [hw,Option.bind_some,AO (by omega),joinW_split,AO (by omega),p1,Option.bind_some]
 simp only [not_true_eq_false,if_false,Yj h1 h2 h3,Option.bind_some]
theorem Yo (line:ByteArray):QE line=some true:=by
 unfold QE
 rw [if_neg (by decide)]
 by_cases h:400<((line.size:Nat):Int)
 ·rw [if_pos h]
 ·rw [if_neg h]
  obtain ⟨m,ok,p1,p2,p3,p4⟩:=line_both line (by omega)
  rw [p1,Option.bind_some,p2,Option.bind_some]
  cases ok with
  | false=>
   obtain rfl:=p4 rfl
   simp [WU (m:=Be) rfl rfl rfl]
  | true=>
   obtain ⟨hw,h1,h2,h3⟩:=p3 rfl
   simp [WU h1 h2 h3,ZL (by omega) p1 hw h1 h2 h3]
end Go.Vm
end
section
namespace Go.Vm
open Go.RowKit Go.Proofs
set_option maxRecDepth 10000
end Go.Vm
namespace Go.Proofs.YtdfbohaohjaloaaGreatDoor
open Go.RowKit Go.Vm
theorem Zm (a0:ByteArray)(w:World)(_w0:a0.size≤maxLen)(hG:∀g cs,Go.Iy g=some cs→g<w.heap.size∧∀(j:Nat) (u:Value),cs[j]? = some u→w.cell? ⟨g,j,none⟩=some u) :
 Calls Tryz.prog 5 #[.string a0] w fun e w'=>e=.returned (.bool true)∧Below w.heap.size w w':=by
 refine law_true (Aay a0 true (Yo a0)) rfl ?_ (hG:=fun g cs hg=>⟨(hG g cs hg).1,rfl,(hG g cs hg).2⟩)
 intro i v d hv hd
 match i,hv,hd with
 | 0,hv,hd=>simp at hv hd;subst hv hd;exact Rep.sc rfl
 | i+1,hv,_=>simp at hv
end Go.Proofs.YtdfbohaohjaloaaGreatDoor
namespace Go.Vm
end Go.Vm
end
section
namespace Go.Lib
def strTab {H:Type}(zs:List (List UInt8)):DataW H:=.agg (zs.map fun z=>.lit (.string z))
theorem ZM {H:Type}{enc:TypeId×Value→H}{P:Program}{w:World}{base:Nat}{sp:Nat→Bool}{held:Bool}{fuel:Nat}{t e:TypeId}{n:Nat}{cs:List Value}{zs:List (List UInt8)}{p:List MemPlace}
 (ht:P.underlying t=some (.array n e)) (he:P.underlying e=some .string) (hce:P.cellsOf e=1) (hct:P.cellsOf t=n)
 (h:DataW.trod enc P w base sp held fuel t cs=some (strTab zs,p)):cs=zs.map fun z=>Value.string ⟨z.toArray⟩:=by
 cases fuel with
 | zero=>simp [DataW.trod] at h
 | succ fuel=>
  simp only [DataW.trod,ht,hce,hct,Nat.mul_one] at h
  split at h
  ·rename_i hl
   obtain ⟨xs,hm,hx⟩:=Option.map_eq_some_iff.1 h
   have hxs:xs.map (·.1)=zs.map fun z=>(DataW.lit (.string z):DataW H):=by
    have:=congrArg Prod.fst hx
    simpa [strTab] using this
   have hxl:xs.length=n:=by simpa using mapM_length hm
   have hzl:zs.length=n:=by
    have:=congrArg List.length hxs
    simp at this
    omega
   apply List.ext_getElem?
   intro i
   by_cases hi:i<n
   ·obtain ⟨b,hb,hf⟩:=mapM_at hm i i (by simp [hi])
    obtain ⟨s,hc,rfl,_⟩:=DataW.trod_string he hf
    have h1:cs[i]? = some (.string s):=by
     have:=congrArg (·[0]?) hc
     simpa [List.getElem?_take,List.getElem?_drop] using this
    have h2:(xs.map (·.1))[i]? = some (DataW.lit (.string s.data.toList):DataW H):=by simp [hb]
    rw [hxs] at h2
    simp only [List.getElem?_map,Option.map_eq_some_iff,DataW.lit.injEq,Lit.string.injEq] at h2
    obtain ⟨z',hz',e⟩:=h2
    have:s=⟨z'.toArray⟩:=by rw [e]
    simp [h1,hz',this]
   ·rw [List.getElem?_eq_none (by omega),List.getElem?_eq_none (by simp;omega)]
  ·cases h
theorem QX {P:Program}{W:World}{name:String}{zs:List (List UInt8)}{rest:List (String×DataW Unit)}{g:Nat}{t e:TypeId}{n:Nat}
 (hg:P.globalNamed name=some g) (hty:(P.globals[g]?).map (·.type)=some t) (ht:P.underlying t=some (.array n e)) (he:P.underlying e=some .string) (hce:P.cellsOf e=1) (hct:P.cellsOf t=n) (hz:zs≠[])
 (h:laidMet P ((name,strTab zs)::rest) W):g<W.heap.size∧∀(j:Nat) (u:Value),(zs.map fun z=>Value.string ⟨z.toArray⟩)[j]? = some u→W.cell? ⟨g,j,none⟩=some u:=by
 obtain ⟨ps,⟨g',t',cs,fuel,p,q,hg',ht',hvar,hd,_,_⟩,_⟩:=h
 obtain rfl:=Option.some.inj (hg.symm.trans hg')
 obtain rfl:=Option.some.inj (hty.symm.trans ht')
 have hcs:=ZM ht he hce hct hd
 have hcell:∀(j:Nat) (u:Value),(zs.map fun z=>Value.string ⟨z.toArray⟩)[j]? = some u→W.cell? ⟨g,j,none⟩=some u:=by
  intro j u hu
  have:=World.var?_cell hg hvar j
  rw [←hcs] at hu
  rw [this];simpa using hu
 refine ⟨?_,hcell⟩
 cases zs with
 | nil=>exact absurd rfl hz
 | cons z zs=>exact World.block_lt_of_cell? W ⟨g,0,none⟩ (hcell 0 _ rfl)
end Go.Lib
end
section
namespace Go.Proofs.YtdfbohaohjaloaaGreatDoor
open Go.RowKit
set_option maxRecDepth 100000 in
theorem Yv (W:World)(h:laidMetH Tryz.prog Rows.scriptParsesRow.laid W):∀g cs,Go.Iy g=some cs→g<W.heap.size∧∀(j:Nat) (u:Value),cs[j]? = some u→W.cell? ⟨g,j,none⟩=some u:=by
 rw [MakeChecks.laidMetH_plain _ _ _ (by kernel_rfl)] at h
 have h0:=h.tail
 have k0:=Lib.QX (g:=0) (t:=97) (e:=9) (n:=13) (zs:=[[],[97,100,100],[114,101,109,111,118,101],[97,100,106,117,115,116],[115,101,116],[112,117,116],[116,97,107,101],[99,108,101,97,114],[112,117,98,108,105,115,104],[115,119,105,116,99,104],[118,105,101,119],[97,116],[112,114,111,106,101,99,116]]) (by kernel_rfl) (by kernel_rfl) Tryz.underlying97 Tryz.underlying9 (by kernel_rfl) (by kernel_rfl) (by simp) h0
 have h1:=h0.tail
 have k1:=Lib.QX (g:=1) (t:=97) (e:=9) (n:=13) (zs:=[[],[],[104,101,108,108,111],[100,101,108,105,118,101,114],[108,111,115,101],[100,111,117,98,108,101],[99,117,116],[102,117,115,101],[99,114,97,115,104],[102,111,108,100],[109,101,101,116],[],[]]) (by kernel_rfl) (by kernel_rfl) Tryz.underlying97 Tryz.underlying9 (by kernel_rfl) (by kernel_rfl) (by simp) h1
 have h2:=h1.tail
 have k2:=Lib.QX (g:=2) (t:=97) (e:=9) (n:=13) (zs:=[[],[114,101,110,97,109,101],[],[],[104,111,105,115,116],[112,108,117,110,103,101],[115,112,108,105,116],[119,114,97,112],[],[],[],[],[]]) (by kernel_rfl) (by kernel_rfl) Tryz.underlying97 Tryz.underlying9 (by kernel_rfl) (by kernel_rfl) (by simp) h2
 have h3:=h2.tail
 have k3:=Lib.QX (g:=3) (t:=97) (e:=9) (n:=13) (zs:=[[],[99,111,117,110,116,101,114],[116,101,120,116],[],[108,105,115,116],[],[],[],[],[],[],[],[]]) (by kernel_rfl) (by kernel_rfl) Tryz.underlying97 Tryz.underlying9 (by kernel_rfl) (by kernel_rfl) (by simp) h3
 have h4:=h3.tail
 intro g cs hg
 match g,hg with
 | 0,hg=>injection hg with hg;subst hg;exact k0
 | 1,hg=>injection hg with hg;subst hg;exact k1
 | 2,hg=>injection hg with hg;subst hg;exact k2
 | 3,hg=>injection hg with hg;subst hg;exact k3
 | g+4,hg=>cases hg
end Go.Proofs.YtdfbohaohjaloaaGreatDoor
end
