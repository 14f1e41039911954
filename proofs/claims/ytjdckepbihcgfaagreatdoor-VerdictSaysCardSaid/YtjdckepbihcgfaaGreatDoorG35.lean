/- Lemmas for the walks (VdZ, VdR, Bg6, VdL, Bdq, Law). No condition. -/
import Derived.Test.YtjdckepbihcgfaaGreatDoorG34
import Derived.Test.YtjdckepbihcgfaaGreatDoorG09
import Derived.Test.YtjdckepbihcgfaaGreatDoorG31
import Derived.ProofKit
import Derived.Deep.Slices
import Derived.Deep.Fields
import Derived.Lib.SmallJoins
import Derived.ChangeSlices
set_option linter.unusedSimpArgs false
set_option linter.unusedVariables false
set_option linter.unusedSectionVars false
set_option linter.unnecessarySimpa false
set_option maxRecDepth 100000
set_option maxHeartbeats 8000000
namespace Go.Proofs.YtjdckepbihcgfaaGreatDoor
section
open Go.RowKit
theorem pairsV_zero{Z:List Zon}(h:(zdj Z).kind=0):zdj Z=⟨0,0,0⟩:=by
 unfold zdj at h ⊢
 cases e1:zbN Z.length (fun _=>Z.length) (zcq Z) with
 |some x =>
  obtain⟨i,k⟩:=x
  rw[e1] at h
  exact absurd h Zj
 |none =>
  rw[e1] at h
  dsimp only at h ⊢
  cases e2:zbN Z.length (fun _=>Z.length) (zb2 Z) with
  |some x =>
   obtain⟨i,k⟩:=x
   rw[e2] at h
   exact absurd h Zj
  |none=>rfl
theorem zonesV_zero{cs:List Cl}(h:(zbP cs).kind=0):zbP cs=⟨0,0,0⟩:=by
 unfold zbP at h ⊢
 split at h
 ·rename_i h1;exact absurd h h1
 ·rename_i h1
  rw[if_neg h1]
  exact pairsV_zero h
end
section
open Go.RowKit
theorem rowsV_zero{cs:List Cl}(h:(zcu cs).kind=0):zcu cs=⟨0,0,0⟩:=by
 unfold zcu at h ⊢
 split at h
 ·rename_i h1;exact absurd h h1
 ·rename_i h1
  rw[if_neg h1]
  split at h
  ·rename_i h2;exact absurd h h2
  ·rename_i h2
   rw[if_neg h2]
   split at h
   ·rename_i h3;exact absurd h h3
   ·rename_i h3
    rw[if_neg h3]
    split at h
    ·rename_i h4;exact absurd h h4
    ·rename_i h4
     rw[if_neg h4]
     unfold empV at h ⊢
     cases e1:zaF cs.length (empB cs) with
     |some k =>
      rw[e1] at h
      exact absurd h Zj
     |none=>rfl
end
section
open Go.RowKit
section
variable (O:List Cl)(gN g4:Nat)(A6:Option Addr)(c6:Nat)(ht:zaG [4]=true)(hc:CallsOk [4] O)(hR:zeB O (zax O))(h9:O.length≤9) 
include ht hc hR h9
theorem leastBag_any(C:Ctx)(R:List Ent)(w:World)(hw:Mem C w ([zac Stp.enc 2 49 (some ⟨gN,0,none⟩) 0 []]++R))(h4:zak g4 3 #[.int .i64 4]∈R)(hO:zac Cl.enc 7 36 A6 c6 O∈R):
  Calls Tryz.prog 34 #[.slice (some ⟨g4,0,none⟩) 1 1,.slice A6 O.length c6,.agg (zat O.length (zax O)),.slice (some ⟨gN,0,none⟩) 0 0] w fun e W'=>∃x:Addr×Nat,
   e=.returned (outV (zbq [4] O (zax O)) x)∧Mem ⟨0,zbb [zac Stp.enc 2 49 (some ⟨gN,0,none⟩) 0 []],w⟩ W' (outS (zbq [4] O (zax O)) x):=by
 have hfo:zbq [4] O (zax O)=zhf [4] O (zax O) O.length []:=srch_CR hR _ zdW
 rw[hfo]
 have hgood:=good_nil (cs:=O) (f:=zax O) ht
 have haw:∀e∈R,∀(A:Option Addr),(∀b o,A=some ⟨b,o,none⟩→e.has b)→Away A (zbb [zac Stp.enc 2 49 (some ⟨gN,0,none⟩) 0 []]):=fun e he A h b o hb hm=>by
  obtain⟨e1,he1,hg⟩:=zcd.1 hm
  exact(List.pairwise_append.1 hw.apart).2.2 e1 he1 e he b hg (h b o hb)
 refine zjy (some ⟨g4,0,none⟩) A6 1 c6 [4] O O.length (zax O) ht hc h9 hR O.length [] (some ⟨gN,0,none⟩) 0 w 0 hgood (by simp[zaH,zjp]) (RdInt.of_list (l:=[4]) (hw.theBlk (List.mem_append_right _ h4))) (hw.ownRd (et:=36) (c:=c6) (List.mem_append_right _ hO) (fun _=>rfl)) (fun e=>by cases e) (haw _ h4 _ fun b o e=>?_) (fun _=>haw _ hO _ fun b o e=>?_) (hw.self 0)
 ·cases e;exact rfl
 ·show(Value.slice A6 O.length c6).ownBlock=some b
  rw[e];rfl
end
theorem bigB_none{cs:List Cl}(harg:∀c∈cs,1≤c.arg∧c.arg≤1000)(h:∀u:Nat,1≤u→u<1001→(cs.filter (zce (u:Nat))).length≤9):bigB cs=false:=by
 unfold bigB
 rw[List.any_eq_false]
 intro c hc h9
 rw[decide_eq_true_eq] at h9
 have h1:=harg c hc
 have h2:=h c.arg.toNat Zo Zo
 rw[show((c.arg.toNat:Nat):Int)=c.arg by omega] at h2
 omega
theorem bigB_some{cs:List Cl}{v:Int}(h:9<(cs.filter (zce v)).length):bigB cs=true:=by
 obtain⟨c,hc⟩:=List.exists_mem_of_length_pos (Nat.lt_of_lt_of_le (by decide:0<9) (Nat.le_of_lt h))
 rw[List.mem_filter] at hc
 have h3:c.arg=v:=by have:=hc.2;unfold zce at this;exact of_decide_eq_true this
 unfold bigB
 rw[List.any_eq_true]
 exact⟨c,hc.1,by rw[h3];exact decide_eq_true h⟩
end
section
open Go.RowKit
section
variable (ts:List Int)(O:List Cl)(f:Nat→Nat)(gN:Nat)(A1 A6:Option Addr)(c1 c6:Nat)(ht:zaG ts=true)(hc:CallsOk ts O)(hR:zeB O f)(h9:O.length≤9) 
include ht hc hR h9
theorem leastIn_any(C:Ctx)(R:List Ent)(w:World)(hw:Mem C w ([zac Stp.enc 2 49 (some ⟨gN,0,none⟩) 0 []]++R))(h4:zac zag 1 3 A1 c1 ts∈R)(hO:zac Cl.enc 7 36 A6 c6 O∈R):
  Calls Tryz.prog 34 #[.slice A1 ts.length c1,.slice A6 O.length c6,.agg (zat O.length f),.slice (some ⟨gN,0,none⟩) 0 0] w fun e W'=>∃x:Addr×Nat,
   e=.returned (outV (zbq ts O f) x)∧Mem ⟨0,zbb [zac Stp.enc 2 49 (some ⟨gN,0,none⟩) 0 []],w⟩ W' (outS (zbq ts O f) x):=by
 have hfo:zbq ts O f=zhf ts O f O.length []:=srch_CR hR _ zdW
 rw[hfo]
 have hgood:=good_nil (cs:=O) (f:=f) ht
 have haw:∀e∈R,∀(A:Option Addr),(∀b o,A=some ⟨b,o,none⟩→e.has b)→Away A (zbb [zac Stp.enc 2 49 (some ⟨gN,0,none⟩) 0 []]):=fun e he A h b o hb hm=>by
  obtain⟨e1,he1,hg⟩:=zcd.1 hm
  exact(List.pairwise_append.1 hw.apart).2.2 e1 he1 e he b hg (h b o hb)
 refine zjy A1 A6 c1 c6 ts O O.length f ht hc h9 hR O.length [] (some ⟨gN,0,none⟩) 0 w 0 hgood (by simp[zaH,zjp]) (hw.ownRd (et:=3) (c:=c1) (List.mem_append_right _ h4) (fun _=>rfl)) (hw.ownRd (et:=36) (c:=c6) (List.mem_append_right _ hO) (fun _=>rfl)) (fun e=>by cases e) (haw _ h4 _ fun b o e=>?_) (fun _=>haw _ hO _ fun b o e=>?_) (hw.self 0)
 ·show(Value.slice A1 ts.length c1).ownBlock=some b
  rw[e];rfl
 ·show(Value.slice A6 O.length c6).ownBlock=some b
  rw[e];rfl
end
end
section
open Go.RowKit
theorem run_eql_bd(a b c a' b' c':Int)(w:World):(binOp .eql 79 (.agg #[.int .i64 a,.int .i64 b,.int .i64 c]) (.agg #[.int .i64 a',.int .i64 b',.int .i64 c'])).run Tryz.prog w=.ok (.bool (decide (a=a')&&(decide (b=b')&&decide (c=c')))) w:=by
 rw[run_eql_struct]
 go_simp
 repeat' split
 all_goals simp_all
theorem run_eqGuard_bd(op:BinOp)(x y:Operand)(xs ys:Array Value)(w:World):(eqGuard op 79 x y (.agg xs) (.agg ys)).run Tryz.prog w=.ok () w :=
 run_eqGuard_agg w op _ x y xs ys Tryz.eqGuardType79
section
variable {C:Ctx}{E:zaE}{S:List Ent}{ty ty3:Nat}{x y:Operand}{a b c a' b' c':Int} 
theorem QS_eqlBd(hx:evo E x=some (.agg #[.int .i64 a,.int .i64 b,.int .i64 c]))(hy:evo E y=some (.agg #[.int .i64 a',.int .i64 b',.int .i64 c'])):QS Tryz.prog C E S (.binOp .eql 79 x y ty3) ty (.bool (decide (a=a')&&(decide (b=b')&&decide (c=c')))) :=
 QS.of (fun f w ha _=>by
  have h2:=run_eql_bd a b c a' b' c' w
  have hg:=run_eqGuard_bd .eql x y #[.int .i64 a,.int .i64 b,.int .i64 c] #[.int .i64 a',.int .i64 b',.int .i64 c'] w
  simp only[execOp,ha.evo hx,ha.evo hy,Sem.run_bind,hg,Result.andThen_ok,h2]
  rfl)
end
end
section
open Go.ChangeShapes Go.WideShapes Go.ChangeAt Go.RowKit Go.Deep
section
variable {H:Type}{enc:TypeId×Value→H}{P:Program} 
theorem zh0(hl:laidOutB P=true){W W':World}(hb:Below W.heap.size W W'){sp:Nat→Bool}:
  ∀{ts:List TypeId} {vs:List Value} {ds:List (DataW H)} {p:List MemPlace},(∀t∈ts,P.readableRec t=true∧t<P.types.size)→(∀x∈p,x.block<W.heap.size)→(∀x∈p,sp x.block=true) →
   DataW.TrodAll enc P W 0 (fun _=>true) true ts vs ds p→DataW.TrodAll enc P W' 0 sp true ts vs ds p
 |[],_,_,_,_,_,_,h=>by
  obtain⟨rfl,rfl,rfl⟩:=trodAll_nil h
  exact trodAll_mk0
 |t::ts,_,_,_,ht,hp,hs,h=>by
  obtain⟨v,vs,d,ds,a,b,rfl,rfl,rfl,h1,h2⟩:=trodAll_cons h
  obtain⟨hr,hrow⟩:=ht t (List.mem_cons_self ..)
  refine⟨a,b,WideElems.Trod_stays hl hr hrow h1 (fun x hx=>hb.same (hp x (List.mem_append_left _ hx))) (fun x hx=>hs x (List.mem_append_left _ hx)),?_,rfl⟩
  exact zh0 hl hb (fun t' h'=>ht t' (List.mem_cons_of_mem _ h')) (fun x hx=>hp x (List.mem_append_right _ hx)) (fun x hx=>hs x (List.mem_append_right _ hx)) h2
theorem law_post{f:Func}{s:ChangeSpec}{W W':World}{args:Array Value}{tb:TypeId}{ds gs:List (DataW H)}{before:List MemPlace} 
  (hl:laidOutB P=true) (hr:(f.params.toList.all fun t=>P.readableRec t&&decide (t<P.types.size))=true) (hv:s.vars=[]) (hrt:f.resultTypes=#[tb]) (htb:P.underlying tb=some .bool)
  (hW:DataW.Whole enc P f.params.toList s.vars false W args.toList ds gs before)
  (hs:gs=[]→s.fn H (ds++gs)={ results:=[.lit (.bool true)],args:=ds })
  (hb:Below W.heap.size W W'):s.post enc P f false true false false W args (.bool true) W':=by
 have hlt:∀p∈before,p.block<W.heap.size:=fun p hp=>hW.lt p hp
 have hW':=hW
 obtain⟨p,q,hA,hV,rfl,hfz,hnd⟩:=hW
 rw[hv] at hV
 obtain⟨rfl,rfl⟩:=trodVars_none hV
 simp only[List.append_nil] at hlt
 have hf:=hs rfl
 have hfv:(s.fn H (ds++[])).vars=[]:=by rw[hf]
 have hr':∀t∈f.params.toList,P.readableRec t=true∧t<P.types.size:=fun t ht=>by
  have:=List.all_eq_true.1 hr t ht
  simpa using this
 refine⟨ds,[],p++[],[],p,[],hW',?_,?_,?_,?_,fun h=>by cases h⟩
 ·rw[hf,hrt]
  exact trodAll_mk1 (shut_bool htb _)
 ·rw[hf]
  exact zh0 hl hb hr' hlt (fun x hx=>by simpa using hlt x hx) hA
 ·rw[hv,hfv];exact rfl
 ·exact hb.frame _
end
theorem own:ownKnob Tryz.prog.godebug=none:=by kernel_rfl
theorem laidOut:laidOutB Tryz.prog=true:=by kernel_rfl
end
end Go.Proofs.YtjdckepbihcgfaaGreatDoor
