/- Lemmas for the walks (F, E, P, Fct, Ifc, S, Clr, Str, R). No condition. -/
import Derived.Test.YtjdckepbihcgfaaGreatDoorG04
import Derived.Laws.Strings
set_option linter.unusedSimpArgs false
set_option linter.unusedVariables false
set_option linter.unusedSectionVars false
set_option linter.unnecessarySimpa false
set_option maxRecDepth 100000
set_option maxHeartbeats 8000000
namespace Go.Proofs.YtjdckepbihcgfaaGreatDoor
section
open Go.RowKit
def zbb:List Ent→List Nat
 |[]=>[]
 |e::S=>e.fin++zbb S
theorem zcd{g:Nat}:∀{S:List Ent},g∈zbb S↔∃e∈S,e.has g
 |[]=>by simp[zbb]
 |e::S=>by
  have ih:=zcd (g:=g) (S:=S)
  rw[zbb,List.mem_append,ih,e.hfin]
  simp
section
variable {C:Ctx}{w w':World}{S S1 S1' R:List Ent} 
theorem Mem.anyN(h:Mem C w S)(n:Nat):Mem ⟨n,C.F,C.w0⟩ w S:=⟨h.keeps,h.holds,h.apart⟩
theorem Mem.self(n:Nat)(hw:Mem C w (S1++R)):Mem ⟨n,zbb S1,w⟩ w S1 :=
 ⟨Keeps.refl _ _,fun e he=>⟨(hw.holds e (by simp[he])).1,fun g hg=>⟨((hw.holds e (by simp[he])).2 g hg).1,.inl (zcd.2 ⟨e,he,hg⟩)⟩⟩,(List.pairwise_append.1 hw.apart).1⟩
theorem Mem.newBlk{b:Nat}(hw:Mem C w (S1++R))(hF:C.F=[])(hb:b<C.w0.heap.size):b∉zbb S1:=fun hm=>by
 obtain⟨e,he,hg⟩:=zcd.1 hm
 have:=((hw.holds e (by simp[he])).2 b hg).2
 rw[hF] at this
 rcases this with h|h
 ·cases h
 ·omega
theorem Mem.frame{n:Nat}(hw:Mem C w (S1++R))(ht:Mem ⟨n,zbb S1,w⟩ w' S1'):Mem C w' (S1'++R):=by
 have hap:=List.pairwise_append.1 hw.apart
 have hF:∀g∈zbb S1,g<w.heap.size∧(g∈C.F∨C.w0.heap.size≤g):=fun g hg=>by
  obtain⟨e,he,hb⟩:=zcd.1 hg
  exact(hw.holds e (by simp[he])).2 g hb
 have hR:∀f∈R,∀g,f.has g→g∉zbb S1:=fun f hf g hg hm=>by
  obtain⟨e,he,hb⟩:=zcd.1 hm
  exact hap.2.2 e he f hf g hb hg
 refine⟨⟨ht.keeps.os.trans hw.keeps.os,ht.keeps.tape.trans hw.keeps.tape,ht.keeps.output.trans hw.keeps.output,Nat.le_trans hw.keeps.size ht.keeps.size,fun k hk hkF=>?_⟩,fun e he=>?_,?_⟩
 ·refine(ht.keeps.block k (Nat.lt_of_lt_of_le hk hw.keeps.size) fun hm=>?_).trans (hw.keeps.block k hk hkF)
  rcases(hF k hm).2 with h|h
  ·exact hkF h
  ·omega
 ·rcases List.mem_append.1 he with he|he
  ·obtain⟨h1,h2⟩:=ht.holds e he
   refine⟨h1,fun g hg=>⟨(h2 g hg).1,?_⟩⟩
   rcases(h2 g hg).2 with h|h
   ·exact(hF g h).2
   ·exact .inr (Nat.le_trans hw.keeps.size h)
  ·obtain⟨h1,h2⟩:=hw.holds e (by simp[he])
   refine⟨e.loc w w' (fun g hg=>ht.keeps.block g (h2 g hg).1 (hR e he g hg)) h1,fun g hg=>⟨Nat.lt_of_lt_of_le (h2 g hg).1 ht.keeps.size,(h2 g hg).2⟩⟩
 ·rw[List.pairwise_append]
  refine⟨ht.apart,hap.2.1,fun e he f hf g hg hg'=>?_⟩
  rcases((ht.holds e he).2 g hg).2 with h|h
  ·exact hR f hf g hg' h
  ·have:=((hw.holds f (by simp[hf])).2 g hg').1
   have h':w.heap.size≤g:=h
   omega
end
section
variable {P:Program}{C:Ctx}{Q:Exit→Act→World→Prop}{E:zaE}{S S1 S1' R:List Ent} 
variable {d ty:Nat}{ps:String}{af:Array Edge}{g0:Option (Nat×Bool)}{f:Nat} 
/-! function values -/
theorem zec{a:Act}(ha:Env C.n a E){xs:List Operand}{vs:List Value}(h:evs E xs=some vs):xs.toArray.map a.eval=vs.toArray:=by
 have:=evs_eq ha h
 simp[this]
theorem QS_makeFunc{fn:Fn}{xs ys:List Operand}{vs us:List Value}(hx:evs E xs=some vs)(hy:evs E ys=some us):QS P C E S (.makeFunc fn xs.toArray ys.toArray) ty (.func fn vs.toArray us.toArray) :=
 QS.of (fun a w ha _=>by
  simp only[execOp,Instr.makeFunc,zec ha hx,zec ha hy];rfl)
theorem run_callV[hf:IsFn P f]{x:Operand}{xs:List Operand}{vs us cs:List Value}{ats:Array TypeId}(hv:evo E x=some (.func (.func f) us.toArray cs.toArray))(hx:evs E xs=some vs){a:Act}{w:World}(ha:Env C.n a E):
  (execOp a.eval ⟨some d,.call ⟨.value x,xs.toArray,ats⟩,ty,ps,af,g0⟩).run P w=.ok (.enter f (us++vs++cs).toArray) w:=by
 have h1:=ha.evo hv
 have h2:=zec ha hx
 simp only[execOp,resolve,h1,h2,Deferred.ofValue,Sem.run_bind,Sem.run_pure,Result.andThen_ok,invoke]
 have h3:=hf.run (us.toArray++vs.toArray++cs.toArray) w
 rw[h3]
 simp
theorem zbf[hf:IsFn P f]{x:Operand}{xs:List Operand}{vs us cs:List Value}{ats:Array TypeId}{v:Value}(hv:evo E x=some (.func (.func f) us.toArray cs.toArray))(hx:evs E xs=some vs) 
  (hc:∀w,Mem C w S→Calls P f (us++vs++cs).toArray w fun e w'=>e=.returned v∧Below w.heap.size w w') (hd:Nat.ble (d+1) C.n=true) :
  ES P C E S ⟨some d,.call ⟨.value x,xs.toArray,ats⟩,ty,ps,af,g0⟩ (fun E' S'=>E'=(d,v)::E∧S'=S):=by
 refine(zie (fun u T=>u=v∧T=S) (fun a w ha=>run_callV hv hx ha) (fun w hw=>(hc w hw).mono fun e w' ⟨he,hb⟩=>⟨v,_,he,hw.below hb,rfl,rfl⟩) hd).weak (by rintro _ _ ⟨_,⟨rfl,rfl⟩,rfl⟩;exact⟨rfl,rfl⟩)
end
/-! what is known, in another order -/
inductive Pick:List Ent→Ent→List Ent→Prop
 |here (e:Ent) (S:List Ent):Pick (e::S) e S
 |there {S R:List Ent} {e:Ent} (f:Ent) (h:Pick S e R):Pick (f::S) e (f::R)
theorem Pick.form{S R:List Ent}{e:Ent}(h:Pick S e R):∃A B,S=A++e::B∧R=A++B:=by
 induction h with
 |here e S=>exact⟨[],S,rfl,rfl⟩
 |there f _ ih=>obtain⟨A,B,rfl,rfl⟩:=ih;exact⟨f::A,B,rfl,rfl⟩
inductive Sel:List Ent→List Ent→Prop
 |nil (S:List Ent):Sel S []
 |cons {S R T:List Ent} {e:Ent} (h:Pick S e R) (t:Sel R T):Sel S (e::T)
section
variable {C:Ctx}{w:World}{S R T':List Ent}{e:Ent} 
theorem Mem.pick(hw:Mem C w S)(h:Pick S e R):Mem C w (e::R):=by
 obtain⟨A,B,rfl,rfl⟩:=h.form
 have hap:=hw.apart
 rw[List.pairwise_append,List.pairwise_cons] at hap
 obtain⟨hA,⟨hB1,hB⟩,hAB⟩:=hap
 refine⟨hw.keeps,fun f hf=>hw.holds f ?_,?_⟩
 ·rcases List.mem_cons.1 hf with rfl|hf
  ·simp
  ·rcases List.mem_append.1 hf with h|h<;>simp[h]
 ·rw[List.pairwise_cons,List.pairwise_append]
  refine⟨fun f hf g hg hg'=>?_,hA,hB,fun f hf k hk=>hAB f hf k (by simp[hk])⟩
  rcases List.mem_append.1 hf with hf|hf
  ·exact hAB f hf e (by simp) g hg' hg
  ·exact hB1 f hf g hg hg'
theorem Sel.mem:∀{S T:List Ent},Sel S T→∀f∈T,f∈S
 |_,_,.nil _,f,h=>by simp at h
 |_,_,.cons h t,f,hf=>by
  obtain⟨A,B,rfl,rfl⟩:=h.form
  rcases List.mem_cons.1 hf with rfl|hf
  ·simp
  ·rcases List.mem_append.1 (t.mem f hf) with h|h<;>simp[h]
theorem Mem.sel(hw:Mem C w S)(h:Sel S T'):Mem C w T':=by
 induction h with
 |nil S=>exact hw.sub (List.nil_sublist _)
 |@cons S R T e h t ih =>
  have h1:=hw.pick h
  have hap:=List.pairwise_cons.1 h1.apart
  have h2:=ih (h1.sub (List.sublist_cons_self _ _))
  refine⟨h2.keeps,fun f hf=>?_,?_⟩
  ·rcases List.mem_cons.1 hf with rfl|hf
   ·exact h1.holds f (by simp)
   ·exact h2.holds f hf
  ·exact List.pairwise_cons.2 ⟨fun f hf=>hap.1 f (t.mem f hf),h2.apart⟩
end
/-! a cut: what is known behind a region, said once -/
def Cut{X:Type}(C:Ctx)(I:X→zaE)(J:X→List Ent)(pre:X→Prop)(a:Act)(w:World):Prop:=∃x,pre x∧Env C.n a (I x)∧Mem C w (J x)
section
variable {P:Program}{C:Ctx}{Q:Exit→Act→World→Prop}{E:zaE}{S:List Ent} 
theorem T_cut{X:Type}{x y:Code}(I:X→zaE)(J:X→List Ent)(pre:X→Prop)(hx:T P C x (Exit.then (Cut C I J pre) Q) E S)(hy:∀z,pre z→T P C y Q (I z) (J z)):T P C (.seq x y) Q E S :=
 ⟨fun a w ha hw=>wp_seq (Code.wp_mono (fun e a' w' h=>by
  cases e with
  |normal =>
   obtain⟨z,hp,he,hm⟩:=h
   exact(hy z hp).run a' w' he hm
  |_=>exact h) (hx.run a w ha hw))⟩
theorem T_cutAt{X:Type}(id:Nat){ops:Array Oper}{dr:Bool}{y:Code}(I:X→zaE)(J:X→List Ent)(pre:X→Prop)(hx:T P C (.region id ops dr) (Exit.then (Cut C I J pre) Q) E S)(hy:∀z,pre z→T P C y Q (I z) (J z)):T P C (.seq (.region id ops dr) y) Q E S :=
 T_cut I J pre hx hy
theorem zhI{X:Type}{I:X→zaE}{J:X→List Ent}{pre:X→Prop}(z:X)(hp:pre z)(hE:SubE E (I z))(hS:∀w,Mem C w S→Mem C w (J z)):At C (Exit.then (Cut C I J pre) Q .normal) E S :=
 ⟨fun a w ha hw=>⟨z,hp,ha.sub hE,hS w hw⟩⟩
end
end
section
open Go.RowKit
section
variable {P:Program}{C:Ctx}{E:zaE}{S:List Ent} 
theorem Lds.auto{s:Nat}{ad:Addr}{v:Value}(h:Lds P C S s ad v:=by first|exact Lds.blk (by first|((repeat(first|with_reducible exact List.mem_cons_self|with_reducible apply List.mem_cons_of_mem));done)|(repeat(first|exact List.Mem.head _|apply List.Mem.tail))) (by first|exact relCells_nV _ _|exact relCells_atV _ _ _ (by omega)|exact rfl)|exact Lds.whole (by first|((repeat(first|with_reducible exact List.mem_cons_self|with_reducible apply List.mem_cons_of_mem));done)|(repeat(first|exact List.Mem.head _|apply List.Mem.tail))) (by first|rfl|exact zaD _ _)|exact Lds.rd1 (by assumption) (by first|assumption|(simp;done)) (by first|assumption|omega) rfl|exact Lds.rd0 (by assumption) (by first|assumption|(simp;done)) (by first|assumption|omega) rfl|exact Lds.rd (by assumption) (by first|assumption|(simp;done)) (by first|assumption|omega) rfl|exact Lds.rdAgg (by assumption) (by intro x;rfl) (by first|assumption|(simp;done)) (by first|assumption|omega)|exact Lds.own1 (by first|((repeat(first|with_reducible exact List.mem_cons_self|with_reducible apply List.mem_cons_of_mem));done)|(repeat(first|exact List.Mem.head _|apply List.Mem.tail))) (by intro x;rfl) (by first|assumption|omega) rfl|exact Lds.own0 (by first|((repeat(first|with_reducible exact List.mem_cons_self|with_reducible apply List.mem_cons_of_mem));done)|(repeat(first|exact List.Mem.head _|apply List.Mem.tail))) (by intro x;rfl) (by first|assumption|omega) rfl|exact Lds.own (by first|((repeat(first|with_reducible exact List.mem_cons_self|with_reducible apply List.mem_cons_of_mem));done)|(repeat(first|exact List.Mem.head _|apply List.Mem.tail))) (by intro x;rfl) (by first|assumption|omega) rfl|exact Lds.ownAgg (by first|((repeat(first|with_reducible exact List.mem_cons_self|with_reducible apply List.mem_cons_of_mem));done)|(repeat(first|exact List.Mem.head _|apply List.Mem.tail))) (by intro x;rfl) (by first|assumption|omega)|exact Lds.rdz (by assumption) (by first|assumption|(simp;done)) (by first|assumption|omega) rfl|fail):Lds P C S s ad v:=h
theorem QS.auto{op:Op}{ty:Nat}{v:Value}(h:QS P C E S op ty v:=by first|((with_reducible apply QS_addWW);exact rfl;exact rfl)|((with_reducible apply QS_move);exact rfl)|((with_reducible apply QS_assign);exact rfl)|((with_reducible apply QS_field);exact rfl;(first|exact Nat.add_zero _|exact Nat.zero_add _|exact rfl))|((with_reducible apply za1);exact rfl;exact Lds.auto)|((with_reducible apply QS_lss);exact rfl;exact rfl)|((with_reducible apply QS_eql);exact rfl;exact rfl)|((with_reducible apply QS_neq);exact rfl;exact rfl)|((with_reducible apply QS_leq);exact rfl;exact rfl)|((with_reducible apply QS_gtr);exact rfl;exact rfl)|((with_reducible apply QS_geq);exact rfl;exact rfl)|((with_reducible apply QS_not);exact rfl)|((with_reducible apply QS_add);exact rfl;exact rfl;omega;omega)|((with_reducible apply QS_sub);exact rfl;exact rfl;omega;omega)|((with_reducible apply QS_mul);exact rfl;exact rfl;omega;omega)|((with_reducible apply QS_len);exact rfl)|((with_reducible apply QS_lenArray);exact rfl)|((with_reducible apply QS_pick_true);exact rfl;(with_reducible exact rfl);exact rfl)|((with_reducible apply QS_pick_false);exact rfl;(with_reducible exact rfl);exact rfl)|((with_reducible apply QS_pick_bool);exact rfl;exact rfl;exact rfl)|((with_reducible apply QS_pick);exact rfl;exact rfl;exact rfl)|((with_reducible apply zeb);exact rfl;exact rfl;omega;(first|exact off_z _ _|exact off_01 _|exact off_0m _ _|exact off_o1 _ _|exact rfl))|((with_reducible apply QS_indexA);exact rfl;exact rfl;omega;(first|exact off_z _ _|exact off_01 _|exact off_0m _ _|exact off_o1 _ _|exact rfl))|((with_reducible apply QS_indexL);exact rfl;exact rfl;exact inferInstance;omega;(first|exact off_z _ _|exact off_01 _|exact off_0m _ _|exact off_o1 _ _|exact rfl))|((with_reducible apply QS_indexAL);exact rfl;exact rfl;exact inferInstance;omega;(first|exact off_z _ _|exact off_01 _|exact off_0m _ _|exact off_o1 _ _|exact rfl))|((with_reducible apply QS_indexZ);exact rfl;exact rfl;omega;omega;(first|exact off_z _ _|exact off_01 _|exact off_0m _ _|exact off_o1 _ _|exact rfl))|((with_reducible apply QS_indexAZ);exact rfl;exact rfl;omega;omega;(first|exact off_z _ _|exact off_01 _|exact off_0m _ _|exact off_o1 _ _|exact rfl))|((with_reducible apply QS_extract);exact rfl;exact rfl)|((with_reducible apply QS_nilCheck);exact rfl)|((with_reducible apply QS_max);exact rfl;exact rfl)|((with_reducible apply QS_min);exact rfl;exact rfl)|((with_reducible apply QS_convert);exact rfl;omega;omega)|((with_reducible apply QS_buildF);exact rfl;exact rfl;((repeat(first|exact IsL.nil|apply IsL.cons|exact IsL.refl _))))|((with_reducible apply QS_shr16);exact rfl;exact rfl;(first|assumption|omega|decide|exact Nat.lt_of_le_of_lt (Nat.shiftRight_le _ _) (by first|assumption|omega)|(apply_assumption<;>omega)))|((with_reducible apply QS_and16);exact rfl;exact rfl;(first|assumption|omega|decide|exact Nat.lt_of_le_of_lt (Nat.shiftRight_le _ _) (by first|assumption|omega)|(apply_assumption<;>omega));(first|assumption|omega|decide|exact Nat.lt_of_le_of_lt (Nat.shiftRight_le _ _) (by first|assumption|omega)|(apply_assumption<;>omega)))|((with_reducible apply QS_or16);exact rfl;exact rfl;(first|assumption|omega|decide|exact Nat.lt_of_le_of_lt (Nat.shiftRight_le _ _) (by first|assumption|omega)|(apply_assumption<;>omega));(first|assumption|omega|decide|exact Nat.lt_of_le_of_lt (Nat.shiftRight_le _ _) (by first|assumption|omega)|(apply_assumption<;>omega)))|((with_reducible apply QS_andNot16);exact rfl;exact rfl;(first|assumption|omega|decide|exact Nat.lt_of_le_of_lt (Nat.shiftRight_le _ _) (by first|assumption|omega)|(apply_assumption<;>omega));(first|assumption|omega|decide|exact Nat.lt_of_le_of_lt (Nat.shiftRight_le _ _) (by first|assumption|omega)|(apply_assumption<;>omega)))|((with_reducible apply QS_shl16);exact rfl;exact rfl;omega)|((with_reducible apply QS_shr64);exact rfl;exact rfl;(first|assumption|omega|decide|exact Nat.lt_of_le_of_lt (Nat.shiftRight_le _ _) (by first|assumption|omega)|(apply_assumption<;>omega)))|((with_reducible apply QS_and64);exact rfl;exact rfl;(first|assumption|omega|decide|exact Nat.lt_of_le_of_lt (Nat.shiftRight_le _ _) (by first|assumption|omega)|(apply_assumption<;>omega));(first|assumption|omega|decide|exact Nat.lt_of_le_of_lt (Nat.shiftRight_le _ _) (by first|assumption|omega)|(apply_assumption<;>omega)))|((with_reducible apply QS_or64);exact rfl;exact rfl;(first|assumption|omega|decide|exact Nat.lt_of_le_of_lt (Nat.shiftRight_le _ _) (by first|assumption|omega)|(apply_assumption<;>omega));(first|assumption|omega|decide|exact Nat.lt_of_le_of_lt (Nat.shiftRight_le _ _) (by first|assumption|omega)|(apply_assumption<;>omega)))|((with_reducible apply QS_shl64);exact rfl;exact rfl;omega)|((with_reducible apply QS_eqlB);exact rfl;exact rfl)|((with_reducible apply QS_neqB);exact rfl;exact rfl)|((with_reducible apply zc6);exact rfl;exact rfl;(first|assumption|omega))|((with_reducible apply QS_eqlNil);exact rfl;exact rfl)|((with_reducible apply QS_neqNil);exact rfl;exact rfl)|((with_reducible apply QS_addW);exact rfl;exact rfl)|((with_reducible apply QS_subW);exact rfl;exact rfl)|((with_reducible apply QS_mulW);exact rfl;exact rfl)|((with_reducible apply QS_lookI);exact rfl;exact rfl;(first|((repeat(first|with_reducible exact List.mem_cons_self|with_reducible apply List.mem_cons_of_mem));done)|(repeat(first|exact List.Mem.head _|apply List.Mem.tail))))|((with_reducible apply QS_lookIok);exact rfl;exact rfl;(first|((repeat(first|with_reducible exact List.mem_cons_self|with_reducible apply List.mem_cons_of_mem));done)|(repeat(first|exact List.Mem.head _|apply List.Mem.tail))))|((with_reducible apply QS_lookB);exact rfl;exact rfl;(first|((repeat(first|with_reducible exact List.mem_cons_self|with_reducible apply List.mem_cons_of_mem));done)|(repeat(first|exact List.Mem.head _|apply List.Mem.tail))))|((with_reducible apply QS_lookBok);exact rfl;exact rfl;(first|((repeat(first|with_reducible exact List.mem_cons_self|with_reducible apply List.mem_cons_of_mem));done)|(repeat(first|exact List.Mem.head _|apply List.Mem.tail))))|((with_reducible apply QS_lenMap);exact rfl;(first|((repeat(first|with_reducible exact List.mem_cons_self|with_reducible apply List.mem_cons_of_mem));done)|(repeat(first|exact List.Mem.head _|apply List.Mem.tail))))|((with_reducible apply QS_makeFunc);exact rfl;exact rfl)|fail):QS P C E S op ty v:=h
theorem ES.auto{o:Oper}{N:zaE→List Ent→Prop}(h:ES P C E S o N:=by first|((with_reducible apply ES_alloc);(first|exact zgc _|exact cellsL (by(repeat(first|exact IsL.nil|apply IsL.cons|exact IsL.refl _)))|exact rfl);exact rfl)|((with_reducible apply ES_box);exact rfl;(first|exact zgc _|exact cellsL (by(repeat(first|exact IsL.nil|apply IsL.cons|exact IsL.refl _)))|exact rfl);exact rfl)|((with_reducible apply zfy);exact rfl;exact rfl;exact rfl;exact rfl;exact rfl;((repeat(first|exact IsL.nil|apply IsL.cons|exact IsL.refl _)));exact rfl)|((with_reducible apply zge);exact rfl;exact rfl;(first|((repeat(first|with_reducible exact Upd.here _ _ _|with_reducible apply Upd.there));done)|(repeat(first|exact Upd.here _ _ _|apply Upd.there)));(first|exact rfl|exact zaD _ _);(first|exact rfl|exact zaD _ _);(first|exact rfl|exact zfw _ _))|((with_reducible apply zcW);exact rfl;exact rfl;(first|((repeat(first|with_reducible exact Upd.here _ _ _|with_reducible apply Upd.there));done)|(repeat(first|exact Upd.here _ _ _|apply Upd.there)));(first|exact zhz _ _ _ _ (by omega)|exact arrSet (by(repeat(first|exact IsL.nil|apply IsL.cons|exact IsL.refl _)))|rfl);(first|(simp only[zaD,List.size_toArray,List.length_cons,List.length_nil];omega)|(simp[zaD];done)|(simp[zaD];omega));exact rfl)|((with_reducible apply zdt);exact rfl;exact rfl;(first|((repeat(first|with_reducible exact Upd.here _ _ _|with_reducible apply Upd.there));done)|(repeat(first|exact Upd.here _ _ _|apply Upd.there)));exact fun _=>rfl;(first|exact List.getElem?_set_self (by first|assumption|omega)|exact List.getElem?_eq_getElem (by first|assumption|omega|(simp only[List.length_set];omega)));(first|exact rfl  );exact rfl)|((with_reducible apply zeK);exact rfl;exact rfl;(first|((repeat(first|with_reducible exact Upd.here _ _ _|with_reducible apply Upd.there));done)|(repeat(first|exact Upd.here _ _ _|apply Upd.there)));exact fun _=>rfl;(first|exact List.getElem?_set_self (by first|assumption|omega)|exact List.getElem?_eq_getElem (by first|assumption|omega|(simp only[List.length_set];omega)));decide;(first|exact rfl  );exact rfl)|((with_reducible apply za2);exact rfl;exact rfl;(first|((repeat(first|with_reducible exact Upd.here _ _ _|with_reducible apply Upd.there));done)|(repeat(first|exact Upd.here _ _ _|apply Upd.there)));exact fun _=>rfl;(first|exact List.getElem?_set_self (by first|assumption|omega)|exact List.getElem?_eq_getElem (by first|assumption|omega|(simp only[List.length_set];omega)));decide;(first|exact rfl  );exact rfl)|((with_reducible apply zdu (enc:=zag) (z0:=0));exact rfl;exact rfl;exact rfl;(first|omega|(simp;omega));decide;exact rfl)|((with_reducible apply zdu (enc:=boolEnc) (z0:=false));exact rfl;exact rfl;exact rfl;(first|omega|(simp;omega));decide;exact rfl)|((with_reducible apply ziV);exact rfl)|((with_reducible apply zfO);exact rfl)|((with_reducible apply zhH);exact rfl;exact rfl;(first|((repeat(first|with_reducible exact Upd.here _ _ _|with_reducible apply Upd.there));done)|(repeat(first|exact Upd.here _ _ _|apply Upd.there)));exact rfl)|fail):ES P C E S o N:=h
structure Rest (R:Prop):Prop where
 out:R
/-! one step of a walk: what is left to be shown is the step's own to find -/
theorem GO2{p R T:Prop}(r:R)(s:T)(h:Rest R→Rest T→p:=by intro r s;first|((with_reducible apply T_cond);exact rfl;exact r.out;exact s.out)|((with_reducible (first|apply TL_guard|apply TD_guard));exact rfl;exact rfl;(fail_if_success (with_reducible refine imp_lit1 ?_));(fail_if_success (with_reducible refine imp_lit0));exact r.out;exact s.out)):p:=h ⟨r⟩ ⟨s⟩
theorem GOF{p R T:Prop}(r:R)(s:T)(h:Rest R→Rest T→p:=by(intro r s;(with_reducible apply TD_fork);exact r.out;exact s.out)):p:=h ⟨r⟩ ⟨s⟩
end
theorem SUB{A B:List Ent}(h:A.Sublist B:=by(repeat(first|with_reducible exact List.nil_sublist _|with_reducible exact List.Sublist.refl _|with_reducible apply List.Sublist.cons_cons|with_reducible apply List.Sublist.cons))):A.Sublist B:=h
theorem zaK{C:Ctx}{S S':List Ent}(h:∀w,Mem C w S→Mem C w S':=by(intro w hw;exact hw.sub (by first|((repeat(first|with_reducible exact List.nil_sublist _|with_reducible exact List.Sublist.refl _|with_reducible apply List.Sublist.cons_cons|with_reducible apply List.Sublist.cons));done)|(repeat(first|exact List.nil_sublist _|exact List.Sublist.refl _|apply List.Sublist.cons_cons|apply List.Sublist.cons))))):∀w,Mem C w S→Mem C w S':=h
section
variable {P:Program}{C:Ctx}{Q:Exit→Act→World→Prop}{e:Nat}{S0 S:List Ent}{E:zaE}{l:List Oper}{t:Tr}{ty i j k:Nat}{ps:String}{af:Array Edge}{op:Op}{b want:Bool} 
theorem zaa{dst:Option Tmp}{N:zaE→List Ent→Prop}(he:ES P C E S ⟨dst,op,ty,ps,af,some (j,want)⟩ N)(hg:zdo l j=some k∧zeG k E=some (.bool b)∧b=want) 
  (h:∀E' S',N E' S'→S0.Sublist S'∧TD P C l Q e S0 t E' S'):TD P C l Q e S0 (.step 2 i ⟨dst,op,ty,ps,af,some (j,want)⟩ t) E S:=TD_e2y hg.1 hg.2.1 hg.2.2 he h
end
theorem Zx{p:Prop}(h:False:=by first|contradiction|omega):p:=h.elim
theorem Zm{α:Type}{a:α}{l:List α}(h:a∈l:=by first|((repeat(first|with_reducible exact List.mem_cons_self|with_reducible apply List.mem_cons_of_mem));done)|(repeat(first|exact List.Mem.head _|apply List.Mem.tail))):a∈l:=h
theorem Zl{S T:List Ent}(h:Sel S T:=by(repeat(first|exact Sel.nil _|(apply Sel.cons;(repeat(first|with_reducible exact Pick.here _ _|with_reducible apply Pick.there)))))):Sel S T:=h
theorem Ze{E E':zaE}(h:SubE E E':=by(repeat(first|exact SubE.nil _|refine SubE.cons rfl ?_))):SubE E E':=h
theorem Zu{S S':List Ent}{e e':Ent}(h:Upd S e e' S':=by first|((repeat(first|with_reducible exact Upd.here _ _ _|with_reducible apply Upd.there));done)|(repeat(first|exact Upd.here _ _ _|apply Upd.there))):Upd S e e' S':=h
theorem Zg{p c d u v R S:Prop}(r:u→R)(s:v→S)(h:Rest (c→R)→Rest (d→S)→p:=by intro r s;first|((with_reducible apply T_cond);exact rfl;exact r.out;exact s.out)|((with_reducible (first|apply TL_guard|apply TD_guard));exact rfl;exact rfl;(fail_if_success (with_reducible refine imp_lit1 ?_));(fail_if_success (with_reducible refine imp_lit0));exact r.out;exact s.out))(a:c→u:=by intro h;(repeat(first|with_reducible (replace h:=of_decide_eq_true h)|with_reducible (replace h:=of_decide_eq_false h)|with_reducible (replace h:=bnt h)|with_reducible (replace h:=bnf h)|with_reducible (replace h:=Int.not_lt.mp h)|with_reducible (replace h:=Int.not_le.mp h)|with_reducible (replace h:=band_dec h)|with_reducible (replace h:=ziJ h)|with_reducible (replace h:=bor_dec h)|with_reducible (replace h:=bor_decF h)));exact h)(b:d→v:=by intro h;(repeat(first|with_reducible (replace h:=of_decide_eq_true h)|with_reducible (replace h:=of_decide_eq_false h)|with_reducible (replace h:=bnt h)|with_reducible (replace h:=bnf h)|with_reducible (replace h:=Int.not_lt.mp h)|with_reducible (replace h:=Int.not_le.mp h)|with_reducible (replace h:=band_dec h)|with_reducible (replace h:=ziJ h)|with_reducible (replace h:=bor_dec h)|with_reducible (replace h:=bor_decF h)));exact h):p:=h ⟨fun x=>r (a x)⟩ ⟨fun x=>s (b x)⟩
theorem Zt{A B:List Ent}(h:A.Sublist B:=by first|((repeat(first|with_reducible exact List.nil_sublist _|with_reducible exact List.Sublist.refl _|with_reducible apply List.Sublist.cons_cons|with_reducible apply List.Sublist.cons));done)|(repeat(first|exact List.nil_sublist _|exact List.Sublist.refl _|apply List.Sublist.cons_cons|apply List.Sublist.cons))):A.Sublist B:=h
theorem Zd{p:Prop}(h:p:=by(repeat(first|with_reducible exact Blind.body|with_reducible apply Blind.seq|with_reducible apply Blind.block))):p:=h
theorem Zr{p:Prop}(h:p:=by(repeat(first|exact ResIs.nil|(apply ResIs.tmp;exact rfl)|(apply ResIs.cell;exact rfl;exact Lds.auto)))):p:=h
theorem Zh{p:Prop}(h:p:=by(first|exact rfl|exact⟨rfl,rfl,rfl⟩)):p:=h
theorem Zo{p:Prop}(h:p:=by omega):p:=h
theorem Zi{p:Prop}(h:p:=by decide):p:=h
theorem Zj{p:Prop}(h:p:=by simp):p:=h
theorem Zer{P:Program}{C:Ctx}{E:zaE}{S:List Ent}{o:Oper}{N:zaE→List Ent→Prop}(h:ES P C E S o N:=by first|((with_reducible apply zge);exact rfl;exact rfl;(first|((repeat(first|with_reducible exact Upd.here _ _ _|with_reducible apply Upd.there));done)|(repeat(first|exact Upd.here _ _ _|apply Upd.there)));(first|exact rfl|exact zaD _ _);(first|exact rfl|exact zaD _ _);(first|exact rfl|exact zfw _ _))|((with_reducible apply zcW);exact rfl;exact rfl;(first|((repeat(first|with_reducible exact Upd.here _ _ _|with_reducible apply Upd.there));done)|(repeat(first|exact Upd.here _ _ _|apply Upd.there)));(first|exact zhz _ _ _ _ (by omega)|exact arrSet (by(repeat(first|exact IsL.nil|apply IsL.cons|exact IsL.refl _)))|rfl);(first|(simp only[zaD,List.size_toArray,List.length_cons,List.length_nil];omega)|(simp[zaD];done)|(simp[zaD];omega));exact rfl)|((with_reducible apply zdt);exact rfl;exact rfl;(first|((repeat(first|with_reducible exact Upd.here _ _ _|with_reducible apply Upd.there));done)|(repeat(first|exact Upd.here _ _ _|apply Upd.there)));exact fun _=>rfl;(first|exact List.getElem?_set_self (by first|assumption|omega)|exact List.getElem?_eq_getElem (by first|assumption|omega|(simp only[List.length_set];omega)));(first|exact rfl  );exact rfl)|((with_reducible apply zeK);exact rfl;exact rfl;(first|((repeat(first|with_reducible exact Upd.here _ _ _|with_reducible apply Upd.there));done)|(repeat(first|exact Upd.here _ _ _|apply Upd.there)));exact fun _=>rfl;(first|exact List.getElem?_set_self (by first|assumption|omega)|exact List.getElem?_eq_getElem (by first|assumption|omega|(simp only[List.length_set];omega)));decide;(first|exact rfl  );exact rfl)|((with_reducible apply za2);exact rfl;exact rfl;(first|((repeat(first|with_reducible exact Upd.here _ _ _|with_reducible apply Upd.there));done)|(repeat(first|exact Upd.here _ _ _|apply Upd.there)));exact fun _=>rfl;(first|exact List.getElem?_set_self (by first|assumption|omega)|exact List.getElem?_eq_getElem (by first|assumption|omega|(simp only[List.length_set];omega)));decide;(first|exact rfl  );exact rfl)|((with_reducible apply zhH);exact rfl;exact rfl;(first|((repeat(first|with_reducible exact Upd.here _ _ _|with_reducible apply Upd.there));done)|(repeat(first|exact Upd.here _ _ _|apply Upd.there)));exact rfl)|fail):ES P C E S o N:=h
theorem Zeg{P:Program}{C:Ctx}{E:zaE}{S:List Ent}{o:Oper}{N:zaE→List Ent→Prop}(h:ES P C E S o N:=by first|((with_reducible apply ES_alloc);(first|exact zgc _|exact cellsL (by(repeat(first|exact IsL.nil|apply IsL.cons|exact IsL.refl _)))|exact rfl);exact rfl)|((with_reducible apply ES_box);exact rfl;(first|exact zgc _|exact cellsL (by(repeat(first|exact IsL.nil|apply IsL.cons|exact IsL.refl _)))|exact rfl);exact rfl)|((with_reducible apply zfy);exact rfl;exact rfl;exact rfl;exact rfl;exact rfl;((repeat(first|exact IsL.nil|apply IsL.cons|exact IsL.refl _)));exact rfl)|((with_reducible apply zdu (enc:=zag) (z0:=0));exact rfl;exact rfl;exact rfl;(first|omega|(simp;omega));decide;exact rfl)|((with_reducible apply zdu (enc:=boolEnc) (z0:=false));exact rfl;exact rfl;exact rfl;(first|omega|(simp;omega));decide;exact rfl)|((with_reducible apply ziV);exact rfl)|((with_reducible apply zfO);exact rfl)|fail):ES P C E S o N:=h
theorem Zga{p R:Prop}(r:R)(h:Rest R→p:=by first|(intro r;first|((with_reducible (first|apply T_seq|apply T_region|apply TL_nil|apply At_then|apply T_block|apply At_block|apply T_skip|apply T_exit|apply zhC|apply zf9|apply T_ret|apply ziI|apply zhD|apply TD_nil));exact r.out)|((with_reducible apply zga);exact rfl;exact r.out)|((with_reducible apply zcE);exact QS.auto;exact rfl;exact r.out)|((with_reducible apply TL_yes);exact rfl;exact rfl;(with_reducible exact rfl);exact r.out)|((with_reducible apply TL_no);exact rfl;exact rfl;(first|with_reducible exact Bool.not_true.symm|with_reducible exact Bool.not_false.symm);exact rfl;exact r.out)|((with_reducible apply ziK);exact rfl;exact rfl;exact rfl;exact r.out))|(intro r;(with_reducible apply zan);exact Zer;exact rfl;rintro _ _ ⟨rfl,rfl⟩;exact r.out)):p:=h ⟨r⟩
theorem Zgb{p:Prop}{R:Nat→Prop}(r:∀g,R g)(h:Rest (∀g,R g)→p:=by intro r;(with_reducible apply zan);exact Zeg;exact rfl;rintro _ _ ⟨g,rfl,rfl⟩;exact(r.out g)):p:=h ⟨r⟩
theorem Zha{p R:Prop}(r:R)(h:Rest R→p:=by first|(intro r;first|((with_reducible (first|apply za9|apply zba|apply zbd|apply zbe));exact QS.auto;exact rfl;exact r.out)|((with_reducible (first|apply zaN|apply zaO));exact rfl;exact rfl;(with_reducible exact rfl);exact QS.auto;exact rfl;exact r.out)|((with_reducible apply zcE);exact QS.auto;exact rfl;exact r.out)|((with_reducible (first|apply T_seq|apply T_region|apply TL_nil|apply At_then|apply T_block|apply At_block|apply T_skip|apply T_exit|apply zhC|apply zf9|apply T_ret|apply ziI|apply zhD|apply TD_nil));exact r.out)|((with_reducible apply zga);exact rfl;exact r.out)|((with_reducible apply TD_no);exact rfl;exact rfl;exact rfl;(first|with_reducible exact Bool.not_true.symm|with_reducible exact Bool.not_false.symm);exact rfl;exact r.out)|((with_reducible apply TD_eno);exact rfl;exact rfl;exact rfl;(first|with_reducible exact Bool.not_true.symm|with_reducible exact Bool.not_false.symm);exact rfl;exact r.out)|((with_reducible apply TD_noU);exact rfl;exact rfl;exact rfl;exact rfl;exact r.out)|((with_reducible apply TD_enoU);exact rfl;exact rfl;exact rfl;exact rfl;exact r.out)|((with_reducible apply TL_yes);exact rfl;exact rfl;(with_reducible exact rfl);exact r.out)|((with_reducible apply TL_no);exact rfl;exact rfl;(first|with_reducible exact Bool.not_true.symm|with_reducible exact Bool.not_false.symm);exact rfl;exact r.out)|((with_reducible apply ziK);exact rfl;exact rfl;exact rfl;exact r.out))|(intro r;first|((with_reducible (first|apply zaf|apply zae));exact Zer;exact rfl;rintro _ _ ⟨rfl,rfl⟩;first|exact⟨SUB,r.out⟩|exact r.out)|((with_reducible apply zan);exact Zer;exact rfl;rintro _ _ ⟨rfl,rfl⟩;first|exact⟨SUB,r.out⟩|exact r.out)|((with_reducible (first|apply TD_e2y|apply TD_e3y));exact rfl;exact rfl;(with_reducible exact rfl);exact Zer;rintro _ _ ⟨rfl,rfl⟩;first|exact⟨SUB,r.out⟩|exact r.out))):p:=h ⟨r⟩
theorem Zhb{p:Prop}{R:Nat→Prop}(r:∀g,R g)(h:Rest (∀g,R g)→p:=by intro r;first|((with_reducible (first|apply zaf|apply zae));exact Zeg;exact rfl;rintro _ _ ⟨g,rfl,rfl⟩;first|exact⟨SUB,(r.out g)⟩|exact(r.out g))|((with_reducible apply zan);exact Zeg;exact rfl;rintro _ _ ⟨g,rfl,rfl⟩;first|exact⟨SUB,(r.out g)⟩|exact(r.out g))|((with_reducible (first|apply TD_e2y|apply TD_e3y));exact rfl;exact rfl;(with_reducible exact rfl);exact Zeg;rintro _ _ ⟨g,rfl,rfl⟩;first|exact⟨SUB,(r.out g)⟩|exact(r.out g))):p:=h ⟨r⟩
end
section
open Go.RowKit
inductive Pull:List Ent→List Ent→List Ent→Prop
 |nil (S:List Ent):Pull S [] S
 |cons {S R T R':List Ent} {e:Ent} (h:Pick S e R) (t:Pull R T R'):Pull S (e::T) R'
theorem Pull.mem:∀{S T R:List Ent},Pull S T R→∀f,f∈T++R↔f∈S
 |_,_,_,.nil _,f=>by simp
 |_,_,_,.cons h t,f=>by
  obtain⟨A,B,rfl,rfl⟩:=h.form
  have:=t.mem f
  rw[List.cons_append,List.mem_cons,this]
  simp only[List.mem_append,List.mem_cons]
  constructor
  ·rintro(h|h|h)
   ·exact .inr (.inl h)
   ·exact .inl h
   ·exact .inr (.inr h)
  ·rintro(h|h|h)
   ·exact .inr (.inl h)
   ·exact .inl h
   ·exact .inr (.inr h)
section
variable {C:Ctx}{w:World}{S T R:List Ent} 
theorem Mem.pull(hw:Mem C w S)(h:Pull S T R):Mem C w (T++R):=by
 induction h with
 |nil S=>exact hw
 |@cons S R T R' e h t ih =>
  have h1:=hw.pick h
  have hap:=List.pairwise_cons.1 h1.apart
  have h2:=ih (h1.sub (List.sublist_cons_self _ _))
  refine⟨h2.keeps,fun f hf=>?_,?_⟩
  ·rcases List.mem_cons.1 hf with rfl|hf
   ·exact h1.holds f Zj
   ·exact h2.holds f hf
  ·exact List.pairwise_cons.2 ⟨fun f hf=>hap.1 f ((t.mem f).1 hf),h2.apart⟩
end
inductive AppL:List Ent→List Ent→List Ent→Prop
 |nil (R:List Ent):AppL [] R R
 |cons {T R S2:List Ent} (e:Ent) (h:AppL T R S2):AppL (e::T) R (e::S2)
theorem AppL.eq{T R S2:List Ent}(h:AppL T R S2):T++R=S2:=by
 induction h with
 |nil R=>rfl
 |cons e _ ih=>rw[List.cons_append,ih]
section
variable {P:Program}{C:Ctx}{Q:Exit→Act→World→Prop}{E:zaE}{S S1 S1' R S2:List Ent} 
variable {d ty:Nat}{ps:String}{af:Array Edge}{g0:Option (Nat×Bool)}{f:Nat} 
theorem ES_callMp[hf:IsFn P f]{xs:List Operand}{vs:List Value}{ats:Array TypeId}{v:Value}(hx:evs E xs=some vs)(hS:Pull S S1 R)(hA:AppL S1' R S2) 
  (hc:∀w,Mem C w (S1++R)→Calls P f vs.toArray w fun e w'=>e=.returned v∧Mem ⟨0,zbb S1,w⟩ w' S1') (hd:Nat.ble (d+1) C.n=true) :
  ES P C E S ⟨some d,.call ⟨.value (.func f),xs.toArray,ats⟩,ty,ps,af,g0⟩ (fun E' S'=>E'=(d,v)::E∧S'=S2) :=
 (ziO (fun u T=>u=v∧T=S1'++R) hx (fun w hw=>(hc w (hw.pull hS)).mono fun e w' ⟨he,hb⟩=>⟨v,_,he,(hw.pull hS).frame hb,rfl,rfl⟩) hd).weak (by rintro _ _ ⟨_,⟨rfl,rfl⟩,rfl⟩;exact⟨rfl,hA.eq⟩)
theorem Mem.blkAt{w:World}{g t:Nat}{cs:Array Value}(hw:Mem C w S)(hm:zak g t cs∈S):g<w.heap.size∧∀o,w.cell? ⟨g,o,Option.none⟩=cs[o]? :=
 ⟨((hw.holds _ hm).1:Blk w g t cs).lt,fun o=>((hw.holds _ hm).1:Blk w g t cs).cell o⟩
theorem ES_callNew[hf:IsFn P f]{X:Type}{xs:List Operand}{vs:List Value}{ats:Array TypeId}(v:X→Value)(S1:X→List Ent){S2:X→List Ent}(hx:evs E xs=some vs)(hA:∀x,AppL (S1 x) S (S2 x)) 
  (hc:∀w,Mem C w S→Calls P f vs.toArray w fun e w'=>∃x,e=.returned (v x)∧Mem ⟨0,[],w⟩ w' (S1 x)) (hd:Nat.ble (d+1) C.n=true) :
  ES P C E S ⟨some d,.call ⟨.value (.func f),xs.toArray,ats⟩,ty,ps,af,g0⟩ (fun E' S'=>∃x,E'=(d,v x)::E∧S'=S2 x) :=
 (ziO (fun u T=>∃x,u=v x∧T=S2 x) hx (fun w hw=>(hc w hw).mono fun e w' ⟨x,he,hb⟩=>⟨v x,_,he,(show Mem C w ([]++S) from hw).frame (S1:=[]) (n:=0) hb,x,rfl,(hA x).eq⟩) hd).weak
  (by rintro _ _ ⟨_,⟨x,rfl,rfl⟩,rfl⟩;exact⟨x,rfl,rfl⟩)
theorem T_cutIf{X:Type}(id:Nat){ops:Array Oper}{dr:Bool}{x y:Code}(I:X→zaE)(J:X→List Ent)(pre:X→Prop)(hx:T P C (.seq (.region id ops dr) x) (Exit.then (Cut C I J pre) Q) E S)(hy:∀z,pre z→T P C y Q (I z) (J z)):T P C (.seq (.seq (.region id ops dr) x) y) Q E S :=
 T_cut I J pre hx hy
end
theorem Zp{S T R:List Ent}(h:Pull S T R:=by(repeat(first|exact Pull.nil _|(apply Pull.cons;(repeat(first|with_reducible exact Pick.here _ _|with_reducible apply Pick.there)))))):Pull S T R:=h
theorem Za{T R S:List Ent}(h:AppL T R S:=by repeat(first|exact AppL.nil _|apply AppL.cons)):AppL T R S:=h
end
section
open Go.RowKit
theorem Own.facts{α:Type}{enc:α→List Value}{M e:Nat}{w:World}{B n c:Nat}{A:Option Addr}{ls:List α}(h:Own enc M e w B (.slice A n c) ls):ls.length≤c∧(A=none→c=0):=by
 rcases h.2 with⟨hv,h0⟩|⟨g,cap,cur,hv,_,_,hn,_⟩
 ·simp only[Value.slice.injEq] at hv
  obtain⟨rfl,-,rfl⟩:=hv
  exact⟨by omega,fun _=>rfl⟩
 ·simp only[Value.slice.injEq] at hv
  obtain⟨rfl,-,rfl⟩:=hv
  exact⟨hn,fun h=>by cases h⟩
theorem ziW{P:Program}{C:Ctx}{Q:Exit→Act→World→Prop}{E:zaE}{S:List Ent}{code:Code}{p:Prop}(hS:∀w,Mem C w S→p)(h:p→T P C code Q E S):T P C code Q E S :=
 ⟨fun a w ha hw=>(h (hS w hw)).run a w ha hw⟩
theorem Mem.ownFacts{α:Type}{enc:α→List Value}{M et c:Nat}{A:Option Addr}{ls:List α}{C:Ctx}{S:List Ent}{w:World}(hw:Mem C w S)(hm:zac enc M et A c ls∈S):ls.length≤c∧(A=Option.none→c=0) :=
 Own.facts (show Own enc M et w 0 (.slice A ls.length c) ls from(hw.holds _ hm).1)
theorem Mem.widen{n:Nat}{F F':List Nat}{w w':World}{S:List Ent}(h:Mem ⟨n,F,w⟩ w' S)(hF:∀g∈F,g∈F'):Mem ⟨n,F',w⟩ w' S :=
 ⟨⟨h.keeps.os,h.keeps.tape,h.keeps.output,h.keeps.size,fun k hk hn=>h.keeps.block k hk fun hm=>hn (hF k hm)⟩,fun e he=>⟨(h.holds e he).1,fun g hg=>⟨((h.holds e he).2 g hg).1,((h.holds e he).2 g hg).2.imp (hF g) id⟩⟩,h.apart⟩
theorem Mem.ofOwn{α:Type}{enc:α→List Value}{M et:Nat}{ls:List α}{A:Option Addr}{c:Nat}{w w':World}(hb:Below w.heap.size w w')(ho:Own enc M et w' w.heap.size (.slice A ls.length c) ls):Mem ⟨0,[],w⟩ w' [zac enc M et A c ls] :=
 (Mem.nil ⟨0,[],w⟩).fresh (e:=zac enc M et A c ls) hb (fun g hg=>World.ownsRow.lt ho g hg) ho.base
theorem Mem.theBlk{C:Ctx}{S:List Ent}{w:World}{g t:Nat}{cs:Array Value}(hw:Mem C w S)(hm:zak g t cs∈S):Blk w g t cs:=(hw.holds _ hm).1
theorem Mem.theOwn{α:Type}{enc:α→List Value}{M et c:Nat}{A:Option Addr}{ls:List α}{C:Ctx}{S:List Ent}{w:World}(hw:Mem C w S)(hm:zac enc M et A c ls∈S):Own enc M et w 0 (.slice A ls.length c) ls:=(hw.holds _ hm).1
end
section
open Go.RowKit
class PlainT (P:Program) (t:Nat):Prop where
 make:∀(v:Value) (w:World),(Instr.makeInterface t v).run P w=.ok (.iface t v) w
class IfaceT (P:Program) (t:Nat):Prop where
 und:∃ms,P.underlying t=some (.interface ms)
theorem zeP{P:Program}{t:Nat}{fs:Array Field}(h:P.underlying t=some (.struct fs)):PlainT P t:=⟨fun v w=>by simp[Instr.makeInterface,run_underlying h]⟩
class MethodOf (P:Program) (t:Nat) (name:String) (v:Value) (f:outParam Nat) (r:outParam Value):Prop where
 run:∀w,(method (P.types.size+Made.depth) t v name).run P w=.ok (f,r) w
section
variable {P:Program}{C:Ctx}{Q:Exit→Act→World→Prop}{E:zaE}{S S1 R S2:List Ent} 
variable {d ty ty2 ty3 t:Nat}{ps:String}{af:Array Edge}{g0:Option (Nat×Bool)}{f:Nat}{x y:Operand}{v r:Value} 
theorem zbc[hs:PlainT P t](hx:evo E x=some v):QS P C E S (.makeInterface t x) ty (.iface t v) :=
 QS.of (fun a w ha _=>by
  have:=hs.make v w
  simp[execOp,ha.evo hx,this])
theorem zgi[h:IfaceT P t](u:Nat)(v:Value)(w:World):(Op.equal t (.iface u v) .nilIface).run P w=.ok false w:=by
 obtain⟨ms,h⟩:=h.und
 unfold Op.equal Op.maxDepth Op.equalIn
 simp[run_underlying h]
theorem zh3[h:IfaceT P t](w:World):(Op.equal t .nilIface .nilIface).run P w=.ok true w:=by
 obtain⟨ms,h⟩:=h.und
 unfold Op.equal Op.maxDepth Op.equalIn
 simp[run_underlying h]
theorem zdx[IfaceT P t]{u:Nat}(hx:evo E x=some (.iface u v))(hy:evo E y=some .nilIface):QS P C E S (.binOp .eql t x y ty3) ty (.bool false) :=
 QS.of (fun a w ha _=>by
  unfold execOp
  simp only[ha.evo hx,ha.evo hy]
  have hg:(eqGuard .eql t x y (.iface u v) .nilIface).run P w=.ok () w:=rfl
  have hb:(binOp .eql t (.iface u v) .nilIface).run P w=.ok (.bool false) w:=by
   unfold binOp;simp[zgi]
  simp only[Sem.run_bind,hg,Result.andThen_ok,hb];rfl)
theorem zed[IfaceT P t]{z:Value}(hx:evo E x=some .nilIface)(hz:z=.nilIface):QS P C E S (.binOp .eql t x (.const z) ty3) ty (.bool true) :=
 QS.of (fun a w ha _=>by
  subst hz
  unfold execOp
  simp only[ha.evo hx]
  have hg:(eqGuard .eql t x (.const .nilIface) .nilIface .nilIface).run P w=.ok () w:=by
   unfold eqGuard
   cases x<;>rfl
  have hb:(binOp .eql t .nilIface .nilIface).run P w=.ok (.bool true) w:=by
   unfold binOp;simp[zh3]
  simp only[Act.eval,Sem.run_bind,hg,Result.andThen_ok,hb];rfl)
theorem QS_nilCheckM{u:Nat}{name:String}{cs:Array Value}(hx:evo E x=some (.func (.method name) #[.iface u v] cs))(hm:∀w,(nilAhead (P.types.size+Made.depth) u v name).run P w=.ok (some false) w):QS P C E S (.nilCheck x) ty (.func (.method name) #[.iface u v] cs) :=
 QS.of (fun a w ha _=>by
  have hp:(program).run P w=.ok P w:=rfl
  simp[execOp,ha.evo hx,hp,hm w])
theorem run_invoke[hf:IsFn P f]{u:Nat}{name:String}{xs:List Operand}{vs:List Value}{ats:Array TypeId}(hv:evo E x=some (.iface u v))(hm:MethodOf P u name v f r)(hx:evs E xs=some vs){a:Act}{w:World}(ha:Env C.n a E):
  (execOp a.eval ⟨some d,.call ⟨.invoke x name,xs.toArray,ats⟩,ty,ps,af,g0⟩).run P w=.ok (.enter f (r::vs).toArray) w:=by
 have h1:=ha.evo hv
 have h2:=zec ha hx
 have hp:(program).run P w=.ok P w:=rfl
 have h3:=hf.run (r::vs).toArray w
 have e1:(#[Value.iface u v]++vs.toArray).extract 1 (#[Value.iface u v]++vs.toArray).size=vs.toArray:=by simp
 have e2:(#[Value.iface u v]++vs.toArray)[0]?=some (.iface u v):=by simp
 have e3:#[r]++vs.toArray=(r::vs).toArray:=by simp
 simp only[execOp,resolve,h1,h2,Sem.run_bind,Sem.run_pure,Result.andThen_ok,invoke,e2,e1,callMethod,hp,hm.run w,e3,h3]
theorem zch[hf:IsFn P f]{u:Nat}{name:String}{xs:List Operand}{vs:List Value}{ats:Array TypeId}{z:Value}(hv:evo E x=some (.iface u v))(hm:MethodOf P u name v f r)(hx:evs E xs=some vs) 
  (hc:∀w,Mem C w S→Calls P f (r::vs).toArray w fun e w'=>e=.returned z∧Below w.heap.size w w') (hd:Nat.ble (d+1) C.n=true) :
  ES P C E S ⟨some d,.call ⟨.invoke x name,xs.toArray,ats⟩,ty,ps,af,g0⟩ (fun E' S'=>E'=(d,z)::E∧S'=S):=by
 refine(zie (fun u T=>u=z∧T=S) (fun a w ha=>run_invoke hv hm hx ha) (fun w hw=>(hc w hw).mono fun e w' ⟨he,hb⟩=>⟨z,_,he,hw.below hb,rfl,rfl⟩) hd).weak (by rintro _ _ ⟨_,⟨rfl,rfl⟩,rfl⟩;exact⟨rfl,rfl⟩)
theorem zcz[hf:IsFn P f]{X:Type}{u:Nat}{name:String}{xs:List Operand}{vs:List Value}{ats:Array TypeId}(z:X→Value)(S1':X→List Ent){S2:X→List Ent}(hv:evo E x=some (.iface u v))(hm:MethodOf P u name v f r)(hx:evs E xs=some vs) 
  (hS:Pull S S1 R) (hA:∀x,AppL (S1' x) R (S2 x))
  (hc:∀w,Mem C w (S1++R)→Calls P f (r::vs).toArray w fun e w'=>∃x,e=.returned (z x)∧Mem ⟨0,zbb S1,w⟩ w' (S1' x)) (hd:Nat.ble (d+1) C.n=true) :
  ES P C E S ⟨some d,.call ⟨.invoke x name,xs.toArray,ats⟩,ty,ps,af,g0⟩ (fun E' S'=>∃x,E'=(d,z x)::E∧S'=S2 x) :=
 (zie (fun u T=>∃x,u=z x∧T=S2 x) (fun a w ha=>run_invoke hv hm hx ha) (fun w hw=>(hc w (hw.pull hS)).mono fun e w' ⟨x,he,hb⟩=>⟨z x,_,he,(hw.pull hS).frame hb,x,rfl,(hA x).eq⟩) hd).weak
  (by rintro _ _ ⟨_,⟨x,rfl,rfl⟩,rfl⟩;exact⟨x,rfl,rfl⟩)
theorem zar[hf:IsFn P f]{X:Type}{xs:List Operand}{vs:List Value}{ats:Array TypeId}(z:X→Value)(S1':X→List Ent){S2:X→List Ent}(hx:evs E xs=some vs) 
  (hS:Pull S S1 R) (hA:∀x,AppL (S1' x) R (S2 x))
  (hc:∀w,Mem C w (S1++R)→Calls P f vs.toArray w fun e w'=>∃x,e=.returned (z x)∧Mem ⟨0,zbb S1,w⟩ w' (S1' x)) (hd:Nat.ble (d+1) C.n=true) :
  ES P C E S ⟨some d,.call ⟨.value (.func f),xs.toArray,ats⟩,ty,ps,af,g0⟩ (fun E' S'=>∃x,E'=(d,z x)::E∧S'=S2 x) :=
 (ziO (fun u T=>∃x,u=z x∧T=S2 x) hx (fun w hw=>(hc w (hw.pull hS)).mono fun e w' ⟨x,he,hb⟩=>⟨z x,_,he,(hw.pull hS).frame hb,x,rfl,(hA x).eq⟩) hd).weak
  (by rintro _ _ ⟨_,⟨x,rfl,rfl⟩,rfl⟩;exact⟨x,rfl,rfl⟩)
end
/-! Structs without a cell -/
class FieldZ (P:Program) (s f:Nat):Prop where
 run:∃(fs:Array Field) (fd:Field),P.underlying s=some (.struct fs)∧fs[f]?=some fd∧fd.offset=0∧fd.byteOffset=0∧∀w,(sizeOf fd.type).run P w=.ok 0 w
class CellsZ (P:Program) (t:Nat):Prop where
 z:P.cellsOf t=0
theorem run_byteOf0{P:Program}{g t o:Nat}[hz:CellsZ P t]{w:World}{cs:Array Value}(hb:Blk w g t cs):(byteOf ⟨g,o,none⟩).run P w=.ok 0 w:=by
 unfold Blk at hb
 have h1:w.shape? g=some (t,cs.size):=by simp[World.shape?,hb]
 have hp:(program).run P w=.ok P w:=rfl
 have hv:(noView ⟨g,o,none⟩).run P w=.ok () w:=by simp[noView,viewAt,h1]
 simp[byteOf,hp,hv,h1,hz.z]
section
variable {P:Program}{C:Ctx}{E:zaE}{S:List Ent}{ty g t s f:Nat}{x:Operand}{cs:Array Value} 
theorem zgj[hs:FieldZ P s f][hz:CellsZ P s](hx:evo E x=some (.pointer (some ⟨g,0,none⟩)))(hm:zak g s cs∈S):QS P C E S (.fieldAddr s x f) ty (.pointer (some ⟨g,0,none⟩)) :=
 QS.of (fun a w ha hw=>by
  obtain⟨fs,fd,h1,h2,h3,h4,h5⟩:=hs.run
  have hb:Blk w g s cs:=(hw.holds _ hm).1
  have:=run_byteOf0 (P:=P) (o:=0) hb
  simp[execOp,ha.evo hx,Instr.fieldAt,run_underlying h1,h2,Instr.sureAddr,fieldPlace,h5 w,partAt,this,h3,h4])
theorem Lds.zero[hs:AggOf P s 0](ad:Addr):Lds P C S s ad (.agg #[]):=fun w hw=>by
 have:(loadCells ad 0).run P w=.ok #[] w:=rfl
 simp[loadVar,hs.agg w,hs.size w,this]
end
end
section
open Go.RowKit
section
variable {P:Program}{C:Ctx}{E:zaE}{S:List Ent}{t e m g p n c ty:Nat}{x y:Operand}{v:Value} 
theorem zci[hs:SliceOf P t e m]{k:IntKind}{j:Nat}(hx:evo E x=some (.slice (some ⟨g,p,none⟩) n c))(hy:evo E y=some (.int k (j:Nat)))(hj:j≤c):
  QS P C E S (.slice t x none (some y) none) ty (.slice (some ⟨g,p,none⟩) j c) :=
 QS.of (fun a w ha _=>by
  have he:P.elem t=e:=by simp[Program.elem,hs.und]
  have hu:P.underlying t=some (.slice (P.elem t)):=by rw[he];exact hs.und
  have hr:=run_slice_h (P:=P) (w:=w) t (some ⟨g,p,none⟩) n c hu k (j:Int) Zo Zo
  rw[he,hs.size w] at hr
  simp only[Result.andThen_ok,Int.toNat_natCast] at hr
  have hv:sliced (some ⟨g,p,none⟩) 0 j c m=.slice (some ⟨g,p,none⟩) j c:=by
   unfold sliced
   split<;>simp[zds]
  rw[hv] at hr
  simp[execOp,ha.evo hx,ha.evo hy,run_sliceAt_slice (P:=P) (w:=w) t _ _ _ _ hu,hr])
end
end
section
open Go.RowKit
theorem zeroCells_mem{zs:Array Value}{n:Nat}{u:Value}(h:u∈(Builtin.zeroCells zs n).toList):u∈zs.toList:=by
 unfold Builtin.zeroCells at h
 simp only[Array.toList_map,List.mem_map] at h
 obtain⟨j,hj,rfl⟩:=h
 by_cases h0:zs.size=0
 ·simp[h0] at hj
 ·have hlt:j % zs.size<zs.size:=Nat.mod_lt _ Zo
  rw[getElem!_pos zs (j % zs.size) hlt]
  simp
section
variable {P:Program}{C:Ctx}{E:zaE}{S S':List Ent}{ty t g c M e i p n k bytes:Nat}{ps:String}{af:Array Edge}{g0:Option (Nat×Bool)}{x:Operand}{z:Value}{α:Type}{enc:α→List Value}{ls:List α} 
theorem ES_none{op:Op}(Φ:List Ent→Prop) 
  (hr:∀a w,Env C.n a E→Mem C w S→∃v w' S',(execOp a.eval ⟨none,op,ty,ps,af,g0⟩).run P w=.ok (.value v) w'∧Mem C w' S'∧Φ S'):ES P C E S ⟨none,op,ty,ps,af,g0⟩ (fun E' S'=>Φ S'∧E'=E):=by
 intro a w K Q ha hw hK
 obtain⟨v,w',S',h1,h2,h3⟩:=hr a w ha hw
 unfold Oper.wp
 rw[h1]
 exact hK _ _ _ _ ⟨h3,rfl⟩ (ha.putNone v) h2
end
end
section
open Go.RowKit
section
variable {P:Program}{C:Ctx}{E:zaE}{S S':List Ent} 
variable {d ty ty2 ty3:Nat}{ps:String}{af:Array Edge}{g0:Option (Nat×Bool)}{x y m:Operand}{t k e g:Nat}{n:Int}{a b:ByteArray} 
theorem QS_eqlStr{r:Bool}(hx:evo E x=some (.string a))(hy:evo E y=some (.string b))(h:(a.data.toList == b.data.toList)=r):QS P C E S (.binOp .eql ty2 x y ty3) ty (.bool r) :=
 QS.of (fun ac w ha _=>by
  unfold execOp
  simp only[ha.evo hx,ha.evo hy]
  have hg:(eqGuard .eql ty2 x y (.string a) (.string b)).run P w=.ok () w:=rfl
  have hb:(binOp .eql ty2 (.string a) (.string b)).run P w=.ok (.bool r) w:=by
   rw[binOp_string_eql,ByteArray.toList_eq,ByteArray.toList_eq,h];rfl
  simp only[Sem.run_bind,hg,Result.andThen_ok,hb];rfl)
theorem QS_rem{i j:Int}(hx:evo E x=some (.int .i64 i))(hy:evo E y=some (.int .i64 j))(hi:0≤i)(hj:0<j):QS P C E S (.binOp .rem ty2 x y ty3) ty (.int .i64 (i % j)) :=
 QS.of (fun a w ha _=>zcQ ha hx hy _ (by simp[binOp,Op.intDiv,show ¬j=0 by omega,Int.tmod_eq_emod_of_nonneg hi]))
end
end
section
open Go.RowKit
structure Hd where
 a:Option Addr
 n:Nat
 c:Nat
def Hd.v(h:Hd):Value:=.slice h.a h.n h.c
def ziY(h:Hd):List Value:=[.slice h.a h.n h.c]
inductive All2 {α β:Type} (R:α→β→Prop):List α→List β→Prop
 |nil:All2 R [] []
 |cons {a:α} {b:β} {l:List α} {m:List β} (h:R a b) (t:All2 R l m):All2 R (a::l) (b::m)
def Inner{α:Type}(enc:α→List Value)(M e:Nat)(w:World)(hs:List Hd)(rows:List (List α)):Prop :=
 All2 (fun h l=>h.n=l.length∧Own enc M e w 0 h.v l) hs rows∧hs.Pairwise fun h g=>∀k,h.v.ownBlock=some k→g.v.ownBlock≠some k
theorem Own.same{α:Type}{enc:α→List Value}{M e:Nat}{w w':World}{v:Value}{l:List α}(h:∀g,v.ownBlock=some g→w'.heap[g]?=w.heap[g]?)(hp:Own enc M e w 0 v l):Own enc M e w' 0 v l:=by
 refine⟨hp.1,?_⟩
 rcases hp.2 with hn|⟨g,cap,cur,hv,hbb,hg,rest⟩
 ·exact .inl hn
 ·refine .inr ⟨g,cap,cur,hv,hbb,(h g ?_).trans hg,rest⟩
  rw[hv];rfl
theorem zhJ{α β:Type}{R R':α→β→Prop}:∀{l:List α} {m:List β},All2 R l m→(∀a∈l,∀b,R a b→R' a b)→All2 R' l m
 |_,_,.nil,_=>.nil
 |_,_,.cons h t,f=>.cons (f _ List.mem_cons_self _ h) (zhJ t fun a ha b=>f a (List.mem_cons_of_mem _ ha) b)
theorem zfA{α β:Type}{R:α→β→Prop}{a:α}{b:β}(h:R a b):∀{l:List α} {m:List β},All2 R l m→All2 R (l++[a]) (m++[b])
 |_,_,.nil=>.cons h .nil
 |_,_,.cons h' t=>.cons h' (zfA h t)
theorem ziZ{α β:Type}{R:α→β→Prop}:∀{l:List α} {m:List β},All2 R l m→l.length=m.length
 |_,_,.nil=>rfl
 |_,_,.cons _ t=>by simp[ziZ t]
theorem zg9{α β:Type}{R:α→β→Prop}:∀{l:List α} {m:List β},All2 R l m→∀i (h1:i<l.length) (h2:i<m.length),R l[i] m[i]
 |_,_,.nil,_,h,_=>by simp at h
 |_,_,.cons h' _,0,_,_=>h'
 |_,_,.cons _ t,i+1,h1,h2=>zg9 t i (by simpa using h1) (by simpa using h2)
def zaR{α:Type}(enc:α→List Value)(M e:Nat)(hs:List Hd)(rows:List (List α)):Ent :=
 ⟨fun k=>∃h∈hs,h.v.ownBlock=some k,hs.filterMap fun h=>h.v.ownBlock,fun k=>by simp[List.mem_filterMap],fun w=>Inner enc M e w hs rows,fun w w' h hp =>
  ⟨zhJ hp.1 fun a ha b hab=>⟨hab.1,hab.2.same fun g hg=>h g ⟨a,ha,hg⟩⟩,hp.2⟩⟩
section
variable {C:Ctx}{w w':World}{S S1 S':List Ent}{α:Type}{enc:α→List Value}{M e:Nat}{hs:List Hd}{rows:List (List α)}{l:List α}{A:Option Addr}{c:Nat} 
theorem Mem.nilInner(enc:α→List Value)(M e:Nat)(h:Mem C w S):Mem C w (zaR enc M e [] []::S) :=
 h.fresh (e:=zaR enc M e [] []) (Below.refl _ _) (fun g hg=>by obtain⟨a,ha,_⟩:=hg;simp at ha) ⟨.nil,.nil⟩
theorem Mem.absorb(hp:Pick S (zac enc M e A c l) S1)(hu:Upd S1 (zaR enc M e hs rows) (zaR enc M e (hs++[⟨A,l.length,c⟩]) (rows++[l])) S')(hw:Mem C w S):Mem C w S':=by
 have h1:=hw.pick hp
 obtain⟨X,Y,rfl,rfl⟩:=hu.form
 have hap:=List.pairwise_cons.1 h1.apart
 have hap2:=hap.2
 rw[List.pairwise_append,List.pairwise_cons] at hap2
 obtain⟨hX,⟨hY1,hY⟩,hXY⟩:=hap2
 have ho:=h1.holds _ List.mem_cons_self
 have hin:=h1.holds (zaR enc M e hs rows) Zj
 have hfar:∀k,(∃h∈hs,h.v.ownBlock=some k)→(Value.slice A l.length c).ownBlock≠some k:=fun k hk hk'=>hap.1 (zaR enc M e hs rows) Zj k hk' hk
 have hhas:∀k,(zaR enc M e (hs++[⟨A,l.length,c⟩]) (rows++[l])).has k→(zaR enc M e hs rows).has k∨(zac enc M e A c l).has k:=by
  rintro k ⟨h,hm,hk⟩
  rcases List.mem_append.1 hm with hm|hm
  ·exact .inl ⟨h,hm,hk⟩
  ·obtain rfl:h=⟨A,l.length,c⟩:=by simpa using hm
   exact .inr hk
 refine⟨h1.keeps,fun f hf=>?_,?_⟩
 ·rcases List.mem_append.1 hf with hf|hf
  ·exact h1.holds f (by simp[hf])
  ·rcases List.mem_cons.1 hf with rfl|hf
   ·refine⟨⟨zfA ⟨rfl,ho.1⟩ hin.1.1,?_⟩,fun k hk=>?_⟩
    ·rw[List.pairwise_append]
     refine⟨hin.1.2,List.pairwise_singleton _ _,fun h hh g hg k hk=>?_⟩
     obtain rfl:g=⟨A,l.length,c⟩:=by simpa using hg
     exact hfar k ⟨h,hh,hk⟩
    ·rcases hhas k hk with h|h
     ·exact hin.2 k h
     ·exact ho.2 k h
   ·exact h1.holds f (by simp[hf])
 ·rw[List.pairwise_append,List.pairwise_cons]
  refine⟨hX,⟨fun f hf k hk=>?_,hY⟩,fun f hf g hg k hk=>?_⟩
  ·rcases hhas k hk with h|h
   ·exact hY1 f hf k h
   ·exact hap.1 f (by simp[hf]) k h
  ·rcases List.mem_cons.1 hg with rfl|hg
   ·intro hk'
    rcases hhas k hk' with h|h
    ·exact hXY f hf _ List.mem_cons_self k hk h
    ·exact hap.1 f (by simp[hf]) k h hk
   ·exact hXY f hf g (by simp[hg]) k hk
theorem Mem.innerRd(hw:Mem C w S)(hm:zaR enc M e hs rows∈S)(hM:∀x,(enc x).length=M){j:Nat}(h1:j<hs.length)(h2:j<rows.length):hs[j].n=rows[j].length∧RdE enc M w hs[j].a rows[j]:=by
 have hp:Inner enc M e w hs rows:=(hw.holds _ hm).1
 obtain⟨hn,ho⟩:=zg9 hp.1 j h1 h2
 refine⟨hn,?_⟩
 obtain⟨A',c',hv,hr⟩:=Own.rd ho hM
 unfold Hd.v at hv
 simp only[Value.slice.injEq] at hv
 rw[hv.1];exact hr
theorem Mem.innerLen(hw:Mem C w S)(hm:zaR enc M e hs rows∈S):hs.length=rows.length:=by
 have hp:Inner enc M e w hs rows:=(hw.holds _ hm).1
 exact ziZ hp.1
end
section
variable {P:Program}{C:Ctx}{E:zaE}{S:List Ent}{f d ty:Nat}{ps:String}{af:Array Edge}{g0:Option (Nat×Bool)}{α:Type}{enc:α→List Value}{M e e2:Nat}{rows:List (List α)} 
end
end
end Go.Proofs.YtjdckepbihcgfaaGreatDoor
