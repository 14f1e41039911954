/- Lemmas for the walks (Obj7, ObjB, ObjC, ObjP, Ms, Stp). No condition. -/
import Derived.Test.YtjdckepbihcgfaaGreatDoorG13
import Derived.Laws.BytesString
set_option linter.unusedSimpArgs false
set_option linter.unusedVariables false
set_option linter.unusedSectionVars false
set_option linter.unnecessarySimpa false
set_option maxRecDepth 100000
set_option maxHeartbeats 8000000
namespace Go.Proofs.YtjdckepbihcgfaaGreatDoor
section
open Go.RowKit
theorem zjl{p R:Prop}(r:R)(h:Rest R→p:=by intro r;(first|with_reducible (first|apply zcE|apply za9|apply zba|apply zbd|apply zbe)|((with_reducible (first|apply zaN|apply zaO));exact rfl;exact rfl;(with_reducible exact rfl)));(first|(first|((with_reducible apply zbc);exact rfl)|((with_reducible apply zdx);exact rfl;exact rfl)|((with_reducible apply zed);exact rfl;exact rfl)|((with_reducible apply zgj);exact rfl;exact Zm)|((with_reducible apply za1);exact rfl;exact Lds.zero _)|exact QS.auto)|((with_reducible apply QS_nilCheckM);exact rfl;(intro w;kernel_rfl)));exact rfl;exact r.out):p:=h ⟨r⟩
def zdV(typ:Int)(s:List Int)(kind a:Int):Res:=if zeV typ s=0 then(if((zaZ typ).contains kind&&zdO kind a)=true then zaB typ s kind a else([],0,3)) else([],0,zeV typ s)
theorem zgs{typ kind:Int}(h:(zaZ typ).contains kind=true):fitB typ kind:=by
 unfold zaZ at h
 unfold fitB
 repeat' split at h
 all_goals(simp only[List.contains_cons,List.contains_nil,Bool.or_eq_true,beq_iff_eq,Bool.false_eq_true,or_false] at h;try omega)
section
variable (A:Option Addr)(c:Nat)(s:List Int)(typ kind a:Int)(w:World)(hA:RdInt w A s)(hl:s.length≤9223372036854775807) 
include hA hl
theorem objStep_any:Calls Tryz.prog 172 #[.int .i64 typ,.slice A s.length c,.int .i64 kind,.int .i64 a] w fun e w'=>∃A' c',e=.returned (zdU (zdV typ s kind a) (A',c'))∧Own zag 1 3 w' w.heap.size (.slice A' (zdV typ s kind a).1.length c') (zdV typ s kind a).1∧Below w.heap.size w w':=by
 have hchk:=fun w hA=>objCheck_any A c s w hA hl typ
 have hfit:=fun w=>fits_C typ kind w
 have harg:=fun w=>argument_C kind a w
 by_cases h0:zeV typ s=0
 ·have hck:=zjg h0
  have hcl:=fun w hA=>zdT A c s w hA Zo
  have hO:zdV typ s kind a=if((zaZ typ).contains kind&&zdO kind a)=true then zaB typ s kind a else([],0,3):=by unfold zdV;rw[if_pos h0]
  rw[hO]
  rw[h0] at hchk
  clear hO
  generalize hz1:(zaZ typ).contains kind=z1 at *
  generalize hz2:zdO kind a=z2 at *
  by_cases hz:(z1&&z2)=true
  ·rw[if_pos hz]
   obtain⟨rfl,rfl⟩:z1=true∧z2=true:=by rwa [Bool.and_eq_true] at hz
   have hfb:=zgs hz1
   have hRl:(zaB typ s kind a).1.length≤1000:=by
    by_cases he:(zaB typ s kind a).2.2=0
    ·have:=(zjg (zhe h0 hfb hz2 he)).2.1;omega
    ·have:=step_bad he
     rw[this];simp
   rcases zgp typ with rfl|rfl|rfl|rfl|rfl|⟨hb,hv⟩
   ·have hof:=fun w=>zji 1 w
    rw[show obV 1=.iface 241 (.agg #[]) from rfl] at hof
    have hstep:=fun A c w h=>registerStep A c s kind a w hck.2.2 hck.2.1 h
    generalize zaB 1 s kind a=R at *
    refine zaj (S:=[]) [] Tryz.func172 rfl Tryz.ntmps172 Zj (Mem.nil _) ?_
    repeat' (first|refine zjl ?_|refine Zha ?_|(refine Zhb ?_;intro g)|(refine Zg ?_ ?_<;>(intro h;try exact Zx))|refine GOF ?_ ?_|((with_reducible apply zam (id:=6) 1000 (OT.seq [(0,0),(0,2),(0,4),(0,5),(2,1),(0,6),(0,7),(0,8),(2,3),(2,9),(0,10),(0,11),(0,12),(0,13),(0,14),(0,15),(0,16)] .nil));kernel_rfl;exact rfl;kernel_rfl;exact Zd)|((with_reducible (first|apply zaa|apply TD_e3z|apply zan|apply zaf|apply zae));((with_reducible apply zad (f:=198));exact rfl;(intro w hw;exact hchk w (hw.rd rfl hA));exact rfl);exact Zh;(rintro _ _ ⟨rfl,rfl⟩);(try refine⟨SUB,?_⟩))|((with_reducible (first|apply zaa|apply TD_e3z|apply zan|apply zaf|apply zae));((with_reducible apply zad (f:=92));exact rfl;(intro w hw;exact hfit w);exact rfl);exact Zh;(rintro _ _ ⟨rfl,rfl⟩);(try refine⟨SUB,?_⟩))|((with_reducible (first|apply zaa|apply TD_e3z|apply zan|apply zaf|apply zae));((with_reducible apply zad (f:=93));exact rfl;(intro w hw;exact harg w);exact rfl);exact Zh;(rintro _ _ ⟨rfl,rfl⟩);(try refine⟨SUB,?_⟩))|((with_reducible (first|apply zaa|apply TD_e3z|apply zan|apply zaf|apply zae));((with_reducible apply zad (f:=132));exact rfl;(intro w hw;exact hof w);exact rfl);exact Zh;(rintro _ _ ⟨rfl,rfl⟩);(try refine⟨SUB,?_⟩))|((with_reducible (first|apply zaa|apply TD_e3z|apply zan|apply zaf|apply zae));((with_reducible apply zal (f:=199));exact rfl;(intro w hw;exact hcl w (hw.rd rfl hA));exact rfl);exact Zh;(rintro _ _ ⟨A1,c1,rfl,rfl⟩);(try refine⟨SUB,?_⟩))|((with_reducible (first|apply zaa|apply TD_e3z|apply zan|apply zaf|apply zae));((with_reducible apply zcz (f:=282) (r:=.agg #[]) (X:=Option Addr×Nat) (S1:=[zac zag 1 3 A1 c1 s]) (zdU R) (fun x=>[zb4 zag 1 x.1 R.1]));exact rfl;exact⟨fun w=>by kernel_rfl⟩;exact rfl;exact Zp;(intro x;(try dsimp only);exact Za);(intro w hw;exact hstep A1 c1 w ((hw.anyN 0).self 0));exact rfl);exact Zh;(rintro _ _ ⟨⟨A',c'⟩,rfl,rfl⟩);(try refine⟨SUB,?_⟩))|((with_reducible (first|apply zaa|apply TD_e3z|apply zan|apply zaf|apply zae));((with_reducible apply zal (f:=199));exact rfl;(intro w hw;exact zdT _ _ R.1 w (hw.rdIn Zm) hRl);exact rfl);exact Zh;(rintro _ _ ⟨A2,c2,rfl,rfl⟩);(try refine⟨SUB,?_⟩))|fail)
    (refine zah Tryz.results172 rfl (fun w' hw=>?_))
    exact⟨A2,c2,rfl,hw.ownOut rfl Zm,hw.below0 rfl⟩
   ·have hof:=fun w=>zji 2 w
    rw[show obV 2=.iface 244 (.agg #[]) from rfl] at hof
    have hstep:=fun A c w h=>queueStep A c s kind a w hck.2.2 hck.2.1 h
    generalize zaB 2 s kind a=R at *
    refine zaj (S:=[]) [] Tryz.func172 rfl Tryz.ntmps172 Zj (Mem.nil _) ?_
    repeat' (first|refine zjl ?_|refine Zha ?_|(refine Zhb ?_;intro g)|(refine Zg ?_ ?_<;>(intro h;try exact Zx))|refine GOF ?_ ?_|((with_reducible apply zam (id:=6) 1000 (OT.seq [(0,0),(0,2),(0,4),(0,5),(2,1),(0,6),(0,7),(0,8),(2,3),(2,9),(0,10),(0,11),(0,12),(0,13),(0,14),(0,15),(0,16)] .nil));kernel_rfl;exact rfl;kernel_rfl;exact Zd)|((with_reducible (first|apply zaa|apply TD_e3z|apply zan|apply zaf|apply zae));((with_reducible apply zad (f:=198));exact rfl;(intro w hw;exact hchk w (hw.rd rfl hA));exact rfl);exact Zh;(rintro _ _ ⟨rfl,rfl⟩);(try refine⟨SUB,?_⟩))|((with_reducible (first|apply zaa|apply TD_e3z|apply zan|apply zaf|apply zae));((with_reducible apply zad (f:=92));exact rfl;(intro w hw;exact hfit w);exact rfl);exact Zh;(rintro _ _ ⟨rfl,rfl⟩);(try refine⟨SUB,?_⟩))|((with_reducible (first|apply zaa|apply TD_e3z|apply zan|apply zaf|apply zae));((with_reducible apply zad (f:=93));exact rfl;(intro w hw;exact harg w);exact rfl);exact Zh;(rintro _ _ ⟨rfl,rfl⟩);(try refine⟨SUB,?_⟩))|((with_reducible (first|apply zaa|apply TD_e3z|apply zan|apply zaf|apply zae));((with_reducible apply zad (f:=132));exact rfl;(intro w hw;exact hof w);exact rfl);exact Zh;(rintro _ _ ⟨rfl,rfl⟩);(try refine⟨SUB,?_⟩))|((with_reducible (first|apply zaa|apply TD_e3z|apply zan|apply zaf|apply zae));((with_reducible apply zal (f:=199));exact rfl;(intro w hw;exact hcl w (hw.rd rfl hA));exact rfl);exact Zh;(rintro _ _ ⟨A1,c1,rfl,rfl⟩);(try refine⟨SUB,?_⟩))|((with_reducible (first|apply zaa|apply TD_e3z|apply zan|apply zaf|apply zae));((with_reducible apply zcz (f:=286) (r:=.agg #[]) (X:=Option Addr×Nat) (S1:=[zac zag 1 3 A1 c1 s]) (zdU R) (fun x=>[zb4 zag 1 x.1 R.1]));exact rfl;exact⟨fun w=>by kernel_rfl⟩;exact rfl;exact Zp;(intro x;(try dsimp only);exact Za);(intro w hw;exact hstep A1 c1 w ((hw.anyN 0).self 0));exact rfl);exact Zh;(rintro _ _ ⟨⟨A',c'⟩,rfl,rfl⟩);(try refine⟨SUB,?_⟩))|((with_reducible (first|apply zaa|apply TD_e3z|apply zan|apply zaf|apply zae));((with_reducible apply zal (f:=199));exact rfl;(intro w hw;exact zdT _ _ R.1 w (hw.rdIn Zm) hRl);exact rfl);exact Zh;(rintro _ _ ⟨A2,c2,rfl,rfl⟩);(try refine⟨SUB,?_⟩))|fail)
    (refine zah Tryz.results172 rfl (fun w' hw=>?_))
    exact⟨A2,c2,rfl,hw.ownOut rfl Zm,hw.below0 rfl⟩
   ·have hof:=fun w=>zji 3 w
    rw[show obV 3=.iface 245 (.agg #[]) from rfl] at hof
    have hstep:=fun A c w h=>stackStep A c s kind a w hck.2.2 hck.2.1 h
    generalize zaB 3 s kind a=R at *
    refine zaj (S:=[]) [] Tryz.func172 rfl Tryz.ntmps172 Zj (Mem.nil _) ?_
    repeat' (first|refine zjl ?_|refine Zha ?_|(refine Zhb ?_;intro g)|(refine Zg ?_ ?_<;>(intro h;try exact Zx))|refine GOF ?_ ?_|((with_reducible apply zam (id:=6) 1000 (OT.seq [(0,0),(0,2),(0,4),(0,5),(2,1),(0,6),(0,7),(0,8),(2,3),(2,9),(0,10),(0,11),(0,12),(0,13),(0,14),(0,15),(0,16)] .nil));kernel_rfl;exact rfl;kernel_rfl;exact Zd)|((with_reducible (first|apply zaa|apply TD_e3z|apply zan|apply zaf|apply zae));((with_reducible apply zad (f:=198));exact rfl;(intro w hw;exact hchk w (hw.rd rfl hA));exact rfl);exact Zh;(rintro _ _ ⟨rfl,rfl⟩);(try refine⟨SUB,?_⟩))|((with_reducible (first|apply zaa|apply TD_e3z|apply zan|apply zaf|apply zae));((with_reducible apply zad (f:=92));exact rfl;(intro w hw;exact hfit w);exact rfl);exact Zh;(rintro _ _ ⟨rfl,rfl⟩);(try refine⟨SUB,?_⟩))|((with_reducible (first|apply zaa|apply TD_e3z|apply zan|apply zaf|apply zae));((with_reducible apply zad (f:=93));exact rfl;(intro w hw;exact harg w);exact rfl);exact Zh;(rintro _ _ ⟨rfl,rfl⟩);(try refine⟨SUB,?_⟩))|((with_reducible (first|apply zaa|apply TD_e3z|apply zan|apply zaf|apply zae));((with_reducible apply zad (f:=132));exact rfl;(intro w hw;exact hof w);exact rfl);exact Zh;(rintro _ _ ⟨rfl,rfl⟩);(try refine⟨SUB,?_⟩))|((with_reducible (first|apply zaa|apply TD_e3z|apply zan|apply zaf|apply zae));((with_reducible apply zal (f:=199));exact rfl;(intro w hw;exact hcl w (hw.rd rfl hA));exact rfl);exact Zh;(rintro _ _ ⟨A1,c1,rfl,rfl⟩);(try refine⟨SUB,?_⟩))|((with_reducible (first|apply zaa|apply TD_e3z|apply zan|apply zaf|apply zae));((with_reducible apply zcz (f:=288) (r:=.agg #[]) (X:=Option Addr×Nat) (S1:=[zac zag 1 3 A1 c1 s]) (zdU R) (fun x=>[zb4 zag 1 x.1 R.1]));exact rfl;exact⟨fun w=>by kernel_rfl⟩;exact rfl;exact Zp;(intro x;(try dsimp only);exact Za);(intro w hw;exact hstep A1 c1 w ((hw.anyN 0).self 0));exact rfl);exact Zh;(rintro _ _ ⟨⟨A',c'⟩,rfl,rfl⟩);(try refine⟨SUB,?_⟩))|((with_reducible (first|apply zaa|apply TD_e3z|apply zan|apply zaf|apply zae));((with_reducible apply zal (f:=199));exact rfl;(intro w hw;exact zdT _ _ R.1 w (hw.rdIn Zm) hRl);exact rfl);exact Zh;(rintro _ _ ⟨A2,c2,rfl,rfl⟩);(try refine⟨SUB,?_⟩))|fail)
    (refine zah Tryz.results172 rfl (fun w' hw=>?_))
    exact⟨A2,c2,rfl,hw.ownOut rfl Zm,hw.below0 rfl⟩
   ·have hof:=fun w=>zji 4 w
    rw[show obV 4=.iface 246 (.agg #[]) from rfl] at hof
    have hstep:=fun A c w h=>setStep_any A c s kind a w hck.2.2 hck.2.1 h
    generalize zaB 4 s kind a=R at *
    refine zaj (S:=[]) [] Tryz.func172 rfl Tryz.ntmps172 Zj (Mem.nil _) ?_
    repeat' (first|refine zjl ?_|refine Zha ?_|(refine Zhb ?_;intro g)|(refine Zg ?_ ?_<;>(intro h;try exact Zx))|refine GOF ?_ ?_|((with_reducible apply zam (id:=6) 1000 (OT.seq [(0,0),(0,2),(0,4),(0,5),(2,1),(0,6),(0,7),(0,8),(2,3),(2,9),(0,10),(0,11),(0,12),(0,13),(0,14),(0,15),(0,16)] .nil));kernel_rfl;exact rfl;kernel_rfl;exact Zd)|((with_reducible (first|apply zaa|apply TD_e3z|apply zan|apply zaf|apply zae));((with_reducible apply zad (f:=198));exact rfl;(intro w hw;exact hchk w (hw.rd rfl hA));exact rfl);exact Zh;(rintro _ _ ⟨rfl,rfl⟩);(try refine⟨SUB,?_⟩))|((with_reducible (first|apply zaa|apply TD_e3z|apply zan|apply zaf|apply zae));((with_reducible apply zad (f:=92));exact rfl;(intro w hw;exact hfit w);exact rfl);exact Zh;(rintro _ _ ⟨rfl,rfl⟩);(try refine⟨SUB,?_⟩))|((with_reducible (first|apply zaa|apply TD_e3z|apply zan|apply zaf|apply zae));((with_reducible apply zad (f:=93));exact rfl;(intro w hw;exact harg w);exact rfl);exact Zh;(rintro _ _ ⟨rfl,rfl⟩);(try refine⟨SUB,?_⟩))|((with_reducible (first|apply zaa|apply TD_e3z|apply zan|apply zaf|apply zae));((with_reducible apply zad (f:=132));exact rfl;(intro w hw;exact hof w);exact rfl);exact Zh;(rintro _ _ ⟨rfl,rfl⟩);(try refine⟨SUB,?_⟩))|((with_reducible (first|apply zaa|apply TD_e3z|apply zan|apply zaf|apply zae));((with_reducible apply zal (f:=199));exact rfl;(intro w hw;exact hcl w (hw.rd rfl hA));exact rfl);exact Zh;(rintro _ _ ⟨A1,c1,rfl,rfl⟩);(try refine⟨SUB,?_⟩))|((with_reducible (first|apply zaa|apply TD_e3z|apply zan|apply zaf|apply zae));((with_reducible apply zcz (f:=289) (r:=.agg #[]) (X:=Option Addr×Nat) (S1:=[zac zag 1 3 A1 c1 s]) (zdU R) (fun x=>[zb4 zag 1 x.1 R.1]));exact rfl;exact⟨fun w=>by kernel_rfl⟩;exact rfl;exact Zp;(intro x;(try dsimp only);exact Za);(intro w hw;exact hstep A1 c1 w ((hw.anyN 0).self 0));exact rfl);exact Zh;(rintro _ _ ⟨⟨A',c'⟩,rfl,rfl⟩);(try refine⟨SUB,?_⟩))|((with_reducible (first|apply zaa|apply TD_e3z|apply zan|apply zaf|apply zae));((with_reducible apply zal (f:=199));exact rfl;(intro w hw;exact zdT _ _ R.1 w (hw.rdIn Zm) hRl);exact rfl);exact Zh;(rintro _ _ ⟨A2,c2,rfl,rfl⟩);(try refine⟨SUB,?_⟩))|fail)
    (refine zah Tryz.results172 rfl (fun w' hw=>?_))
    exact⟨A2,c2,rfl,hw.ownOut rfl Zm,hw.below0 rfl⟩
   ·have hof:=fun w=>zji 5 w
    rw[show obV 5=.iface 247 (.agg #[]) from rfl] at hof
    have hstep:=fun A c w h=>ticketStep A c s kind a w hck.2.2 hck.2.1 h
    generalize zaB 5 s kind a=R at *
    refine zaj (S:=[]) [] Tryz.func172 rfl Tryz.ntmps172 Zj (Mem.nil _) ?_
    repeat' (first|refine zjl ?_|refine Zha ?_|(refine Zhb ?_;intro g)|(refine Zg ?_ ?_<;>(intro h;try exact Zx))|refine GOF ?_ ?_|((with_reducible apply zam (id:=6) 1000 (OT.seq [(0,0),(0,2),(0,4),(0,5),(2,1),(0,6),(0,7),(0,8),(2,3),(2,9),(0,10),(0,11),(0,12),(0,13),(0,14),(0,15),(0,16)] .nil));kernel_rfl;exact rfl;kernel_rfl;exact Zd)|((with_reducible (first|apply zaa|apply TD_e3z|apply zan|apply zaf|apply zae));((with_reducible apply zad (f:=198));exact rfl;(intro w hw;exact hchk w (hw.rd rfl hA));exact rfl);exact Zh;(rintro _ _ ⟨rfl,rfl⟩);(try refine⟨SUB,?_⟩))|((with_reducible (first|apply zaa|apply TD_e3z|apply zan|apply zaf|apply zae));((with_reducible apply zad (f:=92));exact rfl;(intro w hw;exact hfit w);exact rfl);exact Zh;(rintro _ _ ⟨rfl,rfl⟩);(try refine⟨SUB,?_⟩))|((with_reducible (first|apply zaa|apply TD_e3z|apply zan|apply zaf|apply zae));((with_reducible apply zad (f:=93));exact rfl;(intro w hw;exact harg w);exact rfl);exact Zh;(rintro _ _ ⟨rfl,rfl⟩);(try refine⟨SUB,?_⟩))|((with_reducible (first|apply zaa|apply TD_e3z|apply zan|apply zaf|apply zae));((with_reducible apply zad (f:=132));exact rfl;(intro w hw;exact hof w);exact rfl);exact Zh;(rintro _ _ ⟨rfl,rfl⟩);(try refine⟨SUB,?_⟩))|((with_reducible (first|apply zaa|apply TD_e3z|apply zan|apply zaf|apply zae));((with_reducible apply zal (f:=199));exact rfl;(intro w hw;exact hcl w (hw.rd rfl hA));exact rfl);exact Zh;(rintro _ _ ⟨A1,c1,rfl,rfl⟩);(try refine⟨SUB,?_⟩))|((with_reducible (first|apply zaa|apply TD_e3z|apply zan|apply zaf|apply zae));((with_reducible apply zcz (f:=299) (r:=.agg #[]) (X:=Option Addr×Nat) (S1:=[zac zag 1 3 A1 c1 s]) (zdU R) (fun x=>[zb4 zag 1 x.1 R.1]));exact rfl;exact⟨fun w=>by kernel_rfl⟩;exact rfl;exact Zp;(intro x;(try dsimp only);exact Za);(intro w hw;exact hstep A1 c1 w ((hw.anyN 0).self 0));exact rfl);exact Zh;(rintro _ _ ⟨⟨A',c'⟩,rfl,rfl⟩);(try refine⟨SUB,?_⟩))|((with_reducible (first|apply zaa|apply TD_e3z|apply zan|apply zaf|apply zae));((with_reducible apply zal (f:=199));exact rfl;(intro w hw;exact zdT _ _ R.1 w (hw.rdIn Zm) hRl);exact rfl);exact Zh;(rintro _ _ ⟨A2,c2,rfl,rfl⟩);(try refine⟨SUB,?_⟩))|fail)
    (refine zah Tryz.results172 rfl (fun w' hw=>?_))
    exact⟨A2,c2,rfl,hw.ownOut rfl Zm,hw.below0 rfl⟩
   ·rw[hb] at hck;exact absurd hck.1 Zi
  ·rw[if_neg hz]
   refine zaj (S:=[]) [] Tryz.func172 rfl Tryz.ntmps172 Zj (Mem.nil _) ?_
   repeat' (first|refine zjl ?_|refine Zga ?_|(refine Zgb ?_;intro g)|(refine Zg ?_ ?_<;>(intro h;try exact Zx))|((with_reducible (first|apply zaa|apply TD_e3z|apply zan|apply zaf|apply zae));((with_reducible apply zad (f:=198));exact rfl;(intro w hw;exact hchk w (hw.rd rfl hA));exact rfl);exact Zh;(rintro _ _ ⟨rfl,rfl⟩);(try refine⟨SUB,?_⟩))|((with_reducible (first|apply zaa|apply TD_e3z|apply zan|apply zaf|apply zae));((with_reducible apply zad (f:=92));exact rfl;(intro w hw;exact hfit w);exact rfl);exact Zh;(rintro _ _ ⟨rfl,rfl⟩);(try refine⟨SUB,?_⟩))|((with_reducible (first|apply zaa|apply TD_e3z|apply zan|apply zaf|apply zae));((with_reducible apply zad (f:=93));exact rfl;(intro w hw;exact harg w);exact rfl);exact Zh;(rintro _ _ ⟨rfl,rfl⟩);(try refine⟨SUB,?_⟩))|fail)
   all_goals first
    |((refine zah Tryz.results172 rfl (fun w' hw=>?_))
      exact⟨none,0,rfl,Own.nil _ _,hw.below0 rfl⟩)
    |(exfalso;simp_all;done)
 ·have hO:zdV typ s kind a=([],0,zeV typ s):=by unfold zdV;rw[if_neg h0]
  rw[hO]
  generalize zeV typ s=q at *
  refine zaj (S:=[]) [] Tryz.func172 rfl Tryz.ntmps172 Zj (Mem.nil _) ?_
  repeat' (first|refine zjl ?_|refine Zga ?_|(refine Zgb ?_;intro g)|(refine Zg ?_ ?_<;>(intro h;try exact Zx))|((with_reducible (first|apply zaa|apply TD_e3z|apply zan|apply zaf|apply zae));((with_reducible apply zad (f:=198));exact rfl;(intro w hw;exact hchk w (hw.rd rfl hA));exact rfl);exact Zh;(rintro _ _ ⟨rfl,rfl⟩);(try refine⟨SUB,?_⟩))|((with_reducible (first|apply zaa|apply TD_e3z|apply zan|apply zaf|apply zae));((with_reducible apply zad (f:=92));exact rfl;(intro w hw;exact hfit w);exact rfl);exact Zh;(rintro _ _ ⟨rfl,rfl⟩);(try refine⟨SUB,?_⟩))|((with_reducible (first|apply zaa|apply TD_e3z|apply zan|apply zaf|apply zae));((with_reducible apply zad (f:=93));exact rfl;(intro w hw;exact harg w);exact rfl);exact Zh;(rintro _ _ ⟨rfl,rfl⟩);(try refine⟨SUB,?_⟩))|fail)
  all_goals first
   |((refine zah Tryz.results172 rfl (fun w' hw=>?_))
     exact⟨none,0,rfl,Own.nil _ _,hw.below0 rfl⟩)
   |(exfalso;omega)
end
end
section
open Go.RowKit
theorem stepped_any(A:Option Addr)(c:Nat)(s:List Int)(typ kind a:Int)(w:World)(hA:RdInt w A s)(hAn:A=none→c=0)(hc:s.length≤c)(hck:zeV typ s=0)(hf:fitB typ kind):
  Calls Tryz.prog 79 #[.slice A s.length c,.int .i64 kind,.int .i64 a] w (zco w A s (zaB typ s kind a)):=by
 obtain⟨_,hl,hv⟩:=zjg hck
 have hse:=step_eq (a:=a) hv hf
 rcases hf with⟨rfl,rfl|rfl⟩|⟨rfl,rfl|rfl⟩|⟨rfl,rfl|rfl⟩|⟨rfl,hk⟩|⟨rfl,rfl⟩
 ·exact stepd_1 A c s a w
 ·have h1:zjf s=true:=hv
  simp only[zjf,Bool.and_eq_true,decide_eq_true_eq] at h1
  exact stepd_2 A c s a w hA hAn hc Zo
 ·have e:zaB 2 s 3 a=putR s a:=by simp[zaB,putR]
  rw[e];exact stepd_put A c s a w hA hAn hl 3 (.inl rfl)
 ·have e:zaB 2 s 4 a=if s.length=0 then(s,-1,0) else(s.drop 1,s.getD 0 0,0):=by simp[zaB]
  rw[e];exact stepd_4 A c s a w hA hAn hc hl
 ·have e:zaB 3 s 5 a=putR s a:=by simp[zaB,putR]
  rw[e];exact stepd_put A c s a w hA hAn hl 5 (.inr rfl)
 ·have e:zaB 3 s 6 a=if s.length=0 then(s,-1,0) else(s.take (s.length-1),s.getD (s.length-1) 0,0):=by simp[zaB]
  rw[e];exact stepd_6 A c s a w hA hAn hc hl
 ·rw[←hse]
  have e:zhd s kind a=if kind=7∧s.contains a=false∧s.length=50 then([],0,2) else((setR s kind a).1,(setR s kind a).2,0):=by
   unfold zhd
   have h3:kind≠3:=by omega
   have h5:kind≠5:=by omega
   have h10:kind≠10:=by omega
   have h1:kind≠1:=by omega
   have h2:kind≠2:=by omega
   have h4:kind≠4:=by omega
   have h6:kind≠6:=by omega
   simp only[h3,h5,h10,h1,h2,h4,h6,false_or,false_and,or_false,if_false,and_assoc]
  rw[e]
  exact stepd_set A c s a kind w hA hl hk
 ·have h1:zjf s=true:=hv
  simp only[zjf,Bool.and_eq_true,decide_eq_true_eq] at h1
  obtain⟨x,rfl⟩:=List.length_eq_one_iff.1 h1.1
  have h2:0≤x∧x≤1000:=h1.2
  have e:zaB 5 [x] 10 a=if x=1000 then([],0,2) else([x+1],x,0):=by simp[zaB]
  rw[e]
  exact stepd_10 A c [x] a w hA x rfl h2
/-! lists of what is done -/
structure Dn where
 kind:Int
 arg:Int
 res:Int
 deriving Inhabited
def Dn.enc(d:Dn):List Value:=[.int .i64 d.kind,.int .i64 d.arg,.int .i64 d.res]
abbrev RdDo(w:World)(A:Option Addr)(l:List Dn):Prop:=RdE Dn.enc 3 w A l
def zgt(typ:Int)(s:List Int)(d:Dn):Bool:=decide ((zdV typ s d.kind d.arg).2.2=0∧(zdV typ s d.kind d.arg).2.1=d.res)
def zez(typ:Int):List Int→List Dn→Nat
 |_,[]=>0
 |s,d::l=>if zgt typ s d=true then zez typ (zdV typ s d.kind d.arg).1 l+1 else 0
end
section
open Go.RowKit
theorem stepO_ok{typ:Int}{s:List Int}{k a:Int}(he:(zdV typ s k a).2.2=0):zeV typ s=0∧fitB typ k∧zdO k a=true∧zdV typ s k a=zaB typ s k a:=by
 unfold zdV at he ⊢
 by_cases h0:zeV typ s=0
 ·rw[if_pos h0] at he ⊢
  by_cases h1:((zaZ typ).contains k&&zdO k a)=true
  ·rw[if_pos h1] at he ⊢
   rw[Bool.and_eq_true] at h1
   exact⟨h0,zgs h1.1,h1.2,rfl⟩
  ·rw[if_neg h1] at he;cases he
 ·rw[if_neg h0] at he
  exact absurd he h0
theorem goes_ok{typ:Int}{s:List Int}{d:Dn}(h:zgt typ s d=true):zeV typ (zdV typ s d.kind d.arg).1=0:=by
 unfold zgt at h
 simp only[decide_eq_true_eq] at h
 obtain⟨h0,h1,h2,h3⟩:=stepO_ok h.1
 rw[h3]
 rw[h3] at h
 exact zhe h0 h1 h2 h.1
theorem begL_ok{typ:Int}(h:typB typ=true):zeV typ (zfi typ)=0:=by
 rcases zgp typ with rfl|rfl|rfl|rfl|rfl|⟨hb,_⟩
 ·rfl
 ·rfl
 ·rfl
 ·rfl
 ·rfl
 ·rw[hb] at h;cases h
theorem zfS{C:Ctx}{R:List Ent}{w:World}{A:Option Addr}{c:Nat}{s:List Int}{typ kind a:Int}(hw:Mem C w ([zb4 zag 1 A s]++R))(hAn:A=none→c=0)(hc:s.length≤c)(hck:zeV typ s=0)(hf:fitB typ kind):
  Calls Tryz.prog 79 #[.slice A s.length c,.int .i64 kind,.int .i64 a] w fun e w' =>
   ∃x:{x:Option Addr×Nat // (x.1=none→x.2=0)∧(zaB typ s kind a).1.length≤x.2},e=.returned (zdU (zaB typ s kind a) x.1)∧Mem ⟨0,zbb [zb4 zag 1 A s],w⟩ w' [zb4 zag 1 x.1.1 (zaB typ s kind a).1]:=by
 have hrd:=hw.rdIn (enc:=zag) (M:=1) (A:=A) (l:=s) Zj
 refine(stepped_any A c s typ kind a w hrd hAn hc hck hf).mono ?_
 rintro e w' ⟨x,rfl,hx,hb⟩
 rcases hx with ho|⟨hr,hblk,hle,hxn⟩
 ·refine⟨⟨x,(Own.facts ho).2,(Own.facts ho).1⟩,rfl,?_⟩
  have:=(Mem.ofOwn hb ho).ownToRd (enc:=zag) (M:=1) (et:=3) (c:=x.2) (A:=x.1) (ls:=(zaB typ s kind a).1) Zj (fun _=>rfl)
  exact this.widen Zj
 ·refine⟨⟨x,hxn,hle⟩,rfl,?_⟩
  have h1:Mem ⟨0,zbb [zb4 zag 1 A s],w⟩ w' [zb4 zag 1 A s]:=((hw.anyN 0).self 0).below hb
  exact h1.toRd (e:=zb4 zag 1 A s) Zj (fun g hg=>by
   show A.map (·.block)=some g
   rw[←hblk];exact hg) ((hr w hrd).below hb)
end
section
open Go.RowKit
section
variable (B:Option Addr)(d:Nat)(l:List Dn)(typ:Int)(w:World)(hB:RdDo w B l)(hl:l.length≤9223372036854775807) 
include hB hl
theorem played_any(ht:typB typ=true):Calls Tryz.prog 130 #[.int .i64 typ,.slice B l.length d] w fun e w'=>e=.returned (.int .i64 (zez typ (zfi typ) l:Int))∧Below w.heap.size w w':=by
 have hst:=fun w=>begin_any typ w
 have hok:=begL_ok ht
 obtain⟨N,hN⟩:∃N,zez typ (zfi typ) l=N:=⟨_,rfl⟩
 rw[hN]
 generalize zfi typ=s0 at *
 refine zaj (S:=[]) [] Tryz.func130 rfl Tryz.ntmps130 Zj (Mem.nil _) ?_
 repeat' (first|refine Zga ?_|(refine Zgb ?_;intro g)|(refine Zg ?_ ?_<;>(intro h;try exact Zx))|((with_reducible (first|apply zaa|apply TD_e3z|apply zan|apply zaf|apply zae));((with_reducible apply zal (f:=78));exact rfl;(intro w hw;exact hst w);exact rfl);exact Zh;(rintro _ _ ⟨A0,c0,rfl,rfl⟩);(try refine⟨SUB,?_⟩))|fail)
 refine ziW (p:=s0.length≤c0∧(A0=none→c0=0)) (fun w hw=>hw.ownFacts (enc:=zag) (M:=1) (et:=3) Zm) fun hf0=>?_
 refine zap (X:=Nat×List Int×Option Addr×Nat) (fun x=>[(15,.int .i64 (x.1:Nat)),(14,.int .i64 l.length),(13,.slice B l.length d),(5,.slice x.2.2.1 x.2.1.length x.2.2.2),(1,.slice B l.length d),(0,.int .i64 typ)])
  (fun x=>[zb4 zag 1 x.2.2.1 x.2.1]) (fun x=>x.1≤l.length∧zeV typ x.2.1=0∧x.1+zez typ x.2.1 (l.drop x.1)=N∧x.2.1.length≤x.2.2.2∧(x.2.2.1=none→x.2.2.2=0)) (fun x=>l.length-x.1) (0,s0,A0,c0) ⟨by simp,hok,by simpa using hN,hf0.1,hf0.2⟩ Ze
  (fun w hw=>hw.ownToRd (enc:=zag) (M:=1) (et:=3) Zm (fun _=>rfl)) ?_
 rintro⟨k,s,A1,c1⟩ ⟨hk,hck,hplay,hsc,hsn⟩
 dsimp only at hk hck hplay hsc hsn ⊢
 by_cases hlt:k<l.length
 ·obtain⟨b,o,rfl,_⟩:=RdE.open hB Zo
  have hd:l.drop k=l[k]::l.drop (k+1):=List.drop_eq_getElem_cons hlt
  rw[hd,zez] at hplay
  have hask:=fun w=>asked_any typ l[k].kind l[k].arg w
  by_cases hz1:((zaZ typ).contains l[k].kind&&zdO l[k].kind l[k].arg)=true
  ·rw[hz1] at hask
   have hz2:zdV typ s l[k].kind l[k].arg=zaB typ s l[k].kind l[k].arg:=by unfold zdV;rw[if_pos hck,if_pos hz1]
   have hfb:=zgs ((Bool.and_eq_true _ _▸hz1:_∧_).1)
   have hstep:=fun(C:Ctx) (R:List Ent) (w:World) (hw:Mem C w ([zb4 zag 1 A1 s]++R))=>zfS (a:=l[k].arg) hw hsn hsc hck hfb
   have hgo:zgt typ s l[k]=decide ((zaB typ s l[k].kind l[k].arg).2.2=0∧(zaB typ s l[k].kind l[k].arg).2.1=l[k].res):=by unfold zgt;rw[hz2]
   have hgk:=goes_ok (typ:=typ) (s:=s) (d:=l[k])
   rw[hz2] at hplay hgk
   generalize zaB typ s l[k].kind l[k].arg=R at *
   generalize zgt typ s l[k]=z at *
   repeat' (first|refine Zga ?_|(refine Zgb ?_;intro g)|(refine Zg ?_ ?_<;>(intro h;try exact Zx))|((with_reducible (first|apply zaa|apply TD_e3z|apply zan|apply zaf|apply zae));((with_reducible apply zad (f:=171));exact rfl;(intro w hw;exact hask w);exact rfl);exact Zh;(rintro _ _ ⟨rfl,rfl⟩);(try refine⟨SUB,?_⟩))|((with_reducible (first|apply zaa|apply TD_e3z|apply zan|apply zaf|apply zae));((with_reducible apply zar (f:=79) (X:={x:Option Addr×Nat // (x.1=none→x.2=0)∧R.1.length≤x.2}) (S1:=[zb4 zag 1 A1 s]) (fun x=>zdU R x.1) (fun x=>[zb4 zag 1 x.1.1 R.1]));exact rfl;exact Zp;(intro x;(try dsimp only);exact Za);(intro w hw;exact hstep _ _ w hw);exact rfl);exact Zh;(rintro _ _ ⟨⟨⟨A2,c2⟩,hx⟩,rfl,rfl⟩);(try refine⟨SUB,?_⟩))|fail)
   ·(refine zah Tryz.results130 rfl (fun w' hw=>?_))
    have hz:z=false:=by rw[hgo];simp[‹¬R.2.2=0›]
    rw[if_neg (by rw[hz];simp)] at hplay
    exact⟨by rw[←hplay];rfl,hw.below0 rfl⟩
   ·(refine zah Tryz.results130 rfl (fun w' hw=>?_))
    have hz:z=false:=by rw[hgo];simp[‹¬R.2.1=l[k].res›]
    rw[if_neg (by rw[hz];simp)] at hplay
    exact⟨by rw[←hplay];rfl,hw.below0 rfl⟩
   ·have hz:z=true:=by rw[hgo];simp[‹R.2.2=0›,‹R.2.1=l[k].res›]
    rw[if_pos hz] at hplay
    exact zab (k+1,R.1,A2,c2) ⟨hlt,hgk hz,by dsimp only;omega,hx.2,hx.1⟩ (by(try dsimp only);omega) Ze (by exact zaK)
  ·have hz:zgt typ s l[k]=false:=by
    unfold zgt zdV
    rw[if_pos hck,if_neg hz1]
    simp
   rw[if_neg (by rw[hz];simp)] at hplay
   rw[Bool.eq_false_iff.2 hz1] at hask
   repeat' (first|refine Zga ?_|(refine Zgb ?_;intro g)|(refine Zg ?_ ?_<;>(intro h;try exact Zx))|((with_reducible (first|apply zaa|apply TD_e3z|apply zan|apply zaf|apply zae));((with_reducible apply zad (f:=171));exact rfl;(intro w hw;exact hask w);exact rfl);exact Zh;(rintro _ _ ⟨rfl,rfl⟩);(try refine⟨SUB,?_⟩))|fail)
   (refine zah Tryz.results130 rfl (fun w' hw=>?_))
   exact⟨by rw[←hplay];rfl,hw.below0 rfl⟩
 ·obtain rfl:k=l.length:=by omega
  rw[List.drop_length,zez] at hplay
  repeat' (first|refine Zga ?_|(refine Zgb ?_;intro g)|(refine Zg ?_ ?_<;>(intro h;try exact Zx))|fail)
  (refine zah Tryz.results130 rfl (fun w' hw=>?_))
  exact⟨by rw[←hplay];rfl,hw.below0 rfl⟩
end
end
section
open Go.RowKit
theorem beq_bytes(a b:ByteArray):(a == b)=decide (a=b):=by
 show(a.data == b.data)=_
 rw[Bool.eq_iff_iff,beq_iff_eq,decide_eq_true_eq,ByteArray.ext_iff]
def zdd(l:List Nat):ByteArray:=l.foldl (fun r n=>r.push (UInt8.ofNat n)) ByteArray.empty
theorem zhO(l:List Nat):(zdd l).data.toList=l.map UInt8.ofNat:=by
 have key:∀(l:List Nat) (r:ByteArray),(l.foldl (fun r n=>r.push (UInt8.ofNat n)) r).data.toList=r.data.toList++l.map UInt8.ofNat:=by
  intro l
  induction l with
  |nil=>simp
  |cons n l ih=>intro r;rw[List.foldl_cons,ih];simp[ByteArray.push]
 rw[zdd,key];simp
theorem bytesOf_inj{l l':List Nat}(h:∀n∈l,n<256)(h':∀n∈l',n<256)(he:zdd l=zdd l'):l=l':=by
 have h1:l.map UInt8.ofNat=l'.map UInt8.ofNat:=by rw[←zhO,←zhO,he]
 have h2:=congrArg (List.map UInt8.toNat) h1
 rw[List.map_map,List.map_map] at h2
 have q:∀m:List Nat,(∀n∈m,n<256)→m.map (UInt8.toNat ∘ UInt8.ofNat)=m:=fun m hm=>by
  conv=>rhs;rw[←List.map_id m]
  exact List.map_congr_left fun n hn=>by simp;exact hm n hn
 rwa [q l h,q l' h'] at h2
class MapStr (P:Program) (t:Nat) (k e:outParam Nat):Prop where
 und:P.underlying t=some (.map k e)
 key:P.underlying k=some .string
def SetS(w:World)(g:Nat)(D:List ByteArray):Prop:=∃es cl,w.heap[g]?=some (.map es cl)∧es.toList.map (fun e=>(e.key,e.val))=D.map fun b=>(Value.string b,Value.bool true)
def zfB(g:Nat)(D:List ByteArray):Ent :=
 ⟨fun k=>some g=some k,[g],fun k=>by simp[eq_comm],fun w=>SetS w g D,fun w w' h hp=>by
  obtain⟨es,cl,hg,hes⟩:=hp
  exact⟨es,cl,(h g rfl).trans hg,hes⟩⟩
def hasB(D:List ByteArray)(b:ByteArray):Bool:=D.any fun x=>decide (b=x)
def addB(D:List ByteArray)(b:ByteArray):List ByteArray:=if hasB D b=true then D else D++[b]
theorem hasB_iff{D:List ByteArray}{b:ByteArray}:hasB D b=true↔b∈D:=by
 unfold hasB
 rw[List.any_eq_true]
 exact⟨fun⟨x,hx,h⟩=>by simp at h;subst h;exact hx,fun h=>⟨b,h,by simp⟩⟩
def findB(b:ByteArray):List ByteArray→Nat→Option Nat
 |[],_=>none
 |x::D,i=>if b=x then some i else findB b D (i+1)
theorem zjm(b:ByteArray):∀(D:List ByteArray) (i:Nat),(findB b D i).isSome=hasB D b
 |[],_=>rfl
 |x::D,i=>by
  unfold findB hasB
  rw[List.any_cons]
  by_cases h:b=x
  ·simp[h]
  ·simp only[if_neg h,h,decide_false,Bool.false_or];exact zjm b D (i+1)
theorem findB_at(b:ByteArray):∀(D:List ByteArray) (i j:Nat),findB b D i=some j→i≤j∧D[j-i]?=some b
 |[],_,_,h=>by cases h
 |x::D,i,j,h=>by
  unfold findB at h
  split at h
  ·rename_i e
   cases h;subst e;simp
  ·obtain⟨h1,h2⟩:=findB_at b D (i+1) j h
   have e:j-i=(j-(i+1))+1:=by omega
   exact⟨by omega,by rw[e];simpa using h2⟩
theorem zjn(b:ByteArray):∀(es:List MapEntry) (D:List ByteArray) (i:Nat),es.map (fun e=>(e.key,e.val))=D.map (fun b=>(Value.string b,Value.bool true)) →
  Instr.findNow .string (.string b) es i=some ((findB b D i).map fun j=>(j,.bool true))
 |[],[],_,_=>rfl
 |[],p::D,_,h=>by simp at h
 |e::es,[],_,h=>by simp at h
 |e::es,p::D,i,h=>by
  simp only[List.map_cons,List.cons.injEq,Prod.mk.injEq] at h
  obtain⟨⟨h1,h2⟩,h3⟩:=h
  have ih:=zjn b es D (i+1) h3
  simp only[Instr.findNow,h1,Instr.sameNow,beq_bytes,findB]
  by_cases hx:b=p
  ·subst hx;simp[h2]
  ·simp only[hx,decide_false,if_false]
   exact ih
section
variable {P:Program}{C:Ctx}{E:zaE}{S S':List Ent} 
variable {d ty:Nat}{ps:String}{af:Array Edge}{g0:Option (Nat×Bool)}{x y m:Operand}{t k e g:Nat}{b:ByteArray} 
theorem zhP[hm:MapStr P t k e](z:Bool)(w:World):(Instr.checkKey z 10000 k (.string b)).run P w=.ok () w:=by
 unfold Instr.checkKey
 simp[run_underlying hm.key]
theorem zjo[hm:MapStr P t k e](es:List MapEntry)(D:List ByteArray)(h:es.map (fun e=>(e.key,e.val))=D.map (fun b=>(Value.string b,Value.bool true)))(w:World):
  (Instr.findKey k (.string b) es).run P w=.ok ((findB b D 0).map fun j=>(j,.bool true)) w:=by
 unfold Instr.findKey
 simp[run_underlying hm.key,zjn b es D 0 h]
theorem run_lookStr[hm:MapStr P t k e][hz:ZeroOf P e (.bool false)]{D:List ByteArray}{w:World}(hD:SetS w g D):
  (Instr.lookup t (.map (some g)) (.string b) false).run P w=.ok (.bool (hasB D b)) w:=by
 obtain⟨es,cl,hg,hes⟩:=hD
 have hgo:(getObj g).run P w=.ok (.map es cl) w:=by simp[getObj,Sem.run,hg]
 have h1:=zhP (hm:=hm) (b:=b) es.isEmpty w
 have h2:=zjo (hm:=hm) (b:=b) es.toList D hes w
 have h3:=zjm b D 0
 unfold Instr.lookup
 simp only[run_underlying hm.und,Sem.run_bind,Result.andThen_ok,hgo,Sem.run_pure,h1,h2]
 cases hf:findB b D 0 with
 |none =>
  rw[hf] at h3
  simp[hz.run w,←h3]
 |some p =>
  rw[hf] at h3
  simp[←h3]
theorem run_updateStr[hm:MapStr P t k e]{D:List ByteArray}{w:World}(hD:SetS w g D):
  ∃w',(Instr.mapUpdate t (.map (some g)) (.string b) (.bool true)).run P w=.ok () w'∧SetS w' g (addB D b)∧Keeps [g] w w':=by
 obtain⟨es,cl,hg,hes⟩:=hD
 have hlt:g<w.heap.size:=(Array.getElem?_eq_some_iff.1 hg).1
 have hgo:(getObj g).run P w=.ok (.map es cl) w:=by simp[getObj,Sem.run,hg]
 have h1:=zhP (hm:=hm) (b:=b) false w
 have h2:=zjo (hm:=hm) (b:=b) es.toList D hes w
 have h3:=zjm b D 0
 have hset:∀o:Obj,(setObj g o).run P w=.ok () { w with heap:=w.heap.setIfInBounds g o }:=fun o=>by simp[setObj,Sem.run,hg]
 have hk:∀o:Obj,Keeps [g] w { w with heap:=w.heap.setIfInBounds g o }:=fun o=>⟨rfl,rfl,rfl,by simp,fun j _ hj=>by
  simp only[List.mem_singleton] at hj
  exact Array.getElem?_setIfInBounds_ne (fun e=>hj e.symm)⟩
 have hget:∀o:Obj,({ w with heap:=w.heap.setIfInBounds g o }:World).heap[g]?=some o:=fun o=>by simp[hlt]
 unfold Instr.mapUpdate
 simp only[run_underlying hm.und,Sem.run_bind,Result.andThen_ok,hgo,h1,h2]
 cases hf:findB b D 0 with
 |none =>
  rw[hf] at h3
  simp only[Option.map_none,hset]
  refine⟨_,rfl,⟨_,_,hget _,?_⟩,hk _⟩
  rw[show addB D b=D++[b] from if_neg (by rw[←h3];simp)]
  simp at hes ⊢
  exact hes
 |some i =>
  rw[hf] at h3
  obtain⟨_,hu⟩:=findB_at b D 0 i hf
  rw[Nat.sub_zero] at hu
  have hi:i<es.size:=by
   have h4:=congrArg List.length hes
   have h5:=(List.getElem?_eq_some_iff.1 hu).1
   simp at h4
   omega
  have hkv:(es[i].key,es[i].val)=(Value.string b,Value.bool true):=by
   have h6:(es.toList.map fun e=>(e.key,e.val))[i]?=some (es[i].key,es[i].val):=by simp[hi]
   rw[hes] at h6
   simp only[List.getElem?_map,hu,Option.map_some,Option.some.injEq] at h6
   exact h6.symm
  have hkey:es[i].key=.string b:=(Prod.mk.inj hkv).1
  have hst:(Instr.keyThatStays (.string b) (.string b)).run P w=.ok (.string b) w:=by
   unfold Instr.keyThatStays
   rw[if_pos (by simp[Instr.sameBits,beq_bytes])]
   rfl
  simp only[Option.map_some,Array.getElem?_eq_getElem hi,Option.getD_some,hkey,Sem.run_bind,hst,Result.andThen_ok,hset]
  refine⟨_,rfl,⟨_,_,hget _,?_⟩,hk _⟩
  rw[show addB D b=D from if_pos (by rw[←h3];simp),←hes]
  apply List.ext_getElem?
  intro j
  simp only[Array.toList_modify,List.getElem?_map,List.getElem?_modify]
  by_cases e:i=j
  ·subst e
   have:es.toList[i]?=some es[i]:=by simp[hi]
   have hval:es[i].val=.bool true:=(Prod.mk.inj hkv).2
   simp[this,hkey,hval]
  ·simp only[if_neg e,id_map']
theorem ES_makeSet(hd:Nat.ble (d+1) C.n=true):ES P C E S ⟨some d,.makeMap t none,ty,ps,af,g0⟩ (fun E' S'=>∃g,E'=(d,.map (some g))::E∧S'=zfB g []::S):=by
 refine(zc3 (fun u S'=>∃g,u=.map (some g)∧S'=zfB g []::S) (fun a w ha hw=>?_) hd).weak (by rintro _ _ ⟨_,⟨g,rfl,rfl⟩,rfl⟩;exact⟨g,rfl,rfl⟩)
 refine⟨_,_,_,?_,hw.alloc (.map #[] 0) (e:=zfB w.heap.size []) (fun _ h=>h) ⟨#[],0,heap_alloc_new w _,rfl⟩,_,rfl,rfl⟩
 simp[execOp,Instr.makeMap,newObj,Sem.run]
section
variable [hm:MapStr P t k e](hx:evo E m=some (.map (some g)))(hy:evo E x=some (.string b)) 
include hm hx hy
theorem QS_lookStr{D:List ByteArray}[hz:ZeroOf P e (.bool false)](hD:zfB g D∈S):QS P C E S (.lookup t m x false) ty (.bool (hasB D b)) :=
 QS.of (fun a w ha hw=>by
  have h:=run_lookStr (hm:=hm) (b:=b) (hw.holds _ hD).1
  simp only[execOp,ha.evo hx,ha.evo hy,Sem.run_bind,h,Result.andThen_ok];rfl)
theorem ES_updateStr{D:List ByteArray}(hu:Upd S (zfB g D) (zfB g (addB D b)) S')(hv:evo E y=some (.bool true)):ES P C E S ⟨none,.mapUpdate t m x y,ty,ps,af,g0⟩ (fun E' T=>E'=E∧T=S'):=by
 refine(zg0 (fun T=>T=S') (fun a w ha hw=>?_)).weak (by rintro _ _ ⟨rfl,rfl⟩;exact⟨rfl,rfl⟩)
 obtain⟨w',hr,hD',hk⟩:=run_updateStr (hm:=hm) (b:=b) (hw.holds _ hu.mem).1
 refine⟨w',S',by simp[execOp,ha.evo hx,ha.evo hy,ha.evo hv,hr],?_,rfl⟩
 refine hw.upd hu hk (by simp[zfB]) (fun k hk'=>?_) hD'
 have:some g=some k:=hk'
 cases this
 obtain⟨es,cl,hg,_⟩:=hD'
 exact⟨(Array.getElem?_eq_some_iff.1 hg).1,.inl rfl⟩
end
def byEnc(n:Nat):List Value:=[.int .u8 (n:Nat)]
end
end
section
open Go.RowKit
structure Stp where
 call:Int
 res:Int
 deriving Inhabited,DecidableEq
def Stp.enc(s:Stp):List Value:=[.int .i64 s.call,.int .i64 s.res]
abbrev RdStp(w:World)(A:Option Addr)(l:List Stp):Prop:=RdE Stp.enc 2 w A l
end
end Go.Proofs.YtjdckepbihcgfaaGreatDoor
