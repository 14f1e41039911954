/- Lemmas for the walks (Rw8). No condition. -/
import Derived.Test.YtjdckepbihcgfaaGreatDoorG30
set_option linter.unusedSimpArgs false
set_option linter.unusedVariables false
set_option linter.unusedSectionVars false
set_option linter.unnecessarySimpa false
set_option maxRecDepth 100000
set_option maxHeartbeats 8000000
namespace Go.Proofs.YtjdckepbihcgfaaGreatDoor
section
open Go.RowKit
theorem Q0Rw8{p R:Prop}(r:R)(h:Rest R→p:=by intro r;(first|with_reducible (first|apply zcE|apply za9|apply zba|apply zbd|apply zbe)|((with_reducible (first|apply zaN|apply zaO));exact rfl;exact rfl;(with_reducible exact rfl)));(first|((with_reducible apply za1);exact rfl;(apply Lds.old;assumption;simp;assumption))|((with_reducible apply zeo);exact rfl;exact rfl)|((with_reducible apply zeq);exact rfl;exact rfl)|((with_reducible apply zen);exact rfl;exact rfl)|((with_reducible apply zep);exact rfl;exact rfl)|exact QS.auto);exact rfl;exact r.out):p:=h ⟨r⟩
section
variable (B0:Option Addr)(d0:Nat)(l:List Ev)(w:World)(hl:l.length≤9223372036854775807)(hA:RdEv w B0 l) 
include hl hA
theorem rwCheck_any:Calls Tryz.prog 62 #[.slice B0 l.length d0] w fun e w'=>e=.returned (.tuple #[.bool (rwC l).1,.agg (Bd.enc (rwC l).2.1).toArray,.int .i64 (rwC l).2.2])∧Below w.heap.size w w':=by
 unfold rwC
 rcases once_cases l with⟨h,ho⟩|⟨h,hb,ho⟩|⟨h,hg,ho⟩
 ·rw[ho,if_neg h]
  have hrd:=fun w h1=>rwRead_err B0 d0 l w hl h1 h
  generalize (zai [2] l).2.2=er at *
  refine zaj (S:=[]) [] Tryz.func62 rfl Tryz.ntmps62 Zj (Mem.nil _) ?_
  repeat' (first|refine Q0Rw8 ?_|refine Zga ?_|(refine Zgb ?_;intro g)|(refine Zg ?_ ?_<;>(intro h;try exact Zx))|((with_reducible (first|apply zaa|apply TD_e3z|apply zan|apply zaf|apply zae));((with_reducible apply zad (f:=115));exact rfl;(intro w hw;exact hrd w (hw.rd rfl hA));exact rfl);exact Zh;(rintro _ _ ⟨rfl,rfl⟩);(try refine⟨SUB,?_⟩))|fail)
  ((with_reducible apply zau Tryz.results62);exact Zr;intro w' hw)
  exact⟨rfl,hw.below0 rfl⟩
 ·rw[ho,if_neg Zi]
  have hrd:=fun w h1=>rwRead_bad B0 d0 l w hl h1 h hb
  refine zaj (S:=[]) [] Tryz.func62 rfl Tryz.ntmps62 Zj (Mem.nil _) ?_
  repeat' (first|refine Q0Rw8 ?_|refine Zga ?_|(refine Zgb ?_;intro g)|(refine Zg ?_ ?_<;>(intro h;try exact Zx))|((with_reducible (first|apply zaa|apply TD_e3z|apply zan|apply zaf|apply zae));((with_reducible apply zad (f:=115));exact rfl;(intro w hw;exact hrd w (hw.rd rfl hA));exact rfl);exact Zh;(rintro _ _ ⟨rfl,rfl⟩);(try refine⟨SUB,?_⟩))|fail)
  ((with_reducible apply zau Tryz.results62);exact Zr;intro w' hw)
  exact⟨rfl,hw.below0 rfl⟩
 ·have hok:=quOk_of (zit h) hg
  rw[ho,if_pos rfl]
  have hrd:=fun w h1=>rwRead_ok B0 d0 l w hl h1 h hg
  generalize (zai [2] l).1=cs at *
  have hs1:=fun gl A V ca cv w' h1 h2 h3=>stray_any gl A V ca cv cs w' h1 h2 h3 hok
  have hs2:=fun gl A V ca cv w' h1 h2 h3 h4=>twice_any gl A V ca cv cs w' h1 h2 h3 hok h4
  have hs3:=fun gl A V ca cv w' h1 h2 h3 h4=>early_any gl A V ca cv cs w' h1 h2 h3 hok h4
  have hs4:=fun gl A V ca cv w' h1 h2 h3=>order_any gl A V ca cv cs w' h1 h2 h3 hok
  have hs5:=fun gl A V ca cv w' h1 h2 h3=>empty_any gl A V ca cv cs w' h1 h2 h3 hok
  have hz:=empV_zero (cs:=cs)
  unfold zcu
  generalize zdN cs=V1 at *
  generalize tweV cs=V2 at *
  generalize earV cs=V3 at *
  generalize fifV cs=V4 at *
  generalize empV cs=V5 at *
  obtain⟨k1,a1,b1⟩:=V1
  obtain⟨k2,a2,b2⟩:=V2
  obtain⟨k3,a3,b3⟩:=V3
  obtain⟨k4,a4,b4⟩:=V4
  obtain⟨k5,a5,b5⟩:=V5
  simp only[show ∀a b c,Bd.enc ⟨a,b,c⟩=[.int .i64 a,.int .i64 b,.int .i64 c] from fun _ _ _=>rfl] at hs1 hs2 hs3 hs4 hs5
  dsimp only at hs2 hs3 hz ⊢
  refine zaj (S:=[]) [] Tryz.func62 rfl Tryz.ntmps62 Zj (Mem.nil _) ?_
  repeat' (first|refine Q0Rw8 ?_|refine Zga ?_|(refine Zgb ?_;intro g)|(refine Zg ?_ ?_<;>(intro h;try exact Zx))|((with_reducible (first|apply zaa|apply TD_e3z|apply zan|apply zaf|apply zae));((with_reducible apply ES_callNew (f:=115) (v:=fun L:RG=>.tuple #[.pointer (some ⟨L.g,0,none⟩),.int .i64 0]) (S1:=fun L:RG=>[zak L.g 215 #[.slice L.A cs.length L.ca,.slice L.V (zbh cs cs.length).length L.cv],zac Cl.enc 7 36 L.A L.ca cs,zac Rvl.enc 3 219 L.V L.cv (zbh cs cs.length)]));exact rfl;(intro x;(try dsimp only);exact Za);(intro w hw;exact hrd w (hw.rd rfl hA));exact rfl);exact Zh;(rintro _ _ ⟨⟨gl,A1,c1,V,cv⟩,rfl,rfl⟩);(try refine⟨SUB,?_⟩))|fail)
  dsimp only
  obtain⟨gF,rfl⟩:∃x,x=g:=⟨_,rfl⟩
  obtain⟨gb,rfl⟩:∃x,x=g:=⟨_,rfl⟩
  refine zap (X:=Nat) (fun k=>[(31,.int .i64 (k:Nat)),(30,.int .i64 ((5:Nat):Int)),(29,.slice (some ⟨gF,0,none⟩) 5 5),(3,.pointer (some ⟨gb,0,none⟩))]) (fun _=>[zak gF 176 #[.func (.func 116) #[.pointer (some ⟨gl,0,none⟩)] #[],.func (.func 117) #[.pointer (some ⟨gl,0,none⟩)] #[],.func (.func 118) #[.pointer (some ⟨gl,0,none⟩)] #[],.func (.func 119) #[.pointer (some ⟨gl,0,none⟩)] #[],.func (.func 120) #[.pointer (some ⟨gl,0,none⟩)] #[]],zak gb 79 #[.int .i64 0,.int .i64 0,.int .i64 0],zak gl 215 #[.slice A1 cs.length c1,.slice V (zbh cs cs.length).length cv],zac Cl.enc 7 36 A1 c1 cs,zac Rvl.enc 3 219 V cv (zbh cs cs.length)])
   (fun k=>k≤5∧(1≤k→k1=0)∧(2≤k→k2=0)∧(3≤k→k3=0)∧(4≤k→k4=0)∧(5≤k→k5=0)) (fun k=>5-k) 0 ⟨by omega,by omega,by omega,by omega,by omega,by omega⟩ Ze (fun _ hw=>hw.sel Zl) ?_
  rintro k ⟨hk,p1,p2,p3,p4,p5⟩
  have hkc:k=0∨k=1∨k=2∨k=3∨k=4∨k=5:=by omega
  rcases hkc with rfl|rfl|rfl|rfl|rfl|rfl
  ·repeat' (first|refine Q0Rw8 ?_|refine Zha ?_|(refine Zhb ?_;intro g)|(refine Zg ?_ ?_<;>(intro h;try exact Zx))|refine GOF ?_ ?_|((with_reducible apply zam (id:=9) 2 (OT.seq [(0,1),(1,0),(3,2),(0,3)] .nil));kernel_rfl;exact rfl;kernel_rfl;exact Zd)|((with_reducible (first|apply zaa|apply TD_e3z|apply zan|apply zaf|apply zae));((with_reducible apply zbf (f:=116) (us:=[.pointer (some ⟨gl,0,none⟩)]) (cs:=[]) (v:=.agg #[.int .i64 k1,.int .i64 a1,.int .i64 b1]));exact rfl;exact rfl;(intro w' hw;exact hs1 gl A1 V c1 cv w' (hw.theBlk Zm) (hw.ownRd Zm (fun _=>rfl)) (hw.ownRd Zm (fun _=>rfl)));exact rfl);exact Zh;(rintro _ _ ⟨rfl,rfl⟩);(try refine⟨SUB,?_⟩))|fail)
   all_goals first
    |(((with_reducible apply zau Tryz.results62);exact Zr;intro w' hw);refine⟨?_,hw.below0 rfl⟩; rw[if_pos (show(k1:Int)≠0 by assumption)];dsimp only;rw[decide_eq_false (show ¬(k1:Int)=0 by assumption)];rfl)
    |exact zab 1 ⟨by omega,by omega,by omega,by omega,by omega,by omega⟩ Zo Ze (fun _ hw=>hw.sel Zl)
  ·have p1:=p1 Zo
   repeat' (first|refine Q0Rw8 ?_|refine Zha ?_|(refine Zhb ?_;intro g)|(refine Zg ?_ ?_<;>(intro h;try exact Zx))|refine GOF ?_ ?_|((with_reducible apply zam (id:=9) 2 (OT.seq [(0,1),(1,0),(3,2),(0,3)] .nil));kernel_rfl;exact rfl;kernel_rfl;exact Zd)|((with_reducible (first|apply zaa|apply TD_e3z|apply zan|apply zaf|apply zae));((with_reducible apply zbf (f:=117) (us:=[.pointer (some ⟨gl,0,none⟩)]) (cs:=[]) (v:=.agg #[.int .i64 k2,.int .i64 a2,.int .i64 b2]));exact rfl;exact rfl;(intro w' hw;exact hs2 gl A1 V c1 cv w' (hw.theBlk Zm) (hw.ownRd Zm (fun _=>rfl)) (hw.ownRd Zm (fun _=>rfl)) p1);exact rfl);exact Zh;(rintro _ _ ⟨rfl,rfl⟩);(try refine⟨SUB,?_⟩))|fail)
   all_goals first
    |(((with_reducible apply zau Tryz.results62);exact Zr;intro w' hw);refine⟨?_,hw.below0 rfl⟩;rw[if_neg (show ¬(k1:Int)≠0 by omega)];rw[if_pos (show(k2:Int)≠0 by assumption)];dsimp only;rw[decide_eq_false (show ¬(k2:Int)=0 by assumption)];rfl)
    |exact zab 2 ⟨by omega,by omega,by omega,by omega,by omega,by omega⟩ Zo Ze (fun _ hw=>hw.sel Zl)
  ·have p1:=p1 Zo
   have p2:=p2 Zo
   repeat' (first|refine Q0Rw8 ?_|refine Zha ?_|(refine Zhb ?_;intro g)|(refine Zg ?_ ?_<;>(intro h;try exact Zx))|refine GOF ?_ ?_|((with_reducible apply zam (id:=9) 2 (OT.seq [(0,1),(1,0),(3,2),(0,3)] .nil));kernel_rfl;exact rfl;kernel_rfl;exact Zd)|((with_reducible (first|apply zaa|apply TD_e3z|apply zan|apply zaf|apply zae));((with_reducible apply zbf (f:=118) (us:=[.pointer (some ⟨gl,0,none⟩)]) (cs:=[]) (v:=.agg #[.int .i64 k3,.int .i64 a3,.int .i64 b3]));exact rfl;exact rfl;(intro w' hw;exact hs3 gl A1 V c1 cv w' (hw.theBlk Zm) (hw.ownRd Zm (fun _=>rfl)) (hw.ownRd Zm (fun _=>rfl)) p1);exact rfl);exact Zh;(rintro _ _ ⟨rfl,rfl⟩);(try refine⟨SUB,?_⟩))|fail)
   all_goals first
    |(((with_reducible apply zau Tryz.results62);exact Zr;intro w' hw);refine⟨?_,hw.below0 rfl⟩;rw[if_neg (show ¬(k1:Int)≠0 by omega)];rw[if_neg (show ¬(k2:Int)≠0 by omega)];rw[if_pos (show(k3:Int)≠0 by assumption)];dsimp only;rw[decide_eq_false (show ¬(k3:Int)=0 by assumption)];rfl)
    |exact zab 3 ⟨by omega,by omega,by omega,by omega,by omega,by omega⟩ Zo Ze (fun _ hw=>hw.sel Zl)
  ·have p1:=p1 Zo
   have p2:=p2 Zo
   have p3:=p3 Zo
   repeat' (first|refine Q0Rw8 ?_|refine Zha ?_|(refine Zhb ?_;intro g)|(refine Zg ?_ ?_<;>(intro h;try exact Zx))|refine GOF ?_ ?_|((with_reducible apply zam (id:=9) 2 (OT.seq [(0,1),(1,0),(3,2),(0,3)] .nil));kernel_rfl;exact rfl;kernel_rfl;exact Zd)|((with_reducible (first|apply zaa|apply TD_e3z|apply zan|apply zaf|apply zae));((with_reducible apply zbf (f:=119) (us:=[.pointer (some ⟨gl,0,none⟩)]) (cs:=[]) (v:=.agg #[.int .i64 k4,.int .i64 a4,.int .i64 b4]));exact rfl;exact rfl;(intro w' hw;exact hs4 gl A1 V c1 cv w' (hw.theBlk Zm) (hw.ownRd Zm (fun _=>rfl)) (hw.ownRd Zm (fun _=>rfl)));exact rfl);exact Zh;(rintro _ _ ⟨rfl,rfl⟩);(try refine⟨SUB,?_⟩))|fail)
   all_goals first
    |(((with_reducible apply zau Tryz.results62);exact Zr;intro w' hw);refine⟨?_,hw.below0 rfl⟩;rw[if_neg (show ¬(k1:Int)≠0 by omega)];rw[if_neg (show ¬(k2:Int)≠0 by omega)];rw[if_neg (show ¬(k3:Int)≠0 by omega)];rw[if_pos (show(k4:Int)≠0 by assumption)];dsimp only;rw[decide_eq_false (show ¬(k4:Int)=0 by assumption)];rfl)
    |exact zab 4 ⟨by omega,by omega,by omega,by omega,by omega,by omega⟩ Zo Ze (fun _ hw=>hw.sel Zl)
  ·have p1:=p1 Zo
   have p2:=p2 Zo
   have p3:=p3 Zo
   have p4:=p4 Zo
   repeat' (first|refine Q0Rw8 ?_|refine Zha ?_|(refine Zhb ?_;intro g)|(refine Zg ?_ ?_<;>(intro h;try exact Zx))|refine GOF ?_ ?_|((with_reducible apply zam (id:=9) 2 (OT.seq [(0,1),(1,0),(3,2),(0,3)] .nil));kernel_rfl;exact rfl;kernel_rfl;exact Zd)|((with_reducible (first|apply zaa|apply TD_e3z|apply zan|apply zaf|apply zae));((with_reducible apply zbf (f:=120) (us:=[.pointer (some ⟨gl,0,none⟩)]) (cs:=[]) (v:=.agg #[.int .i64 k5,.int .i64 a5,.int .i64 b5]));exact rfl;exact rfl;(intro w' hw;exact hs5 gl A1 V c1 cv w' (hw.theBlk Zm) (hw.ownRd Zm (fun _=>rfl)) (hw.ownRd Zm (fun _=>rfl)));exact rfl);exact Zh;(rintro _ _ ⟨rfl,rfl⟩);(try refine⟨SUB,?_⟩))|fail)
   all_goals first
    |(((with_reducible apply zau Tryz.results62);exact Zr;intro w' hw);refine⟨?_,hw.below0 rfl⟩;rw[if_neg (show ¬(k1:Int)≠0 by omega)];rw[if_neg (show ¬(k2:Int)≠0 by omega)];rw[if_neg (show ¬(k3:Int)≠0 by omega)];rw[if_neg (show ¬(k4:Int)≠0 by omega)]; dsimp only;rw[decide_eq_false (show ¬(k5:Int)=0 by assumption)];rfl)
    |exact zab 5 ⟨by omega,by omega,by omega,by omega,by omega,by omega⟩ Zo Ze (fun _ hw=>hw.sel Zl)
  ·have q1:=p1 Zo
   have q2:=p2 Zo
   have q3:=p3 Zo
   have q4:=p4 Zo
   have q5:=p5 Zo
   have hz:=hz q5
   repeat' (first|refine Q0Rw8 ?_|refine Zga ?_|(refine Zgb ?_;intro g)|(refine Zg ?_ ?_<;>(intro h;try exact Zx))|fail)
   ((with_reducible apply zau Tryz.results62);exact Zr;intro w' hw)
   refine⟨?_,hw.below0 rfl⟩
   rw[if_neg (show ¬(k1:Int)≠0 by omega),if_neg (show ¬(k2:Int)≠0 by omega),if_neg (show ¬(k3:Int)≠0 by omega),if_neg (show ¬(k4:Int)≠0 by omega),hz]
   rfl
end
end
end Go.Proofs.YtjdckepbihcgfaaGreatDoor
