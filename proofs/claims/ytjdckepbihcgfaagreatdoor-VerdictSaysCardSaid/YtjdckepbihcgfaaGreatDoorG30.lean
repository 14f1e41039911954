/- Lemmas for the walks (Rw6, CtSpn, Rw7, Tk2, SrtStp, Tk5). No condition. -/
import Derived.Test.YtjdckepbihcgfaaGreatDoorG29
import Derived.Test.YtjdckepbihcgfaaGreatDoorG26
set_option linter.unusedSimpArgs false
set_option linter.unusedVariables false
set_option linter.unusedSectionVars false
set_option linter.unnecessarySimpa false
set_option maxRecDepth 100000
set_option maxHeartbeats 8000000
namespace Go.Proofs.YtjdckepbihcgfaaGreatDoor
section
open Go.RowKit
theorem Q0Rw6{p R:Prop}(r:R)(h:Rest R→p:=by intro r;(first|with_reducible (first|apply zcE|apply za9|apply zba|apply zbd|apply zbe)|((with_reducible (first|apply zaN|apply zaO));exact rfl;exact rfl;(with_reducible exact rfl)));(first|((with_reducible apply za1);exact rfl;(apply Lds.old;assumption;simp;assumption))|((with_reducible apply zeo);exact rfl;exact rfl)|((with_reducible apply zeq);exact rfl;exact rfl)|((with_reducible apply zen);exact rfl;exact rfl)|((with_reducible apply zep);exact rfl;exact rfl)|exact QS.auto);exact rfl;exact r.out):p:=h ⟨r⟩
theorem firstN_congr{n:Nat}{P Q:Nat→Bool}(h:∀i,i<n→P i=Q i):zaF n P=zaF n Q:=by
 cases e:zaF n Q with
 |none=>exact zaP fun i hi=>by rw[h i hi];exact zeL e i hi
 |some k =>
  obtain⟨h1,h2,h3⟩:=za3 e
  exact za5 h1 (fun j hj=>by rw[h j Zo];exact h3 j hj) (by rw[h k h1];exact h2)
theorem each_is{n:Nat}{P Q:Nat→Bool}{F G:Nat→Bd}(h:∀i,i<n→P i=Q i)(hG:∀i,i<n→P i=true→G i=F i):(match zaF n P with|some k=>G k|none=>⟨0,0,0⟩)=(match zaF n Q with|some k=>F k|none=>(⟨0,0,0⟩:Bd)):=by
 rw[←firstN_congr h]
 cases e:zaF n P with
 |none=>rfl
 |some k =>
  obtain⟨h1,h2,_⟩:=za3 e
  exact hG k h1 h2
theorem res_pos{cs:List Cl}(hok:QuOk cs){k:Nat}(hk:k<cs.length)(h4:(clK cs k).kind=4):(clK cs k).res≠-1↔0<(clK cs k).res:=by
 have:=(hok.got k hk h4).2
 omega
theorem straV_is{cs:List Cl}(hok:QuOk cs):zdN cs=match zaF cs.length (fun i=>decide ((clK cs i).kind=4)&&(decide ((clK cs i).res≠-1)&&decide ((zjO cs i).kind≠0))) with|some i=>zjO cs i|none=>⟨0,0,0⟩:=by
 unfold zdN
 refine each_is (fun i hi=>?_) (fun i hi hP=>?_)
 ·unfold zgG zjO
  by_cases h4:(clK cs i).kind=4
  ·have:=res_pos hok hi h4
   rw[decide_eq_decide.2 this]
   congr 2
   split<;>rename_i e<;>simp[e]
  ·simp[h4]
 ·unfold zgG at hP
  simp only[Bool.and_eq_true,decide_eq_true_eq] at hP
  unfold zjO
  rw[if_pos hP.2.2]
theorem straV_no{cs:List Cl}(hok:QuOk cs)(h:(zdN cs).kind=0):∀i,i<cs.length→(clK cs i).kind=4→(clK cs i).res≠-1→0≤zaM cs (clK cs i).res:=by
 intro i hi h4 hr
 unfold zdN at h
 cases e:zaF cs.length (zgG cs) with
 |some k=>rw[e] at h;cases h
 |none =>
  have h2:=zeL e i hi
  have h3:=(res_pos hok hi h4).1 hr
  unfold zgG at h2
  rw[decide_eq_true h4,decide_eq_true h3,Bool.true_and,Bool.true_and,decide_eq_false_iff_not] at h2
  omega
theorem gotBy_le{cs:List Cl}{i:Nat}(hi:i<cs.length)(h4:(clK cs i).kind=4):0≤zbB cs (clK cs i).res∧zbB cs (clK cs i).res≤i :=
 ixN_of hi (by unfold zdp;simp[h4])
theorem tweV_is{cs:List Cl}(hok:QuOk cs):tweV cs=match zaF cs.length (fun i=>decide ((clK cs i).kind=4)&&(decide ((clK cs i).res≠-1)&&decide ((zjP cs i).kind≠0))) with|some i=>zjP cs i|none=>⟨0,0,0⟩:=by
 unfold tweV
 refine each_is (fun i hi=>?_) (fun i hi hP=>?_)
 ·unfold tweB zjP
  by_cases h4:(clK cs i).kind=4
  ·have:=res_pos hok hi h4
   have hg:=gotBy_le hi h4
   rw[decide_eq_decide.2 this]
   congr 2
   split<;>rename_i e
   ·simp[e]
   ·simp;omega
  ·simp[h4]
 ·unfold tweB at hP
  simp only[Bool.and_eq_true,decide_eq_true_eq] at hP
  unfold zjP
  rw[if_neg Zo]
theorem earV_is{cs:List Cl}(hok:QuOk cs):earV cs=match zaF cs.length (fun i=>decide ((clK cs i).kind=4)&&(decide ((clK cs i).res≠-1)&&decide ((zjQ cs i).kind≠0))) with|some i=>zjQ cs i|none=>⟨0,0,0⟩:=by
 unfold earV
 refine each_is (fun i hi=>?_) (fun i hi hP=>?_)
 ·unfold earB zjQ
  by_cases h4:(clK cs i).kind=4
  ·have:=res_pos hok hi h4
   rw[decide_eq_decide.2 this]
   congr 2
   split<;>rename_i e<;>simp[e]
  ·simp[h4]
 ·unfold earB at hP
  simp only[Bool.and_eq_true,decide_eq_true_eq] at hP
  unfold zjQ
  rw[if_pos hP.2.2]
section
variable (gl:Nat)(A V:Option Addr)(ca cv:Nat)(cs:List Cl)(w:World)(hL:Blk w gl 215 #[.slice A cs.length ca,.slice V (zbh cs cs.length).length cv])(hA:RdE Cl.enc 7 w A cs)(hV:RdE Rvl.enc 3 w V (zbh cs cs.length))(hok:QuOk cs) 
include hL hA hV hok
theorem stray_any:Calls Tryz.prog 116 #[.pointer (some ⟨gl,0,none⟩)] w fun e w'=>e=.returned (.agg (Bd.enc (zdN cs)).toArray)∧Below w.heap.size w w':=by
 have hea:∀(g1:Nat) (S:List Ent) (w1:World),Mem ⟨6,[],w⟩ w1 S→zak g1 173 #[.pointer (some ⟨gl,0,none⟩)]∈S→Calls Tryz.prog 155 #[.pointer (some ⟨gl,0,none⟩),.func (.func 156) #[] [.pointer (some ⟨g1,0,none⟩)].toArray] w1 fun e w'=>e=.returned (.agg (Bd.enc (zdN cs)).toArray)∧Below w1.heap.size w1 w':=fun g1 S w1 hw hm=>by
  have b1:Blk w1 g1 173 #[.pointer (some ⟨gl,0,none⟩)]:=hw.theBlk hm
  exact each_any gl A V ca cv cs w1 (hL.carry (hw.below0 rfl)) (hw.rd rfl hA) hok 156 [.pointer (some ⟨g1,0,none⟩)] (zjO cs) (zdN cs) (fun i hi _ _ w2 hb=>stray1_any gl A V ca cv cs w2 ((hL.carry (hw.below0 rfl)).carry hb) (RdE.below (hw.rd rfl hA) hb) (RdE.below (hw.rd rfl hV) hb) hok g1 (b1.carry hb).lt ((b1.carry hb).cell 0) i hi) (straV_is hok)
 generalize zdN cs=R at *
 obtain⟨vk,va,vb⟩:=R
 rw[show Bd.enc ⟨vk,va,vb⟩=[.int .i64 vk,.int .i64 va,.int .i64 vb] from rfl] at *
 refine zaj (S:=[]) [] Tryz.func116 rfl Tryz.ntmps116 Zj (Mem.nil _) ?_
 repeat' (first|refine Q0Rw6 ?_|refine Zga ?_|(refine Zgb ?_;intro g)|(refine Zg ?_ ?_<;>(intro h;try exact Zx))|((with_reducible (first|apply zaa|apply TD_e3z|apply zan|apply zaf|apply zae));((with_reducible apply zad (f:=155));exact rfl;(intro w1 hw;exact hea _ _ w1 hw Zm);exact rfl);exact Zh;(rintro _ _ ⟨rfl,rfl⟩);(try refine⟨SUB,?_⟩))|fail)
 ((with_reducible apply zau Tryz.results116);exact Zr;intro w' hw)
 exact⟨rfl,hw.below0 rfl⟩
theorem twice_any(hst:(zdN cs).kind=0):Calls Tryz.prog 117 #[.pointer (some ⟨gl,0,none⟩)] w fun e w'=>e=.returned (.agg (Bd.enc (tweV cs)).toArray)∧Below w.heap.size w w':=by
 have hput:=straV_no hok hst
 have hea:∀(g1:Nat) (S:List Ent) (w1:World),Mem ⟨6,[],w⟩ w1 S→zak g1 173 #[.pointer (some ⟨gl,0,none⟩)]∈S→Calls Tryz.prog 155 #[.pointer (some ⟨gl,0,none⟩),.func (.func 157) #[] [.pointer (some ⟨g1,0,none⟩)].toArray] w1 fun e w'=>e=.returned (.agg (Bd.enc (tweV cs)).toArray)∧Below w1.heap.size w1 w':=fun g1 S w1 hw hm=>by
  have b1:Blk w1 g1 173 #[.pointer (some ⟨gl,0,none⟩)]:=hw.theBlk hm
  exact each_any gl A V ca cv cs w1 (hL.carry (hw.below0 rfl)) (hw.rd rfl hA) hok 157 [.pointer (some ⟨g1,0,none⟩)] (zjP cs) (tweV cs) (fun i hi h4 hr w2 hb=>twice1_any gl A V ca cv cs w2 ((hL.carry (hw.below0 rfl)).carry hb) (RdE.below (hw.rd rfl hA) hb) (RdE.below (hw.rd rfl hV) hb) hok g1 (b1.carry hb).lt ((b1.carry hb).cell 0) i hi (by have:=hput i hi;rw[zay hi] at this;exact this h4 hr)) (tweV_is hok)
 generalize tweV cs=R at *
 obtain⟨vk,va,vb⟩:=R
 rw[show Bd.enc ⟨vk,va,vb⟩=[.int .i64 vk,.int .i64 va,.int .i64 vb] from rfl] at *
 refine zaj (S:=[]) [] Tryz.func117 rfl Tryz.ntmps117 Zj (Mem.nil _) ?_
 repeat' (first|refine Q0Rw6 ?_|refine Zga ?_|(refine Zgb ?_;intro g)|(refine Zg ?_ ?_<;>(intro h;try exact Zx))|((with_reducible (first|apply zaa|apply TD_e3z|apply zan|apply zaf|apply zae));((with_reducible apply zad (f:=155));exact rfl;(intro w1 hw;exact hea _ _ w1 hw Zm);exact rfl);exact Zh;(rintro _ _ ⟨rfl,rfl⟩);(try refine⟨SUB,?_⟩))|fail)
 ((with_reducible apply zau Tryz.results117);exact Zr;intro w' hw)
 exact⟨rfl,hw.below0 rfl⟩
theorem early_any(hst:(zdN cs).kind=0):Calls Tryz.prog 118 #[.pointer (some ⟨gl,0,none⟩)] w fun e w'=>e=.returned (.agg (Bd.enc (earV cs)).toArray)∧Below w.heap.size w w':=by
 have hput:=straV_no hok hst
 have hea:∀(g1:Nat) (S:List Ent) (w1:World),Mem ⟨6,[],w⟩ w1 S→zak g1 173 #[.pointer (some ⟨gl,0,none⟩)]∈S→Calls Tryz.prog 155 #[.pointer (some ⟨gl,0,none⟩),.func (.func 158) #[] [.pointer (some ⟨g1,0,none⟩)].toArray] w1 fun e w'=>e=.returned (.agg (Bd.enc (earV cs)).toArray)∧Below w1.heap.size w1 w':=fun g1 S w1 hw hm=>by
  have b1:Blk w1 g1 173 #[.pointer (some ⟨gl,0,none⟩)]:=hw.theBlk hm
  exact each_any gl A V ca cv cs w1 (hL.carry (hw.below0 rfl)) (hw.rd rfl hA) hok 158 [.pointer (some ⟨g1,0,none⟩)] (zjQ cs) (earV cs) (fun i hi h4 hr w2 hb=>early1_any gl A V ca cv cs w2 ((hL.carry (hw.below0 rfl)).carry hb) (RdE.below (hw.rd rfl hA) hb) (RdE.below (hw.rd rfl hV) hb) hok g1 (b1.carry hb).lt ((b1.carry hb).cell 0) i hi (by have:=hput i hi;rw[zay hi] at this;exact this h4 hr)) (earV_is hok)
 generalize earV cs=R at *
 obtain⟨vk,va,vb⟩:=R
 rw[show Bd.enc ⟨vk,va,vb⟩=[.int .i64 vk,.int .i64 va,.int .i64 vb] from rfl] at *
 refine zaj (S:=[]) [] Tryz.func118 rfl Tryz.ntmps118 Zj (Mem.nil _) ?_
 repeat' (first|refine Q0Rw6 ?_|refine Zga ?_|(refine Zgb ?_;intro g)|(refine Zg ?_ ?_<;>(intro h;try exact Zx))|((with_reducible (first|apply zaa|apply TD_e3z|apply zan|apply zaf|apply zae));((with_reducible apply zad (f:=155));exact rfl;(intro w1 hw;exact hea _ _ w1 hw Zm);exact rfl);exact Zh;(rintro _ _ ⟨rfl,rfl⟩);(try refine⟨SUB,?_⟩))|fail)
 ((with_reducible apply zau Tryz.results118);exact Zr;intro w' hw)
 exact⟨rfl,hw.below0 rfl⟩
end
def ahdB(cs:List Cl)(a b:Int):Bool:=decide ((clK cs a.toNat).to≠-1)&&decide ((clK cs a.toNat).to<(clK cs b.toNat).from_)
theorem fifB_is{cs:List Cl}(hok:QuOk cs){a b:Nat}(ha:0≤zaM cs a)(hb:0≤zaM cs b):zgT cs a b=(ahdB cs (zaM cs a) (zaM cs b)&&(decide (0≤zbB cs b)&&(decide (zbB cs a<0)||ahdB cs (zbB cs b) (zbB cs a)))):=by
 obtain⟨p,hp,hpl,_,_⟩:=zgF ha
 obtain⟨q,hq,hql,_,_⟩:=zgF hb
 have hne:=hok.ne p q hpl hql
 unfold zgT ahdB
 rw[hp,hq,Int.toNat_natCast,Int.toNat_natCast,decide_eq_true (show(0:Int)≤(p:Nat) by omega),decide_eq_true (show(0:Int)≤(q:Nat) by omega),Bool.true_and,Bool.true_and]
 congr 1
 ·congr 1
  exact decide_eq_decide.2 Zo
 ·by_cases hg:0≤zbB cs b
  ·obtain⟨k,hk,hkl,hk4,_⟩:=gotK_at hg
   have hto:=(hok.got k hkl hk4).1
   have hk:zbB cs b=(k:Nat):=hk
   rw[hk,Int.toNat_natCast,decide_eq_true (show(clK cs k).to≠-1 from hto),Bool.true_and]
  ·simp[hg]
section
variable (gl:Nat)(A V:Option Addr)(ca cv:Nat)(cs:List Cl)(w:World)(hL:Blk w gl 215 #[.slice A cs.length ca,.slice V (zbh cs cs.length).length cv])(hA:RdE Cl.enc 7 w A cs)(hV:RdE Rvl.enc 3 w V (zbh cs cs.length))(hok:QuOk cs) 
include hL hA hok
theorem ahead1_any(b2:Nat)(h2:b2<w.heap.size)(hc2:w.cell? ⟨b2,0,none⟩=some (.pointer (some ⟨gl,0,none⟩)))(a b:Int)(ha:0≤a∧a<cs.length)(hb:0≤b∧b<cs.length):
  Calls Tryz.prog 159 #[.int .i64 a,.int .i64 b,.pointer (some ⟨b2,0,none⟩)] w fun e w'=>e=.returned (.bool (ahdB cs a b))∧Below w.heap.size w w':=by
 have hl:=hL.lt
 have hl0:w.cell? ⟨gl,0,none⟩=some (.slice A cs.length ca):=hL.cell 0
 obtain⟨bC,oC,rfl,_⟩:=RdE.open hA Zo
 have h3:ahdB cs a b=(decide (cs[a.toNat].to≠-1)&&decide (cs[a.toNat].to<cs[b.toNat].from_)):=by unfold ahdB;rw[zay Zo,zay Zo]
 rw[h3]
 clear h3
 refine zaj (S:=[]) [] Tryz.func159 rfl Tryz.ntmps159 Zj (Mem.nil _) ?_
 repeat' (first|refine Q0Rw6 ?_|refine Zha ?_|(refine Zhb ?_;intro g)|(refine Zg ?_ ?_<;>(intro h;try exact Zx))|refine GOF ?_ ?_|((with_reducible apply zam (id:=1) 1000 (OT.seq [(0,4),(1,0),(0,1),(0,2),(1,3),(0,5),(0,6),(1,7),(0,8),(0,9),(0,14),(0,22),(1,10),(0,11),(0,12),(1,13),(0,15),(0,16),(1,17),(1,18),(0,19),(0,20),(1,21),(0,23),(0,24),(1,25),(0,26),(0,27),(0,28)] .nil));kernel_rfl;exact rfl;kernel_rfl;exact Zd)|fail)
 all_goals
  refine zah Tryz.results159 rfl (fun w' hw=>?_)
  refine⟨?_,hw.below0 rfl⟩
  congr 2
  first|(simp[*,za0];done)|(simp[*,za0];omega)
include hV
theorem order_any:Calls Tryz.prog 119 #[.pointer (some ⟨gl,0,none⟩)] w fun e w'=>e=.returned (.agg (Bd.enc (fifV cs)).toArray)∧Below w.heap.size w w':=by
 have hl:=hL.lt
 have hl0:w.cell? ⟨gl,0,none⟩=some (.slice A cs.length ca):=hL.cell 0
 have hl1:w.cell? ⟨gl,1,none⟩=some (.slice V (zbh cs cs.length).length cv):=hL.cell 1
 have hfew:=hok.few
 have hkq:=zfm hok
 have hvl:=zbr cs cs.length
 have hvo:=fun k (hk:k<(zbh cs cs.length).length)=>valL_ok (Nat.le_refl _) hk
 have hR:fifV cs=match zh4 (zcr cs) (zgT cs) with|some (a,b)=>⟨6,(a:Nat),(b:Nat)⟩|none=>⟨0,0,0⟩:=by unfold fifV;rw[fif_keys];cases zh4 (zcr cs) (zgT cs)<;>rfl
 have hfb:∀i k (hi:i<(zbh cs cs.length).length) (hk:k<(zbh cs cs.length).length) (hi2:i<(zcr cs).length) (hk2:k<(zcr cs).length),zgT cs (zcr cs)[i] (zcr cs)[k]=(ahdB cs (zbh cs cs.length)[i].enq (zbh cs cs.length)[k].enq&&(decide (0≤(zbh cs cs.length)[k].deq)&&(decide ((zbh cs cs.length)[i].deq<0)||ahdB cs (zbh cs cs.length)[k].deq (zbh cs cs.length)[i].deq))):=fun i k hi hk hi2 hk2=>by
  rw[fifB_is hok (zdE.1 (List.getElem_mem _)).2 (zdE.1 (List.getElem_mem _)).2,zdF hi,zdF hk]
  rfl
 have hvn:∀i (hi:i<(zbh cs cs.length).length) (hi2:i<(zcr cs).length),(zbh cs cs.length)[i].n=((zcr cs)[i]:Nat):=fun i hi hi2=>by rw[zdF hi];rfl
 have hah:∀(a b:Int) (g1:Nat) (S:List Ent) (w1:World),Mem ⟨59,[],w⟩ w1 S→zak g1 173 #[.pointer (some ⟨gl,0,none⟩)]∈S→(0≤a∧a<cs.length)→(0≤b∧b<cs.length)→Calls Tryz.prog 159 [.int .i64 a,.int .i64 b,.pointer (some ⟨g1,0,none⟩)].toArray w1 fun e w'=>e=.returned (.bool (ahdB cs a b))∧Below w1.heap.size w1 w':=fun a b g1 S w1 hw hm ha hb=>by
  have b1:Blk w1 g1 173 #[.pointer (some ⟨gl,0,none⟩)]:=hw.theBlk hm
  exact ahead1_any gl A V ca cv cs w1 (hL.carry (hw.below0 rfl)) (hw.rd rfl hA) hok g1 b1.lt (b1.cell 0) a b ha hb
 generalize fifV cs=R at *
 generalize zbh cs cs.length=vs at *
 refine zaj (S:=[]) [] Tryz.func119 rfl Tryz.ntmps119 Zj (Mem.nil _) ?_
 repeat' (first|refine Q0Rw6 ?_|refine Zga ?_|(refine Zgb ?_;intro g)|(refine Zg ?_ ?_<;>(intro h;try exact Zx))|fail)
 obtain⟨gb,rfl⟩:∃x,x=g:=⟨_,rfl⟩
 obtain⟨g1,rfl⟩:∃x,x=g:=⟨_,rfl⟩
 refine zap (X:=Nat) (fun i=>[(14,.int .i64 (i:Nat)),(13,.int .i64 vs.length),(12,.slice V vs.length cv),(3,.func (.func 159) #[] [.pointer (some ⟨g1,0,none⟩)].toArray),(2,.pointer (some ⟨gb,0,none⟩)),(1,.pointer (some ⟨g1,0,none⟩))]) (fun _=>[zak gb 79 #[.int .i64 0,.int .i64 0,.int .i64 0],zak g1 173 #[.pointer (some ⟨gl,0,none⟩)]])
  (fun i=>i≤vs.length∧∀j (hj:j<i) (hj2:j<(zcr cs).length) q (hq:q<(zcr cs).length),zgT cs (zcr cs)[j] (zcr cs)[q]=false) (fun i=>vs.length-i) 0 ⟨by omega,fun j hj=>by omega⟩ Ze (by exact zaK) ?_
 rintro i ⟨hi,hno⟩
 by_cases hil:i<vs.length
 ·obtain⟨bV,oV,rfl,_⟩:=RdE.open hV Zo
  obtain⟨hi0,hi1,hi2,hi3⟩:=hvo i hil
  repeat' (first|refine Q0Rw6 ?_|refine Zga ?_|(refine Zgb ?_;intro g)|(refine Zg ?_ ?_<;>(intro h;try exact Zx))|fail)
  obtain⟨g5,rfl⟩:∃x,x=g:=⟨_,rfl⟩
  refine zap (X:=Nat) (fun k=>[(23,.int .i64 (k:Nat)),(22,.int .i64 vs.length),(21,.slice (some ⟨bV,oV,none⟩) vs.length cv),(5,.pointer (some ⟨g5,0,none⟩)),(14,.int .i64 (i:Nat)),(13,.int .i64 vs.length),(12,.slice (some ⟨bV,oV,none⟩) vs.length cv),(3,.func (.func 159) #[] [.pointer (some ⟨g1,0,none⟩)].toArray),(2,.pointer (some ⟨gb,0,none⟩)),(1,.pointer (some ⟨g1,0,none⟩))]) (fun _=>[zak g5 219 (Rvl.enc vs[i]).toArray,zak gb 79 #[.int .i64 0,.int .i64 0,.int .i64 0],zak g1 173 #[.pointer (some ⟨gl,0,none⟩)]])
   (fun k=>k≤vs.length∧∀q (hq:q<k) (hq2:q<(zcr cs).length),zgT cs ((zcr cs)[i]'(by omega)) (zcr cs)[q]=false) (fun k=>vs.length-k) 0 ⟨by omega,fun q hq=>by omega⟩ Ze (by exact zaK) ?_
  rintro k ⟨hk,hno2⟩
  by_cases hkl:k<vs.length
  ·obtain⟨hk0,hk1,hk2,hk3⟩:=hvo k hkl
   have hf:=hfb i k hil hkl Zo Zo
   repeat' (first|refine Q0Rw6 ?_|refine Zga ?_|(refine Zgb ?_;intro g)|(refine Zg ?_ ?_<;>(intro h;try exact Zx))|((with_reducible (first|apply zaa|apply TD_e3z|apply zan|apply zaf|apply zae));((with_reducible apply zbf (f:=159) (us:=[]) (cs:=[.pointer (some ⟨g1,0,none⟩)]) (vs:=[.int .i64 vs[i].enq,.int .i64 vs[k].enq]) (v:=.bool (ahdB cs vs[i].enq vs[k].enq)));exact rfl;exact rfl;(intro w' hw;exact hah vs[i].enq vs[k].enq _ _ w' hw Zm Zo Zo);exact rfl);exact Zh;(rintro _ _ ⟨rfl,rfl⟩);(try refine⟨SUB,?_⟩))|((with_reducible (first|apply zaa|apply TD_e3z|apply zan|apply zaf|apply zae));((with_reducible apply zbf (f:=159) (us:=[]) (cs:=[.pointer (some ⟨g1,0,none⟩)]) (vs:=[.int .i64 vs[k].deq,.int .i64 vs[i].deq]) (v:=.bool (ahdB cs vs[k].deq vs[i].deq)));exact rfl;exact rfl;(intro w' hw;exact hah vs[k].deq vs[i].deq _ _ w' hw Zm Zo Zo);exact rfl);exact Zh;(rintro _ _ ⟨rfl,rfl⟩);(try refine⟨SUB,?_⟩))|fail)
   all_goals
    first
     |(((with_reducible apply zau Tryz.results119);exact Zr;intro w' hw);have hb:zgT cs ((zcr cs)[i]'(by omega)) ((zcr cs)[k]'(by omega))=true:=(by rw[hf];simp only[Bool.and_eq_true,Bool.or_eq_true,decide_eq_true_eq];exact⟨by assumption,by assumption,by first|exact .inl (by assumption)|exact .inr (by assumption)⟩);rw[pairL_at Zo Zo (fun j hj q hq=>hno j hj Zo q hq) (fun q hq=>hno2 q hq Zo) hb] at hR;dsimp only at hR;rw[←hvn i hil Zo,←hvn k hkl Zo] at hR;subst hR;exact⟨rfl,hw.below0 rfl⟩)
     |(have hb:zgT cs ((zcr cs)[i]'(by omega)) ((zcr cs)[k]'(by omega))=false:=(by
       rw[hf,Bool.eq_false_iff]
       intro e
       simp only[Bool.and_eq_true,Bool.or_eq_true,decide_eq_true_eq] at e
       obtain⟨e1,e2,e3⟩:=e
       rcases e3 with e3|e3<;>first|omega|(simp_all;done))
       exact zab (k+1) ⟨hkl,fun q hq hq2=>(Nat.lt_succ_iff_lt_or_eq.1 hq).elim (fun e=>hno2 q e hq2) (fun e=>by subst e;exact hb)⟩ Zo Ze (by exact zaK))
  ·obtain rfl:k=vs.length:=by omega
   repeat' (first|refine Q0Rw6 ?_|refine Zga ?_|(refine Zgb ?_;intro g)|(refine Zg ?_ ?_<;>(intro h;try exact Zx))|fail)
   exact zab (i+1) ⟨hil,fun j hj hj2 q hq=>(Nat.lt_succ_iff_lt_or_eq.1 hj).elim (fun e=>hno j e hj2 q hq) (fun e=>by subst e;exact hno2 q Zo hq)⟩ Zo Ze (by exact zaK)
 ·obtain rfl:i=vs.length:=by omega
  rw[pairL_none fun j hj q hq=>hno j Zo hj q hq] at hR
  subst hR
  repeat' (first|refine Q0Rw6 ?_|refine Zga ?_|(refine Zgb ?_;intro g)|(refine Zg ?_ ?_<;>(intro h;try exact Zx))|fail)
  ((with_reducible apply zau Tryz.results119);exact Zr;intro w' hw)
  exact⟨rfl,hw.below0 rfl⟩
end
end
section
open Go.RowKit
section
variable (fn:Nat)[IsFn Tryz.prog fn](p:Spn→Bool)(cvs:List Value)(A:Option Addr)(c:Nat)(l:List Spn)(w:World)(hA:RdE Spn.enc 2 w A l)(hl:l.length≤9223372036854775807) 
variable (hp:∀s∈l,∀w',Below w.heap.size w w'→Calls Tryz.prog fn (.agg (Spn.enc s).toArray::cvs).toArray w' fun e w2=>e=.returned (.bool (p s))∧Below w'.heap.size w' w2) 
include hA hl hp
theorem indexSpn_any:Calls Tryz.prog 188 #[.slice A l.length c,.func (.func fn) #[] cvs.toArray] w fun e w'=>e=.returned (.int .i64 (idxF p l))∧Below w.heap.size w w':=by
 refine zaj (S:=[]) [] Tryz.func188 rfl Tryz.ntmps188 Zj (Mem.nil _) ?_
 repeat' (first|refine Zga ?_|(refine Zgb ?_;intro g)|(refine Zg ?_ ?_<;>(intro h;try exact Zx))|fail)
 refine zap (X:=Nat) (fun k=>[(8,.int .i64 (k:Nat)),(7,.int .i64 (l.length:Nat)),(1,.func (.func fn) #[] cvs.toArray),(0,.slice A l.length c)]) (fun _=>[])
  (fun k=>k≤l.length∧(l.take k).any p=false) (fun k=>l.length-k) 0 ⟨by omega,by simp⟩ Ze (by exact zaK) ?_
 rintro k ⟨hk,hno⟩
 by_cases hkl:k<l.length
 ·obtain⟨b,o,rfl,_⟩:=RdE.open hA Zo
  have hb:=fun w' hb=>hp l[k] (List.getElem_mem _) w' hb
  generalize hz:p l[k]=z at hb
  repeat' (first|refine Zga ?_|(refine Zgb ?_;intro g)|(refine Zg ?_ ?_<;>(intro h;try exact Zx))|((with_reducible (first|apply zaa|apply TD_e3z|apply zan|apply zaf|apply zae));((with_reducible apply zbf (f:=fn) (us:=[]) (cs:=cvs) (v:=.bool z));exact rfl;exact rfl;(intro w' hw;exact hb w' (hw.below0 rfl));exact rfl);exact Zh;(rintro _ _ ⟨rfl,rfl⟩);(try refine⟨SUB,?_⟩))|fail)
  ·(refine zah Tryz.results188 rfl (fun w' hw=>?_))
   exact⟨by rw[zjJ hkl hno (by rw[hz];assumption)];rfl,hw.below0 rfl⟩
  ·refine zab (k+1) ⟨hkl,zdD hkl hno (by rw[hz];assumption)⟩ Zo Ze (by exact zaK)
 ·obtain rfl:k=l.length:=by omega
  rw[List.take_length] at hno
  repeat' (first|refine Zga ?_|(refine Zgb ?_;intro g)|(refine Zg ?_ ?_<;>(intro h;try exact Zx))|fail)
  (refine zah Tryz.results188 rfl (fun w' hw=>?_))
  exact⟨by rw[zjK hno];rfl,hw.below0 rfl⟩
theorem contSpn_any:Calls Tryz.prog 161 #[.slice A l.length c,.func (.func fn) #[] cvs.toArray] w fun e w'=>e=.returned (.bool (l.any p))∧Below w.heap.size w w':=by
 have hi:=fun w' (hb:Below w.heap.size w w')=>indexSpn_any fn p cvs A c l w' (RdE.below hA hb) hl (fun s hs w2 h2=>hp s hs w2 (zeH hb h2))
 have hz:=idxF_any p l
 generalize idxF p l=z at *
 generalize l.any p=q at *
 subst hz
 refine zaj (S:=[]) [] Tryz.func161 rfl Tryz.ntmps161 Zj (Mem.nil _) ?_
 repeat' (first|refine Zga ?_|(refine Zgb ?_;intro g)|(refine Zg ?_ ?_<;>(intro h;try exact Zx))|((with_reducible (first|apply zaa|apply TD_e3z|apply zan|apply zaf|apply zae));((with_reducible apply zad (f:=188));exact rfl;(intro w hw;exact hi w (hw.below0 rfl));exact rfl);exact Zh;(rintro _ _ ⟨rfl,rfl⟩);(try refine⟨SUB,?_⟩))|fail)
 (refine zah Tryz.results161 rfl (fun w' hw=>?_))
 exact⟨rfl,hw.below0 rfl⟩
end
end
section
open Go.RowKit
theorem Q0Rw7{p R:Prop}(r:R)(h:Rest R→p:=by intro r;(first|with_reducible (first|apply zcE|apply za9|apply zba|apply zbd|apply zbe)|((with_reducible (first|apply zaN|apply zaO));exact rfl;exact rfl;(with_reducible exact rfl)));(first|((with_reducible apply za1);exact rfl;(apply Lds.old;assumption;simp;assumption))|((with_reducible apply zeo);exact rfl;exact rfl)|((with_reducible apply zeq);exact rfl;exact rfl)|((with_reducible apply zen);exact rfl;exact rfl)|((with_reducible apply zep);exact rfl;exact rfl)|exact QS.auto);exact rfl;exact r.out):p:=h ⟨r⟩
theorem empty1_any(s:Spn)(t:Int)(b1:Nat)(w:World)(h1:b1<w.heap.size)(hc1:w.cell? ⟨b1,0,none⟩=some (.int .i64 t)):
  Calls Tryz.prog 162 #[.agg (Spn.enc s).toArray,.pointer (some ⟨b1,0,none⟩)] w fun e w'=>e=.returned (.bool (rwInB s t))∧Below w.heap.size w w':=by
 refine zaj (S:=[]) [] Tryz.func162 rfl Tryz.ntmps162 Zj (Mem.nil _) ?_
 repeat' (first|refine Q0Rw7 ?_|refine Zga ?_|(refine Zgb ?_;intro g)|(refine Zg ?_ ?_<;>(intro h;try exact Zx))|fail)
 all_goals
  refine zah Tryz.results162 rfl (fun w' hw=>?_)
  refine⟨?_,hw.below0 rfl⟩
  congr 2
  unfold rwInB
  first|(simp[*,za0];done)|(simp[*,za0];omega)
section
variable (gl:Nat)(A V:Option Addr)(ca cv:Nat)(cs:List Cl)(w:World)(hL:Blk w gl 215 #[.slice A cs.length ca,.slice V (zbh cs cs.length).length cv])(hA:RdE Cl.enc 7 w A cs)(hV:RdE Rvl.enc 3 w V (zbh cs cs.length))(hok:QuOk cs) 
include hL hA hV hok
theorem empty_any:Calls Tryz.prog 120 #[.pointer (some ⟨gl,0,none⟩)] w fun e w'=>e=.returned (.agg (Bd.enc (empV cs)).toArray)∧Below w.heap.size w w':=by
 have hl:=hL.lt
 have hl0:w.cell? ⟨gl,0,none⟩=some (.slice A cs.length ca):=hL.cell 0
 have hfew:=hok.few
 have hst:=fun w' h1 h2 h3=>stays_any gl A V ca cv cs w' h1 h2 h3 hok
 have hsl:=stayL_len cs 1001
 have hco:∀(t:Int) (g7:Nat) (A3:Option Addr) (c3:Nat) (S:List Ent) (w1:World),Mem ⟨48,[],w⟩ w1 S→zak g7 3 #[.int .i64 t]∈S→zac Spn.enc 2 52 A3 c3 (ze5 cs 1001)∈S →
   Calls Tryz.prog 161 #[.slice A3 (ze5 cs 1001).length c3,.func (.func 162) #[] [.pointer (some ⟨g7,0,none⟩)].toArray] w1 fun e w'=>e=.returned (.bool (fullB cs t))∧Below w1.heap.size w1 w':=fun t g7 A3 c3 S w1 hw hm hm2=>by
  have b1:Blk w1 g7 3 #[.int .i64 t]:=hw.theBlk hm
  exact contSpn_any 162 (fun s=>rwInB s t) [.pointer (some ⟨g7,0,none⟩)] A3 c3 (ze5 cs 1001) w1 (hw.ownRd hm2 (fun _=>rfl)) Zo (fun s _ w2 hb=>empty1_any s t g7 w2 (b1.carry hb).lt ((b1.carry hb).cell 0))
 have hR:empV cs=match zaF cs.length (empB cs) with|some k=>⟨7,k,0⟩|none=>⟨0,0,0⟩:=rfl
 generalize empV cs=R at *
 refine zaj (S:=[]) [] Tryz.func120 rfl Tryz.ntmps120 Zj (Mem.nil _) ?_
 repeat' (first|refine Q0Rw7 ?_|refine Zga ?_|(refine Zgb ?_;intro g)|(refine Zg ?_ ?_<;>(intro h;try exact Zx))|((with_reducible (first|apply zaa|apply TD_e3z|apply zan|apply zaf|apply zae));((with_reducible apply zal (f:=160));exact rfl;(intro w hw;exact hst w (hL.carry (hw.below0 rfl)) (hw.rd rfl hA) (hw.rd rfl hV));exact rfl);exact Zh;(rintro _ _ ⟨A3,c3,rfl,rfl⟩);(try refine⟨SUB,?_⟩))|fail)
 obtain⟨gb,rfl⟩:∃x,x=g:=⟨_,rfl⟩
 refine zap (X:=Nat) (fun k=>[(15,.int .i64 (k:Nat)),(14,.int .i64 cs.length),(13,.slice A cs.length ca),(3,.slice A3 (ze5 cs 1001).length c3),(2,.pointer (some ⟨gb,0,none⟩))]) (fun _=>[zac Spn.enc 2 52 A3 c3 (ze5 cs 1001),zak gb 79 #[.int .i64 0,.int .i64 0,.int .i64 0]]) (fun k=>k≤cs.length∧∀i,i<k→empB cs i=false) (fun k=>cs.length-k) 0 ⟨by omega,fun i hi=>by omega⟩ Ze (by exact zaK) ?_
 rintro k ⟨hk,hno⟩
 by_cases hkl:k<cs.length
 ·obtain⟨bC,oC,rfl,_⟩:=RdE.open hA Zo
  have hck:=zay hkl
  have hfr:=hok.frm k hkl
  have hto:=hok.to k hkl
  have hem:empB cs k=((decide (cs[k].kind=4)&&decide (cs[k].res=-1))&&alwP cs k (cs[k].to-cs[k].from_).toNat):=by unfold empB alwB alwP;rw[hck]
  have hal:=fun d=>alwP_succ cs k d
  rw[hck] at hfr hto hal
  have hnx:empB cs k=false→∀i,i<k+1→empB cs i=false:=fun hb i hi=>(Nat.lt_succ_iff_lt_or_eq.1 hi).elim (fun e=>hno i e) (fun e=>by subst e;exact hb)
  by_cases hcr:cs[k].kind=4∧cs[k].res=-1
  ·obtain⟨h4,hr⟩:=hcr
   repeat' (first|refine Q0Rw7 ?_|refine Zga ?_|(refine Zgb ?_;intro g)|(refine Zg ?_ ?_<;>(intro h;try exact Zx))|fail)
   obtain⟨g7,rfl⟩:∃x,x=g:=⟨_,rfl⟩
   obtain⟨g5,rfl⟩:∃x,x=g:=⟨_,rfl⟩
   refine zap (X:=Nat×Nat) (fun x=>[(6,.bool (alwP cs k x.1)),(7,.pointer (some ⟨x.2,0,none⟩)),(5,.pointer (some ⟨g5,0,none⟩)),(4,.int .i64 (k:Nat)),(15,.int .i64 (k:Nat)),(14,.int .i64 cs.length),(13,.slice (some ⟨bC,oC,none⟩) cs.length ca),(3,.slice A3 (ze5 cs 1001).length c3),(2,.pointer (some ⟨gb,0,none⟩))]) (fun x=>[zak x.2 3 #[.int .i64 (cs[k].from_+(x.1:Nat))],zak g5 36 (Cl.enc cs[k]).toArray,zac Spn.enc 2 52 A3 c3 (ze5 cs 1001),zak gb 79 #[.int .i64 0,.int .i64 0,.int .i64 0]])
    (fun x=>x.1≤(cs[k].to-cs[k].from_).toNat) (fun x=>(cs[k].to-cs[k].from_).toNat-x.1) (0,g7) (by(try dsimp only);omega) Ze (fun w' hw=>by
     show Mem _ w' [zak g7 3 #[.int .i64 (cs[k].from_+((0:Nat):Int))],zak g5 36 (Cl.enc cs[k]).toArray,zac Spn.enc 2 52 A3 c3 (ze5 cs 1001),zak gb 79 #[.int .i64 0,.int .i64 0,.int .i64 0]]
     rw[show cs[k].from_+((0:Nat):Int)=cs[k].from_ by omega]
     exact hw.sel Zl) ?_
   rintro⟨d,g7⟩ hd
   dsimp only at hd ⊢
   have had:=hal d
   by_cases hdl:cs[k].from_+(d:Nat)<cs[k].to
   ·generalize alwP cs k d=B at *
    repeat' (first|refine Q0Rw7 ?_|refine Zga ?_|(refine Zgb ?_;intro g)|(refine Zg ?_ ?_<;>(intro h;try exact Zx))|((with_reducible (first|apply zaa|apply TD_e3z|apply zan|apply zaf|apply zae));((with_reducible apply zad (f:=161) (v:=.bool (fullB cs (cs[k].from_+(d:Nat)))));exact rfl;(intro w1 hw;exact hco _ _ _ _ _ w1 hw Zm Zm);exact rfl);exact Zh;(rintro _ _ ⟨rfl,rfl⟩);(try refine⟨SUB,?_⟩))|fail)
    all_goals
     apply zab (d+1,g)
     case hE=>(try dsimp only);rw[had];simp only[h,Bool.true_and,Bool.false_and];exact Ze
     case hS=>(try dsimp only);rw[show cs[k].from_+((d+1:Nat):Int)=cs[k].from_+(d:Nat)+1 by omega];exact fun w' hw=>hw.sel Zl
     case hμ=>(try dsimp only);omega
     case hp=>(try dsimp only);omega
   ·obtain rfl:d=(cs[k].to-cs[k].from_).toNat:=by omega
    generalize alwP cs k (cs[k].to-cs[k].from_).toNat=B at *
    repeat' (first|refine Q0Rw7 ?_|refine Zga ?_|(refine Zgb ?_;intro g)|(refine Zg ?_ ?_<;>(intro h;try exact Zx))|fail)
    all_goals
     rw[h4,hr,show B=_ from h] at hem
     first
      |(((with_reducible apply zau Tryz.results120);exact Zr;intro w' hw);rw[za5 hkl hno (by rw[hem];rfl)] at hR;subst hR;exact⟨rfl,hw.below0 rfl⟩)
      |exact zab (k+1) ⟨hkl,hnx (by rw[hem];rfl)⟩ Zo Ze (by exact zaK)
  ·have hnx:=hnx (by rw[hem,Bool.eq_false_iff];intro e;simp only[Bool.and_eq_true,decide_eq_true_eq] at e;exact hcr e.1)
   repeat' (first|refine Q0Rw7 ?_|refine Zga ?_|(refine Zgb ?_;intro g)|(refine Zg ?_ ?_<;>(intro h;try exact Zx))|fail)
   all_goals first|(exfalso;omega)|exact zab (k+1) ⟨hkl,hnx⟩ Zo Ze (by exact zaK)
 ·obtain rfl:k=cs.length:=by omega
  rw[zaP hno] at hR
  subst hR
  repeat' (first|refine Q0Rw7 ?_|refine Zga ?_|(refine Zgb ?_;intro g)|(refine Zg ?_ ?_<;>(intro h;try exact Zx))|fail)
  ((with_reducible apply zau Tryz.results120);exact Zr;intro w' hw)
  exact⟨rfl,hw.below0 rfl⟩
end
def rwC(l:List Ev):Bool×Bd×Int:=if(zca l).2=0 then(decide ((zcu (zca l).1).kind=0),zcu (zca l).1,0) else(false,⟨0,0,0⟩,(zca l).2)
theorem once_cases(l:List Ev):(¬(zai [2] l).2.2=0∧zca l=([],(zai [2] l).2.2))∨((zai [2] l).2.2=0∧(∃i,i<(zai [2] l).1.length∧zia (zai [2] l).1 i=true)∧zca l=([],6)) ∨
  ((zai [2] l).2.2=0∧(∀i,i<(zai [2] l).1.length→zia (zai [2] l).1 i=false)∧zca l=((zai [2] l).1,0)):=by
 by_cases h:(zai [2] l).2.2=0
 ·right
  by_cases hb:∃i,i<(zai [2] l).1.length∧zia (zai [2] l).1 i=true
  ·left
   obtain⟨i,h1,h2⟩:=hb
   exact⟨h,⟨i,h1,h2⟩,onceR_bad h h1 h2⟩
  ·right
   have hno:∀i,i<(zai [2] l).1.length→zia (zai [2] l).1 i=false:=fun i hi=>by
    cases hc:zia (zai [2] l).1 i
    ·rfl
    ·exact absurd ⟨i,hi,hc⟩ hb
   exact⟨h,hno,onceR_ok h hno⟩
 ·exact .inl ⟨h,onceR_err h⟩
theorem firstV_zero{n:Nat}{P:Nat→Bool}{F:Nat→Bd}(hF:∀k,(F k).kind≠0)(h:(match zaF n P with|some k=>F k|none=>(⟨0,0,0⟩:Bd)).kind=0):(match zaF n P with|some k=>F k|none=>(⟨0,0,0⟩:Bd))=⟨0,0,0⟩:=by
 cases e:zaF n P with
 |none=>rfl
 |some k=>rw[e] at h;exact absurd h (hF k)
theorem empV_zero{cs:List Cl}(h:(empV cs).kind=0):empV cs=⟨0,0,0⟩:=firstV_zero (F:=fun k=>⟨7,k,0⟩) (fun k=>by simp) h
section
variable (B0:Option Addr)(d0:Nat)(l:List Ev)(w:World)(hl:l.length≤9223372036854775807)(hA:RdEv w B0 l) 
include hl hA
end
end
section
open Go.RowKit
theorem Q0Tk2{p R:Prop}(r:R)(h:Rest R→p:=by intro r;(first|with_reducible (first|apply zcE|apply za9|apply zba|apply zbd|apply zbe)|((with_reducible (first|apply zaN|apply zaO));exact rfl;exact rfl;(with_reducible exact rfl)));(first|((with_reducible apply QS_lookBX hlook);exact rfl;exact rfl;exact Zm)|exact QS.auto);exact rfl;exact r.out):p:=h ⟨r⟩
section
variable {P:Program}{C:Ctx}{E:zaE}{S S':List Ent}{ty g t k e:Nat}{x y:Operand}{n:Int}{H:List (Int×Bool)} 
theorem QS_lookBX[hm:MapOf P t k e][hz:ZeroOf P e (.bool false)]{b:Bool}(hl:(zcs H n).getD false=b)(hx:evo E x=some (.map (some g)))(hy:evo E y=some (.int .i64 n))(hD:zcv boolV g H∈S):QS P C E S (.lookup t x y false) ty (.bool b):=by
 rw[←hl];exact QS_lookB (hm:=hm) (hz:=hz) hx hy hD
end
structure LG where
 g:Nat
 A:Option Addr
 ca:Nat
 P:Option Addr
 cp:Nat
 M:Option Addr
 cm:Nat
def logS(cs:List Cl)(L:LG)(p m:List Nat):List Ent :=
 [zak L.g 228 #[.slice L.A cs.length L.ca,.slice L.P p.length L.cp,.slice L.M m.length L.cm],zac Cl.enc 7 36 L.A L.ca cs,zac za7 1 3 L.P L.cp p,zac za7 1 3 L.M L.cm m]
section
variable (B0:Option Addr)(d0:Nat)(l:List Ev)(w:World)(hl:l.length≤9223372036854775807)(hA:RdEv w B0 l) 
include hl hA
theorem tkRead_err(h:¬(zai [5] l).2.2=0):Calls Tryz.prog 121 #[.slice B0 l.length d0] w fun e w'=>e=.returned (.tuple #[.pointer none,.int .i64 (zai [5] l).2.2])∧Below w.heap.size w w':=by
 have h1:=fun T w h1 h2=>za8 T B0 1 d0 [5] l w Zi hl h1 h2
 obtain⟨cs,y,z,hcr⟩:∃cs y z,zai [5] l=(cs,y,z):=⟨_,_,_,rfl⟩
 rw[hcr] at h1 h ⊢
 dsimp only at h1 h ⊢
 clear hcr
 refine zaj (S:=[]) [] Tryz.func121 rfl Tryz.ntmps121 Zj (Mem.nil _) ?_
 repeat' (first
  |((with_reducible refine zdw (S':=[zac zag 1 3 (some ⟨g,0,none⟩) 1 [5]]) (fun w hw=>Mem.asOwn (enc:=zag) (M:=1) [5] (Upd.here _ _ _) rfl (fun _=>rfl) Zi hw) ?_))
  |refine Q0Tk2 ?_|refine Zga ?_|(refine Zgb ?_;intro g)|(refine Zg ?_ ?_<;>(intro h;try exact Zx))|((with_reducible (first|apply zaa|apply TD_e3z|apply zan|apply zaf|apply zae));((with_reducible apply zal (f:=12));exact rfl;(intro w hw;exact h1 (some ⟨g,0,none⟩) w (hw.ownRd Zm (fun _=>rfl)) (hw.rd rfl hA));exact rfl);exact Zh;(rintro _ _ ⟨A1,c1,rfl,rfl⟩);(try refine⟨SUB,?_⟩))|fail)
 (refine zah Tryz.results121 rfl (fun w' hw=>?_))
 exact⟨rfl,hw.below0 rfl⟩
theorem tkRead_ok(h:(zai [5] l).2.2=0):Calls Tryz.prog 121 #[.slice B0 l.length d0] w fun e w'=>∃L:LG,e=.returned (.tuple #[.pointer (some ⟨L.g,0,none⟩),.int .i64 0])∧Mem ⟨0,[],w⟩ w' (logS (zai [5] l).1 L (zbl (zai [5] l).1) (zdl (zai [5] l).1)):=by
 have hok:=tkOk_of h
 have h1:=fun T w h1 h2=>za8 T B0 1 d0 [5] l w Zi hl h1 h2
 obtain⟨cs,y,z,hcr⟩:∃cs y z,zai [5] l=(cs,y,z):=⟨_,_,_,rfl⟩
 rw[hcr] at h1 h hok ⊢
 dsimp only at h1 h hok ⊢
 subst h
 clear hcr
 have hfew:=hok.few
 have hm0:=zgK hok
 refine zaj (S:=[]) [] Tryz.func121 rfl Tryz.ntmps121 Zj (Mem.nil _) ?_
 repeat' (first
  |((with_reducible refine zdw (S':=[zac zag 1 3 (some ⟨g,0,none⟩) 1 [5]]) (fun w hw=>Mem.asOwn (enc:=zag) (M:=1) [5] (Upd.here _ _ _) rfl (fun _=>rfl) Zi hw) ?_))
  |((with_reducible (first|apply zaa|apply TD_e3z|apply zan|apply zaf|apply zae));((with_reducible apply zfO);exact rfl);exact Zh;(rintro _ _ ⟨gm,rfl,rfl⟩);(try refine⟨SUB,?_⟩))
  |refine Q0Tk2 ?_|refine Zga ?_|(refine Zgb ?_;intro g)|(refine Zg ?_ ?_<;>(intro h;try exact Zx))|((with_reducible (first|apply zaa|apply TD_e3z|apply zan|apply zaf|apply zae));((with_reducible apply zal (f:=12));exact rfl;(intro w hw;exact h1 (some ⟨g,0,none⟩) w (hw.ownRd Zm (fun _=>rfl)) (hw.rd rfl hA));exact rfl);exact Zh;(rintro _ _ ⟨A1,c1,rfl,rfl⟩);(try refine⟨SUB,?_⟩))|fail)
 obtain⟨gl,rfl⟩:∃x,x=g:=⟨_,rfl⟩
 refine zap (X:=Nat×Option Addr×Nat) (fun x=>[(29,.int .i64 (x.1:Nat)),(28,.int .i64 cs.length),(27,.slice A1 cs.length c1),(7,.pointer (some ⟨gl,0,none⟩)),(8,.int .i64 (zdk cs x.1)),(9,.map (some gm))])
  (fun x=>[zcv boolV gm (hasM cs x.1),zak gl 228 #[.slice A1 cs.length c1,.slice x.2.1 (zeE cs x.1).length x.2.2,.slice none 0 0],zac Cl.enc 7 36 A1 c1 cs,zac za7 1 3 x.2.1 x.2.2 (zeE cs x.1)])
  (fun x=>x.1≤cs.length) (fun x=>cs.length-x.1) (0,none,0) (by(try dsimp only);omega) Ze (fun w' hw=>by
   show Mem _ w' [zcv boolV gm [],zak gl 228 #[.slice A1 cs.length c1,.slice none 0 0,.slice none 0 0],zac Cl.enc 7 36 A1 c1 cs,zac za7 1 3 none 0 ([]:List Nat)]
   exact(hw.nilOwn za7 1 3).sel Zl) ?_
 rintro⟨k,PA,pc⟩ hk
 dsimp only at hk ⊢
 have hpl:=zgJ cs k
 have hps:=pendK_succ cs k
 have hbd:=hm0 k hk
 by_cases hkl:k<cs.length
 ·have hck:=zay hkl
  have hms:zdk cs (k+1)=if(clK cs k).to=-1 then zdk cs k else max (zdk cs k) (clK cs k).res:=rfl
  have hhs:hasM cs (k+1)=if(clK cs k).to=-1 then hasM cs k else zgP (hasM cs k) (clK cs k).res true:=rfl
  rw[hck] at hps hms hhs
  refine zb1 (enc:=Cl.enc) (ls:=cs) Zm Zo ?_
  rintro gC rfl
  generalize zeE cs k=p at *
  generalize hasM cs k=H at *
  generalize zdk cs k=m at *
  by_cases ht:cs[k].to=-1
  ·rw[if_pos ht] at hps hms hhs
   repeat' (first|refine Q0Tk2 ?_|refine Zga ?_|(refine Zgb ?_;intro g)|(refine Zg ?_ ?_<;>(intro h;try exact Zx))|((with_reducible (first|apply zaa|apply TD_e3z|apply zan|apply zaf|apply zae));((with_reducible apply zaw (enc:=za7) (xx:=k));exact rfl;exact rfl;exact Zm;exact rfl;exact fun _=>rfl;exact fun _=>rfl;(intro A' c';exact Zu);(omega);decide;exact rfl);exact Zh;(rintro _ _ ⟨A',c',rfl,rfl⟩);(try refine⟨SUB,?_⟩))|fail)
   apply zab (k+1,A',c')
   case hE=>(try dsimp only);rw[hms];exact Ze
   case hS=>(try dsimp only);rw[hps,hhs];exact fun w' hw=>hw.sel Zl
   case hμ=>(try dsimp only);omega
   case hp=>(try dsimp only);omega
  ·rw[if_neg ht] at hps hms hhs
   repeat' (first|refine Q0Tk2 ?_|refine Zga ?_|(refine Zgb ?_;intro g)|(refine Zg ?_ ?_<;>(intro h;try exact Zx))|fail)
   apply zab (k+1,PA,pc)
   case hE=>(try dsimp only);rw[hms];exact Ze
   case hS=>(try dsimp only);rw[hps,hhs];exact fun w' hw=>hw.sel Zl
   case hμ=>(try dsimp only);omega
   case hp=>(try dsimp only);omega
 ·obtain rfl:k=cs.length:=by omega
  have hnum:((zib cs:Nat):Int)=zdk cs cs.length+1:=by unfold zib;omega
  have hlk:=fun n=>hasM_look cs n cs.length
  rw[show zeE cs cs.length=zbl cs from rfl]
  have hpl:(zbl cs).length≤cs.length:=hpl
  generalize hasM cs cs.length=H at *
  generalize zdk cs cs.length=m at *
  repeat' (first|refine Q0Tk2 ?_|refine Zga ?_|(refine Zgb ?_;intro g)|(refine Zg ?_ ?_<;>(intro h;try exact Zx))|fail)
  refine zap (X:=Nat×Option Addr×Nat) (fun x=>[(57,.int .i64 (x.1:Nat)),(56,.int .i64 (m+1)),(7,.pointer (some ⟨gl,0,none⟩)),(9,.map (some gm))])
   (fun x=>[zcv boolV gm H,zak gl 228 #[.slice A1 cs.length c1,.slice PA (zbl cs).length pc,.slice x.2.1 (zcK cs x.1).length x.2.2],zac Cl.enc 7 36 A1 c1 cs,zac za7 1 3 PA pc (zbl cs),zac za7 1 3 x.2.1 x.2.2 (zcK cs x.1)])
   (fun x=>x.1≤zib cs) (fun x=>zib cs-x.1) (0,none,0) (by(try dsimp only);omega) Ze (fun w' hw=>by
    show Mem _ w' [zcv boolV gm H,zak gl 228 #[.slice A1 cs.length c1,.slice PA (zbl cs).length pc,.slice none 0 0],zac Cl.enc 7 36 A1 c1 cs,zac za7 1 3 PA pc (zbl cs),zac za7 1 3 none 0 ([]:List Nat)]
    exact(hw.nilOwn za7 1 3).sel Zl) ?_
  rintro⟨n,MA,mc⟩ hn
  dsimp only at hn ⊢
  have hml:=missK_len cs n
  have hmsu:=zhs cs n
  by_cases hnl:n<zib cs
  ·have hlook:=hlk (n:Int)
   rw[show hasK cs (n:Int) cs.length=hasT cs n from rfl] at hlook
   generalize zcK cs n=ml at *
   cases hb:hasT cs n with
   |true =>
    rw[hb] at hlook hmsu
    rw[if_pos rfl] at hmsu
    repeat' (first|refine Q0Tk2 ?_|refine Zga ?_|(refine Zgb ?_;intro g)|(refine Zg ?_ ?_<;>(intro h;try exact Zx))|fail)
    apply zab (n+1,MA,mc)
    case hE=>(try dsimp only);exact Ze
    case hS=>(try dsimp only);rw[hmsu];exact fun w' hw=>hw.sel Zl
    case hμ=>(try dsimp only);omega
    case hp=>(try dsimp only);omega
   |false =>
    rw[hb] at hlook hmsu
    rw[if_neg Zi] at hmsu
    repeat' (first|refine Q0Tk2 ?_|refine Zga ?_|(refine Zgb ?_;intro g)|(refine Zg ?_ ?_<;>(intro h;try exact Zx))|((with_reducible (first|apply zaa|apply TD_e3z|apply zan|apply zaf|apply zae));((with_reducible apply zaw (enc:=za7) (xx:=n));exact rfl;exact rfl;exact Zm;exact rfl;exact fun _=>rfl;exact fun _=>rfl;(intro A' c';exact Zu);(omega);decide;exact rfl);exact Zh;(rintro _ _ ⟨A',c',rfl,rfl⟩);(try refine⟨SUB,?_⟩))|fail)
    apply zab (n+1,A',c')
    case hE=>(try dsimp only);exact Ze
    case hS=>(try dsimp only);rw[hmsu];exact fun w' hw=>hw.sel Zl
    case hμ=>(try dsimp only);omega
    case hp=>(try dsimp only);omega
  ·obtain rfl:n=zib cs:=by omega
   repeat' (first|refine Q0Tk2 ?_|refine Zga ?_|(refine Zgb ?_;intro g)|(refine Zg ?_ ?_<;>(intro h;try exact Zx))|fail)
   (refine zah Tryz.results121 rfl (fun w' hw=>?_))
   refine⟨⟨gl,A1,c1,PA,pc,MA,mc⟩,rfl,?_⟩
   show Mem ⟨0,[],w⟩ _ [zak gl 228 #[.slice A1 cs.length c1,.slice PA (zbl cs).length pc,.slice MA (zcK cs (zib cs)).length mc],zac Cl.enc 7 36 A1 c1 cs,zac za7 1 3 PA pc (zbl cs),zac za7 1 3 MA mc (zcK cs (zib cs))]
   exact(hw.anyN 0).sel Zl
end
end
section
open Go.RowKit Go.Shelf Go.Lib
end
section
open Go.RowKit Go.Shelf Go.Lib Go.Sort
theorem Q0Tk5{p R:Prop}(r:R)(h:Rest R→p:=by intro r;(first|with_reducible (first|apply zcE|apply za9|apply zba|apply zbd|apply zbe)|((with_reducible (first|apply zaN|apply zaO));exact rfl;exact rfl;(with_reducible exact rfl)));(first|((with_reducible apply QS_fieldV);exact rfl;exact fun w=>bad_kind _ _ _ w)|exact QS.auto);exact rfl;exact r.out):p:=h ⟨r⟩
section
variable {P:Program}{C:Ctx}{E:zaE}{S:List Ent}{ty s f:Nat}{x:Operand}{u v:Value} 
end
theorem bad_kind(a b c:Int)(w:World):(Instr.field 79 (.agg #[.int .i64 a,.int .i64 b,.int .i64 c]) 0).run Tryz.prog w=.ok (.int .i64 a) w:=by kernel_rfl
def tkR(l:List Ev):Bool×Bd×Int:=if(zai [5] l).2.2=0 then(decide ((zbC (zai [5] l).1).kind=0),zbC (zai [5] l).1,0) else(false,⟨0,0,0⟩,(zai [5] l).2.2)
theorem numT_bd{cs:List Cl}(h:TkOk cs):zib cs≤1001:=by
 have:=zgK h cs.length (Nat.le_refl _)
 unfold zib;omega
section
variable (B0:Option Addr)(d0:Nat)(l:List Ev)(w:World)(hl:l.length≤9223372036854775807)(hA:RdEv w B0 l) 
include hl hA
theorem tkCheckA_any:Calls Tryz.prog 63 #[.slice B0 l.length d0] w fun e w'=>e=.returned (.tuple #[.bool (tkR l).1,.agg (Bd.enc (tkR l).2.1).toArray,.int .i64 (tkR l).2.2])∧Below w.heap.size w w':=by
 by_cases h:(zai [5] l).2.2=0
 ·have hok:=tkOk_of h
  have hrd:=fun w h1=>tkRead_ok B0 d0 l w hl h1 h
  unfold tkR
  rw[if_pos h]
  generalize (zai [5] l).1=cs at *
  clear h
  have hnb:=numT_bd hok
  have hml:(zdl cs).length≤2000:=Nat.le_trans (missK_len cs _) Zo
  have hck:=fun gl A1 PA MA c1 pc mc w h1 h2 h3 h4 hca=>tkCheck_any gl A1 PA MA c1 pc mc cs (zbl cs) (zdl cs) w h1 h2 hok.few h3 h4 rfl rfl hml hca
  generalize zbC cs=V at *
  obtain⟨vk,va,vb⟩:=V
  rw[show Bd.enc ⟨vk,va,vb⟩=[.int .i64 vk,.int .i64 va,.int .i64 vb] from rfl] at *
  refine zaj (S:=[]) [] Tryz.func63 rfl Tryz.ntmps63 Zj (Mem.nil _) ?_
  repeat' (first|refine Q0Tk5 ?_|refine Zga ?_|(refine Zgb ?_;intro g)|(refine Zg ?_ ?_<;>(intro h;try exact Zx))|((with_reducible (first|apply zaa|apply TD_e3z|apply zan|apply zaf|apply zae));((with_reducible apply ES_callNew (f:=121) (v:=fun L:LG=>.tuple #[.pointer (some ⟨L.g,0,none⟩),.int .i64 0]) (S1:=fun L:LG=>[zak L.g 228 #[.slice L.A cs.length L.ca,.slice L.P (zbl cs).length L.cp,.slice L.M (zdl cs).length L.cm],zac Cl.enc 7 36 L.A L.ca cs,zac za7 1 3 L.P L.cp (zbl cs),zac za7 1 3 L.M L.cm (zdl cs)]));exact rfl;(intro x;(try dsimp only);exact Za);(intro w hw;exact hrd w (hw.rd rfl hA));exact rfl);exact Zh;(rintro _ _ ⟨⟨gl,A1,c1,PA,pc,MA,mc⟩,rfl,rfl⟩);(try refine⟨SUB,?_⟩))|fail)
  dsimp only
  refine zfP (p:=cs.length≤c1∧(A1=none→c1=0)) (fun w hw=>hw.ownFacts (enc:=Cl.enc) (M:=7) (et:=36) Zm) fun hf0=>?_
  have hca:=hf0.1
  repeat' (first|refine Q0Tk5 ?_|refine Zha ?_|(refine Zhb ?_;intro g)|(refine Zg ?_ ?_<;>(intro h;try exact Zx))|refine GOF ?_ ?_|((with_reducible apply zam (id:=5) 5 (OT.seq [(0,0),(1,1),(0,2),(0,4),(1,3),(3,5),(0,6)] .nil));kernel_rfl;exact rfl;kernel_rfl;exact Zd)|((with_reducible (first|apply zaa|apply TD_e3z|apply zan|apply zaf|apply zae));((with_reducible apply zad (f:=122));exact rfl;(intro w hw;exact hck gl A1 PA MA c1 pc mc w (hw.holds _ Zm).1 (hw.ownRd Zm (fun _=>rfl)) (hw.ownRd Zm (fun _=>rfl)) (hw.ownRd Zm (fun _=>rfl)) hca);exact rfl);exact Zh;(rintro _ _ ⟨rfl,rfl⟩);(try refine⟨SUB,?_⟩))|fail)
  ((with_reducible apply zau Tryz.results63);exact Zr;intro w' hw)
  exact⟨rfl,hw.below0 rfl⟩
 ·have hrd:=fun w h1=>tkRead_err B0 d0 l w hl h1 h
  unfold tkR
  rw[if_neg h]
  generalize (zai [5] l).2.2=er at *
  refine zaj (S:=[]) [] Tryz.func63 rfl Tryz.ntmps63 Zj (Mem.nil _) ?_
  repeat' (first|refine Q0Tk5 ?_|refine Zga ?_|(refine Zgb ?_;intro g)|(refine Zg ?_ ?_<;>(intro h;try exact Zx))|((with_reducible (first|apply zaa|apply TD_e3z|apply zan|apply zaf|apply zae));((with_reducible apply zad (f:=121));exact rfl;(intro w hw;exact hrd w (hw.rd rfl hA));exact rfl);exact Zh;(rintro _ _ ⟨rfl,rfl⟩);(try refine⟨SUB,?_⟩))|fail)
  ((with_reducible apply zau Tryz.results63);exact Zr;intro w' hw)
  exact⟨rfl,hw.below0 rfl⟩
end
theorem gap_of{cs:List Cl}(h:(zbC cs).kind=0):zbN cs.length (fun i=>i) (twB cs)=none∧(zdl cs).length≤(zbl cs).length∧zbC cs=⟨0,0,0⟩:=by
 unfold zbC at h ⊢
 split at h
 ·cases h
 ·rename_i h1
  split at h
  ·cases h
  ·split at h
   ·cases h
   ·rename_i h2 h3
    refine⟨h1,?_,rfl⟩
    rcases Nat.lt_or_ge (zbl cs).length (zdl cs).length with e|e
    ·have:=zeL h3 (zbl cs).length e
     simp[gapB] at this
    ·exact e
section
variable (B0:Option Addr)(d0:Nat)(l:List Ev)(w:World)(hl:l.length≤9223372036854775807)(hA:RdEv w B0 l) 
include hl hA
end
end
end Go.Proofs.YtjdckepbihcgfaaGreatDoor
