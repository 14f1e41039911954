/- Lemmas for the walks (Sea8). No condition. -/
import Derived.Test.YtjdckepbihcgfaaGreatDoorG16
set_option linter.unusedSimpArgs false
set_option linter.unusedVariables false
set_option linter.unusedSectionVars false
set_option linter.unnecessarySimpa false
set_option maxRecDepth 100000
set_option maxHeartbeats 8000000
namespace Go.Proofs.YtjdckepbihcgfaaGreatDoor
section
open Go.RowKit
theorem zde{p R:Prop}(r:R)(h:Rest R→p:=by intro r;(first|with_reducible (first|apply zcE|apply za9|apply zba|apply zbd|apply zbe)|((with_reducible (first|apply zaN|apply zaO));exact rfl;exact rfl;(with_reducible exact rfl)));(first|exact QS.auto|((with_reducible apply QS_shr16Z);exact rfl;exact rfl;omega;(first|assumption|omega|decide|exact Nat.lt_of_le_of_lt (Nat.shiftRight_le _ _) (by first|assumption|omega)|(apply_assumption<;>omega)))|((with_reducible apply QS_shl16Y);exact rfl;exact rfl;omega;omega));exact rfl;exact r.out):p:=h ⟨r⟩
theorem posW_snoc(w:List Stp)(s:Stp)(i:Nat):zhQ (w++[s]) i=if 0≤zhQ w i then zhQ w i else if s.call.toNat=i then(w.length:Int) else -1:=by
 have hn:=posW_nn w i
 rw[zgw] at hn
 unfold zhQ at hn ⊢
 rw[List.any_append,List.findIdx_append]
 cases ha:w.any (fun s=>decide (s.call.toNat=i)) with
 |true =>
  have hlt:w.findIdx (fun s=>decide (s.call.toNat=i))<w.length:=List.findIdx_lt_length_of_exists (by simpa using ha)
  simp[hlt]
 |false =>
  have hlt:¬w.findIdx (fun s=>decide (s.call.toNat=i))<w.length:=fun h=>by
   have h1:=List.findIdx_getElem (w:=h)
   have h2:=List.any_eq_false.1 ha _ (List.getElem_mem h)
   exact h2 h1
  by_cases e:s.call.toNat=i
  ·simp[hlt,e]
  ·simp[hlt,e]
theorem dosOf_yes{cs:List Cl}{w:List Stp}{q:Nat}(hq:q<w.length){t:Int}(h:(zaz cs w[q].call.toNat).thing=t):zbA cs (w.take q) t++[doOf cs w[q]]=zbA cs (w.take (q+1)) t:=by
 unfold zbA
 rw[List.take_succ_eq_append_getElem hq,List.filter_append,List.map_append,List.filter_cons,if_pos (by unfold zfV;exact decide_eq_true h)]
 rfl
theorem dosOf_no{cs:List Cl}{w:List Stp}{q:Nat}(hq:q<w.length){t:Int}(h:¬(zaz cs w[q].call.toNat).thing=t):zbA cs (w.take q) t=zbA cs (w.take (q+1)) t:=by
 unfold zbA
 rw[List.take_succ_eq_append_getElem hq,List.filter_append,List.map_append,List.filter_cons,if_neg (by unfold zfV;rw[decide_eq_true_eq];exact h)]
 simp
theorem posW_min{w:List Stp}{i:Nat}(h:¬0≤zhQ w i):zhQ w i=-1:=by
 unfold zhQ at h ⊢
 split at h
 ·omega
 ·rename_i hn;rw[if_neg hn]
section
variable (T B D:Option Addr)(tc d dc:Nat)(ts:List Int)(cs:List Cl)(n:Int)(f:Nat→Nat)(w:List Stp)(W:World) 
variable (hts:zaG ts=true)(hcs:CallsOk ts cs)(h9:cs.length≤9)(hT:RdInt W T ts)(hB:zh2 W B cs)(hD:RdStp W D w)(hwl:w.length≤9223372036854775807) 
include hts hcs h9 hT hB hD hwl
theorem rightOrder_any:Calls Tryz.prog 75 #[.slice T ts.length tc,.slice B cs.length d,.agg (zat n f),.slice D w.length dc] W fun e W'=>e=.returned (.bool (zhR ts cs f w))∧Below W.heap.size W W':=by
 have ht4:1≤ts.length∧ts.length≤4:=by
  unfold zaG at hts
  rw[Bool.and_eq_true,decide_eq_true_eq] at hts
  exact hts.1
 have hbt:=fun a b c w=>zjh a b c w
 have hah:=fun i j w hi hj=>ahead_any n f i j w hi hj
 refine zaj (S:=[]) [] Tryz.func75 rfl Tryz.ntmps75 Zj (Mem.nil _) ?_
 repeat' (first|refine zde ?_|refine Zga ?_|(refine Zgb ?_;intro g)|(refine Zg ?_ ?_<;>(intro h;try exact Zx))|fail)
 rename_i g6
 obtain⟨gA,rfl⟩:∃x,x=g:=⟨_,rfl⟩
 refine zap (X:=Nat×List Int) (fun x=>[(25,.int .i64 (x.1:Nat)),(24,.int .i64 cs.length),(9,.slice (some ⟨gA,0,none⟩) cs.length cs.length),(6,.pointer (some ⟨g6,0,none⟩)),(3,.slice D w.length dc),(1,.slice B cs.length d),(0,.slice T ts.length tc)])
  (fun x=>[zac zag 1 3 (some ⟨gA,0,none⟩) cs.length x.2,zak g6 43 (zat n f)])
  (fun x=>x.1≤cs.length∧x.2.length=cs.length∧∀i,i<x.1→x.2.getD i 0=-1) (fun x=>cs.length-x.1) (0,List.replicate cs.length 0) ⟨by(try dsimp only);omega,by simp,fun i hi=>by(try dsimp only at hi);omega⟩ Ze (by exact zaK) ?_
 rintro⟨k,L⟩ ⟨hk,hL,hno⟩
 dsimp only at hk hL hno ⊢
 by_cases hkl:k<cs.length
 ·have hkL:k<L.length:=by omega
  repeat' (first|refine zde ?_|refine Zga ?_|(refine Zgb ?_;intro g)|(refine Zg ?_ ?_<;>(intro h;try exact Zx))|fail)
  apply zab (k+1,L.set k (-1))
  case hE=>exact Ze
  case hS=>exact zaK
  case hμ=>(try dsimp only);omega
  case hp =>
   refine⟨hkl,by(try dsimp only);rw[List.length_set];exact hL,fun i hi=>?_⟩
   (try dsimp only at hi ⊢)
   by_cases e:i=k
   ·subst e;simp[List.getD_eq_getElem?_getD,hkL]
   ·have:=hno i Zo
    rw[List.getD_eq_getElem?_getD,List.getElem?_set_ne (fun e'=>e e'.symm),←List.getD_eq_getElem?_getD];exact this
 ·obtain rfl:k=cs.length:=by omega
  repeat' (first|refine zde ?_|refine Zga ?_|(refine Zgb ?_;intro g)|(refine Zg ?_ ?_<;>(intro h;try exact Zx))|fail)
  refine zap (X:=Nat×List Int) (fun x=>[(34,.int .i64 (x.1:Nat)),(33,.int .i64 w.length),(32,.slice D w.length dc),(9,.slice (some ⟨gA,0,none⟩) cs.length cs.length),(6,.pointer (some ⟨g6,0,none⟩)),(3,.slice D w.length dc),(1,.slice B cs.length d),(0,.slice T ts.length tc)])
   (fun x=>[zac zag 1 3 (some ⟨gA,0,none⟩) cs.length x.2,zak g6 43 (zat n f)])
   (fun x=>x.1≤w.length∧x.2.length=cs.length∧(∀i,i<cs.length→x.2.getD i 0=zhQ (w.take x.1) i)∧∀i (h:i<w.length),i<x.1→okR cs (zaH (w.take i)) w[i]=true) (fun x=>w.length-x.1) (0,L)
   ⟨by(try dsimp only);omega,hL,fun i hi=>by(try dsimp only);rw[hno i hi];rfl,fun i h hi=>by(try dsimp only at hi);omega⟩ Ze (by exact zaK) ?_
  clear hno hL hkl hk L
  rintro⟨k,L⟩ ⟨hk,hL,hpos,hok⟩
  dsimp only at hk hL hpos hok ⊢
  by_cases hkl:k<w.length
  ·have htk:w.take (k+1)=w.take k++[w[k]]:=List.take_succ_eq_append_getElem hkl
   have hvno:okR cs (zaH (w.take k)) w[k]=false→zhR ts cs f w=false:=fun h=>by
    unfold zhR
    have:seqR cs w=false:=by
     rw[Bool.eq_false_iff];intro hc
     rw[zgz.1 hc k hkl] at h;cases h
    rw[this];rfl
   obtain⟨bD,oD,rfl,_⟩:=RdE.open hD Zo
   by_cases hin:0≤w[k].call∧w[k].call<cs.length
   ·obtain⟨bB,oB,rfl,_⟩:=RdE.open hB Zo
    have hz0:=hin.1
    have hzn:w[k].call.toNat<cs.length:=by omega
    have hzL:w[k].call.toNat<L.length:=by omega
    have hcall:=zb7 hzn
    have hat:=hpos _ hzn
    rw[show L.getD w[k].call.toNat 0=L[w[k].call.toNat] by simp[List.getD_eq_getElem?_getD,hzL]] at hat
    have hnn:=posW_nn (w.take k) w[k].call.toNat
    rw[←hat] at hnn
    have hinB:inB cs w[k]=true:=by unfold inB;simp[hin.1,hin.2]
    have hbt1:=fun w'=>hbt w[k].call 0 ((cs.length:Int)-1) w'
    rw[show(decide (0≤w[k].call)&&decide (w[k].call≤(cs.length:Int)-1))=true by simp;omega] at hbt1
    repeat' (first|refine zde ?_|refine Zha ?_|(refine Zhb ?_;intro g)|(refine Zg ?_ ?_<;>(intro h;try exact Zx))|refine GOF ?_ ?_|((with_reducible apply zam (id:=10) 1000 (OT.seq [(0,0),(0,2),(0,3),(0,4),(1,1),(2,5),(0,6),(0,7),(0,8),(0,9),(1,10),(0,11),(1,12),(0,13),(0,14),(0,15),(0,16),(0,17),(1,18),(0,19),(0,20),(1,21),(0,22),(0,23),(0,24),(0,25),(0,30),(1,26),(0,27),(0,28),(1,29),(1,31),(0,32),(0,33),(0,34)] .nil));kernel_rfl;exact rfl;kernel_rfl;exact Zd)|((with_reducible apply zam (id:=22) 1000 (OT.seq [(0,1),(0,2),(1,0),(2,3),(0,4),(0,5),(0,6),(0,7),(1,8),(0,9),(0,10),(0,11),(0,12),(0,13),(0,14),(1,15),(0,16),(0,17),(0,18),(0,19),(0,20),(0,22),(0,23),(0,24),(1,21),(1,25),(0,26),(0,27),(0,28)] .nil));kernel_rfl;exact rfl;kernel_rfl;exact Zd)|((with_reducible (first|apply zaa|apply TD_e3z|apply zan|apply zaf|apply zae));((with_reducible apply zad (f:=67));exact rfl;(intro w hw;exact hbt1 w);exact rfl);exact Zh;(rintro _ _ ⟨rfl,rfl⟩);(try refine⟨SUB,?_⟩))|fail)
    ·(refine zah Tryz.results75 rfl (fun w' hw=>?_))
     have hb:(zaH (w.take k)).testBit w[k].call.toNat=true:=by rw[←hnn];exact decide_eq_true (by assumption)
     exact⟨by rw[hvno (by unfold okR;rw[hb];simp)];rfl,hw.below0 rfl⟩
    ·(refine zah Tryz.results75 rfl (fun w' hw=>?_))
     have hb:resOk cs w[k]=false:=by
      unfold resOk;rw[hcall,Bool.or_eq_false_iff]
      exact⟨decide_eq_false (by assumption),decide_eq_false (fun e=>‹¬cs[w[k].call.toNat].res=w[k].res› e.symm)⟩
     exact⟨by rw[hvno (by unfold okR;rw[hb];simp)];rfl,hw.below0 rfl⟩
    all_goals
     have hb:(zaH (w.take k)).testBit w[k].call.toNat=false:=by rw[←hnn];exact decide_eq_false Zo
     have hres:resOk cs w[k]=true:=by
      unfold resOk;rw[hcall,Bool.or_eq_true]
      first|exact .inl (decide_eq_true (by assumption))|exact .inr (decide_eq_true (by symm;assumption))
     have hokk:okR cs (zaH (w.take k)) w[k]=true:=by unfold okR;rw[hinB,hb,hres];rfl
     apply zab (k+1,L.set w[k].call.toNat (k:Int))
     case hE=>exact Ze
     case hS=>exact zaK
     case hμ=>(try dsimp only);omega
     case hp =>
      refine⟨hkl,by(try dsimp only);rw[List.length_set];exact hL,fun i hi=>?_,fun i hi hik=>?_⟩
      ·(try dsimp only)
       rw[htk,posW_snoc]
       have hpi:=hpos i hi
       by_cases e:w[k].call.toNat=i
       ·subst e
        rw[if_neg (by rw[←hat];omega),if_pos rfl,List.length_take,Nat.min_eq_left Zo]
        simp[List.getD_eq_getElem?_getD,hzL]
       ·rw[List.getD_eq_getElem?_getD,List.getElem?_set_ne e,←List.getD_eq_getElem?_getD,hpi,if_neg e]
        split
        ·rfl
        ·exact posW_min (by assumption)
      ·(try dsimp only at hik)
       by_cases e:i=k
       ·subst e;exact hokk
       ·exact hok i hi Zo
   ·have hbt1:=fun w'=>hbt w[k].call 0 ((cs.length:Int)-1) w'
    rw[show(decide (0≤w[k].call)&&decide (w[k].call≤(cs.length:Int)-1))=false by rw[Bool.and_eq_false_iff,decide_eq_false_iff_not,decide_eq_false_iff_not];omega] at hbt1
    repeat' (first|refine zde ?_|refine Zha ?_|(refine Zhb ?_;intro g)|(refine Zg ?_ ?_<;>(intro h;try exact Zx))|refine GOF ?_ ?_|((with_reducible apply zam (id:=10) 1000 (OT.seq [(0,0),(0,2),(0,3),(0,4),(1,1),(2,5),(0,6),(0,7),(0,8),(0,9),(1,10),(0,11),(1,12),(0,13),(0,14),(0,15),(0,16),(0,17),(1,18),(0,19),(0,20),(1,21),(0,22),(0,23),(0,24),(0,25),(0,30),(1,26),(0,27),(0,28),(1,29),(1,31),(0,32),(0,33),(0,34)] .nil));kernel_rfl;exact rfl;kernel_rfl;exact Zd)|((with_reducible apply zam (id:=22) 1000 (OT.seq [(0,1),(0,2),(1,0),(2,3),(0,4),(0,5),(0,6),(0,7),(1,8),(0,9),(0,10),(0,11),(0,12),(0,13),(0,14),(1,15),(0,16),(0,17),(0,18),(0,19),(0,20),(0,22),(0,23),(0,24),(1,21),(1,25),(0,26),(0,27),(0,28)] .nil));kernel_rfl;exact rfl;kernel_rfl;exact Zd)|((with_reducible (first|apply zaa|apply TD_e3z|apply zan|apply zaf|apply zae));((with_reducible apply zad (f:=67));exact rfl;(intro w hw;exact hbt1 w);exact rfl);exact Zh;(rintro _ _ ⟨rfl,rfl⟩);(try refine⟨SUB,?_⟩))|fail)
    (refine zah Tryz.results75 rfl (fun w' hw=>?_))
    have hb:inB cs w[k]=false:=by
     unfold inB
     rw[Bool.and_eq_false_iff,decide_eq_false_iff_not,decide_eq_false_iff_not];omega
    exact⟨by rw[hvno (by unfold okR;rw[hb];simp)];rfl,hw.below0 rfl⟩
  ·obtain rfl:k=w.length:=by omega
   rw[List.take_length] at hpos
   have hseq:seqR cs w=true:=zgz.2 fun i hi=>hok i hi hi
   have hval:zhR ts cs f w=(ordR cs f w&&zfD ts cs w):=by unfold zhR;rw[hseq];simp
   rw[hval]
   clear hok hkl hk
   repeat' (first|refine zde ?_|refine Zha ?_|(refine Zhb ?_;intro g)|(refine Zg ?_ ?_<;>(intro h;try exact Zx))|refine GOF ?_ ?_|((with_reducible apply zam (id:=10) 1000 (OT.seq [(0,0),(0,2),(0,3),(0,4),(1,1),(2,5),(0,6),(0,7),(0,8),(0,9),(1,10),(0,11),(1,12),(0,13),(0,14),(0,15),(0,16),(0,17),(1,18),(0,19),(0,20),(1,21),(0,22),(0,23),(0,24),(0,25),(0,30),(1,26),(0,27),(0,28),(1,29),(1,31),(0,32),(0,33),(0,34)] .nil));kernel_rfl;exact rfl;kernel_rfl;exact Zd)|((with_reducible apply zam (id:=22) 1000 (OT.seq [(0,1),(0,2),(1,0),(2,3),(0,4),(0,5),(0,6),(0,7),(1,8),(0,9),(0,10),(0,11),(0,12),(0,13),(0,14),(1,15),(0,16),(0,17),(0,18),(0,19),(0,20),(0,22),(0,23),(0,24),(1,21),(1,25),(0,26),(0,27),(0,28)] .nil));kernel_rfl;exact rfl;kernel_rfl;exact Zd)|fail)
   have hLat:∀i (h:i<cs.length) (hi:i<L.length),L[i]=zhQ w i:=fun i h hi=>by
    rw[←hpos i h];simp[List.getD_eq_getElem?_getD,hi]
   refine zap (X:=Nat) (fun i=>[(82,.int .i64 (i:Nat)),(81,.int .i64 cs.length),(9,.slice (some ⟨gA,0,none⟩) cs.length cs.length),(6,.pointer (some ⟨g6,0,none⟩)),(3,.slice D w.length dc),(1,.slice B cs.length d),(0,.slice T ts.length tc)])
    (fun _=>[zac zag 1 3 (some ⟨gA,0,none⟩) cs.length L,zak g6 43 (zat n f)])
    (fun i=>i≤cs.length∧∀a,a<i→zjs cs w a=true∧∀b,b<cs.length→zjr f w a b=true) (fun i=>cs.length-i) 0 ⟨by omega,fun i hi=>by omega⟩ Ze (by exact zaK) ?_
   rintro i ⟨hi,hno⟩
   by_cases hil:i<cs.length
   ·obtain⟨bB,oB,rfl,_⟩:=RdE.open hB Zo
    have hiL:i<L.length:=by omega
    have hc:=zb7 hil
    have hLi:=hLat i hil hiL
    have hvno:zjs cs w i=false→(ordR cs f w&&zfD ts cs w)=false:=fun h=>by
     have:ordR cs f w=false:=by
      rw[Bool.eq_false_iff];intro hc
      rw[(zim.1 hc i hil).1] at h;cases h
     rw[this];rfl
    have hvno2:∀j,j<cs.length→zjr f w i j=false→(ordR cs f w&&zfD ts cs w)=false:=fun j hj h=>by
     have:ordR cs f w=false:=by
      rw[Bool.eq_false_iff];intro hc
      rw[(zim.1 hc i hil).2 j hj] at h;cases h
     rw[this];rfl
    repeat' (first|refine zde ?_|refine Zha ?_|(refine Zhb ?_;intro g)|(refine Zg ?_ ?_<;>(intro h;try exact Zx))|refine GOF ?_ ?_|((with_reducible apply zam (id:=10) 1000 (OT.seq [(0,0),(0,2),(0,3),(0,4),(1,1),(2,5),(0,6),(0,7),(0,8),(0,9),(1,10),(0,11),(1,12),(0,13),(0,14),(0,15),(0,16),(0,17),(1,18),(0,19),(0,20),(1,21),(0,22),(0,23),(0,24),(0,25),(0,30),(1,26),(0,27),(0,28),(1,29),(1,31),(0,32),(0,33),(0,34)] .nil));kernel_rfl;exact rfl;kernel_rfl;exact Zd)|((with_reducible apply zam (id:=22) 1000 (OT.seq [(0,1),(0,2),(1,0),(2,3),(0,4),(0,5),(0,6),(0,7),(1,8),(0,9),(0,10),(0,11),(0,12),(0,13),(0,14),(1,15),(0,16),(0,17),(0,18),(0,19),(0,20),(0,22),(0,23),(0,24),(1,21),(1,25),(0,26),(0,27),(0,28)] .nil));kernel_rfl;exact rfl;kernel_rfl;exact Zd)|fail)
    ·(refine zah Tryz.results75 rfl (fun w' hw=>?_))
     have hb:zjs cs w i=false:=by
      unfold zjs
      rw[hc,←hLi,Bool.or_eq_false_iff]
      exact⟨decide_eq_false (by assumption),decide_eq_false Zo⟩
     exact⟨by rw[hvno hb];rfl,hw.below0 rfl⟩
    all_goals
     have hans:zjs cs w i=true:=by
      unfold zjs
      rw[hc,←hLi,Bool.or_eq_true]
      first|exact .inl (decide_eq_true (by assumption))|exact .inr (decide_eq_true (by assumption))
     refine zap (X:=Nat) (fun j=>[(100,.int .i64 (j:Nat)),(99,.int .i64 cs.length),(13,.int .i64 (i:Nat)),(82,.int .i64 (i:Nat)),(81,.int .i64 cs.length),(9,.slice (some ⟨gA,0,none⟩) cs.length cs.length),(6,.pointer (some ⟨g6,0,none⟩)),(3,.slice D w.length dc),(1,.slice (some ⟨bB,oB,none⟩) cs.length d),(0,.slice T ts.length tc)])
      (fun _=>[zac zag 1 3 (some ⟨gA,0,none⟩) cs.length L,zak g6 43 (zat n f)])
      (fun j=>j≤cs.length∧∀b,b<j→zjr f w i b=true) (fun j=>cs.length-j) 0 ⟨by omega,fun j hj=>by omega⟩ Ze (by exact zaK) ?_
     rintro j ⟨hj,hnoj⟩
     by_cases hjl:j<cs.length
     ·have hjL:j<L.length:=by omega
      have hLj:=hLat j hjl hjL
      have hahij:=fun w'=>hah i j w' Zo Zo
      have hord:zjr f w i j=(!(f i).testBit j||(decide (L[j]<0)||(decide (0≤L[i])&&decide (L[i]≤L[j])))):=by unfold zjr;rw[hLi,hLj]
      have hv2:=hvno2 j hjl
      have hnext:zjr f w i j=true→∀b,b<j+1→zjr f w i b=true:=fun h b hb=>by
       by_cases e:b=j
       ·subst e;exact h
       ·exact hnoj b Zo
      rw[hord] at hv2 hnext
      generalize (f i).testBit j=z at *
      cases z with
      |false =>
       repeat' (first|refine zde ?_|refine Zha ?_|(refine Zhb ?_;intro g)|(refine Zg ?_ ?_<;>(intro h;try exact Zx))|refine GOF ?_ ?_|((with_reducible apply zam (id:=10) 1000 (OT.seq [(0,0),(0,2),(0,3),(0,4),(1,1),(2,5),(0,6),(0,7),(0,8),(0,9),(1,10),(0,11),(1,12),(0,13),(0,14),(0,15),(0,16),(0,17),(1,18),(0,19),(0,20),(1,21),(0,22),(0,23),(0,24),(0,25),(0,30),(1,26),(0,27),(0,28),(1,29),(1,31),(0,32),(0,33),(0,34)] .nil));kernel_rfl;exact rfl;kernel_rfl;exact Zd)|((with_reducible apply zam (id:=22) 1000 (OT.seq [(0,1),(0,2),(1,0),(2,3),(0,4),(0,5),(0,6),(0,7),(1,8),(0,9),(0,10),(0,11),(0,12),(0,13),(0,14),(1,15),(0,16),(0,17),(0,18),(0,19),(0,20),(0,22),(0,23),(0,24),(1,21),(1,25),(0,26),(0,27),(0,28)] .nil));kernel_rfl;exact rfl;kernel_rfl;exact Zd)|((with_reducible (first|apply zaa|apply TD_e3z|apply zan|apply zaf|apply zae));((with_reducible apply zad (f:=80));exact rfl;(intro w hw;exact hahij w);exact rfl);exact Zh;(rintro _ _ ⟨rfl,rfl⟩);(try refine⟨SUB,?_⟩))|fail)
       exact zab (j+1) ⟨hjl,hnext rfl⟩ Zo Ze (by exact zaK)
      |true =>
       simp only[Bool.not_true,Bool.false_or] at hv2 hnext
       repeat' (first|refine zde ?_|refine Zha ?_|(refine Zhb ?_;intro g)|(refine Zg ?_ ?_<;>(intro h;try exact Zx))|refine GOF ?_ ?_|((with_reducible apply zam (id:=10) 1000 (OT.seq [(0,0),(0,2),(0,3),(0,4),(1,1),(2,5),(0,6),(0,7),(0,8),(0,9),(1,10),(0,11),(1,12),(0,13),(0,14),(0,15),(0,16),(0,17),(1,18),(0,19),(0,20),(1,21),(0,22),(0,23),(0,24),(0,25),(0,30),(1,26),(0,27),(0,28),(1,29),(1,31),(0,32),(0,33),(0,34)] .nil));kernel_rfl;exact rfl;kernel_rfl;exact Zd)|((with_reducible apply zam (id:=22) 1000 (OT.seq [(0,1),(0,2),(1,0),(2,3),(0,4),(0,5),(0,6),(0,7),(1,8),(0,9),(0,10),(0,11),(0,12),(0,13),(0,14),(1,15),(0,16),(0,17),(0,18),(0,19),(0,20),(0,22),(0,23),(0,24),(1,21),(1,25),(0,26),(0,27),(0,28)] .nil));kernel_rfl;exact rfl;kernel_rfl;exact Zd)|((with_reducible (first|apply zaa|apply TD_e3z|apply zan|apply zaf|apply zae));((with_reducible apply zad (f:=80));exact rfl;(intro w hw;exact hahij w);exact rfl);exact Zh;(rintro _ _ ⟨rfl,rfl⟩);(try refine⟨SUB,?_⟩))|fail)
       all_goals first
        |((refine zah Tryz.results75 rfl (fun w' hw=>?_))
          refine⟨?_,hw.below0 rfl⟩
          rw[hv2 (by simp only[Bool.or_eq_false_iff,Bool.and_eq_false_iff,decide_eq_false_iff_not];omega)];rfl)
        |(refine zab (j+1) ⟨hjl,hnext ?_⟩ Zo Ze (by exact zaK)
          simp only[Bool.or_eq_true,Bool.and_eq_true,decide_eq_true_eq];omega)
     ·obtain rfl:j=cs.length:=by omega
      repeat' (first|refine zde ?_|refine Zha ?_|(refine Zhb ?_;intro g)|(refine Zg ?_ ?_<;>(intro h;try exact Zx))|refine GOF ?_ ?_|((with_reducible apply zam (id:=10) 1000 (OT.seq [(0,0),(0,2),(0,3),(0,4),(1,1),(2,5),(0,6),(0,7),(0,8),(0,9),(1,10),(0,11),(1,12),(0,13),(0,14),(0,15),(0,16),(0,17),(1,18),(0,19),(0,20),(1,21),(0,22),(0,23),(0,24),(0,25),(0,30),(1,26),(0,27),(0,28),(1,29),(1,31),(0,32),(0,33),(0,34)] .nil));kernel_rfl;exact rfl;kernel_rfl;exact Zd)|((with_reducible apply zam (id:=22) 1000 (OT.seq [(0,1),(0,2),(1,0),(2,3),(0,4),(0,5),(0,6),(0,7),(1,8),(0,9),(0,10),(0,11),(0,12),(0,13),(0,14),(1,15),(0,16),(0,17),(0,18),(0,19),(0,20),(0,22),(0,23),(0,24),(1,21),(1,25),(0,26),(0,27),(0,28)] .nil));kernel_rfl;exact rfl;kernel_rfl;exact Zd)|fail)
      refine zab (i+1) ⟨hil,fun a ha=>?_⟩ Zo Ze (by exact zaK)
      by_cases e:a=i
      ·subst e;exact⟨hans,hnoj⟩
      ·exact hno a Zo
   ·obtain rfl:i=cs.length:=by omega
    have hord:ordR cs f w=true:=zim.2 hno
    rw[hord,Bool.true_and]
    repeat' (first|refine zde ?_|refine Zha ?_|(refine Zhb ?_;intro g)|(refine Zg ?_ ?_<;>(intro h;try exact Zx))|refine GOF ?_ ?_|((with_reducible apply zam (id:=10) 1000 (OT.seq [(0,0),(0,2),(0,3),(0,4),(1,1),(2,5),(0,6),(0,7),(0,8),(0,9),(1,10),(0,11),(1,12),(0,13),(0,14),(0,15),(0,16),(0,17),(1,18),(0,19),(0,20),(1,21),(0,22),(0,23),(0,24),(0,25),(0,30),(1,26),(0,27),(0,28),(1,29),(1,31),(0,32),(0,33),(0,34)] .nil));kernel_rfl;exact rfl;kernel_rfl;exact Zd)|((with_reducible apply zam (id:=22) 1000 (OT.seq [(0,1),(0,2),(1,0),(2,3),(0,4),(0,5),(0,6),(0,7),(1,8),(0,9),(0,10),(0,11),(0,12),(0,13),(0,14),(1,15),(0,16),(0,17),(0,18),(0,19),(0,20),(0,22),(0,23),(0,24),(1,21),(1,25),(0,26),(0,27),(0,28)] .nil));kernel_rfl;exact rfl;kernel_rfl;exact Zd)|fail)
    refine zap (X:=Nat) (fun t=>[(136,.int .i64 (t:Nat)),(135,.int .i64 ts.length),(3,.slice D w.length dc),(1,.slice B cs.length d),(0,.slice T ts.length tc)])
     (fun _=>[]) (fun t=>t≤ts.length∧∀a,a<t→zfW ts cs w a=true) (fun t=>ts.length-t) 0 ⟨by omega,fun i hi=>by omega⟩ Ze (by exact zaK) ?_
    rintro t ⟨ht,hnot⟩
    by_cases htl:t<ts.length
    ·obtain⟨bT,oT,rfl,_⟩:=RdE.open hT Zo
     have hty:typB ts[t]=true:=by
      unfold zaG at hts
      rw[Bool.and_eq_true,Bool.not_eq_true'] at hts
      have h2:=List.any_eq_false.1 hts.2 ts[t] (List.getElem_mem htl)
      unfold badT at h2
      unfold typB
      simp only[decide_eq_true_eq] at h2
      rw[Bool.and_eq_true,decide_eq_true_eq,decide_eq_true_eq]
      omega
     have hpa:zfW ts cs w t=decide (zez ts[t] (zfi ts[t]) (zbA cs w t)=(zbA cs w t).length):=by
      unfold zfW
      rw[show ts.getD t 0=ts[t] by simp[List.getD_eq_getElem?_getD,htl]]
     repeat' (first|refine zde ?_|refine Zha ?_|(refine Zhb ?_;intro g)|(refine Zg ?_ ?_<;>(intro h;try exact Zx))|refine GOF ?_ ?_|((with_reducible apply zam (id:=10) 1000 (OT.seq [(0,0),(0,2),(0,3),(0,4),(1,1),(2,5),(0,6),(0,7),(0,8),(0,9),(1,10),(0,11),(1,12),(0,13),(0,14),(0,15),(0,16),(0,17),(1,18),(0,19),(0,20),(1,21),(0,22),(0,23),(0,24),(0,25),(0,30),(1,26),(0,27),(0,28),(1,29),(1,31),(0,32),(0,33),(0,34)] .nil));kernel_rfl;exact rfl;kernel_rfl;exact Zd)|((with_reducible apply zam (id:=22) 1000 (OT.seq [(0,1),(0,2),(1,0),(2,3),(0,4),(0,5),(0,6),(0,7),(1,8),(0,9),(0,10),(0,11),(0,12),(0,13),(0,14),(1,15),(0,16),(0,17),(0,18),(0,19),(0,20),(0,22),(0,23),(0,24),(1,21),(1,25),(0,26),(0,27),(0,28)] .nil));kernel_rfl;exact rfl;kernel_rfl;exact Zd)|fail)
     refine zap (X:=Nat×Option Addr×Nat) (fun x=>[(141,.int .i64 (x.1:Nat)),(140,.int .i64 w.length),(139,.slice D w.length dc),(16,.slice x.2.1 (zbA cs (w.take x.1) t).length x.2.2),(15,.int .i64 (t:Nat)),(136,.int .i64 (t:Nat)),(135,.int .i64 ts.length),(3,.slice D w.length dc),(1,.slice B cs.length d),(0,.slice (some ⟨bT,oT,none⟩) ts.length tc)])
      (fun x=>[zac Dn.enc 3 187 x.2.1 x.2.2 (zbA cs (w.take x.1) t)]) (fun x=>x.1≤w.length) (fun x=>w.length-x.1) (0,none,0) (by(try dsimp only);omega) Ze
      (fun w' hw=>(hw.nilOwn Dn.enc 3 187).sub Zt) ?_
     rintro⟨q,A,c⟩ hq
     dsimp only at hq ⊢
     by_cases hql:q<w.length
     ·obtain⟨bD,oD,rfl,_⟩:=RdE.open hD Zo
      have hok1:=zjt (zgz.1 hseq q hql)
      have hz0:=hok1.1
      have hzn:=hok1.2.1
      obtain⟨bB,oB,rfl,_⟩:=RdE.open hB Zo
      have hcall:=zb7 hzn
      have hyes:=dosOf_yes (cs:=cs) hql (t:=t)
      have hnoq:=dosOf_no (cs:=cs) hql (t:=t)
      have hdl:=dosOf_len cs (w.take q) t
      rw[List.length_take] at hdl
      have hdl9:q≤9:=by have:=seq_len hq (fun i hi _=>zgz.1 hseq i hi);omega
      have hdo:doOf cs w[q]=⟨cs[w[q].call.toNat].kind,cs[w[q].call.toNat].arg,w[q].res⟩:=by unfold doOf;rw[hcall]
      rw[hcall] at hyes hnoq
      rw[hdo] at hyes
      generalize zbA cs (w.take q) t=Lq at *
      repeat' (first|refine zde ?_|refine Zha ?_|(refine Zhb ?_;intro g)|(refine Zg ?_ ?_<;>(intro h;try exact Zx))|refine GOF ?_ ?_|((with_reducible apply zam (id:=10) 1000 (OT.seq [(0,0),(0,2),(0,3),(0,4),(1,1),(2,5),(0,6),(0,7),(0,8),(0,9),(1,10),(0,11),(1,12),(0,13),(0,14),(0,15),(0,16),(0,17),(1,18),(0,19),(0,20),(1,21),(0,22),(0,23),(0,24),(0,25),(0,30),(1,26),(0,27),(0,28),(1,29),(1,31),(0,32),(0,33),(0,34)] .nil));kernel_rfl;exact rfl;kernel_rfl;exact Zd)|((with_reducible apply zam (id:=22) 1000 (OT.seq [(0,1),(0,2),(1,0),(2,3),(0,4),(0,5),(0,6),(0,7),(1,8),(0,9),(0,10),(0,11),(0,12),(0,13),(0,14),(1,15),(0,16),(0,17),(0,18),(0,19),(0,20),(0,22),(0,23),(0,24),(1,21),(1,25),(0,26),(0,27),(0,28)] .nil));kernel_rfl;exact rfl;kernel_rfl;exact Zd)|((with_reducible (first|apply zaa|apply TD_e3z|apply zan|apply zaf|apply zae));((with_reducible apply zaw (enc:=Dn.enc) (xx:=(⟨cs[w[q].call.toNat].kind,cs[w[q].call.toNat].arg,w[q].res⟩:Dn)));exact rfl;exact rfl;exact Zm;exact rfl;exact fun _=>rfl;exact fun _=>rfl;(intro A' c';exact Zu);(omega);decide;exact rfl);exact Zh;(rintro _ _ ⟨A',c',rfl,rfl⟩);(try refine⟨SUB,?_⟩))|fail)
      ·apply zab (q+1,A',c')
       case hE=>dsimp only;rw[←hyes (by assumption)];exact Ze
       case hS=>dsimp only;rw[←hyes (by assumption)];exact zaK
       case hμ=>(try dsimp only);omega
       case hp=>(try dsimp only);omega
      ·apply zab (q+1,A,c)
       case hE=>dsimp only;rw[←hnoq (by assumption)];exact Ze
       case hS=>dsimp only;rw[←hnoq (by assumption)];exact zaK
       case hμ=>(try dsimp only);omega
       case hp=>(try dsimp only);omega
     ·obtain rfl:q=w.length:=by omega
      rw[List.take_length]
      have hlen:(zbA cs w t).length≤9223372036854775807:=Nat.le_trans (dosOf_len cs w t) hwl
      have hpl:=fun(w':World) (h:RdDo w' A (zbA cs w t))=>played_any A c (zbA cs w t) ts[t] w' h hlen hty
      generalize zbA cs w t=Lq at *
      generalize zez ts[t] (zfi ts[t]) Lq=N at *
      repeat' (first|refine zde ?_|refine Zha ?_|(refine Zhb ?_;intro g)|(refine Zg ?_ ?_<;>(intro h;try exact Zx))|refine GOF ?_ ?_|((with_reducible apply zam (id:=10) 1000 (OT.seq [(0,0),(0,2),(0,3),(0,4),(1,1),(2,5),(0,6),(0,7),(0,8),(0,9),(1,10),(0,11),(1,12),(0,13),(0,14),(0,15),(0,16),(0,17),(1,18),(0,19),(0,20),(1,21),(0,22),(0,23),(0,24),(0,25),(0,30),(1,26),(0,27),(0,28),(1,29),(1,31),(0,32),(0,33),(0,34)] .nil));kernel_rfl;exact rfl;kernel_rfl;exact Zd)|((with_reducible apply zam (id:=22) 1000 (OT.seq [(0,1),(0,2),(1,0),(2,3),(0,4),(0,5),(0,6),(0,7),(1,8),(0,9),(0,10),(0,11),(0,12),(0,13),(0,14),(1,15),(0,16),(0,17),(0,18),(0,19),(0,20),(0,22),(0,23),(0,24),(1,21),(1,25),(0,26),(0,27),(0,28)] .nil));kernel_rfl;exact rfl;kernel_rfl;exact Zd)|((with_reducible (first|apply zaa|apply TD_e3z|apply zan|apply zaf|apply zae));((with_reducible apply zad (f:=130));exact rfl;(intro w hw;exact hpl w (hw.ownRd Zm (fun _=>rfl)));exact rfl);exact Zh;(rintro _ _ ⟨rfl,rfl⟩);(try refine⟨SUB,?_⟩))|fail)
      ·(refine zah Tryz.results75 rfl (fun w' hw=>?_))
       have:zfD ts cs w=false:=by
        rw[Bool.eq_false_iff]
        intro h
        have:=List.all_eq_true.1 h t (List.mem_range.2 htl)
        rw[hpa,decide_eq_true_eq] at this
        omega
       exact⟨by rw[this];rfl,hw.below0 rfl⟩
      ·refine zab (t+1) ⟨htl,fun a ha=>?_⟩ Zo Ze (by exact zaK)
       by_cases e:a=t
       ·subst e;rw[hpa];exact decide_eq_true Zo
       ·exact hnot a Zo
    ·obtain rfl:t=ts.length:=by omega
     repeat' (first|refine zde ?_|refine Zha ?_|(refine Zhb ?_;intro g)|(refine Zg ?_ ?_<;>(intro h;try exact Zx))|refine GOF ?_ ?_|((with_reducible apply zam (id:=10) 1000 (OT.seq [(0,0),(0,2),(0,3),(0,4),(1,1),(2,5),(0,6),(0,7),(0,8),(0,9),(1,10),(0,11),(1,12),(0,13),(0,14),(0,15),(0,16),(0,17),(1,18),(0,19),(0,20),(1,21),(0,22),(0,23),(0,24),(0,25),(0,30),(1,26),(0,27),(0,28),(1,29),(1,31),(0,32),(0,33),(0,34)] .nil));kernel_rfl;exact rfl;kernel_rfl;exact Zd)|((with_reducible apply zam (id:=22) 1000 (OT.seq [(0,1),(0,2),(1,0),(2,3),(0,4),(0,5),(0,6),(0,7),(1,8),(0,9),(0,10),(0,11),(0,12),(0,13),(0,14),(1,15),(0,16),(0,17),(0,18),(0,19),(0,20),(0,22),(0,23),(0,24),(1,21),(1,25),(0,26),(0,27),(0,28)] .nil));kernel_rfl;exact rfl;kernel_rfl;exact Zd)|fail)
     (refine zah Tryz.results75 rfl (fun w' hw=>?_))
     have:zfD ts cs w=true:=List.all_eq_true.2 fun a ha=>hnot a (List.mem_range.1 ha)
     exact⟨by rw[this];rfl,hw.below0 rfl⟩
end
end
end Go.Proofs.YtjdckepbihcgfaaGreatDoor
