/- Lemmas for the walks (RwA). No condition. -/
import Derived.Test.YtjdckepbihcgfaaGreatDoorG08
set_option linter.unusedSimpArgs false
set_option linter.unusedVariables false
set_option linter.unusedSectionVars false
set_option linter.unnecessarySimpa false
set_option maxRecDepth 100000
set_option maxHeartbeats 8000000
namespace Go.Proofs.YtjdckepbihcgfaaGreatDoor
section
open Go.RowKit
section
variable {cs:List Cl} 
theorem rows_1{k:Nat}(h:zaF cs.length (zgG cs)=some k):zcu cs=⟨1,k,0⟩:=by
 unfold zcu zdN;rw[h];rfl
theorem rows_2{k:Nat}(h1:zaF cs.length (zgG cs)=none)(h:zaF cs.length (tweB cs)=some k):zcu cs=⟨2,k,zbB cs (clK cs k).res⟩:=by
 unfold zcu zdN tweV;rw[h1,h];rfl
theorem rows_3{k:Nat}(h1:zaF cs.length (zgG cs)=none)(h2:zaF cs.length (tweB cs)=none)(h:zaF cs.length (earB cs)=some k):zcu cs=⟨3,k,zaM cs (clK cs k).res⟩:=by
 unfold zcu zdN tweV earV;rw[h1,h2,h];rfl
theorem rows_4{a b:Nat}(h1:zaF cs.length (zgG cs)=none)(h2:zaF cs.length (tweB cs)=none)(h3:zaF cs.length (earB cs)=none)(h:zbN 1001 (fun _=>1001) (zgT cs)=some (a,b)):zcu cs=⟨6,a,b⟩:=by
 unfold zcu zdN tweV earV fifV;rw[h1,h2,h3,h];rfl
theorem rows_5(h1:zaF cs.length (zgG cs)=none)(h2:zaF cs.length (tweB cs)=none)(h3:zaF cs.length (earB cs)=none)(h4:zbN 1001 (fun _=>1001) (zgT cs)=none):zcu cs=empV cs:=by
 unfold zcu zdN tweV earV fifV;rw[h1,h2,h3,h4];rfl
theorem fifB_0a(hok:QuOk cs)(b:Nat):zgT cs 0 b=false:=by
 rw[Bool.eq_false_iff]
 intro e
 have h:=(zgH 0 b e).1
 obtain⟨n,h1,h2,_⟩:=zjM hok (of_decide_eq_true h)
 omega
theorem fifB_0b(hok:QuOk cs)(a:Nat):zgT cs a 0=false:=by
 rw[Bool.eq_false_iff]
 intro e
 have h:=(zgH a 0 e).2
 obtain⟨n,h1,h2,_⟩:=zjM hok (of_decide_eq_true h)
 omega
def fullC(cs:List Cl)(t:Int)(q:Nat):Bool:=(List.range q).any fun i=>decide ((clK cs i).kind=3)&&(stayB cs (clK cs i).arg&&rwInB (zfs cs (clK cs i).arg) t)
theorem fullC_succ(t:Int)(q:Nat):fullC cs t (q+1)=(fullC cs t q||(decide ((clK cs q).kind=3)&&(stayB cs (clK cs q).arg&&rwInB (zfs cs (clK cs q).arg) t))):=by
 unfold fullC
 rw[List.range_succ,List.any_append];simp
theorem fullC_all(hok:QuOk cs)(t:Int):fullC cs t cs.length=fullB cs t:=by
 unfold fullC fullB ze5
 rw[Bool.eq_iff_iff,List.any_eq_true,List.any_eq_true]
 constructor
 ·rintro⟨i,hi,h⟩
  rw[Bool.and_eq_true,Bool.and_eq_true,decide_eq_true_eq] at h
  have hp:=hok.put i (List.mem_range.1 hi) h.1
  refine⟨zfs cs (clK cs i).arg,List.mem_filterMap.2 ⟨(clK cs i).arg.toNat,List.mem_range.2 Zo,?_⟩,h.2.2⟩
  rw[show(((clK cs i).arg.toNat:Nat):Int)=(clK cs i).arg by omega]
  unfold stayO
  rw[if_pos h.2.1]
 ·rintro⟨s,hs,h⟩
  obtain⟨v,hv,h2⟩:=List.mem_filterMap.1 hs
  unfold stayO at h2
  split at h2
  ·rename_i hb
   cases h2
   have hb2:=hb
   unfold stayB at hb2
   rw[Bool.and_eq_true,decide_eq_true_eq] at hb2
   obtain⟨k,hk,hkl,h3,ha⟩:=zgF hb2.1
   exact⟨k,List.mem_range.2 hkl,by rw[ha,hb,h,decide_eq_true h3];rfl⟩
  ·cases h2
end
section
variable (A:Option Addr)(ca:Nat)(cs:List Cl)(w:World)(hA:RdE Cl.enc 7 w A cs)(hok:QuOk cs) 
include hA hok
theorem badRows_any:Calls Tryz.prog 39 #[.slice A cs.length ca] w fun e w'=>e=.returned (.agg (Bd.enc (zcu cs)).toArray)∧Below w.heap.size w w':=by
 have hl:=hok.few
 have hp:=fun v w' (hb:Below w.heap.size w w')=>putBy_any A ca cs v w' (RdE.below hA hb) hl
 have hg:=fun v w' (hb:Below w.heap.size w w')=>zjW A ca cs v w' (RdE.below hA hb) hl
 have hso:=fun v w' (hb:Below w.heap.size w w')=>stayOf_any A ca cs v w' (RdE.below hA hb) hl hok.frm
 have hpb:=fun v=>zgn cs.length (ze4 cs v)
 have hgb:=fun v=>zgn cs.length (zdp cs v)
 have e1:∀v,ixN cs.length (ze4 cs v)=zaM cs v:=fun v=>rfl
 have e2:∀v,ixN cs.length (zdp cs v)=zbB cs v:=fun v=>rfl
 simp only[e1] at hpb
 simp only[e2] at hgb
 clear e1 e2
 refine zaj (S:=[]) [] Tryz.func39 rfl Tryz.ntmps39 Zj (Mem.nil _) ?_
 repeat' (first|refine Zga ?_|(refine Zgb ?_;intro g)|(refine Zg ?_ ?_<;>(intro h;try exact Zx))|fail)
 obtain⟨gb,rfl⟩:∃x,x=g:=⟨_,rfl⟩
 refine zap (X:=Nat) (fun k=>[(25,.int .i64 (k:Nat)),(24,.int .i64 cs.length),(23,.slice A cs.length ca),(2,.pointer (some ⟨gb,0,none⟩)),(0,.slice A cs.length ca)]) (fun _=>[zak gb 79 #[.int .i64 0,.int .i64 0,.int .i64 0]]) (fun k=>k≤cs.length∧∀i,i<k→zgG cs i=false) (fun k=>cs.length-k) 0 ⟨by omega,fun i hi=>by omega⟩ Ze (by exact zaK) ?_
 rintro k ⟨hk,hno⟩
 by_cases hkl:k<cs.length
 ·obtain⟨bC,oC,rfl,_⟩:=RdE.open hA Zo
  have hq:zgG cs k=(decide (cs[k].kind=4)&&(decide (0<cs[k].res)&&decide (zaM cs cs[k].res<0))):=by unfold zgG;rw[zay hkl]
  repeat' (first|refine Zga ?_|(refine Zgb ?_;intro g)|(refine Zg ?_ ?_<;>(intro h;try exact Zx))|((with_reducible (first|apply zaa|apply TD_e3z|apply zan|apply zaf|apply zae));((with_reducible apply zad (f:=84));exact rfl;(intro w hw;exact hp _ w (hw.below0 rfl));exact rfl);exact Zh;(rintro _ _ ⟨rfl,rfl⟩);(try refine⟨SUB,?_⟩))|fail)
  all_goals first
   |(((with_reducible apply zau Tryz.results39);exact Zr;intro w' hw);rw[rows_1 (za5 hkl hno (by rw[hq];simp[*]))];exact⟨rfl,hw.below0 rfl⟩)
   |exact zab (k+1) ⟨hkl,fun i hi=>(Nat.lt_succ_iff_lt_or_eq.1 hi).elim (fun e=>hno i e) (fun e=>by subst e;rw[hq];simp[*];try omega)⟩ Zo Ze (by exact zaK)
 ·obtain rfl:k=cs.length:=by omega
  have s1:=zaP hno
  have hput:∀i (hi:i<cs.length),cs[i].kind=4→0<cs[i].res→0≤zaM cs cs[i].res:=fun i hi h4 hr=>by
   have:=hno i hi
   unfold zgG at this
   rw[zay hi,decide_eq_true h4,decide_eq_true hr,Bool.true_and,Bool.true_and,decide_eq_false_iff_not] at this
   omega
  clear hno
  repeat' (first|refine Zga ?_|(refine Zgb ?_;intro g)|(refine Zg ?_ ?_<;>(intro h;try exact Zx))|fail)
  refine zap (X:=Nat) (fun k=>[(50,.int .i64 (k:Nat)),(49,.int .i64 cs.length),(48,.slice A cs.length ca),(2,.pointer (some ⟨gb,0,none⟩)),(0,.slice A cs.length ca)]) (fun _=>[zak gb 79 #[.int .i64 0,.int .i64 0,.int .i64 0]]) (fun k=>k≤cs.length∧∀i,i<k→tweB cs i=false) (fun k=>cs.length-k) 0 ⟨by omega,fun i hi=>by omega⟩ Ze (by exact zaK) ?_
  rintro k ⟨hk,hno⟩
  by_cases hkl:k<cs.length
  ·obtain⟨bC,oC,rfl,_⟩:=RdE.open hA Zo
   have hck:=zay hkl
   have hq:tweB cs k=(decide (cs[k].kind=4)&&(decide (0<cs[k].res)&&decide (zbB cs cs[k].res<(k:Nat)))):=by unfold tweB;rw[hck]
   repeat' (first|refine Zga ?_|(refine Zgb ?_;intro g)|(refine Zg ?_ ?_<;>(intro h;try exact Zx))|((with_reducible (first|apply zaa|apply TD_e3z|apply zan|apply zaf|apply zae));((with_reducible apply zad (f:=85));exact rfl;(intro w hw;exact hg _ w (hw.below0 rfl));exact rfl);exact Zh;(rintro _ _ ⟨rfl,rfl⟩);(try refine⟨SUB,?_⟩))|fail)
   all_goals first
    |(((with_reducible apply zau Tryz.results39);exact Zr;intro w' hw);rw[rows_2 s1 (za5 hkl hno (by rw[hq];simp[*])),hck];exact⟨rfl,hw.below0 rfl⟩)
    |exact zab (k+1) ⟨hkl,fun i hi=>(Nat.lt_succ_iff_lt_or_eq.1 hi).elim (fun e=>hno i e) (fun e=>by subst e;rw[hq];simp[*];try omega)⟩ Zo Ze (by exact zaK)
  ·obtain rfl:k=cs.length:=by omega
   have s2:=zaP hno
   clear hno
   repeat' (first|refine Zga ?_|(refine Zgb ?_;intro g)|(refine Zg ?_ ?_<;>(intro h;try exact Zx))|fail)
   refine zap (X:=Nat) (fun k=>[(80,.int .i64 (k:Nat)),(79,.int .i64 cs.length),(78,.slice A cs.length ca),(2,.pointer (some ⟨gb,0,none⟩)),(0,.slice A cs.length ca)]) (fun _=>[zak gb 79 #[.int .i64 0,.int .i64 0,.int .i64 0]]) (fun k=>k≤cs.length∧∀i,i<k→earB cs i=false) (fun k=>cs.length-k) 0 ⟨by omega,fun i hi=>by omega⟩ Ze (by exact zaK) ?_
   rintro k ⟨hk,hno⟩
   by_cases hkl:k<cs.length
   ·obtain⟨bC,oC,rfl,_⟩:=RdE.open hA Zo
    have hck:=zay hkl
    have hpk:=hpb cs[k].res
    by_cases h4:cs[k].kind=4∧0<cs[k].res
    ·have h0:=hput k hkl h4.1 h4.2
     have hq:earB cs k=decide (cs[k].to<(cs[(zaM cs cs[k].res).toNat]'(by omega)).from_):=by unfold earB;rw[hck,decide_eq_true h4.1,decide_eq_true h4.2,Bool.true_and,Bool.true_and,zay (show(zaM cs cs[k].res).toNat<cs.length by omega)]
     obtain⟨h41,h42⟩:=h4
     repeat' (first|refine Zha ?_|(refine Zhb ?_;intro g)|(refine Zg ?_ ?_<;>(intro h;try exact Zx))|refine GOF ?_ ?_|((with_reducible apply zam (id:=16) 1000 (OT.seq [(0,0),(1,1),(0,2),(0,3),(0,4),(1,5),(0,6),(0,7),(0,8),(0,9),(0,11),(0,12),(0,13),(1,10),(1,14),(2,15),(0,16),(0,17),(1,18),(0,19),(0,20)] .nil));kernel_rfl;exact rfl;kernel_rfl;exact Zd)|((with_reducible apply zam (id:=28) 1000 (OT.seq [(0,0),(0,1),(0,2),(0,3),(0,4),(0,5),(0,6),(0,8),(0,9),(0,10),(0,11),(1,7),(1,12),(0,13),(0,14),(0,15),(0,16),(0,17),(2,18),(0,19),(0,20)] .nil));kernel_rfl;exact rfl;kernel_rfl;exact Zd)|((with_reducible apply zam (id:=30) 1000 (OT.seq [(0,0),(0,1),(0,2),(0,3),(0,4),(0,5),(0,10),(0,11),(0,12),(0,13),(1,14),(2,6),(0,7),(0,8),(1,9),(0,15),(0,16)] .nil));kernel_rfl;exact rfl;kernel_rfl;exact Zd)|((with_reducible (first|apply zaa|apply TD_e3z|apply zan|apply zaf|apply zae));((with_reducible apply zad (f:=84));exact rfl;(intro w hw;exact hp _ w (hw.below0 rfl));exact rfl);exact Zh;(rintro _ _ ⟨rfl,rfl⟩);(try refine⟨SUB,?_⟩))|fail)
     all_goals first
      |(((with_reducible apply zau Tryz.results39);exact Zr;intro w' hw);rw[rows_3 s1 s2 (za5 hkl hno (by rw[hq];simp[*])),hck];exact⟨rfl,hw.below0 rfl⟩)
      |exact zab (k+1) ⟨hkl,fun i hi=>(Nat.lt_succ_iff_lt_or_eq.1 hi).elim (fun e=>hno i e) (fun e=>by subst e;rw[hq];simp[*])⟩ Zo Ze (by exact zaK)
    ·have hq:earB cs k=false:=by
      unfold earB
      rw[hck,Bool.eq_false_iff]
      intro e
      simp only[Bool.and_eq_true,decide_eq_true_eq] at e
      exact h4 ⟨e.1,e.2.1⟩
     repeat' (first|refine Zha ?_|(refine Zhb ?_;intro g)|(refine Zg ?_ ?_<;>(intro h;try exact Zx))|refine GOF ?_ ?_|((with_reducible apply zam (id:=16) 1000 (OT.seq [(0,0),(1,1),(0,2),(0,3),(0,4),(1,5),(0,6),(0,7),(0,8),(0,9),(0,11),(0,12),(0,13),(1,10),(1,14),(2,15),(0,16),(0,17),(1,18),(0,19),(0,20)] .nil));kernel_rfl;exact rfl;kernel_rfl;exact Zd)|((with_reducible apply zam (id:=28) 1000 (OT.seq [(0,0),(0,1),(0,2),(0,3),(0,4),(0,5),(0,6),(0,8),(0,9),(0,10),(0,11),(1,7),(1,12),(0,13),(0,14),(0,15),(0,16),(0,17),(2,18),(0,19),(0,20)] .nil));kernel_rfl;exact rfl;kernel_rfl;exact Zd)|((with_reducible apply zam (id:=30) 1000 (OT.seq [(0,0),(0,1),(0,2),(0,3),(0,4),(0,5),(0,10),(0,11),(0,12),(0,13),(1,14),(2,6),(0,7),(0,8),(1,9),(0,15),(0,16)] .nil));kernel_rfl;exact rfl;kernel_rfl;exact Zd)|fail)
     all_goals first
      |(exfalso;omega)
      |exact zab (k+1) ⟨hkl,fun i hi=>(Nat.lt_succ_iff_lt_or_eq.1 hi).elim (fun e=>hno i e) (fun e=>by subst e;exact hq)⟩ Zo Ze (by exact zaK)
   ·obtain rfl:k=cs.length:=by omega
    have s3:=zaP hno
    clear hno hput
    repeat' (first|refine Zga ?_|(refine Zgb ?_;intro g)|(refine Zg ?_ ?_<;>(intro h;try exact Zx))|fail)
    refine zap (X:=Nat) (fun a=>[(9,.int .i64 (a:Nat)),(2,.pointer (some ⟨gb,0,none⟩)),(0,.slice A cs.length ca)]) (fun _=>[zak gb 79 #[.int .i64 0,.int .i64 0,.int .i64 0]]) (fun a=>a≤1001∧∀i,i<a→∀q,q<1001→zgT cs i q=false) (fun a=>1001-a) 1 ⟨by omega,fun i hi q _=>by have e:i=0:=Zo;rw[e];exact fifB_0a hok q⟩ Ze (by exact zaK) ?_
    rintro a ⟨ha,hno⟩
    by_cases hal:a<1001
    ·have hpa:=hpb (a:Nat)
     have hga:=hgb (a:Nat)
     have hnx:(∀q,q<1001→zgT cs a q=false)→∀i,i<a+1→∀q,q<1001→zgT cs i q=false:=fun h i hi=>(Nat.lt_succ_iff_lt_or_eq.1 hi).elim (fun e=>hno i e) (fun e=>by subst e;exact h)
     by_cases hpn:zaM cs (a:Nat)<0
     ·have hnx:=hnx fun q _=>by rw[Bool.eq_false_iff];intro e;have:=of_decide_eq_true (zgH a q e).1;omega
      repeat' (first|refine Zga ?_|(refine Zgb ?_;intro g)|(refine Zg ?_ ?_<;>(intro h;try exact Zx))|((with_reducible (first|apply zaa|apply TD_e3z|apply zan|apply zaf|apply zae));((with_reducible apply zad (f:=84));exact rfl;(intro w hw;exact hp _ w (hw.below0 rfl));exact rfl);exact Zh;(rintro _ _ ⟨rfl,rfl⟩);(try refine⟨SUB,?_⟩))|fail)
      all_goals first
       |(exfalso;omega)
       |exact zab (a+1) ⟨by omega,hnx⟩ Zo Ze (by exact zaK)
     ·obtain⟨bC,oC,rfl,_⟩:=RdE.open hA Zo
      have hpc:=zay (cs:=cs) (i:=(zaM cs (a:Nat)).toNat) Zo
      by_cases hto:cs[(zaM cs (a:Nat)).toNat].to=-1
      ·have hnx:=hnx fun q _=>by unfold zgT;rw[hpc,hto];simp
       repeat' (first|refine Zga ?_|(refine Zgb ?_;intro g)|(refine Zg ?_ ?_<;>(intro h;try exact Zx))|((with_reducible (first|apply zaa|apply TD_e3z|apply zan|apply zaf|apply zae));((with_reducible apply zad (f:=84));exact rfl;(intro w hw;exact hp _ w (hw.below0 rfl));exact rfl);exact Zh;(rintro _ _ ⟨rfl,rfl⟩);(try refine⟨SUB,?_⟩))|fail)
       all_goals first
        |(exfalso;omega)
        |exact zab (a+1) ⟨by omega,hnx⟩ Zo Ze (by exact zaK)
      ·repeat' (first|refine Zga ?_|(refine Zgb ?_;intro g)|(refine Zg ?_ ?_<;>(intro h;try exact Zx))|((with_reducible (first|apply zaa|apply TD_e3z|apply zan|apply zaf|apply zae));((with_reducible apply zad (f:=84));exact rfl;(intro w hw;exact hp _ w (hw.below0 rfl));exact rfl);exact Zh;(rintro _ _ ⟨rfl,rfl⟩);(try refine⟨SUB,?_⟩))|fail)
       all_goals first|(exfalso;omega)|skip
       refine zap (X:=Nat) (fun b=>[(11,.int .i64 (b:Nat)),(10,.int .i64 (zaM cs (a:Nat))),(9,.int .i64 (a:Nat)),(2,.pointer (some ⟨gb,0,none⟩)),(0,.slice (some ⟨bC,oC,none⟩) cs.length ca)]) (fun _=>[zak gb 79 #[.int .i64 0,.int .i64 0,.int .i64 0]]) (fun b=>b≤1001∧∀q,q<b→zgT cs a q=false) (fun b=>1001-b) 1 ⟨by omega,fun q hq=>by have e:q=0:=Zo;rw[e];exact fifB_0b hok a⟩ Ze (by exact zaK) ?_
       rintro b ⟨hb,hno2⟩
       by_cases hbl:b<1001
       ·have hpb2:=hpb (b:Nat)
        have hgb2:=hgb (b:Nat)
        have hny:zgT cs a b=false→∀q,q<b+1→zgT cs a q=false:=fun h q hq=>(Nat.lt_succ_iff_lt_or_eq.1 hq).elim (fun e=>hno2 q e) (fun e=>by subst e;exact h)
        have hhit:zgT cs a b=true→zcu cs=⟨6,a,b⟩:=fun h=>rows_4 s1 s2 s3 (zc5 hal hbl hno hno2 h)
        by_cases hpn2:zaM cs (b:Nat)<0
        ·have hny:=hny (by rw[Bool.eq_false_iff];intro e;have:=of_decide_eq_true (zgH a b e).2;omega)
         repeat' (first|refine Zha ?_|(refine Zhb ?_;intro g)|(refine Zg ?_ ?_<;>(intro h;try exact Zx))|refine GOF ?_ ?_|((with_reducible apply zam (id:=16) 1000 (OT.seq [(0,0),(1,1),(0,2),(0,3),(0,4),(1,5),(0,6),(0,7),(0,8),(0,9),(0,11),(0,12),(0,13),(1,10),(1,14),(2,15),(0,16),(0,17),(1,18),(0,19),(0,20)] .nil));kernel_rfl;exact rfl;kernel_rfl;exact Zd)|((with_reducible apply zam (id:=28) 1000 (OT.seq [(0,0),(0,1),(0,2),(0,3),(0,4),(0,5),(0,6),(0,8),(0,9),(0,10),(0,11),(1,7),(1,12),(0,13),(0,14),(0,15),(0,16),(0,17),(2,18),(0,19),(0,20)] .nil));kernel_rfl;exact rfl;kernel_rfl;exact Zd)|((with_reducible apply zam (id:=30) 1000 (OT.seq [(0,0),(0,1),(0,2),(0,3),(0,4),(0,5),(0,10),(0,11),(0,12),(0,13),(1,14),(2,6),(0,7),(0,8),(1,9),(0,15),(0,16)] .nil));kernel_rfl;exact rfl;kernel_rfl;exact Zd)|((with_reducible (first|apply zaa|apply TD_e3z|apply zan|apply zaf|apply zae));((with_reducible apply zad (f:=84));exact rfl;(intro w hw;exact hp _ w (hw.below0 rfl));exact rfl);exact Zh;(rintro _ _ ⟨rfl,rfl⟩);(try refine⟨SUB,?_⟩))|fail)
         all_goals first
          |(exfalso;omega)
          |exact zab (b+1) ⟨by omega,hny⟩ Zo Ze (by exact zaK)
        ·have hpc2:=zay (cs:=cs) (i:=(zaM cs (b:Nat)).toNat) Zo
         have hf:zgT cs a b=((decide (cs[(zaM cs (a:Nat)).toNat].to≤cs[(zaM cs (b:Nat)).toNat].from_))&&(decide (0≤zbB cs (b:Nat))&&(decide (zbB cs (a:Nat)<0)||decide ((clK cs (zbB cs (b:Nat)).toNat).to<(clK cs (zbB cs (a:Nat)).toNat).from_)))):=by
          unfold zgT
          rw[decide_eq_true (show 0≤zaM cs (a:Nat) by omega),decide_eq_true (show 0≤zaM cs (b:Nat) by omega),hpc,hpc2,decide_eq_true (show cs[(zaM cs (a:Nat)).toNat].to≠-1 from hto)]
          rfl
         by_cases hc1:cs[(zaM cs (b:Nat)).toNat].from_<cs[(zaM cs (a:Nat)).toNat].to∨zbB cs (b:Nat)<0
         ·have hny:=hny (by rw[hf,Bool.eq_false_iff];intro e;simp only[Bool.and_eq_true,decide_eq_true_eq] at e;omega)
          repeat' (first|refine Zha ?_|(refine Zhb ?_;intro g)|(refine Zg ?_ ?_<;>(intro h;try exact Zx))|refine GOF ?_ ?_|((with_reducible apply zam (id:=16) 1000 (OT.seq [(0,0),(1,1),(0,2),(0,3),(0,4),(1,5),(0,6),(0,7),(0,8),(0,9),(0,11),(0,12),(0,13),(1,10),(1,14),(2,15),(0,16),(0,17),(1,18),(0,19),(0,20)] .nil));kernel_rfl;exact rfl;kernel_rfl;exact Zd)|((with_reducible apply zam (id:=28) 1000 (OT.seq [(0,0),(0,1),(0,2),(0,3),(0,4),(0,5),(0,6),(0,8),(0,9),(0,10),(0,11),(1,7),(1,12),(0,13),(0,14),(0,15),(0,16),(0,17),(2,18),(0,19),(0,20)] .nil));kernel_rfl;exact rfl;kernel_rfl;exact Zd)|((with_reducible apply zam (id:=30) 1000 (OT.seq [(0,0),(0,1),(0,2),(0,3),(0,4),(0,5),(0,10),(0,11),(0,12),(0,13),(1,14),(2,6),(0,7),(0,8),(1,9),(0,15),(0,16)] .nil));kernel_rfl;exact rfl;kernel_rfl;exact Zd)|((with_reducible (first|apply zaa|apply TD_e3z|apply zan|apply zaf|apply zae));((with_reducible apply zad (f:=84));exact rfl;(intro w hw;exact hp _ w (hw.below0 rfl));exact rfl);exact Zh;(rintro _ _ ⟨rfl,rfl⟩);(try refine⟨SUB,?_⟩))|((with_reducible (first|apply zaa|apply TD_e3z|apply zan|apply zaf|apply zae));((with_reducible apply zad (f:=85));exact rfl;(intro w hw;exact hg _ w (hw.below0 rfl));exact rfl);exact Zh;(rintro _ _ ⟨rfl,rfl⟩);(try refine⟨SUB,?_⟩))|fail)
          all_goals first
           |(exfalso;omega)
           |exact zab (b+1) ⟨by omega,hny⟩ Zo Ze (by exact zaK)
         ·rw[decide_eq_true (show cs[(zaM cs (a:Nat)).toNat].to≤cs[(zaM cs (b:Nat)).toNat].from_ by omega),decide_eq_true (show 0≤zbB cs (b:Nat) by omega),Bool.true_and,Bool.true_and] at hf
          have hgc2:=zay (cs:=cs) (i:=(zbB cs (b:Nat)).toNat) Zo
          rw[hgc2] at hf
          by_cases hga0:zbB cs (a:Nat)<0
          ·have hhit:=hhit (by rw[hf,decide_eq_true hga0];rfl)
           repeat' (first|refine Zha ?_|(refine Zhb ?_;intro g)|(refine Zg ?_ ?_<;>(intro h;try exact Zx))|refine GOF ?_ ?_|((with_reducible apply zam (id:=16) 1000 (OT.seq [(0,0),(1,1),(0,2),(0,3),(0,4),(1,5),(0,6),(0,7),(0,8),(0,9),(0,11),(0,12),(0,13),(1,10),(1,14),(2,15),(0,16),(0,17),(1,18),(0,19),(0,20)] .nil));kernel_rfl;exact rfl;kernel_rfl;exact Zd)|((with_reducible apply zam (id:=28) 1000 (OT.seq [(0,0),(0,1),(0,2),(0,3),(0,4),(0,5),(0,6),(0,8),(0,9),(0,10),(0,11),(1,7),(1,12),(0,13),(0,14),(0,15),(0,16),(0,17),(2,18),(0,19),(0,20)] .nil));kernel_rfl;exact rfl;kernel_rfl;exact Zd)|((with_reducible apply zam (id:=30) 1000 (OT.seq [(0,0),(0,1),(0,2),(0,3),(0,4),(0,5),(0,10),(0,11),(0,12),(0,13),(1,14),(2,6),(0,7),(0,8),(1,9),(0,15),(0,16)] .nil));kernel_rfl;exact rfl;kernel_rfl;exact Zd)|((with_reducible (first|apply zaa|apply TD_e3z|apply zan|apply zaf|apply zae));((with_reducible apply zad (f:=84));exact rfl;(intro w hw;exact hp _ w (hw.below0 rfl));exact rfl);exact Zh;(rintro _ _ ⟨rfl,rfl⟩);(try refine⟨SUB,?_⟩))|((with_reducible (first|apply zaa|apply TD_e3z|apply zan|apply zaf|apply zae));((with_reducible apply zad (f:=85));exact rfl;(intro w hw;exact hg _ w (hw.below0 rfl));exact rfl);exact Zh;(rintro _ _ ⟨rfl,rfl⟩);(try refine⟨SUB,?_⟩))|fail)
           all_goals first
            |(exfalso;omega)
            |(((with_reducible apply zau Tryz.results39);exact Zr;intro w' hw);rw[hhit];exact⟨rfl,hw.below0 rfl⟩)
          ·have hgc:=zay (cs:=cs) (i:=(zbB cs (a:Nat)).toNat) Zo
           rw[hgc,decide_eq_false hga0,Bool.false_or] at hf
           repeat' (first|refine Zha ?_|(refine Zhb ?_;intro g)|(refine Zg ?_ ?_<;>(intro h;try exact Zx))|refine GOF ?_ ?_|((with_reducible apply zam (id:=16) 1000 (OT.seq [(0,0),(1,1),(0,2),(0,3),(0,4),(1,5),(0,6),(0,7),(0,8),(0,9),(0,11),(0,12),(0,13),(1,10),(1,14),(2,15),(0,16),(0,17),(1,18),(0,19),(0,20)] .nil));kernel_rfl;exact rfl;kernel_rfl;exact Zd)|((with_reducible apply zam (id:=28) 1000 (OT.seq [(0,0),(0,1),(0,2),(0,3),(0,4),(0,5),(0,6),(0,8),(0,9),(0,10),(0,11),(1,7),(1,12),(0,13),(0,14),(0,15),(0,16),(0,17),(2,18),(0,19),(0,20)] .nil));kernel_rfl;exact rfl;kernel_rfl;exact Zd)|((with_reducible apply zam (id:=30) 1000 (OT.seq [(0,0),(0,1),(0,2),(0,3),(0,4),(0,5),(0,10),(0,11),(0,12),(0,13),(1,14),(2,6),(0,7),(0,8),(1,9),(0,15),(0,16)] .nil));kernel_rfl;exact rfl;kernel_rfl;exact Zd)|((with_reducible (first|apply zaa|apply TD_e3z|apply zan|apply zaf|apply zae));((with_reducible apply zad (f:=84));exact rfl;(intro w hw;exact hp _ w (hw.below0 rfl));exact rfl);exact Zh;(rintro _ _ ⟨rfl,rfl⟩);(try refine⟨SUB,?_⟩))|((with_reducible (first|apply zaa|apply TD_e3z|apply zan|apply zaf|apply zae));((with_reducible apply zad (f:=85));exact rfl;(intro w hw;exact hg _ w (hw.below0 rfl));exact rfl);exact Zh;(rintro _ _ ⟨rfl,rfl⟩);(try refine⟨SUB,?_⟩))|fail)
           all_goals first
            |(exfalso;omega)
            |(((with_reducible apply zau Tryz.results39);exact Zr;intro w' hw);rw[hhit (by rw[hf];simp[*])];exact⟨rfl,hw.below0 rfl⟩)
            |exact zab (b+1) ⟨by omega,hny (by rw[hf];simp[*])⟩ Zo Ze (by exact zaK)
       ·obtain rfl:b=1001:=by omega
        have hnx:=hnx hno2
        repeat' (first|refine Zga ?_|(refine Zgb ?_;intro g)|(refine Zg ?_ ?_<;>(intro h;try exact Zx))|fail)
        all_goals first
         |(exfalso;omega)
         |exact zab (a+1) ⟨by omega,hnx⟩ Zo Ze (by exact zaK)
    ·obtain rfl:a=1001:=by omega
     have s4:=zbS hno
     clear hno
     rw[rows_5 s1 s2 s3 s4]
     clear s1 s2 s3 s4
     have hR:empV cs=match zaF cs.length (empB cs) with|some k=>⟨7,k,0⟩|none=>⟨0,0,0⟩:=rfl
     generalize empV cs=R at *
     repeat' (first|refine Zga ?_|(refine Zgb ?_;intro g)|(refine Zg ?_ ?_<;>(intro h;try exact Zx))|fail)
     refine zap (X:=Nat) (fun k=>[(183,.int .i64 (k:Nat)),(182,.int .i64 cs.length),(181,.slice A cs.length ca),(2,.pointer (some ⟨gb,0,none⟩)),(0,.slice A cs.length ca)]) (fun _=>[zak gb 79 #[.int .i64 0,.int .i64 0,.int .i64 0]]) (fun k=>k≤cs.length∧∀i,i<k→empB cs i=false) (fun k=>cs.length-k) 0 ⟨by omega,fun i hi=>by omega⟩ Ze (by exact zaK) ?_
     rintro k ⟨hk,hno⟩
     by_cases hkl:k<cs.length
     ·obtain⟨bC,oC,rfl,_⟩:=RdE.open hA Zo
      have hck:=zay hkl
      have hfr:=hok.frm k hkl
      have hto:=hok.to k hkl
      have hem:empB cs k=((decide (cs[k].kind=4)&&decide (cs[k].res=-1))&&alwP cs k (cs[k].to-cs[k].from_).toNat):=by unfold empB alwB alwP;rw[hck]
      have hal:=fun d=>alwP_succ cs k d
      rw[hck] at hfr hto hal
      have hnx:empB cs k=false→∀i,i<k+1→empB cs i=false:=fun hb i hi=>(Nat.lt_succ_iff_lt_or_eq.1 hi).elim (fun e=>hno i e) (fun e=>by subst e;exact hb)
      repeat' (first|refine Zga ?_|(refine Zgb ?_;intro g)|(refine Zg ?_ ?_<;>(intro h;try exact Zx))|fail)
      obtain⟨g15,rfl⟩:∃x,x=g:=⟨_,rfl⟩
      by_cases hcr:cs[k].kind=4∧cs[k].res=-1
      ·obtain⟨h4,hr⟩:=hcr
       refine zap (X:=Nat) (fun d=>[(17,.int .i64 (cs[k].from_+(d:Nat))),(16,.bool (!alwP cs k d)),(15,.pointer (some ⟨g15,0,none⟩)),(14,.int .i64 (k:Nat)),(183,.int .i64 (k:Nat)),(182,.int .i64 cs.length),(181,.slice (some ⟨bC,oC,none⟩) cs.length ca),(2,.pointer (some ⟨gb,0,none⟩)),(0,.slice (some ⟨bC,oC,none⟩) cs.length ca)]) (fun _=>[zak g15 36 (Cl.enc cs[k]).toArray,zak gb 79 #[.int .i64 0,.int .i64 0,.int .i64 0]])
        (fun d=>d≤(cs[k].to-cs[k].from_).toNat) (fun d=>(cs[k].to-cs[k].from_).toNat-d) 0 Zo (by
         (try dsimp only)
         rw[show cs[k].from_+((0:Nat):Int)=cs[k].from_ by omega,show(!alwP cs k 0)=false from rfl]
         exact Ze) (fun _ hw=>hw.sel Zl) ?_
       intro d hd
       have had:=hal d
       by_cases hdl:cs[k].from_+(d:Nat)<cs[k].to
       ·have hfa:=fullC_all hok (cs[k].from_+(d:Nat))
        have hfs:=fun q=>fullC_succ (cs:=cs) (cs[k].from_+(d:Nat)) q
        have hf0:fullC cs (cs[k].from_+(d:Nat)) 0=false:=rfl
        rw[←hfa] at had
        clear hfa
        generalize alwP cs k d=B at *
        repeat' (first|refine Zga ?_|(refine Zgb ?_;intro g)|(refine Zg ?_ ?_<;>(intro h;try exact Zx))|fail)
        refine zap (X:=Nat) (fun q=>[(208,.int .i64 (q:Nat)),(207,.int .i64 cs.length),(206,.slice (some ⟨bC,oC,none⟩) cs.length ca),(18,.bool (fullC cs (cs[k].from_+(d:Nat)) q)),(17,.int .i64 (cs[k].from_+(d:Nat))),(16,.bool (!B)),(15,.pointer (some ⟨g15,0,none⟩)),(14,.int .i64 (k:Nat)),(183,.int .i64 (k:Nat)),(182,.int .i64 cs.length),(181,.slice (some ⟨bC,oC,none⟩) cs.length ca),(2,.pointer (some ⟨gb,0,none⟩)),(0,.slice (some ⟨bC,oC,none⟩) cs.length ca)]) (fun _=>[zak g15 36 (Cl.enc cs[k]).toArray,zak gb 79 #[.int .i64 0,.int .i64 0,.int .i64 0]])
         (fun q=>q≤cs.length) (fun q=>cs.length-q) 0 Zo (by(try dsimp only);rw[hf0];exact Ze) (fun _ hw=>hw.sel Zl) ?_
        intro q hq
        have hs:=hfs q
        by_cases hql:q<cs.length
        ·have hcq:=zay hql
         rw[hcq] at hs
         generalize fullC cs (cs[k].from_+(d:Nat)) q=F at *
         by_cases hk3:cs[q].kind=3
         ·have hsq:=hso cs[q].arg
          have hsv:(stayB cs cs[q].arg&&rwInB (zfs cs cs[q].arg) (cs[k].from_+(d:Nat)))=((zjV cs cs[q].arg).2&&(decide ((zjV cs cs[q].arg).1.frm≤cs[k].from_+(d:Nat))&&decide (cs[k].from_+(d:Nat)≤(zjV cs cs[q].arg).1.til))):=by
           rw[stayV_b]
           cases hb:stayB cs cs[q].arg
           ·rfl
           ·rw[stayV_e hb];rfl
          rw[decide_eq_true hk3,Bool.true_and,hsv] at hs
          clear hsv
          generalize zjV cs cs[q].arg=SV at *
          obtain⟨⟨sf,st⟩,sb⟩:=SV
          rw[show Spn.enc ⟨sf,st⟩=[.int .i64 sf,.int .i64 st] from rfl] at hsq
          dsimp only at hs hsq
          have hs:=Lib.hid hs
          clear had hf0 hfs hal hno hR hem hnx hso hpb hgb hp hg hfr hto hcq hck
          have hbt:=fun w=>zjh (cs[k].from_+(d:Nat)) sf st w
          generalize cs[k].from_+(d:Nat)=tt at *
          generalize hBt:(decide (sf≤tt)&&decide (tt≤st))=Bt at *
          repeat' (first|refine Zga ?_|(refine Zgb ?_;intro g)|(refine Zg ?_ ?_<;>(intro h;try exact Zx))|((with_reducible (first|apply zaa|apply TD_e3z|apply zan|apply zaf|apply zae));((with_reducible apply zad (f:=86));exact rfl;(intro w hw;exact hsq w (hw.below0 rfl));exact rfl);exact Zh;(rintro _ _ ⟨rfl,rfl⟩);(try refine⟨SUB,?_⟩))|((with_reducible (first|apply zaa|apply TD_e3z|apply zan|apply zaf|apply zae));((with_reducible apply zad (f:=67));exact rfl;(intro w hw;exact hbt w);exact rfl);exact Zh;(rintro _ _ ⟨rfl,rfl⟩);(try refine⟨SUB,?_⟩))|fail)
          all_goals
           apply zab (q+1)
           case hE =>
            have hs:=hs.out
            (try dsimp only)
            rw[hs]
            first
             |(simp only[show F=true by assumption,Bool.true_or];exact Ze;done)
             |(simp only[show F=false by assumption,show sb=true by assumption,Bool.false_or,Bool.true_and];exact Ze;done)
             |(simp only[show F=false by assumption,show sb=false by assumption,Bool.false_or,Bool.false_and];exact Ze;done)
           case hS=>exact fun w' hw=>hw.sel Zl
           case hμ=>(try dsimp only);omega
           case hp=>(try dsimp only);omega
         ·rw[decide_eq_false hk3,Bool.false_and,Bool.or_false] at hs
          repeat' (first|refine Zga ?_|(refine Zgb ?_;intro g)|(refine Zg ?_ ?_<;>(intro h;try exact Zx))|fail)
          apply zab (q+1)
          case hE=>(try dsimp only);rw[hs];exact Ze
          case hS=>exact fun w' hw=>hw.sel Zl
          case hμ=>(try dsimp only);omega
          case hp=>(try dsimp only);omega
        ·obtain rfl:q=cs.length:=by omega
         generalize fullC cs (cs[k].from_+(d:Nat)) cs.length=F at *
         repeat' (first|refine Zga ?_|(refine Zgb ?_;intro g)|(refine Zg ?_ ?_<;>(intro h;try exact Zx))|fail)
         all_goals
          apply zab (d+1)
          case hE=>(try dsimp only);rw[had,show cs[k].from_+((d+1:Nat):Int)=cs[k].from_+(d:Nat)+1 by omega];simp only[h,Bool.true_and,Bool.false_and,Bool.not_false];exact Ze
          case hS=>exact fun w' hw=>hw.sel Zl
          case hμ=>(try dsimp only);omega
          case hp=>(try dsimp only);omega
       ·obtain rfl:d=(cs[k].to-cs[k].from_).toNat:=by omega
        rw[decide_eq_true h4,decide_eq_true hr,Bool.true_and,Bool.true_and] at hem
        generalize alwP cs k (cs[k].to-cs[k].from_).toNat=B at *
        repeat' (first|refine Zga ?_|(refine Zgb ?_;intro g)|(refine Zg ?_ ?_<;>(intro h;try exact Zx))|fail)
        all_goals first
         |(((with_reducible apply zau Tryz.results39);exact Zr;intro w' hw);rw[za5 hkl hno (by rw[hem];assumption)] at hR;subst hR;exact⟨rfl,hw.below0 rfl⟩)
         |exact zab (k+1) ⟨hkl,hnx (by rw[hem];assumption)⟩ Zo Ze (fun _ hw=>hw.sel Zl)
      ·have hnx:=hnx (by rw[hem,Bool.eq_false_iff];intro e;simp only[Bool.and_eq_true,decide_eq_true_eq] at e;exact hcr e.1)
       refine zap (X:=Unit) (fun _=>[(17,.int .i64 cs[k].from_),(16,.bool false),(15,.pointer (some ⟨g15,0,none⟩)),(14,.int .i64 (k:Nat)),(183,.int .i64 (k:Nat)),(182,.int .i64 cs.length),(181,.slice (some ⟨bC,oC,none⟩) cs.length ca),(2,.pointer (some ⟨gb,0,none⟩)),(0,.slice (some ⟨bC,oC,none⟩) cs.length ca)]) (fun _=>[zak g15 36 (Cl.enc cs[k]).toArray,zak gb 79 #[.int .i64 0,.int .i64 0,.int .i64 0]]) (fun _=>True) (fun _=>0) () trivial Ze (fun _ hw=>hw.sel Zl) ?_
       rintro⟨⟩ -
       repeat' (first|refine Zga ?_|(refine Zgb ?_;intro g)|(refine Zg ?_ ?_<;>(intro h;try exact Zx))|fail)
       all_goals first
        |(exfalso;omega)
        |exact zab (k+1) ⟨hkl,hnx⟩ Zo Ze (fun _ hw=>hw.sel Zl)
     ·obtain rfl:k=cs.length:=by omega
      rw[zaP hno] at hR
      subst hR
      repeat' (first|refine Zga ?_|(refine Zgb ?_;intro g)|(refine Zg ?_ ?_<;>(intro h;try exact Zx))|fail)
      ((with_reducible apply zau Tryz.results39);exact Zr;intro w' hw)
      exact⟨rfl,hw.below0 rfl⟩
end
end
end Go.Proofs.YtjdckepbihcgfaaGreatDoor
