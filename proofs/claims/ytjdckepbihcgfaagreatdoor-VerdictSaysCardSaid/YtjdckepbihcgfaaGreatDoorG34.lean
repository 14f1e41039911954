/- Lemmas for the walks (ZnA). No condition. -/
import Derived.Test.YtjdckepbihcgfaaGreatDoorG25
import Derived.Test.YtjdckepbihcgfaaGreatDoorG24
set_option linter.unusedSimpArgs false
set_option linter.unusedVariables false
set_option linter.unusedSectionVars false
set_option linter.unnecessarySimpa false
set_option maxRecDepth 100000
set_option maxHeartbeats 8000000
namespace Go.Proofs.YtjdckepbihcgfaaGreatDoor
section
open Go.RowKit
theorem zeF{p R:Prop}(r:R)(h:Rest R→p:=by intro r;(first|with_reducible (first|apply zcE|apply za9|apply zba|apply zbd|apply zbe)|((with_reducible (first|apply zaN|apply zaO));exact rfl;exact rfl;(with_reducible exact rfl)));exact QSarm_ZnA;exact rfl;exact r.out):p:=h ⟨r⟩
theorem QSarm_ZnA{p:Prop}(h:p:=by(first|((with_reducible apply zhV (l:=i+1));exact rfl;exact rfl;omega;omega)|((with_reducible apply zeb (o':=k * 4));exact rfl;exact rfl;omega;omega)|exact QS.auto)):p:=h
theorem DRarm0_ZnA{p R:Prop}(r:R)(h:Rest R→p:=by intro r;first|((with_reducible apply zam (id:=12) 1000 (OT.seq [(0,0),(1,1),(0,2),(0,3),(0,4),(1,5),(0,6),(0,7),(0,8),(0,9),(0,10),(0,11),(0,12),(0,13),(0,14),(0,15),(0,17),(1,16),(1,18),(0,19),(0,20)] .nil));kernel_rfl;exact rfl;kernel_rfl;(repeat(first|with_reducible exact Blind.body|with_reducible apply Blind.seq|with_reducible apply Blind.block|with_reducible assumption));exact r.out)):p:=h ⟨r⟩
theorem endD_zon{cs:List Cl}{v:Nat}(h:isV cs v=true):endD cs (v:Int)=endZ cs (v:Int):=by unfold endD endZ;rw[okD_zon h]
theorem okD_is(cs:List Cl)(v:Nat):okD cs (v:Int)=(isV cs v&&(endZ cs (v:Nat)).some_):=by
 have h1:(decide ((v:Int)=0)||decide (0≤zct cs (v:Int)))=isV cs v:=by
  unfold isV
  congr 1
  exact decide_eq_decide.2 Zo
 unfold okD
 rw[h1]
 by_cases h:isV cs v=true
 ·rw[endD_zon h]
 ·rw[Bool.eq_false_iff.2 h,Bool.false_and,Bool.false_and]
theorem zonD_is{cs:List Cl}{v:Nat}(h:(isV cs v&&(endZ cs (v:Nat)).some_)=true):zonD cs (v:Int)=zonE cs (v:Int):=by
 rw[Bool.and_eq_true] at h
 unfold zonD zonE
 rw[endD_zon h.1]
theorem zonL_fwd{cs:List Cl}{n:Nat}:∀z∈zh8 cs n,z.fwd=decide (z.first<z.last):=by
 intro z hz
 unfold zh8 at hz
 obtain⟨v,_,h⟩:=List.mem_filterMap.1 hz
 unfold zonO at h
 split at h
 ·cases h;rfl
 ·cases h
theorem meet_max{a b:Zon}(ha:a.first<a.last)(hb:b.first<b.last):decide (max a.first b.first<min a.last b.last)=zh9 a b:=by
 unfold zh9
 rw[←Bool.decide_and]
 exact decide_eq_decide.2 Zo
section
variable (A:Option Addr)(c:Nat)(cs:List Cl)(w:World)(hl:cs.length≤200)(hA:zh2 w A cs)(hok:RgOk cs) 
include hl hA hok
theorem badZones_any:Calls Tryz.prog 37 #[.slice A cs.length c] w fun e w'=>e=.returned (.agg (Bd.enc (zbP cs)).toArray)∧Below w.heap.size w w':=by
 have hwz:=zjG hok.toRgAll
 have hwo:=fun v w h=>zdn A c cs w hl h v
 have hzo:=fun v w h=>zoneOf_any A c cs w hl h v hwz
 have hR1:∀k,k<cs.length→(∀i,i<k→zeD cs i=false)→zeD cs k=true→zbP cs=⟨1,k,0⟩:=fun k hk h1 h=>by
  have:zck cs=⟨1,k,0⟩:=by unfold zck;rw[za5 hk h1 h]
  unfold zbP
  rw[this,if_pos Zj]
 have hR2:(∀i,i<cs.length→zeD cs i=false)→∀k,k<cs.length→(∀i,i<k→zfr cs i=false)→zfr cs k=true→zbP cs=⟨3,k,zct cs (clK cs k).res⟩:=fun h0 k hk h1 h=>by
  have:zck cs=⟨3,k,zct cs (clK cs k).res⟩:=by unfold zck zcJ;rw[zaP h0];dsimp only;rw[za5 hk h1 h]
  unfold zbP
  rw[this,if_pos Zj]
 have hR3:(∀i,i<cs.length→zeD cs i=false)→(∀i,i<cs.length→zfr cs i=false)→zbP cs=zdj (zh8 cs 1001):=fun h0 h1=>by
  have:zck cs=⟨0,0,0⟩:=by unfold zck zcJ;rw[zaP h0];dsimp only;rw[zaP h1]
  unfold zbP
  rw[this,if_neg Zj]
 generalize zbP cs=R at *
 refine zaj (S:=[]) [] Tryz.func37 rfl Tryz.ntmps37 Zj (Mem.nil _) ?_
 repeat' (first|refine zeF ?_|refine Zga ?_|(refine Zgb ?_;intro g)|(refine Zg ?_ ?_<;>(intro h;try exact Zx))|fail)
 obtain⟨gb,rfl⟩:∃x,x=g:=⟨_,rfl⟩
 refine zap (X:=Nat) (fun k=>[(25,.int .i64 (k:Nat)),(24,.int .i64 cs.length),(23,.slice A cs.length c),(0,.slice A cs.length c),(2,.pointer (some ⟨gb,0,none⟩))]) (fun _=>[zak gb 79 #[.int .i64 0,.int .i64 0,.int .i64 0]]) (fun k=>k≤cs.length∧∀i,i<k→zeD cs i=false) (fun k=>cs.length-k) 0 ⟨by omega,fun i hi=>by omega⟩ Ze (fun _ hw=>hw.sel Zl) ?_
 rintro k ⟨hk,hno⟩
 by_cases hkl:k<cs.length
 ·obtain⟨b,o,rfl,_⟩:=RdE.open hA Zo
  have hck:=zay hkl
  have hst:zeD cs k=(decide (cs[k].kind=2)&&(decide (cs[k].to≠-1)&&(decide (cs[k].res≠0)&&decide (zct cs cs[k].res<0)))):=by unfold zeD;rw[hck]
  have hRk:=hR1 k hkl hno
  have hwo:=hwo cs[k].res
  rw[hst] at hRk
  have hnos:zeD cs k=false→∀i,i<k+1→zeD cs i=false:=fun h i hi=>(Nat.lt_succ_iff_lt_or_eq.1 hi).elim (fun e=>hno i e) (fun e=>by subst e;exact h)
  rw[hst] at hnos
  have n1:=fun h:¬cs[k].kind=2=>hnos (by rw[decide_eq_false h];rfl)
  have n2:=fun h:cs[k].to=-1=>hnos (by rw[decide_eq_false (not_not_intro h),Bool.false_and,Bool.and_false])
  have n3:=fun h:cs[k].res=0=>hnos (by rw[decide_eq_false (not_not_intro h),Bool.false_and,Bool.and_false,Bool.and_false])
  clear hR1 hR2 hR3 hzo hst
  by_cases hneg:zct cs cs[k].res<0
  ·rw[if_pos hneg,decide_eq_false (show ¬0≤zct cs cs[k].res by omega)] at hwo
   have hy:=fun(h1:cs[k].kind=2) (h2:¬cs[k].to=-1) (h3:¬cs[k].res=0)=>hRk (by rw[decide_eq_true h1,decide_eq_true h2,decide_eq_true h3,decide_eq_true hneg];rfl)
   clear hRk hnos
   repeat' (first|refine zeF ?_|refine Zga ?_|(refine Zgb ?_;intro g)|(refine Zg ?_ ?_<;>(intro h;try exact Zx))|((with_reducible (first|apply zaa|apply TD_e3z|apply zan|apply zaf|apply zae));((with_reducible apply zad (f:=82));exact rfl;(intro w hw;exact hwo w (hw.rd rfl hA));exact rfl);exact Zh;(rintro _ _ ⟨rfl,rfl⟩);(try refine⟨SUB,?_⟩))|fail)
   all_goals first
    |exact zab (k+1) ⟨hkl,n1 (by assumption)⟩ Zo Ze (by exact zaK)
    |exact zab (k+1) ⟨hkl,n2 (by assumption)⟩ Zo Ze (by exact zaK)
    |exact zab (k+1) ⟨hkl,n3 (by assumption)⟩ Zo Ze (by exact zaK)
    |(obtain rfl:=hy (by assumption) (by assumption) (by assumption);((with_reducible apply zau Tryz.results37);exact Zr;intro w' hw);exact⟨rfl,hw.below0 rfl⟩)
  ·rw[if_neg hneg,decide_eq_true (show 0≤zct cs cs[k].res by omega)] at hwo
   have n4:=hnos (by rw[decide_eq_false hneg,Bool.and_false,Bool.and_false,Bool.and_false])
   clear hRk hnos n1 n2 n3
   repeat' (first|refine zeF ?_|refine Zga ?_|(refine Zgb ?_;intro g)|(refine Zg ?_ ?_<;>(intro h;try exact Zx))|((with_reducible (first|apply zaa|apply TD_e3z|apply zan|apply zaf|apply zae));((with_reducible apply zad (f:=82));exact rfl;(intro w hw;exact hwo w (hw.rd rfl hA));exact rfl);exact Zh;(rintro _ _ ⟨rfl,rfl⟩);(try refine⟨SUB,?_⟩))|fail)
   all_goals first
    |exact zab (k+1) ⟨hkl,n4⟩ Zo Ze (by exact zaK)
    |(exfalso;simp_all;done)
 obtain rfl:k=cs.length:=by omega
 have hns:=hno
 have hR2:=hR2 hno
 have hR3:=hR3 hno
 clear hR1 hk hkl hno
 repeat' (first|refine zeF ?_|refine Zga ?_|(refine Zgb ?_;intro g)|(refine Zg ?_ ?_<;>(intro h;try exact Zx))|fail)
 refine zap (X:=Nat) (fun k=>[(59,.int .i64 (k:Nat)),(58,.int .i64 cs.length),(57,.slice A cs.length c),(0,.slice A cs.length c),(2,.pointer (some ⟨gb,0,none⟩))]) (fun _=>[zak gb 79 #[.int .i64 0,.int .i64 0,.int .i64 0]]) (fun k=>k≤cs.length∧∀i,i<k→zfr cs i=false) (fun k=>cs.length-k) 0 ⟨by omega,fun i hi=>by omega⟩ Ze (fun _ hw=>hw.sel Zl) ?_
 rintro k ⟨hk,hno⟩
 by_cases hkl:k<cs.length
 ·obtain⟨b,o,rfl,_⟩:=RdE.open hA Zo
  have hck:=zay hkl
  have hea:zfr cs k=(decide (cs[k].kind=2)&&(decide (cs[k].to≠-1)&&(decide (0≤zct cs cs[k].res)&&decide (cs[k].to<(clK cs (zct cs cs[k].res).toNat).from_)))):=by unfold zfr;rw[hck]
  have hRk:=hR2 k hkl hno
  have hwo:=hwo cs[k].res
  rw[hea] at hRk
  rw[hck] at hRk
  have hnos:zfr cs k=false→∀i,i<k+1→zfr cs i=false:=fun h i hi=>(Nat.lt_succ_iff_lt_or_eq.1 hi).elim (fun e=>hno i e) (fun e=>by subst e;exact h)
  rw[hea] at hnos
  have n1:=fun h:¬cs[k].kind=2=>hnos (by rw[decide_eq_false h];rfl)
  have n2:=fun h:cs[k].to=-1=>hnos (by rw[decide_eq_false (not_not_intro h),Bool.false_and,Bool.and_false])
  clear hR2 hR3 hzo hea
  by_cases hneg:zct cs cs[k].res<0
  ·rw[if_pos hneg,decide_eq_false (show ¬0≤zct cs cs[k].res by omega)] at hwo
   have n4:=hnos (by rw[decide_eq_false (show ¬0≤zct cs cs[k].res by omega),Bool.false_and,Bool.and_false,Bool.and_false])
   clear hRk hnos n1 n2
   repeat' (first|refine zeF ?_|refine Zha ?_|(refine Zhb ?_;intro g)|(refine Zg ?_ ?_<;>(intro h;try exact Zx))|refine GOF ?_ ?_|(refine DRarm0_ZnA ?_)|((with_reducible (first|apply zaa|apply TD_e3z|apply zan|apply zaf|apply zae));((with_reducible apply zad (f:=82));exact rfl;(intro w hw;exact hwo w (hw.rd rfl hA));exact rfl);exact Zh;(rintro _ _ ⟨rfl,rfl⟩);(try refine⟨SUB,?_⟩))|fail)
   all_goals first
    |exact zab (k+1) ⟨hkl,n4⟩ Zo Ze (by exact zaK)
    |(exfalso;simp_all;done)
  ·obtain⟨q,hq1,hq2,_,_⟩:=wrBy_at (show 0≤zct cs cs[k].res by omega)
   rw[if_neg hneg,decide_eq_true (show 0≤zct cs cs[k].res by omega),hq1] at hwo
   rw[hq1,Int.toNat_natCast,zay hq2,decide_eq_true (show(0:Int)≤(q:Nat) by omega)] at hRk hnos
   have hy:=fun(h1:cs[k].kind=2) (h2:¬cs[k].to=-1) (h3:cs[k].to<cs[q].from_)=>hRk (by rw[decide_eq_true h1,decide_eq_true h2,decide_eq_true h3];rfl)
   have n3:=fun h:¬cs[k].to<cs[q].from_=>hnos (by rw[decide_eq_false h,Bool.and_false,Bool.and_false,Bool.and_false])
   have n3':=fun h:cs[q].from_≤cs[k].to=>n3 Zo
   clear hRk hnos
   repeat' (first|refine zeF ?_|refine Zha ?_|(refine Zhb ?_;intro g)|(refine Zg ?_ ?_<;>(intro h;try exact Zx))|refine GOF ?_ ?_|(refine DRarm0_ZnA ?_)|((with_reducible (first|apply zaa|apply TD_e3z|apply zan|apply zaf|apply zae));((with_reducible apply zad (f:=82));exact rfl;(intro w hw;exact hwo w (hw.rd rfl hA));exact rfl);exact Zh;(rintro _ _ ⟨rfl,rfl⟩);(try refine⟨SUB,?_⟩))|fail)
   all_goals first
    |exact zab (k+1) ⟨hkl,n1 (by assumption)⟩ Zo Ze (by exact zaK)
    |exact zab (k+1) ⟨hkl,n2 (by assumption)⟩ Zo Ze (by exact zaK)
    |exact zab (k+1) ⟨hkl,n3 (by assumption)⟩ Zo Ze (by exact zaK)
    |exact zab (k+1) ⟨hkl,n3' (by assumption)⟩ Zo Ze (by exact zaK)
    |(obtain rfl:=hy (by assumption) (by assumption) (by assumption);((with_reducible apply zau Tryz.results37);exact Zr;intro w' hw);exact⟨rfl,hw.below0 rfl⟩)
 obtain rfl:k=cs.length:=by omega
 have hR3:=hR3 hno
 clear hR2 hk hkl hno hwo
 repeat' (first|refine zeF ?_|refine Zga ?_|(refine Zgb ?_;intro g)|(refine Zg ?_ ?_<;>(intro h;try exact Zx))|fail)
 refine zap (X:=Nat×Option Addr×Nat) (fun x=>[(96,.int .i64 (x.1:Nat)),(11,.slice x.2.1 (zh8 cs x.1).length x.2.2),(0,.slice A cs.length c),(2,.pointer (some ⟨gb,0,none⟩))]) (fun x=>[zac Zon.enc 4 142 x.2.1 x.2.2 (zh8 cs x.1),zak gb 79 #[.int .i64 0,.int .i64 0,.int .i64 0]]) (fun x=>x.1≤1001) (fun x=>1001-x.1) (0,none,0) (by(try dsimp only);omega) (by(try dsimp only);exact Ze) (fun w' hw=>by rw[show zh8 cs 0=[] from rfl];exact(hw.nilOwn Zon.enc 4 142).sel Zl) ?_
 rintro⟨v,A1,c1⟩ hv
 dsimp only at hv ⊢
 have hzl:=zonL_len cs v
 by_cases hvl:v<1001
 ·have hzs:=zonL_succ cs v
  have hzo:=hzo (v:Nat)
  rw[okD_is] at hzo
  generalize zh8 cs v=L at *
  cases hb:(isV cs v&&(endZ cs (v:Nat)).some_)
  ·rw[if_neg (by rw[hb];decide)] at hzs
   rw[hb] at hzo
   have hvl2:((v:Nat):Int)<1001:=by omega
   repeat' (first|refine zeF ?_|refine Zga ?_|(refine Zgb ?_;intro g)|(refine Zg ?_ ?_<;>(intro h;try exact Zx))|((with_reducible (first|apply zaa|apply TD_e3z|apply zan|apply zaf|apply zae));((with_reducible apply zad (f:=83));exact rfl;(intro w hw;exact hzo w (hw.rd rfl hA));exact rfl);exact Zh;(rintro _ _ ⟨rfl,rfl⟩);(try refine⟨SUB,?_⟩))|fail)
   all_goals(apply zab (v+1,A1,c1);(case hE=>(try dsimp only);rw[hzs];exact Ze);(case hS=>(try dsimp only);rw[hzs];exact fun w' hw=>hw.sel Zl);(case hμ=>(try dsimp only);omega);(case hp=>(try dsimp only);omega))
  ·rw[if_pos hb] at hzs
   rw[hb,zonD_is hb] at hzo
   have hvl2:((v:Nat):Int)<1001:=by omega
   generalize zonE cs (v:Nat)=ze at *
   repeat' (first|refine zeF ?_|refine Zga ?_|(refine Zgb ?_;intro g)|(refine Zg ?_ ?_<;>(intro h;try exact Zx))|((with_reducible (first|apply zaa|apply TD_e3z|apply zan|apply zaf|apply zae));((with_reducible apply zad (f:=83));exact rfl;(intro w hw;exact hzo w (hw.rd rfl hA));exact rfl);exact Zh;(rintro _ _ ⟨rfl,rfl⟩);(try refine⟨SUB,?_⟩))|((with_reducible (first|apply zaa|apply TD_e3z|apply zan|apply zaf|apply zae));((with_reducible apply zaw (enc:=Zon.enc) (xx:=ze));exact rfl;exact rfl;exact Zm;exact rfl;exact fun _=>rfl;exact fun _=>rfl;(intro A' c';exact Zu);(omega);decide;exact rfl);exact Zh;(rintro _ _ ⟨A',c',rfl,rfl⟩);(try refine⟨SUB,?_⟩))|fail)
   all_goals(apply zab (v+1,A',c');(case hE=>(try dsimp only);rw[hzs];exact Ze);(case hS=>(try dsimp only);rw[hzs];exact fun w' hw=>hw.sel Zl);(case hμ=>(try dsimp only);omega);(case hp=>(try dsimp only);omega))
 obtain rfl:v=1001:=by omega
 have hfw:=fun z (hz:z∈zh8 cs 1001)=>zonL_fwd z hz
 clear hzo
 generalize zh8 cs 1001=Z at *
 have hQ1:=fun i k hi hk h1 h2 h=>zhX (Z:=Z) (i:=i) (k:=k) hi hk h1 h2 h
 have hQ2:=fun h0 i k hi hk h1 h2 h=>zgE (Z:=Z) h0 (i:=i) (k:=k) hi hk h1 h2 h
 have hQ3:=fun h0 h1=>zjL (Z:=Z) h0 h1
 rw[←hR3] at hQ1 hQ2 hQ3
 clear hR3 hns hvl hv
 repeat' (first|refine zeF ?_|refine Zga ?_|(refine Zgb ?_;intro g)|(refine Zg ?_ ?_<;>(intro h;try exact Zx))|fail)
 obtain⟨AZ,hAZ⟩:∃x,x=A1:=⟨_,rfl⟩
 obtain⟨cz,hcz⟩:∃x,x=c1:=⟨_,rfl⟩
 rw[←hAZ,←hcz]
 clear hAZ hcz A1 c1
 refine ziW (p:=Z.length≤cz∧(AZ=none→cz=0)) (fun w hw=>hw.ownFacts (enc:=Zon.enc) (M:=4) (et:=142) Zm) fun hf=>?_
 have hlc:=hf.1
 refine zap (X:=Nat) (fun i=>[(113,.int .i64 (i:Nat)),(112,.int .i64 Z.length),(111,.slice AZ Z.length cz),(11,.slice AZ Z.length cz),(2,.pointer (some ⟨gb,0,none⟩))]) (fun _=>[zac Zon.enc 4 142 AZ cz Z,zak gb 79 #[.int .i64 0,.int .i64 0,.int .i64 0]])
  (fun i=>i≤Z.length∧∀j,j<i→∀q,q<Z.length→zcq Z j q=false) (fun i=>Z.length-i) 0 ⟨by omega,fun j hj=>by omega⟩ Ze (fun _ hw=>hw.sel Zl) ?_
 rintro i ⟨hi,hno⟩
 by_cases hil:i<Z.length
 ·have hde:=fun q (h:i<q) (hq:q<Z.length)=>crossB_eq (Z:=Z) hil hq
  have hle:=fun q (h:q≤i)=>crossB_le (Z:=Z) h
  have hRi:=hQ1 i
  have hfi:=hfw Z[i] (List.getElem_mem _)
  refine zb1 (enc:=Zon.enc) (ls:=Z) Zm Zo ?_
  rintro gZ rfl
  clear hQ1 hQ2 hQ3
  repeat' (first|refine zeF ?_|refine Zga ?_|(refine Zgb ?_;intro g)|(refine Zg ?_ ?_<;>(intro h;try exact Zx))|fail)
  obtain⟨g5,rfl⟩:∃x,x=g:=⟨_,rfl⟩
  refine zap (X:=Nat) (fun j=>[(123,.int .i64 (j:Nat)),(122,.int .i64 ((Z.length-(i+1):Nat):Int)),(121,.slice (some ⟨gZ,if cz=i+1 then 0 else 0+(i+1) * 4,none⟩) (Z.length-(i+1)) (cz-(i+1))),(16,.pointer (some ⟨g5,0,none⟩)),(113,.int .i64 (i:Nat)),(112,.int .i64 Z.length),(111,.slice (some ⟨gZ,0,none⟩) Z.length cz),(11,.slice (some ⟨gZ,0,none⟩) Z.length cz),(2,.pointer (some ⟨gb,0,none⟩))]) (fun _=>[zak g5 142 (Zon.enc Z[i]).toArray,zac Zon.enc 4 142 (some ⟨gZ,0,none⟩) cz Z,zak gb 79 #[.int .i64 0,.int .i64 0,.int .i64 0]])
   (fun j=>j≤Z.length-(i+1)∧∀q,q<i+1+j→zcq Z i q=false) (fun j=>Z.length-(i+1)-j) 0 ⟨by omega,fun q hq=>hle q Zo⟩ Ze (fun _ hw=>hw.sel Zl) ?_
  rintro j ⟨hj,hnj⟩
  by_cases hjl:j<Z.length-(i+1)
  ·rw[if_neg (show ¬cz=i+1 by omega)]
   obtain⟨k,hk⟩:∃k,k=i+1+j:=⟨_,rfl⟩
   have hkl:k<Z.length:=by omega
   have hcr:=hde k Zo hkl
   have hfk:=hfw Z[k] (List.getElem_mem _)
   have hRk:=hRi k hil hkl hno (fun q hq=>hnj q Zo)
   rw[decide_eq_true (show i<k by omega),Bool.true_and] at hcr
   rw[hcr] at hRk
   have hnk:(Z[i].fwd&&(Z[k].fwd&&zh9 Z[i] Z[k]))=false→∀q,q<i+1+(j+1)→zcq Z i q=false:=fun e q hq=>(Nat.lt_succ_iff_lt_or_eq.1 (show q<(i+1+j)+1 by omega)).elim (fun e2=>hnj q e2) (fun e2=>by rw[e2,←hk,hcr];exact e)
   have hn1:=fun h:Z[i].fwd=false=>hnk (by rw[h];rfl)
   have hn2:=fun h:Z[k].fwd=false=>hnk (by rw[h,Bool.false_and,Bool.and_false])
   have hmm:=fun(h1:Z[i].fwd=true) (h2:Z[k].fwd=true)=>meet_max (a:=Z[i]) (b:=Z[k]) (of_decide_eq_true (hfi.symm.trans h1)) (of_decide_eq_true (hfk.symm.trans h2))
   have hn3:=fun(h1:Z[i].fwd=true) (h2:Z[k].fwd=true) (h3:min Z[i].last Z[k].last≤max Z[i].first Z[k].first)=>hnk (by rw[←hmm h1 h2,decide_eq_false Zo,Bool.and_false,Bool.and_false])
   have hn0:=fun(h1:Z[i].fwd=true) (h2:Z[k].fwd=true) (h3:max Z[i].first Z[k].first<min Z[i].last Z[k].last)=>hRk (by rw[←hmm h1 h2,h1,h2,decide_eq_true h3];rfl)
   clear hde hno hnj hRi hcr hnk hRk hmm hfi hfk hfw
   repeat' (first|refine zeF ?_|refine Zga ?_|(refine Zgb ?_;intro g)|(refine Zg ?_ ?_<;>(intro h;try exact Zx))|fail)
   all_goals first
    |exact zab (j+1) ⟨by omega,hn1 (by assumption)⟩ Zo Ze (fun _ hw=>hw.sel Zl)
    |exact zab (j+1) ⟨by omega,hn2 (by assumption)⟩ Zo Ze (fun _ hw=>hw.sel Zl)
    |exact zab (j+1) ⟨by omega,hn3 (by assumption) (by assumption) (by assumption)⟩ Zo Ze (fun _ hw=>hw.sel Zl)
    |(obtain rfl:=hn0 (by assumption) (by assumption) (by assumption);((with_reducible apply zau Tryz.results37);exact Zr;intro w' hw);exact⟨rfl,hw.below0 rfl⟩)
  ·have hjn:j=Z.length-(i+1):=by omega
   have hno2:∀q,q<i+1→∀r,r<Z.length→zcq Z q r=false:=fun q hq r hr=>(Nat.lt_succ_iff_lt_or_eq.1 hq).elim (fun e=>hno q e r hr) (fun e=>by subst e;exact hnj r Zo)
   clear hno hnj
   repeat' (first|refine zeF ?_|refine Zga ?_|(refine Zgb ?_;intro g)|(refine Zg ?_ ?_<;>(intro h;try exact Zx))|fail)
   all_goals exact zab (i+1) ⟨by omega,hno2⟩ Zo Ze (fun _ hw=>hw.sel Zl)
 obtain rfl:i=Z.length:=by omega
 have hQ2:=hQ2 hno
 have hQ3:=hQ3 hno
 clear hQ1
 repeat' (first|refine zeF ?_|refine Zga ?_|(refine Zgb ?_;intro g)|(refine Zg ?_ ?_<;>(intro h;try exact Zx))|fail)
 refine zap (X:=Nat) (fun i=>[(155,.int .i64 (i:Nat)),(154,.int .i64 Z.length),(153,.slice AZ Z.length cz),(11,.slice AZ Z.length cz),(2,.pointer (some ⟨gb,0,none⟩))]) (fun _=>[zac Zon.enc 4 142 AZ cz Z,zak gb 79 #[.int .i64 0,.int .i64 0,.int .i64 0]])
  (fun i=>i≤Z.length∧∀j,j<i→∀q,q<Z.length→zb2 Z j q=false) (fun i=>Z.length-i) 0 ⟨by omega,fun j hj=>by omega⟩ Ze (fun _ hw=>hw.sel Zl) ?_
 clear hno hi hil
 rintro i ⟨hi,hno⟩
 by_cases hil:i<Z.length
 ·have hde:=fun q (hq:q<Z.length)=>insideB_eq (Z:=Z) hil hq
  have hRi:=hQ2 i
  refine zb1 (enc:=Zon.enc) (ls:=Z) Zm Zo ?_
  rintro gZ rfl
  clear hQ2 hQ3
  repeat' (first|refine zeF ?_|refine Zga ?_|(refine Zgb ?_;intro g)|(refine Zg ?_ ?_<;>(intro h;try exact Zx))|fail)
  obtain⟨g5,rfl⟩:∃x,x=g:=⟨_,rfl⟩
  refine zap (X:=Nat) (fun j=>[(161,.int .i64 (j:Nat)),(160,.int .i64 Z.length),(159,.slice (some ⟨gZ,0,none⟩) Z.length cz),(20,.pointer (some ⟨g5,0,none⟩)),(155,.int .i64 (i:Nat)),(154,.int .i64 Z.length),(153,.slice (some ⟨gZ,0,none⟩) Z.length cz),(11,.slice (some ⟨gZ,0,none⟩) Z.length cz),(2,.pointer (some ⟨gb,0,none⟩))]) (fun _=>[zak g5 142 (Zon.enc Z[i]).toArray,zac Zon.enc 4 142 (some ⟨gZ,0,none⟩) cz Z,zak gb 79 #[.int .i64 0,.int .i64 0,.int .i64 0]])
   (fun j=>j≤Z.length∧∀q,q<j→zb2 Z i q=false) (fun j=>Z.length-j) 0 ⟨by omega,fun q hq=>by omega⟩ Ze (fun _ hw=>hw.sel Zl) ?_
  rintro k ⟨hk,hnj⟩
  by_cases hkl:k<Z.length
  ·have hcr:=hde k hkl
   have hRk:=hRi k hil hkl hno hnj
   unfold zh9 at hcr
   rw[hcr] at hRk
   have hnk:(Z[i].fwd&&(!Z[k].fwd&&(decide (Z[i].first<Z[k].last)&&decide (Z[k].first<Z[i].last))))=false→∀q,q<k+1→zb2 Z i q=false:=fun e q hq=>(Nat.lt_succ_iff_lt_or_eq.1 hq).elim (fun e2=>hnj q e2) (fun e2=>by subst e2;rw[hcr];exact e)
   have hn1:=fun h:Z[i].fwd=false=>hnk (by rw[h];rfl)
   have hn2:=fun h:Z[k].fwd=true=>hnk (by rw[h,Bool.not_true,Bool.false_and,Bool.and_false])
   have hn3:=fun h:Z[k].last≤Z[i].first=>hnk (by rw[decide_eq_false (show ¬Z[i].first<Z[k].last by omega),Bool.false_and,Bool.and_false,Bool.and_false])
   have hn4:=fun h:Z[i].last≤Z[k].first=>hnk (by rw[decide_eq_false (show ¬Z[k].first<Z[i].last by omega),Bool.and_false,Bool.and_false,Bool.and_false])
   have hn0:=fun(h1:Z[i].fwd=true) (h2:Z[k].fwd=false) (h3:Z[i].first<Z[k].last) (h4:Z[k].first<Z[i].last)=>hRk (by rw[h1,h2,decide_eq_true h3,decide_eq_true h4];rfl)
   clear hde hno hnj hRi hcr hnk hRk
   repeat' (first|refine zeF ?_|refine Zga ?_|(refine Zgb ?_;intro g)|(refine Zg ?_ ?_<;>(intro h;try exact Zx))|fail)
   all_goals first
    |exact zab (k+1) ⟨by omega,hn1 (by assumption)⟩ Zo Ze (fun _ hw=>hw.sel Zl)
    |exact zab (k+1) ⟨by omega,hn2 (by assumption)⟩ Zo Ze (fun _ hw=>hw.sel Zl)
    |exact zab (k+1) ⟨by omega,hn3 (by assumption)⟩ Zo Ze (fun _ hw=>hw.sel Zl)
    |exact zab (k+1) ⟨by omega,hn4 (by assumption)⟩ Zo Ze (fun _ hw=>hw.sel Zl)
    |(obtain rfl:=hn0 (by assumption) (by assumption) (by assumption) (by assumption);((with_reducible apply zau Tryz.results37);exact Zr;intro w' hw);exact⟨rfl,hw.below0 rfl⟩)
  ·obtain rfl:k=Z.length:=by omega
   have hno2:∀q,q<i+1→∀r,r<Z.length→zb2 Z q r=false:=fun q hq r hr=>(Nat.lt_succ_iff_lt_or_eq.1 hq).elim (fun e=>hno q e r hr) (fun e=>by subst e;exact hnj r hr)
   clear hno hnj
   repeat' (first|refine zeF ?_|refine Zga ?_|(refine Zgb ?_;intro g)|(refine Zg ?_ ?_<;>(intro h;try exact Zx))|fail)
   all_goals exact zab (i+1) ⟨by omega,hno2⟩ Zo Ze (fun _ hw=>hw.sel Zl)
 ·obtain rfl:i=Z.length:=by omega
  obtain rfl:=hQ3 hno
  repeat' (first|refine zeF ?_|refine Zga ?_|(refine Zgb ?_;intro g)|(refine Zg ?_ ?_<;>(intro h;try exact Zx))|fail)
  ((with_reducible apply zau Tryz.results37);exact Zr;intro w' hw)
  exact⟨rfl,hw.below0 rfl⟩
end
end
end Go.Proofs.YtjdckepbihcgfaaGreatDoor
