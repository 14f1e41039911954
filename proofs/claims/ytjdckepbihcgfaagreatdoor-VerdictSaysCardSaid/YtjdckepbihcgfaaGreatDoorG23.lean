/- Lemmas for the walks (Zn7). No condition. -/
import Derived.Test.YtjdckepbihcgfaaGreatDoorG22
set_option linter.unusedSimpArgs false
set_option linter.unusedVariables false
set_option linter.unusedSectionVars false
set_option linter.unnecessarySimpa false
set_option maxRecDepth 100000
set_option maxHeartbeats 8000000
namespace Go.Proofs.YtjdckepbihcgfaaGreatDoor
section
open Go.RowKit
theorem Q0Zn7{p R:Prop}(r:R)(h:Rest R→p:=by intro r;(first|with_reducible (first|apply zcE|apply za9|apply zba|apply zbd|apply zbe)|((with_reducible (first|apply zaN|apply zaO));exact rfl;exact rfl;(with_reducible exact rfl)));exact QSarm_Zn7;exact rfl;exact r.out):p:=h ⟨r⟩
theorem QSarm_Zn7{p:Prop}(h:p:=by(first|((with_reducible apply za1);exact rfl;exact Lds.own (enc:=Clu.enc) Zm (by intro x;rfl) hj (by rw[hpj,Clu.enc_mk];rfl))|((with_reducible apply za1);exact rfl;exact Lds.own0 (enc:=Clu.enc) Zm (by intro x;rfl) hj (by rw[hpj,Clu.enc_mk];rfl))|((with_reducible apply za1);exact rfl;exact Lds.setAt (enc:=Clu.enc) Zm (by intro x;rfl) (by(first|exact hj|(simp only[List.length_set];exact hj))) (by rw[Clu.enc_mk];rfl))|((with_reducible apply za1);exact rfl;exact Lds.setAt0 (enc:=Clu.enc) Zm (by intro x;rfl) (by(first|exact hj|(simp only[List.length_set];exact hj))) (by rw[Clu.enc_mk];rfl))|exact QS.auto)):p:=h
theorem zb9{p:Prop}(h:p:=by(first|((with_reducible apply ES_storeZone);exact rfl;exact rfl;exact Zu;exact rfl)|((with_reducible apply za2 (enc:=Clu.enc));exact rfl;exact rfl;exact Zu;(intro x;rfl);(first|exact List.getElem?_set_self (by(first|exact hj|(simp only[List.length_set];exact hj)))|exact hpj1);decide;exact Clu.enc_mk _ _ _ _ _ _ _ _ _ _ _;exact rfl)|exact ES.auto)):p:=h
theorem zho{p R:Prop}(r:R)(h:Rest R→p:=by intro r;first|((with_reducible apply zam (id:=19) 1000 (OT.seq [(0,0),(1,1),(0,2),(0,3),(0,4),(1,5),(0,6),(0,7),(0,8),(0,9),(0,11),(0,12),(0,13),(1,10),(1,14),(0,15),(0,16)] .nil));kernel_rfl;exact rfl;kernel_rfl;(repeat(first|with_reducible exact Blind.body|with_reducible apply Blind.seq|with_reducible apply Blind.block|with_reducible assumption));exact r.out)|((with_reducible apply zam (id:=22) 21 (OT.seq [(0,0),(0,1),(0,2),(0,3),(0,4),(0,5),(0,7),(0,10),(0,11),(0,12),(0,13),(0,15),(1,6),(1,8),(0,9),(1,14),(0,18),(0,19),(0,20)] (.fork (OT.seq [(2,16),(0,17),(3,21),(0,22),(0,23),(0,24),(3,25)] .nil) (OT.seq [(3,21),(3,16),(0,17),(0,22),(0,23),(0,24),(3,25)] .nil))));kernel_rfl;exact rfl;kernel_rfl;(repeat(first|with_reducible exact Blind.body|with_reducible apply Blind.seq|with_reducible apply Blind.block|with_reducible assumption));exact r.out)|((with_reducible apply zam (id:=24) 15 (OT.seq [(0,0),(0,1),(0,2),(0,3),(0,4),(0,6),(0,7),(0,8),(0,9),(1,5),(1,10),(0,11),(0,12),(0,13),(0,14),(3,15)] .nil));kernel_rfl;exact rfl;kernel_rfl;(repeat(first|with_reducible exact Blind.body|with_reducible apply Blind.seq|with_reducible apply Blind.block|with_reducible assumption));exact r.out)):p:=h ⟨r⟩
abbrev CluS(cs:List Cl):={S:List Clu // S.map (·.value)=(keyZ cs).map (fun v:Nat=>(v:Int))∧∀k∈S,∃h,k=cluE cs k.value h}
theorem clu_fin{cs:List Cl}(hok:RgOk cs){M:List Clu}(hM:M.length=(zb0 cs cs.length).length)(hd:∀i,i<M.length→∃h,M[i]?=some (cluE cs ((zb0 cs cs.length).getD i 0) h))(x:CluTo M):x.1.map (·.value)=(keyZ cs).map (fun v:Nat=>(v:Int))∧∀k∈x.1,∃h,k=cluE cs k.value h:=by
 refine clus_sorted hok (L:=M) ⟨M.map (·.rd),by simp,?_,hM⟩ x.2.1 (cluTo_le x)
 apply List.ext_getElem?
 intro i
 by_cases hi:i<M.length
 ·obtain⟨h,hh⟩:=hd i hi
  have e1:(zb0 cs cs.length)[i]?=some ((zb0 cs cs.length).getD i 0):=by rw[List.getD_eq_getElem?_getD,List.getElem?_eq_getElem Zo];rfl
  rw[List.getElem?_zipWith,e1,List.getElem?_map,hh];rfl
 ·rw[List.getElem?_eq_none Zo,List.getElem?_eq_none (by simp;omega)]
section
variable (A:Option Addr)(c:Nat)(cs:List Cl)(w:World)(hl:cs.length≤200)(hA:zh2 w A cs)(hok:RgOk cs) 
include hl hA hok
theorem clusters_any:Calls Tryz.prog 111 #[.slice A cs.length c] w fun e w'=>∃x:Option Addr×Nat×CluS cs,e=.returned (.slice x.1 x.2.2.1.length x.2.1)∧Mem ⟨0,[],w⟩ w' [zac Clu.enc 9 206 x.1 x.2.1 x.2.2.1]:=by
 have hb0:=zbL_zero hok.toRgAll
 refine zaj (S:=[]) [] Tryz.func111 rfl Tryz.ntmps111 Zj (Mem.nil _) ?_
 repeat' (first|refine Q0Zn7 ?_|((with_reducible (first|apply zaa|apply TD_e3z|apply zan|apply zaf|apply zae));exact zb9;exact Zh;(first|rintro _ _ ⟨rfl,rfl⟩|rintro _ _ ⟨g,rfl,rfl⟩|rintro _ _ ⟨A',c',rfl,rfl⟩);(try refine⟨SUB,?_⟩))|refine Zha ?_|(refine Zhb ?_;intro g)|(refine Zg ?_ ?_<;>(intro h;try exact Zx))|refine GOF ?_ ?_|fail)
 obtain⟨g0,rfl⟩:∃x,x=g:=⟨_,rfl⟩
 refine T_mem (S':=[zac Clu.enc 9 206 (some ⟨g0,0,none⟩) 1 [⟨0,-1,-1,⟨none,0,0⟩,0,-1,-1,false,false⟩]]) (fun w hw=>Mem.asOwn (enc:=Clu.enc) (M:=9) [⟨0,-1,-1,⟨none,0,0⟩,0,-1,-1,false,false⟩] Zu rfl (fun _=>rfl) Zi hw) ?_
 refine zap (X:=Nat×Option Addr×Nat) (fun x=>[(16,.int .i64 (x.1:Nat)),(15,.int .i64 cs.length),(14,.slice A cs.length c),(3,.slice x.2.1 (zbL cs x.1).length x.2.2),(0,.slice A cs.length c)]) (fun x=>[zac Clu.enc 9 206 x.2.1 x.2.2 (zbL cs x.1)]) (fun x=>x.1≤cs.length) (fun x=>cs.length-x.1) (0,some ⟨g0,0,none⟩,1) (by(try dsimp only);omega) (by(try dsimp only);rw[hb0];exact Ze) (fun w' hw=>by(try dsimp only);rw[hb0];exact hw.sel Zl) ?_
 rintro⟨k,A1,c1⟩ hk
 dsimp only at hk ⊢
 have hbl:(zbL cs k).length≤k+1:=by rw[zbL_len];exact orderZ_len cs k
 by_cases hkl:k<cs.length
 ·have hbs:=zbL_succ hok hkl
  have hck:=zay hkl
  rw[hck] at hbs
  obtain⟨b,o,rfl,_⟩:=RdE.open hA Zo
  generalize zbL cs k=L at *
  by_cases h1:cs[k].kind=1
  ·rw[if_pos h1] at hbs
   by_cases ht:cs[k].to=-1
   ·rw[if_pos ht] at hbs
    repeat' (first|refine Q0Zn7 ?_|((with_reducible (first|apply zaa|apply TD_e3z|apply zan|apply zaf|apply zae));exact zb9;exact Zh;(first|rintro _ _ ⟨rfl,rfl⟩|rintro _ _ ⟨g,rfl,rfl⟩|rintro _ _ ⟨A',c',rfl,rfl⟩);(try refine⟨SUB,?_⟩))|refine Zha ?_|(refine Zhb ?_;intro g)|(refine Zg ?_ ?_<;>(intro h;try exact Zx))|refine GOF ?_ ?_|((with_reducible (first|apply zaa|apply TD_e3z|apply zan|apply zaf|apply zae));((with_reducible apply zaw (enc:=Clu.enc) (xx:=(⟨cs[k].arg,(k:Int),cs[k].from_,⟨none,0,0⟩,cs[k].arg,200,cs[k].from_,false,!decide (cs[k].to=-1)⟩:Clu)));exact rfl;exact rfl;exact Zm;exact rfl;exact fun _=>rfl;exact fun _=>rfl;(intro A' c';exact Zu);(omega);decide;exact rfl);exact Zh;(rintro _ _ ⟨A',c',rfl,rfl⟩);(try refine⟨SUB,?_⟩))|fail)
    all_goals(apply zab (k+1,A',c');(case hE=>(try dsimp only);rw[hbs];exact Ze);(case hS=>(try dsimp only);rw[hbs];exact fun w' hw=>hw.sel Zl);(case hμ=>(try dsimp only);omega);(case hp=>(try dsimp only);omega))
   ·rw[if_neg ht] at hbs
    repeat' (first|refine Q0Zn7 ?_|((with_reducible (first|apply zaa|apply TD_e3z|apply zan|apply zaf|apply zae));exact zb9;exact Zh;(first|rintro _ _ ⟨rfl,rfl⟩|rintro _ _ ⟨g,rfl,rfl⟩|rintro _ _ ⟨A',c',rfl,rfl⟩);(try refine⟨SUB,?_⟩))|refine Zha ?_|(refine Zhb ?_;intro g)|(refine Zg ?_ ?_<;>(intro h;try exact Zx))|refine GOF ?_ ?_|((with_reducible (first|apply zaa|apply TD_e3z|apply zan|apply zaf|apply zae));((with_reducible apply zaw (enc:=Clu.enc) (xx:=(⟨cs[k].arg,(k:Int),cs[k].from_,⟨none,0,0⟩,cs[k].arg,cs[k].to,cs[k].from_,false,!decide (cs[k].to=-1)⟩:Clu)));exact rfl;exact rfl;exact Zm;exact rfl;exact fun _=>rfl;exact fun _=>rfl;(intro A' c';exact Zu);(omega);decide;exact rfl);exact Zh;(rintro _ _ ⟨A',c',rfl,rfl⟩);(try refine⟨SUB,?_⟩))|fail)
    all_goals(apply zab (k+1,A',c');(case hE=>(try dsimp only);rw[hbs];exact Ze);(case hS=>(try dsimp only);rw[hbs];exact fun w' hw=>hw.sel Zl);(case hμ=>(try dsimp only);omega);(case hp=>(try dsimp only);omega))
  ·rw[if_neg h1] at hbs
   repeat' (first|refine Q0Zn7 ?_|((with_reducible (first|apply zaa|apply TD_e3z|apply zan|apply zaf|apply zae));exact zb9;exact Zh;(first|rintro _ _ ⟨rfl,rfl⟩|rintro _ _ ⟨g,rfl,rfl⟩|rintro _ _ ⟨A',c',rfl,rfl⟩);(try refine⟨SUB,?_⟩))|refine Zha ?_|(refine Zhb ?_;intro g)|(refine Zg ?_ ?_<;>(intro h;try exact Zx))|refine GOF ?_ ?_|fail)
   all_goals(apply zab (k+1,A1,c1);(case hE=>(try dsimp only);rw[hbs];exact Ze);(case hS=>(try dsimp only);rw[hbs];exact fun w' hw=>hw.sel Zl);(case hμ=>(try dsimp only);omega);(case hp=>(try dsimp only);omega))
 ·obtain rfl:k=cs.length:=by omega
  obtain⟨M0,hM0⟩:∃M,M=zbL cs cs.length:=⟨_,rfl⟩
  have hn0:M0.length=(zb0 cs cs.length).length:=by rw[hM0,zbL_len]
  have hM0g:∀i,i<M0.length→M0[i]?=some (cluK cs ((zb0 cs cs.length).getD i 0) 0 ⟨none,0,0⟩):=fun i hi=>by
   rw[hM0]
   unfold zbL
   rw[List.getElem?_map,List.getD_eq_getElem?_getD,List.getElem?_eq_getElem Zo];rfl
  rw[←hM0] at hbl ⊢
  obtain⟨n,hn⟩:∃n,n=M0.length:=⟨_,rfl⟩
  have hpos:0<M0.length:=by rw[hn0];unfold zb0;simp
  rw[←hn] at hbl hn0 hM0g hpos ⊢
  refine zb1 (enc:=Clu.enc) (ls:=M0) Zm Zo ?_
  rintro gM rfl
  obtain⟨vz,hvz⟩:∃v:Nat→Int,v=fun i=>(zb0 cs cs.length).getD i 0:=⟨_,rfl⟩
  have hM0g:∀i,i<n→M0[i]?=some (cluK cs (vz i) 0 ⟨none,0,0⟩):=fun i hi=>by rw[hvz];exact hM0g i hi
  repeat' (first|refine Q0Zn7 ?_|((with_reducible (first|apply zaa|apply TD_e3z|apply zan|apply zaf|apply zae));exact zb9;exact Zh;(first|rintro _ _ ⟨rfl,rfl⟩|rintro _ _ ⟨g,rfl,rfl⟩|rintro _ _ ⟨A',c',rfl,rfl⟩);(try refine⟨SUB,?_⟩))|refine Zha ?_|(refine Zhb ?_;intro g)|(refine Zg ?_ ?_<;>(intro h;try exact Zx))|refine GOF ?_ ?_|fail)
  refine zap (X:=Nat×List Clu) (fun x=>[(53,.int .i64 (x.1:Nat)),(52,.int .i64 n),(3,.slice (some ⟨gM,0,none⟩) n c1),(0,.slice A cs.length c)]) (fun x=>[zac Clu.enc 9 206 (some ⟨gM,0,none⟩) c1 x.2]) (fun x=>x.1≤n∧x.2.length=n∧(∀i,x.1≤i→i<n→x.2[i]?=some (cluK cs (vz i) 0 ⟨none,0,0⟩))∧∀i,i<x.1→∃h,x.2[i]?=some (cluE cs (vz i) h)) (fun x=>n-x.1) (0,M0) ⟨by(try dsimp only);omega,hn.symm,fun i _ hi=>hM0g i hi,fun i hi=>absurd hi (Nat.not_lt_zero _)⟩ (by(try dsimp only);exact Ze) (fun w' hw=>by(try dsimp only);exact hw.sel Zl) ?_
  clear hM0 hM0g hn
  rintro⟨j,M⟩ ⟨hj,hMl,hM1,hM2⟩
  dsimp only at hj hMl hM1 hM2 ⊢
  by_cases hjn:j<n
  ·repeat' (first|refine Q0Zn7 ?_|((with_reducible (first|apply zaa|apply TD_e3z|apply zan|apply zaf|apply zae));exact zb9;exact Zh;(first|rintro _ _ ⟨rfl,rfl⟩|rintro _ _ ⟨g,rfl,rfl⟩|rintro _ _ ⟨A',c',rfl,rfl⟩);(try refine⟨SUB,?_⟩))|refine Zha ?_|(refine Zhb ?_;intro g)|(refine Zg ?_ ?_<;>(intro h;try exact Zx))|refine GOF ?_ ?_|fail)
   refine zap (X:=Nat×(Option Addr×Nat)×List Int×List Clu) (fun x=>[(61,.int .i64 (x.1:Nat)),(60,.int .i64 cs.length),(59,.slice A cs.length c),(8,.pointer (some ⟨gM,j * 9,none⟩)),(53,.int .i64 (j:Nat)),(52,.int .i64 n),(3,.slice (some ⟨gM,0,none⟩) n c1),(0,.slice A cs.length c)]) (fun x=>[zac Clu.enc 9 206 (some ⟨gM,0,none⟩) c1 x.2.2.2,zac zag 1 3 x.2.1.1 x.2.1.2 x.2.2.1])
    (fun x=>x.1≤cs.length∧x.2.2.1.length≤x.1∧x.2.2.2.length=n∧x.2.2.2[j]?=some (cluK cs (vz j) x.1 ⟨x.2.1.1,x.2.2.1.length,x.2.1.2⟩)∧∀i,i≠j→x.2.2.2[i]?=M[i]?) (fun x=>cs.length-x.1) (0,(none,0),[],M) ⟨by(try dsimp only);omega,by(try dsimp only);exact Nat.le_refl _,hMl,hM1 j (Nat.le_refl _) hjn,fun i _=>rfl⟩ (by(try dsimp only);exact Ze) (fun w' hw=>by(try dsimp only);exact(hw.nilOwn zag 1 3).sel Zl) ?_
   rintro⟨k,⟨A2,c2⟩,rl,N⟩ ⟨hk,hrl,hNl,hNj,hNi⟩
   dsimp only at hk hrl hNl hNj hNi ⊢
   obtain⟨v,hv⟩:∃v,v=vz j:=⟨_,rfl⟩
   rw[←hv] at hNj
   have hjN:j<N.length:=by omega
   have hj:=hjN
   obtain⟨fr,hfr⟩:∃x,x=if v=0 then(-1:Int) else(clK cs (zct cs v).toNat).from_:=⟨_,rfl⟩
   obtain⟨wr,hwr⟩:∃x,x=zct cs v:=⟨_,rfl⟩
   obtain⟨Z0,hZ0⟩:∃x,x=begZ cs v:=⟨_,rfl⟩
   have hck0:∀k h,cluK cs v k h=⟨v,wr,fr,h,v,(zaT cs v Z0 k).zf,(zaT cs v Z0 k).zl,false,(zaT cs v Z0 k).some_⟩:=fun k h=>by rw[hwr,hfr,hZ0];rfl
   rw[hck0] at hNj
   by_cases hkl:k<cs.length
   ·obtain⟨b,o,rfl,_⟩:=RdE.open hA Zo
    have hck:=zay hkl
    have hz1:zaT cs v Z0 (k+1)=zh7 cs v (zaT cs v Z0 k) k:=rfl
    have hr1:isRd cs v k=(decide (cs[k].kind=2)&&(decide (cs[k].to≠-1)&&decide (cs[k].res=v))):=by unfold isRd;rw[hck]
    have hk1:=hck0 (k+1)
    clear hck0
    by_cases hrd:cs[k].kind=2∧cs[k].to≠-1∧cs[k].res=v
    ·obtain⟨q1,q2,q3⟩:=hrd
     unfold zh7 at hz1
     rw[hr1,decide_eq_true q1,decide_eq_true q2,decide_eq_true q3,if_pos (show(true&&(true&&true))=true from rfl),hck] at hz1
     rw[hz1] at hk1
     generalize zaT cs v Z0 k=Z at *
     obtain⟨zf,zl,zs⟩:=Z
     dsimp only at hNj hk1
     have hpj:N[j]=_:=Option.some.inj ((List.getElem?_eq_getElem hj).symm.trans hNj)
     have hpj1:=hNj
     repeat' (first|refine Q0Zn7 ?_|((with_reducible (first|apply zaa|apply TD_e3z|apply zan|apply zaf|apply zae));exact zb9;exact Zh;(first|rintro _ _ ⟨rfl,rfl⟩|rintro _ _ ⟨g,rfl,rfl⟩|rintro _ _ ⟨A',c',rfl,rfl⟩);(try refine⟨SUB,?_⟩))|refine Zha ?_|(refine Zhb ?_;intro g)|(refine Zg ?_ ?_<;>(intro h;try exact Zx))|refine GOF ?_ ?_|(refine zho ?_)|((with_reducible (first|apply zaa|apply TD_e3z|apply zan|apply zaf|apply zae));((with_reducible apply zaw (enc:=zag) (xx:=(k:Int)));exact rfl;exact rfl;exact Zm;exact rfl;exact fun _=>rfl;exact fun _=>rfl;(intro A' c';exact Zu);(omega);decide;exact rfl);exact Zh;(rintro _ _ ⟨A',c',rfl,rfl⟩);(try refine⟨SUB,?_⟩))|fail)
     all_goals
      apply zab (k+1,(A',c'),rl++[(k:Int)],N.set j ⟨v,wr,fr,⟨A',(rl++[(k:Int)]).length,c'⟩,v,min zf cs[k].to,max zl cs[k].from_,false,true⟩)
      case hE=>(try dsimp only);exact Ze
      case hS=>(try dsimp only);exact fun w' hw=>by(simp only[List.set_set] at hw;exact hw.sel Zl)
      case hμ=>(try dsimp only);omega
      case hp =>
       refine⟨by(try dsimp only);omega,by(try dsimp only);rw[List.length_append];simpa using hrl,by(try dsimp only);rw[List.length_set];exact hNl,?_,fun i hi=>?_⟩
       ·(try dsimp only)
        rw[←hv,hk1]
        exact List.getElem?_set_self hj
       ·(try dsimp only)
        rw[List.getElem?_set_ne (fun e=>hi e.symm)]
        exact hNi i hi
    ·unfold zh7 at hz1
     rw[hr1,if_neg (fun e=>hrd (by simpa only[Bool.and_eq_true,decide_eq_true_eq] using e))] at hz1
     rw[hz1] at hk1
     generalize zaT cs v Z0 k=Z at *
     obtain⟨zf,zl,zs⟩:=Z
     dsimp only at hNj hk1
     have hpj:N[j]=_:=Option.some.inj ((List.getElem?_eq_getElem hj).symm.trans hNj)
     have hpj1:=hNj
     have hne:cs[k].kind=2→cs[k].to≠-1→¬cs[k].res=v:=fun a b e=>hrd ⟨a,b,e⟩
     repeat' (first|refine Q0Zn7 ?_|((with_reducible (first|apply zaa|apply TD_e3z|apply zan|apply zaf|apply zae));exact zb9;exact Zh;(first|rintro _ _ ⟨rfl,rfl⟩|rintro _ _ ⟨g,rfl,rfl⟩|rintro _ _ ⟨A',c',rfl,rfl⟩);(try refine⟨SUB,?_⟩))|refine Zha ?_|(refine Zhb ?_;intro g)|(refine Zg ?_ ?_<;>(intro h;try exact Zx))|refine GOF ?_ ?_|(refine zho ?_)|fail)
     all_goals first
      |(exfalso;exact hne (by assumption) (by assumption) (by assumption))
      |(apply zab (k+1,(A2,c2),rl,N)
        case hE=>(try dsimp only);exact Ze
        case hS=>(try dsimp only);exact fun w' hw=>hw.sel Zl
        case hμ=>(try dsimp only);omega
        case hp=>exact⟨by(try dsimp only);omega,by(try dsimp only);omega,hNl,by(try dsimp only);rw[←hv,hk1];exact hNj,hNi⟩)
   ·obtain rfl:k=cs.length:=by omega
    have hk1:=hck0 cs.length
    have hce:∀h,cluE cs v h=⟨v,wr,fr,h,v,(zaT cs v Z0 cs.length).zf,(zaT cs v Z0 cs.length).zl,decide ((zaT cs v Z0 cs.length).zf<(zaT cs v Z0 cs.length).zl),(zaT cs v Z0 cs.length).some_⟩:=fun h=>by
     unfold cluE endZ
     rw[hk1,←hZ0]
    clear hck0 hk1
    generalize zaT cs v Z0 cs.length=Z at *
    obtain⟨zf,zl,zs⟩:=Z
    dsimp only at hNj hce
    have hpj:N[j]=_:=Option.some.inj ((List.getElem?_eq_getElem hj).symm.trans hNj)
    have hpj1:=hNj
    repeat' (first|refine Q0Zn7 ?_|((with_reducible (first|apply zaa|apply TD_e3z|apply zan|apply zaf|apply zae));exact zb9;exact Zh;(first|rintro _ _ ⟨rfl,rfl⟩|rintro _ _ ⟨g,rfl,rfl⟩|rintro _ _ ⟨A',c',rfl,rfl⟩);(try refine⟨SUB,?_⟩))|refine Zha ?_|(refine Zhb ?_;intro g)|(refine Zg ?_ ?_<;>(intro h;try exact Zx))|refine GOF ?_ ?_|(refine zho ?_)|fail)
    all_goals
     apply zab (j+1,N.set j ⟨v,wr,fr,⟨A2,rl.length,c2⟩,v,zf,zl,decide (zf<zl),zs⟩)
     case hE=>(try dsimp only);exact Ze
     case hS=>(try dsimp only);exact fun w' hw=>hw.sel Zl
     case hμ=>(try dsimp only);omega
     case hp =>
      refine⟨by(try dsimp only);omega,by(try dsimp only);rw[List.length_set];exact hNl,fun i h1 h2=>?_,fun i h1=>?_⟩
      ·(try dsimp only at h1 ⊢)
       rw[List.getElem?_set_ne Zo,hNi i Zo]
       exact hM1 i Zo h2
      ·(try dsimp only at h1 ⊢)
       rcases Nat.lt_succ_iff_lt_or_eq.1 h1 with h3|rfl
       ·rw[List.getElem?_set_ne Zo,hNi i Zo]
        exact hM2 i h3
       ·refine⟨⟨A2,rl.length,c2⟩,?_⟩
        rw[←hv,hce]
        exact List.getElem?_set_self hj
  ·obtain rfl:j=n:=by omega
   have hfin:=fun x:CluTo M=>clu_fin hok (M:=M) (by rw[hMl];exact hn0) (fun i hi=>by have:=hM2 i Zo;rw[hvz] at this;exact this) x
   have hsrt:∀w,Own Clu.enc 9 206 w 0 (.slice (some ⟨gM,0,none⟩) M.length c1) M→Calls Tryz.prog 147 #[.slice (some ⟨gM,0,none⟩) j c1,.func (.func 148) #[] #[]] w fun e w'=>∃x:CluTo M,e=.returned (.tuple #[])∧Mem ⟨0,zbb [zac Clu.enc 9 206 (some ⟨gM,0,none⟩) c1 M],w⟩ w' [zac Clu.enc 9 206 (some ⟨gM,0,none⟩) c1 x.1]:=fun w h=>by rw[←hMl];exact clu_sort _ c1 M w h Zo
   have hxl:∀x:CluTo M,x.1.length=j:=fun x=>by rw[x.2.1.length_eq,hMl]
   clear hM1 hM2 hvz
   repeat' (first|refine Q0Zn7 ?_|((with_reducible (first|apply zaa|apply TD_e3z|apply zan|apply zaf|apply zae));exact zb9;exact Zh;(first|rintro _ _ ⟨rfl,rfl⟩|rintro _ _ ⟨g,rfl,rfl⟩|rintro _ _ ⟨A',c',rfl,rfl⟩);(try refine⟨SUB,?_⟩))|refine Zga ?_|(refine Zgb ?_;intro g)|(refine Zg ?_ ?_<;>(intro h;try exact Zx))|((with_reducible (first|apply zaa|apply TD_e3z|apply zan|apply zaf|apply zae));((with_reducible apply zar (f:=147) (X:=CluTo M) (S1:=[zac Clu.enc 9 206 (some ⟨gM,0,none⟩) c1 M]) (fun _=>.tuple #[]) (fun x=>[zac Clu.enc 9 206 (some ⟨gM,0,none⟩) c1 x.1]));exact rfl;exact Zp;(intro x;(try dsimp only);exact Za);(intro w hw;exact hsrt w (hw.theOwn Zm));exact rfl);exact Zh;(rintro _ _ ⟨x,rfl,rfl⟩);(try refine⟨SUB,?_⟩))|fail)
   (refine zah Tryz.results111 rfl (fun w' hw=>?_))
   exact⟨(some ⟨gM,0,none⟩,c1,⟨x.1,hfin x⟩),by(try dsimp only);rw[hxl x];rfl,(hw.anyN 0).sel Zl⟩
end
end
end Go.Proofs.YtjdckepbihcgfaaGreatDoor
