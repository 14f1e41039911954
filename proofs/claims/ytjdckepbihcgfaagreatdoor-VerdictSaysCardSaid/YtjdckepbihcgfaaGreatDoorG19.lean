/- Lemmas for the walks (SeaA). No condition. -/
import Derived.Test.YtjdckepbihcgfaaGreatDoorG18
set_option linter.unusedSimpArgs false
set_option linter.unusedVariables false
set_option linter.unusedSectionVars false
set_option linter.unnecessarySimpa false
set_option maxRecDepth 100000
set_option maxHeartbeats 8000000
namespace Go.Proofs.YtjdckepbihcgfaaGreatDoor
section
open Go.RowKit
theorem zcS{p R:Prop}(r:R)(h:Rest R→p:=by intro r;(first|with_reducible (first|apply zcE|apply za9|apply zba|apply zbd|apply zbe)|((with_reducible (first|apply zaN|apply zaO));exact rfl;exact rfl;(with_reducible exact rfl)));(first|exact QS.auto|((with_reducible apply QS_neqNil);exact rfl;exact rfl));exact rfl;exact r.out):p:=h ⟨r⟩
section
variable {C:Ctx}{w:World}{S S':List Ent}{α:Type}{enc:α→List Value}{M et c:Nat}{A:Option Addr}{ls:List α} 
theorem Mem.ownToRdU(hu:Upd S (zac enc M et A c ls) (zb4 enc M A ls) S')(hM:∀x,(enc x).length=M)(hw:Mem C w S):Mem C w S':=by
 have h1:=hw.ownRd hu.mem hM
 refine hw.upd hu (Keeps.refl [] w) Zj (fun g hg=>?_) h1
 have hg':(zac enc M et A c ls).has g:=by
  show(Value.slice A ls.length c).ownBlock=some g
  have hg2:A.map (·.block)=some g:=hg
  cases A with
  |none=>cases hg2
  |some a=>exact hg2
 exact⟨((hw.holds _ hu.mem).2 g hg').1,.inl hg'⟩
end
section
variable {C:Ctx}{S:List Ent}{α:Type}{enc:α→List Value}{M et c:Nat}{A:Option Addr}{ls:List α} 
theorem Lies.ownS(hm:zac enc M et A c ls∈S)(hA:A=Option.none→c=0∧ls=[])(hM:∀x,(enc x).length=M):Lies C S (.slice A ls.length c) ls.length (ls.flatMap enc):=by
 cases A with
 |none =>
  obtain⟨rfl,rfl⟩:=hA rfl
  exact .inl ⟨rfl,rfl,rfl⟩
 |some ad =>
  refine .inr ⟨ad,c,rfl,fun w hw j u hu=>?_⟩
  have h:Own enc M et w 0 (.slice (some ad) ls.length c) ls:=(hw.holds _ hm).1
  rcases h.2 with⟨hv,_⟩|⟨g,cap,cur,hv,_,hg,hn,hcm,hcs,htk⟩
  ·simp at hv
  ·simp only[Value.slice.injEq,Option.some.injEq] at hv
   obtain⟨rfl,-,rfl⟩:=hv
   rw[zds,Nat.zero_add]
   have hj:j<ls.length * M:=by
    have:=(List.getElem?_eq_some_iff.1 hu).1
    rwa [zbo hM] at this
   simp only[World.cell?,hg]
   rw[←htk,List.getElem?_take,if_pos hj] at hu
   simpa using hu
end
def outV(o:Option (List Stp))(x:Addr×Nat):Value:=match o with
 |some r=>.slice (some x.1) r.length x.2
 |none=>.slice none 0 0
def outS(o:Option (List Stp))(x:Addr×Nat):List Ent:=match o with
 |some r=>[zac Stp.enc 2 49 (some x.1) x.2 r]
 |none=>[]
theorem any_mask{ts:List Int}{cs:List Cl}{w:List Stp}(h:PathW ts cs w)(i:Nat):(w.any fun s=>decide (s.call=(i:Int)))=(zaH w).testBit i:=by
 rw[zgw,Bool.eq_iff_iff,List.any_eq_true,List.any_eq_true]
 constructor
 ·rintro⟨s,hs,e⟩
  exact⟨s,hs,by simp at e ⊢;omega⟩
 ·rintro⟨s,hs,e⟩
  have:=(h.calls s hs).1
  exact⟨s,hs,by simp at e ⊢;omega⟩
def sOf(ts:List Int)(cs:List Cl)(w:List Stp)(t q:Nat):List Int:=zdC (ts.getD t 0) (zfi (ts.getD t 0)) (zbA cs (w.take q) t)
theorem sOf_yes{ts:List Int}{cs:List Cl}{w:List Stp}{t q:Nat}(hq:q<w.length)(h:(zaz cs w[q].call.toNat).thing=t):
  sOf ts cs w t (q+1)=(zaB (ts.getD t 0) (sOf ts cs w t q) (zaz cs w[q].call.toNat).kind (zaz cs w[q].call.toNat).arg).1:=by
 unfold sOf
 rw[←dosOf_yes hq h,afterP_snoc];rfl
theorem sOf_no{ts:List Int}{cs:List Cl}{w:List Stp}{t q:Nat}(hq:q<w.length)(h:¬(zaz cs w[q].call.toNat).thing=t):sOf ts cs w t (q+1)=sOf ts cs w t q:=by
 unfold sOf
 rw[←dosOf_no hq h]
theorem sOf_ok{ts:List Int}{cs:List Cl}{f:Nat→Nat}{w:List Stp}(hts:zaG ts=true)(h:GoodW ts cs f w){t:Nat}(ht:t<ts.length)(q:Nat):zeV (ts.getD t 0) (sOf ts cs w t q)=0:=by
 have h1:=List.all_eq_true.1 h.plays t (List.mem_range.2 ht)
 unfold zfW at h1
 rw[decide_eq_true_eq] at h1
 have h0:zeV (ts.getD t 0) (zfi (ts.getD t 0))=0:=by
  have:=(zfj (cs:=cs) hts).sts.2 t ht
  rwa [show(zav ts cs []).getD t []=zfi (ts.getD t 0) by simp[zav,List.getD_eq_getElem?_getD,ht]] at this
 have h2:=play_take (zbA cs (w.take q) t).length h1 h0
 have e:zbA cs w t=zbA cs (w.take q) t++zbA cs (w.drop q) t:=by
  unfold zbA
  rw[←List.map_append,←List.filter_append,List.take_append_drop]
 rw[e,List.take_left'] at h2
 ·exact h2
 ·rfl
theorem sOf_all{ts:List Int}{cs:List Cl}{w:List Stp}(hn:zin cs w){t:Nat}(ht:t<ts.length):sOf ts cs w t w.length=(zav ts cs w).getD t []:=by
 rw[states_at hn ht];unfold sOf;rw[List.take_length]
def tryR(ts:List Int)(cs:List Cl)(f:Nat→Nat)(k:Nat)(w:List Stp)(i:Nat):Option (List Stp):=tryS (canR ts cs f) (zbm ts cs) (zeA cs) cs.length k w i
section
variable {ts:List Int}{cs:List Cl}{f:Nat→Nat} 
theorem tryR_no{k:Nat}{w:List Stp}{i:Nat}(h:¬canR ts cs f w i=true):tryR ts cs f k w i=none:=by
 unfold tryR tryS;rw[if_neg h]
theorem tryR_yes{k:Nat}{w:List Stp}{i:Nat}(h:canR ts cs f w i=true):tryR ts cs f (k+1) w i=zhf ts cs f k (zbm ts cs w i):=by
 unfold tryR tryS;rw[if_pos h];rfl
end
section
variable (T B:Option Addr)(tc d:Nat)(ts:List Int)(cs:List Cl)(n:Int)(f:Nat→Nat) 
def LeastOk(k:Nat):Prop:=∀(w:List Stp) (A:Option Addr) (c:Nat) (W:World) (n0:Nat),GoodW ts cs f w→zgv cs.length (zaH w)=k→RdInt W T ts→zh2 W B cs→(A=none→w≠[]) →
 Away T (zbb [zac Stp.enc 2 49 A c w])→(0<cs.length→Away B (zbb [zac Stp.enc 2 49 A c w]))→Mem ⟨n0,zbb [zac Stp.enc 2 49 A c w],W⟩ W [zac Stp.enc 2 49 A c w] →
 Calls Tryz.prog 34 #[.slice T ts.length tc,.slice B cs.length d,.agg (zat n f),.slice A w.length c] W fun e W'=>∃x:Addr×Nat,
  e=.returned (outV (zhf ts cs f k w) x)∧Mem ⟨0,zbb [zac Stp.enc 2 49 A c w],W⟩ W' (outS (zhf ts cs f k w) x)
variable (hts:zaG ts=true)(hcs:CallsOk ts cs)(h9:cs.length≤9)(hR:zeB cs f) 
include hts hcs h9 hR
theorem least_step(k:Nat)(hrec:∀k',k=k'+1→LeastOk T B tc d ts cs n f k'):LeastOk T B tc d ts cs n f k:=by
 intro w A c W n0 hg hk hT hB hne haT haB hm
 have hp:=hg.path
 obtain⟨F,hF⟩:∃F,F=zbb [zac Stp.enc 2 49 A c w]:=⟨_,rfl⟩
 rw[←hF] at haT haB hm ⊢
 obtain⟨ad,rfl⟩:∃ad,A=some ad:=by
  cases A with
  |some ad=>exact⟨ad,rfl⟩
  |none=>exact absurd rfl (hm.ownSome (enc:=Stp.enc) Zm (List.length_pos_iff.2 (hne rfl)))
 have ht4:1≤ts.length∧ts.length≤4:=by
  unfold zaG at hts
  rw[Bool.and_eq_true,decide_eq_true_eq] at hts
  exact hts.1
 have hw9:w.length≤9:=by have:=hp.len;omega
 have hbT:∀b o,T=some ⟨b,o,none⟩→b<W.heap.size:=fun b o e=>by
  obtain⟨b',o',e',hb'⟩:=RdE.open hT Zo
  rw[e] at e';cases e';exact hb'
 have hbB:0<cs.length→∀b o,B=some ⟨b,o,none⟩→b<W.heap.size:=fun h0 b o e=>by
  obtain⟨b',o',e',hb'⟩:=RdE.open hB h0
  rw[e] at e';cases e';exact hb'
 have hrT:∀(C:Ctx) (S:List Ent) (W':World),C.F=F→C.w0=W→Mem C W' S→RdInt W' T ts:=fun C S W' e1 e2 hw=>by
  subst e2
  exact hw.rdAwayF hT (fun b o e=>by rw[e1];exact haT b o e)
 have hrB:∀(C:Ctx) (S:List Ent) (W':World),C.F=F→C.w0=W→Mem C W' S→zh2 W' B cs:=fun C S W' e1 e2 hw=>by
  subst e2
  rcases Nat.eq_zero_or_pos cs.length with h0|h0
  ·rw[List.length_eq_zero_iff.1 h0];exact RdE.nil _
  ·exact hw.rdAwayF hB (fun b o e=>by rw[e1];exact haB h0 b o e)
 have hawT:∀(C:Ctx) (S R:List Ent) (W':World),C.F=F→C.w0=W→Mem C W' (S++R)→Away T (zbb S):=fun C S R W' e1 e2 hw b o e=>by
  subst e2
  exact hw.newBlkF (by rw[e1];exact haT b o e) (hbT b o e)
 have hawB:∀(C:Ctx) (S R:List Ent) (W':World),C.F=F→C.w0=W→Mem C W' (S++R)→0<cs.length→Away B (zbb S):=fun C S R W' e1 e2 hw h0 b o e=>by
  subst e2
  exact hw.newBlkF (by rw[e1];exact haB h0 b o e) (hbB h0 b o e)
 have hro:=fun(W':World) (h1:RdInt W' T ts) (h2:zh2 W' B cs) (h3:RdStp W' (some ad) w)=>rightOrder_any T B (some ad) tc d c ts cs n f w W' hts hcs h9 h1 h2 h3 Zo
 rw[good_right hR hg] at hro
 refine zaj F Tryz.func34 rfl Tryz.ntmps34 Zj (hm.anyN _) ?_
 cases hcm:zeA cs w with
 |true =>
  rw[hcm] at hro
  have hsr:zhf ts cs f k w=some w:=srch_comp _ _ _ _ hcm
  rw[hsr]
  repeat' (first|refine zcS ?_|refine Zga ?_|(refine Zgb ?_;intro g)|(refine Zg ?_ ?_<;>(intro h;try exact Zx))|((with_reducible (first|apply zaa|apply TD_e3z|apply zan|apply zaf|apply zae));((with_reducible apply zad (f:=75));exact rfl;(intro w hw;exact hro w (hrT _ _ _ rfl rfl hw) (hrB _ _ _ rfl rfl hw) (hw.ownRd Zm (fun _=>rfl)));exact rfl);exact Zh;(rintro _ _ ⟨rfl,rfl⟩);(try refine⟨SUB,?_⟩))|fail)
  (refine zah Tryz.results34 rfl (fun w' hw=>?_))
  exact⟨(ad,c),rfl,(hw.anyN 0).sub Zt⟩
 |false =>
  rw[hcm] at hro
  have hnc:¬zeA cs w=true:=by rw[hcm];simp
  repeat' (first|refine zcS ?_|refine Zga ?_|(refine Zgb ?_;intro g)|(refine Zg ?_ ?_<;>(intro h;try exact Zx))|((with_reducible (first|apply zaa|apply TD_e3z|apply zan|apply zaf|apply zae));((with_reducible apply zad (f:=75));exact rfl;(intro w hw;exact hro w (hrT _ _ _ rfl rfl hw) (hrB _ _ _ rfl rfl hw) (hw.ownRd Zm (fun _=>rfl)));exact rfl);exact Zh;(rintro _ _ ⟨rfl,rfl⟩);(try refine⟨SUB,?_⟩))|fail)
  obtain⟨g6,rfl⟩:∃x,x=g:=⟨_,rfl⟩
  refine zap (X:=Nat) (fun i=>[(29,.int .i64 (i:Nat)),(28,.int .i64 cs.length),(27,.slice B cs.length d),(6,.pointer (some ⟨g6,0,none⟩)),(3,.slice (some ad) w.length c),(1,.slice B cs.length d),(0,.slice T ts.length tc)])
   (fun _=>[zak g6 43 (zat n f),zac Stp.enc 2 49 (some ad) c w]) (fun i=>i≤cs.length∧∀j,j<i→tryR ts cs f k w j=none) (fun i=>cs.length-i) 0 ⟨by omega,fun i hi=>by omega⟩ Ze (by exact zaK) ?_
  rintro i ⟨hi,hno⟩
  by_cases hil:i<cs.length
  ·have hcall:=zb7 hil
   have hth:=hcs i hil
   rw[hcall] at hth
   have hth0:=hth.1
   have hjt:cs[i].thing.toNat<ts.length:=by omega
   obtain⟨bT,oT,rfl,hbT'⟩:=RdE.open hT Zo
   obtain⟨bB,oB,rfl,hbB'⟩:=RdE.open hB Zo
   have hTF:bT∉F:=haT _ _ rfl
   have hBF:bB∉F:=haB Zo _ _ rfl
   have hmask:=any_mask hp i
   have hhas1:=fun(C:Ctx) (S:List Ent) (W':World) (hw:Mem C W' S) {g9:Nat} (h1:zak g9 3 #[.int .i64 (i:Nat)]∈S) (h2:zac Stp.enc 2 49 (some ad) c w∈S) =>
    hasStp_any 77 (fun s=>decide (s.call=(i:Int))) (.pointer (some ⟨g9,0,none⟩)) (some ad) c w W' (hw.ownRd h2 (fun _=>rfl)) Zo
     (fun s w2 hb=>isCall1_any (i:Int) s g9 w2 (by have:=(hw.blkAt h1).1;have:=hb.size;omega) (by
      have hbk:Blk W' g9 3 #[.int .i64 (i:Nat)]:=(hw.holds _ h1).1
      exact(hbk.carry hb).cell 0))
   rw[hmask] at hhas1
   have hbg:=fun w=>begin_any ts[cs[i].thing.toNat] w
   have htt:cs[i].thing=((cs[i].thing.toNat:Nat):Int):=by omega
   have hgd:ts.getD cs[i].thing.toNat 0=ts[cs[i].thing.toNat]:=by simp[List.getD_eq_getElem?_getD,hjt]
   have hck:=sOf_ok hts hg hjt
   have hs0:zfi ts[cs[i].thing.toNat]=sOf ts cs w cs[i].thing.toNat 0:=by unfold sOf;rw[hgd];rfl
   rw[hs0] at hbg
   rw[hgd] at hck
   have hsy:=fun q (hq:q<w.length)=>sOf_yes (ts:=ts) (cs:=cs) (t:=cs[i].thing.toNat) hq
   have hsn:=fun q (hq:q<w.length)=>sOf_no (ts:=ts) (cs:=cs) (t:=cs[i].thing.toNat) hq
   have hsl:=sOf_all (path_nn hcs hp) hjt
   have hsti:za6 ts cs (zav ts cs w) i=zaB ts[cs[i].thing.toNat] (sOf ts cs w cs[i].thing.toNat w.length) cs[i].kind cs[i].arg:=by
    unfold za6 zh5
    rw[hcall,hsl,hgd]
   rw[hgd] at hsy
   have hfi:=step_fit hcs hil
   rw[hcall,zh5,hgd] at hfi
   repeat' (first|refine zcS ?_|refine Zga ?_|(refine Zgb ?_;intro g)|(refine Zg ?_ ?_<;>(intro h;try exact Zx))|fail)
   rename_i g9
   obtain⟨g10,rfl⟩:∃x,x=g:=⟨_,rfl⟩
   repeat' (first|refine zcS ?_|refine Zga ?_|(refine Zgb ?_;intro g)|(refine Zg ?_ ?_<;>(intro h;try exact Zx))|((with_reducible (first|apply zaa|apply TD_e3z|apply zan|apply zaf|apply zae));((with_reducible apply zad (f:=76) (v:=.bool ((zaH w).testBit i)));exact rfl;(intro w' hw;exact hhas1 _ _ w' hw Zm Zm);exact rfl);exact Zh;(rintro _ _ ⟨rfl,rfl⟩);(try refine⟨SUB,?_⟩))|fail)
   ·refine zab (i+1) ⟨hil,fun j hj=>?_⟩ Zo Ze (by exact zaK)
    by_cases e:j=i
    ·subst e
     have hb1:(zaH w).testBit j=true:=by assumption
     exact tryR_no (fun h=>by have:=(zfk.1 h).1;rw[hb1] at this;cases this)
    ·exact hno j Zo
   have hbit:(zaH w).testBit i=false:=by assumption
   repeat' (first|refine zcS ?_|refine Zga ?_|(refine Zgb ?_;intro g)|(refine Zg ?_ ?_<;>(intro h;try exact Zx))|((with_reducible (first|apply zaa|apply TD_e3z|apply zan|apply zaf|apply zae));((with_reducible apply zal (f:=78));exact rfl;(intro w hw;exact hbg w);exact rfl);exact Zh;(rintro _ _ ⟨A0,c0,rfl,rfl⟩);(try refine⟨SUB,?_⟩))|fail)
   refine ziW (p:=(sOf ts cs w cs[i].thing.toNat 0).length≤c0∧(A0=none→c0=0)) (fun w' hw=>hw.ownFacts (enc:=zag) (M:=1) (et:=3) Zm) fun hf0=>?_
   refine zap (X:=Nat×Option Addr×Nat) (fun x=>[(45,.int .i64 (x.1:Nat)),(44,.int .i64 w.length),(43,.slice (some ad) w.length c),(11,.slice x.2.1 (sOf ts cs w cs[i].thing.toNat x.1).length x.2.2),(10,.pointer (some ⟨g10,0,none⟩)),(9,.pointer (some ⟨g9,0,none⟩)),
     (29,.int .i64 (i:Nat)),(28,.int .i64 cs.length),(27,.slice (some ⟨bB,oB,none⟩) cs.length d),(6,.pointer (some ⟨g6,0,none⟩)),(3,.slice (some ad) w.length c),(1,.slice (some ⟨bB,oB,none⟩) cs.length d),(0,.slice (some ⟨bT,oT,none⟩) ts.length tc)])
    (fun x=>[zb4 zag 1 x.2.1 (sOf ts cs w cs[i].thing.toNat x.1),zak g10 36 cs[i].enc.toArray,zak g9 3 #[.int .i64 (i:Nat)],zak g6 43 (zat n f),zac Stp.enc 2 49 (some ad) c w])
    (fun x=>x.1≤w.length∧(sOf ts cs w cs[i].thing.toNat x.1).length≤x.2.2∧(x.2.1=none→x.2.2=0)) (fun x=>w.length-x.1) (0,A0,c0) ⟨by(try dsimp only);omega,hf0.1,hf0.2⟩ Ze (fun w' hw=>(Mem.ownToRdU (enc:=zag) (M:=1) (et:=3) Zu (fun _=>rfl) hw)) ?_
   rintro⟨q,A1,c1⟩ ⟨hq,hsc,hsn1⟩
   dsimp only at hq hsc hsn1 ⊢
   by_cases hql:q<w.length
   ·refine zb1 (ls:=w) Zm Zo ?_
    rintro gw e
    obtain rfl:=Option.some.inj e
    have hpc:=hp.calls w[q] (List.getElem_mem hql)
    have hz0:=hpc.1
    have hzn:=hpc.2
    have hcq:=zb7 hzn
    have hthq:=hcs _ hzn
    rw[hcq] at hthq
    have hyes:=hsy q hql
    have hnoq:=hsn q hql
    rw[hcq] at hyes hnoq
    have hfq:=step_fit hcs hzn
    rw[hcq] at hfq
    by_cases hsame:cs[w[q].call.toNat].thing=((cs[i].thing.toNat:Nat):Int)
    ·have hsame':cs[w[q].call.toNat].thing=cs[i].thing:=by omega
     have hfb:fitB ts[cs[i].thing.toNat] cs[w[q].call.toNat].kind:=by
      rw[hsame,zh5,Int.toNat_natCast,hgd] at hfq;exact hfq
     have hstep:=fun(C:Ctx) (R:List Ent) (w':World) (hw:Mem C w' ([zb4 zag 1 A1 (sOf ts cs w cs[i].thing.toNat q)]++R))=>zfS (a:=cs[w[q].call.toNat].arg) hw hsn1 hsc (hck q) hfb
     have hy:=hyes hsame
     generalize zaB ts[cs[i].thing.toNat] (sOf ts cs w cs[i].thing.toNat q) cs[w[q].call.toNat].kind cs[w[q].call.toNat].arg=R at *
     generalize sOf ts cs w cs[i].thing.toNat q=s at *
     repeat' (first|refine zcS ?_|refine Zga ?_|(refine Zgb ?_;intro g)|(refine Zg ?_ ?_<;>(intro h;try exact Zx))|((with_reducible (first|apply zaa|apply TD_e3z|apply zan|apply zaf|apply zae));((with_reducible apply zar (f:=79) (X:={x:Option Addr×Nat // (x.1=none→x.2=0)∧R.1.length≤x.2}) (S1:=[zb4 zag 1 A1 s]) (fun x=>zdU R x.1) (fun x=>[zb4 zag 1 x.1.1 R.1]));exact rfl;exact Zp;(intro x;(try dsimp only);exact Za);(intro w hw;exact hstep _ _ w hw);exact rfl);exact Zh;(rintro _ _ ⟨⟨⟨A2,c2⟩,hx⟩,rfl,rfl⟩);(try refine⟨SUB,?_⟩))|fail)
     apply zab (q+1,A2,c2)
     case hE=>dsimp only;rw[hy];exact Ze
     case hS=>dsimp only;rw[hy];exact zaK
     case hμ=>(try dsimp only);omega
     case hp=>exact⟨hql,by dsimp only;rw[hy];exact hx.2,hx.1⟩
    ·have hn':¬cs[w[q].call.toNat].thing=cs[i].thing:=by omega
     have hy:=hnoq hsame
     repeat' (first|refine zcS ?_|refine Zga ?_|(refine Zgb ?_;intro g)|(refine Zg ?_ ?_<;>(intro h;try exact Zx))|fail)
     apply zab (q+1,A1,c1)
     case hE=>dsimp only;rw[hy];exact Ze
     case hS=>dsimp only;rw[hy];exact zaK
     case hμ=>(try dsimp only);omega
     case hp=>exact⟨hql,by dsimp only;rw[hy];exact hsc,hsn1⟩
   ·obtain rfl:q=w.length:=by omega
    have hstep:=fun(C:Ctx) (R:List Ent) (w':World) (hw:Mem C w' ([zb4 zag 1 A1 (sOf ts cs w cs[i].thing.toNat w.length)]++R))=>zfS (a:=cs[i].arg) hw hsn1 hsc (hck w.length) hfi
    have hfs:ze2 ts cs (zav ts cs w) i=(decide ((za6 ts cs (zav ts cs w) i).2.2=0)&&(decide (cs[i].to=-1)||decide ((za6 ts cs (zav ts cs w) i).2.1=cs[i].res))):=by unfold ze2;rw[hcall]
    have hnx:zbm ts cs w i=w++[⟨(i:Int),(za6 ts cs (zav ts cs w) i).2.1⟩]:=rfl
    rw[hsti] at hfs hnx
    generalize zaB ts[cs[i].thing.toNat] (sOf ts cs w cs[i].thing.toNat w.length) cs[i].kind cs[i].arg=R at *
    generalize sOf ts cs w cs[i].thing.toNat w.length=s at *
    generalize hfit:ze2 ts cs (zav ts cs w) i=fit at *
    repeat' (first
     |((with_reducible refine T_cutAt (X:=Bool) 16 (fun b=>[(18,.bool b),(16,.int .i64 R.2.1),(10,.pointer (some ⟨g10,0,none⟩)),(9,.pointer (some ⟨g9,0,none⟩)),(29,.int .i64 (i:Nat)),(28,.int .i64 cs.length),(27,.slice (some ⟨bB,oB,none⟩) cs.length d),(6,.pointer (some ⟨g6,0,none⟩)),(3,.slice (some ad) w.length c),(1,.slice (some ⟨bB,oB,none⟩) cs.length d),(0,.slice (some ⟨bT,oT,none⟩) ts.length tc)]) (fun _=>[zak g10 36 cs[i].enc.toArray,zak g9 3 #[.int .i64 (i:Nat)],zak g6 43 (zat n f),zac Stp.enc 2 49 (some ad) c w]) (fun b=>b=fit) ?_ ?_))
     |refine zcS ?_|refine Zga ?_|(refine Zgb ?_;intro g)|(refine Zg ?_ ?_<;>(intro h;try exact Zx))|((with_reducible (first|apply zaa|apply TD_e3z|apply zan|apply zaf|apply zae));((with_reducible apply zar (f:=79) (X:={x:Option Addr×Nat // (x.1=none→x.2=0)∧R.1.length≤x.2}) (S1:=[zb4 zag 1 A1 s]) (fun x=>zdU R x.1) (fun x=>[zb4 zag 1 x.1.1 R.1]));exact rfl;exact Zp;(intro x;(try dsimp only);exact Za);(intro w hw;exact hstep _ _ w hw);exact rfl);exact Zh;(rintro _ _ ⟨⟨⟨A2,c2⟩,hx⟩,rfl,rfl⟩);(try refine⟨SUB,?_⟩))|fail)
    ·exact zhI true (by
      have h1:R.2.2=0:=by assumption
      have h2:cs[i].to=-1:=by assumption
      rw[hfs];simp[h1,h2]) Ze (by exact zaK)
    ·exact zhI (decide (R.2.1=cs[i].res)) (by
      have h1:R.2.2=0:=by assumption
      have h2:¬cs[i].to=-1:=by assumption
      rw[hfs];simp[h1,h2]) Ze (by exact zaK)
    ·exact zhI false (by
      have h1:¬R.2.2=0:=by assumption
      rw[hfs];simp[h1]) Ze (by exact zaK)
    rintro b rfl
    repeat' (first|refine zcS ?_|refine Zga ?_|(refine Zgb ?_;intro g)|(refine Zg ?_ ?_<;>(intro h;try exact Zx))|fail)
    refine zap (X:=Nat×Bool) (fun x=>[(95,.int .i64 (x.1:Nat)),(94,.int .i64 cs.length),(18,.bool x.2),(16,.int .i64 R.2.1),(10,.pointer (some ⟨g10,0,none⟩)),(9,.pointer (some ⟨g9,0,none⟩)),(29,.int .i64 (i:Nat)),(28,.int .i64 cs.length),(27,.slice (some ⟨bB,oB,none⟩) cs.length d),(6,.pointer (some ⟨g6,0,none⟩)),(3,.slice (some ad) w.length c),(1,.slice (some ⟨bB,oB,none⟩) cs.length d),(0,.slice (some ⟨bT,oT,none⟩) ts.length tc)])
     (fun _=>[zak g9 3 #[.int .i64 (i:Nat)],zak g6 43 (zat n f),zac Stp.enc 2 49 (some ad) c w]) (fun x=>x.1≤cs.length∧(x.2=true↔b=true∧∀a,a<x.1→(f a).testBit i=true→(zaH w).testBit a=true)) (fun x=>cs.length-x.1) (0,b) ⟨by(try dsimp only);omega,by simp⟩ Ze (by exact zaK) ?_
    rintro⟨j,b2⟩ ⟨hj,hb2⟩
    dsimp only at hj hb2 ⊢
    by_cases hjl:j<cs.length
    ·have hmaskj:=any_mask hp j
     have hhas2:=fun(C:Ctx) (S:List Ent) (W':World) (hw:Mem C W' S) {g9:Nat} (h1:zak g9 3 #[.int .i64 (j:Nat)]∈S) (h2:zac Stp.enc 2 49 (some ad) c w∈S) =>
      hasStp_any 81 (fun s=>decide (s.call=(j:Int))) (.pointer (some ⟨g9,0,none⟩)) (some ad) c w W' (hw.ownRd h2 (fun _=>rfl)) Zo
       (fun s w2 hb=>isCall2_any (j:Int) s g9 w2 (by have:=(hw.blkAt h1).1;have:=hb.size;omega) (by
        have hbk:Blk W' g9 3 #[.int .i64 (j:Nat)]:=(hw.holds _ h1).1
        exact(hbk.carry hb).cell 0))
     rw[hmaskj] at hhas2
     have hah:=fun w'=>ahead_any n f j i w' Zo Zo
     have hnext:∀b3:Bool,(b3=true↔b2=true∧((f j).testBit i=true→(zaH w).testBit j=true))→(b3=true↔b=true∧∀a,a<j+1→(f a).testBit i=true→(zaH w).testBit a=true):=fun b3 h3=>by
      rw[h3,hb2]
      constructor
      ·rintro⟨⟨h1,h2⟩,h4⟩
       refine⟨h1,fun a ha=>?_⟩
       by_cases e:a=j
       ·subst e;exact h4
       ·exact h2 a Zo
      ·rintro⟨h1,h2⟩
       exact⟨⟨h1,fun a ha=>h2 a Zo⟩,h2 j Zo⟩
     generalize (f j).testBit i=z at *
     cases z with
     |false =>
      repeat' (first|refine zcS ?_|refine Zga ?_|(refine Zgb ?_;intro g)|(refine Zg ?_ ?_<;>(intro h;try exact Zx))|((with_reducible (first|apply zaa|apply TD_e3z|apply zan|apply zaf|apply zae));((with_reducible apply zad (f:=80));exact rfl;(intro w hw;exact hah w);exact rfl);exact Zh;(rintro _ _ ⟨rfl,rfl⟩);(try refine⟨SUB,?_⟩))|fail)
      exact zab (j+1,b2) ⟨hjl,hnext b2 Zj⟩ (by(try dsimp only);omega) Ze (by exact zaK)
     |true =>
      generalize hzj:(zaH w).testBit j=y at *
      cases y with
      |false =>
       repeat' (first|refine zcS ?_|refine Zga ?_|(refine Zgb ?_;intro g)|(refine Zg ?_ ?_<;>(intro h;try exact Zx))|((with_reducible (first|apply zaa|apply TD_e3z|apply zan|apply zaf|apply zae));((with_reducible apply zad (f:=80));exact rfl;(intro w hw;exact hah w);exact rfl);exact Zh;(rintro _ _ ⟨rfl,rfl⟩);(try refine⟨SUB,?_⟩))|((with_reducible (first|apply zaa|apply TD_e3z|apply zan|apply zaf|apply zae));((with_reducible apply zad (f:=76));exact rfl;(intro w' hw;exact hhas2 _ _ w' hw Zm Zm);exact rfl);exact Zh;(rintro _ _ ⟨rfl,rfl⟩);(try refine⟨SUB,?_⟩))|fail)
       exact zab (j+1,false) ⟨hjl,hnext false Zj⟩ (by(try dsimp only);omega) Ze (by exact zaK)
      |true =>
       repeat' (first|refine zcS ?_|refine Zga ?_|(refine Zgb ?_;intro g)|(refine Zg ?_ ?_<;>(intro h;try exact Zx))|((with_reducible (first|apply zaa|apply TD_e3z|apply zan|apply zaf|apply zae));((with_reducible apply zad (f:=80));exact rfl;(intro w hw;exact hah w);exact rfl);exact Zh;(rintro _ _ ⟨rfl,rfl⟩);(try refine⟨SUB,?_⟩))|((with_reducible (first|apply zaa|apply TD_e3z|apply zan|apply zaf|apply zae));((with_reducible apply zad (f:=76));exact rfl;(intro w' hw;exact hhas2 _ _ w' hw Zm Zm);exact rfl);exact Zh;(rintro _ _ ⟨rfl,rfl⟩);(try refine⟨SUB,?_⟩))|fail)
       exact zab (j+1,b2) ⟨hjl,hnext b2 Zj⟩ (by(try dsimp only);omega) Ze (by exact zaK)
    ·obtain rfl:j=cs.length:=by omega
     have hcr:canR ts cs f w i=true↔b2=true:=by
      rw[zfk,hb2,hfit]
      exact⟨fun⟨_,h2,h3⟩=>⟨h2,h3⟩,fun⟨h2,h3⟩=>⟨hbit,h2,h3⟩⟩
     cases b2 with
     |false =>
      repeat' (first|refine zcS ?_|refine Zga ?_|(refine Zgb ?_;intro g)|(refine Zg ?_ ?_<;>(intro h;try exact Zx))|fail)
      refine zab (i+1) ⟨hil,fun a ha=>?_⟩ Zo Ze (by exact zaK)
      by_cases e:a=i
      ·subst e;exact tryR_no (fun h=>by have:=hcr.1 h;cases this)
      ·exact hno a Zo
     |true =>
      have hcan:=hcr.2 rfl
      have hput:=ze1 hil hbit
      obtain⟨k',rfl⟩:∃k',k=k'+1:=⟨k-1,by omega⟩
      have hk':zgv cs.length (zaH (zbm ts cs w i))=k':=by rw[zbK];omega
      have htry:=tryR_yes (ts:=ts) (cs:=cs) (f:=f) (k:=k') hcan
      have hih:=fun(C:Ctx) (R':List Ent) (w':World) (A5:Option Addr) (c5:Nat) (hw:Mem C w' ([zac Stp.enc 2 49 A5 c5 (zbm ts cs w i)]++R')) (e1:C.F=F) (e2:C.w0=W) =>
       hrec k' rfl (zbm ts cs w i) A5 c5 w' 0 (good_next hcs hR hg hil hcan) hk' (hrT C _ w' e1 e2 hw) (hrB C _ w' e1 e2 hw) (fun _ h=>by rw[hnx] at h;simp at h) (hawT C _ R' w' e1 e2 hw) (hawB C _ R' w' e1 e2 hw) (hw.self 0)
      generalize zhf ts cs f k' (zbm ts cs w i)=o at *
      rw[hnx] at hih
      cases o with
      |some r =>
       repeat' (first|refine zcS ?_|refine Zha ?_|(refine Zhb ?_;intro g)|(refine Zg ?_ ?_<;>(intro h;try exact Zx))|refine GOF ?_ ?_|((with_reducible apply zam (id:=24) 1000 (OT.seq [(0,0),(0,1),(0,4),(0,7),(1,2),(1,6),(0,8)] (.fork (OT.seq [(2,3)] (.fork (OT.seq [(2,5),(2,9),(2,10),(2,11),(0,12)] .nil) (OT.seq [(2,9),(2,5),(2,10),(2,11),(0,12)] .nil))) (OT.seq [(2,9),(2,3),(2,5),(2,10),(2,11),(0,12)] .nil))));kernel_rfl;exact rfl;kernel_rfl;exact Zd)|((with_reducible (first|apply zaa|apply TD_e3z|apply zan|apply zaf|apply zae));((with_reducible apply zbv Stp.enc);exact rfl);exact Zh;(rintro _ _ ⟨g,rfl,rfl⟩);(try refine⟨SUB,?_⟩))|((with_reducible (first|apply zaa|apply TD_e3z|apply zan|apply zaf|apply zae));((with_reducible apply zbp (enc:=Stp.enc) (xs:=w) (ls:=[]));exact rfl;exact rfl;exact Lies.ownS (ls:=w) Zm (fun h=>by cases h) (fun _=>rfl);exact fun _=>rfl;exact fun _=>rfl;(intro A' c';exact Zu);(simp;omega);decide;exact rfl);exact Zh;(rintro _ _ ⟨A',c',rfl,rfl⟩);(try refine⟨SUB,?_⟩))|((with_reducible (first|apply zaa|apply TD_e3z|apply zan|apply zaf|apply zae));((with_reducible apply zaw (enc:=Stp.enc) (xx:=(⟨(i:Int),R.2.1⟩:Stp)));exact rfl;exact rfl;exact Zm;exact rfl;exact fun _=>rfl;exact fun _=>rfl;(intro A' c';exact Zu);(simp;omega);decide;exact rfl);exact Zh;(rintro _ _ ⟨A',c',rfl,rfl⟩);(try refine⟨SUB,?_⟩))|((with_reducible (first|apply zaa|apply TD_e3z|apply zan|apply zaf|apply zae));((with_reducible apply zar (f:=34) (X:=Addr×Nat) (S1:=[zac Stp.enc 2 49 A' c' ([]++w++[(⟨(i:Int),R.2.1⟩:Stp)])]) (outV (some r)) (outS (some r)));exact rfl;exact Zp;(intro x;dsimp only[outS];exact Za);(intro w' hw;exact hih _ _ w' A' c' hw rfl rfl);exact rfl);exact Zh;(rintro _ _ ⟨⟨a9,c9⟩,rfl,rfl⟩);(try refine⟨SUB,?_⟩))|fail)
       all_goals
        (refine zah Tryz.results34 rfl (fun w' hw=>?_))
        have hsr:zhf ts cs f (k'+1) w=some r:=srch_some _ _ _ _ hnc hil hno htry
        rw[hsr]
        exact⟨(a9,c9),rfl,(hw.anyN 0).sub Zt⟩
      |none =>
       repeat' (first|refine zcS ?_|refine Zha ?_|(refine Zhb ?_;intro g)|(refine Zg ?_ ?_<;>(intro h;try exact Zx))|refine GOF ?_ ?_|((with_reducible apply zam (id:=24) 1000 (OT.seq [(0,0),(0,1),(0,4),(0,7),(1,2),(1,6),(0,8)] (.fork (OT.seq [(2,3)] (.fork (OT.seq [(2,5),(2,9),(2,10),(2,11),(0,12)] .nil) (OT.seq [(2,9),(2,5),(2,10),(2,11),(0,12)] .nil))) (OT.seq [(2,9),(2,3),(2,5),(2,10),(2,11),(0,12)] .nil))));kernel_rfl;exact rfl;kernel_rfl;exact Zd)|((with_reducible (first|apply zaa|apply TD_e3z|apply zan|apply zaf|apply zae));((with_reducible apply zbv Stp.enc);exact rfl);exact Zh;(rintro _ _ ⟨g,rfl,rfl⟩);(try refine⟨SUB,?_⟩))|((with_reducible (first|apply zaa|apply TD_e3z|apply zan|apply zaf|apply zae));((with_reducible apply zbp (enc:=Stp.enc) (xs:=w) (ls:=[]));exact rfl;exact rfl;exact Lies.ownS (ls:=w) Zm (fun h=>by cases h) (fun _=>rfl);exact fun _=>rfl;exact fun _=>rfl;(intro A' c';exact Zu);(simp;omega);decide;exact rfl);exact Zh;(rintro _ _ ⟨A',c',rfl,rfl⟩);(try refine⟨SUB,?_⟩))|((with_reducible (first|apply zaa|apply TD_e3z|apply zan|apply zaf|apply zae));((with_reducible apply zaw (enc:=Stp.enc) (xx:=(⟨(i:Int),R.2.1⟩:Stp)));exact rfl;exact rfl;exact Zm;exact rfl;exact fun _=>rfl;exact fun _=>rfl;(intro A' c';exact Zu);(simp;omega);decide;exact rfl);exact Zh;(rintro _ _ ⟨A',c',rfl,rfl⟩);(try refine⟨SUB,?_⟩))|((with_reducible (first|apply zaa|apply TD_e3z|apply zan|apply zaf|apply zae));((with_reducible apply zar (f:=34) (X:=Addr×Nat) (S1:=[zac Stp.enc 2 49 A' c' ([]++w++[(⟨(i:Int),R.2.1⟩:Stp)])]) (outV none) (outS none));exact rfl;exact Zp;(intro x;dsimp only[outS];exact Za);(intro w' hw;exact hih _ _ w' A' c' hw rfl rfl);exact rfl);exact Zh;(rintro _ _ ⟨⟨a9,c9⟩,rfl,rfl⟩);(try refine⟨SUB,?_⟩))|fail)
       all_goals
        refine zab (i+1) ⟨hil,fun a ha=>?_⟩ Zo Ze (by exact zaK)
        by_cases e:a=i
        ·subst e;exact htry
        ·exact hno a Zo
  ·obtain rfl:i=cs.length:=by omega
   have hsr:zhf ts cs f k w=none:=srch_none _ _ _ _ hnc hno
   rw[hsr]
   repeat' (first|refine zcS ?_|refine Zga ?_|(refine Zgb ?_;intro g)|(refine Zg ?_ ?_<;>(intro h;try exact Zx))|fail)
   (refine zah Tryz.results34 rfl (fun w' hw=>?_))
   exact⟨(ad,c),rfl,(hw.anyN 0).sub Zt⟩
omit hts hcs h9 hR in
theorem zjy(hts:zaG ts=true)(hcs:CallsOk ts cs)(h9:cs.length≤9)(hR:zeB cs f):∀k,LeastOk T B tc d ts cs n f k
 |0=>least_step T B tc d ts cs n f hts hcs h9 hR 0 (fun k' h=>by omega)
 |k+1=>least_step T B tc d ts cs n f hts hcs h9 hR (k+1) (fun k' h=>by
  obtain rfl:k=k':=by omega
  exact zjy hts hcs h9 hR k)
end
end
end Go.Proofs.YtjdckepbihcgfaaGreatDoor
