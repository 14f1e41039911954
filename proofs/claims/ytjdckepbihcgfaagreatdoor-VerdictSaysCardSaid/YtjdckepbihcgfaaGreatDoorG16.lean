/- Lemmas for the walks (Sea4, Sea5, Sea6, Sea7, Rel, Bits, Ahd). No condition. -/
import Derived.Test.YtjdckepbihcgfaaGreatDoorG15
import Derived.ChangeKeysEq
import Derived.Laws.ShiftsVarLaws
set_option linter.unusedSimpArgs false
set_option linter.unusedVariables false
set_option linter.unusedSectionVars false
set_option linter.unnecessarySimpa false
set_option maxRecDepth 100000
set_option maxHeartbeats 8000000
namespace Go.Proofs.YtjdckepbihcgfaaGreatDoor
section
open Go.RowKit
theorem Q0Sea4{p R:Prop}(r:R)(h:Rest R→p:=by intro r;(first|with_reducible (first|apply zcE|apply za9|apply zba|apply zbd|apply zbe)|((with_reducible (first|apply zaN|apply zaO));exact rfl;exact rfl;(with_reducible exact rfl)));(first|((with_reducible apply za1);exact rfl;exact Lds.own1 (enc:=ziY) Zm (fun _=>rfl) hjl hhead)|((with_reducible apply za1);exact rfl;exact Lds.blk Zm (fin_after hi12))|exact QS.auto|((with_reducible apply QS_lookStr);exact rfl;exact rfl;exact Zm)|((with_reducible apply zcZ (j:=w.length));exact rfl;exact rfl;omega;omega));exact rfl;exact r.out):p:=h ⟨r⟩
structure Fn where
 hA:Option Addr
 hc:Nat
 hs:List Hd
 oA:Option Addr
 oc:Nat
 D:List ByteArray
section
variable (T B:Option Addr)(tc d:Nat)(ts:List Int)(cs:List Cl)(n:Int)(f:Nat→Nat)(gf gm:Nat) 
@[reducible] def zeC (x:Fn) (w:List Stp):List Ent :=
 [zak gf 152 (finC (.slice T ts.length tc) (.slice B cs.length d) n f (.slice x.hA x.hs.length x.hc) (zaH w) (.slice x.oA w.length x.oc) gm),
  zac ziY 1 24 x.hA x.hc x.hs,zaR zag 1 3 x.hs (zav ts cs w),zac Stp.enc 2 49 x.oA x.oc w,zfB gm x.D]
def Away(A:Option Addr)(F:List Nat):Prop:=∀b o,A=some ⟨b,o,none⟩→b∉F
def zjv(k:Nat)(w:List Stp)(x:Fn)(W:World):Prop :=
 Calls Tryz.prog 88 #[.pointer (some ⟨gf,0,none⟩)] W fun e W'=>∃y:{y:Fn // zev ts cs f y.D},
  e=.returned (.bool (zc0 ts cs f k w).isSome)∧Mem ⟨0,zbb (zeC T B tc d ts cs n f gf gm x w),W⟩ W' (zeC T B tc d ts cs n f gf gm y.1 ((zc0 ts cs f k w).getD w))
def tryC(k:Nat)(w:List Stp)(i:Nat):Option (List Stp):=tryS (canC ts cs f) (zbm ts cs) (zeA cs) cs.length k w i
def zjw(k:Nat)(w:List Stp)(i:Nat)(x:Fn)(W:World):Prop :=
 Calls Tryz.prog 135 #[.pointer (some ⟨gf,0,none⟩),.int .i64 (i:Nat)] W fun e W'=>∃y:{y:Fn // zev ts cs f y.D},
  e=.returned (.bool (tryC ts cs f k w i).isSome)∧Mem ⟨0,zbb (zeC T B tc d ts cs n f gf gm x w),W⟩ W' (zeC T B tc d ts cs n f gf gm y.1 ((tryC ts cs f k w i).getD w))
end
section
variable {ts:List Int}{cs:List Cl}{f:Nat→Nat} 
theorem unmask{m i:Nat}(hm:m<65536)(hi:i<16)(hb:m.testBit i=false):(m ||| 2^i) &&& (65535-2^i)=m:=by
 have hp:2^i<2^16:=Nat.pow_lt_pow_right Zi hi
 have e:65535-2^i=2^16-(2^i+1):=by omega
 refine Nat.eq_of_testBit_eq fun j=>?_
 rw[e,Nat.testBit_and,zek,Nat.testBit_two_pow_sub_succ hp,Nat.testBit_two_pow]
 by_cases e2:i=j
 ·subst e2;simp[hb]
 ·by_cases hj:j<16
  ·simp[e2,hj]
  ·have:m.testBit j=false:=Nat.testBit_lt_two_pow (Nat.lt_of_lt_of_le hm (Nat.pow_le_pow_right (n:=2) (i:=16) Zi Zo))
   simp[this,e2]
theorem try_no{k:Nat}{w:List Stp}{i:Nat}(h:¬canC ts cs f w i=true):tryC ts cs f k w i=none:=by
 unfold tryC tryS;rw[if_neg h]
theorem try_yes{k:Nat}{w:List Stp}{i:Nat}(h:canC ts cs f w i=true):tryC ts cs f (k+1) w i=zc0 ts cs f k (zbm ts cs w i):=by
 unfold tryC tryS;rw[if_pos h];rfl
end
section
variable (T B:Option Addr)(tc d:Nat)(ts:List Int)(cs:List Cl)(n:Int)(f:Nat→Nat)(gf gm:Nat) 
def RunOk(k:Nat):Prop:=∀(w:List Stp) (x:Fn) (W:World) (n0:Nat),PathW ts cs w→zev ts cs f x.D→zgv cs.length (zaH w)=k→RdInt W T ts→zh2 W B cs →
 Away T (zbb (zeC T B tc d ts cs n f gf gm x w))→(0<cs.length→Away B (zbb (zeC T B tc d ts cs n f gf gm x w)))→Mem ⟨n0,zbb (zeC T B tc d ts cs n f gf gm x w),W⟩ W (zeC T B tc d ts cs n f gf gm x w)→zjv T B tc d ts cs n f gf gm k w x W
variable (hcs:CallsOk ts cs)(h9:cs.length≤9)(hf16:∀i,i<12→f i<65536) 
include hcs h9 hf16
theorem place_any(k:Nat)(hrun:∀k',k=k'+1→RunOk T B tc d ts cs n f gf gm k')(w:List Stp)(i:Nat)(x:Fn)(W:World)(n0:Nat)(hi:i<cs.length)(hp:PathW ts cs w)(hD:zev ts cs f x.D)(hk:zgv cs.length (zaH w)=k)(hT:RdInt W T ts)(hB:zh2 W B cs) 
  (haT:Away T (zbb (zeC T B tc d ts cs n f gf gm x w))) (haB:Away B (zbb (zeC T B tc d ts cs n f gf gm x w))) (hm:Mem ⟨n0,zbb (zeC T B tc d ts cs n f gf gm x w),W⟩ W (zeC T B tc d ts cs n f gf gm x w)) :
  zjw T B tc d ts cs n f gf gm k w i x W:=by
 unfold zjw
 obtain⟨hA,hc,hs,oA,oc,D⟩:=x
 obtain⟨F,hF⟩:∃F,F=zbb (zeC T B tc d ts cs n f gf gm ⟨hA,hc,hs,oA,oc,D⟩ w):=⟨_,rfl⟩
 rw[←hF] at haT haB hm ⊢
 have hcall:=zb7 hi
 have hth:=hcs i hi
 rw[hcall] at hth
 have hth0:=hth.1
 have hjt:cs[i].thing.toNat<ts.length:=by omega
 have hsl:=hp.sts.1
 have hml:zaH w<2^9:=Nat.lt_of_lt_of_le (mask_lt hp) (Nat.pow_le_pow_right Zi h9)
 have hm16:zaH w<65536:=Nat.lt_trans hml Zi
 have hi12:i<12:=by omega
 have hfi:=hf16 i hi12
 have hw9:w.length≤9:=by have:=hp.len;omega
 have hss:=stepO_is hcs hp.sts hi
 rw[hcall] at hss
 have hty:zh5 ts cs[i].thing=ts[cs[i].thing.toNat]:=by simp[zh5,List.getD_eq_getElem?_getD,hjt]
 have hzO:=bitO (zaH w) i
 have hpow:2^i<65536:=Nat.lt_of_le_of_lt (Nat.pow_le_pow_right (n:=2) Zi (show i≤9 by omega)) Zi
 have hmask1:=zbK ts cs w i
 have hm1:(zaH w ||| 2^i)<65536:=Nat.or_lt_two_pow (n:=16) hm16 hpow
 obtain⟨bT,oT,rfl,hbT⟩:=RdE.open hT Zo
 obtain⟨bB,oB,rfl,hbB⟩:=RdE.open hB Zo
 have hTF:bT∉F:=haT _ _ rfl
 have hBF:bB∉F:=haB _ _ rfl
 have hsl':hs.length=(zav ts cs w).length:=hm.innerLen (enc:=zag) (M:=1) (e:=3) (by unfold zeC;first|(exact Zm;done)|(repeat(first|exact List.Mem.head _|apply List.Mem.tail)))
 have hjl:cs[i].thing.toNat<hs.length:=by omega
 have hjs:cs[i].thing.toNat<(zav ts cs w).length:=by omega
 obtain⟨hn,hRow⟩:=hm.innerRd (enc:=zag) (M:=1) (e:=3) (by unfold zeC;first|(exact Zm;done)|(repeat(first|exact List.Mem.head _|apply List.Mem.tail))) (fun _=>rfl) hjl hjs
 have hrows:=(zdB hp.sts) _ (List.getElem_mem hjs)
 have hgetD:(zav ts cs w).getD cs[i].thing.toNat []=(zav ts cs w)[cs[i].thing.toNat]:=by simp[List.getD_eq_getElem?_getD,hjs]
 rw[hgetD,hty] at hss
 obtain⟨aR,cR,hh⟩:∃aR cR,hs[cs[i].thing.toNat]=⟨aR,(zav ts cs w)[cs[i].thing.toNat].length,cR⟩:=⟨hs[cs[i].thing.toNat].a,hs[cs[i].thing.toNat].c,by rw[←hn]⟩
 have hhead:(ziY hs[cs[i].thing.toNat])[0]?=some (.slice aR (zav ts cs w)[cs[i].thing.toNat].length cR):=by rw[hh];rfl
 have hstep:=fun(w':World) (h:RdInt w' aR (zav ts cs w)[cs[i].thing.toNat])=>objStep_any aR cR (zav ts cs w)[cs[i].thing.toNat] ts[cs[i].thing.toNat] cs[i].kind cs[i].arg w' h Zo
 rw[hss] at hstep
 have hrd:∀{C:Ctx} {S:List Ent} {W':World},Mem C W' S→zaR zag 1 3 hs (zav ts cs w)∈S→RdInt W' aR (zav ts cs w)[cs[i].thing.toNat]:=fun hw hm=>by
  have:=(hw.innerRd hm (fun _=>rfl) hjl hjs).2
  rw[hh] at this;exact this
 unfold zeC at hm
 dsimp only at hm
 refine zaj F Tryz.func135 rfl Tryz.ntmps135 Zj (hm.anyN _) ?_
 refine zb1 (ls:=hs) Zm Zo ?_
 rintro gh rfl
 repeat' (first|refine Q0Sea4 ?_|refine Zga ?_|(refine Zgb ?_;intro g)|(refine Zg ?_ ?_<;>(intro h;try exact Zx))|fail)
 obtain⟨gC,rfl⟩:∃x,x=g:=⟨_,rfl⟩
 repeat' (first|refine Q0Sea4 ?_|refine Zha ?_|(refine Zhb ?_;intro g)|(refine Zg ?_ ?_<;>(intro h;try exact Zx))|refine GOF ?_ ?_|((with_reducible apply zam (id:=2) 1000 (OT.seq [(0,0),(0,1),(0,2),(0,4),(0,5),(1,3),(0,6),(0,7),(0,8),(0,9),(0,10),(0,11),(0,12),(0,13),(0,14),(0,15),(0,17),(0,18),(0,19),(1,16),(1,20),(0,21),(0,22),(0,23)] .nil));kernel_rfl;exact rfl;kernel_rfl;exact Zd)|((with_reducible apply zam (id:=4) 1000 (OT.seq [(0,0),(0,1),(0,2),(0,4),(1,3),(1,5),(0,6),(1,7),(0,8)] .nil));kernel_rfl;exact rfl;kernel_rfl;exact Zd)|((with_reducible apply zam (id:=5) 1000 (OT.seq [(0,0),(0,1),(0,2),(0,4),(0,8),(0,9),(0,11),(1,3),(1,5),(0,6),(1,7),(1,10),(1,12),(2,13),(0,14),(0,15),(0,16),(0,17),(0,18),(0,19),(0,20)] .nil));kernel_rfl;exact rfl;kernel_rfl;exact Zd)|((with_reducible apply zam (id:=8) 8 (OT.seq [(0,0),(0,1),(0,2),(0,4),(0,6),(1,3),(1,5),(0,7),(3,8)] .nil));kernel_rfl;exact rfl;kernel_rfl;exact Zd)|((with_reducible apply zam (id:=13) 8 (OT.seq [(0,0),(0,1),(0,2),(0,4),(0,6),(1,3),(1,5),(0,7),(3,8)] .nil));kernel_rfl;exact rfl;kernel_rfl;exact Zd)|((with_reducible apply zam (id:=15) 14 (OT.seq [(0,0),(0,1),(0,2),(0,3),(0,5),(0,6),(0,7),(1,4),(1,8),(0,9),(0,10),(0,11),(0,12),(0,13),(3,14)] .nil));kernel_rfl;exact rfl;kernel_rfl;exact Zd)|((with_reducible (first|apply zaa|apply TD_e3z|apply zan|apply zaf|apply zae));((with_reducible apply zal (f:=172));exact rfl;(intro w hw;exact hstep w (hrd hw Zm));exact rfl);exact Zh;(rintro _ _ ⟨A2,c2,rfl,rfl⟩);(try refine⟨SUB,?_⟩))|fail)
 ·(refine zah Tryz.results135 rfl (fun w' hw=>?_))
  have hno:tryC ts cs f k w i=none:=try_no (by rw[zcp,hzO.1 (by assumption)];simp)
  rw[hno]
  exact⟨⟨⟨_,hc,hs,oA,oc,D⟩,hD⟩,rfl,(hw.anyN 0).sub Zt⟩
 ·(refine zah Tryz.results135 rfl (fun w' hw=>?_))
  have hno:tryC ts cs f k w i=none:=try_no (fun hcc=>‹¬((f i &&& zaH w:Nat):Int)=0› (by rw[(zcp.1 hcc).2.1];rfl))
  rw[hno]
  exact⟨⟨⟨_,hc,hs,oA,oc,D⟩,hD⟩,rfl,(hw.anyN 0).sub Zt⟩
 ·(refine zah Tryz.results135 rfl (fun w' hw=>?_))
  have hno:tryC ts cs f k w i=none:=try_no (fun hcc=>‹¬(za6 ts cs (zav ts cs w) i).2.2=0› (zcC.1 (zcp.1 hcc).2.2).1)
  rw[hno]
  exact⟨⟨⟨_,hc,hs,oA,oc,D⟩,hD⟩,rfl,(hw.anyN 0).sub Zt⟩
 ·(refine zah Tryz.results135 rfl (fun w' hw=>?_))
  have hno:tryC ts cs f k w i=none:=try_no (fun hcc=>by
   rcases(zcC.1 (zcp.1 hcc).2.2).2 with h1|h1
   ·rw[hcall] at h1;exact absurd h1 (by assumption)
   ·rw[hcall] at h1;exact absurd h1 (by assumption))
  rw[hno]
  exact⟨⟨⟨_,hc,hs,oA,oc,D⟩,hD⟩,rfl,(hw.anyN 0).sub Zt⟩
 all_goals
  have hb0:(zaH w).testBit i=false:=by
   cases hb:(zaH w).testBit i with
   |false=>rfl
   |true=>exact absurd (hzO.2 hb) (by assumption)
  have hfit:ze2 ts cs (zav ts cs w) i=true:=zcC.2 ⟨by assumption,by rw[hcall];first|exact .inl (by assumption)|exact .inr (by assumption)⟩
  have hcan:canC ts cs f w i=true:=zcp.2 ⟨hb0,by omega,hfit⟩
  have hs0:=(zcC.1 hfit).1
  have hp':=zgx hcs hp hi hb0 hs0
  have hnx:zbm ts cs w i=w++[⟨(i:Int),(za6 ts cs (zav ts cs w) i).2.1⟩]:=rfl
  have hst':=zdA ts cs w i
  rw[hcall] at hst'
  generalize hR:za6 ts cs (zav ts cs w) i=R at *
  repeat' (first|refine Q0Sea4 ?_|refine Zha ?_|(refine Zhb ?_;intro g)|(refine Zg ?_ ?_<;>(intro h;try exact Zx))|refine GOF ?_ ?_|((with_reducible apply zam (id:=2) 1000 (OT.seq [(0,0),(0,1),(0,2),(0,4),(0,5),(1,3),(0,6),(0,7),(0,8),(0,9),(0,10),(0,11),(0,12),(0,13),(0,14),(0,15),(0,17),(0,18),(0,19),(1,16),(1,20),(0,21),(0,22),(0,23)] .nil));kernel_rfl;exact rfl;kernel_rfl;exact Zd)|((with_reducible apply zam (id:=4) 1000 (OT.seq [(0,0),(0,1),(0,2),(0,4),(1,3),(1,5),(0,6),(1,7),(0,8)] .nil));kernel_rfl;exact rfl;kernel_rfl;exact Zd)|((with_reducible apply zam (id:=5) 1000 (OT.seq [(0,0),(0,1),(0,2),(0,4),(0,8),(0,9),(0,11),(1,3),(1,5),(0,6),(1,7),(1,10),(1,12),(2,13),(0,14),(0,15),(0,16),(0,17),(0,18),(0,19),(0,20)] .nil));kernel_rfl;exact rfl;kernel_rfl;exact Zd)|((with_reducible apply zam (id:=8) 8 (OT.seq [(0,0),(0,1),(0,2),(0,4),(0,6),(1,3),(1,5),(0,7),(3,8)] .nil));kernel_rfl;exact rfl;kernel_rfl;exact Zd)|((with_reducible apply zam (id:=13) 8 (OT.seq [(0,0),(0,1),(0,2),(0,4),(0,6),(1,3),(1,5),(0,7),(3,8)] .nil));kernel_rfl;exact rfl;kernel_rfl;exact Zd)|((with_reducible apply zam (id:=15) 14 (OT.seq [(0,0),(0,1),(0,2),(0,3),(0,5),(0,6),(0,7),(1,4),(1,8),(0,9),(0,10),(0,11),(0,12),(0,13),(3,14)] .nil));kernel_rfl;exact rfl;kernel_rfl;exact Zd)|((with_reducible (first|apply zaa|apply TD_e3z|apply zan|apply zaf|apply zae));((with_reducible apply zdt (xx:=(⟨A2,R.1.length,c2⟩:Hd)));exact rfl;exact rfl;exact Zu;exact fun _=>rfl;exact List.getElem?_eq_getElem hjl;exact rfl;exact rfl);exact Zh;(rintro _ _ ⟨rfl,rfl⟩);(try refine⟨SUB,?_⟩))|((with_reducible (first|apply zaa|apply TD_e3z|apply zan|apply zaf|apply zae));((with_reducible apply zaw (enc:=Stp.enc) (xx:=(⟨(i:Int),R.2.1⟩:Stp)));exact rfl;exact rfl;exact Zm;exact rfl;exact fun _=>rfl;exact fun _=>rfl;(intro A' c';exact Zu);(omega);decide;exact rfl);exact Zh;(rintro _ _ ⟨A',c',rfl,rfl⟩);(try refine⟨SUB,?_⟩))|fail)
  obtain⟨k',rfl⟩:∃k',k=k'+1:=⟨k-1,by have:=ze1 hi hb0;omega⟩
  have hk':zgv cs.length (zaH (zbm ts cs w i))=k':=by rw[hmask1];have:=ze1 hi hb0;omega
  have htry:=try_yes (ts:=ts) (cs:=cs) (f:=f) (k:=k') hcan
  refine zdw (S':=zeC (some ⟨bT,oT,none⟩) (some ⟨bB,oB,none⟩) tc d ts cs n f gf gm ⟨some ⟨gh,0,none⟩,hc,hs.set cs[i].thing.toNat ⟨A2,R.1.length,c2⟩,A',c',D⟩ (zbm ts cs w i)++[zac zag 1 3 aR cR (zav ts cs w)[cs[i].thing.toNat],zak gC 36 cs[i].enc.toArray]) (fun w' hw=>?_) ?_
  ·have h1:=Mem.takeRow hjl hjs Zu hw
   have h2:=Mem.putRow (A:=A2) (c:=c2) (l:=R.1) (j:=cs[i].thing.toNat) (by repeat(first|exact Pick.here _ _|apply Pick.there)) Zu h1
   rw[List.set_set,List.set_set,hh] at h2
   dsimp only[zeC,List.cons_append,List.nil_append]
   dsimp only at h2
   rw[hmask1,hst',hnx,List.length_set]
   exact h2.sel Zl
  dsimp only[zeC,List.cons_append,List.nil_append]
  have hih:=fun(C:Ctx) (R':List Ent) (w':World) (hw:Mem C w' (zeC (some ⟨bT,oT,none⟩) (some ⟨bB,oB,none⟩) tc d ts cs n f gf gm ⟨some ⟨gh,0,none⟩,hc,hs.set cs[i].thing.toNat ⟨A2,R.1.length,c2⟩,A',c',D⟩ (zbm ts cs w i)++R')) (h1:bT∉C.F) (h2:bB∉C.F) (h3:bT<C.w0.heap.size) (h4:bB<C.w0.heap.size) (h5:RdInt C.w0 (some ⟨bT,oT,none⟩) ts) (h6:zh2 C.w0 (some ⟨bB,oB,none⟩) cs) =>
   hrun k' rfl (zbm ts cs w i) ⟨some ⟨gh,0,none⟩,hc,hs.set cs[i].thing.toNat ⟨A2,R.1.length,c2⟩,A',c',D⟩ w' 0 hp' hD hk' (hw.rdAwayF h5 (fun b o e=>by cases e;exact h1)) (hw.rdAwayF h6 (fun b o e=>by cases e;exact h2))
    (fun b o e=>by cases e;exact hw.newBlkF h1 h3) (fun _ b o e=>by cases e;exact hw.newBlkF h2 h4) (hw.self 0)
  unfold zjv at hih
  generalize zc0 ts cs f k' (zbm ts cs w i)=o at *
  repeat' (first|refine Q0Sea4 ?_|refine Zha ?_|(refine Zhb ?_;intro g)|(refine Zg ?_ ?_<;>(intro h;try exact Zx))|refine GOF ?_ ?_|((with_reducible apply zam (id:=2) 1000 (OT.seq [(0,0),(0,1),(0,2),(0,4),(0,5),(1,3),(0,6),(0,7),(0,8),(0,9),(0,10),(0,11),(0,12),(0,13),(0,14),(0,15),(0,17),(0,18),(0,19),(1,16),(1,20),(0,21),(0,22),(0,23)] .nil));kernel_rfl;exact rfl;kernel_rfl;exact Zd)|((with_reducible apply zam (id:=4) 1000 (OT.seq [(0,0),(0,1),(0,2),(0,4),(1,3),(1,5),(0,6),(1,7),(0,8)] .nil));kernel_rfl;exact rfl;kernel_rfl;exact Zd)|((with_reducible apply zam (id:=5) 1000 (OT.seq [(0,0),(0,1),(0,2),(0,4),(0,8),(0,9),(0,11),(1,3),(1,5),(0,6),(1,7),(1,10),(1,12),(2,13),(0,14),(0,15),(0,16),(0,17),(0,18),(0,19),(0,20)] .nil));kernel_rfl;exact rfl;kernel_rfl;exact Zd)|((with_reducible apply zam (id:=8) 8 (OT.seq [(0,0),(0,1),(0,2),(0,4),(0,6),(1,3),(1,5),(0,7),(3,8)] .nil));kernel_rfl;exact rfl;kernel_rfl;exact Zd)|((with_reducible apply zam (id:=13) 8 (OT.seq [(0,0),(0,1),(0,2),(0,4),(0,6),(1,3),(1,5),(0,7),(3,8)] .nil));kernel_rfl;exact rfl;kernel_rfl;exact Zd)|((with_reducible apply zam (id:=15) 14 (OT.seq [(0,0),(0,1),(0,2),(0,3),(0,5),(0,6),(0,7),(1,4),(1,8),(0,9),(0,10),(0,11),(0,12),(0,13),(3,14)] .nil));kernel_rfl;exact rfl;kernel_rfl;exact Zd)|fail)
  refine zan (zar (f:=88) (X:={y:Fn // zev ts cs f y.D}) (S1:=zeC (some ⟨bT,oT,none⟩) (some ⟨bB,oB,none⟩) tc d ts cs n f gf gm ⟨some ⟨gh,0,none⟩,hc,hs.set cs[i].thing.toNat ⟨A2,R.1.length,c2⟩,A',c',D⟩ (zbm ts cs w i))
   (fun _=>.bool o.isSome) (fun y=>zeC (some ⟨bT,oT,none⟩) (some ⟨bB,oB,none⟩) tc d ts cs n f gf gm y.1 (o.getD (zbm ts cs w i))) rfl Zp (fun x=>by dsimp only[zeC];exact Za)
   (fun w' hw=>hih _ _ w' hw hTF hBF hbT hbB hT hB) rfl) rfl ?_
  rintro _ _ ⟨⟨⟨hA3,hc3,hs3,oA3,oc3,D3⟩,hD3⟩,rfl,rfl⟩
  cases o with
  |some r =>
   dsimp only[Option.isSome,Option.getD]
   repeat' (first|refine Q0Sea4 ?_|refine Zha ?_|(refine Zhb ?_;intro g)|(refine Zg ?_ ?_<;>(intro h;try exact Zx))|refine GOF ?_ ?_|((with_reducible apply zam (id:=2) 1000 (OT.seq [(0,0),(0,1),(0,2),(0,4),(0,5),(1,3),(0,6),(0,7),(0,8),(0,9),(0,10),(0,11),(0,12),(0,13),(0,14),(0,15),(0,17),(0,18),(0,19),(1,16),(1,20),(0,21),(0,22),(0,23)] .nil));kernel_rfl;exact rfl;kernel_rfl;exact Zd)|((with_reducible apply zam (id:=4) 1000 (OT.seq [(0,0),(0,1),(0,2),(0,4),(1,3),(1,5),(0,6),(1,7),(0,8)] .nil));kernel_rfl;exact rfl;kernel_rfl;exact Zd)|((with_reducible apply zam (id:=5) 1000 (OT.seq [(0,0),(0,1),(0,2),(0,4),(0,8),(0,9),(0,11),(1,3),(1,5),(0,6),(1,7),(1,10),(1,12),(2,13),(0,14),(0,15),(0,16),(0,17),(0,18),(0,19),(0,20)] .nil));kernel_rfl;exact rfl;kernel_rfl;exact Zd)|((with_reducible apply zam (id:=8) 8 (OT.seq [(0,0),(0,1),(0,2),(0,4),(0,6),(1,3),(1,5),(0,7),(3,8)] .nil));kernel_rfl;exact rfl;kernel_rfl;exact Zd)|((with_reducible apply zam (id:=13) 8 (OT.seq [(0,0),(0,1),(0,2),(0,4),(0,6),(1,3),(1,5),(0,7),(3,8)] .nil));kernel_rfl;exact rfl;kernel_rfl;exact Zd)|((with_reducible apply zam (id:=15) 14 (OT.seq [(0,0),(0,1),(0,2),(0,3),(0,5),(0,6),(0,7),(1,4),(1,8),(0,9),(0,10),(0,11),(0,12),(0,13),(3,14)] .nil));kernel_rfl;exact rfl;kernel_rfl;exact Zd)|fail)
   (refine zah Tryz.results135 rfl (fun w' hw=>?_))
   exact⟨⟨⟨hA3,hc3,hs3,oA3,oc3,D3⟩,hD3⟩,by rw[htry];rfl,by rw[htry];exact(hw.anyN 0).sub Zt⟩
  |none =>
   dsimp only[Option.isSome,Option.getD]
   rw[hmask1,hst',hnx]
   refine zfP (p:=hs3.length=((zav ts cs w).set cs[i].thing.toNat R.1).length) (fun w' hw=>hw.innerLen (enc:=zag) (M:=1) (e:=3) Zm) fun hl3=>?_
   rw[List.length_set] at hl3
   have hj3:cs[i].thing.toNat<hs3.length:=by omega
   have hj3s:cs[i].thing.toNat<((zav ts cs w).set cs[i].thing.toNat R.1).length:=by rw[List.length_set];omega
   refine zhF (ls:=hs3) Zm Zo ?_
   rintro gh3 rfl
   refine zhF (ls:=w++[(⟨(i:Int),R.2.1⟩:Stp)]) Zm Zj ?_
   rintro go rfl
   refine TL_ownLe (ls:=w++[(⟨(i:Int),R.2.1⟩:Stp)]) Zm fun hoc=>?_
   have hocw:w.length≤oc3:=by rw[List.length_append] at hoc;omega
   have hlw:(w++[(⟨(i:Int),R.2.1⟩:Stp)]).length=w.length+1:=by simp
   have hun:=unmask hm16 (show i<16 by omega) hb0
   repeat' (first|refine Q0Sea4 ?_|refine Zha ?_|(refine Zhb ?_;intro g)|(refine Zg ?_ ?_<;>(intro h;try exact Zx))|refine GOF ?_ ?_|((with_reducible apply zam (id:=2) 1000 (OT.seq [(0,0),(0,1),(0,2),(0,4),(0,5),(1,3),(0,6),(0,7),(0,8),(0,9),(0,10),(0,11),(0,12),(0,13),(0,14),(0,15),(0,17),(0,18),(0,19),(1,16),(1,20),(0,21),(0,22),(0,23)] .nil));kernel_rfl;exact rfl;kernel_rfl;exact Zd)|((with_reducible apply zam (id:=4) 1000 (OT.seq [(0,0),(0,1),(0,2),(0,4),(1,3),(1,5),(0,6),(1,7),(0,8)] .nil));kernel_rfl;exact rfl;kernel_rfl;exact Zd)|((with_reducible apply zam (id:=5) 1000 (OT.seq [(0,0),(0,1),(0,2),(0,4),(0,8),(0,9),(0,11),(1,3),(1,5),(0,6),(1,7),(1,10),(1,12),(2,13),(0,14),(0,15),(0,16),(0,17),(0,18),(0,19),(0,20)] .nil));kernel_rfl;exact rfl;kernel_rfl;exact Zd)|((with_reducible apply zam (id:=8) 8 (OT.seq [(0,0),(0,1),(0,2),(0,4),(0,6),(1,3),(1,5),(0,7),(3,8)] .nil));kernel_rfl;exact rfl;kernel_rfl;exact Zd)|((with_reducible apply zam (id:=13) 8 (OT.seq [(0,0),(0,1),(0,2),(0,4),(0,6),(1,3),(1,5),(0,7),(3,8)] .nil));kernel_rfl;exact rfl;kernel_rfl;exact Zd)|((with_reducible apply zam (id:=15) 14 (OT.seq [(0,0),(0,1),(0,2),(0,3),(0,5),(0,6),(0,7),(1,4),(1,8),(0,9),(0,10),(0,11),(0,12),(0,13),(3,14)] .nil));kernel_rfl;exact rfl;kernel_rfl;exact Zd)|((with_reducible (first|apply zaa|apply TD_e3z|apply zan|apply zaf|apply zae));((with_reducible apply zdt (xx:=(⟨aR,(zav ts cs w)[cs[i].thing.toNat].length,cR⟩:Hd)));exact rfl;exact rfl;exact Zu;exact fun _=>rfl;exact List.getElem?_eq_getElem hj3;exact rfl;exact rfl);exact Zh;(rintro _ _ ⟨rfl,rfl⟩);(try refine⟨SUB,?_⟩))|fail)
   (refine zah Tryz.results135 rfl (fun w' hw=>?_))
   rw[hun] at hw
   refine⟨⟨⟨some ⟨gh3,0,none⟩,hc3,hs3.set cs[i].thing.toNat ⟨aR,(zav ts cs w)[cs[i].thing.toNat].length,cR⟩,some ⟨go,0,none⟩,oc3,D3⟩,hD3⟩,by rw[htry];rfl,?_⟩
   rw[htry]
   have h1:=Mem.ownLast (enc:=Stp.enc) (M:=2) (ls:=w) (S':=[zak gf 152 (finC (.slice (some ⟨bT,oT,none⟩) ts.length tc) (.slice (some ⟨bB,oB,none⟩) cs.length d) n f (.slice (some ⟨gh3,0,none⟩) hs3.length hc3) (zaH w) (.slice (some ⟨go,0,none⟩) w.length oc3) gm),
    zac ziY 1 24 (some ⟨gh3,0,none⟩) hc3 (hs3.set cs[i].thing.toNat ⟨aR,(zav ts cs w)[cs[i].thing.toNat].length,cR⟩),zaR zag 1 3 hs3 ((zav ts cs w).set cs[i].thing.toNat R.1),zac Stp.enc 2 49 (some ⟨go,0,none⟩) oc3 w,zfB gm D3,
    zac zag 1 3 aR cR (zav ts cs w)[cs[i].thing.toNat],zak gC 36 cs[i].enc.toArray]) Zu (fun _=>rfl) hw
   have h2:=Mem.takeRow hj3 hj3s Zu h1
   have h3:=Mem.putRow (A:=aR) (c:=cR) (l:=(zav ts cs w)[cs[i].thing.toNat]) (j:=cs[i].thing.toNat) (by repeat(first|exact Pick.here _ _|apply Pick.there)) Zu h2
   rw[List.set_set,List.set_set,List.set_set,List.set_getElem_self] at h3
   dsimp only[zeC,Option.getD]
   rw[List.length_set]
   exact(h3.anyN 0).sel Zl
end
end
section
open Go.RowKit
theorem Q0Sea5{p R:Prop}(r:R)(h:Rest R→p:=by intro r;(first|with_reducible (first|apply zcE|apply za9|apply zba|apply zbd|apply zbe)|((with_reducible (first|apply zaN|apply zaO));exact rfl;exact rfl;(with_reducible exact rfl)));(first|exact QS.auto|((with_reducible apply QS_lookStr);exact rfl;exact rfl;exact Zm));exact rfl;exact r.out):p:=h ⟨r⟩
section
variable {C:Ctx}{S:List Ent}{W:World} 
theorem complete_S{tv hv ov:Value}{n:Int}{f:Nat→Nat}{B:Option Addr}{d gf gm m:Nat}{cs:List Cl}(hw:Mem C W S)(hm:zak gf 152 (finC tv (.slice B cs.length d) n f hv m ov gm)∈S)(hB:zh2 W B cs)(h16:m<65536)(hl:cs.length≤16):
  Calls Tryz.prog 133 #[.pointer (some ⟨gf,0,none⟩)] W fun e w'=>e=.returned (.bool (compM cs m))∧Below W.heap.size W w' :=
 complete_any B d cs gf m W (hw.blkAt hm).1 ((hw.blkAt hm).2 1) ((hw.blkAt hm).2 16) hB h16 hl
theorem key_S{tv cv ov:Value}{n:Int}{f:Nat→Nat}{H:Option Addr}{hc gf gm m:Nat}{hs:List Hd}{sts:List (List Int)}(hw:Mem C W S)(hm:zak gf 152 (finC tv cv n f (.slice H hs.length hc) m ov gm)∈S) 
  (h1:zac ziY 1 24 H hc hs∈S) (h2:zaR zag 1 3 hs sts∈S) (h16:m<65536) (hl4:sts.length≤4) (hval:∀s∈sts,s.length≤50∧∀x∈s,0≤x∧x≤1000) :
  Calls Tryz.prog 134 #[.pointer (some ⟨gf,0,none⟩)] W fun e w'=>e=.returned (.string (zdd (keyL m sts)))∧Below W.heap.size W w' :=
 key_any H hc hs sts gf m W (hw.blkAt hm).1 ((hw.blkAt hm).2 15) ((hw.blkAt hm).2 16) h16 (hw.ownRd h1 (fun _=>rfl)) (hw.innerLen h2) (fun _ a b=>hw.innerRd h2 (fun _=>rfl) a b) hl4 hval
end
section
variable (T B:Option Addr)(tc d:Nat)(ts:List Int)(cs:List Cl)(n:Int)(f:Nat→Nat)(gf gm:Nat) 
variable (hts:zaG ts=true)(hcs:CallsOk ts cs)(h9:cs.length≤9)(hf16:∀i,i<12→f i<65536) 
include hts hcs h9 hf16
theorem run_step(k:Nat)(hrun:∀k',k=k'+1→RunOk T B tc d ts cs n f gf gm k'):RunOk T B tc d ts cs n f gf gm k:=by
 intro w x W n0 hp hD hk hT hB haT haB hm
 unfold zjv
 have hplace:=fun i y=>place_any T B tc d ts cs n f gf gm hcs h9 hf16 k hrun w i y
 obtain⟨hA,hc,hs,oA,oc,D⟩:=x
 obtain⟨F,hF⟩:∃F,F=zbb (zeC T B tc d ts cs n f gf gm ⟨hA,hc,hs,oA,oc,D⟩ w):=⟨_,rfl⟩
 rw[←hF] at haT haB hm ⊢
 have ht4:1≤ts.length∧ts.length≤4:=by
  unfold zaG at hts
  rw[Bool.and_eq_true,decide_eq_true_eq] at hts
  exact hts.1
 have hsl:=hp.sts.1
 have hml:zaH w<2^9:=Nat.lt_of_lt_of_le (mask_lt hp) (Nat.pow_le_pow_right Zi h9)
 have hm16:zaH w<65536:=Nat.lt_trans hml Zi
 have hrows:=zdB hp.sts
 have hbT:∀b o,T=some ⟨b,o,none⟩→b<W.heap.size:=fun b o e=>by
  obtain⟨b',o',e',hb'⟩:=RdE.open hT Zo
  rw[e] at e';cases e';exact hb'
 have hbB:0<cs.length→∀b o,B=some ⟨b,o,none⟩→b<W.heap.size:=fun h0 b o e=>by
  obtain⟨b',o',e',hb'⟩:=RdE.open hB h0
  rw[e] at e';cases e';exact hb'
 have hrT:∀(C:Ctx) (S:List Ent) (W':World),C.F=F→C.w0=W→Mem C W' S→RdInt W' T ts:=fun C S W' e1 e2 hw=>by
  subst e2
  exact hw.rdAwayF hT (fun b o e=>by rw[e1];exact haT b o e)
 have hrB:∀(C:Ctx) (S:List Ent) (W':World),C.F=F→C.w0=W→Mem C W' S→zh2 W' B cs:=fun C S W' e1 e2 hw=>by
  subst e2
  rcases Nat.eq_zero_or_pos cs.length with h0|h0
  ·rw[List.length_eq_zero_iff.1 h0];exact RdE.nil _
  ·exact hw.rdAwayF hB (fun b o e=>by rw[e1];exact haB h0 b o e)
 have hawT:∀(C:Ctx) (S R:List Ent) (W':World),C.F=F→C.w0=W→Mem C W' (S++R)→Away T (zbb S):=fun C S R W' e1 e2 hw b o e=>by
  subst e2
  exact hw.newBlkF (by rw[e1];exact haT b o e) (hbT b o e)
 have hawB:∀(C:Ctx) (S R:List Ent) (W':World),C.F=F→C.w0=W→Mem C W' (S++R)→0<cs.length→Away B (zbb S):=fun C S R W' e1 e2 hw h0 b o e=>by
  subst e2
  exact hw.newBlkF (by rw[e1];exact haB h0 b o e) (hbB h0 b o e)
 have hkey:keyW ts cs w=zdd (keyL (zaH w) (zav ts cs w)):=rfl
 have hmemo:=hD w hp
 rw[hk,hkey] at hmemo
 have hadd:=fun(y:Fn) (hy:zev ts cs f y.D) (hn:zc0 ts cs f k w=none)=>memo_add Zo hy hp (by rw[hk];exact hn)
 rw[hkey] at hadd
 have hcompW:zeA cs w=compM cs (zaH w):=rfl
 unfold zeC at hm
 dsimp only at hm
 refine zaj F Tryz.func88 rfl Tryz.ntmps88 Zj (hm.anyN _) ?_
 have hc1:=fun(C:Ctx) (S:List Ent) (W':World) (hw:Mem C W' S) (hm:zak gf 152 (finC (.slice T ts.length tc) (.slice B cs.length d) n f (.slice hA hs.length hc) (zaH w) (.slice oA w.length oc) gm)∈S) (hB:zh2 W' B cs)=>complete_S hw hm hB hm16 Zo
 cases hcm:compM cs (zaH w) with
 |true =>
  rw[hcm] at hc1
  repeat' (first|refine Q0Sea5 ?_|refine Zga ?_|(refine Zgb ?_;intro g)|(refine Zg ?_ ?_<;>(intro h;try exact Zx))|((with_reducible (first|apply zaa|apply TD_e3z|apply zan|apply zaf|apply zae));((with_reducible apply zad (f:=133));exact rfl;(intro w hw;exact hc1 _ _ w hw Zm (hrB _ _ _ rfl rfl hw));exact rfl);exact Zh;(rintro _ _ ⟨rfl,rfl⟩);(try refine⟨SUB,?_⟩))|fail)
  (refine zah Tryz.results88 rfl (fun w' hw=>?_))
  have hsr:zc0 ts cs f k w=some w:=srch_comp _ _ _ _ (by rw[hcompW];exact hcm)
  rw[hsr]
  exact⟨⟨⟨hA,hc,hs,oA,oc,D⟩,hD⟩,rfl,(hw.anyN 0).sub Zt⟩
 |false =>
  rw[hcm] at hc1
  have hnc:¬zeA cs w=true:=by rw[hcompW,hcm];simp
  have hk1:=fun(C:Ctx) (S:List Ent) (W':World) (hw:Mem C W' S) (hm:zak gf 152 (finC (.slice T ts.length tc) (.slice B cs.length d) n f (.slice hA hs.length hc) (zaH w) (.slice oA w.length oc) gm)∈S) h1 h2=>key_S (sts:=zav ts cs w) hw hm h1 h2 hm16 Zo hrows
  generalize zdd (keyL (zaH w) (zav ts cs w))=key at *
  repeat' (first|refine Q0Sea5 ?_|refine Zga ?_|(refine Zgb ?_;intro g)|(refine Zg ?_ ?_<;>(intro h;try exact Zx))|((with_reducible (first|apply zaa|apply TD_e3z|apply zan|apply zaf|apply zae));((with_reducible apply zad (f:=133));exact rfl;(intro w hw;exact hc1 _ _ w hw Zm (hrB _ _ _ rfl rfl hw));exact rfl);exact Zh;(rintro _ _ ⟨rfl,rfl⟩);(try refine⟨SUB,?_⟩))|((with_reducible (first|apply zaa|apply TD_e3z|apply zan|apply zaf|apply zae));((with_reducible apply zad (f:=134));exact rfl;(intro w hw;exact hk1 _ _ w hw Zm Zm Zm);exact rfl);exact Zh;(rintro _ _ ⟨rfl,rfl⟩);(try refine⟨SUB,?_⟩))|fail)
  ·(refine zah Tryz.results88 rfl (fun w' hw=>?_))
   have hsr:zc0 ts cs f k w=none:=hmemo (hasB_iff.1 (by assumption))
   rw[hsr]
   exact⟨⟨⟨hA,hc,hs,oA,oc,D⟩,hD⟩,rfl,(hw.anyN 0).sub Zt⟩
  ·refine zap (X:=Nat×{y:Fn // zev ts cs f y.D}) (fun x=>[(20,.int .i64 (x.1:Nat)),(19,.int .i64 cs.length),(3,.string key),(0,.pointer (some ⟨gf,0,none⟩))])
    (fun x=>zeC T B tc d ts cs n f gf gm x.2.1 w) (fun x=>x.1≤cs.length∧∀j,j<x.1→tryC ts cs f k w j=none) (fun x=>cs.length-x.1) (0,⟨⟨hA,hc,hs,oA,oc,D⟩,hD⟩) ⟨by omega,fun j hj=>by(try dsimp only at hj);omega⟩ Ze (by exact zaK) ?_
   rintro⟨i,y,hy⟩ ⟨hi,hno⟩
   dsimp only at hi hno ⊢
   by_cases hil:i<cs.length
   ·have hpl:=fun(C:Ctx) (R':List Ent) (w':World) (hw:Mem C w' (zeC T B tc d ts cs n f gf gm y w++R')) (e1:C.F=F) (e2:C.w0=W) =>
     hplace i y w' 0 hil hp hy hk (hrT C _ w' e1 e2 hw) (hrB C _ w' e1 e2 hw) (hawT C _ R' w' e1 e2 hw) (hawB C _ R' w' e1 e2 hw Zo) (hw.self 0)
    unfold zjw at hpl
    obtain⟨o,ho⟩:∃o,tryC ts cs f k w i=o:=⟨_,rfl⟩
    rw[ho] at hpl
    repeat' (first|refine Q0Sea5 ?_|refine Zga ?_|(refine Zgb ?_;intro g)|(refine Zg ?_ ?_<;>(intro h;try exact Zx))|fail)
    refine zan (zar (f:=135) (X:={y:Fn // zev ts cs f y.D}) (S1:=zeC T B tc d ts cs n f gf gm y w)
     (fun _=>.bool o.isSome) (fun z=>zeC T B tc d ts cs n f gf gm z.1 (o.getD w)) rfl Zp (fun x=>by dsimp only[zeC];exact Za)
     (fun w' hw=>hpl _ _ w' hw rfl rfl) rfl) rfl ?_
    rintro _ _ ⟨⟨z,hz⟩,rfl,rfl⟩
    cases o with
    |some r =>
     dsimp only[Option.isSome,Option.getD]
     repeat' (first|refine Q0Sea5 ?_|refine Zga ?_|(refine Zgb ?_;intro g)|(refine Zg ?_ ?_<;>(intro h;try exact Zx))|fail)
     (refine zah Tryz.results88 rfl (fun w' hw=>?_))
     have hsr:zc0 ts cs f k w=some r:=srch_some _ _ _ _ hnc hil hno ho
     rw[hsr]
     exact⟨⟨z,hz⟩,rfl,(hw.anyN 0).sub Zt⟩
    |none =>
     dsimp only[Option.isSome,Option.getD]
     repeat' (first|refine Q0Sea5 ?_|refine Zga ?_|(refine Zgb ?_;intro g)|(refine Zg ?_ ?_<;>(intro h;try exact Zx))|fail)
     apply zab (i+1,⟨z,hz⟩)
     case hE=>exact Ze
     case hS=>exact zaK
     case hμ=>(try dsimp only);omega
     case hp =>
      refine⟨hil,fun j hj=>?_⟩
      (try dsimp only at hj)
      by_cases e:j=i
      ·subst e;exact ho
      ·exact hno j Zo
   ·obtain rfl:i=cs.length:=by omega
    have hsr:zc0 ts cs f k w=none:=srch_none _ _ _ _ hnc hno
    have hadd':=hadd y hy hsr
    repeat' (first|refine Q0Sea5 ?_|refine Zga ?_|(refine Zgb ?_;intro g)|(refine Zg ?_ ?_<;>(intro h;try exact Zx))|((with_reducible (first|apply zaa|apply TD_e3z|apply zan|apply zaf|apply zae));((with_reducible apply ES_updateStr);exact rfl;exact rfl;exact Zu;exact rfl);exact Zh;(rintro _ _ ⟨rfl,rfl⟩);(try refine⟨SUB,?_⟩))|fail)
    (refine zah Tryz.results88 rfl (fun w' hw=>?_))
    rw[hsr]
    exact⟨⟨⟨y.hA,y.hc,y.hs,y.oA,y.oc,addB y.D key⟩,hadd'⟩,rfl,(hw.anyN 0).sub Zt⟩
omit hts hcs h9 hf16 in
theorem run_any'(hts:zaG ts=true)(hcs:CallsOk ts cs)(h9:cs.length≤9)(hf16:∀i,i<12→f i<65536):∀k,RunOk T B tc d ts cs n f gf gm k
 |0=>run_step T B tc d ts cs n f gf gm hts hcs h9 hf16 0 (fun k' h=>by omega)
 |k+1=>run_step T B tc d ts cs n f gf gm hts hcs h9 hf16 (k+1) (fun k' h=>by
  obtain rfl:k=k':=by omega
  exact run_any' hts hcs h9 hf16 k)
end
end
section
open Go.RowKit
section
variable (A:Option Addr)(c:Nat)(s:List Stp)(w:World)(hA:RdStp w A s)(hl:s.length≤1000) 
include hA hl
theorem cloneStp_any:Calls Tryz.prog 89 #[.slice A s.length c] w fun e w'=>∃A' c',e=.returned (.slice A' s.length c')∧Own Stp.enc 2 49 w' w.heap.size (.slice A' s.length c') s∧Below w.heap.size w w':=by
 cases A with
 |none =>
  have hs:s=[]:=by
   cases s with
   |nil=>rfl
   |cons x s =>
    obtain⟨b,o,h,_⟩:=hA 0 x rfl
    cases h
  subst hs
  refine zaj (S:=[]) [] Tryz.func89 rfl Tryz.ntmps89 Zj (Mem.nil _) ?_
  repeat' (first|refine Zga ?_|(refine Zgb ?_;intro g)|(refine Zg ?_ ?_<;>(intro h;try exact Zx))|fail)
  all_goals first
   |((refine zah Tryz.results89 rfl (fun w' hw=>?_))
     exact⟨none,0,rfl,Own.nil _ _,hw.below0 rfl⟩)
   |(exfalso;simp_all;done)
 |some ad =>
  have hne:some ad=none→c=0:=fun h=>by cases h
  refine zaj (S:=[]) [] Tryz.func89 rfl Tryz.ntmps89 Zj (Mem.nil _) ?_
  repeat' (first|refine Zga ?_|(refine Zgb ?_;intro g)|(refine Zg ?_ ?_<;>(intro h;try exact Zx))|((with_reducible (first|apply zaa|apply TD_e3z|apply zan|apply zaf|apply zae));((with_reducible apply zbv Stp.enc);exact rfl);exact Zh;(rintro _ _ ⟨g,rfl,rfl⟩);(try refine⟨SUB,?_⟩))|((with_reducible (first|apply zaa|apply TD_e3z|apply zan|apply zaf|apply zae));((with_reducible apply zbp (enc:=Stp.enc) (xs:=s) (ls:=[]));exact rfl;exact rfl;exact Lies.rd hA rfl (fun _=>rfl) Zo hne;exact fun _=>rfl;exact fun _=>rfl;(intro A' c';exact Zu);(simp;omega);decide;exact rfl);exact Zh;(rintro _ _ ⟨A',c',rfl,rfl⟩);(try refine⟨SUB,?_⟩))|fail)
  (refine zah Tryz.results89 rfl (fun w' hw=>?_))
  exact⟨A',c',rfl,hw.ownOut rfl Zm,hw.below0 rfl⟩
end
theorem relCells_lit(n:Int)(f:Nat→Nat):zat n f=#[.int .i64 n,.int .u16 (f 0),.int .u16 (f 1),.int .u16 (f 2),.int .u16 (f 3),.int .u16 (f 4),.int .u16 (f 5),.int .u16 (f 6),.int .u16 (f 7),.int .u16 (f 8),.int .u16 (f 9),.int .u16 (f 10),.int .u16 (f 11)]:=rfl
def zbq(ts:List Int)(cs:List Cl)(f:Nat→Nat):Option (List Stp):=zc0 ts cs f cs.length []
theorem found_len{ts:List Int}{cs:List Cl}{f:Nat→Nat}(hcs:CallsOk ts cs):∀(k:Nat) (w:List Stp),PathW ts cs w→∀r,zc0 ts cs f k w=some r→PathW ts cs r
 |0,w,hp,r,h=>by
  unfold zc0 at h
  rw[zgu] at h
  split at h
  ·cases h;exact hp
  ·cases h
 |k+1,w,hp,r,h=>by
  unfold zc0 at h
  rw[zgu] at h
  split at h
  ·cases h;exact hp
  ·obtain⟨i,hi,hr⟩:=List.exists_of_findSome?_eq_some h
   rw[List.mem_range] at hi
   split at hr
   ·rename_i hc
    obtain⟨h1,_,h3⟩:=zcp.1 hc
    exact found_len hcs k _ (zgx hcs hp hi h1 (zcC.1 h3).1) r hr
   ·cases hr
section
variable (T B:Option Addr)(tc d:Nat)(ts:List Int)(cs:List Cl)(n:Int)(f:Nat→Nat)(w:World) 
variable (hts:zaG ts=true)(hcs:CallsOk ts cs)(h9:cs.length≤9)(hf16:∀i,i<12→f i<65536)(hT:RdInt w T ts)(hB:zh2 w B cs) 
include hts hcs h9 hf16 hT hB
theorem ze3:Calls Tryz.prog 43 #[.slice T ts.length tc,.slice B cs.length d,.agg (zat n f)] w fun e w' =>
  ∃A c,e=.returned (.tuple #[.slice A ((zbq ts cs f).getD []).length c,.bool (zbq ts cs f).isSome])∧Own Stp.enc 2 49 w' w.heap.size (.slice A ((zbq ts cs f).getD []).length c) ((zbq ts cs f).getD [])∧Below w.heap.size w w':=by
 have ht4:1≤ts.length∧ts.length≤4:=by
  unfold zaG at hts
  rw[Bool.and_eq_true,decide_eq_true_eq] at hts
  exact hts.1
 have hrun:=fun gf gm=>run_any' T B tc d ts cs n f gf gm hts hcs h9 hf16 cs.length
 rw[relCells_lit]
 refine zaj (S:=[]) [] Tryz.func43 rfl Tryz.ntmps43 Zj (Mem.nil _) ?_
 repeat' (first|refine Zha ?_|(refine Zhb ?_;intro g)|(refine Zg ?_ ?_<;>(intro h;try exact Zx))|refine GOF ?_ ?_|fail|((with_reducible (first|apply zaa|apply TD_e3z|apply zan|apply zaf|apply zae));((with_reducible apply ES_makeSet);exact rfl);exact Zh;(rintro _ _ ⟨g,rfl,rfl⟩);(try refine⟨SUB,?_⟩))|fail)
 rename_i gB gM
 obtain⟨gf,rfl⟩:∃x,x=g:=⟨_,rfl⟩
 refine zap (X:=Nat×Option Addr×Nat×List Hd) (fun x=>[(21,.int .i64 (x.1:Nat)),(20,.int .i64 ts.length),(19,.slice T ts.length tc),(8,.pointer (some ⟨gf,0,none⟩))])
  (fun x=>[zak gf 152 (finC (.slice T ts.length tc) (.slice B cs.length d) n f (.slice x.2.1 x.2.2.2.length x.2.2.1) 0 (.slice none 0 0) gM),zac ziY 1 24 x.2.1 x.2.2.1 x.2.2.2,zaR zag 1 3 x.2.2.2 ((ts.map zfi).take x.1),zac Stp.enc 2 49 none 0 [],zfB gM []])
  (fun x=>x.1≤ts.length∧x.2.2.2.length=x.1) (fun x=>ts.length-x.1) (0,none,0,[]) ⟨by(try dsimp only);omega,rfl⟩ Ze (fun w' hw=>?_) ?_
 ·have h1:=((hw.nilOwn ziY 1 24).nilInner zag 1 3).nilOwn Stp.enc 2 49
  exact h1.sel (by repeat(first|exact Sel.nil _|(apply Sel.cons;(repeat(first|exact Pick.here _ _|apply Pick.there)))))
 rintro⟨k,A,c,hs⟩ ⟨hk,hsl⟩
 dsimp only at hk hsl ⊢
 by_cases hkl:k<ts.length
 ·obtain⟨b,o,rfl,_⟩:=RdE.open hT Zo
  have hst:=fun w=>objStart_any ts[k] w
  have htk:(ts.map zfi).take (k+1)=(ts.map zfi).take k++[zfi ts[k]]:=by
   rw[List.take_succ_eq_append_getElem (by rw[List.length_map];exact hkl),List.getElem_map]
  generalize hrow:zfi ts[k]=row at *
  repeat' (first|refine Zga ?_|(refine Zgb ?_;intro g)|(refine Zg ?_ ?_<;>(intro h;try exact Zx))|((with_reducible (first|apply zaa|apply TD_e3z|apply zan|apply zaf|apply zae));((with_reducible apply zal (f:=87));exact rfl;(intro w hw;exact hst w);exact rfl);exact Zh;(rintro _ _ ⟨A0,c0,rfl,rfl⟩);(try refine⟨SUB,?_⟩))|((with_reducible (first|apply zaa|apply TD_e3z|apply zan|apply zaf|apply zae));((with_reducible apply zaw (enc:=ziY) (xx:=(⟨A0,row.length,c0⟩:Hd)));exact rfl;exact rfl;exact Zm;exact rfl;exact fun _=>rfl;exact fun _=>rfl;(intro A' c';exact Zu);(omega);decide;exact rfl);exact Zh;(rintro _ _ ⟨A',c',rfl,rfl⟩);(try refine⟨SUB,?_⟩))|fail)
  apply zab (k+1,A',c',hs++[⟨A0,row.length,c0⟩])
  case hE=>exact Ze
  case hS =>
   intro w' hw
   have h1:=Mem.absorb (enc:=zag) (M:=1) (e:=3) (A:=A0) (c:=c0) (l:=row) (by repeat(first|exact Pick.here _ _|apply Pick.there)) Zu hw
   rw[←htk] at h1
   exact h1.sel Zl
  case hμ=>(try dsimp only);omega
  case hp=>exact⟨hkl,by(try dsimp only);rw[List.length_append,hsl];rfl⟩
 ·obtain rfl:k=ts.length:=by omega
  have htk:(ts.map zfi).take ts.length=ts.map zfi:=by rw[List.take_of_length_le];simp
  rw[htk]
  have hS0:zav ts cs []=ts.map zfi:=rfl
  have hih:=fun(C:Ctx) (R':List Ent) (w':World) (hw:Mem C w' (zeC T B tc d ts cs n f gf gM ⟨A,c,hs,none,0,[]⟩ []++R')) (e1:C.F=[]) (e2:C.w0=w)=>show zjv T B tc d ts cs n f gf gM cs.length [] ⟨A,c,hs,none,0,[]⟩ w' from by
   subst e2
   exact hrun gf gM [] ⟨A,c,hs,none,0,[]⟩ w' 0 (zfj hts) (memo_nil ts cs f) (by simp[zaH,zjp]) (hw.rd e1 hT) (hw.rd e1 hB)
    (fun b o e=>hw.newBlk e1 (by obtain⟨b',o',e',hb'⟩:=RdE.open hT Zo;rw[e] at e';cases e';exact hb'))
    (fun h0 b o e=>hw.newBlk e1 (by obtain⟨b',o',e',hb'⟩:=RdE.open hB h0;rw[e] at e';cases e';exact hb')) (hw.self 0)
  unfold zjv at hih
  have hfo:zc0 ts cs f cs.length []=zbq ts cs f:=rfl
  have hlen:=found_len (f:=f) hcs cs.length [] (zfj hts)
  rw[hfo] at hih hlen
  generalize zbq ts cs f=o at *
  repeat' (first|refine Zga ?_|(refine Zgb ?_;intro g)|(refine Zg ?_ ?_<;>(intro h;try exact Zx))|fail)
  refine zdw (S':=zeC T B tc d ts cs n f gf gM ⟨A,c,hs,none,0,[]⟩ []) (fun w' hw=>hw.sel (by dsimp only[zeC];repeat(first|exact Sel.nil _|(apply Sel.cons;(repeat(first|exact Pick.here _ _|apply Pick.there)))))) ?_
  repeat' (first|refine Zga ?_|(refine Zgb ?_;intro g)|(refine Zg ?_ ?_<;>(intro h;try exact Zx))|fail)
  refine zan (zar (f:=88) (X:={y:Fn // zev ts cs f y.D}) (S1:=zeC T B tc d ts cs n f gf gM ⟨A,c,hs,none,0,[]⟩ [])
   (fun _=>.bool o.isSome) (fun z=>zeC T B tc d ts cs n f gf gM z.1 (o.getD [])) rfl Zp (fun x=>by dsimp only[zeC];exact Za)
   (fun w' hw=>hih _ _ w' hw rfl rfl) rfl) rfl ?_
  rintro _ _ ⟨⟨⟨hA3,hc3,hs3,oA3,oc3,D3⟩,hD3⟩,rfl,rfl⟩
  cases o with
  |none =>
   dsimp only[Option.isSome,Option.getD]
   repeat' (first|refine Zga ?_|(refine Zgb ?_;intro g)|(refine Zg ?_ ?_<;>(intro h;try exact Zx))|fail)
   (refine zah Tryz.results43 rfl (fun w' hw=>?_))
   exact⟨none,0,rfl,Own.nil _ _,hw.below0 rfl⟩
  |some r =>
   dsimp only[Option.isSome,Option.getD]
   have hrl:r.length≤9:=by have:=(hlen r rfl).len;omega
   repeat' (first|refine Zga ?_|(refine Zgb ?_;intro g)|(refine Zg ?_ ?_<;>(intro h;try exact Zx))|((with_reducible (first|apply zaa|apply TD_e3z|apply zan|apply zaf|apply zae));((with_reducible apply zal (f:=89));exact rfl;(intro w hw;exact cloneStp_any oA3 oc3 r w (hw.ownRd Zm (fun _=>rfl)) Zo);exact rfl);exact Zh;(rintro _ _ ⟨A5,c5,rfl,rfl⟩);(try refine⟨SUB,?_⟩))|fail)
   (refine zah Tryz.results43 rfl (fun w' hw=>?_))
   exact⟨A5,c5,rfl,hw.ownOut rfl Zm,hw.below0 rfl⟩
end
end
section
open Go.RowKit
section
variable {P:Program}{C:Ctx}{E:zaE}{S:List Ent}{ty ty2 ty3 a:Nat}{x y:Operand}{k:IntKind}{z:Int} 
end
theorem dosOf_len(cs:List Cl)(w:List Stp)(t:Int):(zbA cs w t).length≤w.length:=by
 unfold zbA;rw[List.length_map];exact List.length_filter_le _ _
theorem seq_len{cs:List Cl}{w:List Stp}:∀{k:Nat},k≤w.length→(∀i (h:i<w.length),i<k→okR cs (zaH (w.take i)) w[i]=true)→k+zgv cs.length (zaH (w.take k))=cs.length
 |0,_,_=>by simp[zaH,zjp]
 |k+1,hk,h=>by
  have ih:=seq_len (k:=k) Zo (fun i hi hik=>h i hi Zo)
  obtain⟨_,h2,h3,_⟩:=zjt (h k Zo Zo)
  rw[List.take_succ_eq_append_getElem Zo,zhg]
  have:=ze1 h2 h3
  omega
section
variable (T B D:Option Addr)(tc d dc:Nat)(ts:List Int)(cs:List Cl)(n:Int)(f:Nat→Nat)(w:List Stp)(W:World) 
variable (hts:zaG ts=true)(hcs:CallsOk ts cs)(h9:cs.length≤9)(hf16:∀i,i<12→f i<65536)(hT:RdInt W T ts)(hB:zh2 W B cs)(hD:RdStp W D w)(hwl:w.length≤9223372036854775807) 
include hts hcs h9 hf16 hT hB hD hwl
end
end
section
open Go.RowKit
theorem relCells_get0(n:Int)(f:Nat→Nat)(h:0<(zat n f).size):(zat n f)[0]=.int .i64 n:=by
 have:=zgU n f
 rw[Array.getElem?_eq_getElem h] at this
 exact Option.some.inj this
theorem relCells_getS(n:Int)(f:Nat→Nat)(i:Nat)(h:1+i<(zat n f).size):(zat n f)[1+i]=.int .u16 (f i):=by
 have:=zcx n f i (by rw[zaD] at h;omega)
 rw[Array.getElem?_eq_getElem h] at this
 exact Option.some.inj this
def eqTo(f g:Nat→Nat)(is:List Nat):Bool:=is.all fun i=>f i == g i
theorem exec_load_rel(ev:Operand→Value)(dst:Option Tmp)(x:Operand)(t:TypeId)(pos:String)(after:Array Edge)(guard:Option (Nat×Bool))(w:World)(h:isRow w 13 (ev x)=true):
  (execOp ev { dst,op:=.load 43 x,type:=t,pos,after,guard }).run Tryz.prog w=.ok (.value (.agg (rowOf w (ziv (ev x))))) w :=
 exec_load_row 43 13 _ (by decide) Tryz.underlying43 rfl (by kernel_rfl) ev dst x t pos after guard w h
theorem exec_store_rel(ev:Operand→Value)(dst:Option Tmp)(x y:Operand)(t:TypeId)(pos:String)(after:Array Edge)(guard:Option (Nat×Bool))(w:World)(h:isRow w 13 (ev x)=true)(h2:isAggOf 13 (ev y)=true):
  (execOp ev { dst,op:=.store 43 x y,type:=t,pos,after,guard }).run Tryz.prog w=.ok .skip (w.setRow (ziv (ev x)) (aggOf (ev y))) :=
 exec_store_row 43 13 (by decide) (by kernel_rfl) ev dst x y t pos after guard w h h2
theorem u16s_at(f:Nat→Nat)(i:Nat)(h:i<12):(u16s f 12).toArray[i]?=some (.int .u16 (f i)):=by simp[u16s,h]
theorem relCells_ext(n:Int)(f:Nat→Nat):(zat n f).extract 1 13=(u16s f 12).toArray:=by
 rfl
theorem run_items(f g:Nat→Nat)(w:World)(d:Nat):∀is:List Nat,(∀i∈is,i<12) →
  (Op.eqItems (d+1) 40 1 (u16s f 12).toArray (u16s g 12).toArray is).run Tryz.prog w=.ok (eqTo f g is) w
 |[],_=>by simp[Op.eqItems,eqTo]
 |i::is,h=>by
  have ih:=run_items f g w d is (fun j hj=>h j (List.mem_cons_of_mem _ hj))
  have hi:=h i (List.mem_cons_self ..)
  have p:∀f:Nat→Nat,(part 40 (u16s f 12).toArray (i * 1)).run Tryz.prog w=.ok (.int .u16 (f i)) w:=fun f=>by
   simp[part,u16s_at f i hi]
  simp only[Op.eqItems,Sem.run_bind,p,Result.andThen_ok,run_equalIn_int w d 40 .u16 .u16 _ _ Tryz.underlying40]
  by_cases he:f i=g i
  ·have:(((f i:Nat):Int) == (g i:Nat))=true:=by simp[he]
   simp[this,ih,eqTo,he]
  ·have:(((f i:Nat):Int) == (g i:Nat))=false:=by simp;omega
   simp[this,eqTo,he]
def relEq(f g:Nat→Nat):Bool:=eqTo f g (List.range 12)
theorem run_arr_rel(f g:Nat→Nat)(d:Nat)(w:World):(Op.equalIn (d+2) 41 (.agg (u16s f 12).toArray) (.agg (u16s g 12).toArray)).run Tryz.prog w=.ok (relEq f g) w:=by
 rw[run_equalIn_array w (d+1) _ _ Tryz.underlying41 (i:=Tryz.t40) Tryz.type40]
 exact run_items f g w d (List.range 12) (by simp)
theorem run_eql_rel(n m:Int)(f g:Nat→Nat)(w:World):
  (binOp .eql 43 (.agg (zat n f)) (.agg (zat m g))).run Tryz.prog w=.ok (.bool (n == m&&relEq f g)) w:=by
 have ha:=run_arr_rel f g 9997
 simp only[Nat.reduceAdd] at ha
 rw[run_eql_struct]
 go_simp
 simp only[zgU,relCells_ext,Sem.run_pure,Result.andThen_ok,ha]
 rw[run_equalIn_int w 9998 3 .i64 .i64 _ _ Tryz.underlying3]
 simp only[Result.andThen_ok]
 cases h:(n == m)
 ·simp
 ·simp only[Bool.true_eq_false,if_false]
  cases relEq f g<;>simp
theorem zjx(op:BinOp)(x y:Operand)(xs ys:Array Value)(w:World):(eqGuard op 43 x y (.agg xs) (.agg ys)).run Tryz.prog w=.ok () w :=
 run_eqGuard_agg w op _ x y xs ys Tryz.eqGuardType43
end
section
theorem upd_same(f:Nat→Nat)(i a:Nat):upd f i a i=a:=by simp[upd]
theorem zdX{m:Nat}(h:m<16):2^m<65536:=by
 have:=Nat.pow_lt_pow_right (a:=2) (by omega) h
 simpa using this
theorem bitsTo_lt_16(p:Nat→Bool){m:Nat}(h:m≤16):zbM p m<65536:=by
 have h1:=ziw p m
 have h2:=Nat.pow_le_pow_right (n:=2) (by omega) h
 have:(2:Nat)^16=65536:=by decide
 omega
end
section
open Go.RowKit
attribute [local go_sem ↓] run_eql_rel zjx exec_load_rel exec_store_rel
attribute [local go_sem] zaD relCells_ones relCells_get0 relCells_getS
theorem tb_rem(x j:Nat):(((x:Int) / 2^j).tmod 2 == 1)=x.testBit j:=by
 have e:((x:Int) / 2^j)=((x / 2^j:Nat):Int):=by simp
 rw[e,Int.tmod_eq_emod_of_nonneg (Int.natCast_nonneg _),Nat.testBit_eq_decide_div_mod_eq]
 generalize x / 2^j=y
 by_cases h:y % 2=1
 ·have:((y:Int) % 2 == 1)=true:=by simp;omega
  simp[h,this]
 ·have:((y:Int) % 2 == 1)=false:=by simp;omega
  simp[h,this]
theorem ahead_any(n:Int)(f:Nat→Nat)(i j:Nat)(w:World)(hi:i<12)(hj:j<16):
  Calls Tryz.prog 80 #[.agg (zat n f),.int .i64 i,.int .i64 j] w fun e w'=>e=.returned (.bool ((f i).testBit j))∧Below w.heap.size w w':=by
 have hi':(i:Int)<12:=by omega
 have a1:=zcx n f i hi
 go_enter Tryz.func80,Tryz.ntmps80
 go_wp2_with (fail)
 go_ret
 exact⟨zd7 (tb_rem _ _),by(repeat(first|assumption|exact Below.refl _ _|refine zaI ?_ _|refine Below.drew ?_|refine zaA ?_ _|(refine zbs ?_ (by first|(simp;done)|(simp;omega)) _)|(refine zbt ?_ (by first|(simp;done)|(simp;omega)) _)))⟩
end
end Go.Proofs.YtjdckepbihcgfaaGreatDoor
