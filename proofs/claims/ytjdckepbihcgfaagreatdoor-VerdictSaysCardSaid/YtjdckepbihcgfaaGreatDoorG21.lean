/- Lemmas for the walks (Seq6). No condition. -/
import Derived.Test.YtjdckepbihcgfaaGreatDoorG20
set_option linter.unusedSimpArgs false
set_option linter.unusedVariables false
set_option linter.unusedSectionVars false
set_option linter.unnecessarySimpa false
set_option maxRecDepth 100000
set_option maxHeartbeats 8000000
namespace Go.Proofs.YtjdckepbihcgfaaGreatDoor
section
open Go.RowKit
theorem few_epochs{ts:List Int}{l:List Ev}(h:(zfl ts l).2=0):l.length≤200∧(zd1 l l.length).1=zcP (zfl ts l).1:=by
 by_cases h0:(zai ts l).2.2=0
 ·by_cases h9:9<(zai ts l).1.length
  ·rw[zhi h0 h9] at h;cases h
  ·obtain⟨_,h2,h3,h4⟩:=zbJ h0
   rw[zfX h0 h9]
   refine⟨h2,?_⟩
   show _=zcP (zai ts l).1
   rw[h4]
   exact epochs_calm h3
 ·rw[fewS_err h0] at h;exact absurd h h0
theorem calmL_len(cs:List Cl):(zcP cs).length=cs.length:=by simp[zcP]
section
variable (A0 B0:Option Addr)(c0 d0:Nat)(ts:List Int)(l:List Ev)(w:World)(hts:ts.length≤9223372036854775807)(hl:l.length≤9223372036854775807)(hT:RdInt w A0 ts)(hA:RdEv w B0 l) 
include hts hl hT hA
theorem seqQuiet_any:Calls Tryz.prog 11 #[.slice A0 ts.length c0,.slice B0 l.length d0] w fun e w'=>∃A c,e=.returned (.tuple #[.slice A ((zbE ts l zbw).getD []).length c,.bool (zbE ts l zbw).isSome,.int .i64 (zfl ts l).2]) ∧
  Own Stp.enc 2 49 w' w.heap.size (.slice A ((zbE ts l zbw).getD []).length c) ((zbE ts l zbw).getD [])∧Below w.heap.size w w':=by
 have h1:=fun w h1 h2=>zdg A0 B0 c0 d0 ts l w hts hl h1 h2
 have hf:=zc2 (ts:=ts) (l:=l)
 have hfe:=few_epochs (ts:=ts) (l:=l)
 unfold zbE
 generalize zfl ts l=F at *
 obtain⟨cs,er⟩:=F
 dsimp only at h1 hf hfe ⊢
 refine zaj (S:=[]) [] Tryz.func11 rfl Tryz.ntmps11 Zj (Mem.nil _) ?_
 by_cases h0:er=0
 ·subst h0
  have hs:=hf rfl
  have h9:=hs.few
  obtain⟨hl2,hee⟩:=hfe rfl
  have hep:=fun w h=>epochs_any B0 d0 l w h hl2
  rw[hee] at hep
  have hsm:=fun A c w' h1 h2=>ze3 A0 A c0 c ts cs cs.length (zbw cs) w' hs.types hs.calls h9 (fun i _=>relCalm_16 cs Zo i) h1 h2
  have hLl:=calmL_len cs
  have hLg:∀i (h:i<cs.length),(zcP cs)[i]'(by rw[hLl];exact h)=(zfZ cs i:Int):=by intro i h;simp[zcP]
  rw[if_pos rfl]
  generalize zbq ts cs (zbw cs)=o at *
  obtain⟨L,hLe⟩:∃L,zcP cs=L:=⟨_,rfl⟩
  simp only[hLe] at hep hLl hLg
  repeat' (first|refine Zga ?_|(refine Zgb ?_;intro g)|(refine Zg ?_ ?_<;>(intro h;try exact Zx))|((with_reducible (first|apply zaa|apply TD_e3z|apply zan|apply zaf|apply zae));((with_reducible apply zal (f:=42));exact rfl;(intro w hw;exact h1 w (hw.rd rfl hT) (hw.rd rfl hA));exact rfl);exact Zh;(rintro _ _ ⟨A1,c1,rfl,rfl⟩);(try refine⟨SUB,?_⟩))|((with_reducible (first|apply zaa|apply TD_e3z|apply zan|apply zaf|apply zae));((with_reducible apply zal (f:=45));exact rfl;(intro w hw;exact hep w (hw.rd rfl hA));exact rfl);exact Zh;(rintro _ _ ⟨A5,c5,rfl,rfl⟩);(try refine⟨SUB,?_⟩))|fail)
  obtain⟨gr,rfl⟩:∃x,x=g:=⟨_,rfl⟩
  refine zap (X:=Nat) (fun k=>[(31,.int .i64 (k:Nat)),(30,.int .i64 L.length),(10,.slice A5 L.length c5),(9,.pointer (some ⟨gr,0,none⟩)),(7,.slice A1 cs.length c1),(0,.slice A0 ts.length c0)])
   (fun k=>[zac zag 1 3 A5 c5 L,zak gr 43 (zat cs.length (zcT (orP (fun _ _=>false) (zd2 cs) k 0) cs.length)),zac Cl.enc 7 36 A1 c1 cs]) (fun k=>k≤cs.length) (fun k=>cs.length-k) 0 Zo Ze (fun w hw=>by rw[orP_0,relN_0];exact hw) ?_
  intro k hk
  by_cases hkk:k<cs.length
  ·have hLm:0<L.length:=by omega
   refine zb1 (enc:=zag) (ls:=L) Zm hLm ?_
   rintro gA rfl
   have hkL:k<L.length:=by omega
   repeat' (first|refine Zga ?_|(refine Zgb ?_;intro g)|(refine Zg ?_ ?_<;>(intro h;try exact Zx))|fail)
   refine zap (X:=Nat) (fun m=>[(36,.int .i64 (m:Nat)),(35,.int .i64 L.length),(11,.int .i64 (k:Nat)),(31,.int .i64 (k:Nat)),(30,.int .i64 L.length),(10,.slice (some ⟨gA,0,none⟩) L.length c5),(9,.pointer (some ⟨gr,0,none⟩)),(7,.slice A1 cs.length c1),(0,.slice A0 ts.length c0)])
    (fun m=>[zac zag 1 3 (some ⟨gA,0,none⟩) c5 L,zak gr 43 (zat cs.length (zcT (orP (fun _ _=>false) (zd2 cs) k m) cs.length)),zac Cl.enc 7 36 A1 c1 cs]) (fun m=>m≤cs.length) (fun m=>cs.length-m) 0 Zo Ze (fun w hw=>hw) ?_
   intro m hml
   by_cases hmm:m<cs.length
   ·have hq:zd2 cs k m=decide (zfZ cs k<zfZ cs m):=rfl
    have hmL:m<L.length:=by omega
    have hgk:=hLg k hkk
    have hgm:=hLg m hmm
    have hlt:=zcO (orP (fun _ _=>false) (zd2 cs) k m) (n:=cs.length) Zo k
    have hpm:=zdX (m:=m) Zo
    have hyes:=relN_yes (P:=fun _ _=>false) (Q:=zd2 cs) hkk hmm
    have hno:=zhh (P:=fun _ _=>false) (Q:=zd2 cs) (n:=cs.length) (k:=k) (m:=m)
    obtain⟨F,hFF⟩:∃F,zcT (orP (fun _ _=>false) (zd2 cs) k m) cs.length=F:=⟨_,rfl⟩
    rw[hFF] at hyes hno hlt ⊢
    repeat' (first|refine Zha ?_|(refine Zhb ?_;intro g)|(refine Zg ?_ ?_<;>(intro h;try exact Zx))|refine GOF ?_ ?_|((with_reducible apply zam (id:=12) 1000 (OT.seq [(0,0),(0,1),(0,2),(0,4),(0,5),(0,6),(1,3),(1,7),(0,8)] .nil));kernel_rfl;exact rfl;kernel_rfl;exact Zd)|fail)
    all_goals
     refine zab (m+1) Zo Zo Ze (fun w hw=>?_)
     first
      |(rw[←hyes (by rw[hq];exact decide_eq_true Zo)];exact hw)
      |(rw[←hno (by rw[hq];exact decide_eq_false Zo)];exact hw)
   ·obtain rfl:m=cs.length:=by omega
    repeat' (first|refine Zga ?_|(refine Zgb ?_;intro g)|(refine Zg ?_ ?_<;>(intro h;try exact Zx))|fail)
    refine zab (k+1) Zo Zo Ze (fun w hw=>?_)
    rw[←zdZ]
    exact hw
  ·obtain rfl:k=cs.length:=by omega
   have hdone:zcT (orP (fun _ _=>false) (zd2 cs) cs.length 0) cs.length=zbw cs:=by rw[zd0,zhU]
   rw[hdone]
   generalize zbw cs=R at *
   repeat' (first|refine Zga ?_|(refine Zgb ?_;intro g)|(refine Zg ?_ ?_<;>(intro h;try exact Zx))|((with_reducible (first|apply zaa|apply TD_e3z|apply zan|apply zaf|apply zae));((with_reducible apply zal (f:=43));exact rfl;(intro w hw;exact hsm _ _ w (hw.rd rfl hT) (hw.ownRd Zm (fun _=>rfl)));exact rfl);exact Zh;(rintro _ _ ⟨A6,c6,rfl,rfl⟩);(try refine⟨SUB,?_⟩))|fail)
   (refine zah Tryz.results11 rfl (fun w' hw=>?_))
   exact⟨A6,c6,rfl,hw.ownOut rfl Zm,hw.below0 rfl⟩
 ·rw[if_neg h0]
  repeat' (first|refine Zga ?_|(refine Zgb ?_;intro g)|(refine Zg ?_ ?_<;>(intro h;try exact Zx))|((with_reducible (first|apply zaa|apply TD_e3z|apply zan|apply zaf|apply zae));((with_reducible apply zal (f:=42));exact rfl;(intro w hw;exact h1 w (hw.rd rfl hT) (hw.rd rfl hA));exact rfl);exact Zh;(rintro _ _ ⟨A1,c1,rfl,rfl⟩);(try refine⟨SUB,?_⟩))|fail)
  (refine zah Tryz.results11 rfl (fun w' hw=>?_))
  exact⟨none,0,rfl,Own.nil _ _,hw.below0 rfl⟩
end
end
end Go.Proofs.YtjdckepbihcgfaaGreatDoor
