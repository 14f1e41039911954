/- Lemmas for the walks (ObjA). No condition. -/
import Derived.Test.YtjdckepbihcgfaaGreatDoorG12
set_option linter.unusedSimpArgs false
set_option linter.unusedVariables false
set_option linter.unusedSectionVars false
set_option linter.unnecessarySimpa false
set_option maxRecDepth 100000
set_option maxHeartbeats 8000000
namespace Go.Proofs.YtjdckepbihcgfaaGreatDoor
section
open Go.RowKit
theorem setSt_len{kind a:Int}{st:Int×List Int×Bool}{x:Int}:(zaW kind a st x).2.1.length≤st.2.1.length+2:=by
 unfold zaW
 dsimp only
 repeat' split
 all_goals simp
theorem stepd_10(A:Option Addr)(c:Nat)(s:List Int)(a:Int)(w:World)(hA:RdInt w A s)(x:Int)(hs:s=[x])(hx:0≤x∧x≤1000):Calls Tryz.prog 79 #[.slice A s.length c,.int .i64 10,.int .i64 a] w (zco w A s (if x=1000 then([],0,2) else([x+1],x,0))):=by
 subst hs
 obtain⟨b,o,rfl,_⟩:=RdE.open hA Zj
 have hx0:[x][0]=x:=rfl
 have hx1:0<[x].length:=by simp
 have hx3:-9223372036854775808≤[x][0]+1:=by omega
 have hx2:[x][0]+1≤9223372036854775807:=by omega
 refine zaj (S:=[]) [] Tryz.func79 rfl Tryz.ntmps79 Zj (Mem.nil _) ?_
 repeat' (first|refine Zha ?_|(refine Zhb ?_;intro g)|(refine Zg ?_ ?_<;>(intro h;try exact Zx))|refine GOF ?_ ?_|((with_reducible apply zam (id:=9) 1000 (OT.seq [(0,0),(0,1),(0,2),(0,4),(1,3),(0,5),(0,6)] .nil));kernel_rfl;exact rfl;kernel_rfl;exact Zd)|((with_reducible apply zam (id:=18) 1000 (OT.seq [(0,0),(0,1),(0,2),(0,3),(0,5),(1,4),(0,6),(0,7)] .nil));kernel_rfl;exact rfl;kernel_rfl;exact Zd)|((with_reducible apply zam (id:=19) 1000 (OT.seq [(0,0),(0,1),(0,2),(0,3),(0,4),(0,5),(0,6),(0,7),(0,9),(1,8),(0,10),(0,11)] .nil));kernel_rfl;exact rfl;kernel_rfl;exact Zd)|((with_reducible apply zam (id:=21) 1000 (OT.seq [(0,0),(0,1),(0,5),(0,6),(1,2),(0,3),(1,7),(2,4),(0,8),(0,9),(0,10)] .nil));kernel_rfl;exact rfl;kernel_rfl;exact Zd)|fail)
 ·(refine zah Tryz.results79 rfl (fun w' hw=>?_))
  rw[if_pos (show x=1000 from ‹[x][0]=1000›)]
  exact zb5 (R:=([],0,2)) (A':=none) (c':=0) (Own.nil _ _) (hw.below0 rfl)
 ·(refine zah Tryz.results79 rfl (fun w' hw=>?_))
  rw[if_neg (show ¬x=1000 from ‹¬[x][0]=1000›)]
  exact zb5 (R:=([x+1],x,0)) (hw.blkOut (enc:=zag) [x+1] rfl Zm rfl (fun _=>rfl) (by show 1≤maxLen;decide)) (hw.below0 rfl)
section
variable (A:Option Addr)(c:Nat)(s:List Int)(a kind:Int)(w:World)(hA:RdInt w A s)(hl:s.length≤50)(hk:kind=7∨kind=8∨kind=9) 
include hA hl hk
theorem stepd_set:Calls Tryz.prog 79 #[.slice A s.length c,.int .i64 kind,.int .i64 a] w (zco w A s (if kind=7∧s.contains a=false∧s.length=50 then([],0,2) else((setR s kind a).1,(setR s kind a).2,0))):=by
 have hcon:=fun w h=>zcg A c s a w Zo h
 have hz:setR s kind a=zcH kind a (s.foldl (zaW kind a) (0,[],!decide (kind=7))):=rfl
 rw[hz]
 clear hz
 obtain⟨F,hF⟩:∃F,s.foldl (zaW kind a) (0,[],!decide (kind=7))=F:=⟨_,rfl⟩
 rw[hF]
 generalize hzc:s.contains a=z at *
 refine zaj (S:=[]) [] Tryz.func79 rfl Tryz.ntmps79 Zj (Mem.nil _) ?_
 have h3:¬kind=3:=by omega
 have h5:¬kind=5:=by omega
 have h10:¬kind=10:=by omega
 have h1:¬kind=1:=by omega
 have h2:¬kind=2:=by omega
 have h4:¬kind=4:=by omega
 have h6:¬kind=6:=by omega
 by_cases hfull:kind=7∧z=false∧s.length=50
 ·rw[if_pos hfull]
  obtain⟨rfl,rfl,h50⟩:=hfull
  repeat' (first|refine Zga ?_|(refine Zgb ?_;intro g)|(refine Zg ?_ ?_<;>(intro h;try exact Zx))|((with_reducible (first|apply zaa|apply TD_e3z|apply zan|apply zaf|apply zae));((with_reducible apply zad (f:=71));exact rfl;(intro w hw;exact hcon w (hw.rd rfl hA));exact rfl);exact Zh;(rintro _ _ ⟨rfl,rfl⟩);(try refine⟨SUB,?_⟩))|fail)
  (refine zah Tryz.results79 rfl (fun w' hw=>?_))
  exact zb5 (R:=([],0,2)) (A':=none) (c':=0) (Own.nil _ _) (hw.below0 rfl)
 ·rw[if_neg hfull]
  repeat' (first|refine Zga ?_|(refine Zgb ?_;intro g)|(refine Zg ?_ ?_<;>(intro h;try exact Zx))|((with_reducible (first|apply zaa|apply TD_e3z|apply zan|apply zaf|apply zae));((with_reducible apply zad (f:=71));exact rfl;(intro w hw;exact hcon w (hw.rd rfl hA));exact rfl);exact Zh;(rintro _ _ ⟨rfl,rfl⟩);(try refine⟨SUB,?_⟩))|fail)
  all_goals first
   |(exfalso;exact hfull ⟨by assumption,by assumption,by omega⟩)
   |skip
  all_goals
   refine T_mem (S':=[zac zag 1 3 none 0 ([]:List Int)]) (fun w hw=>hw.nilOwn _ _ _) ?_
   refine zap (X:=Nat×(Int×List Int×Bool)×Option Addr×Nat) (fun x=>[(105,.int .i64 (x.1:Nat)),(104,.int .i64 s.length),(103,.slice A s.length c),(13,.bool x.2.1.2.2),(12,.slice x.2.2.1 x.2.1.2.1.length x.2.2.2),(11,.int .i64 x.2.1.1),(2,.int .i64 a),(1,.int .i64 kind)])
    (fun x=>[zac zag 1 3 x.2.2.1 x.2.2.2 x.2.1.2.1])
    (fun x=>x.1≤s.length∧x.2.1.2.1.length≤2 * x.1∧(s.take x.1).foldl (zaW kind a) (0,[],!decide (kind=7))=x.2.1∧(x.2.1.1=0∨x.2.1.1=1)) (fun x=>s.length-x.1) (0,(0,[],!decide (kind=7)),none,0) ⟨by simp,by simp,by simp,by simp⟩ Ze (by exact zaK) ?_
   rintro⟨k,⟨was,out,put⟩,A1,c1⟩ ⟨hk1,hout,hfold,hwas⟩
   dsimp only at hk1 hout hfold hwas ⊢
   by_cases hlt:k<s.length
   ·have hfs:=zix (zaW kind a) (0,[],!decide (kind=7)) s k hlt
    rw[hfold] at hfs
    have hsl:=setSt_len (kind:=kind) (a:=a) (st:=(was,out,put)) (x:=s[k])
    obtain⟨b,o,rfl,_⟩:=RdE.open hA Zo
    repeat' (first|refine Zga ?_|(refine Zgb ?_;intro g)|(refine Zg ?_ ?_<;>(intro h;try exact Zx))|((with_reducible (first|apply zaa|apply TD_e3z|apply zan|apply zaf|apply zae));((with_reducible apply zaw (enc:=zag));exact rfl;exact rfl;exact Zm;exact rfl;exact fun _=>rfl;exact fun _=>rfl;(intro A' c';exact Zu);(omega);decide;exact rfl);exact Zh;(rintro _ _ ⟨A',c',rfl,rfl⟩);(try refine⟨SUB,?_⟩))|((with_reducible (first|apply zaa|apply TD_e3z|apply zan|apply zaf|apply zae));((with_reducible apply zaw (enc:=zag));exact rfl;exact rfl;exact Zm;exact rfl;exact fun _=>rfl;exact fun _=>rfl;(intro A' c';exact Zu);((rw[List.length_append];simp only[List.length_singleton];omega));decide;exact rfl);exact Zh;(rintro _ _ ⟨A',c',rfl,rfl⟩);(try refine⟨SUB,?_⟩))|fail)
    all_goals
     apply zab (k+1,(_,_,_),_,_)
     case hE=>exact Ze
     case hS=>exact zaK
     case hμ=>(try dsimp only);omega
     case hp =>
      have hfin:∀st',zaW kind a (was,out,put) s[k]=st'→(s.take (k+1)).foldl (zaW kind a) (0,[],!decide (kind=7))=st':=fun st' e=>by rw[hfs];exact e
      refine⟨hlt,by simp;omega,hfin _ ?_,by first|exact hwas|exact .inr rfl⟩
      first
       |(have hlt':=Int.not_le.2 ‹s[k]<a›
         simp[zaW, *])
       |simp[zaW, *]
   ·obtain rfl:k=s.length:=by omega
    rw[List.take_length,hF] at hfold
    subst hfold
    repeat' (first|refine Zga ?_|(refine Zgb ?_;intro g)|(refine Zg ?_ ?_<;>(intro h;try exact Zx))|((with_reducible (first|apply zaa|apply TD_e3z|apply zan|apply zaf|apply zae));((with_reducible apply zaw (enc:=zag));exact rfl;exact rfl;exact Zm;exact rfl;exact fun _=>rfl;exact fun _=>rfl;(intro A' c';exact Zu);(omega);decide;exact rfl);exact Zh;(rintro _ _ ⟨A',c',rfl,rfl⟩);(try refine⟨SUB,?_⟩))|((with_reducible (first|apply zaa|apply TD_e3z|apply zan|apply zaf|apply zae));((with_reducible apply zaw (enc:=zag));exact rfl;exact rfl;exact Zm;exact rfl;exact fun _=>rfl;exact fun _=>rfl;(intro A' c';exact Zu);((rw[List.length_append];simp only[List.length_singleton];omega));decide;exact rfl);exact Zh;(rintro _ _ ⟨A',c',rfl,rfl⟩);(try refine⟨SUB,?_⟩))|fail)
    all_goals
     (refine zah Tryz.results79 rfl (fun w' hw=>?_))
     first
      |(have e:zcH kind a (was,out,put)=(out++[a],1-was):=by simp[zcH, *]
        rw[e];exact zb5 (R:=(out++[a],1-was,0)) (hw.ownOut rfl Zm) (hw.below0 rfl))
      |(have e:zcH kind a (was,out,put)=(out++[a],was):=by simp[zcH, *]
        rw[e];exact zb5 (R:=(out++[a],was,0)) (hw.ownOut rfl Zm) (hw.below0 rfl))
      |(have e:zcH kind a (was,out,put)=(out,1-was):=by simp[zcH, *]
        rw[e];exact zb5 (R:=(out,1-was,0)) (hw.ownOut rfl Zm) (hw.below0 rfl))
      |(have e:zcH kind a (was,out,put)=(out,was):=by simp[zcH, *]
        rw[e];exact zb5 (R:=(out,was,0)) (hw.ownOut rfl Zm) (hw.below0 rfl))
end
end
end Go.Proofs.YtjdckepbihcgfaaGreatDoor
