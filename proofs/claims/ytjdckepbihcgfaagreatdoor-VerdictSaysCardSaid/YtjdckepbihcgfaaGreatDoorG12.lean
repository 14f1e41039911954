/- Lemmas for the walks (Obj9). No condition. -/
import Derived.Test.YtjdckepbihcgfaaGreatDoorG11
set_option linter.unusedSimpArgs false
set_option linter.unusedVariables false
set_option linter.unusedSectionVars false
set_option linter.unnecessarySimpa false
set_option maxRecDepth 100000
set_option maxHeartbeats 8000000
namespace Go.Proofs.YtjdckepbihcgfaaGreatDoor
section
open Go.RowKit
theorem zhN{p R:Prop}(r:R)(h:Rest R→p:=by intro r;(first|with_reducible (first|apply zcE|apply za9|apply zba|apply zbd|apply zbe)|((with_reducible (first|apply zaN|apply zaO));exact rfl;exact rfl;(with_reducible exact rfl)));(first|exact QS.auto|((with_reducible apply zcZ (j:=s.length-1));exact rfl;exact rfl;omega;omega));exact rfl;exact r.out):p:=h ⟨r⟩
def zco(w:World)(A:Option Addr)(s:List Int)(R:Res)(e:Ending)(w':World):Prop :=
 ∃x:Option Addr×Nat,e=.returned (zdU R x)∧(Own zag 1 3 w' w.heap.size (.slice x.1 R.1.length x.2) R.1∨((∀w2,RdInt w2 A s→RdInt w2 x.1 R.1)∧x.1.map (·.block)=A.map (·.block)∧R.1.length≤x.2∧(x.1=none→x.2=0)))∧Below w.heap.size w w'
theorem zb5{w w':World}{A A':Option Addr}{s:List Int}{c':Nat}{R:Res}(ho:Own zag 1 3 w' w.heap.size (.slice A' R.1.length c') R.1)(hb:Below w.heap.size w w'):zco w A s R (.returned (zdU R (A',c'))) w' :=
 ⟨(A',c'),rfl,.inl ho,hb⟩
section
variable (A:Option Addr)(c:Nat)(s:List Int)(a:Int)(w:World)(hA:RdInt w A s)(hAn:A=none→c=0)(hc:s.length≤c)(hl:s.length≤50) 
include hA hAn hc hl
omit hA hAn hc hl in
theorem stepd_1:Calls Tryz.prog 79 #[.slice A s.length c,.int .i64 1,.int .i64 a] w (zco w A s ([a],0,0)):=by
 refine zaj (S:=[]) [] Tryz.func79 rfl Tryz.ntmps79 Zj (Mem.nil _) ?_
 repeat' (first|refine zhN ?_|refine Zga ?_|(refine Zgb ?_;intro g)|(refine Zg ?_ ?_<;>(intro h;try exact Zx))|fail)
 (refine zah Tryz.results79 rfl (fun w' hw=>?_))
 exact zb5 (hw.blkOut (enc:=zag) [a] rfl Zm rfl (fun _=>rfl) (by show 1≤maxLen;decide)) (hw.below0 rfl)
omit hl in
theorem stepd_2(h0:0<s.length):Calls Tryz.prog 79 #[.slice A s.length c,.int .i64 2,.int .i64 a] w (zco w A s (s,s.getD 0 0,0)):=by
 have e:s.getD 0 0=s[0]:=by simp[List.getD_eq_getElem?_getD,h0]
 rw[e]
 obtain⟨b,o,rfl,_⟩:=RdE.open hA Zo
 refine zaj (S:=[]) [] Tryz.func79 rfl Tryz.ntmps79 Zj (Mem.nil _) ?_
 repeat' (first|refine zhN ?_|refine Zha ?_|(refine Zhb ?_;intro g)|(refine Zg ?_ ?_<;>(intro h;try exact Zx))|refine GOF ?_ ?_|((with_reducible apply zam (id:=9) 1000 (OT.seq [(0,0),(0,1),(0,2),(0,4),(1,3),(0,5),(0,6)] .nil));kernel_rfl;exact rfl;kernel_rfl;exact Zd)|((with_reducible apply zam (id:=18) 1000 (OT.seq [(0,0),(0,1),(0,2),(0,3),(0,5),(1,4),(0,6),(0,7)] .nil));kernel_rfl;exact rfl;kernel_rfl;exact Zd)|((with_reducible apply zam (id:=19) 1000 (OT.seq [(0,0),(0,1),(0,2),(0,3),(0,4),(0,5),(0,6),(0,7),(0,9),(1,8),(0,10),(0,11)] .nil));kernel_rfl;exact rfl;kernel_rfl;exact Zd)|((with_reducible apply zam (id:=21) 1000 (OT.seq [(0,0),(0,1),(0,5),(0,6),(1,2),(0,3),(1,7),(2,4),(0,8),(0,9),(0,10)] .nil));kernel_rfl;exact rfl;kernel_rfl;exact Zd)|fail)
 (refine zah Tryz.results79 rfl (fun w' hw=>?_))
 exact⟨(_,c),rfl,.inr ⟨fun _ h=>h,rfl,hc,hAn⟩,hw.below0 rfl⟩
theorem stepd_4:Calls Tryz.prog 79 #[.slice A s.length c,.int .i64 4,.int .i64 a] w (zco w A s (if s.length=0 then(s,-1,0) else(s.drop 1,s.getD 0 0,0))):=by
 by_cases h0:s.length=0
 ·rw[if_pos h0]
  refine zaj (S:=[]) [] Tryz.func79 rfl Tryz.ntmps79 Zj (Mem.nil _) ?_
  repeat' (first|refine zhN ?_|refine Zga ?_|(refine Zgb ?_;intro g)|(refine Zg ?_ ?_<;>(intro h;try exact Zx))|fail)
  (refine zah Tryz.results79 rfl (fun w' hw=>?_))
  exact⟨(A,c),rfl,.inr ⟨fun _ h=>h,rfl,hc,hAn⟩,hw.below0 rfl⟩
 ·have h01:1≤s.length:=by omega
  rw[if_neg h0]
  have e:s.getD 0 0=s[0]:=by simp[List.getD_eq_getElem?_getD,show 0<s.length by omega]
  rw[e]
  obtain⟨b,o,rfl,_⟩:=RdE.open hA Zo
  refine zaj (S:=[]) [] Tryz.func79 rfl Tryz.ntmps79 Zj (Mem.nil _) ?_
  repeat' (first|refine zhN ?_|refine Zha ?_|(refine Zhb ?_;intro g)|(refine Zg ?_ ?_<;>(intro h;try exact Zx))|refine GOF ?_ ?_|((with_reducible apply zam (id:=9) 1000 (OT.seq [(0,0),(0,1),(0,2),(0,4),(1,3),(0,5),(0,6)] .nil));kernel_rfl;exact rfl;kernel_rfl;exact Zd)|((with_reducible apply zam (id:=18) 1000 (OT.seq [(0,0),(0,1),(0,2),(0,3),(0,5),(1,4),(0,6),(0,7)] .nil));kernel_rfl;exact rfl;kernel_rfl;exact Zd)|((with_reducible apply zam (id:=19) 1000 (OT.seq [(0,0),(0,1),(0,2),(0,3),(0,4),(0,5),(0,6),(0,7),(0,9),(1,8),(0,10),(0,11)] .nil));kernel_rfl;exact rfl;kernel_rfl;exact Zd)|((with_reducible apply zam (id:=21) 1000 (OT.seq [(0,0),(0,1),(0,5),(0,6),(1,2),(0,3),(1,7),(2,4),(0,8),(0,9),(0,10)] .nil));kernel_rfl;exact rfl;kernel_rfl;exact Zd)|fail)
  (refine zah Tryz.results79 rfl (fun w' hw=>?_))
  have e1:(s.drop 1).length=s.length-1:=by simp
  refine⟨(some ⟨b,if c=1 then o else o+1 * 1,none⟩,c-1),by rw[zdU,e1];rfl,.inr ⟨?_,rfl,by rw[e1];show s.length-1≤c-1;omega,fun h=>by cases h⟩,hw.below0 rfl⟩
  intro w2 h2
  by_cases hc1:c=1
  ·have hn:s.drop 1=[]:=List.drop_eq_nil_of_le Zo
   show RdE zag 1 w2 _ (s.drop 1)
   rw[hn];exact RdE.nil _
  ·show RdE zag 1 w2 (some ⟨b,if c=1 then o else o+1 * 1,none⟩) (s.drop 1)
   rw[if_neg hc1]
   exact h2.drop 1
theorem stepd_6:Calls Tryz.prog 79 #[.slice A s.length c,.int .i64 6,.int .i64 a] w (zco w A s (if s.length=0 then(s,-1,0) else(s.take (s.length-1),s.getD (s.length-1) 0,0))):=by
 by_cases h0:s.length=0
 ·rw[if_pos h0]
  refine zaj (S:=[]) [] Tryz.func79 rfl Tryz.ntmps79 Zj (Mem.nil _) ?_
  repeat' (first|refine zhN ?_|refine Zga ?_|(refine Zgb ?_;intro g)|(refine Zg ?_ ?_<;>(intro h;try exact Zx))|fail)
  (refine zah Tryz.results79 rfl (fun w' hw=>?_))
  exact⟨(A,c),rfl,.inr ⟨fun _ h=>h,rfl,hc,hAn⟩,hw.below0 rfl⟩
 ·rw[if_neg h0]
  have e:s.getD (s.length-1) 0=s[s.length-1]:=by simp[List.getD_eq_getElem?_getD,show s.length-1<s.length by omega]
  rw[e]
  have e3:((s.length:Int)-1).toNat=s.length-1:=by omega
  obtain⟨b,o,rfl,_⟩:=RdE.open hA Zo
  refine zaj (S:=[]) [] Tryz.func79 rfl Tryz.ntmps79 Zj (Mem.nil _) ?_
  repeat' (first|refine zhN ?_|refine Zha ?_|(refine Zhb ?_;intro g)|(refine Zg ?_ ?_<;>(intro h;try exact Zx))|refine GOF ?_ ?_|((with_reducible apply zam (id:=9) 1000 (OT.seq [(0,0),(0,1),(0,2),(0,4),(1,3),(0,5),(0,6)] .nil));kernel_rfl;exact rfl;kernel_rfl;exact Zd)|((with_reducible apply zam (id:=18) 1000 (OT.seq [(0,0),(0,1),(0,2),(0,3),(0,5),(1,4),(0,6),(0,7)] .nil));kernel_rfl;exact rfl;kernel_rfl;exact Zd)|((with_reducible apply zam (id:=19) 1000 (OT.seq [(0,0),(0,1),(0,2),(0,3),(0,4),(0,5),(0,6),(0,7),(0,9),(1,8),(0,10),(0,11)] .nil));kernel_rfl;exact rfl;kernel_rfl;exact Zd)|((with_reducible apply zam (id:=21) 1000 (OT.seq [(0,0),(0,1),(0,5),(0,6),(1,2),(0,3),(1,7),(2,4),(0,8),(0,9),(0,10)] .nil));kernel_rfl;exact rfl;kernel_rfl;exact Zd)|fail)
  (refine zah Tryz.results79 rfl (fun w' hw=>?_))
  have e1:(s.take (s.length-1)).length=s.length-1:=by simp
  exact⟨(some ⟨b,o,none⟩,c),by rw[zdU,e1];simp only[e3,za0],.inr ⟨fun _ h=>h.take _,rfl,by rw[e1];show s.length-1≤c;omega,hAn⟩,hw.below0 rfl⟩
omit hc in
theorem stepd_put(kind:Int)(hk:kind=3∨kind=5):Calls Tryz.prog 79 #[.slice A s.length c,.int .i64 kind,.int .i64 a] w (zco w A s (putR s a)):=by
 by_cases h0:s.length=50
 ·have e:putR s a=([],0,2):=by rw[putR,if_pos h0]
  rw[e]
  refine zaj (S:=[]) [] Tryz.func79 rfl Tryz.ntmps79 Zj (Mem.nil _) ?_
  rcases hk with rfl|rfl
  all_goals
   repeat' (first|refine zhN ?_|refine Zga ?_|(refine Zgb ?_;intro g)|(refine Zg ?_ ?_<;>(intro h;try exact Zx))|fail)
   (refine zah Tryz.results79 rfl (fun w' hw=>?_))
   exact zb5 (R:=([],0,2)) (A':=none) (c':=0) (Own.nil _ _) (hw.below0 rfl)
 ·have e:putR s a=(s++[a],0,0):=by rw[putR,if_neg h0]
  rw[e]
  refine zaj (S:=[]) [] Tryz.func79 rfl Tryz.ntmps79 Zj (Mem.nil _) ?_
  rcases hk with rfl|rfl
  all_goals
   repeat' (first|refine zhN ?_|refine Zga ?_|(refine Zgb ?_;intro g)|(refine Zg ?_ ?_<;>(intro h;try exact Zx))|((with_reducible (first|apply zaa|apply TD_e3z|apply zan|apply zaf|apply zae));((with_reducible apply zbv zag);exact rfl);exact Zh;(rintro _ _ ⟨g,rfl,rfl⟩);(try refine⟨SUB,?_⟩))|((with_reducible (first|apply zaa|apply TD_e3z|apply zan|apply zaf|apply zae));((with_reducible apply zbp (enc:=zag) (xs:=s) (ls:=[]));exact rfl;exact rfl;exact Lies.rd hA rfl (fun _=>rfl) Zo hAn;exact fun _=>rfl;exact fun _=>rfl;(intro A' c';exact Zu);(simp;omega);decide;exact rfl);exact Zh;(rintro _ _ ⟨A',c',rfl,rfl⟩);(try refine⟨SUB,?_⟩))|((with_reducible (first|apply zaa|apply TD_e3z|apply zan|apply zaf|apply zae));((with_reducible apply zaw (enc:=zag));exact rfl;exact rfl;exact Zm;exact rfl;exact fun _=>rfl;exact fun _=>rfl;(intro A' c';exact Zu);(simp;omega);decide;exact rfl);exact Zh;(rintro _ _ ⟨A',c',rfl,rfl⟩);(try refine⟨SUB,?_⟩))|fail)
   (refine zah Tryz.results79 rfl (fun w' hw=>?_))
   have ho:=hw.ownOut (enc:=zag) (M:=1) (ls:=[]++s++[a]) (A:=A') (c:=c') rfl Zm
   rw[List.nil_append] at ho
   exact zb5 (R:=(s++[a],0,0)) ho (hw.below0 rfl)
end
end
end Go.Proofs.YtjdckepbihcgfaaGreatDoor
