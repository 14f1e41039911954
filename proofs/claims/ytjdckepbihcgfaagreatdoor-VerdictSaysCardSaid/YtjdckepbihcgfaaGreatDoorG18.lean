/- Lemmas for the walks (Sea9). No condition. -/
import Derived.Test.YtjdckepbihcgfaaGreatDoorG17
set_option linter.unusedSimpArgs false
set_option linter.unusedVariables false
set_option linter.unusedSectionVars false
set_option linter.unnecessarySimpa false
set_option maxRecDepth 100000
set_option maxHeartbeats 8000000
namespace Go.Proofs.YtjdckepbihcgfaaGreatDoor
section
open Go.RowKit
section
variable (k:Int)(s:Stp)(g:Nat)(w:World)(hg:g<w.heap.size)(hc:w.cell? ⟨g,0,none⟩=some (.int .i64 k)) 
include hg hc
theorem isCall1_any:Calls Tryz.prog 77 #[.agg (Stp.enc s).toArray,.pointer (some ⟨g,0,none⟩)] w fun e w'=>e=.returned (.bool (decide (s.call=k)))∧Below w.heap.size w w':=by
 refine zaj (S:=[]) [] Tryz.func77 rfl Tryz.ntmps77 Zj (Mem.nil _) ?_
 repeat' (first|refine Zga ?_|(refine Zgb ?_;intro g)|(refine Zg ?_ ?_<;>(intro h;try exact Zx))|((with_reducible apply zcE);((with_reducible apply za1);exact rfl;exact Lds.old hg Zj hc);exact rfl)|fail)
 (refine zah Tryz.results77 rfl (fun w' hw=>?_))
 exact⟨rfl,hw.below0 rfl⟩
theorem isCall2_any:Calls Tryz.prog 81 #[.agg (Stp.enc s).toArray,.pointer (some ⟨g,0,none⟩)] w fun e w'=>e=.returned (.bool (decide (s.call=k)))∧Below w.heap.size w w':=by
 refine zaj (S:=[]) [] Tryz.func81 rfl Tryz.ntmps81 Zj (Mem.nil _) ?_
 repeat' (first|refine Zga ?_|(refine Zgb ?_;intro g)|(refine Zg ?_ ?_<;>(intro h;try exact Zx))|((with_reducible apply zcE);((with_reducible apply za1);exact rfl;exact Lds.old hg Zj hc);exact rfl)|fail)
 (refine zah Tryz.results81 rfl (fun w' hw=>?_))
 exact⟨rfl,hw.below0 rfl⟩
end
theorem any_take_no{α:Type}{p:α→Bool}{l:List α}{k:Nat}(hk:k<l.length)(h1:(l.take k).any p=false)(h2:p l[k]=false):(l.take (k+1)).any p=false:=by
 rw[List.take_succ_eq_append_getElem hk,List.any_append,h1];simp[h2]
section
variable (fn:Nat)[IsFn Tryz.prog fn](p:Stp→Bool)(cv:Value)(A:Option Addr)(c:Nat)(l:List Stp)(w:World)(hA:RdStp w A l)(hl:l.length≤9223372036854775807) 
variable (hp:∀s w',Below w.heap.size w w'→Calls Tryz.prog fn #[.agg (Stp.enc s).toArray,cv] w' fun e w2=>e=.returned (.bool (p s))∧Below w'.heap.size w' w2) 
include hA hl hp
theorem indexStp_any:Calls Tryz.prog 131 #[.slice A l.length c,.func (.func fn) #[] #[cv]] w fun e w'=>(∃z:Int,e=.returned (.int .i64 z)∧decide (0≤z)=l.any p)∧Below w.heap.size w w':=by
 refine zaj (S:=[]) [] Tryz.func131 rfl Tryz.ntmps131 Zj (Mem.nil _) ?_
 repeat' (first|refine Zga ?_|(refine Zgb ?_;intro g)|(refine Zg ?_ ?_<;>(intro h;try exact Zx))|fail)
 refine zap (X:=Nat) (fun k=>[(8,.int .i64 (k:Nat)),(7,.int .i64 (l.length:Nat)),(1,.func (.func fn) #[] #[cv]),(0,.slice A l.length c)]) (fun _=>[])
  (fun k=>k≤l.length∧(l.take k).any p=false) (fun k=>l.length-k) 0 ⟨by omega,by simp⟩ Ze (by exact zaK) ?_
 rintro k ⟨hk,hno⟩
 by_cases hkl:k<l.length
 ·obtain⟨b,o,rfl,_⟩:=RdE.open hA Zo
  have hb:=fun w' hb=>hp l[k] w' hb
  generalize hz:p l[k]=z at hb
  repeat' (first|refine Zga ?_|(refine Zgb ?_;intro g)|(refine Zg ?_ ?_<;>(intro h;try exact Zx))|((with_reducible (first|apply zaa|apply TD_e3z|apply zan|apply zaf|apply zae));((with_reducible apply zbf (f:=fn) (us:=[]) (cs:=[cv]) (v:=.bool z));exact rfl;exact rfl;(intro w' hw;exact hb w' (hw.below0 rfl));exact rfl);exact Zh;(rintro _ _ ⟨rfl,rfl⟩);(try refine⟨SUB,?_⟩))|fail)
  ·(refine zah Tryz.results131 rfl (fun w' hw=>?_))
   have hany:l.any p=true:=List.any_eq_true.2 ⟨_,List.getElem_mem hkl,by rw[hz];assumption⟩
   exact⟨⟨_,rfl,by rw[hany];simp⟩,hw.below0 rfl⟩
  ·refine zab (k+1) ⟨hkl,any_take_no hkl hno (by rw[hz];assumption)⟩ Zo Ze (by exact zaK)
 ·obtain rfl:k=l.length:=by omega
  rw[List.take_length] at hno
  repeat' (first|refine Zga ?_|(refine Zgb ?_;intro g)|(refine Zg ?_ ?_<;>(intro h;try exact Zx))|fail)
  (refine zah Tryz.results131 rfl (fun w' hw=>?_))
  exact⟨⟨_,rfl,by rw[hno];decide⟩,hw.below0 rfl⟩
theorem hasStp_any:Calls Tryz.prog 76 #[.slice A l.length c,.func (.func fn) #[] #[cv]] w fun e w'=>e=.returned (.bool (l.any p))∧Below w.heap.size w w':=by
 refine zaj (S:=[]) [] Tryz.func76 rfl Tryz.ntmps76 Zj (Mem.nil _) ?_
 repeat' (first|refine Zga ?_|(refine Zgb ?_;intro g)|(refine Zg ?_ ?_<;>(intro h;try exact Zx))|((with_reducible (first|apply zaa|apply TD_e3z|apply zan|apply zaf|apply zae));((with_reducible apply zar (f:=131) (X:={z:Int // decide (0≤z)=l.any p}) (S1:=[]) (fun z=>.int .i64 z.1) (fun _=>[]));exact rfl;exact Pull.nil _;(intro x;exact AppL.nil _);(intro w' hw;exact(indexStp_any fn p cv A c l w' (hw.rd rfl hA) hl (fun s w2 hb=>hp s w2 (zeH (hw.below0 rfl) hb))).mono fun e w2 ⟨⟨z,he,hz⟩,hb⟩=>⟨⟨z,hz⟩,he,(Mem.nil ⟨0,[],w'⟩).below hb⟩);exact rfl);exact Zh;(rintro _ _ ⟨⟨z,hz⟩,rfl,rfl⟩);(try refine⟨SUB,?_⟩))|fail)
 (refine zah Tryz.results76 rfl (fun w' hw=>?_))
 exact⟨congrArg (fun b=>Ending.returned (Value.bool b)) hz,hw.below0 rfl⟩
end
end
end Go.Proofs.YtjdckepbihcgfaaGreatDoor
