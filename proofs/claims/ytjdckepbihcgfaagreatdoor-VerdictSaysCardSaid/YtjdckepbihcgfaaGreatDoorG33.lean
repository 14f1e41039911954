/- Lemmas for the walks (Seq2). No condition. -/
import Derived.Test.YtjdckepbihcgfaaGreatDoorG28
set_option linter.unusedSimpArgs false
set_option linter.unusedVariables false
set_option linter.unusedSectionVars false
set_option linter.unnecessarySimpa false
set_option maxRecDepth 100000
set_option maxHeartbeats 8000000
namespace Go.Proofs.YtjdckepbihcgfaaGreatDoor
section
open Go.RowKit
section
variable (A0 B0 D:Option Addr)(c0 d0 dc:Nat)(ts:List Int)(l:List Ev)(v:List Stp)(w:World)(hts:ts.length≤9223372036854775807)(hl:l.length≤9223372036854775807)(hv:v.length≤9223372036854775807)(hT:RdInt w A0 ts)(hA:RdEv w B0 l)(hD:RdStp w D v) 
include hts hl hT hA
theorem seqFind_any:Calls Tryz.prog 10 #[.slice A0 ts.length c0,.slice B0 l.length d0] w fun e w'=>∃A c,e=.returned (.tuple #[.slice A ((zbE ts l zaX).getD []).length c,.bool (zbE ts l zaX).isSome,.int .i64 (zfl ts l).2]) ∧
  Own Stp.enc 2 49 w' w.heap.size (.slice A ((zbE ts l zaX).getD []).length c) ((zbE ts l zaX).getD [])∧Below w.heap.size w w':=by
 have h1:=fun w h1 h2=>zdg A0 B0 c0 d0 ts l w hts hl h1 h2
 have hf:=zc2 (ts:=ts) (l:=l)
 unfold zbE
 generalize zfl ts l=F at *
 obtain⟨cs,er⟩:=F
 dsimp only at h1 hf ⊢
 refine zaj (S:=[]) [] Tryz.func10 rfl Tryz.ntmps10 Zj (Mem.nil _) ?_
 by_cases h0:er=0
 ·subst h0
  have hs:=hf rfl
  have h9:=hs.few
  have hah:=fun A c w' h=>programs_any A c cs w' h Zo
  have hsm:=fun A c w' h1 h2=>ze3 A0 A c0 c ts cs cs.length (zaX cs) w' hs.types hs.calls h9 (fun i _=>relPeople_16 cs Zo i) h1 h2
  rw[if_pos rfl]
  generalize zbq ts cs (zaX cs)=o at *
  repeat' (first|refine Zga ?_|(refine Zgb ?_;intro g)|(refine Zg ?_ ?_<;>(intro h;try exact Zx))|((with_reducible (first|apply zaa|apply TD_e3z|apply zan|apply zaf|apply zae));((with_reducible apply zal (f:=42));exact rfl;(intro w hw;exact h1 w (hw.rd rfl hT) (hw.rd rfl hA));exact rfl);exact Zh;(rintro _ _ ⟨A1,c1,rfl,rfl⟩);(try refine⟨SUB,?_⟩))|((with_reducible (first|apply zaa|apply TD_e3z|apply zan|apply zaf|apply zae));((with_reducible apply zad (f:=44));exact rfl;(intro w hw;exact hah _ _ w (hw.ownRd Zm (fun _=>rfl)));exact rfl);exact Zh;(rintro _ _ ⟨rfl,rfl⟩);(try refine⟨SUB,?_⟩))|((with_reducible (first|apply zaa|apply TD_e3z|apply zan|apply zaf|apply zae));((with_reducible apply zal (f:=43));exact rfl;(intro w hw;exact hsm _ _ w (hw.rd rfl hT) (hw.ownRd Zm (fun _=>rfl)));exact rfl);exact Zh;(rintro _ _ ⟨A5,c5,rfl,rfl⟩);(try refine⟨SUB,?_⟩))|fail)
  (refine zah Tryz.results10 rfl (fun w' hw=>?_))
  exact⟨A5,c5,rfl,hw.ownOut rfl Zm,hw.below0 rfl⟩
 ·rw[if_neg h0]
  repeat' (first|refine Zga ?_|(refine Zgb ?_;intro g)|(refine Zg ?_ ?_<;>(intro h;try exact Zx))|((with_reducible (first|apply zaa|apply TD_e3z|apply zan|apply zaf|apply zae));((with_reducible apply zal (f:=42));exact rfl;(intro w hw;exact h1 w (hw.rd rfl hT) (hw.rd rfl hA));exact rfl);exact Zh;(rintro _ _ ⟨A1,c1,rfl,rfl⟩);(try refine⟨SUB,?_⟩))|fail)
  (refine zah Tryz.results10 rfl (fun w' hw=>?_))
  exact⟨none,0,rfl,Own.nil _ _,hw.below0 rfl⟩
end
end
end Go.Proofs.YtjdckepbihcgfaaGreatDoor
