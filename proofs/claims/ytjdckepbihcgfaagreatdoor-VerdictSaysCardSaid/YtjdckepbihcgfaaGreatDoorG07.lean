/- Lemmas for the walks (Hist8, Cau1, TxO, Cto, Bd, Obj1). No condition. -/
import Derived.Test.YtjdckepbihcgfaaGreatDoorG06
set_option linter.unusedSimpArgs false
set_option linter.unusedVariables false
set_option linter.unusedSectionVars false
set_option linter.unnecessarySimpa false
set_option maxRecDepth 100000
set_option maxHeartbeats 8000000
namespace Go.Proofs.YtjdckepbihcgfaaGreatDoor
section
open Go.RowKit
theorem zi4(a b c:Int)(w:World):Calls Tryz.prog 67 #[.int .i64 a,.int .i64 b,.int .i64 c] w fun e w'=>e=.returned (.bool (decide (b≤a)&&decide (a≤c)))∧Below w.heap.size w w' :=
 Calls.same_below (zbu a b c w)
theorem Cl.enc_mk(a b c d e f g:Int):Cl.enc ⟨a,b,c,d,e,f,g⟩=[.int .i64 a,.int .i64 b,.int .i64 c,.int .i64 d,.int .i64 e,.int .i64 f,.int .i64 g]:=rfl
theorem kinds_T(t:Int)(w:World):Calls Tryz.prog 72 #[.int .i64 t] w fun e w'=>∃A c,e=.returned (.slice A (zaZ t).length c)∧Own zag 1 3 w' w.heap.size (.slice A (zaZ t).length c) (zaZ t)∧Below w.heap.size w w':=by
 refine zaj (S:=[]) [] Tryz.func72 rfl Tryz.ntmps72 Zj (Mem.nil _) ?_
 repeat' (first|((with_reducible (first|apply zaa|apply TD_e3z|apply zan|apply zaf|apply zae));(first|exact ES.auto|((with_reducible apply za2);exact rfl;exact rfl;exact Zu;exact fun _=>rfl;(first|exact List.getElem?_set_self (by first|assumption|omega)|exact List.getElem?_eq_getElem (by first|assumption|omega|(simp only[List.length_set];omega)));decide;exact Cl.enc_mk _ _ _ _ _ _ _;exact rfl));exact Zh;(first|rintro _ _ ⟨rfl,rfl⟩|rintro _ _ ⟨g,rfl,rfl⟩|rintro _ _ ⟨A',c',rfl,rfl⟩);(try refine⟨SUB,?_⟩))|refine Zga ?_|(refine Zgb ?_;intro g)|(refine Zg ?_ ?_<;>(intro h;try exact Zx))|fail)
 all_goals(refine zah Tryz.results72 rfl (fun w' hw=>?_))
 all_goals try subst_vars
 all_goals first
  |exact⟨_,_,rfl,hw.blkOut (enc:=zag) [1,2] rfl Zm rfl (fun _=>rfl) Zi,hw.below0 rfl⟩
  |exact⟨_,_,rfl,hw.blkOut (enc:=zag) [3,4] rfl Zm rfl (fun _=>rfl) Zi,hw.below0 rfl⟩
  |exact⟨_,_,rfl,hw.blkOut (enc:=zag) [5,6] rfl Zm rfl (fun _=>rfl) Zi,hw.below0 rfl⟩
  |exact⟨_,_,rfl,hw.blkOut (enc:=zag) [7,8,9] rfl Zm rfl (fun _=>rfl) Zi,hw.below0 rfl⟩
  |exact⟨_,_,rfl,hw.blkOut (enc:=zag) [10] rfl Zm rfl (fun _=>rfl) Zi,hw.below0 rfl⟩
  |(have e:zaZ t=[]:=by simp[zaZ, *]
    rw[e];exact⟨none,0,rfl,Own.nil _ _,hw.below0 rfl⟩)
theorem kindsL_len(t:Int):(zaZ t).length≤9223372036854775807:=by
 unfold zaZ
 repeat' split
 all_goals decide
section
variable {ts:List Int}{cs:List Cl}{i z tt:Int}{x:Ev} 
theorem evR_none(hf:za4 ts x=false)(hk:x.kind=0)(hz:zaS cs x.who cs.length=z)(h:z<0):evR ts cs i x=(4,cs):=by
 unfold evR;rw[if_neg (by rw[hf];decide),if_pos hk,hz,if_pos h]
theorem evR_bad0{c:Cl}(hf:za4 ts x=false)(hk:x.kind=0)(hz:zaS cs x.who cs.length=z)(h:0≤z)(hc:cs.getD z.toNat default=c)(hn:¬(c.thing=x.thing∧ansB c.kind x.value=true)):evR ts cs i x=(3,cs):=by
 unfold evR;rw[if_neg (by rw[hf];decide),if_pos hk,hz,if_neg Zo,hc,if_neg hn]
theorem evR_end{c:Cl}(hf:za4 ts x=false)(hk:x.kind=0)(hz:zaS cs x.who cs.length=z)(h:0≤z)(hc:cs.getD z.toNat default=c)(hn:c.thing=x.thing∧ansB c.kind x.value=true):evR ts cs i x=(0,cs.set z.toNat { c with res:=x.value,to:=i }):=by
 unfold evR;rw[if_neg (by rw[hf];decide),if_pos hk,hz,if_neg Zo,hc,if_pos hn]
theorem zii(hf:za4 ts x=false)(hk:¬x.kind=0)(ht:ts.getD x.thing.toNat 0=tt)(h:((zaZ tt).contains x.kind&&zdO x.kind x.value)=false):evR ts cs i x=(3,cs):=by
 unfold evR;rw[if_neg (by rw[hf];decide),if_neg hk,ht,if_pos h]
theorem evR_twice(hf:za4 ts x=false)(hk:¬x.kind=0)(ht:ts.getD x.thing.toNat 0=tt)(h1:(zaZ tt).contains x.kind=true)(h2:zdO x.kind x.value=true)(hz:zaS cs x.who cs.length=z)(h:0≤z):evR ts cs i x=(5,cs):=by
 unfold evR;rw[if_neg (by rw[hf];decide),if_neg hk,ht,if_neg (by simp only[h1,h2];decide),hz,if_pos h]
theorem evR_push(hf:za4 ts x=false)(hk:¬x.kind=0)(ht:ts.getD x.thing.toNat 0=tt)(h1:(zaZ tt).contains x.kind=true)(h2:zdO x.kind x.value=true)(hz:zaS cs x.who cs.length=z)(h:¬0≤z):evR ts cs i x=(0,cs++[⟨x.who,x.thing,x.kind,x.value,0,i,-1⟩]):=by
 unfold evR;rw[if_neg (by rw[hf];decide),if_neg hk,ht,if_neg (by simp only[h1,h2];decide),hz,if_neg h]
theorem zff{t:Int}(h:t.toNat<ts.length)(hg:ts.getD t.toNat 0=ts[t.toNat]):ts.getD t.toNat 0=ts[t.toNat]:=hg
end
theorem zeU{ts:List Int}{l:List Ev}(h:zaG ts=false):zai ts l=([],0,1):=by simp[zai,zcl,h]
theorem zi5{ts:List Int}{l:List Ev}(h:zaG ts=true)(hl:200<l.length):zai ts l=([],0,2):=by simp[zai,zcl,h,hl]
theorem zbz{ts:List Int}{l:List Ev}(h:zaG ts=true)(hl:l.length≤200){k:Nat}(hk:k<l.length)(hno:∀j,j<k→erR ts l j=0){z:Int}(he:erR ts l k=z)(hz:z≠0):zai ts l=([],(k:Int),z):=by
 have hf:=failR_at hk hno (by rw[he];exact hz)
 have ht:zcl ts=0:=by simp[zcl,h]
 simp only[zai,ht,hf]
 rw[if_neg Zj,if_neg Zo,if_pos hk,he]
theorem zi6{ts:List Int}{l:List Ev}(h:zaG ts=true)(hl:l.length≤200)(hno:∀j,j<l.length→erR ts l j=0):zai ts l=(stR ts l l.length,0,0):=by
 have hf:=failR_none hno
 have ht:zcl ts=0:=by simp[zcl,h]
 simp only[zai,ht,hf]
 rw[if_neg Zj,if_neg Zo,if_neg Zo]
theorem all_succ{p:Nat→Prop}{k:Nat}(h:∀j,j<k→p j)(hk:p k):∀j,j<k+1→p j:=fun j hj=>by
 by_cases e:j=k
 ·rw[e];exact hk
 ·exact h j Zo
theorem typesOk_no{ts:List Int}{k:Nat}(hk:k<ts.length)(h:ts[k]<1∨5<ts[k]):zaG ts=false:=by
 have:ts.any badT=true:=List.any_eq_true.2 ⟨ts[k],List.getElem_mem hk,by simp[badT,h]⟩
 simp[zaG,this]
theorem zee(T A:Option Addr)(ct c:Nat)(ts:List Int)(l:List Ev)(w:World)(hts:ts.length≤9223372036854775807)(hl:l.length≤9223372036854775807)(hT:RdInt w T ts)(hA:RdEv w A l):
  Calls Tryz.prog 30 #[.slice T ts.length ct,.slice A l.length c] w fun e w'=>∃A' c',e=.returned (.tuple #[.slice A' (zai ts l).1.length c',.int .i64 (zai ts l).2.1,.int .i64 (zai ts l).2.2]) ∧
   Own Cl.enc 7 36 w' w.heap.size (.slice A' (zai ts l).1.length c') (zai ts l).1∧Below w.heap.size w w':=by
 refine zaj (S:=[]) [] Tryz.func30 rfl Tryz.ntmps30 Zj (Mem.nil _) ?_
 repeat' (first|((with_reducible (first|apply zaa|apply TD_e3z|apply zan|apply zaf|apply zae));(first|exact ES.auto|((with_reducible apply za2);exact rfl;exact rfl;exact Zu;exact fun _=>rfl;(first|exact List.getElem?_set_self (by first|assumption|omega)|exact List.getElem?_eq_getElem (by first|assumption|omega|(simp only[List.length_set];omega)));decide;exact Cl.enc_mk _ _ _ _ _ _ _;exact rfl));exact Zh;(first|rintro _ _ ⟨rfl,rfl⟩|rintro _ _ ⟨g,rfl,rfl⟩|rintro _ _ ⟨A',c',rfl,rfl⟩);(try refine⟨SUB,?_⟩))|refine Zga ?_|(refine Zgb ?_;intro g)|(refine Zg ?_ ?_<;>(intro h;try exact Zx))|fail)
 refine zap (X:=Nat) (fun k=>[(17,.int .i64 (k:Nat)),(16,.int .i64 ts.length),(15,.slice T ts.length ct),(0,.slice T ts.length ct),(1,.slice A l.length c)])
  (fun _=>[]) (fun k=>k≤ts.length∧(ts.take k).any badT=false) (fun k=>ts.length-k) 0 ⟨by omega,by simp⟩ Ze (by exact zaK) ?_
 rintro k ⟨hk,hno⟩
 by_cases hlt:k<ts.length
 ·obtain⟨b,o,rfl,hb0⟩:=RdE.open hT Zo
  repeat' (first|((with_reducible (first|apply zaa|apply TD_e3z|apply zan|apply zaf|apply zae));(first|exact ES.auto|((with_reducible apply za2);exact rfl;exact rfl;exact Zu;exact fun _=>rfl;(first|exact List.getElem?_set_self (by first|assumption|omega)|exact List.getElem?_eq_getElem (by first|assumption|omega|(simp only[List.length_set];omega)));decide;exact Cl.enc_mk _ _ _ _ _ _ _;exact rfl));exact Zh;(first|rintro _ _ ⟨rfl,rfl⟩|rintro _ _ ⟨g,rfl,rfl⟩|rintro _ _ ⟨A',c',rfl,rfl⟩);(try refine⟨SUB,?_⟩))|refine Zga ?_|(refine Zgb ?_;intro g)|(refine Zg ?_ ?_<;>(intro h;try exact Zx))|((with_reducible (first|apply zaa|apply TD_e3z|apply zan|apply zaf|apply zae));((with_reducible apply zad (f:=67));exact rfl;(intro w hw;exact zi4 _ _ _ _);exact rfl);exact Zh;(rintro _ _ ⟨rfl,rfl⟩);(try refine⟨SUB,?_⟩)))
  ·(refine zah Tryz.results30 rfl (fun w' hw=>?_))
   rw[zeU (typesOk_no hlt Zo)]
   exact⟨none,0,rfl,Own.nil _ _,hw.below0 rfl⟩
  ·(refine zab (k+1) ?_ ?_ ?_ ?_;(exact⟨by omega,zdJ hlt hno (by simp[badT];omega)⟩);(omega);(exact Ze);(exact zaK))
 ·obtain rfl:k=ts.length:=by omega
  repeat' (first|((with_reducible (first|apply zaa|apply TD_e3z|apply zan|apply zaf|apply zae));(first|exact ES.auto|((with_reducible apply za2);exact rfl;exact rfl;exact Zu;exact fun _=>rfl;(first|exact List.getElem?_set_self (by first|assumption|omega)|exact List.getElem?_eq_getElem (by first|assumption|omega|(simp only[List.length_set];omega)));decide;exact Cl.enc_mk _ _ _ _ _ _ _;exact rfl));exact Zh;(first|rintro _ _ ⟨rfl,rfl⟩|rintro _ _ ⟨g,rfl,rfl⟩|rintro _ _ ⟨A',c',rfl,rfl⟩);(try refine⟨SUB,?_⟩))|refine Zga ?_|(refine Zgb ?_;intro g)|(refine Zg ?_ ?_<;>(intro h;try exact Zx))|((with_reducible (first|apply zaa|apply TD_e3z|apply zan|apply zaf|apply zae));((with_reducible apply zad (f:=67));exact rfl;(intro w hw;exact zi4 _ _ _ _);exact rfl);exact Zh;(rintro _ _ ⟨rfl,rfl⟩);(try refine⟨SUB,?_⟩)))
  ·(refine zah Tryz.results30 rfl (fun w' hw=>?_))
   rw[zeU (by simp[zaG];omega)]
   exact⟨none,0,rfl,Own.nil _ _,hw.below0 rfl⟩
  ·(refine zah Tryz.results30 rfl (fun w' hw=>?_))
   rw[zi5 (by rw[List.take_length] at hno;simp[zaG,hno];omega) Zo]
   exact⟨none,0,rfl,Own.nil _ _,hw.below0 rfl⟩
  have hok:zaG ts=true:=by rw[List.take_length] at hno;simp[zaG,hno];omega
  have hl2:l.length≤200:=by omega
  refine zap (X:=Nat×Option Addr×Nat)
   (fun x=>[(34,.int .i64 (x.1:Nat)),(33,.int .i64 l.length),(32,.slice A l.length c),(9,.slice x.2.1 (stR ts l x.1).length x.2.2),(0,.slice T ts.length ct)])
   (fun x=>[zac Cl.enc 7 36 x.2.1 x.2.2 (stR ts l x.1)]) (fun x=>x.1≤l.length∧∀j,j<x.1→erR ts l j=0) (fun x=>l.length-x.1) (0,none,0)
   ⟨by simp,by simp⟩ Ze (fun w hw=>(hw.nilOwn Cl.enc 7 36).sub Zt) ?_
  rintro⟨k,A1,c1⟩ ⟨hk,hno2⟩
  dsimp only at hk hno2 ⊢
  have hlen2:(stR ts l k).length≤k:=by rw[←(zfe ts l k).1];exact stP_len ts l k
  by_cases hlt:k<l.length
  ·obtain⟨b,o,rfl,hb0⟩:=RdE.open hA Zo
   have hg:l.getD k default=l[k]:=by simp[hlt]
   have hst:erR ts l k=(evR ts (stR ts l k) k l[k]).1∧stR ts l (k+1)=(evR ts (stR ts l k) k l[k]).2:=by rw[←hg];exact⟨rfl,rfl⟩
   generalize stR ts l k=cs at hst hlen2 ⊢
   repeat' (first|((with_reducible (first|apply zaa|apply TD_e3z|apply zan|apply zaf|apply zae));(first|exact ES.auto|((with_reducible apply za2);exact rfl;exact rfl;exact Zu;exact fun _=>rfl;(first|exact List.getElem?_set_self (by first|assumption|omega)|exact List.getElem?_eq_getElem (by first|assumption|omega|(simp only[List.length_set];omega)));decide;exact Cl.enc_mk _ _ _ _ _ _ _;exact rfl));exact Zh;(first|rintro _ _ ⟨rfl,rfl⟩|rintro _ _ ⟨g,rfl,rfl⟩|rintro _ _ ⟨A',c',rfl,rfl⟩);(try refine⟨SUB,?_⟩))|refine Zga ?_|(refine Zgb ?_;intro g)|(refine Zg ?_ ?_<;>(intro h;try exact Zx))|((with_reducible (first|apply zaa|apply TD_e3z|apply zan|apply zaf|apply zae));((with_reducible apply zad (f:=67));exact rfl;(intro w hw;exact zi4 _ _ _ _);exact rfl);exact Zh;(rintro _ _ ⟨rfl,rfl⟩);(try refine⟨SUB,?_⟩)))
   ·(refine zah Tryz.results30 rfl (fun w' hw=>?_))
    have he:(evR ts cs k l[k]).1=3:=by unfold evR;rw[if_pos (by simp only[za4,Bool.or_eq_true,decide_eq_true_eq];omega)]
    rw[zbz hok hl2 hlt hno2 (hst.1.trans he) Zi]
    exact⟨none,0,rfl,Own.nil _ _,hw.below0 rfl⟩
   ·(refine zah Tryz.results30 rfl (fun w' hw=>?_))
    have he:(evR ts cs k l[k]).1=3:=by unfold evR;rw[if_pos (by simp only[za4,Bool.or_eq_true,decide_eq_true_eq];omega)]
    rw[zbz hok hl2 hlt hno2 (hst.1.trans he) Zi]
    exact⟨none,0,rfl,Own.nil _ _,hw.below0 rfl⟩
   have hff:za4 ts l[k]=false:=by simp only[za4,Bool.or_eq_false_iff,decide_eq_false_iff_not];omega
   refine zap (X:=Nat)
    (fun j=>[(55,.int .i64 (j:Nat)),(54,.int .i64 cs.length),(53,.slice A1 cs.length c1),(12,.int .i64 (zaS cs l[k].who j)),(11,.pointer (some ⟨g,0,none⟩)),(10,.int .i64 (k:Nat)),(34,.int .i64 (k:Nat)),(33,.int .i64 l.length),(32,.slice (some ⟨b,o,none⟩) l.length c),(9,.slice A1 cs.length c1),(0,.slice T ts.length ct)])
    (fun _=>[zak g 95 (Ev.enc l[k]).toArray,zac Cl.enc 7 36 A1 c1 cs]) (fun j=>j≤cs.length) (fun j=>cs.length-j) 0
    Zo Ze (by exact zaK) ?_
   intro j hj
   by_cases hjl:j<cs.length
   ·have hgj:cs.getD j default=cs[j]:=by simp[hjl]
    refine zb1 Zm Zo ?_
    rintro g2 rfl
    repeat' (first|((with_reducible (first|apply zaa|apply TD_e3z|apply zan|apply zaf|apply zae));(first|exact ES.auto|((with_reducible apply za2);exact rfl;exact rfl;exact Zu;exact fun _=>rfl;(first|exact List.getElem?_set_self (by first|assumption|omega)|exact List.getElem?_eq_getElem (by first|assumption|omega|(simp only[List.length_set];omega)));decide;exact Cl.enc_mk _ _ _ _ _ _ _;exact rfl));exact Zh;(first|rintro _ _ ⟨rfl,rfl⟩|rintro _ _ ⟨g,rfl,rfl⟩|rintro _ _ ⟨A',c',rfl,rfl⟩);(try refine⟨SUB,?_⟩))|refine Zga ?_|(refine Zgb ?_;intro g)|(refine Zg ?_ ?_<;>(intro h;try exact Zx))|fail)
    all_goals
     refine zab (j+1) (by show j+1≤cs.length;omega) Zo ?_ (by exact zaK)
     have ho:zaS cs l[k].who (j+1)=if cs[j].who=l[k].who∧cs[j].to=-1 then(j:Int) else zaS cs l[k].who j:=by rw[zaS,hgj]
     rw[ho]
     first|rw[if_pos ⟨‹_›,‹_›⟩]|rw[if_neg (by intro h;simp_all)]
     exact Ze
   ·obtain rfl:j=cs.length:=by omega
    have hzl:=zc9 cs l[k].who cs.length
    generalize hz:zaS cs l[k].who cs.length=z at hzl ⊢
    obtain⟨bt,ot,rfl,hbt⟩:=RdE.open hT Zo
    have hzt:l[k].thing.toNat<ts.length:=by omega
    have hgt:ts.getD l[k].thing.toNat 0=ts[l[k].thing.toNat]:=by simp[hzt]
    by_cases hz0:0≤z
    ·refine zb1 Zm Zo ?_
     rintro g2 rfl
     have hzn:z.toNat<cs.length:=by omega
     have hgz:cs.getD z.toNat default=cs[z.toNat]:=by simp[hzn]
     repeat' (first|((with_reducible (first|apply zaa|apply TD_e3z|apply zan|apply zaf|apply zae));(first|exact ES.auto|((with_reducible apply za2);exact rfl;exact rfl;exact Zu;exact fun _=>rfl;(first|exact List.getElem?_set_self (by first|assumption|omega)|exact List.getElem?_eq_getElem (by first|assumption|omega|(simp only[List.length_set];omega)));decide;exact Cl.enc_mk _ _ _ _ _ _ _;exact rfl));exact Zh;(first|rintro _ _ ⟨rfl,rfl⟩|rintro _ _ ⟨g,rfl,rfl⟩|rintro _ _ ⟨A',c',rfl,rfl⟩);(try refine⟨SUB,?_⟩))|refine Zha ?_|(refine Zhb ?_;intro g)|(refine Zg ?_ ?_<;>(intro h;try exact Zx))|refine GOF ?_ ?_|((with_reducible apply zam (id:=27) 1000 (OT.seq [(0,0),(0,1),(0,2),(0,3),(0,5),(1,4),(1,6),(0,7),(0,8),(0,9),(0,10),(0,11),(0,12),(0,14),(1,13),(1,15),(2,16),(0,17),(0,18)] .nil));kernel_rfl;exact rfl;kernel_rfl;exact Zd)|((with_reducible apply zam (id:=30) 1000 (OT.seq [(0,0),(0,1),(0,6),(1,2),(0,3),(1,4),(1,7),(2,5),(2,8),(0,9),(0,10),(0,11),(0,13),(1,12),(1,14),(2,15),(0,16),(0,17)] .nil));kernel_rfl;exact rfl;kernel_rfl;exact Zd)|((with_reducible (first|apply zaa|apply TD_e3z|apply zan|apply zaf|apply zae));((with_reducible apply zad (f:=70));exact rfl;(intro w hw;exact Calls.same_below (ziz _ _ _));exact rfl);exact Zh;(rintro _ _ ⟨rfl,rfl⟩);(try refine⟨SUB,?_⟩))|((with_reducible (first|apply zaa|apply TD_e3z|apply zan|apply zaf|apply zae));((with_reducible apply zal (f:=72));exact rfl;(intro w hw;exact kinds_T _ _);exact rfl);exact Zh;(rintro _ _ ⟨A,c,rfl,rfl⟩);(try refine⟨SUB,?_⟩))|((with_reducible (first|apply zaa|apply TD_e3z|apply zan|apply zaf|apply zae));((with_reducible apply zad (f:=71));exact rfl;(intro w hw;exact zcg _ _ (zaZ _) _ _ (kindsL_len _) (Mem.ownRd hw Zm (fun _=>rfl)));exact rfl);exact Zh;(rintro _ _ ⟨rfl,rfl⟩);(try refine⟨SUB,?_⟩))|((with_reducible (first|apply zaa|apply TD_e3z|apply zan|apply zaf|apply zae));((with_reducible apply zad (f:=73));exact rfl;(intro w hw;exact asks_any _ _ _);exact rfl);exact Zh;(rintro _ _ ⟨rfl,rfl⟩);(try refine⟨SUB,?_⟩))|((with_reducible (first|apply zaa|apply TD_e3z|apply zan|apply zaf|apply zae));((with_reducible apply zbp (enc:=Cl.enc) (xs:=[(⟨l[k].who,l[k].thing,l[k].kind,l[k].value,0,k,-1⟩:Cl)]));exact rfl;exact rfl;exact Lies.blk Zm;exact fun _=>rfl;exact fun _=>rfl;(intro A' c';exact Zu);(simp;omega);decide;exact rfl);exact Zh;(rintro _ _ ⟨A',c',rfl,rfl⟩);(try refine⟨SUB,?_⟩)))
     ·(refine zah Tryz.results30 rfl (fun w' hw=>?_))
      rw[zbz hok hl2 hlt hno2 (hst.1.trans (congrArg Prod.fst (evR_bad0 hff ‹_› hz hz0 hgz (fun hh=>absurd hh.1 ‹_›)))) Zj]
      exact⟨none,0,rfl,Own.nil _ _,hw.below0 rfl⟩
     ·(refine zah Tryz.results30 rfl (fun w' hw=>?_))
      rw[zbz hok hl2 hlt hno2 (hst.1.trans (congrArg Prod.fst (evR_bad0 hff ‹_› hz hz0 hgz (fun hh=>absurd hh.2 (by rw[‹ansB _ _=false›];simp))))) Zj]
      exact⟨none,0,rfl,Own.nil _ _,hw.below0 rfl⟩
     ·have hev:=evR_end hff ‹_› hz hz0 hgz ⟨‹_›,‹_›⟩ (i:=k)
      rw[hev] at hst
      refine zab (k+1,some ⟨g2,0,none⟩,c1) ⟨by show k+1≤_;omega,all_succ hno2 hst.1⟩ (by show l.length-(k+1)<l.length-k;omega) ?_ ?_
      ·simp only[hst.2,List.length_set];exact Ze
      ·simp only[hst.2]
       intro w hw
       have:=hw.sub (S':=[zac Cl.enc 7 36 (some ⟨g2,0,none⟩) c1 _]) Zt
       rw[List.set_set] at this
       exact this
     ·(refine zah Tryz.results30 rfl (fun w' hw=>?_))
      rw[zbz hok hl2 hlt hno2 (hst.1.trans (congrArg Prod.fst (zii hff ‹_› (zff hzt hgt) (by rw[‹List.contains _ _=false›];rfl)))) Zj]
      exact⟨none,0,rfl,Own.nil _ _,hw.below0 rfl⟩
     ·(refine zah Tryz.results30 rfl (fun w' hw=>?_))
      rw[zbz hok hl2 hlt hno2 (hst.1.trans (congrArg Prod.fst (zii hff ‹_› (zff hzt hgt) (by rw[‹zdO _ _=false›];simp)))) Zj]
      exact⟨none,0,rfl,Own.nil _ _,hw.below0 rfl⟩
     ·(refine zah Tryz.results30 rfl (fun w' hw=>?_))
      rw[zbz hok hl2 hlt hno2 (hst.1.trans (congrArg Prod.fst (evR_twice hff ‹_› (zff hzt hgt) ‹_› ‹_› hz hz0))) Zj]
      exact⟨none,0,rfl,Own.nil _ _,hw.below0 rfl⟩
    ·repeat' (first|((with_reducible (first|apply zaa|apply TD_e3z|apply zan|apply zaf|apply zae));(first|exact ES.auto|((with_reducible apply za2);exact rfl;exact rfl;exact Zu;exact fun _=>rfl;(first|exact List.getElem?_set_self (by first|assumption|omega)|exact List.getElem?_eq_getElem (by first|assumption|omega|(simp only[List.length_set];omega)));decide;exact Cl.enc_mk _ _ _ _ _ _ _;exact rfl));exact Zh;(first|rintro _ _ ⟨rfl,rfl⟩|rintro _ _ ⟨g,rfl,rfl⟩|rintro _ _ ⟨A',c',rfl,rfl⟩);(try refine⟨SUB,?_⟩))|refine Zha ?_|(refine Zhb ?_;intro g)|(refine Zg ?_ ?_<;>(intro h;try exact Zx))|refine GOF ?_ ?_|((with_reducible apply zam (id:=27) 1000 (OT.seq [(0,0),(0,1),(0,2),(0,3),(0,5),(1,4),(1,6),(0,7),(0,8),(0,9),(0,10),(0,11),(0,12),(0,14),(1,13),(1,15),(2,16),(0,17),(0,18)] .nil));kernel_rfl;exact rfl;kernel_rfl;exact Zd)|((with_reducible apply zam (id:=30) 1000 (OT.seq [(0,0),(0,1),(0,6),(1,2),(0,3),(1,4),(1,7),(2,5),(2,8),(0,9),(0,10),(0,11),(0,13),(1,12),(1,14),(2,15),(0,16),(0,17)] .nil));kernel_rfl;exact rfl;kernel_rfl;exact Zd)|((with_reducible (first|apply zaa|apply TD_e3z|apply zan|apply zaf|apply zae));((with_reducible apply zad (f:=70));exact rfl;(intro w hw;exact Calls.same_below (ziz _ _ _));exact rfl);exact Zh;(rintro _ _ ⟨rfl,rfl⟩);(try refine⟨SUB,?_⟩))|((with_reducible (first|apply zaa|apply TD_e3z|apply zan|apply zaf|apply zae));((with_reducible apply zal (f:=72));exact rfl;(intro w hw;exact kinds_T _ _);exact rfl);exact Zh;(rintro _ _ ⟨A,c,rfl,rfl⟩);(try refine⟨SUB,?_⟩))|((with_reducible (first|apply zaa|apply TD_e3z|apply zan|apply zaf|apply zae));((with_reducible apply zad (f:=71));exact rfl;(intro w hw;exact zcg _ _ (zaZ _) _ _ (kindsL_len _) (Mem.ownRd hw Zm (fun _=>rfl)));exact rfl);exact Zh;(rintro _ _ ⟨rfl,rfl⟩);(try refine⟨SUB,?_⟩))|((with_reducible (first|apply zaa|apply TD_e3z|apply zan|apply zaf|apply zae));((with_reducible apply zad (f:=73));exact rfl;(intro w hw;exact asks_any _ _ _);exact rfl);exact Zh;(rintro _ _ ⟨rfl,rfl⟩);(try refine⟨SUB,?_⟩))|((with_reducible (first|apply zaa|apply TD_e3z|apply zan|apply zaf|apply zae));((with_reducible apply zbp (enc:=Cl.enc) (xs:=[(⟨l[k].who,l[k].thing,l[k].kind,l[k].value,0,k,-1⟩:Cl)]));exact rfl;exact rfl;exact Lies.blk Zm;exact fun _=>rfl;exact fun _=>rfl;(intro A' c';exact Zu);(simp;omega);decide;exact rfl);exact Zh;(rintro _ _ ⟨A',c',rfl,rfl⟩);(try refine⟨SUB,?_⟩)))
     ·(refine zah Tryz.results30 rfl (fun w' hw=>?_))
      rw[zbz hok hl2 hlt hno2 (hst.1.trans (congrArg Prod.fst (evR_none hff ‹_› hz Zo))) Zj]
      exact⟨none,0,rfl,Own.nil _ _,hw.below0 rfl⟩
     ·(refine zah Tryz.results30 rfl (fun w' hw=>?_))
      rw[zbz hok hl2 hlt hno2 (hst.1.trans (congrArg Prod.fst (zii hff ‹_› (zff hzt hgt) (by rw[‹List.contains _ _=false›];rfl)))) Zj]
      exact⟨none,0,rfl,Own.nil _ _,hw.below0 rfl⟩
     ·(refine zah Tryz.results30 rfl (fun w' hw=>?_))
      rw[zbz hok hl2 hlt hno2 (hst.1.trans (congrArg Prod.fst (zii hff ‹_› (zff hzt hgt) (by rw[‹zdO _ _=false›];simp)))) Zj]
      exact⟨none,0,rfl,Own.nil _ _,hw.below0 rfl⟩
     ·have hev:=evR_push hff ‹_› (zff hzt hgt) ‹_› ‹_› hz Zo (i:=k)
      rw[hev] at hst
      refine zab (k+1,A',c') ⟨by show k+1≤_;omega,all_succ hno2 hst.1⟩ (by show l.length-(k+1)<l.length-k;omega) ?_ ?_
      ·simp only[hst.2];exact Ze
      ·simp only[hst.2];exact zaK
  ·obtain rfl:k=l.length:=by omega
   repeat' (first|((with_reducible (first|apply zaa|apply TD_e3z|apply zan|apply zaf|apply zae));(first|exact ES.auto|((with_reducible apply za2);exact rfl;exact rfl;exact Zu;exact fun _=>rfl;(first|exact List.getElem?_set_self (by first|assumption|omega)|exact List.getElem?_eq_getElem (by first|assumption|omega|(simp only[List.length_set];omega)));decide;exact Cl.enc_mk _ _ _ _ _ _ _;exact rfl));exact Zh;(first|rintro _ _ ⟨rfl,rfl⟩|rintro _ _ ⟨g,rfl,rfl⟩|rintro _ _ ⟨A',c',rfl,rfl⟩);(try refine⟨SUB,?_⟩))|refine Zga ?_|(refine Zgb ?_;intro g)|(refine Zg ?_ ?_<;>(intro h;try exact Zx))|fail)
   (refine zah Tryz.results30 rfl (fun w' hw=>?_))
   rw[zi6 hok hl2 hno2]
   exact⟨A1,c1,rfl,hw.ownOut rfl Zm,hw.below0 rfl⟩
end
section
open Go.RowKit
theorem za8(A B:Option Addr)(c d:Nat)(ts:List Int)(l:List Ev)(w:World)(hts:ts.length≤9223372036854775807)(hl:l.length≤9223372036854775807)(hT:RdInt w A ts)(hA:RdEv w B l):
  Calls Tryz.prog 12 #[.slice A ts.length c,.slice B l.length d] w fun e w'=>∃A' c',e=.returned (.tuple #[.slice A' (zai ts l).1.length c',.int .i64 (zai ts l).2.1,.int .i64 (zai ts l).2.2]) ∧
   Own Cl.enc 7 36 w' w.heap.size (.slice A' (zai ts l).1.length c') (zai ts l).1∧Below w.heap.size w w':=by
 rw[←calls_same]
 exact calls_any A B c d ts l w hts hl hT hA
theorem zbi(ts:List Int)(l:List Ev):(zai ts l).1.length≤200:=by
 unfold zai
 split
 ·simp
 ·split
  ·simp
  ·split
   ·simp
   ·have:=stP_len ts l l.length
    rw[(zfe ts l l.length).1] at this
    show(stR ts l l.length).length≤200
    omega
structure ClOk (ts:List Int) (i:Int) (c:Cl):Prop where
 who:0≤c.who∧c.who<8
 thing:0≤c.thing∧c.thing<ts.length
 kind:(zaZ (ts.getD c.thing.toNat 0)).contains c.kind=true
 arg:zdO c.kind c.arg=true
 place:0≤c.from_∧c.from_<i
structure ClsOk (ts:List Int) (i:Int) (cs:List Cl):Prop where
 each:∀q (h:q<cs.length),ClOk ts i cs[q]
 rising:∀p q (h1:p<q) (h:q<cs.length),cs[p].from_<cs[q].from_
theorem ClOk.mono{ts:List Int}{i j:Int}{c:Cl}(h:ClOk ts i c)(hij:i≤j):ClOk ts j c:=⟨h.who,h.thing,h.kind,h.arg,by have:=h.place;omega⟩
theorem clsOk_step{ts:List Int}{i:Int}{cs:List Cl}(x:Ev)(hi:0≤i)(h:ClsOk ts i cs):ClsOk ts (i+1) (evR ts cs i x).2:=by
 have keep:ClsOk ts (i+1) cs:=⟨fun q hq=>(h.each q hq).mono Zo,h.rising⟩
 unfold evR
 by_cases hf:za4 ts x=true
 ·rw[if_pos hf];exact keep
 ·rw[if_neg hf]
  have hf':za4 ts x=false:=by simpa using hf
  by_cases hk:x.kind=0
  ·rw[if_pos hk]
   split
   ·exact keep
   ·split
    ·rename_i hz hc
     obtain⟨m,hm⟩:∃m,(zaS cs x.who cs.length).toNat=m:=⟨_,rfl⟩
     have hlt:=zc9 cs x.who cs.length
     have hml:m<cs.length:=by omega
     rw[hm]
     have hd:cs.getD m default=cs[m]:=by simp[hml]
     rw[hd]
     dsimp only
     refine⟨fun q hq=>?_,fun p q hpq hq=>?_⟩
     ·have hq':q<cs.length:=by simpa using hq
      have hc':=keep.each q hq'
      rw[List.getElem_set]
      split
      ·rename_i e
       subst e
       exact⟨hc'.who,hc'.thing,hc'.kind,hc'.arg,hc'.place⟩
      ·exact hc'
     ·have hq':q<cs.length:=by simpa using hq
      have hr:=h.rising p q hpq hq'
      rw[List.getElem_set,List.getElem_set]
      split<;>split<;>(subst_vars;first|exact hr|omega)
    ·exact keep
  ·rw[if_neg hk]
   split
   ·exact keep
   ·split
    ·exact keep
    ·rename_i hb _
     simp only[za4,Bool.or_eq_false_iff,decide_eq_false_iff_not] at hf'
     have hb':((zaZ (ts.getD x.thing.toNat 0)).contains x.kind&&zdO x.kind x.value)=true:=by simpa using hb
     rw[Bool.and_eq_true] at hb'
     dsimp only
     refine⟨fun q hq=>?_,fun p q hpq hq=>?_⟩
     ·by_cases e:q<cs.length
      ·rw[List.getElem_append_left e];exact keep.each q e
      ·rw[List.getElem_append_right Zo]
       simp only[List.getElem_singleton]
       exact⟨by dsimp only;omega,by dsimp only;omega,hb'.1,hb'.2,by dsimp only;omega⟩
     ·simp only[List.length_append,List.length_cons,List.length_nil] at hq
      by_cases e:q<cs.length
      ·rw[List.getElem_append_left e,List.getElem_append_left Zo];exact h.rising p q hpq e
      ·rw[List.getElem_append_left (show p<cs.length by omega),List.getElem_append_right Zo]
       simp only[List.getElem_singleton]
       have:=(h.each p Zo).place
       omega
theorem zcY(ts:List Int)(l:List Ev):∀k:Nat,ClsOk ts (k:Int) (stR ts l k)
 |0=>⟨fun q h=>by simp[stR] at h,fun p q _ h=>by simp[stR] at h⟩
 |k+1=>by
  have:=clsOk_step (ts:=ts) (i:=k) (l.getD k default) Zo (zcY ts l k)
  rw[stR]
  exact this
theorem zbJ{ts:List Int}{l:List Ev}(h:(zai ts l).2.2=0):zaG ts=true∧l.length≤200∧(∀j,j<l.length→erR ts l j=0)∧(zai ts l).1=stR ts l l.length:=by
 by_cases h1:zaG ts=true
 ·by_cases h2:200<l.length
  ·rw[zi5 h1 h2] at h;cases h
  ·rcases Nat.lt_or_ge (zey ts l) l.length with hf|hf
   ·exfalso
    have hk:∃k,k<l.length∧(∀j,j<k→erR ts l j=0)∧erR ts l k≠0:=by
     unfold zey at hf
     cases hc:(List.range l.length).find? fun k=>decide (erR ts l k≠0) with
     |none=>rw[hc] at hf;simp at hf
     |some k =>
      rw[List.find?_range_eq_some] at hc
      exact⟨k,by simpa using hc.2.1,fun j hj=>by simpa using hc.2.2 j hj,by simpa using hc.1⟩
    obtain⟨k,a,b,c⟩:=hk
    rw[zbz h1 Zo a b rfl c] at h
    exact c h
   ·have hall:∀j,j<l.length→erR ts l j=0:=by
     intro j hj
     refine Decidable.byContradiction fun hn=>?_
     unfold zey at hf
     cases hc:(List.range l.length).find? fun k=>decide (erR ts l k≠0) with
     |none =>
      rw[List.find?_eq_none] at hc
      have:=hc j (by simpa using hj)
      simp only[decide_eq_true_eq] at this
      exact this hn
     |some k =>
      rw[hc] at hf
      rw[List.find?_range_eq_some] at hc
      have h3:k<l.length:=by simpa using hc.2.1
      simp at hf
      omega
    refine⟨h1,by omega,hall,?_⟩
    rw[zi6 h1 Zo hall]
 ·rw[zeU (by simpa using h1)] at h;cases h
end
section
open Go.RowKit Go.Lib
/-! what is printed -/
def tyB(t:Int):Bs:=32::typeW.getD t.toNat []
def evB(x:Ev):Bs:=zcR x++[10]
def textB(ts:List Int)(l:List Ev):Bs:=thW++ts.flatMap tyB++[10]++l.flatMap evB
theorem joinL_flat(c:UInt8):∀(w:Bs) (ws:List Bs),zby c (w::ws)=w++ws.flatMap (fun x=>c::x)
 |w,[]=>by simp[zby]
 |w,x::ws=>by
  rw[zfa Zj,joinL_flat c x ws];simp
theorem firstL_flat(ts:List Int):ziQ ts=thW++ts.flatMap tyB:=by
 unfold ziQ
 rw[joinL_flat,List.flatMap_map];rfl
theorem zja(x:Ev):zcR x=itoa x.who++[32]++itoa x.thing++[32]++kindW.getD x.kind.toNat []++(if zeM x.kind=true then[] else[32]++itoa x.value):=by
 unfold zcR zeN
 split<;>simp[zby]
theorem zaJ{n:Int}(h:-1000000≤n∧n≤1000000):(itoa n).length≤8:=by
 have hl:∀u:Nat,u≤1000000→(decDigits u).length≤7:=fun u hu=>by rw[decDigits_length];exact ziF hu
 unfold itoa
 split
 ·have:=hl n.natAbs Zo
  simp only[List.length_cons]
  first|omega|(have:=hl (-n).toNat Zo;omega)
 ·have:=hl n.toNat Zo
  omega
theorem typeW_len{t:Nat}(h:t<6):(typeW.getD t []).length≤6:=by revert t;decide
theorem kindW_len{t:Nat}(h:t<11):(kindW.getD t []).length≤6:=by revert t;decide
theorem tyB_len{t:Int}(h:1≤t∧t≤5):(tyB t).length≤7:=by
 have:=typeW_len (t:=t.toNat) Zo
 unfold tyB;simp only[List.length_cons];omega
theorem zjb{α:Type}{f:α→Bs}{m:Nat}:∀{l:List α},(∀x∈l,(f x).length≤m)→(l.flatMap f).length≤l.length * m
 |[],_=>by simp
 |x::l,h=>by
  have:=zjb (f:=f) (l:=l) fun y hy=>h y (List.mem_cons_of_mem _ hy)
  have:=h x List.mem_cons_self
  rw[List.flatMap_cons,List.length_append,List.length_cons,Nat.succ_mul];omega
theorem bflat_take{α:Type}(f:α→Bs){l:List α}{k:Nat}(hk:k<l.length):(l.take (k+1)).flatMap f=(l.take k).flatMap f++f l[k]:=by
 rw[List.take_succ_eq_append_getElem hk,List.flatMap_append];simp
end
section
open Go.RowKit
structure ClsTo (i:Int) (cs:List Cl):Prop where
 to:∀q (h:q<cs.length),cs[q].to=-1∨(cs[q].from_<cs[q].to∧cs[q].to<i)
 one:∀p q (h1:p<q) (h:q<cs.length),cs[p].who=cs[q].who→cs[p].to≠-1∧cs[p].to<cs[q].from_
theorem clsTo_step{ts:List Int}{i:Int}{cs:List Cl}(x:Ev)(hi:0≤i)(hp:∀q (h:q<cs.length),cs[q].from_<i)(h:ClsTo i cs):ClsTo (i+1) (evR ts cs i x).2:=by
 have keep:ClsTo (i+1) cs:=⟨fun q hq=>by rcases h.to q hq with h1|h1;exact .inl h1;exact .inr ⟨h1.1,by omega⟩,h.one⟩
 unfold evR
 by_cases hf:za4 ts x=true
 ·rw[if_pos hf];exact keep
 ·rw[if_neg hf]
  by_cases hk:x.kind=0
  ·rw[if_pos hk]
   split
   ·exact keep
   ·split
    ·rename_i hz hc
     have hlt:=zc9 cs x.who cs.length
     obtain⟨m,hm,hml,hmw,hmt⟩:=zcm (cs:=cs) (who:=x.who) cs.length Zo
     have hmt':(zaS cs x.who cs.length).toNat=m:=by omega
     rw[hmt']
     have hd:cs.getD m default=cs[m]:=by simp[hml]
     rw[hd] at hmw hmt ⊢
     dsimp only
     refine⟨fun q hq=>?_,fun p q hpq hq=>?_⟩
     ·have hq':q<cs.length:=by simpa using hq
      rw[List.getElem_set]
      split
      ·exact .inr ⟨hp m hml,by dsimp only;omega⟩
      ·exact keep.to q hq'
     ·have hq':q<cs.length:=by simpa using hq
      have ho:=h.one p q hpq hq'
      rw[List.getElem_set,List.getElem_set]
      split<;>split
      ·omega
      ·rename_i e1 e2
       subst e1
       intro e
       exact absurd hmt (ho e).1
      ·rename_i e1 e2
       subst e2
       exact ho
      ·exact ho
    ·exact keep
  ·rw[if_neg hk]
   split
   ·exact keep
   ·split
    ·exact keep
    ·rename_i hop
     dsimp only
     refine⟨fun q hq=>?_,fun p q hpq hq=>?_⟩
     ·by_cases e:q<cs.length
      ·rw[List.getElem_append_left e];exact keep.to q e
      ·rw[List.getElem_append_right Zo]
       simp
     ·simp only[List.length_append,List.length_cons,List.length_nil] at hq
      by_cases e:q<cs.length
      ·rw[List.getElem_append_left e,List.getElem_append_left Zo];exact h.one p q hpq e
      ·have hpl:p<cs.length:=by omega
       rw[List.getElem_append_left hpl,List.getElem_append_right Zo]
       simp only[List.getElem_singleton]
       intro ew
       have hd:cs.getD p default=cs[p]:=by simp[hpl]
       have hto:cs[p].to≠-1:=fun et=>by
        have h1:=zcA (cs:=cs) (who:=x.who) (j:=p) cs.length hpl (by rw[hd];exact⟨ew,et⟩)
        have:=zc9 cs x.who cs.length
        omega
       refine⟨hto,?_⟩
       rcases h.to p hpl with h1|h1
       ·exact absurd h1 hto
       ·exact h1.2
theorem zij(ts:List Int)(l:List Ev):∀k:Nat,ClsTo (k:Int) (stR ts l k)
 |0=>⟨fun q h=>by simp[stR] at h,fun p q _ h=>by simp[stR] at h⟩
 |k+1=>by
  have:=clsTo_step (ts:=ts) (i:=k) (l.getD k default) Zo (fun q hq=>((zcY ts l k).each q hq).place.2) (zij ts l k)
  rw[stR]
  exact this
structure ClsMore (i:Int) (cs:List Cl):Prop where
 lt:∀q (h:q<cs.length),cs[q].to<i∧cs[q].from_<i∧0≤cs[q].from_
 ne:∀p q (h1:p<cs.length) (h2:q<cs.length),cs[p].to≠cs[q].from_
 res:∀q (h:q<cs.length),cs[q].to=-1→cs[q].res=0
 ans:∀q (h:q<cs.length),cs[q].to≠-1→ansB cs[q].kind cs[q].res=true
theorem clsMore_step{ts:List Int}{i:Int}{cs:List Cl}(x:Ev)(hi:0≤i)(h:ClsMore i cs):ClsMore (i+1) (evR ts cs i x).2:=by
 have keep:ClsMore (i+1) cs:=⟨fun q hq=>by have:=h.lt q hq;omega,h.ne,h.res,h.ans⟩
 unfold evR
 by_cases hf:za4 ts x=true
 ·rw[if_pos hf];exact keep
 ·rw[if_neg hf]
  by_cases hk:x.kind=0
  ·rw[if_pos hk]
   split
   ·exact keep
   ·split
    ·rename_i hz hc
     have hlt:=zc9 cs x.who cs.length
     obtain⟨m,hm,hml,hmw,hmt⟩:=zcm (cs:=cs) (who:=x.who) cs.length Zo
     have hmt':(zaS cs x.who cs.length).toNat=m:=by omega
     rw[hmt'] at hc ⊢
     have hd:cs.getD m default=cs[m]:=by simp[hml]
     rw[hd] at hmw hmt hc ⊢
     dsimp only
     have hfr:∀q (hq:q<(cs.set m { cs[m] with res:=x.value,to:=i }).length),((cs.set m { cs[m] with res:=x.value,to:=i })[q]).from_=(cs[q]'(by simpa using hq)).from_:=fun q hq=>by
      rw[List.getElem_set]
      split
      ·rename_i e;subst e;rfl
      ·rfl
     refine⟨fun q hq=>?_,fun p q hp hq=>?_,fun q hq=>?_,fun q hq=>?_⟩
     ·have hq':q<cs.length:=by simpa using hq
      have:=h.lt q hq'
      rw[hfr,List.getElem_set]
      split
      ·dsimp only;omega
      ·omega
     ·have hp':p<cs.length:=by simpa using hp
      have hq':q<cs.length:=by simpa using hq
      have h1:=h.lt q hq'
      have h2:=h.ne p q hp' hq'
      rw[hfr,List.getElem_set]
      split
      ·dsimp only;omega
      ·exact h2
     ·have hq':q<cs.length:=by simpa using hq
      rw[List.getElem_set]
      split
      ·dsimp only;intro e;omega
      ·exact h.res q hq'
     ·have hq':q<cs.length:=by simpa using hq
      rw[List.getElem_set]
      split
      ·dsimp only;intro _;exact hc.2
      ·exact h.ans q hq'
    ·exact keep
  ·rw[if_neg hk]
   split
   ·exact keep
   ·split
    ·exact keep
    ·rename_i hop
     dsimp only
     have hlast:∀q (hq:q<(cs++[(⟨x.who,x.thing,x.kind,x.value,0,i,-1⟩:Cl)]).length),(∃hq':q<cs.length,(cs++[(⟨x.who,x.thing,x.kind,x.value,0,i,-1⟩:Cl)])[q]=cs[q])∨(cs++[(⟨x.who,x.thing,x.kind,x.value,0,i,-1⟩:Cl)])[q]=⟨x.who,x.thing,x.kind,x.value,0,i,-1⟩:=fun q hq=>by
      by_cases e:q<cs.length
      ·exact .inl ⟨e,List.getElem_append_left e⟩
      ·right
       rw[List.getElem_append_right Zo]
       simp
     refine⟨fun q hq=>?_,fun p q hp hq=>?_,fun q hq=>?_,fun q hq=>?_⟩
     ·rcases hlast q hq with⟨e,e1⟩|e1
      ·rw[e1];have:=h.lt q e;omega
      ·rw[e1];dsimp only;omega
     ·rcases hlast q hq with⟨e,e1⟩|e1<;>rcases hlast p hp with⟨g,g1⟩|g1
      ·rw[e1,g1];exact h.ne p q g e
      ·rw[e1,g1];have:=h.lt q e;dsimp only;omega
      ·rw[e1,g1];have:=h.lt p g;dsimp only;omega
      ·rw[e1,g1];dsimp only;omega
     ·rcases hlast q hq with⟨e,e1⟩|e1
      ·rw[e1];exact h.res q e
      ·rw[e1];exact fun _=>rfl
     ·rcases hlast q hq with⟨e,e1⟩|e1
      ·rw[e1];exact h.ans q e
      ·rw[e1];dsimp only;intro e2;exact absurd rfl e2
theorem clsMore_st(ts:List Int)(l:List Ev):∀k:Nat,ClsMore (k:Int) (stR ts l k)
 |0=>⟨fun q h=>by simp[stR] at h,fun p q h=>by simp[stR] at h,fun q h=>by simp[stR] at h,fun q h=>by simp[stR] at h⟩
 |k+1=>by
  have:=clsMore_step (ts:=ts) (i:=k) (l.getD k default) Zo (clsMore_st ts l k)
  rw[stR]
  exact this
theorem zhc{ts:List Int}{l:List Ev}(h:(zai ts l).2.2=0):l.length≤200∧ClsOk ts 200 (zai ts l).1∧ClsTo 200 (zai ts l).1∧ClsMore 200 (zai ts l).1:=by
 obtain⟨h1,h2,_,h4⟩:=zbJ h
 have hc:=zcY ts l l.length
 have ht:=zij ts l l.length
 have hm:=clsMore_st ts l l.length
 rw[←h4] at hc ht hm
 exact⟨h2,⟨fun q hq=>(hc.each q hq).mono Zo,hc.rising⟩,⟨fun q hq=>by rcases ht.to q hq with h1|h1;exact .inl h1;exact .inr ⟨h1.1,Int.lt_of_lt_of_le h1.2 Zo⟩,ht.one⟩,
  ⟨fun q hq=>by have:=hm.lt q hq;omega,hm.ne,hm.res,hm.ans⟩⟩
end
section
open Go.RowKit
structure Bd where
 kind:Int
 a:Int
 b:Int
 deriving DecidableEq,Inhabited
def Bd.enc(x:Bd):List Value:=[.int .i64 x.kind,.int .i64 x.a,.int .i64 x.b]
def clK(cs:List Cl)(i:Nat):Cl:=cs.getD i default
theorem zay{cs:List Cl}{i:Nat}(h:i<cs.length):clK cs i=cs[i]:=by simp[clK,h]
def ixN(n:Nat)(P:Nat→Bool):Int:=match zaF n P with|some k=>(k:Int)|none=>-1
theorem zik{n:Nat}{P:Nat→Bool}(h:∀i,i<n→P i=false):ixN n P=-1:=by
 unfold ixN;rw[zaP h]
theorem zjd{n i:Nat}{P:Nat→Bool}(hi:i<n)(h1:∀j,j<i→P j=false)(h:P i=true):ixN n P=(i:Int):=by
 unfold ixN;rw[za5 hi h1 h]
theorem zcG(n:Nat)(P:Nat→Bool):(ixN n P=-1∧∀i,i<n→P i=false)∨∃k:Nat,k<n∧ixN n P=(k:Int)∧P k=true∧∀j,j<k→P j=false:=by
 unfold ixN
 cases h:zaF n P with
 |none=>exact .inl ⟨rfl,zeL h⟩
 |some k =>
  obtain⟨h1,h2,h3⟩:=za3 h
  exact .inr ⟨k,h1,rfl,h2,h3⟩
theorem zgn(n:Nat)(P:Nat→Bool):-1≤ixN n P∧ixN n P<n:=by
 rcases zcG n P with⟨h,_⟩|⟨k,h1,h2,_⟩<;>omega
theorem ixN_succ(n:Nat)(P:Nat→Bool):ixN (n+1) P=if 0≤ixN n P then ixN n P else if P n=true then(n:Int) else -1:=by
 rcases zcG n P with⟨h,h2⟩|⟨k,h1,h2,h3,h4⟩
 ·rw[if_neg Zo]
  split
  ·rename_i e;exact zjd Zo h2 e
  ·rename_i e
   exact zik fun i hi=>by
    by_cases q:i=n
    ·subst q;exact Bool.eq_false_iff.2 e
    ·exact h2 i Zo
 ·rw[if_pos Zo,h2];exact zjd Zo h4 h3
theorem ixN_of{n i:Nat}{P:Nat→Bool}(hi:i<n)(h:P i=true):0≤ixN n P∧ixN n P≤i:=by
 rcases zcG n P with⟨_,h2⟩|⟨k,h1,h2,h3,h4⟩
 ·rw[h2 i hi] at h;cases h
 ·refine⟨by omega,?_⟩
  rcases Nat.lt_or_ge i k with e|e
  ·rw[h4 i e] at h;cases h
  ·omega
/-! lists sorted by a key -/
theorem keyB_inj{α:Type}{key:α→Int}{W:List α}(hw:W.Pairwise fun a b=>key a<key b){a b:α}(ha:a∈W)(hb:b∈W)(h:key a=key b):a=b:=by
 obtain⟨i,hi,rfl⟩:=List.mem_iff_getElem.1 ha
 obtain⟨j,hj,rfl⟩:=List.mem_iff_getElem.1 hb
 rw[List.pairwise_iff_getElem] at hw
 rcases Nat.lt_trichotomy i j with e|e|e
 ·have:=hw i j hi hj e;omega
 ·subst e;rfl
 ·have:=hw j i hj hi e;omega
theorem sort_eq{α:Type}{key:α→Int}{S W:List α}(hp:S.Perm W)(hs:S.Pairwise fun a b=>key a≤key b)(hw:W.Pairwise fun a b=>key a<key b):S=W :=
 List.Perm.eq_of_pairwise (le:=fun a b=>key a≤key b) (fun _ _ ha hb h1 h2=>keyB_inj hw (hp.mem_iff.1 ha) hb Zo) hs (hw.imp fun h=>by omega) hp
theorem filt_map{α β γ:Type}(p:α→Bool)(f:α→β)(g:β→Option γ):∀l:List α,((l.filter p).map f).filterMap g=l.filterMap fun v=>if p v=true then g (f v) else none
 |[]=>rfl
 |x::l=>by
  have ih:=filt_map p f g l
  rw[List.filter_cons,List.filterMap_cons]
  cases h:p x
  ·rw[if_neg Zi];exact ih
  ·simp only[if_true,List.map_cons,List.filterMap_cons]
   cases g (f x)<;>simp[ih]
/-! the first of a list, and the first two -/
def zh4{α:Type}(L:List α)(P:α→α→Bool):Option (α×α) :=
 match L.find? (fun a=>L.any (P a)) with
 |none=>none
 |some a=>(L.find? (P a)).map fun b=>(a,b)
theorem find_filt{α:Type}{P q:α→Bool}{L:List α}(h:∀a,P a=true→q a=true):(L.filter q).find? P=L.find? P:=by
 rw[List.find?_filter]
 congr 1
 funext a
 cases e:P a
 ·simp
 ·simp[h a e]
theorem any_filt{α:Type}{P q:α→Bool}{L:List α}(h:∀a,P a=true→q a=true):(L.filter q).any P=L.any P:=by
 rw[Bool.eq_iff_iff,List.any_eq_true,List.any_eq_true]
 exact⟨fun⟨x,h1,h2⟩=>⟨x,(List.mem_filter.1 h1).1,h2⟩,fun⟨x,h1,h2⟩=>⟨x,List.mem_filter.2 ⟨h1,h x h2⟩,h2⟩⟩
theorem pairL_filt{α:Type}{P:α→α→Bool}{q:α→Bool}{L:List α}(h:∀a b,P a b=true→q a=true∧q b=true):zh4 (L.filter q) P=zh4 L P:=by
 unfold zh4
 have e1:(fun a=>(L.filter q).any (P a))=fun a=>L.any (P a):=by
  funext a;exact any_filt fun b hb=>(h a b hb).2
 rw[e1,find_filt (fun a ha=>by
  obtain⟨b,_,hb⟩:=List.any_eq_true.1 ha
  exact(h a b hb).1)]
 cases L.find? (fun a=>L.any (P a)) with
 |none=>rfl
 |some a=>dsimp only;rw[find_filt fun b hb=>(h a b hb).2]
theorem find_at{α:Type}{P:α→Bool}{L:List α}{i:Nat}(hi:i<L.length)(h1:∀j (hj:j<i),P (L[j]'(by omega))=false)(h:P L[i]=true):L.find? P=some L[i]:=by
 rw[List.find?_eq_some_iff_getElem]
 exact⟨h,i,hi,rfl,fun j hj=>by rw[h1 j hj];rfl⟩
theorem pairL_none{α:Type}{P:α→α→Bool}{L:List α}(h:∀i (hi:i<L.length) k (hk:k<L.length),P L[i] L[k]=false):zh4 L P=none:=by
 unfold zh4
 rw[List.find?_eq_none.2 fun a ha=>by
  obtain⟨i,hi,rfl⟩:=List.mem_iff_getElem.1 ha
  rw[Bool.not_eq_true,List.any_eq_false]
  intro b hb
  obtain⟨k,hk,rfl⟩:=List.mem_iff_getElem.1 hb
  rw[h i hi k hk];decide]
theorem pairL_at{α:Type}{P:α→α→Bool}{L:List α}{i k:Nat}(hi:i<L.length)(hk:k<L.length)(h1:∀j (hj:j<i) q (hq:q<L.length),P (L[j]'(by omega)) L[q]=false)(h2:∀q (hq:q<k),P L[i] (L[q]'(by omega))=false)(h:P L[i] L[k]=true):zh4 L P=some (L[i],L[k]):=by
 unfold zh4
 rw[find_at (P:=fun a=>L.any (P a)) hi (fun j hj=>by
  rw[List.any_eq_false]
  intro b hb
  obtain⟨q,hq,rfl⟩:=List.mem_iff_getElem.1 hb
  rw[h1 j hj q hq];decide) (List.any_eq_true.2 ⟨_,List.getElem_mem hk,h⟩)]
 dsimp only
 rw[find_at hk h2 h];rfl
end
section
/-! Sets as ascending lists -/
def Asc(s:List Int):Prop:=s.Pairwise (·<·)
def zgR(s:List Int)(a:Int):Nat:=(s.takeWhile (fun x=>decide (x<a))).length
def zaW(kind a:Int)(st:Int×List Int×Bool)(x:Int):Int×List Int×Bool :=
 let was:=if x=a then 1 else st.1
 let p:=if a≤x∧st.2.2=false then(st.2.1++[a],true) else(st.2.1,st.2.2)
 (was,if x≠a∨kind=9 then p.1++[x] else p.1,p.2)
def zcH(kind a:Int)(st:Int×List Int×Bool):List Int×Int :=
 (if st.2.2=false then st.2.1++[a] else st.2.1,if kind=7 then 1-st.1 else st.1)
def setR(s:List Int)(kind a:Int):List Int×Int:=zcH kind a (s.foldl (zaW kind a) (0,[],!decide (kind=7)))
theorem zgo{s:List Int}(h:Asc s)(a:Int):(∀x∈s.take (zgR s a),x<a)∧(∀x∈s.drop (zgR s a),a≤x)∧zgR s a≤s.length:=by
 induction s with
 |nil=>simp[zgR]
 |cons y s ih =>
  obtain⟨h1,h2⟩:=List.pairwise_cons.1 h
  obtain⟨i1,i2,i3⟩:=ih h2
  unfold zgR at i1 i2 i3 ⊢
  rw[List.takeWhile_cons]
  by_cases hy:y<a
  ·simp only[hy,decide_true,if_true,List.length_cons,List.take_succ_cons,List.drop_succ_cons]
   exact⟨fun x hx=>by rcases List.mem_cons.1 hx with rfl|hx;exact hy;exact i1 x hx,i2,by omega⟩
  ·simp only[hy,decide_false,Bool.false_eq_true,if_false,List.length_nil,List.take_zero,List.drop_zero]
   refine⟨by simp,fun x hx=>?_,by simp⟩
   rcases List.mem_cons.1 hx with rfl|hx
   ·omega
   ·have:=h1 x hx;omega
theorem pos_of{s:List Int}{a:Int}{i:Nat}(hi:i≤s.length)(h1:∀j (hj:j<s.length),j<i→s[j]<a)(h2:∀j (hj:j<s.length),i≤j→a≤s[j]):zgR s a=i:=by
 induction s generalizing i with
 |nil=>simp at hi;subst hi;rfl
 |cons y s ih =>
  unfold zgR at ih ⊢
  rw[List.takeWhile_cons]
  cases i with
  |zero =>
   have:=h2 0 (by simp) (by omega)
   simp only[List.getElem_cons_zero] at this
   have hy:¬y<a:=by omega
   simp[hy]
  |succ i =>
   have hy:=h1 0 (by simp) (by omega)
   simp only[List.getElem_cons_zero] at hy
   simp only[hy,decide_true,if_true,List.length_cons]
   rw[ih (i:=i) (by simpa using hi) (fun j hj hji=>by have:=h1 (j+1) (by simpa using hj) (by omega);simpa using this) (fun j hj hji=>by have:=h2 (j+1) (by simpa using hj) (by omega);simpa using this)]
theorem fold_low(kind a:Int):∀(l:List Int) (was:Int) (out:List Int) (put:Bool),(∀x∈l,x<a)→l.foldl (zaW kind a) (was,out,put)=(was,out++l,put)
 |[],was,out,put,_=>by simp
 |x::l,was,out,put,h=>by
  have hx:=h x (by simp)
  rw[List.foldl_cons]
  have e1:x≠a:=by omega
  have e2:¬a≤x:=by omega
  have e:zaW kind a (was,out,put) x=(was,out++[x],put):=by simp[zaW,e1,e2]
  rw[e,fold_low kind a l _ _ _ (fun y hy=>h y (by simp[hy]))]
  simp
theorem zdc(kind a:Int):∀(l:List Int) (was:Int) (out:List Int),(∀x∈l,a<x)→l.foldl (zaW kind a) (was,out,true)=(was,out++l,true)
 |[],was,out,_=>by simp
 |x::l,was,out,h=>by
  have hx:=h x (by simp)
  rw[List.foldl_cons]
  have e1:x≠a:=by omega
  have e:zaW kind a (was,out,true) x=(was,out++[x],true):=by simp[zaW,e1]
  rw[e,zdc kind a l _ _ (fun y hy=>h y (by simp[hy]))]
  simp
def setP(s:List Int)(kind a:Int):List Int×Int :=
 if s.contains a=true then(if kind=7 then(s,0) else if kind=8 then(s.take (zgR s a)++s.drop (zgR s a+1),1) else(s,1))
 else(if kind=7 then(s.take (zgR s a)++a::s.drop (zgR s a),1) else(s,0))
theorem setP_eq{s:List Int}(h:Asc s)(kind a:Int)(hk:kind=7∨kind=8∨kind=9):setR s kind a=setP s kind a:=by
 obtain⟨p1,p2,p3⟩:=zgo h a
 unfold setP
 generalize zgR s a=i at *
 have hs:s=s.take i++s.drop i:=(List.take_append_drop i s).symm
 have hap:(s.drop i).Pairwise (·<·):=h.sublist (List.drop_sublist i s)
 unfold setR
 conv=>lhs;rw[hs,List.foldl_append,fold_low kind a _ _ _ _ p1]
 cases hd:s.drop i with
 |nil =>
  have hn:s.contains a=false:=by
   rw[Bool.eq_false_iff];intro hc
   have hm:a∈s:=by simpa using hc
   rw[hs,hd,List.append_nil] at hm
   have:=p1 a hm;omega
  rw[if_neg (by rw[hn];simp)]
  have ht:s.take i=s:=by rw[hd,List.append_nil] at hs;exact hs.symm
  rcases hk with rfl|rfl|rfl<;>simp[zcH,ht]
 |cons y r =>
  rw[hd] at hap p2 hs
  obtain⟨q1,q2⟩:=List.pairwise_cons.1 hap
  have hy:=p2 y (by simp)
  have hr:∀x∈r,a<x:=fun x hx=>by have:=q1 x hx;omega
  have hdr:s.drop (i+1)=r:=by rw[←List.drop_drop,hd];rfl
  by_cases e:y=a
  ·subst e
   have hc:s.contains y=true:=by rw[hs];simp
   rw[if_pos hc,hdr]
   have e1:∀(was:Int) (out:List Int) (put:Bool),zaW 7 y (was,out,false) y=(1,out++[y],true):=by intro was out put;simp[zaW]
   rcases hk with rfl|rfl|rfl
   ·have:zaW 7 y (0,[]++s.take i,!decide ((7:Int)=7)) y=(1,s.take i++[y],true):=by simp[zaW]
    rw[List.foldl_cons,this,zdc 7 y r _ _ hr]
    simp only[zcH]
    rw[if_neg (by simp),if_pos trivial,if_pos trivial]
    simp only[List.append_assoc,List.singleton_append]
    rw[←hs];rfl
   ·have:zaW 8 y (0,[]++s.take i,!decide ((8:Int)=7)) y=(1,s.take i,true):=by simp[zaW]
    rw[List.foldl_cons,this,zdc 8 y r _ _ hr]
    simp[zcH]
   ·have:zaW 9 y (0,[]++s.take i,!decide ((9:Int)=7)) y=(1,s.take i++[y],true):=by simp[zaW]
    rw[List.foldl_cons,this,zdc 9 y r _ _ hr]
    simp only[zcH]
    rw[if_neg (by simp),if_neg (by decide),if_neg (by decide),if_neg (by decide)]
    simp only[List.append_assoc,List.singleton_append]
    rw[←hs]
  ·have hya:a<y:=by omega
   have hn:s.contains a=false:=by
    rw[Bool.eq_false_iff];intro hc
    have hm:a∈s:=by simpa using hc
    rw[hs] at hm
    rcases List.mem_append.1 hm with hm|hm
    ·have:=p1 a hm;omega
    ·rcases List.mem_cons.1 hm with rfl|hm
     ·omega
     ·have:=hr a hm;omega
   rw[if_neg (by rw[hn];simp)]
   have hay:a≤y:=by omega
   rcases hk with rfl|rfl|rfl
   ·have:zaW 7 a (0,[]++s.take i,!decide ((7:Int)=7)) y=(0,s.take i++[a]++[y],true):=by simp[zaW,e,hay]
    rw[List.foldl_cons,this,zdc 7 a r _ _ hr]
    simp[zcH]
   ·have:zaW 8 a (0,[]++s.take i,!decide ((8:Int)=7)) y=(0,s.take i++[y],true):=by simp[zaW,e]
    rw[List.foldl_cons,this,zdc 8 a r _ _ hr]
    simp only[zcH]
    rw[if_neg (by simp),if_neg (by decide),if_neg (by decide)]
    simp only[List.append_assoc,List.singleton_append]
    rw[←hs]
   ·have:zaW 9 a (0,[]++s.take i,!decide ((9:Int)=7)) y=(0,s.take i++[y],true):=by simp[zaW,e]
    rw[List.foldl_cons,this,zdc 9 a r _ _ hr]
    simp only[zcH]
    rw[if_neg (by simp),if_neg (by decide),if_neg (by decide)]
    simp only[List.append_assoc,List.singleton_append]
    rw[←hs]
/-! States -/
def okI(x:Int):Bool:=decide (1≤x)&&decide (x≤1000)
def ascB(s:List Int):Bool:=(List.range (s.length-1)).all fun j=>decide (s.getD j 0<s.getD (j+1) 0)
theorem zil(s:List Int):ascB s=true↔∀j,j+1<s.length→s.getD j 0<s.getD (j+1) 0:=by
 unfold ascB
 rw[List.all_eq_true]
 constructor
 ·intro h j hj
  simpa using h j (by rw[List.mem_range];omega)
 ·intro h j hj
  rw[List.mem_range] at hj
  simpa using h j (by omega)
theorem asc_of{s:List Int}(h:ascB s=true):Asc s:=by
 rw[zil] at h
 unfold Asc
 induction s with
 |nil=>exact .nil
 |cons x s ih =>
  have hs:=ih (fun j hj=>by have:=h (j+1) (by simpa using hj);simpa using this)
  refine List.pairwise_cons.2 ⟨fun y hy=>?_,hs⟩
  cases s with
  |nil=>simp at hy
  |cons z s =>
   have h0:=h 0 (by simp)
   simp only[List.getD_cons_zero,List.getD_cons_succ] at h0
   rcases List.mem_cons.1 hy with rfl|hy
   ·exact h0
   ·have:=(List.pairwise_cons.1 hs).1 y hy
    omega
def zjf(s:List Int):Bool:=decide (s.length=1)&&(decide (0≤s.getD 0 0)&&decide (s.getD 0 0≤1000))
def zcj(typ:Int)(s:List Int):Bool:=if typ=1∨typ=5 then zjf s else if typ=4 then ascB s&&s.all okI else s.all okI
def typB(typ:Int):Bool:=decide (1≤typ)&&decide (typ≤5)
def zeV(typ:Int)(s:List Int):Int:=if typB typ=true then(if 50<s.length then 2 else if zcj typ s=true then 0 else 3) else 1
/-! Steps -/
abbrev Res:=List Int×Int×Int
def zaB(typ:Int)(s:List Int)(kind a:Int):Res :=
 if typ=1 then(if kind=1 then([a],0,0) else(s,s.getD 0 0,0))
 else if typ=2 then(if kind=3 then(if s.length=50 then([],0,2) else(s++[a],0,0)) else if s.length=0 then(s,-1,0) else(s.drop 1,s.getD 0 0,0))
 else if typ=3 then(if kind=5 then(if s.length=50 then([],0,2) else(s++[a],0,0)) else if s.length=0 then(s,-1,0) else(s.take (s.length-1),s.getD (s.length-1) 0,0))
 else if typ=4 then(if kind=7∧s.contains a=false∧s.length=50 then([],0,2) else((setP s kind a).1,(setP s kind a).2,0))
 else(if s.getD 0 0=1000 then([],0,2) else([s.getD 0 0+1],s.getD 0 0,0))
def zhd(s:List Int)(kind a:Int):Res :=
 if(kind=3∨kind=5∨kind=7∧s.contains a=false)∧s.length=50∨kind=10∧s.getD 0 0=1000 then([],0,2)
 else if kind=1 then([a],0,0)
 else if kind=2 then(s,s.getD 0 0,0)
 else if kind=3∨kind=5 then(s++[a],0,0)
 else if kind=4∨kind=6 then(if s.length=0 then(s,-1,0) else if kind=4 then(s.drop 1,s.getD 0 0,0) else(s.take (s.length-1),s.getD (s.length-1) 0,0))
 else if kind=10 then([s.getD 0 0+1],s.getD 0 0,0)
 else((setR s kind a).1,(setR s kind a).2,0)
def fitB(typ kind:Int):Prop:=typ=1∧(kind=1∨kind=2)∨typ=2∧(kind=3∨kind=4)∨typ=3∧(kind=5∨kind=6)∨typ=4∧(kind=7∨kind=8∨kind=9)∨typ=5∧kind=10
theorem step_eq{typ:Int}{s:List Int}{kind a:Int}(hv:zcj typ s=true)(hf:fitB typ kind):zhd s kind a=zaB typ s kind a:=by
 rcases hf with⟨rfl,rfl|rfl⟩|⟨rfl,rfl|rfl⟩|⟨rfl,rfl|rfl⟩|⟨rfl,hk⟩|⟨rfl,rfl⟩
 ·simp[zhd,zaB]
 ·simp[zhd,zaB]
 ·simp[zhd,zaB]
 ·simp[zhd,zaB]
 ·simp[zhd,zaB]
 ·simp[zhd,zaB]
 ·have hs:Asc s:=by
   have:ascB s=true:=by
    simp only[zcj] at hv
    rw[if_neg (by decide),if_pos trivial,Bool.and_eq_true] at hv
    exact hv.1
   exact asc_of this
  have he:=setP_eq hs kind a hk
  rcases hk with rfl|rfl|rfl
  ·simp[zhd,zaB,he]
  ·simp[zhd,zaB,he]
  ·simp[zhd,zaB,he]
 ·simp[zhd,zaB]
theorem zdS{s t:List Int}(h:s.all okI=true)(hs:∀x∈t,x∈s):t.all okI=true:=by
 rw[List.all_eq_true] at h ⊢
 exact fun x hx=>h x (hs x hx)
theorem ascB_of{s:List Int}(h:Asc s):ascB s=true:=by
 rw[zil]
 intro j hj
 have h1:s.getD j 0=s[j]:=by simp[List.getD_eq_getElem?_getD,show j<s.length by omega]
 have h2:s.getD (j+1) 0=s[j+1]:=by simp[List.getD_eq_getElem?_getD,hj]
 rw[h1,h2]
 exact(List.pairwise_iff_getElem.1 h) j (j+1) (by omega) hj (by omega)
theorem setP_valid{s:List Int}{kind a:Int}(hs:Asc s)(ho:s.all okI=true)(ha:okI a=true):Asc (setP s kind a).1∧(setP s kind a).1.all okI=true:=by
 obtain⟨p1,p2,p3⟩:=zgo hs a
 unfold setP
 generalize zgR s a=i at *
 have hsp:s=s.take i++s.drop i:=(List.take_append_drop i s).symm
 split
 ·split
  ·exact⟨hs,ho⟩
  ·split
   ·refine⟨?_,zdS ho fun x hx=>?_⟩
    ·have:(s.take i++s.drop (i+1)).Sublist s:=by
      conv=>rhs;rw[hsp]
      refine List.Sublist.append (List.Sublist.refl _) ?_
      rw[←List.drop_drop]
      exact List.drop_sublist 1 _
     exact hs.sublist this
    ·rcases List.mem_append.1 hx with h|h
     ·exact List.mem_of_mem_take h
     ·exact List.mem_of_mem_drop h
   ·exact⟨hs,ho⟩
 ·rename_i hc
  split
  ·refine⟨?_,?_⟩
   ·unfold Asc at hs ⊢
    rw[hsp,List.pairwise_append] at hs
    obtain⟨q1,q2,q3⟩:=hs
    rw[List.pairwise_append,List.pairwise_cons]
    refine⟨q1,⟨fun y hy=>?_,q2⟩,fun x hx y hy=>?_⟩
    ·have h1:=p2 y hy
     have h2:a≠y:=fun e=>by
      subst e
      exact hc (by simpa using List.mem_of_mem_drop hy)
     omega
    ·rcases List.mem_cons.1 hy with rfl|hy
     ·exact p1 x hx
     ·exact q3 x hx y hy
   ·rw[List.all_append,List.all_cons,ha,Bool.true_and,Bool.and_eq_true]
    exact⟨zdS ho fun x hx=>List.mem_of_mem_take hx,zdS ho fun x hx=>List.mem_of_mem_drop hx⟩
  ·exact⟨hs,ho⟩
theorem setP_len{s:List Int}{kind a:Int}(h50:s.length≤50)(hn:¬(kind=7∧s.contains a=false∧s.length=50)):(setP s kind a).1.length≤50:=by
 unfold setP
 split
 ·split
  ·exact h50
  ·split
   ·simp only[List.length_append,List.length_take,List.length_drop];omega
   ·exact h50
 ·rename_i hc
  split
  ·rename_i hk
   have hc':s.contains a=false:=by simpa using hc
   have:s.length≠50:=fun e=>hn ⟨hk,hc',e⟩
   simp only[List.length_append,List.length_take,List.length_cons,List.length_drop];omega
  ·exact h50
theorem zjg{typ:Int}{s:List Int}(h:zeV typ s=0):typB typ=true∧s.length≤50∧zcj typ s=true:=by
 unfold zeV at h
 split at h
 ·rename_i h1
  split at h
  ·cases h
  ·split at h
   ·exact⟨h1,by omega,by assumption⟩
   ·cases h
 ·cases h
theorem zfR{typ:Int}{s:List Int}(h1:typB typ=true)(h2:s.length≤50)(h3:zcj typ s=true):zeV typ s=0:=by
 unfold zeV
 rw[if_pos h1,if_neg (by omega),if_pos h3]
theorem okI_of{kind a:Int}(h:zdO kind a=true)(hk:¬(kind=2∨kind=4∨kind=6∨kind=10)):okI a=true:=by
 unfold zdO at h
 rw[if_neg hk] at h
 simp only[decide_eq_true_eq] at h
 simp[okI,h.1,h.2]
theorem zhe{typ:Int}{s:List Int}{kind a:Int}(h:zeV typ s=0)(hf:fitB typ kind)(ha:zdO kind a=true)(he:(zaB typ s kind a).2.2=0):zeV typ (zaB typ s kind a).1=0:=by
 obtain⟨h1,h2,h3⟩:=zjg h
 rcases hf with⟨rfl,rfl|rfl⟩|⟨rfl,rfl|rfl⟩|⟨rfl,rfl|rfl⟩|⟨rfl,hk⟩|⟨rfl,rfl⟩
 ·have:=okI_of ha (by decide)
  simp only[okI,Bool.and_eq_true,decide_eq_true_eq] at this
  refine zfR h1 (by simp[zaB]) ?_
  simp[zaB,zcj,zjf];omega
 ·simpa[zaB] using h
 ·have:=okI_of ha (by decide)
  simp only[zaB] at he ⊢
  by_cases h50:s.length=50
  ·simp[h50] at he
  ·simp only[h50]
   refine zfR h1 (by simp;omega) ?_
   simp only[zcj] at h3 ⊢
   simpa[this] using h3
 ·simp only[zaB] at he ⊢
  by_cases h0:s.length=0
  ·simpa[h0] using h
  ·refine zfR h1 (by simp[h0];omega) ?_
   simp only[zcj,h0] at h3 ⊢
   have h3':s.all okI=true:=by simpa using h3
   simpa using zdS h3' (t:=s.drop 1) fun x hx=>List.mem_of_mem_drop hx
 ·have:=okI_of ha (by decide)
  simp only[zaB] at he ⊢
  by_cases h50:s.length=50
  ·simp[h50] at he
  ·simp only[h50]
   refine zfR h1 (by simp;omega) ?_
   simp only[zcj] at h3 ⊢
   simpa[this] using h3
 ·simp only[zaB] at he ⊢
  by_cases h0:s.length=0
  ·simpa[h0] using h
  ·refine zfR h1 (by simp[h0];omega) ?_
   simp only[zcj,h0] at h3 ⊢
   have h3':s.all okI=true:=by simpa using h3
   simpa using zdS h3' (t:=s.take (s.length-1)) fun x hx=>List.mem_of_mem_take hx
 ·have ho:=okI_of ha (by omega)
  have h3':ascB s=true∧s.all okI=true:=by simpa[zcj] using h3
  obtain⟨v1,v2⟩:=setP_valid (kind:=kind) (asc_of h3'.1) h3'.2 ho
  have e:(4:Int)=4:=rfl
  by_cases hfull:kind=7∧s.contains a=false∧s.length=50
  ·unfold zaB at he
   rw[if_neg (by decide),if_neg (by decide),if_neg (by decide),if_pos rfl,if_pos hfull] at he;cases he
  ·have hs:zaB 4 s kind a=((setP s kind a).1,(setP s kind a).2,0):=by
    unfold zaB
    rw[if_neg (by decide),if_neg (by decide),if_neg (by decide),if_pos rfl,if_neg hfull]
   rw[hs]
   refine zfR h1 (setP_len h2 hfull) ?_
   simp only[zcj]
   rw[if_neg (by decide),if_pos trivial,Bool.and_eq_true]
   exact⟨ascB_of v1,v2⟩
 ·simp only[zaB] at he ⊢
  have h3':zjf s=true:=by simpa[zcj] using h3
  simp only[zjf,Bool.and_eq_true,decide_eq_true_eq] at h3'
  by_cases hm:s.getD 0 0=1000
  ·rw[if_neg (by decide),if_neg (by decide),if_neg (by decide),if_neg (by decide),if_pos hm] at he;cases he
  ·rw[if_neg (by decide),if_neg (by decide),if_neg (by decide),if_neg (by decide),if_neg hm]
   refine zfR h1 (by simp) ?_
   simp only[zcj,zjf,List.getD_cons_zero,List.length_singleton]
   rw[if_pos (by decide),Bool.and_eq_true,Bool.and_eq_true,decide_eq_true_eq,decide_eq_true_eq,decide_eq_true_eq]
   exact⟨trivial,by omega,by omega⟩
theorem step_bad{typ:Int}{s:List Int}{kind a:Int}(h:(zaB typ s kind a).2.2≠0):zaB typ s kind a=([],0,2):=by
 unfold zaB at h ⊢
 repeat' split at h
 all_goals first|(exact absurd rfl h)|skip
 all_goals simp_all
end
end Go.Proofs.YtjdckepbihcgfaaGreatDoor
