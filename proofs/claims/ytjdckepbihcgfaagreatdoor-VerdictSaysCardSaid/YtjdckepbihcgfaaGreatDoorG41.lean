/- Lemmas for the walks (TxS). No condition. -/
import Derived.Test.YtjdckepbihcgfaaGreatDoorG40
set_option linter.unusedSimpArgs false
set_option linter.unusedVariables false
set_option linter.unusedSectionVars false
set_option linter.unnecessarySimpa false
set_option maxRecDepth 100000
set_option maxHeartbeats 8000000
namespace Go.Proofs.YtjdckepbihcgfaaGreatDoor
section
open Go.RowKit Go.Lib
theorem zf4{p R:Prop}(r:R)(h:Rest R→p:=by intro r;(first|with_reducible (first|apply zcE|apply za9|apply zba|apply zbd|apply zbe)|((with_reducible (first|apply zaN|apply zaO));exact rfl;exact rfl;(with_reducible exact rfl)));(first|((with_reducible apply zi7 Tryz.underlying9);exact rfl)|((with_reducible apply zcX);exact rfl;exact rfl)|((with_reducible apply zig (a:=ls[k]) (b:=[]));exact rfl;exact rfl)|((with_reducible apply zig (a:=textB (zbZ l0) []) (b:=l0++[10]));exact rfl;exact rfl)|((with_reducible apply zgl (a:=l0) (b:=[10]));exact rfl;exact rfl;((try simp only[List.length_cons,List.length_nil]);omega))|((with_reducible apply zc6 (l:=1));exact rfl;exact rfl;omega)|((with_reducible apply zeb (o':=j+1));exact rfl;exact rfl;omega;omega)|exact QS.auto);exact rfl;exact r.out):p:=h ⟨r⟩
theorem cut_any(l:Bs)(w:World)(hl:l.length≤1000000)(hT:TxW w):Calls Tryz.prog 65 #[bsv l,bsv [10]] w fun e w'=>e=.returned (.tuple #[bsv (Lib.cut l [10]).1,bsv (Lib.cut l [10]).2.1,.bool (Lib.cut l [10]).2.2])∧Below w.heap.size w w':=by
 obtain⟨m,hm⟩:=hT.max
 refine(Any.strings_Cut layCut ⟨l.toArray⟩ ⟨#[10]⟩ m w (by show l.toArray.size<_;simp;omega) hm).mono ?_
 rintro e w' ⟨rfl,n,rfl⟩
 have e1:(⟨l.toArray⟩:ByteArray).data.toList=l:=by simp
 have e2:(⟨#[10]⟩:ByteArray).data.toList=[10]:=rfl
 rw[e1,e2]
 exact⟨rfl,below_drewN0 n⟩
theorem cut_more{x r:Bs}(hx:(10:UInt8)∉x)(w:World)(hl:(x++10::r).length≤1000000)(hT:TxW w):Calls Tryz.prog 65 #[bsv (x++10::r),bsv [10]] w fun e w'=>e=.returned (.tuple #[bsv x,bsv r,.bool true])∧Below w.heap.size w w':=by
 have:=cut_any (x++10::r) w hl hT
 rw[cut_has hx r] at this
 exact this
theorem cut_last{x:Bs}(hx:(10:UInt8)∉x)(w:World)(hl:x.length≤1000000)(hT:TxW w):Calls Tryz.prog 65 #[bsv x,bsv [10]] w fun e w'=>e=.returned (.tuple #[bsv x,bsv [],.bool false])∧Below w.heap.size w w':=by
 have:=cut_any x w hl hT
 rw[cut_no hx] at this
 exact this
theorem join_more{ls:List Bs}{k:Nat}(h:k+1<ls.length):zby 10 (ls.drop k)=ls[k]++10::zby 10 (ls.drop (k+1)):=by
 rw[List.drop_eq_getElem_cons Zo,zfa]
 intro e
 have:=congrArg List.length e
 simp at this;omega
theorem join_one{ls:List Bs}{k:Nat}(h:k+1=ls.length):zby 10 (ls.drop k)=ls[k]:=by
 rw[List.drop_eq_getElem_cons Zo,List.drop_eq_nil_of_le Zo];rfl
def tyTo(w:Bs)(t:Nat):List Int:=if 1≤zcM typeW w∧zcM typeW w<(t:Int) then[zcM typeW w] else[]
theorem type_at{w:Bs}{k:Nat}(hk:k<6):typeW.getD k []=w↔zcM typeW w=(k:Int):=by
 constructor
 ·intro h
  have:=idxB_at (ws:=typeW) Zi (i:=k) hk
  rw[h] at this
  exact this
 ·intro h
  rcases zcy typeW w with e|⟨i,e,h1,h2⟩
  ·omega
  ·have:i=k:=by omega
   rw[←this];exact h2
theorem tyTo_one(w:Bs):tyTo w 1=[]:=if_neg Zo
theorem tyTo_yes{w:Bs}{t:Nat}(h1:1≤t)(ht:t<6)(h:typeW.getD t []=w):tyTo w t=[]∧tyTo w (t+1)=[(t:Int)]:=by
 have:=(type_at ht).1 h
 unfold tyTo
 rw[this]
 exact⟨if_neg Zo,if_pos Zo⟩
theorem tyTo_no{w:Bs}{t:Nat}(ht:t<6)(h:¬typeW.getD t []=w):tyTo w (t+1)=tyTo w t:=by
 have:¬zcM typeW w=(t:Int):=fun e=>h ((type_at ht).2 e)
 unfold tyTo
 by_cases e:1≤zcM typeW w∧zcM typeW w<(t:Int)
 ·rw[if_pos e,if_pos Zo]
 ·rw[if_neg e,if_neg Zo]
theorem tyTo_end(w:Bs):tyTo w 6=(tyOf w).toList:=by
 have h:zcM typeW w<6:=by
  rcases zcy typeW w with e|⟨i,e,h1,_⟩
  ·omega
  ·have:typeW.length=6:=rfl
   omega
 unfold tyTo tyOf
 by_cases e:1≤zcM typeW w
 ·rw[if_pos ⟨e,h⟩,if_pos e];rfl
 ·rw[if_neg (fun c=>e c.1),if_neg e];rfl
theorem tyTo_len(w:Bs)(t:Nat):(tyTo w t).length≤1:=by unfold tyTo;split<;>simp
def zjX(ws:List Bs)(j:Nat):List Int:=(ws.tail.take j).filterMap tyOf
theorem tyAcc_len(ws:List Bs)(j:Nat):(zjX ws j).length≤j:=by
 unfold zjX
 refine Nat.le_trans (List.length_filterMap_le _ _) ?_
 rw[List.length_take];omega
theorem tyAcc_succ{ws:List Bs}{j:Nat}(h:j+1<ws.length):zjX ws (j+1)=zjX ws j++tyTo ws[j+1] 6:=by
 have hg:ws.tail[j]'(by simp;omega)=ws[j+1]:=by simp
 unfold zjX
 rw[List.take_succ_eq_append_getElem (by simp;omega),List.filterMap_append,hg,tyTo_end]
 congr 1
theorem tyAcc_end(ws:List Bs):zjX ws (ws.length-1)=ws.tail.filterMap tyOf:=by
 unfold zjX
 rw[List.take_of_length_le Zj]
theorem textB_nil(ts:List Int):textB ts []=ziQ ts++[10]:=by
 unfold textB
 rw[firstL_flat];simp
section
variable (l:Bs)(w:World)(hl:l.length≤9223372036854775807)(hT:TxD w) 
include hl hT
theorem docRead_any:Calls Tryz.prog 28 #[bsv l] w fun e w'=>∃x:(Option Addr×Nat)×(Option Addr×Nat),e=.returned (.tuple #[.slice x.1.1 (zbx l).1.length x.1.2,.slice x.2.1 (zbx l).2.1.length x.2.2,.int .i64 (zbx l).2.2.1,.int .i64 (zbx l).2.2.2])∧Mem ⟨0,[],w⟩ w' [zac zag 1 3 x.1.1 x.1.2 (zbx l).1,zac Ev.enc 4 95 x.2.1 x.2.2 (zbx l).2.1]:=by
 refine zaj (S:=[]) [] Tryz.func28 rfl Tryz.ntmps28 Zj (Mem.nil _) ?_
 by_cases h8:8192<l.length
 ·rw[show zbx l=([],[],0,2) from if_pos h8]
  repeat' (first|refine zf4 ?_|refine Zha ?_|(refine Zhb ?_;intro g)|(refine Zg ?_ ?_<;>(intro h;try exact Zx))|refine GOF ?_ ?_|fail)
  all_goals first|(exfalso;omega)|skip
  (refine zah Tryz.results28 rfl (fun w' hw=>?_))
  exact⟨((none,0),(none,0)),rfl,(((hw.nilOwn Ev.enc 4 95).nilOwn zag 1 3).anyN 0).sel Zl⟩
 have hR:zbx l=match zef (zas 10 l) with
  |some i=>([],[],(i:Int),7)
  |none =>
   if(zai (zfN (zas 10 l)) (zfM (zas 10 l) ((zas 10 l).length-1))).2.2=2 then([],[],0,2)
   else if(zai (zfN (zas 10 l)) (zfM (zas 10 l) ((zas 10 l).length-1))).2.2≠0 then([],[],(zai (zfN (zas 10 l)) (zfM (zas 10 l) ((zas 10 l).length-1))).2.1+1,(zai (zfN (zas 10 l)) (zfM (zas 10 l) ((zas 10 l).length-1))).2.2)
   else(zfN (zas 10 l),zfM (zas 10 l) ((zas 10 l).length-1),0,0):=if_neg h8
 have hne:=zb3 10 l
 have hsl:=zbW 10 l
 have hpl:=fun x (h:x∈zas 10 l)=>zc7 h
 have hfr:=ziH 10 l
 have hjo:=zdR 10 l
 obtain⟨ls,hls⟩:∃ls,ls=zas 10 l:=⟨_,rfl⟩
 rw[←hls] at hne hsl hpl hR hfr hjo
 clear hls
 have hpos:0<ls.length:=by
  rcases hx:ls with _|⟨a,b⟩
  ·exact absurd hx hne
  ·simp
 repeat' (first|refine zf4 ?_|refine Zha ?_|(refine Zhb ?_;intro g)|(refine Zg ?_ ?_<;>(intro h;try exact Zx))|refine GOF ?_ ?_|fail)
 all_goals first|(exfalso;omega)|skip
 refine zap (X:=Nat×(Option Addr×Nat)×(Option Addr×Nat)) (fun x=>[(8,.int .i64 (x.1:Nat)),(0,bsv (zby 10 (ls.drop x.1))),(6,.slice x.2.1.1 (zha ls x.1).length x.2.1.2),(7,.slice x.2.2.1 (zfg ls x.1).length x.2.2.2)]) (fun x=>[zac zag 1 3 x.2.1.1 x.2.1.2 (zha ls x.1),zac Ev.enc 4 95 x.2.2.1 x.2.2.2 (zfg ls x.1)])
  (fun x=>x.1<ls.length∧(∀i,i<x.1→zbT ls i=true)∧(zby 10 (ls.drop x.1)).length≤8192) (fun x=>ls.length-x.1) (0,(none,0),(none,0)) ⟨hpos,fun i h=>absurd h (Nat.not_lt_zero _),by show(zby 10 ls).length≤_;rw[hjo];omega⟩ (by(try dsimp only);rw[List.drop_zero,hjo];exact Ze) (fun w' hw=>by(show Mem _ w' [zac zag 1 3 none 0 [],zac Ev.enc 4 95 none 0 []]);exact((hw.nilOwn Ev.enc 4 95).nilOwn zag 1 3).sel Zl) ?_
 rintro⟨k,⟨A3,c3⟩,⟨A4,c4⟩⟩ ⟨hkl,hok,hjl⟩
 dsimp only at hkl hok hjl ⊢
 have hlk:lnK ls k=ls[k]:=by unfold lnK;simp[hkl]
 have hpk:=hpl ls[k] (List.getElem_mem _)
 have hfree:=hfr ls[k] (List.getElem_mem _)
 have hbad:zbT ls k=false→zbx l=([],[],(k:Int),7):=fun h=>by rw[hR,zhL hkl hok h]
 have hnx:zbT ls k=true→∀i,i<k+1→zbT ls i=true:=fun h i hi=>by
  rcases Nat.lt_succ_iff_lt_or_eq.1 hi with h1|rfl
  ·exact hok i h1
  ·exact h
 have hlo:zbT ls k=if k+1=ls.length then decide (ls[k]=[]∧0<k) else if k=0 then(zbj ls[k]).isSome else(zaL ls[k]).isSome:=by
  unfold zbT
  rw[hlk]
  by_cases e0:k=0
  ·subst e0;rw[hlk]
  ·rw[if_neg e0,if_neg e0]
 by_cases hlast:k+1=ls.length
 ·rw[if_pos hlast] at hlo
  rw[join_one hlast]
  by_cases hemp:ls[k]=[]∧0<k
  ·rw[decide_eq_true hemp] at hlo
   have hall:=hnx hlo
   rw[hlast] at hall
   rw[zhK hall] at hR
   dsimp only at hR
   have hye:=callsR_y (zfN ls) (zfM ls (ls.length-1))
   have htk:zha ls k=zfN ls:=if_neg Zo
   have hek:zfg ls k=zfM ls (ls.length-1):=by
    unfold zfg
    rw[show min k (ls.length-1)=ls.length-1 by omega]
   have hel:(zfM ls (ls.length-1)).length≤8192:=by rw[zgh];omega
   have htl:(zfN ls).length≤4:=by
    unfold zfN
    cases ht:zbj (lnK ls 0) with
    |none=>exact Nat.zero_le _
    |some t=>exact(zg5 ht).1
   rw[htk,hek]
   clear hok htk hek hpl hbad hnx hlo hall hjl
   generalize zfN ls=K at *
   generalize zfM ls (ls.length-1)=E at *
   have h1:=fun w h1 h2=>zee A3 A4 c3 c4 K E w Zo Zo h1 h2
   obtain⟨cs,y,z,hcr⟩:∃cs y z,zai K E=(cs,y,z):=⟨_,_,_,rfl⟩
   rw[hcr] at h1 hR hye
   dsimp only at h1 hR hye
   repeat' (first|refine zf4 ?_|refine Zha ?_|(refine Zhb ?_;intro g)|(refine Zg ?_ ?_<;>(intro h;try exact Zx))|refine GOF ?_ ?_|((with_reducible (first|apply zaa|apply TD_e3z|apply zan|apply zaf|apply zae));((with_reducible apply zad (f:=65));exact rfl;(intro w hw;exact cut_last hfree w Zo (hT.carry (hw.below0 rfl)).toTxW);exact rfl);exact Zh;(rintro _ _ ⟨rfl,rfl⟩);(try refine⟨SUB,?_⟩))|((with_reducible (first|apply zaa|apply TD_e3z|apply zan|apply zaf|apply zae));((with_reducible apply zal (f:=30));exact rfl;(intro w hw;exact h1 w (hw.ownRd Zm (fun _=>rfl)) (hw.ownRd Zm (fun _=>rfl)));exact rfl);exact Zh;(rintro _ _ ⟨A5,c5,rfl,rfl⟩);(try refine⟨SUB,?_⟩))|fail)
   all_goals first|(exfalso;omega)|(exfalso;exact(by assumption:¬ls[k]=[]) hemp.1)|(exfalso;have h0:decide (ls[k]=[])=false:=(by assumption);rw[decide_eq_true hemp.1] at h0;cases h0)|skip
   all_goals first
    |(have hz:z=2:=by assumption
      (refine zah Tryz.results28 rfl (fun w' hw=>?_))
      rw[hR,if_pos hz,hz]
      exact⟨((none,0),(none,0)),rfl,(((hw.nilOwn Ev.enc 4 95).nilOwn zag 1 3).anyN 0).sel Zl⟩)
    |(have hz:¬z=2:=by assumption
      have hz0:¬z=0:=by assumption
      (refine zah Tryz.results28 rfl (fun w' hw=>?_))
      rw[hR,if_neg hz,if_pos hz0]
      exact⟨((none,0),(none,0)),rfl,(((hw.nilOwn Ev.enc 4 95).nilOwn zag 1 3).anyN 0).sel Zl⟩)
    |(have hz:¬z=2:=by assumption
      have hz0:z=0:=by assumption
      (refine zah Tryz.results28 rfl (fun w' hw=>?_))
      rw[hR,if_neg hz,if_neg (fun h=>h hz0)]
      exact⟨((A3,c3),(A4,c4)),rfl,(hw.anyN 0).sel Zl⟩)
  ·rw[decide_eq_false hemp] at hlo
   have hbad:=hbad hlo
   have hemp':ls[k]=[]→¬((k:Nat):Int)=0→False:=fun a b=>hemp ⟨a,by omega⟩
   clear hlo hnx hR hjl
   generalize zfg ls k=E at *
   generalize zha ls k=K at *
   repeat' (first|refine zf4 ?_|refine Zha ?_|(refine Zhb ?_;intro g)|(refine Zg ?_ ?_<;>(intro h;try exact Zx))|refine GOF ?_ ?_|((with_reducible (first|apply zaa|apply TD_e3z|apply zan|apply zaf|apply zae));((with_reducible apply zad (f:=65));exact rfl;(intro w hw;exact cut_last hfree w Zo (hT.carry (hw.below0 rfl)).toTxW);exact rfl);exact Zh;(rintro _ _ ⟨rfl,rfl⟩);(try refine⟨SUB,?_⟩))|fail)
   all_goals first|(exfalso;omega)|(exfalso;exact hemp' (by assumption) (by assumption))|(exfalso;exact hemp' (of_decide_eq_true (by assumption)) (by assumption))|skip
   all_goals
    (refine zah Tryz.results28 rfl (fun w' hw=>?_))
    rw[hbad]
    exact⟨((none,0),(none,0)),rfl,(((hw.nilOwn Ev.enc 4 95).nilOwn zag 1 3).anyN 0).sel Zl⟩
 have hmore:k+1<ls.length:=by omega
 rw[if_neg hlast] at hlo
 have hjm:=join_more hmore
 rw[hjm] at hjl ⊢
 have hjl2:(zby 10 (ls.drop (k+1))).length≤8192:=by
  rw[List.length_append,List.length_cons] at hjl;omega
 clear hjm hR hok
 by_cases hk0:k=0
 ·rw[if_pos hk0] at hlo
  have htk:zha ls (k+1)=(zbj ls[k]).getD []:=by
   unfold zha zfN
   rw[if_neg Zo,←hlk,hk0]
  have hek:zfg ls (k+1)=zfg ls k:=by
   unfold zfg
   rw[hk0,show min (0+1) (ls.length-1)=1 by omega,show min 0 (ls.length-1)=0 by omega];rfl
  have ht0:zha ls k=[]:=if_pos hk0
  rw[ht0]
  obtain⟨l0,hl0⟩:∃x,x=ls[k]:=⟨_,rfl⟩
  rw[←hl0] at hfree hpk hlo htk hjl ⊢
  have hTD:=thingsDoc l0
  have hws1:=zb3 32 l0
  have hws2:=zbW 32 l0
  have hsp:=fun w h=>zeQ 32 l0 w Zo h
  have hty:zbZ l0=(zas 32 l0).tail.filterMap tyOf:=rfl
  obtain⟨ws,hws⟩:∃ws,ws=zas 32 l0:=⟨_,rfl⟩
  rw[←hws] at hws1 hws2 hsp hty
  have hwp:0<ws.length:=by
   rcases hx:ws with _|⟨a,b⟩
   ·exact absurd hx hws1
   ·simp
  clear hws hws1 hl0 hlk
  generalize zfg ls k=E at *
  repeat' (first|refine zf4 ?_|refine Zha ?_|(refine Zhb ?_;intro g)|(refine Zg ?_ ?_<;>(intro h;try exact Zx))|refine GOF ?_ ?_|((with_reducible (first|apply zaa|apply TD_e3z|apply zan|apply zaf|apply zae));((with_reducible apply zad (f:=65));exact rfl;(intro w hw;exact cut_more hfree w Zo (hT.carry (hw.below0 rfl)).toTxW);exact rfl);exact Zh;(rintro _ _ ⟨rfl,rfl⟩);(try refine⟨SUB,?_⟩))|((with_reducible (first|apply zaa|apply TD_e3z|apply zan|apply zaf|apply zae));((with_reducible apply zal (f:=54));exact rfl;(intro w hw;exact hsp w (hT.carry (hw.below0 rfl)).toTxW);exact rfl);exact Zh;(rintro _ _ ⟨A1,c1,rfl,rfl⟩);(try refine⟨SUB,?_⟩))|fail)
  all_goals first|(exfalso;omega)|skip
  refine zfP (p:=ws.length≤c1∧(A1=none→c1=0)) (fun w hw=>hw.ownFacts (enc:=zbn) (M:=1) (et:=9) Zm) fun hf=>?_
  refine zhF (enc:=zbn) (ls:=ws) Zm Zo ?_
  rintro g1 rfl
  repeat' (first|refine zf4 ?_|refine Zha ?_|(refine Zhb ?_;intro g)|(refine Zg ?_ ?_<;>(intro h;try exact Zx))|refine GOF ?_ ?_|fail)
  all_goals first|(exfalso;omega)|skip
  obtain⟨off,hoff⟩:∃off,off=(if c1=1 then 0 else 0+1 * 1):=⟨_,rfl⟩
  rw[←hoff]
  have hoff1:1<ws.length→off=1:=fun h=>by rw[hoff,if_neg Zo]
  clear hoff
  refine zap (X:=Nat×(Option Addr×Nat)) (fun x=>[(47,.int .i64 (x.1:Nat)),(46,.int .i64 ((ws.length-1:Nat):Int)),(45,.slice (some ⟨g1,off,none⟩) (ws.length-1) (c1-1)),(6,.slice x.2.1 (zjX ws x.1).length x.2.2),(8,.int .i64 (k:Nat)),(9,bsv l0),(0,bsv (zby 10 (ls.drop (k+1)))),(7,.slice A4 E.length c4)]) (fun x=>[zac zag 1 3 x.2.1 x.2.2 (zjX ws x.1),zac Ev.enc 4 95 A4 c4 E,zac zbn 1 9 (some ⟨g1,0,none⟩) c1 ws])
   (fun x=>x.1≤ws.length-1) (fun x=>ws.length-1-x.1) (0,(A3,c3)) (by(try dsimp only);omega) (by(try dsimp only);exact Ze) (fun w' hw=>by(try dsimp only);rw[show zjX ws 0=[] from rfl];exact hw.sel Zl) ?_
  rintro⟨j,⟨A5,c5⟩⟩ hj
  dsimp only at hj ⊢
  by_cases hjl:j<ws.length-1
  ·obtain rfl:=hoff1 Zo
   have hj1:j+1<ws.length:=by omega
   have hts:=tyAcc_succ hj1
   have htl:=tyAcc_len ws j
   generalize zjX ws j=K at *
   repeat' (first|refine zf4 ?_|refine Zha ?_|(refine Zhb ?_;intro g)|(refine Zg ?_ ?_<;>(intro h;try exact Zx))|refine GOF ?_ ?_|fail)
   all_goals first|(exfalso;omega)|skip
   refine zap (X:=Nat×(Option Addr×Nat)) (fun x=>[(14,.int .i64 (x.1:Nat)),(13,bsv ws[j+1]),(6,.slice x.2.1 (K++tyTo ws[j+1] x.1).length x.2.2),(47,.int .i64 (j:Nat)),(46,.int .i64 ((ws.length-1:Nat):Int)),(45,.slice (some ⟨g1,1,none⟩) (ws.length-1) (c1-1)),(8,.int .i64 (k:Nat)),(9,bsv l0),(0,bsv (zby 10 (ls.drop (k+1)))),(7,.slice A4 E.length c4)]) (fun x=>[zac zag 1 3 x.2.1 x.2.2 (K++tyTo ws[j+1] x.1),zac Ev.enc 4 95 A4 c4 E,zac zbn 1 9 (some ⟨g1,0,none⟩) c1 ws])
    (fun x=>1≤x.1∧x.1≤6) (fun x=>6-x.1) (1,(A5,c5)) ⟨by(try dsimp only);omega,by(try dsimp only);omega⟩ (by(try dsimp only);rw[tyTo_one,List.append_nil];exact Ze) (fun w' hw=>by(try dsimp only);rw[tyTo_one,List.append_nil];exact hw.sel Zl) ?_
   rintro⟨t,⟨A6,c6⟩⟩ ⟨ht1,ht6⟩
   dsimp only at ht1 ht6 ⊢
   have htt:=tyTo_len ws[j+1] t
   by_cases ht:t<6
   ·by_cases hwd:typeW.getD ((t:Nat):Int).toNat []=ws[j+1]
    ·obtain⟨hy0,hy1⟩:=tyTo_yes ht1 ht (w:=ws[j+1]) hwd
     rw[hy0,List.append_nil]
     repeat' (first|refine zf4 ?_|refine Zha ?_|(refine Zhb ?_;intro g)|(refine Zg ?_ ?_<;>(intro h;try exact Zx))|refine GOF ?_ ?_|((with_reducible (first|apply zaa|apply TD_e3z|apply zan|apply zaf|apply zae));((with_reducible apply zad (f:=66));exact rfl;(intro w hw;exact ze8 _ w Zo (hT.carry (hw.below0 rfl)));exact rfl);exact Zh;(rintro _ _ ⟨rfl,rfl⟩);(try refine⟨SUB,?_⟩))|((with_reducible (first|apply zaa|apply TD_e3z|apply zan|apply zaf|apply zae));((with_reducible apply zaw (enc:=zag) (xx:=(t:Int)));exact rfl;exact rfl;exact Zm;exact rfl;exact fun _=>rfl;exact fun _=>rfl;(intro A' c';exact Zu);(omega);decide;exact rfl);exact Zh;(rintro _ _ ⟨A',c',rfl,rfl⟩);(try refine⟨SUB,?_⟩))|fail)
     all_goals first|(exfalso;omega)|(exfalso;contradiction)|skip
     all_goals
      apply zab (t+1,(A',c'))
      (case hE=>(try dsimp only);rw[hy1];exact Ze)
      (case hS=>(try dsimp only);rw[hy1];exact fun w' hw=>hw.sel Zl)
      (case hμ=>(try dsimp only);omega)
      (case hp=>exact⟨by(try dsimp only);omega,by(try dsimp only);omega⟩)
    ·have hy1:=tyTo_no ht (w:=ws[j+1]) hwd
     repeat' (first|refine zf4 ?_|refine Zha ?_|(refine Zhb ?_;intro g)|(refine Zg ?_ ?_<;>(intro h;try exact Zx))|refine GOF ?_ ?_|((with_reducible (first|apply zaa|apply TD_e3z|apply zan|apply zaf|apply zae));((with_reducible apply zad (f:=66));exact rfl;(intro w hw;exact ze8 _ w Zo (hT.carry (hw.below0 rfl)));exact rfl);exact Zh;(rintro _ _ ⟨rfl,rfl⟩);(try refine⟨SUB,?_⟩))|fail)
     all_goals first|(exfalso;omega)|(exfalso;contradiction)|skip
     all_goals
      apply zab (t+1,(A6,c6))
      (case hE=>(try dsimp only);rw[hy1];exact Ze)
      (case hS=>(try dsimp only);rw[hy1];exact fun w' hw=>hw.sel Zl)
      (case hμ=>(try dsimp only);omega)
      (case hp=>exact⟨by(try dsimp only);omega,by(try dsimp only);omega⟩)
   ·obtain rfl:t=6:=by omega
    rw[←hts]
    repeat' (first|refine zf4 ?_|refine Zha ?_|(refine Zhb ?_;intro g)|(refine Zg ?_ ?_<;>(intro h;try exact Zx))|refine GOF ?_ ?_|fail)
    all_goals first|(exfalso;omega)|skip
    all_goals
     apply zab (j+1,(A6,c6))
     (case hE=>(try dsimp only);exact Ze)
     (case hS=>(try dsimp only);exact fun w' hw=>hw.sel Zl)
     (case hμ=>(try dsimp only);omega)
     (case hp=>(try dsimp only);omega)
  ·obtain rfl:j=ws.length-1:=by omega
   have hKl:=tyAcc_len ws (ws.length-1)
   rw[tyAcc_end,←hty] at hKl ⊢
   clear hty
   have htys:=zg4 l0
   have htx:textB (zbZ l0) []=l0++[10]↔ziQ (zbZ l0)=l0:=by rw[textB_nil];exact List.append_left_inj [10]
   by_cases hc:1≤(zbZ l0).length∧(zbZ l0).length≤4
   ·have hto:=fun A c w h hT=>textOf_any A none c 0 (zbZ l0) [] w h (RdE.nil _) hT hc.2 htys Zj Zj
    obtain⟨hc1,hc2⟩:=hc
    by_cases hfi:textB (zbZ l0) []=l0++[10]
    ·rw[if_pos ⟨hc1,hc2,htx.1 hfi⟩] at hTD
     rw[←hTD] at hlo htk
     replace htk:zha ls (k+1)=zbZ l0:=htk
     repeat' (first|refine zf4 ?_|refine Zha ?_|(refine Zhb ?_;intro g)|(refine Zg ?_ ?_<;>(intro h;try exact Zx))|refine GOF ?_ ?_|((with_reducible (first|apply zaa|apply TD_e3z|apply zan|apply zaf|apply zae));((with_reducible apply zad (f:=67));exact rfl;(intro w hw;exact Calls.same_below (zbu _ _ _ _));exact rfl);exact Zh;(rintro _ _ ⟨rfl,rfl⟩);(try refine⟨SUB,?_⟩))|((with_reducible (first|apply zaa|apply TD_e3z|apply zan|apply zaf|apply zae));((with_reducible apply zad (f:=68));exact rfl;(intro w hw;exact hto _ _ w (hw.ownRd Zm (fun _=>rfl)) (hT.carry (hw.below0 rfl)));exact rfl);exact Zh;(rintro _ _ ⟨rfl,rfl⟩);(try refine⟨SUB,?_⟩))|fail)
     all_goals first|(exfalso;omega)|(exfalso;contradiction)|skip
     all_goals
      apply zab (k+1,(A5,c5),(A4,c4))
      (case hE=>(try dsimp only);rw[hek,htk];exact Ze)
      (case hS=>(try dsimp only);rw[hek,htk];exact fun w' hw=>hw.sel Zl)
      (case hμ=>(try dsimp only);omega)
      (case hp=>exact⟨hmore,hnx hlo,hjl2⟩)
    ·rw[if_neg (fun h=>hfi (htx.2 h.2.2))] at hTD
     rw[←hTD] at hlo
     have hbad:=hbad hlo
     rw[hk0] at hbad
     repeat' (first|refine zf4 ?_|refine Zha ?_|(refine Zhb ?_;intro g)|(refine Zg ?_ ?_<;>(intro h;try exact Zx))|refine GOF ?_ ?_|((with_reducible (first|apply zaa|apply TD_e3z|apply zan|apply zaf|apply zae));((with_reducible apply zad (f:=67));exact rfl;(intro w hw;exact Calls.same_below (zbu _ _ _ _));exact rfl);exact Zh;(rintro _ _ ⟨rfl,rfl⟩);(try refine⟨SUB,?_⟩))|((with_reducible (first|apply zaa|apply TD_e3z|apply zan|apply zaf|apply zae));((with_reducible apply zad (f:=68));exact rfl;(intro w hw;exact hto _ _ w (hw.ownRd Zm (fun _=>rfl)) (hT.carry (hw.below0 rfl)));exact rfl);exact Zh;(rintro _ _ ⟨rfl,rfl⟩);(try refine⟨SUB,?_⟩))|fail)
     all_goals first|(exfalso;omega)|(exfalso;contradiction)|skip
     all_goals
      (refine zah Tryz.results28 rfl (fun w' hw=>?_))
      rw[hbad]
      exact⟨((none,0),(none,0)),rfl,(((hw.nilOwn Ev.enc 4 95).nilOwn zag 1 3).anyN 0).sel Zl⟩
   ·rw[if_neg (fun h=>hc ⟨h.1,h.2.1⟩)] at hTD
    rw[←hTD] at hlo
    have hbad:=hbad hlo
    rw[hk0] at hbad
    repeat' (first|refine zf4 ?_|refine Zha ?_|(refine Zhb ?_;intro g)|(refine Zg ?_ ?_<;>(intro h;try exact Zx))|refine GOF ?_ ?_|((with_reducible (first|apply zaa|apply TD_e3z|apply zan|apply zaf|apply zae));((with_reducible apply zad (f:=67));exact rfl;(intro w hw;exact Calls.same_below (zbu _ _ _ _));exact rfl);exact Zh;(rintro _ _ ⟨rfl,rfl⟩);(try refine⟨SUB,?_⟩))|fail)
    all_goals first|(exfalso;omega)|(exfalso;exact hc ⟨by omega,by omega⟩)|skip
    all_goals
     (refine zah Tryz.results28 rfl (fun w' hw=>?_))
     rw[hbad]
     exact⟨((none,0),(none,0)),rfl,(((hw.nilOwn Ev.enc 4 95).nilOwn zag 1 3).anyN 0).sel Zl⟩
 ·rw[if_neg hk0] at hlo
  have htk:zha ls (k+1)=zha ls k:=by unfold zha;rw[if_neg Zo,if_neg hk0]
  have hek:zfg ls (k+1)=zfg ls k++[(zaL ls[k]).getD ⟨0,0,0,0⟩]:=by
   unfold zfg
   obtain⟨j,rfl⟩:∃j,k=j+1:=⟨k-1,by omega⟩
   rw[show min (j+1+1) (ls.length-1)=j+2 by omega,show min (j+1) (ls.length-1)=j+1 by omega,evsK_succ,hlk]
  have hel:(zfg ls k).length≤8192:=by unfold zfg;rw[zgh];omega
  generalize zfg ls k=E at *
  generalize zha ls k=K at *
  repeat' (first|refine zf4 ?_|refine Zha ?_|(refine Zhb ?_;intro g)|(refine Zg ?_ ?_<;>(intro h;try exact Zx))|refine GOF ?_ ?_|((with_reducible (first|apply zaa|apply TD_e3z|apply zan|apply zaf|apply zae));((with_reducible apply zad (f:=65));exact rfl;(intro w hw;exact cut_more hfree w Zo (hT.carry (hw.below0 rfl)).toTxW);exact rfl);exact Zh;(rintro _ _ ⟨rfl,rfl⟩);(try refine⟨SUB,?_⟩))|fail)
  all_goals first|(exfalso;omega)|skip
  ((with_reducible (first|apply zaa|apply TD_e3z|apply zan|apply zaf|apply zae));((with_reducible apply zar (f:=69) (X:=EvTo ls[k]) (S1:=[]) (fun x=>.tuple #[.agg (Ev.enc x.1).toArray,.bool (zaL ls[k]).isSome]) (fun _=>[]));exact rfl;exact Zp;(intro x;(try dsimp only);exact Za);(intro w hw;exact lineEvent_any ls[k] w Zo (hT.carry (hw.below0 rfl)));exact rfl);exact Zh;(rintro _ _ ⟨⟨xe,hxe⟩,rfl,rfl⟩);(try refine⟨SUB,?_⟩))
  have hxs:(zaL ls[k]).isSome=true→(zaL ls[k]).getD ⟨0,0,0,0⟩=xe:=fun h=>by
   obtain⟨u,hu⟩:=Option.isSome_iff_exists.1 h
   exact(congrArg (·.getD ⟨0,0,0,0⟩) hu).trans (hxe u hu).symm
  repeat' (first|refine zf4 ?_|refine Zha ?_|(refine Zhb ?_;intro g)|(refine Zg ?_ ?_<;>(intro h;try exact Zx))|refine GOF ?_ ?_|((with_reducible (first|apply zaa|apply TD_e3z|apply zan|apply zaf|apply zae));((with_reducible apply zaw (enc:=Ev.enc) (xx:=xe));exact rfl;exact rfl;exact Zm;exact rfl;exact fun _=>rfl;exact fun _=>rfl;(intro A' c';exact Zu);(omega);decide;exact rfl);exact Zh;(rintro _ _ ⟨A',c',rfl,rfl⟩);(try refine⟨SUB,?_⟩))|fail)
  all_goals first
   |(have hb:(zaL ls[k]).isSome=false:=by assumption
     (refine zah Tryz.results28 rfl (fun w' hw=>?_))
     rw[hbad (by rw[hlo];exact hb)]
     exact⟨((none,0),(none,0)),rfl,(((hw.nilOwn Ev.enc 4 95).nilOwn zag 1 3).anyN 0).sel Zl⟩)
   |(have hg:(zaL ls[k]).isSome=true:=by assumption
     rw[hxs hg] at hek
     apply zab (k+1,(A3,c3),(A',c'))
     (case hE=>(try dsimp only);rw[hek,htk];exact Ze)
     (case hS=>(try dsimp only);rw[hek,htk];exact fun w' hw=>hw.sel Zl)
     (case hμ=>(try dsimp only);omega)
     (case hp=>exact⟨hmore,hnx (by rw[hlo];exact hg),hjl2⟩))
end
end
end Go.Proofs.YtjdckepbihcgfaaGreatDoor
