/- Lemmas for the walks (Obj2, Obj3, Own2, Cpy, Obj4). No condition. -/
import Derived.Test.YtjdckepbihcgfaaGreatDoorG08
import Derived.Shelf.Bits.Mul64
set_option linter.unusedSimpArgs false
set_option linter.unusedVariables false
set_option linter.unusedSectionVars false
set_option linter.unnecessarySimpa false
set_option maxRecDepth 100000
set_option maxHeartbeats 8000000
namespace Go.Proofs.YtjdckepbihcgfaaGreatDoor
section
open Go.RowKit
theorem zdy{p R:Prop}(r:R)(h:Rest R→p:=by intro r;(first|with_reducible (first|apply zcE|apply za9|apply zba|apply zbd|apply zbe)|((with_reducible (first|apply zaN|apply zaO));exact rfl;exact rfl;(with_reducible exact rfl)));(first|((with_reducible apply zbc);exact rfl)|((with_reducible apply zdx);exact rfl;exact rfl)|((with_reducible apply zed);exact rfl;exact rfl)|((with_reducible apply zgj);exact rfl;exact Zm)|((with_reducible apply za1);exact rfl;exact Lds.zero _)|exact QS.auto);exact rfl;exact r.out):p:=h ⟨r⟩
instance : PlainT Tryz.prog 241:=zeP Tryz.underlying241
instance : PlainT Tryz.prog 244:=zeP Tryz.underlying244
instance : PlainT Tryz.prog 245:=zeP Tryz.underlying245
instance : PlainT Tryz.prog 246:=zeP Tryz.underlying246
instance : PlainT Tryz.prog 247:=zeP Tryz.underlying247
instance : IfaceT Tryz.prog 191:=⟨⟨_,Tryz.underlying191⟩⟩
instance : CellsZ Tryz.prog 244:=⟨by kernel_rfl⟩
instance : CellsZ Tryz.prog 245:=⟨by kernel_rfl⟩
instance : CellsZ Tryz.prog 246:=⟨by kernel_rfl⟩
instance : FieldZ Tryz.prog 244 0:=⟨⟨_,_,Tryz.underlying244,rfl,rfl,rfl,Tryz.sizeOf242⟩⟩
instance : FieldZ Tryz.prog 245 0:=⟨⟨_,_,Tryz.underlying245,rfl,rfl,rfl,Tryz.sizeOf242⟩⟩
instance : FieldZ Tryz.prog 246 0:=⟨⟨_,_,Tryz.underlying246,rfl,rfl,rfl,Tryz.sizeOf242⟩⟩
def obV(typ:Int):Value :=
 if typ=1 then .iface 241 (.agg #[]) else if typ=2 then .iface 244 (.agg #[]) else if typ=3 then .iface 245 (.agg #[])
 else if typ=4 then .iface 246 (.agg #[]) else if typ=5 then .iface 247 (.agg #[]) else .nilIface
theorem zji(typ:Int)(w:World):Calls Tryz.prog 132 #[.int .i64 typ] w fun e w'=>e=.returned (obV typ)∧Below w.heap.size w w':=by
 refine zaj (S:=[]) [] Tryz.func132 rfl Tryz.ntmps132 Zj (Mem.nil _) ?_
 repeat' (first|refine zdy ?_|refine Zga ?_|(refine Zgb ?_;intro g)|(refine Zg ?_ ?_<;>(intro h;try exact Zx))|fail)
 all_goals(refine zah Tryz.results132 rfl (fun w' hw=>?_))
 all_goals refine⟨?_,hw.below0 rfl⟩
 all_goals simp only[obV]
 all_goals(try subst_vars)
 all_goals(try simp only[*,if_true,if_false])
 all_goals rfl
theorem zeW(w:World):Calls Tryz.prog 280 #[.agg #[]] w fun e w'=>∃A c,e=.returned (.slice A ([0]:List Int).length c)∧Own zag 1 3 w' w.heap.size (.slice A ([0]:List Int).length c) [0]∧Below w.heap.size w w':=by
 refine zaj (S:=[]) [] Tryz.func280 rfl Tryz.ntmps280 Zj (Mem.nil _) ?_
 repeat' (first|refine zdy ?_|refine Zga ?_|(refine Zgb ?_;intro g)|(refine Zg ?_ ?_<;>(intro h;try exact Zx))|fail)
 (refine zah Tryz.results280 rfl (fun w' hw=>?_))
 exact⟨_,_,rfl,hw.blkOut (enc:=zag) [0] rfl Zm rfl (fun _=>rfl) Zi,hw.below0 rfl⟩
theorem zeh(w:World):Calls Tryz.prog 283 #[.agg #[]] w fun e w'=>e=.returned (.slice none 0 0)∧Below w.heap.size w w':=by
 refine zaj (S:=[]) [] Tryz.func283 rfl Tryz.ntmps283 Zj (Mem.nil _) ?_
 repeat' (first|refine zdy ?_|refine Zga ?_|(refine Zgb ?_;intro g)|(refine Zg ?_ ?_<;>(intro h;try exact Zx))|fail)
 (refine zah Tryz.results283 rfl (fun w' hw=>?_))
 exact⟨rfl,hw.below0 rfl⟩
section
variable (A:Option Addr)(c:Nat)(s:List Int)(w:World)(hA:RdInt w A s) 
include hA
theorem zeX:Calls Tryz.prog 281 #[.agg #[],.slice A s.length c] w fun e w'=>e=.returned (.bool (zjf s))∧Below w.heap.size w w':=by
 by_cases h1:s.length=1
 ·obtain⟨x,rfl⟩:=List.length_eq_one_iff.1 h1
  obtain⟨b,o,rfl,_⟩:=RdE.open hA Zj
  refine zaj (S:=[]) [] Tryz.func281 rfl Tryz.ntmps281 Zj (Mem.nil _) ?_
  repeat' (first|refine zdy ?_|refine Zga ?_|(refine Zgb ?_;intro g)|(refine Zg ?_ ?_<;>(intro h;try exact Zx))|fail)
  all_goals(refine zah Tryz.results281 rfl (fun w' hw=>?_))
  ·refine⟨?_,hw.below0 rfl⟩
   have h0:(0:Int)≤x:=‹0≤[x][0]›
   simp[zjf,za0,h0]
  ·refine⟨?_,hw.below0 rfl⟩
   have h0:x<(0:Int):=‹[x][0]<0›
   simp[zjf,za0]
   omega
 ·refine zaj (S:=[]) [] Tryz.func281 rfl Tryz.ntmps281 Zj (Mem.nil _) ?_
  repeat' (first|refine zdy ?_|refine Zga ?_|(refine Zgb ?_;intro g)|(refine Zg ?_ ?_<;>(intro h;try exact Zx))|fail)
  (refine zah Tryz.results281 rfl (fun w' hw=>?_))
  exact⟨by simp[zjf,za0,h1],hw.below0 rfl⟩
def zdM(x:Int):Bool:=!okI x
omit hA in
theorem badOk_any(x:Int):Calls Tryz.prog 285 #[.int .i64 x] w fun e w'=>e=.returned (.bool (zdM x))∧Below w.heap.size w w':=by
 refine zaj (S:=[]) [] Tryz.func285 rfl Tryz.ntmps285 Zj (Mem.nil _) ?_
 repeat' (first|refine zdy ?_|refine Zga ?_|(refine Zgb ?_;intro g)|(refine Zg ?_ ?_<;>(intro h;try exact Zx))|fail)
 all_goals(refine zah Tryz.results285 rfl (fun w' hw=>?_))
 all_goals refine⟨?_,hw.below0 rfl⟩
 ·have h0:x<(1:Int):=‹x<1›
  have:zdM x=true:=by simp[zdM,okI];omega
  rw[this];rfl
 ·have h0:(1:Int)≤x:=‹1≤x›
  have:zdM x=decide (1000<x):=by
   rw[Bool.eq_iff_iff];simp[zdM,okI];omega
  rw[this];rfl
variable (hl:s.length≤9223372036854775807) 
include hl
theorem idxOk_any:Calls Tryz.prog 136 #[.slice A s.length c,.func (.func 285) #[] #[]] w fun e w'=>e=.returned (.int .i64 (if s.any zdM=true then(s.findIdx zdM:Int) else -1))∧Below w.heap.size w w':=by
 refine zaj (S:=[]) [] Tryz.func136 rfl Tryz.ntmps136 Zj (Mem.nil _) ?_
 repeat' (first|refine zdy ?_|refine Zga ?_|(refine Zgb ?_;intro g)|(refine Zg ?_ ?_<;>(intro h;try exact Zx))|fail)
 refine zap (X:=Nat) (fun k=>[(8,.int .i64 (k:Nat)),(7,.int .i64 (s.length:Nat)),(1,.func (.func 285) #[] #[]),(0,.slice A s.length c)]) (fun _=>[])
  (fun k=>k≤s.length∧(s.take k).any zdM=false) (fun k=>s.length-k) 0 ⟨by omega,by simp⟩ Ze (by exact zaK) ?_
 rintro k ⟨hk,hno⟩
 by_cases hkl:k<s.length
 ·obtain⟨b,o,rfl,_⟩:=RdE.open hA Zo
  have hb:=fun w=>badOk_any w s[k]
  generalize hz:zdM s[k]=z at hb
  repeat' (first|refine zdy ?_|refine Zga ?_|(refine Zgb ?_;intro g)|(refine Zg ?_ ?_<;>(intro h;try exact Zx))|((with_reducible (first|apply zaa|apply TD_e3z|apply zan|apply zaf|apply zae));((with_reducible apply zbf (f:=285) (us:=[]) (cs:=[]));exact rfl;exact rfl;(intro w hw;exact hb w);exact rfl);exact Zh;(rintro _ _ ⟨rfl,rfl⟩);(try refine⟨SUB,?_⟩))|fail)
  ·(refine zah Tryz.results136 rfl (fun w' hw=>?_))
   have hzt:zdM s[k]=true:=by rw[hz];assumption
   have hany:s.any zdM=true:=List.any_eq_true.2 ⟨_,List.getElem_mem hkl,hzt⟩
   refine⟨?_,hw.below0 rfl⟩
   rw[if_pos hany,findIdx_at hkl hno hzt];rfl
  ·refine zab (k+1) ⟨hkl,zdJ hkl hno (by rw[hz];assumption)⟩ Zo Ze (by exact zaK)
 ·obtain rfl:k=s.length:=by omega
  rw[List.take_length] at hno
  repeat' (first|refine zdy ?_|refine Zga ?_|(refine Zgb ?_;intro g)|(refine Zg ?_ ?_<;>(intro h;try exact Zx))|fail)
  (refine zah Tryz.results136 rfl (fun w' hw=>?_))
  exact⟨by rw[if_neg (by rw[hno];simp)];rfl,hw.below0 rfl⟩
theorem contOk_any:Calls Tryz.prog 91 #[.slice A s.length c,.func (.func 285) #[] #[]] w fun e w'=>e=.returned (.bool (s.any zdM))∧Below w.heap.size w w':=by
 have hi:=fun w hA=>idxOk_any A c s w hA hl
 have hval:decide ((0:Int)≤(if s.any zdM=true then(s.findIdx zdM:Int) else -1))=s.any zdM:=by
  cases s.any zdM<;>simp
 generalize (if s.any zdM=true then(s.findIdx zdM:Int) else -1)=r at *
 refine zaj (S:=[]) [] Tryz.func91 rfl Tryz.ntmps91 Zj (Mem.nil _) ?_
 repeat' (first|refine zdy ?_|refine Zga ?_|(refine Zgb ?_;intro g)|(refine Zg ?_ ?_<;>(intro h;try exact Zx))|((with_reducible (first|apply zaa|apply TD_e3z|apply zan|apply zaf|apply zae));((with_reducible apply zad (f:=136));exact rfl;(intro w hw;exact hi w (hw.rd rfl hA));exact rfl);exact Zh;(rintro _ _ ⟨rfl,rfl⟩);(try refine⟨SUB,?_⟩))|fail)
 (refine zah Tryz.results91 rfl (fun w' hw=>?_))
 exact⟨by rw[←hval];rfl,hw.below0 rfl⟩
omit hA hl in
theorem not_badOk(l:List Int):(!l.any zdM)=l.all okI:=by
 induction l with
 |nil=>rfl
 |cons x l ih=>rw[List.any_cons,List.all_cons,←ih,zdM];cases okI x<;>simp
theorem zei:Calls Tryz.prog 284 #[.agg #[],.slice A s.length c] w fun e w'=>e=.returned (.bool (s.all okI))∧Below w.heap.size w w':=by
 have hi:=fun w hA=>contOk_any A c s w hA hl
 rw[←not_badOk]
 generalize s.any zdM=z at *
 refine zaj (S:=[]) [] Tryz.func284 rfl Tryz.ntmps284 Zj (Mem.nil _) ?_
 repeat' (first|refine zdy ?_|refine Zga ?_|(refine Zgb ?_;intro g)|(refine Zg ?_ ?_<;>(intro h;try exact Zx))|((with_reducible (first|apply zaa|apply TD_e3z|apply zan|apply zaf|apply zae));((with_reducible apply zad (f:=91));exact rfl;(intro w hw;exact hi w (hw.rd rfl hA));exact rfl);exact Zh;(rintro _ _ ⟨rfl,rfl⟩);(try refine⟨SUB,?_⟩))|fail)
 (refine zah Tryz.results284 rfl (fun w' hw=>?_))
 exact⟨rfl,hw.below0 rfl⟩
theorem setValid_any:Calls Tryz.prog 290 #[.agg #[],.slice A s.length c] w fun e w'=>e=.returned (.bool (ascB s&&s.all okI))∧Below w.heap.size w w':=by
 have hi:=fun w hA=>zei A c s w hA hl
 generalize s.all okI=z at *
 refine zaj (S:=[]) [] Tryz.func290 rfl Tryz.ntmps290 Zj (Mem.nil _) ?_
 repeat' (first|refine zdy ?_|refine Zga ?_|(refine Zgb ?_;intro g)|(refine Zg ?_ ?_<;>(intro h;try exact Zx))|fail)
 obtain⟨gs,rfl⟩:∃x,x=g:=⟨_,rfl⟩
 refine zap (X:=Nat) (fun k=>[(5,.int .i64 ((k+1:Nat):Int)),(2,.pointer (some ⟨gs,0,none⟩)),(1,.slice A s.length c)]) (fun _=>[zak gs 246 #[]])
  (fun k=>∀j,j<k→s.getD j 0<s.getD (j+1) 0) (fun k=>s.length-k) 0 (fun j hj=>by omega) Ze (by exact zaK) ?_
 intro k hasc
 by_cases hkl:k+1<s.length
 ·obtain⟨b,o,rfl,_⟩:=RdE.open hA Zo
  have e1:s.getD k 0=s[k]:=by simp[List.getD_eq_getElem?_getD,show k<s.length by omega]
  have e2:s.getD (k+1) 0=s[k+1]:=by simp[List.getD_eq_getElem?_getD,hkl]
  have e3:(((k+1:Nat):Int)-1).toNat=k:=by omega
  repeat' (first|refine zdy ?_|refine Zha ?_|(refine Zhb ?_;intro g)|(refine Zg ?_ ?_<;>(intro h;try exact Zx))|refine GOF ?_ ?_|((with_reducible apply zam (id:=4) 1000 (OT.seq [(0,0),(0,1),(0,2),(0,3),(0,5),(0,6),(0,7),(1,4),(1,8),(0,9)] .nil));kernel_rfl;exact rfl;kernel_rfl;exact Zd)|fail)
  ·(refine zah Tryz.results290 rfl (fun w' hw=>?_))
   have h0:s[k+1]≤s[(((k+1:Nat):Int)-1).toNat]:=‹s[k+1]≤s[(((k+1:Nat):Int)-1).toNat]›
   simp only[e3] at h0
   have hn:ascB s=false:=by
    rw[Bool.eq_false_iff];intro ht
    have:=(zil s).1 ht k hkl
    omega
   exact⟨by rw[hn];rfl,hw.below0 rfl⟩
  ·refine zab (k+1) (fun j hj=>?_) Zo Ze (by exact zaK)
   have h0:s[(((k+1:Nat):Int)-1).toNat]<s[k+1]:=‹s[(((k+1:Nat):Int)-1).toNat]<s[k+1]›
   simp only[e3] at h0
   by_cases e:j=k
   ·subst e;omega
   ·exact hasc j Zo
 ·repeat' (first|refine zdy ?_|refine Zga ?_|(refine Zgb ?_;intro g)|(refine Zg ?_ ?_<;>(intro h;try exact Zx))|((with_reducible (first|apply zaa|apply TD_e3z|apply zan|apply zaf|apply zae));((with_reducible apply zad (f:=284));exact rfl;(intro w hw;exact hi w (hw.rd rfl hA));exact rfl);exact Zh;(rintro _ _ ⟨rfl,rfl⟩);(try refine⟨SUB,?_⟩))|fail)
  (refine zah Tryz.results290 rfl (fun w' hw=>?_))
  have ht:ascB s=true:=(zil s).2 fun j hj=>hasc j Zo
  exact⟨by rw[ht];rfl,hw.below0 rfl⟩
end
end
section
open Go.RowKit
theorem zeu{p R:Prop}(r:R)(h:Rest R→p:=by intro r;(first|with_reducible (first|apply zcE|apply za9|apply zba|apply zbd|apply zbe)|((with_reducible (first|apply zaN|apply zaO));exact rfl;exact rfl;(with_reducible exact rfl)));(first|((with_reducible apply zbc);exact rfl)|((with_reducible apply zdx);exact rfl;exact rfl)|((with_reducible apply zed);exact rfl;exact rfl)|((with_reducible apply zgj);exact rfl;exact Zm)|((with_reducible apply za1);exact rfl;exact Lds.zero _)|exact QS.auto);exact rfl;exact r.out):p:=h ⟨r⟩
theorem zgp(typ:Int):typ=1∨typ=2∨typ=3∨typ=4∨typ=5∨(typB typ=false∧obV typ=.nilIface):=by
 by_cases h:1≤typ∧typ≤5
 ·omega
 ·right;right;right;right;right
  have h1:typ≠1:=by omega
  have h2:typ≠2:=by omega
  have h3:typ≠3:=by omega
  have h4:typ≠4:=by omega
  have h5:typ≠5:=by omega
  refine⟨?_,by simp[obV,h1,h2,h3,h4,h5]⟩
  rw[Bool.eq_false_iff];intro ht
  simp only[typB,Bool.and_eq_true,decide_eq_true_eq] at ht
  exact h ht
def zfi(typ:Int):List Int:=if typ=1∨typ=5 then[0] else[]
def begE(typ:Int):Int:=if typB typ=true then 0 else 1
theorem objStart_any(typ:Int)(w:World):Calls Tryz.prog 87 #[.int .i64 typ] w fun e w'=>∃A c,e=.returned (.tuple #[.slice A (zfi typ).length c,.int .i64 (begE typ)])∧Own zag 1 3 w' w.heap.size (.slice A (zfi typ).length c) (zfi typ)∧Below w.heap.size w w':=by
 have hof:=fun w=>zji typ w
 rcases zgp typ with rfl|rfl|rfl|rfl|rfl|⟨hb,hv⟩
 ·rw[show obV 1=.iface 241 (.agg #[]) from rfl] at hof
  refine zaj (S:=[]) [] Tryz.func87 rfl Tryz.ntmps87 Zj (Mem.nil _) ?_
  repeat' (first|refine zeu ?_|refine Zga ?_|(refine Zgb ?_;intro g)|(refine Zg ?_ ?_<;>(intro h;try exact Zx))|((with_reducible (first|apply zaa|apply TD_e3z|apply zan|apply zaf|apply zae));((with_reducible apply zad (f:=132));exact rfl;(intro w hw;exact hof w);exact rfl);exact Zh;(rintro _ _ ⟨rfl,rfl⟩);(try refine⟨SUB,?_⟩))|((with_reducible (first|apply zaa|apply TD_e3z|apply zan|apply zaf|apply zae));((with_reducible apply zcz (f:=280) (r:=.agg #[]) (X:=Option Addr×Nat) (S1:=[]) (fun x=>.slice x.1 ([0]:List Int).length x.2) (fun x=>[zac zag 1 3 x.1 x.2 [0]]));exact rfl;exact⟨fun w=>by kernel_rfl⟩;exact rfl;exact Zp;(intro x;(try dsimp only);exact Za);(intro w hw;exact(zeW w).mono fun e w' ⟨A,c,he,ho,hb⟩=>⟨(A,c),he,Mem.ofOwn hb ho⟩);exact rfl);exact Zh;(rintro _ _ ⟨⟨A',c'⟩,rfl,rfl⟩);(try refine⟨SUB,?_⟩))|fail)
  (refine zah Tryz.results87 rfl (fun w' hw=>?_))
  exact⟨A',c',rfl,hw.ownOut rfl Zm,hw.below0 rfl⟩
 ·rw[show obV 2=.iface 244 (.agg #[]) from rfl] at hof
  refine zaj (S:=[]) [] Tryz.func87 rfl Tryz.ntmps87 Zj (Mem.nil _) ?_
  repeat' (first|refine zeu ?_|refine Zga ?_|(refine Zgb ?_;intro g)|(refine Zg ?_ ?_<;>(intro h;try exact Zx))|((with_reducible (first|apply zaa|apply TD_e3z|apply zan|apply zaf|apply zae));((with_reducible apply zad (f:=132));exact rfl;(intro w hw;exact hof w);exact rfl);exact Zh;(rintro _ _ ⟨rfl,rfl⟩);(try refine⟨SUB,?_⟩))|((with_reducible (first|apply zaa|apply TD_e3z|apply zan|apply zaf|apply zae));((with_reducible apply zch (f:=283) (r:=.agg #[]));exact rfl;exact⟨fun w=>by kernel_rfl⟩;exact rfl;(intro w hw;exact zeh w);exact rfl);exact Zh;(rintro _ _ ⟨rfl,rfl⟩);(try refine⟨SUB,?_⟩))|fail)
  (refine zah Tryz.results87 rfl (fun w' hw=>?_))
  exact⟨none,0,rfl,Own.nil _ _,hw.below0 rfl⟩
 ·rw[show obV 3=.iface 245 (.agg #[]) from rfl] at hof
  refine zaj (S:=[]) [] Tryz.func87 rfl Tryz.ntmps87 Zj (Mem.nil _) ?_
  repeat' (first|refine zeu ?_|refine Zga ?_|(refine Zgb ?_;intro g)|(refine Zg ?_ ?_<;>(intro h;try exact Zx))|((with_reducible (first|apply zaa|apply TD_e3z|apply zan|apply zaf|apply zae));((with_reducible apply zad (f:=132));exact rfl;(intro w hw;exact hof w);exact rfl);exact Zh;(rintro _ _ ⟨rfl,rfl⟩);(try refine⟨SUB,?_⟩))|((with_reducible (first|apply zaa|apply TD_e3z|apply zan|apply zaf|apply zae));((with_reducible apply zch (f:=283) (r:=.agg #[]));exact rfl;exact⟨fun w=>by kernel_rfl⟩;exact rfl;(intro w hw;exact zeh w);exact rfl);exact Zh;(rintro _ _ ⟨rfl,rfl⟩);(try refine⟨SUB,?_⟩))|fail)
  (refine zah Tryz.results87 rfl (fun w' hw=>?_))
  exact⟨none,0,rfl,Own.nil _ _,hw.below0 rfl⟩
 ·rw[show obV 4=.iface 246 (.agg #[]) from rfl] at hof
  refine zaj (S:=[]) [] Tryz.func87 rfl Tryz.ntmps87 Zj (Mem.nil _) ?_
  repeat' (first|refine zeu ?_|refine Zga ?_|(refine Zgb ?_;intro g)|(refine Zg ?_ ?_<;>(intro h;try exact Zx))|((with_reducible (first|apply zaa|apply TD_e3z|apply zan|apply zaf|apply zae));((with_reducible apply zad (f:=132));exact rfl;(intro w hw;exact hof w);exact rfl);exact Zh;(rintro _ _ ⟨rfl,rfl⟩);(try refine⟨SUB,?_⟩))|((with_reducible (first|apply zaa|apply TD_e3z|apply zan|apply zaf|apply zae));((with_reducible apply zch (f:=283) (r:=.agg #[]));exact rfl;exact⟨fun w=>by kernel_rfl⟩;exact rfl;(intro w hw;exact zeh w);exact rfl);exact Zh;(rintro _ _ ⟨rfl,rfl⟩);(try refine⟨SUB,?_⟩))|fail)
  (refine zah Tryz.results87 rfl (fun w' hw=>?_))
  exact⟨none,0,rfl,Own.nil _ _,hw.below0 rfl⟩
 ·rw[show obV 5=.iface 247 (.agg #[]) from rfl] at hof
  refine zaj (S:=[]) [] Tryz.func87 rfl Tryz.ntmps87 Zj (Mem.nil _) ?_
  repeat' (first|refine zeu ?_|refine Zga ?_|(refine Zgb ?_;intro g)|(refine Zg ?_ ?_<;>(intro h;try exact Zx))|((with_reducible (first|apply zaa|apply TD_e3z|apply zan|apply zaf|apply zae));((with_reducible apply zad (f:=132));exact rfl;(intro w hw;exact hof w);exact rfl);exact Zh;(rintro _ _ ⟨rfl,rfl⟩);(try refine⟨SUB,?_⟩))|((with_reducible (first|apply zaa|apply TD_e3z|apply zan|apply zaf|apply zae));((with_reducible apply zcz (f:=280) (r:=.agg #[]) (X:=Option Addr×Nat) (S1:=[]) (fun x=>.slice x.1 ([0]:List Int).length x.2) (fun x=>[zac zag 1 3 x.1 x.2 [0]]));exact rfl;exact⟨fun w=>by kernel_rfl⟩;exact rfl;exact Zp;(intro x;(try dsimp only);exact Za);(intro w hw;exact(zeW w).mono fun e w' ⟨A,c,he,ho,hb⟩=>⟨(A,c),he,Mem.ofOwn hb ho⟩);exact rfl);exact Zh;(rintro _ _ ⟨⟨A',c'⟩,rfl,rfl⟩);(try refine⟨SUB,?_⟩))|fail)
  (refine zah Tryz.results87 rfl (fun w' hw=>?_))
  exact⟨A',c',rfl,hw.ownOut rfl Zm,hw.below0 rfl⟩
 ·rw[hv] at hof
  have hc:begE typ=1:=by simp[begE,hb]
  have hl:zfi typ=[]:=by
   have h1:¬(typ=1∨typ=5):=by
    rintro(rfl|rfl)<;>cases hb
   simp[zfi,h1]
  rw[hc,hl]
  refine zaj (S:=[]) [] Tryz.func87 rfl Tryz.ntmps87 Zj (Mem.nil _) ?_
  repeat' (first|refine zeu ?_|refine Zga ?_|(refine Zgb ?_;intro g)|(refine Zg ?_ ?_<;>(intro h;try exact Zx))|((with_reducible (first|apply zaa|apply TD_e3z|apply zan|apply zaf|apply zae));((with_reducible apply zad (f:=132));exact rfl;(intro w hw;exact hof w);exact rfl);exact Zh;(rintro _ _ ⟨rfl,rfl⟩);(try refine⟨SUB,?_⟩))|fail)
  (refine zah Tryz.results87 rfl (fun w' hw=>?_))
  exact⟨none,0,rfl,Own.nil _ _,hw.below0 rfl⟩
section
variable (A:Option Addr)(c:Nat)(s:List Int)(w:World)(hA:RdInt w A s)(hl:s.length≤9223372036854775807) 
include hA hl
theorem objCheck_any(typ:Int):Calls Tryz.prog 198 #[.int .i64 typ,.slice A s.length c] w fun e w'=>e=.returned (.int .i64 (zeV typ s))∧Below w.heap.size w w':=by
 have hof:=fun w=>zji typ w
 rcases zgp typ with rfl|rfl|rfl|rfl|rfl|⟨hb,hv⟩
 ·have hi:=fun w hA=>zeX A c s w hA
  have hc:zeV 1 s=if 50<s.length then 2 else if zjf s=true then 0 else 3:=rfl
  rw[hc]
  generalize zjf s=z at *
  rw[show obV 1=.iface 241 (.agg #[]) from rfl] at hof
  refine zaj (S:=[]) [] Tryz.func198 rfl Tryz.ntmps198 Zj (Mem.nil _) ?_
  repeat' (first|refine zeu ?_|refine Zga ?_|(refine Zgb ?_;intro g)|(refine Zg ?_ ?_<;>(intro h;try exact Zx))|((with_reducible (first|apply zaa|apply TD_e3z|apply zan|apply zaf|apply zae));((with_reducible apply zad (f:=132));exact rfl;(intro w hw;exact hof w);exact rfl);exact Zh;(rintro _ _ ⟨rfl,rfl⟩);(try refine⟨SUB,?_⟩))|((with_reducible (first|apply zaa|apply TD_e3z|apply zan|apply zaf|apply zae));((with_reducible apply zch (f:=281) (r:=.agg #[]));exact rfl;exact⟨fun w=>by kernel_rfl⟩;exact rfl;(intro w hw;exact hi w (hw.rd rfl hA));exact rfl);exact Zh;(rintro _ _ ⟨rfl,rfl⟩);(try refine⟨SUB,?_⟩))|fail)
  all_goals(refine zah Tryz.results198 rfl (fun w' hw=>?_))
  all_goals refine⟨?_,hw.below0 rfl⟩
  ·rw[if_pos Zo];rfl
  ·rw[if_neg Zo,if_neg (by simp[‹z=false›])];rfl
  ·rw[if_neg Zo,if_pos ‹z=true›];rfl
 ·have hi:=fun w hA=>zei A c s w hA hl
  have hc:zeV 2 s=if 50<s.length then 2 else if s.all okI=true then 0 else 3:=rfl
  rw[hc]
  generalize s.all okI=z at *
  rw[show obV 2=.iface 244 (.agg #[]) from rfl] at hof
  refine zaj (S:=[]) [] Tryz.func198 rfl Tryz.ntmps198 Zj (Mem.nil _) ?_
  repeat' (first|refine zeu ?_|refine Zga ?_|(refine Zgb ?_;intro g)|(refine Zg ?_ ?_<;>(intro h;try exact Zx))|((with_reducible (first|apply zaa|apply TD_e3z|apply zan|apply zaf|apply zae));((with_reducible apply zad (f:=132));exact rfl;(intro w hw;exact hof w);exact rfl);exact Zh;(rintro _ _ ⟨rfl,rfl⟩);(try refine⟨SUB,?_⟩))|((with_reducible (first|apply zaa|apply TD_e3z|apply zan|apply zaf|apply zae));((with_reducible apply zch (f:=284) (r:=.agg #[]));exact rfl;exact⟨fun w=>by kernel_rfl⟩;exact rfl;(intro w hw;exact hi w (hw.rd rfl hA));exact rfl);exact Zh;(rintro _ _ ⟨rfl,rfl⟩);(try refine⟨SUB,?_⟩))|fail)
  all_goals(refine zah Tryz.results198 rfl (fun w' hw=>?_))
  all_goals refine⟨?_,hw.below0 rfl⟩
  ·rw[if_pos Zo];rfl
  ·rw[if_neg Zo,if_neg (by simp[‹z=false›])];rfl
  ·rw[if_neg Zo,if_pos ‹z=true›];rfl
 ·have hi:=fun w hA=>zei A c s w hA hl
  have hc:zeV 3 s=if 50<s.length then 2 else if s.all okI=true then 0 else 3:=rfl
  rw[hc]
  generalize s.all okI=z at *
  rw[show obV 3=.iface 245 (.agg #[]) from rfl] at hof
  refine zaj (S:=[]) [] Tryz.func198 rfl Tryz.ntmps198 Zj (Mem.nil _) ?_
  repeat' (first|refine zeu ?_|refine Zga ?_|(refine Zgb ?_;intro g)|(refine Zg ?_ ?_<;>(intro h;try exact Zx))|((with_reducible (first|apply zaa|apply TD_e3z|apply zan|apply zaf|apply zae));((with_reducible apply zad (f:=132));exact rfl;(intro w hw;exact hof w);exact rfl);exact Zh;(rintro _ _ ⟨rfl,rfl⟩);(try refine⟨SUB,?_⟩))|((with_reducible (first|apply zaa|apply TD_e3z|apply zan|apply zaf|apply zae));((with_reducible apply zch (f:=284) (r:=.agg #[]));exact rfl;exact⟨fun w=>by kernel_rfl⟩;exact rfl;(intro w hw;exact hi w (hw.rd rfl hA));exact rfl);exact Zh;(rintro _ _ ⟨rfl,rfl⟩);(try refine⟨SUB,?_⟩))|fail)
  all_goals(refine zah Tryz.results198 rfl (fun w' hw=>?_))
  all_goals refine⟨?_,hw.below0 rfl⟩
  ·rw[if_pos Zo];rfl
  ·rw[if_neg Zo,if_neg (by simp[‹z=false›])];rfl
  ·rw[if_neg Zo,if_pos ‹z=true›];rfl
 ·have hi:=fun w hA=>setValid_any A c s w hA hl
  have hc:zeV 4 s=if 50<s.length then 2 else if(ascB s&&s.all okI)=true then 0 else 3:=rfl
  rw[hc]
  generalize (ascB s&&s.all okI)=z at *
  rw[show obV 4=.iface 246 (.agg #[]) from rfl] at hof
  refine zaj (S:=[]) [] Tryz.func198 rfl Tryz.ntmps198 Zj (Mem.nil _) ?_
  repeat' (first|refine zeu ?_|refine Zga ?_|(refine Zgb ?_;intro g)|(refine Zg ?_ ?_<;>(intro h;try exact Zx))|((with_reducible (first|apply zaa|apply TD_e3z|apply zan|apply zaf|apply zae));((with_reducible apply zad (f:=132));exact rfl;(intro w hw;exact hof w);exact rfl);exact Zh;(rintro _ _ ⟨rfl,rfl⟩);(try refine⟨SUB,?_⟩))|((with_reducible (first|apply zaa|apply TD_e3z|apply zan|apply zaf|apply zae));((with_reducible apply zch (f:=290) (r:=.agg #[]));exact rfl;exact⟨fun w=>by kernel_rfl⟩;exact rfl;(intro w hw;exact hi w (hw.rd rfl hA));exact rfl);exact Zh;(rintro _ _ ⟨rfl,rfl⟩);(try refine⟨SUB,?_⟩))|fail)
  all_goals(refine zah Tryz.results198 rfl (fun w' hw=>?_))
  all_goals refine⟨?_,hw.below0 rfl⟩
  ·rw[if_pos Zo];rfl
  ·rw[if_neg Zo,if_neg (by simp[‹z=false›])];rfl
  ·rw[if_neg Zo,if_pos ‹z=true›];rfl
 ·have hi:=fun w hA=>zeX A c s w hA
  have hc:zeV 5 s=if 50<s.length then 2 else if zjf s=true then 0 else 3:=rfl
  rw[hc]
  generalize zjf s=z at *
  rw[show obV 5=.iface 247 (.agg #[]) from rfl] at hof
  refine zaj (S:=[]) [] Tryz.func198 rfl Tryz.ntmps198 Zj (Mem.nil _) ?_
  repeat' (first|refine zeu ?_|refine Zga ?_|(refine Zgb ?_;intro g)|(refine Zg ?_ ?_<;>(intro h;try exact Zx))|((with_reducible (first|apply zaa|apply TD_e3z|apply zan|apply zaf|apply zae));((with_reducible apply zad (f:=132));exact rfl;(intro w hw;exact hof w);exact rfl);exact Zh;(rintro _ _ ⟨rfl,rfl⟩);(try refine⟨SUB,?_⟩))|((with_reducible (first|apply zaa|apply TD_e3z|apply zan|apply zaf|apply zae));((with_reducible apply zch (f:=281) (r:=.agg #[]));exact rfl;exact⟨fun w=>by kernel_rfl⟩;exact rfl;(intro w hw;exact hi w (hw.rd rfl hA));exact rfl);exact Zh;(rintro _ _ ⟨rfl,rfl⟩);(try refine⟨SUB,?_⟩))|fail)
  all_goals(refine zah Tryz.results198 rfl (fun w' hw=>?_))
  all_goals refine⟨?_,hw.below0 rfl⟩
  ·rw[if_pos Zo];rfl
  ·rw[if_neg Zo,if_neg (by simp[‹z=false›])];rfl
  ·rw[if_neg Zo,if_pos ‹z=true›];rfl
 ·rw[hv] at hof
  have hc:zeV typ s=1:=by simp[zeV,hb]
  rw[hc]
  refine zaj (S:=[]) [] Tryz.func198 rfl Tryz.ntmps198 Zj (Mem.nil _) ?_
  repeat' (first|refine zeu ?_|refine Zga ?_|(refine Zgb ?_;intro g)|(refine Zg ?_ ?_<;>(intro h;try exact Zx))|((with_reducible (first|apply zaa|apply TD_e3z|apply zan|apply zaf|apply zae));((with_reducible apply zad (f:=132));exact rfl;(intro w hw;exact hof w);exact rfl);exact Zh;(rintro _ _ ⟨rfl,rfl⟩);(try refine⟨SUB,?_⟩))|fail)
  (refine zah Tryz.results198 rfl (fun w' hw=>?_))
  exact⟨rfl,hw.below0 rfl⟩
end
end
section
open Go.RowKit
theorem flat_div{α:Type}{enc:α→List Value}{M:Nat}(hM:∀x,(enc x).length=M)(h0:0<M):∀(l:List α) (j:Nat),(l.flatMap enc)[j]?=(l[j / M]?).bind fun x=>(enc x)[j % M]?
 |[],j=>by simp
 |x::l,j=>by
  rw[List.flatMap_cons]
  rcases Nat.lt_or_ge j M with h|h
  ·rw[List.getElem?_append_left (by rw[hM];exact h),Nat.div_eq_of_lt h,Nat.mod_eq_of_lt h]
   simp
  ·rw[List.getElem?_append_right (by rw[hM];exact h),hM,flat_div hM h0 l (j-M),Nat.div_eq_sub_div h0 h,←Nat.mod_eq_sub_mod h]
   simp
theorem Lies.rd{C:Ctx}{S:List Ent}{α:Type}{enc:α→List Value}{M:Nat}{l:List α}{A:Option Addr}{c:Nat}(hR:RdE enc M C.w0 A l)(hF:C.F=[])(hM:∀x,(enc x).length=M)(h0:0<M)(hA:A=none→c=0):Lies C S (.slice A l.length c) l.length (l.flatMap enc):=by
 cases A with
 |none =>
  have hl:l=[]:=by
   cases l with
   |nil=>rfl
   |cons x l=>obtain⟨b,o,h,_⟩:=hR.open Zj;cases h
  subst hl
  exact .inl ⟨rfl,rfl,by rw[hA rfl];rfl⟩
 |some ad =>
  refine .inr ⟨ad,c,rfl,fun w hw j u hu=>?_⟩
  rw[flat_div hM h0,Option.bind_eq_some_iff] at hu
  obtain⟨x,hx,hu⟩:=hu
  obtain⟨b,o,he,hb,hc⟩:=hR (j / M) x hx
  cases he
  have:=hc (j % M) u hu
  rw[zds]
  refine hw.old hb (by simp[hF]) ?_
  rw[←this]
  congr 2
  have:=Nat.div_add_mod j M
  rw[Nat.mul_comm] at this
  omega
theorem Mem.ownSome{C:Ctx}{S:List Ent}{α:Type}{enc:α→List Value}{M e c:Nat}{A:Option Addr}{ls:List α}{w:World}(hw:Mem C w S)(hm:zac enc M e A c ls∈S)(hl:0<ls.length):A≠Option.none:=by
 have ho:Own enc M e w 0 (.slice A ls.length c) ls:=(hw.holds _ hm).1
 rcases ho.2 with⟨_,h0⟩|⟨g,cap,cur,hv,_⟩
 ·omega
 ·simp only[Value.slice.injEq] at hv
  rw[hv.1];simp
theorem Lds.old{P:Program}{C:Ctx}{S:List Ent}{s b k:Nat}{v:Value}[OneCell P s](hb:b<C.w0.heap.size)(hF:b∉C.F)(hc:C.w0.cell? ⟨b,k,none⟩=some v):Lds P C S s ⟨b,k,none⟩ v :=
 Lds.one fun w hw=>hw.old hb hF hc
end
section
open Go.RowKit
section
variable {P:Program}{C:Ctx}{E:zaE}{S S':List Ent}{ty t t2 d g c e p n k sn sk:Nat}{ps:String}{af:Array Edge}{g0:Option (Nat×Bool)}{x y:Operand}{α:Type}{enc:α→List Value}{ls xs:List α}{ad:Addr} 
end
end
section
open Go.RowKit
theorem zgq{p R:Prop}(r:R)(h:Rest R→p:=by intro r;(first|with_reducible (first|apply zcE|apply za9|apply zba|apply zbd|apply zbe)|((with_reducible (first|apply zaN|apply zaO));exact rfl;exact rfl;(with_reducible exact rfl)));(first|exact QS.auto|((with_reducible apply QS_shrU64 (a:=i+j) (b:=1));exact rfl;exact rfl;omega));exact rfl;exact r.out):p:=h ⟨r⟩
section
variable {P:Program}{C:Ctx}{E:zaE}{S:List Ent}{ty ty2 ty3 a b:Nat}{x y:Operand} 
theorem QS_shrU64{k:IntKind}(hx:evo E x=some (.int .u64 (a:Nat)))(hy:evo E y=some (.int k (b:Nat)))(ha:a<18446744073709551616):QS P C E S (.binOp .shr ty2 x y ty3) ty (.int .u64 ((a >>> b:Nat):Int)) :=
 QS.of (fun _ w he _=>zif he hx hy _ (by
  have:=shr_nat a b 64 Zo
  have hn:¬((b:Int)<0):=by omega
  simp only[binOp,Op.shift,IntKind.bits,if_neg hn,Int.toNat_natCast,this];rfl))
end
section
variable (A:Option Addr)(c:Nat)(s:List Int)(w:World)(hA:RdInt w A s)(hl:s.length≤1000) 
include hA hl
theorem zdT:Calls Tryz.prog 199 #[.slice A s.length c] w fun e w'=>∃A' c',e=.returned (.slice A' s.length c')∧Own zag 1 3 w' w.heap.size (.slice A' s.length c') s∧Below w.heap.size w w':=by
 cases A with
 |none =>
  have hs:s=[]:=by
   cases s with
   |nil=>rfl
   |cons x s =>
    obtain⟨b,o,h,_⟩:=hA 0 x rfl
    cases h
  subst hs
  refine zaj (S:=[]) [] Tryz.func199 rfl Tryz.ntmps199 Zj (Mem.nil _) ?_
  repeat' (first|refine zgq ?_|refine Zga ?_|(refine Zgb ?_;intro g)|(refine Zg ?_ ?_<;>(intro h;try exact Zx))|fail)
  all_goals first
   |((refine zah Tryz.results199 rfl (fun w' hw=>?_))
     exact⟨none,0,rfl,Own.nil _ _,hw.below0 rfl⟩)
   |(exfalso;simp_all;done)
 |some ad =>
  have hne:some ad=none→c=0:=fun h=>by cases h
  refine zaj (S:=[]) [] Tryz.func199 rfl Tryz.ntmps199 Zj (Mem.nil _) ?_
  repeat' (first|refine zgq ?_|refine Zga ?_|(refine Zgb ?_;intro g)|(refine Zg ?_ ?_<;>(intro h;try exact Zx))|((with_reducible (first|apply zaa|apply TD_e3z|apply zan|apply zaf|apply zae));((with_reducible apply zbv zag);exact rfl);exact Zh;(rintro _ _ ⟨g,rfl,rfl⟩);(try refine⟨SUB,?_⟩))|((with_reducible (first|apply zaa|apply TD_e3z|apply zan|apply zaf|apply zae));((with_reducible apply zbp (enc:=zag) (xs:=s) (ls:=[]));exact rfl;exact rfl;exact Lies.rd hA rfl (fun _=>rfl) Zo hne;exact fun _=>rfl;exact fun _=>rfl;(intro A' c';exact Zu);(simp;omega);decide;exact rfl);exact Zh;(rintro _ _ ⟨A',c',rfl,rfl⟩);(try refine⟨SUB,?_⟩))|fail)
  (refine zah Tryz.results199 rfl (fun w' hw=>?_))
  exact⟨A',c',rfl,hw.ownOut rfl Zm,hw.below0 rfl⟩
end
theorem cNaN_any(x:Int)(w:World):Calls Tryz.prog 173 #[.int .i64 x] w fun e w'=>e=.returned (.bool false)∧Below w.heap.size w w':=by
 refine zaj (S:=[]) [] Tryz.func173 rfl Tryz.ntmps173 Zj (Mem.nil _) ?_
 repeat' (first|refine zgq ?_|refine Zga ?_|(refine Zgb ?_;intro g)|(refine Zg ?_ ?_<;>(intro h;try exact Zx))|fail)
 (refine zah Tryz.results173 rfl (fun w' hw=>?_))
 exact⟨by simp[za0],hw.below0 rfl⟩
theorem sNaN_any(x:Int)(w:World):Calls Tryz.prog 294 #[.int .i64 x] w fun e w'=>e=.returned (.bool false)∧Below w.heap.size w w':=by
 refine zaj (S:=[]) [] Tryz.func294 rfl Tryz.ntmps294 Zj (Mem.nil _) ?_
 repeat' (first|refine zgq ?_|refine Zga ?_|(refine Zgb ?_;intro g)|(refine Zg ?_ ?_<;>(intro h;try exact Zx))|fail)
 (refine zah Tryz.results294 rfl (fun w' hw=>?_))
 exact⟨by simp[za0],hw.below0 rfl⟩
theorem less_any(x y:Int)(w:World):Calls Tryz.prog 253 #[.int .i64 x,.int .i64 y] w fun e w'=>e=.returned (.bool (decide (x<y)))∧Below w.heap.size w w':=by
 refine zaj (S:=[]) [] Tryz.func253 rfl Tryz.ntmps253 Zj (Mem.nil _) ?_
 repeat' (first|refine zgq ?_|refine Zga ?_|(refine Zgb ?_;intro g)|(refine Zg ?_ ?_<;>(intro h;try exact Zx))|((with_reducible (first|apply zaa|apply TD_e3z|apply zan|apply zaf|apply zae));((with_reducible apply zad (f:=173));exact rfl;(intro w hw;exact cNaN_any _ w);exact rfl);exact Zh;(rintro _ _ ⟨rfl,rfl⟩);(try refine⟨SUB,?_⟩))|fail)
 (refine zah Tryz.results253 rfl (fun w' hw=>?_))
 exact⟨rfl,hw.below0 rfl⟩
theorem pos_at{s:List Int}{a:Int}(hs:Asc s):s.contains a=(decide (zgR s a<s.length)&&decide (s.getD (zgR s a) 0=a)):=by
 obtain⟨p1,p2,p3⟩:=zgo hs a
 rw[Bool.eq_iff_iff]
 simp only[Bool.and_eq_true,decide_eq_true_eq,List.contains_iff_mem]
 constructor
 ·intro hm
  rw[←List.take_append_drop (zgR s a) s,List.mem_append] at hm
  rcases hm with hm|hm
  ·have:=p1 a hm;omega
  ·have hlt:zgR s a<s.length:=by
    rcases Nat.lt_or_ge (zgR s a) s.length with h|h
    ·exact h
    ·rw[List.drop_eq_nil_of_le h] at hm;simp at hm
   refine⟨hlt,?_⟩
   rw[List.getD_eq_getElem?_getD,List.getElem?_eq_getElem hlt,Option.getD_some]
   have hd:s.drop (zgR s a)=s[zgR s a]::s.drop (zgR s a+1):=List.drop_eq_getElem_cons hlt
   have h1:=p2 s[zgR s a] (by rw[hd];exact List.mem_cons_self)
   rw[hd] at hm
   rcases List.mem_cons.1 hm with h|h
   ·exact h.symm
   ·have hp:(s.drop (zgR s a)).Pairwise (·<·):=hs.sublist (List.drop_sublist _ _)
    rw[hd] at hp
    have:=(List.pairwise_cons.1 hp).1 a h
    omega
 ·rintro⟨h1,h2⟩
  rw[List.getD_eq_getElem?_getD,List.getElem?_eq_getElem h1,Option.getD_some] at h2
  rw[←h2];exact List.getElem_mem h1
section
variable (A:Option Addr)(c:Nat)(s:List Int)(a:Int)(w:World)(hA:RdInt w A s)(hl:s.length≤1000)(hs:Asc s) 
include hA hl hs
theorem search_any:Calls Tryz.prog 291 #[.slice A s.length c,.int .i64 a] w fun e w'=>e=.returned (.tuple #[.int .i64 (zgR s a),.bool (s.contains a)])∧Below w.heap.size w w':=by
 refine zaj (S:=[]) [] Tryz.func291 rfl Tryz.ntmps291 Zj (Mem.nil _) ?_
 repeat' (first|refine zgq ?_|refine Zga ?_|(refine Zgb ?_;intro g)|(refine Zg ?_ ?_<;>(intro h;try exact Zx))|fail)
 refine zap (X:=Nat×Nat) (fun x=>[(7,.int .i64 (x.1:Nat)),(8,.int .i64 (x.2:Nat)),(6,.int .i64 s.length),(1,.int .i64 a),(0,.slice A s.length c)]) (fun _=>[])
  (fun x=>x.1≤x.2∧x.2≤s.length∧(∀j (hj:j<s.length),j<x.1→s[j]<a)∧∀j (hj:j<s.length),x.2≤j→a≤s[j]) (fun x=>x.2-x.1) (0,s.length) ⟨by simp,by simp,fun j hj h=>by simp at h,fun j hj h=>by simp at h;omega⟩ Ze (by exact zaK) ?_
 rintro⟨i,j⟩ ⟨hij,hjn,hlo,hhi⟩
 dsimp only at hij hjn hlo hhi ⊢
 by_cases hlt:i<j
 ·obtain⟨b,o,rfl,_⟩:=RdE.open hA Zo
  have eh:(i+j) >>> 1=(i+j) / 2:=by rw[Nat.shiftRight_eq_div_pow]
  have hh1:(i+j) >>> 1<s.length:=by omega
  have hmid:i≤(i+j) >>> 1∧(i+j) >>> 1<j:=by omega
  repeat' (first|refine zgq ?_|refine Zga ?_|(refine Zgb ?_;intro g)|(refine Zg ?_ ?_<;>(intro h;try exact Zx))|((with_reducible (first|apply zaa|apply TD_e3z|apply zan|apply zaf|apply zae));((with_reducible apply zad (f:=253));exact rfl;(intro w hw;exact less_any _ _ w);exact rfl);exact Zh;(rintro _ _ ⟨rfl,rfl⟩);(try refine⟨SUB,?_⟩))|fail)
  ·have h0:s[((i+j) >>> 1)]<a:=‹s[((i+j) >>> 1)]<a›
   refine zab (((i+j) >>> 1)+1,j) ⟨by(try dsimp only);omega,hjn,fun k hk hkl=>?_,hhi⟩ (by(try dsimp only);omega) Ze (by exact zaK)
   dsimp only at hkl
   by_cases e:k=((i+j) >>> 1)
   ·simp only[e];exact h0
   ·have:=(List.pairwise_iff_getElem.1 hs) k ((i+j) >>> 1) hk hh1 Zo
    omega
  ·have h0:a≤s[((i+j) >>> 1)]:=‹a≤s[((i+j) >>> 1)]›
   refine zab (i,((i+j) >>> 1)) ⟨by(try dsimp only);omega,by(try dsimp only);omega,hlo,fun k hk hkl=>?_⟩ (by(try dsimp only);omega) Ze (by exact zaK)
   dsimp only at hkl
   by_cases e:k=((i+j) >>> 1)
   ·simp only[e];exact h0
   ·have:=(List.pairwise_iff_getElem.1 hs) ((i+j) >>> 1) k hh1 hk Zo
    omega
 ·obtain rfl:i=j:=by omega
  have hp:=pos_of Zo hlo hhi
  have hc:=pos_at (a:=a) hs
  rw[hp] at hc ⊢
  by_cases hin:i<s.length
  ·obtain⟨b,o,rfl,_⟩:=RdE.open hA Zo
   rw[List.getD_eq_getElem?_getD,List.getElem?_eq_getElem hin,Option.getD_some] at hc
   repeat' (first|refine zgq ?_|refine Zga ?_|(refine Zgb ?_;intro g)|(refine Zg ?_ ?_<;>(intro h;try exact Zx))|((with_reducible (first|apply zaa|apply TD_e3z|apply zan|apply zaf|apply zae));((with_reducible apply zad (f:=294));exact rfl;(intro w hw;exact sNaN_any _ w);exact rfl);exact Zh;(rintro _ _ ⟨rfl,rfl⟩);(try refine⟨SUB,?_⟩))|fail)
   all_goals(refine zah Tryz.results291 rfl (fun w' hw=>?_))
   all_goals refine⟨?_,hw.below0 rfl⟩
   ·rw[hc,decide_eq_true hin,decide_eq_true ‹s[i]=a›];rfl
   ·rw[hc,decide_eq_true hin,decide_eq_false ‹¬s[i]=a›];rfl
  ·repeat' (first|refine zgq ?_|refine Zga ?_|(refine Zgb ?_;intro g)|(refine Zg ?_ ?_<;>(intro h;try exact Zx))|fail)
   (refine zah Tryz.results291 rfl (fun w' hw=>?_))
   exact⟨by rw[hc,decide_eq_false hin];rfl,hw.below0 rfl⟩
end
end
end Go.Proofs.YtjdckepbihcgfaaGreatDoor
