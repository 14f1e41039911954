/- Lemmas for the walks (Vd3, TxF, VdH, TxG, TxH, TxD). No condition. -/
import Derived.Test.YtjdckepbihcgfaaGreatDoorG38
import Derived.Test.YtjdckepbihcgfaaGreatDoorG35
import Derived.Laws.DeepStrings4
set_option linter.unusedSimpArgs false
set_option linter.unusedVariables false
set_option linter.unusedSectionVars false
set_option linter.unnecessarySimpa false
set_option maxRecDepth 100000
set_option maxHeartbeats 8000000
namespace Go.Proofs.YtjdckepbihcgfaaGreatDoor
section
open Go.RowKit Go.Lib
def zB(bd:Bd)(e:Int):Bs:=zgQ (decide (bd=⟨0,0,0⟩)) bd e
def bagW(cs:List Cl):Bs:=if bigB cs=true then zB ⟨0,0,0⟩ 2 else if bcL cs 1001=[] then zB ⟨0,0,0⟩ 0 else[98,97,100]++elW (bcL cs 1001)++[10]
def oneD(t:Int)(l:List Ev)(cs:List Cl):Bs :=
 if t=1 then(if(zaY l).2=0 then zB (zbP (zaY l).1) 0 else zB ⟨0,0,0⟩ (zaY l).2)
 else if t=2 then(if(zca l).2=0 then zB (zcu (zca l).1) 0 else zB ⟨0,0,0⟩ (zca l).2)
 else if t=5 then zB (zbC cs) 0
 else if t=4 then bagW cs
 else[]
theorem kind_dec{bd:Bd}(h:bd.kind=0→bd=⟨0,0,0⟩):decide (bd.kind=0)=decide (bd=⟨0,0,0⟩):=by
 by_cases h0:bd.kind=0
 ·rw[decide_eq_true h0,decide_eq_true (h h0)]
 ·rw[decide_eq_false h0,decide_eq_false]
  intro e
  rw[e] at h0
  exact h0 rfl
theorem badB_err{e:Int}(h:e≠0)(ok ok':Bool)(bd bd':Bd):zgQ ok bd e=zgQ ok' bd' e:=by
 unfold zgQ
 rw[if_pos h,if_pos h]
theorem single_told{t:Int}{l:List Ev}(hc:(zai [t] l).2.2=0):zbU t l=oneD t l (zai [t] l).1:=by
 unfold zbU oneD
 by_cases h1:t=1
 ·rw[if_pos h1,if_pos h1]
  unfold zcV
  by_cases h:(zaY l).2=0
  ·rw[if_pos h,if_pos h,h,decide_eq_true rfl,Bool.true_and,kind_dec zonesV_zero];rfl
  ·rw[if_neg h,if_neg h]
   exact badB_err h _ _ _ _
 ·rw[if_neg h1,if_neg h1]
  by_cases h2:t=2
  ·rw[if_pos h2,if_pos h2]
   unfold rwC
   by_cases h:(zca l).2=0
   ·rw[if_pos h,if_pos h,kind_dec rowsV_zero];rfl
   ·rw[if_neg h,if_neg h]
    exact badB_err h _ _ _ _
  ·rw[if_neg h2,if_neg h2]
   by_cases h5:t=5
   ·rw[if_pos h5,if_pos h5]
    subst h5
    unfold tkR
    rw[if_pos hc,kind_dec fun h=>(gap_of h).2.2];rfl
   ·rw[if_neg h5,if_neg h5]
    by_cases h4:t=4
    ·rw[if_pos h4,if_pos h4]
     subst h4
     have h2:bcE l=if bigB (zai [4] l).1=true then 2 else 0:=by
      unfold bcE
      exact if_neg (fun h=>h hc)
     have h3:bcR l=if bcE l=0 then bcL (zai [4] l).1 1001 else[]:=rfl
     rw[h3,h2]
     unfold bagW
     by_cases hb:bigB (zai [4] l).1=true
     ·rw[if_pos hb,if_pos hb,if_neg Zi];rfl
     ·rw[if_neg hb,if_neg hb,if_pos rfl]
      by_cases hn:bcL (zai [4] l).1 1001=[]
      ·rw[if_pos hn,hn];rfl
      ·rw[if_neg hn]
       exact setB_some hn
    ·rw[if_neg h4,if_neg h4]
end
section
open Go.RowKit Go.Lib
theorem Q0TxF{p R:Prop}(r:R)(h:Rest R→p:=by intro r;(first|with_reducible (first|apply zcE|apply za9|apply zba|apply zbd|apply zbe)|((with_reducible (first|apply zaN|apply zaO));exact rfl;exact rfl;(with_reducible exact rfl)));(first|((with_reducible apply zgl);exact rfl;exact rfl;((try simp only[List.length_append,List.length_cons,List.length_nil]);omega))|((with_reducible apply zcX);exact rfl;exact rfl)|((with_reducible apply QS_rem);exact rfl;exact rfl;omega;omega)|((with_reducible apply QS_quo10);exact rfl;exact rfl;omega)|((with_reducible apply QS_negU);exact rfl;omega)|((with_reducible apply QS_digit);exact rfl;exact rfl;exact rfl;exact Tryz.underlying9)|exact QS.auto);exact rfl;exact r.out):p:=h ⟨r⟩
section
variable {P:Program}{C:Ctx}{E:zaE}{S:List Ent}{ty ty2 ty3 t:Nat}{x y z:Operand} 
theorem QS_quo10{m:Nat}(hx:evo E x=some (.int .i64 (m:Nat)))(hy:evo E y=some (.int .i64 10))(hb:m≤1000000000):QS P C E S (.binOp .quo ty2 x y ty3) ty (.int .i64 ((m / 10:Nat):Int)) :=
 QS.of (fun _ w he _=>zcQ he hx hy _ (by
  have h2:Int.tdiv (m:Int) 10=((m / 10:Nat):Int):=by
   rw[Int.tdiv_eq_ediv_of_nonneg Zo];omega
  have h3:IntKind.i64.wrap ((m / 10:Nat):Int)=((m / 10:Nat):Int):=IntWalk.i64_in _ ⟨by omega,by omega⟩
  simp only[binOp,Op.intDiv]
  rw[h2,h3]
  rfl))
theorem QS_negU{u:Nat}(hx:evo E x=some (.int .i64 (-(u:Int))))(hb:u≤1000000000):QS P C E S (.unOp .neg ty2 x) ty (.int .i64 (u:Nat)) :=
 QS.of (fun _ w he _=>by
  have h3:IntKind.i64.wrap (u:Int)=(u:Int):=IntWalk.i64_in _ ⟨by omega,by omega⟩
  simp[execOp,he.evo hx,Op.unary,Op.intArith,h3])
def digS:ByteArray:=⟨#[48,49,50,51,52,53,54,55,56,57]⟩
theorem dig_at:∀k,k<10→digS.extract k (k+1)=⟨#[UInt8.ofNat (48+k)]⟩:=by decide +kernel
theorem QS_digit{m:Nat}(hx:evo E x=some (.string digS))(hy:evo E y=some (.int .i64 ((m:Int) % 10)))(hz:evo E z=some (.int .i64 ((m:Int) % 10+1)))(ht:P.underlying t=some .string):
  QS P C E S (.slice t x (some y) (some z) none) ty (bsv [UInt8.ofNat (48+m % 10)]) :=
 QS.of (fun a w ha _=>by
  have hr:=run_slice_string_if (P:=P) w t digS .i64 .i64 ((m:Int) % 10) ((m:Int) % 10+1) ht
  have hs:digS.size=10:=rfl
  rw[if_pos (by rw[hs];omega),if_pos Zo] at hr
  have e1:((m:Int) % 10).toNat=m % 10:=by omega
  have e2:((m:Int) % 10+1).toNat=m % 10+1:=by omega
  rw[e1,e2,dig_at _ Zo] at hr
  have hat:=run_sliceAt_string (P:=P) (w:=w) t (.string digS) (some (.int .i64 ((m:Int) % 10))) (some (.int .i64 ((m:Int) % 10+1))) none ht
  simp[execOp,ha.evo hx,ha.evo hy,ha.evo hz,hat,hr]
  rfl)
end
theorem zfI{m:Nat}(h:m≤1000000000):(decDigits m).length≤20:=by
 rw[decDigits_length];exact nDigits_le20 m Zo
theorem whole_nat(m:Nat):∀w,m≤1000000000→Calls Tryz.prog 29 #[.int .i64 (m:Nat)] w fun e w'=>e=.returned (bsv (decDigits m))∧Below w.heap.size w w':=by
 induction m using Nat.strongRecOn with
 |_ m ih =>
  intro w hm
  refine zaj (S:=[]) [] Tryz.func29 rfl Tryz.ntmps29 Zj (Mem.nil _) ?_
  have hl:=zfI (m:=m / 10) Zo
  by_cases h10:m<10
  ·rw[decDigits_one h10]
   repeat' (first|refine Q0TxF ?_|refine Zga ?_|(refine Zgb ?_;intro g)|(refine Zg ?_ ?_<;>(intro h;try exact Zx))|fail)
   all_goals first|(exfalso;omega)|skip
   (refine zah Tryz.results29 rfl (fun w' hw=>?_))
   refine⟨?_,hw.below0 rfl⟩
   rw[show m % 10=m by omega];rfl
  ·rw[zd9 h10]
   have ih:=fun w=>ih (m / 10) Zo w Zo
   repeat' (first|refine Q0TxF ?_|refine Zga ?_|(refine Zgb ?_;intro g)|(refine Zg ?_ ?_<;>(intro h;try exact Zx))|((with_reducible (first|apply zaa|apply TD_e3z|apply zan|apply zaf|apply zae));((with_reducible apply zad (f:=29));exact rfl;(intro w hw;exact ih w);exact rfl);exact Zh;(rintro _ _ ⟨rfl,rfl⟩);(try refine⟨SUB,?_⟩))|fail)
   all_goals first|(exfalso;omega)|skip
   (refine zah Tryz.results29 rfl (fun w' hw=>?_))
   exact⟨rfl,hw.below0 rfl⟩
theorem zcc(n:Int)(w:World)(h:-1000000000≤n∧n≤1000000000):Calls Tryz.prog 29 #[.int .i64 n] w fun e w'=>e=.returned (bsv (itoa n))∧Below w.heap.size w w':=by
 by_cases h0:n<0
 ·obtain⟨u,rfl⟩:∃u:Nat,n=-(u:Int):=⟨n.natAbs,by omega⟩
  rw[itoa_neg u Zo]
  have hl:=zfI (m:=u) Zo
  refine zaj (S:=[]) [] Tryz.func29 rfl Tryz.ntmps29 Zj (Mem.nil _) ?_
  repeat' (first|refine Q0TxF ?_|refine Zga ?_|(refine Zgb ?_;intro g)|(refine Zg ?_ ?_<;>(intro h;try exact Zx))|((with_reducible (first|apply zaa|apply TD_e3z|apply zan|apply zaf|apply zae));((with_reducible apply zad (f:=29));exact rfl;(intro w hw;exact whole_nat u w Zo);exact rfl);exact Zh;(rintro _ _ ⟨rfl,rfl⟩);(try refine⟨SUB,?_⟩))|fail)
  all_goals first|(exfalso;omega)|skip
  (refine zah Tryz.results29 rfl (fun w' hw=>?_))
  exact⟨rfl,hw.below0 rfl⟩
 ·obtain⟨u,rfl⟩:∃u:Nat,n=(u:Int):=⟨n.toNat,by omega⟩
  rw[itoa_nonneg]
  exact whole_nat u w Zo
/-! the words -/
theorem fields_at(l:Bs)(ws:List Bs)(h:Lib.fields l=ws)(h0:0<ws.length)(h1:ws.length≤100)(hl:l.length≤1000)(ha:∀b∈l,b.toNat<128)(w:World)(hT:TxD w):Calls Tryz.prog 125 #[bsv l] w fun e w'=>∃x:Nat×Nat,e=.returned (.slice (some ⟨x.1,0,none⟩) ws.length x.2)∧Mem ⟨0,[],w⟩ w' [zac zbn 1 9 (some ⟨x.1,0,none⟩) x.2 ws]:=by
 refine(Any.strings_Fields layFields (by kernel_rfl) (by kernel_rfl) ⟨l.toArray⟩ w (by show l.toArray.size<_;simp;omega) (fun j b hb=>ha b (List.mem_of_getElem? (by simpa using hb))) hT.asc).mono ?_
 rintro e w' ⟨rfl,rfl⟩
 have e1:(⟨l.toArray⟩:ByteArray).data.toList=l:=by simp
 rw[e1,h]
 refine⟨(w.heap.size,ws.length),rfl,?_⟩
 exact Mem.ofOwn (zaI (Below.refl _ _) _) (own_alloc w ws (by unfold maxLen;omega) h0)
def typeS:Bs:=[114,101,103,32,113,117,101,117,101,32,115,116,97,99,107,32,115,101,116,32,116,105,99,107,101,116]
def kindS:Bs:=[101,110,100,32,119,114,105,116,101,32,114,101,97,100,32,101,110,113,32,100,101,113,32,112,117,115,104,32,112,111,112,32,97,100,100,32,114,101,109,111,118,101,32,104,97,115,32,116,97,107,101]
def typeT:List Bs:=[[114,101,103],[113,117,101,117,101],[115,116,97,99,107],[115,101,116],[116,105,99,107,101,116]]
theorem fields_type:Lib.fields typeS=typeT:=by decide +kernel
theorem fields_kind:Lib.fields kindS=kindW:=by decide +kernel
theorem typeT_at:∀k,k<5→typeT[k]?=some (typeW.getD (k+1) []):=by decide +kernel
end
section
open Go.RowKit Go.Lib
theorem Q0VdH{p R:Prop}(r:R)(h:Rest R→p:=by intro r;(first|with_reducible (first|apply zcE|apply za9|apply zba|apply zbd|apply zbe)|((with_reducible (first|apply zaN|apply zaO));exact rfl;exact rfl;(with_reducible exact rfl)));(first|((with_reducible apply zgl);exact rfl;exact rfl;((try simp only[List.length_append,List.length_cons,List.length_nil]);omega))|((with_reducible apply QS_eqlBd);exact rfl;exact rfl)|exact QS.auto);exact rfl;exact r.out):p:=h ⟨r⟩
theorem zcf(bd:Bd)(er:Int)(w:World)(hb:bd.Sm)(he:smI er):Calls Tryz.prog 36 #[.agg (Bd.enc bd).toArray,.int .i64 er] w fun e w'=>e=.returned (bsv (zgQ (decide (bd=⟨0,0,0⟩)) bd er))∧Below w.heap.size w w':=by
 obtain⟨⟨k0,k1⟩,⟨p0,p1⟩,⟨q0,q1⟩⟩:=hb
 obtain⟨e0,e1⟩:=he
 have n1:=zaJ (n:=bd.kind) ⟨k0,k1⟩
 have n2:=zaJ (n:=bd.a) ⟨p0,p1⟩
 have n3:=zaJ (n:=bd.b) ⟨q0,q1⟩
 have n4:=zaJ (n:=er) ⟨e0,e1⟩
 refine zaj (S:=[]) [] Tryz.func36 rfl Tryz.ntmps36 Zj (Mem.nil _) ?_
 by_cases h0:er=0
 ·by_cases hz:bd=⟨0,0,0⟩
  ·have hbb:zgQ (decide (bd=⟨0,0,0⟩)) bd er=[98,97,100,32,110,111,110,101,10]:=by
    rw[decide_eq_true hz]
    unfold zgQ
    rw[if_neg (by simpa using h0),if_pos rfl];rfl
   rw[hbb]
   clear hbb
   subst hz
   repeat' (first|refine Q0VdH ?_|refine Zha ?_|(refine Zhb ?_;intro g)|(refine Zg ?_ ?_<;>(intro h;try exact Zx))|refine GOF ?_ ?_|((with_reducible (first|apply zaa|apply TD_e3z|apply zan|apply zaf|apply zae));((with_reducible apply zad (f:=29));exact rfl;(intro w hw;exact zcc _ w Zo);exact rfl);exact Zh;(rintro _ _ ⟨rfl,rfl⟩);(try refine⟨SUB,?_⟩))|fail)
   all_goals first|(exfalso;contradiction)|(exfalso;revert h;decide)|skip
   all_goals((refine zah Tryz.results36 rfl (fun w' hw=>?_));exact⟨rfl,hw.below0 rfl⟩)
  ·have hbb:zgQ (decide (bd=⟨0,0,0⟩)) bd er=[98,97,100,32]++itoa bd.kind++[32]++itoa bd.a++[32]++itoa bd.b++[10]:=by
    rw[decide_eq_false hz]
    unfold zgQ
    rw[if_neg (by simpa using h0),if_neg Zi]
    unfold lnB wBad
    simp[zby]
   rw[hbb]
   have hz':¬(bd.kind=0∧bd.a=0∧bd.b=0):=fun⟨x,y,z⟩=>hz (by cases bd;dsimp only at x y z;subst x y z;rfl)
   clear hbb hz
   repeat' (first|refine Q0VdH ?_|refine Zha ?_|(refine Zhb ?_;intro g)|(refine Zg ?_ ?_<;>(intro h;try exact Zx))|refine GOF ?_ ?_|((with_reducible (first|apply zaa|apply TD_e3z|apply zan|apply zaf|apply zae));((with_reducible apply zad (f:=29));exact rfl;(intro w hw;exact zcc _ w Zo);exact rfl);exact Zh;(rintro _ _ ⟨rfl,rfl⟩);(try refine⟨SUB,?_⟩))|((with_reducible apply zam (id:=5) 1000 (OT.seq [(0,0),(0,5),(0,10),(1,1),(1,6),(1,11),(2,2),(0,3),(0,4),(2,7),(0,8),(0,9),(2,12),(0,13),(0,14),(0,15)] .nil));kernel_rfl;exact rfl;kernel_rfl;exact Zd)|fail)
   all_goals first|(exfalso;contradiction)|(exfalso;simp only[Bool.and_eq_true,decide_eq_true_eq] at h;exact hz' h)|skip
   all_goals((refine zah Tryz.results36 rfl (fun w' hw=>?_));exact⟨rfl,hw.below0 rfl⟩)
 ·have hbb:zgQ (decide (bd=⟨0,0,0⟩)) bd er=[98,97,100,32,101,114,114,111,114,32]++itoa er++[10]:=by
   unfold zgQ
   rw[if_pos h0]
   unfold lnB wBad wError
   simp[zby]
  rw[hbb]
  repeat' (first|refine Q0VdH ?_|refine Zha ?_|(refine Zhb ?_;intro g)|(refine Zg ?_ ?_<;>(intro h;try exact Zx))|refine GOF ?_ ?_|((with_reducible (first|apply zaa|apply TD_e3z|apply zan|apply zaf|apply zae));((with_reducible apply zad (f:=29));exact rfl;(intro w hw;exact zcc _ w Zo);exact rfl);exact Zh;(rintro _ _ ⟨rfl,rfl⟩);(try refine⟨SUB,?_⟩))|fail)
  all_goals first|(exfalso;contradiction)|skip
  all_goals((refine zah Tryz.results36 rfl (fun w' hw=>?_));exact⟨rfl,hw.below0 rfl⟩)
end
section
open Go.RowKit Go.Lib
theorem Q0TxG{p R:Prop}(r:R)(h:Rest R→p:=by intro r;(first|with_reducible (first|apply zcE|apply za9|apply zba|apply zbd|apply zbe)|((with_reducible (first|apply zaN|apply zaO));exact rfl;exact rfl;(with_reducible exact rfl)));(first|((with_reducible apply zgl);exact rfl;exact rfl;((try simp only[List.length_append,List.length_cons,List.length_nil]);omega))|((with_reducible apply zcX);exact rfl;exact rfl)|exact QS.auto);exact rfl;exact r.out):p:=h ⟨r⟩
theorem ze8(t:Int)(w:World)(ht:1≤t∧t≤5)(hT:TxD w):Calls Tryz.prog 66 #[.int .i64 t] w fun e w'=>e=.returned (bsv (typeW.getD t.toNat []))∧Below w.heap.size w w':=by
 refine zaj (S:=[]) [] Tryz.func66 rfl Tryz.ntmps66 Zj (Mem.nil _) ?_
 have htl:typeT.length=5:=rfl
 have hi:(t-1).toNat<typeT.length:=by omega
 have he:typeW.getD t.toNat []=typeT[(t-1).toNat]:=by
  have:=typeT_at (t-1).toNat Zo
  rw[show(t-1).toNat+1=t.toNat by omega,List.getElem?_eq_getElem hi] at this
  exact(Option.some.inj this).symm
 rw[he]
 repeat' (first|refine Q0TxG ?_|refine Zga ?_|(refine Zgb ?_;intro g)|(refine Zg ?_ ?_<;>(intro h;try exact Zx))|((with_reducible (first|apply zaa|apply TD_e3z|apply zan|apply zaf|apply zae));((with_reducible apply zar (f:=125) (X:=Nat×Nat) (S1:=[]) (fun x=>.slice (some ⟨x.1,0,none⟩) typeT.length x.2) (fun x=>[zac zbn 1 9 (some ⟨x.1,0,none⟩) x.2 typeT]));exact rfl;exact Zp;(intro x;(try dsimp only);exact Za);(intro w hw;exact fields_at typeS typeT fields_type Zi Zi Zi Zi w (hT.carry (hw.below0 rfl)));exact rfl);exact Zh;(rintro _ _ ⟨⟨gw,cw⟩,rfl,rfl⟩);(try refine⟨SUB,?_⟩))|fail)
 all_goals first|(exfalso;omega)|skip
 (refine zah Tryz.results66 rfl (fun w' hw=>?_))
 exact⟨rfl,hw.below0 rfl⟩
theorem zdH(t:Int)(w:World)(ht:0≤t∧t≤10)(hT:TxD w):Calls Tryz.prog 128 #[.int .i64 t] w fun e w'=>e=.returned (bsv (kindW.getD t.toNat []))∧Below w.heap.size w w':=by
 refine zaj (S:=[]) [] Tryz.func128 rfl Tryz.ntmps128 Zj (Mem.nil _) ?_
 have htl:kindW.length=11:=rfl
 have hi:t.toNat<kindW.length:=by omega
 rw[show kindW.getD t.toNat []=kindW[t.toNat] by simp[hi]]
 repeat' (first|refine Q0TxG ?_|refine Zga ?_|(refine Zgb ?_;intro g)|(refine Zg ?_ ?_<;>(intro h;try exact Zx))|((with_reducible (first|apply zaa|apply TD_e3z|apply zan|apply zaf|apply zae));((with_reducible apply zar (f:=125) (X:=Nat×Nat) (S1:=[]) (fun x=>.slice (some ⟨x.1,0,none⟩) kindW.length x.2) (fun x=>[zac zbn 1 9 (some ⟨x.1,0,none⟩) x.2 kindW]));exact rfl;exact Zp;(intro x;(try dsimp only);exact Za);(intro w hw;exact fields_at kindS kindW fields_kind Zi Zi Zi Zi w (hT.carry (hw.below0 rfl)));exact rfl);exact Zh;(rintro _ _ ⟨⟨gw,cw⟩,rfl,rfl⟩);(try refine⟨SUB,?_⟩))|fail)
 all_goals first|(exfalso;omega)|skip
 (refine zah Tryz.results128 rfl (fun w' hw=>?_))
 exact⟨rfl,hw.below0 rfl⟩
structure EvNum (x:Ev):Prop where
 who:-1000000≤x.who∧x.who≤1000000
 thing:-1000000≤x.thing∧x.thing≤1000000
 kind:0≤x.kind∧x.kind≤10
 value:-1000000≤x.value∧x.value≤1000000
theorem evB_num{x:Ev}(h:EvNum x):(zcR x).length≤40:=by
 obtain⟨h1,h2,h3,h4⟩:=h
 have k1:=zaJ (n:=x.who) Zo
 have k2:=zaJ (n:=x.thing) Zo
 have k3:=zaJ (n:=x.value) Zo
 have k4:=kindW_len (t:=x.kind.toNat) Zo
 rw[zja]
 split<;>simp only[List.length_append,List.length_cons,List.length_nil]<;>omega
theorem zer(x:Ev)(w:World)(hx:EvNum x)(hT:TxD w):Calls Tryz.prog 126 #[.agg (Ev.enc x).toArray] w fun e w'=>e=.returned (bsv (zcR x))∧Below w.heap.size w w':=by
 obtain⟨e1,e2,e3,e4⟩:=hx
 have hn1:=zaJ (n:=x.who) e1
 have hn2:=zaJ (n:=x.thing) e2
 have hn3:=zaJ (n:=x.value) e4
 have hk:=kindW_len (t:=x.kind.toNat) Zo
 have hl:=zja x
 have hb:zeM x.kind=true↔x.kind=2∨x.kind=4∨x.kind=6∨x.kind=10:=by
  unfold zeM
  simp only[Bool.or_eq_true,decide_eq_true_eq]
 refine zaj (S:=[]) [] Tryz.func126 rfl Tryz.ntmps126 Zj (Mem.nil _) ?_
 by_cases hb1:x.kind=2∨x.kind=4∨x.kind=6∨x.kind=10
 ·rw[if_pos (hb.2 hb1)] at hl
  rw[hl,List.append_nil]
  clear hl hb
  repeat' (first|refine Q0TxG ?_|refine Zha ?_|(refine Zhb ?_;intro g)|(refine Zg ?_ ?_<;>(intro h;try exact Zx))|refine GOF ?_ ?_|((with_reducible (first|apply zaa|apply TD_e3z|apply zan|apply zaf|apply zae));((with_reducible apply zad (f:=29));exact rfl;(intro w hw;exact zcc _ w Zo);exact rfl);exact Zh;(rintro _ _ ⟨rfl,rfl⟩);(try refine⟨SUB,?_⟩))|((with_reducible (first|apply zaa|apply TD_e3z|apply zan|apply zaf|apply zae));((with_reducible apply zad (f:=128));exact rfl;(intro w hw;exact zdH _ w Zo (hT.carry (hw.below0 rfl)));exact rfl);exact Zh;(rintro _ _ ⟨rfl,rfl⟩);(try refine⟨SUB,?_⟩))|((with_reducible apply zam (id:=1) 1000 (OT.seq [(0,0),(0,4),(0,9),(1,1),(1,5),(1,10),(2,2),(0,3),(2,6),(0,7),(0,8),(2,11),(0,12),(0,13)] .nil));kernel_rfl;exact rfl;kernel_rfl;exact Zd)|fail)
  all_goals first|(exfalso;omega)|skip
  all_goals
   (refine zah Tryz.results126 rfl (fun w' hw=>?_))
   exact⟨rfl,hw.below0 rfl⟩
 ·rw[if_neg (fun h=>hb1 (hb.1 h))] at hl
  rw[hl]
  clear hl hb
  repeat' (first|refine Q0TxG ?_|refine Zha ?_|(refine Zhb ?_;intro g)|(refine Zg ?_ ?_<;>(intro h;try exact Zx))|refine GOF ?_ ?_|((with_reducible (first|apply zaa|apply TD_e3z|apply zan|apply zaf|apply zae));((with_reducible apply zad (f:=29));exact rfl;(intro w hw;exact zcc _ w Zo);exact rfl);exact Zh;(rintro _ _ ⟨rfl,rfl⟩);(try refine⟨SUB,?_⟩))|((with_reducible (first|apply zaa|apply TD_e3z|apply zan|apply zaf|apply zae));((with_reducible apply zad (f:=128));exact rfl;(intro w hw;exact zdH _ w Zo (hT.carry (hw.below0 rfl)));exact rfl);exact Zh;(rintro _ _ ⟨rfl,rfl⟩);(try refine⟨SUB,?_⟩))|((with_reducible apply zam (id:=1) 1000 (OT.seq [(0,0),(0,4),(0,9),(1,1),(1,5),(1,10),(2,2),(0,3),(2,6),(0,7),(0,8),(2,11),(0,12),(0,13)] .nil));kernel_rfl;exact rfl;kernel_rfl;exact Zd)|fail)
  all_goals first|(exfalso;omega)|skip
  all_goals
   (refine zah Tryz.results126 rfl (fun w' hw=>?_))
   refine⟨?_,hw.below0 rfl⟩
   simp only[List.append_assoc];rfl
section
variable (A B:Option Addr)(ca cl:Nat)(ts:List Int)(l:List Ev)(w:World)(hA:RdInt w A ts)(hB:RdEv w B l)(hT:TxD w)(ht4:ts.length≤4)(htk:∀t∈ts,1≤t∧t≤5)(hl2:l.length≤200)(hev:∀x∈l,EvNum x) 
include hA hB hT ht4 htk hl2 hev
theorem textOf_any:Calls Tryz.prog 68 #[.slice A ts.length ca,.slice B l.length cl] w fun e w'=>e=.returned (bsv (textB ts l))∧Below w.heap.size w w':=by
 refine zaj (S:=[]) [] Tryz.func68 rfl Tryz.ntmps68 Zj (Mem.nil _) ?_
 repeat' (first|refine Q0TxG ?_|refine Zha ?_|(refine Zhb ?_;intro g)|(refine Zg ?_ ?_<;>(intro h;try exact Zx))|refine GOF ?_ ?_|fail)
 refine zap (X:=Nat) (fun k=>[(12,.int .i64 (k:Nat)),(11,.int .i64 ts.length),(10,.slice A ts.length ca),(5,bsv (thW++(ts.take k).flatMap tyB)),(1,.slice B l.length cl)]) (fun _=>[]) (fun k=>k≤ts.length) (fun k=>ts.length-k) 0 Zo Ze (by exact zaK) ?_
 intro k hk
 have hlen:(thW++(ts.take k).flatMap tyB).length≤40:=by
  have h2:=zjb (f:=tyB) (m:=7) (l:=ts.take k) fun t ht=>tyB_len (htk t (List.mem_of_mem_take ht))
  have h3:(ts.take k).length≤4:=by rw[List.length_take];omega
  have h4:thW.length=6:=rfl
  rw[List.length_append];omega
 by_cases hkl:k<ts.length
 ·have hks:thW++(ts.take (k+1)).flatMap tyB=(thW++(ts.take k).flatMap tyB)++tyB ts[k]:=by rw[bflat_take tyB hkl,List.append_assoc]
  have ht:=htk ts[k] (List.getElem_mem _)
  have hwl2:=typeW_len (t:=ts[k].toNat) Zo
  rw[show tyB ts[k]=[32]++typeW.getD ts[k].toNat [] from rfl] at hks
  generalize thW++(ts.take k).flatMap tyB=K at *
  obtain⟨b,o,rfl,_⟩:=RdE.open hA Zo
  repeat' (first|refine Q0TxG ?_|refine Zha ?_|(refine Zhb ?_;intro g)|(refine Zg ?_ ?_<;>(intro h;try exact Zx))|refine GOF ?_ ?_|((with_reducible (first|apply zaa|apply TD_e3z|apply zan|apply zaf|apply zae));((with_reducible apply zad (f:=66));exact rfl;(intro w hw;exact ze8 _ w Zo (hT.carry (hw.below0 rfl)));exact rfl);exact Zh;(rintro _ _ ⟨rfl,rfl⟩);(try refine⟨SUB,?_⟩))|fail)
  all_goals exact zab (k+1) Zo Zo (by rw[hks];exact Ze) (by exact zaK)
 ·obtain rfl:k=ts.length:=by omega
  rw[List.take_length]
  rw[List.take_length] at hlen
  unfold textB
  generalize thW++ts.flatMap tyB=K at *
  repeat' (first|refine Q0TxG ?_|refine Zha ?_|(refine Zhb ?_;intro g)|(refine Zg ?_ ?_<;>(intro h;try exact Zx))|refine GOF ?_ ?_|fail)
  all_goals first|(exfalso;omega)|skip
  refine zap (X:=Nat) (fun k=>[(26,.int .i64 (k:Nat)),(25,.int .i64 l.length),(24,.slice B l.length cl),(5,bsv (K++[10]++(l.take k).flatMap evB))]) (fun _=>[]) (fun k=>k≤l.length) (fun k=>l.length-k) 0 Zo (by rw[show(l.take 0).flatMap evB=[] from rfl,List.append_nil];exact Ze) (by exact zaK) ?_
  intro k hk
  have hlen2:(K++[10]++(l.take k).flatMap evB).length≤10000:=by
   have h2:=zjb (f:=evB) (m:=41) (l:=l.take k) fun x hx=>by
    have:=evB_num (hev x (List.mem_of_mem_take hx))
    unfold evB;rw[List.length_append,List.length_singleton];omega
   have h3:(l.take k).length≤200:=by rw[List.length_take];omega
   rw[List.length_append,List.length_append,List.length_singleton];omega
  by_cases hkl:k<l.length
  ·have hks:K++[10]++(l.take (k+1)).flatMap evB=(K++[10]++(l.take k).flatMap evB)++evB l[k]:=by rw[bflat_take evB hkl,←List.append_assoc]
   have hx:=hev l[k] (List.getElem_mem _)
   have hxl:=evB_num hx
   rw[show evB l[k]=zcR l[k]++[10] from rfl] at hks
   generalize K++[10]++(l.take k).flatMap evB=K2 at *
   obtain⟨b,o,rfl,_⟩:=RdE.open hB Zo
   repeat' (first|refine Q0TxG ?_|refine Zha ?_|(refine Zhb ?_;intro g)|(refine Zg ?_ ?_<;>(intro h;try exact Zx))|refine GOF ?_ ?_|((with_reducible (first|apply zaa|apply TD_e3z|apply zan|apply zaf|apply zae));((with_reducible apply zad (f:=126));exact rfl;(intro w hw;exact zer _ w hx (hT.carry (hw.below0 rfl)));exact rfl);exact Zh;(rintro _ _ ⟨rfl,rfl⟩);(try refine⟨SUB,?_⟩))|fail)
   all_goals exact zab (k+1) Zo Zo (by rw[hks];exact Ze) (by exact zaK)
  ·obtain rfl:k=l.length:=by omega
   rw[List.take_length]
   repeat' (first|refine Q0TxG ?_|refine Zha ?_|(refine Zhb ?_;intro g)|(refine Zg ?_ ?_<;>(intro h;try exact Zx))|refine GOF ?_ ?_|fail)
   all_goals first|(exfalso;omega)|skip
   (refine zah Tryz.results68 rfl (fun w' hw=>?_))
   exact⟨rfl,hw.below0 rfl⟩
end
end
section
open Go.RowKit Go.Lib
theorem Q0TxH{p R:Prop}(r:R)(h:Rest R→p:=by intro r;(first|with_reducible (first|apply zcE|apply za9|apply zba|apply zbd|apply zbe)|((with_reducible (first|apply zaN|apply zaO));exact rfl;exact rfl;(with_reducible exact rfl)));(first|((with_reducible apply QS_idxBs);exact rfl;exact rfl;omega;exact Tryz.underlying9)|((with_reducible apply QS_subU8);exact rfl;exact rfl;omega;omega)|((with_reducible apply zcX);exact rfl;exact rfl)|((with_reducible apply zi7 Tryz.underlying9);exact rfl)|exact QS.auto);exact rfl;exact r.out):p:=h ⟨r⟩
section
variable {P:Program}{C:Ctx}{E:zaE}{S:List Ent}{ty ty2 ty3 t k:Nat}{x y:Operand}{m n:Int} 
theorem QS_idxBs{l:Bs}{kk:IntKind}(hx:evo E x=some (bsv l))(hy:evo E y=some (.int kk (k:Nat)))(hk:k<l.length)(ht:P.underlying t=some .string):QS P C E S (.index t x y) ty (.int .u8 (l[k].toNat:Int)) :=
 QS.of (fun _ w he _=>by
  have hs:(⟨l.toArray⟩:ByteArray).size=l.length:=by show l.toArray.size=_;simp
  have hr:=run_index_string (P:=P) w t ⟨l.toArray⟩ kk (k:Int) ht
  rw[dif_pos ⟨by omega,by omega⟩] at hr
  have e1:((⟨l.toArray⟩:ByteArray)[((k:Nat):Int).toNat]'(by omega))=l[k]:=by
   show l.toArray[((k:Nat):Int).toNat]=l[k]
   simp
  rw[e1] at hr
  simp[execOp,he.evo hx,he.evo hy,bsv,hr])
theorem QS_subU8(hx:evo E x=some (.int .u8 m))(hy:evo E y=some (.int .u8 n))(h0:0≤m-n)(h1:m-n≤255):QS P C E S (.binOp .sub ty2 x y ty3) ty (.int .u8 (m-n)) :=
 QS.of (fun _ w he _=>zcQ he hx hy _ (by
  have:IntKind.u8.wrap (m-n)=m-n:=IntWalk.u8_in _ ⟨h0,by omega⟩
  simp[binOp,Op.intArith,this]))
end
theorem zgO{l:Bs}{v:Int}(h:zbD l=some v):-1000000≤v∧v≤1000000:=(zdr.1 h).2
structure NumAt (l:Bs) (k:Nat) (n:Int) (m:Nat):Prop where
 nat:n=(m:Int)
 le:m≤10000009
 zero:k=0→m=0
 go:0<k∨zeJ l=false→zf8 (ziG l) 0=zf8 (l.drop k) m
def sgn(l:Bs)(k:Nat):Int:=if 0<k∧zeJ l=true then -1 else 1
theorem numAt_first{l:Bs}:NumAt l 0 0 0:=⟨rfl,by omega,fun _=>rfl,fun h=>by
 rcases h with h|h
 ·omega
 ·unfold ziG;rw[if_neg (by rw[h];decide)];rfl⟩
theorem numAt_neg{l:Bs}{n:Int}{m:Nat}(hk:0<l.length)(h:NumAt l 0 n m)(hc:l[0].toNat=45):NumAt l 1 n m∧zeJ l=true:=by
 have hn:zeJ l=true:=by
  unfold zeJ
  rcases l with _|⟨a,r⟩
  ·simp at hk
  ·have:a=45:=UInt8.toNat_inj.1 hc
   subst this;rfl
 refine⟨⟨h.nat,h.le,fun e=>absurd e Zi,fun _=>?_⟩,hn⟩
 unfold ziG
 rw[if_pos hn,h.zero rfl,List.drop_one]
theorem numAt_plain{l:Bs}(hk:0<l.length)(hc:¬l[0].toNat=45):zeJ l=false:=by
 unfold zeJ
 rcases l with _|⟨a,r⟩
 ·simp at hk
 ·refine decide_eq_false fun e=>hc ?_
  rw[List.head?_cons,Option.some.injEq] at e
  show a.toNat=45
  rw[e];rfl
theorem numAt_step{l:Bs}{k:Nat}{n:Int}{m:Nat}(hk:k<l.length)(h:NumAt l k n m)(h0:0<k∨zeJ l=false)(hd:48≤l[k].toNat∧l[k].toNat≤57)(hm:m≤1000000):NumAt l (k+1) (10 * n+((l[k].toNat:Int)-48)) (10 * m+(l[k].toNat-48)):=by
 refine⟨by rw[h.nat];omega,by omega,fun e=>by omega,fun _=>?_⟩
 rw[h.go h0,List.drop_eq_getElem_cons hk,zf8,if_pos ⟨hd.1,hd.2,hm⟩]
theorem numAt_bad{l:Bs}{k:Nat}{n:Int}{m:Nat}(hk:k<l.length)(h:NumAt l k n m)(h0:0<k∨zeJ l=false)(hd:¬(48≤l[k].toNat∧l[k].toNat≤57∧m≤1000000)):zbD l=none:=by
 rw[←numDoc,docN,h.go h0,List.drop_eq_getElem_cons hk,zf8,if_neg hd];rfl
theorem numAt_end{l:Bs}{n:Int}{m:Nat}(h:NumAt l l.length n m):zbD l=if -1000000≤n * sgn l l.length∧n * sgn l l.length≤1000000∧itoa (n * sgn l l.length)=l then some (n * sgn l l.length) else none:=by
 have h0:0<l.length∨zeJ l=false:=by
  rcases l with _|⟨a,r⟩
  ·exact .inr rfl
  ·exact .inl Zj
 rw[←numDoc,docN,h.go h0,List.drop_length]
 show(match Option.map (fun m:Nat=>if zeJ l=true then -(m:Int) else(m:Int)) (some m) with|some n=>if -1000000≤n∧n≤1000000∧itoa n=l then some n else none|none=>none)=_
 have e:(if zeJ l=true then -(m:Int) else(m:Int))=n * sgn l l.length:=by
  unfold sgn
  rw[h.nat]
  by_cases hn:zeJ l=true
  ·have hp:0<l.length:=by
    rcases h0 with h0|h0
    ·exact h0
    ·rw[h0] at hn;cases hn
   rw[if_pos hn,if_pos ⟨hp,hn⟩];omega
  ·rw[if_neg hn,if_neg (fun e=>hn e.2)];omega
 rw[Option.map_some,e]
section
variable (l:Bs)(w:World)(hl:l.length≤1000000) 
include hl
theorem ze9:Calls Tryz.prog 127 #[bsv l] w fun e w'=>∃x:{n:Int // ∀v,zbD l=some v→n=v},e=.returned (.tuple #[.int .i64 x.1,.bool (zbD l).isSome])∧Mem ⟨0,[],w⟩ w' []:=by
 refine zaj (S:=[]) [] Tryz.func127 rfl Tryz.ntmps127 Zj (Mem.nil _) ?_
 repeat' (first|refine Q0TxH ?_|refine Zga ?_|(refine Zgb ?_;intro g)|(refine Zg ?_ ?_<;>(intro h;try exact Zx))|fail)
 refine zap (X:=Nat×Int) (fun x=>[(9,.int .i64 (x.1:Nat)),(8,.int .i64 l.length),(4,.int .i64 x.2),(5,.int .i64 (sgn l x.1)),(0,bsv l)]) (fun _=>[]) (fun x=>x.1≤l.length∧∃m,NumAt l x.1 x.2 m) (fun x=>l.length-x.1) (0,0) ⟨by(try dsimp only);omega,0,numAt_first⟩ (by(try dsimp only);exact Ze) (by exact zaK) ?_
 rintro⟨k,n⟩ ⟨hk,m,hm⟩
 dsimp only at hk hm ⊢
 by_cases hkl:k<l.length
 ·have hcl:l[k].toNat<256:=UInt8.toNat_lt _
  have hn0:0≤n:=by rw[hm.nat];omega
  have hn1:n≤10000009:=by have:=hm.le;rw[hm.nat];omega
  by_cases hneg:k=0∧l[k].toNat=45
  ·obtain⟨rfl,hc⟩:=hneg
   obtain⟨h1,h2⟩:=numAt_neg hkl hm hc
   have hs1:sgn l (0+1)=-1:=if_pos ⟨by omega,h2⟩
   have hc':((l[0].toNat:Nat):Int)=45:=by omega
   repeat' (first|refine Q0TxH ?_|refine Zga ?_|(refine Zgb ?_;intro g)|(refine Zg ?_ ?_<;>(intro h;try exact Zx))|fail)
   all_goals first|(exfalso;omega)|(exfalso;contradiction)|skip
   all_goals exact zab (0+1,n) ⟨hkl,m,h1⟩ (by(try dsimp only);omega) (by(try dsimp only);rw[hs1];exact Ze) (by exact zaK)
  ·have h0:0<k∨zeJ l=false:=by
    by_cases e:k=0
    ·subst e;exact .inr (numAt_plain hkl fun e=>hneg ⟨rfl,e⟩)
    ·exact .inl Zo
   have hs1:sgn l (k+1)=sgn l k:=by
    unfold sgn
    rcases h0 with h0|h0
    ·simp[h0]
    ·simp[h0]
   have hng:k=0→¬((l[k].toNat:Nat):Int)=45:=fun e1 e2=>hneg ⟨e1,by omega⟩
   by_cases hd:48≤l[k].toNat∧l[k].toNat≤57∧m≤1000000
   ·have h1:=numAt_step hkl hm h0 ⟨hd.1,hd.2.1⟩ hd.2.2
    have hn2:n≤1000000:=by have:=hm.nat;omega
    have hd1:(48:Int)≤((l[k].toNat:Nat):Int):=by omega
    have hd2:((l[k].toNat:Nat):Int)≤57:=by omega
    clear hneg hd
    repeat' (first|refine Q0TxH ?_|refine Zga ?_|(refine Zgb ?_;intro g)|(refine Zg ?_ ?_<;>(intro h;try exact Zx))|((with_reducible (first|apply zaa|apply TD_e3z|apply zan|apply zaf|apply zae));((with_reducible apply zad (f:=67));exact rfl;(intro w hw;exact Calls.same_below (zbu _ _ _ _));exact rfl);exact Zh;(rintro _ _ ⟨rfl,rfl⟩);(try refine⟨SUB,?_⟩))|fail)
    all_goals first|(exfalso;omega)|(exfalso;exact hng Zo (by assumption))|skip
    all_goals exact zab (k+1,10 * n+((l[k].toNat:Int)-48)) ⟨hkl,_,h1⟩ (by(try dsimp only);omega) (by(try dsimp only);rw[hs1];exact Ze) (by exact zaK)
   ·have hb:=numAt_bad hkl hm h0 hd
    have hd':¬((48:Int)≤((l[k].toNat:Nat):Int)∧((l[k].toNat:Nat):Int)≤57∧n≤1000000):=fun e=>hd ⟨by omega,by omega,by have:=hm.nat;omega⟩
    clear hneg hd
    rw[hb]
    repeat' (first|refine Q0TxH ?_|refine Zga ?_|(refine Zgb ?_;intro g)|(refine Zg ?_ ?_<;>(intro h;try exact Zx))|((with_reducible (first|apply zaa|apply TD_e3z|apply zan|apply zaf|apply zae));((with_reducible apply zad (f:=67));exact rfl;(intro w hw;exact Calls.same_below (zbu _ _ _ _));exact rfl);exact Zh;(rintro _ _ ⟨rfl,rfl⟩);(try refine⟨SUB,?_⟩))|fail)
    all_goals first|(exfalso;omega)|(exfalso;exact hng Zo (by assumption))|skip
    all_goals
     (refine zah Tryz.results127 rfl (fun w' hw=>?_))
     exact⟨⟨0,fun v hv=>by cases hv⟩,rfl,(hw.anyN 0).sel Zl⟩
 ·obtain rfl:k=l.length:=by omega
  have he:=numAt_end hm
  have hs:sgn l l.length=1∨sgn l l.length=-1:=by unfold sgn;split<;>simp
  have hn0:0≤n:=by rw[hm.nat];omega
  have hn1:n≤10000009:=by have:=hm.le;rw[hm.nat];omega
  have hv:-10000009≤n * sgn l l.length∧n * sgn l l.length≤10000009:=by rcases hs with h|h<;>rw[h]<;>omega
  obtain⟨hv0,hv1⟩:=hv
  have hS:(zbD l).isSome=(decide (-1000000≤n * sgn l l.length)&&(decide (n * sgn l l.length≤1000000)&&decide (itoa (n * sgn l l.length)=l))):=by
   rw[he]
   split
   ·rename_i h;rw[decide_eq_true h.1,decide_eq_true h.2.1,decide_eq_true h.2.2];rfl
   ·rename_i h
    symm
    show _=false
    rw[Bool.eq_false_iff]
    intro e
    simp only[Bool.and_eq_true,decide_eq_true_eq] at e
    exact h e
  repeat' (first|refine Q0TxH ?_|refine Zga ?_|(refine Zgb ?_;intro g)|(refine Zg ?_ ?_<;>(intro h;try exact Zx))|((with_reducible (first|apply zaa|apply TD_e3z|apply zan|apply zaf|apply zae));((with_reducible apply zad (f:=67));exact rfl;(intro w hw;exact Calls.same_below (zbu _ _ _ _));exact rfl);exact Zh;(rintro _ _ ⟨rfl,rfl⟩);(try refine⟨SUB,?_⟩))|((with_reducible (first|apply zaa|apply TD_e3z|apply zan|apply zaf|apply zae));((with_reducible apply zad (f:=29));exact rfl;(intro w hw;exact zcc _ w Zo);exact rfl);exact Zh;(rintro _ _ ⟨rfl,rfl⟩);(try refine⟨SUB,?_⟩))|fail)
  all_goals first|(exfalso;omega)|skip
  all_goals
   (refine zah Tryz.results127 rfl (fun w' hw=>?_))
   refine⟨⟨n * sgn l l.length,fun v hv=>?_⟩,?_,(hw.anyN 0).sel Zl⟩
   ·rw[he] at hv
    split at hv
    ·exact Option.some.inj hv
    ·cases hv
   ·show Ending.returned (Value.tuple #[Value.int IntKind.i64 (n * sgn l l.length),Value.bool _])=Ending.returned (Value.tuple #[Value.int IntKind.i64 (n * sgn l l.length),Value.bool (zbD l).isSome])
    rw[hS]
    clear he hS hm
    congr 4
    first|(simp[*];done)|(simp[*];omega)
end
end
section
open Go.RowKit Go.Lib
theorem zhw{p R:Prop}(r:R)(h:Rest R→p:=by intro r;(first|with_reducible (first|apply zcE|apply za9|apply zba|apply zbd|apply zbe)|((with_reducible (first|apply zaN|apply zaO));exact rfl;exact rfl;(with_reducible exact rfl)));(first|((with_reducible apply zcX);exact rfl;exact rfl)|exact QS.auto);exact rfl;exact r.out):p:=h ⟨r⟩
theorem eventD_3{l:Bs}{ws:List Bs}(hws:ws=zas 32 l)(h:ws.length=3):zaL l=match zbD (ws.getD 0 []),zbD (ws.getD 1 []),kdOf (ws.getD 2 []) with
  |some a,some b,some k=>if zcR ⟨a,b,k,0⟩=l then some ⟨a,b,k,0⟩ else none
  |_,_,_=>none:=by
 rw[←eventDoc]
 unfold eventD
 rw[←hws]
 rcases ws with _|⟨a,_|⟨b,_|⟨c,_|⟨d,r⟩⟩⟩⟩<;>first|rfl|(simp at h;done)|(simp at h;omega)
theorem eventD_4{l:Bs}{ws:List Bs}(hws:ws=zas 32 l)(h:ws.length=4):zaL l=match zbD (ws.getD 0 []),zbD (ws.getD 1 []),kdOf (ws.getD 2 []),zbD (ws.getD 3 []) with
  |some a,some b,some k,some v=>if zcR ⟨a,b,k,v⟩=l then some ⟨a,b,k,v⟩ else none
  |_,_,_,_=>none:=by
 rw[←eventDoc]
 unfold eventD
 rw[←hws]
 rcases ws with _|⟨a,_|⟨b,_|⟨c,_|⟨d,_|⟨e,r⟩⟩⟩⟩⟩<;>first|rfl|(simp at h;done)|(simp at h;omega)
theorem kind_at{w:Bs}{k:Nat}(hk:k<11):kindW.getD k []=w↔zcM kindW w=(k:Int):=by
 constructor
 ·intro h
  have:=idxB_at (ws:=kindW) Zi (i:=k) hk
  rw[h] at this
  exact this
 ·intro h
  rcases zcy kindW w with e|⟨i,e,h1,h2⟩
  ·omega
  ·have:i=k:=by omega
   rw[←this];exact h2
theorem kind_lt(w:Bs):-1≤zcM kindW w∧zcM kindW w<11:=by
 rcases zcy kindW w with e|⟨i,e,h1,_⟩
 ·omega
 ·have:kindW.length=11:=rfl
  omega
def kdAt(w:Bs)(k:Nat):Int:=if zcM kindW w<(k:Int) then zcM kindW w else -1
theorem kdAt_zero(w:Bs):kdAt w 0=-1:=by
 have:=kind_lt w
 unfold kdAt
 split<;>omega
theorem kdAt_end(w:Bs):kdAt w 11=zcM kindW w:=if_pos (kind_lt w).2
theorem kdAt_yes{w:Bs}{k:Nat}(hk:k<11)(h:kindW.getD k []=w):kdAt w (k+1)=(k:Int):=by
 have:=(kind_at hk).1 h
 unfold kdAt
 rw[if_pos Zo,this]
theorem kdAt_no{w:Bs}{k:Nat}(hk:k<11)(h:¬kindW.getD k []=w):kdAt w (k+1)=kdAt w k:=by
 have:¬zcM kindW w=(k:Int):=fun e=>h ((kind_at hk).2 e)
 unfold kdAt
 by_cases e:zcM kindW w<(k:Int)
 ·rw[if_pos e,if_pos Zo]
 ·rw[if_neg e,if_neg Zo]
theorem kdOf_pos{w:Bs}{k:Int}(h:kdOf w=some k):0≤zcM kindW w:=by
 unfold kdOf at h
 split at h
 ·assumption
 ·cases h
section
variable (l:Bs)(w:World)(hl:l.length≤1000000)(hT:TxD w) 
include hl hT
theorem lineEvent_any:Calls Tryz.prog 69 #[bsv l] w fun e w'=>∃x:EvTo l,e=.returned (.tuple #[.agg (Ev.enc x.1).toArray,.bool (zaL l).isSome])∧Mem ⟨0,[],w⟩ w' []:=by
 have hne:=zb3 32 l
 have hsl:=zbW 32 l
 have hpl:=fun x (h:x∈zas 32 l)=>zc7 h
 obtain⟨ws,hws⟩:∃ws,ws=zas 32 l:=⟨_,rfl⟩
 have hsp:=fun w h=>zeQ 32 l w hl h
 rw[←hws] at hne hsl hpl hsp
 refine zaj (S:=[]) [] Tryz.func69 rfl Tryz.ntmps69 Zj (Mem.nil _) ?_
 by_cases h34:ws.length<3∨4<ws.length
 ·have hn:zaL l=none:=zih hws ⟨by omega,by omega⟩
  rw[show(zaL l).isSome=false by rw[hn];rfl]
  repeat' (first|refine zhw ?_|refine Zga ?_|(refine Zgb ?_;intro g)|(refine Zg ?_ ?_<;>(intro h;try exact Zx))|((with_reducible (first|apply zaa|apply TD_e3z|apply zan|apply zaf|apply zae));((with_reducible apply zal (f:=54));exact rfl;(intro w hw;exact hsp w (hT.carry (hw.below0 rfl)).toTxW);exact rfl);exact Zh;(rintro _ _ ⟨A1,c1,rfl,rfl⟩);(try refine⟨SUB,?_⟩))|fail)
  all_goals first|(exfalso;omega)|skip
  all_goals
   ((with_reducible apply zau Tryz.results69);exact Zr;intro w' hw)
   exact⟨⟨⟨0,0,0,0⟩,fun u hu=>by rw[hn] at hu;cases hu⟩,rfl,(hw.anyN 0).sel Zl⟩
 have h3:3≤ws.length:=by omega
 have h4:ws.length≤4:=by omega
 clear h34
 repeat' (first|refine zhw ?_|refine Zga ?_|(refine Zgb ?_;intro g)|(refine Zg ?_ ?_<;>(intro h;try exact Zx))|fail)
 obtain⟨g2,rfl⟩:∃x,x=g:=⟨_,rfl⟩
 repeat' (first|refine zhw ?_|refine Zga ?_|(refine Zgb ?_;intro g)|(refine Zg ?_ ?_<;>(intro h;try exact Zx))|((with_reducible (first|apply zaa|apply TD_e3z|apply zan|apply zaf|apply zae));((with_reducible apply zal (f:=54));exact rfl;(intro w hw;exact hsp w (hT.carry (hw.below0 rfl)).toTxW);exact rfl);exact Zh;(rintro _ _ ⟨A1,c1,rfl,rfl⟩);(try refine⟨SUB,?_⟩))|fail)
 all_goals first|(exfalso;omega)|skip
 refine zfP (p:=ws.length≤c1∧(A1=none→c1=0)) (fun w hw=>hw.ownFacts (enc:=zbn) (M:=1) (et:=9) Zm) fun hf=>?_
 refine zhF (enc:=zbn) (ls:=ws) Zm Zo ?_
 rintro g1 rfl
 obtain⟨g5,rfl⟩:∃x,x=g:=⟨_,rfl⟩
 have hl0:=hpl ws[0] (List.getElem_mem _)
 have hl1:=hpl ws[1] (List.getElem_mem _)
 have hl2:=hpl ws[2] (List.getElem_mem _)
 have hg:∀i (h:i<ws.length),ws.getD i []=ws[i]:=fun i h=>by simp[h]
 repeat' (first|refine zhw ?_|refine Zga ?_|(refine Zgb ?_;intro g)|(refine Zg ?_ ?_<;>(intro h;try exact Zx))|fail)
 ((with_reducible (first|apply zaa|apply TD_e3z|apply zan|apply zaf|apply zae));((with_reducible apply zar (f:=127) (X:={n:Int // ∀v,zbD ws[0]=some v→n=v}) (S1:=[]) (fun x=>.tuple #[.int .i64 x.1,.bool (zbD ws[0]).isSome]) (fun _=>[]));exact rfl;exact Zp;(intro x;(try dsimp only);exact Za);(intro w hw;exact ze9 ws[0] w Zo);exact rfl);exact Zh;(rintro _ _ ⟨⟨xa,hxa⟩,rfl,rfl⟩);(try refine⟨SUB,?_⟩))
 dsimp only
 repeat' (first|refine zhw ?_|refine Zga ?_|(refine Zgb ?_;intro g)|(refine Zg ?_ ?_<;>(intro h;try exact Zx))|fail)
 ((with_reducible (first|apply zaa|apply TD_e3z|apply zan|apply zaf|apply zae));((with_reducible apply zar (f:=127) (X:={n:Int // ∀v,zbD ws[1]=some v→n=v}) (S1:=[]) (fun x=>.tuple #[.int .i64 x.1,.bool (zbD ws[1]).isSome]) (fun _=>[]));exact rfl;exact Zp;(intro x;(try dsimp only);exact Za);(intro w hw;exact ze9 ws[1] w Zo);exact rfl);exact Zh;(rintro _ _ ⟨⟨xb,hxb⟩,rfl,rfl⟩);(try refine⟨SUB,?_⟩))
 dsimp only
 repeat' (first|refine zhw ?_|refine Zga ?_|(refine Zgb ?_;intro g)|(refine Zg ?_ ?_<;>(intro h;try exact Zx))|fail)
 refine zap (X:=Nat) (fun k=>[(42,.int .i64 (k:Nat)),(2,.pointer (some ⟨g2,0,none⟩)),(5,.pointer (some ⟨g5,0,none⟩)),(4,.slice (some ⟨g1,0,none⟩) ws.length c1),(7,.bool (zbD ws[0]).isSome),(9,.bool (zbD ws[1]).isSome),(0,bsv l)]) (fun k=>[zak g2 95 #[.int .i64 0,.int .i64 0,.int .i64 0,.int .i64 0],zak g5 95 #[.int .i64 xa,.int .i64 xb,.int .i64 (kdAt ws[2] k),.int .i64 0],zac zbn 1 9 (some ⟨g1,0,none⟩) c1 ws]) (fun k=>k≤11) (fun k=>11-k) 0 Zo Ze (fun w' hw=>by(try dsimp only);rw[kdAt_zero];exact hw.sel Zl) ?_
 intro k hk
 by_cases hk11:k<11
 ·by_cases hwd:kindW.getD ((k:Nat):Int).toNat []=ws[2]
  ·have hkd:=kdAt_yes hk11 (w:=ws[2]) hwd
   repeat' (first|refine zhw ?_|refine Zha ?_|(refine Zhb ?_;intro g)|(refine Zg ?_ ?_<;>(intro h;try exact Zx))|refine GOF ?_ ?_|((with_reducible apply zam (id:=11) 1000 (OT.seq [(0,0),(0,2),(0,3),(1,4),(2,1),(0,5)] .nil));kernel_rfl;exact rfl;kernel_rfl;exact Zd)|((with_reducible apply zam (id:=19) 5 (OT.seq [(0,3),(1,0),(1,1),(2,2),(0,4),(3,5),(0,6)] .nil));kernel_rfl;exact rfl;kernel_rfl;exact Zd)|((with_reducible (first|apply zaa|apply TD_e3z|apply zan|apply zaf|apply zae));((with_reducible apply zad (f:=128));exact rfl;(intro w hw;exact zdH _ w Zo (hT.carry (hw.below0 rfl)));exact rfl);exact Zh;(rintro _ _ ⟨rfl,rfl⟩);(try refine⟨SUB,?_⟩))|fail)
   all_goals first|(exfalso;omega)|(exfalso;contradiction)|skip
   all_goals exact zab (k+1) Zo Zo Ze (by rw[hkd];exact fun w' hw=>hw.sel Zl)
  ·have hkd:=kdAt_no hk11 (w:=ws[2]) hwd
   repeat' (first|refine zhw ?_|refine Zha ?_|(refine Zhb ?_;intro g)|(refine Zg ?_ ?_<;>(intro h;try exact Zx))|refine GOF ?_ ?_|((with_reducible apply zam (id:=11) 1000 (OT.seq [(0,0),(0,2),(0,3),(1,4),(2,1),(0,5)] .nil));kernel_rfl;exact rfl;kernel_rfl;exact Zd)|((with_reducible apply zam (id:=19) 5 (OT.seq [(0,3),(1,0),(1,1),(2,2),(0,4),(3,5),(0,6)] .nil));kernel_rfl;exact rfl;kernel_rfl;exact Zd)|((with_reducible (first|apply zaa|apply TD_e3z|apply zan|apply zaf|apply zae));((with_reducible apply zad (f:=128));exact rfl;(intro w hw;exact zdH _ w Zo (hT.carry (hw.below0 rfl)));exact rfl);exact Zh;(rintro _ _ ⟨rfl,rfl⟩);(try refine⟨SUB,?_⟩))|fail)
   all_goals first|(exfalso;omega)|(exfalso;contradiction)|skip
   all_goals exact zab (k+1) Zo Zo Ze (by rw[hkd];exact fun w' hw=>hw.sel Zl)
 ·obtain rfl:k=11:=by omega
  rw[kdAt_end]
  obtain⟨ix,hix⟩:∃ix,ix=zcM kindW ws[2]:=⟨_,rfl⟩
  have hkl:=kind_lt ws[2]
  rw[←hix] at hkl ⊢
  obtain⟨hk0,hk1⟩:=hkl
  clear hsp hf hpl hsl hk hk11
  by_cases e3:ws.length=3
  ·have hE:=eventD_3 hws e3
   rw[hg 0 Zo,hg 1 Zo,hg 2 Zo] at hE
   by_cases hok:(zbD ws[0]).isSome=true∧(zbD ws[1]).isSome=true∧0≤ix
   ·have hn0:=zi0 hok.1 hxa
    have hn1:=zi0 hok.2.1 hxb
    have hk:kdOf ws[2]=some ix:=by rw[hix];exact if_pos (by rw[←hix];exact hok.2.2)
    rw[hn0,hn1,hk] at hE
    dsimp only at hE
    have hnum:EvNum ⟨xa,xb,ix,0⟩:=⟨zgO hn0,zgO hn1,⟨hok.2.2,by(try dsimp only);omega⟩,by(try dsimp only);omega⟩
    have hok2:=hok.2.2
    rw[hn0,hn1,show(some xa).isSome=true from rfl,show(some xb).isSome=true from rfl]
    obtain⟨vv,hvv⟩:∃v:Int,v=0:=⟨_,rfl⟩
    rw[←hvv] at hE hnum
    have hE2:(zaL l).isSome=decide (zcR ⟨xa,xb,ix,vv⟩=l):=by
     rw[hE]
     by_cases e:zcR ⟨xa,xb,ix,vv⟩=l
     ·rw[if_pos e,decide_eq_true e];rfl
     ·rw[if_neg e,decide_eq_false e];rfl
    have hE3:∀u,zaL l=some u→(⟨xa,xb,ix,vv⟩:Ev)=u:=fun u hu=>by
     rw[hE] at hu
     split at hu
     ·exact Option.some.inj hu
     ·cases hu
    clear hE hn0 hn1 hk hok hg
    subst hvv
    repeat' (first|refine zhw ?_|refine Zha ?_|(refine Zhb ?_;intro g)|(refine Zg ?_ ?_<;>(intro h;try exact Zx))|refine GOF ?_ ?_|((with_reducible apply zam (id:=11) 1000 (OT.seq [(0,0),(0,2),(0,3),(1,4),(2,1),(0,5)] .nil));kernel_rfl;exact rfl;kernel_rfl;exact Zd)|((with_reducible apply zam (id:=19) 5 (OT.seq [(0,3),(1,0),(1,1),(2,2),(0,4),(3,5),(0,6)] .nil));kernel_rfl;exact rfl;kernel_rfl;exact Zd)|((with_reducible (first|apply zaa|apply TD_e3z|apply zan|apply zaf|apply zae));((with_reducible apply zad (f:=126));exact rfl;(intro w hw;exact zer ⟨xa,xb,ix,0⟩ w hnum (hT.carry (hw.below0 rfl)));exact rfl);exact Zh;(rintro _ _ ⟨rfl,rfl⟩);(try refine⟨SUB,?_⟩))|fail)
    all_goals first|(exfalso;omega)|(exfalso;contradiction)|skip
    all_goals
     ((with_reducible apply zau Tryz.results69);exact Zr;intro w' hw)
     rw[hE2]
     exact⟨⟨⟨xa,xb,ix,0⟩,hE3⟩,rfl,(hw.anyN 0).sel Zl⟩
   ·have hn:zaL l=none:=by
     rw[hE]
     split
     ·rename_i a b k h0 h1 h2
      exact absurd ⟨by rw[h0];rfl,by rw[h1];rfl,by rw[hix];exact kdOf_pos h2⟩ hok
     ·rfl
    rw[show(zaL l).isSome=false by rw[hn];rfl]
    clear hE hg
    generalize (zbD ws[0]).isSome=f0 at *
    generalize (zbD ws[1]).isSome=f1 at *
    repeat' (first|refine zhw ?_|refine Zha ?_|(refine Zhb ?_;intro g)|(refine Zg ?_ ?_<;>(intro h;try exact Zx))|refine GOF ?_ ?_|fail)
    all_goals first|(exfalso;omega)|(exfalso;exact hok ⟨by assumption,by assumption,by omega⟩)|skip
    all_goals
     ((with_reducible apply zau Tryz.results69);exact Zr;intro w' hw)
     exact⟨⟨⟨xa,xb,ix,0⟩,fun u hu=>by rw[hn] at hu;cases hu⟩,rfl,(hw.anyN 0).sel Zl⟩
  ·obtain e4:ws.length=4:=by omega
   have hl3:ws[3].length≤l.length:=zc7 (c:=32) (by rw[←hws];exact List.getElem_mem _)
   have hE:=eventD_4 hws e4
   rw[hg 0 Zo,hg 1 Zo,hg 2 Zo,hg 3 Zo] at hE
   repeat' (first|refine zhw ?_|refine Zha ?_|(refine Zhb ?_;intro g)|(refine Zg ?_ ?_<;>(intro h;try exact Zx))|refine GOF ?_ ?_|fail)
   all_goals first|(exfalso;omega)|skip
   ((with_reducible (first|apply zaa|apply TD_e3z|apply zan|apply zaf|apply zae));((with_reducible apply zar (f:=127) (X:={n:Int // ∀v,zbD ws[3]=some v→n=v}) (S1:=[]) (fun x=>.tuple #[.int .i64 x.1,.bool (zbD ws[3]).isSome]) (fun _=>[]));exact rfl;exact Zp;(intro x;(try dsimp only);exact Za);(intro w hw;exact ze9 ws[3] w Zo);exact rfl);exact Zh;(rintro _ _ ⟨⟨vv,hvv⟩,rfl,rfl⟩);(try refine⟨SUB,?_⟩))
   dsimp only
   by_cases hok:(zbD ws[0]).isSome=true∧(zbD ws[1]).isSome=true∧(zbD ws[3]).isSome=true∧0≤ix
   ·have hn0:=zi0 hok.1 hxa
    have hn1:=zi0 hok.2.1 hxb
    have hn3:=zi0 hok.2.2.1 hvv
    have hk:kdOf ws[2]=some ix:=by rw[hix];exact if_pos (by rw[←hix];exact hok.2.2.2)
    rw[hn0,hn1,hk,hn3] at hE
    dsimp only at hE
    have hnum:EvNum ⟨xa,xb,ix,vv⟩:=⟨zgO hn0,zgO hn1,⟨hok.2.2.2,by(try dsimp only);omega⟩,zgO hn3⟩
    have hok2:=hok.2.2.2
    rw[hn0,hn1,hn3,show(some xa).isSome=true from rfl,show(some xb).isSome=true from rfl,show(some vv).isSome=true from rfl]
    have hE2:(zaL l).isSome=decide (zcR ⟨xa,xb,ix,vv⟩=l):=by
     rw[hE]
     by_cases e:zcR ⟨xa,xb,ix,vv⟩=l
     ·rw[if_pos e,decide_eq_true e];rfl
     ·rw[if_neg e,decide_eq_false e];rfl
    have hE3:∀u,zaL l=some u→(⟨xa,xb,ix,vv⟩:Ev)=u:=fun u hu=>by
     rw[hE] at hu
     split at hu
     ·exact Option.some.inj hu
     ·cases hu
    clear hE hn0 hn1 hn3 hk hok hg
    repeat' (first|refine zhw ?_|refine Zha ?_|(refine Zhb ?_;intro g)|(refine Zg ?_ ?_<;>(intro h;try exact Zx))|refine GOF ?_ ?_|((with_reducible apply zam (id:=11) 1000 (OT.seq [(0,0),(0,2),(0,3),(1,4),(2,1),(0,5)] .nil));kernel_rfl;exact rfl;kernel_rfl;exact Zd)|((with_reducible apply zam (id:=19) 5 (OT.seq [(0,3),(1,0),(1,1),(2,2),(0,4),(3,5),(0,6)] .nil));kernel_rfl;exact rfl;kernel_rfl;exact Zd)|((with_reducible (first|apply zaa|apply TD_e3z|apply zan|apply zaf|apply zae));((with_reducible apply zad (f:=126));exact rfl;(intro w hw;exact zer ⟨xa,xb,ix,vv⟩ w hnum (hT.carry (hw.below0 rfl)));exact rfl);exact Zh;(rintro _ _ ⟨rfl,rfl⟩);(try refine⟨SUB,?_⟩))|fail)
    all_goals first|(exfalso;omega)|(exfalso;contradiction)|skip
    all_goals
     ((with_reducible apply zau Tryz.results69);exact Zr;intro w' hw)
     rw[hE2]
     exact⟨⟨⟨xa,xb,ix,vv⟩,hE3⟩,rfl,(hw.anyN 0).sel Zl⟩
   ·have hn:zaL l=none:=by
     rw[hE]
     split
     ·rename_i a b k v h0 h1 h2 h3
      exact absurd ⟨by rw[h0];rfl,by rw[h1];rfl,by rw[h3];rfl,by rw[hix];exact kdOf_pos h2⟩ hok
     ·rfl
    rw[show(zaL l).isSome=false by rw[hn];rfl]
    clear hE hg
    generalize (zbD ws[0]).isSome=f0 at *
    generalize (zbD ws[1]).isSome=f1 at *
    generalize (zbD ws[3]).isSome=f3 at *
    repeat' (first|refine zhw ?_|refine Zha ?_|(refine Zhb ?_;intro g)|(refine Zg ?_ ?_<;>(intro h;try exact Zx))|refine GOF ?_ ?_|fail)
    all_goals first|(exfalso;omega)|(exfalso;exact hok ⟨by assumption,by assumption,by assumption,by omega⟩)|skip
    all_goals
     ((with_reducible apply zau Tryz.results69);exact Zr;intro w' hw)
     exact⟨⟨⟨xa,xb,ix,vv⟩,fun u hu=>by rw[hn] at hu;cases hu⟩,rfl,(hw.anyN 0).sel Zl⟩
end
end
end Go.Proofs.YtjdckepbihcgfaaGreatDoor
