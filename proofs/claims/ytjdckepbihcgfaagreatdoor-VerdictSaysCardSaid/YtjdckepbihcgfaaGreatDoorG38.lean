/- Lemmas for the walks (VdP, VdQ, Vd0, VdE, Vd1, VdB, Vd2). No condition. -/
import Derived.Test.YtjdckepbihcgfaaGreatDoorG37
import Derived.Test.YtjdckepbihcgfaaGreatDoorG30
import Derived.Test.YtjdckepbihcgfaaGreatDoorG31
set_option linter.unusedSimpArgs false
set_option linter.unusedVariables false
set_option linter.unusedSectionVars false
set_option linter.unnecessarySimpa false
set_option maxRecDepth 100000
set_option maxHeartbeats 8000000
namespace Go.Proofs.YtjdckepbihcgfaaGreatDoor
section
open Go.RowKit Go.Lib
theorem Q0VdP{p R:Prop}(r:R)(h:Rest R→p:=by intro r;(first|with_reducible (first|apply zcE|apply za9|apply zba|apply zbd|apply zbe)|((with_reducible (first|apply zaN|apply zaO));exact rfl;exact rfl;(with_reducible exact rfl)));(first|((with_reducible apply za1);exact rfl;exact Lds.rd1 (enc:=Pt.enc) hA hbF hkl (by rw[←hp];rfl))|((with_reducible apply QS_assertS);exact rfl)|((with_reducible apply QS_assertSN);exact rfl;(simp only[Pt.ty];decide))|((with_reducible apply QS_assertI);exact rfl)|((with_reducible apply QS_assertIN);exact rfl;(simp only[Pt.ty];decide))|((with_reducible apply QS_assertE);exact rfl)|exact QS.auto);exact rfl;exact r.out):p:=h ⟨r⟩
instance vdBldIn:BldIn 63:=⟨by kernel_rfl,by decide⟩
instance vdPlainS:PlainT Tryz.prog 9:=⟨fun v w=>by simp[Instr.makeInterface,run_underlying Tryz.underlying9]⟩
instance vdPlainI:PlainT Tryz.prog 3:=⟨fun v w=>by simp[Instr.makeInterface,run_underlying Tryz.underlying3]⟩
instance vdPlainE:PlainT Tryz.prog 27:=⟨fun v w=>by simp[Instr.makeInterface,run_underlying Tryz.underlying27]⟩
def lnB(ws:List Bs):Bs:=zby 32 ws++[10]
inductive Pt where
 |str (s:Bs)
 |int (n:Int)
 |err (n:Int)
def Pt.ty:Pt→Nat
 |.str _=>9
 |.int _=>3
 |.err _=>27
def Pt.raw:Pt→Value
 |.str s=>bsv s
 |.int n=>.int .i64 n
 |.err n=>.int .i64 n
def Pt.enc(p:Pt):List Value:=[.iface p.ty p.raw]
def Pt.word:Pt→Bs
 |.str s=>s
 |.int n=>itoa n
 |.err n=>itoa n
def Pt.ok:Pt→Prop
 |.str s=>s.length≤100
 |.int n=>-1000000≤n∧n≤1000000
 |.err n=>-1000000≤n∧n≤1000000
theorem Pt.word_len{p:Pt}(h:p.ok):p.word.length≤100:=by
 cases p with
 |str s=>exact h
 |int n=>have:=zaJ h;show(itoa n).length≤100;omega
 |err n=>have:=zaJ h;show(itoa n).length≤100;omega
section
variable {C:Ctx}{E:zaE}{S:List Ent}{ty s u:Nat}{x:Operand}{v:Value} 
theorem QS_assertS(hx:evo E x=some (.iface 9 v)):QS Tryz.prog C E S (.typeAssert x s 9 true) ty (.tuple #[v,.bool true]) :=
 QS.of (fun a w ha _=>by simp[execOp,ha.evo hx,Instr.typeAssert,run_underlying Tryz.underlying9])
theorem QS_assertSN(hx:evo E x=some (.iface u v))(hu:u≠9):QS Tryz.prog C E S (.typeAssert x s 9 true) ty (.tuple #[bsv [],.bool false]) :=
 QS.of (fun a w ha _=>by simp[execOp,ha.evo hx,Instr.typeAssert,run_underlying Tryz.underlying9,hu,Tryz.zeroValue9];rfl)
theorem QS_assertI(hx:evo E x=some (.iface 3 v)):QS Tryz.prog C E S (.typeAssert x s 3 true) ty (.tuple #[v,.bool true]) :=
 QS.of (fun a w ha _=>by simp[execOp,ha.evo hx,Instr.typeAssert,run_underlying Tryz.underlying3])
theorem QS_assertIN(hx:evo E x=some (.iface u v))(hu:u≠3):QS Tryz.prog C E S (.typeAssert x s 3 true) ty (.tuple #[.int .i64 0,.bool false]) :=
 QS.of (fun a w ha _=>by simp[execOp,ha.evo hx,Instr.typeAssert,run_underlying Tryz.underlying3,hu,Tryz.zeroValue3])
theorem QS_assertE(hx:evo E x=some (.iface 27 v)):QS Tryz.prog C E S (.typeAssert x s 27 true) ty (.tuple #[v,.bool true]) :=
 QS.of (fun a w ha _=>by simp[execOp,ha.evo hx,Instr.typeAssert,run_underlying Tryz.underlying27])
end
def zeg(F:List Nat):Prop:=1∉F∧3∉F∧6∉F∧7∉F
theorem zhb{F:List Nat}{w w':World}{g k:Nat}{v:Value}(hk:Keeps F w w')(hg:g∉F)(h:w.cell? ⟨g,k,none⟩=some v):w'.cell? ⟨g,k,none⟩=some v:=by
 have hl:=ziX h
 unfold World.cell? at h ⊢
 dsimp only at h ⊢
 rw[hk.block g hl hg];exact h
theorem pow_at : Program.globalNamed Tryz.prog "internal/strconv.uint64pow10" = some 3 := by kernel_rfl
theorem pow_lt{w:World}(h:TxW w):3<w.heap.size:=by
 have h:=h.pow
 unfold TabIs World.var? at h
 rw[pow_at,Option.bind_some] at h
 rcases Nat.lt_or_ge 3 w.heap.size with h1|h1
 ·exact h1
 ·rw[Array.getElem?_eq_none h1] at h;cases h
theorem TxW.keeps{F:List Nat}{w w':World}(h:TxW w)(hk:Keeps F w w')(hF:zeg F):TxW w':=by
 have hpl:=pow_lt h
 obtain⟨⟨m,h1⟩,h2,⟨e1,h4,h5⟩,⟨e2,h6,h7⟩⟩:=h
 refine⟨⟨m,zhb hk hF.1 h1⟩,?_,⟨e1,zhb hk hF.2.2.1 h4,h5⟩,⟨e2,zhb hk hF.2.2.2 h6,h7⟩⟩
 unfold TabIs World.var? at h2 ⊢
 rw[pow_at,Option.bind_some] at h2 ⊢
 rw[hk.block _ hpl hF.2.1];exact h2
theorem zbX{C:Ctx}{w:World}{S R:List Ent}(hT:TxW C.w0)(hF:zeg C.F)(hw:Mem C w (S++R)):zeg (zbb S):=by
 have hpl:=pow_lt hT
 obtain⟨⟨m,h1⟩,h2,⟨e1,h4,h5⟩,⟨e2,h6,h7⟩⟩:=hT
 have key:∀g,g<C.w0.heap.size→g∉C.F→g∉zbb S:=fun g hg hgF hm=>by
  obtain⟨e,he,hg2⟩:=zcd.1 hm
  rcases((hw.holds e (List.mem_append_left _ he)).2 g hg2).2 with h|h
  ·exact hgF h
  ·omega
 exact⟨key _ (ziX h1) hF.1,key _ hpl hF.2.1,key _ (ziX h4) hF.2.2.1,key _ (ziX h6) hF.2.2.2⟩
theorem zaQ:zeg []:=⟨by simp,by simp,by simp,by simp⟩
def zcn(ps:List Pt)(k:Nat):Bs:=zby 32 ((ps.take k).map Pt.word)
theorem joinL_snoc(c:UInt8):∀(ws:List Bs) (w:Bs),zby c (ws++[w])=if ws=[] then w else zby c ws++[c]++w
 |[],w=>rfl
 |[x],w=>by simp[zby]
 |x::y::r,w=>by
  rw[if_neg Zj,List.cons_append,List.cons_append,zby,zby,←List.cons_append,joinL_snoc c (y::r) w,if_neg Zj]
  simp
theorem zhM{ps:List Pt}{k:Nat}(hk:k<ps.length):zcn ps (k+1)=if k=0 then ps[k].word else zcn ps k++[32]++ps[k].word:=by
 unfold zcn
 rw[List.take_succ_eq_append_getElem hk,List.map_append,List.map_cons,List.map_nil,joinL_snoc]
 by_cases e:k=0
 ·subst e;rfl
 ·rw[if_neg e,if_neg]
  intro h
  have:=congrArg List.length h
  rw[List.length_map,List.length_take,List.length_nil] at this
  omega
theorem zjc{ps:List Pt}(hok:∀p∈ps,p.ok):∀k,k≤ps.length→(zcn ps k).length≤k * 101
 |0,_=>by simp[zcn,zby]
 |k+1,hk=>by
  have ih:=zjc hok k Zo
  have:=Pt.word_len (hok ps[k] (List.getElem_mem _))
  rw[zhM (show k<ps.length by omega)]
  split
  ·omega
  ·simp only[List.length_append,List.length_cons,List.length_nil];omega
section
variable (b cx:Nat)(Ax:Option Addr)(l:Bs)(A:Option Addr)(c:Nat)(ps:List Pt)(W:World)(hT:TxW W)(hoff:zeg (zbb [zao 63 5 b Ax cx l]))(hl:l.length≤200000)(hn:ps.length≤1100)(hok:∀p∈ps,p.ok)(hA:RdE Pt.enc 1 W A ps)(haw:∀b' o,A=some ⟨b',o,none⟩→b'∉zbb [zao 63 5 b Ax cx l])(n0:Nat)(hm:Mem ⟨n0,zbb [zao 63 5 b Ax cx l],W⟩ W [zao 63 5 b Ax cx l]) 
include hT hoff hl hn hok hA haw hm
theorem line_mem:Calls Tryz.prog 24 #[.pointer (some ⟨b,0,none⟩),.slice A ps.length c] W fun e w'=>∃x:Option Addr×Nat,e=.returned (.tuple #[])∧Mem ⟨0,zbb [zao 63 5 b Ax cx l],W⟩ w' [zao 63 5 b x.1 x.2 (l++lnB (ps.map Pt.word))]:=by
 obtain⟨F,hF⟩:∃F,F=zbb [zao 63 5 b Ax cx l]:=⟨_,rfl⟩
 rw[←hF] at hoff haw hm ⊢
 clear hF
 refine zaj (S:=[zao 63 5 b Ax cx l]) F Tryz.func24 rfl Tryz.ntmps24 Zj (hm.anyN _) ?_
 repeat' (first|refine Q0VdP ?_|refine Zha ?_|(refine Zhb ?_;intro g)|(refine Zg ?_ ?_<;>(intro h;try exact Zx))|refine GOF ?_ ?_|fail)
 refine zap (X:=Nat×Option Addr×Nat) (fun x=>[(11,.int .i64 (x.1:Nat)),(10,.int .i64 ps.length),(9,.slice A ps.length c),(0,.pointer (some ⟨b,0,none⟩))]) (fun x=>[zao 63 5 b x.2.1 x.2.2 (l++zcn ps x.1)])
  (fun x=>x.1≤ps.length) (fun x=>ps.length-x.1) (0,Ax,cx) (by(try dsimp only);omega) (by(try dsimp only);exact Ze) (fun w' hw=>by(try dsimp only);rw[show zcn ps 0=[] from rfl,List.append_nil];exact hw.sel Zl) ?_
 clear hm
 rintro⟨k,Aq,cq⟩ hk
 dsimp only at hk ⊢
 have hwl:=zjc hok k hk
 have hwl2:k * 101≤1100 * 101:=Nat.mul_le_mul_right _ Zo
 by_cases hkl:k<ps.length
 ·have hws:=zhM hkl
  have hpo:=hok ps[k] (List.getElem_mem _)
  have hpl:=Pt.word_len hpo
  obtain⟨ba,o,rfl,_⟩:=RdE.open hA Zo
  have hbF:ba∉F:=haw ba o rfl
  obtain⟨p,hp⟩:∃p,p=ps[k]:=⟨_,rfl⟩
  rw[←hp] at hws hpo hpl
  have hL0:k=0→zcn ps k=[]:=by rintro rfl;rfl
  generalize zcn ps k=L at *
  cases p with
  |str s =>
   have hpl:s.length≤100:=hpl
   replace hws:zcn ps (k+1)=if k=0 then s else L++[32]++s:=hws
   repeat' (first|refine Q0VdP ?_|refine Zha ?_|(refine Zhb ?_;intro g)|(refine Zg ?_ ?_<;>(intro h;try exact Zx))|refine GOF ?_ ?_|((with_reducible (first|apply zaa|apply TD_e3z|apply zan|apply zaf|apply zae));((with_reducible apply zar (f:=57) (X:=Option Addr×Nat) (S1:=[zao 63 5 b _ _ _]) (fun _=>.tuple #[.int .i64 (List.length _),.nilIface]) (fun x=>[zao 63 5 b x.1 x.2 (_++_)]));exact rfl;exact Zp;(intro x;(try dsimp only);exact Za);(intro w hw;exact zfh _ _ (by(try simp only[List.length_append,List.length_cons,List.length_nil]);omega) b _ _ w (hw.holds _ List.mem_cons_self).1);exact rfl);exact Zh;(rintro _ _ ⟨⟨Ax,cx⟩,rfl,rfl⟩);(try refine⟨SUB,?_⟩))|((with_reducible apply zam (id:=11) 5 (OT.seq [(0,0),(0,1),(0,2),(0,3),(2,4),(3,5)] .nil));kernel_rfl;exact rfl;kernel_rfl;exact Zd)|((with_reducible apply zam (id:=14) 5 (OT.seq [(0,0),(0,1),(0,2),(0,3),(2,4),(3,5)] .nil));kernel_rfl;exact rfl;kernel_rfl;exact Zd)|fail)
   all_goals first|(exfalso;contradiction)|skip
   all_goals
    apply zab (k+1,Ax,cx)
    (case hE=>(try dsimp only);exact Ze)
    (case hS=>(try dsimp only);rw[hws];first|(rw[if_neg Zo];simp only[List.append_assoc];exact fun w' hw=>hw.sel Zl)|(rw[if_pos Zo,hL0 Zo];simp only[List.append_assoc,List.nil_append];exact fun w' hw=>hw.sel Zl))
    (case hμ=>(try dsimp only);omega)
    (case hp=>(try dsimp only);omega)
  |int n =>
   have hpl:(itoa n).length≤100:=hpl
   obtain⟨hn0,hn1⟩:=hpo
   replace hws:zcn ps (k+1)=if k=0 then itoa n else L++[32]++itoa n:=hws
   repeat' (first|refine Q0VdP ?_|refine Zha ?_|(refine Zhb ?_;intro g)|(refine Zg ?_ ?_<;>(intro h;try exact Zx))|refine GOF ?_ ?_|((with_reducible (first|apply zaa|apply TD_e3z|apply zan|apply zaf|apply zae));((with_reducible apply zar (f:=57) (X:=Option Addr×Nat) (S1:=[zao 63 5 b _ _ _]) (fun _=>.tuple #[.int .i64 (List.length _),.nilIface]) (fun x=>[zao 63 5 b x.1 x.2 (_++_)]));exact rfl;exact Zp;(intro x;(try dsimp only);exact Za);(intro w hw;exact zfh _ _ (by(try simp only[List.length_append,List.length_cons,List.length_nil]);omega) b _ _ w (hw.holds _ List.mem_cons_self).1);exact rfl);exact Zh;(rintro _ _ ⟨⟨Ax,cx⟩,rfl,rfl⟩);(try refine⟨SUB,?_⟩))|((with_reducible (first|apply zaa|apply TD_e3z|apply zan|apply zaf|apply zae));((with_reducible apply zad (f:=58));exact rfl;(intro w hw;exact itoa_any n w Zo Zo (hT.keeps hw.keeps hoff));exact rfl);exact Zh;(rintro _ _ ⟨rfl,rfl⟩);(try refine⟨SUB,?_⟩))|((with_reducible apply zam (id:=11) 5 (OT.seq [(0,0),(0,1),(0,2),(0,3),(2,4),(3,5)] .nil));kernel_rfl;exact rfl;kernel_rfl;exact Zd)|((with_reducible apply zam (id:=14) 5 (OT.seq [(0,0),(0,1),(0,2),(0,3),(2,4),(3,5)] .nil));kernel_rfl;exact rfl;kernel_rfl;exact Zd)|fail)
   all_goals first|(exfalso;contradiction)|skip
   all_goals
    apply zab (k+1,Ax,cx)
    (case hE=>(try dsimp only);exact Ze)
    (case hS=>(try dsimp only);rw[hws];first|(rw[if_neg Zo];simp only[List.append_assoc];exact fun w' hw=>hw.sel Zl)|(rw[if_pos Zo,hL0 Zo];simp only[List.append_assoc,List.nil_append];exact fun w' hw=>hw.sel Zl))
    (case hμ=>(try dsimp only);omega)
    (case hp=>(try dsimp only);omega)
  |err n =>
   have hpl:(itoa n).length≤100:=hpl
   obtain⟨hn0,hn1⟩:=hpo
   replace hws:zcn ps (k+1)=if k=0 then itoa n else L++[32]++itoa n:=hws
   repeat' (first|refine Q0VdP ?_|refine Zha ?_|(refine Zhb ?_;intro g)|(refine Zg ?_ ?_<;>(intro h;try exact Zx))|refine GOF ?_ ?_|((with_reducible (first|apply zaa|apply TD_e3z|apply zan|apply zaf|apply zae));((with_reducible apply zar (f:=57) (X:=Option Addr×Nat) (S1:=[zao 63 5 b _ _ _]) (fun _=>.tuple #[.int .i64 (List.length _),.nilIface]) (fun x=>[zao 63 5 b x.1 x.2 (_++_)]));exact rfl;exact Zp;(intro x;(try dsimp only);exact Za);(intro w hw;exact zfh _ _ (by(try simp only[List.length_append,List.length_cons,List.length_nil]);omega) b _ _ w (hw.holds _ List.mem_cons_self).1);exact rfl);exact Zh;(rintro _ _ ⟨⟨Ax,cx⟩,rfl,rfl⟩);(try refine⟨SUB,?_⟩))|((with_reducible (first|apply zaa|apply TD_e3z|apply zan|apply zaf|apply zae));((with_reducible apply zad (f:=58));exact rfl;(intro w hw;exact itoa_any n w Zo Zo (hT.keeps hw.keeps hoff));exact rfl);exact Zh;(rintro _ _ ⟨rfl,rfl⟩);(try refine⟨SUB,?_⟩))|((with_reducible apply zam (id:=11) 5 (OT.seq [(0,0),(0,1),(0,2),(0,3),(2,4),(3,5)] .nil));kernel_rfl;exact rfl;kernel_rfl;exact Zd)|((with_reducible apply zam (id:=14) 5 (OT.seq [(0,0),(0,1),(0,2),(0,3),(2,4),(3,5)] .nil));kernel_rfl;exact rfl;kernel_rfl;exact Zd)|fail)
   all_goals first|(exfalso;contradiction)|skip
   all_goals
    apply zab (k+1,Ax,cx)
    (case hE=>(try dsimp only);exact Ze)
    (case hS=>(try dsimp only);rw[hws];first|(rw[if_neg Zo];simp only[List.append_assoc];exact fun w' hw=>hw.sel Zl)|(rw[if_pos Zo,hL0 Zo];simp only[List.append_assoc,List.nil_append];exact fun w' hw=>hw.sel Zl))
    (case hμ=>(try dsimp only);omega)
    (case hp=>(try dsimp only);omega)
 ·obtain rfl:k=ps.length:=by omega
  have hall:zcn ps ps.length=zby 32 (ps.map Pt.word):=by unfold zcn;rw[List.take_length]
  rw[hall] at hwl ⊢
  repeat' (first|refine Q0VdP ?_|refine Zha ?_|(refine Zhb ?_;intro g)|(refine Zg ?_ ?_<;>(intro h;try exact Zx))|refine GOF ?_ ?_|((with_reducible (first|apply zaa|apply TD_e3z|apply zan|apply zaf|apply zae));((with_reducible apply zar (f:=57) (X:=Option Addr×Nat) (S1:=[zao 63 5 b _ _ _]) (fun _=>.tuple #[.int .i64 (List.length _),.nilIface]) (fun x=>[zao 63 5 b x.1 x.2 (_++_)]));exact rfl;exact Zp;(intro x;(try dsimp only);exact Za);(intro w hw;exact zfh _ _ (by(try simp only[List.length_append,List.length_cons,List.length_nil]);omega) b _ _ w (hw.holds _ List.mem_cons_self).1);exact rfl);exact Zh;(rintro _ _ ⟨⟨Ax,cx⟩,rfl,rfl⟩);(try refine⟨SUB,?_⟩))|fail)
  all_goals first|(exfalso;omega)|skip
  (refine zc4 Tryz.results24 rfl (fun w' hw=>?_))
  refine⟨(Ax,cx),rfl,?_⟩
  unfold lnB
  rw[List.append_assoc] at hw
  exact(hw.anyN 0).sel Zl
end
end
section
open Go.RowKit Go.Lib
theorem zbg{s:Bs}(h:s.length≤100):(Pt.str s).ok:=h
theorem zbY:∀p∈([]:List Pt),p.ok:=fun p h=>by cases h
theorem zaC{p:Pt}{ps:List Pt}(h:p.ok)(hs:∀q∈ps,q.ok):∀q∈p::ps,q.ok:=fun q hq=>by
 rcases List.mem_cons.1 hq with rfl|hq
 ·exact h
 ·exact hs q hq
theorem apart_of{C:Ctx}{w:World}{S R:List Ent}{e:Ent}{A:Option Addr}(hw:Mem C w (S++R))(he:e∈R)(h:∀b o,A=some ⟨b,o,none⟩→e.has b):∀b o,A=some ⟨b,o,none⟩→b∉zbb S:=fun b o hA hm=>by
 obtain⟨e1,he1,hg⟩:=zcd.1 hm
 exact(List.pairwise_append.1 hw.apart).2.2 e1 he1 e he b hg (h b o hA)
section
variable (C:Ctx)(R:List Ent)(w:World)(b cx:Nat)(Ax:Option Addr)(l:Bs)(ps:List Pt) 
variable (hw:Mem C w ([zao 63 5 b Ax cx l]++R))(hT:TxW C.w0)(hoff:zeg C.F)(hl:l.length≤200000)(hn:ps.length≤1100)(hok:∀p∈ps,p.ok) 
include hw hT hoff hl hn hok
theorem line_own(A:Option Addr)(c:Nat)(he:zac Pt.enc 1 20 A c ps∈R):Calls Tryz.prog 24 #[.pointer (some ⟨b,0,none⟩),.slice A ps.length c] w fun e w'=>∃x:Option Addr×Nat,e=.returned (.tuple #[])∧Mem ⟨0,zbb [zao 63 5 b Ax cx l],w⟩ w' [zao 63 5 b x.1 x.2 (l++lnB (ps.map Pt.word))]:=by
 refine line_mem b cx Ax l A c ps w (hT.keeps hw.keeps hoff) (zbX hT hoff hw) hl hn hok (hw.ownRd (et:=20) (c:=c) (List.mem_append_right _ he) (fun _=>rfl)) (apart_of hw he fun b o e=>?_) 0 (hw.self 0)
 show(Value.slice A ps.length c).ownBlock=some b
 rw[e];rfl
theorem zcF(gp k:Nat)(cs:Array Value)(he:zak gp 20 cs∈R)(hcs:cs=(ps.flatMap Pt.enc).toArray):Calls Tryz.prog 24 #[.pointer (some ⟨b,0,none⟩),.slice (some ⟨gp,0,none⟩) ps.length k] w fun e w'=>∃x:Option Addr×Nat,e=.returned (.tuple #[])∧Mem ⟨0,zbb [zao 63 5 b Ax cx l],w⟩ w' [zao 63 5 b x.1 x.2 (l++lnB (ps.map Pt.word))]:=by
 refine line_mem b cx Ax l (some ⟨gp,0,none⟩) k ps w (hT.keeps hw.keeps hoff) (zbX hT hoff hw) hl hn hok ?_ (apart_of hw he fun b o e=>?_) 0 (hw.self 0)
 ·have hb:Blk w gp 20 cs:=hw.theBlk (List.mem_append_right _ he)
  intro j x hj
  have hjl:j<ps.length:=(List.getElem?_eq_some_iff.1 hj).1
  have hflat:∀(qs:List Pt) (j:Nat) (x:Pt),qs[j]?=some x→(qs.flatMap Pt.enc)[j]?=some (.iface x.ty x.raw):=by
   intro qs
   induction qs with
   |nil=>intro j x h;simp at h
   |cons q qs ih =>
    intro j x h
    cases j with
    |zero=>simp at h;subst h;rfl
    |succ j=>simp at h;exact ih j x (by simpa using h)
  refine⟨gp,0,rfl,hb.lt,fun k v hk=>?_⟩
  have hk0:k=0∧v=.iface x.ty x.raw:=by
   match k,hk with
   |0,hk=>exact⟨rfl,(Option.some.inj hk).symm⟩
   |k+1,hk=>simp[Pt.enc] at hk
  obtain⟨rfl,rfl⟩:=hk0
  have:=hb.cell j
  rw[hcs,List.getElem?_toArray,hflat ps j x hj] at this
  simpa using this
 ·cases e;exact rfl
end
end
section
open Go.RowKit Go.Lib
def wError:Bs:=[101,114,114,111,114]
def zcw:Bs:=[99,97,108,108,115]
def zje:Bs:=[116,105,109,101]
def zdb:Bs:=[112,101,111,112,108,101]
def wCalm:Bs:=[99,97,108,109]
def wBad:Bs:=[98,97,100]
def wNone:Bs:=[110,111,110,101]
def ynB(b:Bool):Bs:=if b=true then[121] else[110]
def zgQ(ok:Bool)(b:Bd)(e:Int):Bs:=if e≠0 then lnB [wBad,wError,itoa e] else if ok=true then lnB [wBad,wNone] else lnB [wBad,itoa b.kind,itoa b.a,itoa b.b]
def smI(n:Int):Prop:=-1000000≤n∧n≤1000000
structure Bd.Sm (b:Bd):Prop where
 kind:smI b.kind
 a:smI b.a
 b:smI b.b
end
section
open Go.RowKit Go.Lib
theorem Q0VdE{p R:Prop}(r:R)(h:Rest R→p:=by intro r;(first|with_reducible (first|apply zcE|apply za9|apply zba|apply zbd|apply zbe)|((with_reducible (first|apply zaN|apply zaO));exact rfl;exact rfl;(with_reducible exact rfl)));(first|((with_reducible apply zbc);exact rfl)|exact QS.auto);exact rfl;exact r.out):p:=h ⟨r⟩
theorem yes_any(is:Bool)(w:World):Calls Tryz.prog 59 #[.bool is] w fun e w'=>e=.returned (bsv (ynB is))∧Below w.heap.size w w':=by
 refine zaj (S:=[]) [] Tryz.func59 rfl Tryz.ntmps59 Zj (Mem.nil _) ?_
 cases is with
 |true =>
  repeat' (first|refine Q0VdE ?_|refine Zga ?_|(refine Zgb ?_;intro g)|(refine Zg ?_ ?_<;>(intro h;try exact Zx))|fail)
  all_goals((refine zah Tryz.results59 rfl (fun w' hw=>?_));exact⟨rfl,hw.below0 rfl⟩)
 |false =>
  repeat' (first|refine Q0VdE ?_|refine Zga ?_|(refine Zgb ?_;intro g)|(refine Zg ?_ ?_<;>(intro h;try exact Zx))|fail)
  all_goals((refine zah Tryz.results59 rfl (fun w' hw=>?_));exact⟨rfl,hw.below0 rfl⟩)
section
variable (b cx:Nat)(Ax:Option Addr)(l:Bs)(W:World)(hT:TxW W)(hoff:zeg (zbb [zao 63 5 b Ax cx l]))(hl:l.length≤20000)(n0:Nat)(hm:Mem ⟨n0,zbb [zao 63 5 b Ax cx l],W⟩ W [zao 63 5 b Ax cx l]) 
include hT hoff hl hm
theorem bad_mem(ok:Bool)(bd:Bd)(er:Int)(hb:bd.Sm)(he:smI er):Calls Tryz.prog 60 #[.pointer (some ⟨b,0,none⟩),.bool ok,.agg (Bd.enc bd).toArray,.int .i64 er] W fun e w'=>∃x:Option Addr×Nat,e=.returned (.tuple #[])∧Mem ⟨0,zbb [zao 63 5 b Ax cx l],W⟩ w' [zao 63 5 b x.1 x.2 (l++zgQ ok bd er)]:=by
 obtain⟨F,hF⟩:∃F,F=zbb [zao 63 5 b Ax cx l]:=⟨_,rfl⟩
 rw[←hF] at hoff hm ⊢
 clear hF
 obtain⟨kd,a1,a2⟩:=bd
 obtain⟨hb1,hb2,hb3⟩:=hb
 refine zaj (S:=[zao 63 5 b Ax cx l]) F Tryz.func60 rfl Tryz.ntmps60 Zj (hm.anyN _) ?_
 by_cases h0:er=0
 ·subst h0
  cases ok with
  |true =>
   rw[show zgQ true ⟨kd,a1,a2⟩ 0=lnB (([Pt.str wBad,Pt.str wNone]:List Pt).map Pt.word) by unfold zgQ;rw[if_neg Zi,if_pos rfl];rfl]
   repeat' (first|refine Q0VdE ?_|refine Zha ?_|(refine Zhb ?_;intro g)|(refine Zg ?_ ?_<;>(intro h;try exact Zx))|refine GOF ?_ ?_|((with_reducible (first|apply zaa|apply TD_e3z|apply zan|apply zaf|apply zae));((with_reducible apply zar (f:=24) (X:=Option Addr×Nat) (S1:=[zao 63 5 b _ _ _]) (fun _=>.tuple #[]) (fun x=>[zao 63 5 b x.1 x.2 (_++lnB (([Pt.str wBad,Pt.str wNone]:List Pt).map Pt.word))]));exact rfl;exact Zp;(intro x;(try dsimp only);exact Za);(intro w hw;exact zcF _ _ w b _ _ _ [Pt.str wBad,Pt.str wNone] hw hT hoff (by(try simp only[List.length_append,List.length_cons,List.length_nil]);omega) (by simp only[List.length_cons,List.length_nil];omega) (zaC (p:=Pt.str wBad) (zbg Zi) (zaC (p:=Pt.str wNone) (zbg Zi) zbY)) _ _ _ Zm rfl);exact rfl);exact Zh;(rintro _ _ ⟨⟨Ax,cx⟩,rfl,rfl⟩);(try refine⟨SUB,?_⟩))|fail)
   all_goals first|(exfalso;contradiction)|skip
   all_goals
    (refine zc4 Tryz.results60 rfl (fun w' hw=>?_))
    exact⟨(Ax,cx),rfl,(hw.anyN 0).sel Zl⟩
  |false =>
   rw[show zgQ false ⟨kd,a1,a2⟩ 0=lnB (([Pt.str wBad,Pt.int kd,Pt.int a1,Pt.int a2]:List Pt).map Pt.word) by unfold zgQ;rw[if_neg Zi,if_neg Zi];rfl]
   repeat' (first|refine Q0VdE ?_|refine Zha ?_|(refine Zhb ?_;intro g)|(refine Zg ?_ ?_<;>(intro h;try exact Zx))|refine GOF ?_ ?_|((with_reducible (first|apply zaa|apply TD_e3z|apply zan|apply zaf|apply zae));((with_reducible apply zar (f:=24) (X:=Option Addr×Nat) (S1:=[zao 63 5 b _ _ _]) (fun _=>.tuple #[]) (fun x=>[zao 63 5 b x.1 x.2 (_++lnB (([Pt.str wBad,Pt.int kd,Pt.int a1,Pt.int a2]:List Pt).map Pt.word))]));exact rfl;exact Zp;(intro x;(try dsimp only);exact Za);(intro w hw;exact zcF _ _ w b _ _ _ [Pt.str wBad,Pt.int kd,Pt.int a1,Pt.int a2] hw hT hoff (by(try simp only[List.length_append,List.length_cons,List.length_nil]);omega) (by simp only[List.length_cons,List.length_nil];omega) (zaC (p:=Pt.str wBad) (zbg Zi) (zaC (p:=Pt.int kd) hb1 (zaC (p:=Pt.int a1) hb2 (zaC (p:=Pt.int a2) hb3 zbY)))) _ _ _ Zm rfl);exact rfl);exact Zh;(rintro _ _ ⟨⟨Ax,cx⟩,rfl,rfl⟩);(try refine⟨SUB,?_⟩))|fail)
   all_goals first|(exfalso;contradiction)|skip
   all_goals
    (refine zc4 Tryz.results60 rfl (fun w' hw=>?_))
    exact⟨(Ax,cx),rfl,(hw.anyN 0).sel Zl⟩
 ·have hbb:zgQ ok ⟨kd,a1,a2⟩ er=lnB (([Pt.str wBad,Pt.str wError,Pt.err er]:List Pt).map Pt.word):=if_pos h0
  rw[hbb]
  repeat' (first|refine Q0VdE ?_|refine Zha ?_|(refine Zhb ?_;intro g)|(refine Zg ?_ ?_<;>(intro h;try exact Zx))|refine GOF ?_ ?_|((with_reducible (first|apply zaa|apply TD_e3z|apply zan|apply zaf|apply zae));((with_reducible apply zar (f:=24) (X:=Option Addr×Nat) (S1:=[zao 63 5 b _ _ _]) (fun _=>.tuple #[]) (fun x=>[zao 63 5 b x.1 x.2 (_++lnB (([Pt.str wBad,Pt.str wError,Pt.err er]:List Pt).map Pt.word))]));exact rfl;exact Zp;(intro x;(try dsimp only);exact Za);(intro w hw;exact zcF _ _ w b _ _ _ [Pt.str wBad,Pt.str wError,Pt.err er] hw hT hoff (by(try simp only[List.length_append,List.length_cons,List.length_nil]);omega) (by simp only[List.length_cons,List.length_nil];omega) (zaC (p:=Pt.str wBad) (zbg Zi) (zaC (p:=Pt.str wError) (zbg Zi) (zaC (p:=Pt.err er) he zbY))) _ _ _ Zm rfl);exact rfl);exact Zh;(rintro _ _ ⟨⟨Ax,cx⟩,rfl,rfl⟩);(try refine⟨SUB,?_⟩))|fail)
  all_goals first|(exfalso;contradiction)|skip
  all_goals
   (refine zc4 Tryz.results60 rfl (fun w' hw=>?_))
   exact⟨(Ax,cx),rfl,(hw.anyN 0).sel Zl⟩
end
end
section
open Go.RowKit Go.Lib
def setB(bs:List Int)(e:Int):Bs:=lnB (wBad::((if e≠0 then[wError,itoa e] else if bs=[] then[wNone] else[])++bs.map itoa))
def zbU(t:Int)(l:List Ev):Bs :=
 if t=1 then zgQ (decide ((zaY l).2=0)&&decide ((zcV l).kind=0)) (zcV l) (zaY l).2
 else if t=2 then zgQ (rwC l).1 (rwC l).2.1 (rwC l).2.2
 else if t=5 then zgQ (tkR l).1 (tkR l).2.1 (tkR l).2.2
 else if t=4 then setB (bcR l) (bcE l)
 else[]
def zjR(w:List Stp):List Bs:=w.flatMap fun s=>[itoa s.call,itoa s.res]
def witB(ts:List Int)(l:List Ev):Bs :=
 lnB (zje::ynB (zbE ts l zax).isSome::zjR ((zbE ts l zax).getD []))++lnB [zdb,ynB (zbE ts l zaX).isSome]++lnB [wCalm,ynB (zbE ts l zbw).isSome]
def verdB(s:Bs):Bs :=
 if(zbx s).2.2.2≠0 then lnB [wError,itoa (zbx s).2.2.2,itoa (zbx s).2.2.1]
 else lnB [zcw,itoa (zai (zbx s).1 (zbx s).2.1).1.length]++(if(zai (zbx s).1 (zbx s).2.1).1.length≤9 then witB (zbx s).1 (zbx s).2.1 else[]) ++
  (if(zbx s).1.length=1 then zbU ((zbx s).1.getD 0 0) (zbx s).2.1 else[])
end
section
open Go.RowKit
theorem zbH:Bd.Sm ⟨0,0,0⟩:=⟨⟨by decide,by decide⟩,⟨by decide,by decide⟩,⟨by decide,by decide⟩⟩
theorem zid{k a b:Int}(hk:smI k)(ha:smI a)(hb:smI b):Bd.Sm ⟨k,a,b⟩:=⟨hk,ha,hb⟩
theorem ixN_rng(n:Nat)(P:Nat→Bool):-1≤ixN n P∧ixN n P≤n:=by
 unfold ixN
 split
 ·rename_i k h
  have:=(za3 h).1
  omega
 ·omega
theorem sm_ix{n:Nat}(P:Nat→Bool)(h:n≤1000):smI (ixN n P):=by
 have:=ixN_rng n P
 unfold smI;omega
theorem zcU{n:Nat}(h:n≤2000):smI (n:Int):=by unfold smI;omega
theorem zaU{n:Int}(h:0≤n∧n≤10):smI n:=by unfold smI;omega
theorem zon_val{cs:List Cl}{n:Nat}(hn:n≤1001)(i:Nat):smI (zoI (zh8 cs n) i).value:=by
 unfold zoI
 by_cases h:i<(zh8 cs n).length
 ·rw[show(zh8 cs n).getD i default=(zh8 cs n)[i] by simp[h]]
  have hm:=List.getElem_mem h
  generalize (zh8 cs n)[i]=z at hm
  unfold zh8 at hm
  obtain⟨v,hv,hz⟩:=List.mem_filterMap.1 hm
  rw[List.mem_range] at hv
  unfold zonO at hz
  split at hz
  ·rw[←Option.some.inj hz]
   exact zcU (n:=v) Zo
  ·cases hz
 ·rw[show(zh8 cs n).getD i default=default by simp[Nat.le_of_not_lt h]]
  exact zaU ⟨Int.le_refl _,by decide⟩
theorem zones_sm{cs:List Cl}(h:cs.length≤200):(zbP cs).Sm:=by
 have hr:(zck cs).Sm:=by
  unfold zck
  split
  ·rename_i k hk
   have:=(za3 hk).1
   exact zid (zaU Zo) (zcU Zo) (zaU Zo)
  ·unfold zcJ
   split
   ·rename_i k hk
    have:=(za3 hk).1
    exact zid (zaU Zo) (zcU Zo) (sm_ix _ Zo)
   ·exact zbH
 unfold zbP
 split
 ·exact hr
 ·unfold zdj
  split
  ·exact zid (zaU Zo) (zon_val (Nat.le_refl _) _) (zon_val (Nat.le_refl _) _)
  ·split
   ·exact zid (zaU Zo) (zon_val (Nat.le_refl _) _) (zon_val (Nat.le_refl _) _)
   ·exact zbH
theorem rows_sm{cs:List Cl}(h:cs.length≤200):(zcu cs).Sm:=by
 have h1:(zdN cs).Sm:=by
  unfold zdN
  split
  ·rename_i k hk
   have:=(za3 hk).1
   exact zid (zaU Zo) (zcU Zo) (zaU Zo)
  ·exact zbH
 have h2:(tweV cs).Sm:=by
  unfold tweV
  split
  ·rename_i k hk
   have:=(za3 hk).1
   exact zid (zaU Zo) (zcU Zo) (sm_ix _ Zo)
  ·exact zbH
 have h3:(earV cs).Sm:=by
  unfold earV
  split
  ·rename_i k hk
   have:=(za3 hk).1
   exact zid (zaU Zo) (zcU Zo) (sm_ix _ Zo)
  ·exact zbH
 have h4:(fifV cs).Sm:=by
  unfold fifV
  split
  ·rename_i a b hk
   have:=zfK hk
   exact zid (zaU Zo) (zcU Zo) (zcU Zo)
  ·exact zbH
 have h5:(empV cs).Sm:=by
  unfold empV
  split
  ·rename_i k hk
   have:=(za3 hk).1
   exact zid (zaU Zo) (zcU Zo) (zaU Zo)
  ·exact zbH
 unfold zcu
 by_cases c1:(zdN cs).kind≠0
 ·rw[if_pos c1];exact h1
 ·rw[if_neg c1]
  by_cases c2:(tweV cs).kind≠0
  ·rw[if_pos c2];exact h2
  ·rw[if_neg c2]
   by_cases c3:(earV cs).kind≠0
   ·rw[if_pos c3];exact h3
   ·rw[if_neg c3]
    by_cases c4:(fifV cs).kind≠0
    ·rw[if_pos c4];exact h4
    ·rw[if_neg c4];exact h5
theorem miss_le{cs:List Cl}(k:Nat)(h:zib cs≤2000):(zdl cs).getD k 0≤2000:=by
 by_cases hk:k<(zdl cs).length
 ·rw[show(zdl cs).getD k 0=(zdl cs)[k] by simp[hk]]
  have hm:=List.getElem_mem hk
  generalize (zdl cs)[k]=v at hm
  unfold zdl zcK at hm
  have:=List.mem_range.1 (List.mem_filter.1 hm).1
  omega
 ·rw[show(zdl cs).getD k 0=0 by simp[Nat.le_of_not_lt hk]]
  omega
theorem check_sm{cs:List Cl}(h:cs.length≤200)(hn:zib cs≤2000):(zbC cs).Sm:=by
 unfold zbC
 split
 ·rename_i i k hk
  have:=zfK hk
  exact zid (zaU Zo) (zcU Zo) (zcU Zo)
 ·split
  ·rename_i i k hk
   have:=zfK hk
   exact zid (zaU Zo) (zcU Zo) (zcU Zo)
  ·split
   ·rename_i k hk
    exact zid (zaU Zo) (zcU (miss_le k hn)) (zaU Zo)
   ·exact zbH
theorem zcV_sm(l:List Ev):(zcV l).Sm:=by
 unfold zcV
 split
 ·refine zones_sm ?_
  unfold zaY
  repeat' split
  all_goals first|exact zbi _ _|exact Nat.zero_le _
 ·exact zbH
theorem rwC_sm(l:List Ev):(rwC l).2.1.Sm:=by
 unfold rwC
 split
 ·refine rows_sm ?_
  unfold zca
  repeat' split
  all_goals first|exact zbi _ _|exact Nat.zero_le _
 ·exact zbH
theorem tkR_sm(l:List Ev):(tkR l).2.1.Sm:=by
 unfold tkR
 split
 ·rename_i h
  have:=numT_bd (tkOk_of h)
  exact check_sm (zbi _ _) Zo
 ·exact zbH
end
section
open Go.RowKit Go.Lib
theorem evR_er(ts:List Int)(cs:List Cl)(i:Int)(x:Ev):0≤(evR ts cs i x).1∧(evR ts cs i x).1≤7:=by
 unfold evR
 repeat' split
 all_goals(constructor<;>(dsimp only;decide))
theorem ze7(ts:List Int)(l:List Ev):smI (zai ts l).2.2:=by
 unfold zai
 split
 ·show smI (zcl ts)
  unfold zcl
  split<;>exact zaU Zi
 ·split
  ·exact zaU (n:=2) Zi
  ·split
   ·have:=evR_er ts (stR ts l (zey ts l)) (zey ts l) (l.getD (zey ts l) default)
    show smI (erR ts l (zey ts l))
    unfold erR
    exact⟨by omega,by omega⟩
   ·exact zaU (n:=0) Zi
theorem wonce_er(l:List Ev):smI (zaY l).2:=by
 unfold zaY
 repeat' split
 ·exact ze7 _ _
 ·exact zaU (n:=6) Zi
 ·exact zaU (n:=0) Zi
theorem once_er(l:List Ev):smI (zca l).2:=by
 unfold zca
 repeat' split
 ·exact ze7 _ _
 ·exact zaU (n:=6) Zi
 ·exact zaU (n:=0) Zi
theorem rwC_er(l:List Ev):smI (rwC l).2.2:=by
 unfold rwC
 split
 ·exact zaU (n:=0) Zi
 ·exact once_er l
theorem tkR_er(l:List Ev):smI (tkR l).2.2:=by
 unfold tkR
 split
 ·exact zaU (n:=0) Zi
 ·exact ze7 _ _
theorem bcE_er(l:List Ev):smI (bcE l):=by
 unfold bcE
 repeat' split
 ·exact ze7 _ _
 ·exact zaU (n:=2) Zi
 ·exact zaU (n:=0) Zi
theorem bcR_none{l:List Ev}(h:¬bcE l=0):bcR l=[]:=if_neg h
theorem bcR_ok(l:List Ev):(bcR l).length≤1001∧∀x∈bcR l,smI x:=by
 unfold bcR
 split
 ·refine⟨bcL_len _ _,fun x hx=>?_⟩
  unfold bcL at hx
  obtain⟨v,hv,rfl⟩:=List.mem_map.1 hx
  have:=List.mem_range.1 (List.mem_filter.1 hv).1
  exact zcU (n:=v) Zo
 ·simp
theorem readR_bd(s:Bs):smI (zbx s).2.2.1∧smI (zbx s).2.2.2∧(zbx s).1.length≤4∧(zbx s).2.1.length≤8192∧((zbx s).2.2.2=0→(zai (zbx s).1 (zbx s).2.1).2.2=0):=by
 unfold zbx
 by_cases h8:8192<s.length
 ·rw[if_pos h8]
  exact⟨zaU (n:=0) Zi,zaU (n:=2) Zi,Nat.zero_le _,Nat.zero_le _,fun h=>by cases h⟩
 ·rw[if_neg h8]
  have hsl:=zbW 10 s
  have hel:(zfM (zas 10 s) ((zas 10 s).length-1)).length≤8192:=by rw[zgh];omega
  have htl:(zfN (zas 10 s)).length≤4:=by
   unfold zfN
   cases ht:zbj (lnK (zas 10 s) 0) with
   |none=>exact Nat.zero_le _
   |some t=>exact(zg5 ht).1
  generalize zfN (zas 10 s)=K at *
  generalize zfM (zas 10 s) ((zas 10 s).length-1)=E at *
  have hy:=callsR_y K E
  have he:=ze7 K E
  cases hb:zef (zas 10 s) with
  |some i =>
   have hi:i<(zas 10 s).length:=by
    unfold zef at hb
    exact List.mem_range.1 (List.mem_of_find?_eq_some hb)
   exact⟨by show smI (i:Int);unfold smI;omega,zaU (n:=7) Zi,Nat.zero_le _,Nat.zero_le _,fun h=>by cases h⟩
  |none =>
   dsimp only
   split
   ·exact⟨zaU (n:=0) Zi,zaU (n:=2) Zi,Nat.zero_le _,Nat.zero_le _,fun h=>by cases h⟩
   ·split
    ·exact⟨by unfold smI;dsimp only;omega,he,Nat.zero_le _,Nat.zero_le _,fun h=>by rename_i h1;exact absurd h h1⟩
    ·rename_i h1
     exact⟨zaU (n:=0) Zi,zaU (n:=0) Zi,htl,hel,fun _=>by simpa using h1⟩
def nmB:Nat→Bs
 |0=>zje
 |1=>zdb
 |_=>wCalm
def relB:Nat→List Cl→Nat→Nat
 |0=>zax
 |1=>zaX
 |_=>zbw
def stW(w:List Stp):Bs:=w.flatMap fun s=>[32]++itoa s.call++[32]++itoa s.res
def toldL(k:Nat)(o:Option (List Stp)):Bs:=nmB k++match o with
 |none=>[32,110,10]
 |some r=>[32,121]++(if k=0 then stW r else[])++[10]
def zdG(ts:List Int)(cs:List Cl):Nat→Bs
 |0=>[]
 |k+1=>zdG ts cs k++toldL k (zbq ts cs (relB k cs))
theorem zfo(w:Bs):∀ws:List Bs,lnB (w::ws)=w++ws.flatMap (fun x=>32::x)++[10]:=by
 intro ws
 unfold lnB
 have key:∀(ws:List Bs) (w:Bs),zby 32 (w::ws)=w++ws.flatMap (fun x=>32::x):=by
  intro ws
  induction ws with
  |nil=>intro w;simp[zby]
  |cons a r ih=>intro w;rw[zby,ih a,List.flatMap_cons];simp
 rw[key]
theorem stW_flat(r:List Stp):(zjR r).flatMap (fun x=>32::x)=stW r:=by
 induction r with
 |nil=>rfl
 |cons s r ih =>
  unfold stW zjR at ih ⊢
  rw[List.flatMap_cons,List.flatMap_cons,List.flatMap_append,ih];simp
theorem toldL_zero(o:Option (List Stp)):toldL 0 o=lnB (zje::ynB o.isSome::zjR (o.getD [])):=by
 rw[zfo,List.flatMap_cons,stW_flat]
 cases o with
 |none=>rfl
 |some r=>simp[toldL,nmB,ynB,zje]
theorem toldL_one(o:Option (List Stp)):toldL 1 o=lnB [zdb,ynB o.isSome]:=by cases o<;>rfl
theorem toldL_two(o:Option (List Stp)):toldL 2 o=lnB [wCalm,ynB o.isSome]:=by cases o<;>rfl
theorem findS_found{ts:List Int}{l:List Ev}{F:List Cl→Nat→Nat}(h:(zai ts l).2.2=0)(h9:(zai ts l).1.length≤9):zbE ts l F=zbq ts (zai ts l).1 (F (zai ts l).1):=by
 unfold zbE
 rw[zfX h Zo,if_pos rfl]
theorem wit_told{ts:List Int}{l:List Ev}(h:(zai ts l).2.2=0)(h9:(zai ts l).1.length≤9):witB ts l=zdG ts (zai ts l).1 3:=by
 unfold witB
 simp only[findS_found h h9]
 rw[←toldL_zero,←toldL_one,←toldL_two]
 simp only[zdG,relB,List.nil_append]
theorem stW_len{r:List Stp}(h:∀s∈r,smI s.call∧smI s.res):(stW r).length≤r.length * 18:=by
 induction r with
 |nil=>simp[stW]
 |cons s r ih =>
  have ih:=ih fun x hx=>h x (List.mem_cons_of_mem _ hx)
  obtain⟨h1,h2⟩:=h s List.mem_cons_self
  have:=zaJ h1
  have:=zaJ h2
  unfold stW at ih ⊢
  rw[List.flatMap_cons,List.length_append]
  simp only[List.length_append,List.length_cons,List.length_nil]
  omega
theorem stW_take{r:List Stp}{k:Nat}(hk:k<r.length):stW (r.take (k+1))=stW (r.take k)++([32]++itoa r[k].call++[32]++itoa r[k].res):=by
 unfold stW
 rw[List.take_succ_eq_append_getElem hk,List.flatMap_append];simp
def elW(bs:List Int):Bs:=bs.flatMap fun x=>[32]++itoa x
theorem setB_some{bs:List Int}(h:bs≠[]):setB bs 0=[98,97,100]++elW bs++[10]:=by
 unfold setB
 rw[if_neg Zi,if_neg h,List.nil_append,zfo,List.flatMap_map];rfl
theorem elW_take{bs:List Int}{k:Nat}(hk:k<bs.length):elW (bs.take (k+1))=elW (bs.take k)++([32]++itoa bs[k]):=by
 unfold elW
 rw[List.take_succ_eq_append_getElem hk,List.flatMap_append];simp
theorem elW_len{bs:List Int}(h:∀x∈bs,smI x):(elW bs).length≤bs.length * 9:=by
 induction bs with
 |nil=>simp[elW]
 |cons s r ih =>
  have ih:=ih fun x hx=>h x (List.mem_cons_of_mem _ hx)
  have:=zaJ (h s List.mem_cons_self)
  unfold elW at ih ⊢
  rw[List.flatMap_cons,List.length_append]
  simp only[List.length_append,List.length_cons,List.length_nil]
  omega
end
end Go.Proofs.YtjdckepbihcgfaaGreatDoor
