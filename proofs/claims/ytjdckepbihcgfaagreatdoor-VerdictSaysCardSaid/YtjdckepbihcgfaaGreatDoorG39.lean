/- Lemmas for the walks (VdG, VdW, VdN). No condition. -/
import Derived.Test.YtjdckepbihcgfaaGreatDoorG38
import Derived.Test.YtjdckepbihcgfaaGreatDoorG32
import Derived.Test.YtjdckepbihcgfaaGreatDoorG33
import Derived.Test.YtjdckepbihcgfaaGreatDoorG21
set_option linter.unusedSimpArgs false
set_option linter.unusedVariables false
set_option linter.unusedSectionVars false
set_option linter.unnecessarySimpa false
set_option maxRecDepth 100000
set_option maxHeartbeats 8000000
namespace Go.Proofs.YtjdckepbihcgfaaGreatDoor
section
open Go.RowKit Go.Lib
theorem zft{p R:Prop}(r:R)(h:Rest R→p:=by intro r;(first|with_reducible (first|apply zcE|apply za9|apply zba|apply zbd|apply zbe)|((with_reducible (first|apply zaN|apply zaO));exact rfl;exact rfl;(with_reducible exact rfl)));(first|((with_reducible apply zbc);exact rfl)|exact QS.auto);exact rfl;exact r.out):p:=h ⟨r⟩
def zcb(bs:List Int)(e:Int)(k:Nat):List Pt:=Pt.str wBad::((if e≠0 then[Pt.str wError,Pt.err e] else if bs=[] then[Pt.str wNone] else[])++(bs.take k).map Pt.int)
theorem setPts_succ{bs:List Int}{e:Int}{k:Nat}(hk:k<bs.length):zcb bs e (k+1)=zcb bs e k++[Pt.int bs[k]]:=by
 unfold zcb
 rw[List.take_succ_eq_append_getElem hk,List.map_append,List.cons_append,List.append_assoc];rfl
theorem setPts_len(bs:List Int)(e:Int)(k:Nat):(zcb bs e k).length≤3+k:=by
 unfold zcb
 rw[List.length_cons,List.length_append,List.length_map,List.length_take]
 repeat' split
 all_goals(simp only[List.length_cons,List.length_nil];omega)
theorem setPts_word(bs:List Int)(e:Int):lnB ((zcb bs e bs.length).map Pt.word)=setB bs e:=by
 unfold zcb setB
 rw[List.take_length,List.map_cons,List.map_append,List.map_map]
 repeat' split
 all_goals rfl
theorem setPts_ok{bs:List Int}{e:Int}(he:smI e)(hb:∀x∈bs,smI x)(k:Nat):∀p∈zcb bs e k,p.ok:=by
 unfold zcb
 refine zaC (p:=Pt.str wBad) (zbg Zi) fun p hp=>?_
 rcases List.mem_append.1 hp with hp|hp
 ·split at hp
  ·exact zaC (p:=Pt.str wError) (zbg Zi) (zaC (p:=Pt.err e) he zbY) p hp
  ·split at hp
   ·exact zaC (p:=Pt.str wNone) (zbg Zi) zbY p hp
   ·cases hp
 ·obtain⟨x,hx,rfl⟩:=List.mem_map.1 hp
  exact hb x (List.mem_of_mem_take hx)
theorem T_cutB{P:Program}{C:Ctx}{Q:Exit→Act→World→Prop}{E:zaE}{S:List Ent}{X:Type}(id:Nat){x y:Code}(I:X→zaE)(J:X→List Ent)(pre:X→Prop)(hx:T P C x (Exit.inBlock id (Exit.then (Cut C I J pre) Q)) E S)(hy:∀z,pre z→T P C y Q (I z) (J z)):T P C (.seq (.block id x) y) Q E S :=
 T_cut I J pre (T_block hx) hy
theorem setPts_err{e:Int}(h:e≠0):zcb [] e 0=[Pt.str wBad]++[Pt.str wError,Pt.err e]:=by
 unfold zcb
 rw[if_pos h];rfl
theorem setPts_non:zcb [] 0 0=[Pt.str wBad]++[Pt.str wNone]:=rfl
theorem setPts_beg{bs:List Int}(h:bs≠[]):zcb bs 0 0=[Pt.str wBad]:=by
 unfold zcb
 rw[if_neg Zi,if_neg h];rfl
section
variable (b cx:Nat)(Ax:Option Addr)(l0:Bs)(B1:Option Addr)(d1:Nat)(l:List Ev)(W:World)(hT:TxW W)(hoff:zeg (zbb [zao 63 5 b Ax cx l0]))(hl0:l0.length≤10000)(hl:l.length≤9223372036854775807)(hB:RdEv W B1 l) 
 (hwB:∀b' o,B1=some ⟨b',o,none⟩→b'∉zbb [zao 63 5 b Ax cx l0]) (n0:Nat) (hm:Mem ⟨n0,zbb [zao 63 5 b Ax cx l0],W⟩ W [zao 63 5 b Ax cx l0])
include hT hoff hl0 hl hB hwB hm
theorem zhZ:Calls Tryz.prog 64 #[.pointer (some ⟨b,0,none⟩),.slice B1 l.length d1] W fun e w'=>∃x:Option Addr×Nat,e=.returned (.tuple #[])∧Mem ⟨0,zbb [zao 63 5 b Ax cx l0],W⟩ w' [zao 63 5 b x.1 x.2 (l0++setB (bcR l) (bcE l))]:=by
 obtain⟨F,hF⟩:∃F,F=zbb [zao 63 5 b Ax cx l0]:=⟨_,rfl⟩
 rw[←hF] at hoff hwB hm ⊢
 clear hF
 have hck:=fun w h=>bCheck_any B1 d1 l w hl h
 have hes:=bcE_er l
 obtain⟨hbl,hbs⟩:=bcR_ok l
 have hno:=bcR_none (l:=l)
 generalize bcR l=bs at *
 generalize bcE l=er at *
 have hKn0:=setPts_len bs er bs.length
 have hKo:=setPts_ok hes hbs bs.length
 rw[←setPts_word]
 refine zaj (S:=[zao 63 5 b Ax cx l0]) F Tryz.func64 rfl Tryz.ntmps64 Zj (hm.anyN _) ?_
 repeat' (first|((with_reducible refine T_cutB (X:=Option Addr×Nat) 0 (fun z=>[(6,.slice z.1 (zcb bs er 0).length z.2),(4,.slice A2 bs.length c2),(0,.pointer (some ⟨b,0,none⟩))]) (fun z=>[zao 63 5 b Ax cx l0,zac Pt.enc 1 20 z.1 z.2 (zcb bs er 0),zac zag 1 3 A2 c2 bs]) (fun _=>True) ?_ ?_))|refine zft ?_|refine Zha ?_|(refine Zhb ?_;intro g)|(refine Zg ?_ ?_<;>(intro h;try exact Zx))|refine GOF ?_ ?_|((with_reducible (first|apply zaa|apply TD_e3z|apply zan|apply zaf|apply zae));((with_reducible apply zal (f:=123));exact rfl;(intro w hw;exact hck w (hw.rdAwayF hB hwB));exact rfl);exact Zh;(rintro _ _ ⟨A2,c2,rfl,rfl⟩);(try refine⟨SUB,?_⟩))|fail)
 ·rename_i g0
  obtain rfl:=hno h
  have hs:=setPts_err h
  refine zdw (fun w hw=>Mem.asOwn (g:=g0) (enc:=Pt.enc) (M:=1) [Pt.str wBad] Zu rfl (fun _=>rfl) (by show 1≤maxLen;decide) hw) ?_
  repeat' (first|refine zft ?_|refine Zha ?_|(refine Zhb ?_;intro g)|(refine Zg ?_ ?_<;>(intro h;try exact Zx))|refine GOF ?_ ?_|((with_reducible (first|apply zaa|apply TD_e3z|apply zan|apply zaf|apply zae));((with_reducible apply zbp (enc:=Pt.enc) (xs:=[Pt.str wError,Pt.err er]) (ls:=[Pt.str wBad]));exact rfl;exact rfl;exact Lies.blk Zm;exact fun _=>rfl;exact fun _=>rfl;(intro A' c';exact Zu);((simp only[List.length_cons,List.length_nil];omega));decide;exact rfl);exact Zh;(rintro _ _ ⟨A',c',rfl,rfl⟩);(try refine⟨SUB,?_⟩))|fail)
  exact zhI (A',c') trivial (by(try dsimp only);rw[hs];exact Ze) (fun w hw=>by(try dsimp only);rw[hs];exact hw.sel Zl)
 ·rename_i g0 hz
  have hb0:bs=[]:=by
   rcases bs with _|⟨x,r⟩
   ·rfl
   ·exfalso;simp at h;omega
  have he0:er=0:=by assumption
  subst hb0 he0
  refine zdw (fun w hw=>Mem.asOwn (g:=g0) (enc:=Pt.enc) (M:=1) [Pt.str wBad] Zu rfl (fun _=>rfl) (by show 1≤maxLen;decide) hw) ?_
  repeat' (first|refine zft ?_|refine Zha ?_|(refine Zhb ?_;intro g)|(refine Zg ?_ ?_<;>(intro h;try exact Zx))|refine GOF ?_ ?_|((with_reducible (first|apply zaa|apply TD_e3z|apply zan|apply zaf|apply zae));((with_reducible apply zbp (enc:=Pt.enc) (xs:=[Pt.str wNone]) (ls:=[Pt.str wBad]));exact rfl;exact rfl;exact Lies.blk Zm;exact fun _=>rfl;exact fun _=>rfl;(intro A' c';exact Zu);((simp only[List.length_cons,List.length_nil];omega));decide;exact rfl);exact Zh;(rintro _ _ ⟨A',c',rfl,rfl⟩);(try refine⟨SUB,?_⟩))|fail)
  exact zhI (A',c') trivial (by(try dsimp only);rw[setPts_non];exact Ze) (fun w hw=>by(try dsimp only);rw[setPts_non];exact hw.sel Zl)
 ·have hb0:bs≠[]:=by
   rintro rfl
   exact absurd rfl h
  have he0:er=0:=by assumption
  subst he0
  have hs:=setPts_beg hb0
  exact zhI (some ⟨g,0,none⟩,1) trivial (by(try dsimp only);rw[hs];exact Ze) (fun w hw=>by
   have h2:=Mem.asOwn (enc:=Pt.enc) (M:=1) [Pt.str wBad] Zu rfl (fun _=>rfl) (by show 1≤maxLen;decide) hw
   rw[show[Pt.str wBad].length=1 from rfl] at h2
   dsimp only
   rw[hs]
   exact h2.sel Zl)
 rintro⟨A5,c5⟩ -
 dsimp only
 repeat' (first|refine zft ?_|refine Zha ?_|(refine Zhb ?_;intro g)|(refine Zg ?_ ?_<;>(intro h;try exact Zx))|refine GOF ?_ ?_|fail)
 refine zap (X:=Nat×Option Addr×Nat) (fun x=>[(35,.int .i64 (x.1:Nat)),(34,.int .i64 bs.length),(33,.slice A2 bs.length c2),(6,.slice x.2.1 (zcb bs er x.1).length x.2.2),(0,.pointer (some ⟨b,0,none⟩))]) (fun x=>[zao 63 5 b Ax cx l0,zac Pt.enc 1 20 x.2.1 x.2.2 (zcb bs er x.1),zac zag 1 3 A2 c2 bs])
  (fun x=>x.1≤bs.length) (fun x=>bs.length-x.1) (0,A5,c5) (by(try dsimp only);omega) (by(try dsimp only);exact Ze) (fun w' hw=>by(try dsimp only);exact hw.sel Zl) ?_
 rintro⟨k,A6,c6⟩ hk
 dsimp only at hk ⊢
 have hpl:=setPts_len bs er k
 by_cases hkl:k<bs.length
 ·have hks:=setPts_succ (e:=er) hkl
  generalize hK:zcb bs er k=K at *
  refine zb1 (enc:=zag) (ls:=bs) Zm Zo ?_
  rintro gs rfl
  repeat' (first|refine zft ?_|refine Zha ?_|(refine Zhb ?_;intro g)|(refine Zg ?_ ?_<;>(intro h;try exact Zx))|refine GOF ?_ ?_|((with_reducible (first|apply zaa|apply TD_e3z|apply zan|apply zaf|apply zae));((with_reducible apply zbp (enc:=Pt.enc) (xs:=[Pt.int bs[k]]) (ls:=K));exact rfl;exact rfl;exact Lies.blk Zm;exact fun _=>rfl;exact fun _=>rfl;(intro A' c';exact Zu);((simp only[List.length_cons,List.length_nil];omega));decide;exact rfl);exact Zh;(rintro _ _ ⟨A',c',rfl,rfl⟩);(try refine⟨SUB,?_⟩))|fail)
  all_goals first|(exfalso;omega)|skip
  all_goals
   apply zab (k+1,A',c')
   (case hE=>(try dsimp only);rw[hks];exact Ze)
   (case hS=>(try dsimp only);rw[hks];exact fun w' hw=>hw.sel Zl)
   (case hμ=>(try dsimp only);omega)
   (case hp=>(try dsimp only);omega)
 ·obtain rfl:k=bs.length:=by omega
  have hKn:(zcb bs er bs.length).length≤1100:=by omega
  generalize zcb bs er bs.length=K at *
  repeat' (first|refine zft ?_|refine Zha ?_|(refine Zhb ?_;intro g)|(refine Zg ?_ ?_<;>(intro h;try exact Zx))|refine GOF ?_ ?_|fail)
  (first|((with_reducible (first|apply zaa|apply TD_e3z|apply zan|apply zaf|apply zae));((with_reducible apply zar (f:=24) (X:=Option Addr×Nat) (S1:=[zao 63 5 b _ _ _]) (fun _=>.tuple #[]) (fun x=>[zao 63 5 b x.1 x.2 (_++lnB ((K:List Pt).map Pt.word))]));exact rfl;exact Zp;(intro x;(try dsimp only);exact Za);(intro w hw;exact line_own _ _ w b _ _ _ K hw hT hoff (by(try simp only[List.length_append,List.length_cons,List.length_nil]);omega) hKn hKo _ _ Zm);exact rfl);exact Zh;(rintro _ _ ⟨⟨Ax,cx⟩,rfl,rfl⟩);(try refine⟨SUB,?_⟩))|fail)
  repeat' (first|refine zft ?_|refine Zha ?_|(refine Zhb ?_;intro g)|(refine Zg ?_ ?_<;>(intro h;try exact Zx))|refine GOF ?_ ?_|fail)
  all_goals first|(exfalso;omega)|skip
  (refine zc4 Tryz.results64 rfl (fun w' hw=>?_))
  exact⟨(Ax,cx),rfl,(hw.anyN 0).sel Zl⟩
theorem single_mem(t:Int):Calls Tryz.prog 27 #[.pointer (some ⟨b,0,none⟩),.int .i64 t,.slice B1 l.length d1] W fun e w'=>∃x:Option Addr×Nat,e=.returned (.tuple #[])∧Mem ⟨0,zbb [zao 63 5 b Ax cx l0],W⟩ w' [zao 63 5 b x.1 x.2 (l0++zbU t l)]:=by
 have hel0:=zhZ b cx Ax l0 B1 d1 l
 obtain⟨F,hF⟩:∃F,F=zbb [zao 63 5 b Ax cx l0]:=⟨_,rfl⟩
 have hzc:=fun w h=>zcheck_any B1 d1 l w hl h
 have hrc:=fun w h=>rwCheck_any B1 d1 l w hl h
 have htc:=fun w h=>tkCheckA_any B1 d1 l w hl h
 have hel:∀(C:Ctx) (R:List Ent) (w:World),C.w0=W→C.F=F→Mem C w ([zao 63 5 b Ax cx l0]++R)→Calls Tryz.prog 64 #[.pointer (some ⟨b,0,none⟩),.slice B1 l.length d1] w fun e w'=>∃x:Option Addr×Nat,e=.returned (.tuple #[])∧Mem ⟨0,zbb [zao 63 5 b Ax cx l0],w⟩ w' [zao 63 5 b x.1 x.2 (l0++setB (bcR l) (bcE l))]:=fun C R w h1 h2 hw=>by
  subst h1
  exact zhZ b cx Ax l0 B1 d1 l w (hT.keeps hw.keeps (by rw[h2,hF];exact hoff)) hoff hl0 hl (hw.rdAwayF hB (by rw[h2,hF];exact hwB)) hwB 0 (hw.self 0)
 rw[←hF] at hoff hwB hm
 have hgoal:zbb [zao 63 5 b Ax cx l0]=F:=hF.symm
 rw[hgoal]
 clear hF hel0
 refine zaj (S:=[zao 63 5 b Ax cx l0]) F Tryz.func27 rfl Tryz.ntmps27 Zj (hm.anyN _) ?_
 by_cases h1:t=1
 ·rw[show zbU t l=zgQ (decide ((zaY l).2=0)&&decide ((zcV l).kind=0)) (zcV l) (zaY l).2 by unfold zbU;rw[if_pos h1]]
  have hbs:=zcV_sm l
  have hes:=wonce_er l
  clear hrc htc hel
  generalize (decide ((zaY l).2=0)&&decide ((zcV l).kind=0))=ok at *
  generalize zcV l=bd at *
  generalize (zaY l).2=er at *
  repeat' (first|refine zft ?_|refine Zha ?_|(refine Zhb ?_;intro g)|(refine Zg ?_ ?_<;>(intro h;try exact Zx))|refine GOF ?_ ?_|((with_reducible (first|apply zaa|apply TD_e3z|apply zan|apply zaf|apply zae));((with_reducible apply zad (f:=61));exact rfl;(intro w hw;exact hzc w (hw.rdAwayF hB hwB));exact rfl);exact Zh;(rintro _ _ ⟨rfl,rfl⟩);(try refine⟨SUB,?_⟩))|fail)
  all_goals first|(exfalso;contradiction)|skip
  (first|((with_reducible (first|apply zaa|apply TD_e3z|apply zan|apply zaf|apply zae));((with_reducible apply zar (f:=60) (X:=Option Addr×Nat) (S1:=[zao 63 5 b _ _ _]) (fun _=>.tuple #[]) (fun x=>[zao 63 5 b x.1 x.2 (_++zgQ ok bd er)]));exact rfl;exact Zp;(intro x;(try dsimp only);exact Za);(intro w hw;exact bad_mem b _ _ _ w (hT.keeps hw.keeps hoff) (zbX hT hoff hw) Zo 0 (hw.self 0) ok bd er hbs hes);exact rfl);exact Zh;(rintro _ _ ⟨⟨Ax,cx⟩,rfl,rfl⟩);(try refine⟨SUB,?_⟩))|fail)
  repeat' (first|refine zft ?_|refine Zha ?_|(refine Zhb ?_;intro g)|(refine Zg ?_ ?_<;>(intro h;try exact Zx))|refine GOF ?_ ?_|fail)
  (refine zc4 Tryz.results27 rfl (fun w' hw=>?_))
  exact⟨(Ax,cx),rfl,(hw.anyN 0).sel Zl⟩
 ·by_cases h2:t=2
  ·rw[show zbU t l=zgQ (rwC l).1 (rwC l).2.1 (rwC l).2.2 by unfold zbU;rw[if_neg h1,if_pos h2]]
   have hbs:=rwC_sm l
   have hes:=rwC_er l
   clear hzc htc hel
   generalize rwC l=q at *
   obtain⟨ok,bd,er⟩:=q
   dsimp only at hrc hbs hes ⊢
   repeat' (first|refine zft ?_|refine Zha ?_|(refine Zhb ?_;intro g)|(refine Zg ?_ ?_<;>(intro h;try exact Zx))|refine GOF ?_ ?_|((with_reducible (first|apply zaa|apply TD_e3z|apply zan|apply zaf|apply zae));((with_reducible apply zad (f:=62));exact rfl;(intro w hw;exact hrc w (hw.rdAwayF hB hwB));exact rfl);exact Zh;(rintro _ _ ⟨rfl,rfl⟩);(try refine⟨SUB,?_⟩))|fail)
   all_goals first|(exfalso;contradiction)|skip
   (first|((with_reducible (first|apply zaa|apply TD_e3z|apply zan|apply zaf|apply zae));((with_reducible apply zar (f:=60) (X:=Option Addr×Nat) (S1:=[zao 63 5 b _ _ _]) (fun _=>.tuple #[]) (fun x=>[zao 63 5 b x.1 x.2 (_++zgQ ok bd er)]));exact rfl;exact Zp;(intro x;(try dsimp only);exact Za);(intro w hw;exact bad_mem b _ _ _ w (hT.keeps hw.keeps hoff) (zbX hT hoff hw) Zo 0 (hw.self 0) ok bd er hbs hes);exact rfl);exact Zh;(rintro _ _ ⟨⟨Ax,cx⟩,rfl,rfl⟩);(try refine⟨SUB,?_⟩))|fail)
   repeat' (first|refine zft ?_|refine Zha ?_|(refine Zhb ?_;intro g)|(refine Zg ?_ ?_<;>(intro h;try exact Zx))|refine GOF ?_ ?_|fail)
   (refine zc4 Tryz.results27 rfl (fun w' hw=>?_))
   exact⟨(Ax,cx),rfl,(hw.anyN 0).sel Zl⟩
  ·by_cases h5:t=5
   ·rw[show zbU t l=zgQ (tkR l).1 (tkR l).2.1 (tkR l).2.2 by unfold zbU;rw[if_neg h1,if_neg h2,if_pos h5]]
    have hbs:=tkR_sm l
    have hes:=tkR_er l
    clear hzc hrc hel
    generalize tkR l=q at *
    obtain⟨ok,bd,er⟩:=q
    dsimp only at htc hbs hes ⊢
    repeat' (first|refine zft ?_|refine Zha ?_|(refine Zhb ?_;intro g)|(refine Zg ?_ ?_<;>(intro h;try exact Zx))|refine GOF ?_ ?_|((with_reducible (first|apply zaa|apply TD_e3z|apply zan|apply zaf|apply zae));((with_reducible apply zad (f:=63));exact rfl;(intro w hw;exact htc w (hw.rdAwayF hB hwB));exact rfl);exact Zh;(rintro _ _ ⟨rfl,rfl⟩);(try refine⟨SUB,?_⟩))|fail)
    all_goals first|(exfalso;contradiction)|skip
    (first|((with_reducible (first|apply zaa|apply TD_e3z|apply zan|apply zaf|apply zae));((with_reducible apply zar (f:=60) (X:=Option Addr×Nat) (S1:=[zao 63 5 b _ _ _]) (fun _=>.tuple #[]) (fun x=>[zao 63 5 b x.1 x.2 (_++zgQ ok bd er)]));exact rfl;exact Zp;(intro x;(try dsimp only);exact Za);(intro w hw;exact bad_mem b _ _ _ w (hT.keeps hw.keeps hoff) (zbX hT hoff hw) Zo 0 (hw.self 0) ok bd er hbs hes);exact rfl);exact Zh;(rintro _ _ ⟨⟨Ax,cx⟩,rfl,rfl⟩);(try refine⟨SUB,?_⟩))|fail)
    repeat' (first|refine zft ?_|refine Zha ?_|(refine Zhb ?_;intro g)|(refine Zg ?_ ?_<;>(intro h;try exact Zx))|refine GOF ?_ ?_|fail)
    (refine zc4 Tryz.results27 rfl (fun w' hw=>?_))
    exact⟨(Ax,cx),rfl,(hw.anyN 0).sel Zl⟩
   ·by_cases h4:t=4
    ·rw[show zbU t l=setB (bcR l) (bcE l) by unfold zbU;rw[if_neg h1,if_neg h2,if_neg h5,if_pos h4]]
     clear hzc hrc htc
     repeat' (first|refine zft ?_|refine Zha ?_|(refine Zhb ?_;intro g)|(refine Zg ?_ ?_<;>(intro h;try exact Zx))|refine GOF ?_ ?_|fail)
     all_goals first|(exfalso;contradiction)|skip
     (first|((with_reducible (first|apply zaa|apply TD_e3z|apply zan|apply zaf|apply zae));((with_reducible apply zar (f:=64) (X:=Option Addr×Nat) (S1:=[zao 63 5 b _ _ _]) (fun _=>.tuple #[]) (fun x=>[zao 63 5 b x.1 x.2 (_++setB (bcR l) (bcE l))]));exact rfl;exact Zp;(intro x;(try dsimp only);exact Za);(intro w hw;exact hel ⟨_,_,_⟩ _ w rfl rfl hw);exact rfl);exact Zh;(rintro _ _ ⟨⟨Ax,cx⟩,rfl,rfl⟩);(try refine⟨SUB,?_⟩))|fail)
     repeat' (first|refine zft ?_|refine Zha ?_|(refine Zhb ?_;intro g)|(refine Zg ?_ ?_<;>(intro h;try exact Zx))|refine GOF ?_ ?_|fail)
     (refine zc4 Tryz.results27 rfl (fun w' hw=>?_))
     exact⟨(Ax,cx),rfl,(hw.anyN 0).sel Zl⟩
    ·rw[show zbU t l=[] by unfold zbU;rw[if_neg h1,if_neg h2,if_neg h5,if_neg h4],List.append_nil]
     repeat' (first|refine zft ?_|refine Zha ?_|(refine Zhb ?_;intro g)|(refine Zg ?_ ?_<;>(intro h;try exact Zx))|refine GOF ?_ ?_|fail)
     all_goals first|(exfalso;contradiction)|skip
     (refine zc4 Tryz.results27 rfl (fun w' hw=>?_))
     exact⟨(Ax,cx),rfl,(hw.anyN 0).sel Zl⟩
end
end
section
open Go.RowKit Go.Lib
theorem Q0VdW{p R:Prop}(r:R)(h:Rest R→p:=by intro r;(first|with_reducible (first|apply zcE|apply za9|apply zba|apply zbd|apply zbe)|((with_reducible (first|apply zaN|apply zaO));exact rfl;exact rfl;(with_reducible exact rfl)));(first|((with_reducible apply zbc);exact rfl)|exact QS.auto);exact rfl;exact r.out):p:=h ⟨r⟩
theorem yn_len(b:Bool):(ynB b).length≤100:=by cases b<;>decide
def zhu(w:List Stp):List Pt:=w.flatMap fun s=>[Pt.int s.call,Pt.int s.res]
def zbV(ok:Bool)(w:List Stp):List Pt:=[Pt.str zje,Pt.str (ynB ok)]++zhu w
theorem timePts_zero(ok:Bool)(w:List Stp):zbV ok (w.take 0)=[Pt.str zje,Pt.str (ynB ok)]:=rfl
theorem timePts_succ(ok:Bool){w:List Stp}{k:Nat}(hk:k<w.length):zbV ok (w.take (k+1))=zbV ok (w.take k)++[Pt.int w[k].call,Pt.int w[k].res]:=by
 unfold zbV zhu
 rw[List.take_succ_eq_append_getElem hk,List.flatMap_append,List.append_assoc];simp
theorem stepPts_len(w:List Stp):(zhu w).length=2 * w.length:=by
 induction w with
 |nil=>rfl
 |cons s w ih =>
  unfold zhu at ih ⊢
  rw[List.flatMap_cons,List.length_append,ih];simp;omega
theorem zf2(ok:Bool)(w:List Stp):(zbV ok w).length=2+2 * w.length:=by
 unfold zbV
 rw[List.length_append,stepPts_len];rfl
theorem zhY(ok:Bool)(w:List Stp):(zbV ok w).map Pt.word=zje::ynB ok::zjR w:=by
 unfold zbV
 rw[List.map_append]
 have:(zhu w).map Pt.word=zjR w:=by
  induction w with
  |nil=>rfl
  |cons s w ih =>
   unfold zhu zjR at ih ⊢
   rw[List.flatMap_cons,List.flatMap_cons,List.map_append,ih];rfl
 rw[this];rfl
theorem zhv(ok:Bool){w:List Stp}(h:∀s∈w,smI s.call∧smI s.res):∀p∈zbV ok w,p.ok:=by
 intro p hp
 unfold zbV at hp
 rcases List.mem_append.1 hp with hp|hp
 ·exact zaC (p:=Pt.str zje) (zbg Zi) (zaC (p:=Pt.str (ynB ok)) (zbg (yn_len ok)) zbY) p hp
 ·obtain⟨s,hs,hm⟩:=List.mem_flatMap.1 hp
  rcases List.mem_cons.1 hm with rfl|hm
  ·exact(h s hs).1
  ·rw[List.mem_singleton] at hm
   subst hm
   exact(h s hs).2
theorem zfn{ts:List Int}{l:List Ev}{F:List Cl→Nat→Nat}:(∀s∈(zbE ts l F).getD [],smI s.call∧smI s.res)∧((zbE ts l F).getD []).length≤9:=by
 cases h:zbE ts l F with
 |none=>exact⟨fun s hs=>(by cases hs),by simp⟩
 |some r =>
  obtain⟨h1,h2,_,h4⟩:=find_steps h
  refine⟨fun s hs=>?_,h4⟩
  have hr:=h2.res s hs
  have hc:=h2.call s hs
  have hl:(zfl ts l).1.length≤9:=by
   unfold zfl
   repeat' split
   all_goals first|(simp;done)|(dsimp only;omega)
  unfold smI
  omega
theorem zjS{ws:List Bs}(h:∀x∈ws,x.length≤100):(lnB ws).length≤ws.length * 101+1:=by
 have key:∀ws:List Bs,(∀x∈ws,x.length≤100)→(zby 32 ws).length≤ws.length * 101:=by
  intro ws
  induction ws with
  |nil=>intro _;simp[zby]
  |cons a r ih =>
   intro h
   have ha:=h a List.mem_cons_self
   have hr:=ih fun x hx=>h x (List.mem_cons_of_mem _ hx)
   cases r with
   |nil=>simp only[zby,List.length_cons,List.length_nil];omega
   |cons b r =>
    rw[zby,List.length_append,List.length_cons]
    simp only[List.length_cons] at hr ⊢
    omega
 have:=key ws h
 unfold lnB
 rw[List.length_append,List.length_singleton];omega
section
variable (b cx:Nat)(Ax:Option Addr)(l0:Bs)(A1 B1:Option Addr)(c1 d1:Nat)(ts:List Int)(l:List Ev)(W:World)(hT:TxW W)(hoff:zeg (zbb [zao 63 5 b Ax cx l0]))(hl0:l0.length≤2000)(hts:ts.length≤9223372036854775807)(hl:l.length≤9223372036854775807)(hA:RdInt W A1 ts)(hB:RdEv W B1 l) 
 (hwA:∀b' o,A1=some ⟨b',o,none⟩→b'∉zbb [zao 63 5 b Ax cx l0]) (hwB:∀b' o,B1=some ⟨b',o,none⟩→b'∉zbb [zao 63 5 b Ax cx l0]) (n0:Nat) (hm:Mem ⟨n0,zbb [zao 63 5 b Ax cx l0],W⟩ W [zao 63 5 b Ax cx l0])
include hT hoff hl0 hts hl hA hB hwA hwB hm
theorem zgM:Calls Tryz.prog 26 #[.pointer (some ⟨b,0,none⟩),.slice A1 ts.length c1,.slice B1 l.length d1] W fun e w'=>∃x:Option Addr×Nat,e=.returned (.tuple #[])∧Mem ⟨0,zbb [zao 63 5 b Ax cx l0],W⟩ w' [zao 63 5 b x.1 x.2 (l0++witB ts l)]:=by
 obtain⟨F,hF⟩:∃F,F=zbb [zao 63 5 b Ax cx l0]:=⟨_,rfl⟩
 rw[←hF] at hoff hwA hwB hm ⊢
 clear hF
 have hf1:=fun w h1 h2=>zfE A1 B1 c1 d1 ts l w hts hl h1 h2
 have hf2:=fun w h1 h2=>seqFind_any A1 B1 c1 d1 ts l w hts hl h1 h2
 have hf3:=fun w h1 h2=>seqQuiet_any A1 B1 c1 d1 ts l w hts hl h1 h2
 obtain⟨hsm,h9⟩:=zfn (ts:=ts) (l:=l) (F:=zax)
 have h92:=(zfn (ts:=ts) (l:=l) (F:=zaX)).2
 have h93:=(zfn (ts:=ts) (l:=l) (F:=zbw)).2
 unfold witB
 rw[←zhY]
 have htl:=zjS (ws:=(zbV (zbE ts l zax).isSome ((zbE ts l zax).getD [])).map Pt.word) (fun x hx=>by
  obtain⟨p,hp,rfl⟩:=List.mem_map.1 hx
  exact Pt.word_len (zhv _ hsm p hp))
 rw[List.length_map,zf2] at htl
 generalize (zbE ts l zax).isSome=k1 at *
 generalize (zbE ts l zax).getD []=r1 at *
 generalize (zbE ts l zaX).isSome=k2 at *
 generalize (zbE ts l zaX).getD []=r2 at *
 generalize (zbE ts l zbw).isSome=k3 at *
 generalize (zbE ts l zbw).getD []=r3 at *
 refine zaj (S:=[zao 63 5 b Ax cx l0]) F Tryz.func26 rfl Tryz.ntmps26 Zj (hm.anyN _) ?_
 repeat' (first|refine Q0VdW ?_|refine Zha ?_|(refine Zhb ?_;intro g)|(refine Zg ?_ ?_<;>(intro h;try exact Zx))|refine GOF ?_ ?_|((with_reducible (first|apply zaa|apply TD_e3z|apply zan|apply zaf|apply zae));((with_reducible apply zal (f:=9));exact rfl;(intro w hw;exact hf1 w (hw.rdAwayF hA hwA) (hw.rdAwayF hB hwB));exact rfl);exact Zh;(rintro _ _ ⟨A2,c2,rfl,rfl⟩);(try refine⟨SUB,?_⟩))|((with_reducible (first|apply zaa|apply TD_e3z|apply zan|apply zaf|apply zae));((with_reducible apply zad (f:=59));exact rfl;(intro w hw;exact yes_any _ w);exact rfl);exact Zh;(rintro _ _ ⟨rfl,rfl⟩);(try refine⟨SUB,?_⟩))|fail)
 refine zap (X:=Nat×Option Addr×Nat) (fun x=>[(26,.int .i64 (x.1:Nat)),(25,.int .i64 r1.length),(24,.slice A2 r1.length c2),(9,.slice x.2.1 (zbV k1 (r1.take x.1)).length x.2.2),(0,.pointer (some ⟨b,0,none⟩)),(1,.slice A1 ts.length c1),(2,.slice B1 l.length d1)]) (fun x=>[zao 63 5 b Ax cx l0,zac Pt.enc 1 20 x.2.1 x.2.2 (zbV k1 (r1.take x.1)),zac Stp.enc 2 49 A2 c2 r1])
  (fun x=>x.1≤r1.length) (fun x=>r1.length-x.1) (0,some ⟨g,0,none⟩,2) (by(try dsimp only);omega) (by(try dsimp only);exact Ze) (fun w' hw=>by(try dsimp only);rw[timePts_zero];have h2:=Mem.asOwn (enc:=Pt.enc) (M:=1) [Pt.str zje,Pt.str (ynB k1)] Zu rfl (fun _=>rfl) (by show 2≤maxLen;decide) hw;rw[show[Pt.str zje,Pt.str (ynB k1)].length=2 from rfl] at h2;exact h2.sel Zl) ?_
 rintro⟨k,A5,c5⟩ hk
 dsimp only at hk ⊢
 have hpl:=zf2 k1 (r1.take k)
 rw[List.length_take] at hpl
 by_cases hkl:k<r1.length
 ·have hks:=timePts_succ k1 hkl
  generalize hK:zbV k1 (r1.take k)=K at *
  refine zb1 (enc:=Stp.enc) (ls:=r1) Zm Zo ?_
  rintro gs rfl
  repeat' (first|refine Q0VdW ?_|refine Zha ?_|(refine Zhb ?_;intro g)|(refine Zg ?_ ?_<;>(intro h;try exact Zx))|refine GOF ?_ ?_|((with_reducible (first|apply zaa|apply TD_e3z|apply zan|apply zaf|apply zae));((with_reducible apply zbp (enc:=Pt.enc) (xs:=[Pt.int r1[k].call,Pt.int r1[k].res]) (ls:=K));exact rfl;exact rfl;exact Lies.blk Zm;exact fun _=>rfl;exact fun _=>rfl;(intro A' c';exact Zu);((simp only[List.length_cons,List.length_nil];omega));decide;exact rfl);exact Zh;(rintro _ _ ⟨A',c',rfl,rfl⟩);(try refine⟨SUB,?_⟩))|fail)
  all_goals first|(exfalso;omega)|skip
  all_goals
   apply zab (k+1,A',c')
   (case hE=>(try dsimp only);rw[hks];exact Ze)
   (case hS=>(try dsimp only);rw[hks];exact fun w' hw=>hw.sel Zl)
   (case hμ=>(try dsimp only);omega)
   (case hp=>(try dsimp only);omega)
 ·obtain rfl:k=r1.length:=by omega
  rw[List.take_length] at hpl ⊢
  have hKo:=zhv k1 hsm
  have hKn:(zbV k1 r1).length≤1100:=by omega
  generalize zbV k1 r1=K at *
  have hp2:(lnB (([Pt.str zdb,Pt.str (ynB k2)]:List Pt).map Pt.word)).length≤203:=zjS (ws:=[zdb,ynB k2]) (by
   intro x hx
   rcases List.mem_cons.1 hx with rfl|hx
   ·decide
   ·rw[List.mem_singleton.1 hx];exact yn_len k2)
  repeat' (first|refine Q0VdW ?_|refine Zha ?_|(refine Zhb ?_;intro g)|(refine Zg ?_ ?_<;>(intro h;try exact Zx))|refine GOF ?_ ?_|fail)
  (first|((with_reducible (first|apply zaa|apply TD_e3z|apply zan|apply zaf|apply zae));((with_reducible apply zar (f:=24) (X:=Option Addr×Nat) (S1:=[zao 63 5 b _ _ _]) (fun _=>.tuple #[]) (fun x=>[zao 63 5 b x.1 x.2 (_++lnB ((K:List Pt).map Pt.word))]));exact rfl;exact Zp;(intro x;(try dsimp only);exact Za);(intro w hw;exact line_own _ _ w b _ _ _ K hw hT hoff (by(try simp only[List.length_append,List.length_cons,List.length_nil]);omega) hKn hKo _ _ Zm);exact rfl);exact Zh;(rintro _ _ ⟨⟨Ax,cx⟩,rfl,rfl⟩);(try refine⟨SUB,?_⟩))|fail)
  repeat' (first|refine Q0VdW ?_|refine Zha ?_|(refine Zhb ?_;intro g)|(refine Zg ?_ ?_<;>(intro h;try exact Zx))|refine GOF ?_ ?_|((with_reducible (first|apply zaa|apply TD_e3z|apply zan|apply zaf|apply zae));((with_reducible apply zal (f:=10));exact rfl;(intro w hw;exact hf2 w (hw.rdAwayF hA hwA) (hw.rdAwayF hB hwB));exact rfl);exact Zh;(rintro _ _ ⟨A3,c3,rfl,rfl⟩);(try refine⟨SUB,?_⟩))|((with_reducible (first|apply zaa|apply TD_e3z|apply zan|apply zaf|apply zae));((with_reducible apply zad (f:=59));exact rfl;(intro w hw;exact yes_any _ w);exact rfl);exact Zh;(rintro _ _ ⟨rfl,rfl⟩);(try refine⟨SUB,?_⟩))|fail)
  (first|((with_reducible (first|apply zaa|apply TD_e3z|apply zan|apply zaf|apply zae));((with_reducible apply zar (f:=24) (X:=Option Addr×Nat) (S1:=[zao 63 5 b _ _ _]) (fun _=>.tuple #[]) (fun x=>[zao 63 5 b x.1 x.2 (_++lnB (([Pt.str zdb,Pt.str (ynB k2)]:List Pt).map Pt.word))]));exact rfl;exact Zp;(intro x;(try dsimp only);exact Za);(intro w hw;exact zcF _ _ w b _ _ _ [Pt.str zdb,Pt.str (ynB k2)] hw hT hoff (by(try simp only[List.length_append,List.length_cons,List.length_nil]);omega) (by simp only[List.length_cons,List.length_nil];omega) (zaC (p:=Pt.str zdb) (zbg Zi) (zaC (p:=Pt.str (ynB k2)) (zbg (yn_len k2)) zbY)) _ _ _ Zm rfl);exact rfl);exact Zh;(rintro _ _ ⟨⟨Ax,cx⟩,rfl,rfl⟩);(try refine⟨SUB,?_⟩))|fail)
  repeat' (first|refine Q0VdW ?_|refine Zha ?_|(refine Zhb ?_;intro g)|(refine Zg ?_ ?_<;>(intro h;try exact Zx))|refine GOF ?_ ?_|((with_reducible (first|apply zaa|apply TD_e3z|apply zan|apply zaf|apply zae));((with_reducible apply zal (f:=11));exact rfl;(intro w hw;exact hf3 w (hw.rdAwayF hA hwA) (hw.rdAwayF hB hwB));exact rfl);exact Zh;(rintro _ _ ⟨A4,c4,rfl,rfl⟩);(try refine⟨SUB,?_⟩))|((with_reducible (first|apply zaa|apply TD_e3z|apply zan|apply zaf|apply zae));((with_reducible apply zad (f:=59));exact rfl;(intro w hw;exact yes_any _ w);exact rfl);exact Zh;(rintro _ _ ⟨rfl,rfl⟩);(try refine⟨SUB,?_⟩))|fail)
  (first|((with_reducible (first|apply zaa|apply TD_e3z|apply zan|apply zaf|apply zae));((with_reducible apply zar (f:=24) (X:=Option Addr×Nat) (S1:=[zao 63 5 b _ _ _]) (fun _=>.tuple #[]) (fun x=>[zao 63 5 b x.1 x.2 (_++lnB (([Pt.str wCalm,Pt.str (ynB k3)]:List Pt).map Pt.word))]));exact rfl;exact Zp;(intro x;(try dsimp only);exact Za);(intro w hw;exact zcF _ _ w b _ _ _ [Pt.str wCalm,Pt.str (ynB k3)] hw hT hoff (by(try simp only[List.length_append,List.length_cons,List.length_nil]);omega) (by simp only[List.length_cons,List.length_nil];omega) (zaC (p:=Pt.str wCalm) (zbg Zi) (zaC (p:=Pt.str (ynB k3)) (zbg (yn_len k3)) zbY)) _ _ _ Zm rfl);exact rfl);exact Zh;(rintro _ _ ⟨⟨Ax,cx⟩,rfl,rfl⟩);(try refine⟨SUB,?_⟩))|fail)
  repeat' (first|refine Q0VdW ?_|refine Zha ?_|(refine Zhb ?_;intro g)|(refine Zg ?_ ?_<;>(intro h;try exact Zx))|refine GOF ?_ ?_|fail)
  all_goals first|(exfalso;omega)|skip
  (refine zc4 Tryz.results26 rfl (fun w' hw=>?_))
  refine⟨(Ax,cx),rfl,?_⟩
  rw[←List.append_assoc,←List.append_assoc]
  show Mem _ _ [zao 63 5 b Ax cx (l0++lnB (K.map Pt.word)++lnB (([Pt.str zdb,Pt.str (ynB k2)]:List Pt).map Pt.word)++lnB (([Pt.str wCalm,Pt.str (ynB k3)]:List Pt).map Pt.word))]
  exact(hw.anyN 0).sel Zl
end
end
section
open Go.RowKit Go.Lib
theorem zd5{p R:Prop}(r:R)(h:Rest R→p:=by intro r;(first|with_reducible (first|apply zcE|apply za9|apply zba|apply zbd|apply zbe)|((with_reducible (first|apply zaN|apply zaO));exact rfl;exact rfl;(with_reducible exact rfl)));(first|((with_reducible apply zbc);exact rfl)|exact QS.auto);exact rfl;exact r.out):p:=h ⟨r⟩
theorem zf3(ws:List Bs):([]:Bs)++lnB ws≠[]:=fun e=>by
 have:=congrArg List.length e
 unfold lnB at this
 simp at this
theorem zdm{l m:Bs}(h:l≠[]):l++m≠[]:=fun e=>h (List.append_eq_nil_iff.1 e).1
theorem zd6{α:Type}{enc:α→List Value}{M et c:Nat}{A:Option Addr}{ls:List α}{C:Ctx}{w:World}{S R:List Ent}(hw:Mem C w (S++R))(he:zac enc M et A c ls∈R):∀b o,A=some ⟨b,o,none⟩→b∉zbb S :=
 apart_of hw he fun b o e=>by
  show(Value.slice A ls.length c).ownBlock=some b
  rw[e];rfl
theorem two_len{a b:Bs}(ha:a.length≤100)(hb:b.length≤100):(lnB [a,b]).length≤203:=Nat.le_trans (zjS (ws:=[a,b]) (by
 intro x hx
 rcases List.mem_cons.1 hx with rfl|hx
 ·exact ha
 ·rw[List.mem_singleton.1 hx];exact hb)) (by show 2 * 101+1≤203;decide)
theorem witB_len(ts:List Int)(l:List Ev):(witB ts l).length≤3000:=by
 obtain⟨hsm,h9⟩:=zfn (ts:=ts) (l:=l) (F:=zax)
 unfold witB
 rw[←zhY]
 have h1:=zjS (ws:=(zbV (zbE ts l zax).isSome ((zbE ts l zax).getD [])).map Pt.word) (fun x hx=>by
  obtain⟨p,hp,rfl⟩:=List.mem_map.1 hx
  exact Pt.word_len (zhv _ hsm p hp))
 rw[List.length_map,zf2] at h1
 have h2:=two_len (a:=zdb) Zi (yn_len (zbE ts l zaX).isSome)
 have h3:=two_len (a:=wCalm) Zi (yn_len (zbE ts l zbw).isSome)
 rw[List.length_append,List.length_append]
 omega
section
variable (s:Bs)(W:World)(hs:s.length≤9223372036854775807)(hT:TxW W) 
include hs hT
theorem run_any:Calls Tryz.prog 7 #[bsv s] W fun e w'=>e=.returned (bsv (verdB s))∧Below W.heap.size W w':=by
 have hrd:=fun w h=>textRead_any s w hs h
 obtain⟨hsk,hsf,hTl,hEl,hT0⟩:=readR_bd s
 have hT1:(zbx s).2.2.2=0→1≤(zbx s).1.length:=fun h=>by
  have h1:=(zbJ (hT0 h)).1
  unfold zaG at h1
  rw[Bool.and_eq_true,decide_eq_true_eq] at h1
  exact h1.1.1
 unfold verdB
 obtain⟨⟨T,E,k,f⟩,hR⟩:∃r,r=zbx s:=⟨_,rfl⟩
 rw[←hR] at hrd hsk hsf hTl hEl hT1 ⊢
 dsimp only at hrd hsk hsf hTl hEl hT1 ⊢
 clear hR
 have hca:=fun A B c d w h1 h2=>za8 A B c d T E w Zo Zo h1 h2
 have hcl:=zbi T E
 refine zaj (S:=[]) [] Tryz.func7 rfl Tryz.ntmps7 Zj (Mem.nil _) ?_
 repeat' (first|refine zd5 ?_|refine Zha ?_|(refine Zhb ?_;intro g)|(refine Zg ?_ ?_<;>(intro h;try exact Zx))|refine GOF ?_ ?_|fail)
 obtain⟨gb,hgb⟩:∃x,x=g:=⟨_,rfl⟩
 subst hgb
 refine zdw (fun w hw=>bnew_mem (T8:=5) hw) ?_
 by_cases hf:f=0
 ·rw[if_neg (fun h=>h hf)]
  have hT1:=hT1 hf
  obtain⟨cs,hcs⟩:∃cs,cs=(zai T E).1:=⟨_,rfl⟩
  rw[←hcs] at hca hcl ⊢
  clear hcs hT0
  have hnl:(itoa (cs.length:Nat)).length≤8:=zaJ ⟨by omega,by omega⟩
  have hp1:(lnB (([Pt.str zcw,Pt.int (cs.length:Nat)]:List Pt).map Pt.word)).length≤203:=zjS (ws:=[zcw,itoa (cs.length:Nat)]) (by
   intro x hx
   rcases List.mem_cons.1 hx with rfl|hx
   ·decide
   ·rw[List.mem_singleton.1 hx];omega)
  have hwl:=witB_len T E
  by_cases h9:cs.length≤9
  ·rw[if_pos h9]
   by_cases h1:T.length=1
   ·rw[if_pos h1,show T.getD 0 0=T[0] by rw[List.getD_eq_getElem?_getD,List.getElem?_eq_getElem Zo];rfl]
    repeat' (first|refine zd5 ?_|refine Zha ?_|(refine Zhb ?_;intro g)|(refine Zg ?_ ?_<;>(intro h;try exact Zx))|refine GOF ?_ ?_|((with_reducible (first|apply zaa|apply TD_e3z|apply zan|apply zaf|apply zae));((with_reducible apply zar (f:=23) (X:=(Option Addr×Nat)×(Option Addr×Nat)) (S1:=[]) (fun x=>.tuple #[.slice x.1.1 T.length x.1.2,.slice x.2.1 E.length x.2.2,.int .i64 k,.int .i64 f]) (fun x=>[zac zag 1 3 x.1.1 x.1.2 T,zac Ev.enc 4 95 x.2.1 x.2.2 E]));exact rfl;exact Zp;(intro x;(try dsimp only);exact Za);(intro w hw;exact hrd w (hT.keeps hw.keeps zaQ));exact rfl);exact Zh;(rintro _ _ ⟨⟨⟨R1,r1⟩,⟨R2,r2⟩⟩,rfl,rfl⟩);(try refine⟨SUB,?_⟩))|((with_reducible (first|apply zaa|apply TD_e3z|apply zan|apply zaf|apply zae));((with_reducible apply zal (f:=12));exact rfl;(intro w hw;exact hca R1 R2 r1 r2 w (hw.ownRd Zm (fun _=>rfl)) (hw.ownRd Zm (fun _=>rfl)));exact rfl);exact Zh;(rintro _ _ ⟨A5,c5,rfl,rfl⟩);(try refine⟨SUB,?_⟩))|fail)
    all_goals first|(exfalso;contradiction)|skip
    (first|((with_reducible (first|apply zaa|apply TD_e3z|apply zan|apply zaf|apply zae));((with_reducible apply zar (f:=24) (X:=Option Addr×Nat) (S1:=[zao 63 5 gb _ _ _]) (fun _=>.tuple #[]) (fun x=>[zao 63 5 gb x.1 x.2 (_++lnB (([Pt.str zcw,Pt.int (cs.length:Nat)]:List Pt).map Pt.word))]));exact rfl;exact Zp;(intro x;(try dsimp only);exact Za);(intro w hw;exact zcF _ _ w gb _ _ _ [Pt.str zcw,Pt.int (cs.length:Nat)] hw hT zaQ (by(try simp only[List.length_append,List.length_cons,List.length_nil]);omega) (by simp only[List.length_cons,List.length_nil];omega) (zaC (p:=Pt.str zcw) (zbg Zi) (zaC (p:=Pt.int (cs.length:Nat)) (by show smI _;unfold smI;omega) zbY)) _ _ _ Zm rfl);exact rfl);exact Zh;(rintro _ _ ⟨⟨Ax,cx⟩,rfl,rfl⟩);(try refine⟨SUB,?_⟩))|fail)
    repeat' (first|refine zd5 ?_|refine Zha ?_|(refine Zhb ?_;intro g)|(refine Zg ?_ ?_<;>(intro h;try exact Zx))|refine GOF ?_ ?_|((with_reducible (first|apply zaa|apply TD_e3z|apply zan|apply zaf|apply zae));((with_reducible apply zar (f:=26) (X:=Option Addr×Nat) (S1:=[zao 63 5 gb _ _ _]) (fun _=>.tuple #[]) (fun x=>[zao 63 5 gb x.1 x.2 (_++witB T E)]));exact rfl;exact Zp;(intro x;(try dsimp only);exact Za);(intro w hw;exact zgM gb _ _ _ _ _ _ _ T E w (hT.keeps hw.keeps zaQ) (zbX hT zaQ hw) (by(try simp only[List.length_append,List.length_cons,List.length_nil]);omega) Zo Zo (hw.ownRd (et:=3) Zm (fun _=>rfl)) (hw.ownRd (et:=95) Zm (fun _=>rfl)) (zd6 (enc:=zag) (et:=3) hw Zm) (zd6 (enc:=Ev.enc) (et:=95) hw Zm) 0 (hw.self 0));exact rfl);exact Zh;(rintro _ _ ⟨⟨Ax,cx⟩,rfl,rfl⟩);(try refine⟨SUB,?_⟩))|fail)
    all_goals first|(exfalso;omega)|skip
    refine zhF (enc:=zag) (ls:=T) Zm Zo ?_
    rintro gT rfl
    repeat' (first|refine zd5 ?_|refine Zha ?_|(refine Zhb ?_;intro g)|(refine Zg ?_ ?_<;>(intro h;try exact Zx))|refine GOF ?_ ?_|fail)
    (first|((with_reducible (first|apply zaa|apply TD_e3z|apply zan|apply zaf|apply zae));((with_reducible apply zar (f:=27) (X:=Option Addr×Nat) (S1:=[zao 63 5 gb _ _ _]) (fun _=>.tuple #[]) (fun x=>[zao 63 5 gb x.1 x.2 (_++zbU T[0] E)]));exact rfl;exact Zp;(intro x;(try dsimp only);exact Za);(intro w hw;exact single_mem gb _ _ _ _ _ E w (hT.keeps hw.keeps zaQ) (zbX hT zaQ hw) (by(try simp only[List.length_append,List.length_cons,List.length_nil]);omega) Zo (hw.ownRd (et:=95) Zm (fun _=>rfl)) (zd6 (enc:=Ev.enc) (et:=95) hw Zm) 0 (hw.self 0) T[0]);exact rfl);exact Zh;(rintro _ _ ⟨⟨Ax,cx⟩,rfl,rfl⟩);(try refine⟨SUB,?_⟩))|fail)
    repeat' (first|refine zd5 ?_|refine Zha ?_|(refine Zhb ?_;intro g)|(refine Zg ?_ ?_<;>(intro h;try exact Zx))|refine GOF ?_ ?_|fail)
    (first|((with_reducible (first|apply zaa|apply TD_e3z|apply zan|apply zaf|apply zae));((with_reducible apply zar (f:=25) (X:=Unit) (S1:=[zao 63 5 gb _ _ _]) (fun _=>bsv _) (fun _=>[zao 63 5 gb _ _ _]));exact rfl;exact Zp;(intro x;(try dsimp only);exact Za);(intro w hw;exact(zda _ (by first|exact zf3 _|exact zdm (zf3 _)|exact zdm (zdm (zf3 _))) gb _ _ w (hw.holds _ List.mem_cons_self).1).mono fun _ _ h=>⟨(),h⟩);exact rfl);exact Zh;(rintro _ _ ⟨_,rfl,rfl⟩);(try refine⟨SUB,?_⟩))|fail)
    repeat' (first|refine zd5 ?_|refine Zha ?_|(refine Zhb ?_;intro g)|(refine Zg ?_ ?_<;>(intro h;try exact Zx))|refine GOF ?_ ?_|fail)
    (refine zah Tryz.results7 rfl (fun w' hw=>?_))
    exact⟨rfl,hw.below0 rfl⟩
   ·rw[if_neg h1,List.append_nil]
    repeat' (first|refine zd5 ?_|refine Zha ?_|(refine Zhb ?_;intro g)|(refine Zg ?_ ?_<;>(intro h;try exact Zx))|refine GOF ?_ ?_|((with_reducible (first|apply zaa|apply TD_e3z|apply zan|apply zaf|apply zae));((with_reducible apply zar (f:=23) (X:=(Option Addr×Nat)×(Option Addr×Nat)) (S1:=[]) (fun x=>.tuple #[.slice x.1.1 T.length x.1.2,.slice x.2.1 E.length x.2.2,.int .i64 k,.int .i64 f]) (fun x=>[zac zag 1 3 x.1.1 x.1.2 T,zac Ev.enc 4 95 x.2.1 x.2.2 E]));exact rfl;exact Zp;(intro x;(try dsimp only);exact Za);(intro w hw;exact hrd w (hT.keeps hw.keeps zaQ));exact rfl);exact Zh;(rintro _ _ ⟨⟨⟨R1,r1⟩,⟨R2,r2⟩⟩,rfl,rfl⟩);(try refine⟨SUB,?_⟩))|((with_reducible (first|apply zaa|apply TD_e3z|apply zan|apply zaf|apply zae));((with_reducible apply zal (f:=12));exact rfl;(intro w hw;exact hca R1 R2 r1 r2 w (hw.ownRd Zm (fun _=>rfl)) (hw.ownRd Zm (fun _=>rfl)));exact rfl);exact Zh;(rintro _ _ ⟨A5,c5,rfl,rfl⟩);(try refine⟨SUB,?_⟩))|fail)
    all_goals first|(exfalso;contradiction)|skip
    (first|((with_reducible (first|apply zaa|apply TD_e3z|apply zan|apply zaf|apply zae));((with_reducible apply zar (f:=24) (X:=Option Addr×Nat) (S1:=[zao 63 5 gb _ _ _]) (fun _=>.tuple #[]) (fun x=>[zao 63 5 gb x.1 x.2 (_++lnB (([Pt.str zcw,Pt.int (cs.length:Nat)]:List Pt).map Pt.word))]));exact rfl;exact Zp;(intro x;(try dsimp only);exact Za);(intro w hw;exact zcF _ _ w gb _ _ _ [Pt.str zcw,Pt.int (cs.length:Nat)] hw hT zaQ (by(try simp only[List.length_append,List.length_cons,List.length_nil]);omega) (by simp only[List.length_cons,List.length_nil];omega) (zaC (p:=Pt.str zcw) (zbg Zi) (zaC (p:=Pt.int (cs.length:Nat)) (by show smI _;unfold smI;omega) zbY)) _ _ _ Zm rfl);exact rfl);exact Zh;(rintro _ _ ⟨⟨Ax,cx⟩,rfl,rfl⟩);(try refine⟨SUB,?_⟩))|fail)
    repeat' (first|refine zd5 ?_|refine Zha ?_|(refine Zhb ?_;intro g)|(refine Zg ?_ ?_<;>(intro h;try exact Zx))|refine GOF ?_ ?_|((with_reducible (first|apply zaa|apply TD_e3z|apply zan|apply zaf|apply zae));((with_reducible apply zar (f:=26) (X:=Option Addr×Nat) (S1:=[zao 63 5 gb _ _ _]) (fun _=>.tuple #[]) (fun x=>[zao 63 5 gb x.1 x.2 (_++witB T E)]));exact rfl;exact Zp;(intro x;(try dsimp only);exact Za);(intro w hw;exact zgM gb _ _ _ _ _ _ _ T E w (hT.keeps hw.keeps zaQ) (zbX hT zaQ hw) (by(try simp only[List.length_append,List.length_cons,List.length_nil]);omega) Zo Zo (hw.ownRd (et:=3) Zm (fun _=>rfl)) (hw.ownRd (et:=95) Zm (fun _=>rfl)) (zd6 (enc:=zag) (et:=3) hw Zm) (zd6 (enc:=Ev.enc) (et:=95) hw Zm) 0 (hw.self 0));exact rfl);exact Zh;(rintro _ _ ⟨⟨Ax,cx⟩,rfl,rfl⟩);(try refine⟨SUB,?_⟩))|fail)
    all_goals first|(exfalso;omega)|skip
    (first|((with_reducible (first|apply zaa|apply TD_e3z|apply zan|apply zaf|apply zae));((with_reducible apply zar (f:=25) (X:=Unit) (S1:=[zao 63 5 gb _ _ _]) (fun _=>bsv _) (fun _=>[zao 63 5 gb _ _ _]));exact rfl;exact Zp;(intro x;(try dsimp only);exact Za);(intro w hw;exact(zda _ (by first|exact zf3 _|exact zdm (zf3 _)|exact zdm (zdm (zf3 _))) gb _ _ w (hw.holds _ List.mem_cons_self).1).mono fun _ _ h=>⟨(),h⟩);exact rfl);exact Zh;(rintro _ _ ⟨_,rfl,rfl⟩);(try refine⟨SUB,?_⟩))|fail)
    repeat' (first|refine zd5 ?_|refine Zha ?_|(refine Zhb ?_;intro g)|(refine Zg ?_ ?_<;>(intro h;try exact Zx))|refine GOF ?_ ?_|fail)
    (refine zah Tryz.results7 rfl (fun w' hw=>?_))
    exact⟨rfl,hw.below0 rfl⟩
  ·rw[if_neg h9,List.append_nil]
   by_cases h1:T.length=1
   ·rw[if_pos h1,show T.getD 0 0=T[0] by rw[List.getD_eq_getElem?_getD,List.getElem?_eq_getElem Zo];rfl]
    repeat' (first|refine zd5 ?_|refine Zha ?_|(refine Zhb ?_;intro g)|(refine Zg ?_ ?_<;>(intro h;try exact Zx))|refine GOF ?_ ?_|((with_reducible (first|apply zaa|apply TD_e3z|apply zan|apply zaf|apply zae));((with_reducible apply zar (f:=23) (X:=(Option Addr×Nat)×(Option Addr×Nat)) (S1:=[]) (fun x=>.tuple #[.slice x.1.1 T.length x.1.2,.slice x.2.1 E.length x.2.2,.int .i64 k,.int .i64 f]) (fun x=>[zac zag 1 3 x.1.1 x.1.2 T,zac Ev.enc 4 95 x.2.1 x.2.2 E]));exact rfl;exact Zp;(intro x;(try dsimp only);exact Za);(intro w hw;exact hrd w (hT.keeps hw.keeps zaQ));exact rfl);exact Zh;(rintro _ _ ⟨⟨⟨R1,r1⟩,⟨R2,r2⟩⟩,rfl,rfl⟩);(try refine⟨SUB,?_⟩))|((with_reducible (first|apply zaa|apply TD_e3z|apply zan|apply zaf|apply zae));((with_reducible apply zal (f:=12));exact rfl;(intro w hw;exact hca R1 R2 r1 r2 w (hw.ownRd Zm (fun _=>rfl)) (hw.ownRd Zm (fun _=>rfl)));exact rfl);exact Zh;(rintro _ _ ⟨A5,c5,rfl,rfl⟩);(try refine⟨SUB,?_⟩))|fail)
    all_goals first|(exfalso;contradiction)|skip
    (first|((with_reducible (first|apply zaa|apply TD_e3z|apply zan|apply zaf|apply zae));((with_reducible apply zar (f:=24) (X:=Option Addr×Nat) (S1:=[zao 63 5 gb _ _ _]) (fun _=>.tuple #[]) (fun x=>[zao 63 5 gb x.1 x.2 (_++lnB (([Pt.str zcw,Pt.int (cs.length:Nat)]:List Pt).map Pt.word))]));exact rfl;exact Zp;(intro x;(try dsimp only);exact Za);(intro w hw;exact zcF _ _ w gb _ _ _ [Pt.str zcw,Pt.int (cs.length:Nat)] hw hT zaQ (by(try simp only[List.length_append,List.length_cons,List.length_nil]);omega) (by simp only[List.length_cons,List.length_nil];omega) (zaC (p:=Pt.str zcw) (zbg Zi) (zaC (p:=Pt.int (cs.length:Nat)) (by show smI _;unfold smI;omega) zbY)) _ _ _ Zm rfl);exact rfl);exact Zh;(rintro _ _ ⟨⟨Ax,cx⟩,rfl,rfl⟩);(try refine⟨SUB,?_⟩))|fail)
    repeat' (first|refine zd5 ?_|refine Zha ?_|(refine Zhb ?_;intro g)|(refine Zg ?_ ?_<;>(intro h;try exact Zx))|refine GOF ?_ ?_|fail)
    all_goals first|(exfalso;omega)|skip
    refine zhF (enc:=zag) (ls:=T) Zm Zo ?_
    rintro gT rfl
    repeat' (first|refine zd5 ?_|refine Zha ?_|(refine Zhb ?_;intro g)|(refine Zg ?_ ?_<;>(intro h;try exact Zx))|refine GOF ?_ ?_|fail)
    (first|((with_reducible (first|apply zaa|apply TD_e3z|apply zan|apply zaf|apply zae));((with_reducible apply zar (f:=27) (X:=Option Addr×Nat) (S1:=[zao 63 5 gb _ _ _]) (fun _=>.tuple #[]) (fun x=>[zao 63 5 gb x.1 x.2 (_++zbU T[0] E)]));exact rfl;exact Zp;(intro x;(try dsimp only);exact Za);(intro w hw;exact single_mem gb _ _ _ _ _ E w (hT.keeps hw.keeps zaQ) (zbX hT zaQ hw) (by(try simp only[List.length_append,List.length_cons,List.length_nil]);omega) Zo (hw.ownRd (et:=95) Zm (fun _=>rfl)) (zd6 (enc:=Ev.enc) (et:=95) hw Zm) 0 (hw.self 0) T[0]);exact rfl);exact Zh;(rintro _ _ ⟨⟨Ax,cx⟩,rfl,rfl⟩);(try refine⟨SUB,?_⟩))|fail)
    repeat' (first|refine zd5 ?_|refine Zha ?_|(refine Zhb ?_;intro g)|(refine Zg ?_ ?_<;>(intro h;try exact Zx))|refine GOF ?_ ?_|fail)
    (first|((with_reducible (first|apply zaa|apply TD_e3z|apply zan|apply zaf|apply zae));((with_reducible apply zar (f:=25) (X:=Unit) (S1:=[zao 63 5 gb _ _ _]) (fun _=>bsv _) (fun _=>[zao 63 5 gb _ _ _]));exact rfl;exact Zp;(intro x;(try dsimp only);exact Za);(intro w hw;exact(zda _ (by first|exact zf3 _|exact zdm (zf3 _)|exact zdm (zdm (zf3 _))) gb _ _ w (hw.holds _ List.mem_cons_self).1).mono fun _ _ h=>⟨(),h⟩);exact rfl);exact Zh;(rintro _ _ ⟨_,rfl,rfl⟩);(try refine⟨SUB,?_⟩))|fail)
    repeat' (first|refine zd5 ?_|refine Zha ?_|(refine Zhb ?_;intro g)|(refine Zg ?_ ?_<;>(intro h;try exact Zx))|refine GOF ?_ ?_|fail)
    (refine zah Tryz.results7 rfl (fun w' hw=>?_))
    exact⟨rfl,hw.below0 rfl⟩
   ·rw[if_neg h1,List.append_nil]
    repeat' (first|refine zd5 ?_|refine Zha ?_|(refine Zhb ?_;intro g)|(refine Zg ?_ ?_<;>(intro h;try exact Zx))|refine GOF ?_ ?_|((with_reducible (first|apply zaa|apply TD_e3z|apply zan|apply zaf|apply zae));((with_reducible apply zar (f:=23) (X:=(Option Addr×Nat)×(Option Addr×Nat)) (S1:=[]) (fun x=>.tuple #[.slice x.1.1 T.length x.1.2,.slice x.2.1 E.length x.2.2,.int .i64 k,.int .i64 f]) (fun x=>[zac zag 1 3 x.1.1 x.1.2 T,zac Ev.enc 4 95 x.2.1 x.2.2 E]));exact rfl;exact Zp;(intro x;(try dsimp only);exact Za);(intro w hw;exact hrd w (hT.keeps hw.keeps zaQ));exact rfl);exact Zh;(rintro _ _ ⟨⟨⟨R1,r1⟩,⟨R2,r2⟩⟩,rfl,rfl⟩);(try refine⟨SUB,?_⟩))|((with_reducible (first|apply zaa|apply TD_e3z|apply zan|apply zaf|apply zae));((with_reducible apply zal (f:=12));exact rfl;(intro w hw;exact hca R1 R2 r1 r2 w (hw.ownRd Zm (fun _=>rfl)) (hw.ownRd Zm (fun _=>rfl)));exact rfl);exact Zh;(rintro _ _ ⟨A5,c5,rfl,rfl⟩);(try refine⟨SUB,?_⟩))|fail)
    all_goals first|(exfalso;contradiction)|skip
    (first|((with_reducible (first|apply zaa|apply TD_e3z|apply zan|apply zaf|apply zae));((with_reducible apply zar (f:=24) (X:=Option Addr×Nat) (S1:=[zao 63 5 gb _ _ _]) (fun _=>.tuple #[]) (fun x=>[zao 63 5 gb x.1 x.2 (_++lnB (([Pt.str zcw,Pt.int (cs.length:Nat)]:List Pt).map Pt.word))]));exact rfl;exact Zp;(intro x;(try dsimp only);exact Za);(intro w hw;exact zcF _ _ w gb _ _ _ [Pt.str zcw,Pt.int (cs.length:Nat)] hw hT zaQ (by(try simp only[List.length_append,List.length_cons,List.length_nil]);omega) (by simp only[List.length_cons,List.length_nil];omega) (zaC (p:=Pt.str zcw) (zbg Zi) (zaC (p:=Pt.int (cs.length:Nat)) (by show smI _;unfold smI;omega) zbY)) _ _ _ Zm rfl);exact rfl);exact Zh;(rintro _ _ ⟨⟨Ax,cx⟩,rfl,rfl⟩);(try refine⟨SUB,?_⟩))|fail)
    repeat' (first|refine zd5 ?_|refine Zha ?_|(refine Zhb ?_;intro g)|(refine Zg ?_ ?_<;>(intro h;try exact Zx))|refine GOF ?_ ?_|fail)
    all_goals first|(exfalso;omega)|skip
    (first|((with_reducible (first|apply zaa|apply TD_e3z|apply zan|apply zaf|apply zae));((with_reducible apply zar (f:=25) (X:=Unit) (S1:=[zao 63 5 gb _ _ _]) (fun _=>bsv _) (fun _=>[zao 63 5 gb _ _ _]));exact rfl;exact Zp;(intro x;(try dsimp only);exact Za);(intro w hw;exact(zda _ (by first|exact zf3 _|exact zdm (zf3 _)|exact zdm (zdm (zf3 _))) gb _ _ w (hw.holds _ List.mem_cons_self).1).mono fun _ _ h=>⟨(),h⟩);exact rfl);exact Zh;(rintro _ _ ⟨_,rfl,rfl⟩);(try refine⟨SUB,?_⟩))|fail)
    repeat' (first|refine zd5 ?_|refine Zha ?_|(refine Zhb ?_;intro g)|(refine Zg ?_ ?_<;>(intro h;try exact Zx))|refine GOF ?_ ?_|fail)
    (refine zah Tryz.results7 rfl (fun w' hw=>?_))
    exact⟨rfl,hw.below0 rfl⟩
 ·rw[if_pos hf]
  repeat' (first|refine zd5 ?_|refine Zha ?_|(refine Zhb ?_;intro g)|(refine Zg ?_ ?_<;>(intro h;try exact Zx))|refine GOF ?_ ?_|((with_reducible (first|apply zaa|apply TD_e3z|apply zan|apply zaf|apply zae));((with_reducible apply zar (f:=23) (X:=(Option Addr×Nat)×(Option Addr×Nat)) (S1:=[]) (fun x=>.tuple #[.slice x.1.1 T.length x.1.2,.slice x.2.1 E.length x.2.2,.int .i64 k,.int .i64 f]) (fun x=>[zac zag 1 3 x.1.1 x.1.2 T,zac Ev.enc 4 95 x.2.1 x.2.2 E]));exact rfl;exact Zp;(intro x;(try dsimp only);exact Za);(intro w hw;exact hrd w (hT.keeps hw.keeps zaQ));exact rfl);exact Zh;(rintro _ _ ⟨⟨⟨R1,r1⟩,⟨R2,r2⟩⟩,rfl,rfl⟩);(try refine⟨SUB,?_⟩))|fail)
  all_goals first|(exfalso;contradiction)|skip
  (first|((with_reducible (first|apply zaa|apply TD_e3z|apply zan|apply zaf|apply zae));((with_reducible apply zar (f:=24) (X:=Option Addr×Nat) (S1:=[zao 63 5 gb _ _ _]) (fun _=>.tuple #[]) (fun x=>[zao 63 5 gb x.1 x.2 (_++lnB (([Pt.str wError,Pt.err f,Pt.int k]:List Pt).map Pt.word))]));exact rfl;exact Zp;(intro x;(try dsimp only);exact Za);(intro w hw;exact zcF _ _ w gb _ _ _ [Pt.str wError,Pt.err f,Pt.int k] hw hT zaQ (by(try simp only[List.length_append,List.length_cons,List.length_nil]);omega) (by simp only[List.length_cons,List.length_nil];omega) (zaC (p:=Pt.str wError) (zbg Zi) (zaC (p:=Pt.err f) hsf (zaC (p:=Pt.int k) hsk zbY))) _ _ _ Zm rfl);exact rfl);exact Zh;(rintro _ _ ⟨⟨Ax,cx⟩,rfl,rfl⟩);(try refine⟨SUB,?_⟩))|fail)
  repeat' (first|refine zd5 ?_|refine Zha ?_|(refine Zhb ?_;intro g)|(refine Zg ?_ ?_<;>(intro h;try exact Zx))|refine GOF ?_ ?_|fail)
  (first|((with_reducible (first|apply zaa|apply TD_e3z|apply zan|apply zaf|apply zae));((with_reducible apply zar (f:=25) (X:=Unit) (S1:=[zao 63 5 gb _ _ _]) (fun _=>bsv _) (fun _=>[zao 63 5 gb _ _ _]));exact rfl;exact Zp;(intro x;(try dsimp only);exact Za);(intro w hw;exact(zda _ (by first|exact zf3 _|exact zdm (zf3 _)|exact zdm (zdm (zf3 _))) gb _ _ w (hw.holds _ List.mem_cons_self).1).mono fun _ _ h=>⟨(),h⟩);exact rfl);exact Zh;(rintro _ _ ⟨_,rfl,rfl⟩);(try refine⟨SUB,?_⟩))|fail)
  repeat' (first|refine zd5 ?_|refine Zha ?_|(refine Zhb ?_;intro g)|(refine Zg ?_ ?_<;>(intro h;try exact Zx))|refine GOF ?_ ?_|fail)
  (refine zah Tryz.results7 rfl (fun w' hw=>?_))
  exact⟨rfl,hw.below0 rfl⟩
end
end
end Go.Proofs.YtjdckepbihcgfaaGreatDoor
