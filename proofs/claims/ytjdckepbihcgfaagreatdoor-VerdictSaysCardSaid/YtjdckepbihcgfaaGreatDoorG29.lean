/- Lemmas for the walks (Rw2, Rw3, Rw4, Rw5). No condition. -/
import Derived.Test.YtjdckepbihcgfaaGreatDoorG28
set_option linter.unusedSimpArgs false
set_option linter.unusedVariables false
set_option linter.unusedSectionVars false
set_option linter.unnecessarySimpa false
set_option maxRecDepth 100000
set_option maxHeartbeats 8000000
namespace Go.Proofs.YtjdckepbihcgfaaGreatDoor
section
open Go.RowKit Go.Shelf Go.Lib Go.Sort
theorem Q0Rw2{p R:Prop}(r:R)(h:Rest R→p:=by intro r;(first|with_reducible (first|apply zcE|apply za9|apply zba|apply zbd|apply zbe)|((with_reducible (first|apply zaN|apply zaO));exact rfl;exact rfl;(with_reducible exact rfl)));(first|((with_reducible apply za1);exact rfl;(apply Lds.old;assumption;simp;assumption))|((with_reducible apply zeo);exact rfl;exact rfl)|((with_reducible apply zeq);exact rfl;exact rfl)|((with_reducible apply zen);exact rfl;exact rfl)|((with_reducible apply zep);exact rfl;exact rfl)|exact QS.auto);exact rfl;exact r.out):p:=h ⟨r⟩
instance : PtrT Tryz.prog 216:=⟨by kernel_rfl⟩
theorem find1_any(r:Rvl)(n:Int)(b1:Nat)(w:World)(h1:b1<w.heap.size)(hc1:w.cell? ⟨b1,0,none⟩=some (.int .i64 n)):
  Calls Tryz.prog 186 #[.agg (Rvl.enc r).toArray,.pointer (some ⟨b1,0,none⟩)] w fun e w'=>e=.returned (.bool (decide (r.n=n)))∧Below w.heap.size w w':=by
 refine zaj (S:=[]) [] Tryz.func186 rfl Tryz.ntmps186 Zj (Mem.nil _) ?_
 repeat' (first|refine Q0Rw2 ?_|refine Zga ?_|(refine Zgb ?_;intro g)|(refine Zg ?_ ?_<;>(intro h;try exact Zx))|fail)
 refine zah Tryz.results186 rfl (fun w' hw=>?_)
 exact⟨rfl,hw.below0 rfl⟩
section
variable (gl:Nat)(A V:Option Addr)(n0 ca cv:Nat)(vs:List Rvl)(n:Int)(w:World)(hL:Blk w gl 215 #[.slice A n0 ca,.slice V vs.length cv])(hV:RdE Rvl.enc 3 w V vs)(hl:vs.length≤2000) 
include hL hV hl
theorem zjN(g3:Nat)(S:List Ent)(w1:World)(hw:Mem ⟨20,[],w⟩ w1 S)(m3:zak g3 3 #[.int .i64 n]∈S):
  Calls Tryz.prog 185 #[.slice V vs.length cv,.func (.func 186) #[] [.pointer (some ⟨g3,0,none⟩)].toArray] w1 fun e w'=>e=.returned (.int .i64 (idxF (fun r:Rvl=>decide (r.n=n)) vs))∧Below w1.heap.size w1 w':=by
 have b3:Blk w1 g3 3 #[.int .i64 n]:=(hw.holds _ m3).1
 exact indexRvl_any 186 (fun r=>decide (r.n=n)) [.pointer (some ⟨g3,0,none⟩)] V cv vs w1 (hw.rd rfl hV) Zo (fun s _ w2 h2=>find1_any s n g3 w2 (b3.carry h2).lt ((b3.carry h2).cell 0))
theorem find_no(hno:∀r∈vs,r.n≠n):Calls Tryz.prog 152 #[.pointer (some ⟨gl,0,none⟩),.int .i64 n] w fun e w'=>e=.returned (.pointer none)∧Below w.heap.size w w':=by
 have hlt:=hL.lt
 have hl1:w.cell? ⟨gl,1,none⟩=some (.slice V vs.length cv):=hL.cell 1
 have hfi:=zjN gl A V n0 ca cv vs n w hL hV hl
 have hix:idxF (fun r:Rvl=>decide (r.n=n)) vs=-1:=zjK (by
  rw[List.any_eq_false]
  intro r hr
  simp[hno r hr])
 rw[hix] at hfi
 refine zaj (S:=[]) [] Tryz.func152 rfl Tryz.ntmps152 Zj (Mem.nil _) ?_
 repeat' (first|refine Q0Rw2 ?_|refine Zga ?_|(refine Zgb ?_;intro g)|(refine Zg ?_ ?_<;>(intro h;try exact Zx))|((with_reducible (first|apply zaa|apply TD_e3z|apply zan|apply zaf|apply zae));((with_reducible apply zad (f:=185) (v:=.int .i64 (-1)));exact rfl;(intro w1 hw;exact hfi _ _ w1 hw Zm);exact rfl);exact Zh;(rintro _ _ ⟨rfl,rfl⟩);(try refine⟨SUB,?_⟩))|fail)
 (refine zah Tryz.results152 rfl (fun w' hw=>?_))
 exact⟨rfl,hw.below0 rfl⟩
theorem zgI(q:Nat)(hq:q<vs.length)(hnD:(vs.getD q default).n=n)(hminD:∀j,j<q→(vs.getD j default).n≠n)(b o:Nat)(hVb:V=some ⟨b,o,none⟩):Calls Tryz.prog 152 #[.pointer (some ⟨gl,0,none⟩),.int .i64 n] w fun e w'=>e=.returned (.pointer (some ⟨b,o+q * 3,none⟩))∧Below w.heap.size w w':=by
 subst hVb
 have hn:vs[q].n=n:=by have e:vs.getD q default=vs[q]:=(by simp[hq]);rw[←e];exact hnD
 have hmin:∀j (hj:j<q),(vs[j]'(by omega)).n≠n:=fun j hj=>by
  have h2:=hminD j hj
  rwa [show vs.getD j default=vs[j]'(by omega) by simp[show j<vs.length by omega]] at h2
 have hlt:=hL.lt
 have hl1:w.cell? ⟨gl,1,none⟩=some (.slice (some ⟨b,o,none⟩) vs.length cv):=hL.cell 1
 have hfi:=zjN gl A (some ⟨b,o,none⟩) n0 ca cv vs n w hL hV hl
 have hix:idxF (fun r:Rvl=>decide (r.n=n)) vs=(q:Int):=zjJ hq (by
  rw[List.any_eq_false]
  intro r hr
  rw[List.mem_take_iff_getElem] at hr
  obtain⟨j,hj,rfl⟩:=hr
  simp[hmin j Zo]) (by simp[hn])
 rw[hix] at hfi
 refine zaj (S:=[]) [] Tryz.func152 rfl Tryz.ntmps152 Zj (Mem.nil _) ?_
 repeat' (first|refine Q0Rw2 ?_|refine Zga ?_|(refine Zgb ?_;intro g)|(refine Zg ?_ ?_<;>(intro h;try exact Zx))|((with_reducible (first|apply zaa|apply TD_e3z|apply zan|apply zaf|apply zae));((with_reducible apply zad (f:=185) (v:=.int .i64 (q:Int)));exact rfl;(intro w1 hw;exact hfi _ _ w1 hw Zm);exact rfl);exact Zh;(rintro _ _ ⟨rfl,rfl⟩);(try refine⟨SUB,?_⟩))|fail)
 (refine zah Tryz.results152 rfl (fun w' hw=>?_))
 exact⟨rfl,hw.below0 rfl⟩
theorem find_yes0(q:Nat)(hq:q<vs.length)(hnD:(vs.getD q default).n=n)(hminD:∀j,j<q→(vs.getD j default).n≠n)(b:Nat)(hVb:V=some ⟨b,0,none⟩):Calls Tryz.prog 152 #[.pointer (some ⟨gl,0,none⟩),.int .i64 n] w fun e w'=>e=.returned (.pointer (some ⟨b,q * 3,none⟩))∧Below w.heap.size w w':=by
 have h:=zgI gl A V n0 ca cv vs n w hL hV hl q hq hnD hminD b 0 hVb
 rwa [Nat.zero_add] at h
end
theorem rvlCmp_any(x y:Rvl)(W:World)(hx:0≤x.n∧x.n≤1000)(hy:0≤y.n∧y.n≤1000):Calls Tryz.prog 154 #[.agg (Rvl.enc x).toArray,.agg (Rvl.enc y).toArray] W fun e w'=>e=.returned (.int .i64 (x.n-y.n))∧∃q os',w'=grow (W.drewN q) os':=by
 obtain⟨xc,xr,xd⟩:=x
 obtain⟨yc,yr,yd⟩:=y
 dsimp only at hx hy ⊢
 have hw:IntKind.i64.wrap (xc-yc)=xc-yc:=IntWalk.i64_in _ ⟨by omega,by omega⟩
 rw[show(Rvl.enc ⟨xc,xr,xd⟩).toArray=#[.int .i64 xc,.int .i64 xr,.int .i64 xd] from rfl,show(Rvl.enc ⟨yc,yr,yd⟩).toArray=#[.int .i64 yc,.int .i64 yr,.int .i64 yd] from rfl]
 go_enter Tryz.func154,Tryz.ntmps154
 go_wp2_with (fail)
 go_ret
 exact⟨by simp[hw],0,_,by rw[alloc_eq_grow,alloc_eq_grow,grow_grow];rfl⟩
theorem rvl_swo:SWO (ltOf fun x y:{x:Rvl // 0≤x.n∧x.n≤1000}=>x.1.n-y.1.n) where
 irrefl x:=by unfold ltOf;simp
 trans x y z h1 h2:=by unfold ltOf at *;simp at *;omega
 ntrans x y z h1 h2:=by unfold ltOf at *;simp at *;omega
theorem rvl_sort(A:Option Addr)(c:Nat)(ls:List Rvl)(w:World)(hp:∀x∈ls,0≤x.n∧x.n≤1000)(ho:Own Rvl.enc 3 219 w 0 (.slice A ls.length c) ls)(hsz:ls.length<4611686018427387904):
  Calls Tryz.prog 153 #[.slice A ls.length c,.func (.func 154) #[] #[]] w fun e w'=>∃x:zjI (fun x y:Rvl=>x.n-y.n) ls,e=.returned (.tuple #[])∧Mem ⟨0,zbb [zac Rvl.enc 3 219 A c ls],w⟩ w' [zac Rvl.enc 3 219 A c x.1]:=by
 have eg:∀args w,(callFunc 154 args).run Tryz.prog w=.ok (.enter 154 args) w:=enters_of Tryz.func154 (by kernel_rfl) rfl
 haveI:Inhabited {x:Rvl // 0≤x.n∧x.n≤1000}:=⟨⟨⟨0,0,0⟩,by decide⟩⟩
 exact sort_memP srtRvl (cb:=#[]) (p:=fun x:Rvl=>0≤x.n∧x.n≤1000) Tryz.isAgg219 Tryz.sizeOf219 (fun _=>rfl) (fun x v hv=>by simp[Rvl.enc] at hv;rcases hv with rfl|rfl|rfl<;>rfl) (fun x y=>x.n-y.n) rvl_swo eg (fun x y W hx hy=>by rw[show(#[Value.agg (Rvl.enc x).toArray,Value.agg (Rvl.enc y).toArray]++(#[]:Array Value))=#[Value.agg (Rvl.enc x).toArray,Value.agg (Rvl.enc y).toArray] from Array.append_empty];exact rvlCmp_any x y W hx hy) A c ls w hp ho hsz
end
section
open Go.RowKit
theorem zf0{p R:Prop}(r:R)(h:Rest R→p:=by intro r;(first|with_reducible (first|apply zcE|apply za9|apply zba|apply zbd|apply zbe)|((with_reducible (first|apply zaN|apply zaO));exact rfl;exact rfl;(with_reducible exact rfl)));(first|((with_reducible apply zeo);exact rfl;exact rfl)|((with_reducible apply zeq);exact rfl;exact rfl)|((with_reducible apply zen);exact rfl;exact rfl)|((with_reducible apply zep);exact rfl;exact rfl)|exact QS.auto);exact rfl;exact r.out):p:=h ⟨r⟩
structure RG where
 g:Nat
 A:Option Addr
 ca:Nat
 V:Option Addr
 cv:Nat
theorem enqL_mem{cs:List Cl}{k:Nat}{r:Rvl}:r∈zgS cs k↔∃i,i<k∧(clK cs i).kind=3∧r=⟨(clK cs i).arg,(i:Int),-1⟩:=by
 unfold zgS
 rw[List.mem_map]
 constructor
 ·rintro⟨i,hi,rfl⟩
  rw[List.mem_filter,List.mem_range] at hi
  exact⟨i,hi.1,of_decide_eq_true hi.2,rfl⟩
 ·rintro⟨i,h1,h2,rfl⟩
  exact⟨i,List.mem_filter.2 ⟨List.mem_range.2 h1,by simpa using h2⟩,rfl⟩
theorem enq_fresh{cs:List Cl}{k:Nat}(hb:zia cs k=false)(h3:(clK cs k).kind=3):∀r∈zgS cs k,r.n≠(clK cs k).arg:=by
 intro r hr
 obtain⟨i,h1,h2,rfl⟩:=enqL_mem.1 hr
 exact(zhq hb).2 h3 i h1 h2
theorem enq_again{cs:List Cl}{k:Nat}(hb:zia cs k=true)(h3:(clK cs k).kind=3):∃q,q<(zgS cs k).length∧((zgS cs k).getD q default).n=(clK cs k).arg∧∀j,j<q→((zgS cs k).getD j default).n≠(clK cs k).arg:=by
 unfold zia at hb
 rw[decide_eq_false Zo,Bool.false_and,Bool.false_or,decide_eq_true h3,Bool.true_and,List.any_eq_true] at hb
 obtain⟨i,hi,hp⟩:=hb
 rw[Bool.and_eq_true,decide_eq_true_eq,decide_eq_true_eq] at hp
 have hm:(⟨(clK cs i).arg,(i:Int),-1⟩:Rvl)∈zgS cs k:=enqL_mem.2 ⟨i,List.mem_range.1 hi,hp.1,rfl⟩
 have hex:∃r∈zgS cs k,(fun r:Rvl=>decide (r.n=(clK cs k).arg)) r=true:=⟨_,hm,by simpa using hp.2⟩
 have hlt:=List.findIdx_lt_length.2 hex
 refine⟨_,hlt,?_,fun j hj=>?_⟩
 ·have:=List.findIdx_getElem (w:=hlt)
  rw[List.getD_eq_getElem?_getD,List.getElem?_eq_getElem hlt]
  simpa using this
 ·have:=List.not_of_lt_findIdx hj
  rw[List.getD_eq_getElem?_getD,List.getElem?_eq_getElem Zo]
  simpa using this
section
variable (B0:Option Addr)(d0:Nat)(l:List Ev)(w:World)(hl:l.length≤9223372036854775807)(hA:RdEv w B0 l) 
include hl hA
theorem rwRead_err(h:¬(zai [2] l).2.2=0):Calls Tryz.prog 115 #[.slice B0 l.length d0] w fun e w'=>e=.returned (.tuple #[.pointer none,.int .i64 (zai [2] l).2.2])∧Below w.heap.size w w':=by
 have h1:=fun T w h1 h2=>za8 T B0 1 d0 [2] l w Zi hl h1 h2
 obtain⟨cs,y,z,hcr⟩:∃cs y z,zai [2] l=(cs,y,z):=⟨_,_,_,rfl⟩
 rw[hcr] at h1 h ⊢
 dsimp only at h1 h ⊢
 clear hcr
 refine zaj (S:=[]) [] Tryz.func115 rfl Tryz.ntmps115 Zj (Mem.nil _) ?_
 repeat' (first|((with_reducible refine zdw (S':=[zac zag 1 3 (some ⟨g,0,none⟩) 1 [2]]) (fun w hw=>Mem.asOwn (enc:=zag) (M:=1) [2] (Upd.here _ _ _) rfl (fun _=>rfl) Zi hw) ?_))|refine zf0 ?_|refine Zga ?_|(refine Zgb ?_;intro g)|(refine Zg ?_ ?_<;>(intro h;try exact Zx))|((with_reducible (first|apply zaa|apply TD_e3z|apply zan|apply zaf|apply zae));((with_reducible apply zal (f:=12));exact rfl;(intro w hw;exact h1 (some ⟨g,0,none⟩) w (hw.ownRd Zm (fun _=>rfl)) (hw.rd rfl hA));exact rfl);exact Zh;(rintro _ _ ⟨A1,c1,rfl,rfl⟩);(try refine⟨SUB,?_⟩))|fail)
 (refine zah Tryz.results115 rfl (fun w' hw=>?_))
 exact⟨rfl,hw.below0 rfl⟩
theorem rwRead_bad(h:(zai [2] l).2.2=0)(hbad:∃i,i<(zai [2] l).1.length∧zia (zai [2] l).1 i=true):Calls Tryz.prog 115 #[.slice B0 l.length d0] w fun e w'=>e=.returned (.tuple #[.pointer none,.int .i64 6])∧Below w.heap.size w w':=by
 have hall:=zit h
 have h1:=fun T w h1 h2=>za8 T B0 1 d0 [2] l w Zi hl h1 h2
 obtain⟨cs,y,z,hcr⟩:∃cs y z,zai [2] l=(cs,y,z):=⟨_,_,_,rfl⟩
 rw[hcr] at h1 h hall hbad
 dsimp only at h1 h hall hbad
 subst h
 clear hcr
 have hfew:=hall.few
 refine zaj (S:=[]) [] Tryz.func115 rfl Tryz.ntmps115 Zj (Mem.nil _) ?_
 repeat' (first|((with_reducible refine zdw (S':=[zac zag 1 3 (some ⟨g,0,none⟩) 1 [2]]) (fun w hw=>Mem.asOwn (enc:=zag) (M:=1) [2] (Upd.here _ _ _) rfl (fun _=>rfl) Zi hw) ?_))|refine zf0 ?_|refine Zga ?_|(refine Zgb ?_;intro g)|(refine Zg ?_ ?_<;>(intro h;try exact Zx))|((with_reducible (first|apply zaa|apply TD_e3z|apply zan|apply zaf|apply zae));((with_reducible apply zal (f:=12));exact rfl;(intro w hw;exact h1 (some ⟨g,0,none⟩) w (hw.ownRd Zm (fun _=>rfl)) (hw.rd rfl hA));exact rfl);exact Zh;(rintro _ _ ⟨A1,c1,rfl,rfl⟩);(try refine⟨SUB,?_⟩))|fail)
 obtain⟨gl,rfl⟩:∃x,x=g:=⟨_,rfl⟩
 refine zap (X:=Nat×Option Addr×Nat) (fun x=>[(28,.int .i64 (x.1:Nat)),(27,.int .i64 cs.length),(26,.slice A1 cs.length c1),(7,.pointer (some ⟨gl,0,none⟩)),(4,.slice A1 cs.length c1)]) (fun x=>[zak gl 215 #[.slice A1 cs.length c1,.slice x.2.1 (zgS cs x.1).length x.2.2],zac Cl.enc 7 36 A1 c1 cs,zac Rvl.enc 3 219 x.2.1 x.2.2 (zgS cs x.1)]) (fun x=>x.1≤cs.length∧∀i,i<x.1→zia cs i=false) (fun x=>cs.length-x.1) (0,none,0) ⟨by(try dsimp only);omega,fun i hi=>absurd hi (Nat.not_lt_zero _)⟩ Ze (fun w' hw=>by(show Mem _ w' [zak gl 215 #[.slice A1 cs.length c1,.slice none 0 0],zac Cl.enc 7 36 A1 c1 cs,zac Rvl.enc 3 219 none 0 ([]:List Rvl)]);exact(hw.nilOwn Rvl.enc 3 219).sel Zl) ?_
 rintro⟨k,PA,pc⟩ ⟨hk,hcl⟩
 dsimp only at hk hcl ⊢
 have hel:=enqL_len cs k
 by_cases hkl:k<cs.length
 ·have hck:=zay hkl
  have hes:=enqL_succ cs k
  have hkind:=hall.kind k hkl
  have hfr:=enq_fresh (cs:=cs) (k:=k)
  have hag:=enq_again (cs:=cs) (k:=k)
  have hcn:=zhq (cs:=cs) (i:=k)
  have hcb:zia cs k=true→(clK cs k).kind=4→(clK cs k).to=-1:=fun hb h4=>by
   unfold zia at hb
   rw[decide_eq_true h4,decide_eq_false (show ¬(clK cs k).kind=3 by omega)] at hb
   simpa using hb
  rw[hck] at hes hkind hfr hag hcn hcb
  refine zb1 (enc:=Cl.enc) (ls:=cs) Zm Zo ?_
  rintro gC rfl
  generalize zgS cs k=O at *
  cases hb:zia cs k with
  |false =>
   by_cases h3:cs[k].kind=3
   ·rw[if_pos h3] at hes
    have hfn:=hfr hb h3
    repeat' (first|refine zf0 ?_|refine Zha ?_|(refine Zhb ?_;intro g)|(refine Zg ?_ ?_<;>(intro h;try exact Zx))|refine GOF ?_ ?_|((with_reducible apply zam (id:=13) 10 (OT.seq [(0,0),(0,1),(0,2),(0,3),(0,5),(0,7),(1,4),(1,6),(0,8),(2,9),(3,10),(0,11),(0,12),(3,13)] .nil));kernel_rfl;exact rfl;kernel_rfl;exact Zd)|((with_reducible (first|apply zaa|apply TD_e3z|apply zan|apply zaf|apply zae));((with_reducible apply zad (f:=152));exact rfl;(intro w hw;exact find_no gl (some ⟨gC,0,none⟩) PA cs.length c1 pc O cs[k].arg w (hw.theBlk Zm) (hw.ownRd Zm (fun _=>rfl)) Zo hfn);exact rfl);exact Zh;(rintro _ _ ⟨rfl,rfl⟩);(try refine⟨SUB,?_⟩))|((with_reducible (first|apply zaa|apply TD_e3z|apply zan|apply zaf|apply zae));((with_reducible apply zaw (enc:=Rvl.enc) (xx:=⟨cs[k].arg,(k:Int),-1⟩));exact rfl;exact rfl;exact Zm;exact rfl;exact fun _=>rfl;exact fun _=>rfl;(intro A' c';exact Zu);(omega);decide;exact rfl);exact Zh;(rintro _ _ ⟨A',c',rfl,rfl⟩);(try refine⟨SUB,?_⟩))|fail)
    all_goals first|(exfalso;omega)|(apply zab (k+1,A',c');(case hE=>(try dsimp only);exact Ze);(case hS=>(try dsimp only);rw[hes];exact fun w' hw=>hw.sel Zl);(case hμ=>(try dsimp only);omega);(case hp=>exact⟨by(try dsimp only);omega,fun i hi=>(Nat.lt_succ_iff_lt_or_eq.1 hi).elim (fun e=>hcl i e) (fun e=>by subst e;exact hb)⟩))
   ·rw[if_neg h3] at hes
    have hto:=(hcn hb).1 Zo
    repeat' (first|refine zf0 ?_|refine Zga ?_|(refine Zgb ?_;intro g)|(refine Zg ?_ ?_<;>(intro h;try exact Zx))|fail)
    all_goals first|(exfalso;omega)|(apply zab (k+1,PA,pc);(case hE=>(try dsimp only);exact Ze);(case hS=>(try dsimp only);rw[hes];exact fun w' hw=>hw.sel Zl);(case hμ=>(try dsimp only);omega);(case hp=>exact⟨by(try dsimp only);omega,fun i hi=>(Nat.lt_succ_iff_lt_or_eq.1 hi).elim (fun e=>hcl i e) (fun e=>by subst e;exact hb)⟩))
  |true =>
   by_cases h3:cs[k].kind=3
   ·obtain⟨q,hq,hqn,hqm⟩:=hag hb h3
    refine zb1 (enc:=Rvl.enc) (ls:=O) Zm Zo ?_
    rintro gV rfl
    repeat' (first|refine zf0 ?_|refine Zga ?_|(refine Zgb ?_;intro g)|(refine Zg ?_ ?_<;>(intro h;try exact Zx))|((with_reducible (first|apply zaa|apply TD_e3z|apply zan|apply zaf|apply zae));((with_reducible apply zad (f:=152));exact rfl;(intro w hw;exact zgI gl (some ⟨gC,0,none⟩) (some ⟨gV,0,none⟩) cs.length c1 pc O cs[k].arg w (hw.theBlk Zm) (hw.ownRd Zm (fun _=>rfl)) Zo q hq hqn hqm gV 0 rfl);exact rfl);exact Zh;(rintro _ _ ⟨rfl,rfl⟩);(try refine⟨SUB,?_⟩))|fail)
    all_goals first|(exfalso;omega)|((refine zah Tryz.results115 rfl (fun w' hw=>?_));exact⟨rfl,hw.below0 rfl⟩)
   ·have hto:=hcb hb Zo
    repeat' (first|refine zf0 ?_|refine Zga ?_|(refine Zgb ?_;intro g)|(refine Zg ?_ ?_<;>(intro h;try exact Zx))|fail)
    all_goals first|(exfalso;omega)|((refine zah Tryz.results115 rfl (fun w' hw=>?_));exact⟨rfl,hw.below0 rfl⟩)
 ·exfalso
  obtain⟨i,h2,h3⟩:=hbad
  rw[hcl i Zo] at h3;cases h3
theorem rwRead_ok(h:(zai [2] l).2.2=0)(hgood:∀i,i<(zai [2] l).1.length→zia (zai [2] l).1 i=false):Calls Tryz.prog 115 #[.slice B0 l.length d0] w fun e w'=>∃L:RG,e=.returned (.tuple #[.pointer (some ⟨L.g,0,none⟩),.int .i64 0]) ∧
  Mem ⟨0,[],w⟩ w' [zak L.g 215 #[.slice L.A (zai [2] l).1.length L.ca,.slice L.V (zbh (zai [2] l).1 (zai [2] l).1.length).length L.cv],zac Cl.enc 7 36 L.A L.ca (zai [2] l).1,zac Rvl.enc 3 219 L.V L.cv (zbh (zai [2] l).1 (zai [2] l).1.length)]:=by
 have hall:=zit h
 have h1:=fun T w h1 h2=>za8 T B0 1 d0 [2] l w Zi hl h1 h2
 obtain⟨cs,y,z,hcr⟩:∃cs y z,zai [2] l=(cs,y,z):=⟨_,_,_,rfl⟩
 rw[hcr] at h1 h hall hgood ⊢
 dsimp only at h1 h hall hgood ⊢
 subst h
 clear hcr
 have hok:=quOk_of hall hgood
 have hfew:=hall.few
 have hkl:=zfm hok
 refine zaj (S:=[]) [] Tryz.func115 rfl Tryz.ntmps115 Zj (Mem.nil _) ?_
 repeat' (first|((with_reducible refine zdw (S':=[zac zag 1 3 (some ⟨g,0,none⟩) 1 [2]]) (fun w hw=>Mem.asOwn (enc:=zag) (M:=1) [2] (Upd.here _ _ _) rfl (fun _=>rfl) Zi hw) ?_))|refine zf0 ?_|refine Zga ?_|(refine Zgb ?_;intro g)|(refine Zg ?_ ?_<;>(intro h;try exact Zx))|((with_reducible (first|apply zaa|apply TD_e3z|apply zan|apply zaf|apply zae));((with_reducible apply zal (f:=12));exact rfl;(intro w hw;exact h1 (some ⟨g,0,none⟩) w (hw.ownRd Zm (fun _=>rfl)) (hw.rd rfl hA));exact rfl);exact Zh;(rintro _ _ ⟨A1,c1,rfl,rfl⟩);(try refine⟨SUB,?_⟩))|fail)
 obtain⟨gl,rfl⟩:∃x,x=g:=⟨_,rfl⟩
 refine zap (X:=Nat×Option Addr×Nat) (fun x=>[(28,.int .i64 (x.1:Nat)),(27,.int .i64 cs.length),(26,.slice A1 cs.length c1),(7,.pointer (some ⟨gl,0,none⟩)),(4,.slice A1 cs.length c1)]) (fun x=>[zak gl 215 #[.slice A1 cs.length c1,.slice x.2.1 (zgS cs x.1).length x.2.2],zac Cl.enc 7 36 A1 c1 cs,zac Rvl.enc 3 219 x.2.1 x.2.2 (zgS cs x.1)]) (fun x=>x.1≤cs.length∧∀i,i<x.1→zia cs i=false) (fun x=>cs.length-x.1) (0,none,0) ⟨by(try dsimp only);omega,fun i hi=>absurd hi (Nat.not_lt_zero _)⟩ Ze (fun w' hw=>by(show Mem _ w' [zak gl 215 #[.slice A1 cs.length c1,.slice none 0 0],zac Cl.enc 7 36 A1 c1 cs,zac Rvl.enc 3 219 none 0 ([]:List Rvl)]);exact(hw.nilOwn Rvl.enc 3 219).sel Zl) ?_
 rintro⟨k,PA,pc⟩ ⟨hk,hcl⟩
 dsimp only at hk hcl ⊢
 have hel:=enqL_len cs k
 by_cases hkl:k<cs.length
 ·have hck:=zay hkl
  have hes:=enqL_succ cs k
  have hkind:=hall.kind k hkl
  have hfr:=enq_fresh (cs:=cs) (k:=k)
  have hcn:=zhq (cs:=cs) (i:=k)
  have hb:=hgood k hkl
  rw[hck] at hes hkind hfr hcn
  refine zb1 (enc:=Cl.enc) (ls:=cs) Zm Zo ?_
  rintro gC rfl
  generalize zgS cs k=O at *
  by_cases h3:cs[k].kind=3
  ·rw[if_pos h3] at hes
   have hfn:=hfr hb h3
   repeat' (first|refine zf0 ?_|refine Zha ?_|(refine Zhb ?_;intro g)|(refine Zg ?_ ?_<;>(intro h;try exact Zx))|refine GOF ?_ ?_|((with_reducible apply zam (id:=13) 10 (OT.seq [(0,0),(0,1),(0,2),(0,3),(0,5),(0,7),(1,4),(1,6),(0,8),(2,9),(3,10),(0,11),(0,12),(3,13)] .nil));kernel_rfl;exact rfl;kernel_rfl;exact Zd)|((with_reducible (first|apply zaa|apply TD_e3z|apply zan|apply zaf|apply zae));((with_reducible apply zad (f:=152));exact rfl;(intro w hw;exact find_no gl (some ⟨gC,0,none⟩) PA cs.length c1 pc O cs[k].arg w (hw.theBlk Zm) (hw.ownRd Zm (fun _=>rfl)) Zo hfn);exact rfl);exact Zh;(rintro _ _ ⟨rfl,rfl⟩);(try refine⟨SUB,?_⟩))|((with_reducible (first|apply zaa|apply TD_e3z|apply zan|apply zaf|apply zae));((with_reducible apply zaw (enc:=Rvl.enc) (xx:=⟨cs[k].arg,(k:Int),-1⟩));exact rfl;exact rfl;exact Zm;exact rfl;exact fun _=>rfl;exact fun _=>rfl;(intro A' c';exact Zu);(omega);decide;exact rfl);exact Zh;(rintro _ _ ⟨A',c',rfl,rfl⟩);(try refine⟨SUB,?_⟩))|fail)
   all_goals first|(exfalso;omega)|(apply zab (k+1,A',c');(case hE=>(try dsimp only);exact Ze);(case hS=>(try dsimp only);rw[hes];exact fun w' hw=>hw.sel Zl);(case hμ=>(try dsimp only);omega);(case hp=>exact⟨by(try dsimp only);omega,fun i hi=>(Nat.lt_succ_iff_lt_or_eq.1 hi).elim (fun e=>hcl i e) (fun e=>by subst e;exact hb)⟩))
  ·rw[if_neg h3] at hes
   have hto:=(hcn hb).1 Zo
   repeat' (first|refine zf0 ?_|refine Zga ?_|(refine Zgb ?_;intro g)|(refine Zg ?_ ?_<;>(intro h;try exact Zx))|fail)
   all_goals first|(exfalso;omega)|(apply zab (k+1,PA,pc);(case hE=>(try dsimp only);exact Ze);(case hS=>(try dsimp only);rw[hes];exact fun w' hw=>hw.sel Zl);(case hμ=>(try dsimp only);omega);(case hp=>exact⟨by(try dsimp only);omega,fun i hi=>(Nat.lt_succ_iff_lt_or_eq.1 hi).elim (fun e=>hcl i e) (fun e=>by subst e;exact hb)⟩))
 ·obtain rfl:k=cs.length:=by omega
  have hbd:∀x∈zgS cs cs.length,0≤x.n∧x.n≤1000:=fun x hx=>by
   obtain⟨i,h2,h3,rfl⟩:=enqL_mem.1 hx
   have:=hok.put i h2 h3
   dsimp only;omega
  have hso:=fun(x:zjI (fun x y:Rvl=>x.n-y.n) (zgS cs cs.length))=>enqL_sorted hok x.2.1 (x.2.2.imp fun h=>by dsimp only at h;omega)
  have hsl:=fun(x:zjI (fun x y:Rvl=>x.n-y.n) (zgS cs cs.length))=>x.2.1.length_eq
  have hl0:=zbr cs 0
  generalize zgS cs cs.length=O at *
  repeat' (first|refine zf0 ?_|refine Zga ?_|(refine Zgb ?_;intro g)|(refine Zg ?_ ?_<;>(intro h;try exact Zx))|((with_reducible (first|apply zaa|apply TD_e3z|apply zan|apply zaf|apply zae));((with_reducible apply zar (f:=153) (X:=zjI (fun x y:Rvl=>x.n-y.n) O) (S1:=[zac Rvl.enc 3 219 PA pc O]) (fun _=>.tuple #[]) (fun x=>[zac Rvl.enc 3 219 PA pc x.1]));exact rfl;exact Zp;(intro x;(try dsimp only);exact Za);(intro w hw;exact rvl_sort PA pc O w hbd (hw.theOwn Zm) Zo);exact rfl);exact Zh;(rintro _ _ ⟨x,rfl,rfl⟩);(try refine⟨SUB,?_⟩))|fail)
  rw[hso x]
  have hOl:O.length=(zbh cs 0).length:=by rw[←hsl x,hso x]
  rw[hOl]
  repeat' (first|refine zf0 ?_|refine Zga ?_|(refine Zgb ?_;intro g)|(refine Zg ?_ ?_<;>(intro h;try exact Zx))|fail)
  refine zap (X:=Nat) (fun k=>[(78,.int .i64 (k:Nat)),(77,.int .i64 cs.length),(76,.slice A1 cs.length c1),(7,.pointer (some ⟨gl,0,none⟩))]) (fun k=>[zak gl 215 #[.slice A1 cs.length c1,.slice PA (zbh cs k).length pc],zac Cl.enc 7 36 A1 c1 cs,zac Rvl.enc 3 219 PA pc (zbh cs k)]) (fun k=>k≤cs.length) (fun k=>cs.length-k) 0 Zo Ze (fun _ hw=>hw.sel Zl) ?_
  intro k hk
  have hvl:=zbr cs k
  have hvl1:(zbh cs (k+1)).length=(zbh cs k).length:=by rw[zbr,zbr]
  by_cases hkl2:k<cs.length
  ·have hck:=zay hkl2
   have hfd:=valL_find hok k cs[k].res
   have hsame:=valL_same (cs:=cs) k
   have hset:=fun q (hq:q<(zcr cs).length)=>valL_set (cs:=cs) (k:=k) (q:=q) hq
   have hget:=fun q (hq:q<(zbh cs k).length)=>zdF (cs:=cs) (k:=k) hq
   have hig:∀v:Int,zdp cs v k=(decide (cs[k].kind=4)&&decide (cs[k].res=v)):=fun v=>by unfold zdp;rw[hck]
   rw[hck] at hset
   refine zb1 (enc:=Cl.enc) (ls:=cs) Zm Zo ?_
   rintro gC rfl
   rcases hfd with⟨hneg,hfn⟩|⟨hpos,q,hqk,hqv,hqmin,hquni⟩
   ·have hsm:=hsame fun v hv=>.inl (by
     rw[hig]
     have h2:=(zdE.1 hv).2
     have h3:¬cs[k].res=(v:Int):=fun e=>by rw[e] at hneg;omega
     simp[h3])
    clear hset hsame hget
    generalize zbh cs k=vs at *
    repeat' (first|refine zf0 ?_|refine Zga ?_|(refine Zgb ?_;intro g)|(refine Zg ?_ ?_<;>(intro h;try exact Zx))|((with_reducible (first|apply zaa|apply TD_e3z|apply zan|apply zaf|apply zae));((with_reducible apply zad (f:=152));exact rfl;(intro w hw;exact find_no gl (some ⟨gC,0,none⟩) PA cs.length c1 pc vs cs[k].res w (hw.theBlk Zm) (hw.ownRd Zm (fun _=>rfl)) Zo hfn);exact rfl);exact Zh;(rintro _ _ ⟨rfl,rfl⟩);(try refine⟨SUB,?_⟩))|fail)
    all_goals
     apply zab (k+1)
     case hE=>(try dsimp only);exact Ze
     case hS=>(try dsimp only);rw[hsm];exact fun w' hw=>hw.sel Zl
     case hμ=>(try dsimp only);omega
     case hp=>(try dsimp only);omega
   ·have hq:q<(zbh cs k).length:=by rw[hvl];exact hqk
    have hgq:=hget q hq
    have hqn:((zbh cs k).getD q default).n=cs[k].res:=by
     rw[List.getD_eq_getElem?_getD,List.getElem?_eq_getElem hq,Option.getD_some,hgq]
     exact hqv
    have hqm:∀j,j<q→((zbh cs k).getD j default).n≠cs[k].res:=fun j hj=>by
     have hj2:j<(zbh cs k).length:=by omega
     rw[List.getD_eq_getElem?_getD,List.getElem?_eq_getElem hj2,Option.getD_some,hget j hj2]
     exact hqmin j hj
    have hdq:(zbh cs k)[q].deq=gotK cs ((zcr cs)[q]:Nat) k:=by rw[hgq];rfl
    have hnq:(zbh cs k)[q].n=((zcr cs)[q]:Nat):=by rw[hgq];rfl
    have heq:(zbh cs k)[q].enq=zaM cs ((zcr cs)[q]:Nat):=by rw[hgq];rfl
    refine zb1 (enc:=Rvl.enc) (ls:=zbh cs k) Zm Zo ?_
    rintro gV rfl
    by_cases hdo:cs[k].kind=4∧gotK cs ((zcr cs)[q]:Nat) k<0
    ·have hst:=hset q hqk hdo.1 hqv.symm hdo.2
     have hst2:zbh cs (k+1)=(zbh cs k).set q ⟨(zbh cs k)[q].n,(zbh cs k)[q].enq,(k:Int)⟩:=by rw[hst,hnq,heq]
     obtain⟨hd1,hd2⟩:=hdo
     rw[←hdq] at hd2
     clear hst hset hsame hget hqmin hquni hgq hdq heq hqv hqk hnq
     generalize zbh cs k=vs at *
     repeat' (first|refine zf0 ?_|refine Zga ?_|(refine Zgb ?_;intro g)|(refine Zg ?_ ?_<;>(intro h;try exact Zx))|((with_reducible (first|apply zaa|apply TD_e3z|apply zan|apply zaf|apply zae));((with_reducible apply zad (f:=152));exact rfl;(intro w hw;exact find_yes0 gl (some ⟨gC,0,none⟩) (some ⟨gV,0,none⟩) cs.length c1 pc vs cs[k].res w (hw.theBlk Zm) (hw.ownRd Zm (fun _=>rfl)) Zo q hq hqn hqm gV rfl);exact rfl);exact Zh;(rintro _ _ ⟨rfl,rfl⟩);(try refine⟨SUB,?_⟩))|((with_reducible (first|apply zaa|apply TD_e3z|apply zan|apply zaf|apply zae));((with_reducible apply za2 (enc:=Rvl.enc) (xx:=⟨vs[q].n,vs[q].enq,(k:Int)⟩));exact rfl;exact rfl;exact Zu;exact fun _=>rfl;exact List.getElem?_eq_getElem hq;decide;exact rfl;exact rfl);exact Zh;(rintro _ _ ⟨rfl,rfl⟩);(try refine⟨SUB,?_⟩))|fail)
     all_goals first
      |(exfalso;omega)
      |(apply zab (k+1);(case hE=>(try dsimp only);exact Ze);(case hS=>(try dsimp only);rw[hst2,List.length_set];exact fun w' hw=>hw.sel Zl);(case hμ=>(try dsimp only);omega);(case hp=>(try dsimp only);omega))
    ·have hsm:=hsame fun v hv=>by
      rw[hig]
      by_cases h4:cs[k].kind=4
      ·by_cases hrv:cs[k].res=(v:Int)
       ·right
        have hv2:v=(zcr cs)[q]:=by omega
        rw[hv2]
        have:=fun h=>hdo ⟨h4,h⟩
        omega
       ·left;simp[hrv]
      ·left;simp[h4]
     have hnd:¬(cs[k].kind=4∧(zbh cs k)[q].deq<0):=by rw[hdq];exact hdo
     clear hset hsame hget hqmin hquni hgq hdq heq hqv hqk hnq hdo
     generalize zbh cs k=vs at *
     repeat' (first|refine zf0 ?_|refine Zga ?_|(refine Zgb ?_;intro g)|(refine Zg ?_ ?_<;>(intro h;try exact Zx))|((with_reducible (first|apply zaa|apply TD_e3z|apply zan|apply zaf|apply zae));((with_reducible apply zad (f:=152));exact rfl;(intro w hw;exact find_yes0 gl (some ⟨gC,0,none⟩) (some ⟨gV,0,none⟩) cs.length c1 pc vs cs[k].res w (hw.theBlk Zm) (hw.ownRd Zm (fun _=>rfl)) Zo q hq hqn hqm gV rfl);exact rfl);exact Zh;(rintro _ _ ⟨rfl,rfl⟩);(try refine⟨SUB,?_⟩))|fail)
     all_goals first
      |(exfalso;omega)
      |(apply zab (k+1);(case hE=>(try dsimp only);exact Ze);(case hS=>(try dsimp only);rw[hsm];exact fun w' hw=>hw.sel Zl);(case hμ=>(try dsimp only);omega);(case hp=>(try dsimp only);omega))
  ·obtain rfl:k=cs.length:=by omega
   repeat' (first|refine zf0 ?_|refine Zga ?_|(refine Zgb ?_;intro g)|(refine Zg ?_ ?_<;>(intro h;try exact Zx))|fail)
   (refine zah Tryz.results115 rfl (fun w' hw=>?_))
   exact⟨⟨gl,A1,c1,PA,pc⟩,rfl,(hw.anyN 0).sel Zl⟩
end
end
section
open Go.RowKit
theorem Q0Rw4{p R:Prop}(r:R)(h:Rest R→p:=by intro r;(first|with_reducible (first|apply zcE|apply za9|apply zba|apply zbd|apply zbe)|((with_reducible (first|apply zaN|apply zaO));exact rfl;exact rfl;(with_reducible exact rfl)));(first|((with_reducible apply za1);exact rfl;(apply Lds.old;assumption;simp;assumption))|((with_reducible apply zeo);exact rfl;exact rfl)|((with_reducible apply zeq);exact rfl;exact rfl)|((with_reducible apply zen);exact rfl;exact rfl)|((with_reducible apply zep);exact rfl;exact rfl)|exact QS.auto);exact rfl;exact r.out):p:=h ⟨r⟩
theorem valL_ok{cs:List Cl}{n k:Nat}(hn:n≤cs.length)(hk:k<(zbh cs n).length):0≤(zbh cs n)[k].enq∧(zbh cs n)[k].enq<cs.length∧-1≤(zbh cs n)[k].deq∧(zbh cs n)[k].deq<cs.length:=by
 rw[zdF hk]
 have h1:=zdE.1 (List.getElem_mem (l:=zcr cs) (by rw[←zbr cs n];exact hk))
 have h2:=zgn cs.length (ze4 cs ((zcr cs)[k]'(by rw[←zbr cs n];exact hk):Nat))
 have h3:=zgn n (zdp cs ((zcr cs)[k]'(by rw[←zbr cs n];exact hk):Nat))
 exact⟨h1.2,h2.2,h3.1,by show gotK cs _ n<_;unfold gotK;omega⟩
section
variable (gl:Nat)(A V:Option Addr)(ca cv:Nat)(cs:List Cl)(w:World)(hL:Blk w gl 215 #[.slice A cs.length ca,.slice V (zbh cs cs.length).length cv])(hA:RdE Cl.enc 7 w A cs)(hV:RdE Rvl.enc 3 w V (zbh cs cs.length))(hok:QuOk cs) 
include hL hA hV hok
theorem stays_any:Calls Tryz.prog 160 #[.pointer (some ⟨gl,0,none⟩)] w fun e w'=>∃A' c',e=.returned (.slice A' (ze5 cs 1001).length c')∧Own Spn.enc 2 52 w' w.heap.size (.slice A' (ze5 cs 1001).length c') (ze5 cs 1001)∧Below w.heap.size w w':=by
 have hl:=hL.lt
 have hl0:w.cell? ⟨gl,0,none⟩=some (.slice A cs.length ca):=hL.cell 0
 have hl1:w.cell? ⟨gl,1,none⟩=some (.slice V (zbh cs cs.length).length cv):=hL.cell 1
 have hfew:=hok.few
 have hkq:=zfm hok
 have hvl:=zbr cs cs.length
 have hvo:=fun k (hk:k<(zbh cs cs.length).length)=>valL_ok (Nat.le_refl _) hk
 have hsa:=stayC_all cs
 have hss:=fun k (hk:k<(zbh cs cs.length).length)=>stayC_succ (cs:=cs) hk
 rw[←hsa]
 clear hsa
 generalize zbh cs cs.length=vs at *
 refine zaj (S:=[]) [] Tryz.func160 rfl Tryz.ntmps160 Zj (Mem.nil _) ?_
 repeat' (first|refine Q0Rw4 ?_|refine Zga ?_|(refine Zgb ?_;intro g)|(refine Zg ?_ ?_<;>(intro h;try exact Zx))|fail)
 refine zap (X:=Nat×Option Addr×Nat) (fun x=>[(12,.int .i64 (x.1:Nat)),(11,.int .i64 vs.length),(10,.slice V vs.length cv),(3,.slice x.2.1 (stayC cs x.1).length x.2.2),(0,.pointer (some ⟨gl,0,none⟩))]) (fun x=>[zac Spn.enc 2 52 x.2.1 x.2.2 (stayC cs x.1)])
  (fun x=>x.1≤vs.length) (fun x=>vs.length-x.1) (0,none,0) (by(try dsimp only);omega) Ze (fun w' hw=>by
   show Mem _ w' [zac Spn.enc 2 52 none 0 []]
   exact(hw.nilOwn Spn.enc 2 52).sel Zl) ?_
 rintro⟨k,A3,c3⟩ hk
 dsimp only at hk ⊢
 have hsl:=stayC_len cs k
 by_cases hkl:k<vs.length
 ·obtain⟨h0,h1,h2,h3⟩:=hvo k hkl
  have hsu:=hss k hkl
  have hp:=zay (cs:=cs) (i:=vs[k].enq.toNat) Zo
  obtain⟨bV,oV,rfl,_⟩:=RdE.open hV Zo
  obtain⟨bC,oC,rfl,_⟩:=RdE.open hA Zo
  unfold stayR at hsu
  rw[hp] at hsu
  generalize stayC cs k=O at *
  by_cases hd:0≤vs[k].deq
  ·have hq:=zay (cs:=cs) (i:=vs[k].deq.toNat) Zo
   have hfb:=hok.frm vs[k].deq.toNat Zo
   rw[if_pos hd,hq] at hsu
   rw[hq] at hfb
   repeat' (first|refine Q0Rw4 ?_|refine Zha ?_|(refine Zhb ?_;intro g)|(refine Zg ?_ ?_<;>(intro h;try exact Zx))|refine GOF ?_ ?_|((with_reducible apply zam (id:=5) 11 (OT.seq [(0,0),(0,1),(0,2),(0,4),(1,3),(1,5),(0,6),(0,7),(1,8),(0,9),(2,10),(3,11)] .nil));kernel_rfl;exact rfl;kernel_rfl;exact Zd)|((with_reducible apply zam (id:=7) 11 (OT.seq [(0,0),(0,1),(0,2),(0,4),(1,3),(1,5),(0,6),(0,7),(1,8),(0,9),(0,10),(3,11)] .nil));kernel_rfl;exact rfl;kernel_rfl;exact Zd)|((with_reducible (first|apply zaa|apply TD_e3z|apply zan|apply zaf|apply zae));((with_reducible apply zaw (enc:=Spn.enc) (xx:=⟨cs[vs[k].enq.toNat].to,cs[vs[k].deq.toNat].from_-1⟩));exact rfl;exact rfl;exact Zm;exact rfl;exact fun _=>rfl;exact fun _=>rfl;(intro A' c';exact Zu);(omega);decide;exact rfl);exact Zh;(rintro _ _ ⟨A',c',rfl,rfl⟩);(try refine⟨SUB,?_⟩))|fail)
   all_goals first
    |(rw[if_pos ⟨by omega,by omega⟩] at hsu;simp only[Option.toList_some] at hsu;apply zab (k+1,A',c');(case hE=>(try dsimp only);rw[hsu];exact Ze);(case hS=>(try dsimp only);rw[hsu];exact fun w' hw=>hw.sel Zl);(case hμ=>(try dsimp only);omega);(case hp=>(try dsimp only);omega))
    |(rw[if_neg Zo] at hsu;simp only[Option.toList_none,List.append_nil] at hsu;apply zab (k+1,A3,c3);(case hE=>(try dsimp only);rw[hsu];exact Ze);(case hS=>(try dsimp only);rw[hsu];exact fun w' hw=>hw.sel Zl);(case hμ=>(try dsimp only);omega);(case hp=>(try dsimp only);omega))
  ·rw[if_neg hd] at hsu
   repeat' (first|refine Q0Rw4 ?_|refine Zha ?_|(refine Zhb ?_;intro g)|(refine Zg ?_ ?_<;>(intro h;try exact Zx))|refine GOF ?_ ?_|((with_reducible apply zam (id:=5) 11 (OT.seq [(0,0),(0,1),(0,2),(0,4),(1,3),(1,5),(0,6),(0,7),(1,8),(0,9),(2,10),(3,11)] .nil));kernel_rfl;exact rfl;kernel_rfl;exact Zd)|((with_reducible apply zam (id:=7) 11 (OT.seq [(0,0),(0,1),(0,2),(0,4),(1,3),(1,5),(0,6),(0,7),(1,8),(0,9),(0,10),(3,11)] .nil));kernel_rfl;exact rfl;kernel_rfl;exact Zd)|((with_reducible (first|apply zaa|apply TD_e3z|apply zan|apply zaf|apply zae));((with_reducible apply zaw (enc:=Spn.enc) (xx:=⟨cs[vs[k].enq.toNat].to,199⟩));exact rfl;exact rfl;exact Zm;exact rfl;exact fun _=>rfl;exact fun _=>rfl;(intro A' c';exact Zu);(omega);decide;exact rfl);exact Zh;(rintro _ _ ⟨A',c',rfl,rfl⟩);(try refine⟨SUB,?_⟩))|fail)
   all_goals first
    |(rw[if_pos ⟨by omega,by omega⟩] at hsu;simp only[Option.toList_some] at hsu;apply zab (k+1,A',c');(case hE=>(try dsimp only);rw[hsu];exact Ze);(case hS=>(try dsimp only);rw[hsu];exact fun w' hw=>hw.sel Zl);(case hμ=>(try dsimp only);omega);(case hp=>(try dsimp only);omega))
    |(rw[if_neg Zo] at hsu;simp only[Option.toList_none,List.append_nil] at hsu;apply zab (k+1,A3,c3);(case hE=>(try dsimp only);rw[hsu];exact Ze);(case hS=>(try dsimp only);rw[hsu];exact fun w' hw=>hw.sel Zl);(case hμ=>(try dsimp only);omega);(case hp=>(try dsimp only);omega))
 ·obtain rfl:k=vs.length:=by omega
  repeat' (first|refine Q0Rw4 ?_|refine Zga ?_|(refine Zgb ?_;intro g)|(refine Zg ?_ ?_<;>(intro h;try exact Zx))|fail)
  (refine zah Tryz.results160 rfl (fun w' hw=>?_))
  exact⟨A3,c3,rfl,hw.ownOut rfl Zm,hw.below0 rfl⟩
end
end
section
open Go.RowKit
theorem Q0Rw5{p R:Prop}(r:R)(h:Rest R→p:=by intro r;(first|with_reducible (first|apply zcE|apply za9|apply zba|apply zbd|apply zbe)|((with_reducible (first|apply zaN|apply zaO));exact rfl;exact rfl;(with_reducible exact rfl)));(first|((with_reducible apply za1);exact rfl;(apply Lds.old;assumption;simp;assumption))|((with_reducible apply zeo);exact rfl;exact rfl)|((with_reducible apply zeq);exact rfl;exact rfl)|((with_reducible apply zen);exact rfl;exact rfl)|((with_reducible apply zep);exact rfl;exact rfl)|exact QS.auto);exact rfl;exact r.out):p:=h ⟨r⟩
theorem zhr{cs:List Cl}(hok:QuOk cs)(k:Nat)(n:Int):
  (zaM cs n<0∧∀r∈zbh cs k,r.n≠n)∨(0≤zaM cs n∧∃q,q<(zbh cs k).length∧((zbh cs k).getD q default).n=n∧(∀j,j<q→((zbh cs k).getD j default).n≠n)∧(zbh cs k).getD q default=⟨n,zaM cs n,gotK cs n k⟩):=by
 rcases valL_find hok k n with h|⟨h,q,hq,hv,hm,_⟩
 ·exact .inl h
 ·have hl:=zbr cs k
  have hg:∀j (hj:j<(zcr cs).length),(zbh cs k).getD j default=valQ cs k (zcr cs)[j]:=fun j hj=>by
   rw[List.getD_eq_getElem?_getD,List.getElem?_eq_getElem Zo,Option.getD_some,zdF]
  refine .inr ⟨h,q,by omega,by rw[hg q hq];exact hv,fun j hj=>by rw[hg j Zo];exact hm j hj,?_⟩
  rw[hg q hq]
  unfold valQ
  rw[hv]
section
variable (gl:Nat)(A V:Option Addr)(ca cv:Nat)(cs:List Cl)(w:World)(hL:Blk w gl 215 #[.slice A cs.length ca,.slice V (zbh cs cs.length).length cv])(hA:RdE Cl.enc 7 w A cs)(hV:RdE Rvl.enc 3 w V (zbh cs cs.length))(hok:QuOk cs) 
section
variable (fn:Nat)[IsFn Tryz.prog fn](cvs:List Value)(Bf:Nat→Bd)(R:Bd) 
variable (hp:∀i (hi:i<cs.length),cs[i].kind=4→cs[i].res≠-1→∀w',Below w.heap.size w w'→Calls Tryz.prog fn (.int .i64 (i:Nat)::.agg (Cl.enc cs[i]).toArray::cvs).toArray w' fun e w2=>e=.returned (.agg (Bd.enc (Bf i)).toArray)∧Below w'.heap.size w' w2) 
variable (hR:R=match zaF cs.length (fun i=>decide ((clK cs i).kind=4)&&(decide ((clK cs i).res≠-1)&&decide ((Bf i).kind≠0))) with|some i=>Bf i|none=>⟨0,0,0⟩) 
include hL hA hok hp hR
theorem each_any:Calls Tryz.prog 155 #[.pointer (some ⟨gl,0,none⟩),.func (.func fn) #[] cvs.toArray] w fun e w'=>e=.returned (.agg (Bd.enc R).toArray)∧Below w.heap.size w w':=by
 have hl:=hL.lt
 have hl0:w.cell? ⟨gl,0,none⟩=some (.slice A cs.length ca):=hL.cell 0
 have hfew:=hok.few
 refine zaj (S:=[]) [] Tryz.func155 rfl Tryz.ntmps155 Zj (Mem.nil _) ?_
 repeat' (first|refine Q0Rw5 ?_|refine Zga ?_|(refine Zgb ?_;intro g)|(refine Zg ?_ ?_<;>(intro h;try exact Zx))|fail)
 obtain⟨gb,rfl⟩:∃x,x=g:=⟨_,rfl⟩
 refine zap (X:=Nat) (fun k=>[(13,.int .i64 (k:Nat)),(12,.int .i64 cs.length),(11,.slice A cs.length ca),(4,.pointer (some ⟨gb,0,none⟩)),(1,.func (.func fn) #[] cvs.toArray)]) (fun _=>[zak gb 79 #[.int .i64 0,.int .i64 0,.int .i64 0]])
  (fun k=>k≤cs.length∧∀i,i<k→(decide ((clK cs i).kind=4)&&(decide ((clK cs i).res≠-1)&&decide ((Bf i).kind≠0)))=false) (fun k=>cs.length-k) 0 ⟨by omega,fun i hi=>by omega⟩ Ze (by exact zaK) ?_
 rintro k ⟨hk,hno⟩
 by_cases hkl:k<cs.length
 ·obtain⟨bC,oC,rfl,_⟩:=RdE.open hA Zo
  have hck:=zay hkl
  have hpk:=fun h4 hr w' hb=>hp k hkl h4 hr w' hb
  have hat:(decide ((clK cs k).kind=4)&&(decide ((clK cs k).res≠-1)&&decide ((Bf k).kind≠0)))=true→R=Bf k:=fun hb=>by rw[hR,za5 hkl hno hb]
  have hnx:(decide ((clK cs k).kind=4)&&(decide ((clK cs k).res≠-1)&&decide ((Bf k).kind≠0)))=false→∀i,i<k+1→(decide ((clK cs i).kind=4)&&(decide ((clK cs i).res≠-1)&&decide ((Bf i).kind≠0)))=false:=fun hb i hi=>(Nat.lt_succ_iff_lt_or_eq.1 hi).elim (fun e=>hno i e) (fun e=>by subst e;exact hb)
  rw[hck] at hat hnx
  clear hR hp hck
  generalize Bf k=z at hpk hat hnx
  obtain⟨zk,za,zb⟩:=z
  rw[show Bd.enc ⟨zk,za,zb⟩=[.int .i64 zk,.int .i64 za,.int .i64 zb] from rfl] at hpk
  by_cases h4:cs[k].kind=4
  ·by_cases hr:cs[k].res=-1
   ·have hnx:=hnx (by simp[hr])
    repeat' (first|refine Q0Rw5 ?_|refine Zga ?_|(refine Zgb ?_;intro g)|(refine Zg ?_ ?_<;>(intro h;try exact Zx))|fail)
    exact zab (k+1) ⟨hkl,hnx⟩ Zo Ze (by exact zaK)
   ·have hpk:=hpk h4 hr
    repeat' (first|refine Q0Rw5 ?_|refine Zga ?_|(refine Zgb ?_;intro g)|(refine Zg ?_ ?_<;>(intro h;try exact Zx))|((with_reducible (first|apply zaa|apply TD_e3z|apply zan|apply zaf|apply zae));((with_reducible apply zbf (f:=fn) (us:=[]) (cs:=cvs) (v:=.agg #[.int .i64 zk,.int .i64 za,.int .i64 zb]));exact rfl;exact rfl;(intro w' hw;exact hpk w' (hw.below0 rfl));exact rfl);exact Zh;(rintro _ _ ⟨rfl,rfl⟩);(try refine⟨SUB,?_⟩))|fail)
    ·((with_reducible apply zau Tryz.results155);exact Zr;intro w' hw)
     exact⟨by rw[hat (by simp[h4,hr,show ¬zk=0 by assumption])];rfl,hw.below0 rfl⟩
    ·have hnx:=hnx (by simp[show zk=0 by assumption])
     exact zab (k+1) ⟨hkl,hnx⟩ Zo Ze (by exact zaK)
  ·have hnx:=hnx (by simp[h4])
   repeat' (first|refine Q0Rw5 ?_|refine Zga ?_|(refine Zgb ?_;intro g)|(refine Zg ?_ ?_<;>(intro h;try exact Zx))|fail)
   exact zab (k+1) ⟨hkl,hnx⟩ Zo Ze (by exact zaK)
 ·obtain rfl:k=cs.length:=by omega
  rw[zaP hno] at hR
  subst hR
  repeat' (first|refine Q0Rw5 ?_|refine Zga ?_|(refine Zgb ?_;intro g)|(refine Zg ?_ ?_<;>(intro h;try exact Zx))|fail)
  ((with_reducible apply zau Tryz.results155);exact Zr;intro w' hw)
  exact⟨rfl,hw.below0 rfl⟩
end
variable (b2:Nat)(h2:b2<w.heap.size)(hc2:w.cell? ⟨b2,0,none⟩=some (.pointer (some ⟨gl,0,none⟩)))(i:Nat)(hi:i<cs.length) 
def zjO(cs:List Cl)(i:Nat):Bd:=if zaM cs (clK cs i).res<0 then⟨1,i,0⟩ else⟨0,0,0⟩
def zjP(cs:List Cl)(i:Nat):Bd:=if zbB cs (clK cs i).res=i then⟨0,0,0⟩ else⟨2,i,zbB cs (clK cs i).res⟩
def zjQ(cs:List Cl)(i:Nat):Bd:=if(clK cs i).to<(clK cs (zaM cs (clK cs i).res).toNat).from_ then⟨3,i,zaM cs (clK cs i).res⟩ else⟨0,0,0⟩
include hL hA hV hok h2 hc2 hi
theorem stray1_any:Calls Tryz.prog 156 #[.int .i64 (i:Nat),.agg (Cl.enc cs[i]).toArray,.pointer (some ⟨b2,0,none⟩)] w fun e w'=>e=.returned (.agg (Bd.enc (zjO cs i)).toArray)∧Below w.heap.size w w':=by
 have hfew:=hok.few
 have hkq:=zfm hok
 have hvl:=zbr cs cs.length
 have hfd:=zhr hok cs.length cs[i].res
 have hck:=zay hi
 unfold zjO
 rw[hck]
 clear hck
 have hno:=fun n w' (hb:Below w.heap.size w w') h=>find_no gl A V cs.length ca cv (zbh cs cs.length) n w' (hL.carry hb) (RdE.below hV hb) Zo h
 have hye:=fun n q p1 p2 p3 b o p4 w' (hb:Below w.heap.size w w')=>zgI gl A V cs.length ca cv (zbh cs cs.length) n w' (hL.carry hb) (RdE.below hV hb) Zo q p1 p2 p3 b o p4
 generalize zbh cs cs.length=vs at *
 refine zaj (S:=[]) [] Tryz.func156 rfl Tryz.ntmps156 Zj (Mem.nil _) ?_
 rcases hfd with⟨hn,hr⟩|⟨hp,q,hq,hq1,hq2,hq3⟩
 ·rw[if_pos hn]
  have hfno:=fun w' hb=>hno cs[i].res w' hb hr
  repeat' (first|refine Q0Rw5 ?_|refine Zga ?_|(refine Zgb ?_;intro g)|(refine Zg ?_ ?_<;>(intro h;try exact Zx))|((with_reducible (first|apply zaa|apply TD_e3z|apply zan|apply zaf|apply zae));((with_reducible apply zad (f:=152));exact rfl;(intro w hw;exact hfno w (hw.below0 rfl));exact rfl);exact Zh;(rintro _ _ ⟨rfl,rfl⟩);(try refine⟨SUB,?_⟩))|fail)
  ((with_reducible apply zau Tryz.results156);exact Zr;intro w' hw)
  exact⟨rfl,hw.below0 rfl⟩
 ·rw[if_neg Zo]
  obtain⟨bV,oV,rfl,_⟩:=RdE.open hV Zo
  have hfye:=fun w' hb=>hye cs[i].res q hq hq1 hq2 bV oV rfl w' hb
  repeat' (first|refine Q0Rw5 ?_|refine Zga ?_|(refine Zgb ?_;intro g)|(refine Zg ?_ ?_<;>(intro h;try exact Zx))|((with_reducible (first|apply zaa|apply TD_e3z|apply zan|apply zaf|apply zae));((with_reducible apply zad (f:=152));exact rfl;(intro w hw;exact hfye w (hw.below0 rfl));exact rfl);exact Zh;(rintro _ _ ⟨rfl,rfl⟩);(try refine⟨SUB,?_⟩))|fail)
  ((with_reducible apply zau Tryz.results156);exact Zr;intro w' hw)
  exact⟨rfl,hw.below0 rfl⟩
theorem twice1_any(hput:0≤zaM cs cs[i].res):Calls Tryz.prog 157 #[.int .i64 (i:Nat),.agg (Cl.enc cs[i]).toArray,.pointer (some ⟨b2,0,none⟩)] w fun e w'=>e=.returned (.agg (Bd.enc (zjP cs i)).toArray)∧Below w.heap.size w w':=by
 have hfew:=hok.few
 have hkq:=zfm hok
 have hvl:=zbr cs cs.length
 have hfd:=zhr hok cs.length cs[i].res
 have hck:=zay hi
 unfold zjP
 rw[hck]
 clear hck
 have hye:=fun n q p1 p2 p3 b o p4 w' (hb:Below w.heap.size w w')=>zgI gl A V cs.length ca cv (zbh cs cs.length) n w' (hL.carry hb) (RdE.below hV hb) Zo q p1 p2 p3 b o p4
 generalize zbh cs cs.length=vs at *
 rcases hfd with⟨hn,hr⟩|⟨hp,q,hq,hq1,hq2,hq3⟩
 ·omega
 obtain⟨bV,oV,rfl,_⟩:=RdE.open hV Zo
 have hfye:=fun w' hb=>hye cs[i].res q hq hq1 hq2 bV oV rfl w' hb
 have hdq:vs[q].deq=zbB cs cs[i].res:=by
  rw[List.getD_eq_getElem?_getD,List.getElem?_eq_getElem hq,Option.getD_some] at hq3
  rw[hq3];rfl
 rw[←hdq]
 clear hq1 hq2 hq3 hdq
 refine zaj (S:=[]) [] Tryz.func157 rfl Tryz.ntmps157 Zj (Mem.nil _) ?_
 repeat' (first|refine Q0Rw5 ?_|refine Zga ?_|(refine Zgb ?_;intro g)|(refine Zg ?_ ?_<;>(intro h;try exact Zx))|((with_reducible (first|apply zaa|apply TD_e3z|apply zan|apply zaf|apply zae));((with_reducible apply zad (f:=152));exact rfl;(intro w hw;exact hfye w (hw.below0 rfl));exact rfl);exact Zh;(rintro _ _ ⟨rfl,rfl⟩);(try refine⟨SUB,?_⟩))|fail)
 all_goals
  ((with_reducible apply zau Tryz.results157);exact Zr;intro w' hw)
  first
   |(rw[if_pos (by assumption)];exact⟨rfl,hw.below0 rfl⟩)
   |(rw[if_neg (by assumption)];exact⟨rfl,hw.below0 rfl⟩)
theorem early1_any(hput:0≤zaM cs cs[i].res):Calls Tryz.prog 158 #[.int .i64 (i:Nat),.agg (Cl.enc cs[i]).toArray,.pointer (some ⟨b2,0,none⟩)] w fun e w'=>e=.returned (.agg (Bd.enc (zjQ cs i)).toArray)∧Below w.heap.size w w':=by
 have hl:=hL.lt
 have hl0:w.cell? ⟨gl,0,none⟩=some (.slice A cs.length ca):=hL.cell 0
 have hfew:=hok.few
 have hkq:=zfm hok
 have hvl:=zbr cs cs.length
 have hfd:=zhr hok cs.length cs[i].res
 have hck:=zay hi
 have hpb:=zgn cs.length (ze4 cs cs[i].res)
 unfold zjQ
 rw[hck]
 clear hck
 obtain⟨P,hP⟩:∃P,zaM cs cs[i].res=P:=⟨_,rfl⟩
 have hpl:P<cs.length:=by rw[←hP];exact hpb.2
 rw[hP] at hput hfd ⊢
 clear hpb hP
 have hpc:=zay (cs:=cs) (i:=P.toNat) Zo
 rw[hpc]
 clear hpc
 have hye:=fun n q p1 p2 p3 b o p4 w' (hb:Below w.heap.size w w')=>zgI gl A V cs.length ca cv (zbh cs cs.length) n w' (hL.carry hb) (RdE.below hV hb) Zo q p1 p2 p3 b o p4
 generalize zbh cs cs.length=vs at *
 rcases hfd with⟨hn,hr⟩|⟨hp,q,hq,hq1,hq2,hq3⟩
 ·omega
 obtain⟨bV,oV,rfl,_⟩:=RdE.open hV Zo
 obtain⟨bC,oC,rfl,_⟩:=RdE.open hA Zo
 have hfye:=fun w' hb=>hye cs[i].res q hq hq1 hq2 bV oV rfl w' hb
 have hdq:vs[q].enq=P:=by
  rw[List.getD_eq_getElem?_getD,List.getElem?_eq_getElem hq,Option.getD_some] at hq3
  rw[hq3]
 clear hq1 hq2 hq3
 subst hdq
 refine zaj (S:=[]) [] Tryz.func158 rfl Tryz.ntmps158 Zj (Mem.nil _) ?_
 repeat' (first|refine Q0Rw5 ?_|refine Zha ?_|(refine Zhb ?_;intro g)|(refine Zg ?_ ?_<;>(intro h;try exact Zx))|refine GOF ?_ ?_|((with_reducible apply zam (id:=2) 1000 (OT.seq [(0,0),(0,6),(0,7),(0,8),(1,1),(1,2),(0,3),(0,4),(1,5),(1,9),(0,10),(0,11),(1,12),(0,13)] .nil));kernel_rfl;exact rfl;kernel_rfl;exact Zd)|((with_reducible (first|apply zaa|apply TD_e3z|apply zan|apply zaf|apply zae));((with_reducible apply zad (f:=152));exact rfl;(intro w hw;exact hfye w (hw.below0 rfl));exact rfl);exact Zh;(rintro _ _ ⟨rfl,rfl⟩);(try refine⟨SUB,?_⟩))|fail)
 all_goals
  ((with_reducible apply zau Tryz.results158);exact Zr;intro w' hw)
  first
   |(rw[if_pos (by assumption)];exact⟨rfl,hw.below0 rfl⟩)
   |(rw[if_neg Zo];exact⟨rfl,hw.below0 rfl⟩)
end
end
end Go.Proofs.YtjdckepbihcgfaaGreatDoor
