/- Lemmas for the walks (VdS, Bg2, Bg3, KeyL, KeyS, Bg5). No condition. -/
import Derived.Test.YtjdckepbihcgfaaGreatDoorG28
import Derived.Shelf.SlIterI.Nil
import Derived.Shelf.SortM.Plain
import Derived.Shelf.SortM.SortNone
set_option linter.unusedSimpArgs false
set_option linter.unusedVariables false
set_option linter.unusedSectionVars false
set_option linter.unnecessarySimpa false
set_option maxRecDepth 100000
set_option maxHeartbeats 8000000
namespace Go.Proofs.YtjdckepbihcgfaaGreatDoor
section
open Go.RowKit
theorem rng_getD{s:List Int}(h:∀x∈s,0≤x∧x≤1000)(i:Nat):0≤s.getD i 0∧s.getD i 0≤1000:=by
 by_cases hi:i<s.length
 ·rw[show s.getD i 0=s[i] by simp[hi]];exact h _ (List.getElem_mem hi)
 ·rw[show s.getD i 0=0 by simp[Nat.le_of_not_lt hi]];omega
theorem valid_rng{typ:Int}{s:List Int}(h:zcj typ s=true):∀x∈s,0≤x∧x≤1000:=by
 have hall:s.all okI=true→∀x∈s,0≤x∧x≤1000:=fun h x hx=>by
  have:=List.all_eq_true.1 h x hx
  unfold okI at this
  rw[Bool.and_eq_true,decide_eq_true_eq,decide_eq_true_eq] at this
  omega
 unfold zcj at h
 split at h
 ·unfold zjf at h
  simp only[Bool.and_eq_true,decide_eq_true_eq] at h
  intro x hx
  rcases s with _|⟨a,_|⟨b,r⟩⟩
  ·cases hx
  ·rw[List.mem_singleton] at hx;subst hx;exact h.2
  ·simp at h
 ·split at h
  ·rw[Bool.and_eq_true] at h;exact hall h.2
  ·exact hall h
theorem step_res{typ:Int}{s:List Int}{k a:Int}(h:zcj typ s=true):-1≤(zaB typ s k a).2.1∧(zaB typ s k a).2.1≤1000:=by
 have hr:=rng_getD (valid_rng h)
 have h0:=hr 0
 have h1:=hr (s.length-1)
 have hs:∀k,0≤(setP s k a).2∧(setP s k a).2≤1:=fun k=>by
  unfold setP
  repeat' split
  all_goals(constructor<;>(dsimp only;omega))
 have h2:=hs k
 unfold zaB
 repeat' split
 all_goals first|(dsimp only;omega)|(constructor<;>decide)
structure StepsOk (cs:List Cl) (f:Nat→Nat) (w:List Stp):Prop where
 res:∀s∈w,-1≤s.res∧s.res≤1000
 call:∀s∈w,0≤s.call∧s.call.toNat<cs.length
 order:∀(p q:Nat) (s t:Stp),w[p]?=some s→w[q]?=some t→(f s.call.toNat).testBit t.call.toNat=true→p≤q
 once:∀(p q:Nat) (s t:Stp),w[p]?=some s→w[q]?=some t→s.call.toNat=t.call.toNat→p=q
 mask:∀i,(zaH w).testBit i=true↔∃s∈w,s.call.toNat=i
theorem steps_nil(cs:List Cl)(f:Nat→Nat):StepsOk cs f []:=⟨by simp,by simp,fun p q s t h=>by simp at h,fun p q s t h=>by simp at h,fun i=>by simp[zaH]⟩
theorem chk_valid{typ:Int}{s:List Int}(h:zeV typ s=0):zcj typ s=true:=by
 unfold zeV at h
 split at h
 ·split at h
  ·cases h
  ·split at h
   ·assumption
   ·cases h
 ·cases h
theorem zht{w:List Stp}{x s:Stp}{p:Nat}(h:(w++[x])[p]?=some s):w[p]?=some s∨(p=w.length∧s=x):=by
 rw[List.getElem?_append] at h
 split at h
 ·exact .inl h
 ·rename_i hp
  have:p-w.length=0:=by
   rcases Nat.eq_zero_or_pos (p-w.length) with h0|h0
   ·exact h0
   ·rw[List.getElem?_eq_none (by simp;omega)] at h;cases h
  rw[this] at h
  exact .inr ⟨by omega,(Option.some.inj h).symm⟩
theorem steps_next{ts:List Int}{cs:List Cl}{f:Nat→Nat}(hcs:CallsOk ts cs){w:List Stp}{i:Nat}(hp:PathW ts cs w)(h:StepsOk cs f w)(hi:i<cs.length)(hn:(zaH w).testBit i=false)(hf:f i &&& zaH w=0):StepsOk cs f (zbm ts cs w i):=by
 have hres:-1≤(za6 ts cs (zav ts cs w) i).2.1∧(za6 ts cs (zav ts cs w) i).2.1≤1000:=by
  unfold za6
  refine step_res (chk_valid ?_)
  obtain⟨h1,h2,_,_⟩:=hcs i hi
  exact hp.sts.2 (zaz cs i).thing.toNat Zo
 have hlt:∀(p:Nat) (s:Stp),w[p]?=some s→p<w.length:=fun p s h=>(List.getElem?_eq_some_iff.1 h).1
 have hmem:∀(p:Nat) (s:Stp),w[p]?=some s→(zaH w).testBit s.call.toNat=true:=fun p s hs=>(h.mask _).2 ⟨s,List.mem_of_getElem? hs,rfl⟩
 have hnew:((i:Nat):Int).toNat=i:=by omega
 unfold zbm
 generalize (za6 ts cs (zav ts cs w) i).2.1=r at *
 refine⟨fun s hs=>?_,fun s hs=>?_,fun p q s t h1 h2 hb=>?_,fun p q s t h1 h2 he=>?_,fun j=>?_⟩
 ·rcases List.mem_append.1 hs with hs|hs
  ·exact h.res s hs
  ·rw[List.mem_singleton.1 hs];exact hres
 ·rcases List.mem_append.1 hs with hs|hs
  ·exact h.call s hs
  ·rw[List.mem_singleton.1 hs];exact⟨by dsimp only;omega,by dsimp only;omega⟩
 ·rcases zht h1 with h1|⟨rfl,rfl⟩
  ·rcases zht h2 with h2|⟨rfl,rfl⟩
   ·exact h.order p q s t h1 h2 hb
   ·have:=hlt p s h1;omega
  ·rcases zht h2 with h2|⟨rfl,rfl⟩
   ·exfalso
    have hb':(f i).testBit t.call.toNat=true:=by rw[←hnew];exact hb
    have h3:=congrArg (fun m=>m.testBit t.call.toNat) hf
    simp only[Nat.testBit_and,Nat.zero_testBit,hb',hmem q t h2,Bool.and_self] at h3
    cases h3
   ·exact Nat.le_refl _
 ·rcases zht h1 with h1|⟨rfl,rfl⟩
  ·rcases zht h2 with h2|⟨rfl,rfl⟩
   ·exact h.once p q s t h1 h2 he
   ·exfalso
    have he':s.call.toNat=i:=by rw[←hnew];exact he
    have:=hmem p s h1
    rw[he',hn] at this;cases this
  ·rcases zht h2 with h2|⟨rfl,rfl⟩
   ·exfalso
    have he':i=t.call.toNat:=by rw[←hnew];exact he
    have:=hmem q t h2
    rw[←he',hn] at this;cases this
   ·rfl
 ·rw[zhg,Nat.testBit_or,Bool.or_eq_true,h.mask j]
  dsimp only
  rw[hnew,Nat.testBit_two_pow,decide_eq_true_eq]
  constructor
  ·rintro(⟨s,hs,e⟩|e)
   ·exact⟨s,List.mem_append_left _ hs,e⟩
   ·exact⟨⟨(i:Int),r⟩,List.mem_append_right _ (List.mem_singleton.2 rfl),by dsimp only;omega⟩
  ·rintro⟨s,hs,e⟩
   rcases List.mem_append.1 hs with hs|hs
   ·exact .inl ⟨s,hs,e⟩
   ·rw[List.mem_singleton.1 hs] at e
    dsimp only at e
    exact .inr Zo
theorem zf1{ts:List Int}{cs:List Cl}{f:Nat→Nat}(hcs:CallsOk ts cs):∀(k:Nat) (w:List Stp),PathW ts cs w→StepsOk cs f w→∀r,zc0 ts cs f k w=some r→PathW ts cs r∧StepsOk cs f r∧zeA cs r=true
 |0,w,hp,hq,r,h=>by
  unfold zc0 at h
  rw[zgu] at h
  split at h
  ·rename_i hc;cases h;exact⟨hp,hq,hc⟩
  ·cases h
 |k+1,w,hp,hq,r,h=>by
  unfold zc0 at h
  rw[zgu] at h
  split at h
  ·rename_i hc;cases h;exact⟨hp,hq,hc⟩
  ·obtain⟨i,hi,hr⟩:=List.exists_of_findSome?_eq_some h
   rw[List.mem_range] at hi
   split at hr
   ·rename_i hc
    obtain⟨h1,h2,h3⟩:=zcp.1 hc
    exact zf1 hcs k _ (zgx hcs hp hi h1 (zcC.1 h3).1) (steps_next hcs hp hq hi h1 h2) r hr
   ·cases hr
theorem find_steps{ts:List Int}{l:List Ev}{F:List Cl→Nat→Nat}{r:List Stp}(h:zbE ts l F=some r):PathW ts (zfl ts l).1 r∧StepsOk (zfl ts l).1 (F (zfl ts l).1) r∧zeA (zfl ts l).1 r=true∧r.length≤9:=by
 unfold zbE at h
 split at h
 ·rename_i h0
  have hs:=zc2 h0
  obtain⟨h1,h2,h3⟩:=zf1 hs.calls _ [] (zfj hs.types) (steps_nil _ _) r h
  have:=h1.len
  have:=hs.few
  exact⟨h1,h2,h3,by omega⟩
 ·cases h
end
section
open Go.RowKit
theorem Q0Bg2{p R:Prop}(r:R)(h:Rest R→p:=by intro r;(first|with_reducible (first|apply zcE|apply za9|apply zba|apply zbd|apply zbe)|((with_reducible (first|apply zaN|apply zaO));exact rfl;exact rfl;(with_reducible exact rfl)));(first|((with_reducible apply za1);exact rfl;exact Lds.blk Zm (bools_nth _ Zo))|exact QS.auto);exact rfl;exact r.out):p:=h ⟨r⟩
theorem bools_nth(f:Nat→Bool){m i:Nat}(h:i<m):nthV (bools f m).toList i=some (.bool (f i)):=by
 rw[←zfJ]
 have:=bools_at f m i h
 simpa using this
def inN(l:List Ev)(n:Int)(k:Nat)(i:Nat):Bool:=inW l n k (i:Int)
theorem inN_yes{l:List Ev}{n:Int}{k:Nat}(hk:k<l.length)(h0:¬l[k].kind=0)(hw:0≤l[k].who):upz (inN l n k) l[k].who.toNat (decide (l[k].value=n))=inN l n (k+1):=by
 funext i
 unfold upz inN
 rw[inW,gd hk]
 by_cases e:i=l[k].who.toNat
 ·rw[if_pos e,if_pos ⟨h0,by omega⟩]
 ·rw[if_neg e,if_neg (fun h=>e Zo)]
theorem inN_no{l:List Ev}{n:Int}{k:Nat}(hk:k<l.length)(h0:l[k].kind=0):inN l n k=inN l n (k+1):=by
 funext i
 unfold inN
 rw[inW,gd hk,if_neg (fun h=>h.1 h0)]
theorem bagP_at{l:List Ev}{n:Int}{k:Nat}(hk:k<l.length)(hw:0≤l[k].who):zel l n k=inN l n (k+1) l[k].who.toNat:=by
 unfold zel inN
 rw[gd hk,show((l[k].who.toNat:Nat):Int)=l[k].who by omega]
theorem keepL_succ{l:List Ev}{p:Nat→Bool}{k:Nat}(hk:k<l.length):zbF l p (k+1)=if p k=true then zbF l p k++[l[k]] else zbF l p k:=by rw[zbF,gd hk]
section
variable (B:Option Addr)(d:Nat)(l:List Ev)(n:Int)(w:World)(hl:l.length≤200)(hA:RdEv w B l)(hw8:∀k (h:k<l.length),0≤l[k].who∧l[k].who<8) 
include hl hA hw8
theorem bpart_any:Calls Tryz.prog 167 #[.slice B l.length d,.int .i64 n] w fun e w'=>∃A c,e=.returned (.slice A (zbF l (zel l n) l.length).length c)∧Own Ev.enc 4 95 w' w.heap.size (.slice A (zbF l (zel l n) l.length).length c) (zbF l (zel l n) l.length)∧Below w.heap.size w w':=by
 refine zaj (S:=[]) [] Tryz.func167 rfl Tryz.ntmps167 Zj (Mem.nil _) ?_
 repeat' (first|refine Q0Bg2 ?_|((with_reducible (first|apply zaa|apply TD_e3z|apply zan|apply zaf|apply zae));(first|((with_reducible apply zcW);exact rfl;exact rfl;exact Zu;exact zdP _ _ _ _;(rw[zbI];omega);exact rfl)|exact ES.auto);exact Zh;(first|rintro _ _ ⟨rfl,rfl⟩|rintro _ _ ⟨g,rfl,rfl⟩|rintro _ _ ⟨A',c',rfl,rfl⟩);(try refine⟨SUB,?_⟩))|refine Zga ?_|(refine Zgb ?_;intro g)|(refine Zg ?_ ?_<;>(intro h;try exact Zx))|fail)
 obtain⟨g6,rfl⟩:∃x,x=g:=⟨_,rfl⟩
 refine zap (X:=Nat×Option Addr×Nat) (fun x=>[(12,.int .i64 (x.1:Nat)),(11,.int .i64 l.length),(10,.slice B l.length d),(6,.pointer (some ⟨g6,0,none⟩)),(5,.slice x.2.1 (zbF l (zel l n) x.1).length x.2.2),(1,.int .i64 n)])
  (fun x=>[zak g6 267 (bools (inN l n x.1) 8),zac Ev.enc 4 95 x.2.1 x.2.2 (zbF l (zel l n) x.1)]) (fun x=>x.1≤l.length) (fun x=>l.length-x.1) (0,none,0) (by(try dsimp only);omega) (by(try dsimp only);exact Ze)
  (fun w' hw=>by
   show Mem _ w' [zak g6 267 #[.bool false,.bool false,.bool false,.bool false,.bool false,.bool false,.bool false,.bool false],zac Ev.enc 4 95 none 0 []]
   exact(hw.nilOwn Ev.enc 4 95).sel Zl) ?_
 rintro⟨k,A1,c1⟩ hk
 dsimp only at hk ⊢
 have hkn:(zbF l (zel l n) k).length≤k:=by rw[zd3];exact zip _ k
 by_cases hkl:k<l.length
 ·obtain⟨b,o,rfl,_⟩:=RdE.open hA Zo
  obtain⟨hw0,hw1⟩:=hw8 k hkl
  have hks:=keepL_succ (p:=zel l n) hkl
  have hbp:=bagP_at (n:=n) hkl hw0
  by_cases h0:l[k].kind=0
  ·have hup:=inN_no (n:=n) hkl h0
   rw[←hup] at hbp
   generalize zbF l (zel l n) k=K at *
   cases hb:zel l n k
   ·rw[if_neg (by rw[hb];decide)] at hks
    rw[hb] at hbp
    repeat' (first|refine Q0Bg2 ?_|((with_reducible (first|apply zaa|apply TD_e3z|apply zan|apply zaf|apply zae));(first|((with_reducible apply zcW);exact rfl;exact rfl;exact Zu;exact zdP _ _ _ _;(rw[zbI];omega);exact rfl)|exact ES.auto);exact Zh;(first|rintro _ _ ⟨rfl,rfl⟩|rintro _ _ ⟨g,rfl,rfl⟩|rintro _ _ ⟨A',c',rfl,rfl⟩);(try refine⟨SUB,?_⟩))|refine Zga ?_|(refine Zgb ?_;intro g)|(refine Zg ?_ ?_<;>(intro h;try exact Zx))|fail)
    all_goals first
     |(exfalso;first|exact Bool.noConfusion (hbp.trans (show _=true by assumption))|exact Bool.noConfusion (hbp.trans (show _=false by assumption))|exact Bool.noConfusion ((show _=true by assumption).symm.trans hbp)|(simp_all;done))
     |(apply zab (k+1,A1,c1);(case hE=>(try dsimp only);rw[hks];exact Ze);(case hS=>(try dsimp only);rw[hks,←hup];exact fun w' hw=>hw.sel Zl);(case hμ=>(try dsimp only);omega);(case hp=>(try dsimp only);omega))
   ·rw[if_pos hb] at hks
    rw[hb] at hbp
    repeat' (first|refine Q0Bg2 ?_|((with_reducible (first|apply zaa|apply TD_e3z|apply zan|apply zaf|apply zae));(first|((with_reducible apply zcW);exact rfl;exact rfl;exact Zu;exact zdP _ _ _ _;(rw[zbI];omega);exact rfl)|exact ES.auto);exact Zh;(first|rintro _ _ ⟨rfl,rfl⟩|rintro _ _ ⟨g,rfl,rfl⟩|rintro _ _ ⟨A',c',rfl,rfl⟩);(try refine⟨SUB,?_⟩))|refine Zga ?_|(refine Zgb ?_;intro g)|(refine Zg ?_ ?_<;>(intro h;try exact Zx))|((with_reducible (first|apply zaa|apply TD_e3z|apply zan|apply zaf|apply zae));((with_reducible apply zaw (enc:=Ev.enc) (xx:=l[k]));exact rfl;exact rfl;exact Zm;exact rfl;exact fun _=>rfl;exact fun _=>rfl;(intro A' c';exact Zu);(omega);decide;exact rfl);exact Zh;(rintro _ _ ⟨A',c',rfl,rfl⟩);(try refine⟨SUB,?_⟩))|fail)
    all_goals first
     |(exfalso;first|exact Bool.noConfusion (hbp.trans (show _=true by assumption))|exact Bool.noConfusion (hbp.trans (show _=false by assumption))|exact Bool.noConfusion ((show _=true by assumption).symm.trans hbp)|(simp_all;done))
     |(apply zab (k+1,A',c');(case hE=>(try dsimp only);rw[hks];exact Ze);(case hS=>(try dsimp only);rw[hks,←hup];exact fun w' hw=>hw.sel Zl);(case hμ=>(try dsimp only);omega);(case hp=>(try dsimp only);omega))
  ·have hup:=inN_yes (n:=n) hkl h0 hw0
   rw[←hup] at hbp
   generalize zbF l (zel l n) k=K at *
   cases hb:zel l n k
   ·rw[if_neg (by rw[hb];decide)] at hks
    rw[hb] at hbp
    repeat' (first|refine Q0Bg2 ?_|((with_reducible (first|apply zaa|apply TD_e3z|apply zan|apply zaf|apply zae));(first|((with_reducible apply zcW);exact rfl;exact rfl;exact Zu;exact zdP _ _ _ _;(rw[zbI];omega);exact rfl)|exact ES.auto);exact Zh;(first|rintro _ _ ⟨rfl,rfl⟩|rintro _ _ ⟨g,rfl,rfl⟩|rintro _ _ ⟨A',c',rfl,rfl⟩);(try refine⟨SUB,?_⟩))|refine Zga ?_|(refine Zgb ?_;intro g)|(refine Zg ?_ ?_<;>(intro h;try exact Zx))|fail)
    all_goals first
     |(exfalso;first|exact Bool.noConfusion (hbp.trans (show _=true by assumption))|exact Bool.noConfusion (hbp.trans (show _=false by assumption))|exact Bool.noConfusion ((show _=true by assumption).symm.trans hbp)|(simp_all;done))
     |(apply zab (k+1,A1,c1);(case hE=>(try dsimp only);rw[hks];exact Ze);(case hS=>(try dsimp only);rw[hks,←hup];exact fun w' hw=>hw.sel Zl);(case hμ=>(try dsimp only);omega);(case hp=>(try dsimp only);omega))
   ·rw[if_pos hb] at hks
    rw[hb] at hbp
    repeat' (first|refine Q0Bg2 ?_|((with_reducible (first|apply zaa|apply TD_e3z|apply zan|apply zaf|apply zae));(first|((with_reducible apply zcW);exact rfl;exact rfl;exact Zu;exact zdP _ _ _ _;(rw[zbI];omega);exact rfl)|exact ES.auto);exact Zh;(first|rintro _ _ ⟨rfl,rfl⟩|rintro _ _ ⟨g,rfl,rfl⟩|rintro _ _ ⟨A',c',rfl,rfl⟩);(try refine⟨SUB,?_⟩))|refine Zga ?_|(refine Zgb ?_;intro g)|(refine Zg ?_ ?_<;>(intro h;try exact Zx))|((with_reducible (first|apply zaa|apply TD_e3z|apply zan|apply zaf|apply zae));((with_reducible apply zaw (enc:=Ev.enc) (xx:=l[k]));exact rfl;exact rfl;exact Zm;exact rfl;exact fun _=>rfl;exact fun _=>rfl;(intro A' c';exact Zu);(omega);decide;exact rfl);exact Zh;(rintro _ _ ⟨A',c',rfl,rfl⟩);(try refine⟨SUB,?_⟩))|fail)
    all_goals first
     |(exfalso;first|exact Bool.noConfusion (hbp.trans (show _=true by assumption))|exact Bool.noConfusion (hbp.trans (show _=false by assumption))|exact Bool.noConfusion ((show _=true by assumption).symm.trans hbp)|(simp_all;done))
     |(apply zab (k+1,A',c');(case hE=>(try dsimp only);rw[hks];exact Ze);(case hS=>(try dsimp only);rw[hks,←hup];exact fun w' hw=>hw.sel Zl);(case hμ=>(try dsimp only);omega);(case hp=>(try dsimp only);omega))
 ·obtain rfl:k=l.length:=by omega
  repeat' (first|refine Q0Bg2 ?_|((with_reducible (first|apply zaa|apply TD_e3z|apply zan|apply zaf|apply zae));(first|((with_reducible apply zcW);exact rfl;exact rfl;exact Zu;exact zdP _ _ _ _;(rw[zbI];omega);exact rfl)|exact ES.auto);exact Zh;(first|rintro _ _ ⟨rfl,rfl⟩|rintro _ _ ⟨g,rfl,rfl⟩|rintro _ _ ⟨A',c',rfl,rfl⟩);(try refine⟨SUB,?_⟩))|refine Zga ?_|(refine Zgb ?_;intro g)|(refine Zg ?_ ?_<;>(intro h;try exact Zx))|fail)
  (refine zah Tryz.results167 rfl (fun w' hw=>?_))
  exact⟨A1,c1,rfl,hw.ownOut rfl Zm,hw.below0 rfl⟩
end
end
section
open Go.RowKit
theorem zfp(w:World):Calls Tryz.prog 164 #[] w fun e w'=>∃A c,e=.returned (.slice A [(4:Int)].length c)∧Own zag 1 3 w' w.heap.size (.slice A [(4:Int)].length c) [4]∧Below w.heap.size w w':=by
 refine zaj (S:=[]) [] Tryz.func164 rfl Tryz.ntmps164 Zj (Mem.nil _) ?_
 repeat' (first|refine Zga ?_|(refine Zgb ?_;intro g)|(refine Zg ?_ ?_<;>(intro h;try exact Zx))|fail)
 (refine zah Tryz.results164 rfl (fun w' hw=>?_))
 have hw2:Mem _ w' [zac zag 1 3 (some ⟨g,0,none⟩) 1 [4]]:=Mem.asOwn (enc:=zag) (M:=1) [4] (Upd.here _ _ _) rfl (fun _=>rfl) Zi hw
 exact⟨some ⟨g,0,none⟩,1,rfl,hw2.ownOut rfl Zm,hw.below0 rfl⟩
theorem who8{ts:List Int}{l:List Ev}(hv:∀j,j<l.length→erR ts l j=0):∀k (h:k<l.length),0≤l[k].who∧l[k].who<8:=fun k h=>by
 have h1:=(evR_yes (hv k h)).1
 rw[gd h] at h1
 simp only[za4,Bool.or_eq_false_iff,decide_eq_false_iff_not] at h1
 omega
section
variable (B:Option Addr)(d:Nat)(l:List Ev)(n:Int)(w:World)(hl:l.length≤9223372036854775807)(hA:RdEv w B l) 
include hl hA
end
theorem filt_succ{cs:List Cl}{p:Cl→Bool}{k:Nat}(hk:k<cs.length):(cs.take (k+1)).filter p=if p cs[k]=true then(cs.take k).filter p++[cs[k]] else(cs.take k).filter p:=by
 rw[List.take_succ_eq_append_getElem hk,List.filter_append,List.filter_cons,List.filter_nil]
 split<;>simp
section
variable (A:Option Addr)(c:Nat)(cs:List Cl)(w:World)(hl:cs.length≤200)(hA:zh2 w A cs) 
include hl hA
theorem bagCalls_any(n:Int):Calls Tryz.prog 41 #[.slice A cs.length c,.int .i64 n] w fun e w'=>∃A c,e=.returned (.slice A (cs.filter (zce n)).length c)∧Own Cl.enc 7 36 w' w.heap.size (.slice A (cs.filter (zce n)).length c) (cs.filter (zce n))∧Below w.heap.size w w':=by
 refine zaj (S:=[]) [] Tryz.func41 rfl Tryz.ntmps41 Zj (Mem.nil _) ?_
 repeat' (first|refine Zga ?_|(refine Zgb ?_;intro g)|(refine Zg ?_ ?_<;>(intro h;try exact Zx))|fail)
 refine zap (X:=Nat×Option Addr×Nat) (fun x=>[(10,.int .i64 (x.1:Nat)),(9,.int .i64 cs.length),(8,.slice A cs.length c),(5,.slice x.2.1 ((cs.take x.1).filter (zce n)).length x.2.2),(1,.int .i64 n)]) (fun x=>[zac Cl.enc 7 36 x.2.1 x.2.2 ((cs.take x.1).filter (zce n))]) (fun x=>x.1≤cs.length) (fun x=>cs.length-x.1) (0,none,0) (by(try dsimp only);omega) (by(try dsimp only);exact Ze) (fun w hw=>(hw.nilOwn Cl.enc 7 36).sub Zt) ?_
 rintro⟨k,A1,c1⟩ hk
 dsimp only at hk ⊢
 by_cases hkl:k<cs.length
 ·obtain⟨b,o,rfl,_⟩:=RdE.open hA Zo
  have hfs:=filt_succ (p:=zce n) hkl
  have hfl:((cs.take k).filter (zce n)).length≤k:=Nat.le_trans (List.length_filter_le _ _) (by rw[List.length_take];omega)
  generalize (cs.take k).filter (zce n)=K at *
  by_cases hb:cs[k].arg=n
  ·rw[if_pos (by unfold zce;exact decide_eq_true hb)] at hfs
   repeat' (first|refine Zga ?_|(refine Zgb ?_;intro g)|(refine Zg ?_ ?_<;>(intro h;try exact Zx))|((with_reducible (first|apply zaa|apply TD_e3z|apply zan|apply zaf|apply zae));((with_reducible apply zaw (enc:=Cl.enc) (xx:=cs[k]));exact rfl;exact rfl;exact Zm;exact rfl;exact fun _=>rfl;exact fun _=>rfl;(intro A' c';exact Zu);(omega);decide;exact rfl);exact Zh;(rintro _ _ ⟨A',c',rfl,rfl⟩);(try refine⟨SUB,?_⟩))|fail)
   all_goals first
    |(exfalso;omega)
    |(apply zab (k+1,A',c');(case hE=>(try dsimp only);rw[hfs];exact Ze);(case hS=>(try dsimp only);rw[hfs];exact fun w' hw=>hw.sel Zl);(case hμ=>(try dsimp only);omega);(case hp=>(try dsimp only);omega))
  ·rw[if_neg (by unfold zce;simpa using hb)] at hfs
   repeat' (first|refine Zga ?_|(refine Zgb ?_;intro g)|(refine Zg ?_ ?_<;>(intro h;try exact Zx))|fail)
   all_goals first
    |(exfalso;omega)
    |(apply zab (k+1,A1,c1);(case hE=>(try dsimp only);rw[hfs];exact Ze);(case hS=>(try dsimp only);rw[hfs];exact fun w' hw=>hw.sel Zl);(case hμ=>(try dsimp only);omega);(case hp=>(try dsimp only);omega))
 ·obtain rfl:k=cs.length:=by omega
  rw[List.take_length]
  repeat' (first|refine Zga ?_|(refine Zgb ?_;intro g)|(refine Zg ?_ ?_<;>(intro h;try exact Zx))|fail)
  (refine zah Tryz.results41 rfl (fun w' hw=>?_))
  exact⟨A1,c1,rfl,hw.ownOut rfl Zm,hw.below0 rfl⟩
end
section
variable (B A:Option Addr)(d c:Nat)(l:List Ev)(own:List Cl)(w:World)(hl:l.length≤200)(hol:own.length≤200)(hB:RdEv w B l)(hA:zh2 w A own) 
include hl hol hB hA
end
end
section
open Go.RowKit Go.Maps Go.Sort Go.Shelf
def rhoKeys:Ren:=⟨fun n=>if n=7 then 166 else if n=10 then 192 else n,fun n=>if n=23 then 229 else if n=26 then 3 else if n=3 then 3 else if n=28 then 232 else if n=0 then 0 else if n=27 then 231 else if n=33 then 107 else if n=4 then 4 else n,fun n=>n⟩
theorem layKeys:SlLaysZI.n7 Tryz.prog rhoKeys where
 mixed:=by kernel_rfl
 f7 := ⟨ "maps.Keys[map[int]int,int,int]", rfl, by kernel_rfl⟩
 f10 := ⟨ "maps.Keys[map[int]int,int,int]$1", rfl, by kernel_rfl⟩
 t0:=Tryz.underlying0
 a0:=Tryz.isAgg0
 z0:=Tryz.sizeOf0
 v0:=Tryz.zeroValue0
 t4:=Tryz.underlying4
 a4:=Tryz.isAgg4
 z4:=Tryz.sizeOf4
 v4:=Tryz.zeroValue4
 t23:=Tryz.underlying229
 a23:=Tryz.isAgg229
 z23:=Tryz.sizeOf229
 v23:=Tryz.zeroValue229
 t26:=Tryz.underlying3
 a26:=Tryz.isAgg3
 z26:=Tryz.sizeOf3
 v26:=Tryz.zeroValue3
 t27:=Tryz.underlying231
 a27:=Tryz.isAgg231
 z27:=Tryz.sizeOf231
 v27:=Tryz.zeroValue231
 t28:=Tryz.underlying232
 a28:=Tryz.isAgg232
 z28:=Tryz.sizeOf232
 v28:=Tryz.zeroValue232
 t33:=Tryz.underlying107
 a33:=Tryz.isAgg107
 z33:=Tryz.sizeOf107
 v33:=Tryz.zeroValue107
def rhoSorted:Ren:=⟨fun n=>if n=6 then 165 else if n=8 then 190 else if n=9 then 191 else if n=11 then 228 else if n=13 then 184 else if n=12 then 229 else if n=23 then 219 else if n=24 then 207 else if n=14 then 247 else if n=15 then 248 else if n=16 then 249 else if n=17 then 250 else if n=18 then 251 else if n=19 then 252 else if n=20 then 253 else if n=21 then 254 else if n=22 then 255 else if n=25 then 260 else if n=26 then 240 else if n=27 then 241 else if n=28 then 261 else if n=29 then 262 else if n=30 then 173 else if n=31 then 263 else n,fun n=>if n=26 then 3 else if n=28 then 232 else if n=24 then 24 else if n=0 then 0 else if n=3 then 3 else if n=37 then 88 else if n=48 then 271 else if n=50 then 255 else if n=4 then 4 else if n=40 then 287 else if n=39 then 286 else if n=45 then 138 else if n=5 then 5 else if n=9 then 9 else if n=51 then 321 else if n=55 then 325 else if n=57 then 342 else if n=58 then 343 else if n=33 then 107 else n,fun n=>n⟩
theorem laySorted:SlLaysZI.n6 Tryz.prog rhoSorted where
 mixed:=by kernel_rfl
 f6 := ⟨ "slices.Sorted[int]", rfl, by kernel_rfl⟩
 f8 := ⟨ "slices.Collect[int]", rfl, by kernel_rfl⟩
 f11 := ⟨ "slices.AppendSeq[[]int,int]", rfl, by kernel_rfl⟩
 t0:=Tryz.underlying0
 a0:=Tryz.isAgg0
 z0:=Tryz.sizeOf0
 v0:=Tryz.zeroValue0
 t24:=Tryz.underlying24
 a24:=Tryz.isAgg24
 z24:=Tryz.sizeOf24
 v24:=Tryz.zeroValue24
 t26:=Tryz.underlying3
 a26:=Tryz.isAgg3
 z26:=Tryz.sizeOf3
 v26:=Tryz.zeroValue3
 t28:=Tryz.underlying232
 a28:=Tryz.isAgg232
 z28:=Tryz.sizeOf232
 v28:=Tryz.zeroValue232
 i26:=by kernel_rfl
def rhoSortI:Ren:=⟨fun n=>if n=5 then 191 else if n=8 then 184 else if n=7 then 229 else if n=19 then 219 else if n=20 then 207 else if n=10 then 247 else if n=11 then 248 else if n=12 then 249 else if n=13 then 250 else if n=14 then 251 else if n=15 then 252 else if n=16 then 253 else if n=17 then 254 else if n=18 then 255 else if n=30 then 260 else if n=31 then 240 else if n=32 then 241 else if n=33 then 261 else if n=34 then 262 else if n=35 then 173 else if n=40 then 263 else n,fun n=>if n=23 then 24 else if n=25 then 3 else if n=3 then 3 else if n=32 then 88 else if n=22 then 24 else if n=0 then 0 else if n=44 then 271 else if n=46 then 255 else if n=4 then 4 else if n=36 then 287 else if n=35 then 286 else if n=41 then 138 else if n=5 then 5 else if n=9 then 9 else if n=53 then 321 else if n=57 then 325 else if n=63 then 342 else if n=64 then 343 else n,fun n=>n⟩
theorem laySortI:SlLaysM.n5 Tryz.prog rhoSortI where
 mixed:=by kernel_rfl
 f5 := ⟨ "slices.Sort[[]int,int]", rfl, by kernel_rfl⟩
 f7 := ⟨ "slices.pdqsortOrdered[int]", rfl, by kernel_rfl⟩
 f8:=by kernel_rfl
 f10 := ⟨ "slices.insertionSortOrdered[int]", rfl, by kernel_rfl⟩
 f11 := ⟨ "slices.heapSortOrdered[int]", rfl, by kernel_rfl⟩
 f12 := ⟨ "slices.breakPatternsOrdered[int]", rfl, by kernel_rfl⟩
 f13 := ⟨ "slices.choosePivotOrdered[int]", rfl, by kernel_rfl⟩
 f14 := ⟨ "slices.reverseRangeOrdered[int]", rfl, by kernel_rfl⟩
 f15 := ⟨ "slices.partialInsertionSortOrdered[int]", rfl, by kernel_rfl⟩
 f16 := ⟨ "cmp.Less[int]", rfl, by kernel_rfl⟩
 f17 := ⟨ "slices.partitionEqualOrdered[int]", rfl, by kernel_rfl⟩
 f18 := ⟨ "slices.partitionOrdered[int]", rfl, by kernel_rfl⟩
 f19:=by kernel_rfl
 f20:=by kernel_rfl
 f30 := ⟨ "slices.siftDownOrdered[int]", rfl, by kernel_rfl⟩
 f31:=by kernel_rfl
 f32:=by kernel_rfl
 f33 := ⟨ "slices.medianAdjacentOrdered[int]", rfl, by kernel_rfl⟩
 f34 := ⟨ "slices.medianOrdered[int]", rfl, by kernel_rfl⟩
 f35 := ⟨ "cmp.isNaN[int]", rfl, by kernel_rfl⟩
 f40 := ⟨ "slices.order2Ordered[int]", rfl, by kernel_rfl⟩
 t0:=Tryz.underlying0
 a0:=Tryz.isAgg0
 z0:=Tryz.sizeOf0
 v0:=Tryz.zeroValue0
 t3:=Tryz.underlying3
 a3:=Tryz.isAgg3
 z3:=Tryz.sizeOf3
 v3:=Tryz.zeroValue3
 t4:=Tryz.underlying4
 a4:=Tryz.isAgg4
 z4:=Tryz.sizeOf4
 v4:=Tryz.zeroValue4
 t5:=Tryz.underlying5
 a5:=Tryz.isAgg5
 z5:=Tryz.sizeOf5
 v5:=Tryz.zeroValue5
 t9:=Tryz.underlying9
 a9:=Tryz.isAgg9
 z9:=Tryz.sizeOf9
 v9:=Tryz.zeroValue9
 t22:=Tryz.underlying24
 a22:=Tryz.isAgg24
 z22:=Tryz.sizeOf24
 v22:=Tryz.zeroValue24
 t23:=Tryz.underlying24
 a23:=Tryz.isAgg24
 z23:=Tryz.sizeOf24
 v23:=Tryz.zeroValue24
 t25:=Tryz.underlying3
 a25:=Tryz.isAgg3
 z25:=Tryz.sizeOf3
 v25:=Tryz.zeroValue3
 t32:=Tryz.underlying88
 a32:=Tryz.isAgg88
 z32:=Tryz.sizeOf88
 v32:=Tryz.zeroValue88
 t35:=Tryz.underlying286
 a35:=Tryz.isAgg286
 z35:=Tryz.sizeOf286
 v35:=Tryz.zeroValue286
 t36:=Tryz.underlying287
 a36:=Tryz.isAgg287
 z36:=Tryz.sizeOf287
 v36:=Tryz.zeroValue287
 t41:=Tryz.underlying138
 a41:=Tryz.isAgg138
 z41:=Tryz.sizeOf138
 v41:=Tryz.zeroValue138
 t44:=Tryz.underlying271
 a44:=Tryz.isAgg271
 z44:=Tryz.sizeOf271
 v44:=Tryz.zeroValue271
 t46:=Tryz.underlying255
 a46:=Tryz.isAgg255
 z46:=Tryz.sizeOf255
 v46:=Tryz.zeroValue255
 t53:=Tryz.underlying321
 a53:=Tryz.isAgg321
 z53:=Tryz.sizeOf321
 v53:=Tryz.zeroValue321
 t57:=Tryz.underlying325
 a57:=Tryz.isAgg325
 z57:=Tryz.sizeOf325
 v57:=Tryz.zeroValue325
 t63:=Tryz.underlying342
 a63:=Tryz.isAgg342
 z63:=Tryz.sizeOf342
 v63:=Tryz.zeroValue342
 t64:=Tryz.underlying343
 a64:=Tryz.isAgg343
 z64:=Tryz.sizeOf343
 v64:=Tryz.zeroValue343
end
section
open Go.RowKit Go.Maps Go.Sort Go.Shelf Go.Lib
theorem sortsI(m:Nat):AnyZI.SortsIn Tryz.prog rhoSorted Fence.wide m :=
 ⟨fun blk off cap ss W hH hblk hsz=>callsIn_wide.2 (AnyM.slices_Sort_int laySortI blk off cap ss W hH hblk hsz),
  fun p cap W=>callsIn_wide.2 (AnyM.slices_Sort_int_none laySortI p cap W)⟩
theorem keysOf_any(gm:Nat)(w:World):Calls Tryz.prog 166 #[.map (some gm)] w fun e w'=>∃g:Nat,e=.returned (.func (.func 192) #[] #[.pointer (some ⟨g,0,none⟩)])∧Mem ⟨0,[],w⟩ w' [zak g 229 #[.map (some gm)]]:=by
 refine(callsIn_wide.1 (AnyZI.keys_in layKeys Fence.wide 5 trivial rfl (some gm) w)).mono ?_
 rintro e w' ⟨rfl,rfl⟩
 refine⟨w.heap.size,rfl,?_⟩
 exact(Mem.nil ⟨0,[],w⟩).alloc (e:=zak w.heap.size 229 #[.map (some gm)]) _ (fun k hk=>hk) (by show(w.heap.push _)[w.heap.size]?=_;exact Array.getElem?_push_size)
theorem ins_perm{H:Type}(x:Lit×DataW H):∀l:List (Lit×DataW H),(DataW.insert x l).Perm (x::l)
 |[]=>List.Perm.refl _
 |y::l=>by
  unfold DataW.insert
  split
  ·exact List.Perm.refl _
  ·exact((ins_perm x l).cons y).trans (List.Perm.swap x y l)
theorem zjT{H:Type}:∀l:List (Lit×DataW H),(l.foldr DataW.insert []).Perm l
 |[]=>List.Perm.refl _
 |x::l=>(ins_perm x _).trans ((zjT l).cons x)
abbrev KeysTo(D:List (Int×Int)):={ks:List Int // ks.Perm (D.map (·.1))∧ks.Pairwise (·≤·)}
theorem sortedKeys_any(gm g:Nat)(D:List (Int×Int))(w:World)(hg:Blk w g 229 #[.map (some gm)])(hm:MapI intV w gm D)(hnd:(D.map (·.1)).Nodup)(hr:∀p∈D,-9223372036854775808≤p.1∧p.1≤9223372036854775807)(hl:D.length≤1000):
  Calls Tryz.prog 165 #[.func (.func 192) #[] #[.pointer (some ⟨g,0,none⟩)]] w fun e w'=>∃x:Option Addr×Nat×KeysTo D,e=.returned (.slice x.1 x.2.2.1.length x.2.1)∧Mem ⟨0,[],w⟩ w' [zac zag 1 3 x.1 x.2.1 x.2.2.1]:=by
 obtain⟨es,cl,hb,hes,hbo⟩:=hm
 have hkl:∀x∈es.toList,∃p∈D,x.key=.int .i64 p.1:=fun x hx=>by
  have h1:(x.key,x.val)∈zbG intV D:=by rw[←hes];exact List.mem_map.2 ⟨x,hx,rfl⟩
  unfold zbG at h1
  obtain⟨p,hp,he⟩:=List.mem_map.1 h1
  exact⟨p,hp,(congrArg Prod.fst he).symm⟩
 have hky:∀a:Int,-9223372036854775808≤a∧a≤9223372036854775807→keyOf Tryz.prog 3 (.int .i64 a)=some (.int .i64 a):=fun a ha=>by
  refine keyOf_int_mk Tryz.underlying3 ?_
  show(decide (IntKind.i64.min≤a)&&decide (a≤IntKind.i64.max))=true
  rw[Bool.and_eq_true,decide_eq_true_eq,decide_eq_true_eq]
  exact ha
 have hlen:es.size=D.length:=by
  have:=congrArg List.length hes
  simpa[zbG] using this
 obtain⟨kv,hkv⟩:∃kv:Value→Int,∀k a,kv (.int k a)=a:=⟨fun v=>match v with | .int _ a=>a|_=>0,fun _ _=>rfl⟩
 obtain⟨R,hR⟩:∃R:Value→Option (DataW Unit×List MemPlace),R=fun _=>some (.nil,[]):=⟨_,rfl⟩
 have hrd:∀x∈es.toList,Go.WideElems.rd Tryz.prog 3 R x=some (.int .i64 (kv x.key),.nil):=fun x hx=>by
  obtain⟨p,hp,he⟩:=hkl x hx
  unfold Go.WideElems.rd
  rw[he,hkv,hky p.1 (hr p hp),hR];rfl
 obtain⟨D0,hD0⟩:∃D0:DataW Unit,D0=.map ((es.toList.map (Go.WideElems.rg Tryz.prog 3 R)).foldr DataW.insert []):=⟨_,rfl⟩
 have hmk:es.toList.map (fun x=>kv x.key)=D.map (·.1):=by
  have h1:es.toList.map (fun x=>kv x.key)=(es.toList.map (fun e=>(e.key,e.val))).map (fun q=>kv q.1):=by rw[List.map_map];rfl
  rw[h1,hes]
  unfold zbG
  rw[List.map_map]
  refine List.map_congr_left fun p _=>?_
  exact hkv _ _
 have hik:(intKeys D0).Perm (D.map (·.1)):=by
  rw[hD0]
  show(((es.toList.map (Go.WideElems.rg Tryz.prog 3 R)).foldr DataW.insert []).map fun p=>Go.intOf p.1).Perm _
  refine((zjT _).map _).trans ?_
  rw[List.map_map,←hmk]
  have:es.toList.map ((fun p:Lit×DataW Unit=>Go.intOf p.1) ∘ Go.WideElems.rg Tryz.prog 3 R)=es.toList.map (fun x=>kv x.key):=List.map_congr_left fun x hx=>by
   rw[Function.comp_apply,Go.WideElems.rg_of (hrd x hx)];rfl
  rw[this]
 have hsz:Maps.size D0=D.length:=by
  rw[hD0]
  show((es.toList.map (Go.WideElems.rg Tryz.prog 3 R)).foldr DataW.insert []).length=_
  rw[(zjT _).length_eq,List.length_map]
  simpa using hlen
 have hown:w.ownsMap Tryz.prog 3 R gm es.size D0:=by
  refine⟨es,cl,hb,⟨by unfold maxLen;omega,⟨hbo.2,hbo.1,?_⟩,fun x hx=>⟨_,hrd x hx⟩⟩,Nat.le_refl _,hD0⟩
  have h1:es.toList.map (·.key)=D.map (fun p=>Value.int .i64 p.1):=by
   have h2:es.toList.map (·.key)=(es.toList.map (fun e=>(e.key,e.val))).map Prod.fst:=by rw[List.map_map];rfl
   rw[h2,hes]
   unfold zbG
   rw[List.map_map];rfl
  rw[h1]
  have h3:D.map (fun p=>Value.int .i64 p.1)=(D.map (·.1)).map (Value.int .i64):=by rw[List.map_map];rfl
  rw[h3]
  exact List.Pairwise.map _ (fun a b hab he=>hab (by simpa using he)) hnd
 have hgl:=hg.lt
 have hseq:=AnyZI.keys_gives (ρ:=rhoKeys) { layKeys with } Fence.wide 2 trivial rfl Zo g gm es.size D0 w hgl (hg.cell 0) hown
 have cS:=AnyZI.sorted_in laySorted Fence.wide 5 trivial trivial trivial trivial rfl Zo (sortsI _) (enters_of Tryz.func191 (by kernel_rfl) rfl) 192 #[.pointer (some ⟨g,0,none⟩)] trivial (enters_of Tryz.func192 (by kernel_rfl) rfl) _ _ (by rw[hsz];unfold maxLen;omega) (by rw[hsz];omega) _ hseq
 refine(callsIn_wide.1 cS).mono ?_
 rintro e w' ⟨v,ss,rfl,hS,hrow,hnil,hbw⟩
 have hp:(ss.mergeSort (fun x y=>decide (x≤y))).Perm (D.map (·.1)):=(List.mergeSort_perm _ _).trans (hS.trans hik)
 have hle:(ss.mergeSort (fun x y=>decide (x≤y))).Pairwise (·≤·):=by
  have:=List.pairwise_mergeSort (le:=fun x y:Int=>decide (x≤y)) (fun a b c h1 h2=>by simp only[decide_eq_true_eq] at *;omega) (fun a b=>by simp only[Bool.or_eq_true,decide_eq_true_eq];omega) ss
  exact this.imp fun h=>of_decide_eq_true h
 have hll:(ss.mergeSort (fun x y=>decide (x≤y))).length=ss.length:=(List.mergeSort_perm _ _).length_eq
 generalize ss.mergeSort (fun x y=>decide (x≤y))=ks at *
 have hfl:ks.map encZ=ks.flatMap zag:=by
  clear hp hle hll hrow
  induction ks with
  |nil=>rfl
  |cons a l ih=>rw[List.map_cons,List.flatMap_cons,ih];rfl
 rcases hrow.2 with⟨rfl,h0⟩|⟨g2,cap,cur,rfl,h2⟩
 ·obtain rfl:ks=[]:=List.length_eq_zero_iff.1 Zo
  refine⟨(none,0,⟨[],hp,hle⟩),rfl,Mem.ofOwn hbw (Own.nil _ _)⟩
 ·refine⟨(some ⟨g2,0,none⟩,cap,⟨ks,hp,hle⟩),by rw[hll],Mem.ofOwn hbw ?_⟩
  unfold Own
  rw[←hfl]
  rw[hll]
  exact hrow
end
section
open Go.RowKit
theorem bag_arg{l:List Ev}(h0:(zai [4] l).2.2=0):∀c∈(zai [4] l).1,1≤c.arg∧c.arg≤1000:=by
 obtain⟨h1,h2,h3,h4⟩:=zbJ h0
 intro c hc
 rw[h4] at hc
 obtain⟨q,hq,rfl⟩:=List.mem_iff_getElem.1 hc
 have h6:=(zcY [4] l l.length).each q hq
 have h7:=h6.kind
 have h8:=h6.arg
 have e:(stR [4] l l.length)[q].thing.toNat=0:=by have:=h6.thing;simp at this;omega
 rw[e] at h7
 have h9:(stR [4] l l.length)[q].kind=7∨(stR [4] l l.length)[q].kind=8∨(stR [4] l l.length)[q].kind=9:=by simpa[zaZ] using h7
 rcases h9 with h9|h9|h9<;>(rw[h9] at h8;simpa[zdO] using h8)
section
variable (B:Option Addr)(d:Nat)(l:List Ev)(w:World)(hl:l.length≤9223372036854775807)(hA:RdEv w B l) 
include hl hA
theorem bCheck_any:Calls Tryz.prog 123 #[.slice B l.length d] w fun e w'=>∃A c,e=.returned (.tuple #[.slice A (bcR l).length c,.int .i64 (bcE l)])∧Own zag 1 3 w' w.heap.size (.slice A (bcR l).length c) (bcR l)∧Below w.heap.size w w':=by
 have h1:=fun T c w h1 h2=>za8 T B c d [4] l w Zi hl h1 h2
 have hin:=zbJ (ts:=[4]) (l:=l)
 have harg:=bag_arg (l:=l)
 have hsm:=fun n h0 h9=>bag_same (l:=l) (n:=n) h0 h9
 have hcl:=zbi [4] l
 unfold bcR bcE
 obtain⟨cs,y,z,hcr⟩:∃cs y z,zai [4] l=(cs,y,z):=⟨_,_,_,rfl⟩
 rw[hcr] at h1 hin harg hsm hcl ⊢
 dsimp only at h1 hin harg hsm hcl ⊢
 clear hcr
 refine zaj (S:=[]) [] Tryz.func123 rfl Tryz.ntmps123 Zj (Mem.nil _) ?_
 by_cases hz:z=0
 case neg =>
  rw[if_pos hz,if_neg hz]
  repeat' (first|refine Zga ?_|(refine Zgb ?_;intro g)|(refine Zg ?_ ?_<;>(intro h;try exact Zx))|((with_reducible (first|apply zaa|apply TD_e3z|apply zan|apply zaf|apply zae));((with_reducible apply zal (f:=164));exact rfl;(intro w hw;exact zfp w);exact rfl);exact Zh;(rintro _ _ ⟨A1,c1,rfl,rfl⟩);(try refine⟨SUB,?_⟩))|((with_reducible (first|apply zaa|apply TD_e3z|apply zan|apply zaf|apply zae));((with_reducible apply zal (f:=12));exact rfl;(intro w hw;exact h1 A1 c1 w (hw.ownRd Zm (fun _=>rfl)) (hw.rd rfl hA));exact rfl);exact Zh;(rintro _ _ ⟨A2,c2,rfl,rfl⟩);(try refine⟨SUB,?_⟩))|fail)
  all_goals first
   |((refine zah Tryz.results123 rfl (fun w' hw=>?_));exact⟨none,0,rfl,Own.nil _ _,hw.below0 rfl⟩)
   |(exfalso;omega)
 subst hz
 obtain⟨_,h200,hv,hcs⟩:=hin rfl
 have harg:=harg rfl
 have hsm:=fun n h9=>hsm n rfl h9
 clear hin hcs
 rw[if_neg (show ¬((0:Int)≠0) by decide)]
 repeat' (first|refine Zga ?_|(refine Zgb ?_;intro g)|(refine Zg ?_ ?_<;>(intro h;try exact Zx))|((with_reducible (first|apply zaa|apply TD_e3z|apply zan|apply zaf|apply zae));((with_reducible apply zal (f:=164));exact rfl;(intro w hw;exact zfp w);exact rfl);exact Zh;(rintro _ _ ⟨A1,c1,rfl,rfl⟩);(try refine⟨SUB,?_⟩))|((with_reducible (first|apply zaa|apply TD_e3z|apply zan|apply zaf|apply zae));((with_reducible apply zal (f:=12));exact rfl;(intro w hw;exact h1 A1 c1 w (hw.ownRd Zm (fun _=>rfl)) (hw.rd rfl hA));exact rfl);exact Zh;(rintro _ _ ⟨A2,c2,rfl,rfl⟩);(try refine⟨SUB,?_⟩))|fail)
 all_goals first|(exfalso;omega)|skip
 obtain⟨gm,rfl⟩:∃x,x=g:=⟨_,rfl⟩
 refine zap (X:=Nat) (fun k=>[(29,.int .i64 (k:Nat)),(28,.int .i64 cs.length),(27,.slice A2 cs.length c2),(7,.map (some gm)),(0,.slice B l.length d)]) (fun k=>[zcv intV gm (zhk cs k),zac Cl.enc 7 36 A2 c2 cs]) (fun k=>k≤cs.length∧∀i (hi:i<cs.length),i<k→cN cs (i+1) cs[i].arg≤9) (fun k=>cs.length-k) 0 ⟨by omega,fun i hi hk=>by omega⟩ Ze (fun w' hw=>by rw[show zhk cs 0=[] from rfl];exact hw.sel Zl) ?_
 rintro k ⟨hk,hno⟩
 by_cases hkl:k<cs.length
 ·have hms:=zjB hkl
  have hlk:=zjC cs[k].arg k hk
  have hle:=cN_le cs k cs[k].arg
  have hsc:=cN_succ hkl cs[k].arg
  rw[if_pos rfl] at hsc
  have hbig:=fun h=>bigB_yes hkl h
  have hlp:=zeO cs[k].arg ((zcs (zhk cs k) cs[k].arg).getD 0+1) cs[k].arg (zhk cs k)
  rw[if_pos rfl] at hlp
  have hlp2:(zcs (zgP (zhk cs k) cs[k].arg ((zcs (zhk cs k) cs[k].arg).getD 0+1)) cs[k].arg).getD 0=((cN cs k cs[k].arg:Nat):Int)+1:=by rw[hlp,Option.getD_some,hlk]
  have hnew:cN cs k cs[k].arg+1≤9→∀i (hi:i<cs.length),i<k+1→cN cs (i+1) cs[i].arg≤9:=fun h i hi hk=>(Nat.lt_succ_iff_lt_or_eq.1 hk).elim (fun e=>hno i hi e) (fun e=>by subst e;rw[hsc];exact h)
  rw[hsc] at hbig
  refine zb1 (enc:=Cl.enc) (ls:=cs) Zm Zo ?_
  rintro gC rfl
  clear hlp hno hsc
  generalize cN cs k cs[k].arg=m at *
  generalize zhk cs k=D at *
  repeat' (first|refine Zga ?_|(refine Zgb ?_;intro g)|(refine Zg ?_ ?_<;>(intro h;try exact Zx))|fail)
  all_goals first
   |((refine zah Tryz.results123 rfl (fun w' hw=>?_));rw[if_pos (hbig Zo),if_neg Zi];exact⟨none,0,rfl,Own.nil _ _,hw.below0 rfl⟩)
   |(apply zab (k+1);(case hE=>(try dsimp only);exact Ze);(case hS=>(try dsimp only);rw[hms];exact fun w' hw=>hw.sel Zl);(case hμ=>(try dsimp only);omega);(case hp=>exact⟨hkl,hnew Zo⟩))
 ·obtain rfl:k=cs.length:=by omega
  have hnb:=bigB_no fun i hi=>hno i hi hi
  have hfew:=fun v=>cN_few (Nat.le_refl _) (fun i hi _=>hno i hi hi) v
  rw[hnb,if_neg (show ¬(false=true) by decide),if_pos (show(0:Int)=0 from rfl)]
  have hkr:∀p∈zhk cs cs.length,-9223372036854775808≤p.1∧p.1≤9223372036854775807:=fun p hp=>by
   have h2:=(cntM_mem p.1 cs.length (Nat.le_refl _)).1 (List.mem_map.2 ⟨p,hp,rfl⟩)
   rw[cN_all] at h2
   obtain⟨c,hc⟩:=List.exists_mem_of_length_pos h2
   rw[List.mem_filter] at hc
   have h3:c.arg=p.1:=by have:=hc.2;unfold zce at this;exact of_decide_eq_true this
   have h4:=harg c hc.1
   omega
  have hso:=fun g w h1 h2=>sortedKeys_any gm g (zhk cs cs.length) w h1 h2 (zhl cs _) hkr (by have:=cntM_len cs cs.length;omega)
  clear hno
  repeat' (first|refine Zga ?_|(refine Zgb ?_;intro g)|(refine Zg ?_ ?_<;>(intro h;try exact Zx))|((with_reducible (first|apply zaa|apply TD_e3z|apply zan|apply zaf|apply zae));((with_reducible apply zar (f:=166) (X:=Nat) (S1:=[]) (fun g=>.func (.func 192) #[] #[.pointer (some ⟨g,0,none⟩)]) (fun g=>[zak g 229 #[.map (some gm)]]));exact rfl;exact Zp;(intro x;(try dsimp only);exact Za);(intro w hw;exact keysOf_any gm w);exact rfl);exact Zh;(rintro _ _ ⟨gk,rfl,rfl⟩);(try refine⟨SUB,?_⟩))|((with_reducible (first|apply zaa|apply TD_e3z|apply zan|apply zaf|apply zae));((with_reducible apply zar (f:=165) (X:=Option Addr×Nat×KeysTo (zhk cs cs.length)) (S1:=[]) (fun x=>.slice x.1 x.2.2.1.length x.2.1) (fun x=>[zac zag 1 3 x.1 x.2.1 x.2.2.1]));exact rfl;exact Zp;(intro x;(try dsimp only);exact Za);(intro w hw;exact hso gk w (hw.theBlk Zm) (hw.holds (zcv intV gm (zhk cs cs.length)) Zm).1);exact rfl);exact Zh;(rintro _ _ ⟨x,rfl,rfl⟩);(try refine⟨SUB,?_⟩))|fail)
  obtain⟨AK,cK,ks,hkp,hks⟩:=x
  dsimp only
  have hfin:=bcL_keys harg hkp hks
  have hkl2:ks.length≤200:=by have:=hkp.length_eq;have h2:=cntM_len cs cs.length;rw[List.length_map] at this;omega
  refine zap (X:=Nat×Option Addr×Nat) (fun x=>[(48,.int .i64 (x.1:Nat)),(47,.int .i64 ks.length),(46,.slice AK ks.length cK),(10,.slice x.2.1 ((ks.take x.1).filter (nokB cs)).length x.2.2),(0,.slice B l.length d)]) (fun x=>[zac zag 1 3 x.2.1 x.2.2 ((ks.take x.1).filter (nokB cs)),zac zag 1 3 AK cK ks]) (fun x=>x.1≤ks.length) (fun x=>ks.length-x.1) (0,none,0) (by(try dsimp only);omega) (by(try dsimp only);exact Ze) (fun w' hw=>by(show Mem _ w' [zac zag 1 3 none 0 [],zac zag 1 3 AK cK ks]);exact(hw.nilOwn zag 1 3).sel Zl) ?_
  rintro⟨k,A4,c4⟩ hk
  dsimp only at hk ⊢
  by_cases hkl:k<ks.length
  ·have hfl:((ks.take k).filter (nokB cs)).length≤k:=Nat.le_trans (List.length_filter_le _ _) (by rw[List.length_take];omega)
   have hfs:(ks.take (k+1)).filter (nokB cs)=if nokB cs ks[k]=true then(ks.take k).filter (nokB cs)++[ks[k]] else(ks.take k).filter (nokB cs):=by
    rw[List.take_succ_eq_append_getElem hkl,List.filter_append,List.filter_cons,List.filter_nil]
    split<;>simp
   obtain⟨s1,s2,_,_⟩:=hsm ks[k] (by rw[←cN_all];exact hfew _)
   have hpa:=fun w h=>bpart_any B d l ks[k] w h200 h (who8 hv)
   have hkeepl:∀n,(zbF l (zel l n) l.length).length≤9223372036854775807:=fun n=>by rw[zd3];have:=zip (zel l n) l.length;omega
   have hfi:=fun(n:Int) (A0 B0:Option Addr) (c0 d0:Nat) (w:World) (h1:RdInt w A0 [4]) (h2:RdEv w B0 (zbF l (zel l n) l.length))=>zfE A0 B0 c0 d0 [4] (zbF l (zel l n) l.length) w Zi (hkeepl n) h1 h2
   have hfi:=hfi ks[k]
   rw[s1,s2] at hfi
   have hnk:nokB cs ks[k]=!(zbq [4] (cs.filter (zce ks[k])) (zax (cs.filter (zce ks[k])))).isSome:=by unfold nokB;cases zbq [4] (cs.filter (zce ks[k])) (zax (cs.filter (zce ks[k])))<;>rfl
   refine zb1 (enc:=zag) (ls:=ks) Zm Zo ?_
   rintro gK rfl
   clear hsm hfew hso hkr hkp hks hfin s1 s2 hnb hv harg
   generalize zbq [4] (cs.filter (zce ks[k])) (zax (cs.filter (zce ks[k])))=O at *
   generalize zbF l (zel l ks[k]) l.length=P at *
   generalize (ks.take k).filter (nokB cs)=K at *
   rw[hnk] at hfs
   cases O with
   |some o =>
    rw[if_neg Zj] at hfs
    repeat' (first|refine Zga ?_|(refine Zgb ?_;intro g)|(refine Zg ?_ ?_<;>(intro h;try exact Zx))|((with_reducible (first|apply zaa|apply TD_e3z|apply zan|apply zaf|apply zae));((with_reducible apply zal (f:=164));exact rfl;(intro w hw;exact zfp w);exact rfl);exact Zh;(rintro _ _ ⟨A5,c5,rfl,rfl⟩);(try refine⟨SUB,?_⟩))|((with_reducible (first|apply zaa|apply TD_e3z|apply zan|apply zaf|apply zae));((with_reducible apply zal (f:=167));exact rfl;(intro w hw;exact hpa w (hw.rd rfl hA));exact rfl);exact Zh;(rintro _ _ ⟨A6,c6,rfl,rfl⟩);(try refine⟨SUB,?_⟩))|((with_reducible (first|apply zaa|apply TD_e3z|apply zan|apply zaf|apply zae));((with_reducible apply zal (f:=9));exact rfl;(intro w hw;exact hfi A5 A6 c5 c6 w (hw.ownRd Zm (fun _=>rfl)) (hw.ownRd Zm (fun _=>rfl)));exact rfl);exact Zh;(rintro _ _ ⟨A7,c7,rfl,rfl⟩);(try refine⟨SUB,?_⟩))|fail)
    all_goals(apply zab (k+1,A4,c4);(case hE=>(try dsimp only);rw[hfs];exact Ze);(case hS=>(try dsimp only);rw[hfs];exact fun w' hw=>hw.sel Zl);(case hμ=>(try dsimp only);omega);(case hp=>(try dsimp only);omega))
   |none =>
    rw[if_pos Zj] at hfs
    repeat' (first|refine Zga ?_|(refine Zgb ?_;intro g)|(refine Zg ?_ ?_<;>(intro h;try exact Zx))|((with_reducible (first|apply zaa|apply TD_e3z|apply zan|apply zaf|apply zae));((with_reducible apply zal (f:=164));exact rfl;(intro w hw;exact zfp w);exact rfl);exact Zh;(rintro _ _ ⟨A5,c5,rfl,rfl⟩);(try refine⟨SUB,?_⟩))|((with_reducible (first|apply zaa|apply TD_e3z|apply zan|apply zaf|apply zae));((with_reducible apply zal (f:=167));exact rfl;(intro w hw;exact hpa w (hw.rd rfl hA));exact rfl);exact Zh;(rintro _ _ ⟨A6,c6,rfl,rfl⟩);(try refine⟨SUB,?_⟩))|((with_reducible (first|apply zaa|apply TD_e3z|apply zan|apply zaf|apply zae));((with_reducible apply zal (f:=9));exact rfl;(intro w hw;exact hfi A5 A6 c5 c6 w (hw.ownRd Zm (fun _=>rfl)) (hw.ownRd Zm (fun _=>rfl)));exact rfl);exact Zh;(rintro _ _ ⟨A7,c7,rfl,rfl⟩);(try refine⟨SUB,?_⟩))|((with_reducible (first|apply zaa|apply TD_e3z|apply zan|apply zaf|apply zae));((with_reducible apply zaw (enc:=zag) (xx:=ks[k]));exact rfl;exact rfl;exact Zm;exact rfl;exact fun _=>rfl;exact fun _=>rfl;(intro A' c';exact Zu);(omega);decide;exact rfl);exact Zh;(rintro _ _ ⟨A',c',rfl,rfl⟩);(try refine⟨SUB,?_⟩))|fail)
    all_goals(apply zab (k+1,A',c');(case hE=>(try dsimp only);rw[hfs];exact Ze);(case hS=>(try dsimp only);rw[hfs];exact fun w' hw=>hw.sel Zl);(case hμ=>(try dsimp only);omega);(case hp=>(try dsimp only);omega))
  ·obtain rfl:k=ks.length:=by omega
   rw[List.take_length,hfin]
   repeat' (first|refine Zga ?_|(refine Zgb ?_;intro g)|(refine Zg ?_ ?_<;>(intro h;try exact Zx))|fail)
   (refine zah Tryz.results123 rfl (fun w' hw=>?_))
   exact⟨A4,c4,rfl,hw.ownOut rfl Zm,hw.below0 rfl⟩
end
end
end Go.Proofs.YtjdckepbihcgfaaGreatDoor
