/- Lemmas for the walks (Idx, CtClu, Zn8, ZnR, Zn9, ZnC). No condition. -/
import Derived.Test.YtjdckepbihcgfaaGreatDoorG23
import Derived.Test.YtjdckepbihcgfaaGreatDoorG10
set_option linter.unusedSimpArgs false
set_option linter.unusedVariables false
set_option linter.unusedSectionVars false
set_option linter.unnecessarySimpa false
set_option maxRecDepth 100000
set_option maxHeartbeats 8000000
namespace Go.Proofs.YtjdckepbihcgfaaGreatDoor
section
def idxF{α:Type}(p:α→Bool)(l:List α):Int:=if l.any p=true then(l.findIdx p:Int) else -1
theorem zdD{α:Type}{p:α→Bool}{l:List α}{k:Nat}(hk:k<l.length)(h1:(l.take k).any p=false)(h2:p l[k]=false):(l.take (k+1)).any p=false:=by
 rw[List.take_succ_eq_append_getElem hk,List.any_append,h1];simp[h2]
theorem zjJ{α:Type}{p:α→Bool}{l:List α}{k:Nat}(hk:k<l.length)(h1:(l.take k).any p=false)(h2:p l[k]=true):idxF p l=(k:Int):=by
 have hany:l.any p=true:=List.any_eq_true.2 ⟨_,List.getElem_mem hk,h2⟩
 unfold idxF
 rw[if_pos hany]
 congr 1
 rw[List.findIdx_eq hk]
 refine⟨h2,fun j hj=>?_⟩
 rw[List.any_eq_false] at h1
 have hm:l[j]∈l.take k:=by
  rw[List.mem_take_iff_getElem]
  exact⟨j,by omega,rfl⟩
 exact Bool.eq_false_iff.2 (h1 _ hm)
theorem zjK{α:Type}{p:α→Bool}{l:List α}(h:l.any p=false):idxF p l=-1:=by
 unfold idxF;rw[if_neg (by rw[h];decide)]
theorem idxF_any{α:Type}(p:α→Bool)(l:List α):decide (0≤idxF p l)=l.any p:=by
 unfold idxF
 split
 ·rename_i h;rw[h];simp
 ·rename_i h;rw[Bool.eq_false_iff.2 h];decide
end
section
open Go.RowKit
section
variable (fn:Nat)[IsFn Tryz.prog fn](p:Clu→Bool)(cvs:List Value)(A:Option Addr)(c:Nat)(l:List Clu)(w:World)(hA:RdE Clu.enc 9 w A l)(hl:l.length≤9223372036854775807) 
variable (hp:∀s∈l,∀w',Below w.heap.size w w'→Calls Tryz.prog fn (.agg (Clu.enc s).toArray::cvs).toArray w' fun e w2=>e=.returned (.bool (p s))∧Below w'.heap.size w' w2) 
include hA hl hp
theorem indexClu_any:Calls Tryz.prog 149 #[.slice A l.length c,.func (.func fn) #[] cvs.toArray] w fun e w'=>e=.returned (.int .i64 (idxF p l))∧Below w.heap.size w w':=by
 refine zaj (S:=[]) [] Tryz.func149 rfl Tryz.ntmps149 Zj (Mem.nil _) ?_
 repeat' (first|refine Zga ?_|(refine Zgb ?_;intro g)|(refine Zg ?_ ?_<;>(intro h;try exact Zx))|fail)
 refine zap (X:=Nat) (fun k=>[(8,.int .i64 (k:Nat)),(7,.int .i64 (l.length:Nat)),(1,.func (.func fn) #[] cvs.toArray),(0,.slice A l.length c)]) (fun _=>[])
  (fun k=>k≤l.length∧(l.take k).any p=false) (fun k=>l.length-k) 0 ⟨by omega,by simp⟩ Ze (by exact zaK) ?_
 rintro k ⟨hk,hno⟩
 by_cases hkl:k<l.length
 ·obtain⟨b,o,rfl,_⟩:=RdE.open hA Zo
  have hb:=fun w' hb=>hp l[k] (List.getElem_mem _) w' hb
  generalize hz:p l[k]=z at hb
  repeat' (first|refine Zga ?_|(refine Zgb ?_;intro g)|(refine Zg ?_ ?_<;>(intro h;try exact Zx))|((with_reducible (first|apply zaa|apply TD_e3z|apply zan|apply zaf|apply zae));((with_reducible apply zbf (f:=fn) (us:=[]) (cs:=cvs) (v:=.bool z));exact rfl;exact rfl;(intro w' hw;exact hb w' (hw.below0 rfl));exact rfl);exact Zh;(rintro _ _ ⟨rfl,rfl⟩);(try refine⟨SUB,?_⟩))|fail)
  ·(refine zah Tryz.results149 rfl (fun w' hw=>?_))
   exact⟨by rw[zjJ hkl hno (by rw[hz];assumption)];rfl,hw.below0 rfl⟩
  ·refine zab (k+1) ⟨hkl,zdD hkl hno (by rw[hz];assumption)⟩ Zo Ze (by exact zaK)
 ·obtain rfl:k=l.length:=by omega
  rw[List.take_length] at hno
  repeat' (first|refine Zga ?_|(refine Zgb ?_;intro g)|(refine Zg ?_ ?_<;>(intro h;try exact Zx))|fail)
  (refine zah Tryz.results149 rfl (fun w' hw=>?_))
  exact⟨by rw[zjK hno];rfl,hw.below0 rfl⟩
end
end
section
open Go.RowKit
theorem Q0Zn8{p R:Prop}(r:R)(h:Rest R→p:=by intro r;(first|with_reducible (first|apply zcE|apply za9|apply zba|apply zbd|apply zbe)|((with_reducible (first|apply zaN|apply zaO));exact rfl;exact rfl;(with_reducible exact rfl)));(first|((with_reducible apply za1);exact rfl;(apply Lds.old;assumption;simp;assumption))|((with_reducible apply za1);exact rfl;exact Lds.mid (us:=[.int .i64 S[k].zv,.int .i64 S[k].zf,.int .i64 S[k].zl,.bool S[k].zw]) Zm rfl rfl)|exact QS.auto);exact rfl;exact r.out):p:=h ⟨r⟩
theorem fm_congr{α β:Type}{f g:α→Option β}:∀{l:List α},(∀x∈l,f x=g x)→l.filterMap f=l.filterMap g
 |[],_=>rfl
 |x::l,h=>by rw[List.filterMap_cons,List.filterMap_cons,h x List.mem_cons_self,fm_congr fun y hy=>h y (List.mem_cons_of_mem _ hy)]
def zfL(S:List Clu)(k:Nat):List Zon:=(S.take k).filterMap fun x=>if x.counts=true then some ⟨x.zv,x.zf,x.zl,x.zw⟩ else none
theorem zfL_succ{S:List Clu}{k:Nat}(hk:k<S.length):zfL S (k+1)=if S[k].counts=true then zfL S k++[⟨S[k].zv,S[k].zf,S[k].zl,S[k].zw⟩] else zfL S k:=by
 unfold zfL
 rw[List.take_succ_eq_append_getElem hk,List.filterMap_append,List.filterMap_cons,List.filterMap_nil]
 split<;>rename_i e
 ·split at e
  ·cases e
  ·rename_i h;rw[if_neg h,List.append_nil]
 ·split at e
  ·rename_i h;rw[if_pos h];cases e;rfl
  ·cases e
theorem zfL_len(S:List Clu)(k:Nat):(zfL S k).length≤k:=by
 unfold zfL
 exact Nat.le_trans (List.length_filterMap_le _ _) (by rw[List.length_take];omega)
theorem zfL_all{cs:List Cl}(S:CluS cs):zfL S.1 S.1.length=zh8 cs 1001:=by
 obtain⟨S,hv,hS⟩:=S
 unfold zfL
 rw[List.take_length]
 have h1:S.filterMap (fun x=>if x.counts=true then some (⟨x.zv,x.zf,x.zl,x.zw⟩:Zon) else none)=(S.map (·.value)).filterMap (fun v=>if(endZ cs v).some_=true then some (zonE cs v) else none):=by
  rw[List.filterMap_map]
  refine fm_congr fun x hx=>?_
  obtain⟨h,e⟩:=hS x hx
  generalize x.value=v at e
  subst e
  rfl
 dsimp only at hv ⊢
 rw[h1,hv,List.filterMap_map]
 unfold keyZ zh8
 rw[List.filterMap_filter]
 refine fm_congr fun v _=>?_
 unfold zonO
 by_cases e:isV cs v=true
 ·rw[if_pos e,e,Bool.true_and];rfl
 ·rw[if_neg e,Bool.eq_false_iff.2 e,Bool.false_and,if_neg Zi]
section
variable (A:Option Addr)(c:Nat)(S:List Clu)(w:World)(hl:S.length≤1000)(hA:RdE Clu.enc 9 w A S) 
include hl hA
theorem zonesOf_any:Calls Tryz.prog 114 #[.slice A S.length c] w fun e w'=>∃A c,e=.returned (.slice A (zfL S S.length).length c)∧Own Zon.enc 4 142 w' w.heap.size (.slice A (zfL S S.length).length c) (zfL S S.length)∧Below w.heap.size w w':=by
 refine zaj (S:=[]) [] Tryz.func114 rfl Tryz.ntmps114 Zj (Mem.nil _) ?_
 repeat' (first|refine Q0Zn8 ?_|refine Zga ?_|(refine Zgb ?_;intro g)|(refine Zg ?_ ?_<;>(intro h;try exact Zx))|fail)
 refine zap (X:=Nat×Option Addr×Nat) (fun x=>[(8,.int .i64 (x.1:Nat)),(7,.int .i64 S.length),(6,.slice A S.length c),(3,.slice x.2.1 (zfL S x.1).length x.2.2)]) (fun x=>[zac Zon.enc 4 142 x.2.1 x.2.2 (zfL S x.1)]) (fun x=>x.1≤S.length) (fun x=>S.length-x.1) (0,none,0) (by(try dsimp only);omega) (by(try dsimp only);exact Ze) (fun w hw=>(hw.nilOwn Zon.enc 4 142).sub Zt) ?_
 rintro⟨k,A1,c1⟩ hk
 dsimp only at hk ⊢
 have hzl:=zfL_len S k
 by_cases hkl:k<S.length
 ·obtain⟨b,o,rfl,_⟩:=RdE.open hA Zo
  have hzs:=zfL_succ hkl
  generalize zfL S k=Z at *
  cases hc:S[k].counts
  ·rw[if_neg (by rw[hc];decide)] at hzs
   repeat' (first|refine Q0Zn8 ?_|refine Zga ?_|(refine Zgb ?_;intro g)|(refine Zg ?_ ?_<;>(intro h;try exact Zx))|fail)
   all_goals first
    |(exfalso;simp_all;done)
    |(apply zab (k+1,A1,c1);(case hE=>(try dsimp only);rw[hzs];exact Ze);(case hS=>(try dsimp only);rw[hzs];exact fun w' hw=>hw.sel Zl);(case hμ=>(try dsimp only);omega);(case hp=>(try dsimp only);omega))
  ·rw[if_pos hc] at hzs
   repeat' (first|refine Q0Zn8 ?_|refine Zga ?_|(refine Zgb ?_;intro g)|(refine Zg ?_ ?_<;>(intro h;try exact Zx))|((with_reducible (first|apply zaa|apply TD_e3z|apply zan|apply zaf|apply zae));((with_reducible apply zaw (enc:=Zon.enc) (xx:=(⟨S[k].zv,S[k].zf,S[k].zl,S[k].zw⟩:Zon)));exact rfl;exact rfl;exact Zm;exact rfl;exact fun _=>rfl;exact fun _=>rfl;(intro A' c';exact Zu);(omega);decide;exact rfl);exact Zh;(rintro _ _ ⟨A',c',rfl,rfl⟩);(try refine⟨SUB,?_⟩))|fail)
   all_goals first
    |(exfalso;simp_all;done)
    |(apply zab (k+1,A',c');(case hE=>(try dsimp only);rw[hzs];exact Ze);(case hS=>(try dsimp only);rw[hzs];exact fun w' hw=>hw.sel Zl);(case hμ=>(try dsimp only);omega);(case hp=>(try dsimp only);omega))
 ·obtain rfl:k=S.length:=by omega
  repeat' (first|refine Q0Zn8 ?_|refine Zga ?_|(refine Zgb ?_;intro g)|(refine Zg ?_ ?_<;>(intro h;try exact Zx))|fail)
  (refine zah Tryz.results114 rfl (fun w' hw=>?_))
  exact⟨A1,c1,rfl,hw.ownOut rfl Zm,hw.below0 rfl⟩
end
theorem zrd1_any(x:Clu)(b1:Nat)(y:Cl)(w:World)(h1:b1<w.heap.size)(hc1:w.cell? ⟨b1,4,none⟩=some (.int .i64 y.res)):
  Calls Tryz.prog 150 #[.agg (Clu.enc x).toArray,.pointer (some ⟨b1,0,none⟩)] w fun e w'=>e=.returned (.bool (decide (x.value=y.res)))∧Below w.heap.size w w':=by
 refine zaj (S:=[]) [] Tryz.func150 rfl Tryz.ntmps150 Zj (Mem.nil _) ?_
 repeat' (first|refine Q0Zn8 ?_|refine Zga ?_|(refine Zgb ?_;intro g)|(refine Zg ?_ ?_<;>(intro h;try exact Zx))|fail)
 refine zah Tryz.results150 rfl (fun w' hw=>?_)
 exact⟨rfl,hw.below0 rfl⟩
end
section
open Go.RowKit
theorem earlyV_succ(cs:List Cl)(k:Nat):zcJ cs (k+1)=if(zcJ cs k).kind=0∧zfr cs k=true then⟨3,(k:Int),zct cs (clK cs k).res⟩ else zcJ cs k:=by
 unfold zcJ
 cases e:zaF k (zfr cs) with
 |some j =>
  obtain⟨h1,h2,h3⟩:=za3 e
  rw[za5 (i:=j) Zo h3 h2]
  dsimp only
  rw[if_neg Zj]
 |none =>
  have h1:=zeL e
  dsimp only
  by_cases h:zfr cs k=true
  ·rw[za5 (i:=k) Zo h1 h,if_pos ⟨rfl,h⟩]
  ·rw[zaP (fun i hi=>(Nat.lt_succ_iff_lt_or_eq.1 hi).elim (fun e=>h1 i e) (fun e=>by subst e;exact Bool.eq_false_iff.2 h)),if_neg (by simp[h])]
theorem clu_find{cs:List Cl}(hok:RgOk cs)(S:CluS cs){r:Int}(hr:0≤r∧r≤1000):
  (idxF (fun x:Clu=>decide (x.value=r)) S.1=-1∧r≠0∧zct cs r<0) ∨
  ∃q,∃hq:q<S.1.length,idxF (fun x:Clu=>decide (x.value=r)) S.1=(q:Int)∧(r=0∨0≤zct cs r)∧S.1[q].write=zct cs r∧S.1[q].frm=if r=0 then -1 else(clK cs (zct cs r).toNat).from_:=by
 obtain⟨S,hv,hS⟩:=S
 dsimp only
 have hmem:S.any (fun x:Clu=>decide (x.value=r))=true↔r=0∨0≤zct cs r:=by
  rw[List.any_eq_true]
  have h1:(∃x∈S,decide (x.value=r)=true)↔r∈S.map (·.value):=by
   rw[List.mem_map]
   constructor
   ·rintro⟨x,h1,h2⟩;exact⟨x,h1,of_decide_eq_true h2⟩
   ·rintro⟨x,h1,h2⟩;exact⟨x,h1,decide_eq_true h2⟩
  rw[h1,hv,List.mem_map]
  constructor
  ·rintro⟨v,h1v,rfl⟩
   have:=(zgC.1 h1v).2
   omega
  ·intro h
   refine⟨r.toNat,zgC.2 ⟨by omega,?_⟩,by omega⟩
   rw[show((r.toNat:Nat):Int)=r by omega]
   omega
 by_cases h:S.any (fun x:Clu=>decide (x.value=r))=true
 ·right
  have h2:=hmem.1 h
  obtain⟨x,hx1,hx2⟩:=List.any_eq_true.1 h
  have hlt:S.findIdx (fun x:Clu=>decide (x.value=r))<S.length:=List.findIdx_lt_length.2 ⟨x,hx1,hx2⟩
  refine⟨_,hlt,?_,h2,?_⟩
  ·unfold idxF;rw[if_pos h]
  ·have hg:=List.findIdx_getElem (w:=hlt)
   have hg:=of_decide_eq_true hg
   obtain⟨hh,he⟩:=hS _ (List.getElem_mem hlt)
   rw[hg] at he
   rw[he]
   exact⟨rfl,rfl⟩
 ·left
  refine⟨by unfold idxF;rw[if_neg h],?_⟩
  have h3:¬(r=0∨0≤zct cs r):=fun e=>h (hmem.2 e)
  omega
section
variable (A B:Option Addr)(c d:Nat)(cs:List Cl)(S:List Clu)(w:World)(hl:cs.length≤200)(hsl:S.length≤1000)(hA:zh2 w A cs)(hB:RdE Clu.enc 9 w B S)(hok:RgOk cs) 
 (hS:S.map (·.value)=(keyZ cs).map (fun v:Nat=>(v:Int))∧∀k∈S,∃h,k=cluE cs k.value h)
include hl hsl hA hB hok hS
theorem zreads_any:Calls Tryz.prog 112 #[.slice A cs.length c,.slice B S.length d] w fun e w'=>e=.returned (.agg (Bd.enc (zck cs)).toArray)∧Below w.heap.size w w':=by
 have hfind:=fun r hr=>clu_find hok ⟨S,hS⟩ (r:=r) hr
 dsimp only at hfind
 have hR1:∀k,k<cs.length→(∀i,i<k→zeD cs i=false)→zeD cs k=true→zck cs=⟨1,k,0⟩:=fun k hk h1 h=>by unfold zck;rw[za5 hk h1 h]
 have hR0:(∀i,i<cs.length→zeD cs i=false)→zck cs=zcJ cs cs.length:=fun h=>by unfold zck;rw[zaP h]
 generalize zck cs=R at *
 refine zaj (S:=[]) [] Tryz.func112 rfl Tryz.ntmps112 Zj (Mem.nil _) ?_
 repeat' (first|refine Zga ?_|(refine Zgb ?_;intro g)|(refine Zg ?_ ?_<;>(intro h;try exact Zx))|fail)
 obtain⟨g5,rfl⟩:∃x,x=g:=⟨_,rfl⟩
 obtain⟨g4,rfl⟩:∃x,x=g:=⟨_,rfl⟩
 refine zap (X:=Nat) (fun k=>[(12,.int .i64 (k:Nat)),(11,.int .i64 cs.length),(10,.slice A cs.length c),(5,.pointer (some ⟨g5,0,none⟩)),(4,.pointer (some ⟨g4,0,none⟩)),(1,.slice B S.length d)]) (fun k=>[zak g4 79 #[.int .i64 0,.int .i64 0,.int .i64 0],zak g5 79 #[.int .i64 (zcJ cs k).kind,.int .i64 (zcJ cs k).a,.int .i64 (zcJ cs k).b]])
  (fun k=>k≤cs.length∧∀i,i<k→zeD cs i=false) (fun k=>cs.length-k) 0 ⟨by omega,fun i hi=>by omega⟩ Ze (fun w' hw=>by rw[show zcJ cs 0=⟨0,0,0⟩ from rfl];exact hw.sel Zl) ?_
 rintro k ⟨hk,hno⟩
 by_cases hkl:k<cs.length
 ·obtain⟨b,o,rfl,_⟩:=RdE.open hA Zo
  have hck:=zay hkl
  have hes:=earlyV_succ cs k
  have hst:zeD cs k=(decide (cs[k].kind=2)&&(decide (cs[k].to≠-1)&&(decide (cs[k].res≠0)&&decide (zct cs cs[k].res<0)))):=by unfold zeD;rw[hck]
  have hea:zfr cs k=(decide (cs[k].kind=2)&&(decide (cs[k].to≠-1)&&(decide (0≤zct cs cs[k].res)&&decide (cs[k].to<(clK cs (zct cs cs[k].res).toNat).from_)))):=by unfold zfr;rw[hck]
  have hrd:=hok.rd k hkl
  have hto:=hok.to k hkl
  have hz:=zjG hok.toRgAll
  rw[hck] at hes hrd hto
  have hnos:zeD cs k=false→∀i,i<k+1→zeD cs i=false:=fun h i hi=>(Nat.lt_succ_iff_lt_or_eq.1 hi).elim (fun e=>hno i e) (fun e=>by subst e;exact h)
  by_cases h2:cs[k].kind=2∧cs[k].to≠-1
  ·obtain⟨h2,h3⟩:=h2
   have hrd:=hrd h2 h3
   have hf:=hfind cs[k].res hrd
   have hfi:∀(n g7:Nat) (T:List Ent) (w1:World),Mem ⟨n,[],w⟩ w1 T→zak g7 36 (Cl.enc cs[k]).toArray∈T→Calls Tryz.prog 149 #[.slice B S.length d,.func (.func 150) #[] [.pointer (some ⟨g7,0,none⟩)].toArray] w1 fun e w'=>e=.returned (.int .i64 (idxF (fun x:Clu=>decide (x.value=cs[k].res)) S))∧Below w1.heap.size w1 w':=fun n g7 T w1 hw hm=>by
    have b7:Blk w1 g7 36 (Cl.enc cs[k]).toArray:=hw.theBlk hm
    exact indexClu_any 150 (fun x:Clu=>decide (x.value=cs[k].res)) [.pointer (some ⟨g7,0,none⟩)] B d S w1 (hw.rd rfl hB) Zo (fun s _ w2 h2=>zrd1_any s g7 cs[k] w2 (b7.carry h2).lt ((b7.carry h2).cell 4))
   generalize idxF (fun x:Clu=>decide (x.value=cs[k].res)) S=ix at hf hfi
   rw[decide_eq_true h2,decide_eq_true h3,Bool.true_and,Bool.true_and] at hst hea
   rcases hf with⟨e1,e2,e3⟩|⟨q,hq,e1,e2,e3,e4⟩
   ·obtain rfl:=hR1 k hkl hno (by rw[hst,decide_eq_true e2,decide_eq_true e3];rfl)
    have hix:ix<0:=by omega
    clear hfind hR0 hR1 hnos hno hes hst hea
    generalize zcJ cs k=EV at *
    repeat' (first|refine Zga ?_|(refine Zgb ?_;intro g)|(refine Zg ?_ ?_<;>(intro h;try exact Zx))|((with_reducible (first|apply zaa|apply TD_e3z|apply zan|apply zaf|apply zae));((with_reducible apply zad (f:=149) (v:=.int .i64 ix));exact rfl;(intro w1 hw;exact hfi _ _ _ w1 hw Zm);exact rfl);exact Zh;(rintro _ _ ⟨rfl,rfl⟩);(try refine⟨SUB,?_⟩))|fail)
    all_goals first
     |(((with_reducible apply zau Tryz.results112);exact Zr;intro w' hw);exact⟨rfl,hw.below0 rfl⟩)
     |(exfalso;omega)
   ·have hns:=hnos (by
     rw[hst]
     rcases e2 with e2|e2
     ·rw[decide_eq_false (show ¬cs[k].res≠0 by omega),Bool.false_and]
     ·rw[decide_eq_false (show ¬zct cs cs[k].res<0 by omega),Bool.and_false])
    have hea2:zfr cs k=decide (cs[k].to<S[q].frm):=by
     rw[hea,e4]
     by_cases h0:cs[k].res=0
     ·rw[h0,hz,if_pos rfl]
      rcases hto with h|h
      ·exact absurd h h3
      ·rw[decide_eq_false (show ¬cs[k].to<(-1:Int) by omega)];rfl
     ·rw[if_neg h0,decide_eq_true (show 0≤zct cs cs[k].res by omega),Bool.true_and]
    simp only[hea2,←e3,decide_eq_true_eq] at hes
    subst e1
    obtain⟨bs,os,rfl,_⟩:=RdE.open hB Zo
    have hix:¬((q:Nat):Int)<0:=by omega
    clear hfind hR0 hR1 hnos hno hst hea hea2 e2 e3 e4 hto hrd hz
    generalize zcJ cs k=EV at *
    by_cases hc:EV.kind=0∧cs[k].to<S[q].frm
    ·rw[if_pos hc] at hes
     obtain⟨hc1,hc2⟩:=hc
     repeat' (first|refine Zha ?_|(refine Zhb ?_;intro g)|(refine Zg ?_ ?_<;>(intro h;try exact Zx))|refine GOF ?_ ?_|((with_reducible apply zam (id:=9) 1000 (OT.seq [(0,0),(1,1),(0,2),(0,3),(0,4),(0,6),(0,7),(0,8),(0,9),(1,5),(1,10),(0,11),(0,12)] .nil));kernel_rfl;exact rfl;kernel_rfl;exact Zd)|((with_reducible (first|apply zaa|apply TD_e3z|apply zan|apply zaf|apply zae));((with_reducible apply zad (f:=149) (v:=.int .i64 (q:Nat)));exact rfl;(intro w1 hw;exact hfi _ _ _ w1 hw Zm);exact rfl);exact Zh;(rintro _ _ ⟨rfl,rfl⟩);(try refine⟨SUB,?_⟩))|fail)
     all_goals first
      |(exfalso;omega)
      |(apply zab (k+1);(case hE=>(try dsimp only);exact Ze);(case hS=>(try dsimp only);rw[hes];(try dsimp only);exact fun w' hw=>hw.sel Zl);(case hμ=>(try dsimp only);omega);(case hp=>exact⟨by(try dsimp only);omega,hns⟩))
    ·rw[if_neg hc] at hes
     have hc':EV.kind=0→cs[k].to<S[q].frm→False:=fun a b=>hc ⟨a,b⟩
     repeat' (first|refine Zha ?_|(refine Zhb ?_;intro g)|(refine Zg ?_ ?_<;>(intro h;try exact Zx))|refine GOF ?_ ?_|((with_reducible apply zam (id:=9) 1000 (OT.seq [(0,0),(1,1),(0,2),(0,3),(0,4),(0,6),(0,7),(0,8),(0,9),(1,5),(1,10),(0,11),(0,12)] .nil));kernel_rfl;exact rfl;kernel_rfl;exact Zd)|((with_reducible (first|apply zaa|apply TD_e3z|apply zan|apply zaf|apply zae));((with_reducible apply zad (f:=149) (v:=.int .i64 (q:Nat)));exact rfl;(intro w1 hw;exact hfi _ _ _ w1 hw Zm);exact rfl);exact Zh;(rintro _ _ ⟨rfl,rfl⟩);(try refine⟨SUB,?_⟩))|fail)
     all_goals first
      |(exfalso;exact hc' (by assumption) (by assumption))
      |(apply zab (k+1);(case hE=>(try dsimp only);exact Ze);(case hS=>(try dsimp only);rw[hes];(try dsimp only);exact fun w' hw=>hw.sel Zl);(case hμ=>(try dsimp only);omega);(case hp=>exact⟨by(try dsimp only);omega,hns⟩))
  ·have hns:=hnos (by
    rw[hst]
    by_cases e:cs[k].kind=2
    ·have e3:¬cs[k].to≠-1:=fun e3=>h2 ⟨e,e3⟩
     rw[decide_eq_false e3,Bool.false_and,Bool.and_false]
    ·rw[decide_eq_false e,Bool.false_and])
   have hea2:zfr cs k=false:=by
    rw[hea]
    by_cases e:cs[k].kind=2
    ·have e3:¬cs[k].to≠-1:=fun e3=>h2 ⟨e,e3⟩
     rw[decide_eq_false e3,Bool.false_and,Bool.and_false]
    ·rw[decide_eq_false e,Bool.false_and]
   rw[hea2,if_neg Zj] at hes
   clear hfind hR0 hR1 hnos hno hst hea hea2 hto hrd hz
   have h2':cs[k].kind=2→¬cs[k].to=-1→False:=fun a b=>h2 ⟨a,b⟩
   generalize zcJ cs k=EV at *
   repeat' (first|refine Zha ?_|(refine Zhb ?_;intro g)|(refine Zg ?_ ?_<;>(intro h;try exact Zx))|refine GOF ?_ ?_|fail)
   all_goals first
    |(exfalso;exact h2' (by assumption) (by assumption))
    |(apply zab (k+1);(case hE=>(try dsimp only);exact Ze);(case hS=>(try dsimp only);rw[hes];exact fun w' hw=>hw.sel Zl);(case hμ=>(try dsimp only);omega);(case hp=>exact⟨by(try dsimp only);omega,hns⟩))
    |(exfalso;simp_all;done)
 ·obtain rfl:k=cs.length:=by omega
  obtain rfl:=hR0 hno
  generalize zcJ cs cs.length=EV at *
  obtain⟨vk,va,vb⟩:=EV
  repeat' (first|refine Zga ?_|(refine Zgb ?_;intro g)|(refine Zg ?_ ?_<;>(intro h;try exact Zx))|fail)
  ((with_reducible apply zau Tryz.results112);exact Zr;intro w' hw)
  exact⟨rfl,hw.below0 rfl⟩
end
end
section
open Go.RowKit
theorem zhp{p R:Prop}(r:R)(h:Rest R→p:=by intro r;(first|with_reducible (first|apply zcE|apply za9|apply zba|apply zbd|apply zbe)|((with_reducible (first|apply zaN|apply zaO));exact rfl;exact rfl;(with_reducible exact rfl)));exact QSarm_Zn9;exact rfl;exact r.out):p:=h ⟨r⟩
theorem QSarm_Zn9{p:Prop}(h:p:=by(first|((with_reducible apply zeb (o':=oz+k * 4));exact rfl;exact rfl;omega;omega)|((with_reducible apply zhV (l:=i+1));exact rfl;exact rfl;omega;omega)|exact QS.auto)):p:=h
section
variable {P:Program}{C:Ctx}{E:zaE}{S:List Ent}{t e m g p n c ty:Nat}{x y:Operand} 
theorem zhV[hs:SliceOf P t e m]{k:IntKind}{l:Nat}{z:Int}(hx:evo E x=some (.slice (some ⟨g,p,none⟩) n c))(hy:evo E y=some (.int k z))(hz:z=(l:Nat))(hl:l≤n):
  QS P C E S (.slice t x (some y) none none) ty (.slice (some ⟨g,if c=l then p else p+l * m,none⟩) (n-l) (c-l)) :=
 zc6 hx (by rw[hy,hz]) hl
end
theorem zmeet_any(a b:Zon)(w:World):Calls Tryz.prog 151 #[.agg (Zon.enc a).toArray,.agg (Zon.enc b).toArray] w fun e w'=>e=.returned (.bool (zh9 a b))∧Below w.heap.size w w':=by
 unfold zh9
 refine zaj (S:=[]) [] Tryz.func151 rfl Tryz.ntmps151 Zj (Mem.nil _) ?_
 repeat' (first|refine zhp ?_|refine Zga ?_|(refine Zgb ?_;intro g)|(refine Zg ?_ ?_<;>(intro h;try exact Zx))|fail)
 all_goals
  refine zah Tryz.results151 rfl (fun w' hw=>?_)
  refine⟨?_,hw.below0 rfl⟩
  congr 2
  first|(simp[*,za0];done)|(simp[*,za0];omega)
theorem zhW{Z:List Zon}{i:Nat}(hi:i<Z.length):zoI Z i=Z[i]:=by unfold zoI;rw[List.getD_eq_getElem?_getD,List.getElem?_eq_getElem hi];rfl
theorem crossB_eq{Z:List Zon}{i k:Nat}(hi:i<Z.length)(hk:k<Z.length):zcq Z i k=(decide (i<k)&&(Z[i].fwd&&(Z[k].fwd&&zh9 Z[i] Z[k]))):=by unfold zcq;rw[zhW hi,zhW hk]
theorem insideB_eq{Z:List Zon}{i k:Nat}(hi:i<Z.length)(hk:k<Z.length):zb2 Z i k=(Z[i].fwd&&(!Z[k].fwd&&zh9 Z[i] Z[k])):=by unfold zb2;rw[zhW hi,zhW hk]
theorem crossB_le{Z:List Zon}{i q:Nat}(h:q≤i):zcq Z i q=false:=by unfold zcq;rw[decide_eq_false Zo];rfl
theorem zhX{Z:List Zon}{i k:Nat}(hi:i<Z.length)(hk:k<Z.length)(h1:∀j,j<i→∀q,q<Z.length→zcq Z j q=false)(h2:∀q,q<k→zcq Z i q=false)(h:zcq Z i k=true):zdj Z=⟨4,Z[i].value,Z[k].value⟩:=by
 unfold zdj
 rw[zc5 hi hk h1 h2 h]
 dsimp only
 rw[zhW hi,zhW hk]
theorem zgE{Z:List Zon}{i k:Nat}(h0:∀j,j<Z.length→∀q,q<Z.length→zcq Z j q=false)(hi:i<Z.length)(hk:k<Z.length)(h1:∀j,j<i→∀q,q<Z.length→zb2 Z j q=false)(h2:∀q,q<k→zb2 Z i q=false)(h:zb2 Z i k=true):zdj Z=⟨5,Z[i].value,Z[k].value⟩:=by
 unfold zdj
 rw[zbS h0,zc5 hi hk h1 h2 h]
 dsimp only
 rw[zhW hi,zhW hk]
theorem zjL{Z:List Zon}(h0:∀j,j<Z.length→∀q,q<Z.length→zcq Z j q=false)(h1:∀j,j<Z.length→∀q,q<Z.length→zb2 Z j q=false):zdj Z=⟨0,0,0⟩:=by
 unfold zdj
 rw[zbS h0,zbS h1]
section
variable (A:Option Addr)(c:Nat)(Z:List Zon)(w:World)(hl:Z.length≤2000)(hlc:Z.length≤c)(hA:RdE Zon.enc 4 w A Z) 
include hl hlc hA
theorem zpairs_any:Calls Tryz.prog 113 #[.slice A Z.length c] w fun e w'=>e=.returned (.agg (Bd.enc (zdj Z)).toArray)∧Below w.heap.size w w':=by
 have hR1:=fun i k hi hk h1 h2 h=>zhX (Z:=Z) (i:=i) (k:=k) hi hk h1 h2 h
 have hR2:=fun h0 i k hi hk h1 h2 h=>zgE (Z:=Z) h0 (i:=i) (k:=k) hi hk h1 h2 h
 have hR3:=fun h0 h1=>zjL (Z:=Z) h0 h1
 generalize zdj Z=R at *
 by_cases h0:Z.length=0
 ·have hR:=hR3 (fun j hj=>by omega) (fun j hj=>by omega)
  subst hR
  rw[h0]
  refine zaj (S:=[]) [] Tryz.func113 rfl Tryz.ntmps113 Zj (Mem.nil _) ?_
  repeat' (first|refine zhp ?_|refine Zga ?_|(refine Zgb ?_;intro g)|(refine Zg ?_ ?_<;>(intro h;try exact Zx))|fail)
  obtain⟨gb,rfl⟩:∃x,x=g:=⟨_,rfl⟩
  refine zap (X:=Unit) (fun _=>[(14,.int .i64 0),(13,.int .i64 (0:Nat)),(3,.func (.func 151) #[] [].toArray),(2,.pointer (some ⟨gb,0,none⟩)),(0,.slice A 0 c)]) (fun _=>[zak gb 79 #[.int .i64 0,.int .i64 0,.int .i64 0]]) (fun _=>True) (fun _=>0) () trivial Ze (by exact zaK) ?_
  rintro _ _
  repeat' (first|refine zhp ?_|refine Zga ?_|(refine Zgb ?_;intro g)|(refine Zg ?_ ?_<;>(intro h;try exact Zx))|fail)
  refine zap (X:=Unit) (fun _=>[(49,.int .i64 0),(48,.int .i64 (0:Nat)),(3,.func (.func 151) #[] [].toArray),(2,.pointer (some ⟨gb,0,none⟩)),(0,.slice A 0 c)]) (fun _=>[zak gb 79 #[.int .i64 0,.int .i64 0,.int .i64 0]]) (fun _=>True) (fun _=>0) () trivial Ze (by exact zaK) ?_
  rintro _ _
  repeat' (first|refine zhp ?_|refine Zga ?_|(refine Zgb ?_;intro g)|(refine Zg ?_ ?_<;>(intro h;try exact Zx))|fail)
  ((with_reducible apply zau Tryz.results113);exact Zr;intro w' hw)
  exact⟨rfl,hw.below0 rfl⟩
 obtain⟨bz,oz,rfl,_⟩:=RdE.open hA Zo
 refine zaj (S:=[]) [] Tryz.func113 rfl Tryz.ntmps113 Zj (Mem.nil _) ?_
 repeat' (first|refine zhp ?_|refine Zga ?_|(refine Zgb ?_;intro g)|(refine Zg ?_ ?_<;>(intro h;try exact Zx))|fail)
 obtain⟨gb,rfl⟩:∃x,x=g:=⟨_,rfl⟩
 refine zap (X:=Nat) (fun i=>[(14,.int .i64 (i:Nat)),(13,.int .i64 Z.length),(12,.slice (some ⟨bz,oz,none⟩) Z.length c),(3,.func (.func 151) #[] [].toArray),(2,.pointer (some ⟨gb,0,none⟩)),(0,.slice (some ⟨bz,oz,none⟩) Z.length c)]) (fun _=>[zak gb 79 #[.int .i64 0,.int .i64 0,.int .i64 0]])
  (fun i=>i≤Z.length∧∀j,j<i→∀q,q<Z.length→zcq Z j q=false) (fun i=>Z.length-i) 0 ⟨by omega,fun j hj=>by omega⟩ Ze (by exact zaK) ?_
 rintro i ⟨hi,hno⟩
 by_cases hil:i<Z.length
 ·have hde:=fun q (h:i<q) (hq:q<Z.length)=>crossB_eq (Z:=Z) hil hq
  have hRi:=hR1 i
  have hle:=fun q (h:q≤i)=>crossB_le (Z:=Z) h
  clear hR1 hR2 hR3
  repeat' (first|refine zhp ?_|refine Zga ?_|(refine Zgb ?_;intro g)|(refine Zg ?_ ?_<;>(intro h;try exact Zx))|fail)
  obtain⟨g5,rfl⟩:∃x,x=g:=⟨_,rfl⟩
  refine zap (X:=Nat) (fun j=>[(24,.int .i64 (j:Nat)),(23,.int .i64 ((Z.length-(i+1):Nat):Int)),(22,.slice (some ⟨bz,if c=i+1 then oz else oz+(i+1) * 4,none⟩) (Z.length-(i+1)) (c-(i+1))),(5,.pointer (some ⟨g5,0,none⟩)),(14,.int .i64 (i:Nat)),(13,.int .i64 Z.length),(12,.slice (some ⟨bz,oz,none⟩) Z.length c),(3,.func (.func 151) #[] [].toArray),(2,.pointer (some ⟨gb,0,none⟩)),(0,.slice (some ⟨bz,oz,none⟩) Z.length c)]) (fun _=>[zak g5 142 (Zon.enc Z[i]).toArray,zak gb 79 #[.int .i64 0,.int .i64 0,.int .i64 0]])
   (fun j=>j≤Z.length-(i+1)∧∀q,q<i+1+j→zcq Z i q=false) (fun j=>Z.length-(i+1)-j) 0 ⟨by omega,fun q hq=>hle q Zo⟩ Ze (by exact zaK) ?_
  rintro j ⟨hj,hnj⟩
  by_cases hjl:j<Z.length-(i+1)
  ·rw[if_neg (show ¬c=i+1 by omega)]
   obtain⟨k,hk⟩:∃k,k=i+1+j:=⟨_,rfl⟩
   have hkl:k<Z.length:=by omega
   have hcr:=hde k Zo hkl
   have hmt:=fun w=>zmeet_any Z[i] Z[k] w
   have hRk:=hRi k hil hkl hno (fun q hq=>hnj q Zo)
   generalize hmb:zh9 Z[i] Z[k]=mb at hcr hmt
   rw[decide_eq_true (show i<k by omega),Bool.true_and] at hcr
   rw[hcr] at hRk
   have hnk:(Z[i].fwd&&(Z[k].fwd&&mb))=false→∀q,q<i+1+(j+1)→zcq Z i q=false:=fun e q hq=>(Nat.lt_succ_iff_lt_or_eq.1 (show q<(i+1+j)+1 by omega)).elim (fun e2=>hnj q e2) (fun e2=>by rw[e2,←hk,hcr];exact e)
   have hn1:=fun h:Z[i].fwd=false=>hnk (by rw[h];rfl)
   have hn2:=fun h:Z[k].fwd=false=>hnk (by rw[h,Bool.false_and,Bool.and_false])
   have hn3:=fun h:mb=false=>hnk (by rw[h,Bool.and_false,Bool.and_false])
   have hn0:=fun(h1:Z[i].fwd=true) (h2:Z[k].fwd=true) (h3:mb=true)=>hRk (by rw[h1,h2,h3];rfl)
   clear hde hno hnj hRi hcr hnk hRk
   repeat' (first|refine zhp ?_|refine Zga ?_|(refine Zgb ?_;intro g)|(refine Zg ?_ ?_<;>(intro h;try exact Zx))|((with_reducible (first|apply zaa|apply TD_e3z|apply zan|apply zaf|apply zae));((with_reducible apply zbf (f:=151) (us:=[]) (cs:=[]) (vs:=[.agg (Zon.enc Z[i]).toArray,.agg (Zon.enc Z[k]).toArray]) (v:=.bool mb));exact rfl;exact rfl;(intro w' hw;exact hmt w');exact rfl);exact Zh;(rintro _ _ ⟨rfl,rfl⟩);(try refine⟨SUB,?_⟩))|fail)
   all_goals first
    |exact zab (j+1) ⟨by omega,hn1 (by assumption)⟩ Zo Ze (by exact zaK)
    |exact zab (j+1) ⟨by omega,hn2 (by assumption)⟩ Zo Ze (by exact zaK)
    |exact zab (j+1) ⟨by omega,hn3 (by assumption)⟩ Zo Ze (by exact zaK)
    |(obtain rfl:=hn0 (by assumption) (by assumption) (by assumption);((with_reducible apply zau Tryz.results113);exact Zr;intro w' hw);exact⟨rfl,hw.below0 rfl⟩)
  ·have hjn:j=Z.length-(i+1):=by omega
   have hno2:∀q,q<i+1→∀r,r<Z.length→zcq Z q r=false:=fun q hq r hr=>(Nat.lt_succ_iff_lt_or_eq.1 hq).elim (fun e=>hno q e r hr) (fun e=>by subst e;exact hnj r Zo)
   clear hno hnj
   repeat' (first|refine zhp ?_|refine Zga ?_|(refine Zgb ?_;intro g)|(refine Zg ?_ ?_<;>(intro h;try exact Zx))|fail)
   all_goals exact zab (i+1) ⟨by omega,hno2⟩ Zo Ze (by exact zaK)
 ·obtain rfl:i=Z.length:=by omega
  have hR2:=hR2 hno
  have hR3:=hR3 hno
  clear hR1
  repeat' (first|refine zhp ?_|refine Zga ?_|(refine Zgb ?_;intro g)|(refine Zg ?_ ?_<;>(intro h;try exact Zx))|fail)
  refine zap (X:=Nat) (fun i=>[(49,.int .i64 (i:Nat)),(48,.int .i64 Z.length),(47,.slice (some ⟨bz,oz,none⟩) Z.length c),(3,.func (.func 151) #[] [].toArray),(2,.pointer (some ⟨gb,0,none⟩)),(0,.slice (some ⟨bz,oz,none⟩) Z.length c)]) (fun _=>[zak gb 79 #[.int .i64 0,.int .i64 0,.int .i64 0]])
   (fun i=>i≤Z.length∧∀j,j<i→∀q,q<Z.length→zb2 Z j q=false) (fun i=>Z.length-i) 0 ⟨by omega,fun j hj=>by omega⟩ Ze (by exact zaK) ?_
  clear hno hi hil
  rintro i ⟨hi,hno⟩
  by_cases hil:i<Z.length
  ·have hde:=fun q (hq:q<Z.length)=>insideB_eq (Z:=Z) hil hq
   have hRi:=hR2 i
   clear hR2 hR3
   repeat' (first|refine zhp ?_|refine Zga ?_|(refine Zgb ?_;intro g)|(refine Zg ?_ ?_<;>(intro h;try exact Zx))|fail)
   obtain⟨g5,rfl⟩:∃x,x=g:=⟨_,rfl⟩
   refine zap (X:=Nat) (fun j=>[(55,.int .i64 (j:Nat)),(54,.int .i64 Z.length),(53,.slice (some ⟨bz,oz,none⟩) Z.length c),(9,.pointer (some ⟨g5,0,none⟩)),(49,.int .i64 (i:Nat)),(48,.int .i64 Z.length),(47,.slice (some ⟨bz,oz,none⟩) Z.length c),(3,.func (.func 151) #[] [].toArray),(2,.pointer (some ⟨gb,0,none⟩)),(0,.slice (some ⟨bz,oz,none⟩) Z.length c)]) (fun _=>[zak g5 142 (Zon.enc Z[i]).toArray,zak gb 79 #[.int .i64 0,.int .i64 0,.int .i64 0]])
    (fun j=>j≤Z.length∧∀q,q<j→zb2 Z i q=false) (fun j=>Z.length-j) 0 ⟨by omega,fun q hq=>by omega⟩ Ze (by exact zaK) ?_
   rintro k ⟨hk,hnj⟩
   by_cases hkl:k<Z.length
   ·have hcr:=hde k hkl
    have hmt:=fun w=>zmeet_any Z[i] Z[k] w
    have hRk:=hRi k hil hkl hno hnj
    generalize hmb:zh9 Z[i] Z[k]=mb at hcr hmt
    rw[hcr] at hRk
    have hnk:(Z[i].fwd&&(!Z[k].fwd&&mb))=false→∀q,q<k+1→zb2 Z i q=false:=fun e q hq=>(Nat.lt_succ_iff_lt_or_eq.1 hq).elim (fun e2=>hnj q e2) (fun e2=>by subst e2;rw[hcr];exact e)
    have hn1:=fun h:Z[i].fwd=false=>hnk (by rw[h];rfl)
    have hn2:=fun h:Z[k].fwd=true=>hnk (by rw[h,Bool.not_true,Bool.false_and,Bool.and_false])
    have hn2':=fun h:(!Z[k].fwd)=false=>hnk (by rw[h,Bool.false_and,Bool.and_false])
    have hn3:=fun h:mb=false=>hnk (by rw[h,Bool.and_false,Bool.and_false])
    have hn0:=fun(h1:Z[i].fwd=true) (h2:Z[k].fwd=false) (h3:mb=true)=>hRk (by rw[h1,h2,h3];rfl)
    have hn0':=fun(h1:Z[i].fwd=true) (h2:(!Z[k].fwd)=true) (h3:mb=true)=>hRk (by rw[h1,h2,h3];rfl)
    clear hde hno hnj hRi hcr hnk hRk
    repeat' (first|refine zhp ?_|refine Zga ?_|(refine Zgb ?_;intro g)|(refine Zg ?_ ?_<;>(intro h;try exact Zx))|((with_reducible (first|apply zaa|apply TD_e3z|apply zan|apply zaf|apply zae));((with_reducible apply zbf (f:=151) (us:=[]) (cs:=[]) (vs:=[.agg (Zon.enc Z[i]).toArray,.agg (Zon.enc Z[k]).toArray]) (v:=.bool mb));exact rfl;exact rfl;(intro w' hw;exact hmt w');exact rfl);exact Zh;(rintro _ _ ⟨rfl,rfl⟩);(try refine⟨SUB,?_⟩))|fail)
    all_goals first
     |exact zab (k+1) ⟨by omega,hn1 (by assumption)⟩ Zo Ze (by exact zaK)
     |exact zab (k+1) ⟨by omega,hn2 (by assumption)⟩ Zo Ze (by exact zaK)
     |exact zab (k+1) ⟨by omega,hn2' (by assumption)⟩ Zo Ze (by exact zaK)
     |exact zab (k+1) ⟨by omega,hn3 (by assumption)⟩ Zo Ze (by exact zaK)
     |(obtain rfl:=hn0 (by assumption) (by assumption) (by assumption);((with_reducible apply zau Tryz.results113);exact Zr;intro w' hw);exact⟨rfl,hw.below0 rfl⟩)
     |(obtain rfl:=hn0' (by assumption) (by assumption) (by assumption);((with_reducible apply zau Tryz.results113);exact Zr;intro w' hw);exact⟨rfl,hw.below0 rfl⟩)
   ·obtain rfl:k=Z.length:=by omega
    have hno2:∀q,q<i+1→∀r,r<Z.length→zb2 Z q r=false:=fun q hq r hr=>(Nat.lt_succ_iff_lt_or_eq.1 hq).elim (fun e=>hno q e r hr) (fun e=>by subst e;exact hnj r hr)
    clear hno hnj
    repeat' (first|refine zhp ?_|refine Zga ?_|(refine Zgb ?_;intro g)|(refine Zg ?_ ?_<;>(intro h;try exact Zx))|fail)
    all_goals exact zab (i+1) ⟨by omega,hno2⟩ Zo Ze (by exact zaK)
  ·obtain rfl:i=Z.length:=by omega
   obtain rfl:=hR3 hno
   repeat' (first|refine zhp ?_|refine Zga ?_|(refine Zgb ?_;intro g)|(refine Zg ?_ ?_<;>(intro h;try exact Zx))|fail)
   ((with_reducible apply zau Tryz.results113);exact Zr;intro w' hw)
   exact⟨rfl,hw.below0 rfl⟩
end
end
section
open Go.RowKit
theorem wonce_ok{l:List Ev}(h:(zaY l).2=0):RgOk (zaY l).1:=by
 by_cases h1:(zai [1] l).2.2=0
 ·by_cases h2:(List.range (zai [1] l).1.length).any (zdi (zai [1] l).1)=true
  ·obtain⟨i,hi,hb⟩:=List.any_eq_true.1 h2
   rw[zhn h1 (List.mem_range.1 hi) hb] at h
   cases h
  ·have h3:∀i,i<(zai [1] l).1.length→zdi (zai [1] l).1 i=false:=fun i hi=>by
    have:=List.any_eq_false.1 (Bool.eq_false_iff.2 h2) i (List.mem_range.2 hi)
    simpa using this
   rw[zjE h1 h3]
   exact rgOk_of (rgAll_of h1) h3
 ·rw[zhm h1] at h
  exact absurd h h1
def zcV(l:List Ev):Bd:=if(zaY l).2=0 then zbP (zaY l).1 else⟨0,0,0⟩
section
variable (B0:Option Addr)(d0:Nat)(l:List Ev)(w:World)(hl:l.length≤9223372036854775807)(hA:RdEv w B0 l) 
include hl hA
theorem zcheck_any:Calls Tryz.prog 61 #[.slice B0 l.length d0] w fun e w'=>e=.returned (.tuple #[.bool (decide ((zaY l).2=0)&&decide ((zcV l).kind=0)),.agg (Bd.enc (zcV l)).toArray,.int .i64 (zaY l).2])∧Below w.heap.size w w':=by
 have hcal:=fun w h=>znCalls_any B0 d0 l w hl h
 have hko:=wonce_ok (l:=l)
 unfold zcV
 obtain⟨cs,er,hR⟩:∃cs er,zaY l=(cs,er):=⟨_,_,rfl⟩
 rw[hR] at hcal hko ⊢
 dsimp only at hcal hko ⊢
 clear hR
 refine zaj (S:=[]) [] Tryz.func61 rfl Tryz.ntmps61 Zj (Mem.nil _) ?_
 by_cases he:er=0
 ·rw[if_pos he]
  have hok:=hko he
  have hlen:=hok.few
  have hkl:=keyZ_len hok
  have hclu:=fun A c w h=>clusters_any A c cs w hlen h hok
  repeat' (first|refine Zga ?_|(refine Zgb ?_;intro g)|(refine Zg ?_ ?_<;>(intro h;try exact Zx))|((with_reducible (first|apply zaa|apply TD_e3z|apply zan|apply zaf|apply zae));((with_reducible apply zal (f:=110));exact rfl;(intro w hw;exact hcal w (hw.rd rfl hA));exact rfl);exact Zh;(rintro _ _ ⟨A1,c1,rfl,rfl⟩);(try refine⟨SUB,?_⟩))|fail)
  all_goals first|(exfalso;omega)|skip
  have hclu:=hclu A1 c1
  repeat' (first|refine Zga ?_|(refine Zgb ?_;intro g)|(refine Zg ?_ ?_<;>(intro h;try exact Zx))|((with_reducible (first|apply zaa|apply TD_e3z|apply zan|apply zaf|apply zae));((with_reducible apply zar (f:=111) (X:=Option Addr×Nat×CluS cs) (S1:=[]) (fun x=>.slice x.1 x.2.2.1.length x.2.1) (fun x=>[zac Clu.enc 9 206 x.1 x.2.1 x.2.2.1]));exact rfl;exact Zp;(intro x;(try dsimp only);exact Za);(intro w hw;exact hclu w (hw.ownRd Zm (fun _=>rfl)));exact rfl);exact Zh;(rintro _ _ ⟨x,rfl,rfl⟩);(try refine⟨SUB,?_⟩))|fail)
  obtain⟨CA,cc,CS,hCS⟩:=x
  dsimp only
  have hCl:CS.length≤1000:=by
   have:=congrArg List.length hCS.1
   rw[List.length_map,List.length_map] at this
   omega
  have hz:=zfL_all ⟨CS,hCS⟩
  dsimp only at hz
  have hzl:=zfL_len CS CS.length
  have hzv:zbP cs=if(zck cs).kind≠0 then zck cs else zdj (zfL CS CS.length):=by unfold zbP;rw[hz]
  clear hz hko
  repeat' (first|refine Zha ?_|(refine Zhb ?_;intro g)|(refine Zg ?_ ?_<;>(intro h;try exact Zx))|refine GOF ?_ ?_|((with_reducible (first|apply zaa|apply TD_e3z|apply zan|apply zaf|apply zae));((with_reducible apply zad (f:=112));exact rfl;(intro w hw;exact zreads_any A1 CA c1 cc cs CS w hlen hCl (hw.ownRd Zm (fun _=>rfl)) (hw.ownRd Zm (fun _=>rfl)) hok hCS);exact rfl);exact Zh;(rintro _ _ ⟨rfl,rfl⟩);(try refine⟨SUB,?_⟩))|((with_reducible (first|apply zaa|apply TD_e3z|apply zan|apply zaf|apply zae));((with_reducible apply zal (f:=114));exact rfl;(intro w hw;exact zonesOf_any CA cc CS w Zo (hw.ownRd Zm (fun _=>rfl)));exact rfl);exact Zh;(rintro _ _ ⟨A2,c2,rfl,rfl⟩);(try refine⟨SUB,?_⟩))|((with_reducible apply zam (id:=8) 5 (OT.seq [(0,0),(1,1),(0,2),(0,4),(1,3),(3,5),(0,6)] .nil));kernel_rfl;exact rfl;kernel_rfl;exact Zd)|fail)
  ·have h0:(zck cs).kind=0:=by assumption
   rw[if_neg (by simp[h0])] at hzv
   refine zfP (p:=(zfL CS CS.length).length≤c2∧(A2=none→c2=0)) (fun w hw=>hw.ownFacts (enc:=Zon.enc) (M:=4) (et:=142) Zm) fun hf=>?_
   repeat' (first|refine Zha ?_|(refine Zhb ?_;intro g)|(refine Zg ?_ ?_<;>(intro h;try exact Zx))|refine GOF ?_ ?_|((with_reducible (first|apply zaa|apply TD_e3z|apply zan|apply zaf|apply zae));((with_reducible apply zad (f:=113));exact rfl;(intro w hw;exact zpairs_any A2 c2 (zfL CS CS.length) w Zo hf.1 (hw.ownRd Zm (fun _=>rfl)));exact rfl);exact Zh;(rintro _ _ ⟨rfl,rfl⟩);(try refine⟨SUB,?_⟩))|((with_reducible apply zam (id:=8) 5 (OT.seq [(0,0),(1,1),(0,2),(0,4),(1,3),(3,5),(0,6)] .nil));kernel_rfl;exact rfl;kernel_rfl;exact Zd)|fail)
   ((with_reducible apply zau Tryz.results61);exact Zr;intro w' hw)
   exact⟨by rw[hzv,he];rfl,hw.below0 rfl⟩
  ·have h0:¬(zck cs).kind=0:=by assumption
   rw[if_pos h0] at hzv
   ((with_reducible apply zau Tryz.results61);exact Zr;intro w' hw)
   exact⟨by rw[hzv,he];rfl,hw.below0 rfl⟩
 ·rw[if_neg he]
  repeat' (first|refine Zga ?_|(refine Zgb ?_;intro g)|(refine Zg ?_ ?_<;>(intro h;try exact Zx))|((with_reducible (first|apply zaa|apply TD_e3z|apply zan|apply zaf|apply zae));((with_reducible apply zal (f:=110));exact rfl;(intro w hw;exact hcal w (hw.rd rfl hA));exact rfl);exact Zh;(rintro _ _ ⟨A1,c1,rfl,rfl⟩);(try refine⟨SUB,?_⟩))|fail)
  all_goals first
   |(((with_reducible apply zau Tryz.results61);exact Zr;intro w' hw);exact⟨by rw[decide_eq_false he];rfl,hw.below0 rfl⟩)
   |(exfalso;omega)
end
end
end Go.Proofs.YtjdckepbihcgfaaGreatDoor
