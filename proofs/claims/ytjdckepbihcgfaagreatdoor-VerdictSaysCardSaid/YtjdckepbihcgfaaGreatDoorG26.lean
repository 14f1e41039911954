/- Lemmas for the walks (Tk1, CtCall, Tk3). No condition. -/
import Derived.Test.YtjdckepbihcgfaaGreatDoorG14
import Derived.Test.YtjdckepbihcgfaaGreatDoorG24
set_option linter.unusedSimpArgs false
set_option linter.unusedVariables false
set_option linter.unusedSectionVars false
set_option linter.unnecessarySimpa false
set_option maxRecDepth 100000
set_option maxHeartbeats 8000000
namespace Go.Proofs.YtjdckepbihcgfaaGreatDoor
section
open Go.RowKit
def hasM(cs:List Cl):Nat→List (Int×Bool)
 |0=>[]
 |k+1=>if(clK cs k).to=-1 then hasM cs k else zgP (hasM cs k) (clK cs k).res true
def hasK(cs:List Cl)(n:Int):Nat→Bool
 |0=>false
 |k+1=>hasK cs n k||(decide ((clK cs k).to≠-1)&&decide ((clK cs k).res=n))
theorem hasM_look(cs:List Cl)(n:Int):∀k,(zcs (hasM cs k) n).getD false=hasK cs n k
 |0=>rfl
 |k+1=>by
  have ih:=hasM_look cs n k
  rw[hasM,hasK]
  split
  ·rename_i e;rw[ih];simp[e]
  ·rename_i e
   rw[zeO]
   by_cases h:n=(clK cs k).res
   ·simp[h,e]
   ·rw[if_neg h,ih]
    have:¬(clK cs k).res=n:=fun q=>h q.symm
    simp[this]
def zdk(cs:List Cl):Nat→Int
 |0=>-1
 |k+1=>if(clK cs k).to=-1 then zdk cs k else max (zdk cs k) (clK cs k).res
def zeE(cs:List Cl)(k:Nat):List Nat:=(List.range k).filter fun i=>decide ((clK cs i).to=-1)
theorem pendK_succ(cs:List Cl)(k:Nat):zeE cs (k+1)=if(clK cs k).to=-1 then zeE cs k++[k] else zeE cs k:=by
 unfold zeE
 rw[List.range_succ,List.filter_append]
 split<;>rename_i h<;>simp[h]
theorem zgJ(cs:List Cl)(k:Nat):(zeE cs k).length≤k:=by
 unfold zeE
 exact Nat.le_trans (List.length_filter_le _ _) Zj
theorem pendK_lt{cs:List Cl}{k i:Nat}(h:i∈zeE cs k):i<k∧(clK cs i).to=-1:=by
 unfold zeE at h
 rw[List.mem_filter,List.mem_range] at h
 exact⟨h.1,of_decide_eq_true h.2⟩
def zib(cs:List Cl):Nat:=(zdk cs cs.length+1).toNat
def hasT(cs:List Cl)(n:Nat):Bool:=hasK cs (n:Int) cs.length
def zcK(cs:List Cl)(n:Nat):List Nat:=(List.range n).filter fun n=>!hasT cs n
theorem zhs(cs:List Cl)(k:Nat):zcK cs (k+1)=if hasT cs k=true then zcK cs k else zcK cs k++[k]:=by
 unfold zcK
 rw[List.range_succ,List.filter_append]
 cases h:hasT cs k<;>simp[h]
theorem missK_len(cs:List Cl)(k:Nat):(zcK cs k).length≤k:=by
 unfold zcK
 exact Nat.le_trans (List.length_filter_le _ _) Zj
def zbl(cs:List Cl):List Nat:=zeE cs cs.length
def zdl(cs:List Cl):List Nat:=zcK cs (zib cs)
theorem missK_at(cs:List Cl){n m:Nat}(h:hasT cs n=false)(hm:n<m):(zcK cs m)[(zcK cs n).length]?=some n:=by
 induction m with
 |zero=>omega
 |succ m ih =>
  rw[zhs]
  by_cases e:n=m
  ·subst e
   rw[if_neg (by rw[h];decide)]
   simp
  ·have:=ih Zo
   split
   ·exact this
   ·rw[List.getElem?_append_left (by
     have:=(List.getElem?_eq_some_iff.1 this).1;omega)]
    exact this
def zic(cs:List Cl)(i n:Nat)(x:Cl):Bool:=decide (x.to≠-1)&&(decide (x.to<(clK cs i).from_)&&decide ((n:Int)≤x.res))
def canT(cs:List Cl)(i n:Nat):Bool:=!cs.any (zic cs i n)
def twB(cs:List Cl)(i k:Nat):Bool:=decide ((clK cs i).to≠-1)&&(decide ((clK cs k).to≠-1)&&decide ((clK cs i).res=(clK cs k).res))
def ordB(cs:List Cl)(i k:Nat):Bool:=decide ((clK cs i).to≠-1)&&(decide ((clK cs k).to≠-1)&&(decide ((clK cs i).to<(clK cs k).from_)&&decide ((clK cs k).res<(clK cs i).res)))
def gapB(cs:List Cl)(k:Nat):Bool:=decide ((zbl cs).length≤k)||!canT cs ((zbl cs).getD k 0) ((zdl cs).getD k 0)
def zbC(cs:List Cl):Bd :=
 match zbN cs.length (fun i=>i) (twB cs) with
 |some (i,k)=>⟨2,i,k⟩
 |none=>match zbN cs.length (fun _=>cs.length) (ordB cs) with
  |some (i,k)=>⟨6,i,k⟩
  |none=>match zaF (zdl cs).length (gapB cs) with
   |some k=>⟨8,((zdl cs).getD k 0:Nat),0⟩
   |none=>⟨0,0,0⟩
/-! the list of who has which number -/
def ze6(cs:List Cl)(n:Int):Nat→Int
 |0=>-1
 |k+1=>if(clK cs k).to≠-1∧(clK cs k).res=n then(k:Int) else ze6 cs n k
theorem lastK_has(cs:List Cl)(n:Int):∀k,(ze6 cs n k<0↔hasK cs n k=false)∧ze6 cs n k<k∧-1≤ze6 cs n k
 |0=>⟨by simp[ze6,hasK],by simp[ze6],by simp[ze6]⟩
 |k+1=>by
  obtain⟨h1,h2,h3⟩:=lastK_has cs n k
  rw[ze6,hasK]
  split
  ·rename_i h
   refine⟨?_,by omega,by omega⟩
   simp[h.1,h.2]
  ·rename_i h
   refine⟨?_,by omega,h3⟩
   rw[h1]
   have:(decide ((clK cs k).to≠-1)&&decide ((clK cs k).res=n))=false:=by
    rw[Bool.and_eq_false_iff,decide_eq_false_iff_not,decide_eq_false_iff_not]
    by_cases a:(clK cs k).to≠-1
    ·right;exact fun b=>h ⟨a,b⟩
    ·left;exact a
   rw[this,Bool.or_false]
def whoT(cs:List Cl)(n:Nat):Nat:=if ze6 cs n cs.length<0 then(zbl cs).getD (zcK cs n).length 0 else(ze6 cs n cs.length).toNat
def numsT(cs:List Cl):List Nat:=(List.range (zib cs)).map (whoT cs)
structure TkOk (cs:List Cl):Prop where
 few:cs.length≤200
 res:∀k,k<cs.length→(clK cs k).to≠-1→0≤(clK cs k).res∧(clK cs k).res≤1000
 to:∀k,k<cs.length→(clK cs k).to=-1∨0≤(clK cs k).to
 ne:∀p q,p<cs.length→q<cs.length→(clK cs p).to≠(clK cs q).from_
theorem tkOk_of{l:List Ev}(h:(zai [5] l).2.2=0):TkOk (zai [5] l).1:=by
 obtain⟨_,h2,h3,h4⟩:=zhc h
 refine⟨zbi _ _,fun k hk ht=>?_,fun k hk=>?_,fun p q hp hq=>?_⟩
 ·rw[zay hk] at ht ⊢
  have ha:=h4.ans k hk ht
  have h5:=(h2.each k hk).thing
  have h6:=(h2.each k hk).kind
  have e:(zai [5] l).1[k].thing.toNat=0:=by simp at h5;omega
  rw[e] at h6
  have hk10:(zai [5] l).1[k].kind=10:=by simpa[zaZ] using h6
  rw[hk10] at ha
  simpa[ansB] using ha
 ·rw[zay hk]
  rcases h3.to k hk with h|h
  ·exact .inl h
  ·have:=h4.lt k hk;right;omega
 ·rw[zay hp,zay hq];exact h4.ne p q hp hq
theorem zgK{cs:List Cl}(h:TkOk cs):∀k,k≤cs.length→-1≤zdk cs k∧zdk cs k≤1000
 |0,_=>by simp[zdk]
 |k+1,hk=>by
  have h1:=zgK h k Zo
  rw[zdk]
  split
  ·exact h1
  ·rename_i e
   have:=h.res k Zo e
   omega
theorem hasK_of{cs:List Cl}{n:Int}:∀{k i:Nat},i<k→(clK cs i).to≠-1→(clK cs i).res=n→hasK cs n k=true
 |k+1,i,hi,ht,hr=>by
  rw[hasK]
  by_cases e:i=k
  ·subst e;simp[ht,hr]
  ·rw[hasK_of (k:=k) (i:=i) Zo ht hr];rfl
section
variable {cs:List Cl}(hok:TkOk cs)(hno:zbN cs.length (fun i=>i) (twB cs)=none) 
include hno
include hok
end
end
section
open Go.RowKit
section
variable (fn:Nat)[IsFn Tryz.prog fn](p:Cl→Bool)(cvs:List Value)(A:Option Addr)(c:Nat)(l:List Cl)(w:World)(hA:RdE Cl.enc 7 w A l)(hl:l.length≤9223372036854775807) 
variable (hp:∀s∈l,∀w',Below w.heap.size w w'→Calls Tryz.prog fn (.agg (Cl.enc s).toArray::cvs).toArray w' fun e w2=>e=.returned (.bool (p s))∧Below w'.heap.size w' w2) 
include hA hl hp
theorem indexCall_any:Calls Tryz.prog 48 #[.slice A l.length c,.func (.func fn) #[] cvs.toArray] w fun e w'=>e=.returned (.int .i64 (idxF p l))∧Below w.heap.size w w':=by
 refine zaj (S:=[]) [] Tryz.func48 rfl Tryz.ntmps48 Zj (Mem.nil _) ?_
 repeat' (first|refine Zga ?_|(refine Zgb ?_;intro g)|(refine Zg ?_ ?_<;>(intro h;try exact Zx))|fail)
 refine zap (X:=Nat) (fun k=>[(8,.int .i64 (k:Nat)),(7,.int .i64 (l.length:Nat)),(1,.func (.func fn) #[] cvs.toArray),(0,.slice A l.length c)]) (fun _=>[])
  (fun k=>k≤l.length∧(l.take k).any p=false) (fun k=>l.length-k) 0 ⟨by omega,by simp⟩ Ze (by exact zaK) ?_
 rintro k ⟨hk,hno⟩
 by_cases hkl:k<l.length
 ·obtain⟨b,o,rfl,_⟩:=RdE.open hA Zo
  have hb:=fun w' hb=>hp l[k] (List.getElem_mem _) w' hb
  generalize hz:p l[k]=z at hb
  repeat' (first|refine Zga ?_|(refine Zgb ?_;intro g)|(refine Zg ?_ ?_<;>(intro h;try exact Zx))|((with_reducible (first|apply zaa|apply TD_e3z|apply zan|apply zaf|apply zae));((with_reducible apply zbf (f:=fn) (us:=[]) (cs:=cvs) (v:=.bool z));exact rfl;exact rfl;(intro w' hw;exact hb w' (hw.below0 rfl));exact rfl);exact Zh;(rintro _ _ ⟨rfl,rfl⟩);(try refine⟨SUB,?_⟩))|fail)
  ·(refine zah Tryz.results48 rfl (fun w' hw=>?_))
   exact⟨by rw[zjJ hkl hno (by rw[hz];assumption)];rfl,hw.below0 rfl⟩
  ·refine zab (k+1) ⟨hkl,zdD hkl hno (by rw[hz];assumption)⟩ Zo Ze (by exact zaK)
 ·obtain rfl:k=l.length:=by omega
  rw[List.take_length] at hno
  repeat' (first|refine Zga ?_|(refine Zgb ?_;intro g)|(refine Zg ?_ ?_<;>(intro h;try exact Zx))|fail)
  (refine zah Tryz.results48 rfl (fun w' hw=>?_))
  exact⟨by rw[zjK hno];rfl,hw.below0 rfl⟩
theorem contCall_any:Calls Tryz.prog 15 #[.slice A l.length c,.func (.func fn) #[] cvs.toArray] w fun e w'=>e=.returned (.bool (l.any p))∧Below w.heap.size w w':=by
 have hi:=fun w' (hb:Below w.heap.size w w')=>indexCall_any fn p cvs A c l w' (RdE.below hA hb) hl (fun s hs w2 h2=>hp s hs w2 (zeH hb h2))
 have hz:=idxF_any p l
 generalize idxF p l=z at *
 generalize l.any p=q at *
 subst hz
 refine zaj (S:=[]) [] Tryz.func15 rfl Tryz.ntmps15 Zj (Mem.nil _) ?_
 repeat' (first|refine Zga ?_|(refine Zgb ?_;intro g)|(refine Zg ?_ ?_<;>(intro h;try exact Zx))|((with_reducible (first|apply zaa|apply TD_e3z|apply zan|apply zaf|apply zae));((with_reducible apply zad (f:=48));exact rfl;(intro w hw;exact hi w (hw.below0 rfl));exact rfl);exact Zh;(rintro _ _ ⟨rfl,rfl⟩);(try refine⟨SUB,?_⟩))|fail)
 (refine zah Tryz.results15 rfl (fun w' hw=>?_))
 exact⟨rfl,hw.below0 rfl⟩
end
end
section
open Go.RowKit
theorem zgL{p R:Prop}(r:R)(h:Rest R→p:=by intro r;(first|with_reducible (first|apply zcE|apply za9|apply zba|apply zbd|apply zbe)|((with_reducible (first|apply zaN|apply zaO));exact rfl;exact rfl;(with_reducible exact rfl)));(first|((with_reducible apply za1);exact rfl;(apply Lds.old;assumption;simp;assumption))|((with_reducible apply zci);exact rfl;exact rfl;omega)|exact QS.auto);exact rfl;exact r.out):p:=h ⟨r⟩
section
variable (gl:Nat)(A P M:Option Addr)(ca cp cm:Nat)(cs:List Cl)(p m:List Nat)(w:World)(hL:Blk w gl 228 #[.slice A cs.length ca,.slice P p.length cp,.slice M m.length cm])(hA:RdE Cl.enc 7 w A cs)(h200:cs.length≤200) 
include hL hA h200
theorem can1_any(x:Cl)(i n b1 b2 b3:Nat)(hi:i<cs.length)(h1:b1<w.heap.size)(hc1:w.cell? ⟨b1,0,none⟩=some (.pointer (some ⟨gl,0,none⟩)))(h2:b2<w.heap.size)(hc2:w.cell? ⟨b2,0,none⟩=some (.int .i64 (i:Nat)))(h3:b3<w.heap.size)(hc3:w.cell? ⟨b3,0,none⟩=some (.int .i64 (n:Nat))):
  Calls Tryz.prog 189 #[.agg (Cl.enc x).toArray,.pointer (some ⟨b1,0,none⟩),.pointer (some ⟨b2,0,none⟩),.pointer (some ⟨b3,0,none⟩)] w fun e w'=>e=.returned (.bool (zic cs i n x))∧Below w.heap.size w w':=by
 have hl:=hL.lt
 have hl0:w.cell? ⟨gl,0,none⟩=some (.slice A cs.length ca):=hL.cell 0
 obtain⟨bC,oC,rfl,_⟩:=RdE.open hA Zo
 have hck:=zay hi
 have hlate:zic cs i n x=(decide (x.to≠-1)&&(decide (x.to<cs[i].from_)&&decide ((n:Int)≤x.res))):=by unfold zic;rw[hck]
 rw[hlate]
 clear hlate hck
 refine zaj (S:=[]) [] Tryz.func189 rfl Tryz.ntmps189 Zj (Mem.nil _) ?_
 repeat' (first|refine zgL ?_|refine Zha ?_|(refine Zhb ?_;intro g)|(refine Zg ?_ ?_<;>(intro h;try exact Zx))|refine GOF ?_ ?_|((with_reducible apply zam (id:=1) 1000 (OT.seq [(0,0),(1,1),(0,2),(0,3),(0,4),(1,5),(1,6),(0,7),(0,8),(1,9),(1,10),(0,11),(0,12),(1,13),(0,14),(0,15),(0,16),(0,17),(1,18),(1,19),(0,20),(0,21),(0,22)] .nil));kernel_rfl;exact rfl;kernel_rfl;exact Zd)|fail)
 all_goals
  refine zah Tryz.results189 rfl (fun w' hw=>?_)
  refine⟨?_,hw.below0 rfl⟩
  congr 2
  first|(simp[*,za0];done)|(simp[*,za0];omega)
theorem can_any(i n:Nat)(hi:i<cs.length):Calls Tryz.prog 163 #[.pointer (some ⟨gl,0,none⟩),.int .i64 (i:Nat),.int .i64 (n:Nat)] w fun e w'=>e=.returned (.bool (canT cs i n))∧Below w.heap.size w w':=by
 have hl:=hL.lt
 have hl0:w.cell? ⟨gl,0,none⟩=some (.slice A cs.length ca):=hL.cell 0
 have hcl:∀(g3 g4 g5:Nat) (S:List Ent) (w1:World),Mem ⟨14,[],w⟩ w1 S→zak g3 178 #[.pointer (some ⟨gl,0,none⟩)]∈S→zak g4 3 #[.int .i64 (i:Nat)]∈S→zak g5 3 #[.int .i64 (n:Nat)]∈S →
   Calls Tryz.prog 15 #[.slice A cs.length ca,.func (.func 189) #[] [.pointer (some ⟨g3,0,none⟩),.pointer (some ⟨g4,0,none⟩),.pointer (some ⟨g5,0,none⟩)].toArray] w1 fun e w'=>e=.returned (.bool (cs.any (zic cs i n)))∧Below w1.heap.size w1 w':=fun g3 g4 g5 S w1 hw m3 m4 m5=>by
  have b3:Blk w1 g3 178 #[.pointer (some ⟨gl,0,none⟩)]:=(hw.holds _ m3).1
  have b4:Blk w1 g4 3 #[.int .i64 (i:Nat)]:=(hw.holds _ m4).1
  have b5:Blk w1 g5 3 #[.int .i64 (n:Nat)]:=(hw.holds _ m5).1
  refine contCall_any 189 (zic cs i n) _ A ca cs w1 (hw.rd rfl hA) Zo (fun s _ w2 h2=>?_)
  exact can1_any gl A P M ca cp cm cs p m w2 ((hL.carry (hw.below0 rfl)).carry h2) (RdE.below (hw.rd rfl hA) h2) h200 s i n g3 g4 g5 hi (b3.carry h2).lt ((b3.carry h2).cell 0) (b4.carry h2).lt ((b4.carry h2).cell 0) (b5.carry h2).lt ((b5.carry h2).cell 0)
 refine zaj (S:=[]) [] Tryz.func163 rfl Tryz.ntmps163 Zj (Mem.nil _) ?_
 repeat' (first|refine zgL ?_|refine Zga ?_|(refine Zgb ?_;intro g)|(refine Zg ?_ ?_<;>(intro h;try exact Zx))|((with_reducible (first|apply zaa|apply TD_e3z|apply zan|apply zaf|apply zae));((with_reducible apply zad (f:=15) (v:=.bool (cs.any (zic cs i n))));exact rfl;(intro w1 hw;exact hcl _ _ _ _ w1 hw Zm Zm Zm);exact rfl);exact Zh;(rintro _ _ ⟨rfl,rfl⟩);(try refine⟨SUB,?_⟩))|fail)
 (refine zah Tryz.results163 rfl (fun w' hw=>?_))
 exact⟨rfl,hw.below0 rfl⟩
end
theorem twB_eq{cs:List Cl}{i k:Nat}(hi:i<cs.length)(hk:k<cs.length):twB cs i k=(decide (cs[i].to≠-1)&&(decide (cs[k].to≠-1)&&decide (cs[i].res=cs[k].res))):=by unfold twB;rw[zay hi,zay hk]
theorem ordB_eq{cs:List Cl}{i k:Nat}(hi:i<cs.length)(hk:k<cs.length):ordB cs i k=(decide (cs[i].to≠-1)&&(decide (cs[k].to≠-1)&&(decide (cs[i].to<cs[k].from_)&&decide (cs[k].res<cs[i].res)))):=by unfold ordB;rw[zay hi,zay hk]
section
variable (gl:Nat)(A P M:Option Addr)(ca cp cm:Nat)(cs:List Cl)(p m:List Nat)(w:World)(hL:Blk w gl 228 #[.slice A cs.length ca,.slice P p.length cp,.slice M m.length cm])(hA:RdE Cl.enc 7 w A cs)(h200:cs.length≤200) 
variable (hP:RdE za7 1 w P p)(hM:RdE za7 1 w M m)(hp:p=zbl cs)(hm:m=zdl cs)(hml:m.length≤2000)(hca:cs.length≤ca) 
include hL hA h200 hP hM hp hm hml hca
theorem tkCheck_any:Calls Tryz.prog 122 #[.pointer (some ⟨gl,0,none⟩)] w fun e w'=>e=.returned (.agg (Bd.enc (zbC cs)).toArray)∧Below w.heap.size w w':=by
 have hl:=hL.lt
 have hl0:w.cell? ⟨gl,0,none⟩=some (.slice A cs.length ca):=hL.cell 0
 have hl1:w.cell? ⟨gl,1,none⟩=some (.slice P p.length cp):=hL.cell 1
 have hl2:w.cell? ⟨gl,2,none⟩=some (.slice M m.length cm):=hL.cell 2
 have hcan:=fun i n w' h1 h2 hi=>can_any gl A P M ca cp cm cs p m w' h1 h2 h200 i n hi
 have hplt:∀k (hk:k<p.length),p[k]<cs.length:=fun k hk=>(pendK_lt (cs:=cs) (k:=cs.length) (by rw[show zeE cs cs.length=p from hp.symm];exact List.getElem_mem hk)).1
 have hpl:p.length≤cs.length:=by rw[hp];exact zgJ cs cs.length
 have hgap:∀k (hk:k<m.length),gapB cs k=(decide (p.length≤k)||!canT cs (p.getD k 0) (m.getD k 0)):=fun k hk=>by unfold gapB;rw[hp,hm]
 have hchk:zbC cs=match zbN cs.length (fun i=>i) (twB cs) with
  |some (i,k)=>⟨2,i,k⟩
  |none=>match zbN cs.length (fun _=>cs.length) (ordB cs) with
   |some (i,k)=>⟨6,i,k⟩
   |none=>match zaF m.length (gapB cs) with
    |some k=>⟨8,(m.getD k 0:Nat),0⟩
    |none=>⟨0,0,0⟩:=by rw[hm];rfl
 generalize zbC cs=V at *
 clear hp hm
 refine zaj (S:=[]) [] Tryz.func122 rfl Tryz.ntmps122 Zj (Mem.nil _) ?_
 repeat' (first|refine zgL ?_|refine Zga ?_|(refine Zgb ?_;intro g)|(refine Zg ?_ ?_<;>(intro h;try exact Zx))|fail)
 obtain⟨gb,rfl⟩:∃x,x=g:=⟨_,rfl⟩
 refine zap (X:=Nat) (fun i=>[(18,.int .i64 (i:Nat)),(17,.int .i64 cs.length),(16,.slice A cs.length ca),(2,.pointer (some ⟨gb,0,none⟩)),(0,.pointer (some ⟨gl,0,none⟩))]) (fun _=>[zak gb 79 #[.int .i64 0,.int .i64 0,.int .i64 0]]) (fun i=>i≤cs.length∧∀j,j<i→∀q,q<j→twB cs j q=false) (fun i=>cs.length-i) 0 ⟨by omega,fun j hj=>by omega⟩ Ze (by exact zaK) ?_
 rintro i ⟨hi,hno⟩
 by_cases hil:i<cs.length
 ·obtain⟨bC,oC,rfl,_⟩:=RdE.open hA Zo
  repeat' (first|refine zgL ?_|refine Zga ?_|(refine Zgb ?_;intro g)|(refine Zg ?_ ?_<;>(intro h;try exact Zx))|fail)
  obtain⟨g4,rfl⟩:∃x,x=g:=⟨_,rfl⟩
  refine zap (X:=Nat) (fun k=>[(30,.int .i64 (k:Nat)),(29,.int .i64 (i:Nat)),(28,.slice (some ⟨bC,oC,none⟩) i ca),(4,.pointer (some ⟨g4,0,none⟩)),(3,.int .i64 (i:Nat)),(18,.int .i64 (i:Nat)),(17,.int .i64 cs.length),(16,.slice (some ⟨bC,oC,none⟩) cs.length ca),(2,.pointer (some ⟨gb,0,none⟩)),(0,.pointer (some ⟨gl,0,none⟩))]) (fun _=>[zak g4 36 (Cl.enc cs[i]).toArray,zak gb 79 #[.int .i64 0,.int .i64 0,.int .i64 0]])
   (fun k=>k≤i∧∀q,q<k→twB cs i q=false) (fun k=>i-k) 0 ⟨by omega,fun q hq=>by omega⟩ Ze (by exact zaK) ?_
  rintro k ⟨hk,hno2⟩
  by_cases hki:k<i
  ·have htw:=twB_eq hil (show k<cs.length by omega)
   repeat' (first|refine zgL ?_|refine Zga ?_|(refine Zgb ?_;intro g)|(refine Zg ?_ ?_<;>(intro h;try exact Zx))|fail)
   all_goals
    first
     |(((with_reducible apply zau Tryz.results122);exact Zr;intro w' hw);exact⟨by rw[hchk,zc5 hil hki hno hno2 (by rw[htw];simp[*])];rfl,hw.below0 rfl⟩)
     |exact zab (k+1) ⟨hki,fun q hq=>(Nat.lt_succ_iff_lt_or_eq.1 hq).elim (fun e=>hno2 q e) (fun e=>by subst e;rw[htw];first|(simp[*];done)|(simp[*];omega))⟩ Zo Ze (by exact zaK)
  ·obtain rfl:k=i:=by omega
   repeat' (first|refine zgL ?_|refine Zga ?_|(refine Zgb ?_;intro g)|(refine Zg ?_ ?_<;>(intro h;try exact Zx))|fail)
   exact zab (k+1) ⟨hil,fun j hj=>(Nat.lt_succ_iff_lt_or_eq.1 hj).elim (fun e=>hno j e) (fun e=>by subst e;exact hno2)⟩ Zo Ze (by exact zaK)
 ·obtain rfl:i=cs.length:=by omega
  rw[zbS hno] at hchk
  dsimp only at hchk
  clear hno
  repeat' (first|refine zgL ?_|refine Zga ?_|(refine Zgb ?_;intro g)|(refine Zg ?_ ?_<;>(intro h;try exact Zx))|fail)
  refine zap (X:=Nat) (fun i=>[(60,.int .i64 (i:Nat)),(59,.int .i64 cs.length),(58,.slice A cs.length ca),(2,.pointer (some ⟨gb,0,none⟩)),(0,.pointer (some ⟨gl,0,none⟩))]) (fun _=>[zak gb 79 #[.int .i64 0,.int .i64 0,.int .i64 0]]) (fun i=>i≤cs.length∧∀j,j<i→∀q,q<cs.length→ordB cs j q=false) (fun i=>cs.length-i) 0 ⟨by omega,fun j hj=>by omega⟩ Ze (by exact zaK) ?_
  rintro i ⟨hi,hno⟩
  by_cases hil:i<cs.length
  ·obtain⟨bC,oC,rfl,_⟩:=RdE.open hA Zo
   repeat' (first|refine zgL ?_|refine Zga ?_|(refine Zgb ?_;intro g)|(refine Zg ?_ ?_<;>(intro h;try exact Zx))|fail)
   obtain⟨g8,rfl⟩:∃x,x=g:=⟨_,rfl⟩
   refine zap (X:=Nat) (fun k=>[(70,.int .i64 (k:Nat)),(69,.int .i64 cs.length),(68,.slice (some ⟨bC,oC,none⟩) cs.length ca),(8,.pointer (some ⟨g8,0,none⟩)),(7,.int .i64 (i:Nat)),(60,.int .i64 (i:Nat)),(59,.int .i64 cs.length),(58,.slice (some ⟨bC,oC,none⟩) cs.length ca),(2,.pointer (some ⟨gb,0,none⟩)),(0,.pointer (some ⟨gl,0,none⟩))]) (fun _=>[zak g8 36 (Cl.enc cs[i]).toArray,zak gb 79 #[.int .i64 0,.int .i64 0,.int .i64 0]])
    (fun k=>k≤cs.length∧∀q,q<k→ordB cs i q=false) (fun k=>cs.length-k) 0 ⟨by omega,fun q hq=>by omega⟩ Ze (by exact zaK) ?_
   rintro k ⟨hk,hno2⟩
   by_cases hki:k<cs.length
   ·have htw:=ordB_eq hil hki
    repeat' (first|refine zgL ?_|refine Zga ?_|(refine Zgb ?_;intro g)|(refine Zg ?_ ?_<;>(intro h;try exact Zx))|fail)
    all_goals
     first
      |(((with_reducible apply zau Tryz.results122);exact Zr;intro w' hw);exact⟨by rw[hchk,zc5 hil hki hno hno2 (by rw[htw];simp[*])];rfl,hw.below0 rfl⟩)
      |exact zab (k+1) ⟨hki,fun q hq=>(Nat.lt_succ_iff_lt_or_eq.1 hq).elim (fun e=>hno2 q e) (fun e=>by subst e;rw[htw];first|(simp[*];done)|(simp[*];omega))⟩ Zo Ze (by exact zaK)
   ·obtain rfl:k=cs.length:=by omega
    repeat' (first|refine zgL ?_|refine Zga ?_|(refine Zgb ?_;intro g)|(refine Zg ?_ ?_<;>(intro h;try exact Zx))|fail)
    exact zab (i+1) ⟨hil,fun j hj=>(Nat.lt_succ_iff_lt_or_eq.1 hj).elim (fun e=>hno j e) (fun e=>by subst e;exact hno2)⟩ Zo Ze (by exact zaK)
  ·obtain rfl:i=cs.length:=by omega
   rw[zbS hno] at hchk
   dsimp only at hchk
   clear hno
   repeat' (first|refine zgL ?_|refine Zga ?_|(refine Zgb ?_;intro g)|(refine Zg ?_ ?_<;>(intro h;try exact Zx))|fail)
   refine zap (X:=Nat) (fun k=>[(107,.int .i64 (k:Nat)),(106,.int .i64 m.length),(105,.slice M m.length cm),(2,.pointer (some ⟨gb,0,none⟩)),(0,.pointer (some ⟨gl,0,none⟩))]) (fun _=>[zak gb 79 #[.int .i64 0,.int .i64 0,.int .i64 0]]) (fun k=>k≤m.length∧∀j,j<k→gapB cs j=false) (fun k=>m.length-k) 0 ⟨by omega,fun j hj=>by omega⟩ Ze (by exact zaK) ?_
   rintro k ⟨hk,hno⟩
   by_cases hkm:k<m.length
   ·obtain⟨bM,oM,rfl,_⟩:=RdE.open hM Zo
    have hgk:=hgap k hkm
    have hmk:m.getD k 0=m[k]:=by simp[hkm]
    by_cases hkp:k<p.length
    ·obtain⟨bP,oP,rfl,_⟩:=RdE.open hP Zo
     have hpk:p.getD k 0=p[k]:=by simp[hkp]
     have hc:=fun w' h1 h2=>hcan p[k] m[k] w' h1 h2 (hplt k hkp)
     rw[hpk,hmk,decide_eq_false Zo,Bool.false_or] at hgk
     repeat' (first|refine zgL ?_|refine Zga ?_|(refine Zgb ?_;intro g)|(refine Zg ?_ ?_<;>(intro h;try exact Zx))|((with_reducible (first|apply zaa|apply TD_e3z|apply zan|apply zaf|apply zae));((with_reducible apply zad (f:=163));exact rfl;(intro w hw;exact hc w (hL.carry (hw.below0 rfl)) (hw.rd rfl hA));exact rfl);exact Zh;(rintro _ _ ⟨rfl,rfl⟩);(try refine⟨SUB,?_⟩))|fail)
     all_goals first|(((with_reducible apply zau Tryz.results122);exact Zr;intro w' hw);exact⟨by rw[hchk,za5 hkm hno (by rw[hgk];simp[*])];dsimp only;(try rw[hmk]);rfl,hw.below0 rfl⟩)|exact zab (k+1) ⟨hkm,fun j hj=>(Nat.lt_succ_iff_lt_or_eq.1 hj).elim (fun e=>hno j e) (fun e=>by subst e;rw[hgk];simp[*])⟩ Zo Ze (by exact zaK)
    ·rw[decide_eq_true Zo] at hgk
     repeat' (first|refine zgL ?_|refine Zga ?_|(refine Zgb ?_;intro g)|(refine Zg ?_ ?_<;>(intro h;try exact Zx))|fail)
     all_goals first|(((with_reducible apply zau Tryz.results122);exact Zr;intro w' hw);exact⟨by rw[hchk,za5 hkm hno (by rw[hgk];simp[*])];dsimp only;(try rw[hmk]);rfl,hw.below0 rfl⟩)|exact zab (k+1) ⟨hkm,fun j hj=>(Nat.lt_succ_iff_lt_or_eq.1 hj).elim (fun e=>hno j e) (fun e=>by subst e;rw[hgk];simp[*])⟩ Zo Ze (by exact zaK)
   ·obtain rfl:k=m.length:=by omega
    rw[zaP hno] at hchk
    dsimp only at hchk
    repeat' (first|refine zgL ?_|refine Zga ?_|(refine Zgb ?_;intro g)|(refine Zg ?_ ?_<;>(intro h;try exact Zx))|fail)
    ((with_reducible apply zau Tryz.results122);exact Zr;intro w' hw)
    exact⟨by rw[hchk];rfl,hw.below0 rfl⟩
end
end
end Go.Proofs.YtjdckepbihcgfaaGreatDoor
