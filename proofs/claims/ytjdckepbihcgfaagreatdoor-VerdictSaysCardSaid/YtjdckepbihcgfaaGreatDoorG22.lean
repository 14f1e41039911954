/- Lemmas for the walks (Zn1, Zn2, Th4L, Zn6, Srt, SrtZcl, ZnS). No condition. -/
import Derived.Test.YtjdckepbihcgfaaGreatDoorG07
import Derived.Shelf.SlSortCmp.NoneTotal
set_option linter.unusedSimpArgs false
set_option linter.unusedVariables false
set_option linter.unusedSectionVars false
set_option linter.unnecessarySimpa false
set_option maxRecDepth 100000
set_option maxHeartbeats 8000000
namespace Go.Proofs.YtjdckepbihcgfaaGreatDoor
section
open Go.RowKit
structure Zon where
 value:Int
 first:Int
 last:Int
 fwd:Bool
 deriving DecidableEq,Inhabited
def Zon.enc(z:Zon):List Value:=[.int .i64 z.value,.int .i64 z.first,.int .i64 z.last,.bool z.fwd]
structure Clu where
 value:Int
 write:Int
 frm:Int
 rd:Hd
 zv:Int
 zf:Int
 zl:Int
 zw:Bool
 counts:Bool
def Clu.enc(k:Clu):List Value:=[.int .i64 k.value,.int .i64 k.write,.int .i64 k.frm,.slice k.rd.a k.rd.n k.rd.c,.int .i64 k.zv,.int .i64 k.zf,.int .i64 k.zl,.bool k.zw,.bool k.counts]
instance : Inhabited Clu:=⟨⟨0,0,0,⟨none,0,0⟩,0,0,0,false,false⟩⟩
def isWr(cs:List Cl)(v:Int)(i:Nat):Bool:=decide ((clK cs i).kind=1)&&decide ((clK cs i).arg=v)
def isRd(cs:List Cl)(v:Int)(i:Nat):Bool:=decide ((clK cs i).kind=2)&&(decide ((clK cs i).to≠-1)&&decide ((clK cs i).res=v))
def zct(cs:List Cl)(v:Int):Int:=ixN cs.length (isWr cs v)
def zdi(cs:List Cl)(i:Nat):Bool:=decide ((clK cs i).kind=1)&&(List.range i).any fun j=>decide ((clK cs j).kind=1)&&decide ((clK cs j).arg=(clK cs i).arg)
def zaY(l:List Ev):List Cl×Int :=
 if(zai [1] l).2.2≠0 then([],(zai [1] l).2.2) else if(List.range (zai [1] l).1.length).any (zdi (zai [1] l).1)=true then([],6) else((zai [1] l).1,0)
structure RgAll (cs:List Cl):Prop where
 few:cs.length≤200
 kind:∀k,k<cs.length→(clK cs k).kind=1∨(clK cs k).kind=2
 wr:∀k,k<cs.length→(clK cs k).kind=1→1≤(clK cs k).arg∧(clK cs k).arg≤1000
 rd:∀k,k<cs.length→(clK cs k).kind=2→(clK cs k).to≠-1→0≤(clK cs k).res∧(clK cs k).res≤1000
 to:∀k,k<cs.length→(clK cs k).to=-1∨(0≤(clK cs k).to∧(clK cs k).to<200)
 frm:∀k,k<cs.length→0≤(clK cs k).from_∧(clK cs k).from_<200
 ne:∀p q,p<cs.length→q<cs.length→(clK cs p).to≠(clK cs q).from_
structure RgOk (cs:List Cl):Prop extends RgAll cs where
 one:∀i j,j<i→i<cs.length→(clK cs i).kind=1→(clK cs j).kind=1→(clK cs j).arg≠(clK cs i).arg
theorem rgAll_of{l:List Ev}(h:(zai [1] l).2.2=0):RgAll (zai [1] l).1:=by
 obtain⟨_,h2,h3,h4⟩:=zhc h
 have hkind:∀k (hk:k<(zai [1] l).1.length),(zai [1] l).1[k].kind=1∨(zai [1] l).1[k].kind=2:=fun k hk=>by
  have h5:=(h2.each k hk).thing
  have h6:=(h2.each k hk).kind
  have e:(zai [1] l).1[k].thing.toNat=0:=by simp at h5;omega
  rw[e] at h6
  simpa[zaZ] using h6
 refine⟨zbi _ _,fun k hk=>?_,fun k hk h3'=>?_,fun k hk h4' ht=>?_,fun k hk=>?_,fun k hk=>?_,fun p q hp hq=>?_⟩
 ·rw[zay hk];exact hkind k hk
 ·rw[zay hk] at h3' ⊢
  have ha:=(h2.each k hk).arg
  rw[h3'] at ha
  simpa[zdO] using ha
 ·rw[zay hk] at h4' ht ⊢
  have hb:=h4.ans k hk ht
  rw[h4'] at hb
  simpa[ansB] using hb
 ·rw[zay hk]
  have:=h4.lt k hk
  rcases h3.to k hk with h|h
  ·exact .inl h
  ·right;omega
 ·rw[zay hk]
  have:=h4.lt k hk
  have:=(h2.each k hk).place
  omega
 ·rw[zay hp,zay hq];exact h4.ne p q hp hq
theorem againB_no{cs:List Cl}{i:Nat}(h:zdi cs i=false):(clK cs i).kind=1→∀j,j<i→(clK cs j).kind=1→(clK cs j).arg≠(clK cs i).arg:=by
 intro e1 j hj e2 e3
 unfold zdi at h
 rw[decide_eq_true e1,Bool.true_and,List.any_eq_false] at h
 have:=h j (List.mem_range.2 hj)
 simp[e2,e3] at this
theorem rgOk_of{cs:List Cl}(h:RgAll cs)(hno:∀i,i<cs.length→zdi cs i=false):RgOk cs :=
 ⟨h,fun i j hj hi e1 e2=>againB_no (hno i hi) e1 j hj e2⟩
theorem zhm{l:List Ev}(h:(zai [1] l).2.2≠0):zaY l=([],(zai [1] l).2.2):=by unfold zaY;rw[if_pos h]
theorem zhn{l:List Ev}(h:(zai [1] l).2.2=0){i:Nat}(hi:i<(zai [1] l).1.length)(hb:zdi (zai [1] l).1 i=true):zaY l=([],6):=by
 unfold zaY;rw[if_neg (by simp[h]),if_pos (List.any_eq_true.2 ⟨i,List.mem_range.2 hi,hb⟩)]
theorem zjE{l:List Ev}(h:(zai [1] l).2.2=0)(hno:∀i,i<(zai [1] l).1.length→zdi (zai [1] l).1 i=false):zaY l=((zai [1] l).1,0):=by
 unfold zaY
 rw[if_neg (by simp[h]),if_neg]
 rw[Bool.not_eq_true,List.any_eq_false]
 intro i hi
 rw[hno i (List.mem_range.1 hi)];decide
def seenM(cs:List Cl):Nat→List (Int×Bool)
 |0=>[]
 |k+1=>if(clK cs k).kind=1 then zgP (seenM cs k) (clK cs k).arg true else seenM cs k
theorem seenM_look(cs:List Cl)(n:Int):∀k,(zcs (seenM cs k) n).getD false=(List.range k).any fun j=>decide ((clK cs j).kind=1)&&decide ((clK cs j).arg=n)
 |0=>rfl
 |k+1=>by
  have ih:=seenM_look cs n k
  rw[seenM,List.range_succ,List.any_append,←ih]
  split
  ·rename_i e
   rw[zeO]
   by_cases h:n=(clK cs k).arg
   ·simp[h,e]
   ·rw[if_neg h]
    have:¬(clK cs k).arg=n:=fun q=>h q.symm
    simp[this]
  ·rename_i e;simp[e]
/-! clusters -/
structure Cz where
 zf:Int
 zl:Int
 some_:Bool
 deriving DecidableEq
def zh7(cs:List Cl)(v:Int)(z:Cz)(i:Nat):Cz:=if isRd cs v i=true then⟨min z.zf (clK cs i).to,max z.zl (clK cs i).from_,true⟩ else z
def zaT(cs:List Cl)(v:Int)(z0:Cz):Nat→Cz
 |0=>z0
 |k+1=>zh7 cs v (zaT cs v z0 k) k
def begZ(cs:List Cl)(v:Int):Cz :=
 if v=0 then⟨-1,-1,false⟩ else⟨if(clK cs (zct cs v).toNat).to=-1 then 200 else(clK cs (zct cs v).toNat).to,(clK cs (zct cs v).toNat).from_,decide ((clK cs (zct cs v).toNat).to≠-1)⟩
def cluK(cs:List Cl)(v:Int)(k:Nat)(h:Hd):Clu :=
 ⟨v,zct cs v,if v=0 then -1 else(clK cs (zct cs v).toNat).from_,h,v,(zaT cs v (begZ cs v) k).zf,(zaT cs v (begZ cs v) k).zl,false,(zaT cs v (begZ cs v) k).some_⟩
def endZ(cs:List Cl)(v:Int):Cz:=zaT cs v (begZ cs v) cs.length
def cluE(cs:List Cl)(v:Int)(h:Hd):Clu:={ cluK cs v cs.length h with zw:=decide ((endZ cs v).zf<(endZ cs v).zl) }
def isV(cs:List Cl)(v:Nat):Bool:=decide (v=0)||decide (0≤zct cs (v:Nat))
@[irreducible] def keyZ (cs:List Cl):List Nat:=(List.range 1001).filter (isV cs)
def zonE(cs:List Cl)(v:Int):Zon:=⟨v,(endZ cs v).zf,(endZ cs v).zl,decide ((endZ cs v).zf<(endZ cs v).zl)⟩
def zonO(cs:List Cl)(v:Nat):Option Zon:=if(isV cs v&&(endZ cs (v:Nat)).some_)=true then some (zonE cs (v:Nat)) else none
def zh8(cs:List Cl)(n:Nat):List Zon:=(List.range n).filterMap (zonO cs)
theorem zonL_succ(cs:List Cl)(n:Nat):zh8 cs (n+1)=if(isV cs n&&(endZ cs (n:Nat)).some_)=true then zh8 cs n++[zonE cs (n:Nat)] else zh8 cs n:=by
 unfold zh8
 rw[List.range_succ,List.filterMap_append,List.filterMap_cons,List.filterMap_nil]
 by_cases h:(isV cs n&&(endZ cs (n:Nat)).some_)=true
 ·rw[if_pos h,show zonO cs n=some (zonE cs (n:Nat)) by unfold zonO;rw[if_pos h]]
 ·rw[if_neg h,show zonO cs n=none by unfold zonO;rw[if_neg h]];simp
theorem zonL_len(cs:List Cl)(n:Nat):(zh8 cs n).length≤n:=by
 unfold zh8
 exact Nat.le_trans (List.length_filterMap_le _ _) Zj
theorem zgC{cs:List Cl}{v:Nat}:v∈keyZ cs↔v<1001∧(v=0∨0≤zct cs (v:Nat)):=by
 unfold keyZ isV
 rw[List.mem_filter,List.mem_range];simp
theorem zjF(cs:List Cl):(keyZ cs).Pairwise (·<·):=by unfold keyZ;exact List.Pairwise.filter _ List.pairwise_lt_range
theorem wrBy_of{cs:List Cl}{i:Nat}(hok:RgOk cs)(hi:i<cs.length)(h1:(clK cs i).kind=1):zct cs (clK cs i).arg=(i:Int):=by
 refine zjd hi (fun j hj=>?_) (by simp[isWr,h1])
 unfold isWr
 by_cases e:(clK cs j).kind=1
 ·have:=hok.one i j hj hi h1 e
  simp[this]
 ·simp[e]
theorem wrBy_at{cs:List Cl}{v:Int}(h:0≤zct cs v):∃k:Nat,zct cs v=(k:Int)∧k<cs.length∧(clK cs k).kind=1∧(clK cs k).arg=v:=by
 rcases zcG cs.length (isWr cs v) with⟨h1,_⟩|⟨k,h1,h2,h3,_⟩
 ·unfold zct at h;omega
 ·simp only[isWr,Bool.and_eq_true,decide_eq_true_eq] at h3
  exact⟨k,h2,h1,h3.1,h3.2⟩
theorem zjG{cs:List Cl}(hok:RgAll cs):zct cs 0=-1:=by
 rcases zcG cs.length (isWr cs 0) with⟨h1,_⟩|⟨k,h1,h2,h3,_⟩
 ·exact h1
 ·simp only[isWr,Bool.and_eq_true,decide_eq_true_eq] at h3
  have:=hok.wr k h1 h3.1
  omega
def zb0(cs:List Cl)(k:Nat):List Int:=0::((List.range k).filter fun i=>decide ((clK cs i).kind=1)).map fun i=>(clK cs i).arg
theorem orderZ_succ(cs:List Cl)(k:Nat):zb0 cs (k+1)=if(clK cs k).kind=1 then zb0 cs k++[(clK cs k).arg] else zb0 cs k:=by
 unfold zb0
 rw[List.range_succ,List.filter_append,List.map_append]
 split<;>rename_i h<;>simp[h]
theorem orderZ_len(cs:List Cl)(k:Nat):(zb0 cs k).length≤k+1:=by
 unfold zb0
 rw[List.length_cons,List.length_map]
 exact Nat.succ_le_succ (Nat.le_trans (List.length_filter_le _ _) Zj)
theorem zjH{cs:List Cl}(hok:RgOk cs):(zb0 cs cs.length).Perm ((keyZ cs).map fun v:Nat=>(v:Int)):=by
 refine(List.perm_ext_iff_of_nodup ?_ ?_).2 fun r=>?_
 ·unfold zb0
  rw[List.nodup_cons]
  refine⟨fun h=>?_,?_⟩
  ·obtain⟨i,hi,h0⟩:=List.mem_map.1 h
   rw[List.mem_filter,List.mem_range] at hi
   have:=hok.wr i hi.1 (of_decide_eq_true hi.2)
   omega
  ·rw[List.Nodup,List.pairwise_map]
   have h1:((List.range cs.length).filter fun i=>decide ((clK cs i).kind=1)).Pairwise (·<·):=List.Pairwise.filter _ List.pairwise_lt_range
   refine h1.imp_of_mem fun {a b} ha hb hab he=>?_
   rw[List.mem_filter,List.mem_range] at ha hb
   exact hok.one b a hab hb.1 (of_decide_eq_true hb.2) (of_decide_eq_true ha.2) he
 ·rw[List.Nodup,List.pairwise_map]
  exact(zjF cs).imp fun {a b} hab he=>by omega
 ·unfold zb0
  rw[List.mem_cons,List.mem_map,List.mem_map]
  constructor
  ·rintro(rfl|⟨i,hi,rfl⟩)
   ·exact⟨0,zgC.2 ⟨by omega,.inl rfl⟩,rfl⟩
   ·rw[List.mem_filter,List.mem_range] at hi
    have h3:=of_decide_eq_true hi.2
    have hp:=wrBy_of hok hi.1 h3
    have hr:=hok.wr i hi.1 h3
    obtain⟨v,hv⟩:∃v:Nat,(clK cs i).arg=(v:Int):=⟨(clK cs i).arg.toNat,by omega⟩
    rw[hv] at hp hr ⊢
    exact⟨v,zgC.2 ⟨by omega,.inr (by rw[hp];omega)⟩,rfl⟩
  ·rintro⟨v,hv,rfl⟩
   obtain⟨_,hv⟩:=zgC.1 hv
   rcases hv with rfl|hv
   ·exact .inl rfl
   ·obtain⟨k,h1,h2,h3,h4⟩:=wrBy_at hv
    exact .inr ⟨k,List.mem_filter.2 ⟨List.mem_range.2 h2,by simpa using h3⟩,h4⟩
theorem keyZ_len{cs:List Cl}(hok:RgOk cs):(keyZ cs).length≤cs.length+1:=by
 have h1:=(zjH hok).length_eq
 have h2:=orderZ_len cs cs.length
 rw[List.length_map] at h1
 omega
theorem clus_sorted{cs:List Cl}(hok:RgOk cs){S L:List Clu}(hL:∃H:List Hd,H.length=L.length∧L=List.zipWith (cluE cs) (zb0 cs cs.length) H∧L.length=(zb0 cs cs.length).length)(hp:S.Perm L)(hs:S.Pairwise fun a b=>a.value≤b.value):
  S.map (·.value)=(keyZ cs).map (fun v:Nat=>(v:Int))∧∀k∈S,∃h,k=cluE cs k.value h:=by
 obtain⟨H,h1,h2,h3⟩:=hL
 have hv:L.map (·.value)=zb0 cs cs.length:=by
  apply List.ext_getElem
  ·rw[List.length_map];exact h3
  intro i hi hj
  rw[List.length_map] at hi
  rw[List.getElem_map]
  subst h2
  rw[List.getElem_zipWith];rfl
 refine⟨?_,fun k hk=>?_⟩
 ·refine sort_eq (key:=id) (((hp.map _).trans (by rw[hv])).trans (zjH hok)) ?_ ?_
  ·rw[List.pairwise_map];exact hs
  ·rw[List.pairwise_map]
   exact(zjF cs).imp fun {a b} hab=>by show(a:Int)<(b:Int);omega
 ·have hk:=hp.mem_iff.1 hk
  subst h2
  obtain⟨i,hi,rfl⟩:=List.mem_iff_getElem.1 hk
  rw[List.getElem_zipWith]
  exact⟨_,rfl⟩
/-! what can't be -/
def zeD(cs:List Cl)(k:Nat):Bool:=decide ((clK cs k).kind=2)&&(decide ((clK cs k).to≠-1)&&(decide ((clK cs k).res≠0)&&decide (zct cs (clK cs k).res<0)))
def zfr(cs:List Cl)(k:Nat):Bool:=decide ((clK cs k).kind=2)&&(decide ((clK cs k).to≠-1)&&(decide (0≤zct cs (clK cs k).res)&&decide ((clK cs k).to<(clK cs (zct cs (clK cs k).res).toNat).from_)))
def zoI(Z:List Zon)(i:Nat):Zon:=Z.getD i default
def zh9(a b:Zon):Bool:=decide (a.first<b.last)&&decide (b.first<a.last)
def zcq(Z:List Zon)(i k:Nat):Bool:=decide (i<k)&&((zoI Z i).fwd&&((zoI Z k).fwd&&zh9 (zoI Z i) (zoI Z k)))
def zb2(Z:List Zon)(i k:Nat):Bool:=(zoI Z i).fwd&&(!(zoI Z k).fwd&&zh9 (zoI Z i) (zoI Z k))
def zdj(Z:List Zon):Bd :=
 match zbN Z.length (fun _=>Z.length) (zcq Z) with
 |some (i,k)=>⟨4,(zoI Z i).value,(zoI Z k).value⟩
 |none=>match zbN Z.length (fun _=>Z.length) (zb2 Z) with
  |some (i,k)=>⟨5,(zoI Z i).value,(zoI Z k).value⟩
  |none=>⟨0,0,0⟩
def zcJ(cs:List Cl)(n:Nat):Bd:=match zaF n (zfr cs) with|some k=>⟨3,k,zct cs (clK cs k).res⟩|none=>⟨0,0,0⟩
def zck(cs:List Cl):Bd:=match zaF cs.length (zeD cs) with|some k=>⟨1,k,0⟩|none=>zcJ cs cs.length
def zbP(cs:List Cl):Bd:=if(zck cs).kind≠0 then zck cs else zdj (zh8 cs 1001)
end
section
open Go.RowKit
section
variable (B0:Option Addr)(d0:Nat)(l:List Ev)(w:World)(hl:l.length≤9223372036854775807)(hA:RdEv w B0 l) 
include hl hA
theorem znCalls_any:Calls Tryz.prog 110 #[.slice B0 l.length d0] w fun e w'=>∃A c,e=.returned (.tuple #[.slice A (zaY l).1.length c,.int .i64 (zaY l).2])∧Own Cl.enc 7 36 w' w.heap.size (.slice A (zaY l).1.length c) (zaY l).1∧Below w.heap.size w w':=by
 have h1:=fun T w h1 h2=>za8 T B0 1 d0 [1] l w Zi hl h1 h2
 have hw0:=zhm (l:=l)
 have hw1:=fun h i hi hb=>zhn (l:=l) h (i:=i) hi hb
 have hw2:=zjE (l:=l)
 have hall:=rgAll_of (l:=l)
 obtain⟨cs,y,z,hcr⟩:∃cs y z,zai [1] l=(cs,y,z):=⟨_,_,_,rfl⟩
 rw[hcr] at h1 hw0 hw1 hw2 hall
 dsimp only at h1 hw0 hw1 hw2 hall
 clear hcr
 generalize zaY l=WR at *
 refine zaj (S:=[]) [] Tryz.func110 rfl Tryz.ntmps110 Zj (Mem.nil _) ?_
 by_cases hz:z=0
 case neg =>
  have hwr:=hw0 hz
  subst hwr
  repeat' (first|((with_reducible refine zdw (S':=[zac zag 1 3 (some ⟨g,0,none⟩) 1 [1]]) (fun w hw=>Mem.asOwn (enc:=zag) (M:=1) [1] (Upd.here _ _ _) rfl (fun _=>rfl) Zi hw) ?_))|refine Zga ?_|(refine Zgb ?_;intro g)|(refine Zg ?_ ?_<;>(intro h;try exact Zx))|((with_reducible (first|apply zaa|apply TD_e3z|apply zan|apply zaf|apply zae));((with_reducible apply zal (f:=12));exact rfl;(intro w hw;exact h1 (some ⟨g,0,none⟩) w (hw.ownRd Zm (fun _=>rfl)) (hw.rd rfl hA));exact rfl);exact Zh;(rintro _ _ ⟨A1,c1,rfl,rfl⟩);(try refine⟨SUB,?_⟩))|fail)
  all_goals first
   |((refine zah Tryz.results110 rfl (fun w' hw=>?_));exact⟨none,0,rfl,Own.nil _ _,hw.below0 rfl⟩)
   |(exfalso;omega)
 have hfew:=(hall hz).few
 subst hz
 repeat' (first|((with_reducible refine zdw (S':=[zac zag 1 3 (some ⟨g,0,none⟩) 1 [1]]) (fun w hw=>Mem.asOwn (enc:=zag) (M:=1) [1] (Upd.here _ _ _) rfl (fun _=>rfl) Zi hw) ?_))|refine Zga ?_|(refine Zgb ?_;intro g)|(refine Zg ?_ ?_<;>(intro h;try exact Zx))|((with_reducible (first|apply zaa|apply TD_e3z|apply zan|apply zaf|apply zae));((with_reducible apply zal (f:=12));exact rfl;(intro w hw;exact h1 (some ⟨g,0,none⟩) w (hw.ownRd Zm (fun _=>rfl)) (hw.rd rfl hA));exact rfl);exact Zh;(rintro _ _ ⟨A1,c1,rfl,rfl⟩);(try refine⟨SUB,?_⟩))|fail)
 all_goals first|(exfalso;omega)|skip
 obtain⟨gm,rfl⟩:∃x,x=g:=⟨_,rfl⟩
 refine zap (X:=Nat) (fun k=>[(23,.int .i64 (k:Nat)),(22,.int .i64 cs.length),(21,.slice A1 cs.length c1),(7,.map (some gm)),(4,.slice A1 cs.length c1)]) (fun k=>[zcv boolV gm (seenM cs k),zac Cl.enc 7 36 A1 c1 cs]) (fun k=>k≤cs.length∧∀i,i<k→zdi cs i=false) (fun k=>cs.length-k) 0 ⟨by omega,fun i hi=>by omega⟩ Ze (by exact zaK) ?_
 rintro k ⟨hk,hno⟩
 by_cases hkl:k<cs.length
 ·have hck:=zay hkl
  have hlk:=seenM_look cs (clK cs k).arg k
  have hsk:seenM cs (k+1)=if(clK cs k).kind=1 then zgP (seenM cs k) (clK cs k).arg true else seenM cs k:=rfl
  have hag:zdi cs k=(decide ((clK cs k).kind=1)&&((zcs (seenM cs k) (clK cs k).arg).getD false)):=by unfold zdi;rw[hlk]
  rw[hck] at hsk hag
  refine zb1 (enc:=Cl.enc) (ls:=cs) Zm Zo ?_
  rintro gC rfl
  clear hlk
  generalize seenM cs k=D at *
  by_cases h1k:cs[k].kind=1
  ·rw[if_pos h1k] at hsk
   rw[decide_eq_true h1k,Bool.true_and] at hag
   by_cases hb:(zcs D cs[k].arg).getD false=true
   ·have hwr:=hw1 rfl k hkl (by rw[hag];exact hb)
    subst hwr
    repeat' (first|refine Zga ?_|(refine Zgb ?_;intro g)|(refine Zg ?_ ?_<;>(intro h;try exact Zx))|fail)
    all_goals first
     |((refine zah Tryz.results110 rfl (fun w' hw=>?_));exact⟨none,0,rfl,Own.nil _ _,hw.below0 rfl⟩)
     |(exfalso;simp_all;done)
   ·have hb:(zcs D cs[k].arg).getD false=false:=by simpa using hb
    repeat' (first|refine Zga ?_|(refine Zgb ?_;intro g)|(refine Zg ?_ ?_<;>(intro h;try exact Zx))|fail)
    all_goals first
     |(apply zab (k+1);(case hE=>exact Ze);(case hS=>(try dsimp only);rw[hsk];exact fun w' hw=>hw.sel Zl);(case hμ=>(try dsimp only);omega);(case hp=>exact⟨hkl,fun i hi=>(Nat.lt_succ_iff_lt_or_eq.1 hi).elim (fun e=>hno i e) (fun e=>by subst e;rw[hag];exact hb)⟩))
     |(exfalso;simp_all;done)
  ·rw[if_neg h1k] at hsk
   rw[decide_eq_false h1k,Bool.false_and] at hag
   repeat' (first|refine Zga ?_|(refine Zgb ?_;intro g)|(refine Zg ?_ ?_<;>(intro h;try exact Zx))|fail)
   all_goals
    apply zab (k+1)
    case hE=>exact Ze
    case hS=>(try dsimp only);rw[hsk];exact fun w' hw=>hw.sel Zl
    case hμ=>(try dsimp only);omega
    case hp=>exact⟨hkl,fun i hi=>(Nat.lt_succ_iff_lt_or_eq.1 hi).elim (fun e=>hno i e) (fun e=>by subst e;exact hag)⟩
 ·obtain rfl:k=cs.length:=by omega
  have hwr:=hw2 rfl fun i hi=>hno i hi
  subst hwr
  repeat' (first|refine Zga ?_|(refine Zgb ?_;intro g)|(refine Zg ?_ ?_<;>(intro h;try exact Zx))|fail)
  (refine zah Tryz.results110 rfl (fun w' hw=>?_))
  exact⟨A1,c1,rfl,hw.ownOut rfl Zm,hw.below0 rfl⟩
end
end
section
open Go.RowKit
instance : Inhabited Hd:=⟨⟨none,0,0⟩⟩
section
variable {P:Program}{C:Ctx}{S:List Ent}{α:Type}{enc:α→List Value}{M e g c j off s:Nat}{ls:List α}{x:α}{v:Value} 
theorem Lds.setAt[OneCell P s](hm:zac enc M e (some ⟨g,0,none⟩) c (ls.set j x)∈S)(hM:∀x,(enc x).length=M)(hj:j<ls.length)(hv:(enc x)[off]?=some v):Lds P C S s ⟨g,j * M+off,none⟩ v :=
 Lds.own hm hM (by simpa using hj) (by rw[List.getElem_set_self];exact hv)
end
end
section
open Go.RowKit
theorem Clu.enc_mk(v w f:Int)(ha:Option Addr)(hn hc:Nat)(a b c:Int)(x y:Bool):Clu.enc ⟨v,w,f,⟨ha,hn,hc⟩,a,b,c,x,y⟩=[.int .i64 v,.int .i64 w,.int .i64 f,.slice ha hn hc,.int .i64 a,.int .i64 b,.int .i64 c,.bool x,.bool y]:=rfl
section
variable {P:Program}{C:Ctx}{E:zaE}{S S':List Ent}{g s t ty:Nat}{x y:Operand}{ps:String}{af:Array Edge}{g0:Option (Nat×Bool)} 
theorem ES_storeMid4[hs:AggOf P s 4]{o:Nat}{cs cs':Array Value}{u0 u1 u2 u3:Value}(hx:evo E x=some (.pointer (some ⟨g,o,none⟩)))(hy:evo E y=some (.agg #[u0,u1,u2,u3]))(hc:cs'=(((cs.set! o u0).set! (o+1) u1).set! (o+2) u2).set! (o+3) u3) 
  (ho:(decide (o+4≤cs.size)&&[u0,u1,u2,u3].all (·.oneCell'))=true) (hu:Upd S (zak g t cs) (zak g t cs') S') :
  ES P C E S ⟨none,.store s x y,ty,ps,af,g0⟩ (fun E' T=>E'=E∧T=S'):=by
 rw[Bool.and_eq_true,decide_eq_true_eq] at ho
 obtain⟨ho,h1⟩:=ho
 refine(zg0 (fun T=>T=S') (fun a w ha hw=>?_)).weak (by rintro _ _ ⟨rfl,rfl⟩;exact⟨rfl,rfl⟩)
 have hb:Blk w g t cs:=(hw.holds _ hu.mem).1
 have hst:=run_storeCells_at P g o t [u0,u1,u2,u3] 0 cs w hb (by simpa using ho) (fun u hu=>List.all_eq_true.1 h1 u hu)
 have hce:(cs.toList.take (o+0)++[u0,u1,u2,u3]++cs.toList.drop (o+0+[u0,u1,u2,u3].length)).toArray=cs':=by
  subst hc
  apply Array.ext'
  apply List.ext_getElem?
  intro i
  simp only[Array.set!_eq_setIfInBounds,Array.toList_setIfInBounds,Nat.add_zero,List.length_cons,List.length_nil,List.getElem?_set,List.length_set,Array.length_toList]
  have l1:(cs.toList.take o).length=o:=by rw[List.length_take,Array.length_toList];omega
  rw[List.append_assoc,List.getElem?_append,l1]
  by_cases h1:i<o
  ·rw[if_pos h1,List.getElem?_take,if_pos h1,if_neg Zo,if_neg Zo,if_neg Zo,if_neg Zo]
  ·rw[if_neg h1,List.getElem?_append]
   by_cases h2:i-o<4
   ·rw[if_pos (by simpa using h2)]
    obtain⟨d,hd⟩:∃d,i=o+d:=⟨i-o,by omega⟩
    subst hd
    have hd4:d<4:=by omega
    rw[show o+d-o=d by omega]
    rcases d with _|_|_|_|d
    ·rw[if_neg Zo,if_neg Zo,if_neg Zo,if_pos Zo,if_pos Zo];rfl
    ·rw[if_neg Zo,if_neg Zo,if_pos Zo,if_pos Zo];rfl
    ·rw[if_neg Zo,if_pos Zo,if_pos Zo];rfl
    ·rw[if_pos Zo,if_pos Zo];rfl
    ·omega
   ·rw[if_neg (by simpa using h2),List.getElem?_drop,if_neg Zo,if_neg Zo,if_neg Zo,if_neg Zo]
    simp only[List.length_cons,List.length_nil]
    rw[show o+(0+1+1+1+1)+(i-o-(0+1+1+1+1))=i by omega]
 rw[hce] at hst
 have hcs:cs'.size=cs.size:=by rw[hc];simp
 refine⟨w.setRow g cs',S',?_,?_,rfl⟩
 ·have hsz:(Value.agg #[u0,u1,u2,u3]).cells.size=4:=rfl
  simp only[execOp,ha.evo hx,ha.evo hy,Instr.storeAt,Instr.sureAddr,storeVar,Sem.run_bind,Sem.run_pure,Result.andThen_ok,hs.size w,hsz]
  simp[Value.cells,hst]
 ·exact hw.upd hu (Keeps.setRow w g cs') (by simp[zak]) (fun k hk=>⟨by cases hk;simpa using hb.lt,.inl hk⟩) (hb.row cs')
theorem ES_storeZone[hs:AggOf P s 4]{a0 a1 a2 a3 b0 b1 b2 b3 a8 u0 u1 u2 u3:Value}(hx:evo E x=some (.pointer (some ⟨g,4,none⟩)))(hy:evo E y=some (.agg #[u0,u1,u2,u3]))(hu:Upd S (zak g t #[a0,a1,a2,a3,b0,b1,b2,b3,a8]) (zak g t #[a0,a1,a2,a3,u0,u1,u2,u3,a8]) S')(h1:[u0,u1,u2,u3].all (·.oneCell')=true):
  ES P C E S ⟨none,.store s x y,ty,ps,af,g0⟩ (fun E' T=>E'=E∧T=S') :=
 ES_storeMid4 hx hy rfl (by rw[h1];rfl) hu
end
def zbL(cs:List Cl)(k:Nat):List Clu:=(zb0 cs k).map fun v=>cluK cs v 0 ⟨none,0,0⟩
theorem zbL_len(cs:List Cl)(k:Nat):(zbL cs k).length=(zb0 cs k).length:=by unfold zbL;rw[List.length_map]
theorem zbL_zero{cs:List Cl}(hok:RgAll cs):zbL cs 0=[⟨0,-1,-1,⟨none,0,0⟩,0,-1,-1,false,false⟩]:=by
 show[cluK cs 0 0 ⟨none,0,0⟩]=_
 unfold cluK zaT begZ
 rw[zjG hok];rfl
theorem zbL_succ{cs:List Cl}(hok:RgOk cs){k:Nat}(hk:k<cs.length):zbL cs (k+1)=if(clK cs k).kind=1 then zbL cs k++[⟨(clK cs k).arg,(k:Int),(clK cs k).from_,⟨none,0,0⟩,(clK cs k).arg,if(clK cs k).to=-1 then 200 else(clK cs k).to,(clK cs k).from_,false,!decide ((clK cs k).to=-1)⟩] else zbL cs k:=by
 unfold zbL
 rw[orderZ_succ]
 split
 ·rename_i h1
  rw[List.map_append,List.map_cons,List.map_nil]
  have hw:=wrBy_of hok hk h1
  have ha:=hok.wr k hk h1
  unfold cluK zaT begZ
  rw[hw,Int.toNat_natCast,if_neg Zo,if_neg Zo]
  simp only[ne_eq,decide_not]
 ·rfl
end
section
open Go.RowKit Go.Shelf Go.Lib Go.Sort
theorem flatK_list{α:Type}[Inhabited α]{enc:α→List Value}{k:Nat}(hk:∀x,(enc x).length=k)(d:Array α):(flatK enc k d).toList=d.toList.flatMap enc:=by
 apply List.ext_getElem?
 intro t
 by_cases ht:t<d.size * k
 ·have k0:0<k:=by
   rcases Nat.eq_zero_or_pos k with h|h
   ·subst h;simp at ht
   ·exact h
  have hq:t / k<d.size:=(Nat.div_lt_iff_lt_mul k0).2 ht
  have hr:t % k<k:=Nat.mod_lt _ k0
  have h2:=flat_at hk d.toList (t / k) (by simpa using hq) (t % k) hr
  rw[Nat.div_add_mod'] at h2
  rw[h2]
  have h3:=get_flatK enc k d t ht
  have h4:(flatK enc k d).toList[t]?=some ((flatK enc k d)[t]!):=by
   rw[getElem!_pos _ t (by simpa using ht),Array.getElem?_toList]
   exact Array.getElem?_eq_getElem _
  rw[h4,h3]
  have e:d[t / k]! = d.toList[t / k]'(by simpa using hq):=by rw[getElem!_pos d _ hq];simp
  have hl:t % k<(enc (d.toList[t / k]'(by simpa using hq))).length:=by rw[hk];exact hr
  rw[e,getElem!_pos (enc (d.toList[t / k]'(by simpa using hq))) (t % k) hl]
  exact(List.getElem?_eq_getElem hl).symm
 ·rw[List.getElem?_eq_none (by simp;omega),List.getElem?_eq_none (by rw[zbo hk];simp;omega)]
theorem putRowK_heap{α:Type}[Inhabited α]{enc:α→List Value}{k:Nat}{w:World}{g n:Nat}{d:Array α}{os:Array Obj}{cur:Array Value}{e:TypeId}{tg:Nat×Nat}(hg:w.heap[g]?=some (.cells cur e tg)):
  (sortWorldK enc k w g 0 n d os).heap[g]?=some (.cells (putCells id 0 (flatK enc k d) cur) e tg):=by
 have hlt:g<w.heap.size:=(Array.getElem?_eq_some_iff.1 hg).1
 show((w.heap.modify g (onCells (putCells id 0 (flatK enc k d))))++os)[g]?=_
 rw[Array.getElem?_append_left (by simpa using hlt),Array.getElem?_modify,if_pos rfl,hg]
 rfl
theorem zgD{α:Type}[Inhabited α]{enc:α→List Value}{k:Nat}{w:World}{g n:Nat}{d:Array α}{os:Array Obj}:Keeps [g] w (sortWorldK enc k w g 0 n d os):=by
 refine⟨rfl,rfl,rfl,?_,fun j hj hn=>?_⟩
 ·show w.heap.size≤((w.heap.modify g _)++os).size
  simp
 ·show((w.heap.modify g _)++os)[j]?=_
  rw[Array.getElem?_append_left (by simpa using hj),Array.getElem?_modify,if_neg (fun e=>hn (by simp[e]))]
theorem take_putCells{v cur:Array Value}(h:v.size≤cur.size):(putCells id 0 v cur).toList.take v.size=v.toList:=by
 apply List.ext_getElem?
 intro t
 rw[List.getElem?_take]
 by_cases ht:t<v.size
 ·rw[if_pos ht,Array.getElem?_toList]
  unfold putCells
  rw[Array.getElem?_mapIdx,Array.getElem?_eq_getElem (by omega)]
  simp only[Option.map_some,Nat.zero_le,Nat.zero_add,true_and,Nat.sub_zero,id,ht,if_true]
  rw[getElem!_pos v t ht,Array.getElem?_toList,Array.getElem?_eq_getElem ht]
 ·rw[if_neg ht,List.getElem?_eq_none (by simp;omega)]
abbrev zjI{α:Type}(cf:α→α→Int)(ls:List α):={S:List α // S.Perm ls∧S.Pairwise fun a b=>¬cf b a<0}
section
variable {P:Program}{ρ:Ren}{α:Type}[Inhabited α](L:SlLaysF0.n6 P ρ){enc:α→List Value}{k et g:Nat}{cb:Array Value}(aE:∀w,(isAgg (ρ.t 24)).run P w=.ok true w)(zE:∀w,(Go.sizeOf (ρ.t 24)).run P w=.ok k w) 
 (hk:∀x,(enc x).length=k) (h1:∀x,∀v∈enc x,v.oneCell'=true) (cf:α→α→Int) (hO:SWO (ltOf cf)) (eg:∀args w,(callFunc g args).run P w=.ok (.enter g args) w)
 (hcmp:∀(x y:α) (W:World),Calls P g (#[.agg (enc x).toArray,.agg (enc y).toArray]++cb) W fun e w'=>e=.returned (.int .i64 (cf x y))∧∃q os',w'=grow (W.drewN q) os')
include L aE zE hk h1 hO eg hcmp
theorem sort_mem(A:Option Addr)(c:Nat)(ls:List α)(w:World)(ho:Own enc k et w 0 (.slice A ls.length c) ls)(hsz:ls.length<4611686018427387904):
  Calls P (ρ.f 6) #[.slice A ls.length c,.func (.func g) #[] cb] w fun e w'=>∃x:zjI cf ls,e=.returned (.tuple #[])∧Mem ⟨0,zbb [zac enc k et A c ls],w⟩ w' [zac enc k et A c x.1]:=by
 have hbase:Mem ⟨0,zbb [zac enc k et A c ls],w⟩ w [zac enc k et A c ls]:=by
  refine⟨Keeps.refl _ _,fun e he=>?_,by simp⟩
  rw[List.mem_singleton] at he
  subst he
  exact⟨ho,fun g hg=>⟨(World.ownsRow.lt ho g hg).2,.inl (by simp[zbb,(zac enc k et A c ls).hfin,hg])⟩⟩
 rcases Nat.eq_zero_or_pos ls.length with h0|hpos
 ·obtain rfl:ls=[]:=List.length_eq_zero_iff.1 h0
  refine(AnyF.slices_SortFunc_none { L with } A c (.func (.func g) #[] cb) w).mono ?_
  rintro e w' ⟨rfl,rfl⟩
  exact⟨⟨[],List.Perm.refl _,.nil⟩,rfl,hbase⟩
 rcases ho.2 with⟨hv,h0⟩|⟨gg,cap,cur,hv,hbb,hg,hnc,hcm,hcs,htake⟩
 ·omega
 simp only[Value.slice.injEq] at hv
 obtain⟨rfl,-,rfl⟩:=hv
 have hlt:gg<w.heap.size:=(Array.getElem?_eq_some_iff.1 hg).1
 have hfl:=zbo hk ls
 have hle:ls.length * k≤cur.size:=by rw[hcs];exact Nat.mul_le_mul_right k hnc
 have hH:HoldsK enc k w gg 0 ls.toArray:=by
  intro j hj
  rw[size_flatK] at hj
  simp only[List.size_toArray] at hj
  have hf:(flatK enc k ls.toArray).toList=ls.flatMap enc:=flatK_list hk _
  have hjt:cur[j]?=some ((flatK enc k ls.toArray)[j]!):=by
   have e1:(ls.flatMap enc)[j]?=cur[j]?:=by
    rw[←htake,List.getElem?_take,if_pos hj,Array.getElem?_toList]
   rw[←e1,←hf,Array.getElem?_toList,getElem!_pos _ j (by simpa using hj)]
   exact Array.getElem?_eq_getElem _
  refine⟨?_,?_⟩
  ·simp only[World.cell?,hg,Nat.zero_add,id]
   exact hjt
  ·simp[World.frozen?,hg]
 have hcl:CmpLays P g cb enc k cf gg 0 ls.toArray.size w:=fun m os dk _ x y=>hcmp x y _
 refine(AnyQ.slices_SortFunc L k aE zE enc hk h1 cf hO g cb gg 0 c ls.toArray w eg hcl hH hlt (by simpa using hsz)).mono ?_
 rintro e w' ⟨rfl,d',n,os,hperm,hsort,rfl⟩
 obtain⟨p1,p2,p3⟩:=hperm
 simp only[List.size_toArray] at p1 p3 hsort
 have hd:(d'.extract 0 ls.length).toList=d'.toList:=by rw[←p1];simp
 have hl:(ls.toArray.extract 0 ls.length).toList=ls:=by simp
 rw[hd,hl] at p3
 have hdl:d'.toList.length=ls.length:=by simpa using p1
 refine⟨⟨d'.toList,p3,?_⟩,rfl,?_⟩
 ·rw[List.pairwise_iff_getElem]
  intro i j hi hj hij
  have:=hsort i j (by omega) hij (by omega)
  rw[getElem!_pos d' j (by simpa using hj),getElem!_pos d' i (by simpa using hi)] at this
  simpa[ltOf] using this
 ·refine hbase.upd (Upd.here _ _ _) zgD (fun q hq=>?_) (fun q hq=>?_) ?_
  ·rw[List.mem_singleton] at hq
   subst hq
   simp[zac,Value.ownBlock]
  ·have hq':some gg=some q:=hq
   cases hq'
   exact⟨Nat.lt_of_lt_of_le hlt (zgD (enc:=enc)).size,.inl rfl⟩
  ·show Own enc k et _ 0 (.slice (some ⟨gg,0,none⟩) d'.toList.length c) d'.toList
   refine⟨zbo hk _,.inr ⟨gg,c,_,by rw[hdl],Nat.zero_le _,putRowK_heap hg,by rw[hdl];exact hnc,hcm,by simp[putCells,hcs],?_⟩⟩
   rw[←flatK_list hk,←take_putCells (v:=flatK enc k d') (cur:=cur) (by rw[size_flatK,p1];exact hle),size_flatK,p1,hdl]
end
theorem flat_map{α β:Type}(f:β→α)(enc:α→List Value):∀l:List β,(l.flatMap fun x=>enc (f x))=(l.map f).flatMap enc
 |[]=>rfl
 |x::l=>by rw[List.flatMap_cons,List.map_cons,List.flatMap_cons,flat_map f enc l]
theorem own_map{α β:Type}{f:β→α}{enc:α→List Value}{k et c B:Nat}{A:Option Addr}{w:World}{l:List β}{n:Nat}:Own (fun x=>enc (f x)) k et w B (.slice A n c) l↔Own enc k et w B (.slice A n c) (l.map f):=by
 unfold Own
 rw[flat_map,List.length_map]
section
variable {P:Program}{ρ:Ren}{α:Type}(L:SlLaysF0.n6 P ρ){enc:α→List Value}{k et g:Nat}{cb:Array Value}(aE:∀w,(isAgg (ρ.t 24)).run P w=.ok true w)(zE:∀w,(Go.sizeOf (ρ.t 24)).run P w=.ok k w) 
 (hk:∀x,(enc x).length=k) (h1:∀x,∀v∈enc x,v.oneCell'=true) (cf:α→α→Int) {p:α→Prop} [Inhabited {x // p x}] (hO:SWO (ltOf fun x y:{x // p x}=>cf x.1 y.1)) (eg:∀args w,(callFunc g args).run P w=.ok (.enter g args) w)
 (hcmp:∀(x y:α) (W:World),p x→p y→Calls P g (#[.agg (enc x).toArray,.agg (enc y).toArray]++cb) W fun e w'=>e=.returned (.int .i64 (cf x y))∧∃q os',w'=grow (W.drewN q) os')
include L aE zE hk h1 hO eg hcmp
theorem sort_memP(A:Option Addr)(c:Nat)(ls:List α)(w:World)(hp:∀x∈ls,p x)(ho:Own enc k et w 0 (.slice A ls.length c) ls)(hsz:ls.length<4611686018427387904):
  Calls P (ρ.f 6) #[.slice A ls.length c,.func (.func g) #[] cb] w fun e w'=>∃x:zjI cf ls,e=.returned (.tuple #[])∧Mem ⟨0,zbb [zac enc k et A c ls],w⟩ w' [zac enc k et A c x.1]:=by
 obtain⟨l2,hl2⟩:∃l2:List {x // p x},l2.map Subtype.val=ls:=⟨ls.pmap Subtype.mk hp,by rw[List.map_pmap];simp⟩
 subst hl2
 rw[List.length_map] at ho hsz ⊢
 refine(sort_mem L (enc:=fun x:{x // p x}=>enc x.1) (et:=et) aE zE (fun x=>hk x.1) (fun x=>h1 x.1) (fun x y=>cf x.1 y.1) hO eg (fun x y W=>hcmp x.1 y.1 W x.2 y.2) A c l2 w (own_map.2 ho) hsz).mono ?_
 rintro e w' ⟨x,rfl,hm⟩
 have hfin:∀l:List {x // p x},(zac (fun x:{x // p x}=>enc x.1) k et A c l).fin=(zac enc k et A c (l.map Subtype.val)).fin:=fun l=>by
  show(Value.slice A l.length c).ownBlock.toList=(Value.slice A (l.map Subtype.val).length c).ownBlock.toList
  rw[List.length_map]
 have hhas:∀(l:List {x // p x}) q,(zac (fun x:{x // p x}=>enc x.1) k et A c l).has q=(zac enc k et A c (l.map Subtype.val)).has q:=fun l q=>by
  show((Value.slice A l.length c).ownBlock=some q)=((Value.slice A (l.map Subtype.val).length c).ownBlock=some q)
  rw[List.length_map]
 have hF:zbb [zac (fun x:{x // p x}=>enc x.1) k et A c l2]=zbb [zac enc k et A c (l2.map Subtype.val)]:=by
  simp only[zbb,hfin]
 rw[hF] at hm
 refine⟨⟨x.1.map Subtype.val,x.2.1.map _,?_⟩,rfl,?_⟩
 ·rw[List.pairwise_map];exact x.2.2
 ·refine⟨hm.keeps,fun e he=>?_,by simp⟩
  rw[List.mem_singleton] at he
  subst he
  have h2:=hm.holds _ (List.mem_singleton.2 rfl)
  refine⟨?_,fun q hq=>h2.2 q (by rw[hhas];exact hq)⟩
  show Own enc k et w' 0 (.slice A (x.1.map Subtype.val).length c) (x.1.map Subtype.val)
  rw[List.length_map]
  exact own_map.1 h2.1
end
end
section
open Go.RowKit Go.Shelf Go.Lib
def rhoZcl:Ren:=⟨fun n=>if n=6 then 147 else if n=14 then 183 else if n=15 then 184 else if n=20 then 211 else if n=21 then 212 else if n=22 then 213 else if n=23 then 214 else if n=24 then 215 else if n=25 then 216 else if n=26 then 217 else if n=27 then 218 else if n=28 then 219 else if n=29 then 207 else if n=46 then 239 else if n=47 then 240 else if n=48 then 241 else if n=49 then 242 else if n=50 then 243 else if n=57 then 258 else n,fun n=>if n=0 then 0 else if n=3 then 3 else if n=4 then 4 else if n=5 then 5 else if n=9 then 9 else if n=22 then 168 else if n=24 then 206 else if n=25 then 209 else if n=39 then 88 else if n=45 then 286 else if n=46 then 287 else if n=50 then 138 else if n=53 then 271 else if n=55 then 255 else if n=66 then 321 else if n=70 then 325 else if n=76 then 342 else if n=77 then 343 else n,fun n=>n⟩
theorem srtZcl:SlLaysF0.n6 Tryz.prog rhoZcl where
 mixed:=by kernel_rfl
 f6 := ⟨ "slices.SortFunc[[]alibi/zones.cluster,alibi/zones.cluster]", rfl, by kernel_rfl⟩
 f14 := ⟨ "slices.pdqsortCmpFunc[alibi/zones.cluster]", rfl, by kernel_rfl⟩
 f15:=by kernel_rfl
 f20 := ⟨ "slices.insertionSortCmpFunc[alibi/zones.cluster]", rfl, by kernel_rfl⟩
 f21 := ⟨ "slices.heapSortCmpFunc[alibi/zones.cluster]", rfl, by kernel_rfl⟩
 f22 := ⟨ "slices.breakPatternsCmpFunc[alibi/zones.cluster]", rfl, by kernel_rfl⟩
 f23 := ⟨ "slices.choosePivotCmpFunc[alibi/zones.cluster]", rfl, by kernel_rfl⟩
 f24 := ⟨ "slices.reverseRangeCmpFunc[alibi/zones.cluster]", rfl, by kernel_rfl⟩
 f25 := ⟨ "slices.partialInsertionSortCmpFunc[alibi/zones.cluster]", rfl, by kernel_rfl⟩
 f26 := ⟨ "slices.partitionEqualCmpFunc[alibi/zones.cluster]", rfl, by kernel_rfl⟩
 f27 := ⟨ "slices.partitionCmpFunc[alibi/zones.cluster]", rfl, by kernel_rfl⟩
 f28:=by kernel_rfl
 f29:=by kernel_rfl
 f46 := ⟨ "slices.siftDownCmpFunc[alibi/zones.cluster]", rfl, by kernel_rfl⟩
 f47:=by kernel_rfl
 f48:=by kernel_rfl
 f49 := ⟨ "slices.medianAdjacentCmpFunc[alibi/zones.cluster]", rfl, by kernel_rfl⟩
 f50 := ⟨ "slices.medianCmpFunc[alibi/zones.cluster]", rfl, by kernel_rfl⟩
 f57 := ⟨ "slices.order2CmpFunc[alibi/zones.cluster]", rfl, by kernel_rfl⟩
 t0:=Tryz.underlying0
 a0:=Tryz.isAgg0
 z0:=Tryz.sizeOf0
 v0:=Tryz.zeroValue0
 t3:=Tryz.underlying3
 a3:=Tryz.isAgg3
 z3:=Tryz.sizeOf3
 v3:=Tryz.zeroValue3
 t4:=Tryz.underlying4
 a4:=Tryz.isAgg4
 z4:=Tryz.sizeOf4
 v4:=Tryz.zeroValue4
 t5:=Tryz.underlying5
 a5:=Tryz.isAgg5
 z5:=Tryz.sizeOf5
 v5:=Tryz.zeroValue5
 t9:=Tryz.underlying9
 a9:=Tryz.isAgg9
 z9:=Tryz.sizeOf9
 v9:=Tryz.zeroValue9
 t22:=Tryz.underlying168
 a22:=Tryz.isAgg168
 z22:=Tryz.sizeOf168
 v22:=Tryz.zeroValue168
 t25:=Tryz.underlying209
 a25:=Tryz.isAgg209
 z25:=Tryz.sizeOf209
 v25:=Tryz.zeroValue209
 t39:=Tryz.underlying88
 a39:=Tryz.isAgg88
 z39:=Tryz.sizeOf88
 v39:=Tryz.zeroValue88
 t45:=Tryz.underlying286
 a45:=Tryz.isAgg286
 z45:=Tryz.sizeOf286
 v45:=Tryz.zeroValue286
 t46:=Tryz.underlying287
 a46:=Tryz.isAgg287
 z46:=Tryz.sizeOf287
 v46:=Tryz.zeroValue287
 t50:=Tryz.underlying138
 a50:=Tryz.isAgg138
 z50:=Tryz.sizeOf138
 v50:=Tryz.zeroValue138
 t53:=Tryz.underlying271
 a53:=Tryz.isAgg271
 z53:=Tryz.sizeOf271
 v53:=Tryz.zeroValue271
 t55:=Tryz.underlying255
 a55:=Tryz.isAgg255
 z55:=Tryz.sizeOf255
 v55:=Tryz.zeroValue255
 t66:=Tryz.underlying321
 a66:=Tryz.isAgg321
 z66:=Tryz.sizeOf321
 v66:=Tryz.zeroValue321
 t70:=Tryz.underlying325
 a70:=Tryz.isAgg325
 z70:=Tryz.sizeOf325
 v70:=Tryz.zeroValue325
 t76:=Tryz.underlying342
 a76:=Tryz.isAgg342
 z76:=Tryz.sizeOf342
 v76:=Tryz.zeroValue342
 t77:=Tryz.underlying343
 a77:=Tryz.isAgg343
 z77:=Tryz.sizeOf343
 v77:=Tryz.zeroValue343
end
section
open Go.RowKit Go.Shelf Go.Lib Go.Sort
theorem znNaN_any(x:Int)(w:World):Calls Tryz.prog 173 #[.int .i64 x] w fun e w'=>e=.returned (.bool false)∧w'=w:=by
 go_enter Tryz.func173,Tryz.ntmps173
 go_wp2_with (fail)
 go_ret
 exact⟨by simp,rfl⟩
theorem znCmp_any(x y:Int)(w:World):Calls Tryz.prog 140 #[.int .i64 x,.int .i64 y] w fun e w'=>e=.returned (.int .i64 (Lib.compareInt x y))∧w'=w:=by
 go_enter Tryz.func140,Tryz.ntmps140
 go_wp2_with (go_at_call 173;refine(znNaN_any _ _).mono ?_;rintro e w' ⟨rfl,hw⟩;rw[hw])
 all_goals(go_ret;refine⟨?_,rfl⟩;unfold Lib.compareInt;(repeat' split)<;>first|rfl|(exfalso;omega))
theorem cluCmp_any(x y:Clu)(W:World):Calls Tryz.prog 148 #[.agg (Clu.enc x).toArray,.agg (Clu.enc y).toArray] W fun e w'=>e=.returned (.int .i64 (Lib.compareInt x.value y.value))∧∃q os',w'=grow (W.drewN q) os':=by
 obtain⟨x0,x1,x2,x3,x4,x5,x6,x7,x8⟩:=x
 obtain⟨y0,y1,y2,y3,y4,y5,y6,y7,y8⟩:=y
 dsimp only
 rw[show(Clu.enc ⟨x0,x1,x2,x3,x4,x5,x6,x7,x8⟩).toArray=#[.int .i64 x0,.int .i64 x1,.int .i64 x2,.slice x3.a x3.n x3.c,.int .i64 x4,.int .i64 x5,.int .i64 x6,.bool x7,.bool x8] from rfl,show(Clu.enc ⟨y0,y1,y2,y3,y4,y5,y6,y7,y8⟩).toArray=#[.int .i64 y0,.int .i64 y1,.int .i64 y2,.slice y3.a y3.n y3.c,.int .i64 y4,.int .i64 y5,.int .i64 y6,.bool y7,.bool y8] from rfl]
 go_enter Tryz.func148,Tryz.ntmps148
 go_wp2_with (go_at_call 140;refine(znCmp_any _ _ _).mono ?_;rintro e w' ⟨rfl,hw⟩;rw[hw])
 go_ret
 exact⟨rfl,0,_,by rw[alloc_eq_grow,alloc_eq_grow,grow_grow];rfl⟩
theorem cluLt(x y:Clu):ltOf (fun x y:Clu=>Lib.compareInt x.value y.value) x y=decide (x.value<y.value):=by
 unfold ltOf Lib.compareInt
 by_cases h1:x.value<y.value
 ·simp[h1]
 ·by_cases h2:y.value<x.value<;>simp[h1,h2]
theorem clu_swo:SWO (ltOf fun x y:Clu=>Lib.compareInt x.value y.value) where
 irrefl x:=by rw[cluLt];simp
 trans x y z h1 h2:=by rw[cluLt] at *;simp at *;omega
 ntrans x y z h1 h2:=by rw[cluLt] at *;simp at *;omega
abbrev CluTo(ls:List Clu):=zjI (fun x y:Clu=>Lib.compareInt x.value y.value) ls
theorem cluTo_le{ls:List Clu}(x:CluTo ls):x.1.Pairwise fun a b=>a.value≤b.value :=
 x.2.2.imp fun {a b} h=>by
  have h2:=cluLt b a
  unfold ltOf at h2
  rw[decide_eq_false h] at h2
  have:=of_decide_eq_false h2.symm
  omega
theorem clu_sort(A:Option Addr)(c:Nat)(ls:List Clu)(w:World)(ho:Own Clu.enc 9 206 w 0 (.slice A ls.length c) ls)(hsz:ls.length<4611686018427387904):
  Calls Tryz.prog 147 #[.slice A ls.length c,.func (.func 148) #[] #[]] w fun e w'=>∃x:CluTo ls,e=.returned (.tuple #[])∧Mem ⟨0,zbb [zac Clu.enc 9 206 A c ls],w⟩ w' [zac Clu.enc 9 206 A c x.1]:=by
 have eg:∀args w,(callFunc 148 args).run Tryz.prog w=.ok (.enter 148 args) w:=enters_of Tryz.func148 (by kernel_rfl) rfl
 exact sort_mem srtZcl (cb:=#[]) Tryz.isAgg206 Tryz.sizeOf206 (fun _=>rfl) (fun x v hv=>by simp[Clu.enc] at hv;rcases hv with rfl|rfl|rfl|rfl|rfl|rfl|rfl|rfl|rfl<;>rfl) (fun x y:Clu=>Lib.compareInt x.value y.value) clu_swo eg (fun x y W=>by rw[show(#[Value.agg (Clu.enc x).toArray,Value.agg (Clu.enc y).toArray]++(#[]:Array Value))=#[Value.agg (Clu.enc x).toArray,Value.agg (Clu.enc y).toArray] from Array.append_empty];exact cluCmp_any x y W) A c ls w ho hsz
end
end Go.Proofs.YtjdckepbihcgfaaGreatDoor
