/- Lemmas for the walks (Rw1, Rw9, Kinds). No condition. -/
import Derived.Test.YtjdckepbihcgfaaGreatDoorG07
set_option linter.unusedSimpArgs false
set_option linter.unusedVariables false
set_option linter.unusedSectionVars false
set_option linter.unnecessarySimpa false
set_option maxRecDepth 100000
set_option maxHeartbeats 8000000
namespace Go.Proofs.YtjdckepbihcgfaaGreatDoor
section
open Go.RowKit
structure Rvl where
 n:Int
 enq:Int
 deq:Int
 deriving DecidableEq,Inhabited
def Rvl.enc(v:Rvl):List Value:=[.int .i64 v.n,.int .i64 v.enq,.int .i64 v.deq]
structure Spn where
 frm:Int
 til:Int
 deriving DecidableEq,Inhabited
def Spn.enc(s:Spn):List Value:=[.int .i64 s.frm,.int .i64 s.til]
def ze4(cs:List Cl)(v:Int)(i:Nat):Bool:=decide ((clK cs i).kind=3)&&decide ((clK cs i).arg=v)
def zdp(cs:List Cl)(v:Int)(i:Nat):Bool:=decide ((clK cs i).kind=4)&&decide ((clK cs i).res=v)
def zaM(cs:List Cl)(v:Int):Int:=ixN cs.length (ze4 cs v)
def gotK(cs:List Cl)(v:Int)(k:Nat):Int:=ixN k (zdp cs v)
def zbB(cs:List Cl)(v:Int):Int:=gotK cs v cs.length
def zia(cs:List Cl)(i:Nat):Bool :=
 (decide ((clK cs i).kind=4)&&decide ((clK cs i).to=-1))||(decide ((clK cs i).kind=3)&&(List.range i).any fun j=>decide ((clK cs j).kind=3)&&decide ((clK cs j).arg=(clK cs i).arg))
def zca(l:List Ev):List Cl×Int :=
 if(zai [2] l).2.2≠0 then([],(zai [2] l).2.2) else if(List.range (zai [2] l).1.length).any (zia (zai [2] l).1)=true then([],6) else((zai [2] l).1,0)
structure QuOk (cs:List Cl):Prop where
 few:cs.length≤200
 kind:∀k,k<cs.length→(clK cs k).kind=3∨(clK cs k).kind=4
 put:∀k,k<cs.length→(clK cs k).kind=3→1≤(clK cs k).arg∧(clK cs k).arg≤1000∧(clK cs k).res=0
 got:∀k,k<cs.length→(clK cs k).kind=4→(clK cs k).to≠-1∧((clK cs k).res=-1∨(1≤(clK cs k).res∧(clK cs k).res≤1000))
 to:∀k,k<cs.length→(clK cs k).to=-1∨(0≤(clK cs k).to∧(clK cs k).to<200)
 frm:∀k,k<cs.length→0≤(clK cs k).from_∧(clK cs k).from_<200
 ne:∀p q,p<cs.length→q<cs.length→(clK cs p).to≠(clK cs q).from_
 one:∀i j,j<i→i<cs.length→(clK cs i).kind=3→(clK cs j).kind=3→(clK cs j).arg≠(clK cs i).arg
structure QuAll (cs:List Cl):Prop where
 few:cs.length≤200
 kind:∀k,k<cs.length→(clK cs k).kind=3∨(clK cs k).kind=4
 put:∀k,k<cs.length→(clK cs k).kind=3→1≤(clK cs k).arg∧(clK cs k).arg≤1000∧(clK cs k).res=0
 got:∀k,k<cs.length→(clK cs k).kind=4→(clK cs k).to≠-1→(clK cs k).res=-1∨(1≤(clK cs k).res∧(clK cs k).res≤1000)
 to:∀k,k<cs.length→(clK cs k).to=-1∨(0≤(clK cs k).to∧(clK cs k).to<200)
 frm:∀k,k<cs.length→0≤(clK cs k).from_∧(clK cs k).from_<200
 ne:∀p q,p<cs.length→q<cs.length→(clK cs p).to≠(clK cs q).from_
theorem zit{l:List Ev}(h:(zai [2] l).2.2=0):QuAll (zai [2] l).1:=by
 obtain⟨_,h2,h3,h4⟩:=zhc h
 have hkind:∀k (hk:k<(zai [2] l).1.length),(zai [2] l).1[k].kind=3∨(zai [2] l).1[k].kind=4:=fun k hk=>by
  have h5:=(h2.each k hk).thing
  have h6:=(h2.each k hk).kind
  have e:(zai [2] l).1[k].thing.toNat=0:=by simp at h5;omega
  rw[e] at h6
  simpa[zaZ] using h6
 refine⟨zbi _ _,fun k hk=>?_,fun k hk h3'=>?_,fun k hk h4' ht=>?_,fun k hk=>?_,fun k hk=>?_,fun p q hp hq=>?_⟩
 ·rw[zay hk];exact hkind k hk
 ·rw[zay hk] at h3' ⊢
  have ha:=(h2.each k hk).arg
  rw[h3'] at ha
  have ha:1≤(zai [2] l).1[k].arg∧(zai [2] l).1[k].arg≤1000:=by simpa[zdO] using ha
  refine⟨ha.1,ha.2,?_⟩
  by_cases e:(zai [2] l).1[k].to=-1
  ·exact h4.res k hk e
  ·have hb:=h4.ans k hk e
   rw[h3'] at hb
   simpa[ansB] using hb
 ·rw[zay hk] at h4' ht ⊢
  have hb:=h4.ans k hk ht
  rw[h4'] at hb
  simpa[ansB] using hb
 ·rw[zay hk]
  have:=h4.lt k hk
  rcases h3.to k hk with h|h
  ·exact .inl h
  ·right;omega
 ·rw[zay hk]
  have:=h4.lt k hk
  have:=(h2.each k hk).place
  omega
 ·rw[zay hp,zay hq];exact h4.ne p q hp hq
theorem zhq{cs:List Cl}{i:Nat}(h:zia cs i=false):((clK cs i).kind=4→(clK cs i).to≠-1)∧((clK cs i).kind=3→∀j,j<i→(clK cs j).kind=3→(clK cs j).arg≠(clK cs i).arg):=by
 unfold zia at h
 rw[Bool.or_eq_false_iff] at h
 refine⟨fun e1 e2=>?_,fun e1 j hj e2 e3=>?_⟩
 ·have:=h.1;simp[e1,e2] at this
 ·have h2:=h.2
  rw[decide_eq_true e1,Bool.true_and,List.any_eq_false] at h2
  have:=h2 j (List.mem_range.2 hj)
  simp[e2,e3] at this
theorem quOk_of{cs:List Cl}(h:QuAll cs)(hno:∀i,i<cs.length→zia cs i=false):QuOk cs :=
 ⟨h.few,h.kind,h.put,fun k hk e=>⟨(zhq (hno k hk)).1 e,h.got k hk e ((zhq (hno k hk)).1 e)⟩,h.to,h.frm,h.ne,fun i j hj hi e1 e2=>(zhq (hno i hi)).2 e1 j hj e2⟩
theorem onceR_err{l:List Ev}(h:(zai [2] l).2.2≠0):zca l=([],(zai [2] l).2.2):=by unfold zca;rw[if_pos h]
theorem onceR_bad{l:List Ev}(h:(zai [2] l).2.2=0){i:Nat}(hi:i<(zai [2] l).1.length)(hb:zia (zai [2] l).1 i=true):zca l=([],6):=by
 unfold zca;rw[if_neg (by simp[h]),if_pos (List.any_eq_true.2 ⟨i,List.mem_range.2 hi,hb⟩)]
theorem onceR_ok{l:List Ev}(h:(zai [2] l).2.2=0)(hno:∀i,i<(zai [2] l).1.length→zia (zai [2] l).1 i=false):zca l=((zai [2] l).1,0):=by
 unfold zca
 rw[if_neg (by simp[h]),if_neg]
 rw[Bool.not_eq_true,List.any_eq_false]
 intro i hi
 rw[hno i (List.mem_range.1 hi)];decide
/-! values -/
@[irreducible] def zcr (cs:List Cl):List Nat:=(List.range 1001).filter fun v:Nat=>decide (0≤zaM cs v)
def valQ(cs:List Cl)(k:Nat)(v:Nat):Rvl:=⟨(v:Int),zaM cs v,gotK cs v k⟩
def zbh(cs:List Cl)(k:Nat):List Rvl:=(zcr cs).map (valQ cs k)
def zgS(cs:List Cl)(k:Nat):List Rvl:=((List.range k).filter fun i=>decide ((clK cs i).kind=3)).map fun i:Nat=>⟨(clK cs i).arg,(i:Int),-1⟩
theorem enqL_succ(cs:List Cl)(k:Nat):zgS cs (k+1)=if(clK cs k).kind=3 then zgS cs k++[⟨(clK cs k).arg,(k:Int),-1⟩] else zgS cs k:=by
 unfold zgS
 rw[List.range_succ,List.filter_append,List.map_append]
 split<;>rename_i h<;>simp[h]
theorem enqL_len(cs:List Cl)(k:Nat):(zgS cs k).length≤k:=by
 unfold zgS
 rw[List.length_map]
 exact Nat.le_trans (List.length_filter_le _ _) Zj
theorem zdE{cs:List Cl}{v:Nat}:v∈zcr cs↔v<1001∧0≤zaM cs v:=by
 unfold zcr
 rw[List.mem_filter,List.mem_range];simp
theorem zem(cs:List Cl):(zcr cs).Pairwise (·<·):=by unfold zcr;exact List.Pairwise.filter _ List.pairwise_lt_range
theorem putBy_of{cs:List Cl}{i:Nat}(hok:QuOk cs)(hi:i<cs.length)(h3:(clK cs i).kind=3):zaM cs (clK cs i).arg=(i:Int):=by
 refine zjd hi (fun j hj=>?_) (by simp[ze4,h3])
 unfold ze4
 by_cases e:(clK cs j).kind=3
 ·have:=hok.one i j hj hi h3 e
  simp[this]
 ·simp[e]
theorem zgF{cs:List Cl}{v:Int}(h:0≤zaM cs v):∃k:Nat,zaM cs v=(k:Int)∧k<cs.length∧(clK cs k).kind=3∧(clK cs k).arg=v:=by
 rcases zcG cs.length (ze4 cs v) with⟨h1,_⟩|⟨k,h1,h2,h3,_⟩
 ·unfold zaM at h;omega
 ·simp only[ze4,Bool.and_eq_true,decide_eq_true_eq] at h3
  exact⟨k,h2,h1,h3.1,h3.2⟩
theorem gotK_at{cs:List Cl}{v:Int}{n:Nat}(h:0≤gotK cs v n):∃k:Nat,gotK cs v n=(k:Int)∧k<n∧(clK cs k).kind=4∧(clK cs k).res=v:=by
 rcases zcG n (zdp cs v) with⟨h1,_⟩|⟨k,h1,h2,h3,_⟩
 ·unfold gotK at h;omega
 ·simp only[zdp,Bool.and_eq_true,decide_eq_true_eq] at h3
  exact⟨k,h2,h1,h3.1,h3.2⟩
theorem zjM{cs:List Cl}{v:Int}(hok:QuOk cs)(h:0≤zaM cs v):∃n:Nat,v=(n:Int)∧1≤n∧n<1001:=by
 obtain⟨k,_,h2,h3,h4⟩:=zgF h
 have:=hok.put k h2 h3
 exact⟨v.toNat,by omega,by omega,by omega⟩
theorem enqL_perm{cs:List Cl}(hok:QuOk cs):(zgS cs cs.length).Perm (zbh cs 0):=by
 refine(List.perm_ext_iff_of_nodup ?_ ?_).2 fun r=>?_
 ·unfold zgS
  refine List.Pairwise.map _ (fun a b hab he=>hab ?_) (List.Pairwise.filter _ (List.nodup_range (n:=cs.length)))
  have:(a:Int)=(b:Int):=congrArg Rvl.enq he
  omega
 ·unfold zbh
  rw[List.Nodup,List.pairwise_map]
  refine(zem cs).imp fun {a b} hab he=>?_
  have:(a:Int)=(b:Int):=congrArg Rvl.n he
  omega
 ·unfold zgS zbh
  rw[List.mem_map,List.mem_map]
  constructor
  ·rintro⟨i,hi,rfl⟩
   rw[List.mem_filter,List.mem_range] at hi
   have h3:=of_decide_eq_true hi.2
   have hp:=putBy_of hok hi.1 h3
   have hr:=hok.put i hi.1 h3
   obtain⟨v,hv⟩:∃v:Nat,(clK cs i).arg=(v:Int):=⟨(clK cs i).arg.toNat,by omega⟩
   rw[hv] at hp hr
   refine⟨v,zdE.2 ⟨by omega,by omega⟩,?_⟩
   unfold valQ
   rw[hp,hv];rfl
  ·rintro⟨v,hv,rfl⟩
   obtain⟨_,hv⟩:=zdE.1 hv
   obtain⟨k,h1,h2,h3,h4⟩:=zgF hv
   refine⟨k,List.mem_filter.2 ⟨List.mem_range.2 h2,by simpa using h3⟩,?_⟩
   unfold valQ
   rw[h1,h4];rfl
theorem enqL_sorted{cs:List Cl}(hok:QuOk cs){S:List Rvl}(hp:S.Perm (zgS cs cs.length))(hs:S.Pairwise fun a b=>a.n≤b.n):S=zbh cs 0:=by
 refine sort_eq (key:=Rvl.n) (hp.trans (enqL_perm hok)) hs ?_
 unfold zbh
 rw[List.pairwise_map]
 exact(zem cs).imp fun {a b} hab=>by show(a:Int)<(b:Int);omega
theorem zfm{cs:List Cl}(hok:QuOk cs):(zcr cs).length≤cs.length:=by
 have h1:=(enqL_perm hok).length_eq
 have h2:=enqL_len cs cs.length
 rw[show(zbh cs 0).length=(zcr cs).length by simp[zbh]] at h1
 omega
theorem zbr(cs:List Cl)(k:Nat):(zbh cs k).length=(zcr cs).length:=by simp[zbh]
theorem zdF{cs:List Cl}{k q:Nat}(hq:q<(zbh cs k).length):(zbh cs k)[q]=valQ cs k ((zcr cs)[q]'(by rw[←zbr cs k];exact hq)):=by simp[zbh]
/-! which value is looked up -/
theorem valL_find{cs:List Cl}(hok:QuOk cs)(k:Nat)(n:Int):
  (zaM cs n<0∧∀r∈zbh cs k,r.n≠n)∨(0≤zaM cs n∧∃q,∃h:q<(zcr cs).length,((zcr cs)[q]:Int)=n∧(∀j (hj:j<q),((zcr cs)[j]:Int)≠n)∧∀m,m<(zcr cs).length→((zcr cs).getD m 0:Int)=n→m=q):=by
 by_cases h:zaM cs n<0
 ·left
  refine⟨h,fun r hr e=>?_⟩
  unfold zbh at hr
  obtain⟨v,hv,rfl⟩:=List.mem_map.1 hr
  have:=(zdE.1 hv).2
  have e:(v:Int)=n:=e
  rw[e] at this;omega
 ·right
  obtain⟨m,rfl,h1,h2⟩:=zjM hok (Int.not_lt.1 h)
  obtain⟨q,hq,he⟩:=List.mem_iff_getElem.1 (zdE.2 ⟨h2,Int.not_lt.1 h⟩)
  have hs:=List.pairwise_iff_getElem.1 (zem cs)
  refine⟨by omega,q,hq,by rw[he],fun j hj e=>?_,fun m hm e=>?_⟩
  ·have:=hs j q Zo hq hj
   omega
  ·have hg:(zcr cs).getD m 0=(zcr cs)[m]:=by simp[hm]
   rw[hg] at e
   rcases Nat.lt_trichotomy m q with c|c|c
   ·have:=hs m q hm hq c;omega
   ·exact c
   ·have:=hs q m hq hm c;omega
theorem valL_same{cs:List Cl}(k:Nat)(h:∀v∈zcr cs,zdp cs (v:Int) k=false∨0≤gotK cs v k):zbh cs (k+1)=zbh cs k:=by
 unfold zbh
 refine List.map_congr_left fun v hv=>?_
 unfold valQ
 congr 1
 unfold gotK
 rw[ixN_succ]
 have:=zgn k (zdp cs v)
 rcases h v hv with e|e
 ·split
  ·rfl
  ·rw[e,if_neg Zi];omega
 ·unfold gotK at e;rw[if_pos e]
theorem valL_set{cs:List Cl}{k q:Nat}(hq:q<(zcr cs).length)(h4:(clK cs k).kind=4)(hr:(clK cs k).res=((zcr cs)[q]:Nat))(hn:gotK cs ((zcr cs)[q]:Nat) k<0):zbh cs (k+1)=(zbh cs k).set q ⟨((zcr cs)[q]:Nat),zaM cs ((zcr cs)[q]:Nat),(k:Int)⟩:=by
 have hs:=List.pairwise_iff_getElem.1 (zem cs)
 apply List.ext_getElem
 ·rw[List.length_set,zbr,zbr]
 intro m h1 h2
 rw[zbr] at h1
 rw[zdF,List.getElem_set]
 split
 ·rename_i e;subst e
  unfold valQ
  congr 1
  unfold gotK at hn ⊢
  rw[ixN_succ,if_neg Zo,if_pos (by simp[zdp,h4,hr])]
 ·rename_i e
  rw[zdF]
  unfold valQ
  congr 1
  unfold gotK
  rw[ixN_succ]
  have:=zgn k (zdp cs ((zcr cs)[m]:Nat))
  split
  ·rfl
  ·rw[if_neg]
   ·omega
   ·have:(zcr cs)[q]≠(zcr cs)[m]:=fun e2=>by
     rcases Nat.lt_or_gt_of_ne e with c|c
     ·have:=hs q m hq h1 c;omega
     ·have:=hs m q h1 hq c;omega
    simp[zdp,hr];omega
/-! when a value stays -/
def zfs(cs:List Cl)(v:Int):Spn:=⟨(clK cs (zaM cs v).toNat).to,if 0≤zbB cs v then(clK cs (zbB cs v).toNat).from_-1 else 199⟩
def stayB(cs:List Cl)(v:Int):Bool:=decide (0≤zaM cs v)&&(decide ((zfs cs v).frm≠-1)&&decide ((zfs cs v).frm≤(zfs cs v).til))
def stayO(cs:List Cl)(v:Int):Option Spn:=if stayB cs v=true then some (zfs cs v) else none
def ze5(cs:List Cl)(n:Nat):List Spn:=(List.range n).filterMap fun v=>stayO cs (v:Nat)
theorem stayL_len(cs:List Cl)(n:Nat):(ze5 cs n).length≤n:=by
 unfold ze5
 exact Nat.le_trans (List.length_filterMap_le _ _) Zj
def stayR(cs:List Cl)(r:Rvl):Option Spn :=
 if(clK cs r.enq.toNat).to≠-1∧(clK cs r.enq.toNat).to≤(if 0≤r.deq then(clK cs r.deq.toNat).from_-1 else 199) then some ⟨(clK cs r.enq.toNat).to,if 0≤r.deq then(clK cs r.deq.toNat).from_-1 else 199⟩ else none
def stayC(cs:List Cl)(k:Nat):List Spn:=((zbh cs cs.length).take k).filterMap (stayR cs)
theorem stayC_succ{cs:List Cl}{k:Nat}(hk:k<(zbh cs cs.length).length):stayC cs (k+1)=stayC cs k++(stayR cs (zbh cs cs.length)[k]).toList:=by
 unfold stayC
 rw[List.take_succ_eq_append_getElem hk,List.filterMap_append]
 cases h:stayR cs (zbh cs cs.length)[k]<;>simp[h]
theorem stayC_len(cs:List Cl)(k:Nat):(stayC cs k).length≤k:=by
 unfold stayC
 refine Nat.le_trans (List.length_filterMap_le _ _) ?_
 rw[List.length_take];omega
theorem stayC_all(cs:List Cl):stayC cs (zbh cs cs.length).length=ze5 cs 1001:=by
 unfold stayC
 rw[List.take_length]
 unfold zbh zcr
 rw[filt_map]
 unfold ze5
 congr 1
 funext v
 unfold stayO stayB stayR valQ zfs
 dsimp only
 change (if decide (0≤zaM cs v)=true then if(clK cs (zaM cs v).toNat).to≠-1∧(clK cs (zaM cs v).toNat).to≤(if 0≤zbB cs v then(clK cs (zbB cs v).toNat).from_-1 else 199) then _ else _ else _)=_
 generalize ha:(if 0≤zbB cs v then(clK cs (zbB cs v).toNat).from_-1 else 199)=a
 unfold zbB at ha
 by_cases h1:0≤zaM cs v
 ·by_cases h2:(clK cs (zaM cs v).toNat).to=-1
  ·simp[h2]
  ·by_cases h3:(clK cs (zaM cs v).toNat).to≤a
   ·simp[h1,h2,h3,ha]
   ·simp[h2,h3]
 ·simp[h1]
/-! the first thing that can't be -/
def zgG(cs:List Cl)(k:Nat):Bool:=decide ((clK cs k).kind=4)&&(decide (0<(clK cs k).res)&&decide (zaM cs (clK cs k).res<0))
def tweB(cs:List Cl)(k:Nat):Bool:=decide ((clK cs k).kind=4)&&(decide (0<(clK cs k).res)&&decide (zbB cs (clK cs k).res<(k:Int)))
def earB(cs:List Cl)(k:Nat):Bool:=decide ((clK cs k).kind=4)&&(decide (0<(clK cs k).res)&&decide ((clK cs k).to<(clK cs (zaM cs (clK cs k).res).toNat).from_))
def zgT(cs:List Cl)(a b:Nat):Bool :=
 (decide (0≤zaM cs a)&&decide (0≤zaM cs b))&&((decide ((clK cs (zaM cs a).toNat).to≠-1)&&decide ((clK cs (zaM cs a).toNat).to≤(clK cs (zaM cs b).toNat).from_))&&(decide (0≤zbB cs b)&&(decide (zbB cs a<0)||decide ((clK cs (zbB cs b).toNat).to<(clK cs (zbB cs a).toNat).from_))))
def rwInB(s:Spn)(t:Int):Bool:=decide (s.frm≤t)&&decide (t≤s.til)
def fullB(cs:List Cl)(t:Int):Bool:=(ze5 cs 1001).any fun s=>rwInB s t
def alwB(cs:List Cl)(k:Nat):Bool:=(List.range ((clK cs k).to-(clK cs k).from_).toNat).all fun d=>fullB cs ((clK cs k).from_+d)
def alwP(cs:List Cl)(k d:Nat):Bool:=(List.range d).all fun j=>fullB cs ((clK cs k).from_+(j:Nat))
theorem alwP_succ(cs:List Cl)(k d:Nat):alwP cs k (d+1)=(alwP cs k d&&fullB cs ((clK cs k).from_+(d:Nat))):=by
 unfold alwP
 rw[List.range_succ,List.all_append];simp
def empB(cs:List Cl)(k:Nat):Bool:=(decide ((clK cs k).kind=4)&&decide ((clK cs k).res=-1))&&alwB cs k
def zdN(cs:List Cl):Bd:=match zaF cs.length (zgG cs) with|some k=>⟨1,k,0⟩|none=>⟨0,0,0⟩
def tweV(cs:List Cl):Bd:=match zaF cs.length (tweB cs) with|some k=>⟨2,k,zbB cs (clK cs k).res⟩|none=>⟨0,0,0⟩
def earV(cs:List Cl):Bd:=match zaF cs.length (earB cs) with|some k=>⟨3,k,zaM cs (clK cs k).res⟩|none=>⟨0,0,0⟩
def fifV(cs:List Cl):Bd:=match zbN 1001 (fun _=>1001) (zgT cs) with|some (a,b)=>⟨6,a,b⟩|none=>⟨0,0,0⟩
def empV(cs:List Cl):Bd:=match zaF cs.length (empB cs) with|some k=>⟨7,k,0⟩|none=>⟨0,0,0⟩
def zcu(cs:List Cl):Bd :=
 if(zdN cs).kind≠0 then zdN cs else if(tweV cs).kind≠0 then tweV cs else if(earV cs).kind≠0 then earV cs else if(fifV cs).kind≠0 then fifV cs else empV cs
/-! the pairs of values, by the list of values -/
theorem pair_first(P:Nat→Nat→Bool)(n:Nat):zh4 (List.range n) P=zbN n (fun _=>n) P:=by
 have e:(fun a=>(List.range n).any (P a))=fun i=>(zaF n (P i)).isSome:=by
  funext a
  unfold zaF
  rw[List.isSome_find?]
 unfold zh4 zbN zaF
 unfold zaF at e
 rw[e]
 dsimp only
 cases (List.range n).find? (fun i=>((List.range n).find? (P i)).isSome)<;>rfl
theorem zgH{cs:List Cl}(a b:Nat)(h:zgT cs a b=true):decide (0≤zaM cs a)=true∧decide (0≤zaM cs b)=true:=by
 unfold zgT at h
 rw[Bool.and_eq_true,Bool.and_eq_true] at h
 exact h.1
theorem fif_keys(cs:List Cl):zbN 1001 (fun _=>1001) (zgT cs)=zh4 (zcr cs) (zgT cs):=by
 rw[←pair_first]
 unfold zcr
 exact(pairL_filt (q:=fun v:Nat=>decide (0≤zaM cs v)) (fun a b h=>zgH a b h)).symm
end
section
open Go.RowKit
theorem zfu{p R:Prop}(r:R)(h:Rest R→p:=by intro r;(first|with_reducible (first|apply zcE|apply za9|apply zba|apply zbd|apply zbe)|((with_reducible (first|apply zaN|apply zaO));exact rfl;exact rfl;(with_reducible exact rfl)));(first|((with_reducible apply zci);exact rfl;exact rfl;omega)|exact QS.auto);exact rfl;exact r.out):p:=h ⟨r⟩
def zjV(cs:List Cl)(v:Int):Spn×Bool:=if zaM cs v<0∨(clK cs (zaM cs v).toNat).to=-1 then(⟨0,0⟩,false) else(zfs cs v,decide ((zfs cs v).frm≤(zfs cs v).til))
theorem stayV_b(cs:List Cl)(v:Int):(zjV cs v).2=stayB cs v:=by
 unfold zjV stayB
 by_cases h1:zaM cs v<0
 ·rw[if_pos (.inl h1),decide_eq_false (show ¬0≤zaM cs v by omega)];rfl
 ·by_cases h2:(clK cs (zaM cs v).toNat).to=-1
  ·rw[if_pos (.inr h2)]
   simp[zfs,h2]
  ·rw[if_neg (by rintro(h|h);exact h1 h;exact h2 h),decide_eq_true (show 0≤zaM cs v by omega)]
   simp[zfs,h2]
theorem stayV_e{cs:List Cl}{v:Int}(h:stayB cs v=true):(zjV cs v).1=zfs cs v:=by
 rw[←stayV_b] at h
 unfold zjV at h ⊢
 split
 ·rename_i e;rw[if_pos e] at h;cases h
 ·rfl
section
variable (A:Option Addr)(ca:Nat)(cs:List Cl)(v:Int)(w:World)(hA:RdE Cl.enc 7 w A cs)(hl:cs.length≤200) 
include hA hl
theorem putBy_any:Calls Tryz.prog 84 #[.slice A cs.length ca,.int .i64 v] w fun e w'=>e=.returned (.int .i64 (zaM cs v))∧Below w.heap.size w w':=by
 have hat:=fun k (hk:k<cs.length) h1 h2=>zjd (P:=ze4 cs v) hk h1 h2
 have hno:=fun h=>zik (n:=cs.length) (P:=ze4 cs v) h
 rw[show ixN cs.length (ze4 cs v)=zaM cs v from rfl] at hat hno
 generalize zaM cs v=R at *
 refine zaj (S:=[]) [] Tryz.func84 rfl Tryz.ntmps84 Zj (Mem.nil _) ?_
 repeat' (first|refine zfu ?_|refine Zga ?_|(refine Zgb ?_;intro g)|(refine Zg ?_ ?_<;>(intro h;try exact Zx))|fail)
 refine zap (X:=Nat) (fun k=>[(9,.int .i64 (k:Nat)),(8,.int .i64 cs.length),(7,.slice A cs.length ca),(1,.int .i64 v)]) (fun _=>[]) (fun k=>k≤cs.length∧∀i,i<k→ze4 cs v i=false) (fun k=>cs.length-k) 0 ⟨by omega,fun i hi=>by omega⟩ Ze (by exact zaK) ?_
 rintro k ⟨hk,hp⟩
 by_cases hkl:k<cs.length
 ·obtain⟨bC,oC,rfl,_⟩:=RdE.open hA Zo
  have hq:ze4 cs v k=(decide (cs[k].kind=3)&&decide (cs[k].arg=v)):=by unfold ze4;rw[zay hkl]
  repeat' (first|refine zfu ?_|refine Zga ?_|(refine Zgb ?_;intro g)|(refine Zg ?_ ?_<;>(intro h;try exact Zx))|fail)
  all_goals first
   |((refine zah Tryz.results84 rfl (fun w' hw=>?_));rw[hat k hkl hp (by rw[hq];simp[*])];exact⟨rfl,hw.below0 rfl⟩)
   |exact zab (k+1) ⟨hkl,fun i hi=>(Nat.lt_succ_iff_lt_or_eq.1 hi).elim (fun e=>hp i e) (fun e=>by subst e;rw[hq];simp[*])⟩ Zo Ze (by exact zaK)
 ·obtain rfl:k=cs.length:=by omega
  repeat' (first|refine zfu ?_|refine Zga ?_|(refine Zgb ?_;intro g)|(refine Zg ?_ ?_<;>(intro h;try exact Zx))|fail)
  (refine zah Tryz.results84 rfl (fun w' hw=>?_))
  rw[hno hp]
  exact⟨rfl,hw.below0 rfl⟩
theorem zjW:Calls Tryz.prog 85 #[.slice A cs.length ca,.int .i64 v] w fun e w'=>e=.returned (.int .i64 (zbB cs v))∧Below w.heap.size w w':=by
 have hat:=fun k (hk:k<cs.length) h1 h2=>zjd (P:=zdp cs v) hk h1 h2
 have hno:=fun h=>zik (n:=cs.length) (P:=zdp cs v) h
 rw[show ixN cs.length (zdp cs v)=zbB cs v from rfl] at hat hno
 generalize zbB cs v=R at *
 refine zaj (S:=[]) [] Tryz.func85 rfl Tryz.ntmps85 Zj (Mem.nil _) ?_
 repeat' (first|refine zfu ?_|refine Zga ?_|(refine Zgb ?_;intro g)|(refine Zg ?_ ?_<;>(intro h;try exact Zx))|fail)
 refine zap (X:=Nat) (fun k=>[(9,.int .i64 (k:Nat)),(8,.int .i64 cs.length),(7,.slice A cs.length ca),(1,.int .i64 v)]) (fun _=>[]) (fun k=>k≤cs.length∧∀i,i<k→zdp cs v i=false) (fun k=>cs.length-k) 0 ⟨by omega,fun i hi=>by omega⟩ Ze (by exact zaK) ?_
 rintro k ⟨hk,hp⟩
 by_cases hkl:k<cs.length
 ·obtain⟨bC,oC,rfl,_⟩:=RdE.open hA Zo
  have hq:zdp cs v k=(decide (cs[k].kind=4)&&decide (cs[k].res=v)):=by unfold zdp;rw[zay hkl]
  repeat' (first|refine zfu ?_|refine Zga ?_|(refine Zgb ?_;intro g)|(refine Zg ?_ ?_<;>(intro h;try exact Zx))|fail)
  all_goals first
   |((refine zah Tryz.results85 rfl (fun w' hw=>?_));rw[hat k hkl hp (by rw[hq];simp[*])];exact⟨rfl,hw.below0 rfl⟩)
   |exact zab (k+1) ⟨hkl,fun i hi=>(Nat.lt_succ_iff_lt_or_eq.1 hi).elim (fun e=>hp i e) (fun e=>by subst e;rw[hq];simp[*])⟩ Zo Ze (by exact zaK)
 ·obtain rfl:k=cs.length:=by omega
  repeat' (first|refine zfu ?_|refine Zga ?_|(refine Zgb ?_;intro g)|(refine Zg ?_ ?_<;>(intro h;try exact Zx))|fail)
  (refine zah Tryz.results85 rfl (fun w' hw=>?_))
  rw[hno hp]
  exact⟨rfl,hw.below0 rfl⟩
theorem stayOf_any(hfr:∀k,k<cs.length→0≤(clK cs k).from_∧(clK cs k).from_<200):Calls Tryz.prog 86 #[.slice A cs.length ca,.int .i64 v] w fun e w'=>e=.returned (.tuple #[.agg (Spn.enc (zjV cs v).1).toArray,.bool (zjV cs v).2])∧Below w.heap.size w w':=by
 have hp:=fun w' (hb:Below w.heap.size w w')=>putBy_any A ca cs v w' (RdE.below hA hb) hl
 have hg:=fun w' (hb:Below w.heap.size w w')=>zjW A ca cs v w' (RdE.below hA hb) hl
 have hpb:=zgn cs.length (ze4 cs v)
 have hgb:=zgn cs.length (zdp cs v)
 rw[show ixN cs.length (ze4 cs v)=zaM cs v from rfl] at hpb
 rw[show ixN cs.length (zdp cs v)=zbB cs v from rfl] at hgb
 unfold zjV zfs
 generalize zaM cs v=P at *
 generalize zbB cs v=G at *
 refine zaj (S:=[]) [] Tryz.func86 rfl Tryz.ntmps86 Zj (Mem.nil _) ?_
 by_cases h0:P<0
 ·rw[if_pos (.inl h0)]
  repeat' (first|refine zfu ?_|refine Zga ?_|(refine Zgb ?_;intro g)|(refine Zg ?_ ?_<;>(intro h;try exact Zx))|((with_reducible (first|apply zaa|apply TD_e3z|apply zan|apply zaf|apply zae));((with_reducible apply zad (f:=84));exact rfl;(intro w hw;exact hp w (hw.below0 rfl));exact rfl);exact Zh;(rintro _ _ ⟨rfl,rfl⟩);(try refine⟨SUB,?_⟩))|((with_reducible (first|apply zaa|apply TD_e3z|apply zan|apply zaf|apply zae));((with_reducible apply zad (f:=85));exact rfl;(intro w hw;exact hg w (hw.below0 rfl));exact rfl);exact Zh;(rintro _ _ ⟨rfl,rfl⟩);(try refine⟨SUB,?_⟩))|fail)
  all_goals first
   |(exfalso;omega)
   |(((with_reducible apply zau Tryz.results86);exact Zr;intro w' hw);exact⟨rfl,hw.below0 rfl⟩)
 ·obtain⟨bC,oC,rfl,_⟩:=RdE.open hA Zo
  have hpc:=zay (cs:=cs) (i:=P.toNat) Zo
  by_cases h1:cs[P.toNat].to=-1
  ·rw[if_pos (.inr (by rw[hpc];exact h1))]
   repeat' (first|refine zfu ?_|refine Zga ?_|(refine Zgb ?_;intro g)|(refine Zg ?_ ?_<;>(intro h;try exact Zx))|((with_reducible (first|apply zaa|apply TD_e3z|apply zan|apply zaf|apply zae));((with_reducible apply zad (f:=84));exact rfl;(intro w hw;exact hp w (hw.below0 rfl));exact rfl);exact Zh;(rintro _ _ ⟨rfl,rfl⟩);(try refine⟨SUB,?_⟩))|((with_reducible (first|apply zaa|apply TD_e3z|apply zan|apply zaf|apply zae));((with_reducible apply zad (f:=85));exact rfl;(intro w hw;exact hg w (hw.below0 rfl));exact rfl);exact Zh;(rintro _ _ ⟨rfl,rfl⟩);(try refine⟨SUB,?_⟩))|fail)
   all_goals first
    |(exfalso;omega)
    |(((with_reducible apply zau Tryz.results86);exact Zr;intro w' hw);exact⟨rfl,hw.below0 rfl⟩)
  ·rw[if_neg (by rw[hpc];rintro(h|h);exact h0 h;exact h1 h),hpc]
   by_cases h2:0≤G
   ·have hgc:=zay (cs:=cs) (i:=G.toNat) Zo
    have hfb:=hfr G.toNat Zo
    rw[hgc] at hfb
    rw[if_pos h2,hgc]
    repeat' (first|refine zfu ?_|refine Zha ?_|(refine Zhb ?_;intro g)|(refine Zg ?_ ?_<;>(intro h;try exact Zx))|refine GOF ?_ ?_|((with_reducible apply zam (id:=7) 6 (OT.seq [(0,1),(0,3),(1,0)] (.fork (OT.seq [(2,2)] (.fork (OT.seq [(2,4),(0,5),(3,6),(0,7)] .nil) (OT.seq [(3,6),(3,4),(0,5),(0,7)] .nil))) (.fork (OT.seq [(2,4)] (.fork (OT.seq [(2,2),(0,5),(3,6),(0,7)] .nil) (OT.seq [(3,6),(3,2),(0,5),(0,7)] .nil))) (OT.seq [(3,6)] (.fork (OT.seq [(3,2),(3,4),(0,5),(0,7)] .nil) (OT.seq [(3,4),(3,2),(0,5),(0,7)] .nil)))))));kernel_rfl;exact rfl;kernel_rfl;exact Zd)|((with_reducible (first|apply zaa|apply TD_e3z|apply zan|apply zaf|apply zae));((with_reducible apply zad (f:=84));exact rfl;(intro w hw;exact hp w (hw.below0 rfl));exact rfl);exact Zh;(rintro _ _ ⟨rfl,rfl⟩);(try refine⟨SUB,?_⟩))|((with_reducible (first|apply zaa|apply TD_e3z|apply zan|apply zaf|apply zae));((with_reducible apply zad (f:=85));exact rfl;(intro w hw;exact hg w (hw.below0 rfl));exact rfl);exact Zh;(rintro _ _ ⟨rfl,rfl⟩);(try refine⟨SUB,?_⟩))|fail)
    all_goals first
     |(exfalso;omega)
     |(((with_reducible apply zau Tryz.results86);exact Zr;intro w' hw);exact⟨rfl,hw.below0 rfl⟩)
   ·rw[if_neg h2]
    repeat' (first|refine zfu ?_|refine Zha ?_|(refine Zhb ?_;intro g)|(refine Zg ?_ ?_<;>(intro h;try exact Zx))|refine GOF ?_ ?_|((with_reducible apply zam (id:=7) 6 (OT.seq [(0,1),(0,3),(1,0)] (.fork (OT.seq [(2,2)] (.fork (OT.seq [(2,4),(0,5),(3,6),(0,7)] .nil) (OT.seq [(3,6),(3,4),(0,5),(0,7)] .nil))) (.fork (OT.seq [(2,4)] (.fork (OT.seq [(2,2),(0,5),(3,6),(0,7)] .nil) (OT.seq [(3,6),(3,2),(0,5),(0,7)] .nil))) (OT.seq [(3,6)] (.fork (OT.seq [(3,2),(3,4),(0,5),(0,7)] .nil) (OT.seq [(3,4),(3,2),(0,5),(0,7)] .nil)))))));kernel_rfl;exact rfl;kernel_rfl;exact Zd)|((with_reducible (first|apply zaa|apply TD_e3z|apply zan|apply zaf|apply zae));((with_reducible apply zad (f:=84));exact rfl;(intro w hw;exact hp w (hw.below0 rfl));exact rfl);exact Zh;(rintro _ _ ⟨rfl,rfl⟩);(try refine⟨SUB,?_⟩))|((with_reducible (first|apply zaa|apply TD_e3z|apply zan|apply zaf|apply zae));((with_reducible apply zad (f:=85));exact rfl;(intro w hw;exact hg w (hw.below0 rfl));exact rfl);exact Zh;(rintro _ _ ⟨rfl,rfl⟩);(try refine⟨SUB,?_⟩))|fail)
    all_goals first
     |(exfalso;omega)
     |(((with_reducible apply zau Tryz.results86);exact Zr;intro w' hw);exact⟨rfl,hw.below0 rfl⟩)
end
section
variable (B0:Option Addr)(d0:Nat)(l:List Ev)(w:World)(hl:l.length≤9223372036854775807)(hA:RdEv w B0 l) 
include hl hA
theorem oncePut_any:Calls Tryz.prog 38 #[.slice B0 l.length d0] w fun e w'=>∃A c,e=.returned (.tuple #[.slice A (zca l).1.length c,.int .i64 (zca l).2])∧Own Cl.enc 7 36 w' w.heap.size (.slice A (zca l).1.length c) (zca l).1∧Below w.heap.size w w':=by
 have hcf:=fun A w h1 h2=>zee A B0 1 d0 [2] l w Zi hl h1 h2
 have her:=onceR_err (l:=l)
 have hbad:=fun h i h1 h2=>onceR_bad (l:=l) h (i:=i) h1 h2
 have hgood:=onceR_ok (l:=l)
 have hlen:=zbi [2] l
 obtain⟨cs,y,er,hcr⟩:∃cs y z,zai [2] l=(cs,y,z):=⟨_,_,_,rfl⟩
 rw[hcr] at hcf her hbad hgood hlen
 dsimp only at hcf her hbad hgood hlen
 generalize zca l=R at *
 refine zaj (S:=[]) [] Tryz.func38 rfl Tryz.ntmps38 Zj (Mem.nil _) ?_
 repeat' (first|((with_reducible refine zdw (S':=[zac zag 1 3 (some ⟨g,0,none⟩) 1 [2]]) (fun w hw=>Mem.asOwn (enc:=zag) (M:=1) [2] (Upd.here _ _ _) rfl (fun _=>rfl) Zi hw) ?_))|refine zfu ?_|refine Zga ?_|(refine Zgb ?_;intro g)|(refine Zg ?_ ?_<;>(intro h;try exact Zx))|((with_reducible (first|apply zaa|apply TD_e3z|apply zan|apply zaf|apply zae));((with_reducible apply zal (f:=30));exact rfl;(intro w hw;exact hcf (some ⟨g,0,none⟩) w (hw.ownRd Zm (fun _=>rfl)) (hw.rd rfl hA));exact rfl);exact Zh;(rintro _ _ ⟨A1,c1,rfl,rfl⟩);(try refine⟨SUB,?_⟩))|fail)
 ·obtain rfl:=her (by assumption)
  (refine zah Tryz.results38 rfl (fun w' hw=>?_))
  exact⟨none,0,rfl,Own.nil _ _,hw.below0 rfl⟩
 ·have h0:er=0:=by assumption
  have hbad:=hbad h0
  have hgood:=hgood h0
  refine ziW (p:=cs.length≤c1∧(A1=none→c1=0)) (fun w hw=>hw.ownFacts (enc:=Cl.enc) (M:=7) (et:=36) Zm) fun hf0=>?_
  have hca:=hf0.1
  refine zap (X:=Nat) (fun k=>[(23,.int .i64 (k:Nat)),(22,.int .i64 cs.length),(21,.slice A1 cs.length c1),(4,.slice A1 cs.length c1)]) (fun _=>[zac Cl.enc 7 36 A1 c1 cs]) (fun k=>k≤cs.length∧∀i,i<k→zia cs i=false) (fun k=>cs.length-k) 0 ⟨by omega,fun i hi=>by omega⟩ Ze (fun _ hw=>hw.sel Zl) ?_
  rintro k ⟨hk,hno⟩
  by_cases hkl:k<cs.length
  ·have hck:=zay hkl
   have hcl:zia cs k=((decide (cs[k].kind=4)&&decide (cs[k].to=-1))||(decide (cs[k].kind=3)&&(List.range k).any fun j=>decide ((clK cs j).kind=3)&&decide ((clK cs j).arg=cs[k].arg))):=by unfold zia;rw[hck]
   have hbk:=hbad k hkl
   refine zb1 (enc:=Cl.enc) (ls:=cs) Zm Zo ?_
   rintro gC rfl
   by_cases h4:cs[k].kind=4∧cs[k].to=-1
   ·obtain rfl:=hbk (by rw[hcl,decide_eq_true h4.1,decide_eq_true h4.2];rfl)
    repeat' (first|refine zfu ?_|refine Zga ?_|(refine Zgb ?_;intro g)|(refine Zg ?_ ?_<;>(intro h;try exact Zx))|fail)
    all_goals first
     |(exfalso;omega)
     |((refine zah Tryz.results38 rfl (fun w' hw=>?_));exact⟨none,0,rfl,Own.nil _ _,hw.below0 rfl⟩)
   ·have h4b:(decide (cs[k].kind=4)&&decide (cs[k].to=-1))=false:=by rw[Bool.eq_false_iff];intro e;simp only[Bool.and_eq_true,decide_eq_true_eq] at e;exact h4 e
    rw[h4b,Bool.false_or] at hcl
    have hyes:∀q,q<k→cs[k].kind=3→(clK cs q).kind=3→(clK cs q).arg=cs[k].arg→R=([],6):=fun q hq e1 e2 e3=>hbk (by
     rw[hcl,decide_eq_true e1,Bool.true_and,List.any_eq_true]
     exact⟨q,List.mem_range.2 hq,by simp[e2,e3]⟩)
    have hnn:(∀q,q<k→(decide (cs[k].kind=3)&&(decide ((clK cs q).kind=3)&&decide ((clK cs q).arg=cs[k].arg)))=false)→zia cs k=false:=fun hq=>by
     rw[hcl]
     by_cases e:cs[k].kind=3
     ·rw[decide_eq_true e,Bool.true_and,List.any_eq_false]
      intro q hq2
      have:=hq q (List.mem_range.1 hq2)
      rw[decide_eq_true e,Bool.true_and] at this
      rw[this];decide
     ·rw[decide_eq_false e];rfl
    clear hcl hbk hbad
    by_cases hk4:cs[k].kind=4
    all_goals
     repeat' (first|refine zfu ?_|refine Zga ?_|(refine Zgb ?_;intro g)|(refine Zg ?_ ?_<;>(intro h;try exact Zx))|fail)
     all_goals first|(exfalso;omega)|skip
     refine zap (X:=Nat) (fun j=>[(40,.int .i64 (j:Nat)),(39,.int .i64 (k:Nat)),(38,.slice (some ⟨gC,0,none⟩) k c1),(8,.pointer (some ⟨g,0,none⟩)),(23,.int .i64 (k:Nat)),(22,.int .i64 cs.length),(21,.slice (some ⟨gC,0,none⟩) cs.length c1),(4,.slice (some ⟨gC,0,none⟩) cs.length c1)]) (fun _=>[zak g 36 (Cl.enc cs[k]).toArray,zac Cl.enc 7 36 (some ⟨gC,0,none⟩) c1 cs])
      (fun j=>j≤k∧∀q,q<j→(decide (cs[k].kind=3)&&(decide ((clK cs q).kind=3)&&decide ((clK cs q).arg=cs[k].arg)))=false) (fun j=>k-j) 0 ⟨by omega,fun q hq=>by omega⟩ Ze (fun _ hw=>hw.sel Zl) ?_
     rintro j ⟨hj,hjn⟩
     by_cases hjk:j<k
     ·have hcj:=zay (cs:=cs) (i:=j) Zo
      have hyj:=hyes j hjk
      have hnj:(decide (cs[k].kind=3)&&(decide ((clK cs j).kind=3)&&decide ((clK cs j).arg=cs[k].arg)))=false→∀q,q<j+1→(decide (cs[k].kind=3)&&(decide ((clK cs q).kind=3)&&decide ((clK cs q).arg=cs[k].arg)))=false:=fun hb q hq=>(Nat.lt_succ_iff_lt_or_eq.1 hq).elim (fun e=>hjn q e) (fun e=>by subst e;exact hb)
      rw[hcj] at hyj hnj
      repeat' (first|refine zfu ?_|refine Zga ?_|(refine Zgb ?_;intro g)|(refine Zg ?_ ?_<;>(intro h;try exact Zx))|fail)
      all_goals first
       |(exfalso;omega)
       |((refine zah Tryz.results38 rfl (fun w' hw=>?_));obtain rfl:=hyj (by assumption) (by assumption) Zo;exact⟨none,0,rfl,Own.nil _ _,hw.below0 rfl⟩)
       |exact zab (j+1) ⟨hjk,hnj (by simp[*];try omega)⟩ Zo Ze (fun _ hw=>hw.sel Zl)
     ·obtain rfl:j=k:=by omega
      have hbn:=hnn hjn
      repeat' (first|refine zfu ?_|refine Zga ?_|(refine Zgb ?_;intro g)|(refine Zg ?_ ?_<;>(intro h;try exact Zx))|fail)
      exact zab (j+1) ⟨hkl,fun i hi=>(Nat.lt_succ_iff_lt_or_eq.1 hi).elim (fun e=>hno i e) (fun e=>by subst e;exact hbn)⟩ Zo Ze (fun _ hw=>hw.sel Zl)
  ·obtain rfl:k=cs.length:=by omega
   obtain rfl:=hgood hno
   repeat' (first|refine zfu ?_|refine Zga ?_|(refine Zgb ?_;intro g)|(refine Zg ?_ ?_<;>(intro h;try exact Zx))|fail)
   (refine zah Tryz.results38 rfl (fun w' hw=>?_))
   exact⟨A1,c1,rfl,hw.ownOut rfl Zm,hw.below0 rfl⟩
end
end
section
open Go.RowKit
theorem zjh(a b c:Int)(w:World):Calls Tryz.prog 67 #[.int .i64 a,.int .i64 b,.int .i64 c] w fun e w'=>e=.returned (.bool (decide (b≤a)&&decide (a≤c)))∧Below w.heap.size w w' :=
 Calls.same_below (zbu a b c w)
theorem kinds_C(t:Int)(w:World):Calls Tryz.prog 72 #[.int .i64 t] w fun e w'=>∃A c,e=.returned (.slice A (zaZ t).length c)∧Own zag 1 3 w' w.heap.size (.slice A (zaZ t).length c) (zaZ t)∧Below w.heap.size w w':=by
 refine zaj (S:=[]) [] Tryz.func72 rfl Tryz.ntmps72 Zj (Mem.nil _) ?_
 repeat' (first|refine Zga ?_|(refine Zgb ?_;intro g)|(refine Zg ?_ ?_<;>(intro h;try exact Zx))|fail)
 all_goals(refine zah Tryz.results72 rfl (fun w' hw=>?_))
 all_goals try subst_vars
 all_goals first
  |exact⟨_,_,rfl,hw.blkOut (enc:=zag) [1,2] rfl Zm rfl (fun _=>rfl) Zi,hw.below0 rfl⟩
  |exact⟨_,_,rfl,hw.blkOut (enc:=zag) [3,4] rfl Zm rfl (fun _=>rfl) Zi,hw.below0 rfl⟩
  |exact⟨_,_,rfl,hw.blkOut (enc:=zag) [5,6] rfl Zm rfl (fun _=>rfl) Zi,hw.below0 rfl⟩
  |exact⟨_,_,rfl,hw.blkOut (enc:=zag) [7,8,9] rfl Zm rfl (fun _=>rfl) Zi,hw.below0 rfl⟩
  |exact⟨_,_,rfl,hw.blkOut (enc:=zag) [10] rfl Zm rfl (fun _=>rfl) Zi,hw.below0 rfl⟩
  |(have e:zaZ t=[]:=by simp[zaZ, *]
    rw[e];exact⟨none,0,rfl,Own.nil _ _,hw.below0 rfl⟩)
theorem kindsC_len(t:Int):(zaZ t).length≤9223372036854775807:=by
 unfold zaZ
 repeat' split
 all_goals decide
theorem fits_C(t k:Int)(w:World):Calls Tryz.prog 92 #[.int .i64 t,.int .i64 k] w fun e w'=>e=.returned (.bool ((zaZ t).contains k))∧Below w.heap.size w w' :=
 (Calls.same_below (fits_any t k w)).mono fun e w' h=>by rw[←ziy];exact h
theorem argument_C(k n:Int)(w:World):Calls Tryz.prog 93 #[.int .i64 k,.int .i64 n] w fun e w'=>e=.returned (.bool (zdO k n))∧Below w.heap.size w w' :=
 Calls.same_below (zeI k n w)
end
end Go.Proofs.YtjdckepbihcgfaaGreatDoor
