/- Lemmas for the walks (Tk4). No condition. -/
import Derived.Test.YtjdckepbihcgfaaGreatDoorG26
set_option linter.unusedSimpArgs false
set_option linter.unusedVariables false
set_option linter.unusedSectionVars false
set_option linter.unnecessarySimpa false
set_option maxRecDepth 100000
set_option maxHeartbeats 8000000
namespace Go.Proofs.YtjdckepbihcgfaaGreatDoor
section
open Go.RowKit
theorem zdq{p R:Prop}(r:R)(h:Rest R→p:=by intro r;(first|with_reducible (first|apply zcE|apply za9|apply zba|apply zbd|apply zbe)|((with_reducible (first|apply zaN|apply zaO));exact rfl;exact rfl;(with_reducible exact rfl)));(first|((with_reducible apply zci);exact rfl;exact rfl;omega)|((with_reducible apply zc6 (l:=1));exact rfl;exact rfl;omega)|exact QS.auto);exact rfl;exact r.out):p:=h ⟨r⟩
theorem mostK_next(cs:List Cl)(k:Nat):zdk cs (k+1)=if(clK cs k).to=-1 then zdk cs k else if zdk cs k<(clK cs k).res then(clK cs k).res else zdk cs k:=by
 rw[zdk]
 split
 ·rfl
 ·split<;>omega
theorem numT_bd1{cs:List Cl}(h:TkOk cs):zib cs≤1001:=by
 have:=zgK h cs.length (Nat.le_refl _)
 unfold zib;omega
def tkNum(cs:List Cl):List Nat:=if(zbC cs).kind=0 then numsT cs else[]
theorem numsT_succ(cs:List Cl)(n:Nat):(List.range (n+1)).map (whoT cs)=(List.range n).map (whoT cs)++[whoT cs n]:=by rw[List.range_succ,List.map_append];rfl
theorem canT_no{cs:List Cl}{i n k:Nat}(hk:k<cs.length)(h:zic cs i n cs[k]=true):canT cs i n=false:=by
 unfold canT
 rw[List.any_eq_true.2 ⟨_,List.getElem_mem hk,h⟩];rfl
theorem canT_yes{cs:List Cl}{i n:Nat}(h:∀q (hq:q<cs.length),zic cs i n cs[q]=false):canT cs i n=true:=by
 unfold canT
 rw[Bool.not_eq_true',List.any_eq_false]
 intro x hx
 obtain⟨q,hq,rfl⟩:=List.mem_iff_getElem.1 hx
 rw[h q hq];decide
theorem missing_res{cs:List Cl}{n k:Nat}(h:hasT cs n=false)(hk:k<cs.length)(ht:cs[k].to≠-1):cs[k].res≠(n:Int):=fun e=>by
 unfold hasT at h
 rw[hasK_of hk (by rw[zay hk];exact ht) (by rw[zay hk];exact e)] at h
 cases h
section
variable (A:Option Addr)(ca:Nat)(cs:List Cl)(w:World)(hA:RdE Cl.enc 7 w A cs)(hok:TkOk cs)(hca:cs.length≤ca) 
include hA hok hca
theorem numbered_any:Calls Tryz.prog 40 #[.slice A cs.length ca] w fun e w'=>∃A' c',e=.returned (.tuple #[.slice A' (tkNum cs).length c',.agg (Bd.enc (zbC cs)).toArray])∧Own za7 1 3 w' w.heap.size (.slice A' (tkNum cs).length c') (tkNum cs)∧Below w.heap.size w w':=by
 have h200:=hok.few
 have hmb:=zgK hok
 have hml:(zdl cs).length=(zcK cs (zib cs)).length:=rfl
 have hpl:(zbl cs).length≤cs.length:=zgJ cs cs.length
 have hnb:((zib cs:Nat):Int)=zdk cs cs.length+1:=by have:=hmb cs.length (Nat.le_refl _);unfold zib;omega
 have hfin:∀V:Bd,zbC cs=V→V.kind≠0→tkNum cs=[]:=fun V e h=>by unfold tkNum;rw[e,if_neg h]
 have hchk:zbC cs=match zbN cs.length (fun i=>i) (twB cs) with
  |some (i,k)=>⟨2,i,k⟩
  |none=>match zbN cs.length (fun _=>cs.length) (ordB cs) with
   |some (i,k)=>⟨6,i,k⟩
   |none=>match zaF (zdl cs).length (gapB cs) with
    |some k=>⟨8,((zdl cs).getD k 0:Nat),0⟩
    |none=>⟨0,0,0⟩:=rfl
 refine zaj (S:=[]) [] Tryz.func40 rfl Tryz.ntmps40 Zj (Mem.nil _) ?_
 repeat' (first|refine zdq ?_|refine Zga ?_|(refine Zgb ?_;intro g)|(refine Zg ?_ ?_<;>(intro h;try exact Zx))|fail)
 obtain⟨gb,rfl⟩:∃x,x=g:=⟨_,rfl⟩
 refine zap (X:=Nat) (fun i=>[(25,.int .i64 (i:Nat)),(4,.int .i64 (zdk cs i)),(24,.int .i64 cs.length),(23,.slice A cs.length ca),(3,.pointer (some ⟨gb,0,none⟩)),(0,.slice A cs.length ca)]) (fun _=>[zak gb 79 #[.int .i64 0,.int .i64 0,.int .i64 0]]) (fun i=>i≤cs.length∧∀j,j<i→∀q,q<j→twB cs j q=false) (fun i=>cs.length-i) 0 ⟨by omega,fun j hj=>by omega⟩ Ze (by exact zaK) ?_
 rintro i ⟨hi,hno⟩
 by_cases hil:i<cs.length
 ·obtain⟨bC,oC,rfl,_⟩:=RdE.open hA Zo
  have hmn:=mostK_next cs i
  rw[zay hil] at hmn
  generalize zdk cs i=m at *
  repeat' (first|refine zdq ?_|refine Zga ?_|(refine Zgb ?_;intro g)|(refine Zg ?_ ?_<;>(intro h;try exact Zx))|fail)
  obtain⟨g6,rfl⟩:∃x,x=g:=⟨_,rfl⟩
  refine zap (X:=Nat) (fun k=>[(34,.int .i64 (k:Nat)),(33,.int .i64 (i:Nat)),(32,.slice (some ⟨bC,oC,none⟩) i ca),(6,.pointer (some ⟨g6,0,none⟩)),(5,.int .i64 (i:Nat)),(25,.int .i64 (i:Nat)),(4,.int .i64 m),(24,.int .i64 cs.length),(23,.slice (some ⟨bC,oC,none⟩) cs.length ca),(3,.pointer (some ⟨gb,0,none⟩)),(0,.slice (some ⟨bC,oC,none⟩) cs.length ca)]) (fun _=>[zak g6 36 (Cl.enc cs[i]).toArray,zak gb 79 #[.int .i64 0,.int .i64 0,.int .i64 0]])
   (fun k=>k≤i∧∀q,q<k→twB cs i q=false) (fun k=>i-k) 0 ⟨by omega,fun q hq=>by omega⟩ Ze (by exact zaK) ?_
  rintro k ⟨hk,hno2⟩
  by_cases hki:k<i
  ·have htw:=twB_eq hil (show k<cs.length by omega)
   repeat' (first|refine zdq ?_|refine Zga ?_|(refine Zgb ?_;intro g)|(refine Zg ?_ ?_<;>(intro h;try exact Zx))|fail)
   all_goals
    first
     |(((with_reducible apply zau Tryz.results40);exact Zr;intro w' hw);have hV:zbC cs=⟨2,i,k⟩:=(by rw[hchk,zc5 hil hki hno hno2 (by rw[htw];simp[*])]);rw[hfin _ hV (show(2:Int)≠0 by decide),hV];exact⟨none,0,rfl,Own.nil _ _,hw.below0 rfl⟩)
     |exact zab (k+1) ⟨hki,fun q hq=>(Nat.lt_succ_iff_lt_or_eq.1 hq).elim (fun e=>hno2 q e) (fun e=>by subst e;rw[htw];simp[*])⟩ Zo Ze (by exact zaK)
  ·obtain rfl:k=i:=by omega
   have hno3:∀j,j<k+1→∀q,q<j→twB cs j q=false:=fun j hj=>(Nat.lt_succ_iff_lt_or_eq.1 hj).elim (fun e=>hno j e) (fun e=>by subst e;exact hno2)
   by_cases ht:cs[k].to=-1
   ·rw[if_pos ht] at hmn
    repeat' (first|refine zdq ?_|refine Zga ?_|(refine Zgb ?_;intro g)|(refine Zg ?_ ?_<;>(intro h;try exact Zx))|fail)
    apply zab (k+1)
    case hE=>(try dsimp only);rw[hmn];exact Ze
    case hS=>exact zaK
    case hμ=>(try dsimp only);omega
    case hp=>exact⟨hil,hno3⟩
   ·rw[if_neg ht] at hmn
    by_cases hlt:m<cs[k].res
    ·rw[if_pos hlt] at hmn
     repeat' (first|refine zdq ?_|refine Zga ?_|(refine Zgb ?_;intro g)|(refine Zg ?_ ?_<;>(intro h;try exact Zx))|fail)
     apply zab (k+1)
     case hE=>(try dsimp only);rw[hmn];exact Ze
     case hS=>exact zaK
     case hμ=>(try dsimp only);omega
     case hp=>exact⟨hil,hno3⟩
    ·rw[if_neg hlt] at hmn
     repeat' (first|refine zdq ?_|refine Zga ?_|(refine Zgb ?_;intro g)|(refine Zg ?_ ?_<;>(intro h;try exact Zx))|fail)
     apply zab (k+1)
     case hE=>(try dsimp only);rw[hmn];exact Ze
     case hS=>exact zaK
     case hμ=>(try dsimp only);omega
     case hp=>exact⟨hil,hno3⟩
 ·obtain rfl:i=cs.length:=by omega
  rw[zbS hno] at hchk
  dsimp only at hchk
  clear hno
  have hmo:=hmb cs.length (Nat.le_refl _)
  generalize zdk cs cs.length=mo at *
  repeat' (first|refine zdq ?_|refine Zga ?_|(refine Zgb ?_;intro g)|(refine Zg ?_ ?_<;>(intro h;try exact Zx))|fail)
  refine zap (X:=Nat) (fun i=>[(72,.int .i64 (i:Nat)),(71,.int .i64 cs.length),(70,.slice A cs.length ca),(4,.int .i64 mo),(3,.pointer (some ⟨gb,0,none⟩)),(0,.slice A cs.length ca)]) (fun _=>[zak gb 79 #[.int .i64 0,.int .i64 0,.int .i64 0]]) (fun i=>i≤cs.length∧∀j,j<i→∀q,q<cs.length→ordB cs j q=false) (fun i=>cs.length-i) 0 ⟨by omega,fun j hj=>by omega⟩ Ze (by exact zaK) ?_
  rintro i ⟨hi,hno⟩
  by_cases hil:i<cs.length
  ·obtain⟨bC,oC,rfl,_⟩:=RdE.open hA Zo
   have hto:=hok.to i hil
   rw[zay hil] at hto
   repeat' (first|refine zdq ?_|refine Zga ?_|(refine Zgb ?_;intro g)|(refine Zg ?_ ?_<;>(intro h;try exact Zx))|fail)
   obtain⟨g10,rfl⟩:∃x,x=g:=⟨_,rfl⟩
   refine zap (X:=Nat) (fun k=>[(79,.int .i64 (k:Nat)),(78,.int .i64 cs.length),(77,.slice (some ⟨bC,oC,none⟩) cs.length ca),(10,.pointer (some ⟨g10,0,none⟩)),(9,.int .i64 (i:Nat)),(72,.int .i64 (i:Nat)),(71,.int .i64 cs.length),(70,.slice (some ⟨bC,oC,none⟩) cs.length ca),(4,.int .i64 mo),(3,.pointer (some ⟨gb,0,none⟩)),(0,.slice (some ⟨bC,oC,none⟩) cs.length ca)]) (fun _=>[zak g10 36 (Cl.enc cs[i]).toArray,zak gb 79 #[.int .i64 0,.int .i64 0,.int .i64 0]])
    (fun k=>k≤cs.length∧∀q,q<k→ordB cs i q=false) (fun k=>cs.length-k) 0 ⟨by omega,fun q hq=>by omega⟩ Ze (by exact zaK) ?_
   rintro k ⟨hk,hno2⟩
   by_cases hki:k<cs.length
   ·have htw:=ordB_eq hil hki
    have hne:=hok.ne i k hil hki
    rw[zay hil,zay hki] at hne
    repeat' (first|refine zdq ?_|refine Zga ?_|(refine Zgb ?_;intro g)|(refine Zg ?_ ?_<;>(intro h;try exact Zx))|((with_reducible (first|apply zaa|apply TD_e3z|apply zan|apply zaf|apply zae));((with_reducible apply zad (f:=67));exact rfl;(intro w hw;exact zjh _ _ _ w);exact rfl);exact Zh;(rintro _ _ ⟨rfl,rfl⟩);(try refine⟨SUB,?_⟩))|fail)
    all_goals
     first
      |(((with_reducible apply zau Tryz.results40);exact Zr;intro w' hw);have hV:zbC cs=⟨6,i,k⟩:=(by rw[hchk,zc5 hil hki hno hno2 (by rw[htw];simp only[Bool.and_eq_true,decide_eq_true_eq,ne_eq];omega)]);rw[hfin _ hV (show(6:Int)≠0 by decide),hV];exact⟨none,0,rfl,Own.nil _ _,hw.below0 rfl⟩)
      |exact zab (k+1) ⟨hki,fun q hq=>(Nat.lt_succ_iff_lt_or_eq.1 hq).elim (fun e=>hno2 q e) (fun e=>by subst e;rw[htw,Bool.eq_false_iff];intro e;simp only[Bool.and_eq_true,decide_eq_true_eq,ne_eq] at e;omega)⟩ Zo Ze (by exact zaK)
   ·obtain rfl:k=cs.length:=by omega
    repeat' (first|refine zdq ?_|refine Zga ?_|(refine Zgb ?_;intro g)|(refine Zg ?_ ?_<;>(intro h;try exact Zx))|fail)
    exact zab (i+1) ⟨hil,fun j hj=>(Nat.lt_succ_iff_lt_or_eq.1 hj).elim (fun e=>hno j e) (fun e=>by subst e;exact hno2)⟩ Zo Ze (by exact zaK)
  ·obtain rfl:i=cs.length:=by omega
   rw[zbS hno] at hchk
   dsimp only at hchk
   clear hno
   repeat' (first|refine zdq ?_|refine Zga ?_|(refine Zgb ?_;intro g)|(refine Zg ?_ ?_<;>(intro h;try exact Zx))|fail)
   refine zap (X:=Nat×Option Addr×Nat) (fun x=>[(108,.int .i64 (x.1:Nat)),(13,.slice x.2.1 (zeE cs x.1).length x.2.2),(107,.int .i64 cs.length),(106,.slice A cs.length ca),(4,.int .i64 mo),(3,.pointer (some ⟨gb,0,none⟩)),(0,.slice A cs.length ca)]) (fun x=>[zac za7 1 3 x.2.1 x.2.2 (zeE cs x.1),zak gb 79 #[.int .i64 0,.int .i64 0,.int .i64 0]]) (fun x=>x.1≤cs.length) (fun x=>cs.length-x.1) (0,none,0) (by(try dsimp only);omega) Ze (fun w' hw=>by
     show Mem _ w' [zac za7 1 3 none 0 ([]:List Nat),zak gb 79 #[.int .i64 0,.int .i64 0,.int .i64 0]]
     exact(hw.nilOwn za7 1 3).sel Zl) ?_
   rintro⟨k,PA,pc⟩ hk
   dsimp only at hk ⊢
   have hps:=pendK_succ cs k
   have hpk:=zgJ cs k
   by_cases hkl:k<cs.length
   ·obtain⟨bC,oC,rfl,_⟩:=RdE.open hA Zo
    rw[zay hkl] at hps
    generalize zeE cs k=p at *
    by_cases ht:cs[k].to=-1
    ·rw[if_pos ht] at hps
     repeat' (first|refine zdq ?_|refine Zga ?_|(refine Zgb ?_;intro g)|(refine Zg ?_ ?_<;>(intro h;try exact Zx))|((with_reducible (first|apply zaa|apply TD_e3z|apply zan|apply zaf|apply zae));((with_reducible apply zaw (enc:=za7) (xx:=k));exact rfl;exact rfl;exact Zm;exact rfl;exact fun _=>rfl;exact fun _=>rfl;(intro A' c';exact Zu);(omega);decide;exact rfl);exact Zh;(rintro _ _ ⟨A',c',rfl,rfl⟩);(try refine⟨SUB,?_⟩))|fail)
     apply zab (k+1,A',c')
     case hE=>(try dsimp only);rw[hps];exact Ze
     case hS=>(try dsimp only);rw[hps];exact fun w' hw=>hw.sel Zl
     case hμ=>(try dsimp only);omega
     case hp=>(try dsimp only);omega
    ·rw[if_neg ht] at hps
     repeat' (first|refine zdq ?_|refine Zga ?_|(refine Zgb ?_;intro g)|(refine Zg ?_ ?_<;>(intro h;try exact Zx))|fail)
     apply zab (k+1,PA,pc)
     case hE=>(try dsimp only);rw[hps];exact Ze
     case hS=>(try dsimp only);rw[hps];exact fun w' hw=>hw.sel Zl
     case hμ=>(try dsimp only);omega
     case hp=>(try dsimp only);omega
   ·obtain rfl:k=cs.length:=by omega
    rw[show zeE cs cs.length=zbl cs from rfl]
    refine ziW (p:=(zbl cs).length≤pc∧(PA=none→pc=0)) (fun w hw=>hw.ownFacts (enc:=za7) (M:=1) (et:=3) Zm) fun hf0=>?_
    have hpc:=hf0.1
    repeat' (first|refine zdq ?_|refine Zga ?_|(refine Zgb ?_;intro g)|(refine Zg ?_ ?_<;>(intro h;try exact Zx))|fail)
    refine zap (X:=Nat×Option Addr×Nat×Option Addr×Nat) (fun x=>[(17,.int .i64 (x.1:Nat)),(13,.slice x.2.1 ((zbl cs).length-(zcK cs x.1).length) x.2.2.1),(16,.slice x.2.2.2.1 ((List.range x.1).map (whoT cs)).length x.2.2.2.2),(4,.int .i64 mo),(3,.pointer (some ⟨gb,0,none⟩)),(0,.slice A cs.length ca)])
     (fun x=>[zac za7 1 3 x.2.2.2.1 x.2.2.2.2 ((List.range x.1).map (whoT cs)),zac za7 1 3 PA pc (zbl cs),zak gb 79 #[.int .i64 0,.int .i64 0,.int .i64 0]])
     (fun x=>x.1≤zib cs∧(∀k,k<(zcK cs x.1).length→gapB cs k=false)∧(zcK cs x.1).length≤(zbl cs).length∧((zcK cs x.1).length<(zbl cs).length→∀g,PA=some ⟨g,0,none⟩→x.2.1=some ⟨g,(zcK cs x.1).length,none⟩∧x.2.2.1=pc-(zcK cs x.1).length))
     (fun x=>zib cs-x.1) (0,PA,pc,none,0) ⟨by(try dsimp only);omega,fun k hk=>absurd hk (Nat.not_lt_zero _),Nat.zero_le _,fun _ g hg=>⟨hg,rfl⟩⟩ Ze (fun w' hw=>by
      show Mem _ w' [zac za7 1 3 none 0 ([]:List Nat),zac za7 1 3 PA pc (zbl cs),zak gb 79 #[.int .i64 0,.int .i64 0,.int .i64 0]]
      exact(hw.nilOwn za7 1 3).sel Zl) ?_
    rintro⟨n,OA,oc,A5,c5⟩ ⟨hn,hgap,hjl,hop⟩
    dsimp only at hn hgap hjl hop ⊢
    have hms:=zhs cs n
    have hws:=numsT_succ cs n
    have hwl:((List.range n).map (whoT cs)).length=n:=by simp
    have hnb1:=numT_bd1 hok
    by_cases hnl:n<zib cs
    ·have hwho:whoT cs n=if ze6 cs (n:Nat) cs.length<0 then(zbl cs).getD (zcK cs n).length 0 else(ze6 cs (n:Nat) cs.length).toNat:=rfl
     have hlh:=lastK_has cs (n:Nat) cs.length
     have hat:=fun h=>missK_at cs (n:=n) (m:=zib cs) h hnl
     generalize hj:(zcK cs n).length=j at *
     generalize (List.range n).map (whoT cs)=W at *
     repeat' (first|refine zdq ?_|refine Zga ?_|(refine Zgb ?_;intro g)|(refine Zg ?_ ?_<;>(intro h;try exact Zx))|fail)
     refine zap (X:=Nat) (fun k=>[(128,.int .i64 (k:Nat)),(127,.int .i64 cs.length),(126,.slice A cs.length ca),(18,.int .i64 (ze6 cs (n:Nat) k)),(13,.slice OA ((zbl cs).length-j) oc),(16,.slice A5 W.length c5),(17,.int .i64 (n:Nat)),(4,.int .i64 mo),(3,.pointer (some ⟨gb,0,none⟩)),(0,.slice A cs.length ca)]) (fun _=>[zac za7 1 3 A5 c5 W,zac za7 1 3 PA pc (zbl cs),zak gb 79 #[.int .i64 0,.int .i64 0,.int .i64 0]]) (fun k=>k≤cs.length) (fun k=>cs.length-k) 0 Zo Ze (by exact zaK) ?_
     intro k hk
     by_cases hkl:k<cs.length
     ·obtain⟨bC,oC,rfl,_⟩:=RdE.open hA Zo
      have hls:ze6 cs (n:Nat) (k+1)=if(clK cs k).to≠-1∧(clK cs k).res=(n:Nat) then(k:Int) else ze6 cs (n:Nat) k:=rfl
      rw[zay hkl] at hls
      generalize ze6 cs (n:Nat) k=q at *
      repeat' (first|refine zdq ?_|refine Zga ?_|(refine Zgb ?_;intro g)|(refine Zg ?_ ?_<;>(intro h;try exact Zx))|fail)
      all_goals
       apply zab (k+1)
       case hE=>first|(rw[hls,if_pos Zo];exact Ze;done)|(rw[hls,if_neg Zo];exact Ze;done)
       case hS=>exact zaK
       case hμ=>(try dsimp only);omega
       case hp=>exact hkl
     ·obtain rfl:k=cs.length:=by omega
      have hhas:hasT cs n=hasK cs (n:Nat) cs.length:=rfl
      generalize ze6 cs (n:Nat) cs.length=q at *
      by_cases hq:q<0
      ·obtain rfl:q=-1:=by omega
       have hht:hasT cs n=false:=hlh.1.1 hq
       have hmiss:=fun k hk ht=>missing_res (k:=k) hht hk ht
       obtain⟨hjt,hjv⟩:=List.getElem?_eq_some_iff.1 (hat hht)
       rw[←hml] at hjt
       have hmj:(zdl cs).getD j 0=n:=by
        rw[List.getD_eq_getElem?_getD,show(zdl cs)[j]?=some n from hat hht];rfl
       rw[hht,if_neg Zi] at hms
       rw[if_pos Zi] at hwho
       have hgj:gapB cs j=(decide ((zbl cs).length≤j)||!canT cs ((zbl cs).getD j 0) n):=by unfold gapB;rw[hmj]
       have hV:gapB cs j=true→zbC cs=⟨8,(n:Nat),0⟩:=fun hb=>by
        rw[hchk,za5 hjt hgap hb]
        dsimp only
        rw[hmj]
       clear hlh hat hchk hhas
       by_cases hjp:j<(zbl cs).length
       ·have hpj:(zbl cs).getD j 0=(zbl cs)[j]:=by simp[hjp]
        have hpo:(zbl cs)[j]<cs.length:=(pendK_lt (cs:=cs) (k:=cs.length) (List.getElem_mem hjp)).1
        have hck:=zay hpo
        rw[hpj] at hwho hgj
        rw[decide_eq_false Zo,Bool.false_or] at hgj
        refine zb1 (enc:=za7) (ls:=zbl cs) Zm Zo ?_
        rintro gO rfl
        obtain⟨rfl,rfl⟩:=hop hjp gO rfl
        repeat' (first|refine zdq ?_|refine Zha ?_|(refine Zhb ?_;intro g)|(refine Zg ?_ ?_<;>(intro h;try exact Zx))|refine GOF ?_ ?_|((with_reducible apply zam (id:=43) 1000 (OT.seq [(0,0),(0,1),(0,3),(0,4),(1,2),(0,5),(0,6)] .nil));kernel_rfl;exact rfl;kernel_rfl;exact Zd)|((with_reducible apply zam (id:=47) 1000 (OT.seq [(0,0),(1,1),(0,2),(0,3),(0,4),(0,6),(0,7),(0,8),(0,9),(1,5),(1,10),(0,11),(0,12),(0,13),(0,14),(0,16),(1,15),(0,17),(0,18)] .nil));kernel_rfl;exact rfl;kernel_rfl;exact Zd)|fail)
        refine zap (X:=Nat) (fun k=>[(158,.int .i64 (k:Nat)),(157,.int .i64 cs.length),(156,.slice A cs.length ca),(13,.slice (some ⟨gO,if pc-j=1 then j else j+1 * 1,none⟩) ((zbl cs).length-j-1) (pc-j-1)),(18,.int .i64 ((zbl cs)[j]:Nat)),(16,.slice A5 W.length c5),(17,.int .i64 (n:Nat)),(4,.int .i64 mo),(3,.pointer (some ⟨gb,0,none⟩)),(0,.slice A cs.length ca)]) (fun _=>[zac za7 1 3 A5 c5 W,zac za7 1 3 (some ⟨gO,0,none⟩) pc (zbl cs),zak gb 79 #[.int .i64 0,.int .i64 0,.int .i64 0]])
         (fun k=>k≤cs.length∧∀q (hq:q<k) (hq2:q<cs.length),zic cs (zbl cs)[j] n cs[q]=false) (fun k=>cs.length-k) 0 ⟨by omega,fun q hq=>by omega⟩ Ze (by exact zaK) ?_
        rintro k ⟨hk2,hlate⟩
        by_cases hkl2:k<cs.length
        ·obtain⟨bC,oC,rfl,_⟩:=RdE.open hA Zo
         have hres:=hmiss k hkl2
         have hlk:zic cs (zbl cs)[j] n cs[k]=(decide (cs[k].to≠-1)&&(decide (cs[k].to<cs[(zbl cs)[j]].from_)&&decide ((n:Int)≤cs[k].res))):=by unfold zic;rw[hck]
         repeat' (first|refine zdq ?_|refine Zha ?_|(refine Zhb ?_;intro g)|(refine Zg ?_ ?_<;>(intro h;try exact Zx))|refine GOF ?_ ?_|((with_reducible apply zam (id:=43) 1000 (OT.seq [(0,0),(0,1),(0,3),(0,4),(1,2),(0,5),(0,6)] .nil));kernel_rfl;exact rfl;kernel_rfl;exact Zd)|((with_reducible apply zam (id:=47) 1000 (OT.seq [(0,0),(1,1),(0,2),(0,3),(0,4),(0,6),(0,7),(0,8),(0,9),(1,5),(1,10),(0,11),(0,12),(0,13),(0,14),(0,16),(1,15),(0,17),(0,18)] .nil));kernel_rfl;exact rfl;kernel_rfl;exact Zd)|fail)
         all_goals
          first
           |(((with_reducible apply zau Tryz.results40);exact Zr;intro w' hw);have hV2:=hV (by rw[hgj,canT_no hkl2 (by rw[hlk];simp only[Bool.and_eq_true,decide_eq_true_eq,ne_eq];omega)];rfl);rw[hfin _ hV2 (show(8:Int)≠0 by decide),hV2];exact⟨none,0,rfl,Own.nil _ _,hw.below0 rfl⟩)
           |exact zab (k+1) ⟨hkl2,fun q hq hq2=>(Nat.lt_succ_iff_lt_or_eq.1 hq).elim (fun e=>hlate q e hq2) (fun e=>by subst e;rw[hlk,Bool.eq_false_iff];intro e;simp only[Bool.and_eq_true,decide_eq_true_eq,ne_eq] at e;omega)⟩ Zo Ze (by exact zaK)
        ·obtain rfl:k=cs.length:=by omega
         have hcan:=canT_yes (i:=(zbl cs)[j]) (n:=n) fun q hq=>hlate q hq hq
         rw[hcan] at hgj
         rw[hwho] at hws
         have hj2:(zcK cs (n+1)).length=j+1:=by rw[hms,List.length_append,hj];rfl
         repeat' (first|refine zdq ?_|refine Zga ?_|(refine Zgb ?_;intro g)|(refine Zg ?_ ?_<;>(intro h;try exact Zx))|((with_reducible (first|apply zaa|apply TD_e3z|apply zan|apply zaf|apply zae));((with_reducible apply zaw (enc:=za7) (xx:=(zbl cs)[j]));exact rfl;exact rfl;exact Zm;exact rfl;exact fun _=>rfl;exact fun _=>rfl;(intro A' c';exact Zu);(omega);decide;exact rfl);exact Zh;(rintro _ _ ⟨A',c',rfl,rfl⟩);(try refine⟨SUB,?_⟩))|fail)
         apply zab (n+1,(some ⟨gO,if pc-j=1 then j else j+1 * 1,none⟩),pc-j-1,A',c')
         case hE=>(try dsimp only);rw[hws,hj2,show(zbl cs).length-(j+1)=(zbl cs).length-j-1 from by omega];exact Ze
         case hS=>(try dsimp only);rw[hws];exact fun w' hw=>hw.sel Zl
         case hμ=>(try dsimp only);omega
         case hp =>
          dsimp only
          rw[hj2]
          refine⟨by omega,fun k hk=>(Nat.lt_succ_iff_lt_or_eq.1 hk).elim (fun e=>hgap k e) (fun e=>by subst e;exact hgj),by omega,fun hlt g hg=>?_⟩
          cases hg
          rw[if_neg Zo]
          exact⟨by rw[Nat.mul_one],by omega⟩
       ·have hgt:=hV (by rw[hgj,decide_eq_true Zo];rfl)
        repeat' (first|refine zdq ?_|refine Zha ?_|(refine Zhb ?_;intro g)|(refine Zg ?_ ?_<;>(intro h;try exact Zx))|refine GOF ?_ ?_|((with_reducible apply zam (id:=43) 1000 (OT.seq [(0,0),(0,1),(0,3),(0,4),(1,2),(0,5),(0,6)] .nil));kernel_rfl;exact rfl;kernel_rfl;exact Zd)|((with_reducible apply zam (id:=47) 1000 (OT.seq [(0,0),(1,1),(0,2),(0,3),(0,4),(0,6),(0,7),(0,8),(0,9),(1,5),(1,10),(0,11),(0,12),(0,13),(0,14),(0,16),(1,15),(0,17),(0,18)] .nil));kernel_rfl;exact rfl;kernel_rfl;exact Zd)|fail)
        ((with_reducible apply zau Tryz.results40);exact Zr;intro w' hw)
        rw[hfin _ hgt (show(8:Int)≠0 by decide),hgt]
        exact⟨none,0,rfl,Own.nil _ _,hw.below0 rfl⟩
      ·obtain⟨qq,rfl⟩:∃qq:Nat,q=(qq:Int):=⟨q.toNat,by omega⟩
       have hht:hasT cs n=true:=by
        cases h:hasT cs n
        ·exact absurd (hlh.1.2 h) hq
        ·rfl
       rw[if_pos hht] at hms
       rw[if_neg hq,Int.toNat_natCast] at hwho
       rw[hwho] at hws
       repeat' (first|refine zdq ?_|refine Zga ?_|(refine Zgb ?_;intro g)|(refine Zg ?_ ?_<;>(intro h;try exact Zx))|((with_reducible (first|apply zaa|apply TD_e3z|apply zan|apply zaf|apply zae));((with_reducible apply zaw (enc:=za7) (xx:=qq));exact rfl;exact rfl;exact Zm;exact rfl;exact fun _=>rfl;exact fun _=>rfl;(intro A' c';exact Zu);(omega);decide;exact rfl);exact Zh;(rintro _ _ ⟨A',c',rfl,rfl⟩);(try refine⟨SUB,?_⟩))|fail)
       apply zab (n+1,OA,oc,A',c')
       case hE=>(try dsimp only);rw[hws,hms,hj];exact Ze
       case hS=>(try dsimp only);rw[hws];exact fun w' hw=>hw.sel Zl
       case hμ=>(try dsimp only);omega
       case hp=>dsimp only;rw[hms,hj];exact⟨by omega,hgap,hjl,hop⟩
    ·obtain rfl:n=zib cs:=by omega
     have hV:zbC cs=⟨0,0,0⟩:=by rw[hchk,zaP (by rw[hml];exact hgap)]
     have hN:tkNum cs=(List.range (zib cs)).map (whoT cs):=by unfold tkNum;rw[hV];rfl
     repeat' (first|refine zdq ?_|refine Zga ?_|(refine Zgb ?_;intro g)|(refine Zg ?_ ?_<;>(intro h;try exact Zx))|fail)
     ((with_reducible apply zau Tryz.results40);exact Zr;intro w' hw)
     rw[hN,hV]
     exact⟨A5,c5,rfl,hw.ownOut rfl Zm,hw.below0 rfl⟩
end
end
end Go.Proofs.YtjdckepbihcgfaaGreatDoor
