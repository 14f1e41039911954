/- Lemmas for the walks (Zn3, Zn4, Zn5). No condition. -/
import Derived.Test.YtjdckepbihcgfaaGreatDoorG22
set_option linter.unusedSimpArgs false
set_option linter.unusedVariables false
set_option linter.unusedSectionVars false
set_option linter.unnecessarySimpa false
set_option maxRecDepth 100000
set_option maxHeartbeats 8000000
namespace Go.Proofs.YtjdckepbihcgfaaGreatDoor
section
open Go.RowKit
theorem Q0Zn3{p R:Prop}(r:R)(h:Rest R→p:=by intro r;(first|with_reducible (first|apply zcE|apply za9|apply zba|apply zbd|apply zbe)|((with_reducible (first|apply zaN|apply zaO));exact rfl;exact rfl;(with_reducible exact rfl)));(first|((with_reducible apply zci);exact rfl;exact rfl;omega)|exact QS.auto);exact rfl;exact r.out):p:=h ⟨r⟩
section
variable (A:Option Addr)(c:Nat)(cs:List Cl)(w:World)(hl:cs.length≤200)(hA:zh2 w A cs) 
include hl hA
theorem zdn(v:Int):Calls Tryz.prog 82 #[.slice A cs.length c,.int .i64 v] w fun e w'=>e=.returned (.tuple #[.int .i64 (if zct cs v<0 then 0 else zct cs v),.bool (decide (0≤zct cs v))])∧Below w.heap.size w w':=by
 refine zaj (S:=[]) [] Tryz.func82 rfl Tryz.ntmps82 Zj (Mem.nil _) ?_
 repeat' (first|refine Q0Zn3 ?_|refine Zga ?_|(refine Zgb ?_;intro g)|(refine Zg ?_ ?_<;>(intro h;try exact Zx))|fail)
 refine zap (X:=Nat) (fun k=>[(10,.int .i64 (k:Nat)),(9,.int .i64 cs.length),(8,.slice A cs.length c),(1,.int .i64 v)]) (fun _=>[]) (fun k=>k≤cs.length∧∀i,i<k→isWr cs v i=false) (fun k=>cs.length-k) 0 ⟨by omega,fun i hi=>by omega⟩ Ze (by exact zaK) ?_
 rintro k ⟨hk,hno⟩
 by_cases hkl:k<cs.length
 ·obtain⟨b,o,rfl,_⟩:=RdE.open hA Zo
  have hck:=zay hkl
  have hw1:isWr cs v k=(decide (cs[k].kind=1)&&decide (cs[k].arg=v)):=by unfold isWr;rw[hck]
  by_cases h1:cs[k].kind=1∧cs[k].arg=v
  ·have hat:zct cs v=(k:Int):=zjd hkl hno (by rw[hw1,decide_eq_true h1.1,decide_eq_true h1.2];rfl)
   obtain⟨h1a,h1b⟩:=h1
   rw[hat,if_neg Zo,decide_eq_true Zo]
   repeat' (first|refine Q0Zn3 ?_|refine Zga ?_|(refine Zgb ?_;intro g)|(refine Zg ?_ ?_<;>(intro h;try exact Zx))|fail)
   all_goals
    (refine zah Tryz.results82 rfl (fun w' hw=>?_))
    exact⟨rfl,hw.below0 rfl⟩
  ·have hf:isWr cs v k=false:=by
    rw[hw1,Bool.eq_false_iff]
    intro e
    simp only[Bool.and_eq_true,decide_eq_true_eq] at e
    exact h1 e
   by_cases h1a:cs[k].kind=1
   ·have h1b:¬cs[k].arg=v:=fun e=>h1 ⟨h1a,e⟩
    repeat' (first|refine Q0Zn3 ?_|refine Zga ?_|(refine Zgb ?_;intro g)|(refine Zg ?_ ?_<;>(intro h;try exact Zx))|fail)
    all_goals exact zab (k+1) ⟨hkl,fun i hi=>(Nat.lt_succ_iff_lt_or_eq.1 hi).elim (fun e=>hno i e) (fun e=>by subst e;exact hf)⟩ Zo Ze (by exact zaK)
   ·repeat' (first|refine Q0Zn3 ?_|refine Zga ?_|(refine Zgb ?_;intro g)|(refine Zg ?_ ?_<;>(intro h;try exact Zx))|fail)
    all_goals exact zab (k+1) ⟨hkl,fun i hi=>(Nat.lt_succ_iff_lt_or_eq.1 hi).elim (fun e=>hno i e) (fun e=>by subst e;exact hf)⟩ Zo Ze (by exact zaK)
 ·obtain rfl:k=cs.length:=by omega
  have hat:zct cs v=-1:=zik hno
  rw[hat,if_pos Zi,decide_eq_false Zi]
  repeat' (first|refine Q0Zn3 ?_|refine Zga ?_|(refine Zgb ?_;intro g)|(refine Zg ?_ ?_<;>(intro h;try exact Zx))|fail)
  (refine zah Tryz.results82 rfl (fun w' hw=>?_))
  exact⟨rfl,hw.below0 rfl⟩
end
section
variable (B0:Option Addr)(d0:Nat)(l:List Ev)(w:World)(hl:l.length≤9223372036854775807)(hA:RdEv w B0 l) 
include hl hA
theorem zjU:Calls Tryz.prog 35 #[.slice B0 l.length d0] w fun e w'=>∃A c,e=.returned (.tuple #[.slice A (zaY l).1.length c,.int .i64 (zaY l).2])∧Own Cl.enc 7 36 w' w.heap.size (.slice A (zaY l).1.length c) (zaY l).1∧Below w.heap.size w w':=by
 have hcf:=fun A w h1 h2=>zee A B0 1 d0 [1] l w Zi hl h1 h2
 have her:=zhm (l:=l)
 have hbad:=fun h i h1 h2=>zhn (l:=l) h (i:=i) h1 h2
 have hgood:=zjE (l:=l)
 have hlen:=zbi [1] l
 obtain⟨cs,y,er,hcr⟩:∃cs y z,zai [1] l=(cs,y,z):=⟨_,_,_,rfl⟩
 rw[hcr] at hcf her hbad hgood hlen
 dsimp only at hcf her hbad hgood hlen
 generalize zaY l=R at *
 refine zaj (S:=[]) [] Tryz.func35 rfl Tryz.ntmps35 Zj (Mem.nil _) ?_
 repeat' (first|((with_reducible refine zdw (S':=[zac zag 1 3 (some ⟨g,0,none⟩) 1 [1]]) (fun w hw=>Mem.asOwn (enc:=zag) (M:=1) [1] (Upd.here _ _ _) rfl (fun _=>rfl) Zi hw) ?_))|refine Q0Zn3 ?_|refine Zga ?_|(refine Zgb ?_;intro g)|(refine Zg ?_ ?_<;>(intro h;try exact Zx))|((with_reducible (first|apply zaa|apply TD_e3z|apply zan|apply zaf|apply zae));((with_reducible apply zal (f:=30));exact rfl;(intro w hw;exact hcf (some ⟨g,0,none⟩) w (hw.ownRd Zm (fun _=>rfl)) (hw.rd rfl hA));exact rfl);exact Zh;(rintro _ _ ⟨A1,c1,rfl,rfl⟩);(try refine⟨SUB,?_⟩))|fail)
 ·obtain rfl:=her (by assumption)
  (refine zah Tryz.results35 rfl (fun w' hw=>?_))
  exact⟨none,0,rfl,Own.nil _ _,hw.below0 rfl⟩
 ·have h0:er=0:=by assumption
  have hbad:=hbad h0
  have hgood:=hgood h0
  refine ziW (p:=cs.length≤c1∧(A1=none→c1=0)) (fun w hw=>hw.ownFacts (enc:=Cl.enc) (M:=7) (et:=36) Zm) fun hf0=>?_
  have hca:=hf0.1
  refine zap (X:=Nat) (fun k=>[(23,.int .i64 (k:Nat)),(22,.int .i64 cs.length),(21,.slice A1 cs.length c1),(4,.slice A1 cs.length c1)]) (fun _=>[zac Cl.enc 7 36 A1 c1 cs]) (fun k=>k≤cs.length∧∀i,i<k→zdi cs i=false) (fun k=>cs.length-k) 0 ⟨by omega,fun i hi=>by omega⟩ Ze (fun _ hw=>hw.sel Zl) ?_
  rintro k ⟨hk,hno⟩
  by_cases hkl:k<cs.length
  ·have hck:=zay hkl
   have hcl:zdi cs k=(decide (cs[k].kind=1)&&(List.range k).any fun j=>decide ((clK cs j).kind=1)&&decide ((clK cs j).arg=cs[k].arg)):=by unfold zdi;rw[hck]
   have hbk:=hbad k hkl
   refine zb1 (enc:=Cl.enc) (ls:=cs) Zm Zo ?_
   rintro gC rfl
   have hyes:∀q,q<k→cs[k].kind=1→(clK cs q).kind=1→(clK cs q).arg=cs[k].arg→R=([],6):=fun q hq e1 e2 e3=>hbk (by
    rw[hcl,decide_eq_true e1,Bool.true_and,List.any_eq_true]
    exact⟨q,List.mem_range.2 hq,by simp[e2,e3]⟩)
   have hnn:(∀q,q<k→(decide (cs[k].kind=1)&&(decide ((clK cs q).kind=1)&&decide ((clK cs q).arg=cs[k].arg)))=false)→zdi cs k=false:=fun hq=>by
    rw[hcl]
    by_cases e:cs[k].kind=1
    ·rw[decide_eq_true e,Bool.true_and,List.any_eq_false]
     intro q hq2
     have:=hq q (List.mem_range.1 hq2)
     rw[decide_eq_true e,Bool.true_and] at this
     rw[this];decide
    ·rw[decide_eq_false e];rfl
   clear hcl hbk hbad
   repeat' (first|refine Q0Zn3 ?_|refine Zga ?_|(refine Zgb ?_;intro g)|(refine Zg ?_ ?_<;>(intro h;try exact Zx))|fail)
   all_goals first|(exfalso;omega)|skip
   refine zap (X:=Nat) (fun j=>[(32,.int .i64 (j:Nat)),(31,.int .i64 (k:Nat)),(30,.slice (some ⟨gC,0,none⟩) k c1),(8,.pointer (some ⟨g,0,none⟩)),(23,.int .i64 (k:Nat)),(22,.int .i64 cs.length),(21,.slice (some ⟨gC,0,none⟩) cs.length c1),(4,.slice (some ⟨gC,0,none⟩) cs.length c1)]) (fun _=>[zak g 36 (Cl.enc cs[k]).toArray,zac Cl.enc 7 36 (some ⟨gC,0,none⟩) c1 cs])
    (fun j=>j≤k∧∀q,q<j→(decide (cs[k].kind=1)&&(decide ((clK cs q).kind=1)&&decide ((clK cs q).arg=cs[k].arg)))=false) (fun j=>k-j) 0 ⟨by omega,fun q hq=>by omega⟩ Ze (fun _ hw=>hw.sel Zl) ?_
   rintro j ⟨hj,hjn⟩
   by_cases hjk:j<k
   ·have hcj:=zay (cs:=cs) (i:=j) Zo
    have hyj:=hyes j hjk
    have hnj:(decide (cs[k].kind=1)&&(decide ((clK cs j).kind=1)&&decide ((clK cs j).arg=cs[k].arg)))=false→∀q,q<j+1→(decide (cs[k].kind=1)&&(decide ((clK cs q).kind=1)&&decide ((clK cs q).arg=cs[k].arg)))=false:=fun hb q hq=>(Nat.lt_succ_iff_lt_or_eq.1 hq).elim (fun e=>hjn q e) (fun e=>by subst e;exact hb)
    rw[hcj] at hyj hnj
    repeat' (first|refine Q0Zn3 ?_|refine Zga ?_|(refine Zgb ?_;intro g)|(refine Zg ?_ ?_<;>(intro h;try exact Zx))|fail)
    all_goals first
     |(exfalso;omega)
     |((refine zah Tryz.results35 rfl (fun w' hw=>?_));obtain rfl:=hyj (by assumption) (by assumption) Zo;exact⟨none,0,rfl,Own.nil _ _,hw.below0 rfl⟩)
     |exact zab (j+1) ⟨hjk,hnj (by simp[*];try omega)⟩ Zo Ze (fun _ hw=>hw.sel Zl)
   ·obtain rfl:j=k:=by omega
    have hbn:=hnn hjn
    repeat' (first|refine Q0Zn3 ?_|refine Zga ?_|(refine Zgb ?_;intro g)|(refine Zg ?_ ?_<;>(intro h;try exact Zx))|fail)
    exact zab (j+1) ⟨hkl,fun i hi=>(Nat.lt_succ_iff_lt_or_eq.1 hi).elim (fun e=>hno i e) (fun e=>by subst e;exact hbn)⟩ Zo Ze (fun _ hw=>hw.sel Zl)
  ·obtain rfl:k=cs.length:=by omega
   obtain rfl:=hgood hno
   repeat' (first|refine Q0Zn3 ?_|refine Zga ?_|(refine Zgb ?_;intro g)|(refine Zg ?_ ?_<;>(intro h;try exact Zx))|fail)
   (refine zah Tryz.results35 rfl (fun w' hw=>?_))
   exact⟨A1,c1,rfl,hw.ownOut rfl Zm,hw.below0 rfl⟩
end
end
section
open Go.RowKit
def begD(cs:List Cl)(v:Int):Cz :=
 if v=0 then⟨-1,-1,false⟩ else if zct cs v<0 then⟨200,-1,false⟩ else begZ cs v
def endD(cs:List Cl)(v:Int):Cz:=zaT cs v (begD cs v) cs.length
def zonD(cs:List Cl)(v:Int):Zon:=⟨v,(endD cs v).zf,(endD cs v).zl,decide ((endD cs v).zf<(endD cs v).zl)⟩
def okD(cs:List Cl)(v:Int):Bool:=(decide (v=0)||decide (0≤zct cs v))&&(endD cs v).some_
theorem okD_zon{cs:List Cl}{v:Nat}(h:isV cs v=true):begD cs (v:Int)=begZ cs (v:Int):=by
 unfold isV at h
 unfold begD begZ
 by_cases e:(v:Int)=0
 ·rw[if_pos e,if_pos e]
 ·rw[if_neg e,if_neg e,if_neg]
  simp only[Bool.or_eq_true,decide_eq_true_eq] at h
  omega
theorem Zon.enc_mk(a b c:Int)(f:Bool):Zon.enc ⟨a,b,c,f⟩=[.int .i64 a,.int .i64 b,.int .i64 c,.bool f]:=rfl
theorem zgN{cs:List Cl}{v:Int}{z:Cz}{i:Nat}(h:isRd cs v i=true):zh7 cs v z i=⟨if(clK cs i).to<z.zf then(clK cs i).to else z.zf,if z.zl<(clK cs i).from_ then(clK cs i).from_ else z.zl,true⟩:=by
 unfold zh7
 rw[if_pos h]
 congr 1
 ·rw[Int.min_def];split<;>split<;>omega
 ·rw[Int.max_def];split<;>split<;>omega
theorem ziu{cs:List Cl}{v:Int}{z:Cz}{i:Nat}(h:isRd cs v i=false):zh7 cs v z i=z:=by
 unfold zh7;rw[if_neg (by simp[h])]
section
variable (A:Option Addr)(c:Nat)(cs:List Cl)(w:World)(hl:cs.length≤200)(hA:zh2 w A cs) 
include hl hA
theorem zoneOf_zero(v:Int)(hv:v=0)(h0:zct cs v=-1):Calls Tryz.prog 83 #[.slice A cs.length c,.int .i64 v] w fun e w'=>e=.returned (.tuple #[.agg (Zon.enc (zonD cs v)).toArray,.bool (okD cs v)])∧Below w.heap.size w w':=by
 have hwo:=fun w h=>zdn A c cs w hl h v
 rw[h0,if_pos Zi,decide_eq_false Zi] at hwo
 obtain⟨Z0,hZ0⟩:∃Z,Z=begD cs v:=⟨_,rfl⟩
 have hZ1:Z0=⟨-1,-1,false⟩:=by rw[hZ0];unfold begD;rw[if_pos hv]
 refine zaj (S:=[]) [] Tryz.func83 rfl Tryz.ntmps83 Zj (Mem.nil _) ?_
 repeat' (first|refine Zga ?_|(refine Zgb ?_;intro g)|(refine Zg ?_ ?_<;>(intro h;try exact Zx))|((with_reducible (first|apply zaa|apply TD_e3z|apply zan|apply zaf|apply zae));((with_reducible apply zad (f:=82));exact rfl;(intro w hw;exact hwo w (hw.rd rfl hA));exact rfl);exact Zh;(rintro _ _ ⟨rfl,rfl⟩);(try refine⟨SUB,?_⟩))|fail)
 all_goals first|(exfalso;omega)|skip
 obtain⟨gz,rfl⟩:∃x,x=g:=⟨_,rfl⟩
 obtain⟨g4,rfl⟩:∃x,x=g:=⟨_,rfl⟩
 (refine zap (X:=Nat×Nat) (fun x=>[(45,.int .i64 (x.1:Nat)),(44,.int .i64 cs.length),(7,.int .i64 (x.2:Nat)),(9,.bool true),(10,.bool false),(43,.slice A cs.length c),(1,.int .i64 v),(6,.pointer (some ⟨gz,0,none⟩)),(4,.pointer (some ⟨g4,0,none⟩))]) (fun x=>[zak gz 142 #[.int .i64 v,.int .i64 (zaT cs v Z0 x.1).zf,.int .i64 (zaT cs v Z0 x.1).zl,.bool false],zak g4 142 #[.int .i64 0,.int .i64 0,.int .i64 0,.bool false]]) (fun x=>x.1≤cs.length∧x.2≤x.1∧(zaT cs v Z0 x.1).some_=(Z0.some_||decide (0<x.2))) (fun x=>cs.length-x.1) (0,0) ⟨by(try dsimp only);omega,by(try dsimp only);omega,by simp[zaT]⟩ (by(try dsimp only);exact Ze) (fun w' hw=>by(try dsimp only);rw[show zaT cs v Z0 0=Z0 from rfl,hZ1];exact hw.sel Zl) ?_)
 rintro⟨k,r⟩ ⟨hk,hrk,hsm⟩
 dsimp only at hk hrk hsm ⊢
 by_cases hkl:k<cs.length
 ·obtain⟨b,o,rfl,_⟩:=RdE.open hA Zo
  have hck:=zay hkl
  have hz1:zaT cs v Z0 (k+1)=zh7 cs v (zaT cs v Z0 k) k:=rfl
  have hr1:isRd cs v k=(decide (cs[k].kind=2)&&(decide (cs[k].to≠-1)&&decide (cs[k].res=v))):=by unfold isRd;rw[hck]
  by_cases hrd:cs[k].kind=2∧cs[k].to≠-1∧cs[k].res=v
  ·obtain⟨q1,q2,q3⟩:=hrd
   rw[zgN (by rw[hr1,decide_eq_true q1,decide_eq_true q2,decide_eq_true q3];rfl),hck] at hz1
   have hr2:(((r+1:Nat):Int))=((r:Nat):Int)+1:=by omega
   generalize zaT cs v Z0 k=Z at *
   repeat' (first|refine Zga ?_|(refine Zgb ?_;intro g)|(refine Zg ?_ ?_<;>(intro h;try exact Zx))|fail)
   all_goals
    apply zab (k+1,r+1)
    case hE=>(try dsimp only);exact Ze
    case hS=>(try dsimp only);rw[hz1];(try dsimp only);(first|rw[if_pos Zo]|rw[if_neg Zo]);(first|rw[if_pos Zo]|rw[if_neg Zo]);exact fun w' hw=>hw.sel Zl
    case hμ=>(try dsimp only);omega
    case hp=>exact⟨hkl,by(try dsimp only);omega,by(try dsimp only);rw[hz1];simp⟩
  ·rw[ziu (by
    rw[hr1,Bool.eq_false_iff]
    intro e
    simp only[Bool.and_eq_true,decide_eq_true_eq] at e
    exact hrd ⟨e.1,e.2.1,e.2.2⟩)] at hz1
   generalize zaT cs v Z0 k=Z at *
   by_cases q1:cs[k].kind=2
   ·by_cases q2:cs[k].to=-1
    ·repeat' (first|refine Zga ?_|(refine Zgb ?_;intro g)|(refine Zg ?_ ?_<;>(intro h;try exact Zx))|fail)
     all_goals
      apply zab (k+1,r)
      case hE=>(try dsimp only);exact Ze
      case hS=>(try dsimp only);rw[hz1];exact fun w' hw=>hw.sel Zl
      case hμ=>(try dsimp only);omega
      case hp=>exact⟨hkl,by(try dsimp only);omega,by(try dsimp only);rw[hz1];exact hsm⟩
    ·have q3:¬cs[k].res=v:=fun e=>hrd ⟨q1,q2,e⟩
     repeat' (first|refine Zga ?_|(refine Zgb ?_;intro g)|(refine Zg ?_ ?_<;>(intro h;try exact Zx))|fail)
     all_goals
      apply zab (k+1,r)
      case hE=>(try dsimp only);exact Ze
      case hS=>(try dsimp only);rw[hz1];exact fun w' hw=>hw.sel Zl
      case hμ=>(try dsimp only);omega
      case hp=>exact⟨hkl,by(try dsimp only);omega,by(try dsimp only);rw[hz1];exact hsm⟩
   ·repeat' (first|refine Zga ?_|(refine Zgb ?_;intro g)|(refine Zg ?_ ?_<;>(intro h;try exact Zx))|fail)
    all_goals
     apply zab (k+1,r)
     case hE=>(try dsimp only);exact Ze
     case hS=>(try dsimp only);rw[hz1];exact fun w' hw=>hw.sel Zl
     case hμ=>(try dsimp only);omega
     case hp=>exact⟨hkl,by(try dsimp only);omega,by(try dsimp only);rw[hz1];exact hsm⟩
 ·obtain rfl:k=cs.length:=by omega
  have hend:endD cs v=zaT cs v Z0 cs.length:=by unfold endD;rw[hZ0]
  unfold zonD okD
  rw[hend,hsm]
  generalize zaT cs v Z0 cs.length=Z at *
  by_cases hr0:0<r
  ·have hr3:(0:Int)<((r:Nat):Int):=by omega
   repeat' (first|refine Zga ?_|(refine Zgb ?_;intro g)|(refine Zg ?_ ?_<;>(intro h;try exact Zx))|fail)
   all_goals(((with_reducible apply zau Tryz.results83);exact Zr;intro w' hw);exact⟨by simp[za0,Zon.enc_mk,hZ1,hr3, *],hw.below0 rfl⟩)
  ·obtain rfl:r=0:=by omega
   have hr3:¬(0:Int)<((0:Nat):Int):=by omega
   repeat' (first|refine Zga ?_|(refine Zgb ?_;intro g)|(refine Zg ?_ ?_<;>(intro h;try exact Zx))|fail)
   all_goals(((with_reducible apply zau Tryz.results83);exact Zr;intro w' hw);exact⟨by simp[za0,Zon.enc_mk,hZ1,hr3, *],hw.below0 rfl⟩)
end
end
section
open Go.RowKit
section
variable (A:Option Addr)(c:Nat)(cs:List Cl)(w:World)(hl:cs.length≤200)(hA:zh2 w A cs) 
include hl hA
theorem zoneOf_none(v:Int)(hv:¬v=0)(h0:zct cs v=-1):Calls Tryz.prog 83 #[.slice A cs.length c,.int .i64 v] w fun e w'=>e=.returned (.tuple #[.agg (Zon.enc (zonD cs v)).toArray,.bool (okD cs v)])∧Below w.heap.size w w':=by
 have hwo:=fun w h=>zdn A c cs w hl h v
 rw[h0,if_pos Zi,decide_eq_false Zi] at hwo
 obtain⟨Z0,hZ0⟩:∃Z,Z=begD cs v:=⟨_,rfl⟩
 have hZ1:Z0=⟨200,-1,false⟩:=by rw[hZ0];unfold begD;rw[if_neg hv,if_pos Zo]
 refine zaj (S:=[]) [] Tryz.func83 rfl Tryz.ntmps83 Zj (Mem.nil _) ?_
 repeat' (first|refine Zga ?_|(refine Zgb ?_;intro g)|(refine Zg ?_ ?_<;>(intro h;try exact Zx))|((with_reducible (first|apply zaa|apply TD_e3z|apply zan|apply zaf|apply zae));((with_reducible apply zad (f:=82));exact rfl;(intro w hw;exact hwo w (hw.rd rfl hA));exact rfl);exact Zh;(rintro _ _ ⟨rfl,rfl⟩);(try refine⟨SUB,?_⟩))|fail)
 all_goals first|(exfalso;omega)|skip
 obtain⟨gz,rfl⟩:∃x,x=g:=⟨_,rfl⟩
 obtain⟨g4,rfl⟩:∃x,x=g:=⟨_,rfl⟩
 (refine zap (X:=Nat×Nat) (fun x=>[(45,.int .i64 (x.1:Nat)),(44,.int .i64 cs.length),(7,.int .i64 (x.2:Nat)),(9,.bool false),(10,.bool false),(43,.slice A cs.length c),(1,.int .i64 v),(6,.pointer (some ⟨gz,0,none⟩)),(4,.pointer (some ⟨g4,0,none⟩))]) (fun x=>[zak gz 142 #[.int .i64 v,.int .i64 (zaT cs v Z0 x.1).zf,.int .i64 (zaT cs v Z0 x.1).zl,.bool false],zak g4 142 #[.int .i64 0,.int .i64 0,.int .i64 0,.bool false]]) (fun x=>x.1≤cs.length∧x.2≤x.1∧(zaT cs v Z0 x.1).some_=(Z0.some_||decide (0<x.2))) (fun x=>cs.length-x.1) (0,0) ⟨by(try dsimp only);omega,by(try dsimp only);omega,by simp[zaT]⟩ (by(try dsimp only);exact Ze) (fun w' hw=>by(try dsimp only);rw[show zaT cs v Z0 0=Z0 from rfl,hZ1];exact hw.sel Zl) ?_)
 rintro⟨k,r⟩ ⟨hk,hrk,hsm⟩
 dsimp only at hk hrk hsm ⊢
 by_cases hkl:k<cs.length
 ·obtain⟨b,o,rfl,_⟩:=RdE.open hA Zo
  have hck:=zay hkl
  have hz1:zaT cs v Z0 (k+1)=zh7 cs v (zaT cs v Z0 k) k:=rfl
  have hr1:isRd cs v k=(decide (cs[k].kind=2)&&(decide (cs[k].to≠-1)&&decide (cs[k].res=v))):=by unfold isRd;rw[hck]
  by_cases hrd:cs[k].kind=2∧cs[k].to≠-1∧cs[k].res=v
  ·obtain⟨q1,q2,q3⟩:=hrd
   rw[zgN (by rw[hr1,decide_eq_true q1,decide_eq_true q2,decide_eq_true q3];rfl),hck] at hz1
   have hr2:(((r+1:Nat):Int))=((r:Nat):Int)+1:=by omega
   generalize zaT cs v Z0 k=Z at *
   repeat' (first|refine Zga ?_|(refine Zgb ?_;intro g)|(refine Zg ?_ ?_<;>(intro h;try exact Zx))|fail)
   all_goals
    apply zab (k+1,r+1)
    case hE=>(try dsimp only);exact Ze
    case hS=>(try dsimp only);rw[hz1];(try dsimp only);(first|rw[if_pos Zo]|rw[if_neg Zo]);(first|rw[if_pos Zo]|rw[if_neg Zo]);exact fun w' hw=>hw.sel Zl
    case hμ=>(try dsimp only);omega
    case hp=>exact⟨hkl,by(try dsimp only);omega,by(try dsimp only);rw[hz1];simp⟩
  ·rw[ziu (by
    rw[hr1,Bool.eq_false_iff]
    intro e
    simp only[Bool.and_eq_true,decide_eq_true_eq] at e
    exact hrd ⟨e.1,e.2.1,e.2.2⟩)] at hz1
   generalize zaT cs v Z0 k=Z at *
   by_cases q1:cs[k].kind=2
   ·by_cases q2:cs[k].to=-1
    ·repeat' (first|refine Zga ?_|(refine Zgb ?_;intro g)|(refine Zg ?_ ?_<;>(intro h;try exact Zx))|fail)
     all_goals
      apply zab (k+1,r)
      case hE=>(try dsimp only);exact Ze
      case hS=>(try dsimp only);rw[hz1];exact fun w' hw=>hw.sel Zl
      case hμ=>(try dsimp only);omega
      case hp=>exact⟨hkl,by(try dsimp only);omega,by(try dsimp only);rw[hz1];exact hsm⟩
    ·have q3:¬cs[k].res=v:=fun e=>hrd ⟨q1,q2,e⟩
     repeat' (first|refine Zga ?_|(refine Zgb ?_;intro g)|(refine Zg ?_ ?_<;>(intro h;try exact Zx))|fail)
     all_goals
      apply zab (k+1,r)
      case hE=>(try dsimp only);exact Ze
      case hS=>(try dsimp only);rw[hz1];exact fun w' hw=>hw.sel Zl
      case hμ=>(try dsimp only);omega
      case hp=>exact⟨hkl,by(try dsimp only);omega,by(try dsimp only);rw[hz1];exact hsm⟩
   ·repeat' (first|refine Zga ?_|(refine Zgb ?_;intro g)|(refine Zg ?_ ?_<;>(intro h;try exact Zx))|fail)
    all_goals
     apply zab (k+1,r)
     case hE=>(try dsimp only);exact Ze
     case hS=>(try dsimp only);rw[hz1];exact fun w' hw=>hw.sel Zl
     case hμ=>(try dsimp only);omega
     case hp=>exact⟨hkl,by(try dsimp only);omega,by(try dsimp only);rw[hz1];exact hsm⟩
 ·obtain rfl:k=cs.length:=by omega
  have hend:endD cs v=zaT cs v Z0 cs.length:=by unfold endD;rw[hZ0]
  unfold zonD okD
  rw[hend,hsm]
  generalize zaT cs v Z0 cs.length=Z at *
  by_cases hr0:0<r
  ·have hr3:(0:Int)<((r:Nat):Int):=by omega
   repeat' (first|refine Zga ?_|(refine Zgb ?_;intro g)|(refine Zg ?_ ?_<;>(intro h;try exact Zx))|fail)
   all_goals(((with_reducible apply zau Tryz.results83);exact Zr;intro w' hw);exact⟨by simp[za0,Zon.enc_mk,hZ1,hr3, *],hw.below0 rfl⟩)
  ·obtain rfl:r=0:=by omega
   have hr3:¬(0:Int)<((0:Nat):Int):=by omega
   repeat' (first|refine Zga ?_|(refine Zgb ?_;intro g)|(refine Zg ?_ ?_<;>(intro h;try exact Zx))|fail)
   all_goals(((with_reducible apply zau Tryz.results83);exact Zr;intro w' hw);exact⟨by simp[za0,Zon.enc_mk,hZ1,hr3, *],hw.below0 rfl⟩)
theorem zoneOf_open(v:Int)(hv:¬v=0)(q:Nat)(h0:zct cs v=(q:Nat))(hq:q<cs.length)(ht:cs[q].to=-1):Calls Tryz.prog 83 #[.slice A cs.length c,.int .i64 v] w fun e w'=>e=.returned (.tuple #[.agg (Zon.enc (zonD cs v)).toArray,.bool (okD cs v)])∧Below w.heap.size w w':=by
 have hwo:=fun w h=>zdn A c cs w hl h v
 rw[h0,if_neg Zo,decide_eq_true Zo] at hwo
 obtain⟨bq,oq,rfl,_⟩:=RdE.open hA Zo
 have hcq:=zay hq
 obtain⟨Z0,hZ0⟩:∃Z,Z=begD cs v:=⟨_,rfl⟩
 have hZ1:Z0=⟨200,cs[q].from_,false⟩:=by rw[hZ0];unfold begD begZ;rw[if_neg hv,if_neg Zo,if_neg hv,h0,Int.toNat_natCast,hcq,if_pos ht,ht];rfl
 refine zaj (S:=[]) [] Tryz.func83 rfl Tryz.ntmps83 Zj (Mem.nil _) ?_
 repeat' (first|refine Zga ?_|(refine Zgb ?_;intro g)|(refine Zg ?_ ?_<;>(intro h;try exact Zx))|((with_reducible (first|apply zaa|apply TD_e3z|apply zan|apply zaf|apply zae));((with_reducible apply zad (f:=82));exact rfl;(intro w hw;exact hwo w (hw.rd rfl hA));exact rfl);exact Zh;(rintro _ _ ⟨rfl,rfl⟩);(try refine⟨SUB,?_⟩))|fail)
 all_goals first|(exfalso;omega)|skip
 obtain⟨gz,rfl⟩:∃x,x=g:=⟨_,rfl⟩
 obtain⟨g4,rfl⟩:∃x,x=g:=⟨_,rfl⟩
 (refine zap (X:=Nat×Nat) (fun x=>[(45,.int .i64 (x.1:Nat)),(44,.int .i64 cs.length),(7,.int .i64 (x.2:Nat)),(9,.bool true),(10,.bool false),(43,.slice (some ⟨bq,oq,none⟩) cs.length c),(1,.int .i64 v),(6,.pointer (some ⟨gz,0,none⟩)),(4,.pointer (some ⟨g4,0,none⟩))]) (fun x=>[zak gz 142 #[.int .i64 v,.int .i64 (zaT cs v Z0 x.1).zf,.int .i64 (zaT cs v Z0 x.1).zl,.bool false],zak g4 142 #[.int .i64 0,.int .i64 0,.int .i64 0,.bool false]]) (fun x=>x.1≤cs.length∧x.2≤x.1∧(zaT cs v Z0 x.1).some_=(Z0.some_||decide (0<x.2))) (fun x=>cs.length-x.1) (0,0) ⟨by(try dsimp only);omega,by(try dsimp only);omega,by simp[zaT]⟩ (by(try dsimp only);exact Ze) (fun w' hw=>by(try dsimp only);rw[show zaT cs v Z0 0=Z0 from rfl,hZ1];exact hw.sel Zl) ?_)
 rintro⟨k,r⟩ ⟨hk,hrk,hsm⟩
 dsimp only at hk hrk hsm ⊢
 by_cases hkl:k<cs.length
 ·have hck:=zay hkl
  have hz1:zaT cs v Z0 (k+1)=zh7 cs v (zaT cs v Z0 k) k:=rfl
  have hr1:isRd cs v k=(decide (cs[k].kind=2)&&(decide (cs[k].to≠-1)&&decide (cs[k].res=v))):=by unfold isRd;rw[hck]
  by_cases hrd:cs[k].kind=2∧cs[k].to≠-1∧cs[k].res=v
  ·obtain⟨q1,q2,q3⟩:=hrd
   rw[zgN (by rw[hr1,decide_eq_true q1,decide_eq_true q2,decide_eq_true q3];rfl),hck] at hz1
   have hr2:(((r+1:Nat):Int))=((r:Nat):Int)+1:=by omega
   generalize zaT cs v Z0 k=Z at *
   repeat' (first|refine Zga ?_|(refine Zgb ?_;intro g)|(refine Zg ?_ ?_<;>(intro h;try exact Zx))|fail)
   all_goals
    apply zab (k+1,r+1)
    case hE=>(try dsimp only);exact Ze
    case hS=>(try dsimp only);rw[hz1];(try dsimp only);(first|rw[if_pos Zo]|rw[if_neg Zo]);(first|rw[if_pos Zo]|rw[if_neg Zo]);exact fun w' hw=>hw.sel Zl
    case hμ=>(try dsimp only);omega
    case hp=>exact⟨hkl,by(try dsimp only);omega,by(try dsimp only);rw[hz1];simp⟩
  ·rw[ziu (by
    rw[hr1,Bool.eq_false_iff]
    intro e
    simp only[Bool.and_eq_true,decide_eq_true_eq] at e
    exact hrd ⟨e.1,e.2.1,e.2.2⟩)] at hz1
   generalize zaT cs v Z0 k=Z at *
   by_cases q1:cs[k].kind=2
   ·by_cases q2:cs[k].to=-1
    ·repeat' (first|refine Zga ?_|(refine Zgb ?_;intro g)|(refine Zg ?_ ?_<;>(intro h;try exact Zx))|fail)
     all_goals
      apply zab (k+1,r)
      case hE=>(try dsimp only);exact Ze
      case hS=>(try dsimp only);rw[hz1];exact fun w' hw=>hw.sel Zl
      case hμ=>(try dsimp only);omega
      case hp=>exact⟨hkl,by(try dsimp only);omega,by(try dsimp only);rw[hz1];exact hsm⟩
    ·have q3:¬cs[k].res=v:=fun e=>hrd ⟨q1,q2,e⟩
     repeat' (first|refine Zga ?_|(refine Zgb ?_;intro g)|(refine Zg ?_ ?_<;>(intro h;try exact Zx))|fail)
     all_goals
      apply zab (k+1,r)
      case hE=>(try dsimp only);exact Ze
      case hS=>(try dsimp only);rw[hz1];exact fun w' hw=>hw.sel Zl
      case hμ=>(try dsimp only);omega
      case hp=>exact⟨hkl,by(try dsimp only);omega,by(try dsimp only);rw[hz1];exact hsm⟩
   ·repeat' (first|refine Zga ?_|(refine Zgb ?_;intro g)|(refine Zg ?_ ?_<;>(intro h;try exact Zx))|fail)
    all_goals
     apply zab (k+1,r)
     case hE=>(try dsimp only);exact Ze
     case hS=>(try dsimp only);rw[hz1];exact fun w' hw=>hw.sel Zl
     case hμ=>(try dsimp only);omega
     case hp=>exact⟨hkl,by(try dsimp only);omega,by(try dsimp only);rw[hz1];exact hsm⟩
 ·obtain rfl:k=cs.length:=by omega
  have hend:endD cs v=zaT cs v Z0 cs.length:=by unfold endD;rw[hZ0]
  unfold zonD okD
  rw[hend,hsm]
  generalize zaT cs v Z0 cs.length=Z at *
  by_cases hr0:0<r
  ·have hr3:(0:Int)<((r:Nat):Int):=by omega
   repeat' (first|refine Zga ?_|(refine Zgb ?_;intro g)|(refine Zg ?_ ?_<;>(intro h;try exact Zx))|fail)
   all_goals(((with_reducible apply zau Tryz.results83);exact Zr;intro w' hw);exact⟨by simp[za0,Zon.enc_mk,hZ1,hr3, *],hw.below0 rfl⟩)
  ·obtain rfl:r=0:=by omega
   have hr3:¬(0:Int)<((0:Nat):Int):=by omega
   repeat' (first|refine Zga ?_|(refine Zgb ?_;intro g)|(refine Zg ?_ ?_<;>(intro h;try exact Zx))|fail)
   all_goals(((with_reducible apply zau Tryz.results83);exact Zr;intro w' hw);exact⟨by simp[za0,Zon.enc_mk,hZ1,hr3, *],hw.below0 rfl⟩)
theorem zoneOf_done(v:Int)(hv:¬v=0)(q:Nat)(h0:zct cs v=(q:Nat))(hq:q<cs.length)(ht:¬cs[q].to=-1):Calls Tryz.prog 83 #[.slice A cs.length c,.int .i64 v] w fun e w'=>e=.returned (.tuple #[.agg (Zon.enc (zonD cs v)).toArray,.bool (okD cs v)])∧Below w.heap.size w w':=by
 have hwo:=fun w h=>zdn A c cs w hl h v
 rw[h0,if_neg Zo,decide_eq_true Zo] at hwo
 obtain⟨bq,oq,rfl,_⟩:=RdE.open hA Zo
 have hcq:=zay hq
 obtain⟨Z0,hZ0⟩:∃Z,Z=begD cs v:=⟨_,rfl⟩
 have hZ1:Z0=⟨cs[q].to,cs[q].from_,true⟩:=by rw[hZ0];unfold begD begZ;rw[if_neg hv,if_neg Zo,if_neg hv,h0,Int.toNat_natCast,hcq,if_neg ht,decide_eq_true ht]
 refine zaj (S:=[]) [] Tryz.func83 rfl Tryz.ntmps83 Zj (Mem.nil _) ?_
 repeat' (first|refine Zga ?_|(refine Zgb ?_;intro g)|(refine Zg ?_ ?_<;>(intro h;try exact Zx))|((with_reducible (first|apply zaa|apply TD_e3z|apply zan|apply zaf|apply zae));((with_reducible apply zad (f:=82));exact rfl;(intro w hw;exact hwo w (hw.rd rfl hA));exact rfl);exact Zh;(rintro _ _ ⟨rfl,rfl⟩);(try refine⟨SUB,?_⟩))|fail)
 all_goals first|(exfalso;omega)|skip
 obtain⟨gz,rfl⟩:∃x,x=g:=⟨_,rfl⟩
 obtain⟨g4,rfl⟩:∃x,x=g:=⟨_,rfl⟩
 (refine zap (X:=Nat×Nat) (fun x=>[(45,.int .i64 (x.1:Nat)),(44,.int .i64 cs.length),(7,.int .i64 (x.2:Nat)),(9,.bool true),(10,.bool true),(43,.slice (some ⟨bq,oq,none⟩) cs.length c),(1,.int .i64 v),(6,.pointer (some ⟨gz,0,none⟩)),(4,.pointer (some ⟨g4,0,none⟩))]) (fun x=>[zak gz 142 #[.int .i64 v,.int .i64 (zaT cs v Z0 x.1).zf,.int .i64 (zaT cs v Z0 x.1).zl,.bool false],zak g4 142 #[.int .i64 0,.int .i64 0,.int .i64 0,.bool false]]) (fun x=>x.1≤cs.length∧x.2≤x.1∧(zaT cs v Z0 x.1).some_=(Z0.some_||decide (0<x.2))) (fun x=>cs.length-x.1) (0,0) ⟨by(try dsimp only);omega,by(try dsimp only);omega,by simp[zaT]⟩ (by(try dsimp only);exact Ze) (fun w' hw=>by(try dsimp only);rw[show zaT cs v Z0 0=Z0 from rfl,hZ1];exact hw.sel Zl) ?_)
 rintro⟨k,r⟩ ⟨hk,hrk,hsm⟩
 dsimp only at hk hrk hsm ⊢
 by_cases hkl:k<cs.length
 ·have hck:=zay hkl
  have hz1:zaT cs v Z0 (k+1)=zh7 cs v (zaT cs v Z0 k) k:=rfl
  have hr1:isRd cs v k=(decide (cs[k].kind=2)&&(decide (cs[k].to≠-1)&&decide (cs[k].res=v))):=by unfold isRd;rw[hck]
  by_cases hrd:cs[k].kind=2∧cs[k].to≠-1∧cs[k].res=v
  ·obtain⟨q1,q2,q3⟩:=hrd
   rw[zgN (by rw[hr1,decide_eq_true q1,decide_eq_true q2,decide_eq_true q3];rfl),hck] at hz1
   have hr2:(((r+1:Nat):Int))=((r:Nat):Int)+1:=by omega
   generalize zaT cs v Z0 k=Z at *
   repeat' (first|refine Zga ?_|(refine Zgb ?_;intro g)|(refine Zg ?_ ?_<;>(intro h;try exact Zx))|fail)
   all_goals
    apply zab (k+1,r+1)
    case hE=>(try dsimp only);exact Ze
    case hS=>(try dsimp only);rw[hz1];(try dsimp only);(first|rw[if_pos Zo]|rw[if_neg Zo]);(first|rw[if_pos Zo]|rw[if_neg Zo]);exact fun w' hw=>hw.sel Zl
    case hμ=>(try dsimp only);omega
    case hp=>exact⟨hkl,by(try dsimp only);omega,by(try dsimp only);rw[hz1];simp⟩
  ·rw[ziu (by
    rw[hr1,Bool.eq_false_iff]
    intro e
    simp only[Bool.and_eq_true,decide_eq_true_eq] at e
    exact hrd ⟨e.1,e.2.1,e.2.2⟩)] at hz1
   generalize zaT cs v Z0 k=Z at *
   by_cases q1:cs[k].kind=2
   ·by_cases q2:cs[k].to=-1
    ·repeat' (first|refine Zga ?_|(refine Zgb ?_;intro g)|(refine Zg ?_ ?_<;>(intro h;try exact Zx))|fail)
     all_goals
      apply zab (k+1,r)
      case hE=>(try dsimp only);exact Ze
      case hS=>(try dsimp only);rw[hz1];exact fun w' hw=>hw.sel Zl
      case hμ=>(try dsimp only);omega
      case hp=>exact⟨hkl,by(try dsimp only);omega,by(try dsimp only);rw[hz1];exact hsm⟩
    ·have q3:¬cs[k].res=v:=fun e=>hrd ⟨q1,q2,e⟩
     repeat' (first|refine Zga ?_|(refine Zgb ?_;intro g)|(refine Zg ?_ ?_<;>(intro h;try exact Zx))|fail)
     all_goals
      apply zab (k+1,r)
      case hE=>(try dsimp only);exact Ze
      case hS=>(try dsimp only);rw[hz1];exact fun w' hw=>hw.sel Zl
      case hμ=>(try dsimp only);omega
      case hp=>exact⟨hkl,by(try dsimp only);omega,by(try dsimp only);rw[hz1];exact hsm⟩
   ·repeat' (first|refine Zga ?_|(refine Zgb ?_;intro g)|(refine Zg ?_ ?_<;>(intro h;try exact Zx))|fail)
    all_goals
     apply zab (k+1,r)
     case hE=>(try dsimp only);exact Ze
     case hS=>(try dsimp only);rw[hz1];exact fun w' hw=>hw.sel Zl
     case hμ=>(try dsimp only);omega
     case hp=>exact⟨hkl,by(try dsimp only);omega,by(try dsimp only);rw[hz1];exact hsm⟩
 ·obtain rfl:k=cs.length:=by omega
  have hend:endD cs v=zaT cs v Z0 cs.length:=by unfold endD;rw[hZ0]
  unfold zonD okD
  rw[hend,hsm]
  generalize zaT cs v Z0 cs.length=Z at *
  by_cases hr0:0<r
  ·have hr3:(0:Int)<((r:Nat):Int):=by omega
   repeat' (first|refine Zga ?_|(refine Zgb ?_;intro g)|(refine Zg ?_ ?_<;>(intro h;try exact Zx))|fail)
   all_goals(((with_reducible apply zau Tryz.results83);exact Zr;intro w' hw);exact⟨by simp[za0,Zon.enc_mk,hZ1,hr3, *],hw.below0 rfl⟩)
  ·obtain rfl:r=0:=by omega
   have hr3:¬(0:Int)<((0:Nat):Int):=by omega
   repeat' (first|refine Zga ?_|(refine Zgb ?_;intro g)|(refine Zg ?_ ?_<;>(intro h;try exact Zx))|fail)
   all_goals(((with_reducible apply zau Tryz.results83);exact Zr;intro w' hw);exact⟨by simp[za0,Zon.enc_mk,hZ1,hr3, *],hw.below0 rfl⟩)
theorem zoneOf_any(v:Int)(h00:zct cs 0=-1):Calls Tryz.prog 83 #[.slice A cs.length c,.int .i64 v] w fun e w'=>e=.returned (.tuple #[.agg (Zon.enc (zonD cs v)).toArray,.bool (okD cs v)])∧Below w.heap.size w w':=by
 by_cases hv:v=0
 ·exact zoneOf_zero A c cs w hl hA v hv (by rw[hv];exact h00)
 ·rcases zcG cs.length (isWr cs v) with⟨h,_⟩|⟨q,h1,h2,_⟩
  ·exact zoneOf_none A c cs w hl hA v hv h
  ·by_cases ht:cs[q].to=-1
   ·exact zoneOf_open A c cs w hl hA v hv q h2 h1 ht
   ·exact zoneOf_done A c cs w hl hA v hv q h2 h1 ht
end
end
end Go.Proofs.YtjdckepbihcgfaaGreatDoor
