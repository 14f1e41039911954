/- Lemmas for the walks (RelN, Ahc, SeaB, Seq3, Seq4, Seq5). No condition. -/
import Derived.Test.YtjdckepbihcgfaaGreatDoorG19
set_option linter.unusedSimpArgs false
set_option linter.unusedVariables false
set_option linter.unusedSectionVars false
set_option linter.unnecessarySimpa false
set_option maxRecDepth 100000
set_option maxHeartbeats 8000000
namespace Go.Proofs.YtjdckepbihcgfaaGreatDoor
section
def orP(P Q:Nat→Nat→Bool)(k m:Nat)(i j:Nat):Bool:=P i j||(Q i j&&(decide (i<k)||(decide (i=k)&&decide (j<m))))
def zcT(R:Nat→Nat→Bool)(n:Nat):Nat→Nat:=fun i=>if i<n then zbM (R i) n else 0
theorem zdf{p q:Nat→Bool}:∀{n:Nat},(∀j,j<n→p j=q j)→zbM p n=zbM q n
 |0,_=>rfl
 |n+1,h=>by rw[zbM,zbM,zdf (fun j hj=>h j (by omega)),h n (by omega)]
theorem bitsTo_off{p:Nat→Bool}:∀{n:Nat},(∀j,j<n→p j=false)→zbM p n=0
 |0,_=>rfl
 |n+1,h=>by rw[zbM,bitsTo_off (fun j hj=>h j (by omega)),h n (by omega)];rfl
theorem zdY{R R':Nat→Nat→Bool}{n:Nat}(h:∀i j,i<n→j<n→R i j=R' i j):zcT R n=zcT R' n:=by
 funext i
 unfold zcT
 by_cases hi:i<n
 ·rw[if_pos hi,if_pos hi];exact zdf fun j hj=>h i j hi hj
 ·rw[if_neg hi,if_neg hi]
theorem relN_0(n:Nat):zcT (fun _ _=>false) n=fun _=>0:=by
 funext i
 unfold zcT
 split
 ·exact bitsTo_off fun _ _=>rfl
 ·rfl
theorem bitsTo_or{p q:Nat→Bool}{n m:Nat}(hm:m<n)(hq:∀j,j<n→q j=(p j||decide (j=m))):zbM p n ||| 2^m=zbM q n:=by
 apply Nat.eq_of_testBit_eq
 intro j
 rw[Nat.testBit_or,zcD,zcD,Nat.testBit_two_pow]
 by_cases hj:j<n
 ·rw[decide_eq_true hj,hq j hj]
  by_cases e:j=m
  ·subst e;simp
  ·rw[decide_eq_false e,decide_eq_false (fun h=>e h.symm)];simp
 ·rw[decide_eq_false hj,decide_eq_false (show ¬m=j by omega)];rfl
theorem bitsTo_add{p q:Nat→Bool}{m:Nat}(hp:p m=false):∀{n:Nat},m<n→(∀j,j<n→q j=(p j||decide (j=m)))→zbM p n+2^m=zbM q n
 |0,h,_=>by omega
 |n+1,hm,hq=>by
  rw[zbM,zbM]
  have hn:=hq n (by omega)
  by_cases e:n=m
  ·subst e
   have h1:zbM q n=zbM p n:=zdf fun j hj=>by rw[hq j (by omega),decide_eq_false (show ¬j=n by omega)];simp
   rw[h1,hn,hp,decide_eq_true rfl];simp
  ·have ih:=bitsTo_add hp (n:=n) (by omega) (fun j hj=>hq j (by omega))
   rw[hn,decide_eq_false e,Bool.or_false]
   omega
section
variable {P Q:Nat→Nat→Bool}{n k m:Nat} 
theorem orP_0:orP P Q 0 0=P:=by
 funext i j
 unfold orP
 rw[decide_eq_false (show ¬i<0 by omega),decide_eq_false (show ¬j<0 by omega)];simp
theorem zdZ:zcT (orP P Q k n) n=zcT (orP P Q (k+1) 0) n:=zdY fun i j hi hj=>by
 unfold orP
 rw[decide_eq_true hj,decide_eq_false (show ¬j<0 by omega),Bool.and_true,Bool.and_false,Bool.or_false]
 congr 2
 rw[Bool.eq_iff_iff];simp;omega
theorem zd0:zcT (orP P Q n 0) n=zcT (fun i j=>P i j||Q i j) n:=zdY fun i j hi hj=>by
 unfold orP
 rw[decide_eq_true hi];simp
theorem orP_step(j:Nat):orP P Q k (m+1) k j=(orP P Q k m k j||(Q k m&&decide (j=m))):=by
 unfold orP
 by_cases e:j=m
 ·subst e
  rw[decide_eq_true (show j<j+1 by omega),decide_eq_false (show ¬j<j by omega)];simp
 ·rw[decide_eq_false e]
  have:decide (j<m+1)=decide (j<m):=by rw[Bool.eq_iff_iff];simp;omega
  rw[this];simp
theorem zio{i:Nat}(h:i≠k)(m' j:Nat):orP P Q k m i j=orP P Q k m' i j:=by
 unfold orP;rw[decide_eq_false h];simp
theorem relN_yes(hk:k<n)(hm:m<n)(h:Q k m=true):upd (zcT (orP P Q k m) n) k (zcT (orP P Q k m) n k ||| 2^m)=zcT (orP P Q k (m+1)) n:=by
 funext i
 unfold upd zcT
 by_cases e:i=k
 ·subst e
  rw[if_pos rfl,if_pos hk,if_pos hk]
  exact bitsTo_or hm fun j _=>by rw[orP_step,h,Bool.true_and]
 ·rw[if_neg e]
  split
  ·exact zdf fun j _=>zio e _ _
  ·rfl
theorem relN_add(hk:k<n)(hm:m<n)(h:Q k m=true)(hp:P k m=false):upd (zcT (orP P Q k m) n) k (zcT (orP P Q k m) n k+2^m)=zcT (orP P Q k (m+1)) n:=by
 funext i
 unfold upd zcT
 by_cases e:i=k
 ·subst e
  rw[if_pos rfl,if_pos hk,if_pos hk]
  exact bitsTo_add (by unfold orP;rw[hp];simp) hm fun j _=>by rw[orP_step,h,Bool.true_and]
 ·rw[if_neg e]
  split
  ·exact zdf fun j _=>zio e _ _
  ·rfl
theorem zhh(h:Q k m=false):zcT (orP P Q k m) n=zcT (orP P Q k (m+1)) n:=zdY fun i j hi hj=>by
 by_cases e:i=k
 ·subst e;rw[orP_step,h];simp
 ·exact zio e _ _
theorem relN_skip{m':Nat}(hmm:m≤m')(h:∀j,m≤j→j<m'→Q k j=false):zcT (orP P Q k m) n=zcT (orP P Q k m') n:=zdY fun i j hi hj=>by
 by_cases e:i=k
 ·subst e
  unfold orP
  by_cases h1:j<m
  ·rw[decide_eq_true h1,decide_eq_true (show j<m' by omega)]
  ·by_cases h2:j<m'
   ·rw[h j (by omega) h2];simp
   ·rw[decide_eq_false h1,decide_eq_false h2]
 ·exact zio e _ _
end
theorem zcO(R:Nat→Nat→Bool){n:Nat}(hn:n≤16)(i:Nat):zcT R n i<65536:=by
 unfold zcT
 split
 ·exact bitsTo_lt_16 _ hn
 ·decide
theorem relN_bit(R:Nat→Nat→Bool)(n i j:Nat):(zcT R n i).testBit j=(decide (i<n)&&(decide (j<n)&&R i j)):=by
 unfold zcT
 by_cases h:i<n
 ·rw[if_pos h,zcD,decide_eq_true h,Bool.true_and]
 ·rw[if_neg h,decide_eq_false h];simp
end
section
open Go.RowKit
/-! who was answered ahead of whose call -/
def zbO(cs:List Cl)(i j:Nat):Bool:=!decide ((cs.getD i default).to=-1)&&decide ((cs.getD i default).to<(cs.getD j default).from_)
theorem clD{cs:List Cl}{i:Nat}(h:i<cs.length):cs.getD i default=cs[i]:=by simp[h]
def zax(cs:List Cl):Nat→Nat:=zcT (zbO cs) cs.length
theorem zgA(cs:List Cl):zcT (fun i j=>(fun _ _=>false) i j||zbO cs i j) cs.length=zax cs:=by simp[zax]
section
variable (A:Option Addr)(c:Nat)(cs:List Cl)(w:World)(hA:zh2 w A cs) 
include hA
theorem ahead_ok(hl:cs.length≤12):Calls Tryz.prog 17 #[.slice A cs.length c] w fun e w'=>e=.returned (.tuple #[.agg (zat cs.length (zax cs)),.int .i64 0])∧Below w.heap.size w w':=by
 refine zaj (S:=[]) [] Tryz.func17 rfl Tryz.ntmps17 Zj (Mem.nil _) ?_
 repeat' (first|refine Zga ?_|(refine Zgb ?_;intro g)|(refine Zg ?_ ?_<;>(intro h;try exact Zx))|fail)
 rename_i g2
 obtain⟨gr,rfl⟩:∃x,x=g:=⟨_,rfl⟩
 refine zap (X:=Nat) (fun k=>[(18,.int .i64 (k:Nat)),(17,.int .i64 cs.length),(16,.slice A cs.length c),(4,.pointer (some ⟨gr,0,none⟩)),(2,.pointer (some ⟨g2,0,none⟩)),(0,.slice A cs.length c)])
  (fun k=>[zak gr 43 (zat cs.length (zcT (orP (fun _ _=>false) (zbO cs) k 0) cs.length)),zak g2 43 (zat 0 (fun _=>0))]) (fun k=>k≤cs.length) (fun k=>cs.length-k) 0 Zo Ze (fun w hw=>by rw[orP_0,relN_0];exact hw) ?_
 intro k hk
 by_cases hkk:k<cs.length
 ·obtain⟨b,o,rfl,_⟩:=RdE.open hA Zo
  repeat' (first|refine Zga ?_|(refine Zgb ?_;intro g)|(refine Zg ?_ ?_<;>(intro h;try exact Zx))|fail)
  obtain⟨gm,rfl⟩:∃x,x=g:=⟨_,rfl⟩
  refine zap (X:=Nat) (fun m=>[(25,.int .i64 (m:Nat)),(24,.int .i64 cs.length),(23,.slice (some ⟨b,o,none⟩) cs.length c),(6,.pointer (some ⟨gm,0,none⟩)),(5,.int .i64 (k:Nat)),(18,.int .i64 (k:Nat)),(17,.int .i64 cs.length),(16,.slice (some ⟨b,o,none⟩) cs.length c),(4,.pointer (some ⟨gr,0,none⟩)),(2,.pointer (some ⟨g2,0,none⟩)),(0,.slice (some ⟨b,o,none⟩) cs.length c)])
   (fun m=>[zak gm 36 cs[k].enc.toArray,zak gr 43 (zat cs.length (zcT (orP (fun _ _=>false) (zbO cs) k m) cs.length)),zak g2 43 (zat 0 (fun _=>0))]) (fun m=>m≤cs.length) (fun m=>cs.length-m) 0 Zo Ze (fun w hw=>hw) ?_
  intro m hml
  by_cases hmm:m<cs.length
  ·have hq:zbO cs k m=(!decide (cs[k].to=-1)&&decide (cs[k].to<cs[m].from_)):=by rw[zbO,clD hkk,clD hmm]
   have hlt:=zcO (orP (fun _ _=>false) (zbO cs) k m) (n:=cs.length) Zo k
   have hpm:=zdX (m:=m) Zo
   have hyes:=relN_yes (P:=fun _ _=>false) (Q:=zbO cs) hkk hmm
   have hno:=zhh (P:=fun _ _=>false) (Q:=zbO cs) (n:=cs.length) (k:=k) (m:=m)
   obtain⟨F,hFF⟩:∃F,zcT (orP (fun _ _=>false) (zbO cs) k m) cs.length=F:=⟨_,rfl⟩
   rw[hFF] at hyes hno hlt ⊢
   repeat' (first|refine Zga ?_|(refine Zgb ?_;intro g)|(refine Zg ?_ ?_<;>(intro h;try exact Zx))|fail)
   all_goals
    refine zab (m+1) Zo Zo Ze (fun w hw=>?_)
    first
     |(rw[←hyes (by rw[hq,decide_eq_false (show ¬cs[k].to=-1 by assumption),decide_eq_true (by assumption)];rfl)];exact hw.sub Zt)
     |(rw[←hno (by rw[hq,decide_eq_true (show cs[k].to=-1 by assumption)];rfl)];exact hw.sub Zt)
     |(rw[←hno (by rw[hq,decide_eq_false (show ¬cs[k].to<cs[m].from_ by omega)];simp)];exact hw.sub Zt)
  ·obtain rfl:m=cs.length:=by omega
   repeat' (first|refine Zga ?_|(refine Zgb ?_;intro g)|(refine Zg ?_ ?_<;>(intro h;try exact Zx))|fail)
   refine zab (k+1) Zo Zo Ze (fun w hw=>?_)
   rw[←zdZ]
   exact hw.sub Zt
 ·obtain rfl:k=cs.length:=by omega
  repeat' (first|refine Zga ?_|(refine Zgb ?_;intro g)|(refine Zg ?_ ?_<;>(intro h;try exact Zx))|fail)
  ((with_reducible apply zau Tryz.results17);exact Zr;intro w' hw)
  exact⟨by rw[←zgA,←zd0];rfl,hw.below0 rfl⟩
theorem zjz(hl:cs.length≤12):Calls Tryz.prog 31 #[.slice A cs.length c] w fun e w'=>e=.returned (.agg (zat cs.length (zax cs)))∧Below w.heap.size w w':=by
 refine zaj (S:=[]) [] Tryz.func31 rfl Tryz.ntmps31 Zj (Mem.nil _) ?_
 repeat' (first|refine Zga ?_|(refine Zgb ?_;intro g)|(refine Zg ?_ ?_<;>(intro h;try exact Zx))|fail)
 rename_i g2
 obtain⟨gr,rfl⟩:∃x,x=g:=⟨_,rfl⟩
 refine zap (X:=Nat) (fun k=>[(11,.int .i64 (k:Nat)),(10,.int .i64 cs.length),(3,.pointer (some ⟨gr,0,none⟩)),(2,.pointer (some ⟨g2,0,none⟩)),(0,.slice A cs.length c)])
  (fun k=>[zak gr 43 (zat cs.length (zcT (orP (fun _ _=>false) (zbO cs) k 0) cs.length)),zak g2 43 (zat 0 (fun _=>0))]) (fun k=>k≤cs.length) (fun k=>cs.length-k) 0 Zo Ze (fun w hw=>by rw[orP_0,relN_0];exact hw) ?_
 intro k hk
 by_cases hkk:k<cs.length
 ·obtain⟨b,o,rfl,_⟩:=RdE.open hA Zo
  repeat' (first|refine Zga ?_|(refine Zgb ?_;intro g)|(refine Zg ?_ ?_<;>(intro h;try exact Zx))|fail)
  refine zap (X:=Nat) (fun m=>[(16,.int .i64 (m:Nat)),(15,.int .i64 cs.length),(4,.int .i64 (k:Nat)),(11,.int .i64 (k:Nat)),(10,.int .i64 cs.length),(3,.pointer (some ⟨gr,0,none⟩)),(2,.pointer (some ⟨g2,0,none⟩)),(0,.slice (some ⟨b,o,none⟩) cs.length c)])
   (fun m=>[zak gr 43 (zat cs.length (zcT (orP (fun _ _=>false) (zbO cs) k m) cs.length)),zak g2 43 (zat 0 (fun _=>0))]) (fun m=>m≤cs.length) (fun m=>cs.length-m) 0 Zo Ze (fun w hw=>hw) ?_
  intro m hml
  by_cases hmm:m<cs.length
  ·have hq:zbO cs k m=(!decide (cs[k].to=-1)&&decide (cs[k].to<cs[m].from_)):=by rw[zbO,clD hkk,clD hmm]
   have hlt:=zcO (orP (fun _ _=>false) (zbO cs) k m) (n:=cs.length) Zo k
   have hpm:=zdX (m:=m) Zo
   have hyes:=relN_add (P:=fun _ _=>false) (Q:=zbO cs) hkk hmm
   have hno:=zhh (P:=fun _ _=>false) (Q:=zbO cs) (n:=cs.length) (k:=k) (m:=m)
   have hlt2:=fun h=>congrArg (fun f=>f k) (hyes h rfl)
   have hlt3:=zcO (orP (fun _ _=>false) (zbO cs) k (m+1)) (n:=cs.length) Zo k
   obtain⟨F,hFF⟩:∃F,zcT (orP (fun _ _=>false) (zbO cs) k m) cs.length=F:=⟨_,rfl⟩
   rw[hFF] at hyes hno hlt hlt2 ⊢
   repeat' (first
    |refine Zha ?_|(refine Zhb ?_;intro g)|(refine Zg ?_ ?_<;>(intro h;try exact Zx))|refine GOF ?_ ?_|((with_reducible apply zam (id:=8) 1000 (OT.seq [(0,0),(0,1),(0,2),(0,3),(1,4),(0,5),(0,6),(0,7),(0,8),(0,9),(0,10),(0,12),(0,13),(0,14),(0,15),(1,11),(1,16),(0,17),(0,18)] .nil));kernel_rfl;exact rfl;kernel_rfl;exact Zd)|((with_reducible apply zam (id:=9) 9 (OT.seq [(0,0),(0,1),(0,2),(0,4),(0,5),(0,7),(1,3),(0,6),(0,8),(3,9)] .nil));kernel_rfl;exact rfl;kernel_rfl;exact Zd)|((with_reducible apply za9);(with_reducible apply QS_add16);exact rfl;exact rfl;exact rfl)|((with_reducible apply zba);(with_reducible apply QS_add16);exact rfl;exact rfl;exact rfl)|fail)
   all_goals
    refine zab (m+1) Zo Zo Ze (fun w hw=>?_)
    first
     |(have hQ:zbO cs k m=true:=by rw[hq,decide_eq_false (show ¬cs[k].to=-1 by assumption),decide_eq_true (by assumption)];rfl
       have h3:=hlt2 hQ
       simp only[upd_same] at h3
       rw[←hyes hQ rfl,show F k+2^m=(F k+2^m) % 65536 by rw[Nat.mod_eq_of_lt Zo]]
       exact hw)
     |(rw[←hno (by rw[hq,decide_eq_true (show cs[k].to=-1 by assumption)];rfl)];exact hw)
     |(rw[←hno (by rw[hq,decide_eq_false (show ¬cs[k].to<cs[m].from_ by omega)];simp)];exact hw)
  ·obtain rfl:m=cs.length:=by omega
   repeat' (first|refine Zha ?_|(refine Zhb ?_;intro g)|(refine Zg ?_ ?_<;>(intro h;try exact Zx))|refine GOF ?_ ?_|fail)
   refine zab (k+1) Zo Zo Ze (fun w hw=>?_)
   rw[←zdZ]
   exact hw
 ·obtain rfl:k=cs.length:=by omega
  repeat' (first|refine Zga ?_|(refine Zgb ?_;intro g)|(refine Zg ?_ ?_<;>(intro h;try exact Zx))|fail)
  ((with_reducible apply zau Tryz.results31);exact Zr;intro w' hw)
  exact⟨by rw[←zgA,←zd0];rfl,hw.below0 rfl⟩
end
end
section
open Go.RowKit
def zfl(ts:List Int)(l:List Ev):List Cl×Int:=if(zai ts l).2.2≠0 then([],(zai ts l).2.2) else if 9<(zai ts l).1.length then([],2) else((zai ts l).1,0)
theorem fewS_err{ts:List Int}{l:List Ev}(h:¬(zai ts l).2.2=0):zfl ts l=([],(zai ts l).2.2):=by unfold zfl;rw[if_pos h]
theorem zhi{ts:List Int}{l:List Ev}(h:(zai ts l).2.2=0)(h9:9<(zai ts l).1.length):zfl ts l=([],2):=by unfold zfl;rw[if_neg (by simp[h]),if_pos h9]
theorem zfX{ts:List Int}{l:List Ev}(h:(zai ts l).2.2=0)(h9:¬9<(zai ts l).1.length):zfl ts l=((zai ts l).1,0):=by unfold zfl;rw[if_neg (by simp[h]),if_neg h9]
structure SeaOk (ts:List Int) (cs:List Cl):Prop where
 types:zaG ts=true
 calls:CallsOk ts cs
 few:cs.length≤9
 cls:ClsOk ts 200 cs
 tos:ClsTo 200 cs
theorem zc2{ts:List Int}{l:List Ev}(h:(zfl ts l).2=0):SeaOk ts (zfl ts l).1:=by
 by_cases h0:(zai ts l).2.2=0
 ·by_cases h9:9<(zai ts l).1.length
  ·rw[zhi h0 h9] at h;cases h
  ·obtain⟨h1,h2,_,h4⟩:=zbJ h0
   rw[zfX h0 h9]
   have hc:=zcY ts l l.length
   have ht:=zij ts l l.length
   rw[←h4] at hc ht
   exact⟨h1,CallsOk.of hc,by(try dsimp only);omega,⟨fun q hq=>(hc.each q hq).mono Zo,hc.rising⟩,⟨fun q hq=>by rcases ht.to q hq with h1|h1;exact .inl h1;exact .inr ⟨h1.1,Int.lt_of_lt_of_le h1.2 Zo⟩,ht.one⟩⟩
 ·rw[fewS_err h0] at h;exact absurd h h0
section
variable (A0 B0:Option Addr)(c0 d0:Nat)(ts:List Int)(l:List Ev)(w:World)(hts:ts.length≤9223372036854775807)(hl:l.length≤9223372036854775807)(hT:RdInt w A0 ts)(hA:RdEv w B0 l) 
include hts hl hT hA
theorem zdg:Calls Tryz.prog 42 #[.slice A0 ts.length c0,.slice B0 l.length d0] w fun e w'=>∃A c,e=.returned (.tuple #[.slice A (zfl ts l).1.length c,.int .i64 (zfl ts l).2])∧Own Cl.enc 7 36 w' w.heap.size (.slice A (zfl ts l).1.length c) (zfl ts l).1∧Below w.heap.size w w':=by
 have h1:=fun w h1 h2=>za8 A0 B0 c0 d0 ts l w hts hl h1 h2
 have he:=fewS_err (ts:=ts) (l:=l)
 have hg:=zhi (ts:=ts) (l:=l)
 have ho:=zfX (ts:=ts) (l:=l)
 generalize zfl ts l=F at *
 generalize zai ts l=R at *
 obtain⟨cs,at_,er⟩:=R
 dsimp only at h1 he hg ho
 refine zaj (S:=[]) [] Tryz.func42 rfl Tryz.ntmps42 Zj (Mem.nil _) ?_
 repeat' (first|refine Zga ?_|(refine Zgb ?_;intro g)|(refine Zg ?_ ?_<;>(intro h;try exact Zx))|((with_reducible (first|apply zaa|apply TD_e3z|apply zan|apply zaf|apply zae));((with_reducible apply zal (f:=12));exact rfl;(intro w hw;exact h1 w (hw.rd rfl hT) (hw.rd rfl hA));exact rfl);exact Zh;(rintro _ _ ⟨A1,c1,rfl,rfl⟩);(try refine⟨SUB,?_⟩))|fail)
 ·(refine zah Tryz.results42 rfl (fun w' hw=>?_))
  rw[he (by assumption)]
  exact⟨none,0,rfl,Own.nil _ _,hw.below0 rfl⟩
 ·(refine zah Tryz.results42 rfl (fun w' hw=>?_))
  rw[hg (by assumption) Zo]
  exact⟨none,0,rfl,Own.nil _ _,hw.below0 rfl⟩
 ·(refine zah Tryz.results42 rfl (fun w' hw=>?_))
  rw[ho (by assumption) Zo]
  exact⟨A1,c1,rfl,hw.ownOut rfl Zm,hw.below0 rfl⟩
end
theorem zfY{ts:List Int}{cs:List Cl}(h:SeaOk ts cs):zeB cs (zax cs):=by
 intro i j hb
 unfold zax at hb
 rw[relN_bit,Bool.and_eq_true,Bool.and_eq_true,decide_eq_true_eq,decide_eq_true_eq] at hb
 obtain⟨hi,hj,ha⟩:=hb
 unfold zbO at ha
 rw[clD hi,clD hj,Bool.and_eq_true,Bool.not_eq_true',decide_eq_false_iff_not,decide_eq_true_eq] at ha
 refine⟨hi,hj,fun e=>?_,by rw[zb7 hi];exact ha.1⟩
 subst e
 rcases h.tos.to i hi with h1|h1
 ·exact ha.1 h1
 ·omega
theorem relAhead_16(cs:List Cl)(h:cs.length≤16)(i:Nat):zax cs i<65536:=zcO _ h i
section
variable (A0 B0 D:Option Addr)(c0 d0 dc:Nat)(ts:List Int)(l:List Ev)(v:List Stp)(w:World)(hts:ts.length≤9223372036854775807)(hl:l.length≤9223372036854775807)(hv:v.length≤9223372036854775807)(hT:RdInt w A0 ts)(hA:RdEv w B0 l)(hD:RdStp w D v) 
include hts hl hT hA
def zbE(ts:List Int)(l:List Ev)(F:List Cl→Nat→Nat):Option (List Stp):=if(zfl ts l).2=0 then zbq ts (zfl ts l).1 (F (zfl ts l).1) else none
theorem zfE:Calls Tryz.prog 9 #[.slice A0 ts.length c0,.slice B0 l.length d0] w fun e w'=>∃A c,e=.returned (.tuple #[.slice A ((zbE ts l zax).getD []).length c,.bool (zbE ts l zax).isSome,.int .i64 (zfl ts l).2]) ∧
  Own Stp.enc 2 49 w' w.heap.size (.slice A ((zbE ts l zax).getD []).length c) ((zbE ts l zax).getD [])∧Below w.heap.size w w':=by
 have h1:=fun w h1 h2=>zdg A0 B0 c0 d0 ts l w hts hl h1 h2
 have hf:=zc2 (ts:=ts) (l:=l)
 unfold zbE
 generalize zfl ts l=F at *
 obtain⟨cs,er⟩:=F
 dsimp only at h1 hf ⊢
 refine zaj (S:=[]) [] Tryz.func9 rfl Tryz.ntmps9 Zj (Mem.nil _) ?_
 by_cases h0:er=0
 ·subst h0
  have hs:=hf rfl
  have h9:=hs.few
  have hah:=fun A c w' h=>ahead_ok A c cs w' h Zo
  have hsm:=fun A c w' h1 h2=>ze3 A0 A c0 c ts cs cs.length (zax cs) w' hs.types hs.calls h9 (fun i _=>relAhead_16 cs Zo i) h1 h2
  rw[if_pos rfl]
  generalize zbq ts cs (zax cs)=o at *
  repeat' (first|refine Zga ?_|(refine Zgb ?_;intro g)|(refine Zg ?_ ?_<;>(intro h;try exact Zx))|((with_reducible (first|apply zaa|apply TD_e3z|apply zan|apply zaf|apply zae));((with_reducible apply zal (f:=42));exact rfl;(intro w hw;exact h1 w (hw.rd rfl hT) (hw.rd rfl hA));exact rfl);exact Zh;(rintro _ _ ⟨A1,c1,rfl,rfl⟩);(try refine⟨SUB,?_⟩))|((with_reducible (first|apply zaa|apply TD_e3z|apply zan|apply zaf|apply zae));((with_reducible apply zad (f:=17));exact rfl;(intro w hw;exact hah _ _ w (hw.ownRd Zm (fun _=>rfl)));exact rfl);exact Zh;(rintro _ _ ⟨rfl,rfl⟩);(try refine⟨SUB,?_⟩))|((with_reducible (first|apply zaa|apply TD_e3z|apply zan|apply zaf|apply zae));((with_reducible apply zal (f:=43));exact rfl;(intro w hw;exact hsm _ _ w (hw.rd rfl hT) (hw.ownRd Zm (fun _=>rfl)));exact rfl);exact Zh;(rintro _ _ ⟨A5,c5,rfl,rfl⟩);(try refine⟨SUB,?_⟩))|fail)
  (refine zah Tryz.results9 rfl (fun w' hw=>?_))
  exact⟨A5,c5,rfl,hw.ownOut rfl Zm,hw.below0 rfl⟩
 ·rw[if_neg h0]
  repeat' (first|refine Zga ?_|(refine Zgb ?_;intro g)|(refine Zg ?_ ?_<;>(intro h;try exact Zx))|((with_reducible (first|apply zaa|apply TD_e3z|apply zan|apply zaf|apply zae));((with_reducible apply zal (f:=42));exact rfl;(intro w hw;exact h1 w (hw.rd rfl hT) (hw.rd rfl hA));exact rfl);exact Zh;(rintro _ _ ⟨A1,c1,rfl,rfl⟩);(try refine⟨SUB,?_⟩))|fail)
  (refine zah Tryz.results9 rfl (fun w' hw=>?_))
  exact⟨none,0,rfl,Own.nil _ _,hw.below0 rfl⟩
end
end
section
def zgB(cs:List Cl):Nat:=cs.countP fun c=>decide (c.to=-1)
structure Later (m:Int) (cs ds:List Cl):Prop where
 len:cs.length≤ds.length
 from_:∀q,q<cs.length→(ds.getD q default).from_=(cs.getD q default).from_
 done:∀q,q<cs.length→(cs.getD q default).to≠-1→(ds.getD q default).to=(cs.getD q default).to
 opn:∀q,q<cs.length→(cs.getD q default).to=-1→(ds.getD q default).to=-1∨m≤(ds.getD q default).to
 new:∀q,cs.length≤q→q<ds.length→m≤(ds.getD q default).from_
theorem Later.refl(m:Int)(cs:List Cl):Later m cs cs:=⟨Nat.le_refl _,fun _ _=>rfl,fun _ _ _=>rfl,fun _ _ h=>.inl h,fun q h1 h2=>by omega⟩
theorem later_step{ts:List Int}{m i:Int}{cs ds:List Cl}(x:Ev)(hm:m≤i)(h:Later m cs ds):Later m cs (evR ts ds i x).2:=by
 unfold evR
 by_cases hf:za4 ts x=true
 ·rw[if_pos hf];exact h
 ·rw[if_neg hf]
  by_cases hk:x.kind=0
  ·rw[if_pos hk]
   split
   ·exact h
   ·split
    ·obtain⟨p,hp,hpl,hpw,hpt⟩:=zcm (cs:=ds) (who:=x.who) ds.length Zo
     rw[show(zaS ds x.who ds.length).toNat=p by omega]
     dsimp only
     have hgp:∀q c,(ds.set p c).getD q default=if p=q then c else ds.getD q default:=fun q c=>by
      rw[List.getD_eq_getElem?_getD,List.getElem?_set]
      split
      ·rename_i e;subst e;simp[hpl]
      ·rw[←List.getD_eq_getElem?_getD]
     refine⟨by rw[List.length_set];exact h.len,fun q hq=>?_,fun q hq ht=>?_,fun q hq ht=>?_,fun q h1 h2=>?_⟩
     ·rw[hgp]
      split
      ·rename_i e;subst e;exact h.from_ _ hq
      ·exact h.from_ q hq
     ·rw[hgp]
      split
      ·rename_i e;subst e
       have:=h.done _ hq ht
       rw[hpt] at this
       exact absurd this.symm ht
      ·exact h.done q hq ht
     ·rw[hgp]
      split
      ·exact .inr hm
      ·exact h.opn q hq ht
     ·rw[hgp]
      rw[List.length_set] at h2
      split
      ·rename_i e;subst e;exact h.new _ h1 h2
      ·exact h.new q h1 h2
    ·exact h
  ·rw[if_neg hk]
   split
   ·exact h
   ·split
    ·exact h
    ·dsimp only
     have hga:∀q (c:Cl),q<ds.length→(ds++[c]).getD q default=ds.getD q default:=fun q c hq=>by
      rw[List.getD_eq_getElem?_getD,List.getElem?_append_left hq,←List.getD_eq_getElem?_getD]
     have hl:=h.len
     refine⟨by rw[List.length_append];omega,fun q hq=>by rw[hga q _ Zo];exact h.from_ q hq,fun q hq ht=>by rw[hga q _ Zo];exact h.done q hq ht,fun q hq ht=>by rw[hga q _ Zo];exact h.opn q hq ht,fun q h1 h2=>?_⟩
     rw[List.length_append,List.length_singleton] at h2
     by_cases e:q<ds.length
     ·rw[hga q _ e];exact h.new q h1 e
     ·obtain rfl:q=ds.length:=by omega
      simp[List.getD_eq_getElem?_getD,hm]
theorem later_st(ts:List Int)(l:List Ev)(m:Nat):∀d:Nat,Later (m:Int) (stR ts l m) (stR ts l (m+d))
 |0=>Later.refl _ _
 |d+1=>by
  have:=later_step (ts:=ts) (i:=((m+d:Nat):Int)) (l.getD (m+d) default) Zo (later_st ts l m d)
  rw[show m+(d+1)=(m+d)+1 by omega,stR]
  exact this
def zew(cs:List Cl)(a:Int):Bool:=(cs.any fun y=>decide (y.from_≤a))&&!(cs.any fun y=>decide (y.from_≤a)&&(decide (y.to=-1)||decide (a<y.to)))
def zcI(cs:List Cl)(k:Nat):Nat:=(List.range k).countP fun a:Nat=>zew cs (a:Int)
def zfZ(cs:List Cl)(i:Nat):Nat:=zcI cs (cs.getD i default).from_.toNat
def zcP(cs:List Cl):List Int:=(List.range cs.length).map fun i=>(zfZ cs i:Int)
theorem zdh(cs:List Cl)(k:Nat):zcI cs (k+1)=zcI cs k+(if zew cs k=true then 1 else 0):=by
 unfold zcI
 rw[List.range_succ,List.countP_append,List.countP_cons,List.countP_nil]
 simp
theorem calmTo_mono(cs:List Cl){a b:Nat}(h:a≤b):zcI cs a≤zcI cs b:=by
 induction h with
 |refl=>exact Nat.le_refl _
 |step _ ih=>rw[zdh];omega
theorem calmTo_lt(cs:List Cl):∀{a b:Nat},zcI cs a<zcI cs b→∃c,a≤c∧c<b∧zew cs c=true
 |a,0,h=>by simp[zcI] at h
 |a,b+1,h=>by
  rw[zdh] at h
  by_cases hc:zew cs b=true
  ·by_cases hab:a≤b
   ·exact⟨b,hab,by omega,hc⟩
   ·have:=calmTo_mono cs (show b+1≤a by omega)
    rw[zdh] at this
    omega
  ·rw[if_neg hc] at h
   obtain⟨c,h1,h2,h3⟩:=calmTo_lt cs (a:=a) (b:=b) Zo
   exact⟨c,h1,by omega,h3⟩
theorem zhT{cs:List Cl}{a:Int}{q:Nat}(hq:q<cs.length)(h1:(cs.getD q default).from_≤a)(h2:(cs.getD q default).to=-1∨a<(cs.getD q default).to):zew cs a=false:=by
 unfold zew
 have:(cs.any fun y=>decide (y.from_≤a)&&(decide (y.to=-1)||decide (a<y.to)))=true:=by
  rw[List.any_eq_true]
  rw[show cs.getD q default=cs[q] by simp[hq]] at h1 h2
  exact⟨cs[q],List.getElem_mem hq,by simp[h1,h2]⟩
 rw[this];simp
theorem openN_pos{cs:List Cl}:0<zgB cs↔∃q,q<cs.length∧(cs.getD q default).to=-1:=by
 unfold zgB
 rw[List.countP_pos_iff]
 constructor
 ·rintro⟨c,hc,h⟩
  obtain⟨q,hq,rfl⟩:=List.mem_iff_getElem.1 hc
  exact⟨q,hq,by simpa[hq] using h⟩
 ·rintro⟨q,hq,h⟩
  exact⟨cs[q],List.getElem_mem hq,by simpa[hq] using h⟩
theorem calm_open{ts:List Int}{l:List Ev}{k:Nat}(hk:k<l.length)(hne:0<(stR ts l (k+1)).length)(hfr:((stR ts l (k+1)).getD 0 default).from_≤k):
  zew (stR ts l l.length) k=decide (zgB (stR ts l (k+1))=0):=by
 obtain⟨d,hd⟩:∃d,l.length=(k+1)+d:=⟨l.length-(k+1),by omega⟩
 have hL:=later_st ts l (k+1) d
 rw[←hd] at hL
 have hok:=zcY ts l (k+1)
 have hto:=zij ts l (k+1)
 generalize stR ts l (k+1)=cs at *
 generalize stR ts l l.length=ds at *
 have hl:=hL.len
 by_cases ho:zgB cs=0
 ·rw[decide_eq_true ho]
  unfold zew
  have h1:(ds.any fun y=>decide (y.from_≤(k:Int)))=true:=by
   rw[List.any_eq_true]
   refine⟨ds[0]'(by omega),List.getElem_mem _,?_⟩
   have:=hL.from_ 0 hne
   rw[show ds.getD 0 default=ds[0]'(by omega) by simp[show 0<ds.length by omega]] at this
   rw[this];exact decide_eq_true hfr
  have h2:(ds.any fun y=>decide (y.from_≤(k:Int))&&(decide (y.to=-1)||decide ((k:Int)<y.to)))=false:=by
   rw[List.any_eq_false]
   intro y hy
   obtain⟨q,hq,rfl⟩:=List.mem_iff_getElem.1 hy
   have hg:ds.getD q default=ds[q]:=by simp[hq]
   by_cases e:q<cs.length
   ·have hne1:(cs.getD q default).to≠-1:=fun ht=>by have:=openN_pos.2 ⟨q,e,ht⟩;omega
    have hd1:=hL.done q e hne1
    have hg2:cs.getD q default=cs[q]:=by simp[e]
    rw[hg,hg2] at hd1
    rw[hg2] at hne1
    rcases hto.to q e with h3|h3
    ·exact absurd h3 hne1
    ·rw[hd1]
     have h5:¬(k:Int)<cs[q].to:=by omega
     simp[hne1,h5]
   ·have hn:=hL.new q Zo hq
    rw[hg] at hn
    have h5:¬ds[q].from_≤(k:Int):=by omega
    simp[h5]
  rw[h1,h2];rfl
 ·rw[decide_eq_false ho]
  obtain⟨q,hq,ht⟩:=openN_pos.1 (show 0<zgB cs by omega)
  have hg2:cs.getD q default=cs[q]:=by simp[hq]
  refine zhT (q:=q) Zo ?_ ?_
  ·rw[hL.from_ q hq,hg2]
   have:=(hok.each q hq).place.2
   omega
  ·rcases hL.opn q hq ht with h|h
   ·exact .inl h
   ·exact .inr Zo
/-! event by event -/
def zfG(st:List Int×Int×Int)(v:Ev):List Int×Int×Int :=
 if v.kind=0 then(st.1,st.2.1-1,if st.2.1-1=0 then st.2.2+1 else st.2.2) else(st.1++[st.2.2],st.2.1+1,st.2.2)
def zd1(l:List Ev)(k:Nat):List Int×Int×Int:=(l.take k).foldl zfG ([],0,0)
theorem zjA{l:List Ev}{k:Nat}(h:k<l.length):zd1 l (k+1)=zfG (zd1 l k) l[k]:=by
 unfold zd1
 rw[List.take_succ_eq_append_getElem h,List.foldl_append];rfl
theorem evR_good{ts:List Int}{cs:List Cl}{i:Int}{x:Ev}(h:(evR ts cs i x).1=0):
  (x.kind=0∧∃m,m<cs.length∧(cs.getD m default).to=-1∧(evR ts cs i x).2=cs.set m { cs.getD m default with res:=x.value,to:=i })∨(x.kind≠0∧(evR ts cs i x).2=cs++[⟨x.who,x.thing,x.kind,x.value,0,i,-1⟩]):=by
 unfold evR at h ⊢
 by_cases hf:za4 ts x=true
 ·rw[if_pos hf] at h;cases h
 ·rw[if_neg hf] at h ⊢
  by_cases hk:x.kind=0
  ·rw[if_pos hk] at h ⊢
   split at h
   ·cases h
   ·rename_i hz
    rw[if_neg hz]
    split at h
    ·rename_i hc
     rw[if_pos hc]
     obtain⟨p,hp,hpl,_,hpt⟩:=zcm (cs:=cs) (who:=x.who) cs.length Zo
     exact .inl ⟨hk,p,hpl,hpt,by rw[show(zaS cs x.who cs.length).toNat=p by omega]⟩
    ·cases h
  ·rw[if_neg hk] at h ⊢
   split at h
   ·cases h
   ·rename_i hb
    rw[if_neg hb]
    split at h
    ·cases h
    ·rename_i ho
     rw[if_neg ho]
     exact .inr ⟨hk,rfl⟩
theorem openN_set{c:Cl}(hc:c.to≠-1):∀{cs:List Cl} {m:Nat},m<cs.length→(cs.getD m default).to=-1→zgB (cs.set m c)+1=zgB cs
 |[],_,h,_=>by simp at h
 |x::cs,0,_,h=>by
  have h':x.to=-1:=by simpa using h
  unfold zgB
  rw[List.set_cons_zero,List.countP_cons,List.countP_cons]
  simp[h',hc]
 |x::cs,m+1,hm,h=>by
  have ih:=openN_set hc (cs:=cs) (m:=m) (by simpa using hm) (by simpa using h)
  unfold zgB at ih ⊢
  rw[List.set_cons_succ,List.countP_cons,List.countP_cons]
  omega
theorem openN_push{cs:List Cl}{c:Cl}(hc:c.to=-1):zgB (cs++[c])=zgB cs+1:=by
 unfold zgB
 rw[List.countP_append,List.countP_cons,List.countP_nil]
 simp[hc]
theorem ep_inv{ts:List Int}{l:List Ev}(hv:∀j,j<l.length→erR ts l j=0):∀k,k≤l.length →
  (zd1 l k).1.length=(stR ts l k).length∧(zd1 l k).2.1=zgB (stR ts l k)∧(zd1 l k).2.2=zcI (stR ts l l.length) k∧∀q,q<(stR ts l k).length→(zd1 l k).1.getD q 0=zcI (stR ts l l.length) ((stR ts l k).getD q default).from_.toNat
 |0,_=>by
  refine⟨rfl,rfl,by simp[zd1,zcI],fun q hq=>?_⟩
  simp[stR] at hq
 |k+1,hk=>by
  obtain⟨i1,i2,i3,i4⟩:=ep_inv hv k Zo
  have hkl:k<l.length:=by omega
  have hg:l.getD k default=l[k]:=by simp[hkl]
  have he:=hv k hkl
  unfold erR at he
  have hst:stR ts l (k+1)=(evR ts (stR ts l k) k (l.getD k default)).2:=rfl
  have hok:=zcY ts l (k+1)
  have hcalm:=fun h1 h2=>calm_open (ts:=ts) (l:=l) hkl h1 h2
  rw[zjA hkl,zdh]
  rw[hg] at he hst
  have hfirst:0<(stR ts l (k+1)).length→((stR ts l (k+1)).getD 0 default).from_≤(k:Int):=fun h0=>by
   have:=(hok.each 0 h0).place.2
   rw[show(stR ts l (k+1)).getD 0 default=(stR ts l (k+1))[0] by simp[h0]]
   omega
  generalize stR ts l l.length=F at *
  rcases evR_good he with⟨h1,m,hm,hmt,h2⟩|⟨h1,h2⟩
  ·rw[h2] at hst
   have hlen:(stR ts l (k+1)).length=(stR ts l k).length:=by rw[hst,List.length_set]
   have hop:=openN_set (c:={ (stR ts l k).getD m default with res:=l[k].value,to:=(k:Int) }) (by dsimp only;omega) hm hmt
   rw[←hst] at hop
   have hc:=hcalm Zo (hfirst Zo)
   have e1:zfG (zd1 l k) l[k]=((zd1 l k).1,(zd1 l k).2.1-1,if(zd1 l k).2.1-1=0 then(zd1 l k).2.2+1 else(zd1 l k).2.2):=by unfold zfG;rw[if_pos h1]
   rw[e1]
   refine⟨by rw[hlen];exact i1,by dsimp only;omega,?_,fun q hq=>?_⟩
   ·dsimp only
    rw[hc,i3]
    by_cases ho:zgB (stR ts l (k+1))=0
    ·rw[if_pos Zo,decide_eq_true ho];simp
    ·rw[if_neg Zo,decide_eq_false ho];simp
   ·dsimp only
    rw[hlen] at hq
    rw[i4 q hq,hst,List.getD_eq_getElem?_getD,List.getD_eq_getElem?_getD,List.getElem?_set]
    split
    ·rename_i e
     subst e
     simp[List.getD_eq_getElem?_getD,hm]
    ·rfl
  ·rw[h2] at hst
   have hlen:(stR ts l (k+1)).length=(stR ts l k).length+1:=by rw[hst,List.length_append];rfl
   have hop:=openN_push (cs:=stR ts l k) (c:=⟨l[k].who,l[k].thing,l[k].kind,l[k].value,0,(k:Int),-1⟩) rfl
   rw[←hst] at hop
   have hc:=hcalm Zo (hfirst Zo)
   have e1:zfG (zd1 l k) l[k]=((zd1 l k).1++[(zd1 l k).2.2],(zd1 l k).2.1+1,(zd1 l k).2.2):=by unfold zfG;rw[if_neg h1]
   rw[e1]
   refine⟨by dsimp only;rw[List.length_append,i1,hlen];rfl,by dsimp only;omega,?_,fun q hq=>?_⟩
   ·dsimp only
    rw[hc,decide_eq_false Zo,i3];simp
   ·dsimp only
    rw[hst]
    by_cases e:q<(stR ts l k).length
    ·have:=i4 q e
     rw[List.getD_eq_getElem?_getD] at this ⊢
     rw[List.getElem?_append_left Zo,this,List.getD_eq_getElem?_getD,List.getD_eq_getElem?_getD,List.getElem?_append_left e]
    ·obtain rfl:q=(stR ts l k).length:=by omega
     rw[List.getD_eq_getElem?_getD,List.getElem?_append_right Zo,i1]
     simp[List.getD_eq_getElem?_getD,i3]
theorem epochs_calm{ts:List Int}{l:List Ev}(hv:∀j,j<l.length→erR ts l j=0):(zd1 l l.length).1=zcP (stR ts l l.length):=by
 obtain⟨i1,_,_,i4⟩:=ep_inv hv l.length (Nat.le_refl _)
 apply List.ext_getElem
 ·rw[i1];simp[zcP]
 ·intro q h1 h2
  have:=i4 q Zo
  rw[show(zd1 l l.length).1.getD q 0=(zd1 l l.length).1[q] by simp[h1]] at this
  rw[this]
  simp[zcP,zfZ]
/-! the relation -/
def zd2(cs:List Cl)(i j:Nat):Bool:=decide (zfZ cs i<zfZ cs j)
def zbw(cs:List Cl):Nat→Nat:=zcT (zd2 cs) cs.length
theorem zhU(cs:List Cl):zcT (fun i j=>(fun _ _=>false) i j||zd2 cs i j) cs.length=zbw cs:=by simp[zbw]
theorem relCalm_16(cs:List Cl)(h:cs.length≤16)(i:Nat):zbw cs i<65536:=zcO _ h i
theorem relOk_calm{ts:List Int}{cs:List Cl}(h:SeaOk ts cs):zeB cs (zbw cs):=by
 intro i j hb
 unfold zbw at hb
 rw[relN_bit,Bool.and_eq_true,Bool.and_eq_true,decide_eq_true_eq,decide_eq_true_eq] at hb
 obtain⟨hi,hj,ha⟩:=hb
 unfold zd2 at ha
 rw[decide_eq_true_eq] at ha
 refine⟨hi,hj,fun e=>by subst e;omega,?_⟩
 rw[zb7 hi]
 obtain⟨c,h1,h2,h3⟩:=calmTo_lt cs ha
 intro ht
 have hf:zew cs (c:Int)=false:=by
  refine zhT (q:=i) hi ?_ (.inl ?_)
  ·have:=(h.cls.each i hi).place.1
   rw[show cs.getD i default=cs[i] by simp[hi]] at h1 ⊢
   omega
  ·rw[show cs.getD i default=cs[i] by simp[hi]];exact ht
 rw[hf] at h3;cases h3
end
section
open Go.RowKit
theorem ep_bounds(l:List Ev):∀k,k≤l.length→-(k:Int)≤(zd1 l k).2.1∧(zd1 l k).2.1≤k∧0≤(zd1 l k).2.2∧(zd1 l k).2.2≤k∧(zd1 l k).1.length≤k
 |0,_=>by simp[zd1]
 |k+1,hk=>by
  obtain⟨h1,h2,h3,h4,h5⟩:=ep_bounds l k Zo
  rw[zjA Zo]
  unfold zfG
  split
  ·dsimp only
   split<;>omega
  ·dsimp only
   rw[List.length_append,List.length_singleton]
   omega
section
variable (B:Option Addr)(d:Nat)(l:List Ev)(w:World)(hA:RdEv w B l)(hl:l.length≤200) 
include hA hl
theorem epochs_any:Calls Tryz.prog 45 #[.slice B l.length d] w fun e w'=>∃A c,e=.returned (.slice A (zd1 l l.length).1.length c)∧Own zag 1 3 w' w.heap.size (.slice A (zd1 l l.length).1.length c) (zd1 l l.length).1∧Below w.heap.size w w':=by
 refine zaj (S:=[]) [] Tryz.func45 rfl Tryz.ntmps45 Zj (Mem.nil _) ?_
 repeat' (first|refine Zga ?_|(refine Zgb ?_;intro g)|(refine Zg ?_ ?_<;>(intro h;try exact Zx))|fail)
 refine zap (X:=Nat×Option Addr×Nat) (fun x=>[(10,.int .i64 (x.1:Nat)),(9,.int .i64 l.length),(8,.slice B l.length d),(5,.int .i64 (zd1 l x.1).2.2),(4,.int .i64 (zd1 l x.1).2.1),(3,.slice x.2.1 (zd1 l x.1).1.length x.2.2)])
  (fun x=>[zac zag 1 3 x.2.1 x.2.2 (zd1 l x.1).1]) (fun x=>x.1≤l.length) (fun x=>l.length-x.1) (0,none,0) (by(try dsimp only);omega) Ze (fun w' hw=>(hw.nilOwn zag 1 3).sub Zt) ?_
 rintro⟨k,A,c⟩ hk
 dsimp only at hk ⊢
 by_cases hkl:k<l.length
 ·obtain⟨b,o,rfl,_⟩:=RdE.open hA Zo
  obtain⟨b1,b2,b3,b4,b5⟩:=ep_bounds l k Zo
  have hst:=zjA hkl
  generalize zd1 l k=st at *
  obtain⟨out,opn,ep⟩:=st
  dsimp only at b1 b2 b3 b4 b5 hst ⊢
  repeat' (first|refine Zga ?_|(refine Zgb ?_;intro g)|(refine Zg ?_ ?_<;>(intro h;try exact Zx))|((with_reducible (first|apply zaa|apply TD_e3z|apply zan|apply zaf|apply zae));((with_reducible apply zaw (enc:=zag) (xx:=ep));exact rfl;exact rfl;exact Zm;exact rfl;exact fun _=>rfl;exact fun _=>rfl;(intro A' c';exact Zu);(omega);decide;exact rfl);exact Zh;(rintro _ _ ⟨A',c',rfl,rfl⟩);(try refine⟨SUB,?_⟩))|fail)
  ·have e:zd1 l (k+1)=(out,opn-1,ep+1):=by
    rw[hst];unfold zfG
    rw[if_pos (by assumption)]
    dsimp only
    rw[if_pos (by assumption)]
   apply zab (k+1,A,c)
   case hE=>dsimp only;rw[e];exact Ze
   case hS=>dsimp only;rw[e];exact zaK
   case hμ=>(try dsimp only);omega
   case hp=>(try dsimp only);omega
  ·have e:zd1 l (k+1)=(out,opn-1,ep):=by
    rw[hst];unfold zfG
    rw[if_pos (by assumption)]
    dsimp only
    rw[if_neg (by assumption)]
   apply zab (k+1,A,c)
   case hE=>dsimp only;rw[e];exact Ze
   case hS=>dsimp only;rw[e];exact zaK
   case hμ=>(try dsimp only);omega
   case hp=>(try dsimp only);omega
  ·have e:zd1 l (k+1)=(out++[ep],opn+1,ep):=by
    rw[hst];unfold zfG
    rw[if_neg (by assumption)]
   apply zab (k+1,A',c')
   case hE=>dsimp only;rw[e];exact Ze
   case hS=>dsimp only;rw[e];exact zaK
   case hμ=>(try dsimp only);omega
   case hp=>(try dsimp only);omega
 ·obtain rfl:k=l.length:=by omega
  generalize (zd1 l l.length).1=L at *
  repeat' (first|refine Zga ?_|(refine Zgb ?_;intro g)|(refine Zg ?_ ?_<;>(intro h;try exact Zx))|fail)
  (refine zah Tryz.results45 rfl (fun w' hw=>?_))
  exact⟨A,c,rfl,hw.ownOut rfl Zm,hw.below0 rfl⟩
end
def begB(cs:List Cl)(a:Int)(q:Nat):Bool:=(cs.take q).any fun y=>decide (y.from_≤a)
def opnB(cs:List Cl)(a:Int)(q:Nat):Bool:=(cs.take q).any fun y=>decide (y.from_≤a)&&(decide (y.to=-1)||decide (a<y.to))
theorem begB_succ{cs:List Cl}{a:Int}{q:Nat}(h:q<cs.length):begB cs a (q+1)=(begB cs a q||decide (cs[q].from_≤a)):=by
 unfold begB;rw[List.take_succ_eq_append_getElem h,List.any_append];simp
theorem opnB_succ{cs:List Cl}{a:Int}{q:Nat}(h:q<cs.length):opnB cs a (q+1)=(opnB cs a q||(decide (cs[q].from_≤a)&&(decide (cs[q].to=-1)||decide (a<cs[q].to)))):=by
 unfold opnB;rw[List.take_succ_eq_append_getElem h,List.any_append];simp
theorem calmAt_eq(cs:List Cl)(a:Int):zew cs a=(begB cs a cs.length&&!opnB cs a cs.length):=by
 unfold zew begB opnB;rw[List.take_length]
def calmK(cs:List Cl)(k:Nat):List Int:=(List.range k).map fun i=>(zfZ cs i:Int)
theorem calmK_succ(cs:List Cl)(k:Nat):calmK cs k++[(zfZ cs k:Int)]=calmK cs (k+1):=by simp[calmK,List.range_succ]
theorem calmK_all(cs:List Cl):calmK cs cs.length=zcP cs:=rfl
theorem calmK_len(cs:List Cl)(k:Nat):(calmK cs k).length=k:=by simp[calmK]
theorem calmTo_le(cs:List Cl)(k:Nat):zcI cs k≤k:=by
 unfold zcI
 have:=List.countP_le_length (p:=fun a:Nat=>zew cs (a:Int)) (l:=List.range k)
 simpa using this
theorem HV4{P Q:Prop}(p:P)(q:P→Q):Q:=q p
section
variable (A:Option Addr)(c:Nat)(cs:List Cl)(w:World)(hA:zh2 w A cs)(h9:cs.length≤12)(hfr:∀q (h:q<cs.length),0≤cs[q].from_∧cs[q].from_<200) 
include hA h9 hfr
theorem calmOf_any:Calls Tryz.prog 74 #[.slice A cs.length c] w fun e w'=>∃A' c',e=.returned (.slice A' (zcP cs).length c')∧Own zag 1 3 w' w.heap.size (.slice A' (zcP cs).length c') (zcP cs)∧Below w.heap.size w w':=by
 refine zaj (S:=[]) [] Tryz.func74 rfl Tryz.ntmps74 Zj (Mem.nil _) ?_
 repeat' (first|refine Zga ?_|(refine Zgb ?_;intro g)|(refine Zg ?_ ?_<;>(intro h;try exact Zx))|fail)
 refine zap (X:=Nat×Option Addr×Nat) (fun x=>[(14,.int .i64 (x.1:Nat)),(13,.int .i64 cs.length),(12,.slice A cs.length c),(3,.slice x.2.1 (calmK cs x.1).length x.2.2),(0,.slice A cs.length c)])
  (fun x=>[zac zag 1 3 x.2.1 x.2.2 (calmK cs x.1)]) (fun x=>x.1≤cs.length) (fun x=>cs.length-x.1) (0,none,0) (by(try dsimp only);omega) Ze (fun w' hw=>(hw.nilOwn zag 1 3).sub Zt) ?_
 rintro⟨k,A1,c1⟩ hk
 dsimp only at hk ⊢
 have hkl1:=calmK_len cs k
 by_cases hkl:k<cs.length
 ·obtain⟨b,o,rfl,_⟩:=RdE.open hA Zo
  have hfk:=hfr k hkl
  have hnext:=calmK_succ cs k
  have hcn:zfZ cs k=zcI cs cs[k].from_.toNat:=by unfold zfZ;rw[clD hkl]
  generalize calmK cs k=L at *
  repeat' (first|refine Zga ?_|(refine Zgb ?_;intro g)|(refine Zg ?_ ?_<;>(intro h;try exact Zx))|fail)
  obtain⟨gx,rfl⟩:∃x,x=g:=⟨_,rfl⟩
  refine zap (X:=Nat) (fun a=>[(20,.int .i64 (a:Nat)),(19,.int .i64 cs[k].from_),(6,.int .i64 (zcI cs a:Nat)),(14,.int .i64 (k:Nat)),(13,.int .i64 cs.length),(12,.slice (some ⟨b,o,none⟩) cs.length c),(3,.slice A1 L.length c1),(0,.slice (some ⟨b,o,none⟩) cs.length c)])
   (fun _=>[zac zag 1 3 A1 c1 L]) (fun a=>(a:Int)≤cs[k].from_) (fun a=>(cs[k].from_-a).toNat) 0 Zo Ze (by exact zaK) ?_
  intro a ha
  have hca:=calmTo_le cs a
  have hsa:=zdh cs a
  by_cases hal:(a:Int)<cs[k].from_
  ·rw[calmAt_eq] at hsa
   generalize zcI cs a=N at *
   repeat' (first|refine Zga ?_|(refine Zgb ?_;intro g)|(refine Zg ?_ ?_<;>(intro h;try exact Zx))|fail)
   refine zap (X:=Nat) (fun q=>[(25,.int .i64 (q:Nat)),(24,.int .i64 cs.length),(23,.slice (some ⟨b,o,none⟩) cs.length c),(9,.bool (opnB cs a q)),(8,.bool (begB cs a q)),(7,.int .i64 (a:Nat)),(20,.int .i64 (a:Nat)),(19,.int .i64 cs[k].from_),(6,.int .i64 (N:Nat)),(14,.int .i64 (k:Nat)),(13,.int .i64 cs.length),(12,.slice (some ⟨b,o,none⟩) cs.length c),(3,.slice A1 L.length c1),(0,.slice (some ⟨b,o,none⟩) cs.length c)])
    (fun _=>[zac zag 1 3 A1 c1 L]) (fun q=>q≤cs.length) (fun q=>cs.length-q) 0 Zo Ze (by exact zaK) ?_
   intro q hq
   by_cases hql:q<cs.length
   ·have e1:=begB_succ (a:=(a:Int)) hql
    have e2:=opnB_succ (a:=(a:Int)) hql
    generalize begB cs a q=p at *
    generalize opnB cs a q=r at *
    cases p<;>cases r
    all_goals
     repeat' (first|refine Zga ?_|(refine Zgb ?_;intro g)|(refine Zg ?_ ?_<;>(intro h;try exact Zx))|fail)
     all_goals
      refine zab (q+1) hql Zo ?_ (by exact zaK)
      first
       |(refine HV4 (P:=opnB cs a (q+1)=true) ?_ ?_;(focus (rw[e2];simp[*];(first|done|omega)));intro e2';rw[e1,e2'];exact Ze;done)
       |(refine HV4 (P:=opnB cs a (q+1)=false) ?_ ?_;(focus (rw[e2];simp[*];(first|done|omega)));intro e2';rw[e1,e2'];exact Ze;done)
       |(refine HV4 (P:=opnB cs a (q+1)=decide ((a:Int)<cs[q].to)) ?_ ?_;(focus (rw[e2];simp[*];(first|done|omega)));intro e2';rw[e1,e2'];exact Ze;done)
       |(refine HV4 (P:=opnB cs a (q+1)=true) ?_ ?_;(focus (rw[e2];simp[*];(first|done|omega)));intro e2';refine HV4 (P:=begB cs a (q+1)=true) ?_ ?_;(focus (rw[e1];simp[*];(first|done|omega)));intro e1';rw[e1',e2'];exact Ze;done)
       |(refine HV4 (P:=opnB cs a (q+1)=false) ?_ ?_;(focus (rw[e2];simp[*];(first|done|omega)));intro e2';refine HV4 (P:=begB cs a (q+1)=true) ?_ ?_;(focus (rw[e1];simp[*];(first|done|omega)));intro e1';rw[e1',e2'];exact Ze;done)
       |(refine HV4 (P:=opnB cs a (q+1)=decide ((a:Int)<cs[q].to)) ?_ ?_;(focus (rw[e2];simp[*];(first|done|omega)));intro e2';refine HV4 (P:=begB cs a (q+1)=true) ?_ ?_;(focus (rw[e1];simp[*];(first|done|omega)));intro e1';rw[e1',e2'];exact Ze;done)
   ·obtain rfl:q=cs.length:=by omega
    generalize begB cs a cs.length=p at *
    generalize opnB cs a cs.length=r at *
    cases p<;>cases r
    all_goals
     repeat' (first|refine Zga ?_|(refine Zgb ?_;intro g)|(refine Zg ?_ ?_<;>(intro h;try exact Zx))|fail)
     refine zab (a+1) Zo Zo ?_ (by exact zaK)
     rw[hsa]
     exact Ze
  ·have hae:cs[k].from_.toNat=a:=by omega
   rw[hae] at hcn
   rw[←hcn]
   rw[←hcn] at hca
   repeat' (first|refine Zga ?_|(refine Zgb ?_;intro g)|(refine Zg ?_ ?_<;>(intro h;try exact Zx))|((with_reducible (first|apply zaa|apply TD_e3z|apply zan|apply zaf|apply zae));((with_reducible apply zaw (enc:=zag) (xx:=(zfZ cs k:Int)));exact rfl;exact rfl;exact Zm;exact rfl;exact fun _=>rfl;exact fun _=>rfl;(intro A' c';exact Zu);(omega);decide;exact rfl);exact Zh;(rintro _ _ ⟨A',c',rfl,rfl⟩);(try refine⟨SUB,?_⟩))|fail)
   apply zab (k+1,A',c')
   case hE=>dsimp only;rw[←hnext];exact Ze
   case hS=>dsimp only;rw[←hnext];exact zaK
   case hμ=>(try dsimp only);omega
   case hp=>(try dsimp only);omega
 ·obtain rfl:k=cs.length:=by omega
  rw[calmK_all]
  generalize zcP cs=L at *
  repeat' (first|refine Zga ?_|(refine Zgb ?_;intro g)|(refine Zg ?_ ?_<;>(intro h;try exact Zx))|fail)
  (refine zah Tryz.results74 rfl (fun w' hw=>?_))
  exact⟨A1,c1,rfl,hw.ownOut rfl Zm,hw.below0 rfl⟩
end
end
section
open Go.RowKit
section
variable (B:Option Addr)(d:Nat)(cs:List Cl)(w:World)(hA:zh2 w B cs)(h9:cs.length≤12)(hfr:∀q (h:q<cs.length),0≤cs[q].from_∧cs[q].from_<200) 
include hA h9 hfr
theorem calmRel_any:Calls Tryz.prog 33 #[.slice B cs.length d] w fun e w'=>e=.returned (.agg (zat cs.length (zbw cs)))∧Below w.heap.size w w':=by
 refine zaj (S:=[]) [] Tryz.func33 rfl Tryz.ntmps33 Zj (Mem.nil _) ?_
 repeat' (first|refine Zga ?_|(refine Zgb ?_;intro g)|(refine Zg ?_ ?_<;>(intro h;try exact Zx))|fail)
 obtain⟨g2,rfl⟩:∃x,x=g:=⟨_,rfl⟩
 repeat' (first|refine Zga ?_|(refine Zgb ?_;intro g)|(refine Zg ?_ ?_<;>(intro h;try exact Zx))|((with_reducible (first|apply zaa|apply TD_e3z|apply zan|apply zaf|apply zae));((with_reducible apply zal (f:=74));exact rfl;(intro w hw;exact calmOf_any _ _ cs _ (hw.rd rfl hA) h9 hfr);exact rfl);exact Zh;(rintro _ _ ⟨A,c,rfl,rfl⟩);(try refine⟨SUB,?_⟩))|fail)
 have hLl:(zcP cs).length=cs.length:=by simp[zcP]
 have hLg:∀i (h:i<cs.length),(zcP cs)[i]'(by rw[hLl];exact h)=(zfZ cs i:Int):=by intro i h;simp[zcP]
 obtain⟨gr,rfl⟩:∃x,x=g:=⟨_,rfl⟩
 refine zap (X:=Nat) (fun k=>[(14,.int .i64 (k:Nat)),(13,.int .i64 cs.length),(4,.pointer (some ⟨gr,0,none⟩)),(3,.slice A (zcP cs).length c),(2,.pointer (some ⟨g2,0,none⟩)),(0,.slice B cs.length d)])
  (fun k=>[zak gr 43 (zat cs.length (zcT (orP (fun _ _=>false) (zd2 cs) k 0) cs.length)),zac zag 1 3 A c (zcP cs),zak g2 43 (zat 0 (fun _=>0))]) (fun k=>k≤cs.length) (fun k=>cs.length-k) 0 Zo Ze (fun w hw=>by rw[orP_0,relN_0];exact hw) ?_
 intro k hk
 by_cases hkk:k<cs.length
 ·repeat' (first|refine Zga ?_|(refine Zgb ?_;intro g)|(refine Zg ?_ ?_<;>(intro h;try exact Zx))|fail)
  refine zap (X:=Nat) (fun m=>[(19,.int .i64 (m:Nat)),(18,.int .i64 cs.length),(5,.int .i64 (k:Nat)),(14,.int .i64 (k:Nat)),(13,.int .i64 cs.length),(4,.pointer (some ⟨gr,0,none⟩)),(3,.slice A (zcP cs).length c),(2,.pointer (some ⟨g2,0,none⟩)),(0,.slice B cs.length d)])
   (fun m=>[zak gr 43 (zat cs.length (zcT (orP (fun _ _=>false) (zd2 cs) k m) cs.length)),zac zag 1 3 A c (zcP cs),zak g2 43 (zat 0 (fun _=>0))]) (fun m=>m≤cs.length) (fun m=>cs.length-m) 0 Zo Ze (fun w hw=>hw) ?_
  intro m hml
  by_cases hmm:m<cs.length
  ·have hq:zd2 cs k m=decide (zfZ cs k<zfZ cs m):=rfl
   have hgk:=hLg k hkk
   have hgm:=hLg m hmm
   have hlt:=zcO (orP (fun _ _=>false) (zd2 cs) k m) (n:=cs.length) Zo k
   have hpm:=zdX (m:=m) Zo
   have hyes:=relN_add (P:=fun _ _=>false) (Q:=zd2 cs) hkk hmm
   have hno:=zhh (P:=fun _ _=>false) (Q:=zd2 cs) (n:=cs.length) (k:=k) (m:=m)
   have hlt2:=fun h=>congrArg (fun f=>f k) (hyes h rfl)
   have hlt3:=zcO (orP (fun _ _=>false) (zd2 cs) k (m+1)) (n:=cs.length) Zo k
   obtain⟨F,hFF⟩:∃F,zcT (orP (fun _ _=>false) (zd2 cs) k m) cs.length=F:=⟨_,rfl⟩
   rw[hFF] at hyes hno hlt hlt2 ⊢
   have hLm:0<(zcP cs).length:=by omega
   refine zb1 (enc:=zag) (ls:=zcP cs) Zm hLm ?_
   rintro gA rfl
   repeat' (first
    |refine Zha ?_|(refine Zhb ?_;intro g)|(refine Zg ?_ ?_<;>(intro h;try exact Zx))|refine GOF ?_ ?_|((with_reducible apply zam (id:=9) 1000 (OT.seq [(0,0),(0,1),(0,2),(0,4),(0,5),(0,6),(1,3),(1,7),(0,8)] .nil));kernel_rfl;exact rfl;kernel_rfl;exact Zd)|((with_reducible apply zam (id:=10) 9 (OT.seq [(0,0),(0,1),(0,2),(0,4),(0,5),(0,7),(1,3),(0,6),(0,8),(3,9)] .nil));kernel_rfl;exact rfl;kernel_rfl;exact Zd)|((with_reducible apply za9);(with_reducible apply QS_add16);exact rfl;exact rfl;exact rfl)|((with_reducible apply zba);(with_reducible apply QS_add16);exact rfl;exact rfl;exact rfl)|fail)
   all_goals
    refine zab (m+1) Zo Zo Ze (fun w hw=>?_)
    first
     |(have hQ:zd2 cs k m=true:=by rw[hq];exact decide_eq_true Zo
       have h3:=hlt2 hQ
       simp only[upd_same] at h3
       rw[←hyes hQ rfl,show F k+2^m=(F k+2^m) % 65536 by rw[Nat.mod_eq_of_lt Zo]]
       exact hw)
     |(rw[←hno (by rw[hq];exact decide_eq_false Zo)];exact hw)
  ·obtain rfl:m=cs.length:=by omega
   repeat' (first|refine Zha ?_|(refine Zhb ?_;intro g)|(refine Zg ?_ ?_<;>(intro h;try exact Zx))|refine GOF ?_ ?_|fail)
   refine zab (k+1) Zo Zo Ze (fun w hw=>?_)
   rw[←zdZ]
   exact hw
 ·obtain rfl:k=cs.length:=by omega
  repeat' (first|refine Zga ?_|(refine Zgb ?_;intro g)|(refine Zg ?_ ?_<;>(intro h;try exact Zx))|fail)
  ((with_reducible apply zau Tryz.results33);exact Zr;intro w' hw)
  exact⟨by rw[←zhU,←zd0];rfl,hw.below0 rfl⟩
end
end
end Go.Proofs.YtjdckepbihcgfaaGreatDoor
