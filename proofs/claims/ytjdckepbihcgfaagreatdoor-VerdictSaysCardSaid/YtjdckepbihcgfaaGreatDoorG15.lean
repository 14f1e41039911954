/- Lemmas for the walks (Sea1, Sea2, Sea3). No condition. -/
import Derived.Test.YtjdckepbihcgfaaGreatDoorG14
set_option linter.unusedSimpArgs false
set_option linter.unusedVariables false
set_option linter.unusedSectionVars false
set_option linter.unnecessarySimpa false
set_option maxRecDepth 100000
set_option maxHeartbeats 8000000
namespace Go.Proofs.YtjdckepbihcgfaaGreatDoor
section
/-! a search in general -/
section
variable {W:Type}(can:W→Nat→Bool)(nx:W→Nat→W)(comp:W→Bool)(k:Nat) 
def zgu:Nat→W→Option W
 |0,w=>if comp w=true then some w else none
 |n+1,w=>if comp w=true then some w else(List.range k).findSome? fun i=>if can w i=true then zgu n (nx w i) else none
def childS:Nat→W→Nat→Option W
 |0,_,_=>none
 |n+1,w,i=>zgu can nx comp k n (nx w i)
def tryS(n:Nat)(w:W)(i:Nat):Option W:=if can w i=true then childS can nx comp k n w i else none
theorem zej{α β:Type}{f:α→Option β}:∀{l:List α},(∀x∈l,f x=none)→l.findSome? f=none
 |[],_=>rfl
 |x::l,h=>by rw[List.findSome?_cons,h x Zj];exact zej fun y hy=>h y (by simp[hy])
theorem zfC{α β:Type}{f g:α→Option β}:∀{l:List α},(∀x∈l,f x=g x)→l.findSome? f=l.findSome? g
 |[],_=>rfl
 |x::l,h=>by rw[List.findSome?_cons,List.findSome?_cons,h x Zj,zfC fun y hy=>h y (by simp[hy])]
theorem findSome_at{β:Type}{f:Nat→Option β}{r:β}{i k:Nat}(hi:i<k)(hno:∀j,j<i→f j=none)(h:f i=some r):(List.range k).findSome? f=some r:=by
 obtain⟨d,rfl⟩:∃d,k=i+(d+1):=⟨k-i-1,by omega⟩
 rw[List.range_add,List.findSome?_append,zej (fun x hx=>hno x (List.mem_range.1 hx)),List.range_succ_eq_map]
 simp[h]
theorem zfT{β:Type}{f:Nat→Option β}{k:Nat}(hno:∀j,j<k→f j=none):(List.range k).findSome? f=none :=
 zej fun x hx=>hno x (List.mem_range.1 hx)
theorem zeZ{β:Type}{f:Nat→Option β}{k:Nat}:(List.range k).findSome? f=none↔∀j,j<k→f j=none:=by
 rw[List.findSome?_eq_none_iff]
 simp[List.mem_range]
theorem srch_eq(n:Nat)(w:W):zgu can nx comp k n w=if comp w=true then some w else(List.range k).findSome? (tryS can nx comp k n w):=by
 cases n with
 |zero =>
  rw[zgu,zfT (fun j _=>by unfold tryS childS;split<;>rfl)]
 |succ n =>
  rw[zgu];rfl
theorem srch_comp{n:Nat}{w:W}(h:comp w=true):zgu can nx comp k n w=some w:=by rw[srch_eq,if_pos h]
theorem srch_some{n i:Nat}{w r:W}(h:¬comp w=true)(hi:i<k)(hno:∀j,j<i→tryS can nx comp k n w j=none)(hr:tryS can nx comp k n w i=some r):zgu can nx comp k n w=some r:=by
 rw[srch_eq,if_neg h];exact findSome_at hi hno hr
theorem srch_none{n:Nat}{w:W}(h:¬comp w=true)(hno:∀j,j<k→tryS can nx comp k n w j=none):zgu can nx comp k n w=none:=by
 rw[srch_eq,if_neg h];exact zfT hno
end
section
variable {W:Type}{can can':W→Nat→Bool}{nx:W→Nat→W}{comp:W→Bool}{k:Nat} 
theorem srch_stuck{B:W→Prop}(h1:∀w,B w→comp w=false)(h2:∀w i,i<k→B w→can w i=true→B (nx w i)):∀n w,B w→zgu can nx comp k n w=none
 |0,w,hB=>by rw[zgu,h1 w hB];rfl
 |n+1,w,hB=>by
  rw[zgu,h1 w hB,if_neg Zj]
  refine zfT fun j hj=>?_
  split
  ·rename_i hc
   exact srch_stuck h1 h2 n _ (h2 w j hj hB hc)
  ·rfl
theorem srch_same{G B:W→Prop}(hG:∀w i,i<k→G w→can' w i=true→can w i=true∧G (nx w i))(hB:∀w i,i<k→G w→can w i=true→can' w i=false→B (nx w i)) 
  (h1:∀w,B w→comp w=false) (h2:∀w i,i<k→B w→can w i=true→B (nx w i)):∀n w,G w→zgu can nx comp k n w=zgu can' nx comp k n w
 |0,w,_=>by rw[zgu,zgu]
 |n+1,w,hw=>by
  rw[zgu,zgu]
  split
  ·rfl
  ·refine zfC fun i hi=>?_
   rw[List.mem_range] at hi
   by_cases hc':can' w i=true
   ·obtain⟨hc,hn⟩:=hG w i hi hw hc'
    rw[if_pos hc,if_pos hc',srch_same hG hB h1 h2 n _ hn]
   ·rw[if_neg hc']
    split
    ·rename_i hc
     exact srch_stuck h1 h2 n _ (hB w i hi hw hc (by simpa using hc'))
    ·rfl
theorem ze0{R:W→W→Prop}(h1:∀w w',R w w'→comp w=comp w')(h2:∀w w' i,i<k→R w w'→can w i=can w' i)(h3:∀w w' i,i<k→R w w'→can w i=true→R (nx w i) (nx w' i)):
  ∀n w w',R w w'→(zgu can nx comp k n w=none↔zgu can nx comp k n w'=none)
 |0,w,w',hR=>by rw[zgu,zgu,h1 w w' hR];split<;>simp
 |n+1,w,w',hR=>by
  rw[zgu,zgu,h1 w w' hR]
  split
  ·simp
  ·rw[zeZ,zeZ]
   refine forall_congr' fun i=>forall_congr' fun hi=>?_
   rw[h2 w w' i hi hR]
   split
   ·rename_i hc
    exact ze0 h1 h2 h3 n _ _ (h3 w w' i hi hR (by rw[h2 w w' i hi hR];exact hc))
   ·simp
end
/-! masks -/
def zgv(k m:Nat):Nat:=((List.range k).filter fun i=>!m.testBit i).length
theorem zek(m i j:Nat):(m ||| 2^i).testBit j=(m.testBit j||decide (i=j)):=by
 rw[Nat.testBit_or,Nat.testBit_two_pow]
theorem ze1{k m i:Nat}(hi:i<k)(h:m.testBit i=false):zgv k (m ||| 2^i)+1=zgv k m:=by
 unfold zgv
 have key:∀n,((List.range n).filter fun j=>!(m ||| 2^i).testBit j).length+(if i<n then 1 else 0)=((List.range n).filter fun j=>!m.testBit j).length:=by
  intro n
  induction n with
  |zero=>simp
  |succ n ih =>
   rw[List.range_succ,List.filter_append,List.filter_append,List.length_append,List.length_append]
   by_cases e:i=n
   ·subst e
    have h1:(m ||| 2^i).testBit i=true:=by rw[zek];simp
    simp[h,h1] at ih ⊢
    exact ih
   ·have h1:(m ||| 2^i).testBit n=m.testBit n:=by rw[zek];simp[e]
    have h2:(i<n+1)↔i<n:=by omega
    simp only[List.filter_cons,List.filter_nil,h1,h2]
    omega
 have:=key k
 rw[if_pos hi] at this
 exact this
theorem zjp(k:Nat):zgv k 0=k:=by
 unfold zgv
 rw[List.filter_eq_self.2 Zj]
 simp
theorem zdz(a b:Nat):a &&& b=0↔∀j,a.testBit j=true→b.testBit j=false:=by
 constructor
 ·intro h j ha
  have:(a &&& b).testBit j=false:=by rw[h];simp
  rw[Nat.testBit_and,ha] at this
  simpa using this
 ·intro h
  refine Nat.eq_of_testBit_eq fun j=>?_
  rw[Nat.testBit_and,Nat.zero_testBit]
  cases ha:a.testBit j with
  |false=>rfl
  |true=>rw[h j ha];rfl
/-! lists of steps, and what stands behind them -/
section
variable (ts:List Int)(cs:List Cl)(f:Nat→Nat) 
def zaH(w:List Stp):Nat:=w.foldl (fun m s=>m ||| 2^s.call.toNat) 0
def zaz(i:Nat):Cl:=cs.getD i default
def zh5(t:Int):Int:=ts.getD t.toNat 0
def za6(sts:List (List Int))(i:Nat):Res:=zaB (zh5 ts (zaz cs i).thing) (sts.getD (zaz cs i).thing.toNat []) (zaz cs i).kind (zaz cs i).arg
def zav(w:List Stp):List (List Int):=w.foldl (fun sts s=>sts.set (zaz cs s.call.toNat).thing.toNat (za6 ts cs sts s.call.toNat).1) (ts.map zfi)
def zbm(w:List Stp)(i:Nat):List Stp:=w++[⟨(i:Int),(za6 ts cs (zav ts cs w) i).2.1⟩]
def ze2(sts:List (List Int))(i:Nat):Bool:=decide ((za6 ts cs sts i).2.2=0)&&(decide ((zaz cs i).to=-1)||decide ((za6 ts cs sts i).2.1=(zaz cs i).res))
def canC(w:List Stp)(i:Nat):Bool:=(!(zaH w).testBit i&&decide (f i &&& zaH w=0))&&ze2 ts cs (zav ts cs w) i
def canR(w:List Stp)(i:Nat):Bool:=(!(zaH w).testBit i&&ze2 ts cs (zav ts cs w) i)&&(List.range cs.length).all fun j=>!(f j).testBit i||(zaH w).testBit j
def compM(m:Nat):Bool:=(List.range cs.length).all fun i=>decide ((zaz cs i).to=-1)||m.testBit i
def zeA(w:List Stp):Bool:=compM cs (zaH w)
def zc0(n:Nat)(w:List Stp):Option (List Stp):=zgu (canC ts cs f) (zbm ts cs) (zeA cs) cs.length n w
def zhf(n:Nat)(w:List Stp):Option (List Stp):=zgu (canR ts cs f) (zbm ts cs) (zeA cs) cs.length n w
theorem zhg(w:List Stp)(s:Stp):zaH (w++[s])=zaH w ||| 2^s.call.toNat:=by simp[zaH,List.foldl_append]
theorem zbK(w:List Stp)(i:Nat):zaH (zbm ts cs w i)=zaH w ||| 2^i:=by simp[zbm,zhg]
theorem statesW_snoc(w:List Stp)(s:Stp):zav ts cs (w++[s])=(zav ts cs w).set (zaz cs s.call.toNat).thing.toNat (za6 ts cs (zav ts cs w) s.call.toNat).1:=by simp[zav,List.foldl_append]
theorem zdA(w:List Stp)(i:Nat):zav ts cs (zbm ts cs w i)=(zav ts cs w).set (zaz cs i).thing.toNat (za6 ts cs (zav ts cs w) i).1:=by simp[zbm,statesW_snoc]
theorem zgw(w:List Stp)(i:Nat):(zaH w).testBit i=w.any fun s=>decide (s.call.toNat=i):=by
 have key:∀(w:List Stp) (m:Nat),(w.foldl (fun m s=>m ||| 2^s.call.toNat) m).testBit i=(m.testBit i||w.any fun s=>decide (s.call.toNat=i)):=by
  intro w
  induction w with
  |nil=>simp
  |cons s w ih=>intro m;rw[List.foldl_cons,ih,zek,List.any_cons,Bool.or_assoc]
 rw[zaH,key];simp
def zeB(cs:List Cl)(f:Nat→Nat):Prop:=∀i j,(f i).testBit j=true→i<cs.length∧j<cs.length∧i≠j∧(zaz cs i).to≠-1
def StsOk(sts:List (List Int)):Prop:=sts.length=ts.length∧∀t,t<ts.length→zeV (ts.getD t 0) (sts.getD t [])=0
def CallsOk:Prop:=∀i,i<cs.length→0≤(zaz cs i).thing∧(zaz cs i).thing<ts.length∧(zaZ (zh5 ts (zaz cs i).thing)).contains (zaz cs i).kind=true∧zdO (zaz cs i).kind (zaz cs i).arg=true
structure PathW (w:List Stp):Prop where
 len:w.length+zgv cs.length (zaH w)=cs.length
 calls:∀s∈w,0≤s.call∧s.call.toNat<cs.length
 sts:StsOk ts (zav ts cs w)
variable {ts cs f} 
theorem CallsOk.of{i:Int}(h:ClsOk ts i cs):CallsOk ts cs:=fun q hq=>by
 have h1:=h.each q hq
 have e:zaz cs q=cs[q]:=by simp[zaz,List.getD_eq_getElem?_getD,hq]
 rw[e]
 exact⟨h1.thing.1,h1.thing.2,h1.kind,h1.arg⟩
theorem zfj(hts:zaG ts=true):PathW ts cs []:=by
 refine⟨by simp[zaH,zjp],by simp,by simp[zav],fun t ht=>?_⟩
 have e:(zav ts cs []).getD t []=zfi (ts.getD t 0):=by simp[zav,List.getD_eq_getElem?_getD,ht]
 rw[e]
 refine begL_ok ?_
 have h1:ts.getD t 0=ts[t]:=by simp[List.getD_eq_getElem?_getD,ht]
 rw[h1]
 unfold zaG at hts
 rw[Bool.and_eq_true,Bool.not_eq_true'] at hts
 have h2:=List.any_eq_false.1 hts.2 ts[t] (List.getElem_mem ht)
 unfold badT at h2
 unfold typB
 simp only[decide_eq_true_eq] at h2
 rw[Bool.and_eq_true,decide_eq_true_eq,decide_eq_true_eq]
 omega
theorem step_fit(hc:CallsOk ts cs){i:Nat}(hi:i<cs.length):fitB (zh5 ts (zaz cs i).thing) (zaz cs i).kind:=zgs (hc i hi).2.2.1
theorem stepO_is(hc:CallsOk ts cs){sts:List (List Int)}(hs:StsOk ts sts){i:Nat}(hi:i<cs.length):
  zdV (zh5 ts (zaz cs i).thing) (sts.getD (zaz cs i).thing.toNat []) (zaz cs i).kind (zaz cs i).arg=za6 ts cs sts i:=by
 obtain⟨h1,h2,h3,h4⟩:=hc i hi
 unfold zdV za6
 have hck:zeV (zh5 ts (zaz cs i).thing) (sts.getD (zaz cs i).thing.toNat [])=0:=hs.2 _ Zo
 rw[if_pos hck,if_pos (by rw[h3,h4];rfl)]
theorem stsOk_set(hc:CallsOk ts cs){sts:List (List Int)}(hs:StsOk ts sts){i:Nat}(hi:i<cs.length)(he:(za6 ts cs sts i).2.2=0):StsOk ts (sts.set (zaz cs i).thing.toNat (za6 ts cs sts i).1):=by
 obtain⟨h1,h2,h3,h4⟩:=hc i hi
 refine⟨by rw[List.length_set];exact hs.1,fun t ht=>?_⟩
 by_cases e:(zaz cs i).thing.toNat=t
 ·subst e
  have:(sts.set (zaz cs i).thing.toNat (za6 ts cs sts i).1).getD (zaz cs i).thing.toNat []=(za6 ts cs sts i).1:=by
   simp[List.getD_eq_getElem?_getD,hs.1,ht]
  rw[this]
  exact zhe (hs.2 _ ht) (step_fit hc hi) h4 he
 ·have:(sts.set (zaz cs i).thing.toNat (za6 ts cs sts i).1).getD t []=sts.getD t []:=by
   simp[List.getD_eq_getElem?_getD,List.getElem?_set,e]
  rw[this];exact hs.2 t ht
theorem zgx(hc:CallsOk ts cs){w:List Stp}(h:PathW ts cs w){i:Nat}(hi:i<cs.length)(hm:(zaH w).testBit i=false)(he:(za6 ts cs (zav ts cs w) i).2.2=0):PathW ts cs (zbm ts cs w i):=by
 refine⟨?_,fun s hs=>?_,?_⟩
 ·rw[zbK]
  have h1:=ze1 hi hm
  have h2:=h.len
  simp only[zbm,List.length_append,List.length_singleton]
  omega
 ·rcases List.mem_append.1 hs with hs|hs
  ·exact h.calls s hs
  ·rw[List.mem_singleton] at hs;subst hs;exact⟨by simp,by simpa using hi⟩
 ·rw[zdA];exact stsOk_set hc h.sts hi he
theorem mask_in{w:List Stp}(h:PathW ts cs w){j:Nat}(hj:(zaH w).testBit j=true):j<cs.length:=by
 rw[zgw,List.any_eq_true] at hj
 obtain⟨s,hs,hj⟩:=hj
 have:=(h.calls s hs).2
 simp at hj;omega
theorem mask_lt{w:List Stp}(h:PathW ts cs w):zaH w<2^cs.length:=by
 refine Nat.lt_pow_two_of_testBit _ fun i hi=>?_
 rw[Bool.eq_false_iff]
 intro hb
 have:=mask_in h hb
 omega
theorem zgy{m:Nat}:compM cs m=true↔∀i,i<cs.length→(zaz cs i).to≠-1→m.testBit i=true:=by
 unfold compM
 rw[List.all_eq_true]
 refine⟨fun h i hi ht=>by have:=h i (List.mem_range.2 hi);simpa[ht] using this,fun h i hi=>?_⟩
 by_cases ht:(zaz cs i).to=-1
 ·simp[ht]
 ·simp[h i (List.mem_range.1 hi) ht]
theorem zcC{sts:List (List Int)}{i:Nat}:ze2 ts cs sts i=true↔(za6 ts cs sts i).2.2=0∧((zaz cs i).to=-1∨(za6 ts cs sts i).2.1=(zaz cs i).res):=by
 unfold ze2;simp
theorem zcp{w:List Stp}{i:Nat}:canC ts cs f w i=true↔(zaH w).testBit i=false∧f i &&& zaH w=0∧ze2 ts cs (zav ts cs w) i=true:=by
 unfold canC;simp[and_assoc]
theorem zfk{w:List Stp}{i:Nat}:canR ts cs f w i=true↔(zaH w).testBit i=false∧ze2 ts cs (zav ts cs w) i=true∧∀j,j<cs.length→(f j).testBit i=true→(zaH w).testBit j=true:=by
 unfold canR
 rw[Bool.and_eq_true,Bool.and_eq_true,List.all_eq_true,Bool.not_eq_true',and_assoc]
 refine and_congr_right fun _=>and_congr_right fun _=>⟨fun h j hj hf=>by have:=h j (List.mem_range.2 hj);simpa[hf] using this,fun h j hj=>?_⟩
 cases hf:(f j).testBit i with
 |false=>rfl
 |true=>simp[h j (List.mem_range.1 hj) hf]
def zfU(f:Nat→Nat)(w:List Stp):Prop:=∀i j,(f i).testBit j=true→(zaH w).testBit j=true→(zaH w).testBit i=true
theorem zdW:zfU f []:=fun i j _ h=>by simp[zaH] at h
theorem zjq(hR:zeB cs f){w:List Stp}(h:zfU f w){i:Nat}(hc:canR ts cs f w i=true):zfU f (zbm ts cs w i):=by
 intro a b hf hb
 rw[zbK,zek,Bool.or_eq_true] at hb ⊢
 rcases hb with hb|hb
 ·exact .inl (h a b hf hb)
 ·simp only[decide_eq_true_eq] at hb
  subst hb
  exact .inl ((zfk.1 hc).2.2 a (hR _ _ hf).1 hf)
theorem canR_canC(hR:zeB cs f){w:List Stp}(h:zfU f w){i:Nat}(hc:canR ts cs f w i=true):canC ts cs f w i=true:=by
 obtain⟨h1,h2,h3⟩:=zfk.1 hc
 refine zcp.2 ⟨h1,?_,h2⟩
 rw[zdz]
 intro j hj
 rw[Bool.eq_false_iff]
 intro hb
 have:=h i j hj hb
 rw[h1] at this;cases this
theorem srch_CR(hR:zeB cs f)(n:Nat){w:List Stp}(h:zfU f w):zc0 ts cs f n w=zhf ts cs f n w:=by
 refine srch_same (G:=zfU f) (B:=fun w=>∃i j,(f i).testBit j=true∧(zaH w).testBit j=true∧(zaH w).testBit i=false) ?_ ?_ ?_ ?_ n w h
 ·intro w i _ hw hc
  exact⟨canR_canC hR hw hc,zjq hR hw hc⟩
 ·intro w i hi hw hc hc'
  obtain⟨h1,h2,h3⟩:=zcp.1 hc
  have hn:¬∀j,j<cs.length→(f j).testBit i=true→(zaH w).testBit j=true:=fun hall=>by
   rw[zfk.2 ⟨h1,h3,hall⟩] at hc';cases hc'
  simp only[Classical.not_forall] at hn
  obtain⟨j,hj,hf,hb⟩:=hn
  refine⟨j,i,hf,by rw[zbK,zek];simp,?_⟩
  rw[zbK,zek,Bool.or_eq_false_iff]
  exact⟨by simpa using hb,by simpa using fun e=>(hR _ _ hf).2.2.1 e.symm⟩
 ·rintro w ⟨i,j,hf,hj,hi⟩
  rw[Bool.eq_false_iff]
  intro hcomp
  have:=(zgy.1 hcomp) i (hR _ _ hf).1 (hR _ _ hf).2.2.2
  rw[hi] at this;cases this
 ·rintro w i _ ⟨a,b,hf,hb,ha⟩ hc
  obtain⟨h1,h2,_⟩:=zcp.1 hc
  refine⟨a,b,hf,by rw[zbK,zek,hb];rfl,?_⟩
  rw[zbK,zek,ha,Bool.false_or,decide_eq_false_iff_not]
  rintro rfl
  have:=(zdz _ _).1 h2 b hf
  rw[hb] at this;cases this
theorem zh6{w w':List Stp}(hm:zaH w=zaH w')(hs:zav ts cs w=zav ts cs w')(n:Nat):zc0 ts cs f n w=none↔zc0 ts cs f n w'=none:=by
 refine ze0 (R:=fun w w'=>zaH w=zaH w'∧zav ts cs w=zav ts cs w') ?_ ?_ ?_ n w w' ⟨hm,hs⟩
 ·rintro w w' ⟨h1,_⟩
  unfold zeA;rw[h1]
 ·rintro w w' i _ ⟨h1,h2⟩
  unfold canC;rw[h1,h2]
 ·rintro w w' i _ ⟨h1,h2⟩ _
  exact⟨by rw[zbK,zbK,h1],by rw[zdA,zdA,h2]⟩
end
/-! what a state is remembered by -/
def zb6(x:Int):Nat:=(x % 256).toNat
def rowKey(s:List Int):List Nat:=zb6 s.length::s.flatMap fun n=>[zb6 n,zb6 (n / 256)]
def keyL(m:Nat)(sts:List (List Int)):List Nat:=[zb6 m,zb6 ((m >>> 8:Nat):Int)]++sts.flatMap rowKey
theorem valid_bounds{typ:Int}{s:List Int}(h:zeV typ s=0):s.length≤50∧∀x∈s,0≤x∧x≤1000:=by
 obtain⟨_,h2,h3⟩:=zjg h
 refine⟨h2,fun x hx=>?_⟩
 have hall:s.all okI=true→0≤x∧x≤1000:=fun ha=>by
  have:=List.all_eq_true.1 ha x hx
  simp only[okI,Bool.and_eq_true,decide_eq_true_eq] at this
  omega
 unfold zcj at h3
 split at h3
 ·unfold zjf at h3
  rw[Bool.and_eq_true,Bool.and_eq_true,decide_eq_true_eq,decide_eq_true_eq,decide_eq_true_eq] at h3
  obtain⟨y,rfl⟩:=List.length_eq_one_iff.1 h3.1
  rw[List.mem_singleton] at hx;subst hx
  exact h3.2
 ·split at h3
  ·rw[Bool.and_eq_true] at h3;exact hall h3.2
  ·exact hall h3
theorem byte_inj{x y:Int}(hx:0≤x∧x≤1000)(hy:0≤y∧y≤1000)(h1:zb6 x=zb6 y)(h2:zb6 (x / 256)=zb6 (y / 256)):x=y:=by
 unfold zb6 at h1 h2;omega
theorem vals_inj:∀{s s':List Int} {r r':List Nat},s.length=s'.length→(∀x∈s,0≤x∧x≤1000)→(∀x∈s',0≤x∧x≤1000) →
  (s.flatMap fun n=>[zb6 n,zb6 (n / 256)])++r=(s'.flatMap fun n=>[zb6 n,zb6 (n / 256)])++r'→s=s'∧r=r'
 |[],[],_,_,_,_,_,h=>⟨rfl,by simpa using h⟩
 |[],_::_,_,_,hl,_,_,_=>by simp at hl
 |_::_,[],_,_,hl,_,_,_=>by simp at hl
 |x::s,y::s',r,r',hl,hx,hy,h=>by
  simp only[List.flatMap_cons,List.cons_append,List.nil_append,List.append_assoc,List.cons.injEq] at h
  obtain⟨h1,h2,h3⟩:=h
  have e:=byte_inj (hx x Zj) (hy y Zj) h1 h2
  obtain⟨e2,e3⟩:=vals_inj (by simpa using hl) (fun z hz=>hx z (by simp[hz])) (fun z hz=>hy z (by simp[hz])) h3
  exact⟨by rw[e,e2],e3⟩
theorem rows_inj:∀{sts sts':List (List Int)},sts.length=sts'.length→(∀s∈sts,s.length≤50∧∀x∈s,0≤x∧x≤1000)→(∀s∈sts',s.length≤50∧∀x∈s,0≤x∧x≤1000) →
  sts.flatMap rowKey=sts'.flatMap rowKey→sts=sts'
 |[],[],_,_,_,_=>rfl
 |[],_::_,hl,_,_,_=>by simp at hl
 |_::_,[],hl,_,_,_=>by simp at hl
 |s::sts,s'::sts',hl,h1,h2,h=>by
  simp only[List.flatMap_cons,rowKey,List.cons_append,List.cons.injEq] at h
  have q1:=h1 s Zj
  have q2:=h2 s' Zj
  have h1':=h.1
  unfold zb6 at h1'
  obtain⟨e,er⟩:=vals_inj Zo q1.2 q2.2 h.2
  rw[e,rows_inj (by simpa using hl) (fun z hz=>h1 z (by simp[hz])) (fun z hz=>h2 z (by simp[hz])) er]
theorem zdB{ts:List Int}{sts:List (List Int)}(h:StsOk ts sts):∀s∈sts,s.length≤50∧∀x∈s,0≤x∧x≤1000:=by
 intro s hs
 obtain⟨t,ht,rfl⟩:=List.mem_iff_getElem.1 hs
 have:=h.2 t (by rw[←h.1];exact ht)
 have e:sts.getD t []=sts[t]:=by simp[List.getD_eq_getElem?_getD,ht]
 rw[e] at this
 exact valid_bounds this
theorem key_inj{ts:List Int}{m m':Nat}{sts sts':List (List Int)}(hm:m<65536)(hm':m'<65536)(h:StsOk ts sts)(h':StsOk ts sts')(he:keyL m sts=keyL m' sts'):m=m'∧sts=sts':=by
 simp only[keyL,List.cons_append,List.nil_append,List.cons.injEq,zb6,Nat.shiftRight_eq_div_pow] at he
 exact⟨by omega,rows_inj (h.1.trans h'.1.symm) (zdB h) (zdB h') he.2.2⟩
theorem byteL_lt(x:Int):zb6 x<256:=by unfold zb6;omega
theorem keyL_lt(m:Nat)(sts:List (List Int)):∀n∈keyL m sts,n<256:=by
 intro n hn
 unfold keyL at hn
 rcases List.mem_append.1 hn with hn|hn
 ·simp only[List.mem_cons,List.not_mem_nil,or_false] at hn
  rcases hn with rfl|rfl<;>exact byteL_lt _
 ·obtain⟨s,_,hn⟩:=List.mem_flatMap.1 hn
  unfold rowKey at hn
  rcases List.mem_cons.1 hn with rfl|hn
  ·exact byteL_lt _
  ·obtain⟨x,_,hn⟩:=List.mem_flatMap.1 hn
   simp only[List.mem_cons,List.not_mem_nil,or_false] at hn
   rcases hn with rfl|rfl<;>exact byteL_lt _
def keyW(ts:List Int)(cs:List Cl)(w:List Stp):ByteArray:=zdd (keyL (zaH w) (zav ts cs w))
def zev(ts:List Int)(cs:List Cl)(f:Nat→Nat)(D:List ByteArray):Prop:=∀w,PathW ts cs w→keyW ts cs w∈D→zc0 ts cs f (zgv cs.length (zaH w)) w=none
theorem memo_nil(ts:List Int)(cs:List Cl)(f:Nat→Nat):zev ts cs f []:=fun w _ h=>by simp at h
theorem memo_add{ts:List Int}{cs:List Cl}{f:Nat→Nat}{D:List ByteArray}(hk:cs.length≤16)(hD:zev ts cs f D){w:List Stp}(hw:PathW ts cs w)(hn:zc0 ts cs f (zgv cs.length (zaH w)) w=none):zev ts cs f (addB D (keyW ts cs w)):=by
 intro v hv hm
 unfold addB at hm
 split at hm
 ·exact hD v hv hm
 ·rcases List.mem_append.1 hm with hm|hm
  ·exact hD v hv hm
  ·rw[List.mem_singleton] at hm
   have hm':=bytesOf_inj (keyL_lt _ _) (keyL_lt _ _) hm
   have p16:2^cs.length≤65536:=Nat.le_trans (Nat.pow_le_pow_right Zi hk) Zi
   obtain⟨e1,e2⟩:=key_inj (Nat.lt_of_lt_of_le (mask_lt hv) p16) (Nat.lt_of_lt_of_le (mask_lt hw) p16) hv.sts hw.sts hm'
   rw[zh6 e1 e2,e1]
   exact hn
end
section
section
variable (ts:List Int)(cs:List Cl)(f:Nat→Nat) 
def doOf(s:Stp):Dn:=⟨(zaz cs s.call.toNat).kind,(zaz cs s.call.toNat).arg,s.res⟩
def zfV(t:Int)(s:Stp):Bool:=decide ((zaz cs s.call.toNat).thing=t)
def zbA(w:List Stp)(t:Int):List Dn:=(w.filter (zfV cs t)).map (doOf cs)
def zfW(w:List Stp)(t:Nat):Bool:=decide (zez (ts.getD t 0) (zfi (ts.getD t 0)) (zbA cs w t)=(zbA cs w t).length)
def zfD(w:List Stp):Bool:=(List.range ts.length).all (zfW ts cs w)
def inB(s:Stp):Bool:=decide (0≤s.call)&&decide (s.call<cs.length)
def resOk(s:Stp):Bool:=decide ((zaz cs s.call.toNat).to=-1)||decide (s.res=(zaz cs s.call.toNat).res)
def okR(m:Nat)(s:Stp):Bool:=(inB cs s&&!m.testBit s.call.toNat)&&resOk cs s
def okC(m:Nat)(s:Stp):Bool:=okR cs m s&&decide (f s.call.toNat &&& m=0)
def seqR(w:List Stp):Bool:=(List.range w.length).all fun i=>okR cs (zaH (w.take i)) (w.getD i default)
def seqC(w:List Stp):Bool:=(List.range w.length).all fun i=>okC cs f (zaH (w.take i)) (w.getD i default)
def validW(w:List Stp):Bool:=(seqC cs f w&&zeA cs w)&&zfD ts cs w
def zhQ(w:List Stp)(j:Nat):Int:=if w.any (fun s=>decide (s.call.toNat=j))=true then(w.findIdx (fun s=>decide (s.call.toNat=j)):Int) else -1
def zjr(w:List Stp)(i j:Nat):Bool:=!(f i).testBit j||(decide (zhQ w j<0)||(decide (0≤zhQ w i)&&decide (zhQ w i≤zhQ w j)))
def zjs(w:List Stp)(i:Nat):Bool:=decide ((zaz cs i).to=-1)||decide (0≤zhQ w i)
def ordR(w:List Stp):Bool:=(List.range cs.length).all fun i=>zjs cs w i&&(List.range cs.length).all (zjr f w i)
def zhR(w:List Stp):Bool:=(seqR cs w&&ordR cs f w)&&zfD ts cs w
variable {ts cs f} 
theorem posW_nn(w:List Stp)(j:Nat):decide (0≤zhQ w j)=(zaH w).testBit j:=by
 rw[zgw]
 unfold zhQ
 cases w.any (fun s=>decide (s.call.toNat=j))<;>simp
theorem posW_get{w:List Stp}{j:Nat}(h:0≤zhQ w j):∃p:Nat,zhQ w j=p∧∃hp:p<w.length,w[p].call.toNat=j:=by
 unfold zhQ at h ⊢
 split at h
 ·rename_i ha
  have hlt:w.findIdx (fun s=>decide (s.call.toNat=j))<w.length:=List.findIdx_lt_length_of_exists (by simpa using ha)
  refine⟨_,by rw[if_pos ha],hlt,?_⟩
  have:=List.findIdx_getElem (w:=hlt)
  simpa using this
 ·omega
theorem posW_le{w:List Stp}{j p:Nat}(hp:p<w.length)(h:w[p].call.toNat=j):0≤zhQ w j∧zhQ w j≤p:=by
 have ha:w.any (fun s=>decide (s.call.toNat=j))=true:=List.any_eq_true.2 ⟨_,List.getElem_mem hp,by simpa using h⟩
 unfold zhQ
 rw[if_pos ha]
 refine⟨by omega,?_⟩
 have:¬p<w.findIdx (fun s=>decide (s.call.toNat=j)):=fun hlt=>by
  have:=List.not_of_lt_findIdx hlt
  simp[h] at this
 omega
theorem bit_take{w:List Stp}{q j:Nat}:(zaH (w.take q)).testBit j=true↔∃p,∃hp:p<w.length,p<q∧w[p].call.toNat=j:=by
 rw[zgw,List.any_eq_true]
 constructor
 ·rintro⟨s,hs,h⟩
  obtain⟨p,hp,rfl⟩:=List.mem_iff_getElem.1 hs
  rw[List.length_take] at hp
  rw[List.getElem_take] at h
  exact⟨p,by omega,by omega,by simpa using h⟩
 ·rintro⟨p,hp,hq,h⟩
  refine⟨w[p],?_,by simpa using h⟩
  rw[List.mem_iff_getElem]
  exact⟨p,by rw[List.length_take];omega,by rw[List.getElem_take]⟩
theorem getD_at{w:List Stp}{i:Nat}(h:i<w.length):w.getD i default=w[i]:=by simp[List.getD_eq_getElem?_getD,h]
theorem zgz{w:List Stp}:seqR cs w=true↔∀i (h:i<w.length),okR cs (zaH (w.take i)) w[i]=true:=by
 unfold seqR
 rw[List.all_eq_true]
 exact⟨fun h i hi=>by have:=h i (List.mem_range.2 hi);rwa [getD_at hi] at this,fun h i hi=>by rw[getD_at (List.mem_range.1 hi)];exact h i (List.mem_range.1 hi)⟩
theorem seqC_iff{w:List Stp}:seqC cs f w=true↔∀i (h:i<w.length),okC cs f (zaH (w.take i)) w[i]=true:=by
 unfold seqC
 rw[List.all_eq_true]
 exact⟨fun h i hi=>by have:=h i (List.mem_range.2 hi);rwa [getD_at hi] at this,fun h i hi=>by rw[getD_at (List.mem_range.1 hi)];exact h i (List.mem_range.1 hi)⟩
theorem zim{w:List Stp}:ordR cs f w=true↔∀i,i<cs.length→zjs cs w i=true∧∀j,j<cs.length→zjr f w i j=true:=by
 unfold ordR
 rw[List.all_eq_true]
 refine⟨fun h i hi=>?_,fun h i hi=>?_⟩
 ·have:=h i (List.mem_range.2 hi)
  rw[Bool.and_eq_true,List.all_eq_true] at this
  exact⟨this.1,fun j hj=>this.2 j (List.mem_range.2 hj)⟩
 ·rw[Bool.and_eq_true,List.all_eq_true]
  exact⟨(h i (List.mem_range.1 hi)).1,fun j hj=>(h i (List.mem_range.1 hi)).2 j (List.mem_range.1 hj)⟩
theorem zjt{m:Nat}{s:Stp}(h:okR cs m s=true):0≤s.call∧s.call.toNat<cs.length∧m.testBit s.call.toNat=false∧resOk cs s=true:=by
 unfold okR inB at h
 simp only[Bool.and_eq_true,decide_eq_true_eq,Bool.not_eq_true'] at h
 exact⟨h.1.1.1,by omega,h.1.2,h.2⟩
theorem valid_right(hR:zeB cs f)(w:List Stp):validW ts cs f w=zhR ts cs f w:=by
 unfold validW zhR
 congr 1
 rw[Bool.eq_iff_iff,Bool.and_eq_true,Bool.and_eq_true,seqC_iff,zgz,zim]
 have hcomp:zeA cs w=true↔∀i,i<cs.length→zjs cs w i=true:=by
  unfold zeA
  rw[zgy]
  refine forall_congr' fun i=>forall_congr' fun _=>?_
  unfold zjs
  rw[posW_nn]
  by_cases ht:(zaz cs i).to=-1<;>simp[ht]
 constructor
 ·rintro⟨h1,h2⟩
  have hr:∀i (h:i<w.length),okR cs (zaH (w.take i)) w[i]=true:=fun i hi=>by
   have:=h1 i hi;unfold okC at this;rw[Bool.and_eq_true] at this;exact this.1
  refine⟨hr,fun i hi=>⟨hcomp.1 h2 i hi,fun j hj=>?_⟩⟩
  unfold zjr
  cases hf:(f i).testBit j with
  |false=>rfl
  |true =>
   rw[Bool.not_true,Bool.false_or]
   by_cases hn:zhQ w j<0
   ·simp[hn]
   ·have ha:=hcomp.1 h2 i hi
    unfold zjs at ha
    simp only[Bool.or_eq_true,decide_eq_true_eq] at ha
    have hi0:=ha.resolve_left (hR _ _ hf).2.2.2
    obtain⟨p,hp,hpl,hpc⟩:=posW_get hi0
    obtain⟨q,hq,hql,hqc⟩:=posW_get (w:=w) (j:=j) Zo
    have hle:zhQ w i≤zhQ w j:=by
     by_cases hlt:q<p
     ·exfalso
      have h3:=h1 p hpl
      unfold okC at h3
      rw[Bool.and_eq_true,decide_eq_true_eq,zdz,hpc] at h3
      have h4:=h3.2 j hf
      rw[bit_take.2 ⟨q,hql,hlt,hqc⟩] at h4;cases h4
     ·omega
    simp[hi0,hle]
 ·rintro⟨h1,h2⟩
  refine⟨fun i hi=>?_,hcomp.2 fun i hi=>(h2 i hi).1⟩
  unfold okC
  rw[Bool.and_eq_true,decide_eq_true_eq,zdz]
  refine⟨h1 i hi,fun j hf=>?_⟩
  rw[Bool.eq_false_iff]
  intro hb
  obtain⟨p,hpl,hpi,hpc⟩:=bit_take.1 hb
  have h3:=(h2 _ (hR _ _ hf).1).2 j (hR _ _ hf).2.1
  unfold zjr at h3
  rw[hf,Bool.not_true,Bool.false_or] at h3
  obtain⟨q1,q2⟩:=posW_le hpl hpc
  have hn:¬zhQ w j<0:=by omega
  simp only[hn,decide_false,Bool.false_or,Bool.and_eq_true,decide_eq_true_eq] at h3
  obtain⟨r,hr,hrl,hrc⟩:=posW_get h3.1
  have h4:=(zjt (h1 i hi)).2.2.1
  rw[bit_take.2 ⟨r,hrl,by omega,hrc⟩] at h4
  cases h4
/-! what stands behind what was done -/
def zdC(typ:Int)(s:List Int)(l:List Dn):List Int:=l.foldl (fun s d=>(zaB typ s d.kind d.arg).1) s
theorem afterP_snoc(typ:Int)(s:List Int)(l:List Dn)(d:Dn):zdC typ s (l++[d])=(zaB typ (zdC typ s l) d.kind d.arg).1:=by simp[zdC,List.foldl_append]
theorem zju{typ:Int}{s:List Int}{d:Dn}(h:zgt typ s d=true):zdV typ s d.kind d.arg=zaB typ s d.kind d.arg∧(zaB typ s d.kind d.arg).2.2=0∧(zaB typ s d.kind d.arg).2.1=d.res:=by
 unfold zgt at h
 simp only[decide_eq_true_eq] at h
 obtain⟨_,_,_,h3⟩:=stepO_ok h.1
 rw[h3] at h
 exact⟨h3,h⟩
theorem play_cons{typ:Int}{s:List Int}{d:Dn}{l:List Dn}(h:zez typ s (d::l)=(d::l).length):zgt typ s d=true∧zez typ (zaB typ s d.kind d.arg).1 l=l.length:=by
 rw[zez] at h
 split at h
 ·rename_i hg
  refine⟨hg,?_⟩
  rw[(zju hg).1] at h
  simpa using h
 ·simp at h
theorem playN_snoc{typ:Int}{d:Dn}:∀{l:List Dn} {s:List Int},zez typ s l=l.length→zez typ s (l++[d])=l.length+(if zgt typ (zdC typ s l) d=true then 1 else 0)
 |[],s,_=>by cases h:zgt typ s d<;>simp[zez,zdC,h]
 |x::l,s,h=>by
  obtain⟨hg,hl⟩:=play_cons h
  rw[List.cons_append,zez,if_pos hg,(zju hg).1,playN_snoc hl,show zdC typ s (x::l)=zdC typ (zaB typ s x.kind x.arg).1 l from rfl,List.length_cons]
  omega
theorem play_take{typ:Int}:∀{l:List Dn} {s:List Int} (q:Nat),zez typ s l=l.length→zeV typ s=0→zeV typ (zdC typ s (l.take q))=0
 |[],s,q,_,h0=>by simpa[zdC] using h0
 |x::l,s,0,_,h0=>by simpa[zdC] using h0
 |x::l,s,q+1,h,h0=>by
  obtain⟨hg,hl⟩:=play_cons h
  have h1:=goes_ok hg
  rw[(zju hg).1] at h1
  exact play_take q hl h1
def zin(cs:List Cl)(w:List Stp):Prop:=∀s∈w,0≤(zaz cs s.call.toNat).thing
theorem state_at{t:Nat}:∀(w:List Stp) (sts:List (List Int)),zin cs w→t<sts.length →
  (w.foldl (fun sts s=>sts.set (zaz cs s.call.toNat).thing.toNat (za6 ts cs sts s.call.toNat).1) sts).getD t []=zdC (ts.getD t 0) (sts.getD t []) (zbA cs w t)
 |[],sts,_,_=>by simp[zbA,zdC]
 |s::w,sts,hn,ht=>by
  have h0:=hn s Zj
  rw[List.foldl_cons,state_at w _ (fun x hx=>hn x (by simp[hx])) (by rw[List.length_set];exact ht)]
  by_cases e:(zaz cs s.call.toNat).thing=t
  ·have e1:(zaz cs s.call.toNat).thing.toNat=t:=by omega
   have e2:zbA cs (s::w) t=doOf cs s::zbA cs w t:=by simp[zbA,List.filter_cons,zfV,e]
   have e3:(sts.set (zaz cs s.call.toNat).thing.toNat (za6 ts cs sts s.call.toNat).1).getD t []=(zaB (ts.getD t 0) (sts.getD t []) (doOf cs s).kind (doOf cs s).arg).1:=by
    rw[e1]
    simp only[List.getD_eq_getElem?_getD,List.getElem?_set_self ht,Option.getD_some]
    simp only[za6,zh5,e1,doOf,List.getD_eq_getElem?_getD]
   rw[e2,e3];rfl
  ·have e1:(zaz cs s.call.toNat).thing.toNat≠t:=by omega
   have e2:zbA cs (s::w) t=zbA cs w t:=by simp[zbA,List.filter_cons,zfV,e]
   have e3:(sts.set (zaz cs s.call.toNat).thing.toNat (za6 ts cs sts s.call.toNat).1).getD t []=sts.getD t []:=by
    simp[List.getD_eq_getElem?_getD,List.getElem?_set,e1]
   rw[e2,e3]
theorem states_at{w:List Stp}(hn:zin cs w){t:Nat}(ht:t<ts.length):(zav ts cs w).getD t []=zdC (ts.getD t 0) (zfi (ts.getD t 0)) (zbA cs w t):=by
 unfold zav
 rw[state_at w _ hn (by simpa using ht)]
 congr 1
 simp[List.getD_eq_getElem?_getD,ht]
theorem path_nn(hc:CallsOk ts cs){w:List Stp}(h:PathW ts cs w):zin cs w:=fun s hs=>(hc _ (h.calls s hs).2).1
structure GoodW (ts:List Int) (cs:List Cl) (f:Nat→Nat) (w:List Stp):Prop where
 path:PathW ts cs w
 closed:zfU f w
 seq:seqC cs f w=true
 plays:zfD ts cs w=true
theorem good_nil(hts:zaG ts=true):GoodW ts cs f [] :=
 ⟨zfj hts,zdW,rfl,by simp[zfD,zfW,zbA,zez]⟩
theorem good_next(hc:CallsOk ts cs)(hR:zeB cs f){w:List Stp}(h:GoodW ts cs f w){i:Nat}(hi:i<cs.length)(hcan:canR ts cs f w i=true):GoodW ts cs f (zbm ts cs w i):=by
 obtain⟨h1,h2,h3⟩:=zfk.1 hcan
 obtain⟨f1,f2⟩:=zcC.1 h2
 have hcc:=(zcp.1 (canR_canC hR h.closed hcan)).2.1
 have hp:=zgx hc h.path hi h1 f1
 refine⟨hp,zjq hR h.closed hcan,?_,?_⟩
 ·rw[seqC_iff]
  intro j hj
  have hlen:(zbm ts cs w i).length=w.length+1:=by simp[zbm]
  by_cases e:j<w.length
  ·have:=seqC_iff.1 h.seq j e
   have e1:(zbm ts cs w i)[j]=w[j]:=by simp[zbm,List.getElem_append_left e]
   have e2:(zbm ts cs w i).take j=w.take j:=by simp only[zbm];rw[List.take_append_of_le_length Zo]
   rw[e1,e2];exact this
  ·have ej:j=w.length:=by omega
   subst ej
   have e1:(zbm ts cs w i)[w.length]=⟨(i:Int),(za6 ts cs (zav ts cs w) i).2.1⟩:=by simp[zbm]
   have e2:(zbm ts cs w i).take w.length=w:=by simp[zbm]
   rw[e1,e2]
   unfold okC okR inB resOk
   simp only[Int.toNat_natCast,h1,hcc,hi,Int.natCast_nonneg,Int.ofNat_lt,decide_true,Bool.and_self,Bool.not_false,Bool.true_and,Bool.and_true]
   rcases f2 with f2|f2<;>simp[f2]
 ·unfold zfD at *
  rw[List.all_eq_true]
  intro t ht
  have ht':=List.mem_range.1 ht
  have hold:=List.all_eq_true.1 h.plays t ht
  unfold zfW at hold ⊢
  simp only[decide_eq_true_eq] at hold ⊢
  have hthing:=hc i hi
  by_cases e:(zaz cs i).thing=t
  ·have e2:zbA cs (zbm ts cs w i) t=zbA cs w t++[⟨(zaz cs i).kind,(zaz cs i).arg,(za6 ts cs (zav ts cs w) i).2.1⟩]:=by
    simp[zbA,zbm,List.filter_append,List.filter_cons,zfV,e,doOf]
   have e1:(zaz cs i).thing.toNat=t:=by omega
   have est:=states_at (path_nn hc h.path) ht'
   rw[e2,playN_snoc hold,List.length_append,List.length_singleton,←est,if_pos]
   have hso:=stepO_is hc h.path.sts hi
   unfold zh5 at hso
   rw[e1] at hso
   unfold zgt
   simp only[decide_eq_true_eq]
   rw[hso]
   exact⟨f1,rfl⟩
  ·have e2:zbA cs (zbm ts cs w i) t=zbA cs w t:=by
    simp[zbA,zbm,List.filter_append,List.filter_cons,zfV,e]
   rw[e2];exact hold
theorem good_right(hR:zeB cs f){w:List Stp}(h:GoodW ts cs f w):zhR ts cs f w=zeA cs w:=by
 rw[←valid_right hR,validW,h.seq,h.plays];simp
end
end
section
open Go.RowKit
theorem zhS{p R:Prop}(r:R)(h:Rest R→p:=by intro r;(first|with_reducible (first|apply zcE|apply za9|apply zba|apply zbd|apply zbe)|((with_reducible (first|apply zaN|apply zaO));exact rfl;exact rfl;(with_reducible exact rfl)));(first|((with_reducible apply za1);exact rfl;exact Lds.rd1 (enc:=ziY) hH Zj hkl hv)|((with_reducible apply QS_toByte);exact rfl)|exact QS.auto|((with_reducible apply za1);exact rfl;exact Lds.old hlt Zj (by assumption))|((with_reducible apply QS_toByte);exact rfl)|((with_reducible apply QS_shr8I);exact rfl;exact rfl;assumption));exact rfl;exact r.out):p:=h ⟨r⟩
instance : MapStr Tryz.prog 149 9 4:=⟨Tryz.underlying149,Tryz.underlying9⟩
theorem bitZ(m i:Nat):((((m >>> i) &&& 1:Nat):Int)=0)↔m.testBit i=false:=by
 rw[Int.natCast_eq_zero,←Nat.and_comm];simp[Nat.testBit]
theorem bitO(m i:Nat):((((m >>> i) &&& 1:Nat):Int)=1)↔m.testBit i=true:=by
 have h:(m >>> i) &&& 1<2:=Nat.lt_of_le_of_lt Nat.and_le_right Zi
 have hz:=bitZ m i
 constructor
 ·intro e
  cases hb:m.testBit i with
  |true=>rfl
  |false=>rw[hz.2 hb] at e;cases e
 ·intro hb
  have:¬((((m >>> i) &&& 1:Nat):Int)=0):=fun e=>by rw[hz.1 e] at hb;cases hb
  omega
section
variable {P:Program}{C:Ctx}{E:zaE}{S:List Ent}{ty ty2 ty3:Nat}{x y:Operand} 
theorem QS_toByte{s t:Nat}{k0 k1:IntKind}{n:Int}[IntOf P s k0][IntOf P t .u8](hx:evo E x=some (.int k1 n)):QS P C E S (.convert s t x) ty (.int .u8 ((zb6 n:Nat):Int)):=by
 have h:=QS_convertW (P:=P) (C:=C) (S:=S) (s:=s) (t:=t) (k:=.u8) (ty:=ty) hx
 have e:IntKind.u8.wrap n=((zb6 n:Nat):Int):=by
  rw[IntKind.wrap_u8];unfold zb6;omega
 rwa [e] at h
theorem QS_shr8I{k:IntKind}{n:Int}(hx:evo E x=some (.int .i64 n))(hy:evo E y=some (.int k 8))(h:0≤n∧n≤1000):QS P C E S (.binOp .shr ty2 x y ty3) ty (.int .i64 (n / 256)):=by
 have e1:n=((n.toNat:Nat):Int):=by omega
 have e2:((n.toNat >>> 8:Nat):Int)=n / 256:=by rw[Nat.shiftRight_eq_div_pow];omega
 have h:=QS_shr64 (P:=P) (C:=C) (S:=S) (ty:=ty) (ty2:=ty2) (ty3:=ty3) (a:=n.toNat) (b:=8) (by rw[hx,←e1]) hy Zo
 rwa [e2] at h
theorem QS_bytesStr{s t e g c:Nat}{l:List Nat}[hs:SliceOf P s e 1][he:IntOf P e .u8](ht:P.underlying t=some .string)(hx:evo E x=some (.slice (some ⟨g,0,none⟩) l.length c)) 
  (hm:zac byEnc 1 e (some ⟨g,0,none⟩) c l∈S):QS P C E S (.convert s t x) ty (.string (zdd l)) :=
 QS.of (fun a w ha hw=>by
  have ho:Own byEnc 1 e w 0 (.slice (some ⟨g,0,none⟩) l.length c) l:=(hw.holds _ hm).1
  have hl:(loadCells ⟨g,0,none⟩ l.length).run P w=.ok ((l.map fun n:Nat=>(n:Int)).map (Value.int .u8)).toArray w:=by
   have h1:=run_loadCells_list (P:=P) (w:=w) ⟨g,0,none⟩ (l.map fun n:Nat=>Value.int .u8 (n:Int)) (fun j v hv=>by
    rw[List.getElem?_map] at hv
    obtain⟨n,hn,rfl⟩:=Option.map_eq_some_iff.1 hv
    obtain⟨hj,rfl⟩:=List.getElem?_eq_some_iff.1 hn
    have:=ho.cellAt (j:=j) (off:=0) (v:=.int .u8 (l[j]:Nat)) (fun _=>rfl) hj rfl
    rw[zds];simpa using this)
   rw[List.length_map] at h1
   rw[List.map_map]
   exact h1
  have hr:=run_bytesToString (P:=P) w ⟨g,0,none⟩ l.length c (l.map fun n:Nat=>(n:Int)) hl
  have hc:=run_convert_bytes_string (P:=P) w s t e (some ⟨g,0,none⟩) l.length c hs.und he.und ht
  rw[hr] at hc
  have e1:(l.map fun n:Nat=>(n:Int)).foldl (fun r n=>r.push (UInt8.ofNat n.toNat)) ByteArray.empty=zdd l:=by
   rw[List.foldl_map];rfl
  rw[e1] at hc
  simp[execOp,ha.evo hx,hc])
end
/-! the finder -/
@[reducible] def finC (tv cv:Value) (n:Int) (f:Nat→Nat) (hv:Value) (m:Nat) (ov:Value) (gm:Nat):Array Value :=
 #[tv,cv,.int .i64 n,.int .u16 (f 0),.int .u16 (f 1),.int .u16 (f 2),.int .u16 (f 3),.int .u16 (f 4),.int .u16 (f 5),.int .u16 (f 6),.int .u16 (f 7),.int .u16 (f 8),.int .u16 (f 9),.int .u16 (f 10),.int .u16 (f 11),hv,.int .u16 (m:Nat),ov,.map (some gm)]
theorem fin_after{tv cv hv ov:Value}{n:Int}{f:Nat→Nat}{m gm i:Nat}(h:i<12):nthV (finC tv cv n f hv m ov gm).toList (3+i)=some (.int .u16 (f i)):=by
 have:i=0∨i=1∨i=2∨i=3∨i=4∨i=5∨i=6∨i=7∨i=8∨i=9∨i=10∨i=11:=by omega
 rcases this with rfl|rfl|rfl|rfl|rfl|rfl|rfl|rfl|rfl|rfl|rfl|rfl<;>rfl
theorem zb7{cs:List Cl}{i:Nat}(h:i<cs.length):zaz cs i=cs[i]:=by simp[zaz,List.getD_eq_getElem?_getD,h]
section
variable (B:Option Addr)(d:Nat)(cs:List Cl)(gf m:Nat)(w:World) 
theorem complete_any(hlt:gf<w.heap.size)(h1:w.cell? ⟨gf,1,none⟩=some (.slice B cs.length d))(h16:w.cell? ⟨gf,16,none⟩=some (.int .u16 (m:Nat)))(hB:zh2 w B cs)(hm:m<65536)(hl:cs.length≤16):
  Calls Tryz.prog 133 #[.pointer (some ⟨gf,0,none⟩)] w fun e w'=>e=.returned (.bool (compM cs m))∧Below w.heap.size w w':=by
 refine zaj (S:=[]) [] Tryz.func133 rfl Tryz.ntmps133 Zj (Mem.nil _) ?_
 repeat' (first|refine zhS ?_|refine Zga ?_|(refine Zgb ?_;intro g)|(refine Zg ?_ ?_<;>(intro h;try exact Zx))|fail)
 refine zap (X:=Nat) (fun k=>[(10,.int .i64 (k:Nat)),(9,.int .i64 cs.length),(8,.slice B cs.length d),(0,.pointer (some ⟨gf,0,none⟩))]) (fun _=>[])
  (fun k=>k≤cs.length∧∀i,i<k→(zaz cs i).to≠-1→m.testBit i=true) (fun k=>cs.length-k) 0 ⟨by omega,fun i hi=>by omega⟩ Ze (by exact zaK) ?_
 rintro k ⟨hk,hno⟩
 by_cases hkl:k<cs.length
 ·obtain⟨b,o,rfl,_⟩:=RdE.open hB Zo
  have hc:=zb7 hkl
  have hz:=bitZ m k
  repeat' (first|refine zhS ?_|refine Zga ?_|(refine Zgb ?_;intro g)|(refine Zg ?_ ?_<;>(intro h;try exact Zx))|fail)
  ·(refine zah Tryz.results133 rfl (fun w' hw=>?_))
   have hb:=hz.1 (by assumption)
   have:compM cs m=false:=by
    rw[Bool.eq_false_iff]
    intro h
    have:=zgy.1 h k hkl (by rw[hc];assumption)
    rw[hb] at this;cases this
   exact⟨by rw[this];rfl,hw.below0 rfl⟩
  ·refine zab (k+1) ⟨hkl,fun i hi ht=>?_⟩ Zo Ze (by exact zaK)
   by_cases e:i=k
   ·subst e
    cases hb:m.testBit i with
    |true=>rfl
    |false=>exact absurd (hz.2 hb) (by assumption)
   ·exact hno i Zo ht
  ·refine zab (k+1) ⟨hkl,fun i hi ht=>?_⟩ Zo Ze (by exact zaK)
   by_cases e:i=k
   ·subst e;exact absurd (by rw[hc];assumption) ht
   ·exact hno i Zo ht
 ·obtain rfl:k=cs.length:=by omega
  repeat' (first|refine zhS ?_|refine Zga ?_|(refine Zgb ?_;intro g)|(refine Zg ?_ ?_<;>(intro h;try exact Zx))|fail)
  (refine zah Tryz.results133 rfl (fun w' hw=>?_))
  exact⟨by rw[zgy.2 hno];rfl,hw.below0 rfl⟩
end
def keyP(m:Nat)(sts:List (List Int))(k:Nat):List Nat:=keyL m (sts.take k)
def rowP(s:List Int)(q:Nat):List Nat:=zb6 s.length::(s.take q).flatMap fun n=>[zb6 n,zb6 (n / 256)]
theorem rowP_succ{s:List Int}{q:Nat}(h:q<s.length):rowP s q++[zb6 s[q],zb6 (s[q] / 256)]=rowP s (q+1):=by
 unfold rowP
 rw[List.take_succ_eq_append_getElem h,List.flatMap_append]
 simp only[List.cons_append,List.flatMap_cons,List.flatMap_nil,List.append_nil]
theorem keyP_succ{m:Nat}{sts:List (List Int)}{k:Nat}(h:k<sts.length):keyP m sts k++rowP sts[k] sts[k].length=keyP m sts (k+1):=by
 unfold keyP keyL rowP
 rw[List.take_succ_eq_append_getElem h,List.flatMap_append,List.take_length]
 simp only[List.append_assoc,List.flatMap_cons,List.flatMap_nil,List.append_nil,rowKey]
theorem rowP_len{s:List Int}{q:Nat}:(rowP s q).length≤1+2 * s.length:=by
 have:∀l:List Int,(l.flatMap fun n=>[zb6 n,zb6 (n / 256)]).length=2 * l.length:=by
  intro l
  induction l with
  |nil=>rfl
  |cons x l ih=>rw[List.flatMap_cons,List.length_append,ih];simp;omega
 rw[rowP,List.length_cons,this,List.length_take];omega
theorem keyP_len{m:Nat}{sts:List (List Int)}(hv:∀s∈sts,s.length≤50∧∀x∈s,0≤x∧x≤1000):∀{k:Nat},k≤sts.length→(keyP m sts k).length≤2+101 * k
 |0,_=>by simp[keyP,keyL]
 |k+1,h=>by
  rw[←keyP_succ (show k<sts.length by omega),List.length_append]
  have h1:=keyP_len (m:=m) hv (k:=k) Zo
  have h2:=rowP_len (s:=sts[k]) (q:=sts[k].length)
  have h3:=(hv sts[k] (List.getElem_mem _)).1
  omega
section
variable (H:Option Addr)(hc:Nat)(hs:List Hd)(sts:List (List Int))(gf m:Nat)(w:World) 
theorem key_any(hlt:gf<w.heap.size)(h15:w.cell? ⟨gf,15,none⟩=some (.slice H hs.length hc))(h16:w.cell? ⟨gf,16,none⟩=some (.int .u16 (m:Nat)))(hm:m<65536) 
  (hH:RdE ziY 1 w H hs) (hlen:hs.length=sts.length) (hrow:∀j (h1:j<hs.length) (h2:j<sts.length),hs[j].n=sts[j].length∧RdInt w hs[j].a sts[j])
  (hlt4:sts.length≤4) (hval:∀s∈sts,s.length≤50∧∀x∈s,0≤x∧x≤1000) :
  Calls Tryz.prog 134 #[.pointer (some ⟨gf,0,none⟩)] w fun e w'=>e=.returned (.string (zdd (keyL m sts)))∧Below w.heap.size w w':=by
 refine zaj (S:=[]) [] Tryz.func134 rfl Tryz.ntmps134 Zj (Mem.nil _) ?_
 repeat' (first|refine zhS ?_|refine Zha ?_|(refine Zhb ?_;intro g)|(refine Zg ?_ ?_<;>(intro h;try exact Zx))|refine GOF ?_ ?_|((with_reducible apply zam (id:=1) 1000 (OT.seq [(0,0),(0,1),(0,2),(0,5),(0,6),(0,7),(1,3),(0,4),(1,8),(0,9),(0,10),(2,11),(0,12)] .nil));kernel_rfl;exact rfl;kernel_rfl;exact Zd)|fail)
 obtain⟨g0,rfl⟩:∃x,x=g:=⟨_,rfl⟩
 refine T_mem (fun w hw=>Mem.asOwn (enc:=byEnc) (M:=1) (keyP m sts 0) Zu rfl (fun _=>rfl) (by show 2≤maxLen;decide) hw) ?_
 refine zap (X:=Nat×Option Addr×Nat) (fun x=>[(25,.int .i64 (x.1:Nat)),(24,.int .i64 hs.length),(23,.slice H hs.length hc),(3,.slice x.2.1 (keyP m sts x.1).length x.2.2)])
  (fun x=>[zac byEnc 1 5 x.2.1 x.2.2 (keyP m sts x.1)]) (fun x=>x.1≤sts.length) (fun x=>sts.length-x.1) (0,some ⟨g0,0,none⟩,2) Zj Ze (by exact zaK) ?_
 rintro⟨k,A1,c1⟩ hk
 dsimp only at hk ⊢
 have hkb:=keyP_len (m:=m) hval hk
 by_cases hks:k<sts.length
 ·have hkl:k<hs.length:=by omega
  obtain⟨bh,oh,rfl,_⟩:=RdE.open hH Zo
  obtain⟨hn,hR⟩:=hrow k hkl hks
  obtain⟨aR,cR,hh⟩:∃aR cR,hs[k]=⟨aR,sts[k].length,cR⟩:=⟨hs[k].a,hs[k].c,by rw[←hn]⟩
  rw[hh] at hR
  dsimp only at hR
  have hv:(ziY hs[k])[0]?=some (.slice aR sts[k].length cR):=by rw[hh];rfl
  have hb:=hval sts[k] (List.getElem_mem hks)
  have hks2:=keyP_succ (m:=m) hks
  generalize hP:keyP m sts k=P at *
  generalize hP2:keyP m sts (k+1)=P2 at *
  generalize sts[k]=row at *
  repeat' (first|refine zhS ?_|refine Zga ?_|(refine Zgb ?_;intro g)|(refine Zg ?_ ?_<;>(intro h;try exact Zx))|((with_reducible (first|apply zaa|apply TD_e3z|apply zan|apply zaf|apply zae));((with_reducible apply zaw (enc:=byEnc));exact rfl;exact rfl;exact Zm;exact rfl;exact fun _=>rfl;exact fun _=>rfl;(intro A' c';exact Zu);(omega);decide;exact rfl);exact Zh;(rintro _ _ ⟨A',c',rfl,rfl⟩);(try refine⟨SUB,?_⟩))|fail)
  refine zap (X:=Nat×Option Addr×Nat) (fun x=>[(37,.int .i64 (x.1:Nat)),(36,.int .i64 row.length),(35,.slice aR row.length cR),(25,.int .i64 (k:Nat)),(24,.int .i64 hs.length),(23,.slice (some ⟨bh,oh,none⟩) hs.length hc),(3,.slice x.2.1 (P++rowP row x.1).length x.2.2)])
   (fun x=>[zac byEnc 1 5 x.2.1 x.2.2 (P++rowP row x.1)]) (fun x=>x.1≤row.length) (fun x=>row.length-x.1) (0,A',c') Zj Ze (by exact zaK) ?_
  rintro⟨q,A2,c2⟩ hq
  dsimp only at hq ⊢
  have hqb:=rowP_len (s:=row) (q:=q)
  have hlb:(P++rowP row q).length≤2000:=by rw[List.length_append];omega
  by_cases hql:q<row.length
  ·obtain⟨br,orr,rfl,_⟩:=RdE.open hR Zo
   have hx:=hb.2 row[q] (List.getElem_mem hql)
   have hsq:=rowP_succ hql
   repeat' (first|refine zhS ?_|refine Zha ?_|(refine Zhb ?_;intro g)|(refine Zg ?_ ?_<;>(intro h;try exact Zx))|refine GOF ?_ ?_|((with_reducible apply zam (id:=1) 1000 (OT.seq [(0,0),(0,1),(0,2),(0,5),(0,6),(0,7),(1,3),(0,4),(1,8),(0,9),(0,10),(2,11),(0,12)] .nil));kernel_rfl;exact rfl;kernel_rfl;exact Zd)|((with_reducible (first|apply zaa|apply TD_e3z|apply zan|apply zaf|apply zae));((with_reducible apply zbp (enc:=byEnc) (xs:=[zb6 row[q],zb6 (row[q] / 256)]) (ls:=P++rowP row q));exact rfl;exact rfl;exact Lies.blk Zm;exact fun _=>rfl;exact fun _=>rfl;(intro A' c';exact Zu);(simp only[List.length_cons,List.length_nil];omega);decide;exact rfl);exact Zh;(rintro _ _ ⟨A',c',rfl,rfl⟩);(try refine⟨SUB,?_⟩))|fail)
   have e1:P++rowP row q++[zb6 row[q],zb6 (row[q] / 256)]=P++rowP row (q+1):=by rw[List.append_assoc,hsq]
   rw[e1]
   apply zab (q+1,A',c')
   case hE=>exact Ze
   case hS=>exact zaK
   case hμ=>(try dsimp only);omega
   case hp=>(try dsimp only);omega
  ·obtain rfl:q=row.length:=by omega
   repeat' (first|refine zhS ?_|refine Zha ?_|(refine Zhb ?_;intro g)|(refine Zg ?_ ?_<;>(intro h;try exact Zx))|refine GOF ?_ ?_|((with_reducible apply zam (id:=1) 1000 (OT.seq [(0,0),(0,1),(0,2),(0,5),(0,6),(0,7),(1,3),(0,4),(1,8),(0,9),(0,10),(2,11),(0,12)] .nil));kernel_rfl;exact rfl;kernel_rfl;exact Zd)|fail)
   apply zab (k+1,A2,c2)
   case hE=>rw[hks2] at *;rw[hP2];exact Ze
   case hS=>rw[hP2];exact fun w hw=>by rw[hks2] at hw;exact hw.sub Zt
   case hμ=>(try dsimp only);omega
   case hp=>(try dsimp only);omega
 ·obtain rfl:k=sts.length:=by omega
  have e2:keyP m sts sts.length=keyL m sts:=by unfold keyP;rw[List.take_length]
  rw[e2]
  have h0:0<(keyL m sts).length:=by simp[keyL]
  generalize keyL m sts=L at *
  refine zb1 (ls:=L) Zm h0 ?_
  rintro gr rfl
  repeat' (first|refine zhS ?_|refine Zha ?_|(refine Zhb ?_;intro g)|(refine Zg ?_ ?_<;>(intro h;try exact Zx))|refine GOF ?_ ?_|((with_reducible apply zcE);((with_reducible apply QS_bytesStr (l:=L));exact Tryz.underlying9;exact rfl;exact Zm);exact rfl)|fail)
  (refine zah Tryz.results134 rfl (fun w' hw=>?_))
  exact⟨rfl,hw.below0 rfl⟩
end
end
end Go.Proofs.YtjdckepbihcgfaaGreatDoor
