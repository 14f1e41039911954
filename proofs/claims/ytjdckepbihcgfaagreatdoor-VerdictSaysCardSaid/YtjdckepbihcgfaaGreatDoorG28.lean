/- Lemmas for the walks (Seq1, SubA, Sub1, Bg1, Bg4, CtRvl, SrtRvl, Ptr). No condition. -/
import Derived.Test.YtjdckepbihcgfaaGreatDoorG20
import Derived.Test.YtjdckepbihcgfaaGreatDoorG24
import Derived.Laws.Pointers
set_option linter.unusedSimpArgs false
set_option linter.unusedVariables false
set_option linter.unusedSectionVars false
set_option linter.unnecessarySimpa false
set_option maxRecDepth 100000
set_option maxHeartbeats 8000000
namespace Go.Proofs.YtjdckepbihcgfaaGreatDoor
section
open Go.RowKit
def zbk(cs:List Cl)(i j:Nat):Bool:=decide ((cs.getD i default).who=(cs.getD j default).who)&&decide (i<j)
def zaX(cs:List Cl):Nat→Nat:=zcT (zbk cs) cs.length
theorem zfF(cs:List Cl):zcT (fun i j=>(fun _ _=>false) i j||zbk cs i j) cs.length=zaX cs:=by simp[zaX]
theorem relPeople_16(cs:List Cl)(h:cs.length≤16)(i:Nat):zaX cs i<65536:=zcO _ h i
theorem relOk_people{ts:List Int}{cs:List Cl}(h:SeaOk ts cs):zeB cs (zaX cs):=by
 intro i j hb
 unfold zaX at hb
 rw[relN_bit,Bool.and_eq_true,Bool.and_eq_true,decide_eq_true_eq,decide_eq_true_eq] at hb
 obtain⟨hi,hj,ha⟩:=hb
 unfold zbk at ha
 rw[clD hi,clD hj,Bool.and_eq_true,decide_eq_true_eq,decide_eq_true_eq] at ha
 exact⟨hi,hj,by omega,by rw[zb7 hi];exact(h.tos.one i j ha.2 hj ha.1).1⟩
section
variable (A:Option Addr)(c:Nat)(cs:List Cl)(w:World)(hA:zh2 w A cs) 
include hA
theorem programs_any(hl:cs.length≤12):Calls Tryz.prog 44 #[.slice A cs.length c] w fun e w'=>e=.returned (.agg (zat cs.length (zaX cs)))∧Below w.heap.size w w':=by
 refine zaj (S:=[]) [] Tryz.func44 rfl Tryz.ntmps44 Zj (Mem.nil _) ?_
 repeat' (first|refine Zga ?_|(refine Zgb ?_;intro g)|(refine Zg ?_ ?_<;>(intro h;try exact Zx))|fail)
 rename_i g2
 obtain⟨gr,rfl⟩:∃x,x=g:=⟨_,rfl⟩
 refine zap (X:=Nat) (fun k=>[(13,.int .i64 (k:Nat)),(12,.int .i64 cs.length),(11,.slice A cs.length c),(3,.pointer (some ⟨gr,0,none⟩)),(2,.pointer (some ⟨g2,0,none⟩)),(0,.slice A cs.length c)])
  (fun k=>[zak gr 43 (zat cs.length (zcT (orP (fun _ _=>false) (zbk cs) k 0) cs.length)),zak g2 43 (zat 0 (fun _=>0))]) (fun k=>k≤cs.length) (fun k=>cs.length-k) 0 Zo Ze (fun w hw=>by rw[orP_0,relN_0];exact hw) ?_
 intro k hk
 by_cases hkk:k<cs.length
 ·obtain⟨b,o,rfl,_⟩:=RdE.open hA Zo
  repeat' (first|refine Zga ?_|(refine Zgb ?_;intro g)|(refine Zg ?_ ?_<;>(intro h;try exact Zx))|fail)
  obtain⟨gm,rfl⟩:∃x,x=g:=⟨_,rfl⟩
  refine zap (X:=Nat) (fun m=>[(20,.int .i64 (m:Nat)),(19,.int .i64 cs.length),(18,.slice (some ⟨b,o,none⟩) cs.length c),(5,.pointer (some ⟨gm,0,none⟩)),(4,.int .i64 (k:Nat)),(13,.int .i64 (k:Nat)),(12,.int .i64 cs.length),(11,.slice (some ⟨b,o,none⟩) cs.length c),(3,.pointer (some ⟨gr,0,none⟩)),(2,.pointer (some ⟨g2,0,none⟩)),(0,.slice (some ⟨b,o,none⟩) cs.length c)])
   (fun m=>[zak gm 36 cs[k].enc.toArray,zak gr 43 (zat cs.length (zcT (orP (fun _ _=>false) (zbk cs) k m) cs.length)),zak g2 43 (zat 0 (fun _=>0))]) (fun m=>m≤cs.length) (fun m=>cs.length-m) 0 Zo Ze (fun w hw=>hw) ?_
  intro m hml
  by_cases hmm:m<cs.length
  ·have hq:zbk cs k m=(decide (cs[k].who=cs[m].who)&&decide (k<m)):=by rw[zbk,clD hkk,clD hmm]
   have hlt:=zcO (orP (fun _ _=>false) (zbk cs) k m) (n:=cs.length) Zo k
   have hpm:=zdX (m:=m) Zo
   have hyes:=relN_yes (P:=fun _ _=>false) (Q:=zbk cs) hkk hmm
   have hno:=zhh (P:=fun _ _=>false) (Q:=zbk cs) (n:=cs.length) (k:=k) (m:=m)
   obtain⟨F,hFF⟩:∃F,zcT (orP (fun _ _=>false) (zbk cs) k m) cs.length=F:=⟨_,rfl⟩
   rw[hFF] at hyes hno hlt ⊢
   repeat' (first|refine Zga ?_|(refine Zgb ?_;intro g)|(refine Zg ?_ ?_<;>(intro h;try exact Zx))|fail)
   all_goals
    refine zab (m+1) Zo Zo Ze (fun w hw=>?_)
    first
     |(rw[←hyes (by rw[hq,decide_eq_true (show cs[k].who=cs[m].who by assumption),decide_eq_true (show k<m by omega)];rfl)];exact hw.sub Zt)
     |(rw[←hno (by rw[hq,decide_eq_false (show ¬cs[k].who=cs[m].who by assumption)];rfl)];exact hw.sub Zt)
     |(rw[←hno (by rw[hq,decide_eq_false (show ¬k<m by omega)];simp)];exact hw.sub Zt)
  ·obtain rfl:m=cs.length:=by omega
   repeat' (first|refine Zga ?_|(refine Zgb ?_;intro g)|(refine Zg ?_ ?_<;>(intro h;try exact Zx))|fail)
   refine zab (k+1) Zo Zo Ze (fun w hw=>?_)
   rw[←zdZ]
   exact hw.sub Zt
 ·obtain rfl:k=cs.length:=by omega
  repeat' (first|refine Zga ?_|(refine Zgb ?_;intro g)|(refine Zg ?_ ?_<;>(intro h;try exact Zx))|fail)
  ((with_reducible apply zau Tryz.results44);exact Zr;intro w' hw)
  exact⟨by rw[←zfF,←zd0];rfl,hw.below0 rfl⟩
theorem peopleRel_any(hl:cs.length≤12):Calls Tryz.prog 32 #[.slice A cs.length c] w fun e w'=>e=.returned (.agg (zat cs.length (zaX cs)))∧Below w.heap.size w w':=by
 refine zaj (S:=[]) [] Tryz.func32 rfl Tryz.ntmps32 Zj (Mem.nil _) ?_
 repeat' (first|refine Zga ?_|(refine Zgb ?_;intro g)|(refine Zg ?_ ?_<;>(intro h;try exact Zx))|fail)
 rename_i g2
 obtain⟨gr,rfl⟩:∃x,x=g:=⟨_,rfl⟩
 refine zap (X:=Nat) (fun k=>[(11,.int .i64 (k:Nat)),(10,.int .i64 cs.length),(3,.pointer (some ⟨gr,0,none⟩)),(2,.pointer (some ⟨g2,0,none⟩)),(0,.slice A cs.length c)])
  (fun k=>[zak gr 43 (zat cs.length (zcT (orP (fun _ _=>false) (zbk cs) k 0) cs.length)),zak g2 43 (zat 0 (fun _=>0))]) (fun k=>k≤cs.length) (fun k=>cs.length-k) 0 Zo Ze (fun w hw=>by rw[orP_0,relN_0];exact hw) ?_
 intro k hk
 by_cases hkk:k<cs.length
 ·obtain⟨b,o,rfl,_⟩:=RdE.open hA Zo
  have e1:(k:Int)+1=((k+1:Nat):Int):=by omega
  repeat' (first|refine Zga ?_|(refine Zgb ?_;intro g)|(refine Zg ?_ ?_<;>(intro h;try exact Zx))|fail)
  refine zap (X:=Nat) (fun m=>[(5,.int .i64 (m:Nat)),(4,.int .i64 (k:Nat)),(11,.int .i64 (k:Nat)),(10,.int .i64 cs.length),(3,.pointer (some ⟨gr,0,none⟩)),(2,.pointer (some ⟨g2,0,none⟩)),(0,.slice (some ⟨b,o,none⟩) cs.length c)])
   (fun m=>[zak gr 43 (zat cs.length (zcT (orP (fun _ _=>false) (zbk cs) k m) cs.length)),zak g2 43 (zat 0 (fun _=>0))]) (fun m=>k<m∧m≤cs.length) (fun m=>cs.length-m) (k+1) ⟨by omega,by omega⟩ Ze
   (fun w hw=>by rw[←relN_skip (P:=fun _ _=>false) (Q:=zbk cs) (k:=k) (m:=0) (m':=k+1) (n:=cs.length) Zo (fun j _ hj=>by unfold zbk;rw[decide_eq_false (show ¬k<j by omega)];simp)];exact hw) ?_
  rintro m ⟨hkm,hml⟩
  by_cases hmm:m<cs.length
  ·have hq:zbk cs k m=(decide (cs[k].who=cs[m].who)&&decide (k<m)):=by rw[zbk,clD hkk,clD hmm]
   have hlt:=zcO (orP (fun _ _=>false) (zbk cs) k m) (n:=cs.length) Zo k
   have hpm:=zdX (m:=m) Zo
   have hyes:=relN_add (P:=fun _ _=>false) (Q:=zbk cs) hkk hmm
   have hno:=zhh (P:=fun _ _=>false) (Q:=zbk cs) (n:=cs.length) (k:=k) (m:=m)
   have hlt2:=fun h=>congrArg (fun f=>f k) (hyes h rfl)
   have hlt3:=zcO (orP (fun _ _=>false) (zbk cs) k (m+1)) (n:=cs.length) Zo k
   obtain⟨F,hFF⟩:∃F,zcT (orP (fun _ _=>false) (zbk cs) k m) cs.length=F:=⟨_,rfl⟩
   rw[hFF] at hyes hno hlt hlt2 ⊢
   repeat' (first
    |refine Zha ?_|(refine Zhb ?_;intro g)|(refine Zg ?_ ?_<;>(intro h;try exact Zx))|refine GOF ?_ ?_|((with_reducible apply zam (id:=8) 1000 (OT.seq [(0,0),(0,1),(0,2),(0,3),(0,5),(0,6),(0,7),(0,8),(1,4),(1,9),(0,10)] .nil));kernel_rfl;exact rfl;kernel_rfl;exact Zd)|((with_reducible apply zam (id:=9) 9 (OT.seq [(0,0),(0,1),(0,2),(0,4),(0,5),(0,7),(1,3),(0,6),(0,8),(3,9)] .nil));kernel_rfl;exact rfl;kernel_rfl;exact Zd)|((with_reducible apply za9);(with_reducible apply QS_add16);exact rfl;exact rfl;exact rfl)|((with_reducible apply zba);(with_reducible apply QS_add16);exact rfl;exact rfl;exact rfl)|fail)
   all_goals
    refine zab (m+1) ⟨by omega,by omega⟩ Zo Ze (fun w hw=>?_)
    first
     |(have hQ:zbk cs k m=true:=by rw[hq,decide_eq_true (show cs[k].who=cs[m].who by assumption),decide_eq_true hkm];rfl
       have h3:=hlt2 hQ
       simp only[upd_same] at h3
       rw[←hyes hQ rfl,show F k+2^m=(F k+2^m) % 65536 by rw[Nat.mod_eq_of_lt Zo]]
       exact hw)
     |(rw[←hno (by rw[hq,decide_eq_false (show ¬cs[k].who=cs[m].who by assumption)];rfl)];exact hw)
  ·obtain rfl:m=cs.length:=by omega
   repeat' (first|refine Zha ?_|(refine Zhb ?_;intro g)|(refine Zg ?_ ?_<;>(intro h;try exact Zx))|refine GOF ?_ ?_|fail)
   refine zab (k+1) Zo Zo Ze (fun w hw=>?_)
   rw[←zdZ]
   exact hw
 ·obtain rfl:k=cs.length:=by omega
  repeat' (first|refine Zha ?_|(refine Zhb ?_;intro g)|(refine Zg ?_ ?_<;>(intro h;try exact Zx))|refine GOF ?_ ?_|fail)
  ((with_reducible apply zau Tryz.results32);exact Zr;intro w' hw)
  exact⟨by rw[←zfF,←zd0];rfl,hw.below0 rfl⟩
end
end
section
def zbF(l:List Ev)(p:Nat→Bool):Nat→List Ev
 |0=>[]
 |k+1=>if p k=true then zbF l p k++[l.getD k default] else zbF l p k
def zb8(p:Nat→Bool):Nat→Nat
 |0=>0
 |k+1=>if p k=true then zb8 p k+1 else zb8 p k
theorem zd3(l:List Ev)(p:Nat→Bool):∀k,(zbF l p k).length=zb8 p k
 |0=>rfl
 |k+1=>by
  unfold zbF zb8
  split
  ·rw[List.length_append,zd3 l p k];rfl
  ·exact zd3 l p k
theorem zip(p:Nat→Bool):∀k,zb8 p k≤k
 |0=>Nat.le_refl _
 |k+1=>by
  have:=zip p k
  unfold zb8
  split<;>omega
theorem rankP_next(p:Nat→Bool)(n:Nat):zb8 p n≤zb8 p (n+1):=by rw[zb8];split<;>omega
theorem rankP_mono(p:Nat→Bool){a b:Nat}(h:a≤b):zb8 p a≤zb8 p b:=by
 induction h with
 |refl=>exact Nat.le_refl _
 |step _ ih=>exact Nat.le_trans ih (rankP_next p _)
theorem rankP_lt{p:Nat→Bool}{a b:Nat}(ha:p a=true):zb8 p a<zb8 p b↔a<b:=by
 constructor
 ·intro h
  rcases Nat.lt_or_ge a b with h1|h1
  ·exact h1
  ·have:=rankP_mono p h1;omega
 ·intro h
  have h1:zb8 p (a+1)=zb8 p a+1:=by rw[zb8,if_pos ha]
  have:=rankP_mono p (show a+1≤b from h)
  omega
def subTo(p:Nat→Bool)(z:Int):Int:=if z=-1 then -1 else(zb8 p z.toNat:Int)
theorem zd4{p:Nat→Bool}{z:Int}:subTo p z=-1↔z=-1:=by
 unfold subTo
 split
 ·simp[*]
 ·rename_i h
  exact⟨fun h1=>by omega,fun h1=>absurd h1 h⟩
def ziq(p:Nat→Bool)(c:Cl):Cl:={ c with from_:=(zb8 p c.from_.toNat:Int),to:=subTo p c.to }
def zfH(p:Nat→Bool)(P:Cl→Bool)(cs:List Cl):List Cl:=(cs.filter P).map (ziq p)
theorem zir{ts:List Int}{l r:List Ev}:∀k,k≤l.length→stR ts (l++r) k=stR ts l k
 |0,_=>rfl
 |k+1,h=>by
  have e:(l++r).getD k default=l.getD k default:=by
   rw[List.getD_eq_getElem?_getD,List.getElem?_append_left Zo,List.getD_eq_getElem?_getD]
  rw[stR,stR,zir k Zo,e]
theorem erR_more{ts:List Int}{l r:List Ev}{k:Nat}(h:k<l.length):erR ts (l++r) k=erR ts l k:=by
 have e:(l++r).getD k default=l.getD k default:=by
  rw[List.getD_eq_getElem?_getD,List.getElem?_append_left h,List.getD_eq_getElem?_getD]
 rw[erR,erR,zir k Zo,e]
theorem evR_yes{ts:List Int}{cs:List Cl}{i:Int}{x:Ev}(h:(evR ts cs i x).1=0):za4 ts x=false ∧
  ((x.kind=0∧∃m:Nat,zaS cs x.who cs.length=m∧m<cs.length∧(cs.getD m default).who=x.who∧(cs.getD m default).to=-1∧(cs.getD m default).thing=x.thing∧ansB (cs.getD m default).kind x.value=true ∧
    (evR ts cs i x).2=cs.set m { cs.getD m default with res:=x.value,to:=i }) ∨
   (x.kind≠0∧((zaZ (ts.getD x.thing.toNat 0)).contains x.kind&&zdO x.kind x.value)=true∧zaS cs x.who cs.length=-1∧(evR ts cs i x).2=cs++[⟨x.who,x.thing,x.kind,x.value,0,i,-1⟩])):=by
 unfold evR at h ⊢
 by_cases hf:za4 ts x=true
 ·rw[if_pos hf] at h;cases h
 ·rw[if_neg hf] at h ⊢
  refine⟨Bool.eq_false_iff.2 hf,?_⟩
  by_cases hk:x.kind=0
  ·rw[if_pos hk] at h ⊢
   split at h
   ·cases h
   ·rename_i hz
    rw[if_neg hz]
    split at h
    ·rename_i hc
     rw[if_pos hc]
     obtain⟨p,hp,hpl,hpw,hpt⟩:=zcm (cs:=cs) (who:=x.who) cs.length Zo
     rw[hp] at hc ⊢
     exact .inl ⟨hk,p,rfl,hpl,hpw,hpt,hc.1,hc.2,rfl⟩
    ·cases h
  ·rw[if_neg hk] at h ⊢
   split at h
   ·cases h
   ·rename_i hb
    rw[if_neg hb]
    split at h
    ·cases h
    ·rename_i ho
     rw[if_neg ho]
     have:=zc9 cs x.who cs.length
     exact .inr ⟨hk,by simpa using hb,by omega,rfl⟩
theorem filt_no{P:Cl→Bool}{c:Cl}(hc:P c=false):∀{S:List Cl} {m:Nat},(h:m<S.length)→P S[m]=false→(S.set m c).filter P=S.filter P
 |[],_,h,_=>by simp at h
 |x::S,0,_,hx=>by
  have hx':P x=false:=hx
  simp[hx',hc]
 |x::S,m+1,h,hx=>by
  have ih:=filt_no hc (S:=S) (m:=m) (by simpa using h) (by simpa using hx)
  rw[List.set_cons_succ,List.filter_cons,List.filter_cons,ih]
theorem filt_yes{P:Cl→Bool}{c:Cl}(hc:P c=true):∀{S:List Cl} {m:Nat},(h:m<S.length)→P S[m]=true →
  (S.set m c).filter P=(S.filter P).set ((S.take m).filter P).length c∧(S.filter P)[((S.take m).filter P).length]?=some S[m]
 |[],_,h,_=>by simp at h
 |x::S,0,_,hx=>by
  have hx':P x=true:=hx
  simp[hx',hc]
 |x::S,m+1,h,hx=>by
  have ih:=filt_yes hc (S:=S) (m:=m) (by simpa using h) (by simpa using hx)
  rw[List.set_cons_succ,List.filter_cons,List.filter_cons,List.take_succ_cons,List.filter_cons]
  by_cases hP:P x=true
  ·simp only[if_pos hP]
   rw[ih.1]
   simpa using ih.2
  ·simp only[if_neg hP]
   rw[ih.1]
   simpa using ih.2
theorem st_one{ts:List Int}{l:List Ev}{k i j:Nat}(hi:i<(stR ts l k).length)(hj:j<(stR ts l k).length)(hw:(stR ts l k)[i].who=(stR ts l k)[j].who)(h1:(stR ts l k)[i].to=-1)(h2:(stR ts l k)[j].to=-1):i=j:=by
 obtain⟨e,h⟩:=zfe ts l k
 rw[e] at h
 exact h.2.2 i j hi hj hw h1 h2
section
variable {ts:List Int}{l:List Ev}{p:Nat→Bool}{P:Cl→Bool} 
structure Kept (ts:List Int) (l:List Ev) (p:Nat→Bool) (P:Cl→Bool):Prop where
 turn:∀(c:Cl) (r t:Int),P { c with res:=r,to:=t }=P c
 call:∀k (h:k<l.length),l[k].kind≠0→p k=P ⟨l[k].who,l[k].thing,l[k].kind,l[k].value,0,k,-1⟩
 done:∀k (h:k<l.length),l[k].kind=0→∀m (hm:m<(stR ts l k).length),(stR ts l k)[m].who=l[k].who→(stR ts l k)[m].to=-1→p k=P (stR ts l k)[m]
theorem sub_st(hK:Kept ts l p P)(hv:∀j,j<l.length→erR ts l j=0):∀k,k≤l.length→stR ts (zbF l p k) (zb8 p k)=zfH p P (stR ts l k)∧∀j,j<zb8 p k→erR ts (zbF l p k) j=0
 |0,_=>⟨rfl,fun j hj=>by simp[zb8] at hj⟩
 |k+1,hk=>by
  obtain⟨ih1,ih2⟩:=sub_st hK hv k Zo
  have hkl:k<l.length:=by omega
  have hg:l.getD k default=l[k]:=by simp[hkl]
  have he:=hv k hkl
  unfold erR at he
  rw[hg] at he
  have hst:stR ts l (k+1)=(evR ts (stR ts l k) k l[k]).2:=by rw[stR,hg]
  obtain⟨hform,hcase⟩:=evR_yes he
  have hcall:=hK.call k hkl
  have hdone:=hK.done k hkl
  by_cases hp:p k=true
  ·have hkeep:zbF l p (k+1)=zbF l p k++[l[k]]:=by rw[zbF,if_pos hp,hg]
   have hrank:zb8 p (k+1)=zb8 p k+1:=by rw[zb8,if_pos hp]
   have hlen:=zd3 l p k
   have hgd:(zbF l p k++[l[k]]).getD (zb8 p k) default=l[k]:=by
    rw[List.getD_eq_getElem?_getD,List.getElem?_append_right Zo,hlen];simp
   suffices hs:evR ts (zfH p P (stR ts l k)) (zb8 p k) l[k]=(0,zfH p P (stR ts l (k+1))) by
    rw[hkeep,hrank]
    refine⟨?_,fun j hj=>?_⟩
    ·rw[stR,zir _ Zo,ih1,hgd,hs]
    ·by_cases e:j=zb8 p k
     ·subst e
      rw[erR,zir _ Zo,ih1,hgd,hs]
     ·rw[erR_more Zo]
      exact ih2 j Zo
   have hone:=fun i j=>st_one (ts:=ts) (l:=zbF l p k) (k:=zb8 p k) (i:=i) (j:=j)
   simp only[ih1] at hone
   generalize stR ts l k=S at *
   rw[hst]
   rcases hcase with⟨hk0,m,hop,hm,hw,ht,hth,hans,hev⟩|⟨hk0,hkd,hop,hev⟩
   ·rw[hev]
    have hgm:S.getD m default=S[m]:=by simp[hm]
    rw[hgm] at hw ht hth hans ⊢
    have hPm:P S[m]=true:=by rw[←hdone hk0 m hm hw ht];exact hp
    obtain⟨f1,f2⟩:=filt_yes (P:=P) (c:={ S[m] with res:=l[k].value,to:=(k:Int) }) (by rw[hK.turn];exact hPm) hm hPm
    generalize ((S.take m).filter P).length=m' at f1 f2
    have hm':m'<(S.filter P).length:=(List.getElem?_eq_some_iff.1 f2).1
    have hsub:(zfH p P S).getD m' default=ziq p S[m]:=by
     unfold zfH
     rw[List.getD_eq_getElem?_getD,List.getElem?_map,f2];rfl
    have hlen':(zfH p P S).length=(S.filter P).length:=by simp[zfH]
    have hat:((zfH p P S).getD m' default).who=l[k].who∧((zfH p P S).getD m' default).to=-1:=by
     rw[hsub];exact⟨hw,zd4.2 ht⟩
    have hsome:=zcA (cs:=zfH p P S) (who:=l[k].who) (j:=m') (zfH p P S).length Zo hat
    obtain⟨q,hq,hql,hqw,hqt⟩:=zcm _ hsome
    have hqm:q=m':=by
     have gq:(zfH p P S).getD q default=(zfH p P S)[q]:=by simp[hql]
     have gm:(zfH p P S).getD m' default=(zfH p P S)[m']:=by simp[hlen',hm']
     rw[gq] at hqw hqt
     rw[gm] at hat
     exact hone q m' hql Zo (hqw.trans hat.1.symm) hqt hat.2
    subst hqm
    unfold evR
    rw[if_neg (by rw[hform];simp),if_pos hk0,hq,if_neg Zo,show((q:Nat):Int).toNat=q by omega,hsub,if_pos ⟨hth,hans⟩]
    congr 1
    show(zfH p P S).set q _=zfH p P (S.set m _)
    unfold zfH
    rw[f1,List.map_set]
    congr 1<;>simp[ziq,subTo]
   ·rw[hev]
    have hPc:P ⟨l[k].who,l[k].thing,l[k].kind,l[k].value,0,k,-1⟩=true:=by rw[←hcall hk0];exact hp
    have hno:zaS (zfH p P S) l[k].who (zfH p P S).length=-1:=by
     by_cases e:zaS (zfH p P S) l[k].who (zfH p P S).length=-1
     ·exact e
     ·obtain⟨q,hq,hql,hqw,hqt⟩:=zcm _ e
      have gq:(zfH p P S).getD q default=(zfH p P S)[q]:=by simp[hql]
      rw[gq] at hqw hqt
      have hmem:(zfH p P S)[q]∈zfH p P S:=List.getElem_mem _
      generalize (zfH p P S)[q]=d at *
      unfold zfH at hmem
      rw[List.mem_map] at hmem
      obtain⟨c,hc,rfl⟩:=hmem
      obtain⟨hc1,_⟩:=List.mem_filter.1 hc
      obtain⟨j,hj,rfl⟩:=List.mem_iff_getElem.1 hc1
      have gj:S.getD j default=S[j]:=by simp[hj]
      exact absurd hop (zcA (cs:=S) S.length hj (by rw[gj];exact⟨hqw,zd4.1 hqt⟩))
    unfold evR
    rw[if_neg (by rw[hform];simp),if_neg hk0,if_neg (by rw[hkd];simp),hno,if_neg Zi]
    congr 1
    unfold zfH
    rw[List.filter_append,List.filter_cons,if_pos hPc,List.filter_nil,List.map_append]
    rfl
  ·have hp':p k=false:=Bool.eq_false_iff.2 hp
   have hkeep:zbF l p (k+1)=zbF l p k:=by rw[zbF,if_neg hp]
   have hrank:zb8 p (k+1)=zb8 p k:=by rw[zb8,if_neg hp]
   rw[hkeep,hrank]
   refine⟨?_,ih2⟩
   rw[ih1,hst]
   generalize stR ts l k=S at *
   rcases hcase with⟨hk0,m,hop,hm,hw,ht,hth,hans,hev⟩|⟨hk0,hkd,hop,hev⟩
   ·rw[hev]
    have hgm:S.getD m default=S[m]:=by simp[hm]
    rw[hgm] at hw ht hth hans ⊢
    have hPm:P S[m]=false:=by rw[←hdone hk0 m hm hw ht];exact hp'
    unfold zfH
    rw[filt_no (by rw[hK.turn];exact hPm) hm hPm]
   ·rw[hev]
    have hPc:P ⟨l[k].who,l[k].thing,l[k].kind,l[k].value,0,k,-1⟩=false:=by rw[←hcall hk0];exact hp'
    unfold zfH
    rw[List.filter_append,List.filter_cons,if_neg (by rw[hPc];simp),List.filter_nil,List.append_nil]
theorem zhj(hK:Kept ts l p P)(hv:∀j,j<l.length→erR ts l j=0):∀k,k≤l.length→∀c∈stR ts l k,P c=true→p c.from_.toNat=true∧(c.to≠-1→0≤c.to∧p c.to.toNat=true)
 |0,_=>by simp[stR]
 |k+1,hk=>by
  have ih:=zhj hK hv k Zo
  have hkl:k<l.length:=by omega
  have hg:l.getD k default=l[k]:=by simp[hkl]
  have he:=hv k hkl
  unfold erR at he
  rw[hg] at he
  have hst:stR ts l (k+1)=(evR ts (stR ts l k) k l[k]).2:=by rw[stR,hg]
  obtain⟨hform,hcase⟩:=evR_yes he
  have hcall:=hK.call k hkl
  have hdone:=hK.done k hkl
  rw[hst]
  generalize stR ts l k=S at *
  intro c hc hPc
  rcases hcase with⟨hk0,m,hop,hm,hw,ht,hth,hans,hev⟩|⟨hk0,hkd,hop,hev⟩
  ·rw[hev] at hc
   have hgm:S.getD m default=S[m]:=by simp[hm]
   rw[hgm] at hw ht hc
   rcases List.mem_or_eq_of_mem_set hc with h|h
   ·exact ih c h hPc
   ·subst h
    rw[hK.turn] at hPc
    refine⟨(ih _ (List.getElem_mem hm) hPc).1,fun _=>⟨by dsimp only;omega,?_⟩⟩
    dsimp only
    rw[show((k:Nat):Int).toNat=k by omega,hdone hk0 m hm hw ht]
    exact hPc
  ·rw[hev] at hc
   rcases List.mem_append.1 hc with h|h
   ·exact ih c h hPc
   ·rw[List.mem_singleton] at h
    subst h
    refine⟨?_,fun h=>absurd rfl h⟩
    dsimp only
    rw[show((k:Nat):Int).toNat=k by omega,hcall hk0]
    exact hPc
theorem sub_calls(ht:zaG ts=true)(h200:l.length≤200)(hK:Kept ts l p P)(hv:∀j,j<l.length→erR ts l j=0):zai ts (zbF l p l.length)=(zfH p P (stR ts l l.length),0,0):=by
 obtain⟨h1,h2⟩:=sub_st hK hv l.length (Nat.le_refl _)
 have h3:=zd3 l p l.length
 have h4:=zip p l.length
 rw[←h1,←h3]
 exact zi6 ht Zo (fun j hj=>h2 j Zo)
end
end
section
structure SameC (cs ds:List Cl):Prop where
 len:cs.length=ds.length
 one:∀i,(zaz cs i).thing=(zaz ds i).thing∧(zaz cs i).kind=(zaz ds i).kind∧(zaz cs i).arg=(zaz ds i).arg∧(zaz cs i).res=(zaz ds i).res∧((zaz cs i).to=-1↔(zaz ds i).to=-1)
theorem srch_sameC{ts:List Int}{cs ds:List Cl}{f:Nat→Nat}(h:SameC cs ds)(n:Nat)(w:List Stp):zhf ts cs f n w=zhf ts ds f n w:=by
 have e1:∀sts i,za6 ts cs sts i=za6 ts ds sts i:=fun sts i=>by
  obtain⟨a,b,c,_,_⟩:=h.one i
  unfold za6;rw[a,b,c]
 have e2:∀w,zav ts cs w=zav ts ds w:=fun w=>by
  unfold zav
  congr 1
  funext sts s
  rw[e1,(h.one s.call.toNat).1]
 have e3:zbm ts cs=zbm ts ds:=by
  funext w i
  unfold zbm
  rw[e1,e2]
 have e4:canR ts cs f=canR ts ds f:=by
  funext w i
  unfold canR ze2
  rw[e1,e2,h.len,(h.one i).2.2.2.1]
  have:decide ((zaz cs i).to=-1)=decide ((zaz ds i).to=-1):=by
   rw[decide_eq_decide];exact(h.one i).2.2.2.2
  rw[this]
 have e5:zeA cs=zeA ds:=by
  funext w
  unfold zeA compM
  rw[h.len]
  congr 1
  funext i
  have:decide ((zaz cs i).to=-1)=decide ((zaz ds i).to=-1):=by
   rw[decide_eq_decide];exact(h.one i).2.2.2.2
  rw[this]
 unfold zhf
 rw[e3,e4,e5,h.len]
theorem zis(p:Nat→Bool)(own:List Cl):SameC (own.map (ziq p)) own:=by
 refine⟨by simp,fun i=>?_⟩
 unfold zaz
 by_cases hi:i<own.length
 ·have g1:(own.map (ziq p)).getD i default=ziq p own[i]:=by simp[hi]
  have g2:own.getD i default=own[i]:=by simp[hi]
  rw[g1,g2]
  exact⟨rfl,rfl,rfl,rfl,zd4⟩
 ·have g1:(own.map (ziq p)).getD i default=default:=by simp[List.getD_eq_getElem?_getD,List.getElem?_eq_none (by simpa using hi:(own.map (ziq p)).length≤i)]
  have g2:own.getD i default=default:=by simp[List.getD_eq_getElem?_getD,List.getElem?_eq_none (by omega:own.length≤i)]
  rw[g1,g2]
  exact⟨rfl,rfl,rfl,rfl,Iff.rfl⟩
theorem sub_ahead{p:Nat→Bool}{own:List Cl}(h:∀c∈own,0≤c.from_∧p c.from_.toNat=true∧(c.to≠-1→0≤c.to∧p c.to.toNat=true)):zax (own.map (ziq p))=zax own:=by
 unfold zax
 rw[List.length_map]
 have key:∀i j,i<own.length→j<own.length→zbO (own.map (ziq p)) i j=zbO own i j:=by
  intro i j hi hj
  unfold zbO
  have g1:(own.map (ziq p)).getD i default=ziq p own[i]:=by simp[hi]
  have g2:own.getD i default=own[i]:=by simp[hi]
  have g3:(own.map (ziq p)).getD j default=ziq p own[j]:=by simp[hj]
  have g4:own.getD j default=own[j]:=by simp[hj]
  rw[g1,g2,g3,g4]
  by_cases ht:own[i].to=-1
  ·have:(ziq p own[i]).to=-1:=zd4.2 ht
   simp[ht,this]
  ·have ht':¬(ziq p own[i]).to=-1:=fun e=>ht (zd4.1 e)
   obtain⟨h1,h2,_⟩:=h own[j] (List.getElem_mem _)
   obtain⟨_,_,h3⟩:=h own[i] (List.getElem_mem _)
   obtain⟨h4,h5⟩:=h3 ht
   have e:(ziq p own[i]).to<(ziq p own[j]).from_↔own[i].to<own[j].from_:=by
    show subTo p own[i].to<(zb8 p own[j].from_.toNat:Int)↔_
    unfold subTo
    rw[if_neg ht,Int.ofNat_lt,rankP_lt h5]
    omega
   simp only[ht,ht',decide_false,Bool.not_false,Bool.true_and]
   rw[decide_eq_decide]
   exact e
 exact zdY key
end
section
open Go.RowKit
def inW(l:List Ev)(n:Int):Nat→Int→Bool
 |0,_=>false
 |k+1,w=>if(l.getD k default).kind≠0∧w=(l.getD k default).who then decide ((l.getD k default).value=n) else inW l n k w
def zel(l:List Ev)(n:Int)(k:Nat):Bool:=inW l n (k+1) (l.getD k default).who
def zce(n:Int)(c:Cl):Bool:=decide (c.arg=n)
theorem cd{cs:List Cl}{k:Nat}(h:k<cs.length):cs.getD k default=cs[k]:=by simp[h]
theorem gd{l:List Ev}{k:Nat}(h:k<l.length):l.getD k default=l[k]:=by simp[h]
section
variable {ts:List Int}{l:List Ev}{n:Int} 
theorem inW_open(hv:∀j,j<l.length→erR ts l j=0):∀k,k≤l.length→∀m (hm:m<(stR ts l k).length),(stR ts l k)[m].to=-1→inW l n k (stR ts l k)[m].who=zce n (stR ts l k)[m]
 |0,_=>fun m hm=>by simp[stR] at hm
 |k+1,hk=>by
  have ih:=inW_open hv k Zo
  have hone:=fun i j hi hj=>st_one (ts:=ts) (l:=l) (k:=k) (i:=i) (j:=j) hi hj
  obtain⟨_,h⟩:=evR_yes (hv k Zo)
  have hs:stR ts l (k+1)=(evR ts (stR ts l k) k (l.getD k default)).2:=rfl
  rw[gd (show k<l.length by omega)] at h hs
  intro m hm hto
  unfold inW
  rw[gd (show k<l.length by omega)]
  rcases h with⟨hk0,q,hq1,hq2,hq3,hq4,hq5,hq6,hq7⟩|⟨hk0,hq1,hq2,hq3⟩
  ·rw[if_neg (fun e=>e.1 hk0)]
   have e1:stR ts l (k+1)=(stR ts l k).set q { (stR ts l k).getD q default with res:=l[k].value,to:=(k:Int) }:=hs.trans hq7
   have hm':m<(stR ts l k).length:=by rw[e1] at hm;simpa using hm
   by_cases e:q=m
   ·subst e
    have:(stR ts l (k+1))[q].to=(k:Int):=by simp only[e1,List.getElem_set_self]
    omega
   ·have e2:(stR ts l (k+1))[m]=(stR ts l k)[m]:=by simp only[e1];rw[List.getElem_set_ne e]
    rw[e2] at hto ⊢
    exact ih m hm' hto
  ·have e1:stR ts l (k+1)=stR ts l k++[⟨l[k].who,l[k].thing,l[k].kind,l[k].value,0,(k:Int),-1⟩]:=hs.trans hq3
   by_cases e:m<(stR ts l k).length
   ·have e2:(stR ts l (k+1))[m]=(stR ts l k)[m]:=by simp only[e1];rw[List.getElem_append_left e]
    rw[e2] at hto ⊢
    rw[if_neg,ih m e hto]
    intro⟨_,ew⟩
    have h1:=zcA (cs:=stR ts l k) (who:=l[k].who) (j:=m) (stR ts l k).length e (by rw[cd e];exact⟨ew,hto⟩)
    omega
   ·have hml:m=(stR ts l k).length:=by rw[e1] at hm;simp at hm;omega
    have e2:(stR ts l (k+1))[m]=⟨l[k].who,l[k].thing,l[k].kind,l[k].value,0,(k:Int),-1⟩:=by simp only[e1];rw[List.getElem_append_right Zo];simp[hml]
    rw[e2,if_pos ⟨hk0,rfl⟩];rfl
theorem bag_kept(hv:∀j,j<l.length→erR ts l j=0):Kept ts l (zel l n) (zce n) where
 turn c r t:=rfl
 call k h h0:=by unfold zel inW;rw[gd h,if_pos ⟨h0,rfl⟩];rfl
 done k h h0 m hm hw ht:=by
  unfold zel inW
  rw[gd h,if_neg (fun e=>e.1 h0),←hw]
  exact inW_open hv k Zo m hm ht
end
end
section
open Go.RowKit
def cN(cs:List Cl)(k:Nat)(v:Int):Nat:=((cs.take k).filter (zce v)).length
theorem cN_succ{cs:List Cl}{k:Nat}(hk:k<cs.length)(v:Int):cN cs (k+1) v=if cs[k].arg=v then cN cs k v+1 else cN cs k v:=by
 unfold cN
 rw[List.take_succ_eq_append_getElem hk,List.filter_append,List.filter_cons,List.filter_nil]
 unfold zce
 split
 ·rename_i h;rw[if_pos (of_decide_eq_true h),List.length_append];rfl
 ·rename_i h;rw[if_neg (by simpa using h)];simp
theorem cN_le(cs:List Cl)(k:Nat)(v:Int):cN cs k v≤k:=by
 unfold cN
 exact Nat.le_trans (List.length_filter_le _ _) (by rw[List.length_take];omega)
theorem cN_all(cs:List Cl)(v:Int):cN cs cs.length v=(cs.filter (zce v)).length:=by unfold cN;rw[List.take_length]
def zhk(cs:List Cl):Nat→List (Int×Int)
 |0=>[]
 |k+1=>zgP (zhk cs k) (cs.getD k default).arg ((zcs (zhk cs k) (cs.getD k default).arg).getD 0+1)
theorem zjB{cs:List Cl}{k:Nat}(hk:k<cs.length):zhk cs (k+1)=zgP (zhk cs k) cs[k].arg ((zcs (zhk cs k) cs[k].arg).getD 0+1):=by rw[zhk,cd hk]
theorem zjC{cs:List Cl}(v:Int):∀k,k≤cs.length→(zcs (zhk cs k) v).getD 0=(cN cs k v:Int)
 |0,_=>by simp[zhk,zcs,cN]
 |k+1,hk=>by
  have hk':k<cs.length:=hk
  rw[zjB hk',zeO,cN_succ hk',zjC cs[k].arg k Zo]
  by_cases e:cs[k].arg=v
  ·rw[if_pos e.symm,if_pos e,e];simp
  ·rw[if_neg (fun h=>e h.symm),if_neg e,zjC v k Zo]
theorem zjD(k v:Int):∀D:List (Int×Int),∀x,x∈(zgP D k v).map (·.1)↔x=k∨x∈D.map (·.1)
 |[]=>by simp[zgP]
 |p::D=>by
  intro x
  unfold zgP
  split
  ·rename_i h;subst h;simp
  ·have:=zjD k v D x
   rw[List.map_cons,List.mem_cons,this,List.map_cons,List.mem_cons]
   constructor
   ·rintro(h|h|h)
    ·exact .inr (.inl h)
    ·exact .inl h
    ·exact .inr (.inr h)
   ·rintro(h|h|h)
    ·exact .inr (.inl h)
    ·exact .inl h
    ·exact .inr (.inr h)
theorem putM_nodup(k v:Int):∀D:List (Int×Int),(D.map (·.1)).Nodup→((zgP D k v).map (·.1)).Nodup
 |[],_=>by simp[zgP]
 |p::D,h=>by
  unfold zgP
  split
  ·rename_i e;subst e;exact h
  ·rename_i e
   rw[List.map_cons,List.nodup_cons] at h ⊢
   refine⟨fun hm=>?_,putM_nodup k v D h.2⟩
   rcases(zjD k v D _).1 hm with h1|h1
   ·exact e h1.symm
   ·exact h.1 h1
theorem zhl(cs:List Cl):∀k,((zhk cs k).map (·.1)).Nodup
 |0=>by simp[zhk]
 |k+1=>by rw[zhk];exact putM_nodup _ _ _ (zhl cs k)
theorem cntM_mem{cs:List Cl}(x:Int):∀k,k≤cs.length→(x∈(zhk cs k).map (·.1)↔0<cN cs k x)
 |0,_=>by simp[zhk,cN]
 |k+1,hk=>by
  have hk':k<cs.length:=hk
  rw[zjB hk',zjD,cntM_mem x k Zo,cN_succ hk']
  by_cases e:cs[k].arg=x
  ·rw[if_pos e];constructor
   ·intro _;omega
   ·intro _;exact .inl e.symm
  ·rw[if_neg e];constructor
   ·rintro(h|h)
    ·exact absurd h.symm e
    ·exact h
   ·exact .inr
theorem cntM_len(cs:List Cl)(k:Nat):(zhk cs k).length≤k:=by
 induction k with
 |zero=>exact Nat.le_refl _
 |succ k ih =>
  have:∀(D:List (Int×Int)) (a b:Int),(zgP D a b).length≤D.length+1:=fun D a b=>by
   induction D with
   |nil=>simp[zgP]
   |cons p D ih2 =>
    unfold zgP
    split
    ·simp
    ·simpa using ih2
  rw[zhk]
  exact Nat.le_trans (this _ _ _) Zo
theorem cN_few{cs:List Cl}{k:Nat}(hk:k≤cs.length)(h:∀i (hi:i<cs.length),i<k→cN cs (i+1) cs[i].arg≤9)(v:Int):cN cs k v≤9:=by
 induction k with
 |zero=>simp[cN]
 |succ k ih =>
  have hk':k<cs.length:=hk
  have h1:=ih Zo fun i hi hik=>h i hi Zo
  have h2:=h k hk' Zo
  by_cases e:cs[k].arg=v
  ·rw[←e];exact h2
  ·rw[cN_succ hk',if_neg e];exact h1
theorem cN_mono(cs:List Cl)(v:Int){i j:Nat}(h:i≤j):cN cs i v≤cN cs j v:=by
 unfold cN
 have:(cs.take i).Sublist (cs.take j):=by
  rw[show i=min i j by omega,←List.take_take]
  exact List.take_sublist _ _
 exact(this.filter _).length_le
def bigB(cs:List Cl):Bool:=cs.any fun c=>decide (9<(cs.filter (zce c.arg)).length)
theorem bigB_yes{cs:List Cl}{k:Nat}(hk:k<cs.length)(h:9<cN cs (k+1) cs[k].arg):bigB cs=true:=by
 unfold bigB
 rw[List.any_eq_true]
 refine⟨cs[k],List.getElem_mem _,?_⟩
 rw[decide_eq_true_eq,←cN_all]
 exact Nat.lt_of_lt_of_le h (cN_mono cs _ hk)
theorem bigB_no{cs:List Cl}(h:∀i (hi:i<cs.length),cN cs (i+1) cs[i].arg≤9):bigB cs=false:=by
 unfold bigB
 rw[List.any_eq_false]
 intro c _ hc
 rw[decide_eq_true_eq,←cN_all] at hc
 have:=cN_few (Nat.le_refl _) (fun i hi _=>h i hi) c.arg
 omega
def nokB(cs:List Cl)(n:Int):Bool:=(zbq [4] (cs.filter (zce n)) (zax (cs.filter (zce n)))).isNone
def bcE(l:List Ev):Int:=if(zai [4] l).2.2≠0 then(zai [4] l).2.2 else if bigB (zai [4] l).1=true then 2 else 0
def inbB(cs:List Cl)(v:Int):Bool:=decide (0<(cs.filter (zce v)).length)&&nokB cs v
def bcL(cs:List Cl)(n:Nat):List Int:=((List.range n).filter fun v:Nat=>decide (1≤v)&&inbB cs (v:Int)).map fun v:Nat=>(v:Int)
def bcR(l:List Ev):List Int:=if bcE l=0 then bcL (zai [4] l).1 1001 else[]
theorem bcL_succ(cs:List Cl)(n:Nat):bcL cs (n+1)=if(decide (1≤n)&&inbB cs (n:Int))=true then bcL cs n++[(n:Int)] else bcL cs n:=by
 unfold bcL
 rw[List.range_succ,List.filter_append,List.map_append,List.filter_cons,List.filter_nil]
 split<;>simp
theorem bcL_len(cs:List Cl)(n:Nat):(bcL cs n).length≤n:=by
 unfold bcL
 rw[List.length_map]
 exact Nat.le_trans (List.length_filter_le _ _) Zj
theorem bcL_keys{cs:List Cl}(harg:∀c∈cs,1≤c.arg∧c.arg≤1000){ks:List Int}(hp:ks.Perm ((zhk cs cs.length).map (·.1)))(hs:ks.Pairwise (·≤·)):ks.filter (nokB cs)=bcL cs 1001:=by
 have hnd:ks.Nodup:=hp.nodup_iff.2 (zhl cs _)
 refine List.Perm.eq_of_pairwise (le:=fun a b:Int=>a≤b) (fun a b _ _ h1 h2=>Int.le_antisymm h1 h2) (hs.filter _) ?_ ?_
 ·unfold bcL
  rw[List.pairwise_map]
  exact(List.Pairwise.filter _ List.pairwise_lt_range).imp fun {a b} h=>by omega
 ·refine(List.perm_ext_iff_of_nodup (hnd.filter _) ?_).2 fun r=>?_
  ·unfold bcL
   rw[List.Nodup,List.pairwise_map]
   exact(List.Pairwise.filter _ List.pairwise_lt_range).imp fun {a b} h=>by omega
  ·have hm:r∈ks↔0<(cs.filter (zce r)).length:=by rw[hp.mem_iff,cntM_mem r _ (Nat.le_refl _),cN_all]
   rw[List.mem_filter,hm]
   unfold bcL
   rw[List.mem_map]
   constructor
   ·rintro⟨h1,h2⟩
    obtain⟨c,hc⟩:=List.exists_mem_of_length_pos h1
    rw[List.mem_filter] at hc
    have h3:c.arg=r:=by have:=hc.2;unfold zce at this;exact of_decide_eq_true this
    have h4:=harg c hc.1
    refine⟨r.toNat,?_,by omega⟩
    have h5:((r.toNat:Nat):Int)=r:=by omega
    rw[List.mem_filter,List.mem_range,Bool.and_eq_true]
    unfold inbB
    rw[h5,decide_eq_true h1,h2]
    exact⟨by omega,decide_eq_true Zo,rfl⟩
   ·rintro⟨v,hv,rfl⟩
    rw[List.mem_filter,List.mem_range,Bool.and_eq_true] at hv
    have h2:=hv.2.2
    unfold inbB at h2
    rw[Bool.and_eq_true,decide_eq_true_eq] at h2
    exact h2
section
variable {l:List Ev}{n:Int} 
theorem bag_part(h0:(zai [4] l).2.2=0):zai [4] (zbF l (zel l n) l.length)=(((zai [4] l).1.filter (zce n)).map (ziq (zel l n)),0,0):=by
 obtain⟨h1,h2,h3,h4⟩:=zbJ h0
 rw[sub_calls h1 h2 (bag_kept h3) h3,h4];rfl
theorem bag_same(h0:(zai [4] l).2.2=0)(h9:((zai [4] l).1.filter (zce n)).length≤9):(zfl [4] (zbF l (zel l n) l.length)).2=0∧zbE [4] (zbF l (zel l n) l.length) zax=zbq [4] ((zai [4] l).1.filter (zce n)) (zax ((zai [4] l).1.filter (zce n))) ∧
  SeaOk [4] ((zfl [4] (zbF l (zel l n) l.length)).1)∧(zfl [4] (zbF l (zel l n) l.length)).1=((zai [4] l).1.filter (zce n)).map (ziq (zel l n)):=by
 have hp:=bag_part (n:=n) h0
 obtain⟨h1,h2,h3,h4⟩:=zbJ h0
 have e0:(zai [4] (zbF l (zel l n) l.length)).2.2=0:=by rw[hp]
 have e9:¬9<(zai [4] (zbF l (zel l n) l.length)).1.length:=by rw[hp];simp only[List.length_map];omega
 have hf:=zfX e0 e9
 have hs:=zc2 (ts:=[4]) (l:=zbF l (zel l n) l.length) (by rw[hf])
 have hc:(zfl [4] (zbF l (zel l n) l.length)).1=((zai [4] l).1.filter (zce n)).map (ziq (zel l n)):=by rw[hf,hp]
 refine⟨by rw[hf],?_,hs,hc⟩
 unfold zbE
 rw[if_pos (by rw[hf]),hc]
 rw[hc] at hs
 have hra:zax (((zai [4] l).1.filter (zce n)).map (ziq (zel l n)))=zax ((zai [4] l).1.filter (zce n)):=sub_ahead fun c hm=>by
  rw[List.mem_filter,h4] at hm
  have h5:=zhj (bag_kept (n:=n) h3) h3 l.length (Nat.le_refl _) c hm.1 hm.2
  obtain⟨q,hq,rfl⟩:=List.mem_iff_getElem.1 hm.1
  have h6:=(zcY [4] l l.length).each q hq
  exact⟨h6.place.1,h5.1,h5.2⟩
 rw[hra]
 have hR:zeB (((zai [4] l).1.filter (zce n)).map (ziq (zel l n))) (zax ((zai [4] l).1.filter (zce n))):=by rw[←hra];exact zfY hs
 have hR2:zeB ((zai [4] l).1.filter (zce n)) (zax ((zai [4] l).1.filter (zce n))):=fun i j hb=>by
  obtain⟨a1,a2,a3,a4⟩:=hR i j hb
  rw[List.length_map] at a1 a2
  exact⟨a1,a2,a3,fun e=>a4 (((zis (zel l n) ((zai [4] l).1.filter (zce n))).one i).2.2.2.2.2 e)⟩
 show zc0 _ _ _ _ _=zc0 _ _ _ _ _
 rw[srch_CR hR _ zdW,srch_CR hR2 _ zdW,List.length_map]
 exact srch_sameC (zis _ _) _ _
theorem bag_own(h0:(zai [4] l).2.2=0)(h9:((zai [4] l).1.filter (zce n)).length≤9):zaG [4]=true∧CallsOk [4] ((zai [4] l).1.filter (zce n))∧zeB ((zai [4] l).1.filter (zce n)) (zax ((zai [4] l).1.filter (zce n))):=by
 obtain⟨_,_,hs,hc⟩:=bag_same h0 h9
 obtain⟨h1,h2,h3,h4⟩:=zbJ h0
 rw[hc] at hs
 have hra:zax (((zai [4] l).1.filter (zce n)).map (ziq (zel l n)))=zax ((zai [4] l).1.filter (zce n)):=sub_ahead fun c hm=>by
  rw[List.mem_filter,h4] at hm
  have h5:=zhj (bag_kept (n:=n) h3) h3 l.length (Nat.le_refl _) c hm.1 hm.2
  obtain⟨q,hq,rfl⟩:=List.mem_iff_getElem.1 hm.1
  have h6:=(zcY [4] l l.length).each q hq
  exact⟨h6.place.1,h5.1,h5.2⟩
 refine⟨h1,fun i hi=>?_,fun i j hb=>?_⟩
 ·have h5:=hs.calls i (by rw[List.length_map];exact hi)
  obtain⟨a,b,c,_,_⟩:=(zis (zel l n) ((zai [4] l).1.filter (zce n))).one i
  rw[a,b,c] at h5
  exact h5
 ·obtain⟨a1,a2,a3,a4⟩:=zfY hs i j (by rw[hra];exact hb)
  rw[List.length_map] at a1 a2
  exact⟨a1,a2,a3,fun e=>a4 (((zis (zel l n) ((zai [4] l).1.filter (zce n))).one i).2.2.2.2.2 e)⟩
end
end
section
open Go.RowKit
section
variable (fn:Nat)[IsFn Tryz.prog fn](p:Rvl→Bool)(cvs:List Value)(A:Option Addr)(c:Nat)(l:List Rvl)(w:World)(hA:RdE Rvl.enc 3 w A l)(hl:l.length≤9223372036854775807) 
variable (hp:∀s∈l,∀w',Below w.heap.size w w'→Calls Tryz.prog fn (.agg (Rvl.enc s).toArray::cvs).toArray w' fun e w2=>e=.returned (.bool (p s))∧Below w'.heap.size w' w2) 
include hA hl hp
theorem indexRvl_any:Calls Tryz.prog 185 #[.slice A l.length c,.func (.func fn) #[] cvs.toArray] w fun e w'=>e=.returned (.int .i64 (idxF p l))∧Below w.heap.size w w':=by
 refine zaj (S:=[]) [] Tryz.func185 rfl Tryz.ntmps185 Zj (Mem.nil _) ?_
 repeat' (first|refine Zga ?_|(refine Zgb ?_;intro g)|(refine Zg ?_ ?_<;>(intro h;try exact Zx))|fail)
 refine zap (X:=Nat) (fun k=>[(8,.int .i64 (k:Nat)),(7,.int .i64 (l.length:Nat)),(1,.func (.func fn) #[] cvs.toArray),(0,.slice A l.length c)]) (fun _=>[])
  (fun k=>k≤l.length∧(l.take k).any p=false) (fun k=>l.length-k) 0 ⟨by omega,by simp⟩ Ze (by exact zaK) ?_
 rintro k ⟨hk,hno⟩
 by_cases hkl:k<l.length
 ·obtain⟨b,o,rfl,_⟩:=RdE.open hA Zo
  have hb:=fun w' hb=>hp l[k] (List.getElem_mem _) w' hb
  generalize hz:p l[k]=z at hb
  repeat' (first|refine Zga ?_|(refine Zgb ?_;intro g)|(refine Zg ?_ ?_<;>(intro h;try exact Zx))|((with_reducible (first|apply zaa|apply TD_e3z|apply zan|apply zaf|apply zae));((with_reducible apply zbf (f:=fn) (us:=[]) (cs:=cvs) (v:=.bool z));exact rfl;exact rfl;(intro w' hw;exact hb w' (hw.below0 rfl));exact rfl);exact Zh;(rintro _ _ ⟨rfl,rfl⟩);(try refine⟨SUB,?_⟩))|fail)
  ·(refine zah Tryz.results185 rfl (fun w' hw=>?_))
   exact⟨by rw[zjJ hkl hno (by rw[hz];assumption)];rfl,hw.below0 rfl⟩
  ·refine zab (k+1) ⟨hkl,zdD hkl hno (by rw[hz];assumption)⟩ Zo Ze (by exact zaK)
 ·obtain rfl:k=l.length:=by omega
  rw[List.take_length] at hno
  repeat' (first|refine Zga ?_|(refine Zgb ?_;intro g)|(refine Zg ?_ ?_<;>(intro h;try exact Zx))|fail)
  (refine zah Tryz.results185 rfl (fun w' hw=>?_))
  exact⟨by rw[zjK hno];rfl,hw.below0 rfl⟩
end
end
section
open Go.RowKit Go.Shelf Go.Lib
def rhoRvl:Ren:=⟨fun n=>if n=6 then 153 else if n=14 then 187 else if n=15 then 184 else if n=20 then 220 else if n=21 then 221 else if n=22 then 222 else if n=23 then 223 else if n=24 then 224 else if n=25 then 225 else if n=26 then 226 else if n=27 then 227 else if n=28 then 219 else if n=29 then 207 else if n=46 then 244 else if n=47 then 240 else if n=48 then 241 else if n=49 then 245 else if n=50 then 246 else if n=57 then 259 else n,fun n=>if n=0 then 0 else if n=3 then 3 else if n=4 then 4 else if n=5 then 5 else if n=9 then 9 else if n=22 then 213 else if n=24 then 219 else if n=25 then 221 else if n=39 then 88 else if n=45 then 286 else if n=46 then 287 else if n=50 then 138 else if n=53 then 271 else if n=55 then 255 else if n=66 then 321 else if n=70 then 325 else if n=76 then 342 else if n=77 then 343 else n,fun n=>n⟩
theorem srtRvl:SlLaysF0.n6 Tryz.prog rhoRvl where
 mixed:=by kernel_rfl
 f6 := ⟨ "slices.SortFunc[[]alibi/rows.value,alibi/rows.value]", rfl, by kernel_rfl⟩
 f14 := ⟨ "slices.pdqsortCmpFunc[alibi/rows.value]", rfl, by kernel_rfl⟩
 f15:=by kernel_rfl
 f20 := ⟨ "slices.insertionSortCmpFunc[alibi/rows.value]", rfl, by kernel_rfl⟩
 f21 := ⟨ "slices.heapSortCmpFunc[alibi/rows.value]", rfl, by kernel_rfl⟩
 f22 := ⟨ "slices.breakPatternsCmpFunc[alibi/rows.value]", rfl, by kernel_rfl⟩
 f23 := ⟨ "slices.choosePivotCmpFunc[alibi/rows.value]", rfl, by kernel_rfl⟩
 f24 := ⟨ "slices.reverseRangeCmpFunc[alibi/rows.value]", rfl, by kernel_rfl⟩
 f25 := ⟨ "slices.partialInsertionSortCmpFunc[alibi/rows.value]", rfl, by kernel_rfl⟩
 f26 := ⟨ "slices.partitionEqualCmpFunc[alibi/rows.value]", rfl, by kernel_rfl⟩
 f27 := ⟨ "slices.partitionCmpFunc[alibi/rows.value]", rfl, by kernel_rfl⟩
 f28:=by kernel_rfl
 f29:=by kernel_rfl
 f46 := ⟨ "slices.siftDownCmpFunc[alibi/rows.value]", rfl, by kernel_rfl⟩
 f47:=by kernel_rfl
 f48:=by kernel_rfl
 f49 := ⟨ "slices.medianAdjacentCmpFunc[alibi/rows.value]", rfl, by kernel_rfl⟩
 f50 := ⟨ "slices.medianCmpFunc[alibi/rows.value]", rfl, by kernel_rfl⟩
 f57 := ⟨ "slices.order2CmpFunc[alibi/rows.value]", rfl, by kernel_rfl⟩
 t0:=Tryz.underlying0
 a0:=Tryz.isAgg0
 z0:=Tryz.sizeOf0
 v0:=Tryz.zeroValue0
 t3:=Tryz.underlying3
 a3:=Tryz.isAgg3
 z3:=Tryz.sizeOf3
 v3:=Tryz.zeroValue3
 t4:=Tryz.underlying4
 a4:=Tryz.isAgg4
 z4:=Tryz.sizeOf4
 v4:=Tryz.zeroValue4
 t5:=Tryz.underlying5
 a5:=Tryz.isAgg5
 z5:=Tryz.sizeOf5
 v5:=Tryz.zeroValue5
 t9:=Tryz.underlying9
 a9:=Tryz.isAgg9
 z9:=Tryz.sizeOf9
 v9:=Tryz.zeroValue9
 t22:=Tryz.underlying213
 a22:=Tryz.isAgg213
 z22:=Tryz.sizeOf213
 v22:=Tryz.zeroValue213
 t25:=Tryz.underlying221
 a25:=Tryz.isAgg221
 z25:=Tryz.sizeOf221
 v25:=Tryz.zeroValue221
 t39:=Tryz.underlying88
 a39:=Tryz.isAgg88
 z39:=Tryz.sizeOf88
 v39:=Tryz.zeroValue88
 t45:=Tryz.underlying286
 a45:=Tryz.isAgg286
 z45:=Tryz.sizeOf286
 v45:=Tryz.zeroValue286
 t46:=Tryz.underlying287
 a46:=Tryz.isAgg287
 z46:=Tryz.sizeOf287
 v46:=Tryz.zeroValue287
 t50:=Tryz.underlying138
 a50:=Tryz.isAgg138
 z50:=Tryz.sizeOf138
 v50:=Tryz.zeroValue138
 t53:=Tryz.underlying271
 a53:=Tryz.isAgg271
 z53:=Tryz.sizeOf271
 v53:=Tryz.zeroValue271
 t55:=Tryz.underlying255
 a55:=Tryz.isAgg255
 z55:=Tryz.sizeOf255
 v55:=Tryz.zeroValue255
 t66:=Tryz.underlying321
 a66:=Tryz.isAgg321
 z66:=Tryz.sizeOf321
 v66:=Tryz.zeroValue321
 t70:=Tryz.underlying325
 a70:=Tryz.isAgg325
 z70:=Tryz.sizeOf325
 v70:=Tryz.zeroValue325
 t76:=Tryz.underlying342
 a76:=Tryz.isAgg342
 z76:=Tryz.sizeOf342
 v76:=Tryz.zeroValue342
 t77:=Tryz.underlying343
 a77:=Tryz.isAgg343
 z77:=Tryz.sizeOf343
 v77:=Tryz.zeroValue343
end
section
open Go.RowKit
class PtrT (P:Program) (t:Nat):Prop where
 und:P.underlying t=some (.pointer (P.pointee t))
section
variable {P:Program}{C:Ctx}{E:zaE}{S:List Ent}{ty ty3 t:Nat}{x y:Operand}{p:Option Addr}[hs:PtrT P t] 
theorem QS_eqlPN(hx:evo E x=some (.pointer p))(hy:evo E y=some (.pointer none)):QS P C E S (.binOp .eql t x y ty3) ty (.bool p.isNone) :=
 QS.of (fun a w ha _=>by
  have h2:=run_eql_pointer_nil (P:=P) w t p hs.und
  have hg:(eqGuard .eql t x y (.pointer p) (.pointer none)).run P w=.ok () w:=by
   unfold eqGuard
   simp[run_underlying hs.und]
  simp only[execOp,ha.evo hx,ha.evo hy,Sem.run_bind,hg,Result.andThen_ok,h2];rfl)
theorem QS_neqPN(hx:evo E x=some (.pointer p))(hy:evo E y=some (.pointer none)):QS P C E S (.binOp .neq t x y ty3) ty (.bool (!p.isNone)) :=
 QS.of (fun a w ha _=>by
  have h2:=run_neq_pointer_nil (P:=P) w t p hs.und
  have hg:(eqGuard .neq t x y (.pointer p) (.pointer none)).run P w=.ok () w:=by
   unfold eqGuard
   simp[run_underlying hs.und]
  simp only[execOp,ha.evo hx,ha.evo hy,Sem.run_bind,hg,Result.andThen_ok,h2];rfl)
theorem zen{ad:Addr}(hx:evo E x=some (.pointer (some ad)))(hy:evo E y=some (.pointer none)):QS P C E S (.binOp .eql t x y ty3) ty (.bool false):=QS_eqlPN hx hy
theorem zeo{ad:Addr}(hx:evo E x=some (.pointer (some ad)))(hy:evo E y=some (.pointer none)):QS P C E S (.binOp .neq t x y ty3) ty (.bool true):=QS_neqPN hx hy
theorem zep(hx:evo E x=some (.pointer none))(hy:evo E y=some (.pointer none)):QS P C E S (.binOp .eql t x y ty3) ty (.bool true):=QS_eqlPN hx hy
theorem zeq(hx:evo E x=some (.pointer none))(hy:evo E y=some (.pointer none)):QS P C E S (.binOp .neq t x y ty3) ty (.bool false):=QS_neqPN hx hy
end
end
end Go.Proofs.YtjdckepbihcgfaaGreatDoor
