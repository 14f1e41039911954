/- Lemmas for the walks (Row, Hist4, Hist4c, Hist5, Hist7). No condition. -/
import Derived.Test.YtjdckepbihcgfaaGreatDoorG05
import Derived.StillTailTactics
set_option linter.unusedSimpArgs false
set_option linter.unusedVariables false
set_option linter.unusedSectionVars false
set_option linter.unnecessarySimpa false
set_option maxRecDepth 100000
set_option maxHeartbeats 8000000
namespace Go.Proofs.YtjdckepbihcgfaaGreatDoor
section
open Go.RowKit
theorem zfP{P:Program}{C:Ctx}{Q:Exit→Act→World→Prop}{E:zaE}{S:List Ent}{l rest:List Oper}{p:Prop}(hS:∀w,Mem C w S→p)(h:p→TL P C l Q rest E S):TL P C l Q rest E S :=
 ⟨fun a w ha hw=>(h (hS w hw)).run a w ha hw⟩
def hd0:Hd:=⟨none,0,0⟩
theorem All2.set{α β:Type}{R:α→β→Prop}{a:α}{b:β}(h:R a b):∀{l:List α} {m:List β} (j:Nat),All2 R l m→All2 R (l.set j a) (m.set j b)
 |_,_,_,.nil=>by simpa using All2.nil
 |_,_,0,.cons _ t=>.cons h t
 |_,_,j+1,.cons h' t=>.cons h' (All2.set h j t)
theorem zeR{α:Type}{R:α→α→Prop}{a:α}:∀{l:List α} (j:Nat),l.Pairwise R→(∀x∈l,R a x)→(∀x∈l,R x a)→(l.set j a).Pairwise R
 |[],_,_,_,_=>by simp
 |x::l,0,h,h1,_=>by
  rw[List.set_cons_zero,List.pairwise_cons]
  exact⟨fun y hy=>h1 y (by simp[hy]),(List.pairwise_cons.1 h).2⟩
 |x::l,j+1,h,h1,h2=>by
  rw[List.set_cons_succ,List.pairwise_cons]
  obtain⟨q1,q2⟩:=List.pairwise_cons.1 h
  refine⟨fun y hy=>?_,zeR j q2 (fun y hy=>h1 y (by simp[hy])) (fun y hy=>h2 y (by simp[hy]))⟩
  rcases List.mem_or_eq_of_mem_set hy with hy|rfl
  ·exact q1 y hy
  ·exact h2 x Zj
section
variable {C:Ctx}{w:World}{S S1 S':List Ent}{α:Type}{enc:α→List Value}{M e:Nat}{hs:List Hd}{rows:List (List α)}{l:List α}{A:Option Addr}{c j:Nat} 
theorem hd0_blk:hd0.v.ownBlock=none:=rfl
theorem set_has{k:Nat}{h:Hd}(hm:∃g∈hs.set j h,g.v.ownBlock=some k):h.v.ownBlock=some k∨∃i,i≠j∧∃hi:i<hs.length,hs[i].v.ownBlock=some k:=by
 obtain⟨g,hg,hk⟩:=hm
 obtain⟨i,hi,rfl⟩:=List.mem_iff_getElem.1 hg
 rw[List.length_set] at hi
 by_cases e:i=j
 ·subst e
  rw[List.getElem_set_self] at hk;exact .inl hk
 ·rw[List.getElem_set_ne (fun e'=>e e'.symm)] at hk
  exact .inr ⟨i,e,hi,hk⟩
theorem Mem.takeRow(hj:j<hs.length)(hj':j<rows.length)(hu:Upd S (zaR enc M e hs rows) (zaR enc M e (hs.set j hd0) (rows.set j [])) S')(hw:Mem C w S):Mem C w (zac enc M e hs[j].a hs[j].c rows[j]::S'):=by
 obtain⟨X,Y,rfl,rfl⟩:=hu.form
 have hap:=hw.apart
 rw[List.pairwise_append,List.pairwise_cons] at hap
 obtain⟨hX,⟨hY1,hY⟩,hXY⟩:=hap
 have hin:=hw.holds (zaR enc M e hs rows) Zj
 have hrow:=zg9 hin.1.1 j hj hj'
 have hv:hs[j].v=.slice hs[j].a rows[j].length hs[j].c:=by rw[←hrow.1];rfl
 have hsub:∀k,(zaR enc M e (hs.set j hd0) (rows.set j [])).has k→(zaR enc M e hs rows).has k∧hs[j].v.ownBlock≠some k:=by
  intro k hk
  rcases set_has hk with h|⟨i,hi,hil,h⟩
  ·rw[hd0_blk] at h;cases h
  ·refine⟨⟨_,List.getElem_mem hil,h⟩,fun hk'=>?_⟩
   have hp:=List.pairwise_iff_getElem.1 hin.1.2
   rcases Nat.lt_or_gt_of_ne hi with hlt|hlt
   ·exact hp i j hil hj hlt k h hk'
   ·exact hp j i hj hil hlt k hk' h
 have hown:∀k,(zac enc M e hs[j].a hs[j].c rows[j]).has k→(zaR enc M e hs rows).has k:=by
  intro k hk
  refine⟨hs[j],List.getElem_mem hj,?_⟩
  rw[hv];exact hk
 have hnew:Inner enc M e w (hs.set j hd0) (rows.set j []):=by
  refine⟨All2.set ⟨rfl,Own.nil w 0⟩ j hin.1.1,zeR j hin.1.2 (fun x _ k hk=>?_) (fun x _ k _=>?_)⟩
  ·rw[hd0_blk] at hk;cases hk
  ·rw[hd0_blk];simp
 refine⟨hw.keeps,fun f hf=>?_,?_⟩
 ·rcases List.mem_cons.1 hf with rfl|hf
  ·refine⟨?_,fun k hk=>hin.2 k (hown k hk)⟩
   show Own enc M e w 0 (.slice hs[j].a rows[j].length hs[j].c) rows[j]
   rw[←hv];exact hrow.2
  ·rcases List.mem_append.1 hf with hf|hf
   ·exact hw.holds f (by simp[hf])
   ·rcases List.mem_cons.1 hf with rfl|hf
    ·exact⟨hnew,fun k hk=>hin.2 k (hsub k hk).1⟩
    ·exact hw.holds f (by simp[hf])
 ·refine List.pairwise_cons.2 ⟨fun f hf k hk=>?_,?_⟩
  ·rcases List.mem_append.1 hf with hf|hf
   ·exact fun hk'=>hXY f hf (zaR enc M e hs rows) List.mem_cons_self k hk' (hown k hk)
   ·rcases List.mem_cons.1 hf with rfl|hf
    ·intro hk'
     refine(hsub k hk').2 ?_
     rw[hv];exact hk
    ·exact hY1 f hf k (hown k hk)
  ·rw[List.pairwise_append,List.pairwise_cons]
   refine⟨hX,⟨fun f hf k hk=>hY1 f hf k (hsub k hk).1,hY⟩,fun f hf g hg k hk=>?_⟩
   rcases List.mem_cons.1 hg with rfl|hg
   ·exact fun hk'=>hXY f hf (zaR enc M e hs rows) List.mem_cons_self k hk (hsub k hk').1
   ·exact hXY f hf g (by simp[hg]) k hk
theorem Mem.putRow(hp:Pick S (zac enc M e A c l) S1)(hu:Upd S1 (zaR enc M e hs rows) (zaR enc M e (hs.set j ⟨A,l.length,c⟩) (rows.set j l)) S')(hw:Mem C w S):Mem C w S':=by
 have h1:=hw.pick hp
 obtain⟨X,Y,rfl,rfl⟩:=hu.form
 have hap:=List.pairwise_cons.1 h1.apart
 have hap2:=hap.2
 rw[List.pairwise_append,List.pairwise_cons] at hap2
 obtain⟨hX,⟨hY1,hY⟩,hXY⟩:=hap2
 have ho:=h1.holds _ List.mem_cons_self
 have hin:=h1.holds (zaR enc M e hs rows) Zj
 have hfar:∀k,(∃h∈hs,h.v.ownBlock=some k)→(Value.slice A l.length c).ownBlock≠some k:=fun k hk hk'=>hap.1 (zaR enc M e hs rows) Zj k hk' hk
 have hhas:∀k,(zaR enc M e (hs.set j ⟨A,l.length,c⟩) (rows.set j l)).has k→(zaR enc M e hs rows).has k∨(zac enc M e A c l).has k:=by
  intro k hk
  rcases set_has hk with h|⟨i,_,hil,h⟩
  ·exact .inr h
  ·exact .inl ⟨_,List.getElem_mem hil,h⟩
 have hnew:Inner enc M e w (hs.set j ⟨A,l.length,c⟩) (rows.set j l):=by
  refine⟨All2.set ⟨rfl,ho.1⟩ j hin.1.1,zeR j hin.1.2 (fun x hx k hk hk'=>hfar k ⟨x,hx,hk'⟩ hk) (fun x hx k hk=>hfar k ⟨x,hx,hk⟩)⟩
 refine⟨h1.keeps,fun f hf=>?_,?_⟩
 ·rcases List.mem_append.1 hf with hf|hf
  ·exact h1.holds f (by simp[hf])
  ·rcases List.mem_cons.1 hf with rfl|hf
   ·refine⟨hnew,fun k hk=>?_⟩
    rcases hhas k hk with h|h
    ·exact hin.2 k h
    ·exact ho.2 k h
   ·exact h1.holds f (by simp[hf])
 ·rw[List.pairwise_append,List.pairwise_cons]
  refine⟨hX,⟨fun f hf k hk=>?_,hY⟩,fun f hf g hg k hk=>?_⟩
  ·rcases hhas k hk with h|h
   ·exact hY1 f hf k h
   ·exact hap.1 f (by simp[hf]) k h
  ·rcases List.mem_cons.1 hg with rfl|hg
   ·intro hk'
    rcases hhas k hk' with h|h
    ·exact hXY f hf _ List.mem_cons_self k hk h
    ·exact hap.1 f (by simp[hf]) k h hk
   ·exact hXY f hf g (by simp[hg]) k hk
theorem Mem.newBlkF{b:Nat}{R:List Ent}(hw:Mem C w (S1++R))(hF:b∉C.F)(hb:b<C.w0.heap.size):b∉zbb S1:=fun hm=>by
 obtain⟨e,he,hg⟩:=zcd.1 hm
 rcases((hw.holds e (by simp[he])).2 b hg).2 with h|h
 ·exact hF h
 ·omega
theorem Mem.rdAwayF{A:Option Addr}{ls:List α}(hw:Mem C w S)(h:RdE enc M C.w0 A ls)(hF:∀b o,A=some ⟨b,o,Option.none⟩→b∉C.F):RdE enc M w A ls:=by
 intro j x hj
 obtain⟨b,o,h1,h2,h3⟩:=h j x hj
 exact⟨b,o,h1,Nat.lt_of_lt_of_le h2 hw.keeps.size,fun k v hk=>hw.old h2 (hF b o h1) (h3 k v hk)⟩
theorem Mem.ownLast{g et:Nat}{ls:List α}{x:α}(hu:Upd S (zac enc M et (some ⟨g,0,Option.none⟩) c (ls++[x])) (zac enc M et (some ⟨g,0,Option.none⟩) c ls) S')(hM:∀x,(enc x).length=M)(hw:Mem C w S):Mem C w S':=by
 have ho:=hw.holds _ hu.mem
 have h:Own enc M et w 0 (.slice (some ⟨g,0,Option.none⟩) (ls++[x]).length c) (ls++[x]):=ho.1
 refine hw.upd hu (Keeps.refl [] w) Zj (fun k hk=>?_) ?_
 ·have:some g=some k:=hk
  cases this
  exact⟨(ho.2 g rfl).1,.inl rfl⟩
 ·obtain⟨g',cap,cur,hv,hbb,hg,hnc,hcm,hcs,htake⟩:=h.2.resolve_left Zj
  simp only[Value.slice.injEq,Option.some.injEq,Addr.mk.injEq,and_true,true_and] at hv
  obtain⟨rfl,rfl⟩:=hv
  rw[List.length_append,List.length_singleton] at hnc
  refine⟨zbo hM _,.inr ⟨g,c,cur,rfl,hbb,hg,by omega,hcm,hcs,?_⟩⟩
  have e1:(ls++[x]).flatMap enc=ls.flatMap enc++enc x:=by rw[List.flatMap_append];simp
  rw[e1,List.length_append,List.length_singleton] at htake
  have h2:=congrArg (List.take (ls.length * M)) htake
  rw[List.take_take,List.take_append_of_le_length (by rw[zbo hM];omega)] at h2
  rw[List.take_of_length_le (l:=ls.flatMap enc) (by rw[zbo hM];omega)] at h2
  rw[←h2,Nat.min_eq_left]
  rw[Nat.add_mul];omega
end
end
section
open Go.RowKit
theorem zi1(t v:Value)(op:Nat→Int)(k:Nat)(hk:k<8)(z:Int):(zaV t v op).setIfInBounds (2+k) (.int .i64 z)=zaV t v (upz op k z):=by
 have:=ints_set op 8 k z
 unfold ints at this
 apply Array.ext_getElem?
 intro j
 rw[Array.getElem?_setIfInBounds]
 match j with
 |0=>simp[zaV]
 |1=>simp[zaV];omega
 |j+2 =>
  have h:=congrArg (fun a:Array Value=>a[j]?) this
  simp only[Array.getElem?_setIfInBounds,List.getElem?_toArray,List.size_toArray,List.length_map,List.length_range] at h
  simp only[zaV,List.getElem?_toArray,List.getElem?_cons_succ,List.size_toArray,List.length_cons,List.length_map,List.length_range]
  rw[←h]
  by_cases e:k=j
  ·subst e;simp[hk,Nat.add_comm 2 k]
  ·have:¬2+k=j+2:=by omega
   simp[e,this]
theorem rdCells_setv(t v u:Value)(op:Nat→Int):(zaV t v op).setIfInBounds 1 u=zaV t u op:=by
 apply Array.ext_getElem?
 intro j
 rw[Array.getElem?_setIfInBounds]
 match j with
 |0=>simp[zaV]
 |1=>simp[zaV]
 |j+2=>simp[zaV]
theorem event_end_ok(r:Nat)(T:Option Addr)(c:Nat)(ts:List Int)(v:Value)(op:Nat→Int)(i:Int)(k t:Nat)(value:Int)(w:World)(hl:ts.length≤9223372036854775807)(hk:k<8)(ht:t<ts.length) 
  (hb:Blk w r 93 (zaV (.slice T ts.length c) v op)) (B:Nat) (hB:B≤r) (cs:List Cl) (hcs:cs.length≤1000) (ho:OwnCl w B v cs) (m:Nat) (hm:m<cs.length) (hop:op k=(m:Int)+1)
  (hth:cs[m].thing=t) (hr:resB cs[m].kind value=true) :
  Calls Tryz.prog 47 #[.pointer (some ⟨r,0,none⟩),.int .i64 i,.agg (Ev.enc ⟨k,t,0,value⟩).toArray] w fun e w'=>e=.returned (.int .i64 0) ∧
   Blk w' r 93 (zaV (.slice T ts.length c) v (upz op k 0))∧OwnCl w' B v (cs.set m { cs[m] with res:=value,to:=i })∧Below B w w':=by
 simp only[zgW]
 have c0:=(hb.cell 0).trans (zdQ _ _ _)
 have c2:=(hb.cell (2+k)).trans (zc1 _ _ _ k hk)
 have l0:=hb.lt
 have hk0:(0:Int)≤k:=by omega
 have hk8:(k:Int)<8:=by omega
 have ht0:(0:Int)≤t:=by omega
 have ht8:(t:Int)<ts.length:=by omega
 have d1:decide ((k:Int)<0)=false:=by simp
 have d2:decide ((8:Int)≤k)=false:=by simp;omega
 have d3:decide ((t:Int)<0)=false:=by simp
 have d4:decide ((ts.length:Int)≤t)=false:=by simp;omega
 have c1:=(hb.cell 1).trans (ziC _ _ _)
 have f2:=hb.frozen (2+k)
 have hne:=ho.ne hb (by decide)
 obtain⟨g,cc,hv,hgB,hg,hc,hfz⟩:=ho.at_ Cl.len m hm
 have e1:=hc 1 _ rfl
 have e2:=hc 2 _ rfl
 have e4:=hc 4 _ rfl
 have e6:=hc 6 _ rfl
 have z4:=hfz (m * 7+4)
 have z6:=hfz (m * 7+6)
 have hgr:g≠r:=by subst hv;simpa[Value.ownBlock] using hne
 rw[hv] at c1
 rw[hop] at c2
 rw[hth] at e1
 have hm1:(m:Int)<(cs.length:Int):=by omega
 have hm2:(cs.length:Int)≤1000:=by omega
 have hm3:(m:Int)+1≠0:=by omega
 have hm4:((m:Int)+1 == 0)=false:=by simpa using hm3
 have d5:(((t:Int):Int) != t)=false:=by simp
 have Hf:=Lib.hid (And.intro hb (And.intro ho hne))
 have Hset:∀W,Own Cl.enc 7 36 W B v cs→Own Cl.enc 7 36 ((W.setCell ⟨g,m * 7+4,none⟩ (.int .i64 value)).setCell ⟨g,m * 7+6,none⟩ (.int .i64 i)) B v (cs.set m { cs[m] with res:=value,to:=i }):=by
  intro W h
  have h1:=h.set_ Cl.len m hm 4 (by omega) (.int .i64 value) { cs[m] with res:=value } rfl hv
  have h2:=h1.set_ Cl.len m (by simpa using hm) 6 (by omega) (.int .i64 i) { cs[m] with res:=value,to:=i } (by simp[Cl.enc]) (by simpa using hv)
  simpa using h2
 have HH:=Lib.hid Hset
 clear hb ho hc hfz hop hne hv Hset
 go_enter Tryz.func47,Tryz.ntmps47
 go_wp2_with (fail)
 go_quiet (fail)
 go_wp2_with (fail)
 go_quiet (fail)
 go_wp2_with (fail)
 go_quiet (first|(go_at_call 94;(first|exact Calls.quiet_of_same (zf7 (by assumption) _)|exact Calls.quiet_same (zf7 (by assumption) _))))
 go_wp2_with (fail)
 have hgr':r≠g:=fun e=>hgr e.symm
 have hgw:g≠w.heap.size:=by omega
 have hgw':w.heap.size≠g:=by omega
 have hrw:r≠w.heap.size:=by omega
 ·go_region
  go_wp2_with (fail)
  go_ret
  refine⟨rfl,?_,?_,?_⟩
  ·rw[←zi1 _ _ _ _ hk]
   exact(((((Hf.out.1.alloc _).drewN _).far hgr' _).far hgr' _).set_ _ _)
  ·exact Own.far (HH.out _ (Own.drewN (Own.alloc Hf.out.2.1 _) _)) (p:=⟨r,2+k,none⟩) Hf.out.2.2 _
  ·(repeat(first|assumption|exact Below.refl _ _|refine Below.drew ?_|refine zaA ?_ _|refine Below.alloc ?_ (by first|omega|(simp;done)|(simp;omega)) _|refine Below.setCell ?_ (by first|omega|(simp;done)|(simp;omega)) _))
end
section
open Go.RowKit
theorem Q0Hist4c{p R:Prop}(r:R)(h:Rest R→p:=by intro r;(first|with_reducible (first|apply zcE|apply za9|apply zba|apply zbd|apply zbe)|((with_reducible (first|apply zaN|apply zaO));exact rfl;exact rfl;(with_reducible exact rfl)));(first|exact QS.auto|((with_reducible apply za1);exact rfl;(first|exact Lds.blk Zm (nthV_rd _ _ _ _ Zo)|exact Lds.rd1 (by assumption) (by exact hFb) (by first|assumption|omega) rfl)));exact rfl;exact r.out):p:=h ⟨r⟩
theorem nthV_rd(t v:Value)(op:Nat→Int)(i:Nat)(h:i<8):nthV (zaV t v op).toList (2+i)=some (.int .i64 (op i)):=by rw[←zfJ];simpa using zc1 t v op i h
theorem zeS(t v:Value)(op:Nat→Int):(zaV t v op).size=10:=by simp[zaV]
theorem Mem.ownUp{C:Ctx}{S:List Ent}{α:Type}{enc:α→List Value}{M et c:Nat}{ls:List α}{A:Option Addr}{w:World}{B:Nat}(hw:Mem C w S)(hF:∀g∈C.F,B≤g)(hB:B≤C.w0.heap.size)(hm:zac enc M et A c ls∈S):Own enc M et w B (.slice A ls.length c) ls:=by
 obtain⟨ho,hb⟩:=hw.holds _ hm
 have ho':Own enc M et w 0 (.slice A ls.length c) ls:=ho
 refine⟨ho'.1,?_⟩
 rcases ho'.2 with hn|⟨g,cap,cur,hv,_,rest⟩
 ·exact .inl hn
 ·refine .inr ⟨g,cap,cur,hv,?_,rest⟩
  rcases(hb g (by show(Value.slice A ls.length c).ownBlock=some g;rw[hv];rfl)).2 with h|h
  ·exact hF g h
  ·omega
theorem Keeps.upto{F:List Nat}{B:Nat}{w w':World}(h:Keeps F w w')(hF:∀g∈F,B≤g)(hB:B≤w.heap.size):Below B w w' :=
 ⟨h.os,h.tape,h.output,h.size,fun k hk=>h.block k Zo (fun hm=>by have:=hF k hm;omega)⟩
theorem event_call_ok(r:Nat)(T:Option Addr)(c:Nat)(ts:List Int)(v:Value)(op:Nat→Int)(i:Int)(k t:Nat)(kind value:Int)(w:World)(hl:ts.length≤9223372036854775807)(hk:k<8)(ht:t<ts.length) 
  (hb:Blk w r 93 (zaV (.slice T ts.length c) v op)) (hT:RdInt w T ts) (B:Nat) (hB:B≤r) (cs:List Cl) (hcs:cs.length≤1000) (ho:OwnCl w B v cs)
  (hkind:(kind != 0)=true) (hf:zdK ts[t] kind=true) (ha:zdO kind value=true) (hop:op k=0) (hTB:∀b o,T=some ⟨b,o,none⟩→b<B) :
  Calls Tryz.prog 47 #[.pointer (some ⟨r,0,none⟩),.int .i64 i,.agg (Ev.enc ⟨k,t,kind,value⟩).toArray] w fun e w'=>∃v',e=.returned (.int .i64 0) ∧
   Blk w' r 93 (zaV (.slice T ts.length c) v' (upz op k (cs.length+1)))∧OwnCl w' B v' (cs++[⟨k,t,kind,value,0,i,-1⟩])∧Below B w w':=by
 have hne:=ho.ne hb Zi
 have hk0:kind≠0:=by simpa using hkind
 obtain⟨A,d,rfl⟩:=Own.form ho
 obtain⟨b,o,rfl,hb0⟩:=RdE.open hT Zo
 have hbB:=hTB b o rfl
 have hFb:b∉r::(Value.slice A cs.length d).ownBlock.toList:=by
  intro h
  rcases List.mem_cons.1 h with h|h
  ·omega
  ·have:=(World.ownsRow.lt ho b (by simpa using h)).1
   omega
 refine zaj (S:=[zak r 93 (zaV (.slice (some ⟨b,o,none⟩) ts.length c) (.slice A cs.length d) op),zac Cl.enc 7 36 A d cs]) (r::(Value.slice A cs.length d).ownBlock.toList)
  Tryz.func47 rfl Tryz.ntmps47 Zj ?_ ?_
 ·refine⟨Keeps.refl _ _,?_,?_⟩
  ·intro e he
   rcases List.mem_cons.1 he with rfl|he
   ·exact⟨hb,fun g hg=>by cases hg;exact⟨hb.lt,.inl Zj⟩⟩
   ·obtain rfl:=List.mem_singleton.1 he
    exact⟨ho.base,fun g hg=>by
     have hg':(Value.slice A cs.length d).ownBlock=some g:=hg
     exact⟨(World.ownsRow.lt ho g hg').2,.inl (List.mem_cons_of_mem _ (by simp[hg']))⟩⟩
  ·refine List.pairwise_cons.2 ⟨fun f hf g hg hg'=>?_,List.pairwise_singleton _ _⟩
   obtain rfl:=List.mem_singleton.1 hf
   cases hg
   exact hne hg'
 repeat' (first|refine Q0Hist4c ?_|((with_reducible (first|apply zaa|apply TD_e3z|apply zan|apply zaf|apply zae));(first|exact ES.auto|((with_reducible apply zcW);exact rfl;exact rfl;exact Zu;(first|exact rdCells_setv _ _ _ _|exact zi1 _ _ _ _ Zo _);(first|(simp only[zeS];omega)|(simp[zeS];done)|(simp[zeS];omega));exact rfl));exact Zh;(first|rintro _ _ ⟨rfl,rfl⟩|rintro _ _ ⟨g,rfl,rfl⟩|rintro _ _ ⟨A',c',rfl,rfl⟩);(try refine⟨SUB,?_⟩))|refine Zha ?_|(refine Zhb ?_;intro g)|((refine GO2 ?_ ?_)<;>intro h<;>(try dsimp only at h)<;>(try(repeat(first|with_reducible (replace h:=of_decide_eq_true h)|with_reducible (replace h:=of_decide_eq_false h)|with_reducible (replace h:=bnt h)|with_reducible (replace h:=bnf h)|with_reducible (replace h:=Int.not_lt.mp h)|with_reducible (replace h:=Int.not_le.mp h)|with_reducible (replace h:=band_dec h)|with_reducible (replace h:=ziJ h)|with_reducible (replace h:=bor_dec h)|with_reducible (replace h:=bor_decF h))))<;>(try exact Zx))|refine GOF ?_ ?_|((with_reducible apply zam (id:=1) 1000 (OT.seq [(0,0),(1,1),(0,2),(0,3),(0,4),(1,5),(0,6),(0,7),(0,8),(0,9),(1,10),(0,11),(0,12),(0,13),(0,14),(0,16),(0,17),(0,18),(1,15),(1,19),(0,20),(0,21),(0,22)] .nil));kernel_rfl;exact rfl;kernel_rfl;exact Zd)|((with_reducible apply zam (id:=3) 1000 (OT.seq [(0,0),(0,1),(0,3),(0,4),(1,2),(0,5),(1,6),(0,7)] .nil));kernel_rfl;exact rfl;kernel_rfl;exact Zd)|((with_reducible apply zam (id:=5) 1000 (OT.seq [(0,0),(0,1),(0,2),(0,4),(0,8),(1,3),(1,5),(0,6),(1,7),(1,9),(2,10),(0,11),(0,12),(0,13),(0,15),(1,14),(1,16),(2,17),(0,18),(0,19),(0,20)] .nil));kernel_rfl;exact rfl;kernel_rfl;exact Zd)|((with_reducible apply zam (id:=9) 16 (OT.seq [(0,0),(0,1),(0,2),(0,3),(0,5),(0,7),(0,9),(0,11),(0,13),(1,4),(1,6),(1,8),(1,10),(1,12),(0,14),(2,15),(3,16),(0,17),(0,18),(3,19)] .nil));kernel_rfl;exact rfl;kernel_rfl;exact Zd)|((with_reducible apply zam (id:=10) 11 (OT.seq [(0,0),(0,1),(0,3),(0,4),(0,5),(0,8),(0,9),(1,2),(1,6),(0,7),(0,10),(3,11)] .nil));kernel_rfl;exact rfl;kernel_rfl;exact Zd)|((with_reducible apply zam (id:=15) 1000 (OT.seq [(0,0),(0,1),(0,2),(0,4),(1,3),(1,5),(0,6),(0,7),(0,8),(0,9),(0,10),(0,12),(1,11),(1,13),(2,14),(0,15),(0,16)] .nil));kernel_rfl;exact rfl;kernel_rfl;exact Zd)|((with_reducible apply zam (id:=18) 6 (OT.seq [(0,0),(0,1),(0,3),(0,4),(1,2),(0,5),(3,6)] .nil));kernel_rfl;exact rfl;kernel_rfl;exact Zd)|((with_reducible (first|apply zaa|apply TD_e3z|apply zan|apply zaf|apply zae));((with_reducible apply zad);exact rfl;(intro w hw;exact Calls.same_below (fits_any _ _ _));exact rfl);exact Zh;(rintro _ _ ⟨rfl,rfl⟩);(try refine⟨SUB,?_⟩))|((with_reducible (first|apply zaa|apply TD_e3z|apply zan|apply zaf|apply zae));((with_reducible apply zad);exact rfl;(intro w hw;exact Calls.same_below (zeI _ _ _));exact rfl);exact Zh;(rintro _ _ ⟨rfl,rfl⟩);(try refine⟨SUB,?_⟩))|((with_reducible (first|apply zaa|apply TD_e3z|apply zan|apply zaf|apply zae));((with_reducible apply zbp (enc:=Cl.enc) (xs:=[(⟨k,t,kind,value,0,i,-1⟩:Cl)]));exact rfl;exact rfl;exact Lies.blk Zm;exact fun _=>rfl;exact fun _=>rfl;(intro A' c';exact Zu);(simp;omega);decide;exact rfl);exact Zh;(rintro _ _ ⟨A',c',rfl,rfl⟩);(try refine⟨SUB,?_⟩)))
 ·exfalso
  have h1:zdK ts[t] kind=false:=by assumption
  rw[hf] at h1;cases h1
 ·exfalso
  have h1:zdO kind value=false:=by assumption
  rw[ha] at h1;cases h1
 ·(refine zah Tryz.results47 rfl (fun w' hw=>?_))
  have hF:∀g∈r::(Value.slice A cs.length d).ownBlock.toList,B≤g:=by
   intro g hg
   rcases List.mem_cons.1 hg with rfl|hg
   ·exact hB
   ·exact(World.ownsRow.lt ho g (by simpa using hg)).1
  have hBw:B≤w.heap.size:=by have:=hb.lt;omega
  have hb':=(hw.holds (zak r 93 _) Zm).1
  refine⟨_,rfl,?_,hw.ownUp hF hBw Zm,hw.keeps.upto hF hBw⟩
  have e:(((cs++[(⟨k,t,kind,value,0,i,-1⟩:Cl)]).length:Nat):Int)=(cs.length:Int)+1:=by simp
  rw[←e]
  exact hb'
end
section
open Go.RowKit
def evP(ts:List Int)(cs:List Cl)(op:Nat→Int)(i:Int)(x:Ev):Int×List Cl×(Nat→Int) :=
 if za4 ts x=true then(3,cs,op)
 else if x.kind≠0 then
  if(zdK (ts.getD x.thing.toNat 0) x.kind&&zdO x.kind x.value)=false then(3,cs,op)
  else if 0<op x.who.toNat then(5,cs,op)
  else(0,cs++[⟨x.who,x.thing,x.kind,x.value,0,i,-1⟩],upz op x.who.toNat (cs.length+1))
 else if op x.who.toNat=0 then(4,cs,op)
 else if(cs.getD (op x.who.toNat-1).toNat default).thing=x.thing∧resB (cs.getD (op x.who.toNat-1).toNat default).kind x.value=true then
  (0,cs.set (op x.who.toNat-1).toNat { cs.getD (op x.who.toNat-1).toNat default with res:=x.value,to:=i },upz op x.who.toNat 0)
 else(3,cs,op)
def OpOk(cs:List Cl)(op:Nat→Int):Prop:=∀k,k<8→0≤op k∧op k≤cs.length
theorem evP_ok{ts:List Int}{cs:List Cl}{op:Nat→Int}{i:Int}{x:Ev}(h:OpOk cs op):OpOk (evP ts cs op i x).2.1 (evP ts cs op i x).2.2:=by
 unfold evP
 repeat' split
 all_goals first|exact h|skip
 ·intro k hk
  have:=h k hk
  simp only[upz,List.length_append,List.length_singleton]
  split<;>omega
 ·intro k hk
  have:=h k hk
  simp only[upz,List.length_set]
  split<;>omega
theorem event_any(r:Nat)(T:Option Addr)(c:Nat)(ts:List Int)(v:Value)(op:Nat→Int)(i:Int)(x:Ev)(w:World)(hl:ts.length≤9223372036854775807) 
  (hb:Blk w r 93 (zaV (.slice T ts.length c) v op)) (hT:RdInt w T ts) (B:Nat) (hB:B≤r) (cs:List Cl) (hcs:cs.length≤1000) (ho:OwnCl w B v cs) (hop:OpOk cs op) (hTB:0<ts.length→∀b o,T=some ⟨b,o,none⟩→b<B) :
  Calls Tryz.prog 47 #[.pointer (some ⟨r,0,none⟩),.int .i64 i,.agg (Ev.enc x).toArray] w fun e w'=>∃v',e=.returned (.int .i64 (evP ts cs op i x).1) ∧
   ((evP ts cs op i x).1=0→Blk w' r 93 (zaV (.slice T ts.length c) v' (evP ts cs op i x).2.2)∧OwnCl w' B v' (evP ts cs op i x).2.1)∧Below B w w':=by
 have hBw:B≤w.heap.size:=by have:=hb.lt;omega
 have bad:∀z:Int,z≠0→(evP ts cs op i x).1=z→(Calls Tryz.prog 47 #[.pointer (some ⟨r,0,none⟩),.int .i64 i,.agg (Ev.enc x).toArray] w fun e w'=>e=.returned (.int .i64 z)∧Below w.heap.size w w') →
   Calls Tryz.prog 47 #[.pointer (some ⟨r,0,none⟩),.int .i64 i,.agg (Ev.enc x).toArray] w fun e w'=>∃v',e=.returned (.int .i64 (evP ts cs op i x).1) ∧
   ((evP ts cs op i x).1=0→Blk w' r 93 (zaV (.slice T ts.length c) v' (evP ts cs op i x).2.2)∧OwnCl w' B v' (evP ts cs op i x).2.1)∧Below B w w':=by
  intro z hz he hc
  refine hc.mono fun e w' ⟨h1,h2⟩=>⟨v,?_,fun h=>absurd (he.symm.trans h) hz,h2.mono hBw⟩
  rw[h1,he]
 by_cases hf:za4 ts x=true
 ·exact bad 3 Zi (by simp[evP,hf]) (event_form r T c ts v op i x w hl hb hf)
 ·obtain⟨who,thing,kind,value⟩:=x
  have hff:=hf
  simp only[za4,Bool.not_eq_true',Bool.not_eq_false',decide_eq_true_eq,decide_eq_false_iff_not,Bool.and_eq_true,Bool.or_eq_true,Bool.or_eq_false_iff,Bool.and_eq_false_iff,not_or,Int.not_lt,Int.not_le] at hff
  obtain⟨⟨⟨q1,q2⟩,q3⟩,q4⟩:=hff
  obtain⟨k,rfl⟩:=Int.eq_ofNat_of_zero_le q1
  obtain⟨t,rfl⟩:=Int.eq_ofNat_of_zero_le q3
  have hk:k<8:=by omega
  have ht:t<ts.length:=by omega
  have hg:ts.getD t 0=ts[t]:=by simp[ht]
  have hok:=hop k hk
  by_cases hkind:kind=0
  ·subst hkind
   by_cases h0:op k=0
   ·exact bad 4 Zi (by simp[evP,hf,h0]) (event_none r T c ts v op i k t value w hl hk ht hb h0)
   ·obtain⟨m,hm⟩:∃m:Nat,op k=(m:Int)+1:=⟨(op k-1).toNat,by omega⟩
    have hmc:m<cs.length:=by omega
    have hd:cs.getD m default=cs[m]:=by simp[hmc]
    by_cases hth:cs[m].thing=t∧resB cs[m].kind value=true
    ·have e:evP ts cs op i ⟨k,t,0,value⟩=(0,cs.set m { cs[m] with res:=value,to:=i },upz op k 0):=by
      simp[evP,hf,hm,hmc,hth,show ¬(m:Int)+1=0 by omega]
     rw[e]
     exact(event_end_ok r T c ts v op i k t value w hl hk ht hb B hB cs hcs ho m hmc hm hth.1 hth.2).mono fun e w' ⟨h1,h2,h3,h4⟩=>⟨v,h1,fun _=>⟨h2,h3⟩,h4⟩
    ·refine bad 3 Zi (by simp[evP,hf,hm,hmc,hth,show ¬(m:Int)+1=0 by omega]) (event_end_bad r T c ts v op i k t value w hl hk ht hb B cs hcs ho m hmc hm fun h=>?_)
     cases hr:resB cs[m].kind value
     ·rfl
     ·exact absurd ⟨h,hr⟩ hth
  ·by_cases hfa:(zdK ts[t] kind&&zdO kind value)=true
   ·have hfa':zdK ts[t] kind=true∧zdO kind value=true:=by simpa using hfa
    by_cases h0:0<op k
    ·exact bad 5 Zi (by simp[evP,hf,hkind,ht,hfa',h0]) (event_twice r T c ts v op i k t kind value w hl hk ht hb hT (by simpa using hkind) hfa'.1 hfa'.2 h0)
    ·have e:evP ts cs op i ⟨k,t,kind,value⟩=(0,cs++[⟨k,t,kind,value,0,i,-1⟩],upz op k (cs.length+1)):=by
      simp[evP,hf,hkind,ht,hfa',h0]
     rw[e]
     exact(event_call_ok r T c ts v op i k t kind value w hl hk ht hb hT B hB cs hcs ho (by simpa using hkind) hfa'.1 hfa'.2 Zo (hTB Zo)).mono fun e w' ⟨v',h1,h2,h3,h4⟩=>⟨v',h1,fun _=>⟨h2,h3⟩,h4⟩
   ·have hfb:(zdK ts[t] kind&&zdO kind value)=false:=by simpa using hfa
    exact bad 3 Zi (by simp only[evP,if_neg hf,Int.toNat_natCast,hg,hfb];simp[hkind]) (event_call_bad r T c ts v op i k t kind value w hl hk ht hb hT (by simpa using hkind) hfb)
instance : Inhabited Ev:=⟨⟨0,0,0,0⟩⟩
def stP(ts:List Int)(l:List Ev):Nat→List Cl×(Nat→Int)
 |0=>([],fun _=>0)
 |k+1=>(evP ts (stP ts l k).1 (stP ts l k).2 k (l.getD k default)).2
def erP(ts:List Int)(l:List Ev)(k:Nat):Int:=(evP ts (stP ts l k).1 (stP ts l k).2 k (l.getD k default)).1
theorem stP_ok(ts:List Int)(l:List Ev):∀k,OpOk (stP ts l k).1 (stP ts l k).2
 |0=>fun k hk=>by simp[stP]
 |k+1=>evP_ok (stP_ok ts l k)
theorem evP_len(ts:List Int)(cs:List Cl)(op:Nat→Int)(i:Int)(x:Ev):(evP ts cs op i x).2.1.length≤cs.length+1:=by
 unfold evP
 repeat' split
 all_goals simp
theorem stP_len(ts:List Int)(l:List Ev):∀k,(stP ts l k).1.length≤k
 |0=>by simp[stP]
 |k+1=>by have:=stP_len ts l k;have:=evP_len ts (stP ts l k).1 (stP ts l k).2 k (l.getD k default);simp only[stP];omega
def zi2(ts:List Int)(l:List Ev):Nat:=((List.range l.length).find? fun k=>decide (erP ts l k≠0)).getD l.length
def zc8(ts:List Int)(l:List Ev):List Cl×Int×Int :=
 if zcl ts≠0 then([],0,zcl ts)
 else if 200<l.length then([],0,2)
 else if zi2 ts l<l.length then([],zi2 ts l,erP ts l (zi2 ts l))
 else((stP ts l l.length).1,0,0)
theorem failP_at{ts:List Int}{l:List Ev}{k:Nat}(hk:k<l.length)(h:∀j,j<k→erP ts l j=0)(he:erP ts l k≠0):zi2 ts l=k:=by
 unfold zi2
 have:(List.range l.length).find? (fun k=>decide (erP ts l k≠0))=some k:=by
  rw[List.find?_range_eq_some]
  exact⟨by simpa using he,by simpa using hk,fun j hj=>by simp[h j hj]⟩
 rw[this];rfl
theorem failP_none{ts:List Int}{l:List Ev}(h:∀j,j<l.length→erP ts l j=0):zi2 ts l=l.length:=by
 unfold zi2
 have:(List.range l.length).find? (fun k=>decide (erP ts l k≠0))=none:=by
  rw[List.find?_eq_none]
  intro j hj
  simp[h j (by simpa using hj)]
 rw[this];rfl
theorem RdEv.at_{w wr:World}{A:Option Addr}{l:List Ev}(h:RdEv w A l)(hb:Below w.heap.size w wr)(k:Nat)(hk:k<l.length):
  ∃b o,A=some ⟨b,o,none⟩∧b<w.heap.size∧b<wr.heap.size∧wr.cell? ⟨b,o+k * 4,none⟩=some (.int .i64 l[k].who)∧wr.cell? ⟨b,o+k * 4+1,none⟩=some (.int .i64 l[k].thing)∧wr.cell? ⟨b,o+k * 4+2,none⟩=some (.int .i64 l[k].kind)∧wr.cell? ⟨b,o+k * 4+3,none⟩=some (.int .i64 l[k].value):=by
 obtain⟨b,o,h1,h2,h3,h4⟩:=RdE.at_ h hb k hk
 exact⟨b,o,h1,h2,h3,h4 0 _ rfl,h4 1 _ rfl,h4 2 _ rfl,h4 3 _ rfl⟩
theorem calls_any(T A:Option Addr)(ct c:Nat)(ts:List Int)(l:List Ev)(w:World)(hts:ts.length≤9223372036854775807)(hl:l.length≤9223372036854775807)(hT:RdInt w T ts)(hA:RdEv w A l):
  Calls Tryz.prog 12 #[.slice T ts.length ct,.slice A l.length c] w fun e w'=>∃A' c',e=.returned (.tuple #[.slice A' (zc8 ts l).1.length c',.int .i64 (zc8 ts l).2.1,.int .i64 (zc8 ts l).2.2])∧OwnCl w' w.heap.size (.slice A' (zc8 ts l).1.length c') (zc8 ts l).1∧Below w.heap.size w w':=by
 by_cases hty:zcl ts=0
 ·by_cases h2:200<l.length
  ·have he:zc8 ts l=([],0,2):=by simp[zc8,hty,h2]
   have He:=Lib.hid he
   clear he
   go_enter Tryz.func12,Tryz.ntmps12
   go_wp2_with (go_at_call 46;refine(ziB _ _ _ _ hts hT).mono ?_;rintro e w1 ⟨rfl,hb1⟩;rw[hty])
   go_ret3
   rw[He.out]
   exact⟨none,0,rfl,Own.nil _ _,hb1⟩
  ·have hl2:l.length≤200:=by omega
   have Hty:=Lib.hid hty
   clear h2
   have hTB:Hid (0<ts.length→∀b o,T=some ⟨b,o,none⟩→b<w.heap.size):=Lib.hid fun h b o e=>by
    obtain⟨b',o',h1,h2⟩:=hT.open h
    rw[e] at h1;cases h1;exact h2
   go_enter Tryz.func12,Tryz.ntmps12
   go_wp2_with (go_at_call 46;refine(ziB _ _ _ _ hts hT).mono ?_;rintro e w1 ⟨rfl,hb1⟩;rw[hty])
   have hs1:=hb1.size
   go_loopw [25] (fun i wr=>∃(k:Nat) (v:Value),k≤l.length∧i=.int .i64 k∧Hid (∀j,j<k→erP ts l j=0)∧Blk wr w1.heap.size 93 (zaV (.slice T ts.length ct) v (stP ts l k).2)∧OwnCl wr w.heap.size v (stP ts l k).1∧Below w.heap.size w wr) (fun i _=>l.length-(intOf i).toNat)
   case atStart=>exact⟨0,_,by omega,rfl,Lib.hid Zo,Blk.new _ _ _,Own.nil _ _,by(repeat(first|assumption|exact Below.refl _ _|refine zaI ?_ _|refine Below.drew ?_|refine zaA ?_ _|(refine zbs ?_ (by first|(simp;done)|(simp;omega)) _)|(refine zbt ?_ (by first|(simp;done)|(simp;omega)) _)))⟩
   case round =>
    obtain⟨k,v,hk,rfl,hno,hblk,hown,hbel⟩:=hrel
    have hlen:=stP_len ts l k
    by_cases hlt:k<l.length
    ·obtain⟨b,o,rfl,hb0,hbs,c0,c1,c2,c3⟩:=hA.at_ hbel k hlt
     have hg:l.getD k default=l[k]:=by simp[hlt]
     have a5:=hblk.lt
     by_cases he:erP ts l k=0
     ·have hev:(evP ts (stP ts l k).1 (stP ts l k).2 k l[k]).1=0:=by rw[←hg];exact he
      have Hev:=Lib.hid hev
      have He:=Lib.hid he
      clear hev he
      go_wp2_with (go_at_call 47;refine(event_any _ T ct ts v (stP ts l k).2 k l[k] _ hts (hblk.alloc _) (RdE.below hT (by(repeat(first|assumption|exact Below.refl _ _|refine zaI ?_ _|refine Below.drew ?_|refine zaA ?_ _|(refine zbs ?_ (by first|(simp;done)|(simp;omega)) _)|(refine zbt ?_ (by first|(simp;done)|(simp;omega)) _))))) w.heap.size Zo (stP ts l k).1 Zo (Own.alloc hown _) (stP_ok ts l k) hTB.out).mono ?_;rintro e w2 ⟨v',he',hst,hbw⟩;rw[Hev.out] at he';subst he')
      go_roundw
      case rel =>
       have h2:=hst Hev.out
       refine⟨k+1,v',by omega,by go_num,Lib.hid (fun j hj=>?_),?_,?_,?_⟩
       ·by_cases e:j=k
        ·subst e;exact He.out
        ·exact hno.out j Zo
       ·simp only[stP,hg];exact h2.1
       ·simp only[stP,hg];exact h2.2
       ·exact(zaI hbel _).trans hbw
      case measure=>simp[intOf];omega
     ·have hev:(evP ts (stP ts l k).1 (stP ts l k).2 k l[k]).1=erP ts l k:=by rw[←hg];rfl
      have hn:(erP ts l k != 0)=true:=by simpa using he
      have hcp:zc8 ts l=([],(k:Int),erP ts l k):=by
       have hf:=failP_at hlt hno.out he
       simp only[zc8,Hty.out,hf]
       rw[if_neg Zj,if_neg Zo,if_pos hlt]
      have Hev:=Lib.hid hev
      have Hcp:=Lib.hid hcp
      clear hev hcp he
      go_wp2_with (go_at_call 47;refine(event_any _ T ct ts v (stP ts l k).2 k l[k] _ hts (hblk.alloc _) (RdE.below hT (by(repeat(first|assumption|exact Below.refl _ _|refine zaI ?_ _|refine Below.drew ?_|refine zaA ?_ _|(refine zbs ?_ (by first|(simp;done)|(simp;omega)) _)|(refine zbt ?_ (by first|(simp;done)|(simp;omega)) _))))) w.heap.size Zo (stP ts l k).1 Zo (Own.alloc hown _) (stP_ok ts l k) hTB.out).mono ?_;rintro e w2 ⟨v',he',hst,hbw⟩;rw[Hev.out] at he';subst he')
      go_ret3
      rw[Hcp.out]
      exact⟨none,0,rfl,Own.nil _ _,(zaI hbel _).trans hbw⟩
    ·obtain rfl:k=l.length:=by omega
     have hcp:zc8 ts l=((stP ts l l.length).1,0,0):=by
      have hf:=failP_none hno.out
      simp only[zc8,Hty.out,hf]
      rw[if_neg Zj,if_neg Zo,if_neg Zo]
     have Hcp:=Lib.hid hcp
     obtain⟨A',c',rfl⟩:=Own.form hown
     have d0:=(hblk.cell 1).trans (ziC _ _ _)
     have a5:=hblk.lt
     clear hcp
     go_wp2_with (fail)
     go_ret3
     rw[Hcp.out]
     exact⟨A',c',rfl,hown,hbel⟩
 ·have he:zc8 ts l=([],0,zcl ts):=by simp[zc8,hty]
  have He:=Lib.hid he
  have hn:(zcl ts != 0)=true:=by simpa using hty
  clear he hty
  go_enter Tryz.func12,Tryz.ntmps12
  go_wp2_with (go_at_call 46;refine(ziB _ _ _ _ hts hT).mono ?_;rintro e w1 ⟨rfl,hb1⟩)
  go_ret3
  rw[He.out]
  exact⟨none,0,rfl,Own.nil _ _,hb1⟩
end
section
open Go.RowKit
def zaS(cs:List Cl)(who:Int):Nat→Int
 |0=>-1
 |q+1=>if(cs.getD q default).who=who∧(cs.getD q default).to=-1 then(q:Int) else zaS cs who q
theorem zc9(cs:List Cl)(who:Int):∀q,-1≤zaS cs who q∧zaS cs who q<q
 |0=>by simp[zaS]
 |q+1=>by
  have:=zc9 cs who q
  rw[zaS]
  split<;>omega
def evR(ts:List Int)(cs:List Cl)(i:Int)(x:Ev):Int×List Cl :=
 if za4 ts x=true then(3,cs)
 else if x.kind=0 then
  if zaS cs x.who cs.length<0 then(4,cs)
  else if(cs.getD (zaS cs x.who cs.length).toNat default).thing=x.thing∧ansB (cs.getD (zaS cs x.who cs.length).toNat default).kind x.value=true then
   (0,cs.set (zaS cs x.who cs.length).toNat { cs.getD (zaS cs x.who cs.length).toNat default with res:=x.value,to:=i })
  else(3,cs)
 else if((zaZ (ts.getD x.thing.toNat 0)).contains x.kind&&zdO x.kind x.value)=false then(3,cs)
 else if 0≤zaS cs x.who cs.length then(5,cs)
 else(0,cs++[⟨x.who,x.thing,x.kind,x.value,0,i,-1⟩])
def stR(ts:List Int)(l:List Ev):Nat→List Cl
 |0=>[]
 |k+1=>(evR ts (stR ts l k) k (l.getD k default)).2
def erR(ts:List Int)(l:List Ev)(k:Nat):Int:=(evR ts (stR ts l k) k (l.getD k default)).1
def StOk(cs:List Cl)(op:Nat→Int):Prop :=
 (∀k:Nat,k<8→zaS cs (k:Int) cs.length=op k-1)∧(∀c,c∈cs→1≤c.kind∧c.kind≤10) ∧
 ∀i j,(hi:i<cs.length)→(hj:j<cs.length)→cs[i].who=cs[j].who→cs[i].to=-1→cs[j].to=-1→i=j
theorem zeT{cs ds:List Cl}{who:Int}:∀q,(∀j,j<q→((cs.getD j default).who=who∧(cs.getD j default).to=-1↔(ds.getD j default).who=who∧(ds.getD j default).to=-1))→zaS cs who q=zaS ds who q
 |0,_=>rfl
 |q+1,h=>by
  rw[zaS,zaS,zeT q fun j hj=>h j Zo]
  have:=h q Zo
  by_cases e:(cs.getD q default).who=who∧(cs.getD q default).to=-1
  ·rw[if_pos e,if_pos (this.1 e)]
  ·rw[if_neg e,if_neg fun e'=>e (this.2 e')]
theorem zi3{cs:List Cl}{who:Int}:∀q,(∀j,j<q→¬((cs.getD j default).who=who∧(cs.getD j default).to=-1))→zaS cs who q=-1
 |0,_=>rfl
 |q+1,h=>by rw[zaS,if_neg (h q Zo),zi3 q fun j hj=>h j Zo]
theorem zcm{cs:List Cl}{who:Int}:∀q,zaS cs who q≠-1→∃m:Nat,zaS cs who q=m∧m<q∧(cs.getD m default).who=who∧(cs.getD m default).to=-1
 |0,h=>absurd rfl h
 |q+1,h=>by
  rw[zaS] at h ⊢
  by_cases e:(cs.getD q default).who=who∧(cs.getD q default).to=-1
  ·rw[if_pos e]
   exact⟨q,rfl,by omega,e⟩
  ·rw[if_neg e] at h ⊢
   obtain⟨m,h1,h2,h3⟩:=zcm q h
   exact⟨m,h1,by omega,h3⟩
theorem zcA{cs:List Cl}{who:Int}{j:Nat}:∀q,j<q→(cs.getD j default).who=who∧(cs.getD j default).to=-1→zaS cs who q≠-1
 |0,h,_=>by omega
 |q+1,h,hj=>by
  rw[zaS]
  by_cases e:(cs.getD q default).who=who∧(cs.getD q default).to=-1
  ·rw[if_pos e];omega
  ·rw[if_neg e]
   have:j≠q:=fun e'=>e (e'▸hj)
   exact zcA q Zo hj
theorem stOk_push{cs:List Cl}{op:Nat→Int}{k:Nat}{c:Cl}(hs:StOk cs op)(hk:op k=0)(hk8:k<8)(hw:c.who=k)(ht:c.to=-1)(h1:1≤c.kind∧c.kind≤10):StOk (cs++[c]) (upz op k (cs.length+1)):=by
 obtain⟨a1,a2,a3⟩:=hs
 have hl:(cs++[c]).getD cs.length default=c:=by simp
 have ho:∀j,j<cs.length→(cs++[c]).getD j default=cs.getD j default:=fun j hj=>by simp[hj,List.getElem?_append_left hj]
 have hno:∀j (hj:j<cs.length),cs[j].who=k→cs[j].to=-1→False:=fun j hj e1 e2 =>
  zcA (cs:=cs) (who:=k) cs.length hj (by simp[hj,e1,e2]) (by rw[a1 k hk8,hk];rfl)
 refine⟨fun k' hk'=>?_,fun x hx=>?_,fun i j hi hj e1 e2 e3=>?_⟩
 ·rw[List.length_append,List.length_singleton,zaS,hl,hw,ht]
  by_cases e:k'=k
  ·subst e
   rw[if_pos ⟨rfl,rfl⟩]
   simp[upz]
  ·rw[if_neg (by intro h;exact e (by have:=h.1;omega)),zeT (ds:=cs) _ (fun j hj=>by rw[ho j hj]),a1 k' hk']
   simp[upz,e]
 ·rcases List.mem_append.1 hx with h|h
  ·exact a2 x h
  ·rw[List.mem_singleton.1 h];exact h1
 ·simp only[List.length_append,List.length_singleton] at hi hj
  rcases Nat.lt_or_ge i cs.length with h|h<;>rcases Nat.lt_or_ge j cs.length with h'|h'
  ·simp only[List.getElem_append_left h,List.getElem_append_left h'] at e1 e2 e3
   exact a3 i j h h' e1 e2 e3
  ·obtain rfl:j=cs.length:=by omega
   simp only[List.getElem_append_left h,List.getElem_concat_length] at e1 e2
   exact absurd (hno i h (by rw[e1,hw]) e2) id
  ·obtain rfl:i=cs.length:=by omega
   simp only[List.getElem_append_left h',List.getElem_concat_length] at e1 e3
   exact absurd (hno j h' (by rw[←e1,hw]) e3) id
  ·omega
theorem stOk_set{cs:List Cl}{op:Nat→Int}{k m:Nat}{v i:Int}(hs:StOk cs op)(hk8:k<8)(hm:m<cs.length)(hop:op k=(m:Int)+1)(hi:0≤i):StOk (cs.set m { cs[m] with res:=v,to:=i }) (upz op k 0):=by
 obtain⟨a1,a2,a3⟩:=hs
 obtain⟨m',h1,h2,h3,h4⟩:=zcm (cs:=cs) (who:=k) cs.length (by rw[a1 k hk8,hop];omega)
 obtain rfl:m'=m:=by have:=a1 k hk8;rw[h1,hop] at this;omega
 have hd:cs.getD m' default=cs[m']:=by simp[hm]
 rw[hd] at h3 h4
 have ho:∀j,j≠m'→(cs.set m' { cs[m'] with res:=v,to:=i }).getD j default=cs.getD j default:=fun j hj=>by
  simp only[List.getD_eq_getElem?_getD,List.getElem?_set]
  rw[if_neg (fun e=>hj e.symm)]
 have hn:(cs.set m' { cs[m'] with res:=v,to:=i }).getD m' default={ cs[m'] with res:=v,to:=i }:=by simp[hm]
 have hto:¬i=-1:=by omega
 refine⟨fun k' hk'=>?_,fun x hx=>?_,fun p q hp hq e1 e2 e3=>?_⟩
 ·rw[List.length_set]
  by_cases e:k'=k
  ·subst e
   rw[zi3]
   ·simp[upz]
   ·intro j hj hh
    by_cases e:j=m'
    ·subst e;rw[hn] at hh;exact hto hh.2
    ·rw[ho j e] at hh
     have hjd:cs.getD j default=cs[j]:=by simp[hj]
     rw[hjd] at hh
     exact e (a3 j m' hj hm (by rw[hh.1,h3]) hh.2 h4)
  ·rw[zeT (ds:=cs) _ (fun j hj=>?_),a1 k' hk']
   ·simp[upz,e]
   ·by_cases e':j=m'
    ·subst e'
     rw[hn,hd]
     simp only[h3]
     constructor
     ·intro h;exact absurd h.1 Zo
     ·intro h;exact absurd h.1 Zo
    ·rw[ho j e']
 ·rcases List.mem_or_eq_of_mem_set hx with h|h
  ·exact a2 x h
  ·subst h;exact a2 cs[m'] (List.getElem_mem _)
 ·simp only[List.length_set] at hp hq
  simp only[List.getElem_set] at e1 e2 e3
  by_cases ep:m'=p
  ·rw[if_pos ep] at e2;exact absurd e2 hto
  ·by_cases eq:m'=q
   ·rw[if_pos eq] at e3;exact absurd e3 hto
   ·rw[if_neg ep,if_neg eq] at e1
    rw[if_neg ep] at e2
    rw[if_neg eq] at e3
    exact a3 p q hp hq e1 e2 e3
theorem step_same{ts:List Int}{cs:List Cl}{op:Nat→Int}{i:Int}{x:Ev}(hi:0≤i)(hs:StOk cs op)(ho:OpOk cs op):
  (evP ts cs op i x).1=(evR ts cs i x).1∧(evP ts cs op i x).2.1=(evR ts cs i x).2∧StOk (evP ts cs op i x).2.1 (evP ts cs op i x).2.2:=by
 by_cases hf:za4 ts x=true
 ·simp[evP,evR,hf,hs]
 ·have hff:=hf
  simp only[za4,Bool.not_eq_true',Bool.not_eq_false',decide_eq_true_eq,decide_eq_false_iff_not,Bool.and_eq_true,Bool.or_eq_true,Bool.or_eq_false_iff,Bool.and_eq_false_iff,not_or,Int.not_lt,Int.not_le] at hff
  obtain⟨⟨⟨q1,q2⟩,q3⟩,q4⟩:=hff
  obtain⟨who,thing,kind,value⟩:=x
  obtain⟨k,rfl⟩:=Int.eq_ofNat_of_zero_le q1
  have hk:k<8:=by simp at q2;omega
  have hop:=hs.1 k hk
  have hok:=ho k hk
  by_cases hkind:kind=0
  ·subst hkind
   by_cases h0:op k=0
   ·have:zaS cs k cs.length<0:=by omega
    simp[evP,evR,hf,h0,this,hs]
   ·obtain⟨m,hm⟩:∃m:Nat,op k=(m:Int)+1:=⟨(op k-1).toNat,by omega⟩
    have hmc:m<cs.length:=by omega
    have hd:cs.getD m default=cs[m]:=by simp[hmc]
    have hot:zaS cs k cs.length=m:=by omega
    have hkd:=hs.2.1 cs[m] (List.getElem_mem _)
    have hra:=resB_ansB (n:=value) hkd.1 hkd.2
    by_cases hth:cs[m].thing=thing∧resB cs[m].kind value=true
    ·have e1:evP ts cs op i ⟨k,thing,0,value⟩=(0,cs.set m { cs[m] with res:=value,to:=i },upz op k 0):=by
      simp[evP,hf,hm,hmc,hth,show ¬(m:Int)+1=0 by omega]
     have e2:evR ts cs i ⟨k,thing,0,value⟩=(0,cs.set m { cs[m] with res:=value,to:=i }):=by
      simp[evR,hf,hot,hmc,←hra,hth,show ¬(m:Int)<0 by omega]
     rw[e1,e2]
     exact⟨rfl,rfl,stOk_set hs hk hmc hm hi⟩
    ·have e1:evP ts cs op i ⟨k,thing,0,value⟩=(3,cs,op):=by
      simp[evP,hf,hm,hmc,hth,show ¬(m:Int)+1=0 by omega]
     have e2:evR ts cs i ⟨k,thing,0,value⟩=(3,cs):=by
      simp[evR,hf,hot,hmc,←hra,hth,show ¬(m:Int)<0 by omega]
     rw[e1,e2]
     exact⟨rfl,rfl,hs⟩
  ·have hkl:=ziy (ts.getD thing.toNat 0) kind
   by_cases hfa:(zdK (ts.getD thing.toNat 0) kind&&zdO kind value)=true
   ·have hfk:zdK (ts.getD thing.toNat 0) kind=true:=(Bool.and_eq_true _ _▸hfa).1
    by_cases h0:0<op k
    ·have:0≤zaS cs k cs.length:=by omega
     have e1:evP ts cs op i ⟨k,thing,kind,value⟩=(5,cs,op):=by
      simp only[evP,if_neg hf,if_pos hkind,hfa,Int.toNat_natCast,if_pos h0];simp
     have e2:evR ts cs i ⟨k,thing,kind,value⟩=(5,cs):=by
      simp only[evR,if_neg hf,if_neg hkind,←hkl,hfa,if_pos this];simp
     rw[e1,e2]
     exact⟨rfl,rfl,hs⟩
    ·have:¬0≤zaS cs k cs.length:=by omega
     have e1:evP ts cs op i ⟨k,thing,kind,value⟩=(0,cs++[⟨k,thing,kind,value,0,i,-1⟩],upz op k (cs.length+1)):=by
      simp only[evP,if_neg hf,if_pos hkind,hfa,Int.toNat_natCast,if_neg h0];simp
     have e2:evR ts cs i ⟨k,thing,kind,value⟩=(0,cs++[⟨k,thing,kind,value,0,i,-1⟩]):=by
      simp only[evR,if_neg hf,if_neg hkind,←hkl,hfa,if_neg this];simp
     rw[e1,e2]
     exact⟨rfl,rfl,stOk_push hs Zo hk rfl rfl (typeF_pos hfk)⟩
   ·have hfb:(zdK (ts.getD thing.toNat 0) kind&&zdO kind value)=false:=by simpa using hfa
    have e1:evP ts cs op i ⟨k,thing,kind,value⟩=(3,cs,op):=by
     simp only[evP,if_neg hf,if_pos hkind,hfb];simp
    have e2:evR ts cs i ⟨k,thing,kind,value⟩=(3,cs):=by
     simp only[evR,if_neg hf,if_neg hkind,←hkl,hfb];simp
    rw[e1,e2]
    exact⟨rfl,rfl,hs⟩
theorem zfe(ts:List Int)(l:List Ev):∀k,(stP ts l k).1=stR ts l k∧StOk (stP ts l k).1 (stP ts l k).2
 |0=>⟨rfl,fun k _=>by simp[stP,zaS],fun c hc=>by simp[stP] at hc,fun i j hi _ _ _ _=>by simp[stP] at hi⟩
 |k+1=>by
  obtain⟨h1,h2⟩:=zfe ts l k
  have:=step_same (ts:=ts) (x:=l.getD k default) (show(0:Int)≤k by omega) h2 (stP_ok ts l k)
  rw[h1] at this
  simp only[stP,stR]
  rw[h1]
  exact⟨this.2.1,this.2.2⟩
theorem zfQ(ts:List Int)(l:List Ev)(k:Nat):erP ts l k=erR ts l k:=by
 obtain⟨h1,h2⟩:=zfe ts l k
 have:=step_same (ts:=ts) (x:=l.getD k default) (show(0:Int)≤k by omega) h2 (stP_ok ts l k)
 rw[h1] at this
 unfold erP erR
 rw[h1]
 exact this.1
def zey(ts:List Int)(l:List Ev):Nat:=((List.range l.length).find? fun k=>decide (erR ts l k≠0)).getD l.length
def zai(ts:List Int)(l:List Ev):List Cl×Int×Int :=
 if zcl ts≠0 then([],0,zcl ts)
 else if 200<l.length then([],0,2)
 else if zey ts l<l.length then([],zey ts l,erR ts l (zey ts l))
 else(stR ts l l.length,0,0)
theorem calls_same(ts:List Int)(l:List Ev):zc8 ts l=zai ts l:=by
 have hf:zi2 ts l=zey ts l:=by
  unfold zi2 zey
  simp only[zfQ]
 unfold zc8 zai
 rw[hf,zfQ,(zfe ts l l.length).1]
theorem failR_at{ts:List Int}{l:List Ev}{k:Nat}(hk:k<l.length)(h:∀j,j<k→erR ts l j=0)(he:erR ts l k≠0):zey ts l=k:=by
 have:=failP_at (ts:=ts) (l:=l) hk (fun j hj=>by rw[zfQ];exact h j hj) (by rw[zfQ];exact he)
 unfold zi2 at this
 unfold zey
 simpa only[zfQ] using this
theorem failR_none{ts:List Int}{l:List Ev}(h:∀j,j<l.length→erR ts l j=0):zey ts l=l.length:=by
 have:=failP_none (ts:=ts) (l:=l) (fun j hj=>by rw[zfQ];exact h j hj)
 unfold zi2 at this
 unfold zey
 simpa only[zfQ] using this
end
end Go.Proofs.YtjdckepbihcgfaaGreatDoor
