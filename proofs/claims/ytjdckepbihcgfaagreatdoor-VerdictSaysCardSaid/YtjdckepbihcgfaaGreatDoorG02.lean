/- Lemmas for the walks (T, T2, T3). No condition. -/
import Derived.Test.YtjdckepbihcgfaaGreatDoorG01
import Derived.Deep.MidRow
import Derived.Laws.AppendOwn
import Derived.IntWalk
set_option linter.unusedSimpArgs false
set_option linter.unusedVariables false
set_option linter.unusedSectionVars false
set_option linter.unnecessarySimpa false
set_option maxRecDepth 100000
set_option maxHeartbeats 8000000
namespace Go.Proofs.YtjdckepbihcgfaaGreatDoor
section
open Go.RowKit
abbrev zaE:=List (Nat×Value)
def zeG(t:Nat):zaE→Option Value
 |[]=>none
 |(k,v)::E=>match Nat.beq k t with
  |true=>some v
  |false=>zeG t E
def evo(E:zaE):Operand→Option Value
 |.tmp t=>zeG t E
 |.const v=>some v
 |.global g=>some (.pointer (some ⟨g,0,none⟩))
 |.func f=>some (.func (.func f) #[] #[])
def Env(n:Nat)(a:Act)(E:zaE):Prop:=a.defers=[]∧a.tmps.size=n∧∀t v,zeG t E=some v→a.tmps[t]?=some v
section
variable {n:Nat}{a:Act}{E:zaE} 
theorem Env.evo(h:Env n a E){x:Operand}{v:Value}(hx:evo E x=some v):a.eval x=v:=by
 cases x with
 |tmp t =>
  have:=h.2.2 t v hx
  simp[Act.eval,this]
 |const u=>simpa[Go.Proofs.YtjdckepbihcgfaaGreatDoor.evo,Act.eval] using hx
 |global g=>simpa[Go.Proofs.YtjdckepbihcgfaaGreatDoor.evo,Act.eval] using hx
 |func f=>simpa[Go.Proofs.YtjdckepbihcgfaaGreatDoor.evo,Act.eval] using hx
theorem Env.put(h:Env n a E){d:Nat}(hd:Nat.ble (d+1) n=true)(v:Value):Env n (a.put (some d) v) ((d,v)::E):=by
 refine⟨h.1,by simpa[Act.put] using h.2.1,fun t u hu=>?_⟩
 have hdn:d<n:=Nat.le_of_ble_eq_true hd
 simp only[zeG] at hu
 by_cases e:d=t
 ·subst e
  simp only[Nat.beq_refl,Option.some.injEq] at hu
  subst hu
  simp[Act.put,h.2.1,hdn]
 ·have:Nat.beq d t=false:=by
   rw[Bool.eq_false_iff];intro hb;exact e (Nat.eq_of_beq_eq_true hb)
  rw[this] at hu
  simp only[Act.put]
  rw[Array.getElem?_setIfInBounds_ne e]
  exact h.2.2 t u hu
theorem Env.putNone(h:Env n a E)(v:Value):Env n (a.put none v) E:=h
theorem Env.sub{E':zaE}(h:Env n a E)(hs:∀t v,zeG t E'=some v→zeG t E=some v):Env n a E':=⟨h.1,h.2.1,fun t v hv=>h.2.2 t v (hs t v hv)⟩
theorem Env.same(h:Env n a E){t:Nat}{v v':Value}(hv:zeG t E=some v)(e:v=v'):Env n a ((t,v')::E):=by
 refine⟨h.1,h.2.1,fun k u hu=>?_⟩
 simp only[zeG] at hu
 split at hu
 ·rename_i hb
  have:=Nat.eq_of_beq_eq_true hb
  subst this
  cases hu
  exact h.2.2 _ _ (e▸hv)
 ·exact h.2.2 k u hu
end
def SubE(E E':zaE):Prop:=∀t v,zeG t E'=some v→zeG t E=some v
theorem SubE.nil(E:zaE):SubE E []:=fun t v h=>by cases h
theorem SubE.cons{E E':zaE}{t:Nat}{v:Value}(hv:zeG t E=some v)(h:SubE E E'):SubE E ((t,v)::E'):=by
 intro k u hu
 simp only[zeG] at hu
 split at hu
 ·rename_i hb
  have:=Nat.eq_of_beq_eq_true hb
  subst this
  cases hu
  exact hv
 ·exact h k u hu
structure Ent where
 has:Nat→Prop
 fin:List Nat
 hfin:∀g,g∈fin↔has g
 p:World→Prop
 loc:∀w w':World,(∀g,has g→w'.heap[g]?=w.heap[g]?)→p w→p w'
structure Ctx where
 n:Nat
 F:List Nat
 w0:World
structure Keeps (F:List Nat) (w w':World):Prop where
 os:w'.os=w.os
 tape:w'.tape=w.tape
 output:w'.output=w.output
 size:w.heap.size≤w'.heap.size
 block:∀k,k<w.heap.size→k∉F→w'.heap[k]?=w.heap[k]?
theorem Keeps.refl(F:List Nat)(w:World):Keeps F w w:=⟨rfl,rfl,rfl,Nat.le_refl _,fun _ _ _=>rfl⟩
theorem Keeps.below{w w':World}(h:Keeps [] w w'):Below w.heap.size w w':=⟨h.os,h.tape,h.output,h.size,fun k hk=>h.block k hk (by simp)⟩
theorem Keeps.of_below{F:List Nat}{w w':World}(h:Below w.heap.size w w'):Keeps F w w':=⟨h.os,h.tape,h.output,h.size,fun k hk _=>h.block k hk⟩
structure Mem (C:Ctx) (w:World) (S:List Ent):Prop where
 keeps:Keeps C.F C.w0 w
 holds:∀e∈S,e.p w∧∀g,e.has g→g<w.heap.size∧(g∈C.F∨C.w0.heap.size≤g)
 apart:S.Pairwise fun e f=>∀g,e.has g→¬f.has g
section
variable {C:Ctx}{w w':World}{S S':List Ent}{e e':Ent} 
theorem Mem.nil(C:Ctx):Mem C C.w0 []:=⟨Keeps.refl _ _,by simp,.nil⟩
theorem Mem.keep{F:List Nat}(h:Mem C w S)(hk:Keeps F w w')(hF:∀g∈F,g∈C.F∨C.w0.heap.size≤g)(hS:∀e∈S,∀g,e.has g→g∉F):Mem C w' S:=by
 refine⟨⟨hk.os.trans h.keeps.os,hk.tape.trans h.keeps.tape,hk.output.trans h.keeps.output,Nat.le_trans h.keeps.size hk.size,fun k hk' hF'=>?_⟩,fun e he=>?_,h.apart⟩
 ·refine(hk.block k (Nat.lt_of_lt_of_le hk' h.keeps.size) fun hm=>?_).trans (h.keeps.block k hk' hF')
  rcases hF k hm with h1|h1
  ·exact hF' h1
  ·omega
 ·obtain⟨h1,h2⟩:=h.holds e he
  refine⟨e.loc w w' (fun g hg=>hk.block g (h2 g hg).1 (hS e he g hg)) h1,fun g hg=>⟨Nat.lt_of_lt_of_le (h2 g hg).1 hk.size,(h2 g hg).2⟩⟩
theorem Mem.below(h:Mem C w S)(hb:Below w.heap.size w w'):Mem C w' S :=
 h.keep (F:=[]) (Keeps.of_below hb) (by simp) (by simp)
theorem Mem.drewN(h:Mem C w S)(k:Nat):Mem C (w.drewN k) S:=h.below (zaA (Below.refl _ _) k)
theorem Mem.drew(h:Mem C w S):Mem C w.drew S:=h.below (Below.drew (Below.refl _ _))
theorem Mem.sub(h:Mem C w S)(hs:S'.Sublist S):Mem C w S':=⟨h.keeps,fun e he=>h.holds e (hs.subset he),h.apart.sublist hs⟩
theorem Mem.fresh{W:World}(h:Mem C W S)(hb:Below W.heap.size W w)(he:∀g,e.has g→W.heap.size≤g∧g<w.heap.size)(hp:e.p w):Mem C w (e::S):=by
 have h':=h.below hb
 refine⟨h'.keeps,fun f hf=>?_,?_⟩
 ·rcases List.mem_cons.1 hf with rfl|hf
  ·exact⟨hp,fun k hk=>⟨(he k hk).2,.inr (Nat.le_trans h.keeps.size (he k hk).1)⟩⟩
  ·exact h'.holds f hf
 ·refine List.pairwise_cons.2 ⟨fun f hf k hk hk'=>?_,h'.apart⟩
  have:=((h.holds f hf).2 k hk').1
  have:=(he k hk).1
  omega
theorem Mem.alloc(h:Mem C w S)(o:Obj)(hg:∀k,e.has k→some w.heap.size=some k)(hp:e.p (w.alloc o)):Mem C (w.alloc o) (e::S) :=
 h.fresh (zaI (Below.refl _ _) o) (fun g hg'=>by cases hg g hg';exact⟨Nat.le_refl _,by simp⟩) hp
end
inductive Upd:List Ent→Ent→Ent→List Ent→Prop
 |here (e e':Ent) (S:List Ent):Upd (e::S) e e' (e'::S)
 |there {S S':List Ent} {e e':Ent} (f:Ent) (h:Upd S e e' S'):Upd (f::S) e e' (f::S')
theorem Upd.mem{S S':List Ent}{e e':Ent}(h:Upd S e e' S'):e∈S:=by
 induction h with
 |here=>simp
 |there f _ ih=>simp[ih]
theorem Upd.form{S S':List Ent}{e e':Ent}(h:Upd S e e' S'):∃A B,S=A++e::B∧S'=A++e'::B:=by
 induction h with
 |here e e' S=>exact⟨[],S,rfl,rfl⟩
 |there f _ ih=>obtain⟨A,B,rfl,rfl⟩:=ih;exact⟨f::A,B,rfl,rfl⟩
theorem Mem.upd{C:Ctx}{w w':World}{S S':List Ent}{e e':Ent}(h:Mem C w S)(hu:Upd S e e' S'){F:List Nat}(hk:Keeps F w w')(hF:∀g∈F,e.has g) 
  (he:∀g,e'.has g→g<w'.heap.size∧(e.has g∨w.heap.size≤g)) (hp:e'.p w'):Mem C w' S':=by
 obtain⟨A,B,rfl,rfl⟩:=hu.form
 have hap:=h.apart
 rw[List.pairwise_append,List.pairwise_cons] at hap
 obtain⟨hA,⟨hB1,hB⟩,hAB⟩:=hap
 have hfar:∀f,f∈A∨f∈B→∀g,f.has g→¬e.has g:=by
  intro f hf g hg hge
  rcases hf with hf|hf
  ·exact hAB f hf e (by simp) g hg hge
  ·exact hB1 f hf g hge hg
 have hold:∀f,f∈A∨f∈B→f.p w'∧∀g,f.has g→g<w'.heap.size∧(g∈C.F∨C.w0.heap.size≤g):=by
  intro f hf
  have hm:f∈A++e::B:=by rcases hf with hf|hf<;>simp[hf]
  obtain⟨h1,h2⟩:=h.holds f hm
  refine⟨f.loc w w' (fun g hg=>hk.block g (h2 g hg).1 fun hgF=>hfar f hf g hg (hF g hgF)) h1,fun g hg=>⟨Nat.lt_of_lt_of_le (h2 g hg).1 hk.size,(h2 g hg).2⟩⟩
 have hce:=h.holds e (by simp)
 refine⟨⟨hk.os.trans h.keeps.os,hk.tape.trans h.keeps.tape,hk.output.trans h.keeps.output,Nat.le_trans h.keeps.size hk.size,fun k hk' hF'=>?_⟩,fun f hf=>?_,?_⟩
 ·refine(hk.block k (Nat.lt_of_lt_of_le hk' h.keeps.size) fun hm=>?_).trans (h.keeps.block k hk' hF')
  rcases(hce.2 k (hF k hm)).2 with h1|h1
  ·exact hF' h1
  ·omega
 ·rcases List.mem_append.1 hf with hf|hf
  ·exact hold f (.inl hf)
  ·rcases List.mem_cons.1 hf with rfl|hf
   ·refine⟨hp,fun g hg=>⟨(he g hg).1,?_⟩⟩
    rcases(he g hg).2 with h1|h1
    ·exact(hce.2 g h1).2
    ·exact .inr (Nat.le_trans h.keeps.size h1)
   ·exact hold f (.inr hf)
 ·have ne:∀f,f∈A∨f∈B→∀g,e'.has g→¬f.has g:=by
   intro f hf g hg hfg
   rcases(he g hg).2 with h1|h1
   ·exact hfar f hf g hfg h1
   ·have hm:f∈A++e::B:=by rcases hf with hf|hf<;>simp[hf]
    have:=((h.holds f hm).2 g hfg).1
    omega
  rw[List.pairwise_append,List.pairwise_cons]
  refine⟨hA,⟨fun f hf g hg=>ne f (.inr hf) g hg,hB⟩,fun f hf k hk' g hg=>?_⟩
  rcases List.mem_cons.1 hk' with rfl|hk'
  ·exact fun h1=>ne f (.inl hf) g h1 hg
  ·exact hAB f hf k (by simp[hk']) g hg
structure At (C:Ctx) (K:Act→World→Prop) (E:zaE) (S:List Ent):Prop where
 run:∀a w,Env C.n a E→Mem C w S→K a w
structure T (P:Program) (C:Ctx) (c:Code) (Q:Exit→Act→World→Prop) (E:zaE) (S:List Ent):Prop where
 run:∀a w,Env C.n a E→Mem C w S→c.wp P Q a w
structure TL (P:Program) (C:Ctx) (l:List Oper) (Q:Exit→Act→World→Prop) (rest:List Oper) (E:zaE) (S:List Ent):Prop where
 run:∀a w,Env C.n a E→Mem C w S→wpList P l.toArray Q rest a w
section
variable {P:Program}{C:Ctx}{Q:Exit→Act→World→Prop}{E:zaE}{S:List Ent}{l rest:List Oper} 
theorem At.weak{K:Act→World→Prop}{E':zaE}{S':List Ent}(hE:SubE E E')(hS:S'.Sublist S)(h:At C K E' S'):At C K E S :=
 ⟨fun a w ha hw=>h.run a w (ha.sub hE) (hw.sub hS)⟩
theorem T_seq{x y:Code}(h:T P C x (Exit.then (fun a w=>y.wp P Q a w) Q) E S):T P C (.seq x y) Q E S:=⟨fun a w ha hw=>wp_seq (h.run a w ha hw)⟩
theorem T_block{id:Nat}{c:Code}(h:T P C c (Exit.inBlock id Q) E S):T P C (.block id c) Q E S:=⟨fun a w ha hw=>wp_block (h.run a w ha hw)⟩
theorem T_ret(h:At C (Q .ret) E S):T P C .ret Q E S:=⟨fun a w ha hw=>wp_ret (h.run a w ha hw)⟩
theorem T_skip(h:At C (Q .normal) E S):T P C .skip Q E S:=⟨fun a w ha hw=>wp_skip (h.run a w ha hw)⟩
theorem T_exit{id:Nat}(h:At C (Q (.exit id)) E S):T P C (.exit id) Q E S:=⟨fun a w ha hw=>wp_exit (h.run a w ha hw)⟩
theorem T_region{id:Nat}(h:TL P C l Q l E S):T P C (.region id l.toArray false) Q E S:=⟨fun a w ha hw=>wp_region_lit (h.run a w ha hw)⟩
theorem TL_nil(h:At C (Q .normal) E S):TL P C l Q [] E S:=⟨fun a w ha hw=>wpList_nil (h.run a w ha hw)⟩
theorem At_then{y:Code}{Q':Exit→Act→World→Prop}(h:T P C y Q E S):At C (Exit.then (fun a w=>y.wp P Q a w) Q' .normal) E S:=⟨h.run⟩
theorem zhC{K:Act→World→Prop}{id:Nat}(h:At C (Q (.exit id)) E S):At C (Exit.then K Q (.exit id)) E S:=h
theorem ziI{K:Act→World→Prop}(h:At C (Q .ret) E S):At C (Exit.then K Q .ret) E S:=h
theorem At_block{id:Nat}(h:At C (Q .normal) E S):At C (Exit.inBlock id Q .normal) E S:=h
theorem zhD{id:Nat}(h:At C (Q .ret) E S):At C (Exit.inBlock id Q .ret) E S:=h
theorem zf9{id:Nat}(h:At C (Q .normal) E S):At C (Exit.inBlock id Q (.exit id)) E S:=by
 refine⟨fun a w ha hw=>?_⟩;simp only[Exit.inBlock,if_true];exact h.run a w ha hw
theorem zga{id k:Nat}(hk:Nat.beq k id=false)(h:At C (Q (.exit k)) E S):At C (Exit.inBlock id Q (.exit k)) E S:=by
 refine⟨fun a w ha hw=>?_⟩
 have:¬k=id:=fun e=>by subst e;simp at hk
 simp only[Exit.inBlock,if_neg this];exact h.run a w ha hw
theorem T_cond{c:Operand}{x y:Code}{b:Bool}(hc:evo E c=some (.bool b))(ht:b=true→T P C x Q E S)(hf:b=false→T P C y Q E S):T P C (.cond c x y) Q E S :=
 ⟨fun a w ha hw=>wp_cond_split (ha.evo hc) (fun h=>(ht h).run a w ha hw) (fun h=>(hf h).run a w ha hw)⟩
def Rounds{X:Type}(C:Ctx)(I:X→zaE)(J:X→List Ent)(pre:X→Prop)(μ:X→Nat)(x:X)(a:Act)(w:World):Prop:=∃x',pre x'∧μ x'<μ x∧Env C.n a (I x')∧Mem C w (J x')
theorem zap{X:Type}(I:X→zaE)(J:X→List Ent)(pre:X→Prop)(μ:X→Nat){body:Code}(x0:X)(h0:pre x0)(hE:SubE E (I x0))(hS:∀w,Mem C w S→Mem C w (J x0)) 
  (hr:∀x,pre x→T P C body (Exit.then (Rounds C I J pre μ x) Q) (I x) (J x)):T P C (.loop body) Q E S:=by
 refine⟨fun a w ha hw b k cs=>?_⟩
 have key:∀n x a w,μ x=n→pre x→Env C.n a (I x)→Mem C w (J x) →
   ∃e a' w',Q e a' w'∧Arrives P (lone (b.at a (.code body::.inLoop body::k)) cs w) b k cs e a' w':=by
  intro n
  induction n using Nat.strongRecOn with
  |_ n ih =>
   intro x a w hn hp ha hw
   obtain⟨e,a₁,w₁,hq,harr⟩:=(hr x hp).run a w ha hw b (.inLoop body::k) cs
   cases e with
   |normal =>
    obtain⟨x',hp',hlt,ha',hw'⟩:=hq
    obtain⟨e₂,a₂,w₂,hq₂,harr₂⟩:=ih (μ x') (hn▸hlt) x' a₁ w₁ rfl hp' ha' hw'
    exact⟨e₂,a₂,w₂,hq₂,.of_steps (Steps.trans harr (.one step_inLoop)) harr₂⟩
   |exit id=>exact⟨_,a₁,w₁,hq,.pass (x:=.inLoop body) rfl (fun _ _=>.inl (by simp)) harr⟩
   |goto l=>exact⟨_,a₁,w₁,hq,.pass (x:=.inLoop body) rfl (fun _ _=>.inl (by simp)) harr⟩
   |ret=>exact⟨_,a₁,w₁,hq,.pass (x:=.inLoop body) rfl (fun _ _=>.inl (by simp)) harr⟩
   |panic ch=>exact⟨_,a₁,w₁,hq,.pass (x:=.inLoop body) rfl (fun _ _=>.inl (by simp)) harr⟩
   |outgrown=>exact⟨_,a₁,w₁,hq,.pass (x:=.inLoop body) rfl (fun _ _=>.inl (by simp)) harr⟩
 obtain⟨e,a',w',hq,harr⟩:=key _ x0 a w rfl h0 (ha.sub hE) (hS w hw)
 exact⟨e,a',w',hq,.of_steps (.one step_loop) harr⟩
theorem zab{X:Type}{I:X→zaE}{J:X→List Ent}{pre:X→Prop}{μ:X→Nat}{x:X}(x':X)(hp:pre x')(hμ:μ x'<μ x)(hE:SubE E (I x'))(hS:∀w,Mem C w S→Mem C w (J x')):
  At C (Exit.then (Rounds C I J pre μ x) Q .normal) E S:=⟨fun a w ha hw=>⟨x',hp,hμ,ha.sub hE,hS w hw⟩⟩
theorem At.mem{K:Act→World→Prop}{S':List Ent}(hS:∀w,Mem C w S→Mem C w S')(h:At C K E S'):At C K E S:=⟨fun a w ha hw=>h.run a w ha (hS w hw)⟩
theorem T_mem{c:Code}{S':List Ent}(hS:∀w,Mem C w S→Mem C w S')(h:T P C c Q E S'):T P C c Q E S:=⟨fun a w ha hw=>h.run a w ha (hS w hw)⟩
end
end
section
open Go.RowKit
section
variable {P:Program}{C:Ctx}{Q:Exit→Act→World→Prop}{E:zaE}{S:List Ent}{l rest:List Oper} 
variable {d ty ty2:Nat}{ps:String}{af:Array Edge} 
def ES(P:Program)(C:Ctx)(E:zaE)(S:List Ent)(o:Oper)(N:zaE→List Ent→Prop):Prop :=
 ∀(a:Act) (w:World) (K:Act→World→Prop) (Q:Exit→Act→World→Prop),Env C.n a E→Mem C w S→(∀a' w' E' S',N E' S'→Env C.n a' E'→Mem C w' S'→K a' w')→o.wp P a w K Q
theorem zan{o:Oper}{N:zaE→List Ent→Prop}(he:ES P C E S o N)(hg:o.guard=none)(h:∀E' S',N E' S'→TL P C l Q rest E' S'):TL P C l Q (o::rest) E S:=by
 refine⟨fun a w ha hw=>wpList_plain hg fun K hK=>he a w K Q ha hw fun a' w' E' S' hN ha' hw'=>hK _ _ ((h E' S' hN).run _ _ ha' hw')⟩
variable {g0:Option (Nat×Bool)} 
theorem zc3{op:Op}(Φ:Value→List Ent→Prop) 
  (hr:∀a w,Env C.n a E→Mem C w S→∃v w' S',(execOp a.eval ⟨some d,op,ty,ps,af,g0⟩).run P w=.ok (.value v) w'∧Mem C w' S'∧Φ v S')
  (hd:Nat.ble (d+1) C.n=true):ES P C E S ⟨some d,op,ty,ps,af,g0⟩ (fun E' S'=>∃v,Φ v S'∧E'=(d,v)::E):=by
 intro a w K Q ha hw hK
 obtain⟨v,w',S',h1,h2,h3⟩:=hr a w ha hw
 unfold Oper.wp
 rw[h1]
 exact hK _ _ _ _ ⟨v,h3,rfl⟩ (ha.put hd v) h2
theorem zg0{op:Op}(Φ:List Ent→Prop) 
  (hr:∀a w,Env C.n a E→Mem C w S→∃w' S',(execOp a.eval ⟨none,op,ty,ps,af,g0⟩).run P w=.ok .skip w'∧Mem C w' S'∧Φ S'):ES P C E S ⟨none,op,ty,ps,af,g0⟩ (fun E' S'=>Φ S'∧E'=E):=by
 intro a w K Q ha hw hK
 obtain⟨w',S',h1,h2,h3⟩:=hr a w ha hw
 unfold Oper.wp
 rw[h1]
 exact hK _ _ _ _ ⟨h3,rfl⟩ ha h2
theorem zie{op:Op}{f:FuncId}{args:Array Value}(Φ:Value→List Ent→Prop) 
  (hr:∀a w,Env C.n a E→(execOp a.eval ⟨some d,op,ty,ps,af,g0⟩).run P w=.ok (.enter f args) w)
  (hc:∀w,Mem C w S→Calls P f args w fun e w'=>∃v S',e=.returned v∧Mem C w' S'∧Φ v S')
  (hd:Nat.ble (d+1) C.n=true):ES P C E S ⟨some d,op,ty,ps,af,g0⟩ (fun E' S'=>∃v,Φ v S'∧E'=(d,v)::E):=by
 intro a w K Q ha hw hK
 unfold Oper.wp
 rw[hr a w ha]
 simp only[Oper.upon]
 refine(hc w hw).mono ?_
 rintro e w' ⟨v,S',rfl,h2,h3⟩
 exact hK _ _ _ _ ⟨v,h3,rfl⟩ (ha.put hd v) h2
theorem ES.weak{o:Oper}{N N':zaE→List Ent→Prop}(h:ES P C E S o N)(hN:∀E' S',N E' S'→N' E' S'):ES P C E S o N' :=
 fun a w K Q ha hw hK=>h a w K Q ha hw fun a' w' E' S' hn ha' hw'=>hK a' w' E' S' (hN E' S' hn) ha' hw'
theorem TL_pure{op:Op}(v:Value)(hr:∀a w,Env C.n a E→Mem C w S→(execOp a.eval ⟨some d,op,ty,ps,af,none⟩).run P w=.ok (.value v) w) 
  (hd:Nat.ble (d+1) C.n=true) (h:TL P C l Q rest ((d,v)::E) S):TL P C l Q (⟨some d,op,ty,ps,af,none⟩::rest) E S :=
 zan (zc3 (fun u S'=>u=v∧S'=S) (fun a w ha hw=>⟨v,w,S,hr a w ha hw,hw,rfl,rfl⟩) hd) rfl (by rintro _ _ ⟨_,⟨rfl,rfl⟩,rfl⟩;exact h)
def QS(P:Program)(C:Ctx)(E:zaE)(S:List Ent)(op:Op)(ty:Nat)(v:Value):Prop :=
 ∀(dst:Option Tmp) (ps:String) (af:Array Edge) (g:Option (Nat×Bool)) a w,Env C.n a E→Mem C w S→(execOp a.eval ⟨dst,op,ty,ps,af,g⟩).run P w=.ok (.value v) w
theorem QS.of{op:Op}{v:Value}(h:∀{dst:Option Tmp} {ps:String} {af:Array Edge} {g:Option (Nat×Bool)} a w,Env C.n a E→Mem C w S→(execOp a.eval ⟨dst,op,ty,ps,af,g⟩).run P w=.ok (.value v) w):QS P C E S op ty v :=
 fun _ _ _ _ a w ha hw=>h a w ha hw
theorem QS.sub{op:Op}{v:Value}{S':List Ent}(h:QS P C E S' op ty v)(hs:S'.Sublist S):QS P C E S op ty v :=
 fun _ _ _ _ a w ha hw=>h _ _ _ _ a w ha (hw.sub hs)
theorem zcE{op:Op}{v:Value}(hq:QS P C E S op ty v)(hd:Nat.ble (d+1) C.n=true)(h:TL P C l Q rest ((d,v)::E) S):TL P C l Q (⟨some d,op,ty,ps,af,none⟩::rest) E S :=
 TL_pure v (fun a w ha hw=>hq _ _ _ _ a w ha hw) hd h
theorem bnt{b:Bool}(h:(!b)=true):b=false:=by cases b;rfl;cases h
theorem bnf{b:Bool}(h:(!b)=false):b=true:=by cases b;cases h;rfl
theorem band_dec{p q:Prop}[Decidable p][Decidable q](h:(decide p&&decide q)=true):p∧q:=by
 rw[Bool.and_eq_true] at h;exact⟨of_decide_eq_true h.1,of_decide_eq_true h.2⟩
theorem ziJ{p q:Prop}[Decidable p][Decidable q](h:(decide p&&decide q)=false):¬p∨¬q:=by
 rw[Bool.and_eq_false_iff] at h;exact h.imp of_decide_eq_false of_decide_eq_false
theorem bor_dec{p q:Prop}[Decidable p][Decidable q](h:(decide p||decide q)=true):p∨q:=by
 rw[Bool.or_eq_true] at h;exact h.imp of_decide_eq_true of_decide_eq_true
theorem bor_decF{p q:Prop}[Decidable p][Decidable q](h:(decide p||decide q)=false):¬p∧¬q:=by
 rw[Bool.or_eq_false_iff] at h;exact⟨of_decide_eq_false h.1,of_decide_eq_false h.2⟩
/-! Guards -/
theorem imp_lit1{p:Prop}(h:p):true=true→p:=fun _=>h
theorem imp_lit0{p:Prop}:false=true→p:=fun h=>by cases h
def zdo:List Oper→Nat→Option Tmp
 |[],_=>none
 |o::_,0=>o.dst
 |_::l,i+1=>zdo l i
theorem dstAt_eq:∀(l:List Oper) (i:Nat),(l[i]?).bind (·.dst)=zdo l i
 |[],i=>by simp[zdo]
 |o::l,0=>by simp[zdo]
 |o::l,i+1=>by simpa[zdo] using dstAt_eq l i
theorem zfc{a:Act}{j t:Nat}{b:Bool}(ha:Env C.n a E)(hj:zdo l j=some t)(ht:zeG t E=some (.bool b)):yielded l.toArray a.tmps j=some b:=by
 have:=ha.2.2 t _ ht
 simp[yielded,dstAt_eq,hj,this]
theorem zgb{a:Act}{j t:Nat}(ha:Env C.n a E)(hj:zdo l j=some t)(ht:zeG t E=some undef):yielded l.toArray a.tmps j=none:=by
 have:=ha.2.2 t _ ht
 simp[yielded,dstAt_eq,hj,this,undef]
theorem TL_no{op:Op}{j t:Nat}{b want:Bool}(hj:zdo l j=some t)(ht:zeG t E=some (.bool b))(hb:b=!want)(hd:Nat.ble (d+1) C.n=true) 
  (h:TL P C l Q rest ((d,undef)::E) S):TL P C l Q (⟨some d,op,ty,ps,af,some (j,want)⟩::rest) E S:=by
 refine⟨fun a w ha hw=>?_⟩
 refine wpList_skip ?_ (h.run _ _ (ha.put hd undef) hw)
 simp only[Region.wanted,zfc ha hj ht,hb]
 cases want<;>rfl
theorem ziK{op:Op}{j t:Nat}{want:Bool}(hj:zdo l j=some t)(ht:zeG t E=some undef)(hd:Nat.ble (d+1) C.n=true) 
  (h:TL P C l Q rest ((d,undef)::E) S):TL P C l Q (⟨some d,op,ty,ps,af,some (j,want)⟩::rest) E S:=by
 refine⟨fun a w ha hw=>?_⟩
 refine wpList_skip ?_ (h.run _ _ (ha.put hd undef) hw)
 simp only[Region.wanted,zgb ha hj ht]
 rfl
theorem TL_yes{op:Op}{dst:Option Tmp}{j t:Nat}{b want:Bool}(hj:zdo l j=some t)(ht:zeG t E=some (.bool b))(hb:b=want) 
  (h:TL P C l Q (⟨dst,op,ty,ps,af,none⟩::rest) E S):TL P C l Q (⟨dst,op,ty,ps,af,some (j,want)⟩::rest) E S:=by
 refine⟨fun a w ha hw=>?_⟩
 have:=h.run a w ha hw
 unfold wpList at this ⊢
 rw[if_pos (by simp only[Region.wanted,zfc ha hj ht,hb];simp)]
 rw[if_pos (by simp[Region.wanted])] at this
 rcases this with h1|h1
 ·exact .inl h1
 ·exact .inr h1
theorem TL_guard{op:Op}{dst:Option Tmp}{j t:Nat}{b want:Bool}(hj:zdo l j=some t)(ht:zeG t E=some (.bool b)) 
  (h1:b=true→TL P C l Q (⟨dst,op,ty,ps,af,some (j,want)⟩::rest) ((t,.bool true)::E) S)
  (h0:b=false→TL P C l Q (⟨dst,op,ty,ps,af,some (j,want)⟩::rest) ((t,.bool false)::E) S):TL P C l Q (⟨dst,op,ty,ps,af,some (j,want)⟩::rest) E S:=by
 refine⟨fun a w ha hw=>?_⟩
 cases hb:b
 ·exact(h0 hb).run a w (ha.same ht (by rw[hb])) hw
 ·exact(h1 hb).run a w (ha.same ht (by rw[hb])) hw
/-! Moves, numbers, tests -/
section
variable {x y c:Operand}{v u:Value} 
theorem QS_move(hx:evo E x=some v):QS P C E S (.move x) ty (v) :=
 QS.of (fun a w ha _=>by simp[execOp,ha.evo hx])
theorem QS_assign(hx:evo E x=some v):QS P C E S (.assign x) ty (v) :=
 QS.of (fun a w ha _=>by simp[execOp,ha.evo hx])
theorem QS_pick_true{b:Bool}(hc:evo E c=some (.bool b))(hb:b=true)(hx:evo E x=some v):QS P C E S (.pick c x y) ty (v) :=
 QS.of (fun a w ha _=>by subst hb;simp[execOp,ha.evo hx,ha.evo hc,asBool,Sem.run])
theorem QS_pick_false{b:Bool}(hc:evo E c=some (.bool b))(hb:b=false)(hx:evo E y=some v):QS P C E S (.pick c x y) ty (v) :=
 QS.of (fun a w ha _=>by subst hb;simp[execOp,ha.evo hx,ha.evo hc,asBool,Sem.run])
theorem QS_not{b:Bool}(hx:evo E x=some (.bool b)):QS P C E S (.unOp .not ty2 x) ty (.bool (!b)) :=
 QS.of (fun a w ha _=>by simp[execOp,ha.evo hx,Op.unary])
variable {k:IntKind}{m n:Int}{ty3:Nat} 
theorem zcQ{dst:Option Tmp}{ps:String}{af:Array Edge}{g:Option (Nat×Bool)}{op:BinOp}{t:TypeId}{a:Act}{w:World}(ha:Env C.n a E)(hx:evo E x=some (.int k m))(hy:evo E y=some (.int k n))(r:Value) 
  (hr:(binOp op t (.int k m) (.int k n)).run P w=.ok r w):(execOp a.eval ⟨dst,.binOp op t x y ty3,ty,ps,af,g⟩).run P w=.ok (.value r) w:=by
 unfold execOp
 simp only[ha.evo hx,ha.evo hy]
 have:(eqGuard op t x y (.int k m) (.int k n)).run P w=.ok () w:=by
  unfold eqGuard
  cases op<;>rfl
 simp only[Sem.run_bind,this,Result.andThen_ok,hr]
 rfl
section
variable (hx:evo E x=some (.int k m))(hy:evo E y=some (.int k n)) 
include hx hy
theorem QS_lss:QS P C E S (.binOp .lss ty2 x y ty3) ty (.bool (decide (m<n))):=QS.of (fun a w ha _=>zcQ ha hx hy _ (by simp[binOp,Op.intCmp]))
theorem QS_leq:QS P C E S (.binOp .leq ty2 x y ty3) ty (.bool (decide (m≤n))):=QS.of (fun a w ha _=>zcQ ha hx hy _ (by simp[binOp,Op.intCmp]))
theorem QS_gtr:QS P C E S (.binOp .gtr ty2 x y ty3) ty (.bool (decide (n<m))):=QS.of (fun a w ha _=>zcQ ha hx hy _ (by simp[binOp,Op.intCmp]))
theorem QS_geq:QS P C E S (.binOp .geq ty2 x y ty3) ty (.bool (decide (n≤m))):=QS.of (fun a w ha _=>zcQ ha hx hy _ (by simp[binOp,Op.intCmp]))
theorem QS_eql:QS P C E S (.binOp .eql ty2 x y ty3) ty (.bool (decide (m=n))) :=
 QS.of (fun a w ha _=>zcQ ha hx hy _ (by simp[binOp,Op.intCmp];rfl))
theorem QS_neq:QS P C E S (.binOp .neq ty2 x y ty3) ty (.bool (!decide (m=n))) :=
 QS.of (fun a w ha _=>zcQ ha hx hy _ (by simp[binOp,Op.intCmp];rfl))
end
section
variable (hx:evo E x=some (.int .i64 m))(hy:evo E y=some (.int .i64 n)) 
include hx hy
theorem QS_add(h1:-9223372036854775808≤m+n)(h2:m+n≤9223372036854775807):QS P C E S (.binOp .add ty2 x y ty3) ty (.int .i64 (m+n)) :=
 QS.of (fun a w ha _=>zcQ ha hx hy _ (by simp[binOp,Op.intArith,IntWalk.i64_in _ ⟨h1,h2⟩]))
theorem QS_sub(h1:-9223372036854775808≤m-n)(h2:m-n≤9223372036854775807):QS P C E S (.binOp .sub ty2 x y ty3) ty (.int .i64 (m-n)) :=
 QS.of (fun a w ha _=>zcQ ha hx hy _ (by simp[binOp,Op.intArith,IntWalk.i64_in _ ⟨h1,h2⟩]))
theorem QS_mul(h1:-9223372036854775808≤m * n)(h2:m * n≤9223372036854775807):QS P C E S (.binOp .mul ty2 x y ty3) ty (.int .i64 (m * n)) :=
 QS.of (fun a w ha _=>zcQ ha hx hy _ (by simp[binOp,Op.intArith,IntWalk.i64_in _ ⟨h1,h2⟩]))
end
theorem QS_max(hx:evo E x=some (.int k m))(hy:evo E y=some (.int k n)){ats:Array TypeId}:QS P C E S (.call ⟨.builtin .max,#[x,y],ats⟩) ty (.int k (max m n)) :=
 QS.of (fun a w ha _=>by
  simp only[execOp,resolve,invoke,builtin,List.map_toArray,List.map_cons,List.map_nil,ha.evo hx,ha.evo hy,Sem.run_bind,Sem.run_pure,Result.andThen_ok,run_max_int2]
  congr 3
  simp only[Int.max_def];split<;>split<;>omega)
theorem QS_min(hx:evo E x=some (.int k m))(hy:evo E y=some (.int k n)){ats:Array TypeId}:QS P C E S (.call ⟨.builtin .min,#[x,y],ats⟩) ty (.int k (min m n)) :=
 QS.of (fun a w ha _=>by
  simp only[execOp,resolve,invoke,builtin,List.map_toArray,List.map_cons,List.map_nil,ha.evo hx,ha.evo hy,Sem.run_bind,Sem.run_pure,Result.andThen_ok,run_min_int2]
  congr 3
  simp only[Int.min_def];split<;>split<;>omega)
def nthV:List Value→Nat→Option Value
 |[],_=>none
 |v::_,0=>some v
 |_::vs,i+1=>nthV vs i
theorem zfJ:∀(vs:List Value) (i:Nat),vs[i]?=nthV vs i
 |[],i=>by simp[nthV]
 |v::vs,0=>by simp[nthV]
 |v::vs,i+1=>by simpa[nthV] using zfJ vs i
theorem QS_extract{i:Nat}{vs:List Value}(hx:evo E x=some (.tuple vs.toArray))(hi:nthV vs i=some v):QS P C E S (.extract x i) ty (v) :=
 QS.of (fun a w ha _=>by simp[execOp,ha.evo hx,Instr.extract,zfJ,hi])
theorem QS_nilCheck{ad:Addr}(hx:evo E x=some (.pointer (some ad))):QS P C E S (.nilCheck x) ty (.pointer (some ad)) :=
 QS.of (fun a w ha _=>by simp[execOp,ha.evo hx])
end
/-! Types -/
class FieldAt (P:Program) (s f:Nat) (off:outParam Nat):Prop where
 run:∀(g o:Nat) (w:World),(Instr.fieldAt s (.pointer (some ⟨g,o,none⟩)) f).run P w=.ok (.pointer (some ⟨g,o+off,none⟩)) w
class SliceOf (P:Program) (t:Nat) (e m:outParam Nat):Prop where
 und:P.underlying t=some (.slice e)
 size:∀w,(sizeOf e).run P w=.ok m w
class ArrayOf (P:Program) (t:Nat) (n e m:outParam Nat):Prop where
 und:P.underlying t=some (.array n e)
 size:∀w,(sizeOf e).run P w=.ok m w
class OneCell (P:Program) (t:Nat):Prop where
 agg:∀w,(isAgg t).run P w=.ok false w
 size:∀w,(sizeOf t).run P w=.ok 1 w
class AggOf (P:Program) (t:Nat) (m:outParam Nat):Prop where
 agg:∀w,(isAgg t).run P w=.ok true w
 size:∀w,(sizeOf t).run P w=.ok m w
class ZeroOf (P:Program) (t:Nat) (z:outParam Value):Prop where
 run:∀w,(zeroValue t).run P w=.ok z w
class MapOf (P:Program) (t:Nat) (k e:outParam Nat):Prop where
 und:P.underlying t=some (.map k e)
 key:P.underlying k=some (.int .i64)
class IntOf (P:Program) (t:Nat) (k:outParam IntKind):Prop where
 und:P.underlying t=some (.int k)
theorem zds(g o i:Nat):(⟨g,o,none⟩:Addr).add i=⟨g,o+i,none⟩:=Addr.add_mid g o i
section
variable {x y z:Operand}{v u:Value}{g o c n m e len i f off s:Nat} 
theorem QS_field{o':Nat}[FieldAt P s f off](hx:evo E x=some (.pointer (some ⟨g,o,none⟩)))(ho:o+off=o'):QS P C E S (.fieldAddr s x f) ty (.pointer (some ⟨g,o',none⟩)) :=
 QS.of (fun a w ha _=>by subst ho;simp[execOp,ha.evo hx,FieldAt.run])
theorem off_z(o m:Nat):o+0 * m=o:=by omega
theorem off_01(j:Nat):0+j * 1=j:=by omega
theorem off_0m(j m:Nat):0+j * m=j * m:=by omega
theorem off_o1(o j:Nat):o+j * 1=o+j:=by omega
theorem zeb[hs:SliceOf P s e m]{k:IntKind}{j o':Nat}(hx:evo E x=some (.slice (some ⟨g,o,none⟩) len c))(hy:evo E y=some (.int k (j:Nat)))(hj:j<len)(ho:o+j * m=o'):QS P C E S (.indexAddr s x y) ty (.pointer (some ⟨g,o',none⟩)) :=
 QS.of (fun a w ha _=>by
  have he:P.elem s=e:=by simp[Program.elem,hs.und]
  have hr:=run_indexAt_slice (P:=P) w s ⟨g,o,none⟩ len c k (j:Int) (by rw[he];exact hs.und)
  rw[if_pos ⟨by omega,by omega⟩,he,hs.size w] at hr
  simp only[Result.andThen_ok,Int.toNat_natCast,zds] at hr
  subst ho
  simp[execOp,ha.evo hx,ha.evo hy,hr])
theorem QS_indexZ[hs:SliceOf P s e m]{k:IntKind}{j:Int}{o':Nat}(hx:evo E x=some (.slice (some ⟨g,o,none⟩) len c))(hy:evo E y=some (.int k j))(h0:0≤j)(hj:j<len)(ho:o+j.toNat * m=o'):QS P C E S (.indexAddr s x y) ty (.pointer (some ⟨g,o',none⟩)) :=
 zeb (j:=j.toNat) hx (by rw[hy];congr;omega) (by omega) ho
theorem QS_indexA[hs:ArrayOf P s n e m]{k:IntKind}{j o':Nat}(hx:evo E x=some (.pointer (some ⟨g,o,none⟩)))(hy:evo E y=some (.int k (j:Nat)))(hj:j<n)(ho:o+j * m=o'):QS P C E S (.indexAddr s x y) ty (.pointer (some ⟨g,o',none⟩)) :=
 QS.of (fun a w ha _=>by
  have he:P.elem s=e:=by simp[Program.elem,hs.und]
  have hn:P.arrayLen s=n:=by simp[Program.arrayLen,hs.und]
  have hr:=run_indexAt_array (P:=P) w s ⟨g,o,none⟩ k (j:Int) (by rw[he,hn];exact hs.und)
  rw[hn,if_pos ⟨by omega,by omega⟩,he,hs.size w] at hr
  simp only[Result.andThen_ok,Int.toNat_natCast,zds] at hr
  subst ho
  simp[execOp,ha.evo hx,ha.evo hy,hr])
theorem QS_indexAZ[hs:ArrayOf P s n e m]{k:IntKind}{j:Int}{o':Nat}(hx:evo E x=some (.pointer (some ⟨g,o,none⟩)))(hy:evo E y=some (.int k j))(h0:0≤j)(hj:j<n)(ho:o+j.toNat * m=o'):QS P C E S (.indexAddr s x y) ty (.pointer (some ⟨g,o',none⟩)) :=
 QS_indexA (j:=j.toNat) hx (by rw[hy];congr;omega) (by omega) ho
class IntLit (z:Int) (n:outParam Nat):Prop where
 eq:z=n
instance : IntLit 0 0:=⟨rfl⟩
instance : IntLit 1 1:=⟨rfl⟩
instance : IntLit 2 2:=⟨rfl⟩
instance : IntLit 3 3:=⟨rfl⟩
instance : IntLit 4 4:=⟨rfl⟩
instance : IntLit 5 5:=⟨rfl⟩
instance : IntLit 6 6:=⟨rfl⟩
instance : IntLit 7 7:=⟨rfl⟩
instance : IntLit 8 8:=⟨rfl⟩
instance : IntLit 9 9:=⟨rfl⟩
instance : IntLit 10 10:=⟨rfl⟩
instance : IntLit 11 11:=⟨rfl⟩
instance : IntLit 12 12:=⟨rfl⟩
instance : IntLit 13 13:=⟨rfl⟩
instance : IntLit 14 14:=⟨rfl⟩
instance : IntLit 15 15:=⟨rfl⟩
instance : IntLit 16 16:=⟨rfl⟩
theorem QS_indexL[hs:SliceOf P s e m]{k:IntKind}{j:Int}{jn o':Nat}(hx:evo E x=some (.slice (some ⟨g,o,none⟩) len c))(hy:evo E y=some (.int k j))(hn:IntLit j jn)(hj:jn<len)(ho:o+jn * m=o'):QS P C E S (.indexAddr s x y) ty (.pointer (some ⟨g,o',none⟩)) :=
 zeb (j:=jn) hx (by rw[hy,hn.eq]) hj ho
theorem QS_len[hs:SliceOf P s e m]{A:Option Addr}(hx:evo E x=some (.slice A len c)):QS P C E S (.call ⟨.builtin .len,#[x],#[s]⟩) ty (.int .i64 len) :=
 QS.of (fun a w ha _=>by
  have he:P.elem s=e:=by simp[Program.elem,hs.und]
  have hr:=run_len_slice (P:=P) w s ty A len c (by rw[he];exact hs.und)
  simp[execOp,resolve,invoke,builtin,ha.evo hx,hr,goInt])
/-! Loads and stores -/
def Lds(P:Program)(C:Ctx)(S:List Ent)(t:Nat)(ad:Addr)(v:Value):Prop:=∀w,Mem C w S→(loadVar t ad).run P w=.ok v w
theorem za1{ad:Addr}(hx:evo E x=some (.pointer (some ad)))(hl:Lds P C S s ad v):QS P C E S (.load s x) ty (v) :=
 QS.of (fun a w ha hw=>by simp[execOp,ha.evo hx,Instr.loadAt,Instr.sureAddr,hl w hw])
theorem Lds.one[hs:OneCell P s]{ad:Addr}(h:∀w,Mem C w S→w.cell? ad=some v):Lds P C S s ad v:=fun w hw=>by
 simp[loadVar,hs.agg w,Sem.run,load,h w hw]
theorem Lds.agg[hs:AggOf P s m]{cs:List Value}(hlen:cs.length=m)(h:∀w,Mem C w S→∀j u,cs[j]?=some u→w.cell? ⟨g,o+j,none⟩=some u):Lds P C S s ⟨g,o,none⟩ (.agg cs.toArray):=fun w hw=>by
 have:=run_loadCells_list (P:=P) (w:=w) ⟨g,o,none⟩ cs (fun j u hu=>by rw[zds];exact h w hw j u hu)
 simp[loadVar,hs.agg w,hs.size w,←hlen,this]
end
end
end
section
open Go.RowKit
def zak(g t:Nat)(cs:Array Value):Ent:=⟨fun k=>some g=some k,[g],fun k=>by simp[eq_comm],fun w=>Blk w g t cs,fun _ _ h hp=>(h g rfl).trans hp⟩
def zac{α:Type}(enc:α→List Value)(M e:Nat)(A:Option Addr)(c:Nat)(l:List α):Ent :=
 ⟨fun k=>(Value.slice A l.length c).ownBlock=some k,(Value.slice A l.length c).ownBlock.toList,fun k=>by simp[Option.mem_toList],fun w=>Own enc M e w 0 (.slice A l.length c) l,fun w w' h hp=>by
  refine⟨hp.1,?_⟩
  rcases hp.2 with hn|⟨g,cap,cur,hv,hbb,hg,rest⟩
  ·exact .inl hn
  ·refine .inr ⟨g,cap,cur,hv,hbb,(h g ?_).trans hg,rest⟩
   rw[hv];rfl⟩
theorem Own.base{α:Type}{enc:α→List Value}{M e:Nat}{w:World}{B:Nat}{v:Value}{l:List α}(h:Own enc M e w B v l):Own enc M e w 0 v l:=by
 refine⟨h.1,?_⟩
 rcases h.2 with hn|⟨g,cap,cur,hv,hbb,rest⟩
 ·exact .inl hn
 ·exact .inr ⟨g,cap,cur,hv,Nat.zero_le _,rest⟩
theorem Own.form{α:Type}{enc:α→List Value}{M e:Nat}{w:World}{B:Nat}{v:Value}{l:List α}(h:Own enc M e w B v l):∃A c,v=.slice A l.length c:=by
 rcases h.2 with⟨hv,hn⟩|⟨g,cap,cur,hv,_⟩
 ·exact⟨none,0,by rw[hv,hn]⟩
 ·exact⟨_,_,hv⟩
section
variable {P:Program}{C:Ctx}{Q:Exit→Act→World→Prop}{E:zaE}{S S':List Ent}{l rest:List Oper} 
variable {d ty ty2:Nat}{ps:String}{af:Array Edge}{g0:Option (Nat×Bool)} 
variable {x y z:Operand}{v u:Value}{g o c n m e len i f off s t:Nat}{cs cs':Array Value} 
theorem zfw(n:Int)(f:Nat→Nat):(zat n f).toList.all (·.oneCell')=true:=by
 have:=zhy n f
 simpa using this
/-! Reading -/
theorem Lds.blk[OneCell P s](hm:zak g t cs∈S)(hc:nthV cs.toList o=some v):Lds P C S s ⟨g,o,none⟩ v :=
 Lds.one fun w hw=>((hw.holds _ hm).1:Blk w g t cs).cell o |>.trans (by rw[←hc,←zfJ];simp)
theorem relCells_nV(n:Int)(f:Nat→Nat):nthV (zat n f).toList 0=some (.int .i64 n):=by rw[←zfJ];simpa using zgU n f
theorem relCells_atV(n:Int)(f:Nat→Nat)(i:Nat)(h:i<12):nthV (zat n f).toList (1+i)=some (.int .u16 (f i)):=by rw[←zfJ];simpa using zcx n f i h
theorem Lds.whole[hs:AggOf P s m](hm:zak g t cs∈S)(hc:cs.size=m):Lds P C S s ⟨g,0,none⟩ (.agg cs):=by
 have:=Lds.agg (P:=P) (C:=C) (S:=S) (s:=s) (g:=g) (o:=0) (cs:=cs.toList) (by simpa using hc) (fun w hw j u hu=>by
  have hb:Blk w g t cs:=(hw.holds _ hm).1
  rw[hb.cell]
  simpa using hu)
 simpa using this
theorem Lds.mid[hs:AggOf P s m]{us:List Value}(hm:zak g t cs∈S)(hc:(cs.toList.drop o).take m=us)(hl:us.length=m):Lds P C S s ⟨g,o,none⟩ (.agg us.toArray):=by
 refine Lds.agg hl (fun w hw j u hu=>?_)
 have hb:Blk w g t cs:=(hw.holds _ hm).1
 rw[hb.cell]
 have hj:j<m:=by rw[←hl];exact(List.getElem?_eq_some_iff.1 hu).1
 rw[←hc,List.getElem?_take,if_pos hj,List.getElem?_drop] at hu
 simpa using hu
section
variable {α:Type}{enc:α→List Value}{M:Nat}{ls:List α}{A:Option Addr}{j:Nat} 
theorem Own.cellAt{w:World}(h:Own enc M e w 0 (.slice (some ⟨g,0,none⟩) ls.length c) ls)(hM:∀x,(enc x).length=M)(hj:j<ls.length)(hv:(enc ls[j])[off]?=some v):w.cell? ⟨g,j * M+off,none⟩=some v:=by
 obtain⟨g',c',hv',_,_,hc,_⟩:=h.at_ hM j hj
 simp only[Value.slice.injEq,Option.some.injEq,Addr.mk.injEq,and_true,true_and] at hv'
 obtain⟨rfl,rfl⟩:=hv'
 exact hc off v hv
theorem zb1{code:Code}(hm:zac enc M e A c ls∈S)(hl:0<ls.length)(h:∀g,A=some ⟨g,0,none⟩→T P C code Q E S):T P C code Q E S :=
 ⟨fun a w ha hw=>by
  have ho:Own enc M e w 0 (.slice A ls.length c) ls:=(hw.holds _ hm).1
  rcases ho.2 with⟨hn,h0⟩|⟨g,cap,cur,hv,_⟩
  ·omega
  ·simp only[Value.slice.injEq] at hv
   exact(h g hv.1).run a w ha hw⟩
theorem Lds.own[OneCell P s](hm:zac enc M e (some ⟨g,0,none⟩) c ls∈S)(hM:∀x,(enc x).length=M)(hj:j<ls.length)(hv:(enc ls[j])[off]?=some v):Lds P C S s ⟨g,j * M+off,none⟩ v :=
 Lds.one fun w hw=>by exact Own.cellAt (hw.holds _ hm).1 hM hj hv
theorem Lds.own0[OneCell P s](hm:zac enc M e (some ⟨g,0,none⟩) c ls∈S)(hM:∀x,(enc x).length=M)(hj:j<ls.length)(hv:(enc ls[j])[0]?=some v):Lds P C S s ⟨g,j * M,none⟩ v :=
 Lds.one fun w hw=>by have:=Own.cellAt (hw.holds _ hm).1 hM hj hv;simpa using this
theorem Lds.ownAgg[AggOf P s M](hm:zac enc M e (some ⟨g,0,none⟩) c ls∈S)(hM:∀x,(enc x).length=M)(hj:j<ls.length):Lds P C S s ⟨g,j * M,none⟩ (.agg (enc ls[j]).toArray) :=
 Lds.agg (hM _) fun w hw k u hu=>by exact Own.cellAt (hw.holds _ hm).1 hM hj hu
theorem Lds.own1[OneCell P s](hm:zac enc 1 e (some ⟨g,0,none⟩) c ls∈S)(hM:∀x,(enc x).length=1)(hj:j<ls.length)(hv:(enc ls[j])[0]?=some v):Lds P C S s ⟨g,j,none⟩ v :=
 Lds.one fun w hw=>by have:=Own.cellAt (hw.holds _ hm).1 hM hj hv;simpa using this
/-! what the call was handed -/
theorem Mem.old{w:World}(h:Mem C w S){b k:Nat}{v:Value}(hb:b<C.w0.heap.size)(hF:b∉C.F)(hc:C.w0.cell? ⟨b,k,none⟩=some v):w.cell? ⟨b,k,none⟩=some v :=
 (World.cell?_of_block (h.keeps.block b hb hF)).trans hc
theorem RdE.cellAt{w:World}(h:RdE enc M w (some ⟨g,o,none⟩) ls)(hj:j<ls.length)(hv:(enc ls[j])[off]?=some v):g<w.heap.size∧w.cell? ⟨g,o+j * M+off,none⟩=some v:=by
 obtain⟨b,o',h1,h2,h3⟩:=h j ls[j] (by simp[hj])
 simp only[Option.some.injEq,Addr.mk.injEq,and_true] at h1
 obtain⟨rfl,rfl⟩:=h1
 exact⟨h2,h3 off v hv⟩
theorem RdE.open{w:World}(h:RdE enc M w A ls)(hl:0<ls.length):∃b o,A=some ⟨b,o,none⟩∧b<w.heap.size:=by
 obtain⟨b,o',h1,h2,h3⟩:=h 0 ls[0] (by simp[hl])
 exact⟨b,o',h1,h2⟩
theorem Lds.rd[OneCell P s](h:RdE enc M C.w0 (some ⟨g,o,none⟩) ls)(hF:g∉C.F)(hj:j<ls.length)(hv:(enc ls[j])[off]?=some v):Lds P C S s ⟨g,o+j * M+off,none⟩ v :=
 Lds.one fun w hw=>hw.old (h.cellAt hj hv).1 hF (h.cellAt hj hv).2
theorem Lds.rd0[OneCell P s](h:RdE enc M C.w0 (some ⟨g,o,none⟩) ls)(hF:g∉C.F)(hj:j<ls.length)(hv:(enc ls[j])[0]?=some v):Lds P C S s ⟨g,o+j * M,none⟩ v :=
 Lds.rd (off:=0) h hF hj hv
theorem Lds.rd1[OneCell P s](h:RdE enc 1 C.w0 (some ⟨g,o,none⟩) ls)(hF:g∉C.F)(hj:j<ls.length)(hv:(enc ls[j])[0]?=some v):Lds P C S s ⟨g,o+j,none⟩ v:=by
 have:=Lds.rd (P:=P) (S:=S) (s:=s) (off:=0) h hF hj hv
 simpa using this
theorem Lds.rdAgg[AggOf P s M](h:RdE enc M C.w0 (some ⟨g,o,none⟩) ls)(hM:∀x,(enc x).length=M)(hF:g∉C.F)(hj:j<ls.length):Lds P C S s ⟨g,o+j * M,none⟩ (.agg (enc ls[j]).toArray) :=
 Lds.agg (hM _) fun w hw k u hu=>hw.old (h.cellAt hj hu).1 hF (h.cellAt hj hu).2
theorem Lds.rdz[OneCell P s](h:RdE enc M C.w0 (some ⟨g,o,none⟩) ls)(hF:g∉C.F)(hj:0<ls.length)(hv:(enc ls[0])[0]?=some v):Lds P C S s ⟨g,o,none⟩ v:=by
 have:=Lds.rd (P:=P) (S:=S) (s:=s) (j:=0) (off:=0) h hF hj hv
 simpa using this
/-! Making -/
theorem zgc(cs:Array Value):(Value.agg cs).cells=cs:=rfl
theorem ES_alloc[hz:ZeroOf P t v](hcs:v.cells=cs)(hd:Nat.ble (d+1) C.n=true):ES P C E S ⟨some d,.alloc t,ty,ps,af,g0⟩ (fun E' S'=>∃g,E'=(d,.pointer (some ⟨g,0,none⟩))::E∧S'=zak g t cs::S):=by
 refine(zc3 (fun u S'=>∃g,u=.pointer (some ⟨g,0,none⟩)∧S'=zak g t cs::S) (fun a w ha hw=>?_) hd).weak (by rintro _ _ ⟨_,⟨g,rfl,rfl⟩,rfl⟩;exact⟨g,rfl,rfl⟩)
 refine⟨_,_,_,?_,hw.alloc (.cells cs t) (e:=zak w.heap.size t cs) (fun _ h=>h) (Blk.new _ _ _),_,rfl,rfl⟩
 simp[execOp,Instr.alloc,hz.run w,newVar,newRow,hcs]
theorem ES_box(hx:evo E x=some v)(hcs:v.cells=cs)(hd:Nat.ble (d+1) C.n=true):ES P C E S ⟨some d,.box t x,ty,ps,af,g0⟩ (fun E' S'=>∃g,E'=(d,.pointer (some ⟨g,0,none⟩))::E∧S'=zak g t cs::S):=by
 refine(zc3 (fun u S'=>∃g,u=.pointer (some ⟨g,0,none⟩)∧S'=zak g t cs::S) (fun a w ha hw=>?_) hd).weak (by rintro _ _ ⟨_,⟨g,rfl,rfl⟩,rfl⟩;exact⟨g,rfl,rfl⟩)
 refine⟨_,_,_,?_,hw.alloc (.cells cs t) (e:=zak w.heap.size t cs) (fun _ h=>h) (Blk.new _ _ _),_,rfl,rfl⟩
 simp[execOp,Instr.box,ha.evo hx,newVar,newRow,hcs]
/-! a literal: its parts -/
def ziL(E:zaE):List (Nat×Operand)→Option (List (Nat×Value))
 |[]=>some []
 |(i,x)::r=>match evo E x,ziL E r with
  |some v,some vs=>some ((i,v)::vs)
  |_,_=>none
theorem partsOf_eq{a:Act}(ha:Env C.n a E):∀{ps:List (Nat×Operand)} {vs},ziL E ps=some vs→ps.map (fun(i,x)=>(i,a.eval x))=vs
 |[],vs,h=>by cases h;rfl
 |(i,x)::r,vs,h=>by
  simp only[ziL] at h
  split at h
  ·rename_i v us hx hr
   cases h
   simp[ha.evo hx,partsOf_eq ha hr]
  ·cases h
theorem QS_build{parts:List (Nat×Operand)}{vs:List (Nat×Value)}(hp:ziL E parts=some vs)(hb:P.built t vs=some cs):QS P C E S (.build t parts.toArray) ty (.agg cs) :=
 QS.of (fun a w ha _=>by
  have h1:=partsOf_eq ha hp
  have:=run_build (P:=P) w t (parts.toArray.map fun(i,x)=>(i,a.eval x)) cs (by simpa[h1] using hb)
  simp only[execOp,this,Sem.run_bind,Result.andThen_ok];rfl)
def zgd(E:zaE):Nat→List (Nat×Operand)→Option (List Value)
 |_,[]=>some []
 |k,(i,x)::r=>match Nat.beq i k,evo E x,zgd E (k+1) r with
  |true,some v,some vs=>some (v::vs)
  |_,_,_=>none
def seqV:Nat→List Value→List (Nat×Value)
 |_,[]=>[]
 |k,v::vs=>(k,v)::seqV (k+1) vs
theorem ziM{a:Act}(ha:Env C.n a E):∀{k:Nat} {ps:List (Nat×Operand)} {vs},zgd E k ps=some vs→ps.map (fun(i,x)=>(i,a.eval x))=seqV k vs∧ps.length=vs.length
 |k,[],vs,h=>by cases h;exact⟨rfl,rfl⟩
 |k,(i,x)::r,vs,h=>by
  simp only[zgd] at h
  split at h
  ·rename_i hb v us hi hx hr
   cases h
   have:=Nat.eq_of_beq_eq_true hi
   subst this
   obtain⟨h1,h2⟩:=ziM ha hr
   simp[ha.evo hx,h1,h2,seqV]
  ·cases h
def cellsOf:List Value→List Value
 |[]=>[]
 |v::vs=>v.cells.toList++cellsOf vs
def ziN(m:Nat):List Value→Bool
 |[]=>true
 |v::vs=>Nat.beq v.cells.size m&&ziN m vs
theorem zdL(v:Array Value):∀(l:List Value) (off j0:Nat) (cs:List Value),off+j0+l.length≤cs.length →
  ((l.zipIdx j0).foldl (fun(cs:Array Value) (p:Value×Nat)=>cs.setIfInBounds (off+p.2) p.1) cs.toArray)=(cs.take (off+j0)++l++cs.drop (off+j0+l.length)).toArray
 |[],off,j0,cs,h=>by simp
 |u::l,off,j0,cs,h=>by
  simp only[List.zipIdx_cons,List.foldl_cons,List.setIfInBounds_toArray]
  have hlen:(cs.set (off+j0) u).length=cs.length:=by simp
  rw[zdL v l off (j0+1) (cs.set (off+j0) u) (by rw[hlen];simp at h;omega)]
  congr 1
  simp only[List.length_cons] at h ⊢
  have h1:(cs.set (off+j0) u).take (off+(j0+1))=cs.take (off+j0)++[u]:=by
   rw[show off+(j0+1)=off+j0+1 by omega,List.take_succ_eq_append_getElem (by simp;omega)]
   rw[List.take_set_of_le (by omega)]
   simp
  have h2:(cs.set (off+j0) u).drop (off+(j0+1)+l.length)=cs.drop (off+j0+(l.length+1)):=by
   rw[List.drop_set_of_lt (by omega)]
   congr 1
   omega
  rw[h1,h2]
  simp
theorem fill_seq(m:Nat):∀(vs:List Value) (k:Nat) (cs:List Value),ziN m vs=true→cs.length=(k+vs.length) * m →
  Instr.fill (fun i=>some (i * m,m)) cs.toArray (seqV k vs)=some (cs.take (k * m)++cellsOf vs).toArray
 |[],k,cs,_,hl=>by
  simp only[seqV,Instr.fill,cellsOf,List.append_nil]
  rw[List.take_of_length_le (by simp at hl;omega)]
 |v::vs,k,cs,hs,hl=>by
  simp only[ziN,Bool.and_eq_true] at hs
  have hv:=Nat.eq_of_beq_eq_true hs.1
  simp only[List.length_cons] at hl
  have hle:k * m+m≤cs.length:=by
   rw[hl,Nat.add_mul,Nat.add_mul];omega
  simp only[seqV,Instr.fill]
  have hn:¬(v.cells.size≠m∨cs.toArray.size<k * m+v.cells.size):=by simp[hv];omega
  have hcond:(decide (v.cells.size≠m)||decide (k * m+v.cells.size > cs.toArray.size))=false:=by
   rw[Bool.eq_false_iff];intro h;simp only[Bool.or_eq_true,decide_eq_true_eq] at h;exact hn h
  rw[if_neg (by rw[hcond];exact Bool.false_ne_true)]
  have hz:v.cells.zipIdx=(v.cells.toList.zipIdx).toArray:=by rw[←Array.toList_zipIdx,Array.toArray_toList]
  have hf:=zdL v.cells v.cells.toList (k * m) 0 cs (by simp[hv];omega)
  have e:(v.cells.zipIdx.foldl (fun cs (x:Value×Nat)=>match x with|(c,j)=>cs.setIfInBounds (k * m+j) c) cs.toArray)=(cs.take (k * m)++v.cells.toList++cs.drop (k * m+m)).toArray:=by
   rw[hz,List.foldl_toArray]
   simpa[hv] using hf
  have hq0:(k+(vs.length+1)) * m=k * m+m+vs.length * m:=by rw[Nat.add_mul,Nat.add_mul,Nat.one_mul];omega
  have hq1:(k+1+vs.length) * m=k * m+m+vs.length * m:=by rw[Nat.add_mul,Nat.add_mul,Nat.one_mul]
  rw[e,fill_seq m vs (k+1) _ hs.2 (by simp only[List.length_append,List.length_take,List.length_drop,Array.length_toList,hv];omega)]
  congr 2
  simp only[cellsOf]
  have h3:((cs.take (k * m)++v.cells.toList++cs.drop (k * m+m)).take ((k+1) * m))=cs.take (k * m)++v.cells.toList:=by
   have hq:(k+1) * m=k * m+m:=by rw[Nat.add_mul,Nat.one_mul]
   have hq2:(cs.take (k * m)++v.cells.toList).length=k * m+m:=by simp[hv];omega
   rw[List.take_append_of_le_length (by omega),List.take_of_length_le (by omega)]
  rw[h3]
  simp
theorem ES_buildSlice[hs:SliceOf P t e m][hz:ZeroOf P e u]{parts:List (Nat×Operand)}{vs:List Value}(hp:zgd E 0 parts=some vs)(hln:vs.length=len)(hsm:Nat.ble (len * m) 16777216=true)(hlm:(Nat.beq (len * m) 0)=false)(hok:ziN m vs=true)(hd:Nat.ble (d+1) C.n=true):ES P C E S ⟨some d,.buildSlice t len parts.toArray,ty,ps,af,g0⟩ (fun E' S'=>∃g,E'=(d,.slice (some ⟨g,0,none⟩) len len)::E∧S'=zak g e (cellsOf vs).toArray::S):=by
 refine(zc3 (fun u S'=>∃g,u=.slice (some ⟨g,0,none⟩) len len∧S'=zak g e (cellsOf vs).toArray::S) (fun a w ha hw=>?_) hd).weak (by rintro _ _ ⟨_,⟨g,rfl,rfl⟩,rfl⟩;exact⟨g,rfl,rfl⟩)
 refine⟨_,_,_,?_,hw.alloc (.cells (cellsOf vs).toArray e) (e:=zak w.heap.size e (cellsOf vs).toArray) (fun _ h=>h) (Blk.new _ _ _),_,rfl,rfl⟩
 have h1:=(ziM ha hp).1
 have h2:(parts.toArray.map fun(i,x)=>(i,a.eval x)).toList=seqV 0 vs:=by simpa using h1
 have n1:¬16777216<len * m:=by have:=Nat.le_of_ble_eq_true hsm;omega
 have hlm':¬len * m=0:=fun e=>by rw[e] at hlm;cases hlm
 have hf:Instr.fill (fun i=>some (i * m,m)) ((Array.range (len * m)).map (u.cells[· % u.cells.size]!)) (seqV 0 vs)=some (cellsOf vs).toArray:=by
  have:=fill_seq m vs 0 ((Array.range (len * m)).map (u.cells[· % u.cells.size]!)).toList hok (by simp[hln])
  rw[Array.toArray_toList] at this
  simpa using this
 simp only[execOp,Instr.buildSlice,h2,run_underlying hs.und,hs.size w,Sem.run_bind,Result.andThen_ok,hz.run w]
 simp[n1,hlm',hz.run w,hf,newRow]
/-! Writing -/
theorem zet{w:World}[hs:OneCell P s](hb:Blk w g t cs)(ho:o<cs.size)(h1:v.oneCell'=true):(storeVar s ⟨g,o,none⟩ v).run P w=.ok () (w.setCell ⟨g,o,none⟩ v):=by
 have hc:w.cell? ⟨g,o,none⟩=some cs[o]:=by rw[hb.cell];simp[ho]
 have hf:=hb.frozen o
 have hv:v.cells=#[v]:=by cases v<;>first|rfl|(simp[Value.oneCell'] at h1)
 have hst:=run_store P w ⟨g,o,none⟩ v .plain h1
 simp[storeVar,hv,hs.size w,storeCells,zds,hst,stored,hc,hf]
theorem Keeps.setCell(w:World)(g o:Nat)(v:Value):Keeps [g] w (w.setCell ⟨g,o,none⟩ v) :=
 ⟨rfl,rfl,rfl,by simp,fun k _ hk=>Below.heap_setCell w ⟨g,o,none⟩ v k (by simpa using hk)⟩
theorem zcW[hs:OneCell P s](hx:evo E x=some (.pointer (some ⟨g,o,none⟩)))(hy:evo E y=some v)(hu:Upd S (zak g t cs) (zak g t cs') S')(hcs:cs.setIfInBounds o v=cs')(ho:o<cs.size)(h1:v.oneCell'=true):
  ES P C E S ⟨none,.store s x y,ty,ps,af,g0⟩ (fun E' T=>E'=E∧T=S'):=by
 refine(zg0 (fun T=>T=S') (fun a w ha hw=>?_)).weak (by rintro _ _ ⟨rfl,rfl⟩;exact⟨rfl,rfl⟩)
 have hb:Blk w g t cs:=(hw.holds _ hu.mem).1
 refine⟨w.setCell ⟨g,o,none⟩ v,S',by simp[execOp,ha.evo hx,ha.evo hy,Instr.storeAt,Instr.sureAddr,zet (P:=P) (s:=s) hb ho h1],?_,rfl⟩
 subst hcs
 exact hw.upd hu (Keeps.setCell w g o v) (by simp[zak]) (fun k hk=>⟨by cases hk;simpa using hb.lt,.inl hk⟩) (hb.set_ o v)
theorem Keeps.setRow(w:World)(g:Nat)(cs:Array Value):Keeps [g] w (w.setRow g cs) :=
 ⟨rfl,rfl,rfl,by simp,fun k _ hk=>setRow_other w g k cs (by simpa using hk)⟩
theorem zge[hs:AggOf P s m](hx:evo E x=some (.pointer (some ⟨g,0,none⟩)))(hy:evo E y=some (.agg cs'))(hu:Upd S (zak g t cs) (zak g t cs') S')(hc:cs.size=m)(hc':cs'.size=m)(h1:cs'.toList.all (·.oneCell')=true):
  ES P C E S ⟨none,.store s x y,ty,ps,af,g0⟩ (fun E' T=>E'=E∧T=S'):=by
 refine(zg0 (fun T=>T=S') (fun a w ha hw=>?_)).weak (by rintro _ _ ⟨rfl,rfl⟩;exact⟨rfl,rfl⟩)
 have hb:Blk w g t cs:=(hw.holds _ hu.mem).1
 have hst:=run_storeCells_from (P:=P) g t cs'.toList 0 cs w hb (by simp[hc,hc']) (fun v hv=>List.all_eq_true.1 h1 v hv)
 refine⟨w.setRow g cs',S',?_,?_,rfl⟩
 ·simp[execOp,ha.evo hx,ha.evo hy,Instr.storeAt,Instr.sureAddr,storeVar,hs.size w,hc',Value.cells,hst]
 ·exact hw.upd hu (Keeps.setRow w g cs') (by simp[zak]) (fun k hk=>⟨by cases hk;simpa using hb.lt,.inl hk⟩) (hb.row cs')
theorem za2[hs:OneCell P s]{xx x0:α}(hx:evo E x=some (.pointer (some ⟨g,j * M+off,none⟩)))(hy:evo E y=some v) 
  (hu:Upd S (zac enc M e (some ⟨g,0,none⟩) c ls) (zac enc M e (some ⟨g,0,none⟩) c (ls.set j xx)) S') (hM:∀x,(enc x).length=M) (hx0:ls[j]?=some x0) (hoff:off<M) (he:enc xx=(enc x0).set off v) (h1:v.oneCell'=true) :
  ES P C E S ⟨none,.store s x y,ty,ps,af,g0⟩ (fun E' T=>E'=E∧T=S'):=by
 refine(zg0 (fun T=>T=S') (fun a w ha hw=>?_)).weak (by rintro _ _ ⟨rfl,rfl⟩;exact⟨rfl,rfl⟩)
 obtain⟨hj,hjx⟩:=List.getElem?_eq_some_iff.1 hx0
 subst hjx
 have ho:Own enc M e w 0 (.slice (some ⟨g,0,none⟩) ls.length c) ls:=(hw.holds _ hu.mem).1
 obtain⟨g',cap,cur,hv,hbb,hg,hnc,hcm,hcs,htake⟩:=ho.2.resolve_left (by simp)
 simp only[Value.slice.injEq,Option.some.injEq,Addr.mk.injEq,and_true,true_and] at hv
 obtain⟨rfl,rfl⟩:=hv
 have hin:j * M+off<cur.size:=by
  rw[hcs]
  have:j * M+M≤ls.length * M:=by rw[←Nat.succ_mul];exact Nat.mul_le_mul_right _ hj
  have:ls.length * M≤c * M:=Nat.mul_le_mul_right _ hnc
  omega
 refine⟨w.setCell ⟨g,j * M+off,none⟩ v,S',?_,?_,rfl⟩
 ·have:=zet (P:=P) (s:=s) (v:=v) (show Blk w g e cur from hg) hin h1
  simp[execOp,ha.evo hx,ha.evo hy,Instr.storeAt,Instr.sureAddr,this]
 ·refine hw.upd hu (Keeps.setCell w g _ v) (by simp[zac,Value.ownBlock]) (fun k hk=>?_) ?_
  ·have hk':some g=some k:=hk
   cases hk'
   exact⟨by simpa using(Array.getElem?_eq_some_iff.1 hg).1,.inl rfl⟩
  ·have:=ho.set_ hM j hj off hoff v xx he rfl
   simpa[zac] using this
theorem zeK[hs:OneCell P s]{xx x0:α}(hx:evo E x=some (.pointer (some ⟨g,j * M,none⟩)))(hy:evo E y=some v) 
  (hu:Upd S (zac enc M e (some ⟨g,0,none⟩) c ls) (zac enc M e (some ⟨g,0,none⟩) c (ls.set j xx)) S') (hM:∀x,(enc x).length=M) (hx0:ls[j]?=some x0) (hoff:0<M) (he:enc xx=(enc x0).set 0 v) (h1:v.oneCell'=true) :
  ES P C E S ⟨none,.store s x y,ty,ps,af,g0⟩ (fun E' T=>E'=E∧T=S') :=
 za2 (off:=0) hx hy hu hM hx0 hoff he h1
theorem zdt[hs:OneCell P s]{xx x0:α}(hx:evo E x=some (.pointer (some ⟨g,j,none⟩)))(hy:evo E y=some v) 
  (hu:Upd S (zac enc 1 e (some ⟨g,0,none⟩) c ls) (zac enc 1 e (some ⟨g,0,none⟩) c (ls.set j xx)) S') (hM:∀x,(enc x).length=1) (hx0:ls[j]?=some x0) (he:enc xx=(enc x0).set 0 v) (h1:v.oneCell'=true) :
  ES P C E S ⟨none,.store s x y,ty,ps,af,g0⟩ (fun E' T=>E'=E∧T=S') :=
 zeK (M:=1) (by rw[hx];simp) hy hu hM hx0 (by omega) he h1
end
/-! Calls -/
class IsFn (P:Program) (f:Nat):Prop where
 run:∀args w,(callFunc f args).run P w=.ok (.enter f args) w
def evs(E:zaE):List Operand→Option (List Value)
 |[]=>some []
 |x::r=>match evo E x,evs E r with
  |some v,some vs=>some (v::vs)
  |_,_=>none
theorem evs_eq{a:Act}(ha:Env C.n a E):∀{xs:List Operand} {vs},evs E xs=some vs→xs.map a.eval=vs
 |[],vs,h=>by cases h;rfl
 |x::r,vs,h=>by
  simp only[evs] at h
  split at h
  ·rename_i v us hx hr
   cases h
   simp[ha.evo hx,evs_eq ha hr]
  ·cases h
theorem ziO[hf:IsFn P f]{xs:List Operand}{vs:List Value}{ats:Array TypeId}(Φ:Value→List Ent→Prop)(hx:evs E xs=some vs) 
  (hc:∀w,Mem C w S→Calls P f vs.toArray w fun e w'=>∃v S',e=.returned v∧Mem C w' S'∧Φ v S') (hd:Nat.ble (d+1) C.n=true) :
  ES P C E S ⟨some d,.call ⟨.value (.func f),xs.toArray,ats⟩,ty,ps,af,g0⟩ (fun E' S'=>∃v,Φ v S'∧E'=(d,v)::E) :=
 zie Φ (fun a w ha=>by
  rw[execOp_call_go]
  have:=evs_eq ha hx
  simp[hf.run,this]) hc hd
theorem zad[hf:IsFn P f]{xs:List Operand}{vs:List Value}{ats:Array TypeId}(hx:evs E xs=some vs) 
  (hc:∀w,Mem C w S→Calls P f vs.toArray w fun e w'=>e=.returned v∧Below w.heap.size w w') (hd:Nat.ble (d+1) C.n=true) :
  ES P C E S ⟨some d,.call ⟨.value (.func f),xs.toArray,ats⟩,ty,ps,af,g0⟩ (fun E' S'=>E'=(d,v)::E∧S'=S) :=
 (ziO (fun u T=>u=v∧T=S) hx (fun w hw=>(hc w hw).mono fun e w' ⟨he,hb⟩=>⟨v,S,he,hw.below hb,rfl,rfl⟩) hd).weak (by rintro _ _ ⟨_,⟨rfl,rfl⟩,rfl⟩;exact⟨rfl,rfl⟩)
theorem zal[hf:IsFn P f]{α:Type}{enc:α→List Value}{M et:Nat}{ls:List α}{xs:List Operand}{vs:List Value}{ats:Array TypeId}{r:Option Addr→Nat→Value}(hx:evs E xs=some vs) 
  (hc:∀w,Mem C w S→Calls P f vs.toArray w fun e w'=>∃A c,e=.returned (r A c)∧Own enc M et w' w.heap.size (.slice A ls.length c) ls∧Below w.heap.size w w') (hd:Nat.ble (d+1) C.n=true) :
  ES P C E S ⟨some d,.call ⟨.value (.func f),xs.toArray,ats⟩,ty,ps,af,g0⟩ (fun E' S'=>∃A c,E'=(d,r A c)::E∧S'=zac enc M et A c ls::S) :=
 (ziO (fun u T=>∃A c,u=r A c∧T=zac enc M et A c ls::S) hx (fun w hw=>(hc w hw).mono fun e w' ⟨A,c,he,ho,hb⟩=>⟨_,_,he,hw.fresh (e:=zac enc M et A c ls) hb (fun g hg=>World.ownsRow.lt ho g hg) ho.base,A,c,rfl,rfl⟩) hd).weak
  (by rintro _ _ ⟨_,⟨A,c,rfl,rfl⟩,rfl⟩;exact⟨A,c,rfl,rfl⟩)
theorem Mem.nilOwn{α:Type}{w:World}(enc:α→List Value)(M et:Nat)(h:Mem C w S):Mem C w (zac enc M et none 0 ([]:List α)::S) :=
 h.fresh (e:=zac enc M et none 0 ([]:List α)) (Below.refl _ _) (fun g hg=>by simp[zac,Value.ownBlock] at hg) (Own.nil _ _)
theorem Mem.rd{α:Type}{enc:α→List Value}{M:Nat}{ls:List α}{A:Option Addr}{w:World}(hw:Mem C w S)(hF:C.F=[])(h:RdE enc M C.w0 A ls):RdE enc M w A ls:=by
 refine h.below ⟨hw.keeps.os,hw.keeps.tape,hw.keeps.output,hw.keeps.size,fun k hk=>hw.keeps.block k hk (by simp[hF])⟩
theorem Mem.ownRd{α:Type}{enc:α→List Value}{M et:Nat}{ls:List α}{A:Option Addr}{w:World}(hw:Mem C w S)(hm:zac enc M et A c ls∈S)(hM:∀x,(enc x).length=M):RdE enc M w A ls:=by
 have ho:Own enc M et w 0 (.slice A ls.length c) ls:=(hw.holds _ hm).1
 obtain⟨A',c',hv,hr⟩:=Own.rd ho hM
 simp only[Value.slice.injEq] at hv
 rw[hv.1];exact hr
theorem Mem.ownOut{α:Type}{enc:α→List Value}{M et:Nat}{ls:List α}{A:Option Addr}{w:World}(hw:Mem C w S)(hF:C.F=[])(hm:zac enc M et A c ls∈S):Own enc M et w C.w0.heap.size (.slice A ls.length c) ls:=by
 obtain⟨ho,hb⟩:=hw.holds _ hm
 have ho':Own enc M et w 0 (.slice A ls.length c) ls:=ho
 refine⟨ho'.1,?_⟩
 rcases ho'.2 with hn|⟨g,cap,cur,hv,_,rest⟩
 ·exact .inl hn
 ·refine .inr ⟨g,cap,cur,hv,?_,rest⟩
  have:=(hb g (by show(Value.slice A ls.length c).ownBlock=some g;rw[hv];rfl)).2
  rw[hF] at this
  simpa using this
theorem Mem.blkOut{α:Type}{enc:α→List Value}{M et:Nat}{w:World}(ls:List α)(hw:Mem C w S)(hF:C.F=[])(hm:zak g et cs∈S)(hcs:cs.toList=ls.flatMap enc)(hM:∀x,(enc x).length=M)(hl:ls.length≤maxLen):
  Own enc M et w C.w0.heap.size (.slice (some ⟨g,0,none⟩) ls.length ls.length) ls:=by
 obtain⟨hb,hg⟩:=hw.holds _ hm
 have hb':Blk w g et cs:=hb
 refine⟨zbo hM ls,.inr ⟨g,ls.length,cs,rfl,?_,hb',Nat.le_refl _,hl,?_,?_⟩⟩
 ·have:=(hg g rfl).2
  rw[hF] at this
  simpa using this
 ·have:=congrArg List.length hcs
  rw[zbo hM] at this
  simpa using this
 ·rw[hcs,List.take_of_length_le (by rw[zbo hM];exact Nat.le_refl _)]
theorem Mem.below0{w:World}(hw:Mem C w S)(hF:C.F=[]):Below C.w0.heap.size C.w0 w:=⟨hw.keeps.os,hw.keeps.tape,hw.keeps.output,hw.keeps.size,fun k hk=>hw.keeps.block k hk (by simp[hF])⟩
/-! The function's own frame -/
def zg1(E:zaE):List ResultVar→Option (List Value)
 |[]=>some []
 |.tmp t::r=>match zeG t E,zg1 E r with
  |some v,some vs=>some (v::vs)
  |_,_=>none
 |.cell _ _::_=>none
def za0:List Value→Value
 |[v]=>v
 |vs=>.tuple vs.toArray
def resG(tmps:Array Value):ResultVar→Sem Value
 |.tmp t=>pure (tmps.getD t undef)
 |.cell a t=>do loadVar t (←asAddr (tmps.getD a undef))
theorem zhE{fn:Func}{rs:List ResultVar}{vs:List Value}{a:Act}{w:World}(hfn:fn.results=rs.toArray)(ha:Env C.n a E)(h:zg1 E rs=some vs):(results fn a.tmps).run P w=.ok (za0 vs) w:=by
 have key:∀(rs:List ResultVar) (vs:List Value),zg1 E rs=some vs→(rs.mapM (resG a.tmps)).run P w=.ok vs w:=by
  intro rs
  induction rs with
  |nil=>intro vs h;cases h;simp
  |cons r rs ih =>
   intro vs h
   cases r with
   |cell ad t=>cases h
   |tmp t =>
    simp only[zg1] at h
    split at h
    ·rename_i v us hv hr
     cases h
     have:=ha.2.2 t v hv
     simp[List.mapM_cons,ih us hr,resG,this]
    ·cases h
 have hk:=key rs vs h
 have e:results fn a.tmps=(do let vs ←fn.results.mapM (resG a.tmps);pure (if h:vs.size=1 then vs[0] else .tuple vs)):=rfl
 rw[e,hfn]
 simp only[Array.mapM_eq_mapM_toList,Sem.run_bind,Sem.run_map,hk]
 match vs with
 |[]=>simp[za0]
 |[v]=>simp[za0]
 |u::v::vs=>simp[za0]
theorem zah{fn:Func}{R:Ending→World→Prop}{rs:List ResultVar}{vs:List Value}(hfn:fn.results=rs.toArray)(hr:zg1 E rs=some vs)(h:∀w,Mem C w S→R (.returned (za0 vs)) w):At C (bodyPost P fn R .ret) E S :=
 ⟨fun a w ha hw=>⟨ha.1,_,zhE hfn ha hr,h w hw⟩⟩
theorem zc4{fn:Func}{R:Ending→World→Prop}{rs:List ResultVar}{vs:List Value}(hfn:fn.results=rs.toArray)(hr:zg1 E rs=some vs)(h:∀w,Mem C w S→R (.returned (za0 vs)) w):At C (bodyPost P fn R .normal) E S :=
 ⟨fun a w ha hw=>⟨ha.1,_,zhE hfn ha hr,h w hw⟩⟩
def zgf:Nat→List Value→zaE
 |_,[]=>[]
 |k,v::vs=>(k,v)::zgf (k+1) vs
theorem zfx:∀(vs:List Value) (k t:Nat) (v:Value),zeG t (zgf k vs)=some v→k≤t∧vs[t-k]?=some v
 |[],k,t,v,h=>by cases h
 |u::vs,k,t,v,h=>by
  simp only[zgf,zeG] at h
  split at h
  ·rename_i hb
   have:=Nat.eq_of_beq_eq_true hb
   subst this
   cases h
   simp
  ·obtain⟨h1,h2⟩:=zfx vs (k+1) t v h
   refine⟨by omega,?_⟩
   rw[show t-k=(t-(k+1))+1 by omega]
   simpa using h2
theorem zaj{f nt:Nat}{fn:Func}{body:Code}{vs:List Value}{w:World}{R:Ending→World→Prop}(F:List Nat)(hf:P.funcs[f]?=some fn)(hb:fn.body=some body)(hn:fn.ntmps=nt)(hle:vs.length≤nt) 
  (hm:Mem ⟨nt,F,w⟩ w S) (h:T P ⟨nt,F,w⟩ body (bodyPost P fn R) (zgf 0 vs) S):Calls P f vs.toArray w R:=by
 refine calls_of_wp hf hb (h.run _ w ⟨rfl,?_,fun t v hv=>?_⟩ hm)
 ·simp[hn];omega
 ·obtain⟨_,h2⟩:=zfx vs 0 t v hv
  have:=(List.getElem?_eq_some_iff.1 h2).1
  simp only[Nat.sub_zero] at h2 this
  rw[Array.getElem?_append_left (by simpa using this)]
  simpa using h2
theorem zaq{s f:Nat}{fs:Array Field}(off t:Nat){n:Nat}(hu:P.underlying s=some (.struct fs))(hf:(fs[f]?).map (fun d=>(d.offset,d.type))=some (off,t))(hs:∀w,(sizeOf t).run P w=.ok n w)(hn:n≠0):FieldAt P s f off:=by
 cases hfd:fs[f]? with
 |none=>rw[hfd] at hf;cases hf
 |some fd =>
  rw[hfd] at hf
  simp only[Option.map_some,Option.some.injEq,Prod.mk.injEq] at hf
  obtain⟨rfl,rfl⟩:=hf
  exact⟨fun g o w=>by simp[Instr.fieldAt,run_underlying hu,hfd,Instr.sureAddr,fieldPlace,hs w,hn,zds]⟩
end
end
end Go.Proofs.YtjdckepbihcgfaaGreatDoor
