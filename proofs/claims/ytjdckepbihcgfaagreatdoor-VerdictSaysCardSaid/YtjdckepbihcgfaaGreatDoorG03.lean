/- Lemmas for the walks (T4, T5). No condition. -/
import Derived.Test.YtjdckepbihcgfaaGreatDoorG02
import Derived.Laws.BitsAllLaws
import Derived.Maps.AppendAt
import Derived.OrdersHeld
set_option linter.unusedSimpArgs false
set_option linter.unusedVariables false
set_option linter.unusedSectionVars false
set_option linter.unnecessarySimpa false
set_option maxRecDepth 100000
set_option maxHeartbeats 8000000
namespace Go.Proofs.YtjdckepbihcgfaaGreatDoor
section
open Go.RowKit
/-! Literals laid flat -/
def setL:List Value→Nat→List Value→List Value
 |_::cs,0,u::us=>u::setL cs 0 us
 |cs,0,[]=>cs
 |[],_,_=>[]
 |c::cs,n+1,us=>c::setL cs n us
theorem setL_eq:∀(cs:List Value) (o:Nat) (us:List Value),o+us.length≤cs.length→setL cs o us=cs.take o++us++cs.drop (o+us.length)
 |[],0,[],_=>by simp[setL]
 |[],0,_::_,h=>by simp at h
 |[],n+1,us,h=>by simp at h
 |_::cs,0,u::us,h=>by
  have:=setL_eq cs 0 us (by simp at h ⊢;omega)
  simp only[Nat.zero_add,List.take_zero,List.nil_append] at this
  simp[setL,this]
 |c::cs,0,[],_=>by simp[setL]
 |c::cs,n+1,us,h=>by
  have:=setL_eq cs n us (by simp at h;omega)
  simp only[setL,this,List.take_succ_cons,List.cons_append]
  rw[show n+1+us.length=(n+us.length)+1 by omega,List.drop_succ_cons]
def nthP:List (Nat×Nat)→Nat→Option (Nat×Nat)
 |[],_=>none
 |p::_,0=>some p
 |_::ps,i+1=>nthP ps i
theorem nthP_eq:∀(ps:List (Nat×Nat)) (i:Nat),ps[i]?=nthP ps i
 |[],i=>by simp[nthP]
 |p::ps,0=>by simp[nthP]
 |p::ps,i+1=>by simpa[nthP] using nthP_eq ps i
def fillL(places:List (Nat×Nat)):List Value→List (Nat×Value)→Option (List Value)
 |cs,[]=>some cs
 |cs,(i,v)::rest=>match nthP places i with
  |none=>none
  |some (off,size)=>match Nat.beq v.cells.toList.length size&&Nat.ble (off+size) cs.length with
   |true=>fillL places (setL cs off v.cells.toList) rest
   |false=>none
theorem fillL_eq(places:List (Nat×Nat)):∀(vs:List (Nat×Value)) (cs us:List Value),fillL places cs vs=some us→Instr.fill (places.toArray[·]?) cs.toArray vs=some us.toArray
 |[],cs,us,h=>by simp only[fillL,Option.some.injEq] at h;subst h;rfl
 |(i,v)::rest,cs,us,h=>by
  simp only[fillL] at h
  split at h
  ·cases h
  ·rename_i off size hp
   split at h
   ·rename_i hb
    simp only[Bool.and_eq_true] at hb
    have h1:=Nat.eq_of_beq_eq_true hb.1
    have h2:=Nat.le_of_ble_eq_true hb.2
    have h1':v.cells.size=size:=by simpa using h1
    simp only[Instr.fill,List.getElem?_toArray,nthP_eq,hp]
    have hcond:(decide (v.cells.size≠size)||decide (off+v.cells.size > cs.toArray.size))=false:=by
     simp[h1'];omega
    rw[if_neg (by rw[hcond];exact Bool.false_ne_true)]
    have hz:v.cells.zipIdx=(v.cells.toList.zipIdx).toArray:=by rw[←Array.toList_zipIdx,Array.toArray_toList]
    have hf:=zdL v.cells v.cells.toList off 0 cs (by simp[h1'];omega)
    have e:(v.cells.zipIdx.foldl (fun cs (x:Value×Nat)=>match x with|(c,j)=>cs.setIfInBounds (off+j) c) cs.toArray)=(setL cs off v.cells.toList).toArray:=by
     rw[hz,List.foldl_toArray,setL_eq cs off _ (by simp[h1'];omega)]
     simpa using hf
    rw[e]
    have:=fillL_eq places rest _ us h
    simpa[nthP_eq] using this
   ·cases h
inductive IsL:List Value→List Value→Prop
 |nil:IsL [] []
 |cons {x:Value} {xs ys:List Value} (h:IsL xs ys):IsL (x::xs) (x::ys)
 |refl (xs:List Value):IsL xs xs
theorem IsL.eq{xs ys:List Value}(h:IsL xs ys):xs=ys:=by
 induction h with
 |nil=>rfl
 |cons _ ih=>rw[ih]
 |refl=>rfl
theorem arrSet{us us':List Value}{o:Nat}{v:Value}(h:IsL (us.set o v) us'):us.toArray.setIfInBounds o v=us'.toArray:=by
 rw[←h.eq];simp
theorem cellsL{v:Value}{us:List Value}(hl:IsL v.cells.toList us):v.cells=us.toArray:=by rw[←hl.eq]
def ziP(P:Program)(t:Nat):Option (List (Nat×Nat)×List Value) :=
 match P.info? t,P.underlying t with
 |some it,some (.array n e) =>
  match it.zero,P.info? e with
  |some z,some ie=>some ((List.range n).map (fun i=>(i * ie.size,ie.size)),z.cells.toList)
  |_,_=>none
 |some it,some (.struct fields) =>
  match it.zero,fields.toList.mapM (fun f=>(P.info? f.type).map fun i=>(f.offset,i.size)) with
  |some z,some places=>some (places,z.cells.toList)
  |_,_=>none
 |_,_=>none
theorem fill_more(f g:Nat→Option (Nat×Nat))(hfg:∀i p,f i=some p→g i=some p):∀(vs:List (Nat×Value)) (cs us:Array Value),Instr.fill f cs vs=some us→Instr.fill g cs vs=some us
 |[],cs,us,h=>h
 |(i,v)::rest,cs,us,h=>by
  simp only[Instr.fill] at h ⊢
  cases hi:f i with
  |none=>rw[hi] at h;cases h
  |some p =>
   rw[hi] at h
   rw[hfg i p hi]
   obtain⟨off,size⟩:=p
   simp only at h ⊢
   split at h
   ·cases h
   ·rename_i hn
    rw[if_neg hn]
    exact fill_more f g hfg rest _ us h
class BuiltOf (P:Program) (t:Nat) (places:outParam (List (Nat×Nat))) (zs:outParam (List Value)):Prop where
 data:ziP P t=some (places,zs)
theorem built_of{P:Program}{t:Nat}{places:List (Nat×Nat)}{zs us:List Value}{vs:List (Nat×Value)}(hd:ziP P t=some (places,zs))(h:fillL places zs vs=some us):P.built t vs=some us.toArray:=by
 have hf:=fillL_eq places vs zs us h
 unfold ziP at hd
 unfold Program.built
 split at hd
 ·rename_i it n e hi hu
  split at hd
  ·rename_i z ie hz hie
   simp only[Option.some.injEq,Prod.mk.injEq] at hd
   obtain⟨rfl,rfl⟩:=hd
   simp only[hi,hu,hz,hie]
   refine fill_more _ _ (fun i p hp=>?_) _ _ _ (by simpa using hf)
   simp only[Array.getElem?_map,Option.map_eq_some_iff] at hp
   obtain⟨j,hj,rfl⟩:=hp
   obtain⟨_,rfl⟩:=List.getElem?_eq_some_iff.1 hj
   simp
  ·cases hd
 ·rename_i it fields hi hu
  split at hd
  ·rename_i z pl hz hp
   simp only[Option.some.injEq,Prod.mk.injEq] at hd
   obtain⟨rfl,rfl⟩:=hd
   simp only[hi,hu,hz,hp]
   simpa using hf
  ·cases hd
 ·cases hd
section
variable {P:Program}{C:Ctx}{E:zaE}{S:List Ent}{d ty t e m len:Nat}{ps:String}{af:Array Edge}{g0:Option (Nat×Bool)}{u:Value} 
theorem QS_buildF{places:List (Nat×Nat)}{zs us us':List Value}[hb:BuiltOf P t places zs]{parts:List (Nat×Operand)}{vs:List (Nat×Value)}(hp:ziL E parts=some vs)(hf:fillL places zs vs=some us)(hl:IsL us us'):
  QS P C E S (.build t parts.toArray) ty (.agg us'.toArray):=QS_build hp (by rw[←hl.eq];exact built_of hb.data hf)
theorem zfy[hs:SliceOf P t e m][hz:ZeroOf P e u]{parts:List (Nat×Operand)}{vs:List Value}{us:List Value}(hp:zgd E 0 parts=some vs)(hln:vs.length=len)(hsm:Nat.ble (len * m) 16777216=true)(hlm:(Nat.beq (len * m) 0)=false)(hok:ziN m vs=true)(hl:IsL (cellsOf vs) us)(hd:Nat.ble (d+1) C.n=true):ES P C E S ⟨some d,.buildSlice t len parts.toArray,ty,ps,af,g0⟩ (fun E' S'=>∃g,E'=(d,.slice (some ⟨g,0,none⟩) len len)::E∧S'=zak g e us.toArray::S):=by
 rw[←hl.eq]
 exact ES_buildSlice hp hln hsm hlm hok hd
end
class InfoOf (P:Program) (e:Nat) (z:outParam Value) (m bytes:outParam Nat):Prop where
 info:(P.info? e).map (fun i=>(i.zero,i.size,i.bytes))=some (some z,m,bytes)
 zsize:z.cells.size=m
 pos:0<m
theorem InfoOf.parts{P:Program}{e:Nat}{z:Value}{m bytes:Nat}(h:InfoOf P e z m bytes):∃i,P.info? e=some i∧i.zero=some z∧i.size=m∧i.bytes=bytes:=by
 have:=h.info
 cases hi:P.info? e with
 |none=>rw[hi] at this;cases this
 |some i =>
  rw[hi] at this
  simp only[Option.map_some,Option.some.injEq,Prod.mk.injEq] at this
  exact⟨i,rfl,this.1,this.2.1,this.2.2⟩
section
variable {P:Program}{C:Ctx}{Q:Exit→Act→World→Prop}{E:zaE}{S:List Ent}{l rest:List Oper} 
variable {d ty ty2 ty3:Nat}{ps:String}{af:Array Edge}{g0:Option (Nat×Bool)}{x y:Operand}{a b:Nat}{v:Value} 
/-! Bits of numbers that are not negative -/
theorem bits_run(op:BinOp)(k:IntKind)(m n:Int)(hop:op=.and∨op=.or∨op=.xor∨op=.andNot)(w:World):(binOp op ty2 (.int k m) (.int k n)).run P w=.ok (.int k (bits op k m n)) w:=by
 rcases hop with rfl|rfl|rfl|rfl<;>simp[binOp,Op.intBits,bits]
section
variable (hx:evo E x=some (.int .u16 (a:Nat)))(hy:evo E y=some (.int .u16 (b:Nat)))(ha:a<65536)(hb:b<65536) 
include hx hy ha hb
theorem QS_and16:QS P C E S (.binOp .and ty2 x y ty3) ty (.int .u16 ((a &&& b:Nat):Int)) :=
 QS.of (fun _ w he _=>zcQ he hx hy _ (by rw[←u16_and_nat a b ha hb];exact bits_run .and _ _ _ (by simp) w))
theorem QS_or16:QS P C E S (.binOp .or ty2 x y ty3) ty (.int .u16 ((a ||| b:Nat):Int)) :=
 QS.of (fun _ w he _=>zcQ he hx hy _ (by rw[←u16_or_nat a b ha hb];exact bits_run .or _ _ _ (by simp) w))
theorem QS_andNot16:QS P C E S (.binOp .andNot ty2 x y ty3) ty (.int .u16 ((a &&& (65535-b):Nat):Int)) :=
 QS.of (fun _ w he _=>zcQ he hx hy _ (by rw[←u16_andNot_nat a b ha hb];exact bits_run .andNot _ _ _ (by simp) w))
end
section
variable (hx:evo E x=some (.int .i64 (a:Nat)))(hy:evo E y=some (.int .i64 (b:Nat)))(ha:a<9223372036854775808)(hb:b<9223372036854775808) 
include hx hy ha hb
end
/-! Shifts -/
theorem shr_nat(a b n:Nat)(ha:a<2^n):(a:Int).fdiv (2^(min b n))=((a >>> b:Nat):Int):=by
 have e:((2:Int)^(min b n))=((2^(min b n):Nat):Int):=by simp
 rw[e,Int.fdiv_eq_ediv_of_nonneg _ (Int.natCast_nonneg _),Nat.shiftRight_eq_div_pow]
 rcases Nat.le_total b n with h|h
 ·rw[Nat.min_eq_left h];simp
 ·rw[Nat.min_eq_right h]
  have h1:a / 2^n=0:=Nat.div_eq_of_lt ha
  have h2:a / 2^b=0:=Nat.div_eq_of_lt (Nat.lt_of_lt_of_le ha (Nat.pow_le_pow_right (by omega) h))
  rw[h2]
  have:((a / 2^n:Nat):Int)=0:=by rw[h1];rfl
  simpa using this
theorem zif{dst:Option Tmp}{ps:String}{af:Array Edge}{g:Option (Nat×Bool)}{op:BinOp}{t:TypeId}{a:Act}{w:World}{k k':IntKind}{m n:Int}(ha:Env C.n a E)(hx:evo E x=some (.int k m))(hy:evo E y=some (.int k' n))(r:Value) 
  (hr:(binOp op t (.int k m) (.int k' n)).run P w=.ok r w):(execOp a.eval ⟨dst,.binOp op t x y ty3,ty,ps,af,g⟩).run P w=.ok (.value r) w:=by
 unfold execOp
 simp only[ha.evo hx,ha.evo hy]
 have:(eqGuard op t x y (.int k m) (.int k' n)).run P w=.ok () w:=by
  unfold eqGuard
  cases op<;>rfl
 simp only[Sem.run_bind,this,Result.andThen_ok,hr]
 rfl
theorem QS_shr16{k:IntKind}(hx:evo E x=some (.int .u16 (a:Nat)))(hy:evo E y=some (.int k (b:Nat)))(ha:a<65536):QS P C E S (.binOp .shr ty2 x y ty3) ty (.int .u16 ((a >>> b:Nat):Int)) :=
 QS.of (fun _ w he _=>zif he hx hy _ (by
  have:=shr_nat a b 16 ha
  have hn:¬((b:Int)<0):=by omega
  simp only[binOp,Op.shift,IntKind.bits,if_neg hn,Int.toNat_natCast,this];rfl))
theorem QS_shr64{k:IntKind}(hx:evo E x=some (.int .i64 (a:Nat)))(hy:evo E y=some (.int k (b:Nat)))(ha:a<9223372036854775808):QS P C E S (.binOp .shr ty2 x y ty3) ty (.int .i64 ((a >>> b:Nat):Int)) :=
 QS.of (fun _ w he _=>zif he hx hy _ (by
  have:=shr_nat a b 64 (by omega)
  have hn:¬((b:Int)<0):=by omega
  simp only[binOp,Op.shift,IntKind.bits,if_neg hn,Int.toNat_natCast,this];rfl))
theorem QS_shl16{k:IntKind}(hx:evo E x=some (.int .u16 1))(hy:evo E y=some (.int k (b:Nat)))(hb:b<16):QS P C E S (.binOp .shl ty2 x y ty3) ty (.int .u16 ((2^b:Nat):Int)) :=
 QS.of (fun _ w he _=>zif he hx hy _ (by
  have h1:(2:Nat)^b<65536:=Nat.pow_lt_pow_right (a:=2) (m:=b) (n:=16) (by omega) hb
  have h2:min b 16=b:=by omega
  have h3:IntKind.u16.wrap (2^b)=2^b:=by
   have e:((2:Int)^b)=((2^b:Nat):Int):=by simp
   rw[e];exact IntWalk.u16_in _ ⟨Int.natCast_nonneg _,by omega⟩
  have hn:¬((b:Int)<0):=by omega
  simp only[binOp,Op.shift,IntKind.bits,if_neg hn,Int.toNat_natCast,h2,Int.one_mul,h3];simp))
/-! Conversions of numbers -/
class Wraps (k:IntKind) (lo hi:outParam Int):Prop where
 wrap:∀n:Int,lo≤n→n≤hi→k.wrap n=n
instance : Wraps .i64 (-9223372036854775808) 9223372036854775807:=⟨fun n h1 h2=>IntWalk.i64_in n ⟨h1,h2⟩⟩
instance : Wraps .u8 0 255:=⟨fun n h1 h2=>IntWalk.u8_in n ⟨h1,h2⟩⟩
instance : Wraps .u16 0 65535:=⟨fun n h1 h2=>IntWalk.u16_in n ⟨h1,h2⟩⟩
instance : Wraps .u32 0 4294967295:=⟨fun n h1 h2=>IntWalk.u32_in n ⟨h1,h2⟩⟩
instance : Wraps .u64 0 18446744073709551615:=⟨fun n h1 h2=>by rw[IntKind.wrap_u64];omega⟩
theorem QS_convert{s t:Nat}{k k0 k1:IntKind}{lo hi n:Int}[hs:IntOf P s k0][ht:IntOf P t k][hw:Wraps k lo hi](hx:evo E x=some (.int k1 n))(h1:lo≤n)(h2:n≤hi):QS P C E S (.convert s t x) ty (.int k n) :=
 QS.of (fun _ w he _=>by
  have:=hw.wrap n h1 h2
  simp[execOp,he.evo hx,convert,run_underlying hs.und,run_underlying ht.und,Conv.intToInt,this])
theorem QS_convertW{s t:Nat}{k k0 k1:IntKind}{n:Int}[hs:IntOf P s k0][ht:IntOf P t k](hx:evo E x=some (.int k1 n)):QS P C E S (.convert s t x) ty (.int k (k.wrap n)) :=
 QS.of (fun _ w he _=>by
  simp[execOp,he.evo hx,convert,run_underlying hs.und,run_underlying ht.und,Conv.intToInt])
/-! Bools -/
class BoolOf (P:Program) (t:Nat):Prop where
 und:P.underlying t=some .bool
section
variable {b1 b2:Bool}{t:Nat}[h:BoolOf P t](hx:evo E x=some (.bool b1))(hy:evo E y=some (.bool b2)) 
include h hx hy
end
/-! append -/
section
variable {α:Type}{enc:α→List Value}{M e:Nat}{ls:List α}{A:Option Addr}{c t m bytes:Nat}{z:Value} 
def Lies(C:Ctx)(S:List Ent)(y:Value)(n:Nat)(us:List Value):Prop:=(n=0∧us=[]∧y=.slice none 0 0)∨∃ad c,y=.slice (some ad) n c∧∀w,Mem C w S→∀j u,us[j]?=some u→w.cell? (ad.add j)=some u
theorem Lies.blk{g n c:Nat}{cs:Array Value}(hm:zak g t cs∈S):Lies C S (.slice (some ⟨g,0,none⟩) n c) n cs.toList :=
 .inr ⟨⟨g,0,none⟩,c,rfl,fun w hw j u hu=>by
  have hb:Blk w g t cs:=(hw.holds _ hm).1
  rw[zds,Nat.zero_add,hb.cell];simpa using hu⟩
theorem zbp[hs:SliceOf P t e M][hi:InfoOf P e z M bytes]{xs:List α}{S':Option Addr→Nat→List Ent}(hx:evo E x=some (.slice A ls.length c))(hy:evo E y=some v) 
  (hl:Lies C S v xs.length (xs.flatMap enc)) (hM:∀x,(enc x).length=M) (h1:∀x,(enc x).all (·.oneCell')=true)
  (hu:∀A' c',Upd S (zac enc M e A c ls) (zac enc M e A' c' (ls++xs)) (S' A' c')) (hb:(ls.length+xs.length) * bytes≤140737488355328) (hb0:0<bytes) (hd:Nat.ble (d+1) C.n=true) :
  ES P C E S ⟨some d,.call ⟨.builtin .append,#[x,y],#[t,t]⟩,ty,ps,af,g0⟩ (fun E' T=>∃A' c',E'=(d,.slice A' (ls++xs).length c')::E∧T=S' A' c'):=by
 refine(zc3 (fun u T=>∃A' c',u=.slice A' (ls++xs).length c'∧T=S' A' c') (fun a w ha hw=>?_) hd).weak (by rintro _ _ ⟨_,⟨A',c',rfl,rfl⟩,rfl⟩;exact⟨A',c',rfl,rfl⟩)
 have ho:Own enc M e w 0 (.slice A ls.length c) ls:=(hw.holds _ (hu none 0).mem).1
 have hx':=ha.evo hx
 have hy':=ha.evo hy
 have run:∀r w',(Builtin.append_ #[t,t] ty #[.slice A ls.length c,v]).run P w=.ok r w'→(execOp a.eval ⟨some d,.call ⟨.builtin .append,#[x,y],#[t,t]⟩,ty,ps,af,g0⟩).run P w=.ok (.value r) w':=by
  intro r w' h
  simp[execOp,resolve,invoke,builtin,hx',hy',h]
 have hml:(ls.length+xs.length)≤maxLen:=by
  have:ls.length+xs.length≤(ls.length+xs.length) * bytes:=Nat.le_mul_of_pos_right _ hb0
  unfold maxLen;omega
 obtain⟨i,hi0,hi1,hi2,hi3⟩:=hi.parts
 rcases hl with⟨h0,_,rfl⟩|⟨ad,cy,rfl,hat⟩
 ·obtain rfl:xs=[]:=List.length_eq_zero_iff.1 h0
  have hr:=run_append_owned_none (P:=P) w 0 t ty e i M hs.und hi0 (.slice A ls.length c) ls.length (ls.flatMap enc) ho
  have hlen:(ls++([]:List α)).length=ls.length:=by simp
  refine⟨_,w,S' A c,run _ _ hr,?_,A,c,by rw[hlen],rfl⟩
  refine hw.upd (hu A c) (Keeps.refl [] w) (by simp) (fun g hg=>?_) (by show Own enc M e w 0 (.slice A (ls++[]).length c) (ls++[]);simpa using ho)
  have hg2:(Value.slice A ls.length c).ownBlock=some g:=by
   have hg':(Value.slice A (ls++[]).length c).ownBlock=some g:=hg
   rwa [hlen] at hg'
  exact⟨(World.ownsRow.lt ho g hg2).2,.inl hg2⟩
 ·obtain⟨v',w',hr,h2,h3,_,h5⟩:=run_append_own_at (P:=P) w 0 t ty e i z M bytes hs.und hi0 hi1 hi2 hi3 hi.zsize hi.pos (.slice A ls.length c) ls.length (ls.flatMap enc) ho ad xs.length cy (xs.flatMap enc)
   (zbo hM xs) (fun j u hu'=>hat w hw j u hu') (fun u hu'=>by
    obtain⟨q,hq,hqu⟩:=List.mem_flatMap.1 hu'
    exact List.all_eq_true.1 (h1 q) u hqu) hml hb (Nat.zero_le _)
  have hown':Own enc M e w' 0 v' (ls++xs):=by
   unfold Own
   simpa using h2
  obtain⟨A',c',rfl⟩:=hown'.form
  refine⟨_,w',S' A' c',run _ _ hr,?_,A',c',rfl,rfl⟩
  have hk:Keeps ((Value.slice A ls.length c).ownBlock.toList) w w':=⟨h3.os,h3.tape,h3.output,h3.size,fun k hk hn=>h3.block k hk (fun e'=>by
   rw[←e'] at hn
   simp at hn)⟩
  refine hw.upd (hu A' c') hk (fun g hg'=>by simpa[zac] using hg') (fun g hg'=>?_) hown'
  have hg2:(Value.slice A' (ls++xs).length c').ownBlock=some g:=hg'
  refine⟨(World.ownsRow.lt h2 g hg2).2,?_⟩
  rcases h5 with h5|h5
  ·exact .inl (h5.symm.trans hg2)
  ·rw[hg2] at h5;cases h5;exact .inr (Nat.le_refl _)
theorem zdu[hs:SliceOf P t e M][hi:InfoOf P e z M bytes]{k k':IntKind}{z0:α}{n:Nat}(hx:evo E x=some (.int k (n:Nat)))(hy:evo E y=some (.int k' (n:Nat)))(hz:z.cells.toList=enc z0) 
  (hb:n * bytes≤140737488355328) (hb0:0<bytes) (hd:Nat.ble (d+1) C.n=true) :
  ES P C E S ⟨some d,.makeSlice t x y,ty,ps,af,g0⟩ (fun E' T=>∃g,E'=(d,.slice (some ⟨g,0,none⟩) n n)::E∧T=zac enc M e (some ⟨g,0,none⟩) n (List.replicate n z0)::S):=by
 refine(zc3 (fun u T=>∃g,u=.slice (some ⟨g,0,none⟩) n n∧T=zac enc M e (some ⟨g,0,none⟩) n (List.replicate n z0)::S) (fun a w ha hw=>?_) hd).weak (by rintro _ _ ⟨_,⟨g,rfl,rfl⟩,rfl⟩;exact⟨g,rfl,rfl⟩)
 obtain⟨i,hi0,hi1,hi2,hi3⟩:=hi.parts
 have hn:n≤maxLen:=by
  have:n≤n * bytes:=Nat.le_mul_of_pos_right _ hb0
  unfold maxLen;omega
 obtain⟨w',hr,ho,hg⟩:=run_make_full (P:=P) w 0 t e i z M hs.und hi0 hi1 hi2 k k' n (by rw[hi3,Nat.mul_comm];omega) hn (Nat.zero_le _)
 have hcells:(madeCells z.cells (n * M)).toList=(List.replicate n z0).flatMap enc:=by
  have hzl:(enc z0).length=M:=by rw[←hz];simpa using hi.zsize
  have hpos:=hi.pos
  apply List.ext_getElem?
  intro j
  have hlen:((List.replicate n z0).flatMap enc).length=n * M:=by
   rw[List.length_flatMap];simp[hzl]
  by_cases hj:j<n * M
  ·have hq:j / M<n:=Nat.div_lt_of_lt_mul (by rw[Nat.mul_comm];exact hj)
   have e1:((List.replicate n z0).flatMap enc)[j]?=(enc z0)[j % M]?:=by
    have key:∀(n j:Nat),j<n * M→((List.replicate n z0).flatMap enc)[j]?=(enc z0)[j % M]?:=by
     intro n
     induction n with
     |zero=>intro j hj;omega
     |succ n ih =>
      intro j hj
      rw[List.replicate_succ,List.flatMap_cons]
      rcases Nat.lt_or_ge j M with h|h
      ·rw[List.getElem?_append_left (by omega),Nat.mod_eq_of_lt h]
      ·rw[List.getElem?_append_right (by omega),hzl,ih (j-M) (by rw[Nat.add_mul] at hj;omega),←Nat.mod_eq_sub_mod h]
    exact key n j hj
   rw[e1,←hz]
   have hjm:j % M<z.cells.size:=by rw[hi.zsize];exact Nat.mod_lt _ hpos
   simp[madeCells,hj,hi.zsize,hjm]
   rw[getElem!_pos z.cells (j % M) hjm,Array.getElem?_eq_getElem hjm]
  ·rw[List.getElem?_eq_none (by simp[madeCells];omega),List.getElem?_eq_none (by omega)]
 have hown:Own enc M e w' 0 (.slice (some ⟨w.heap.size,0,none⟩) (List.replicate n z0).length n) (List.replicate n z0):=by
  unfold Own
  rw[hcells] at ho
  simpa using ho
 refine⟨_,w',_,?_,?_,w.heap.size,rfl,rfl⟩
 ·simp[execOp,ha.evo hx,ha.evo hy,hr]
 ·refine hw.fresh (e:=zac enc M e (some ⟨w.heap.size,0,none⟩) n (List.replicate n z0)) ⟨hg.os,hg.tape,hg.output,hg.size,fun k hk=>hg.block k hk (by simp)⟩ (fun g hg'=>?_) hown
  have:some w.heap.size=some g:=hg'
  cases this
  have:=(World.ownsRow.lt ho w.heap.size rfl).2
  exact⟨Nat.le_refl _,this⟩
end
end
end
section
open Go.RowKit
section
variable {P:Program}{ops:Array Oper}{Q:Exit→Act→World→Prop} 
def closedL(ops:Array Oper)(L:Array Bool):Prop:=∀j oj,ops[j]?=some oj→L.getD j false=true→∀ed∈oj.after,Region.binds .any ed=true→L.getD ed.on false=true
def waitsT(ops:Array Oper):Nat→Nat→Nat→Bool
 |0,_,_=>false
 |f+1,e,i=>match ops[e]? with
  |some oe=>oe.after.any fun ed=>Region.binds .any ed&&(ed.on == i||waitsT ops f ed.on i)
  |none=>false
theorem zgg{L:Array Bool}(hc:closedL ops L){i:Nat}:∀(f e:Nat),waitsT ops f e i=true→L.getD e false=true→L.getD i false=true
 |0,_,h,_=>by cases h
 |f+1,e,h,hl=>by
  unfold waitsT at h
  split at h
  ·rename_i oe hoe
   obtain⟨ed,he,hb⟩:=Array.any_eq_true'.1 h
   simp only[Bool.and_eq_true,Bool.or_eq_true,beq_iff_eq] at hb
   have h1:=hc e oe hoe hl ed he hb.1
   rcases hb.2 with h2|h2
   ·rw[←h2];exact h1
   ·exact zgg hc f ed.on h2 h1
  ·cases h
theorem closedL.set{L:Array Bool}(hc:closedL ops L){i:Nat}(hi:i∈Region.ready .any ops L):closedL ops (L.setIfInBounds i true):=by
 obtain⟨_,oi,hoi,hall⟩:=mem_ready.1 hi
 intro j oj hj hl ed he hb
 by_cases hij:i=j
 ·subst hij
  obtain rfl:oj=oi:=Option.some.inj (hj.symm.trans hoi)
  exact getD_set_true (hall ed he hb)
 ·rw[getD_set_ne false hij] at hl
  exact getD_set_true (hc j oj hj hl ed he hb)
theorem zdv{L:Array Bool}{i:Nat}(h:L.getD i true=false):L.getD i false=false:=by
 rcases Nat.lt_or_ge i L.size with h'|h'
 ·simp[h'] at h ⊢;exact h
 ·simp[Array.getElem?_eq_none h'] at h
def zfz(P:Program)(ops:Array Oper)(Q:Exit→Act→World→Prop)(e:Nat)(B F:World→Prop):Nat→Array Bool→Act→World→Prop
 |0,L,a,w=>Region.ready .any ops L=[]∧Q .normal a w
 |n+1,L,a,w=>(Region.ready .any ops L=[]→Q .normal a w) ∧
  ∀i∈Region.ready .any ops L,wpOp P ops Q i (fun a' w'=>(B w'∧((L.setIfInBounds i true).getD e false=false→F w'))∧zfz P ops Q e B F n (L.setIfInBounds i true) a' w') a w
variable {e:Nat}{B F:World→Prop} 
theorem wpAny_of_G:∀(n:Nat) (L:Array Bool) (a:Act) (w:World),zfz P ops Q e B F n L a w→wpAny P .any ops Q n L a w
 |0,_,_,_,h=>h
 |n+1,_,_,_,h=>⟨h.1,fun i hi=>wpOp_mono (fun a' w' h'=>wpAny_of_G n _ a' w' h'.2) (h.2 i hi)⟩
theorem wpAnyG_first{i:Nat}{oi:Oper}{v:Value}(hi:ops[i]?=some oi)(hsel:Region.noSelect ops=true)(hie:i≠e)(G:World→Prop) 
  (hG:∀(L:Array Bool) w,L.size=ops.size→closedL ops L→L.getD i false=false→B w→(L.getD e false=false→F w)→G w)
  (hQ:∀c a w,Q (.panic c) (a.put oi.dst v) w→Q (.panic c) a w) :
  ∀(n:Nat) (L:Array Bool) (a:Act) (w:World),L.size=ops.size→closedL ops L→B w→(L.getD e false=false→F w) →
   (∀j oj,ops[j]?=some oj→j≠i→L.getD j true=false→(∀ed∈oj.after,Region.binds .any ed=true→ed.on≠i)→oi.apart ops oj=true) →
   i∈Region.ready .any ops L→YieldsIf P ops G oi v a →
   zfz P ops Q e B F n (L.setIfInBounds i true) (a.put oi.dst v) w→zfz P ops Q e B F (n+1) L a w:=by
 intro n
 induction n with
 |zero =>
  intro L a w hz hc hB hF _ hr hy H
  have hGw:G w:=hG L w hz hc (zdv (mem_ready.1 hr).1) hB hF
  refine⟨fun h=>(by rw[h] at hr;cases hr),fun j hj=>?_⟩
  by_cases hji:j=i
  ·subst hji
   exact hy.wpOp hi hGw ⟨⟨hB,fun h=>hF (by rwa [getD_set_ne false hie] at h)⟩,H⟩
  ·have:=ready_mono hj hji
   rw[H.1] at this
   cases this
 |succ n ih =>
  intro L a w hz hc hB hF hfree hr hy H
  have hGw:G w:=hG L w hz hc (zdv (mem_ready.1 hr).1) hB hF
  refine⟨fun h=>(by rw[h] at hr;cases hr),fun j hj=>?_⟩
  by_cases hji:j=i
  ·subst hji
   exact hy.wpOp hi hGw ⟨⟨hB,fun h=>hF (by rwa [getD_set_ne false hie] at h)⟩,H⟩
  ·have h1:=H.2 j (ready_mono hj hji)
   obtain⟨hjun,oj,hoj,hall⟩:=mem_ready.1 hj
   have hnot:∀ed∈oj.after,Region.binds .any ed=true→ed.on≠i:=fun ed he hb heq=>by
    have h1:=hall ed he hb
    have h0:=(mem_ready.1 hr).1
    rw[heq] at h1
    rcases Nat.lt_or_ge i L.size with h'|h'
    ·simp[h'] at h0 h1;rw[h0] at h1;cases h1
    ·simp[Array.getElem?_eq_none h'] at h1
   have h2:=wpOp_putIf hoj (hfree j oj hoj hji hjun hnot) (fun cs b=>Region.noSelect_spec hsel i oi cs b hi) (fun cs b=>Region.noSelect_spec hsel j oj cs b hoj) hQ hy h1
   have hfree':∀k ok,ops[k]?=some ok→k≠i→(L.setIfInBounds j true).getD k true=false →
     (∀ed∈ok.after,Region.binds .any ed=true→ed.on≠i)→oi.apart ops ok=true:=fun k ok hk hki hun hno=>by
    refine hfree k ok hk hki ?_ hno
    by_cases hjk:j=k
    ·subst hjk;exact hjun
    ·rw[getD_set_ne true hjk] at hun;exact hun
   refine wpOp_mono (fun a' w' h3=>?_) h2
   obtain⟨hy',⟨hB',hF'⟩,hK⟩:=h3
   rw[Array.setIfInBounds_comm _ _ (Ne.symm hji)] at hF' hK
   have hF2:(L.setIfInBounds j true).getD e false=false→F w':=fun h=>hF' (by rw[getD_set_ne false hie];exact h)
   exact⟨⟨hB',hF2⟩,ih (L.setIfInBounds j true) a' w' (by simpa using hz) (hc.set hj) hB' hF2 hfree' (ready_mono hr (Ne.symm hji)) hy' hK⟩
theorem wpAnyG_alone{i n:Nat}{L:Array Bool}{a:Act}{w:World}(hr:Region.ready .any ops L=[i]) 
  (h:wpOp P ops Q i (fun a' w'=>(B w'∧((L.setIfInBounds i true).getD e false=false→F w'))∧zfz P ops Q e B F n (L.setIfInBounds i true) a' w') a w):zfz P ops Q e B F (n+1) L a w :=
 ⟨fun h0=>(by rw[hr] at h0;cases h0),fun j hj=>by
  rw[hr] at hj
  obtain rfl:j=i:=by simpa using hj
  exact h⟩
end
inductive OT where
 |nil:OT
 |step (m i:Nat) (r:OT):OT
 |fork (x y:OT):OT
inductive Tr where
 |nil:Tr
 |step (m i:Nat) (o:Oper) (r:Tr):Tr
 |fork (x y:Tr):Tr
def Tr.head:Tr→Option Oper
 |.step _ _ o _=>some o
 |_=>none
def OT.seq:List (Nat×Nat)→OT→OT
 |[],t=>t
 |(m,i)::r,t=>.step m i (OT.seq r t)
def nthO:List Oper→Nat→Option Oper
 |[],_=>none
 |o::_,0=>some o
 |_::l,i+1=>nthO l i
theorem nthO_eq:∀(l:List Oper) (i:Nat),l[i]?=nthO l i
 |[],i=>by simp[nthO]
 |o::l,0=>by simp[nthO]
 |o::l,i+1=>by simpa[nthO] using nthO_eq l i
def picks(l:List Oper):OT→Option Tr
 |.nil=>some .nil
 |.step m i r=>match nthO l i,picks l r with
  |some o,some t=>some (.step m i o t)
  |_,_=>none
 |.fork x y=>match picks l x,picks l y with
  |some a,some b=>some (.fork a b)
  |_,_=>none
def Tr.ok(l:List Oper):Tr→Prop
 |.nil=>True
 |.step _ i o r=>l[i]?=some o∧r.ok l
 |.fork x y=>x.ok l∧y.ok l
def Tr.bare:Tr→OT
 |.nil=>.nil
 |.step m i _ r=>.step m i r.bare
 |.fork x y=>.fork x.bare y.bare
theorem zfd{l:List Oper}:∀{r:OT} {t:Tr},picks l r=some t→t.ok l∧t.bare=r
 |.nil,t,h=>by cases h;exact⟨trivial,rfl⟩
 |.step m i r,t,h=>by
  simp only[picks] at h
  split at h
  ·rename_i o t' ho ht
   cases h
   obtain⟨h1,h2⟩:=zfd ht
   exact⟨⟨by rw[nthO_eq];exact ho,h1⟩,by simp[Tr.bare,h2]⟩
  ·cases h
 |.fork x y,t,h=>by
  simp only[picks] at h
  split at h
  ·rename_i a b ha hb
   cases h
   obtain⟨h1,h2⟩:=zfd ha
   obtain⟨h3,h4⟩:=zfd hb
   exact⟨⟨h1,h3⟩,by simp[Tr.bare,h2,h4]⟩
  ·cases h
def OT.heads:OT→List Nat
 |.nil=>[]
 |.step _ i _=>[i]
 |.fork x y=>x.heads++y.heads
def OT.depth:OT→Nat
 |.nil=>0
 |.step _ _ r=>r.depth+1
 |.fork x y=>max x.depth y.depth
def zex(e:Nat)(ops:Array Oper):Bool→Array Bool→OT→Bool
 |false,L,.nil=>(Region.ready .any ops L).isEmpty
 |true,_,.nil=>false
 |inF,L,.step m i r=>(match m with
   |0=>!inF&&(Region.ready .any ops L).contains i&&Region.free .any ops L i&&!(i == e)
   |1=>!inF&&(Region.ready .any ops L).contains i&&Region.free .any ops L i&&!(i == e)&&(decide (ops.size≤e)||waitsT ops ops.size e i)
   |2=>(inF||decide (Region.ready .any ops L=[i]))&&!(i == e)
   |_=>(inF||decide (Region.ready .any ops L=[i]))&&((L.setIfInBounds i true).getD e false))&&zex e ops false (L.setIfInBounds i true) r
 |inF,L,.fork x y=>(inF||(!(Region.ready .any ops L).isEmpty&&(Region.ready .any ops L).all fun j=>(x.heads++y.heads).contains j))&&zex e ops true L x&&zex e ops true L y
def zbQ(e:Nat):Array Bool→OT→Bool
 |_,.nil=>true
 |L,.step m i r=>(match m with
   |0=>!(i == e)
   |1=>!(i == e)
   |2=>!(i == e)
   |_=>(L.setIfInBounds i true).getD e false)&&zbQ e (L.setIfInBounds i true) r
 |L,.fork x y=>zbQ e L x&&zbQ e L y
theorem zbR{e:Nat}{ops:Array Oper}:∀{t:OT} {b:Bool} {L:Array Bool},zex e ops b L t=true→zbQ e L t=true
 |.nil,_,_,_=>rfl
 |.step m i r,b,L,h=>by
  unfold zex at h
  match m with
  |0 =>
   simp only[Bool.and_eq_true] at h
   simp only[zbQ,Bool.and_eq_true]
   exact⟨h.1.2,zbR h.2⟩
  |1 =>
   simp only[Bool.and_eq_true] at h
   simp only[zbQ,Bool.and_eq_true]
   exact⟨h.1.1.2,zbR h.2⟩
  |2 =>
   simp only[Bool.and_eq_true] at h
   simp only[zbQ,Bool.and_eq_true]
   exact⟨h.1.2,zbR h.2⟩
  |m+3 =>
   simp only[Bool.and_eq_true] at h
   simp only[zbQ,Bool.and_eq_true]
   exact⟨h.1.2,zbR h.2⟩
 |.fork x y,b,L,h=>by
  unfold zex at h
  simp only[Bool.and_eq_true] at h
  simp only[zbQ,Bool.and_eq_true]
  exact⟨zbR h.1.2,zbR h.2⟩
def semD(P:Program)(ops:Array Oper)(Q:Exit→Act→World→Prop)(e:Nat)(B F:World→Prop):Tr→Array Bool→Act→World→Prop
 |.nil,_,a,w=>Q .normal a w
 |.step m i o r,L,a,w=>if m≤1 then ∃v,YieldsIf P ops (fun w=>if m=0 then B w else F w) o v a∧semD P ops Q e B F r (L.setIfInBounds i true) (a.put o.dst v) w
   else wpOp P ops Q i (fun a' w'=>(B w'∧((L.setIfInBounds i true).getD e false=false→F w'))∧semD P ops Q e B F r (L.setIfInBounds i true) a' w') a w
 |.fork x y,L,a,w=>semD P ops Q e B F x L a w∧semD P ops Q e B F y L a w
section
variable {P:Program}{ops:Array Oper}{Q:Exit→Act→World→Prop}{e:Nat}{B F:World→Prop} 
theorem any_of_sem(hsel:Region.noSelect ops=true)(hQ:∀c a (dst:Option Tmp) v w,Q (.panic c) (a.put dst v) w→Q (.panic c) a w):∀(t:Tr) (b:Bool) (L:Array Bool) (a:Act) (w:World) (n:Nat),t.ok ops.toList→zex e ops b L t.bare=true→t.bare.depth≤n→L.size=ops.size→closedL ops L→B w→(L.getD e false=false→F w)→semD P ops Q e B F t L a w →
  (b=false→zfz P ops Q e B F n L a w)∧(b=true→0<n∧∀j∈t.bare.heads,j∈Region.ready .any ops L→wpOp P ops Q j (fun a' w'=>(B w'∧((L.setIfInBounds j true).getD e false=false→F w'))∧zfz P ops Q e B F (n-1) (L.setIfInBounds j true) a' w') a w):=by
 intro t
 induction t with
 |nil =>
  intro b L a w n _ hord _ _ _ _ _ hs
  cases b with
  |true=>simp[Tr.bare,zex] at hord
  |false =>
   have hr:Region.ready .any ops L=[]:=by simpa[Tr.bare,zex] using hord
   refine⟨fun _=>?_,fun h=>by cases h⟩
   cases n with
   |zero=>exact⟨hr,hs⟩
   |succ n=>exact⟨fun _=>hs,fun i hi=>by rw[hr] at hi;cases hi⟩
 |step m i o r ih =>
  intro b L a w n hok hord hd hz hc hB hF hs
  obtain⟨hok1,hok2⟩:=hok
  have hi:ops[i]?=some o:=by simpa using hok1
  simp only[Tr.bare,OT.depth] at hd
  obtain⟨n,rfl⟩:∃k,n=k+1:=⟨n-1,by omega⟩
  have hz':(L.setIfInBounds i true).size=ops.size:=by simpa using hz
  by_cases hm:m≤1
  ·have key:b=false∧(Region.ready .any ops L).contains i=true∧Region.free .any ops L i=true∧i≠e∧(m=1→ops.size≤e∨waitsT ops ops.size e i=true)∧zex e ops false (L.setIfInBounds i true) r.bare=true:=by
    have:m=0∨m=1:=by omega
    rcases this with rfl|rfl
    ·simp only[Tr.bare,zex,Bool.and_eq_true,Bool.not_eq_true',beq_eq_false_iff_ne] at hord
     exact⟨hord.1.1.1.1,hord.1.1.1.2,hord.1.1.2,hord.1.2,by simp,hord.2⟩
    ·simp only[Tr.bare,zex,Bool.and_eq_true,Bool.not_eq_true',beq_eq_false_iff_ne,Bool.or_eq_true,decide_eq_true_eq] at hord
     exact⟨hord.1.1.1.1.1,hord.1.1.1.1.2,hord.1.1.1.2,hord.1.1.2,fun _=>hord.1.2,hord.2⟩
   obtain⟨rfl,k1,k2,k3,k4,k5⟩:=key
   refine⟨fun _=>?_,fun h=>by cases h⟩
   simp only[semD,if_pos hm] at hs
   obtain⟨v,hy,hs⟩:=hs
   have hr:i∈Region.ready .any ops L:=by simpa using k1
   refine wpAnyG_first hi hsel k3 (fun w=>if m=0 then B w else F w) (fun L' w' hz' hc' hL' hB' hF'=>?_) (fun c a w h=>hQ c _ _ _ w h) n L a w hz hc hB hF (Region.free_spec hi k2) hr hy
    ((ih false _ _ w n hok2 k5 (by omega) hz' (hc.set hr) hB (fun h=>hF (by rwa [getD_set_ne false k3] at h)) hs).1 rfl)
   by_cases hm0:m=0
   ·rw[if_pos hm0];exact hB'
   ·rw[if_neg hm0]
    have hm1:m=1:=by omega
    refine hF' ?_
    cases he:L'.getD e false with
    |false=>rfl
    |true =>
     rcases k4 hm1 with h1|h1
     ·have hn:L'[e]?=Option.none:=Array.getElem?_eq_none (by omega)
      simp[hn] at he
     ·have:=zgg hc' _ _ h1 he
      rw[hL'] at this;cases this
  ·have key:(b=true∨Region.ready .any ops L=[i])∧zex e ops false (L.setIfInBounds i true) r.bare=true:=by
    match m,hm with
    |2,_ =>
     simp only[Tr.bare,zex,Bool.and_eq_true,Bool.or_eq_true,decide_eq_true_eq] at hord
     exact⟨hord.1.1,hord.2⟩
    |m+3,_ =>
     simp only[Tr.bare,zex,Bool.and_eq_true,Bool.or_eq_true,decide_eq_true_eq] at hord
     exact⟨hord.1.1,hord.2⟩
   obtain⟨k1,k2⟩:=key
   simp only[semD,if_neg hm] at hs
   have step:i∈Region.ready .any ops L→wpOp P ops Q i (fun a' w'=>(B w'∧((L.setIfInBounds i true).getD e false=false→F w'))∧zfz P ops Q e B F n (L.setIfInBounds i true) a' w') a w:=fun hr =>
    wpOp_mono (fun a' w' ⟨⟨hB',hF'⟩,hs'⟩=>⟨⟨hB',hF'⟩,(ih false _ a' w' n hok2 k2 (by omega) hz' (hc.set hr) hB' hF' hs').1 rfl⟩) hs
   refine⟨fun hb=>?_,fun hb=>⟨by omega,fun j hj hr=>?_⟩⟩
   ·have hr1:Region.ready .any ops L=[i]:=k1.resolve_left (by rw[hb];decide)
    exact wpAnyG_alone hr1 (step (by rw[hr1];simp))
   ·obtain rfl:j=i:=by simpa[Tr.bare,OT.heads] using hj
    exact step hr
 |fork x y ihx ihy =>
  intro b L a w n hok hord hd hz hc hB hF hs
  simp only[Tr.bare,zex,Bool.and_eq_true,Bool.or_eq_true] at hord
  simp only[Tr.bare,OT.depth] at hd
  have hx:=ihx true L a w n hok.1 hord.1.2 (by omega) hz hc hB hF hs.1
  have hy:=ihy true L a w n hok.2 hord.2 (by omega) hz hc hB hF hs.2
  have h1:=hx.2 rfl
  have h2:=hy.2 rfl
  have all:∀j∈x.bare.heads++y.bare.heads,j∈Region.ready .any ops L→wpOp P ops Q j (fun a' w'=>(B w'∧((L.setIfInBounds j true).getD e false=false→F w'))∧zfz P ops Q e B F (n-1) (L.setIfInBounds j true) a' w') a w:=fun j hj hr=>by
   rcases List.mem_append.1 hj with hj|hj
   ·exact h1.2 j hj hr
   ·exact h2.2 j hj hr
  refine⟨fun hb=>?_,fun _=>⟨h1.1,all⟩⟩
  rcases hord.1.1 with h|h
  ·rw[hb] at h;cases h
  ·obtain⟨k,rfl⟩:∃k,n=k+1:=⟨n-1,by omega⟩
   simp only[Bool.not_eq_true',List.isEmpty_eq_false_iff,List.all_eq_true] at h
   exact⟨fun h0=>absurd h0 h.1,fun i hi=>all i (by simpa using h.2 i hi) hi⟩
end
structure TD (P:Program) (C:Ctx) (l:List Oper) (Q:Exit→Act→World→Prop) (e:Nat) (S0:List Ent) (t:Tr) (E:zaE) (S:List Ent):Prop where
 run:∀(L:Array Bool) a w,t.ok l→zbQ e L t.bare=true→Env C.n a E→Mem C w S→(L.getD e false=false→Mem C w S0)→semD P l.toArray Q e (fun w=>Mem C w []) (fun w=>Mem C w S0) t L a w
section
variable {P:Program}{C:Ctx}{Q:Exit→Act→World→Prop}{e:Nat}{S0 S:List Ent}{E:zaE}{l:List Oper}{t:Tr} 
variable {d ty i:Nat}{ps:String}{af:Array Edge}{op:Op}{v:Value} 
def Blind(Q:Exit→Act→World→Prop):Prop:=∀c a (dst:Option Tmp) v w,Q (.panic c) (a.put dst v) w→Q (.panic c) a w
theorem Mem.none{w:World}(h:Mem C w S):Mem C w []:=h.sub (List.nil_sublist _)
theorem T_drawS{id:Nat}(S0:List Ent)(e:Nat)(order:OT){t:Tr}(hS:S0.Sublist S)(hm:P.follows .mixedOrders=true)(hp:picks l order=some t) 
  (hB:(Region.noSelect l.toArray&&Nat.ble order.depth l.length&&zex e l.toArray false (Array.replicate l.length false) order)=true) (hb:Blind Q) (h:TD P C l Q e S0 t E S):T P C (.region id l.toArray true) Q E S:=by
 refine⟨fun a w ha hw=>?_⟩
 simp only[Bool.and_eq_true] at hB
 obtain⟨⟨hsel,hlen⟩,hord⟩:=hB
 have hlen':=Nat.le_of_ble_eq_true hlen
 obtain⟨h1,h2⟩:=zfd hp
 refine wp_region_any hm ?_
 have hF:(Array.replicate l.length false).getD e false=false→Mem C w.drew S0:=fun _=>hw.drew.sub hS
 have:=(any_of_sem hsel hb t false (Array.replicate l.length false) a w.drew l.length (by simpa using h1) (by rw[h2];exact hord) (by rw[h2];exact hlen') (by simp) (fun j oj _ hl=>by
   exfalso
   rcases Nat.lt_or_ge j l.length with h|h
   ·simp[h] at hl
   ·simp[h] at hl) hw.drew.none hF (h.run _ a w.drew h1 (by rw[h2];exact zbR hord) ha hw.drew hF)).1 rfl
 have:=wpAny_of_G _ _ _ _ this
 simpa using this
theorem zam{id:Nat}(e:Nat)(order:OT){t:Tr}(hm:P.follows .mixedOrders=true)(hp:picks l order=some t) 
  (hB:(Region.noSelect l.toArray&&Nat.ble order.depth l.length&&zex e l.toArray false (Array.replicate l.length false) order)=true) (hb:Blind Q) (h:TD P C l Q e S t E S):T P C (.region id l.toArray true) Q E S :=
 T_drawS S e order (List.Sublist.refl _) hm hp hB hb h
theorem TD_nil(h:At C (Q .normal) E S):TD P C l Q e S0 .nil E S :=
 ⟨fun L a w _ _ ha hw _=>h.run a w ha hw⟩
theorem TD_fork{x y:Tr}(hx:TD P C l Q e S0 x E S)(hy:TD P C l Q e S0 y E S):TD P C l Q e S0 (.fork x y) E S :=
 ⟨fun L a w hok hfl ha hw hF=>by
  simp only[Tr.bare,zbQ,Bool.and_eq_true] at hfl
  exact⟨hx.run L a w hok.1 hfl.1 ha hw hF,hy.run L a w hok.2 hfl.2 ha hw hF⟩⟩
theorem zg2{m:Nat}{o:Oper}(hmode:m=0∨m=1){E':zaE} 
  (hy:∀a,Env C.n a E→YieldsIf P l.toArray (fun w=>if m=0 then Mem C w [] else Mem C w S0) o v a∧Env C.n (a.put o.dst v) E') (h:TD P C l Q e S0 t E' S):TD P C l Q e S0 (.step m i o t) E S:=by
 refine⟨fun L a w hok hfl ha hw hF=>?_⟩
 obtain⟨hy1,hy2⟩:=hy a ha
 have key:i≠e∧zbQ e (L.setIfInBounds i true) t.bare=true:=by
  rcases hmode with rfl|rfl
  ·simp only[Tr.bare,zbQ,Bool.and_eq_true,Bool.not_eq_true',beq_eq_false_iff_ne] at hfl
   exact hfl
  ·simp only[Tr.bare,zbQ,Bool.and_eq_true,Bool.not_eq_true',beq_eq_false_iff_ne] at hfl
   exact hfl
 simp only[semD]
 rw[if_pos (by omega)]
 exact⟨v,hy1,h.run _ _ w hok.2 key.2 hy2 hw (fun h=>hF (by rwa [getD_set_ne false key.1] at h))⟩
theorem yIf{G:World→Prop}{o:Oper}{a:Act}{dst:Option Tmp}{g:Option (Nat×Bool)}(ho:o=⟨dst,op,ty,ps,af,g⟩)(hw:Region.wanted o (yielded l.toArray a.tmps)=true) 
  (hr:∀w,G w→(execOp a.eval ⟨dst,op,ty,ps,af,g⟩).run P w=.ok (.value v) w):YieldsIf P l.toArray G o v a:=.inl ⟨hw,fun w h=>by rw[ho];exact hr w h⟩
/-! what is taken first -/
theorem za9(hq:QS P C E [] op ty v)(hd:Nat.ble (d+1) C.n=true)(h:TD P C l Q e S0 t ((d,v)::E) S):TD P C l Q e S0 (.step 0 i ⟨some d,op,ty,ps,af,none⟩ t) E S :=
 zg2 (v:=v) (.inl rfl) (fun a ha=>⟨yIf rfl (by simp[Region.wanted]) (fun w hw=>hq _ _ _ _ a w ha (by simpa using hw)),ha.put hd v⟩) h
theorem zba(hq:QS P C E S0 op ty v)(hd:Nat.ble (d+1) C.n=true)(h:TD P C l Q e S0 t ((d,v)::E) S):TD P C l Q e S0 (.step 1 i ⟨some d,op,ty,ps,af,none⟩ t) E S :=
 zg2 (v:=v) (.inr rfl) (fun a ha=>⟨yIf rfl (by simp[Region.wanted]) (fun w hw=>hq _ _ _ _ a w ha (by simpa using hw)),ha.put hd v⟩) h
section
variable {j k:Nat}{b want:Bool} 
theorem zg3{a:Act}{o:Oper}(ha:Env C.n a E)(ho:o.guard=some (j,want))(hj:zdo l j=some k)(hk:zeG k E=some (.bool b))(hb:b=want):Region.wanted o (yielded l.toArray a.tmps)=true:=by
 simp only[Region.wanted,ho,zfc ha hj hk,hb];simp
theorem wanted_no{a:Act}{o:Oper}(ha:Env C.n a E)(ho:o.guard=some (j,want))(hj:zdo l j=some k)(hk:zeG k E=some (.bool b))(hb:b=!want):Region.wanted o (yielded l.toArray a.tmps)=false:=by
 simp only[Region.wanted,ho,zfc ha hj hk,hb];cases want<;>rfl
theorem wanted_undef{a:Act}{o:Oper}(ha:Env C.n a E)(ho:o.guard=some (j,want))(hj:zdo l j=some k)(hk:zeG k E=some undef):Region.wanted o (yielded l.toArray a.tmps)=false:=by
 simp only[Region.wanted,ho,zgb ha hj hk];rfl
theorem zaN(hj:zdo l j=some k)(hk:zeG k E=some (.bool b))(hb:b=want)(hq:QS P C E [] op ty v)(hd:Nat.ble (d+1) C.n=true)(h:TD P C l Q e S0 t ((d,v)::E) S):TD P C l Q e S0 (.step 0 i ⟨some d,op,ty,ps,af,some (j,want)⟩ t) E S :=
 zg2 (v:=v) (.inl rfl) (fun a ha=>⟨yIf rfl (zg3 ha rfl hj hk hb) (fun w hw=>hq _ _ _ _ a w ha (by simpa using hw)),ha.put hd v⟩) h
theorem zaO(hj:zdo l j=some k)(hk:zeG k E=some (.bool b))(hb:b=want)(hq:QS P C E S0 op ty v)(hd:Nat.ble (d+1) C.n=true)(h:TD P C l Q e S0 t ((d,v)::E) S):TD P C l Q e S0 (.step 1 i ⟨some d,op,ty,ps,af,some (j,want)⟩ t) E S :=
 zg2 (v:=v) (.inr rfl) (fun a ha=>⟨yIf rfl (zg3 ha rfl hj hk hb) (fun w hw=>hq _ _ _ _ a w ha (by simpa using hw)),ha.put hd v⟩) h
theorem TD_no{m:Nat}(hm:Nat.ble m 1=true)(hj:zdo l j=some k)(hk:zeG k E=some (.bool b))(hb:b=!want)(hd:Nat.ble (d+1) C.n=true)(h:TD P C l Q e S0 t ((d,undef)::E) S):TD P C l Q e S0 (.step m i ⟨some d,op,ty,ps,af,some (j,want)⟩ t) E S :=
 zg2 (v:=undef) (by have:=Nat.le_of_ble_eq_true hm;omega) (fun a ha=>⟨.inr ⟨wanted_no ha rfl hj hk hb,rfl⟩,ha.put hd undef⟩) h
theorem TD_noU{m:Nat}(hm:Nat.ble m 1=true)(hj:zdo l j=some k)(hk:zeG k E=some undef)(hd:Nat.ble (d+1) C.n=true)(h:TD P C l Q e S0 t ((d,undef)::E) S):TD P C l Q e S0 (.step m i ⟨some d,op,ty,ps,af,some (j,want)⟩ t) E S :=
 zg2 (v:=undef) (by have:=Nat.le_of_ble_eq_true hm;omega) (fun a ha=>⟨.inr ⟨wanted_undef ha rfl hj hk,rfl⟩,ha.put hd undef⟩) h
theorem TD_guard{m:Nat}{dst:Option Tmp}(hj:zdo l j=some k)(hk:zeG k E=some (.bool b)) 
  (h1:b=true→TD P C l Q e S0 (.step m i ⟨dst,op,ty,ps,af,some (j,want)⟩ t) ((k,.bool true)::E) S)
  (h0:b=false→TD P C l Q e S0 (.step m i ⟨dst,op,ty,ps,af,some (j,want)⟩ t) ((k,.bool false)::E) S):TD P C l Q e S0 (.step m i ⟨dst,op,ty,ps,af,some (j,want)⟩ t) E S:=by
 refine⟨fun L a w hok hfl ha hw hF=>?_⟩
 cases hbb:b
 ·exact(h0 hbb).run L a w hok hfl (ha.same hk (by rw[hbb])) hw hF
 ·exact(h1 hbb).run L a w hok hfl (ha.same hk (by rw[hbb])) hw hF
end
/-! what acts, alone -/
theorem TD_act{m:Nat}{o:Oper}(hm:2≤m) 
  (hy:∀a w (K:Act→World→Prop),Env C.n a E→Mem C w S→(∀a' w' E' S',TD P C l Q e S0 t E' S'→Env C.n a' E'→Mem C w' S'→(m=2→Mem C w S0→Mem C w' S0)→K a' w') →
   if Region.wanted o (yielded l.toArray a.tmps) then o.wp P a w K Q∨(o.asks P a w∧LetsOut Q) else K (a.put o.dst undef) w):TD P C l Q e S0 (.step m i o t) E S:=by
 refine⟨fun L a w hok hfl ha hw hF=>?_⟩
 have hi:l.toArray[i]?=some o:=by simpa using hok.1
 have key:(m=2→i≠e)∧(m≠2→(L.setIfInBounds i true).getD e false=true)∧zbQ e (L.setIfInBounds i true) t.bare=true:=by
  match m,hm with
  |2,_ =>
   simp only[Tr.bare,zbQ,Bool.and_eq_true,Bool.not_eq_true',beq_eq_false_iff_ne] at hfl
   exact⟨fun _=>hfl.1,fun h=>absurd rfl h,hfl.2⟩
  |m+3,_ =>
   simp only[Tr.bare,zbQ,Bool.and_eq_true] at hfl
   exact⟨fun h=>absurd h (by omega),fun _=>hfl.1,hfl.2⟩
 obtain⟨k2,k3,k4⟩:=key
 simp only[semD]
 rw[if_neg (by omega)]
 unfold wpOp
 rw[hi]
 refine hy a w _ ha hw (fun a' w' E' S' htd ha' hw' hkeep=>?_)
 have hF':(L.setIfInBounds i true).getD e false=false→Mem C w' S0:=fun h=>by
  by_cases h2:m=2
  ·exact hkeep h2 (hF (by rwa [getD_set_ne false (k2 h2)] at h))
  ·rw[k3 h2] at h;cases h
 exact⟨⟨hw'.none,hF'⟩,htd.run _ a' w' hok.2 k4 ha' hw' hF'⟩
theorem zaf{o:Oper}{N:zaE→List Ent→Prop}(he:ES P C E S o N)(hg:o.guard=none)(h:∀E' S',N E' S'→S0.Sublist S'∧TD P C l Q e S0 t E' S'):TD P C l Q e S0 (.step 2 i o t) E S :=
 TD_act (by omega) fun a w K ha hw hK=>by
  rw[if_pos (by simp[Region.wanted,hg])]
  exact .inl (he a w K Q ha hw fun a' w' E' S' hN ha' hw'=>hK a' w' E' S' (h E' S' hN).2 ha' hw' (fun _ _=>hw'.sub (h E' S' hN).1))
theorem zae{o:Oper}{N:zaE→List Ent→Prop}(he:ES P C E S o N)(hg:o.guard=none)(h:∀E' S',N E' S'→TD P C l Q e S0 t E' S'):TD P C l Q e S0 (.step 3 i o t) E S :=
 TD_act (by omega) fun a w K ha hw hK=>by
  rw[if_pos (by simp[Region.wanted,hg])]
  exact .inl (he a w K Q ha hw fun a' w' E' S' hN ha' hw'=>hK a' w' E' S' (h E' S' hN) ha' hw' (fun h=>absurd h (by omega)))
theorem zbd(hq:QS P C E S op ty v)(hd:Nat.ble (d+1) C.n=true)(h:TD P C l Q e S0 t ((d,v)::E) S):TD P C l Q e S0 (.step 2 i ⟨some d,op,ty,ps,af,none⟩ t) E S :=
 TD_act (by omega) fun a w K ha hw hK=>by
  rw[if_pos (by simp[Region.wanted])]
  refine .inl ?_
  unfold Oper.wp
  rw[hq _ _ _ _ a w ha hw]
  exact hK _ _ _ _ h (ha.put hd v) hw (fun _ h=>h)
theorem zbe(hq:QS P C E S op ty v)(hd:Nat.ble (d+1) C.n=true)(h:TD P C l Q e S0 t ((d,v)::E) S):TD P C l Q e S0 (.step 3 i ⟨some d,op,ty,ps,af,none⟩ t) E S :=
 zae (zc3 (fun u S'=>u=v∧S'=S) (fun a w ha hw=>⟨v,w,S,hq _ _ _ _ a w ha hw,hw,rfl,rfl⟩) hd) rfl (by rintro _ _ ⟨_,⟨rfl,rfl⟩,rfl⟩;exact h)
section
variable {j k:Nat}{b want:Bool}{m:Nat} 
theorem TD_e2y{dst:Option Tmp}{N:zaE→List Ent→Prop}(hj:zdo l j=some k)(hk:zeG k E=some (.bool b))(hb:b=want)(he:ES P C E S ⟨dst,op,ty,ps,af,some (j,want)⟩ N) 
  (h:∀E' S',N E' S'→S0.Sublist S'∧TD P C l Q e S0 t E' S'):TD P C l Q e S0 (.step 2 i ⟨dst,op,ty,ps,af,some (j,want)⟩ t) E S :=
 TD_act (by omega) fun a w K ha hw hK=>by
  rw[if_pos (zg3 ha rfl hj hk hb)]
  exact .inl (he a w K Q ha hw fun a' w' E' S' hN ha' hw'=>hK a' w' E' S' (h E' S' hN).2 ha' hw' (fun _ _=>hw'.sub (h E' S' hN).1))
theorem TD_eno(hm:Nat.ble 2 m=true)(hj:zdo l j=some k)(hk:zeG k E=some (.bool b))(hb:b=!want)(hd:Nat.ble (d+1) C.n=true)(h:TD P C l Q e S0 t ((d,undef)::E) S):TD P C l Q e S0 (.step m i ⟨some d,op,ty,ps,af,some (j,want)⟩ t) E S :=
 TD_act (Nat.le_of_ble_eq_true hm) fun a w K ha hw hK=>by
  rw[if_neg (by rw[wanted_no ha rfl hj hk hb];exact Bool.false_ne_true)]
  exact hK _ _ _ _ h (ha.put hd undef) hw (fun _ h=>h)
end
/-! Blind posts -/
theorem Blind.seq{K:Act→World→Prop}(h:Blind Q):Blind (Exit.then K Q):=h
theorem Blind.block{id:Nat}(h:Blind Q):Blind (Exit.inBlock id Q):=h
theorem Blind.body{fn:Func}{R:Ending→World→Prop}:Blind (bodyPost P fn R):=fun c a dst v w h=>by
 cases dst<;>exact h
end
end
end Go.Proofs.YtjdckepbihcgfaaGreatDoor
