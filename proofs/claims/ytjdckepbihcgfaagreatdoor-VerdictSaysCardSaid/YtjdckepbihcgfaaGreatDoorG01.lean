/- Lemmas for the walks (Base, Between, Read, Equal, Hist1, Hist2, Own, Hist3, Tx1). No condition. -/
import Derived.WalkKit
import Derived.WalkSpells
import Derived.WalkLawsBesides
import Derived.Laws.Rows
import Derived.Lib.Hide
import Derived.Deep.WholeRow
import Derived.Deep.QuietTactic
import Derived.BigQuiet
import Derived.Test.YtjdckepbihcgfaaGreatDoorRows
import Derived.RegionTactic
import Derived.Deep.AppendLies
import Derived.Laws.OwnMore
import Derived.Deep.RegionHeld3
import Derived.Deep.DrawnRows
import Derived.BigRegion
import Derived.Lib.SplitLaws
import Derived.Lib.AtoiAllCases
import Derived.Lib.AtoiTie
import Derived.Lib.ItoaLen
import Derived.Lib.ItoaMem
set_option linter.unusedSimpArgs false
set_option linter.unusedVariables false
set_option linter.unusedSectionVars false
set_option linter.unnecessarySimpa false
set_option maxRecDepth 100000
set_option maxHeartbeats 8000000
namespace Go.Proofs.YtjdckepbihcgfaaGreatDoor
section
open Go.RowKit
def Blk(w:World)(g:Nat)(t:TypeId)(cs:Array Value):Prop:=w.heap[g]?=some (.cells cs t (0,0))
section
variable {w w':World}{g:Nat}{t:TypeId}{cs:Array Value} 
theorem Blk.lt(h:Blk w g t cs):g<w.heap.size:=by
 rcases Nat.lt_or_ge g w.heap.size with hlt|hge
 ·exact hlt
 ·unfold Blk at h;rw[Array.getElem?_eq_none hge] at h;cases h
theorem Blk.cell(h:Blk w g t cs)(i:Nat):w.cell? ⟨g,i,none⟩=cs[i]?:=cell_of_row w g i cs t (0,0) h
theorem Blk.frozen(h:Blk w g t cs)(i:Nat):w.frozen? ⟨g,i,none⟩=false:=by
 unfold Blk at h
 simp[World.frozen?,h]
theorem Blk.new(w:World)(t:TypeId)(cs:Array Value):Blk (w.alloc (.cells cs t)) w.heap.size t cs:=heap_alloc_new w _
theorem Blk.drew(h:Blk w g t cs):Blk w.drew g t cs:=h
theorem Blk.drewN(h:Blk w g t cs)(n:Nat):Blk (w.drewN n) g t cs:=h
theorem Blk.alloc(h:Blk w g t cs)(o:Obj):Blk (w.alloc o) g t cs:=(Below.heap_alloc w o g h.lt).trans h
theorem Blk.set_(h:Blk w g t cs)(i:Nat)(u:Value):Blk (w.setCell ⟨g,i,none⟩ u) g t (cs.setIfInBounds i u):=by
 unfold Blk at h ⊢
 simp[World.setCell,Array.getElem?_modify,h]
theorem Blk.far(h:Blk w g t cs){p:Addr}(hp:g≠p.block)(u:Value):Blk (w.setCell p u) g t cs:=(Below.heap_setCell w p u g hp).trans h
theorem Blk.carry(h:Blk w g t cs)(hb:Below w.heap.size w w'):Blk w' g t cs:=(hb.block g h.lt).trans h
theorem Blk.below{B:Nat}(h:Blk w g t cs)(hb:Below B w w')(hg:g<B):Blk w' g t cs:=(hb.block g hg).trans h
end
theorem zaA{B:Nat}{a w:World}(h:Below B a w)(n:Nat):Below B a (w.drewN n):=⟨h.os,h.tape,h.output,h.size,h.block⟩
def rowOf(w:World)(g:Nat):Array Value:=match w.heap[g]? with|some (.cells cs _ (0,0))=>cs|_=>#[]
theorem Blk.rowOf{w:World}{g:Nat}{t:TypeId}{cs:Array Value}(h:Blk w g t cs):rowOf w g=cs:=by
 unfold Blk at h
 simp[Go.Proofs.YtjdckepbihcgfaaGreatDoor.rowOf,h]
def ziv:Value→Nat
 |.pointer (some a)=>a.block
 |_=>0
def isRow(w:World)(n:Nat):Value→Bool
 |.pointer (some ⟨g,0,none⟩)=>(rowOf w g).size == n
 |_=>false
def aggOf:Value→Array Value
 |.agg cs=>cs
 |_=>#[]
def zf5(cs:Array Value):Bool:=cs.all (·.oneCell')
@[go_sem] theorem oneCells_list (l:List Value):zf5 l.toArray=l.all (·.oneCell'):=by simp[zf5]
@[go_sem] theorem one_int (k:IntKind) (n:Int):(Value.int k n).oneCell'=true:=rfl
@[go_sem] theorem one_bool (b:Bool):(Value.bool b).oneCell'=true:=rfl
@[go_sem] theorem one_ptr (a:Option Addr):(Value.pointer a).oneCell'=true:=rfl
@[go_sem] theorem one_slice (a:Option Addr) (n c:Nat):(Value.slice a n c).oneCell'=true:=rfl
@[go_sem] theorem one_map (a:Option Nat):(Value.map a).oneCell'=true:=rfl
@[go_sem] theorem one_string (s:ByteArray):(Value.string s).oneCell'=true:=rfl
def isAggOf(n:Nat):Value→Bool
 |.agg cs=>cs.size == n&&zf5 cs
 |_=>false
@[go_sem] theorem ptrBlk_mk (g:Nat):ziv (.pointer (some ⟨g,0,none⟩))=g:=rfl
@[go_sem] theorem isRow_mk (w:World) (n g:Nat):isRow w n (.pointer (some ⟨g,0,none⟩))=((rowOf w g).size == n):=rfl
@[go_sem] theorem aggOf_mk (cs:Array Value):aggOf (.agg cs)=cs:=rfl
@[go_sem] theorem isAggOf_mk (n:Nat) (cs:Array Value):isAggOf n (.agg cs)=(cs.size == n&&zf5 cs):=rfl
theorem isRow_spec{w:World}{n:Nat}{v:Value}(hn:0<n)(h:isRow w n v=true):∃g t cs,v=.pointer (some ⟨g,0,none⟩)∧w.heap[g]?=some (.cells cs t (0,0))∧cs.size=n:=by
 unfold isRow at h
 split at h
 ·rename_i g
  refine⟨g,?_⟩
  unfold rowOf at h
  split at h
  ·rename_i cs t hg
   exact⟨t,cs,rfl,hg,by simpa using h⟩
  ·simp at h;omega
 ·cases h
theorem exec_load_row{P:Program}(ty n:Nat)(d:TypeDesc)(hn:0<n)(hu:P.underlying ty=some d)(hd:(match d with | .struct _ | .array _ _=>true|_=>false)=true)(hi:(P.info? ty).map (·.size)=some n) 
  (ev:Operand→Value) (dst:Option Tmp) (x:Operand) (t:TypeId) (pos:String) (after:Array Edge) (guard:Option (Nat×Bool)) (w:World) (h:isRow w n (ev x)=true) :
  (execOp ev { dst,op:=.load ty x,type:=t,pos,after,guard }).run P w=.ok (.value (.agg (rowOf w (ziv (ev x))))) w:=by
 obtain⟨g,t',cs,hv,hg,hs⟩:=isRow_spec hn h
 have hr:rowOf w g=cs:=by simp[rowOf,hg]
 unfold execOp
 simp only[hv,Instr.loadAt,Instr.sureAddr,Sem.run_bind,Sem.run_pure,Result.andThen_ok,ziv,hr,run_loadVar_row w g t' ty cs (0,0) d hg hu hd (by rw[hs];exact hi)]
theorem exec_store_row{P:Program}(ty n:Nat)(hn:0<n)(hi:(P.info? ty).map (·.size)=some n) 
  (ev:Operand→Value) (dst:Option Tmp) (x y:Operand) (t:TypeId) (pos:String) (after:Array Edge) (guard:Option (Nat×Bool)) (w:World) (h:isRow w n (ev x)=true) (h2:isAggOf n (ev y)=true) :
  (execOp ev { dst,op:=.store ty x y,type:=t,pos,after,guard }).run P w=.ok .skip (w.setRow (ziv (ev x)) (aggOf (ev y))):=by
 obtain⟨g,t',cs,hv,hg,hs⟩:=isRow_spec hn h
 unfold isAggOf at h2
 split at h2
 ·rename_i cells hy
  simp only[Bool.and_eq_true,beq_iff_eq] at h2
  unfold execOp
  simp only[hv,hy,Instr.storeAt,Instr.sureAddr,Sem.run_bind,Sem.run_pure,Result.andThen_ok,ziv,aggOf,run_storeVar_row w g t' ty cs cells hg (by rw[h2.1];exact hi) (by rw[hs,h2.1]) h2.2]
 ·cases h2
@[go_sem] theorem setRow_alloc_at (w:World) (c c':Array Value) (t:TypeId) (n:Nat) (h:n=w.heap.size):(w.alloc (.cells c t)).setRow n c'=w.alloc (.cells c' t):=by
 subst h;exact World.setRow_alloc_new w c c' t
@[go_sem] theorem rowOf_alloc_at (w:World) (c:Array Value) (t:TypeId) (n:Nat) (h:n=w.heap.size):rowOf (w.alloc (.cells c t)) n=c:=by
 subst h;exact(Blk.new w t c).rowOf
@[go_sem] theorem rowOf_alloc_past (w:World) (o:Obj) (n:Nat) (h:n<w.heap.size):rowOf (w.alloc o) n=rowOf w n:=by
 simp only[rowOf,Below.heap_alloc w o n h]
@[go_sem] theorem rowOf_drew (w:World) (n:Nat):rowOf w.drew n=rowOf w n:=rfl
@[go_sem] theorem rowOf_drewN (w:World) (n k:Nat):rowOf (w.drewN k) n=rowOf w n:=rfl
@[go_sem] theorem rowOf_setRow_other (w:World) (g k:Nat) (cs:Array Value) (h:g≠k):rowOf (w.setRow k cs) g=rowOf w g:=by
 simp only[rowOf,setRow_other w k g cs h]
@[go_sem] theorem rowOf_setCell_other (w:World) (g:Nat) (p:Addr) (u:Value) (h:g≠p.block):rowOf (w.setCell p u) g=rowOf w g:=by
 simp only[rowOf,Below.heap_setCell w p u g h]
def u16s(f:Nat→Nat)(n:Nat):List Value:=(List.range n).map fun i=>Value.int .u16 (f i)
def zat(n:Int)(f:Nat→Nat):Array Value:=((.int .i64 n)::u16s f 12).toArray
def upd(f:Nat→Nat)(i v:Nat):Nat→Nat:=fun j=>if j=i then v else f j
theorem zaD(n:Int)(f:Nat→Nat):(zat n f).size=13:=by simp[zat,u16s]
theorem zhy(n:Int)(f:Nat→Nat):(zat n f).all (·.oneCell')=true:=by
 simp[zat,u16s,Value.oneCell']
theorem relCells_ones(n:Int)(f:Nat→Nat):zf5 (zat n f)=true:=zhy n f
theorem zgU(n:Int)(f:Nat→Nat):(zat n f)[0]?=some (.int .i64 n):=by simp[zat]
theorem zcx(n:Int)(f:Nat→Nat)(i:Nat)(h:i<12):(zat n f)[1+i]?=some (.int .u16 (f i)):=by
 simp[zat,u16s,Nat.add_comm 1 i,h]
theorem zhz(n:Int)(f:Nat→Nat)(i v:Nat)(h:i<12):(zat n f).setIfInBounds (1+i) (.int .u16 v)=zat n (upd f i v):=by
 apply Array.ext_getElem?
 intro j
 rw[Array.getElem?_setIfInBounds]
 rcases j with _|j
 ·simp[zat]
 ·by_cases hj:j=i
  ·subst hj
   rw[if_pos (by omega),if_pos (by rw[zaD];omega),Nat.add_comm j 1,zcx _ _ _ h]
   simp[upd]
  ·rw[if_neg (by omega)]
   by_cases hj2:j<12
   ·rw[Nat.add_comm j 1,zcx _ _ _ hj2,zcx _ _ _ hj2];simp[upd,hj]
   ·rw[Array.getElem?_eq_none (by rw[zaD];omega),Array.getElem?_eq_none (by rw[zaD];omega)]
theorem zaI{w X:World}(h:Below w.heap.size w X)(o:Obj):Below w.heap.size w (X.alloc o):=h.alloc h.size o
theorem zbs{w X:World}(h:Below w.heap.size w X){p:Addr}(hp:w.heap.size≤p.block)(u:Value):Below w.heap.size w (X.setCell p u):=h.setCell hp u
theorem zeH{a b c:World}(h:Below a.heap.size a b)(k:Below b.heap.size b c):Below a.heap.size a c:=h.trans (k.mono h.size)
theorem zbt{w X:World}(h:Below w.heap.size w X){g:Nat}(hg:w.heap.size≤g)(cs:Array Value):Below w.heap.size w (X.setRow g cs) :=
 h.trans ⟨rfl,rfl,rfl,by simp,fun k hk=>setRow_other X g k cs (by omega)⟩
theorem Blk.row{w:World}{g:Nat}{t:TypeId}{cs:Array Value}(h:Blk w g t cs)(cs':Array Value):Blk (w.setRow g cs') g t cs':=setRow_heap w g cs cs' t _ h
theorem zgV{k:IntKind}{a b:Int}(h:a=b):Ending.returned (.int k a)=.returned (.int k b):=by rw[h]
theorem zd7{a b:Bool}(h:a=b):Ending.returned (.bool a)=.returned (.bool b):=by rw[h]
/-! A region that draws its order, whose operations only read, and whose callees make memory at most: walked once, in the order of the text. -/
section
variable {P:Program}{ops:Array Oper}{Q:Act→Prop}{a:Act}{o:Oper}{rest:List Oper}{w:World} 
theorem Calls.same_below{P:Program}{f:FuncId}{args:Array Value}{w:World}{v:Value}(h:Calls P f args w fun e w'=>e=.returned v∧w=w'):
  Calls P f args w fun e w'=>e=.returned v∧Below w.heap.size w w':=h.mono fun _ _ ⟨he,hw⟩=>⟨he,by subst hw;exact Below.refl _ _⟩
end
def zbM(p:Nat→Bool):Nat→Nat
 |0=>0
 |m+1=>zbM p m+(if p m then 2^m else 0)
theorem ziw(p:Nat→Bool):∀m,zbM p m<2^m
 |0=>by simp[zbM]
 |m+1=>by
  have:=ziw p m
  rw[zbM,Nat.pow_succ]
  split<;>omega
theorem zcD(p:Nat→Bool):∀m j,(zbM p m).testBit j=(decide (j<m)&&p j)
 |0,j=>by simp[zbM]
 |m+1,j=>by
  have hlt:=ziw p m
  have ih:=zcD p m j
  rw[zbM]
  by_cases hp:p m
  ·rw[if_pos hp]
   by_cases hj:j=m
   ·subst hj
    rw[Nat.add_comm,Nat.testBit_two_pow_add_eq,Nat.testBit_lt_two_pow hlt]
    simp[hp]
   ·by_cases hj2:j<m
    ·rw[Nat.add_comm,Nat.testBit_two_pow_add_gt hj2,ih]
     have:j<m+1:=by omega
     simp[hj2,this]
    ·rw[Nat.testBit_lt_two_pow (Nat.lt_of_lt_of_le (show zbM p m+2^m<2^(m+1) by rw[Nat.pow_succ];omega) (Nat.pow_le_pow_right (by omega) (by omega)))]
     have:¬j<m+1:=by omega
     simp[this]
  ·rw[if_neg hp,Nat.add_zero,ih]
   by_cases hj:j=m
   ·subst hj;simp[hp]
   ·have:(j<m)↔(j<m+1):=by omega
    simp[this]
end
section
open Go.RowKit
theorem zbu(a b c:Int)(w:World):
  Calls Tryz.prog 67 #[.int .i64 a,.int .i64 b,.int .i64 c] w fun e w'=>e=.returned (.bool (decide (b≤a)&&decide (a≤c)))∧w=w':=by
 by_cases h1:b≤a
 ·by_cases h2:a≤c
  ·go_enter Tryz.func67,Tryz.ntmps67
   go_wp2
   go_ret
   simp[h1,h2]
  ·go_enter Tryz.func67,Tryz.ntmps67
   go_wp2
   go_ret
   simp;omega
 ·have h1':decide (b≤a)=false:=by simpa using h1
  go_enter Tryz.func67,Tryz.ntmps67
  go_wp2
  go_ret
  simp
end
section
open Go.RowKit
def RdE{α:Type}(enc:α→List Value)(m:Nat)(w:World)(A:Option Addr)(l:List α):Prop :=
 ∀i x,l[i]?=some x→∃b o,A=some ⟨b,o,none⟩∧b<w.heap.size∧∀j v,(enc x)[j]?=some v→w.cell? ⟨b,o+i * m+j,none⟩=some v
section
variable {α:Type}{enc:α→List Value}{m:Nat}{w w':World}{A:Option Addr}{l:List α} 
theorem RdE.below(h:RdE enc m w A l)(hb:Below w.heap.size w w'):RdE enc m w' A l:=by
 intro i s hs
 obtain⟨b,o,h1,h2,h3⟩:=h i s hs
 exact⟨b,o,h1,Nat.lt_of_lt_of_le h2 hb.size,fun j v hv=>(hb.cell (p:=⟨b,_,none⟩) h2).trans (h3 j v hv)⟩
theorem RdE.at_(h:RdE enc m w A l)(hb:Below w.heap.size w w')(k:Nat)(hk:k<l.length):
  ∃b o,A=some ⟨b,o,none⟩∧b<w.heap.size∧b<w'.heap.size∧∀j v,(enc l[k])[j]?=some v→w'.cell? ⟨b,o+k * m+j,none⟩=some v:=by
 obtain⟨b,o,h1,h2,h3⟩:=h k l[k] (by simp[hk])
 exact⟨b,o,h1,h2,Nat.lt_of_lt_of_le h2 hb.size,fun j v hv=>(hb.cell (p:=⟨b,_,none⟩) h2).trans (h3 j v hv)⟩
theorem RdE.take(h:RdE enc m w A l)(k:Nat):RdE enc m w A (l.take k):=by
 intro i x hx
 rw[List.getElem?_take] at hx
 split at hx
 ·exact h i x hx
 ·cases hx
theorem RdE.nil(A:Option Addr):RdE enc m w A []:=fun i x hx=>by simp at hx
end
theorem zix{α β:Type}(f:β→α→β)(b:β)(l:List α)(k:Nat)(hk:k<l.length):(l.take (k+1)).foldl f b=f ((l.take k).foldl f b) l[k]:=by
 rw[List.take_succ_eq_append_getElem hk,List.foldl_append]
 rfl
theorem zdJ{α:Type}{p:α→Bool}{l:List α}{k:Nat}(hk:k<l.length)(h:(l.take k).any p=false)(hb:p l[k]=false):(l.take (k+1)).any p=false:=by
 rw[List.take_succ_eq_append_getElem hk,List.any_append,h]
 simp[hb]
theorem findIdx_at{α:Type}{p:α→Bool}{l:List α}{k:Nat}(hk:k<l.length)(h:(l.take k).any p=false)(hb:p l[k]=true):l.findIdx p=k:=by
 rw[List.findIdx_eq hk]
 refine⟨hb,fun j hj=>?_⟩
 have:=List.any_eq_false.1 h l[j] (by rw[List.mem_take_iff_getElem];exact⟨j,by omega,rfl⟩)
 simpa using this
def ints(f:Nat→Int)(n:Nat):Array Value:=((List.range n).map fun i=>Value.int .i64 (f i)).toArray
def bools(f:Nat→Bool)(n:Nat):Array Value:=((List.range n).map fun i=>Value.bool (f i)).toArray
def upz{β:Type}(f:Nat→β)(i:Nat)(v:β):Nat→β:=fun j=>if j=i then v else f j
theorem zf6(f:Nat→Int)(n:Nat):(ints f n).size=n:=by simp[ints]
theorem zbI(f:Nat→Bool)(n:Nat):(bools f n).size=n:=by simp[bools]
theorem ints_at(f:Nat→Int)(n i:Nat)(h:i<n):(ints f n)[i]?=some (.int .i64 (f i)):=by simp[ints,h]
theorem bools_at(f:Nat→Bool)(n i:Nat)(h:i<n):(bools f n)[i]?=some (.bool (f i)):=by simp[bools,h]
theorem ints_set(f:Nat→Int)(n i:Nat)(v:Int):(ints f n).setIfInBounds i (.int .i64 v)=ints (upz f i v) n:=by
 apply Array.ext_getElem?
 intro j
 rw[Array.getElem?_setIfInBounds]
 by_cases hj:j<n
 ·rw[ints_at _ _ _ hj,ints_at _ _ _ hj,zf6]
  by_cases h:i=j
  ·subst h;simp[upz,hj]
  ·have h':¬j=i:=fun e=>h e.symm
   simp[upz,h,h']
 ·rw[Array.getElem?_eq_none (by rw[zf6];omega),Array.getElem?_eq_none (by rw[zf6];omega)]
  split
  ·rw[if_neg (by rw[zf6];omega)]
  ·rfl
theorem zdP(f:Nat→Bool)(n i:Nat)(v:Bool):(bools f n).setIfInBounds i (.bool v)=bools (upz f i v) n:=by
 apply Array.ext_getElem?
 intro j
 rw[Array.getElem?_setIfInBounds]
 by_cases hj:j<n
 ·rw[bools_at _ _ _ hj,bools_at _ _ _ hj,zbI]
  by_cases h:i=j
  ·subst h;simp[upz,hj]
  ·have h':¬j=i:=fun e=>h e.symm
   simp[upz,h,h']
 ·rw[Array.getElem?_eq_none (by rw[zbI];omega),Array.getElem?_eq_none (by rw[zbI];omega)]
  split
  ·rw[if_neg (by rw[zbI];omega)]
  ·rfl
end
section
open Go.RowKit
def zag(z:Int):List Value:=[.int .i64 z]
def RdInt(w:World)(A:Option Addr)(l:List Int):Prop:=RdE zag 1 w A l
theorem RdInt.at_{w wr:World}{A:Option Addr}{l:List Int}(h:RdInt w A l)(hb:Below w.heap.size w wr)(k:Nat)(hk:k<l.length):
  ∃b o,A=some ⟨b,o,none⟩∧b<w.heap.size∧b<wr.heap.size∧wr.cell? ⟨b,o+k,none⟩=some (.int .i64 l[k]):=by
 obtain⟨b,o,h1,h2,h3,h4⟩:=RdE.at_ h hb k hk
 have:=h4 0 _ rfl
 rw[Nat.mul_one] at this
 exact⟨b,o,h1,h2,h3,this⟩
theorem RdInt.of_list{w:World}{g t:Nat}{l:List Int}(h:Blk w g t (l.map (Value.int .i64)).toArray):RdInt w (some ⟨g,0,none⟩) l:=by
 intro i x hx
 refine⟨g,0,rfl,h.lt,fun j v hv=>?_⟩
 match j,hv with
 |0,hv =>
  obtain rfl:v=.int .i64 x:=by simpa[zag] using hv.symm
  have:=h.cell i
  simp only[List.getElem?_toArray,List.getElem?_map,hx,Option.map_some] at this
  simpa using this
 |j+1,hv=>simp[zag] at hv
end
section
open Go.RowKit
def typeF(k:Int):Int:=if k=1∨k=2 then 1 else if k=3∨k=4 then 2 else if k=5∨k=6 then 3 else if k=7∨k=8∨k=9 then 4 else if k=10 then 5 else 0
def zdK(t k:Int):Bool:=decide (t≠0∧typeF k=t)
def zdO(k n:Int):Bool:=if k=2∨k=4∨k=6∨k=10 then decide (n=0) else decide (1≤n∧n≤1000)
def resB(k n:Int):Bool:=if k=2∨k=10 then decide (0≤n∧n≤1000) else if k=4∨k=6 then decide (n=-1∨(1≤n∧n≤1000)) else if k=7∨k=8∨k=9 then decide (n=0∨n=1) else decide (n=0)
def ansB(k n:Int):Bool:=if k=2∨k=10 then decide (0≤n∧n≤1000) else if k=4∨k=6 then decide (n=-1∨(1≤n∧n≤1000)) else if 7≤k then decide (0≤n∧n≤1) else decide (n=0)
def zaZ(t:Int):List Int:=if t=1 then[1,2] else if t=2 then[3,4] else if t=3 then[5,6] else if t=4 then[7,8,9] else if t=5 then[10] else[]
theorem ziy(t k:Int):zdK t k=(zaZ t).contains k:=by
 rw[Bool.eq_iff_iff]
 unfold zdK typeF zaZ
 simp only[decide_eq_true_eq]
 repeat' split
 all_goals(simp only[List.contains_cons,List.contains_nil,Bool.or_eq_true,beq_iff_eq,Bool.false_eq_true,or_false,iff_false,not_and];omega)
theorem typeF_pos{k t:Int}(h:zdK t k=true):1≤k∧k≤10:=by
 unfold zdK typeF at h
 simp only[decide_eq_true_eq] at h
 obtain⟨h0,h⟩:=h
 repeat' split at h
 all_goals omega
theorem resB_ansB{k n:Int}(h1:1≤k)(h2:k≤10):resB k n=ansB k n:=by
 unfold resB ansB
 repeat' split
 all_goals first|rfl|omega|(apply decide_eq_decide.2;omega)
theorem typeOf_any(k:Int)(w:World):Calls Tryz.prog 137 #[.int .i64 k] w fun e w'=>e=.returned (.int .i64 (typeF k))∧w=w':=by
 go_enter Tryz.func137,Tryz.ntmps137
 go_wp2
 all_goals
  go_ret
  refine⟨zgV ?_,rfl⟩
  simp only[beq_iff_eq,beq_eq_false_iff_ne] at *
  unfold typeF
  repeat' split
  all_goals omega
theorem fits_any(t k:Int)(w:World):Calls Tryz.prog 92 #[.int .i64 t,.int .i64 k] w fun e w'=>e=.returned (.bool (zdK t k))∧w=w':=by
 by_cases ht:t=0
 ·subst ht
  go_enter Tryz.func92,Tryz.ntmps92
  go_wp2
  go_ret
  simp[zdK]
 ·have ht':(t != 0)=true:=by simpa using ht
  go_enter Tryz.func92,Tryz.ntmps92
  go_wp2_with (go_at_call 137;refine(typeOf_any _ _).mono ?_;rintro e w' ⟨rfl,rfl⟩)
  go_ret
  exact⟨zd7 (by rw[Bool.eq_iff_iff];simp[zdK,ht]),rfl⟩
theorem zeI(k n:Int)(w:World):Calls Tryz.prog 93 #[.int .i64 k,.int .i64 n] w fun e w'=>e=.returned (.bool (zdO k n))∧w=w':=by
 go_enter Tryz.func93,Tryz.ntmps93
 go_wp2
 all_goals
  go_ret
  refine⟨zd7 ?_,rfl⟩
  try simp only[beq_iff_eq,beq_eq_false_iff_ne] at *
  rw[Bool.eq_iff_iff]
  unfold zdO
  repeat' split
  all_goals first|(simp only[Bool.not_eq_true',Bool.not_eq_false',decide_eq_true_eq,decide_eq_false_iff_not,Bool.and_eq_true,Bool.or_eq_true,Bool.or_eq_false_iff,Bool.and_eq_false_iff,beq_iff_eq,Bool.false_eq_true,false_iff,iff_false,true_iff,iff_true] at *;done)|(simp only[Bool.not_eq_true',Bool.not_eq_false',decide_eq_true_eq,decide_eq_false_iff_not,Bool.and_eq_true,Bool.or_eq_true,Bool.or_eq_false_iff,Bool.and_eq_false_iff,beq_iff_eq,Bool.false_eq_true,false_iff,iff_false,true_iff,iff_true] at *;omega)
theorem result_any(k n:Int)(w:World):Calls Tryz.prog 94 #[.int .i64 k,.int .i64 n] w fun e w'=>e=.returned (.bool (resB k n))∧w=w':=by
 go_enter Tryz.func94,Tryz.ntmps94
 go_wp2
 all_goals
  go_ret
  refine⟨zd7 ?_,rfl⟩
  try simp only[beq_iff_eq,beq_eq_false_iff_ne] at *
  rw[Bool.eq_iff_iff]
  unfold resB
  repeat' split
  all_goals first|(simp only[Bool.not_eq_true',Bool.not_eq_false',decide_eq_true_eq,decide_eq_false_iff_not,Bool.and_eq_true,Bool.or_eq_true,Bool.or_eq_false_iff,Bool.and_eq_false_iff,beq_iff_eq,Bool.false_eq_true,false_iff,iff_false,true_iff,iff_true] at *;done)|(simp only[Bool.not_eq_true',Bool.not_eq_false',decide_eq_true_eq,decide_eq_false_iff_not,Bool.and_eq_true,Bool.or_eq_true,Bool.or_eq_false_iff,Bool.and_eq_false_iff,beq_iff_eq,Bool.false_eq_true,false_iff,iff_false,true_iff,iff_true] at *;omega)
theorem ziz(k n:Int)(w:World):Calls Tryz.prog 70 #[.int .i64 k,.int .i64 n] w fun e w'=>e=.returned (.bool (ansB k n))∧w=w':=by
 go_enter Tryz.func70,Tryz.ntmps70
 go_wp2_with (go_at_call 67;refine(zbu _ _ _ _).mono ?_;rintro e w' ⟨rfl,rfl⟩)
 all_goals
  go_ret
  refine⟨zd7 ?_,rfl⟩
  try simp only[beq_iff_eq,beq_eq_false_iff_ne] at *
  rw[Bool.eq_iff_iff]
  unfold ansB
  repeat' split
  all_goals first|(simp only[Bool.not_eq_true',Bool.not_eq_false',decide_eq_true_eq,decide_eq_false_iff_not,Bool.and_eq_true,Bool.or_eq_true,Bool.or_eq_false_iff,Bool.and_eq_false_iff,beq_iff_eq,Bool.false_eq_true,false_iff,iff_false,true_iff,iff_true] at *;done)|(simp only[Bool.not_eq_true',Bool.not_eq_false',decide_eq_true_eq,decide_eq_false_iff_not,Bool.and_eq_true,Bool.or_eq_true,Bool.or_eq_false_iff,Bool.and_eq_false_iff,beq_iff_eq,Bool.false_eq_true,false_iff,iff_false,true_iff,iff_true] at *;omega)
end
section
open Go.RowKit
def idxI(l:List Int)(x:Int):Int:=if x∈l then(l.idxOf x:Int) else -1
theorem idxI_nn(l:List Int)(x:Int):decide (0≤idxI l x)=l.contains x:=by
 rw[Bool.eq_iff_iff]
 unfold idxI
 by_cases h:x∈l<;>simp[h]
theorem index_any(A:Option Addr)(c:Nat)(l:List Int)(x:Int)(w:World)(hl:l.length≤9223372036854775807)(hA:RdInt w A l):
  Calls Tryz.prog 129 #[.slice A l.length c,.int .i64 x] w fun e w'=>e=.returned (.int .i64 (idxI l x))∧Below w.heap.size w w':=by
 go_enter Tryz.func129,Tryz.ntmps129
 go_wp2
 go_loopw [8] (fun i wr=>∃k:Nat,k≤l.length∧i=.int .i64 k∧Hid (x∉l.take k)∧Below w.heap.size w wr) (fun i _=>l.length-(intOf i).toNat)
 case atStart=>exact⟨0,by omega,rfl,Lib.hid (by simp),Below.refl _ _⟩
 case round =>
  obtain⟨k,hk,rfl,hno,hbel⟩:=hrel
  by_cases hlt:k<l.length
  ·obtain⟨b,o,rfl,hb0,hbs,c0⟩:=hA.at_ hbel k hlt
   have hk1:(k:Int)<(l.length:Int):=by omega
   by_cases he:x=l[k]
   ·have hb:(x == l[k])=true:=by simp[he]
    have He:=Lib.hid he
    clear he
    go_wp2
    go_ret
    exact⟨zgV (by
     have hm:x∈l:=by rw[He.out];exact List.getElem_mem _
     unfold idxI
     rw[if_pos hm]
     have:l.idxOf x=k:=findIdx_at hlt (by
      rw[List.any_eq_false]
      intro y hy e
      rw[beq_iff_eq] at e
      subst e
      exact hno.out hy) (by simp[He.out])
     rw[this]),by(repeat(first|assumption|exact Below.refl _ _|refine zaI ?_ _|refine Below.drew ?_|refine zaA ?_ _|(refine zbs ?_ (by first|(simp;done)|(simp;omega)) _)|(refine zbt ?_ (by first|(simp;done)|(simp;omega)) _)))⟩
   ·have hb:(x == l[k])=false:=by simp[he]
    have He:=Lib.hid he
    clear he
    go_wp2
    go_roundw
    case rel=>exact⟨k+1,by omega,by go_num,Lib.hid (by
     rw[List.take_succ_eq_append_getElem hlt]
     simp only[List.mem_append,List.mem_singleton,not_or]
     exact⟨hno.out,He.out⟩),by(repeat(first|assumption|exact Below.refl _ _|refine zaI ?_ _|refine Below.drew ?_|refine zaA ?_ _|(refine zbs ?_ (by first|(simp;done)|(simp;omega)) _)|(refine zbt ?_ (by first|(simp;done)|(simp;omega)) _)))⟩
    case measure=>simp[intOf];omega
  ·obtain rfl:k=l.length:=by omega
   go_wp2
   go_ret
   exact⟨zgV (by
    unfold idxI
    rw[if_neg]
    simpa using hno.out),hbel⟩
theorem zcg(A:Option Addr)(c:Nat)(l:List Int)(x:Int)(w:World)(hl:l.length≤9223372036854775807)(hA:RdInt w A l):
  Calls Tryz.prog 71 #[.slice A l.length c,.int .i64 x] w fun e w'=>e=.returned (.bool (l.contains x))∧Below w.heap.size w w':=by
 go_enter Tryz.func71,Tryz.ntmps71
 go_wp2_with (go_at_call 129;refine(index_any _ _ _ _ _ hl hA).mono ?_;rintro e w' ⟨rfl,hb⟩)
 go_ret
 exact⟨zd7 (by rw[←idxI_nn]),by(repeat(first|assumption|exact Below.refl _ _|refine zaI ?_ _|refine Below.drew ?_|refine zaA ?_ _|(refine zbs ?_ (by first|(simp;done)|(simp;omega)) _)|(refine zbt ?_ (by first|(simp;done)|(simp;omega)) _)))⟩
theorem ziA(t:Int)(w:World):Calls Tryz.prog 90 #[.int .i64 t] w fun e w'=>e=.returned (.bool (decide (t<1∨5<t)))∧w=w':=by
 by_cases h1:t<1
 ·have hb:decide (t<1)=true:=by simpa using h1
  go_enter Tryz.func90,Tryz.ntmps90
  go_wp2
  go_ret
  simp[h1]
 ·have hb:decide (t<1)=false:=by simpa using h1
  go_enter Tryz.func90,Tryz.ntmps90
  go_wp2
  go_ret
  simp[h1]
def badT(t:Int):Bool:=decide (t<1∨5<t)
theorem indexFunc_any(A:Option Addr)(c:Nat)(l:List Int)(w:World)(hl:l.length≤9223372036854775807)(hA:RdInt w A l):
  Calls Tryz.prog 136 #[.slice A l.length c,.func (.func 90) #[] #[]] w fun e w'=>(∃r:Int,e=.returned (.int .i64 r)∧decide (0≤r)=l.any badT)∧Below w.heap.size w w':=by
 go_enter Tryz.func136,Tryz.ntmps136
 go_wp2
 go_loopw [8] (fun i wr=>∃k:Nat,k≤l.length∧i=.int .i64 k∧Hid ((l.take k).any badT=false)∧Below w.heap.size w wr) (fun i _=>l.length-(intOf i).toNat)
 case atStart=>exact⟨0,by omega,rfl,Lib.hid (by simp),Below.refl _ _⟩
 case round =>
  obtain⟨k,hk,rfl,hno,hbel⟩:=hrel
  by_cases hlt:k<l.length
  ·obtain⟨b,o,rfl,hb0,hbs,c0⟩:=hA.at_ hbel k hlt
   have hk1:(k:Int)<(l.length:Int):=by omega
   by_cases he:badT l[k]=true
   ·have hb:decide (l[k]<1∨5<l[k])=true:=he
    have He:=Lib.hid he
    clear he
    go_wp2_with (go_at_call 90;refine(ziA _ _).mono ?_;rintro e w' ⟨rfl,rfl⟩)
    go_ret
    exact⟨⟨_,rfl,by
     have:l.any badT=true:=List.any_eq_true.2 ⟨l[k],List.getElem_mem _,He.out⟩
     rw[this];simp⟩,by(repeat(first|assumption|exact Below.refl _ _|refine zaI ?_ _|refine Below.drew ?_|refine zaA ?_ _|(refine zbs ?_ (by first|(simp;done)|(simp;omega)) _)|(refine zbt ?_ (by first|(simp;done)|(simp;omega)) _)))⟩
   ·have he':badT l[k]=false:=by simpa using he
    have hb:decide (l[k]<1∨5<l[k])=false:=he'
    have He:=Lib.hid he'
    clear he he'
    go_wp2_with (go_at_call 90;refine(ziA _ _).mono ?_;rintro e w' ⟨rfl,rfl⟩)
    go_roundw
    case rel=>exact⟨k+1,by omega,by go_num,Lib.hid (zdJ hlt hno.out He.out),by(repeat(first|assumption|exact Below.refl _ _|refine zaI ?_ _|refine Below.drew ?_|refine zaA ?_ _|(refine zbs ?_ (by first|(simp;done)|(simp;omega)) _)|(refine zbt ?_ (by first|(simp;done)|(simp;omega)) _)))⟩
    case measure=>simp[intOf];omega
  ·obtain rfl:k=l.length:=by omega
   go_wp2
   go_ret
   exact⟨⟨_,rfl,by have:=hno.out;rw[List.take_length] at this;rw[this];simp⟩,hbel⟩
theorem zh1(A:Option Addr)(c:Nat)(l:List Int)(w:World)(hl:l.length≤9223372036854775807)(hA:RdInt w A l):
  Calls Tryz.prog 91 #[.slice A l.length c,.func (.func 90) #[] #[]] w fun e w'=>e=.returned (.bool (l.any badT))∧Below w.heap.size w w':=by
 go_enter Tryz.func91,Tryz.ntmps91
 go_wp2_with (go_at_call 136;refine(indexFunc_any _ _ _ _ hl hA).mono ?_;rintro e w' ⟨⟨r,rfl,hr⟩,hb⟩)
 go_ret
 exact⟨rfl,by assumption⟩
def zaG(l:List Int):Bool:=decide (1≤l.length∧l.length≤4)&&!l.any badT
def zcl(l:List Int):Int:=if zaG l then 0 else 1
theorem ziB(A:Option Addr)(c:Nat)(l:List Int)(w:World)(hl:l.length≤9223372036854775807)(hA:RdInt w A l):
  Calls Tryz.prog 46 #[.slice A l.length c] w fun e w'=>e=.returned (.int .i64 (zcl l))∧Below w.heap.size w w':=by
 by_cases h1:l.length<1
 ·have hb:decide ((l.length:Int)<1)=true:=by simp;omega
  have hk:zaG l=false:=by simp[zaG];omega
  go_enter Tryz.func46,Tryz.ntmps46
  go_wp2
  go_ret
  exact⟨zgV (by simp[zcl,hk]),by(repeat(first|assumption|exact Below.refl _ _|refine zaI ?_ _|refine Below.drew ?_|refine zaA ?_ _|(refine zbs ?_ (by first|(simp;done)|(simp;omega)) _)|(refine zbt ?_ (by first|(simp;done)|(simp;omega)) _)))⟩
 ·by_cases h2:4<l.length
  ·have hb:decide ((l.length:Int)<1)=false:=by simp;omega
   have hb2:decide (4<(l.length:Int))=true:=by simp;omega
   have hk:zaG l=false:=by simp[zaG];omega
   go_enter Tryz.func46,Tryz.ntmps46
   go_wp2
   go_ret
   exact⟨zgV (by simp[zcl,hk]),by(repeat(first|assumption|exact Below.refl _ _|refine zaI ?_ _|refine Below.drew ?_|refine zaA ?_ _|(refine zbs ?_ (by first|(simp;done)|(simp;omega)) _)|(refine zbt ?_ (by first|(simp;done)|(simp;omega)) _)))⟩
  ·have hb:decide ((l.length:Int)<1)=false:=by simp;omega
   have hb2:decide (4<(l.length:Int))=false:=by simp;omega
   have hk:zaG l=!l.any badT:=by simp[zaG];omega
   have Hk:=Lib.hid hk
   clear hk
   go_enter Tryz.func46,Tryz.ntmps46
   go_wp2_with (go_at_call 91;refine(zh1 _ _ _ _ hl hA).mono ?_;rintro e w' ⟨rfl,hb⟩)
   all_goals
    go_ret
    exact⟨zgV (by rw[zcl,Hk.out];simp[*]),by assumption⟩
theorem asks_eq(k n:Int):zdO k n=if[2,4,6,10].contains k then decide (n=0) else decide (1≤n∧n≤1000):=by
 unfold zdO
 by_cases h:k=2∨k=4∨k=6∨k=10
 ·rw[if_pos h,if_pos (by simpa using h)]
 ·rw[if_neg h,if_neg (by simpa using h)]
theorem asks_any(k n:Int)(w:World):
  Calls Tryz.prog 73 #[.int .i64 k,.int .i64 n] w fun e w'=>e=.returned (.bool (zdO k n))∧Below w.heap.size w w':=by
 have R:=RdInt.of_list (l:=[2,4,6,10]) (Blk.new w 3 _)
 rw[asks_eq]
 by_cases hc:[2,4,6,10].contains k=true
 ·rw[if_pos hc]
  go_enter Tryz.func73,Tryz.ntmps73
  go_wp2_with (go_at_call 71;refine(zcg _ _ [2,4,6,10] _ _ (by decide) R).mono ?_;rintro e w' ⟨rfl,hb⟩;rw[hc])
  go_ret
  exact⟨rfl,zeH (zaI (Below.refl _ _) _) hb⟩
 ·rw[if_neg hc]
  have hc':[2,4,6,10].contains k=false:=by simpa using hc
  clear hc
  go_enter Tryz.func73,Tryz.ntmps73
  go_wp2_with (first|(go_at_call 71;refine(zcg _ _ [2,4,6,10] _ _ (by decide) R).mono ?_;rintro e w' ⟨rfl,hb⟩;rw[hc'])|(go_at_call 67;refine(zbu _ _ _ _).mono ?_;rintro e w' ⟨rfl,rfl⟩))
  go_ret
  exact⟨zd7 (by rw[Bool.eq_iff_iff];simp),zeH (zaI (Below.refl _ _) _) hb⟩
end
section
open Go.RowKit
theorem zbo{α:Type}{enc:α→List Value}{M:Nat}(hM:∀x,(enc x).length=M)(l:List α):(l.flatMap enc).length=l.length * M:=by
 induction l with
 |nil=>simp
 |cons a l ih=>rw[List.flatMap_cons,List.length_append,ih,hM,List.length_cons,Nat.add_mul];omega
theorem flat_at{α:Type}{enc:α→List Value}{M:Nat}(hM:∀x,(enc x).length=M):∀(l:List α) (k:Nat) (hk:k<l.length) (j:Nat),j<M→(l.flatMap enc)[k * M+j]?=(enc l[k])[j]?
 |[],k,hk,j,hj=>by simp at hk
 |a::l,0,hk,j,hj=>by
  rw[List.flatMap_cons,List.getElem?_append_left (by rw[hM];omega)]
  simp
 |a::l,k+1,hk,j,hj=>by
  rw[List.flatMap_cons,List.getElem?_append_right (by rw[hM,Nat.add_mul];omega),hM,show(k+1) * M+j-M=k * M+j by rw[Nat.add_mul];omega,
   flat_at hM l k (by simpa using hk) j hj]
  simp
theorem flat_set{α:Type}{enc:α→List Value}{M:Nat}(hM:∀x,(enc x).length=M)(l:List α)(k:Nat)(hk:k<l.length)(j:Nat)(hj:j<M)(u:Value)(y:α)(hy:enc y=(enc l[k]).set j u):
  (l.flatMap enc).set (k * M+j) u=(l.set k y).flatMap enc:=by
 induction l generalizing k with
 |nil=>simp at hk
 |cons a l ih =>
  cases k with
  |zero =>
   simp only[List.flatMap_cons,List.set_cons_zero,Nat.zero_mul,Nat.zero_add]
   rw[List.set_append_left _ _ (by rw[hM];exact hj)]
   simp only[List.getElem_cons_zero] at hy
   rw[hy]
  |succ k =>
   simp only[List.flatMap_cons,List.set_cons_succ]
   rw[List.set_append_right _ _ (by rw[hM,Nat.add_mul];omega),hM,show(k+1) * M+j-M=k * M+j by rw[Nat.add_mul];omega,ih k (by simpa using hk) (by simpa using hy)]
def Own{α:Type}(enc:α→List Value)(M:Nat)(e:TypeId)(w:World)(B:Nat)(v:Value)(l:List α):Prop:=w.ownsRow B e M v l.length (l.flatMap enc)
section
variable {α:Type}{enc:α→List Value}{M:Nat}{e:TypeId}{w w':World}{B:Nat}{v:Value}{l:List α} 
theorem Own.nil(w:World)(B:Nat):Own enc M e w B (.slice none 0 0) []:=World.ownsRow_nil _ _ _ _
theorem Own.at_(h:Own enc M e w B v l)(hM:∀x,(enc x).length=M)(k:Nat)(hk:k<l.length):
  ∃g c,v=.slice (some ⟨g,0,none⟩) l.length c∧B≤g∧g<w.heap.size∧(∀j u,(enc l[k])[j]?=some u→w.cell? ⟨g,k * M+j,none⟩=some u)∧∀j,w.frozen? ⟨g,j,none⟩=false:=by
 obtain⟨g,c,rfl,hb,hg⟩:=World.ownsRow.form h (by omega)
 refine⟨g,c,rfl,hb,hg,fun j u hu=>?_,fun j=>World.ownsRow.frozenAt h j⟩
 have hj:j<M:=by rw[←hM l[k]];exact(List.getElem?_eq_some_iff.1 hu).1
 have:=World.ownsRow.cellAt h (k * M+j) (by
  have:k * M+M≤l.length * M:=by rw[←Nat.succ_mul];exact Nat.mul_le_mul_right _ hk
  omega)
 rw[this,flat_at hM l k hk j hj,hu]
theorem Own.rd(h:Own enc M e w B v l)(hM:∀x,(enc x).length=M):∃A c,v=.slice A l.length c∧RdE enc M w A l:=by
 rcases Nat.eq_zero_or_pos l.length with h0|h0
 ·obtain rfl:l=[]:=List.length_eq_zero_iff.1 h0
  obtain⟨a,c,hv⟩:∃a c,v=.slice a 0 c:=by
   rcases h.2 with⟨hv,_⟩|⟨g,cap,cur,hv,_⟩
   ·exact⟨_,_,hv⟩
   ·exact⟨_,_,hv⟩
  exact⟨a,c,hv,RdE.nil _⟩
 ·obtain⟨g,c,hv,_⟩:=h.at_ hM 0 h0
  refine⟨some ⟨g,0,none⟩,c,hv,fun k x hx=>?_⟩
  obtain⟨hk,rfl⟩:=List.getElem?_eq_some_iff.1 hx
  obtain⟨g',c',hv',_,hg,hc,_⟩:=h.at_ hM k hk
  rw[hv] at hv'
  simp only[Value.slice.injEq,Option.some.injEq,Addr.mk.injEq,and_true,true_and] at hv'
  obtain⟨rfl,rfl⟩:=hv'
  exact⟨g,0,rfl,hg,fun j u hu=>by rw[Nat.zero_add];exact hc j u hu⟩
theorem Own.carry(h:Own enc M e w B v l)(hb:Below w.heap.size w w'):Own enc M e w' B v l:=by
 refine⟨h.1,?_⟩
 rcases h.2 with hn|⟨g,cap,cur,hv,hbb,hg,rest⟩
 ·exact .inl hn
 ·exact .inr ⟨g,cap,cur,hv,hbb,(hb.block g (Array.getElem?_eq_some_iff.1 hg).1).trans hg,rest⟩
theorem Own.alloc(h:Own enc M e w B v l)(o:Obj):Own enc M e (w.alloc o) B v l:=World.ownsRow.alloc h o
theorem Own.drewN(h:Own enc M e w B v l)(n:Nat):Own enc M e (w.drewN n) B v l:=h
theorem Own.set_(h:Own enc M e w B v l)(hM:∀x,(enc x).length=M)(k:Nat)(hk:k<l.length)(j:Nat)(hj:j<M)(u:Value)(y:α)(hy:enc y=(enc l[k]).set j u){g c:Nat}(hv:v=.slice (some ⟨g,0,none⟩) l.length c):
  Own enc M e (w.setCell ⟨g,k * M+j,none⟩ u) B v (l.set k y):=by
 subst hv
 have:=World.ownsRow.stored h (k * M+j) u
 unfold Own
 rw[List.length_set,←flat_set hM l k hk j hj u y hy]
 exact this.1
theorem Own.far(h:Own enc M e w B v l){p:Addr}(hp:v.ownBlock≠some p.block)(u:Value):Own enc M e (w.setCell p u) B v l:=by
 refine⟨h.1,?_⟩
 rcases h.2 with hn|⟨g,cap,cur,hv,hbb,hg,rest⟩
 ·exact .inl hn
 ·refine .inr ⟨g,cap,cur,hv,hbb,(Below.heap_setCell w p u g ?_).trans hg,rest⟩
  subst hv
  simpa[Value.ownBlock] using hp
theorem Own.ne(h:Own enc M e w B v l){r:Nat}{t:TypeId}{cs:Array Value}(hb:Blk w r t cs)(ht:t≠e):v.ownBlock≠some r:=by
 rcases h.2 with⟨rfl,_⟩|⟨g,cap,cur,rfl,hbb,hg,rest⟩
 ·simp[Value.ownBlock]
 ·simp only[Value.ownBlock,ne_eq,Option.some.injEq]
  rintro rfl
  unfold Blk at hb
  rw[hb] at hg
  simp only[Option.some.injEq,Obj.cells.injEq] at hg
  exact ht hg.2.1
theorem Own.push{n:Nat}{xs:List Value}{x:α}(h:w'.ownsRow B e M v (n+1) (xs++enc x))(hn:n=l.length)(hx:xs=l.flatMap enc):Own enc M e w' B v (l++[x]):=by
 subst hn hx
 unfold Own
 simpa using h
end
end
section
open Go.RowKit
structure Ev where
 who:Int
 thing:Int
 kind:Int
 value:Int
deriving DecidableEq
structure Cl where
 who:Int
 thing:Int
 kind:Int
 arg:Int
 res:Int
 from_:Int
 to:Int
deriving DecidableEq
instance : Inhabited Cl:=⟨⟨0,0,0,0,0,0,0⟩⟩
def Ev.enc(v:Ev):List Value:=[.int .i64 v.who,.int .i64 v.thing,.int .i64 v.kind,.int .i64 v.value]
def Cl.enc(v:Cl):List Value:=[.int .i64 v.who,.int .i64 v.thing,.int .i64 v.kind,.int .i64 v.arg,.int .i64 v.res,.int .i64 v.from_,.int .i64 v.to]
def RdEv(w:World)(A:Option Addr)(l:List Ev):Prop:=RdE Ev.enc 4 w A l
def zh2(w:World)(A:Option Addr)(l:List Cl):Prop:=RdE Cl.enc 7 w A l
def za4(ts:List Int)(v:Ev):Bool:=decide (v.who<0)||decide (8≤v.who)||decide (v.thing<0)||decide ((ts.length:Int)≤v.thing)
def zaV(t v:Value)(op:Nat→Int):Array Value:=(t::v::(List.range 8).map fun i=>Value.int .i64 (op i)).toArray
theorem zdQ(t v:Value)(op:Nat→Int):(zaV t v op)[0]?=some t:=rfl
theorem ziC(t v:Value)(op:Nat→Int):(zaV t v op)[1]?=some v:=rfl
theorem zc1(t v:Value)(op:Nat→Int)(i:Nat)(h:i<8):(zaV t v op)[2+i]?=some (.int .i64 (op i)):=by
 simp[zaV,Nat.add_comm 2 i,h]
theorem zgW(v:Ev):Ev.enc v=[.int .i64 v.who,.int .i64 v.thing,.int .i64 v.kind,.int .i64 v.value]:=rfl
theorem Calls.quiet_same{P:Program}{f:FuncId}{args:Array Value}{w:World}{a n:Nat}{v:Value} 
  (h:Calls P f args (w.drewN (a+n)) fun e w'=>e=.returned v∧w'=w.drewN (a+n)):Calls P f args (w.drewN (a+n)) fun e w''=>e=.returned v∧∃m,w''=w.drewN (a+m) :=
 h.mono fun _ _ ⟨he,hm⟩=>⟨he,n,hm⟩
theorem zgX{t k:Int}{b:Bool}(h:zdK t k=b)(w:World):Calls Tryz.prog 92 #[.int .i64 t,.int .i64 k] w fun e w'=>e=.returned (.bool b)∧w'=w :=
 (fits_any t k w).mono fun e w' ⟨he,hw⟩=>⟨by rw[he,h],hw.symm⟩
theorem zd8{t k:Int}{b:Bool}(h:zdO t k=b)(w:World):Calls Tryz.prog 93 #[.int .i64 t,.int .i64 k] w fun e w'=>e=.returned (.bool b)∧w'=w :=
 (zeI t k w).mono fun e w' ⟨he,hw⟩=>⟨by rw[he,h],hw.symm⟩
theorem zf7{t k:Int}{b:Bool}(h:resB t k=b)(w:World):Calls Tryz.prog 94 #[.int .i64 t,.int .i64 k] w fun e w'=>e=.returned (.bool b)∧w'=w :=
 (result_any t k w).mono fun e w' ⟨he,hw⟩=>⟨by rw[he,h],hw.symm⟩
theorem event_form(r:Nat)(T:Option Addr)(c:Nat)(ts:List Int)(v:Value)(op:Nat→Int)(i:Int)(x:Ev)(w:World)(hl:ts.length≤9223372036854775807) 
  (hb:Blk w r 93 (zaV (.slice T ts.length c) v op)) (hbad:za4 ts x=true) :
  Calls Tryz.prog 47 #[.pointer (some ⟨r,0,none⟩),.int .i64 i,.agg (Ev.enc x).toArray] w fun e w'=>e=.returned (.int .i64 3)∧Below w.heap.size w w':=by
 obtain⟨who,thing,kind,value⟩:=x
 simp only[za4,Bool.not_eq_true',Bool.not_eq_false',decide_eq_true_eq,decide_eq_false_iff_not,Bool.and_eq_true,Bool.or_eq_true,Bool.or_eq_false_iff,Bool.and_eq_false_iff] at hbad
 simp only[zgW]
 have c0:=(hb.cell 0).trans (zdQ _ _ _)
 have l0:=hb.lt
 have q0:=World.new_ne w ⟨r,0,none⟩ c0
 by_cases h1:who<0
 ·have d1:decide (who<0)=true:=by simpa using h1
  clear hbad
  go_enter Tryz.func47,Tryz.ntmps47
  go_wp2_with (fail)
  go_quiet (fail)
  go_wp2_with (fail)
  go_ret
  exact⟨rfl,by(repeat(first|assumption|exact Below.refl _ _|refine zaI ?_ _|refine Below.drew ?_|refine zaA ?_ _|(refine zbs ?_ (by first|(simp;done)|(simp;omega)) _)|(refine zbt ?_ (by first|(simp;done)|(simp;omega)) _)))⟩
 ·have d1:decide (who<0)=false:=by simpa using h1
  by_cases h2:8≤who
  ·have d2:decide (8≤who)=true:=by simpa using h2
   clear hbad
   go_enter Tryz.func47,Tryz.ntmps47
   go_wp2_with (fail)
   go_quiet (fail)
   go_wp2_with (fail)
   go_ret
   exact⟨rfl,by(repeat(first|assumption|exact Below.refl _ _|refine zaI ?_ _|refine Below.drew ?_|refine zaA ?_ _|(refine zbs ?_ (by first|(simp;done)|(simp;omega)) _)|(refine zbt ?_ (by first|(simp;done)|(simp;omega)) _)))⟩
  ·have d2:decide (8≤who)=false:=by simpa using h2
   by_cases h3:thing<0
   ·have d3:decide (thing<0)=true:=by simpa using h3
    clear hbad
    go_enter Tryz.func47,Tryz.ntmps47
    go_wp2_with (fail)
    go_quiet (fail)
    go_wp2_with (fail)
    go_ret
    exact⟨rfl,by(repeat(first|assumption|exact Below.refl _ _|refine zaI ?_ _|refine Below.drew ?_|refine zaA ?_ _|(refine zbs ?_ (by first|(simp;done)|(simp;omega)) _)|(refine zbt ?_ (by first|(simp;done)|(simp;omega)) _)))⟩
   ·have d3:decide (thing<0)=false:=by simpa using h3
    have d4:decide ((ts.length:Int)≤thing)=true:=by simp;omega
    clear hbad
    go_enter Tryz.func47,Tryz.ntmps47
    go_wp2_with (fail)
    go_quiet (fail)
    go_wp2_with (fail)
    go_ret
    exact⟨rfl,by(repeat(first|assumption|exact Below.refl _ _|refine zaI ?_ _|refine Below.drew ?_|refine zaA ?_ _|(refine zbs ?_ (by first|(simp;done)|(simp;omega)) _)|(refine zbt ?_ (by first|(simp;done)|(simp;omega)) _)))⟩
theorem event_call_bad(r:Nat)(T:Option Addr)(c:Nat)(ts:List Int)(v:Value)(op:Nat→Int)(i:Int)(k t:Nat)(kind value:Int)(w:World)(hl:ts.length≤9223372036854775807)(hk:k<8)(ht:t<ts.length) 
  (hb:Blk w r 93 (zaV (.slice T ts.length c) v op)) (hT:RdInt w T ts) (hkind:(kind != 0)=true) (hbad:(zdK ts[t] kind&&zdO kind value)=false) :
  Calls Tryz.prog 47 #[.pointer (some ⟨r,0,none⟩),.int .i64 i,.agg (Ev.enc ⟨k,t,kind,value⟩).toArray] w fun e w'=>e=.returned (.int .i64 3)∧Below w.heap.size w w':=by
 simp only[zgW]
 have c0:=(hb.cell 0).trans (zdQ _ _ _)
 have c2:=(hb.cell (2+k)).trans (zc1 _ _ _ k hk)
 have l0:=hb.lt
 have hk0:(0:Int)≤k:=by omega
 have hk8:(k:Int)<8:=by omega
 have ht0:(0:Int)≤t:=by omega
 have ht8:(t:Int)<ts.length:=by omega
 have d1:decide ((k:Int)<0)=false:=by simp
 have d2:decide ((8:Int)≤k)=false:=by simp;omega
 have d3:decide ((t:Int)<0)=false:=by simp
 have d4:decide ((ts.length:Int)≤t)=false:=by simp;omega
 obtain⟨b,o,rfl,hb0,hbs,t0⟩:=hT.at_ (Below.refl _ _) t ht
 by_cases hf:zdK ts[t] kind=true
 ·have ha:zdO kind value=false:=by simpa[hf] using hbad
  clear hbad hb hT
  go_enter Tryz.func47,Tryz.ntmps47
  go_wp2_with (fail)
  go_quiet (fail)
  go_wp2_with (fail)
  go_quiet (fail)
  go_wp2_with (fail)
  go_quiet (first|(go_at_call 92;(first|exact Calls.quiet_of_same (zgX (by assumption) _)|exact Calls.quiet_same (zgX (by assumption) _)))|(go_at_call 93;(first|exact Calls.quiet_of_same (zd8 (by assumption) _)|exact Calls.quiet_same (zd8 (by assumption) _))))
  go_wp2_with (fail)
  go_ret
  exact⟨rfl,by(repeat(first|assumption|exact Below.refl _ _|refine zaI ?_ _|refine Below.drew ?_|refine zaA ?_ _|(refine zbs ?_ (by first|(simp;done)|(simp;omega)) _)|(refine zbt ?_ (by first|(simp;done)|(simp;omega)) _)))⟩
 ·have hf':zdK ts[t] kind=false:=by simpa using hf
  clear hbad hb hT hf
  go_enter Tryz.func47,Tryz.ntmps47
  go_wp2_with (fail)
  go_quiet (fail)
  go_wp2_with (fail)
  go_quiet (fail)
  go_wp2_with (fail)
  go_quiet ((go_at_call 92;(first|exact Calls.quiet_of_same (zgX (by assumption) _)|exact Calls.quiet_same (zgX (by assumption) _))))
  go_wp2_with (fail)
  go_ret
  exact⟨rfl,by(repeat(first|assumption|exact Below.refl _ _|refine zaI ?_ _|refine Below.drew ?_|refine zaA ?_ _|(refine zbs ?_ (by first|(simp;done)|(simp;omega)) _)|(refine zbt ?_ (by first|(simp;done)|(simp;omega)) _)))⟩
theorem Cl.len(x:Cl):(Cl.enc x).length=7:=rfl
def OwnCl(w:World)(B:Nat)(v:Value)(l:List Cl):Prop:=Own Cl.enc 7 36 w B v l
theorem event_twice(r:Nat)(T:Option Addr)(c:Nat)(ts:List Int)(v:Value)(op:Nat→Int)(i:Int)(k t:Nat)(kind value:Int)(w:World)(hl:ts.length≤9223372036854775807)(hk:k<8)(ht:t<ts.length) 
  (hb:Blk w r 93 (zaV (.slice T ts.length c) v op)) (hT:RdInt w T ts) (hkind:(kind != 0)=true) (hf:zdK ts[t] kind=true) (ha:zdO kind value=true) (hop:0<op k) :
  Calls Tryz.prog 47 #[.pointer (some ⟨r,0,none⟩),.int .i64 i,.agg (Ev.enc ⟨k,t,kind,value⟩).toArray] w fun e w'=>e=.returned (.int .i64 5)∧Below w.heap.size w w':=by
 simp only[zgW]
 have c0:=(hb.cell 0).trans (zdQ _ _ _)
 have c2:=(hb.cell (2+k)).trans (zc1 _ _ _ k hk)
 have l0:=hb.lt
 have hk0:(0:Int)≤k:=by omega
 have hk8:(k:Int)<8:=by omega
 have ht0:(0:Int)≤t:=by omega
 have ht8:(t:Int)<ts.length:=by omega
 have d1:decide ((k:Int)<0)=false:=by simp
 have d2:decide ((8:Int)≤k)=false:=by simp;omega
 have d3:decide ((t:Int)<0)=false:=by simp
 have d4:decide ((ts.length:Int)≤t)=false:=by simp;omega
 obtain⟨b,o,rfl,hb0,hbs,t0⟩:=hT.at_ (Below.refl _ _) t ht
 clear hb hT
 go_enter Tryz.func47,Tryz.ntmps47
 go_wp2_with (fail)
 go_quiet (fail)
 go_wp2_with (fail)
 go_quiet (fail)
 go_wp2_with (fail)
 go_quiet (first|(go_at_call 92;(first|exact Calls.quiet_of_same (zgX (by assumption) _)|exact Calls.quiet_same (zgX (by assumption) _)))|(go_at_call 93;(first|exact Calls.quiet_of_same (zd8 (by assumption) _)|exact Calls.quiet_same (zd8 (by assumption) _))))
 go_wp2_with (fail)
 go_ret
 exact⟨rfl,by(repeat(first|assumption|exact Below.refl _ _|refine zaI ?_ _|refine Below.drew ?_|refine zaA ?_ _|(refine zbs ?_ (by first|(simp;done)|(simp;omega)) _)|(refine zbt ?_ (by first|(simp;done)|(simp;omega)) _)))⟩
theorem event_none(r:Nat)(T:Option Addr)(c:Nat)(ts:List Int)(v:Value)(op:Nat→Int)(i:Int)(k t:Nat)(value:Int)(w:World)(hl:ts.length≤9223372036854775807)(hk:k<8)(ht:t<ts.length) 
  (hb:Blk w r 93 (zaV (.slice T ts.length c) v op)) (hop:op k=0) :
  Calls Tryz.prog 47 #[.pointer (some ⟨r,0,none⟩),.int .i64 i,.agg (Ev.enc ⟨k,t,0,value⟩).toArray] w fun e w'=>e=.returned (.int .i64 4)∧Below w.heap.size w w':=by
 simp only[zgW]
 have c0:=(hb.cell 0).trans (zdQ _ _ _)
 have c2:=(hb.cell (2+k)).trans (zc1 _ _ _ k hk)
 have l0:=hb.lt
 have hk0:(0:Int)≤k:=by omega
 have hk8:(k:Int)<8:=by omega
 have ht0:(0:Int)≤t:=by omega
 have ht8:(t:Int)<ts.length:=by omega
 have d1:decide ((k:Int)<0)=false:=by simp
 have d2:decide ((8:Int)≤k)=false:=by simp;omega
 have d3:decide ((t:Int)<0)=false:=by simp
 have d4:decide ((ts.length:Int)≤t)=false:=by simp;omega
 clear hb
 go_enter Tryz.func47,Tryz.ntmps47
 go_wp2_with (fail)
 go_quiet (fail)
 go_wp2_with (fail)
 go_quiet (fail)
 go_wp2_with (fail)
 go_ret
 exact⟨rfl,by(repeat(first|assumption|exact Below.refl _ _|refine zaI ?_ _|refine Below.drew ?_|refine zaA ?_ _|(refine zbs ?_ (by first|(simp;done)|(simp;omega)) _)|(refine zbt ?_ (by first|(simp;done)|(simp;omega)) _)))⟩
theorem event_end_bad(r:Nat)(T:Option Addr)(c:Nat)(ts:List Int)(v:Value)(op:Nat→Int)(i:Int)(k t:Nat)(value:Int)(w:World)(hl:ts.length≤9223372036854775807)(hk:k<8)(ht:t<ts.length) 
  (hb:Blk w r 93 (zaV (.slice T ts.length c) v op)) (B:Nat) (cs:List Cl) (hcs:cs.length≤1000) (ho:OwnCl w B v cs) (m:Nat) (hm:m<cs.length) (hop:op k=(m:Int)+1)
  (hbad:cs[m].thing=t→resB cs[m].kind value=false) :
  Calls Tryz.prog 47 #[.pointer (some ⟨r,0,none⟩),.int .i64 i,.agg (Ev.enc ⟨k,t,0,value⟩).toArray] w fun e w'=>e=.returned (.int .i64 3)∧Below w.heap.size w w':=by
 simp only[zgW]
 have c0:=(hb.cell 0).trans (zdQ _ _ _)
 have c2:=(hb.cell (2+k)).trans (zc1 _ _ _ k hk)
 have l0:=hb.lt
 have hk0:(0:Int)≤k:=by omega
 have hk8:(k:Int)<8:=by omega
 have ht0:(0:Int)≤t:=by omega
 have ht8:(t:Int)<ts.length:=by omega
 have d1:decide ((k:Int)<0)=false:=by simp
 have d2:decide ((8:Int)≤k)=false:=by simp;omega
 have d3:decide ((t:Int)<0)=false:=by simp
 have d4:decide ((ts.length:Int)≤t)=false:=by simp;omega
 have c1:=(hb.cell 1).trans (ziC _ _ _)
 obtain⟨g,cc,rfl,hgB,hg,hc,hfz⟩:=ho.at_ Cl.len m hm
 have e1:=hc 1 _ rfl
 have e2:=hc 2 _ rfl
 rw[hop] at c2
 have hm1:(m:Int)<(cs.length:Int):=by omega
 have hm2:(cs.length:Int)≤1000:=by omega
 have hm3:(m:Int)+1≠0:=by omega
 have hm4:((m:Int)+1 == 0)=false:=by simpa using hm3
 generalize cs[m].thing=th at *
 generalize cs[m].kind=kd at *
 clear hb ho hc hfz hop
 by_cases he:th=t
 ·subst he
  have hr:=hbad rfl
  have d5:(((t:Int):Int) != t)=false:=by simp
  clear hbad
  go_enter Tryz.func47,Tryz.ntmps47
  go_wp2_with (fail)
  go_quiet (fail)
  go_wp2_with (fail)
  go_quiet (fail)
  go_wp2_with (fail)
  go_quiet (first|(go_at_call 94;(first|exact Calls.quiet_of_same (zf7 (by assumption) _)|exact Calls.quiet_same (zf7 (by assumption) _))))
  go_wp2_with (fail)
  go_ret
  exact⟨rfl,by(repeat(first|assumption|exact Below.refl _ _|refine zaI ?_ _|refine Below.drew ?_|refine zaA ?_ _|(refine zbs ?_ (by first|(simp;done)|(simp;omega)) _)|(refine zbt ?_ (by first|(simp;done)|(simp;omega)) _)))⟩
 ·have d5:(th != (t:Int))=true:=by simpa using he
  clear hbad
  go_enter Tryz.func47,Tryz.ntmps47
  go_wp2_with (fail)
  go_quiet (fail)
  go_wp2_with (fail)
  go_quiet (fail)
  go_wp2_with (fail)
  go_quiet (fail)
  go_wp2_with (fail)
  go_ret
  exact⟨rfl,by(repeat(first|assumption|exact Below.refl _ _|refine zaI ?_ _|refine Below.drew ?_|refine zaA ?_ _|(refine zbs ?_ (by first|(simp;done)|(simp;omega)) _)|(refine zbt ?_ (by first|(simp;done)|(simp;omega)) _)))⟩
end
section
open Go.RowKit Go.Lib
abbrev Bs:=List UInt8
/-! numerals -/
theorem dg_le{d:Nat}(h:d<10):(UInt8.ofNat (48+d)).toNat=48+d:=by simp;omega
theorem ziD{d:Nat}(h:d<10):digitVal (UInt8.ofNat (48+d))=some d:=by
 unfold digitVal
 rw[dg_le h,if_pos (by omega)];congr 1;omega
theorem ziE:∀(a b:Bs) (acc:Nat),decFrom acc (a++b)=(decFrom acc a).bind fun n=>decFrom n b
 |[],_,_=>rfl
 |x::a,b,acc=>by
  rw[List.cons_append,decFrom,decFrom]
  cases digitVal x with
  |none=>rfl
  |some d=>exact ziE a b _
theorem zd9{u:Nat}(h:¬u<10):decDigits u=decDigits (u / 10)++[UInt8.ofNat (48+u % 10)]:=by rw[decDigits,dif_neg h]
theorem zfv(u:Nat):decFrom 0 (decDigits u)=some u:=by
 induction u using Nat.strongRecOn with
 |_ u ih =>
  by_cases h:u<10
  ·rw[decDigits_one h]
   simp only[decFrom,ziD h]
   congr 1;omega
  ·rw[zd9 h,ziE,ih (u / 10) (by omega)]
   simp only[Option.bind_some,decFrom,ziD (Nat.mod_lt u (by omega:0<10))]
   congr 1;omega
theorem zhA(u:Nat):decDigits u≠[]:=by
 intro h
 have:=decDigits_length u
 rw[h] at this
 have:=nDigits_pos u
 simp at *;omega
theorem zea(u:Nat):∀b∈decDigits u,48≤b.toNat∧b.toNat≤57:=by
 intro b hb
 obtain⟨k,hk,rfl⟩:=List.mem_iff_getElem.1 hb
 obtain⟨d,hd⟩:=digit_of_decFrom _ _ _ (zfv u) k _ (List.getElem?_eq_getElem hk)
 have:=digitVal_eq hd
 omega
theorem nDigits_ge:∀(k u:Nat),1≤k→k+1≤nDigits u→10^k≤u
 |0,_,h,_=>by omega
 |k+1,u,_,h=>by
  by_cases h5:u<10
  ·rw[nDigits_small h5] at h;omega
  ·rw[nDigits_big h5] at h
   by_cases hk:k=0
   ·subst hk;simp;omega
   ·have:=nDigits_ge k (u / 10) (by omega) (by omega)
    rw[Nat.pow_succ];omega
theorem ziF{u:Nat}(h:u≤1000000):nDigits u≤7:=by
 by_cases h1:nDigits u≤7
 ·exact h1
 ·have:=nDigits_ge 7 u (by omega) (by omega)
  omega
theorem atoi_itoa{n:Int}(h:-1000000≤n∧n≤1000000):atoiAll (itoa n)=.ok n:=by
 have hl:(decDigits n.natAbs).length≤7:=by rw[decDigits_length];exact ziF (by omega)
 have hd:∀u,decNat (decDigits u)=some u:=fun u=>by
  unfold decNat
  rw[if_neg (by simp[zhA]),zfv]
 by_cases h0:n<0
 ·obtain⟨u,rfl⟩:∃u:Nat,n=-(u:Int):=⟨n.natAbs,by omega⟩
  rw[itoa_neg u (by omega)]
  rw[atoiAll_minus,signed_short (by simpa using Nat.le_trans hl (by omega)),hd];rfl
 ·obtain⟨u,rfl⟩:∃u:Nat,n=(u:Int):=⟨n.toNat,by omega⟩
  rw[itoa_nonneg]
  obtain⟨c,r,hc⟩:∃c r,decDigits u=c::r:=by
   cases e:decDigits u with
   |nil=>exact absurd e (zhA u)
   |cons c r=>exact⟨c,r,rfl⟩
  have hb:=zea u c (by rw[hc];exact List.mem_cons_self)
  have hl2:(c::r).length≤18:=by rw[←hc];simpa using Nat.le_trans hl (by omega)
  rw[hc,atoiAll_plain c r (by omega) (by omega),signless_short hl2,←hc,hd];rfl
def zbD(l:Bs):Option Int:=match atoiAll l with | .ok n=>if itoa n=l∧-1000000≤n∧n≤1000000 then some n else none|_=>none
theorem zdr{l:Bs}{n:Int}:zbD l=some n↔itoa n=l∧-1000000≤n∧n≤1000000:=by
 constructor
 ·intro h
  unfold zbD at h
  split at h
  ·split at h
   ·rename_i h2;cases h;exact h2
   ·cases h
  ·cases h
 ·intro⟨h1,h2⟩
  unfold zbD
  rw[←h1,atoi_itoa h2]
  exact if_pos ⟨rfl,h2⟩
def zf8:Bs→Nat→Option Nat
 |[],n=>some n
 |b::r,n=>if 48≤b.toNat∧b.toNat≤57∧n≤1000000 then zf8 r (10 * n+(b.toNat-48)) else none
theorem numGo_app:∀(a b:Bs) (n:Nat),zf8 (a++b) n=(zf8 a n).bind fun m=>zf8 b m
 |[],_,_=>rfl
 |x::a,b,n=>by
  rw[List.cons_append,zf8,zf8]
  split
  ·exact numGo_app a b _
  ·rfl
theorem zhB(u:Nat)(h:u≤10000000):zf8 (decDigits u) 0=some u:=by
 induction u using Nat.strongRecOn with
 |_ u ih =>
  by_cases h1:u<10
  ·rw[decDigits_one h1]
   simp only[zf8,dg_le h1]
   rw[if_pos (by omega)];congr 1;omega
  ·rw[zd9 h1,numGo_app,ih (u / 10) (by omega) (by omega)]
   simp only[Option.bind_some,zf8,dg_le (Nat.mod_lt u (by omega:0<10))]
   rw[if_pos (by omega)];congr 1;omega
def zeJ(l:Bs):Bool:=decide (l.head?=some 45)
def ziG(l:Bs):Bs:=if zeJ l=true then l.tail else l
def docN(l:Bs):Option Int:=(zf8 (ziG l) 0).map fun m=>if zeJ l=true then -(m:Int) else(m:Int)
theorem numDoc(l:Bs):(match docN l with|some n=>if -1000000≤n∧n≤1000000∧itoa n=l then some n else none|none=>none)=zbD l:=by
 cases hr:zbD l with
 |none =>
  split
  ·rename_i n _
   rw[if_neg]
   intro⟨h1,h2,h3⟩
   rw[zdr.2 ⟨h3,h1,h2⟩] at hr;cases hr
  ·rfl
 |some n =>
  obtain⟨h1,h2⟩:=zdr.1 hr
  have:docN l=some n:=by
   unfold docN ziG zeJ
   by_cases h0:n<0
   ·obtain⟨u,rfl⟩:∃u:Nat,n=-(u:Int):=⟨n.natAbs,by omega⟩
    rw[itoa_neg u (by omega)] at h1
    subst h1
    rw[decide_eq_true (by rfl),if_pos rfl,List.tail_cons,zhB u (by omega)];rfl
   ·obtain⟨u,rfl⟩:∃u:Nat,n=(u:Int):=⟨n.toNat,by omega⟩
    rw[itoa_nonneg] at h1
    subst h1
    have hne:¬(decDigits u).head?=some 45:=fun hh=>by
     obtain⟨r,hr⟩:=List.head?_eq_some_iff.1 hh
     have:=zea u 45 (by rw[hr];exact List.mem_cons_self)
     revert this;decide
    rw[decide_eq_false hne,if_neg (by decide),zhB u (by omega)];rfl
  rw[this]
  simp only
  rw[if_pos ⟨h2.1,h2.2,h1⟩]
theorem itoa_free{c:UInt8}(n:Int)(h:c.toNat<45):c∉itoa n:=by
 unfold itoa
 intro hm
 have key:∀u,c∉decDigits u:=fun u hc=>by have:=zea u c hc;omega
 split at hm
 ·rcases List.mem_cons.1 hm with e|e
  ·rw[e] at h;revert h;decide
  ·exact key _ e
 ·exact key _ hm
/-! words parted by one byte -/
def zas(c:UInt8):Bs→List Bs
 |[]=>[[]]
 |b::r=>if b=c then[]::zas c r else match zas c r with
  |[]=>[[b]]
  |x::t=>(b::x)::t
def zby(c:UInt8):List Bs→Bs
 |[]=>[]
 |[x]=>x
 |x::y::r=>x++c::zby c (y::r)
theorem zb3(c:UInt8)(l:Bs):zas c l≠[]:=by
 cases l with
 |nil=>simp[zas]
 |cons b r =>
  rw[zas]
  split
  ·simp
  ·split<;>simp
theorem zfa{c:UInt8}{x:Bs}{t:List Bs}(h:t≠[]):zby c (x::t)=x++c::zby c t:=by
 cases t with
 |nil=>exact absurd rfl h
 |cons y r=>rfl
theorem zdR(c:UInt8):∀l:Bs,zby c (zas c l)=l
 |[]=>rfl
 |b::r=>by
  have ih:=zdR c r
  rw[zas]
  split
  ·rename_i e
   rw[zfa (zb3 c r),ih,e];rfl
  ·split
   ·rename_i e;exact absurd e (zb3 c r)
   ·rename_i x t e
    rw[e] at ih
    cases t with
    |nil=>simp only[zby] at ih ⊢;rw[ih]
    |cons y t=>rw[zfa (by simp)] at ih ⊢;rw[←ih];rfl
theorem ziH(c:UInt8):∀(l x:Bs),x∈zas c l→c∉x
 |[],x,h=>by simp[zas] at h;subst h;simp
 |b::r,x,h=>by
  have ih:=ziH c r
  rw[zas] at h
  split at h
  ·rcases List.mem_cons.1 h with rfl|h
   ·simp
   ·exact ih x h
  ·rename_i hb
   split at h
   ·rename_i e;exact absurd e (zb3 c r)
   ·rename_i y t e
    rcases List.mem_cons.1 h with rfl|h
    ·intro hm
     rcases List.mem_cons.1 hm with rfl|hm
     ·exact hb rfl
     ·exact ih y (by rw[e];exact List.mem_cons_self) hm
    ·exact ih x (by rw[e];exact List.mem_cons_of_mem _ h)
theorem zgY{c:UInt8}:∀{x:Bs},c∉x→∀r,zas c (x++c::r)=x::zas c r
 |[],_,r=>by rw[List.nil_append,zas,if_pos rfl]
 |b::x,h,r=>by
  rw[List.cons_append,zas,if_neg (fun e=>h (by rw[e];exact List.mem_cons_self)),zgY (fun hm=>h (List.mem_cons_of_mem _ hm)) r]
theorem zfb{c:UInt8}:∀{x:Bs},c∉x→zas c x=[x]
 |[],_=>rfl
 |b::x,h=>by
  rw[zas,if_neg (fun e=>h (by rw[e];exact List.mem_cons_self)),zfb (fun hm=>h (List.mem_cons_of_mem _ hm))]
theorem zgZ{c:UInt8}:∀{ws:List Bs},ws≠[]→(∀x∈ws,c∉x)→zas c (zby c ws)=ws
 |[],h,_=>absurd rfl h
 |[x],_,h=>zfb (h x List.mem_cons_self)
 |x::y::r,_,h=>by
  rw[zby,zgY (h x List.mem_cons_self),zgZ (by simp) fun z hz=>h z (List.mem_cons_of_mem _ hz)]
/-! the library's words -/
theorem index_one(c:UInt8):∀l:Bs,index l [c]=indexByte l c
 |[]=>rfl
 |b::l=>by
  rw[index,indexByte,index_one c l]
  have:([c]:Bs).isPrefixOf (b::l)=(b == c):=by
   simp only[List.isPrefixOf,Bool.and_true]
   rw[Bool.eq_iff_iff,beq_iff_eq,beq_iff_eq];exact eq_comm
  rw[this]
theorem cut_has{c:UInt8}:∀{x:Bs},c∉x→∀r,cut (x++c::r) [c]=(x,r,true):=by
 intro x hx r
 have hi:index (x++c::r) [c]=(x.length:Int):=by
  refine index_first (by simp) (by simp[occAt]) fun j hj=>?_
  unfold occAt
  rw[List.drop_append_of_le_length (by omega),List.drop_eq_getElem_cons hj]
  simp only[List.cons_append,List.isPrefixOf,Bool.and_true]
  rw[beq_eq_false_iff_ne]
  exact fun e=>hx (by rw[e];exact List.getElem_mem hj)
 unfold cut
 rw[hi,if_pos (by omega)]
 simp
theorem cut_no{c:UInt8}{x:Bs}(h:c∉x):cut x [c]=(x,[],false):=by
 have hi:index x [c]=-1:=by
  rw[index_one]
  induction x with
  |nil=>rfl
  |cons b x ih =>
   have h1:=ih fun hm=>h (List.mem_cons_of_mem _ hm)
   rw[indexByte,h1]
   have:(b == c)=false:=by rw[beq_eq_false_iff_ne];exact fun e=>h (by rw[e];exact List.mem_cons_self)
   rw[this];rfl
 unfold cut
 rw[hi,if_neg (by decide)]
theorem parts(c:UInt8)(l:Bs):c∉l∨∃x r,c∉x∧l=x++c::r:=by
 induction l with
 |nil=>exact .inl (by simp)
 |cons b l ih =>
  by_cases e:b=c
  ·subst e;exact .inr ⟨[],l,by simp,rfl⟩
  ·rcases ih with h|⟨x,r,h,rfl⟩
   ·exact .inl (by simp[h,Ne.symm e])
   ·exact .inr ⟨b::x,r,by simp[h,Ne.symm e],rfl⟩
theorem splitK_one(c:UInt8):∀(k:Nat) (l:Bs),count l [c]≤k→splitK [c] 0 k l=zas c l
 |0,l,h=>by
  rw[count_one] at h
  have:c∉l:=by rw[←List.count_eq_zero];omega
  rw[zfb this];rfl
 |k+1,l,h=>by
  rw[count_one] at h
  rcases parts c l with h1|⟨x,r,h1,rfl⟩
  ·have hc:=cut_no h1
   unfold cut at hc
   rw[splitK,zfb h1]
   split
   ·rfl
   ·rename_i hn
    have hg:=index_ge l [c]
    rw[if_pos (by simp at hn;omega)] at hc
    exact absurd (congrArg (fun z=>z.2.2) hc) (by simp)
  ·have hi:index (x++c::r) [c]=(x.length:Int):=by
    have hc:=cut_has h1 r
    unfold cut at hc
    split at hc
    ·rename_i h2
     obtain⟨n,hn⟩:=Int.eq_ofNat_of_zero_le h2
     rw[hn] at hc ⊢
     simp only[Int.toNat_natCast,Prod.mk.injEq] at hc
     have h3:=congrArg List.length hc.1
     have h4:=congrArg List.length hc.2.1
     simp at h3 h4;omega
    ·exact absurd (congrArg (fun z=>z.2.2) hc) (by simp)
   rw[splitK,hi,if_neg (by simp),zgY h1]
   have e1:(x++c::r).take ((x.length:Int).toNat+0)=x:=by simp
   have e2:(x++c::r).drop ((x.length:Int).toNat+[c].length)=r:=by simp
   rw[e1,e2,splitK_one c k r]
   rw[count_one]
   rw[List.count_append,List.count_cons_self] at h
   omega
theorem splitB_one(c:UInt8)(s:ByteArray):(splitB ⟨#[c]⟩ 0 (countB s ⟨#[c]⟩) s).map (·.data.toList)=zas c s.data.toList:=by
 rw[splitB_data]
 exact splitK_one c _ _ (Nat.le_refl _)
end
end Go.Proofs.YtjdckepbihcgfaaGreatDoor
