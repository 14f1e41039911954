/- Lemmas for the walks (Ins, Obj5, Obj6, Obj8). No condition. -/
import Derived.Test.YtjdckepbihcgfaaGreatDoorG10
import Derived.Shelf.Spec.SlicesInsertGrow
set_option linter.unusedSimpArgs false
set_option linter.unusedVariables false
set_option linter.unusedSectionVars false
set_option linter.unnecessarySimpa false
set_option maxRecDepth 100000
set_option maxHeartbeats 8000000
namespace Go.Proofs.YtjdckepbihcgfaaGreatDoor
section
open Go.RowKit Go.Shelf Go.Lib
def insRho:Ren:=⟨fun n=>if n=21 then 292 else if n=27 then 295 else if n=28 then 296 else if n=35 then 297 else 298,
 fun n=>if n=0 then 0 else if n=3 then 3 else if n=4 then 4 else 24,fun n=>n⟩
theorem zjj:Lays2.n21 Tryz.prog insRho where
 mixed:=by kernel_rfl
 f21:=by kernel_rfl
 f27:=by kernel_rfl
 f28:=by kernel_rfl
 f35:=by kernel_rfl
 f39:=by kernel_rfl
 t0:=Tryz.underlying0
 a0:=Tryz.isAgg0
 z0:=Tryz.sizeOf0
 v0:=Tryz.zeroValue0
 t3:=Tryz.underlying3
 a3:=Tryz.isAgg3
 z3:=Tryz.sizeOf3
 v3:=Tryz.zeroValue3
 t4:=Tryz.underlying4
 a4:=Tryz.isAgg4
 z4:=Tryz.sizeOf4
 v4:=Tryz.zeroValue4
 t22:=Tryz.underlying24
 a22:=Tryz.isAgg24
 z22:=Tryz.sizeOf24
 v22:=Tryz.zeroValue24
 i3:=by kernel_rfl
section
variable {w:World}{g o:Nat}{cur:Array Value}{e:TypeId}{vs:List Value} 
theorem zcB(P:Program)(hg:w.heap[g]?=some (.cells cur e (0,0)))(hl:o+vs.length≤cur.size)(h1:∀u∈vs,u.oneCell'=true):
  w.setCells g o vs=w.setRow g (cur.toList.take o++vs++cur.toList.drop (o+vs.length)).toArray:=by
 have r1:=run_storeCells_at P g o e vs 0 cur w hg (by simpa using hl) h1
 have hc:∀j,j<vs.length→(w.cell? ⟨g,o+j,none⟩).isSome=true:=fun j hj=>by
  simp only[World.cell?,hg]
  simp;omega
 have hf:∀j,j<vs.length→w.frozen? ⟨g,o+j,none⟩=false:=fun j hj=>by simp[World.frozen?,hg]
 have r2:=run_storeCells_cells (P:=P) g o vs 0 w (by simpa using hc) (by simpa using hf) h1
 simp only[Nat.add_zero] at r1 r2
 rw[r1] at r2
 exact(Result.ok.inj r2).2.symm
end
section
variable {C:Ctx}{w:World}{S S':List Ent}{α:Type}{enc:α→List Value}{M e g c:Nat}{ls ls':List α} 
theorem Mem.rewriteRow(hw:Mem C w S)(hu:Upd S (zac enc M e (some ⟨g,0,Option.none⟩) c ls) (zac enc M e (some ⟨g,0,Option.none⟩) c ls') S')(hM:∀x,(enc x).length=M){cur':Array Value}(hsz:cur'.size=c * M)(hn:ls'.length≤c)(htk:cur'.toList.take (ls'.length * M)=ls'.flatMap enc):Mem C (w.setRow g cur') S':=by
 have ho:Own enc M e w 0 (.slice (some ⟨g,0,Option.none⟩) ls.length c) ls:=(hw.holds _ hu.mem).1
 obtain⟨g',cap,cur,hv,hbb,hg,hnc,hcm,hcs,htake⟩:=ho.2.resolve_left Zj
 simp only[Value.slice.injEq,Option.some.injEq,Addr.mk.injEq,and_true,true_and] at hv
 obtain⟨rfl,rfl⟩:=hv
 refine hw.upd hu (Keeps.setRow w g _) (by simp[zac,Value.ownBlock]) (fun j hj=>?_) ?_
 ·have hj':some g=some j:=hj
  cases hj'
  exact⟨by simpa using(Array.getElem?_eq_some_iff.1 hg).1,.inl rfl⟩
 ·show Own enc M e _ 0 (.slice (some ⟨g,0,Option.none⟩) ls'.length c) ls'
  exact⟨zbo hM _,.inr ⟨g,c,cur',rfl,Nat.zero_le _,setRow_heap w g cur cur' e _ hg,hn,hcm,hsz,htk⟩⟩
end
def insL(ls:List Int)(i:Nat)(a:Int):List Int:=ls.take i++a::ls.drop i
theorem zcN(ls:List Int):ls.flatMap zag=ls.map (Value.int .i64):=by
 induction ls with
 |nil=>rfl
 |cons x ls ih=>rw[List.flatMap_cons,ih];rfl
theorem insL_len{ls:List Int}{i:Nat}{a:Int}(h:i≤ls.length):(insL ls i a).length=ls.length+1:=by
 simp only[insL,List.length_append,List.length_take,List.length_cons,List.length_drop];omega
theorem insMap{ls:List Int}{i:Nat}{a:Int}:(insL ls i a).flatMap zag=(ls.map (Value.int .i64)).take i++Value.int .i64 a::(ls.map (Value.int .i64)).drop i:=by
 rw[zcN,insL,List.map_append,List.map_cons,List.map_take,List.map_drop]
theorem insMap'{ls:List Int}{i:Nat}{a:Int}:(insL ls i a).map (Value.int .i64)=(ls.map (Value.int .i64)).take i++Value.int .i64 a::(ls.map (Value.int .i64)).drop i:=by
 rw[insL,List.map_append,List.map_cons,List.map_take,List.map_drop]
theorem shift1{xs rest:List Value}{i:Nat}(hi:i<xs.length):((xs++rest).take (0+(i+1))++xs.drop i++(xs++rest).drop (0+(i+1)+(xs.drop i).length)).take (xs.length+1)=xs.take (i+1)++xs.drop i:=by
 have e:(xs++rest).take (0+(i+1))=xs.take (i+1):=by rw[Nat.zero_add,List.take_append_of_le_length Zo]
 rw[e,List.take_left' (by simp;omega)]
theorem shift2{xs tail:List Value}{i:Nat}{v:Value}(hi:i<xs.length):((xs.take (i+1)++xs.drop i++tail).take (0+i)++[v]++(xs.take (i+1)++xs.drop i++tail).drop (0+i+[v].length)).take (xs.length+1)=xs.take i++v::xs.drop i:=by
 have e1:(xs.take (i+1)++xs.drop i++tail).take (0+i)=xs.take i:=by
  rw[Nat.zero_add,List.append_assoc,List.take_append_of_le_length (by simp;omega),List.take_take,Nat.min_eq_left Zo]
 have e2:(xs.take (i+1)++xs.drop i++tail).drop (0+i+[v].length)=xs.drop i++tail:=by
  rw[Nat.zero_add,List.length_singleton,List.append_assoc,List.drop_left' (by simp;omega)]
 rw[e1,e2,←List.append_assoc,List.take_left' (by simp;omega)]
 simp
theorem zjk(k:Nat):(Builtin.zeroCells (Value.int .i64 0).cells k).size=k:=by simp[Builtin.zeroCells,Value.cells]
theorem zeros_list(k:Nat):(Builtin.zeroCells (Value.int .i64 0).cells k).toList=List.replicate k (.int .i64 0):=by
 apply List.ext_getElem?
 intro i
 rw[List.getElem?_replicate]
 by_cases h:i<k
 ·rw[if_pos h]
  simp[Builtin.zeroCells,Value.cells,h,Nat.mod_one]
 ·rw[if_neg h,List.getElem?_eq_none (by simp[zjk];omega)]
theorem newRow_memA{w:World}{F:List Nat}{l:List Int}{cap:Nat}{cs:Array Value}(hn:l.length≤cap)(hm:cap≤maxLen)(hsz:cs.size=cap)(htk:cs.toList.take l.length=l.map (Value.int .i64)):
  Mem ⟨0,F,w⟩ (w.alloc (.cells cs 3)) [zac zag 1 3 (some ⟨w.heap.size,0,none⟩) cap l]:=by
 refine(Mem.nil ⟨0,F,w⟩).alloc (.cells cs 3) (e:=zac zag 1 3 (some ⟨w.heap.size,0,none⟩) cap l) (fun k hk=>hk) ?_
 show Own zag 1 3 _ 0 (.slice (some ⟨w.heap.size,0,none⟩) l.length cap) l
 refine⟨zbo (M:=1) (enc:=zag) (fun _=>rfl) l,.inr ⟨w.heap.size,cap,cs,rfl,Nat.zero_le _,?_,hn,hm,by omega,by rw[Nat.mul_one,htk,zcN]⟩⟩
 have:=Blk.new w 3 cs
 exact this
theorem newRow_mem{w:World}{F:List Nat}{l:List Int}{cap:Nat}{cs:Array Value}(hn:l.length≤cap)(hm:cap≤maxLen)(hsz:cs.size=cap)(htk:cs.toList.take l.length=l.map (Value.int .i64)):
  Mem ⟨0,F,w⟩ (w.drew.alloc (.cells cs 3)) [zac zag 1 3 (some ⟨w.heap.size,0,none⟩) cap l]:=by
 refine((Mem.nil ⟨0,F,w⟩).drew).alloc (.cells cs 3) (e:=zac zag 1 3 (some ⟨w.heap.size,0,none⟩) cap l) (fun k hk=>hk) ?_
 show Own zag 1 3 _ 0 (.slice (some ⟨w.heap.size,0,none⟩) l.length cap) l
 refine⟨zbo (M:=1) (enc:=zag) (fun _=>rfl) l,.inr ⟨w.heap.size,cap,cs,rfl,Nat.zero_le _,?_,hn,hm,by omega,by rw[Nat.mul_one,htk,zcN]⟩⟩
 have:=Blk.new w.drew 3 cs
 exact this
theorem insert_any(w:World)(A:Option Addr)(c:Nat)(ls:List Int)(i vb vc:Nat)(a:Int)(ho:Own zag 1 3 w 0 (.slice A ls.length c) ls)(hb:Blk w vb 3 #[.int .i64 a]) 
  (hne:(Value.slice A ls.length c).ownBlock≠some vb) (hi:i≤ls.length) (hl:ls.length≤50) :
  Calls Tryz.prog 292 #[.slice A ls.length c,.int .i64 i,.slice (some ⟨vb,0,none⟩) 1 vc] w fun e w' =>
   ∃x:Option Addr×Nat,e=.returned (.slice x.1 (insL ls i a).length x.2)∧Mem ⟨0,zbb [zac zag 1 3 A c ls],w⟩ w' [zac zag 1 3 x.1 x.2 (insL ls i a)]:=by
 have hvs:∀j v,([Value.int .i64 a]:List Value)[j]?=some v→w.cell? ⟨vb,0+j,none⟩=some v:=fun j v hj=>by
  rw[Nat.zero_add,hb.cell];simpa using hj
 have h1v:∀v∈([Value.int .i64 a]:List Value),v.oneCell'=true:=fun v hv=>by
  rw[List.mem_singleton] at hv;subst hv;rfl
 have h1c:∀v∈ls.map (Value.int .i64),v.oneCell'=true:=fun v hv=>by
  obtain⟨x,_,rfl⟩:=List.mem_map.1 hv;rfl
 have hbase:Mem ⟨0,zbb [zac zag 1 3 A c ls],w⟩ w [zac zag 1 3 A c ls]:=by
  refine⟨Keeps.refl _ _,fun e he=>?_,by simp⟩
  rw[List.mem_singleton] at he
  subst he
  exact⟨ho,fun g hg=>⟨(World.ownsRow.lt ho g hg).2,.inl (by simp[zbb,(zac zag 1 3 A c ls).hfin,hg])⟩⟩
 have hlen:=insL_len (a:=a) hi
 rcases ho.2 with⟨hv,h0⟩|⟨g,cap,cur,hv,hbb,hg,hnc,hcm,hcs,htake⟩
 · -- the nil slice
  have hls:ls=[]:=List.length_eq_zero_iff.1 h0
  subst hls
  simp only[Value.slice.injEq] at hv
  obtain⟨rfl,-,rfl⟩:=hv
  obtain rfl:i=0:=by simpa using hi
  refine(Any2.slices_Insert_int_end_grow zjj none 0 0 vb 0 1 vc [] [.int .i64 a] w Zo Zo Zo Zo rfl rfl (fun _=>rfl) (fun a h=>by cases h) hvs h1v).mono ?_
  rintro e w' ⟨rfl,rfl⟩
  have hG:=grownCap_ge w (0+1) 0 (insRho.t 3)
  have hGm:=grownCap_le_maxLen w (0+1) 0 (insRho.t 3) (by unfold maxLen;omega)
  generalize grownCap w (0+1) 0 (insRho.t 3)=G at *
  refine⟨(some ⟨w.heap.size,0,none⟩,G),rfl,newRow_mem (l:=[a]) (by simpa using hG) hGm ?_ ?_⟩
  ·simp[zjk];omega
  ·simp
 ·simp only[Value.slice.injEq] at hv
  obtain⟨rfl,-,rfl⟩:=hv
  rw[Nat.mul_one] at htake hcs
  rw[zcN] at htake
  have hvbg:vb≠g:=fun e=>hne (by subst e;rfl)
  have hml:ls.length≤cur.size:=by omega
  have hcl:(ls.map (Value.int .i64)).length=ls.length:=by simp
  have hcell:∀j,w.cell? ⟨g,0+j,none⟩=cur[j]?:=fun j=>by
   rw[Nat.zero_add]
   simp[World.cell?,hg]
  have hcells:∀j v,(ls.map (Value.int .i64))[j]?=some v→w.cell? ⟨g,0+j,none⟩=some v:=fun j v hj=>by
   rw[hcell,←hj,←htake,List.getElem?_take]
   have:j<ls.length:=by have:=(List.getElem?_eq_some_iff.1 hj).1;simpa using this
   rw[if_pos this];simp
  have hfz:∀j,w.frozen? ⟨g,j,none⟩=false:=fun j=>by simp[World.frozen?,hg]
  have hg':w.drew.heap[g]?=some (.cells cur 3 (0,0)):=hg
  have hhd:∀k,k≤cur.size→(cur.toList.take k).length=k:=fun k hk=>by simp;omega
  have hdnil:(ls.map (Value.int .i64)).drop ls.length=[]:=List.drop_eq_nil_of_le Zj
  by_cases hend:i=ls.length
  ·subst hend
   by_cases hroom:ls.length+1≤c
   ·refine(Any2.slices_Insert_int_end_room zjj g 0 ls.length c vb 0 1 vc [.int .i64 a] w Zo hroom (by unfold maxLen at hcm;omega) rfl (fun j hj=>by
     simp only[World.cell?,hg];simp;omega) (fun j hj=>hfz _) hvs h1v).mono ?_
    rintro e w' ⟨rfl,rfl⟩
    rw[zcB Tryz.prog hg (by simp;omega) h1v]
    refine⟨(some ⟨g,0,none⟩,c),by rw[hlen],hbase.rewriteRow (Upd.here _ _ _) (fun _=>rfl) ?_ Zo ?_⟩
    ·simp;omega
    ·rw[Nat.mul_one,hlen,insMap,List.take_of_length_le (l:=ls.map (Value.int .i64)) Zj,hdnil,Nat.zero_add,htake]
     rw[List.toList_toArray,List.take_left' Zj]
   ·refine(Any2.slices_Insert_int_end_grow zjj (some ⟨g,0,none⟩) ls.length c vb 0 1 vc (ls.map (Value.int .i64)) [.int .i64 a] w Zo hnc Zo Zo hcl rfl (fun h=>by cases h) (fun ad h j v hj=>by
     cases h
     rw[zds];exact hcells j v hj) hvs h1v).mono ?_
    rintro e w' ⟨rfl,rfl⟩
    have hG:=grownCap_ge w (ls.length+1) c (insRho.t 3)
    have hGm:=grownCap_le_maxLen w (ls.length+1) c (insRho.t 3) (by unfold maxLen;omega)
    generalize grownCap w (ls.length+1) c (insRho.t 3)=G at *
    refine⟨(some ⟨w.heap.size,0,none⟩,G),by rw[hlen],newRow_mem Zo hGm ?_ ?_⟩
    ·simp[zjk];omega
    ·rw[hlen,insMap',List.take_of_length_le (l:=ls.map (Value.int .i64)) Zj,List.drop_eq_nil_of_le Zj]
     simp only[Array.toList_append]
     rw[List.take_left' Zj]
  ·by_cases hroom:ls.length+1≤c
   ·refine(Any2.slices_Insert_int_shift zjj g 0 ls.length c i vb 0 1 vc (ls.map (Value.int .i64)) [.int .i64 a] w Zo Zo hroom (by unfold maxLen at hcm;omega) hvbg hcl rfl hcells (fun j hj=>by
     rw[hcell];simp;omega) (fun j hj=>hfz _) hvs h1c h1v 3 3 1 cur.size (by
     unfold Blk at hb;simp[World.shape?,hb]) (by simp[World.shape?,hg]) Zo (hb.frozen _) (hb.frozen _)).mono ?_
    rintro e w' ⟨rfl,rfl⟩
    -- the items behind i, one place on
    obtain⟨rest,hrest⟩:∃rest,cur.toList=ls.map (Value.int .i64)++rest:=⟨cur.toList.drop ls.length,by rw[←htake,List.take_append_drop]⟩
    have hrl:ls.length+rest.length=c:=by
     have:=congrArg List.length hrest
     simp at this;omega
    have hmi:(insL ls i a).flatMap zag=(ls.map (Value.int .i64)).take i++Value.int .i64 a::(ls.map (Value.int .i64)).drop i:=insMap
    have hmj:(ls.take (i+1)++ls.drop i).flatMap zag=(ls.map (Value.int .i64)).take (i+1)++(ls.map (Value.int .i64)).drop i:=by
     rw[zcN,List.map_append,List.map_take,List.map_drop]
    have hil:i<(ls.map (Value.int .i64)).length:=by rw[hcl];omega
    have hdl:((ls.map (Value.int .i64)).drop i).length=ls.length-i:=by simp
    have h1d:∀v∈(ls.map (Value.int .i64)).drop i,v.oneCell'=true:=fun v hv=>h1c v (List.mem_of_mem_drop hv)
    rw[zcB Tryz.prog (w:=w.drew) (o:=0+(i+1)) hg' (by rw[hdl];omega) h1d,hrest]
    have hj:(ls.take (i+1)++ls.drop i).length=ls.length+1:=by simp;omega
    generalize hxs:ls.map (Value.int .i64)=xs at *
    obtain⟨c1,hc1⟩:∃c1,c1=(xs++rest).take (0+(i+1))++xs.drop i++(xs++rest).drop (0+(i+1)+(xs.drop i).length):=⟨_,rfl⟩
    have hc1l:c1.length=c:=by rw[hc1];simp;omega
    have hc1t:c1.take (xs.length+1)=xs.take (i+1)++xs.drop i:=by rw[hc1];exact shift1 hil
    obtain⟨tail,htail⟩:∃tail,c1=xs.take (i+1)++xs.drop i++tail:=⟨c1.drop (xs.length+1),by rw[←hc1t,List.take_append_drop]⟩
    rw[←hc1]
    have hw1:Mem ⟨0,zbb [zac zag 1 3 (some ⟨g,0,none⟩) c ls],w⟩ (w.drew.setRow g c1.toArray) [zac zag 1 3 (some ⟨g,0,none⟩) c (ls.take (i+1)++ls.drop i)]:=by
     refine hbase.drew.rewriteRow (Upd.here _ _ _) (fun _=>rfl) (by simp[hc1l]) Zo ?_
     rw[Nat.mul_one,hj,hmj,List.toList_toArray,←hc1t,hcl]
    have hg1:(w.drew.setRow g c1.toArray).heap[g]?=some (.cells c1.toArray 3 (0,0)):=setRow_heap w.drew g cur c1.toArray _ _ hg'
    rw[zcB Tryz.prog hg1 (by simp;omega) h1v]
    refine⟨(some ⟨g,0,none⟩,c),by rw[hlen],hw1.rewriteRow (Upd.here _ _ _) (fun _=>rfl) ?_ Zo ?_⟩
    ·simp;omega
    ·rw[Nat.mul_one,hlen,hmi,List.toList_toArray,List.toList_toArray,htail,←hcl]
     exact shift2 hil
   ·refine(Any2.slices_Insert_int_grow zjj g 0 ls.length c i vb 0 1 vc (ls.map (Value.int .i64)) [.int .i64 a] w Zo Zo hnc Zo Zo hcl rfl hcells hvs h1c h1v).mono ?_
    rintro e w' ⟨rfl,rfl⟩
    have hG:=grownCap_ge w (ls.length+1) c (insRho.t 3)
    have hGm:=grownCap_le_maxLen w (ls.length+1) c (insRho.t 3) (by unfold maxLen;omega)
    generalize grownCap w (ls.length+1) c (insRho.t 3)=G at *
    have hil:i<(ls.map (Value.int .i64)).length:=by rw[hcl];omega
    have hdl:((ls.map (Value.int .i64)).drop i).length=ls.length-i:=by simp
    have h1d:∀v∈(ls.map (Value.int .i64)).drop i,v.oneCell'=true:=fun v hv=>h1c v (List.mem_of_mem_drop hv)
    obtain⟨c0,hc0⟩:∃c0:List Value,c0=(ls.map (Value.int .i64)).take i++(List.replicate (ls.length+1-i) (.int .i64 0)++List.replicate (G-(ls.length+1)) (.int .i64 0)):=⟨_,rfl⟩
    have hrow:((ls.map (Value.int .i64)).take i).toArray++Builtin.zeroCells (Value.int .i64 0).cells (ls.length+1-i)++Builtin.zeroCells (Value.int .i64 0).cells (G-(ls.length+1))=c0.toArray:=by
     apply Array.toList_inj.1
     simp only[Array.toList_append,zeros_list,hc0,List.append_assoc]
    rw[hrow,show insRho.t 3=3 from rfl]
    have hc0l:c0.length=G:=by rw[hc0];simp;omega
    have hw0:Mem ⟨0,zbb [zac zag 1 3 (some ⟨g,0,none⟩) c ls],w⟩ (w.alloc (.cells c0.toArray 3)).drew [zac zag 1 3 (some ⟨w.heap.size,0,none⟩) G (ls.take i++List.replicate (ls.length+1-i) 0)]:=by
     refine(newRow_memA (l:=ls.take i++List.replicate (ls.length+1-i) 0) (by simp;omega) hGm (by simp[hc0l]) ?_).drew
     rw[hc0,List.toList_toArray,←List.append_assoc,List.take_left' Zj]
     simp
    have hg0:(w.alloc (.cells c0.toArray 3)).drew.heap[w.heap.size]?=some (.cells c0.toArray 3 (0,0)):=Blk.new w 3 c0.toArray
    rw[zcB Tryz.prog (o:=i) hg0 (by simp[hc0l];omega) h1v]
    obtain⟨c1,hc1⟩:∃c1:List Value,c1=c0.take i++[.int .i64 a]++c0.drop (i+1):=⟨_,rfl⟩
    have hc1l:c1.length=G:=by rw[hc1];simp;omega
    have hc1e:c1=(ls.map (Value.int .i64)).take i++[.int .i64 a]++(List.replicate (ls.length-i) (.int .i64 0)++List.replicate (G-(ls.length+1)) (.int .i64 0)):=by
     rw[hc1,hc0,List.take_left' (by simp;omega)]
     congr 1
     rw[List.drop_append,List.drop_eq_nil_of_le (by simp;omega),List.nil_append,show i+1-((ls.map (Value.int .i64)).take i).length=1 by simp;omega,show ls.length+1-i=(ls.length-i)+1 by omega,List.replicate_succ]
     rfl
    have hw1:Mem ⟨0,zbb [zac zag 1 3 (some ⟨g,0,none⟩) c ls],w⟩ (((w.alloc (.cells c0.toArray 3)).drew.setRow w.heap.size c1.toArray).drew) [zac zag 1 3 (some ⟨w.heap.size,0,none⟩) G (ls.take i++[a]++List.replicate (ls.length-i) 0)]:=by
     refine(hw0.rewriteRow (Upd.here _ _ _) (fun _=>rfl) (by simp[hc1l]) (by simp;omega) ?_).drew
     rw[Nat.mul_one,hc1e,List.toList_toArray,←List.append_assoc,List.take_left' Zj,zcN]
     simp
    have hg1:(((w.alloc (.cells c0.toArray 3)).drew.setRow w.heap.size c1.toArray).drew).heap[w.heap.size]?=some (.cells c1.toArray 3 (0,0)):=setRow_heap _ w.heap.size c0.toArray c1.toArray _ _ hg0
    rw[show(c0.toArray.toList.take i++[Value.int .i64 a]++c0.toArray.toList.drop (i+[Value.int .i64 a].length)).toArray=c1.toArray by rw[hc1];rfl]
    rw[zcB Tryz.prog (o:=i+1) hg1 (by simp[hc1l];omega) h1d]
    refine⟨(some ⟨w.heap.size,0,none⟩,G),by rw[hlen],hw1.rewriteRow (Upd.here _ _ _) (fun _=>rfl) ?_ Zo ?_⟩
    ·simp;omega
    ·rw[Nat.mul_one,hlen,insMap,List.toList_toArray,List.toList_toArray]
     have e1:c1.take (i+1)=(ls.map (Value.int .i64)).take i++[.int .i64 a]:=by rw[hc1e,List.take_left' (by simp;omega)]
     rw[e1,List.take_left' (by simp;omega)]
     simp
end
section
open Go.RowKit
theorem Q0Obj5{p R:Prop}(r:R)(h:Rest R→p:=by intro r;(first|with_reducible (first|apply zcE|apply za9|apply zba|apply zbd|apply zbe)|((with_reducible (first|apply zaN|apply zaO));exact rfl;exact rfl;(with_reducible exact rfl)));(first|exact QS.auto|((with_reducible apply zci);exact rfl;exact rfl;omega)|((with_reducible apply QS_slice3);exact rfl;exact rfl;exact rfl;exact rfl;omega;omega;omega)|((with_reducible apply QS_sliceLH);exact rfl;exact rfl;exact rfl;omega;omega));exact rfl;exact r.out):p:=h ⟨r⟩
section
variable {P:Program}{C:Ctx}{Q:Exit→Act→World→Prop}{E:zaE}{S S':List Ent}{l rest:List Oper} 
variable {t m e bytes d g p n c i j q cy k:Nat}{x y u:Operand}{v z:Value}{ty:TypeId}{g0:Option (Nat×Bool)}{ps:String}{af:Array Edge}{ad:Addr}{ls:List Int} 
theorem QS_sliceLH[hs:SliceOf P t e m]{k1 k2:IntKind}{l h:Nat}(hx:evo E x=some (.slice (some ⟨g,p,none⟩) n c))(hy:evo E y=some (.int k1 (l:Nat)))(hu:evo E u=some (.int k2 (h:Nat)))(hl:l≤h)(hh:h≤c):
  QS P C E S (.slice t x (some y) (some u) none) ty (.slice (some ⟨g,if c=l then p else p+l * m,none⟩) (h-l) (c-l)) :=
 QS.of (fun a w ha _=>by
  have he:P.elem t=e:=by simp[Program.elem,hs.und]
  have hu':P.underlying t=some (.slice (P.elem t)):=by rw[he];exact hs.und
  have hr:=run_slice_lh (P:=P) (w:=w) t (some ⟨g,p,none⟩) n c hu' k1 k2 (l:Int) (h:Int) Zo Zo Zo
  rw[he,hs.size w] at hr
  simp only[Result.andThen_ok,Int.toNat_natCast] at hr
  have hv:sliced (some ⟨g,p,none⟩) l h c m=.slice (some ⟨g,if c=l then p else p+l * m,none⟩) (h-l) (c-l):=by
   unfold sliced
   split<;>simp[zds]
  rw[hv] at hr
  simp[execOp,ha.evo hx,ha.evo hy,ha.evo hu,run_sliceAt_slice (P:=P) (w:=w) t _ _ _ _ hu',hr])
theorem QS_slice3[hs:SliceOf P t e m]{k1 k2 k3:IntKind}{r:Operand}{l h b:Int}(hx:evo E x=some (.slice (some ⟨g,p,none⟩) n c))(hy:evo E y=some (.int k1 l))(hu:evo E u=some (.int k2 h))(hr:evo E r=some (.int k3 b))(hl:0≤l∧l≤h)(hh:h≤b)(hb:b≤c):
  QS P C E S (.slice t x (some y) (some u) (some r)) ty (sliced (some ⟨g,p,none⟩) l.toNat h.toNat b.toNat m) :=
 QS.of (fun a w ha _=>by
  have he:P.elem t=e:=by simp[Program.elem,hs.und]
  have hu':P.underlying t=some (.slice (P.elem t)):=by rw[he];exact hs.und
  have hrr:=run_slice_lhm (P:=P) (w:=w) t (some ⟨g,p,none⟩) n c hu' k1 k2 k3 l h b hl.1 hl.2 hh hb
  rw[he,hs.size w] at hrr
  simp only[Result.andThen_ok] at hrr
  simp[execOp,ha.evo hx,ha.evo hy,ha.evo hu,ha.evo hr,run_sliceAt_slice (P:=P) (w:=w) t _ _ _ _ hu',hrr])
theorem intOnes(l:List Int):∀v∈l.flatMap zag,v.oneCell'=true:=fun v hv=>by
 rw[zcN] at hv
 obtain⟨x,_,rfl⟩:=List.mem_map.1 hv;rfl
theorem ES_appendIn[hs:SliceOf P t e 1][hi:InfoOf P e z 1 bytes](hx:evo E x=some (.slice (some ⟨g,0,none⟩) i c))(hy:evo E y=some (.slice (some ad) q cy)) 
  (hq:q=ls.length-j) (hij:i≤j) (hj:j≤ls.length) (had:j<ls.length→ad=⟨g,j,none⟩)
  (hu:Upd S (zac zag 1 e (some ⟨g,0,none⟩) c ls) (zac zag 1 e (some ⟨g,0,none⟩) c (ls.take i++ls.drop j)) S') (hd:Nat.ble (d+1) C.n=true) :
  ES P C E S ⟨some d,.call ⟨.builtin .append,#[x,y],#[t,t]⟩,ty,ps,af,g0⟩ (fun E' T=>E'=(d,.slice (some ⟨g,0,none⟩) (i+q) c)::E∧T=S'):=by
 refine(zc3 (fun u T=>u=.slice (some ⟨g,0,none⟩) (i+q) c∧T=S') (fun a w ha hw=>?_) hd).weak (by rintro _ _ ⟨_,⟨rfl,rfl⟩,rfl⟩;exact⟨rfl,rfl⟩)
 have ho:Own zag 1 e w 0 (.slice (some ⟨g,0,none⟩) ls.length c) ls:=(hw.holds _ hu.mem).1
 obtain⟨g',cap,cur,hv,hbb,hg,hnc,hcm,hcs,htake⟩:=ho.2.resolve_left Zj
 simp only[Value.slice.injEq,Option.some.injEq,Addr.mk.injEq,and_true,true_and] at hv
 obtain⟨rfl,rfl⟩:=hv
 rw[Nat.mul_one] at hcs htake
 rw[zcN] at htake
 obtain⟨ti,hi0,hi1,hi2,hi3⟩:=hi.parts
 have hql:(ls.drop j).length=q:=by rw[List.length_drop,hq]
 have hn:((ls.drop j).flatMap zag).length=q:=by rw[zcN,List.length_map,hql]
 have hcell:∀k,w.cell? ⟨g,k,none⟩=cur[k]?:=fun k=>by simp[World.cell?,hg]
 have hread:∀k u,((ls.drop j).flatMap zag)[k]?=some u→w.cell? (ad.add k)=some u:=fun k u hk=>by
  have hkq:k<q:=by rw[←hn];exact(List.getElem?_eq_some_iff.1 hk).1
  rw[had Zo,zds,hcell]
  rw[zcN,List.getElem?_map,List.getElem?_drop,←List.getElem?_map,←htake,List.getElem?_take] at hk
  rw[if_pos Zo] at hk
  rw[←hk];simp
 have hr:=run_append_room_cells (P:=P) (w:=w) t ty e ti hs.und hi0 g 0 i c ad q cy ((ls.drop j).flatMap zag) (by rw[hi2,hn,Nat.mul_one]) hread (intOnes _) Zo
  (fun k hk=>by rw[hi2,hcell];simp;omega) (fun k hk=>by simp[World.frozen?,hg])
 rw[hi2,Nat.zero_add,Nat.mul_one,zcB P hg (by rw[hn];omega) (intOnes _)] at hr
 refine⟨_,w.setRow g (cur.toList.take i++(ls.drop j).flatMap zag++cur.toList.drop (i+((ls.drop j).flatMap zag).length)).toArray,S',?_,hw.rewriteRow hu (fun _=>rfl) ?_ ?_ ?_,rfl,rfl⟩
 ·simp[execOp,resolve,invoke,builtin,ha.evo hx,ha.evo hy,hr]
 ·simp[hn];omega
 ·simp;omega
 ·have hil:(ls.take i++ls.drop j).length=i+q:=by rw[List.length_append,List.length_take,hql];omega
  have e1:cur.toList.take i=(ls.take i).map (Value.int .i64):=by
   rw[List.map_take,←htake,List.take_take,Nat.min_eq_left Zo]
  rw[Nat.mul_one,hil,List.toList_toArray,e1,List.take_left' (by simp[hn];omega),zcN,zcN,List.map_append]
theorem ES_clearSpare[hs:SliceOf P t e 1][hi:InfoOf P e z 1 bytes][hz:ZeroOf P e z](hx:evo E x=some (.slice (some ⟨g,p,none⟩) n k))(hm:zac zag 1 e (some ⟨g,0,none⟩) c ls∈S) 
  (hp:ls.length≤p) (hn0:0<n) (hpc:p+n≤c) (h1:z.cells.toList.all (·.oneCell')=true) (hu:Upd S (zac zag 1 e (some ⟨g,0,none⟩) c ls) (zac zag 1 e (some ⟨g,0,none⟩) c ls) S') :
  ES P C E S ⟨none,.call ⟨.builtin .clear,#[x],#[t]⟩,ty,ps,af,g0⟩ (fun E' T=>E'=E∧T=S'):=by
 refine(ES_none (fun T=>T=S') (fun a w ha hw=>?_)).weak (by rintro _ _ ⟨rfl,rfl⟩;exact⟨rfl,rfl⟩)
 have ho:Own zag 1 e w 0 (.slice (some ⟨g,0,none⟩) ls.length c) ls:=(hw.holds _ hm).1
 obtain⟨g',cap,cur,hv,hbb,hg,hnc,hcm,hcs,htake⟩:=ho.2.resolve_left Zj
 simp only[Value.slice.injEq,Option.some.injEq,Addr.mk.injEq,and_true,true_and] at hv
 obtain⟨rfl,rfl⟩:=hv
 rw[Nat.mul_one] at hcs
 have run:∀w',(Builtin.clear_ #[t] ty #[.slice (some ⟨g,p,none⟩) n k]).run P w=.ok (.tuple #[]) w'→(execOp a.eval ⟨none,.call ⟨.builtin .clear,#[x],#[t]⟩,ty,ps,af,g0⟩).run P w=.ok (.value (.tuple #[])) w':=by
  intro w' h
  simp[execOp,resolve,invoke,builtin,ha.evo hx,h]
 have hzs:(Builtin.zeroCells z.cells n).size=n:=by simp[Builtin.zeroCells,hi.zsize]
 have hst:=run_storeCells_at P g p e (Builtin.zeroCells z.cells n).toList 0 cur w hg (by simp[hzs];omega) (fun u hu=>List.all_eq_true.1 h1 u (zeroCells_mem hu))
 simp only[Nat.add_zero] at hst
 obtain⟨m,hm'⟩:∃m,n=m+1:=⟨n-1,by omega⟩
 refine⟨.tuple #[],_,S',run _ ?_,hw.rewriteRow hu (fun _=>rfl) (cur':=(cur.toList.take p++(Builtin.zeroCells z.cells n).toList++cur.toList.drop (p+(Builtin.zeroCells z.cells n).toList.length)).toArray) ?_ hnc ?_,rfl⟩
 ·subst hm'
  simp only[Builtin.clear_,List.getElem?_toArray,List.getElem?_cons_zero,run_underlying hs.und,Sem.run_bind,Result.andThen_ok,hz.run w,hst,Sem.run_pure]
 ·simp[hzs];omega
 ·rw[List.toList_toArray,List.append_assoc,List.take_append_of_le_length (by simp;omega),List.take_take,Nat.min_eq_left Zo]
  exact htake
end
section
variable (g c:Nat)(ls:List Int)(w:World)(i:Nat)(hi:i<ls.length) 
include hi
theorem delete_any(hm:Mem ⟨0,zbb [zac zag 1 3 (some ⟨g,0,none⟩) c ls],w⟩ w [zac zag 1 3 (some ⟨g,0,none⟩) c ls])(hc:ls.length≤c):
  Calls Tryz.prog 293 #[.slice (some ⟨g,0,none⟩) ls.length c,.int .i64 i,.int .i64 ((i:Int)+1)] w fun e w'=>e=.returned (.slice (some ⟨g,0,none⟩) (ls.take i++ls.drop (i+1)).length c) ∧
   Mem ⟨0,zbb [zac zag 1 3 (some ⟨g,0,none⟩) c ls],w⟩ w' [zac zag 1 3 (some ⟨g,0,none⟩) c (ls.take i++ls.drop (i+1))]:=by
 generalize zbb [zac zag 1 3 (some ⟨g,0,none⟩) c ls]=F at hm ⊢
 refine zaj F Tryz.func293 rfl Tryz.ntmps293 Zj (hm.anyN _) ?_
 have e1:(i:Int)+1=((i+1:Nat):Int):=by omega
 rw[e1]
 have hll:(ls.take i++ls.drop (i+1)).length=i+(ls.length-(i+1)):=by simp only[List.length_append,List.length_take,List.length_drop];omega
 have hadr:i+1<ls.length→(⟨g,if c=i+1 then 0 else 0+(i+1) * 1,none⟩:Addr)=⟨g,i+1,none⟩:=fun h=>by
  rw[if_neg Zo];congr 1;omega
 repeat' (first
  |refine Q0Obj5 ?_|refine Zha ?_|(refine Zhb ?_;intro g)|(refine Zg ?_ ?_<;>(intro h;try exact Zx))|refine GOF ?_ ?_|((with_reducible apply zam (id:=5) 6 (OT.seq [(0,0),(0,1),(0,2),(0,3),(0,4),(0,5),(3,6),(0,7)] .nil));kernel_rfl;exact rfl;kernel_rfl;exact Zd)|((with_reducible (first|apply zaa|apply TD_e3z|apply zan|apply zaf|apply zae));((with_reducible apply ES_appendIn (i:=i) (j:=i+1) (ls:=ls));exact rfl;exact rfl;exact rfl;omega;omega;exact hadr;exact Zu;exact rfl);exact Zh;(rintro _ _ ⟨rfl,rfl⟩);(try refine⟨SUB,?_⟩))|((with_reducible (first|apply zaa|apply TD_e3z|apply zan|apply zaf|apply zae));((with_reducible apply ES_clearSpare (ls:=ls.take i++ls.drop (i+1)));exact rfl;exact Zm;(rw[hll,if_neg Zo];omega);omega;(rw[if_neg Zo];omega);decide;(exact Zu));exact Zh;(rintro _ _ ⟨rfl,rfl⟩);(try refine⟨SUB,?_⟩))|fail)
 (refine zah Tryz.results293 rfl (fun w' hw=>?_))
 exact⟨by rw[hll];rfl,hw.anyN 0⟩
end
/-! slices that are read alone, of blocks of one's own -/
def zb4{α:Type}(enc:α→List Value)(M:Nat)(A:Option Addr)(l:List α):Ent :=
 ⟨fun k=>A.map (·.block)=some k,(A.map (·.block)).toList,fun k=>by simp[Option.mem_toList],fun w=>RdE enc M w A l,fun w w' h hp=>by
  intro i x hx
  obtain⟨b,o,rfl,hb,hc⟩:=hp i x hx
  have hh:=h b rfl
  refine⟨b,o,rfl,?_,fun j v hv=>(World.cell?_of_block (a:=⟨b,_,none⟩) hh).trans (hc j v hv)⟩
  have h1:(w'.heap[b]?).isSome=true:=by rw[hh];simp[hb]
  have:=(Array.getElem?_eq_some_iff.1 (Option.eq_some_of_isSome h1)).1
  exact this⟩
section
variable {C:Ctx}{w w':World}{S:List Ent}{α:Type}{enc:α→List Value}{M et c:Nat}{A B:Option Addr}{ls l:List α} 
theorem Mem.rdIn(hw:Mem C w S)(hm:zb4 enc M A l∈S):RdE enc M w A l:=(hw.holds _ hm).1
theorem Mem.toRd{e:Ent}(hw:Mem C w S)(hm:e∈S)(hB:∀g,B.map (·.block)=some g→e.has g)(hr:RdE enc M w B l):Mem C w [zb4 enc M B l]:=by
 refine⟨hw.keeps,fun f hf=>?_,by simp⟩
 rw[List.mem_singleton] at hf
 subst hf
 exact⟨hr,fun g hg=>(hw.holds e hm).2 g (hB g hg)⟩
theorem Mem.ownToRd(hw:Mem C w S)(hm:zac enc M et A c ls∈S)(hM:∀x,(enc x).length=M):Mem C w [zb4 enc M A ls] :=
 hw.toRd hm (fun g hg=>by
  show(Value.slice A ls.length c).ownBlock=some g
  cases A with
  |none=>cases hg
  |some a=>exact hg) (hw.ownRd hm hM)
end
end
section
open Go.RowKit
theorem zeY{p R:Prop}(r:R)(h:Rest R→p:=by intro r;(first|with_reducible (first|apply zcE|apply za9|apply zba|apply zbd|apply zbe)|((with_reducible (first|apply zaN|apply zaO));exact rfl;exact rfl;(with_reducible exact rfl)));(first|((with_reducible apply zgj);exact rfl;exact Zm)|((with_reducible apply za1);exact rfl;exact Lds.zero _)|exact QS.auto|((with_reducible apply zcZ (j:=s.length-1));exact rfl;exact rfl;omega;omega));exact rfl;exact r.out):p:=h ⟨r⟩
section
variable {P:Program}{C:Ctx}{E:zaE}{S:List Ent}{t e m g p n c:Nat}{x y:Operand}{ty:TypeId} 
theorem zcZ[hs:SliceOf P t e m]{k:IntKind}{j:Nat}{z:Int}(hx:evo E x=some (.slice (some ⟨g,p,none⟩) n c))(hy:evo E y=some (.int k z))(hz:z=(j:Nat))(hj:j≤c):
  QS P C E S (.slice t x none (some y) none) ty (.slice (some ⟨g,p,none⟩) j c):=zci hx (by rw[hy,hz]) hj
end
section
variable {C:Ctx}{w:World}{S:List Ent}{α:Type}{enc:α→List Value}{M et c g o:Nat}{A:Option Addr}{ls l:List α} 
theorem Mem.nilRd(hw:Mem C w S)(A:Option Addr)(hA:A=Option.none):Mem C w [zb4 enc M A ([]:List α)]:=by
 subst hA
 refine⟨hw.keeps,fun f hf=>?_,by simp⟩
 rw[List.mem_singleton] at hf
 subst hf
 exact⟨RdE.nil _,fun g hg=>by cases hg⟩
theorem RdE.drop(h:RdE enc M w (some ⟨g,o,Option.none⟩) l)(k:Nat):RdE enc M w (some ⟨g,o+k * M,Option.none⟩) (l.drop k):=by
 intro i x hx
 rw[List.getElem?_drop] at hx
 obtain⟨b,o',he,hb,hc⟩:=h (k+i) x hx
 cases he
 refine⟨g,o+k * M,rfl,hb,fun j v hv=>?_⟩
 have:=hc j v hv
 rwa [Nat.add_mul,←Nat.add_assoc] at this
theorem Mem.blkToRd{cs:Array Value}(hw:Mem C w S)(hm:zak g et cs∈S)(ls:List Int)(hcs:cs.toList=ls.map (Value.int .i64)):Mem C w [zb4 zag 1 (some ⟨g,0,Option.none⟩) ls] :=
 hw.toRd hm (fun k hk=>by
  have:some g=some k:=hk
  cases this;rfl) (by
  intro i x hx
  have hb:Blk w g et cs:=(hw.holds _ hm).1
  refine⟨g,0,rfl,hb.lt,fun j v hv=>?_⟩
  cases j with
  |zero =>
   have hv':Value.int .i64 x=v:=by simpa[zag] using hv
   rw[hb.cell,←hv',Nat.zero_add,Nat.mul_one,Nat.add_zero,←Array.getElem?_toList,hcs,List.getElem?_map,hx];rfl
  |succ j=>simp[zag] at hv)
end
def zdU(R:Res)(x:Option Addr×Nat):Value:=.tuple #[.slice x.1 R.1.length x.2,.int .i64 R.2.1,.int .i64 R.2.2]
def zgr(f:Nat)(typ:Int):Prop:=∀(A:Option Addr) (c:Nat) (s:List Int) (kind a:Int) (w:World),zcj typ s=true→s.length≤50→Mem ⟨0,zbb [zac zag 1 3 A c s],w⟩ w [zac zag 1 3 A c s] →
 Calls Tryz.prog f #[.agg #[],.slice A s.length c,.int .i64 kind,.int .i64 a] w fun e w'=>∃x:Option Addr×Nat,e=.returned (zdU (zaB typ s kind a) x)∧Mem ⟨0,zbb [zac zag 1 3 A c s],w⟩ w' [zb4 zag 1 x.1 (zaB typ s kind a).1]
def putR(s:List Int)(a:Int):Res:=if s.length=50 then([],0,2) else(s++[a],0,0)
section
variable (A:Option Addr)(c:Nat)(s:List Int)(a:Int)(w:World)(hl:s.length≤50)(hm:Mem ⟨0,zbb [zac zag 1 3 A c s],w⟩ w [zac zag 1 3 A c s]) 
include hl hm
theorem put_any:Calls Tryz.prog 287 #[.agg #[],.slice A s.length c,.int .i64 a] w fun e w'=>∃x:Option Addr×Nat,e=.returned (zdU (putR s a) x)∧Mem ⟨0,zbb [zac zag 1 3 A c s],w⟩ w' [zb4 zag 1 x.1 (putR s a).1]:=by
 generalize zbb [zac zag 1 3 A c s]=F at hm ⊢
 refine zaj F Tryz.func287 rfl Tryz.ntmps287 Zj (hm.anyN _) ?_
 repeat' (first|refine zeY ?_|refine Zga ?_|(refine Zgb ?_;intro g)|(refine Zg ?_ ?_<;>(intro h;try exact Zx))|((with_reducible (first|apply zaa|apply TD_e3z|apply zan|apply zaf|apply zae));((with_reducible apply zaw (enc:=zag));exact rfl;exact rfl;exact Zm;exact rfl;exact fun _=>rfl;exact fun _=>rfl;(intro A' c';exact Zu);(omega);decide;exact rfl);exact Zh;(rintro _ _ ⟨A',c',rfl,rfl⟩);(try refine⟨SUB,?_⟩))|fail)
 ·(refine zah Tryz.results287 rfl (fun w' hw=>?_))
  have e:putR s a=([],0,2):=by rw[putR,if_pos Zo]
  rw[e]
  exact⟨(none,0),rfl,(hw.anyN 0).nilRd none rfl⟩
 ·(refine zah Tryz.results287 rfl (fun w' hw=>?_))
  have e:putR s a=(s++[a],0,0):=by rw[putR,if_neg Zo]
  rw[e]
  exact⟨(A',c'),rfl,(hw.anyN 0).ownToRd Zm (fun _=>rfl)⟩
end
theorem registerStep:zgr 282 1:=by
 intro A c s kind a w hv hl hm
 have hv':zjf s=true:=hv
 have h1:s.length=1:=by
  simp only[zjf,Bool.and_eq_true,decide_eq_true_eq] at hv';exact hv'.1
 obtain⟨x,rfl⟩:=List.length_eq_one_iff.1 h1
 generalize zbb [zac zag 1 3 A c [x]]=F at hm ⊢
 refine zaj F Tryz.func282 rfl Tryz.ntmps282 Zj (hm.anyN _) ?_
 refine zb1 (ls:=[x]) Zm Zj ?_
 rintro gA rfl
 repeat' (first|refine zeY ?_|refine Zha ?_|(refine Zhb ?_;intro g)|(refine Zg ?_ ?_<;>(intro h;try exact Zx))|refine GOF ?_ ?_|((with_reducible apply zam (id:=3) 1000 (OT.seq [(0,0),(0,1),(0,2),(0,4),(1,3),(0,5),(0,6)] .nil));kernel_rfl;exact rfl;kernel_rfl;exact Zd)|fail)
 ·(refine zah Tryz.results282 rfl (fun w' hw=>?_))
  have e:zaB 1 [x] kind a=([a],0,0):=by simp[zaB,‹kind=1›]
  rw[e]
  exact⟨(_,_),rfl,(hw.anyN 0).blkToRd Zm [a] rfl⟩
 ·(refine zah Tryz.results282 rfl (fun w' hw=>?_))
  have e:zaB 1 [x] kind a=([x],x,0):=by simp[zaB,‹¬kind=1›]
  rw[e]
  exact⟨(_,_),rfl,(hw.anyN 0).ownToRd Zm (fun _=>rfl)⟩
theorem ticketStep:zgr 299 5:=by
 intro A c s kind a w hv hl hm
 have hv':zjf s=true:=hv
 simp only[zjf,Bool.and_eq_true,decide_eq_true_eq] at hv'
 obtain⟨h1,h2⟩:=hv'
 obtain⟨x,rfl⟩:=List.length_eq_one_iff.1 h1
 have h3:0≤x∧x≤1000:=h2
 generalize zbb [zac zag 1 3 A c [x]]=F at hm ⊢
 refine zaj F Tryz.func299 rfl Tryz.ntmps299 Zj (hm.anyN _) ?_
 refine zb1 (ls:=[x]) Zm Zj ?_
 rintro gA rfl
 have hx1:(-9223372036854775808:Int)≤[x][0]+1∧[x][0]+1≤9223372036854775807:=by
  have:[x][0]=x:=rfl
  omega
 have hx2:=hx1.2
 have hx3:=hx1.1
 repeat' (first|refine zeY ?_|refine Zha ?_|(refine Zhb ?_;intro g)|(refine Zg ?_ ?_<;>(intro h;try exact Zx))|refine GOF ?_ ?_|((with_reducible apply zam (id:=3) 1000 (OT.seq [(0,0),(0,1),(0,5),(0,6),(1,2),(0,3),(1,7),(2,4),(0,8),(0,9),(0,10)] .nil));kernel_rfl;exact rfl;kernel_rfl;exact Zd)|fail)
 ·(refine zah Tryz.results299 rfl (fun w' hw=>?_))
  have e:zaB 5 [x] kind a=([],0,2):=by
   have:x=1000:=‹[x][0]=1000›
   simp[zaB,this]
  rw[e]
  exact⟨(none,0),rfl,(hw.anyN 0).nilRd none rfl⟩
 ·(refine zah Tryz.results299 rfl (fun w' hw=>?_))
  have e:zaB 5 [x] kind a=([x+1],x,0):=by
   have:¬x=1000:=‹¬[x][0]=1000›
   simp[zaB,this]
  rw[e]
  exact⟨(_,_),rfl,(hw.anyN 0).blkToRd Zm [x+1] rfl⟩
theorem queueStep:zgr 286 2:=by
 intro A c s kind a w hv hl hm
 have hp:=fun w h=>put_any A c s a w hl h
 generalize hF:zbb [zac zag 1 3 A c s]=F at hm ⊢
 refine zaj F Tryz.func286 rfl Tryz.ntmps286 Zj (hm.anyN _) ?_
 by_cases hk:kind=3
 ·subst hk
  have e:zaB 2 s 3 a=putR s a:=by simp[zaB,putR]
  rw[e]
  generalize putR s a=R at *
  repeat' (first|refine zeY ?_|refine Zga ?_|(refine Zgb ?_;intro g)|(refine Zg ?_ ?_<;>(intro h;try exact Zx))|((with_reducible (first|apply zaa|apply TD_e3z|apply zan|apply zaf|apply zae));((with_reducible apply zar (f:=287) (X:=Option Addr×Nat) (S1:=[zac zag 1 3 A c s]) (zdU R) (fun x=>[zb4 zag 1 x.1 R.1]));exact rfl;exact Zp;(intro x;(try dsimp only);exact Za);(intro w hw;exact hp w ((hw.anyN 0).self 0));exact rfl);exact Zh;(rintro _ _ ⟨⟨A',c'⟩,rfl,rfl⟩);(try refine⟨SUB,?_⟩))|fail)
  (refine zah Tryz.results286 rfl (fun w' hw=>?_))
  exact⟨(A',c'),rfl,(hw.anyN 0).sub Zt⟩
 ·cases hs:s with
  |nil =>
   subst hs
   have e:zaB 2 [] kind a=([],-1,0):=by simp[zaB,hk]
   rw[e]
   repeat' (first|refine zeY ?_|refine Zga ?_|(refine Zgb ?_;intro g)|(refine Zg ?_ ?_<;>(intro h;try exact Zx))|fail)
   (refine zah Tryz.results286 rfl (fun w' hw=>?_))
   exact⟨(A,c),rfl,(hw.anyN 0).ownToRd Zm (fun _=>rfl)⟩
  |cons x r =>
   rw[←hs]
   have h0:0<s.length:=by rw[hs];simp
   have e:zaB 2 s kind a=(s.drop 1,s.getD 0 0,0):=by
    unfold zaB
    rw[if_neg Zi,if_pos rfl,if_neg hk,if_neg Zo]
   rw[e]
   have e1:(s.drop 1).length=s.length-1:=by simp
   have e2:s.getD 0 0=s[0]:=by simp[List.getD_eq_getElem?_getD,h0]
   refine zb1 (ls:=s) Zm h0 ?_
   rintro gA rfl
   refine T_ownLe (ls:=s) Zm fun hc=>?_
   repeat' (first|refine zeY ?_|refine Zha ?_|(refine Zhb ?_;intro g)|(refine Zg ?_ ?_<;>(intro h;try exact Zx))|refine GOF ?_ ?_|((with_reducible apply zam (id:=5) 1000 (OT.seq [(0,0),(0,1),(0,2),(0,3),(0,5),(1,4),(0,6),(0,7)] .nil));kernel_rfl;exact rfl;kernel_rfl;exact Zd)|fail)
   (refine zah Tryz.results286 rfl (fun w' hw=>?_))
   refine⟨(some ⟨gA,if c=1 then 0 else 0+1 * 1,none⟩,c-1),by rw[zdU,e1,e2];rfl,?_⟩
   have hr:=hw.ownRd (enc:=zag) (M:=1) (ls:=s) Zm (fun _=>rfl)
   refine(hw.anyN 0).toRd (e:=zac zag 1 3 (some ⟨gA,0,none⟩) c s) Zm (fun k hk=>hk) ?_
   by_cases hc1:c=1
   ·have hn:s.drop 1=[]:=List.drop_eq_nil_of_le Zo
    show RdE zag 1 w' _ (s.drop 1)
    rw[hn]
    exact RdE.nil _
   ·show RdE zag 1 w' (some ⟨gA,if c=1 then 0 else 0+1 * 1,none⟩) (s.drop 1)
    rw[if_neg hc1]
    exact hr.drop 1
theorem stackStep:zgr 288 3:=by
 intro A c s kind a w hv hl hm
 have hp:=fun w h=>put_any A c s a w hl h
 generalize hF:zbb [zac zag 1 3 A c s]=F at hm ⊢
 refine zaj F Tryz.func288 rfl Tryz.ntmps288 Zj (hm.anyN _) ?_
 by_cases hk:kind=5
 ·subst hk
  have e:zaB 3 s 5 a=putR s a:=by simp[zaB,putR]
  rw[e]
  generalize putR s a=R at *
  repeat' (first|refine zeY ?_|refine Zga ?_|(refine Zgb ?_;intro g)|(refine Zg ?_ ?_<;>(intro h;try exact Zx))|((with_reducible (first|apply zaa|apply TD_e3z|apply zan|apply zaf|apply zae));((with_reducible apply zar (f:=287) (X:=Option Addr×Nat) (S1:=[zac zag 1 3 A c s]) (zdU R) (fun x=>[zb4 zag 1 x.1 R.1]));exact rfl;exact Zp;(intro x;(try dsimp only);exact Za);(intro w hw;exact hp w ((hw.anyN 0).self 0));exact rfl);exact Zh;(rintro _ _ ⟨⟨A',c'⟩,rfl,rfl⟩);(try refine⟨SUB,?_⟩))|fail)
  (refine zah Tryz.results288 rfl (fun w' hw=>?_))
  exact⟨(A',c'),rfl,(hw.anyN 0).sub Zt⟩
 ·cases hs:s with
  |nil =>
   subst hs
   have e:zaB 3 [] kind a=([],-1,0):=by simp[zaB,hk]
   rw[e]
   repeat' (first|refine zeY ?_|refine Zga ?_|(refine Zgb ?_;intro g)|(refine Zg ?_ ?_<;>(intro h;try exact Zx))|fail)
   (refine zah Tryz.results288 rfl (fun w' hw=>?_))
   exact⟨(A,c),rfl,(hw.anyN 0).ownToRd Zm (fun _=>rfl)⟩
  |cons x r =>
   rw[←hs]
   have h0:0<s.length:=by rw[hs];simp
   have e:zaB 3 s kind a=(s.take (s.length-1),s.getD (s.length-1) 0,0):=by
    unfold zaB
    rw[if_neg Zi,if_neg Zi,if_pos rfl,if_neg hk,if_neg Zo]
   rw[e]
   have e1:(s.take (s.length-1)).length=s.length-1:=by simp
   have e2:s.getD (s.length-1) 0=s[s.length-1]:=by simp[List.getD_eq_getElem?_getD,show s.length-1<s.length by omega]
   have e3:((s.length:Int)-1).toNat=s.length-1:=by omega
   refine zb1 (ls:=s) Zm h0 ?_
   rintro gA rfl
   refine T_ownLe (ls:=s) Zm fun hc=>?_
   repeat' (first|refine zeY ?_|refine Zha ?_|(refine Zhb ?_;intro g)|(refine Zg ?_ ?_<;>(intro h;try exact Zx))|refine GOF ?_ ?_|((with_reducible apply zam (id:=2) 1000 (OT.seq [(0,0),(0,1),(0,2),(0,3),(0,4),(0,5),(0,6),(0,7),(0,9),(1,8),(0,10),(0,11)] .nil));kernel_rfl;exact rfl;kernel_rfl;exact Zd)|fail)
   (refine zah Tryz.results288 rfl (fun w' hw=>?_))
   refine⟨(some ⟨gA,0,none⟩,c),by rw[zdU,e1,e2];simp only[e3,za0],?_⟩
   have hr:=hw.ownRd (enc:=zag) (M:=1) (ls:=s) Zm (fun _=>rfl)
   exact(hw.anyN 0).toRd (e:=zac zag 1 3 (some ⟨gA,0,none⟩) c s) Zm (fun k hk=>hk) (hr.take _)
theorem insert_mem{C:Ctx}{R:List Ent}{w:World}{A:Option Addr}{c:Nat}{ls:List Int}{i vb:Nat}{a:Int}(hw:Mem C w ([zac zag 1 3 A c ls]++R))(hm:zak vb 3 #[.int .i64 a]∈R)(hi:i≤ls.length)(hl:ls.length≤50)(vc:Nat):
  Calls Tryz.prog 292 #[.slice A ls.length c,.int .i64 i,.slice (some ⟨vb,0,none⟩) 1 vc] w fun e w' =>
   ∃x:Option Addr×Nat,e=.returned (.slice x.1 (insL ls i a).length x.2)∧Mem ⟨0,zbb [zac zag 1 3 A c ls],w⟩ w' [zac zag 1 3 x.1 x.2 (insL ls i a)]:=by
 have ho:Own zag 1 3 w 0 (.slice A ls.length c) ls:=(hw.holds (zac zag 1 3 A c ls) Zj).1
 have hb:Blk w vb 3 #[.int .i64 a]:=(hw.holds (zak vb 3 #[.int .i64 a]) (by simp[hm])).1
 refine insert_any w A c ls i vb vc a ho hb (fun he=>?_) hi hl
 have hap:=(List.pairwise_append.1 hw.apart).2.2 (zac zag 1 3 A c ls) Zj _ hm vb he
 exact hap rfl
theorem setStep_any:zgr 289 4:=by
 intro A c s kind a w hv hl hm
 have hv':ascB s=true∧s.all okI=true:=by
  have:(ascB s&&s.all okI)=true:=hv
  rwa [Bool.and_eq_true] at this
 have hs:=asc_of hv'.1
 have hb:=fun w hA=>search_any A c s a w hA Zo hs
 have hple:=(zgo hs a).2.2
 have hpc:=pos_at (a:=a) hs
 have hmm:=fun(C:Ctx) (R:List Ent) (w:World) (vb:Nat) (hw:Mem C w ([zac zag 1 3 A c s]++R)) hm=>insert_mem (a:=a) hw (vb:=vb) hm hple hl 1
 have hst:zaB 4 s kind a=if kind=7∧s.contains a=false∧s.length=50 then([],0,2) else((setP s kind a).1,(setP s kind a).2,0):=rfl
 rw[hst]
 unfold setP
 have hins:s.take (zgR s a)++a::s.drop (zgR s a)=insL s (zgR s a) a:=rfl
 rw[hins]
 generalize hF:zbb [zac zag 1 3 A c s]=F at hm ⊢
 generalize zgR s a=p at *
 generalize hz:s.contains a=z at *
 refine zaj F Tryz.func289 rfl Tryz.ntmps289 Zj (hm.anyN _) ?_
 cases z with
 |true =>
  have hp:p<s.length∧s.getD p 0=a:=by
   have:=hpc.symm
   rwa [Bool.and_eq_true,decide_eq_true_eq,decide_eq_true_eq] at this
  refine zb1 (ls:=s) Zm Zo ?_
  rintro gA rfl
  refine T_ownLe (ls:=s) Zm fun hc=>?_
  have hd:=fun w h=>delete_any gA c s w p hp.1 h hc
  repeat' (first|refine zeY ?_|refine Zga ?_|(refine Zgb ?_;intro g)|(refine Zg ?_ ?_<;>(intro h;try exact Zx))|((with_reducible (first|apply zaa|apply TD_e3z|apply zan|apply zaf|apply zae));((with_reducible apply zad (f:=291));exact rfl;(intro w hw;exact hb w (hw.ownRd Zm (fun _=>rfl)));exact rfl);exact Zh;(rintro _ _ ⟨rfl,rfl⟩);(try refine⟨SUB,?_⟩))|((with_reducible (first|apply zaa|apply TD_e3z|apply zan|apply zaf|apply zae));((with_reducible apply ES_callMp (f:=293) (S1:=[zac zag 1 3 (some ⟨gA,0,none⟩) c s]) (S1':=[zac zag 1 3 (some ⟨gA,0,none⟩) c (s.take p++s.drop (p+1))]) (v:=.slice (some ⟨gA,0,none⟩) (s.take p++s.drop (p+1)).length c));exact rfl;exact Zp;exact Za;(intro w hw;exact hd w ((hw.anyN 0).self 0));exact rfl);exact Zh;(rintro _ _ ⟨rfl,rfl⟩);(try refine⟨SUB,?_⟩))|fail)
  all_goals(refine zah Tryz.results289 rfl (fun w' hw=>?_))
  ·have e:kind=7:=by assumption
   subst e
   exact⟨(some ⟨gA,0,none⟩,c),rfl,(hw.anyN 0).ownToRd Zm (fun _=>rfl)⟩
  ·have e:kind=8:=by assumption
   subst e
   exact⟨(some ⟨gA,0,none⟩,c),rfl,(hw.anyN 0).ownToRd Zm (fun _=>rfl)⟩
  ·have e7:¬kind=7:=by assumption
   have e8:¬kind=8:=by assumption
   rw[if_neg (fun h=>e7 h.1),if_pos rfl,if_neg e7,if_neg e8]
   exact⟨(some ⟨gA,0,none⟩,c),rfl,(hw.anyN 0).ownToRd Zm (fun _=>rfl)⟩
 |false =>
  repeat' (first|refine zeY ?_|refine Zga ?_|(refine Zgb ?_;intro g)|(refine Zg ?_ ?_<;>(intro h;try exact Zx))|((with_reducible (first|apply zaa|apply TD_e3z|apply zan|apply zaf|apply zae));((with_reducible apply zad (f:=291));exact rfl;(intro w hw;exact hb w (hw.ownRd Zm (fun _=>rfl)));exact rfl);exact Zh;(rintro _ _ ⟨rfl,rfl⟩);(try refine⟨SUB,?_⟩))|((with_reducible (first|apply zaa|apply TD_e3z|apply zan|apply zaf|apply zae));((with_reducible apply zar (f:=292) (X:=Option Addr×Nat) (S1:=[zac zag 1 3 A c s]) (fun x=>.slice x.1 (insL s p a).length x.2) (fun x=>[zac zag 1 3 x.1 x.2 (insL s p a)]));exact rfl;exact Zp;(intro x;(try dsimp only);exact Za);(intro w hw;exact hmm _ _ w _ hw Zm);exact rfl);exact Zh;(rintro _ _ ⟨⟨A',c'⟩,rfl,rfl⟩);(try refine⟨SUB,?_⟩))|fail)
  all_goals(refine zah Tryz.results289 rfl (fun w' hw=>?_))
  ·rw[if_pos ⟨by assumption,rfl,by omega⟩]
   exact⟨(none,0),rfl,(hw.anyN 0).nilRd none rfl⟩
  ·have e:kind=7:=by assumption
   subst e
   rw[if_neg (fun h=>by omega),if_neg Zi,if_pos rfl]
   exact⟨(A',c'),rfl,(hw.anyN 0).ownToRd Zm (fun _=>rfl)⟩
  ·have e7:¬kind=7:=by assumption
   rw[if_neg (fun h=>e7 h.1),if_neg Zi,if_neg e7]
   exact⟨(A,c),rfl,(hw.anyN 0).ownToRd Zm (fun _=>rfl)⟩
end
section
open Go.RowKit
theorem Q0Obj8{p R:Prop}(r:R)(h:Rest R→p:=by intro r;(first|with_reducible (first|apply zcE|apply za9|apply zba|apply zbd|apply zbe)|((with_reducible (first|apply zaN|apply zaO));exact rfl;exact rfl;(with_reducible exact rfl)));(first|exact QS.auto|((with_reducible apply zcZ (j:=s.length-1));exact rfl;exact rfl;omega;omega));exact rfl;exact r.out):p:=h ⟨r⟩
theorem begin_any(typ:Int)(w:World):Calls Tryz.prog 78 #[.int .i64 typ] w fun e w'=>∃A c,e=.returned (.slice A (zfi typ).length c)∧Own zag 1 3 w' w.heap.size (.slice A (zfi typ).length c) (zfi typ)∧Below w.heap.size w w':=by
 refine zaj (S:=[]) [] Tryz.func78 rfl Tryz.ntmps78 Zj (Mem.nil _) ?_
 repeat' (first|refine Q0Obj8 ?_|refine Zga ?_|(refine Zgb ?_;intro g)|(refine Zg ?_ ?_<;>(intro h;try exact Zx))|fail)
 all_goals(refine zah Tryz.results78 rfl (fun w' hw=>?_))
 all_goals first
  |(have e:zfi typ=[0]:=by simp[zfi, *]
    rw[e];exact⟨_,_,rfl,hw.blkOut (enc:=zag) [0] rfl Zm rfl (fun _=>rfl) Zi,hw.below0 rfl⟩)
  |(have e:zfi typ=[]:=by simp[zfi, *]
    rw[e];exact⟨none,0,rfl,Own.nil _ _,hw.below0 rfl⟩)
theorem asked_any(typ kind a:Int)(w:World):Calls Tryz.prog 171 #[.int .i64 typ,.int .i64 kind,.int .i64 a] w fun e w'=>e=.returned (.bool ((zaZ typ).contains kind&&zdO kind a))∧Below w.heap.size w w':=by
 have hk:=fun w=>kinds_C typ w
 have hl:=kindsC_len typ
 generalize zaZ typ=l at *
 have hc:=fun A c w h=>zcg A c l kind w hl h
 generalize l.contains kind=z at *
 have ha:=fun w=>asks_any kind a w
 generalize zdO kind a=z2 at *
 refine zaj (S:=[]) [] Tryz.func171 rfl Tryz.ntmps171 Zj (Mem.nil _) ?_
 repeat' (first|refine Q0Obj8 ?_|refine Zga ?_|(refine Zgb ?_;intro g)|(refine Zg ?_ ?_<;>(intro h;try exact Zx))|((with_reducible (first|apply zaa|apply TD_e3z|apply zan|apply zaf|apply zae));((with_reducible apply zal (f:=72));exact rfl;(intro w hw;exact hk w);exact rfl);exact Zh;(rintro _ _ ⟨A1,c1,rfl,rfl⟩);(try refine⟨SUB,?_⟩))|((with_reducible (first|apply zaa|apply TD_e3z|apply zan|apply zaf|apply zae));((with_reducible apply zad (f:=71));exact rfl;(intro w hw;exact hc _ _ w (hw.ownRd Zm (fun _=>rfl)));exact rfl);exact Zh;(rintro _ _ ⟨rfl,rfl⟩);(try refine⟨SUB,?_⟩))|((with_reducible (first|apply zaa|apply TD_e3z|apply zan|apply zaf|apply zae));((with_reducible apply zad (f:=73));exact rfl;(intro w hw;exact ha w);exact rfl);exact Zh;(rintro _ _ ⟨rfl,rfl⟩);(try refine⟨SUB,?_⟩))|fail)
 all_goals(refine zah Tryz.results171 rfl (fun w' hw=>?_))
 all_goals exact⟨by simp[za0, *],hw.below0 rfl⟩
end
end Go.Proofs.YtjdckepbihcgfaaGreatDoor
