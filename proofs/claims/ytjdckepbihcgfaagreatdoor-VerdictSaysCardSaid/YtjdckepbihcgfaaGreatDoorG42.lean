/- Lemmas for the walks (VdT). No condition. -/
import Derived.Test.YtjdckepbihcgfaaGreatDoorG41
import Derived.Test.YtjdckepbihcgfaaGreatDoorG27
set_option linter.unusedSimpArgs false
set_option linter.unusedVariables false
set_option linter.unusedSectionVars false
set_option linter.unnecessarySimpa false
set_option maxRecDepth 100000
set_option maxHeartbeats 8000000
namespace Go.Proofs.YtjdckepbihcgfaaGreatDoor
section
open Go.RowKit Go.Lib
theorem zcL{p R:Prop}(r:R)(h:Rest R→p:=by intro r;(first|with_reducible (first|apply zcE|apply za9|apply zba|apply zbd|apply zbe)|((with_reducible (first|apply zaN|apply zaO));exact rfl;exact rfl;(with_reducible exact rfl)));(first|((with_reducible apply zgl);exact rfl;exact rfl;((try simp only[List.length_append,List.length_cons,List.length_nil]);omega))|((with_reducible apply QS_eqlNil);exact rfl;exact rfl)|((with_reducible apply za1);exact rfl;exact Lds.rels Zm hk3)|((with_reducible apply za1);exact rfl;exact Lds.blk Zm hnm)|exact QS.auto);exact rfl;exact r.out):p:=h ⟨r⟩
def relEnc(n:Nat)(f:Nat→Nat):List Value:=(zat n f).toList
theorem relEnc_len(n:Nat)(f:Nat→Nat):(relEnc n f).length=13:=by unfold relEnc;rw[Array.length_toList,zaD]
def relL(cs:List Cl):List (Nat→Nat):=[zax cs,zaX cs,zbw cs]
theorem Lds.rels{P:Program}{C:Ctx}{S:List Ent}{s e g c k n:Nat}{cs:List Cl}[AggOf P s 13](hm:zac (relEnc n) 13 e (some ⟨g,0,none⟩) c (relL cs)∈S)(hk:k<3):Lds P C S s ⟨g,k * 13,none⟩ (.agg (zat n (relB k cs))):=by
 have h:=Lds.ownAgg (P:=P) (C:=C) (s:=s) (j:=k) hm (relEnc_len n) (by exact hk)
 have e1:(relL cs)[k]'(by exact hk)=relB k cs:=by
  match k,hk with
  |0,_=>rfl
  |1,_=>rfl
  |2,_=>rfl
 rw[e1] at h
 exact h
theorem relB_ok{ts:List Int}{cs:List Cl}(h:SeaOk ts cs){k:Nat}(hk:k<3):zeB cs (relB k cs):=by
 match k,hk with
 |0,_=>exact zfY h
 |1,_=>exact relOk_people h
 |2,_=>exact relOk_calm h
theorem nmB_at{k:Nat}(hk:k<3):nthV [bsv zje,bsv zdb,bsv wCalm] k=some (bsv (nmB k)):=by
 match k,hk with
 |0,_=>rfl
 |1,_=>rfl
 |2,_=>rfl
theorem nmB_len(k:Nat):(nmB k).length≤6:=by
 match k with
 |0=>decide
 |1=>decide
 |_+2=>exact(by decide:wCalm.length≤6)
theorem zjY{ts:List Int}{cs:List Cl}{F:Nat→Nat}(h:SeaOk ts cs){r:List Stp}(hr:zbq ts cs F=some r):r.length≤9∧∀s∈r,smI s.call∧smI s.res:=by
 obtain⟨hp,h2,_⟩:=zf1 h.calls cs.length [] (zfj h.types) (steps_nil cs F) r hr
 have hl:=hp.len
 have h9:=h.few
 refine⟨by omega,fun s hs=>?_⟩
 have hc:=h2.call s hs
 have hr:=h2.res s hs
 unfold smI
 omega
theorem toldL_len{k:Nat}{o:Option (List Stp)}(h:∀r,o=some r→r.length≤9∧∀s∈r,smI s.call∧smI s.res):(toldL k o).length≤200:=by
 have h6:=nmB_len k
 unfold toldL
 cases o with
 |none=>rw[List.length_append];simp;omega
 |some r =>
  obtain⟨h9,hs⟩:=h r rfl
  have:=stW_len hs
  have hw:(if k=0 then stW r else[]).length≤162:=by
   split
   ·omega
   ·simp
  simp only[List.length_append,List.length_cons,List.length_nil]
  omega
theorem zhx{ts:List Int}{cs:List Cl}(h:SeaOk ts cs):∀k,(zdG ts cs k).length≤k * 200
 |0=>by simp[zdG]
 |k+1=>by
  have ih:=zhx h k
  have:=toldL_len (k:=k) (o:=zbq ts cs (relB k cs)) fun r hr=>zjY h hr
  rw[zdG,List.length_append];omega
theorem wonce_len(l:List Ev):(zaY l).1.length≤200:=by
 unfold zaY
 repeat' split
 all_goals first|exact zbi _ _|exact Nat.zero_le _
theorem once_len(l:List Ev):(zca l).1.length≤200:=by
 unfold zca
 repeat' split
 all_goals first|exact zbi _ _|exact Nat.zero_le _
theorem once_quOk{l:List Ev}(h:(zca l).2=0):QuOk (zca l).1:=by
 rcases once_cases l with⟨h1,e⟩|⟨h1,h2,e⟩|⟨h1,h2,e⟩
 ·rw[e] at h;exact absurd h h1
 ·rw[e] at h;cases h
 ·rw[e];exact quOk_of (zit h1) h2
theorem zes{ok:Bool}{bd:Bd}{e:Int}(hb:bd.Sm)(he:smI e):(zgQ ok bd e).length≤405:=by
 have n0:=zaJ he
 have n1:=zaJ hb.kind
 have n2:=zaJ hb.a
 have n3:=zaJ hb.b
 have hl:wBad.length≤3∧wError.length≤5∧wNone.length≤4:=by decide
 unfold zgQ
 repeat' split
 all_goals
  simp only[zfo,List.flatMap_cons,List.flatMap_nil,List.length_append,List.length_cons,List.length_nil]
  omega
def stK(k:Nat)(r:List Stp)(j:Nat):Bs:=if k=0 then stW (r.take j) else[]
theorem stK_zero(k:Nat)(r:List Stp):stK k r 0=[]:=by unfold stK;split<;>rfl
theorem stK_succ{k:Nat}{r:List Stp}{j:Nat}(hk:k=0)(hj:j<r.length):stK k r (j+1)=stK k r j++([32]++itoa r[j].call++[32]++itoa r[j].res):=by
 unfold stK
 rw[if_pos hk,if_pos hk,stW_take hj]
theorem stK_no{k:Nat}(hk:¬k=0)(r:List Stp)(j:Nat):stK k r (j+1)=stK k r j:=by
 unfold stK
 rw[if_neg hk,if_neg hk]
theorem stK_len{k j:Nat}{r:List Stp}(h:∀s∈r,smI s.call∧smI s.res)(h9:r.length≤9):(stK k r j).length≤162:=by
 unfold stK
 split
 ·have:=stW_len (r:=r.take j) fun s hs=>h s (List.mem_of_mem_take hs)
  rw[List.length_take] at this
  omega
 ·simp
theorem bcL_sm(cs:List Cl):∀x∈bcL cs 1001,smI x:=fun x hx=>by
 unfold bcL at hx
 obtain⟨v,hv,rfl⟩:=List.mem_map.1 hx
 have:=List.mem_range.1 (List.mem_filter.1 hv).1
 exact zcU (n:=v) Zo
theorem elW_tlen{L:List Int}(h:∀x∈L,smI x)(hl:L.length≤1001)(j:Nat):(elW (L.take j)).length≤9009:=by
 have:=elW_len (bs:=L.take j) fun x hx=>h x (List.mem_of_mem_take hx)
 rw[List.length_take] at this
 omega
section
variable (s:Bs)(W:World)(hs:s.length≤9223372036854775807)(hT:TxD W) 
include hs hT
theorem told_any:Calls Tryz.prog 8 #[bsv s] W fun e w'=>e=.returned (bsv (verdB s))∧Below W.heap.size W w':=by
 have hrd:=fun w h=>docRead_any s w hs h
 obtain⟨hsk,hsf,hTl,hEl,hT0⟩:=readR_bd s
 unfold verdB
 obtain⟨⟨T,E,k,f⟩,hR⟩:∃r,r=zbx s:=⟨_,rfl⟩
 rw[←hR] at hrd hsk hsf hTl hEl hT0 ⊢
 dsimp only at hrd hsk hsf hTl hEl hT0 ⊢
 clear hR
 refine zaj (S:=[]) [] Tryz.func8 rfl Tryz.ntmps8 Zj (Mem.nil _) ?_
 by_cases hf:f=0
 ·rw[if_neg (fun h=>h hf)]
  have hc0:=hT0 hf
  clear hT0 hsk hsf
  have hco:=fun A B c d w h1 h2=>zee A B c d T E w Zo Zo h1 h2
  have hcl:=zbi T E
  have hty:=(zbJ hc0).1
  unfold zaG at hty
  rw[Bool.and_eq_true,decide_eq_true_eq] at hty
  obtain⟨⟨ht1,_⟩,_⟩:=hty
  have hwt:=fun h9=>wit_told (ts:=T) (l:=E) hc0 h9
  have hso:(zai T E).1.length≤9→SeaOk T (zai T E).1:=fun h9=>by
   have:=zc2 (ts:=T) (l:=E) (by rw[zfX hc0 Zo])
   rw[zfX hc0 Zo] at this
   exact this
  obtain⟨L1,hL1⟩:∃L1,L1=lnB [zcw,itoa (zai T E).1.length]++(if(zai T E).1.length≤9 then witB T E else[]):=⟨_,rfl⟩
  rw[←hL1]
  have hsg:T.length=1→zbU (T.getD 0 0) E=oneD (T.getD 0 0) E (zai T E).1:=fun h=>by
   match T,h with
   |[t],_=>exact single_told hc0
  have hLo:∀(cs:List Cl),cs=(zai T E).1→True:=fun _ _=>trivial
  obtain⟨cs,hcs⟩:∃cs,cs=(zai T E).1:=⟨_,rfl⟩
  rw[←hcs] at hco hcl hwt hso hL1 hsg
  have hbx:=hcs
  clear hcs hLo
  have hnl:(itoa (cs.length:Nat)).length≤8:=zaJ ⟨by omega,by omega⟩
  have hLn:¬cs.length≤9→L1=([99,97,108,108,115,32]++itoa (cs.length:Nat)++[10]):=fun h=>by rw[hL1,if_neg h,List.append_nil,zfo];simp[zcw]
  have hLy:cs.length≤9→L1=([99,97,108,108,115,32]++itoa (cs.length:Nat)++[10])++zdG T cs 3:=fun h=>by rw[hL1,if_pos h,hwt h,zfo];simp[zcw]
  repeat' (first
   |((with_reducible refine T_cutIf (X:=Unit) 6 (fun _=>[(10,bsv L1),(7,.slice A7 cs.length c7),(4,.slice R2 E.length r2),(3,.slice R1 T.length r1)]) (fun _=>[zac Cl.enc 7 36 A7 c7 cs,zac zag 1 3 R1 r1 T,zac Ev.enc 4 95 R2 r2 E]) (fun _=>True) ?_ ?_))
   |refine zcL ?_|refine Zha ?_|(refine Zhb ?_;intro g)|(refine Zg ?_ ?_<;>(intro h;try exact Zx))|refine GOF ?_ ?_|((with_reducible (first|apply zaa|apply TD_e3z|apply zan|apply zaf|apply zae));((with_reducible apply zar (f:=28) (X:=(Option Addr×Nat)×(Option Addr×Nat)) (S1:=[]) (fun x=>.tuple #[.slice x.1.1 T.length x.1.2,.slice x.2.1 E.length x.2.2,.int .i64 k,.int .i64 f]) (fun x=>[zac zag 1 3 x.1.1 x.1.2 T,zac Ev.enc 4 95 x.2.1 x.2.2 E]));exact rfl;exact Zp;(intro x;(try dsimp only);exact Za);(intro w hw;exact hrd w (hT.carry (hw.below0 rfl)));exact rfl);exact Zh;(rintro _ _ ⟨⟨⟨R1,r1⟩,⟨R2,r2⟩⟩,rfl,rfl⟩);(try refine⟨SUB,?_⟩))|((with_reducible (first|apply zaa|apply TD_e3z|apply zan|apply zaf|apply zae));((with_reducible apply zal (f:=30));exact rfl;(intro w hw;exact hco R1 R2 r1 r2 w (hw.ownRd Zm (fun _=>rfl)) (hw.ownRd Zm (fun _=>rfl)));exact rfl);exact Zh;(rintro _ _ ⟨A7,c7,rfl,rfl⟩);(try refine⟨SUB,?_⟩))|((with_reducible (first|apply zaa|apply TD_e3z|apply zan|apply zaf|apply zae));((with_reducible apply zad (f:=29));exact rfl;(intro w hw;exact zcc _ w Zo);exact rfl);exact Zh;(rintro _ _ ⟨rfl,rfl⟩);(try refine⟨SUB,?_⟩))|((with_reducible (first|apply zaa|apply TD_e3z|apply zan|apply zaf|apply zae));((with_reducible apply zad (f:=31));exact rfl;(intro w hw;exact zjz A7 c7 cs w (hw.ownRd Zm (fun _=>rfl)) Zo);exact rfl);exact Zh;(rintro _ _ ⟨rfl,rfl⟩);(try refine⟨SUB,?_⟩))|((with_reducible (first|apply zaa|apply TD_e3z|apply zan|apply zaf|apply zae));((with_reducible apply zad (f:=32));exact rfl;(intro w hw;exact peopleRel_any A7 c7 cs w (hw.ownRd Zm (fun _=>rfl)) Zo);exact rfl);exact Zh;(rintro _ _ ⟨rfl,rfl⟩);(try refine⟨SUB,?_⟩))|((with_reducible (first|apply zaa|apply TD_e3z|apply zan|apply zaf|apply zae));((with_reducible apply zad (f:=33));exact rfl;(intro w hw;exact calmRel_any A7 c7 cs w (hw.ownRd Zm (fun _=>rfl)) Zo (fun q hq=>((hso Zo).cls.each q hq).place));exact rfl);exact Zh;(rintro _ _ ⟨rfl,rfl⟩);(try refine⟨SUB,?_⟩))|fail)
  all_goals first|(exfalso;contradiction)|skip
  ·have h9:cs.length≤9:=by omega
   rw[hLy h9]
   have hsea:=hso h9
   have hll:=zhx hsea
   have hL0:(([99,97,108,108,115,32]++itoa (cs.length:Nat)++[10])).length≤20:=by simp only[List.length_append,List.length_cons,List.length_nil];omega
   clear hLy hLn hrd hco hwt hso hsg hL1
   obtain⟨gR,rfl⟩:∃x,x=g:=⟨_,rfl⟩
   refine T_mem (fun w hw=>Mem.asOwn (enc:=relEnc cs.length) (M:=13) (relL cs) (Upd.here _ _ _) rfl (relEnc_len _) (by show 3≤maxLen;decide) hw) ?_
   generalize ([99,97,108,108,115,32]++itoa (cs.length:Nat)++[10])=L0 at *
   refine zap (X:=Nat) (fun k=>[(67,.int .i64 (k:Nat)),(66,.int .i64 3),(65,.slice (some ⟨gR,0,none⟩) 3 3),(10,bsv (L0++zdG T cs k)),(7,.slice A7 cs.length c7),(4,.slice R2 E.length r2),(3,.slice R1 T.length r1)]) (fun _=>[zac (relEnc cs.length) 13 43 (some ⟨gR,0,none⟩) (relL cs).length (relL cs),zac Cl.enc 7 36 A7 c7 cs,zac zag 1 3 R1 r1 T,zac Ev.enc 4 95 R2 r2 E]) (fun k=>k≤3) (fun k=>3-k) 0 Zo (by(try dsimp only);rw[show zdG T cs 0=[] from rfl,List.append_nil];exact Ze) (fun _ hw=>hw.sel Zl) ?_
   intro k hk
   by_cases hk3:k<3
   ·have hnm:=nmB_at hk3
    have hn6:=nmB_len k
    have hR:=relB_ok hsea hk3
    have hlen:=hll k
    have hlk:k * 200≤600:=by omega
    have hlo:=fun gN=>leastIn_any T cs (relB k cs) gN R1 A7 r1 c7 hsea.types hsea.calls hR hsea.few
    have hfs:=fun r hr=>zjY hsea (r:=r) (F:=relB k cs) hr
    have hsuc:zdG T cs (k+1)=zdG T cs k++toldL k (zbq T cs (relB k cs)):=rfl
    clear hll
    generalize zdG T cs k=LK at *
    generalize zbq T cs (relB k cs)=o at *
    repeat' (first|refine zcL ?_|refine Zha ?_|(refine Zhb ?_;intro g)|(refine Zg ?_ ?_<;>(intro h;try exact Zx))|refine GOF ?_ ?_|((with_reducible (first|apply zaa|apply TD_e3z|apply zan|apply zaf|apply zae));((with_reducible apply zbv Stp.enc);exact rfl);exact Zh;(rintro _ _ ⟨g,rfl,rfl⟩);(try refine⟨SUB,?_⟩))|fail)
    all_goals first|(exfalso;omega)|skip
    obtain⟨gN,rfl⟩:∃x,x=g:=⟨_,rfl⟩
    have hih:=fun C R w hw h4 hO=>hlo gN C R w hw h4 hO
    clear hlo
    cases o with
    |none =>
     have he:L0++zdG T cs (k+1)=L0++LK++nmB k++[32,110,10]:=by rw[hsuc];simp[toldL]
     repeat' (first|refine zcL ?_|refine Zha ?_|(refine Zhb ?_;intro g)|(refine Zg ?_ ?_<;>(intro h;try exact Zx))|refine GOF ?_ ?_|((with_reducible (first|apply zaa|apply TD_e3z|apply zan|apply zaf|apply zae));((with_reducible apply zar (f:=34) (X:=Addr×Nat) (S1:=[zac Stp.enc 2 49 (some ⟨gN,0,none⟩) 0 []]) (outV (none:Option (List Stp))) (outS (none:Option (List Stp))));exact rfl;exact Zp;(intro x;dsimp only[outS];exact Za);(intro w' hw;exact hih _ _ w' hw Zm Zm);exact rfl);exact Zh;(rintro _ _ ⟨⟨a9,c9⟩,rfl,rfl⟩);(try refine⟨SUB,?_⟩))|fail)
     all_goals first|(exfalso;omega)|skip
     all_goals
      apply zab (k+1)
      (case hE=>(try dsimp only);rw[he];exact Ze)
      (case hS=>exact fun w' hw=>hw.sel Zl)
      (case hμ=>omega)
      (case hp=>omega)
    |some r =>
     obtain⟨hr9,hrs⟩:=hfs r rfl
     have hsw:=fun j=>stK_len (k:=k) (j:=j) hrs hr9
     have he:L0++zdG T cs (k+1)=L0++LK++nmB k++[32,121]++stK k r r.length++[10]:=by rw[hsuc];unfold toldL stK;rw[List.take_length];simp
     (first|((with_reducible (first|apply zaa|apply TD_e3z|apply zan|apply zaf|apply zae));((with_reducible apply zar (f:=34) (X:=Addr×Nat) (S1:=[zac Stp.enc 2 49 (some ⟨gN,0,none⟩) 0 []]) (outV (some r)) (outS (some r)));exact rfl;exact Zp;(intro x;dsimp only[outS];exact Za);(intro w' hw;exact hih _ _ w' hw Zm Zm);exact rfl);exact Zh;(rintro _ _ ⟨⟨a9,c9⟩,rfl,rfl⟩);(try refine⟨SUB,?_⟩))|fail)
     repeat' (first|refine zcL ?_|refine Zha ?_|(refine Zhb ?_;intro g)|(refine Zg ?_ ?_<;>(intro h;try exact Zx))|refine GOF ?_ ?_|fail)
     all_goals first|(exfalso;omega)|skip
     refine zap (X:=Nat) (fun j=>[(91,.int .i64 (j:Nat)),(90,.int .i64 r.length),(89,outV (some r) (a9,c9)),(11,.int .i64 (k:Nat)),(67,.int .i64 (k:Nat)),(66,.int .i64 3),(65,.slice (some ⟨gR,0,none⟩) 3 3),(10,bsv (L0++LK++nmB k++[32,121]++stK k r j)),(7,.slice A7 cs.length c7),(4,.slice R2 E.length r2),(3,.slice R1 T.length r1)]) (fun _=>[zac Stp.enc 2 49 (some a9) c9 r,zac (relEnc cs.length) 13 43 (some ⟨gR,0,none⟩) (relL cs).length (relL cs),zac Cl.enc 7 36 A7 c7 cs,zac zag 1 3 R1 r1 T,zac Ev.enc 4 95 R2 r2 E]) (fun j=>j≤r.length) (fun j=>r.length-j) 0 Zo (by(try dsimp only);rw[stK_zero,List.append_nil];exact Ze) (fun _ hw=>hw.sel Zl) ?_
     intro j hj
     have hzl:=hsw j
     by_cases hjr:j<r.length
     ·refine zb1 (enc:=Stp.enc) (ls:=r) Zm Zo ?_
      intro gs hgs
      cases hgs
      dsimp only[outV]
      by_cases hk0:k=0
      ·have hss:=stK_succ hk0 hjr
       obtain⟨⟨p0,p1⟩,⟨q0,q1⟩⟩:=hrs r[j] (List.getElem_mem _)
       have n1:=zaJ (n:=r[j].call) ⟨p0,p1⟩
       have n2:=zaJ (n:=r[j].res) ⟨q0,q1⟩
       have hse:L0++LK++nmB k++[32,121]++stK k r (j+1)=L0++LK++nmB k++[32,121]++stK k r j++([32]++itoa r[j].call++[32]++itoa r[j].res):=by
        rw[hss]
        exact(List.append_assoc _ _ _).symm
       generalize hZ:stK k r j=Z at *
       repeat' (first|refine zcL ?_|refine Zha ?_|(refine Zhb ?_;intro g)|(refine Zg ?_ ?_<;>(intro h;try exact Zx))|refine GOF ?_ ?_|((with_reducible (first|apply zaa|apply TD_e3z|apply zan|apply zaf|apply zae));((with_reducible apply zad (f:=29));exact rfl;(intro w hw;exact zcc _ w Zo);exact rfl);exact Zh;(rintro _ _ ⟨rfl,rfl⟩);(try refine⟨SUB,?_⟩))|((with_reducible apply zam (id:=19) 1000 (OT.seq [(0,0),(0,1),(0,6),(1,2),(1,7),(2,3),(0,4),(0,5),(2,8),(0,9),(0,10),(0,11)] .nil));kernel_rfl;exact rfl;kernel_rfl;exact Zd)|fail)
       all_goals first|(exfalso;omega)|skip
       all_goals
        apply zab (j+1)
        (case hE=>(try dsimp only);rw[hse];exact Ze)
        (case hS=>exact fun w' hw=>hw.sel Zl)
        (case hμ=>omega)
        (case hp=>omega)
      ·have hss:=stK_no hk0 r j
       generalize hZ:stK k r j=Z at *
       repeat' (first|refine zcL ?_|refine Zha ?_|(refine Zhb ?_;intro g)|(refine Zg ?_ ?_<;>(intro h;try exact Zx))|refine GOF ?_ ?_|fail)
       all_goals first|(exfalso;omega)|skip
       all_goals
        apply zab (j+1)
        (case hE=>(try dsimp only);rw[hss];exact Ze)
        (case hS=>exact fun w' hw=>hw.sel Zl)
        (case hμ=>omega)
        (case hp=>omega)
     ·obtain rfl:j=r.length:=by omega
      generalize stK k r r.length=Z at *
      repeat' (first|refine zcL ?_|refine Zha ?_|(refine Zhb ?_;intro g)|(refine Zg ?_ ?_<;>(intro h;try exact Zx))|refine GOF ?_ ?_|fail)
      all_goals first|(exfalso;omega)|skip
      all_goals
       apply zab (k+1)
       (case hE=>(try dsimp only);rw[he];exact Ze)
       (case hS=>exact fun w' hw=>hw.sel Zl)
       (case hμ=>omega)
       (case hp=>omega)
   ·obtain rfl:k=3:=by omega
    repeat' (first|refine zcL ?_|refine Zha ?_|(refine Zhb ?_;intro g)|(refine Zg ?_ ?_<;>(intro h;try exact Zx))|refine GOF ?_ ?_|fail)
    all_goals first|(exfalso;omega)|skip
    exact zhI () trivial Ze (fun w hw=>hw.sel Zl)
  ·rw[hLn Zo]
   exact zhI () trivial Ze (fun w hw=>hw.sel Zl)
  rintro⟨⟩ -
  have hL1l:L1.length≤700:=by
   by_cases h9:cs.length≤9
   ·have:=zhx (hso h9) 3
    rw[hLy h9]
    simp only[List.length_append,List.length_cons,List.length_nil];omega
   ·rw[hLn h9]
    simp only[List.length_append,List.length_cons,List.length_nil];omega
  clear hLy hLn hrd hco hwt hso hL1
  by_cases h1:T.length=1
  ·rw[if_pos h1,hsg h1]
   have hg:T.getD 0 0=T[0]:=by rw[List.getD_eq_getElem?_getD,List.getElem?_eq_getElem Zo];rfl
   rw[hg]
   unfold oneD
   refine zb1 (enc:=zag) (ls:=T) Zm Zo ?_
   rintro gT rfl
   by_cases t1:T[0]=1
   ·rw[if_pos t1]
    have how:=fun w h=>zjU R2 r2 E w Zo h
    have hws:=wonce_er E
    have hwk:=wonce_ok (l:=E)
    have hwl:=wonce_len E
    have hbz:=fun A c w h hok=>badZones_any A c (zaY E).1 w hwl h hok
    have hzs:(zbP (zaY E).1).Sm:=zones_sm hwl
    generalize zaY E=wo at *
    obtain⟨ws,we⟩:=wo
    dsimp only at how hws hwk hbz hzs hwl ⊢
    by_cases hwe:we=0
    ·rw[if_pos hwe]
     have hok:=hwk hwe
     have hbw:∀w:World,Calls Tryz.prog 36 #[.agg (Bd.enc (zbP ws)).toArray,.int .i64 we] w fun e w'=>e=.returned (bsv (zB (zbP ws) 0))∧Below w.heap.size w w':=fun w=>by subst hwe;exact zcf (zbP ws) 0 w hzs hws
     have hbl:(zB (zbP ws) 0).length≤405:=zes hzs (zaU Zi)
     generalize zB (zbP ws) 0=Z at *
     generalize zbP ws=bd at *
     repeat' (first|refine zcL ?_|refine Zha ?_|(refine Zhb ?_;intro g)|(refine Zg ?_ ?_<;>(intro h;try exact Zx))|refine GOF ?_ ?_|((with_reducible (first|apply zaa|apply TD_e3z|apply zan|apply zaf|apply zae));((with_reducible apply zal (f:=35));exact rfl;(intro w hw;exact how w (hw.ownRd Zm (fun _=>rfl)));exact rfl);exact Zh;(rintro _ _ ⟨A8,c8,rfl,rfl⟩);(try refine⟨SUB,?_⟩))|((with_reducible (first|apply zaa|apply TD_e3z|apply zan|apply zaf|apply zae));((with_reducible apply zad (f:=37));exact rfl;(intro w hw;exact hbz A8 c8 w (hw.ownRd Zm (fun _=>rfl)) hok);exact rfl);exact Zh;(rintro _ _ ⟨rfl,rfl⟩);(try refine⟨SUB,?_⟩))|((with_reducible (first|apply zaa|apply TD_e3z|apply zan|apply zaf|apply zae));((with_reducible apply zad (f:=36));exact rfl;(intro w hw;exact hbw w);exact rfl);exact Zh;(rintro _ _ ⟨rfl,rfl⟩);(try refine⟨SUB,?_⟩))|fail)
     all_goals first|(exfalso;omega)|skip
     (refine zah Tryz.results8 rfl (fun w' hw=>?_))
     exact⟨rfl,hw.below0 rfl⟩
    ·rw[if_neg hwe]
     have hbw:∀w:World,Calls Tryz.prog 36 #[.agg (Bd.enc ⟨0,0,0⟩).toArray,.int .i64 we] w fun e w'=>e=.returned (bsv (zB ⟨0,0,0⟩ we))∧Below w.heap.size w w':=fun w=>zcf ⟨0,0,0⟩ we w zbH hws
     have hbl:(zB ⟨0,0,0⟩ we).length≤405:=zes zbH hws
     generalize zB ⟨0,0,0⟩ we=Z at *
     repeat' (first|refine zcL ?_|refine Zha ?_|(refine Zhb ?_;intro g)|(refine Zg ?_ ?_<;>(intro h;try exact Zx))|refine GOF ?_ ?_|((with_reducible (first|apply zaa|apply TD_e3z|apply zan|apply zaf|apply zae));((with_reducible apply zal (f:=35));exact rfl;(intro w hw;exact how w (hw.ownRd Zm (fun _=>rfl)));exact rfl);exact Zh;(rintro _ _ ⟨A8,c8,rfl,rfl⟩);(try refine⟨SUB,?_⟩))|((with_reducible (first|apply zaa|apply TD_e3z|apply zan|apply zaf|apply zae));((with_reducible apply zad (f:=36));exact rfl;(intro w hw;exact hbw w);exact rfl);exact Zh;(rintro _ _ ⟨rfl,rfl⟩);(try refine⟨SUB,?_⟩))|fail)
     all_goals first|(exfalso;omega)|skip
     (refine zah Tryz.results8 rfl (fun w' hw=>?_))
     exact⟨rfl,hw.below0 rfl⟩
   ·rw[if_neg t1]
    by_cases t2:T[0]=2
    ·rw[if_pos t2]
     have how:=fun w h=>oncePut_any R2 r2 E w Zo h
     have hws:=once_er E
     have hwk:=fun h=>once_quOk (l:=E) h
     have hwl:=once_len E
     have hbz:=fun A c w h hok=>badRows_any A c (zca E).1 w h hok
     have hzs:(zcu (zca E).1).Sm:=rows_sm hwl
     generalize zca E=wo at *
     obtain⟨ws,we⟩:=wo
     dsimp only at how hws hwk hbz hzs hwl ⊢
     by_cases hwe:we=0
     ·rw[if_pos hwe]
      have hok:=hwk hwe
      have hbw:∀w:World,Calls Tryz.prog 36 #[.agg (Bd.enc (zcu ws)).toArray,.int .i64 we] w fun e w'=>e=.returned (bsv (zB (zcu ws) 0))∧Below w.heap.size w w':=fun w=>by subst hwe;exact zcf (zcu ws) 0 w hzs hws
      have hbl:(zB (zcu ws) 0).length≤405:=zes hzs (zaU Zi)
      generalize zB (zcu ws) 0=Z at *
      generalize zcu ws=bd at *
      repeat' (first|refine zcL ?_|refine Zha ?_|(refine Zhb ?_;intro g)|(refine Zg ?_ ?_<;>(intro h;try exact Zx))|refine GOF ?_ ?_|((with_reducible (first|apply zaa|apply TD_e3z|apply zan|apply zaf|apply zae));((with_reducible apply zal (f:=38));exact rfl;(intro w hw;exact how w (hw.ownRd Zm (fun _=>rfl)));exact rfl);exact Zh;(rintro _ _ ⟨A8,c8,rfl,rfl⟩);(try refine⟨SUB,?_⟩))|((with_reducible (first|apply zaa|apply TD_e3z|apply zan|apply zaf|apply zae));((with_reducible apply zad (f:=39));exact rfl;(intro w hw;exact hbz A8 c8 w (hw.ownRd Zm (fun _=>rfl)) hok);exact rfl);exact Zh;(rintro _ _ ⟨rfl,rfl⟩);(try refine⟨SUB,?_⟩))|((with_reducible (first|apply zaa|apply TD_e3z|apply zan|apply zaf|apply zae));((with_reducible apply zad (f:=36));exact rfl;(intro w hw;exact hbw w);exact rfl);exact Zh;(rintro _ _ ⟨rfl,rfl⟩);(try refine⟨SUB,?_⟩))|fail)
      all_goals first|(exfalso;omega)|skip
      (refine zah Tryz.results8 rfl (fun w' hw=>?_))
      exact⟨rfl,hw.below0 rfl⟩
     ·rw[if_neg hwe]
      have hbw:∀w:World,Calls Tryz.prog 36 #[.agg (Bd.enc ⟨0,0,0⟩).toArray,.int .i64 we] w fun e w'=>e=.returned (bsv (zB ⟨0,0,0⟩ we))∧Below w.heap.size w w':=fun w=>zcf ⟨0,0,0⟩ we w zbH hws
      have hbl:(zB ⟨0,0,0⟩ we).length≤405:=zes zbH hws
      generalize zB ⟨0,0,0⟩ we=Z at *
      repeat' (first|refine zcL ?_|refine Zha ?_|(refine Zhb ?_;intro g)|(refine Zg ?_ ?_<;>(intro h;try exact Zx))|refine GOF ?_ ?_|((with_reducible (first|apply zaa|apply TD_e3z|apply zan|apply zaf|apply zae));((with_reducible apply zal (f:=38));exact rfl;(intro w hw;exact how w (hw.ownRd Zm (fun _=>rfl)));exact rfl);exact Zh;(rintro _ _ ⟨A8,c8,rfl,rfl⟩);(try refine⟨SUB,?_⟩))|((with_reducible (first|apply zaa|apply TD_e3z|apply zan|apply zaf|apply zae));((with_reducible apply zad (f:=36));exact rfl;(intro w hw;exact hbw w);exact rfl);exact Zh;(rintro _ _ ⟨rfl,rfl⟩);(try refine⟨SUB,?_⟩))|fail)
      all_goals first|(exfalso;omega)|skip
      (refine zah Tryz.results8 rfl (fun w' hw=>?_))
      exact⟨rfl,hw.below0 rfl⟩
    ·rw[if_neg t2]
     by_cases t5:T[0]=5
     ·rw[if_pos t5]
      have hTe:T=[5]:=by
       match T,h1 with
       |[t],_=>rw[show t=5 from t5]
      have hok:TkOk cs:=by
       rw[hbx]
       rw[hTe] at hc0 ⊢
       exact tkOk_of hc0
      have hzs:(zbC cs).Sm:=check_sm hcl (by have:=numT_bd hok;omega)
      have hnu:=fun A c w h hca=>numbered_any A c cs w h hok hca
      have hbw:∀w:World,Calls Tryz.prog 36 #[.agg (Bd.enc (zbC cs)).toArray,.int .i64 0] w fun e w'=>e=.returned (bsv (zB (zbC cs) 0))∧Below w.heap.size w w':=fun w=>zcf (zbC cs) 0 w hzs (zaU Zi)
      have hbl:(zB (zbC cs) 0).length≤405:=zes hzs (zaU Zi)
      generalize zB (zbC cs) 0=Z at *
      generalize zbC cs=bd at *
      refine T_ownLe (enc:=Cl.enc) (ls:=cs) Zm ?_
      intro hcap
      repeat' (first|refine zcL ?_|refine Zha ?_|(refine Zhb ?_;intro g)|(refine Zg ?_ ?_<;>(intro h;try exact Zx))|refine GOF ?_ ?_|((with_reducible (first|apply zaa|apply TD_e3z|apply zan|apply zaf|apply zae));((with_reducible apply zal (f:=40));exact rfl;(intro w hw;exact hnu A7 c7 w (hw.ownRd Zm (fun _=>rfl)) hcap);exact rfl);exact Zh;(rintro _ _ ⟨A8,c8,rfl,rfl⟩);(try refine⟨SUB,?_⟩))|((with_reducible (first|apply zaa|apply TD_e3z|apply zan|apply zaf|apply zae));((with_reducible apply zad (f:=36));exact rfl;(intro w hw;exact hbw w);exact rfl);exact Zh;(rintro _ _ ⟨rfl,rfl⟩);(try refine⟨SUB,?_⟩))|fail)
      all_goals first|(exfalso;omega)|skip
      (refine zah Tryz.results8 rfl (fun w' hw=>?_))
      exact⟨rfl,hw.below0 rfl⟩
     ·rw[if_neg t5]
      by_cases t4:T[0]=4
      ·rw[if_pos t4]
       have hTe:T=[4]:=by
        match T,h1 with
        |[t],_=>rw[show t=4 from t4]
       have hc4:(zai [4] E).2.2=0:=by rw[←hTe];exact hc0
       have hce:cs=(zai [4] E).1:=by rw[hbx,hTe]
       have harg:∀c∈cs,1≤c.arg∧c.arg≤1000:=by rw[hce];exact bag_arg hc4
       have hown:∀n:Int,(cs.filter (zce n)).length≤9→zaG [4]=true∧CallsOk [4] (cs.filter (zce n))∧zeB (cs.filter (zce n)) (zax (cs.filter (zce n))):=fun n=>by rw[hce];exact bag_own hc4
       have hbig0:=bigB_none harg
       have hbig1:=fun v h=>bigB_some (cs:=cs) (v:=v) h
       have hss:=bcL_succ cs
       have hsl:=bcL_len cs
       clear hTe hc4 hce harg hbx
       unfold bagW
       repeat' (first|refine zcL ?_|refine Zha ?_|(refine Zhb ?_;intro g)|(refine Zg ?_ ?_<;>(intro h;try exact Zx))|refine GOF ?_ ?_|fail)
       all_goals first|(exfalso;omega)|skip
       refine zap (X:=Nat×Option Addr×Nat) (fun x=>[(23,.int .i64 (x.1:Nat)),(22,.slice x.2.1 (bcL cs x.1).length x.2.2),(10,bsv L1),(7,.slice A7 cs.length c7)]) (fun x=>[zac zag 1 3 x.2.1 x.2.2 (bcL cs x.1),zac Cl.enc 7 36 A7 c7 cs])
        (fun x=>1≤x.1∧x.1≤1001∧∀u:Nat,1≤u→u<x.1→(cs.filter (zce (u:Nat))).length≤9) (fun x=>1001-x.1) (1,none,0) ⟨by(try dsimp only);omega,by(try dsimp only);omega,fun u h1 h2=>by(try dsimp only at h2);omega⟩ (by(try dsimp only);rw[show bcL cs 1=[] from rfl];exact Ze) (fun w' hw=>by(try dsimp only);rw[show bcL cs 1=[] from rfl];exact(hw.nilOwn zag 1 3).sel Zl) ?_
       rintro⟨v,AL,cL⟩ ⟨hv1,hv2,hfew⟩
       dsimp only at hv1 hv2 hfew ⊢
       by_cases hvl:v<1001
       ·have hbv:=fun w h=>bagCalls_any A7 c7 cs w hcl h (v:Nat)
        have hs:=hss v
        have hLl:=hsl v
        have hi1:inbB cs (v:Nat)=(decide (0<(cs.filter (zce (v:Nat))).length)&&(zbq [4] (cs.filter (zce (v:Nat))) (zax (cs.filter (zce (v:Nat))))).isNone):=rfl
        rw[decide_eq_true hv1,Bool.true_and,hi1] at hs
        have hbg:=hbig1 (v:Nat)
        have hown:=hown (v:Nat)
        have hnx:(cs.filter (zce (v:Nat))).length≤9→∀u:Nat,1≤u→u<v+1→(cs.filter (zce (u:Nat))).length≤9:=fun h u h1 h2=>(Nat.lt_succ_iff_lt_or_eq.1 h2).elim (fun e=>hfew u h1 e) (fun e=>by subst e;exact h)
        have hlen:(cs.filter (zce (v:Nat))).length≤200:=Nat.le_trans (List.length_filter_le _ _) hcl
        clear hfew hss hsl hbig0 hbig1 hi1
        generalize hOO:cs.filter (zce (v:Nat))=O at *
        generalize hLL:bcL cs v=L at *
        by_cases hO9:9<O.length
        ·rw[if_pos (hbg hO9)]
         have hbw:∀w:World,Calls Tryz.prog 36 #[.agg (Bd.enc ⟨0,0,0⟩).toArray,.int .i64 2] w fun e w'=>e=.returned (bsv (zB ⟨0,0,0⟩ 2))∧Below w.heap.size w w':=fun w=>zcf ⟨0,0,0⟩ 2 w zbH (zaU Zi)
         have hbl:(zB ⟨0,0,0⟩ 2).length≤405:=zes zbH (zaU Zi)
         generalize zB ⟨0,0,0⟩ 2=Z at *
         repeat' (first|refine zcL ?_|refine Zha ?_|(refine Zhb ?_;intro g)|(refine Zg ?_ ?_<;>(intro h;try exact Zx))|refine GOF ?_ ?_|((with_reducible (first|apply zaa|apply TD_e3z|apply zan|apply zaf|apply zae));((with_reducible apply zal (f:=41));exact rfl;(intro w hw;exact hbv w (hw.ownRd Zm (fun _=>rfl)));exact rfl);exact Zh;(rintro _ _ ⟨A6,c6,rfl,rfl⟩);(try refine⟨SUB,?_⟩))|((with_reducible (first|apply zaa|apply TD_e3z|apply zan|apply zaf|apply zae));((with_reducible apply zad (f:=36));exact rfl;(intro w hw;exact hbw w);exact rfl);exact Zh;(rintro _ _ ⟨rfl,rfl⟩);(try refine⟨SUB,?_⟩))|fail)
         all_goals first|(exfalso;omega)|skip
         (refine zah Tryz.results8 rfl (fun w' hw=>?_))
         exact⟨rfl,hw.below0 rfl⟩
        ·have hnx:=hnx Zo
         obtain⟨ht,hc,hR⟩:=hown Zo
         by_cases hO0:O.length=0
         ·rw[hO0,decide_eq_false Zi,Bool.false_and,if_neg Zi] at hs
          repeat' (first|refine zcL ?_|refine Zha ?_|(refine Zhb ?_;intro g)|(refine Zg ?_ ?_<;>(intro h;try exact Zx))|refine GOF ?_ ?_|((with_reducible (first|apply zaa|apply TD_e3z|apply zan|apply zaf|apply zae));((with_reducible apply zal (f:=41));exact rfl;(intro w hw;exact hbv w (hw.ownRd Zm (fun _=>rfl)));exact rfl);exact Zh;(rintro _ _ ⟨A6,c6,rfl,rfl⟩);(try refine⟨SUB,?_⟩))|fail)
          all_goals first|(exfalso;omega)|skip
          all_goals(apply zab (v+1,AL,cL);(case hE=>(try dsimp only);rw[hs];exact Ze);(case hS=>(try dsimp only);rw[hs];exact fun w' hw=>hw.sel Zl);(case hμ=>(try dsimp only);omega);(case hp=>exact⟨by(try dsimp only);omega,by(try dsimp only);omega,hnx⟩))
         ·rw[decide_eq_true (show 0<O.length by omega),Bool.true_and] at hs
          have hlb:=fun gN g4 A6 c6=>leastBag_any O gN g4 A6 c6 ht hc hR Zo
          generalize zbq [4] O (zax O)=o at *
          repeat' (first|refine zcL ?_|refine Zha ?_|(refine Zhb ?_;intro g)|(refine Zg ?_ ?_<;>(intro h;try exact Zx))|refine GOF ?_ ?_|((with_reducible (first|apply zaa|apply TD_e3z|apply zan|apply zaf|apply zae));((with_reducible apply zal (f:=41));exact rfl;(intro w hw;exact hbv w (hw.ownRd Zm (fun _=>rfl)));exact rfl);exact Zh;(rintro _ _ ⟨A6,c6,rfl,rfl⟩);(try refine⟨SUB,?_⟩))|((with_reducible (first|apply zaa|apply TD_e3z|apply zan|apply zaf|apply zae));((with_reducible apply zad (f:=31));exact rfl;(intro w hw;exact zjz A6 c6 O w (hw.ownRd Zm (fun _=>rfl)) Zo);exact rfl);exact Zh;(rintro _ _ ⟨rfl,rfl⟩);(try refine⟨SUB,?_⟩))|((with_reducible (first|apply zaa|apply TD_e3z|apply zan|apply zaf|apply zae));((with_reducible apply zbv Stp.enc);exact rfl);exact Zh;(rintro _ _ ⟨g,rfl,rfl⟩);(try refine⟨SUB,?_⟩))|fail)
          all_goals first|(exfalso;omega)|skip
          obtain⟨gN,rfl⟩:∃x,x=g:=⟨_,rfl⟩
          obtain⟨g4,rfl⟩:∃x,x=g:=⟨_,rfl⟩
          have hih:=fun C R w hw h4 hO=>hlb gN g4 A6 c6 C R w hw h4 hO
          clear hlb hown hbg hc hR
          cases o with
          |some r =>
           rw[if_neg Zj] at hs
           repeat' (first|refine zcL ?_|refine Zha ?_|(refine Zhb ?_;intro g)|(refine Zg ?_ ?_<;>(intro h;try exact Zx))|refine GOF ?_ ?_|((with_reducible (first|apply zaa|apply TD_e3z|apply zan|apply zaf|apply zae));((with_reducible apply zar (f:=34) (X:=Addr×Nat) (S1:=[zac Stp.enc 2 49 (some ⟨gN,0,none⟩) 0 []]) (outV (some r)) (outS (some r)));exact rfl;exact Zp;(intro x;dsimp only[outS];exact Za);(intro w' hw;exact hih _ _ w' hw Zm Zm);exact rfl);exact Zh;(rintro _ _ ⟨⟨a9,c9⟩,rfl,rfl⟩);(try refine⟨SUB,?_⟩))|fail)
           all_goals(apply zab (v+1,AL,cL);(case hE=>(try dsimp only);rw[hs];exact Ze);(case hS=>(try dsimp only);rw[hs];exact fun w' hw=>hw.sel Zl);(case hμ=>(try dsimp only);omega);(case hp=>exact⟨by(try dsimp only);omega,by(try dsimp only);omega,hnx⟩))
          |none =>
           rw[if_pos Zj] at hs
           repeat' (first|refine zcL ?_|refine Zha ?_|(refine Zhb ?_;intro g)|(refine Zg ?_ ?_<;>(intro h;try exact Zx))|refine GOF ?_ ?_|((with_reducible (first|apply zaa|apply TD_e3z|apply zan|apply zaf|apply zae));((with_reducible apply zar (f:=34) (X:=Addr×Nat) (S1:=[zac Stp.enc 2 49 (some ⟨gN,0,none⟩) 0 []]) (outV (none:Option (List Stp))) (outS (none:Option (List Stp))));exact rfl;exact Zp;(intro x;dsimp only[outS];exact Za);(intro w' hw;exact hih _ _ w' hw Zm Zm);exact rfl);exact Zh;(rintro _ _ ⟨⟨a9,c9⟩,rfl,rfl⟩);(try refine⟨SUB,?_⟩))|((with_reducible (first|apply zaa|apply TD_e3z|apply zan|apply zaf|apply zae));((with_reducible apply zaw (enc:=zag) (xx:=(v:Int)));exact rfl;exact rfl;exact Zm;exact rfl;exact fun _=>rfl;exact fun _=>rfl;(intro A' c';exact Zu);(omega);decide;exact rfl);exact Zh;(rintro _ _ ⟨A',c',rfl,rfl⟩);(try refine⟨SUB,?_⟩))|fail)
           all_goals(apply zab (v+1,A',c');(case hE=>(try dsimp only);rw[hs];exact Ze);(case hS=>(try dsimp only);rw[hs];exact fun w' hw=>hw.sel Zl);(case hμ=>(try dsimp only);omega);(case hp=>exact⟨by(try dsimp only);omega,by(try dsimp only);omega,hnx⟩))
       ·obtain rfl:v=1001:=by omega
        have hb:=hbig0 hfew
        have hLl:=hsl 1001
        have hLs:=bcL_sm cs
        rw[if_neg (by rw[hb];decide)]
        clear hown hbig0 hbig1 hfew hss hsl hb
        generalize bcL cs 1001=L at *
        by_cases hL0:L.length=0
        ·obtain rfl:L=[]:=List.length_eq_zero_iff.1 hL0
         rw[if_pos rfl]
         have hbw:∀w:World,Calls Tryz.prog 36 #[.agg (Bd.enc ⟨0,0,0⟩).toArray,.int .i64 0] w fun e w'=>e=.returned (bsv (zB ⟨0,0,0⟩ 0))∧Below w.heap.size w w':=fun w=>zcf ⟨0,0,0⟩ 0 w zbH (zaU Zi)
         have hbl:(zB ⟨0,0,0⟩ 0).length≤405:=zes zbH (zaU Zi)
         generalize zB ⟨0,0,0⟩ 0=Z at *
         repeat' (first|refine zcL ?_|refine Zha ?_|(refine Zhb ?_;intro g)|(refine Zg ?_ ?_<;>(intro h;try exact Zx))|refine GOF ?_ ?_|((with_reducible (first|apply zaa|apply TD_e3z|apply zan|apply zaf|apply zae));((with_reducible apply zad (f:=36));exact rfl;(intro w hw;exact hbw w);exact rfl);exact Zh;(rintro _ _ ⟨rfl,rfl⟩);(try refine⟨SUB,?_⟩))|fail)
         all_goals first|(exfalso;omega)|skip
         (refine zah Tryz.results8 rfl (fun w' hw=>?_))
         exact⟨rfl,hw.below0 rfl⟩
        ·rw[if_neg (fun h=>hL0 (by rw[h];rfl))]
         have hel:=fun j=>elW_tlen hLs hLl j
         have hfin:L1++([98,97,100]++elW L++[10])=L1++[98,97,100]++elW (L.take L.length)++[10]:=by rw[List.take_length];simp only[List.append_assoc]
         rw[hfin]
         repeat' (first|refine zcL ?_|refine Zha ?_|(refine Zhb ?_;intro g)|(refine Zg ?_ ?_<;>(intro h;try exact Zx))|refine GOF ?_ ?_|fail)
         all_goals first|(exfalso;omega)|skip
         refine zap (X:=Nat) (fun j=>[(213,.int .i64 (j:Nat)),(212,.int .i64 L.length),(211,.slice AL L.length cL),(10,bsv (L1++[98,97,100]++elW (L.take j)))]) (fun _=>[zac zag 1 3 AL cL L]) (fun j=>j≤L.length) (fun j=>L.length-j) 0 Zo (by(try dsimp only);rw[show elW (L.take 0)=[] from rfl,List.append_nil];exact Ze) (fun _ hw=>hw.sel Zl) ?_
         intro j hj
         have hzl:=hel j
         by_cases hjl:j<L.length
         ·refine zb1 (enc:=zag) (ls:=L) Zm Zo ?_
          rintro gL rfl
          obtain⟨p0,p1⟩:=hLs L[j] (List.getElem_mem _)
          have n1:=zaJ (n:=L[j]) ⟨p0,p1⟩
          have hse:L1++[98,97,100]++elW (L.take (j+1))=L1++[98,97,100]++elW (L.take j)++([32]++itoa L[j]):=by rw[elW_take hjl];simp only[List.append_assoc]
          generalize elW (L.take j)=Z at *
          repeat' (first|refine zcL ?_|refine Zha ?_|(refine Zhb ?_;intro g)|(refine Zg ?_ ?_<;>(intro h;try exact Zx))|refine GOF ?_ ?_|((with_reducible (first|apply zaa|apply TD_e3z|apply zan|apply zaf|apply zae));((with_reducible apply zad (f:=29));exact rfl;(intro w hw;exact zcc _ w Zo);exact rfl);exact Zh;(rintro _ _ ⟨rfl,rfl⟩);(try refine⟨SUB,?_⟩))|fail)
          all_goals first|(exfalso;omega)|skip
          all_goals
           apply zab (j+1)
           (case hE=>(try dsimp only);rw[hse];exact Ze)
           (case hS=>exact fun w' hw=>hw.sel Zl)
           (case hμ=>omega)
           (case hp=>omega)
         ·obtain rfl:j=L.length:=by omega
          generalize elW (L.take L.length)=Z at *
          repeat' (first|refine zcL ?_|refine Zha ?_|(refine Zhb ?_;intro g)|(refine Zg ?_ ?_<;>(intro h;try exact Zx))|refine GOF ?_ ?_|fail)
          all_goals first|(exfalso;omega)|skip
          (refine zah Tryz.results8 rfl (fun w' hw=>?_))
          exact⟨rfl,hw.below0 rfl⟩
      ·rw[if_neg t4,List.append_nil]
       repeat' (first|refine zcL ?_|refine Zha ?_|(refine Zhb ?_;intro g)|(refine Zg ?_ ?_<;>(intro h;try exact Zx))|refine GOF ?_ ?_|fail)
       all_goals first|(exfalso;omega)|skip
       (refine zah Tryz.results8 rfl (fun w' hw=>?_))
       exact⟨rfl,hw.below0 rfl⟩
  ·rw[if_neg h1,List.append_nil]
   repeat' (first|refine zcL ?_|refine Zha ?_|(refine Zhb ?_;intro g)|(refine Zg ?_ ?_<;>(intro h;try exact Zx))|refine GOF ?_ ?_|fail)
   all_goals first|(exfalso;omega)|skip
   (refine zah Tryz.results8 rfl (fun w' hw=>?_))
   exact⟨rfl,hw.below0 rfl⟩
 ·rw[if_pos hf]
  have n1:=zaJ hsf
  have n2:=zaJ hsk
  obtain⟨p0,p1⟩:=hsf
  obtain⟨q0,q1⟩:=hsk
  have he:lnB [wError,itoa f,itoa k]=[101,114,114,111,114,32]++itoa f++[32]++itoa k++[10]:=by rw[zfo];simp[wError]
  rw[he]
  repeat' (first|refine zcL ?_|refine Zha ?_|(refine Zhb ?_;intro g)|(refine Zg ?_ ?_<;>(intro h;try exact Zx))|refine GOF ?_ ?_|((with_reducible (first|apply zaa|apply TD_e3z|apply zan|apply zaf|apply zae));((with_reducible apply zar (f:=28) (X:=(Option Addr×Nat)×(Option Addr×Nat)) (S1:=[]) (fun x=>.tuple #[.slice x.1.1 T.length x.1.2,.slice x.2.1 E.length x.2.2,.int .i64 k,.int .i64 f]) (fun x=>[zac zag 1 3 x.1.1 x.1.2 T,zac Ev.enc 4 95 x.2.1 x.2.2 E]));exact rfl;exact Zp;(intro x;(try dsimp only);exact Za);(intro w hw;exact hrd w (hT.carry (hw.below0 rfl)));exact rfl);exact Zh;(rintro _ _ ⟨⟨⟨R1,r1⟩,⟨R2,r2⟩⟩,rfl,rfl⟩);(try refine⟨SUB,?_⟩))|((with_reducible (first|apply zaa|apply TD_e3z|apply zan|apply zaf|apply zae));((with_reducible apply zad (f:=29));exact rfl;(intro w hw;exact zcc _ w Zo);exact rfl);exact Zh;(rintro _ _ ⟨rfl,rfl⟩);(try refine⟨SUB,?_⟩))|fail)
  all_goals first|(exfalso;contradiction)|skip
  (refine zah Tryz.results8 rfl (fun w' hw=>?_))
  exact⟨rfl,hw.below0 rfl⟩
end
end
end Go.Proofs.YtjdckepbihcgfaaGreatDoor
