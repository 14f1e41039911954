/- Lemmas for the walks (TxE, TxR, TxB, TxK, TxW, Bld). No condition. -/
import Derived.Test.YtjdckepbihcgfaaGreatDoorG36
import Derived.Test.YtjdckepbihcgfaaGreatDoorG07
import Derived.Shelf.Strings.BuilderK
import Derived.Lib.UnsafeStr
import Derived.Laws.Externs
import Derived.Lib.OthersKept
import Derived.Lib.FrozenHead2
import GoSem.Claims
set_option linter.unusedSimpArgs false
set_option linter.unusedVariables false
set_option linter.unusedSectionVars false
set_option linter.unnecessarySimpa false
set_option maxRecDepth 100000
set_option maxHeartbeats 8000000
namespace Go.Proofs.YtjdckepbihcgfaaGreatDoor
section
open Go.RowKit Go.Lib
theorem zc7{c:UInt8}{l x:Bs}(h:x∈zas c l):x.length≤l.length:=by
 have h1:=zdR c l
 have:∀(ws:List Bs),x∈ws→x.length≤(zby c ws).length:=by
  intro ws
  induction ws with
  |nil=>intro hx;cases hx
  |cons a r ih =>
   intro hx
   cases r with
   |nil =>
    rcases List.mem_cons.1 hx with rfl|hx
    ·exact Nat.le_refl _
    ·cases hx
   |cons b r =>
    show x.length≤(a++c::zby c (b::r)).length
    rw[List.length_append,List.length_cons]
    rcases List.mem_cons.1 hx with rfl|hx
    ·omega
    ·have:=ih hx;omega
 have h2:=this _ h
 rw[h1] at h2
 exact h2
theorem eventR_3{l:Bs}{ws:List Bs}(hws:ws=zas 32 l)(h:ws.length=3):zaL l=match zbD (ws.getD 0 []),zbD (ws.getD 1 []),kdOf (ws.getD 2 []) with
  |some a,some b,some k=>if zeM k=true then some ⟨a,b,k,0⟩ else none
  |_,_,_=>none:=by
 unfold zaL
 rw[←hws]
 rcases ws with _|⟨a,_|⟨b,_|⟨c,_|⟨d,r⟩⟩⟩⟩<;>first|rfl|(simp at h;done)|(simp at h;omega)
theorem eventR_4{l:Bs}{ws:List Bs}(hws:ws=zas 32 l)(h:ws.length=4):zaL l=match zbD (ws.getD 0 []),zbD (ws.getD 1 []),kdOf (ws.getD 2 []),zbD (ws.getD 3 []) with
  |some a,some b,some k,some v=>if zeM k=true then none else some ⟨a,b,k,v⟩
  |_,_,_,_=>none:=by
 unfold zaL
 rw[←hws]
 rcases ws with _|⟨a,_|⟨b,_|⟨c,_|⟨d,_|⟨e,r⟩⟩⟩⟩⟩<;>first|rfl|(simp at h;done)|(simp at h;omega)
theorem zih{l:Bs}{ws:List Bs}(hws:ws=zas 32 l)(h:ws.length≠3∧ws.length≠4):zaL l=none:=by
 unfold zaL
 rw[←hws]
 rcases ws with _|⟨a,_|⟨b,_|⟨c,_|⟨d,_|⟨e,r⟩⟩⟩⟩⟩<;>first|rfl|(exfalso;simp at h;done)|(exfalso;simp at h;omega)
theorem zi0{o:Option Int}{x:Int}(h:o.isSome=true)(hx:∀v,o=some v→x=v):o=some x:=by
 cases o with
 |none=>cases h
 |some v=>rw[hx v rfl]
section
variable (l:Bs)(w:World)(hl:l.length≤1000000)(hT:TxW w) 
include hl hT
abbrev EvTo(l:Bs):={v:Ev // ∀u,zaL l=some u→v=u}
theorem textEvent_any:Calls Tryz.prog 56 #[bsv l] w fun e w'=>∃x:EvTo l,e=.returned (.tuple #[.agg (Ev.enc x.1).toArray,.bool (zaL l).isSome])∧Mem ⟨0,[],w⟩ w' []:=by
 have hne:=zb3 32 l
 have hsl:=zbW 32 l
 have hpl:=fun x (h:x∈zas 32 l)=>zc7 h
 obtain⟨ws,hws⟩:∃ws,ws=zas 32 l:=⟨_,rfl⟩
 have hsp:=fun w h=>zeQ 32 l w hl h
 rw[←hws] at hne hsl hpl hsp
 refine zaj (S:=[]) [] Tryz.func56 rfl Tryz.ntmps56 Zj (Mem.nil _) ?_
 by_cases h3:ws.length<3
 ·have hn:zaL l=none:=zih hws ⟨by omega,by omega⟩
  rw[show(zaL l).isSome=false by rw[hn];rfl]
  repeat' (first|refine Zga ?_|(refine Zgb ?_;intro g)|(refine Zg ?_ ?_<;>(intro h;try exact Zx))|((with_reducible (first|apply zaa|apply TD_e3z|apply zan|apply zaf|apply zae));((with_reducible apply zal (f:=54));exact rfl;(intro w hw;exact hsp w (hT.carry (hw.below0 rfl)));exact rfl);exact Zh;(rintro _ _ ⟨A1,c1,rfl,rfl⟩);(try refine⟨SUB,?_⟩))|fail)
  all_goals first|(exfalso;omega)|skip
  ((with_reducible apply zau Tryz.results56);exact Zr;intro w' hw)
  exact⟨⟨⟨0,0,0,0⟩,fun u hu=>by rw[hn] at hu;cases hu⟩,rfl,(hw.anyN 0).sel Zl⟩
 repeat' (first|refine Zga ?_|(refine Zgb ?_;intro g)|(refine Zg ?_ ?_<;>(intro h;try exact Zx))|((with_reducible (first|apply zaa|apply TD_e3z|apply zan|apply zaf|apply zae));((with_reducible apply zal (f:=54));exact rfl;(intro w hw;exact hsp w (hT.carry (hw.below0 rfl)));exact rfl);exact Zh;(rintro _ _ ⟨A1,c1,rfl,rfl⟩);(try refine⟨SUB,?_⟩))|fail)
 all_goals first|(exfalso;omega)|skip
 refine zfP (p:=ws.length≤c1∧(A1=none→c1=0)) (fun w hw=>hw.ownFacts (enc:=zbn) (M:=1) (et:=9) Zm) fun hf=>?_
 refine zhF (enc:=zbn) (ls:=ws) Zm Zo ?_
 rintro g1 rfl
 have hl0:=hpl ws[0] (List.getElem_mem _)
 have hl1:=hpl ws[1] (List.getElem_mem _)
 have hl2:=hpl ws[2] (List.getElem_mem _)
 repeat' (first|refine Zga ?_|(refine Zgb ?_;intro g)|(refine Zg ?_ ?_<;>(intro h;try exact Zx))|fail)
 ((with_reducible (first|apply zaa|apply TD_e3z|apply zan|apply zaf|apply zae));((with_reducible apply zar (f:=105) (X:={n:Int // ∀v,zbD ws[0]=some v→n=v}) (S1:=[]) (fun x=>.tuple #[.int .i64 x.1,.bool (zbD ws[0]).isSome]) (fun _=>[]));exact rfl;exact Zp;(intro x;(try dsimp only);exact Za);(intro w hw;exact zg7 ws[0] w Zo (hT.carry (hw.below0 rfl)));exact rfl);exact Zh;(rintro _ _ ⟨⟨xa,hxa⟩,rfl,rfl⟩);(try refine⟨SUB,?_⟩))
 dsimp only
 repeat' (first|refine Zga ?_|(refine Zgb ?_;intro g)|(refine Zg ?_ ?_<;>(intro h;try exact Zx))|fail)
 ((with_reducible (first|apply zaa|apply TD_e3z|apply zan|apply zaf|apply zae));((with_reducible apply zar (f:=105) (X:={n:Int // ∀v,zbD ws[1]=some v→n=v}) (S1:=[]) (fun x=>.tuple #[.int .i64 x.1,.bool (zbD ws[1]).isSome]) (fun _=>[]));exact rfl;exact Zp;(intro x;(try dsimp only);exact Za);(intro w hw;exact zg7 ws[1] w Zo (hT.carry (hw.below0 rfl)));exact rfl);exact Zh;(rintro _ _ ⟨⟨xb,hxb⟩,rfl,rfl⟩);(try refine⟨SUB,?_⟩))
 dsimp only
 have hg:∀i (h:i<ws.length),ws.getD i []=ws[i]:=fun i h=>by simp[h]
 have hbad:(¬(zbD ws[0]).isSome=true∨¬(zbD ws[1]).isSome=true∨zcM kindW ws[2]<0)→zaL l=none:=by
  intro hb
  by_cases e3:ws.length=3
  ·rw[eventR_3 hws e3,hg 0 Zo,hg 1 Zo,hg 2 Zo]
   unfold kdOf
   rcases hb with hb|hb|hb
   ·cases hn:zbD ws[0] with
    |none=>rfl
    |some v=>rw[hn] at hb;exact absurd rfl hb
   ·cases hn:zbD ws[1] with
    |none=>split<;>first|rfl|(rename_i h _;cases h)
    |some v=>rw[hn] at hb;exact absurd rfl hb
   ·rw[if_neg Zo]
    split<;>first|rfl|(rename_i h;cases h)
  by_cases e4:ws.length=4
  ·rw[eventR_4 hws e4,hg 0 Zo,hg 1 Zo,hg 2 Zo]
   unfold kdOf
   rcases hb with hb|hb|hb
   ·cases hn:zbD ws[0] with
    |none=>rfl
    |some v=>rw[hn] at hb;exact absurd rfl hb
   ·cases hn:zbD ws[1] with
    |none=>split<;>first|rfl|(rename_i h _ _;cases h)
    |some v=>rw[hn] at hb;exact absurd rfl hb
   ·rw[if_neg Zo]
    split<;>first|rfl|(rename_i h _;cases h)
  exact zih hws ⟨e3,e4⟩
 by_cases hok:(zbD ws[0]).isSome=true∧(zbD ws[1]).isSome=true∧0≤zcM kindW ws[2]
 case neg =>
  have hn:=hbad (by
   by_cases a:(zbD ws[0]).isSome=true
   ·by_cases b:(zbD ws[1]).isSome=true
    ·exact .inr (.inr (Int.not_le.1 fun c=>hok ⟨a,b,c⟩))
    ·exact .inr (.inl b)
   ·exact .inl a)
  rw[show(zaL l).isSome=false by rw[hn];rfl]
  clear hbad hg
  repeat' (first|refine Zha ?_|(refine Zhb ?_;intro g)|(refine Zg ?_ ?_<;>(intro h;try exact Zx))|refine GOF ?_ ?_|((with_reducible apply zam (id:=6) 9 (OT.seq [(0,0),(0,1),(0,3),(0,4),(1,5)] (.fork (OT.seq [(2,2)] (.fork (OT.seq [(2,6),(0,7),(2,8),(3,9)] .nil) (OT.seq [(2,8),(2,6),(0,7),(3,9)] .nil))) (OT.seq [(2,8),(2,2),(2,6),(0,7),(3,9)] .nil))));kernel_rfl;exact rfl;kernel_rfl;exact Zd)|((with_reducible (first|apply zaa|apply TD_e3z|apply zan|apply zaf|apply zae));((with_reducible apply zal (f:=106));exact rfl;(intro w hw;exact zgk w);exact rfl);exact Zh;(rintro _ _ ⟨A2,c2,rfl,rfl⟩);(try refine⟨SUB,?_⟩))|((with_reducible (first|apply zaa|apply TD_e3z|apply zan|apply zaf|apply zae));((with_reducible apply zad (f:=103));exact rfl;(intro w hw;exact zg8 A2 c2 kindW ws[2] w Zi (hw.ownRd Zm (fun _=>rfl)));exact rfl);exact Zh;(rintro _ _ ⟨rfl,rfl⟩);(try refine⟨SUB,?_⟩))|fail)
  all_goals first
   |(exfalso;exact hok ⟨by assumption,by assumption,by assumption⟩)
   |skip
  all_goals
   repeat' (first|refine Zga ?_|(refine Zgb ?_;intro g)|(refine Zg ?_ ?_<;>(intro h;try exact Zx))|fail)
  all_goals
   ((with_reducible apply zau Tryz.results56);exact Zr;intro w' hw)
   exact⟨⟨⟨0,0,0,0⟩,fun u hu=>by rw[hn] at hu;cases hu⟩,rfl,(hw.anyN 0).sel Zl⟩
 have hn0:=zi0 hok.1 hxa
 have hn1:=zi0 hok.2.1 hxb
 obtain⟨ix,hxe⟩:∃ix,ix=zcM kindW ws[2]:=⟨_,rfl⟩
 have hk:kdOf ws[2]=some ix:=by rw[hxe];exact if_pos hok.2.2
 have he3:ws.length=3→zaL l=if zeM ix=true then some ⟨xa,xb,ix,0⟩ else none:=fun e3=>by
  rw[eventR_3 hws e3,hg 0 Zo,hg 1 Zo,hg 2 Zo,hn0,hn1,hk]
 have he4:∀(e4:ws.length=4),zaL l=match zbD ws[3] with|some v=>if zeM ix=true then none else some ⟨xa,xb,ix,v⟩|none=>none:=fun e4=>by
  rw[eventR_4 hws e4,hg 0 Zo,hg 1 Zo,hg 2 Zo,hg 3 Zo,hn0,hn1,hk]
  cases zbD ws[3]<;>rfl
 have hen:ws.length≠3∧ws.length≠4→zaL l=none:=zih hws
 have hb0:¬(zbD ws[0]).isSome=false:=by rw[hok.1];decide
 have hb1:¬(zbD ws[1]).isSome=false:=by rw[hok.2.1];decide
 have hb2:=hok.2.2
 have hix:=fun A c w h=>zg8 A c kindW ws[2] w Zi h
 rw[←hxe] at hb2 hix
 clear hbad hg hws hok
 rw[hn0,hn1,show(some xa).isSome=true from rfl,show(some xb).isSome=true from rfl]
 clear hxe
 repeat' (first|refine Zha ?_|(refine Zhb ?_;intro g)|(refine Zg ?_ ?_<;>(intro h;try exact Zx))|refine GOF ?_ ?_|((with_reducible apply zam (id:=6) 9 (OT.seq [(0,0),(0,1),(0,3),(0,4),(1,5)] (.fork (OT.seq [(2,2)] (.fork (OT.seq [(2,6),(0,7),(2,8),(3,9)] .nil) (OT.seq [(2,8),(2,6),(0,7),(3,9)] .nil))) (OT.seq [(2,8),(2,2),(2,6),(0,7),(3,9)] .nil))));kernel_rfl;exact rfl;kernel_rfl;exact Zd)|((with_reducible (first|apply zaa|apply TD_e3z|apply zan|apply zaf|apply zae));((with_reducible apply zal (f:=106));exact rfl;(intro w hw;exact zgk w);exact rfl);exact Zh;(rintro _ _ ⟨A2,c2,rfl,rfl⟩);(try refine⟨SUB,?_⟩))|((with_reducible (first|apply zaa|apply TD_e3z|apply zan|apply zaf|apply zae));((with_reducible apply zad (f:=103));exact rfl;(intro w hw;exact hix A2 c2 w (hw.ownRd Zm (fun _=>rfl)));exact rfl);exact Zh;(rintro _ _ ⟨rfl,rfl⟩);(try refine⟨SUB,?_⟩))|((with_reducible (first|apply zaa|apply TD_e3z|apply zan|apply zaf|apply zae));((with_reducible apply zad (f:=107));exact rfl;(intro w hw;exact bare_any _ w);exact rfl);exact Zh;(rintro _ _ ⟨rfl,rfl⟩);(try refine⟨SUB,?_⟩))|fail)
 all_goals first|(exfalso;omega)|skip
 all_goals first
  |(have hB:zeM ix=true:=by assumption
    repeat' (first|refine Zga ?_|(refine Zgb ?_;intro g)|(refine Zg ?_ ?_<;>(intro h;try exact Zx))|fail)
    ((with_reducible apply zau Tryz.results56);exact Zr;intro w' hw)
    have hR:zaL l=if ws.length=3 then some ⟨xa,xb,ix,0⟩ else none:=by
     by_cases e3:ws.length=3
     ·rw[he3 e3,if_pos hB,if_pos e3]
     ·rw[if_neg e3]
      by_cases e4:ws.length=4
      ·rw[he4 e4]
       cases zbD ws[3] with
       |none=>rfl
       |some v=>exact if_pos hB
      ·exact hen ⟨e3,e4⟩
    refine⟨⟨⟨xa,xb,ix,0⟩,fun u hu=>?_⟩,?_,(hw.anyN 0).sel Zl⟩
    ·rw[hR] at hu
     split at hu
     ·exact Option.some.inj hu
     ·cases hu
    ·have hS:(zaL l).isSome=decide ((ws.length:Int)=3):=by
      rw[hR]
      by_cases e3:ws.length=3
      ·rw[if_pos e3,decide_eq_true Zo];rfl
      ·rw[if_neg e3,decide_eq_false Zo];rfl
     rw[hS];rfl)
  |(have h4:ws.length≠4:=by omega
    have hB:zeM ix=false:=by assumption
    repeat' (first|refine Zga ?_|(refine Zgb ?_;intro g)|(refine Zg ?_ ?_<;>(intro h;try exact Zx))|fail)
    ((with_reducible apply zau Tryz.results56);exact Zr;intro w' hw)
    have hR:zaL l=none:=by
     by_cases e3:ws.length=3
     ·rw[he3 e3,hB];rfl
     ·exact hen ⟨e3,h4⟩
    refine⟨⟨⟨0,0,0,0⟩,fun u hu=>by rw[hR] at hu;cases hu⟩,?_,(hw.anyN 0).sel Zl⟩
    rw[show(zaL l).isSome=false by rw[hR];rfl];rfl)
  |skip
 all_goals
  have h4:ws.length=4:=by omega
  have hB:zeM ix=false:=by assumption
  have hl3:=hpl ws[3] (List.getElem_mem _)
  have hR:=he4 h4
  rw[hB] at hR
  ((with_reducible (first|apply zaa|apply TD_e3z|apply zan|apply zaf|apply zae));((with_reducible apply zar (f:=105) (X:={n:Int // ∀v,zbD ws[3]=some v→n=v}) (S1:=[]) (fun x=>.tuple #[.int .i64 x.1,.bool (zbD ws[3]).isSome]) (fun _=>[]));exact rfl;exact Zp;(intro x;(try dsimp only);exact Za);(intro w hw;exact zg7 ws[3] w Zo (hT.carry (hw.below0 rfl)));exact rfl);exact Zh;(rintro _ _ ⟨⟨xv,hxv⟩,rfl,rfl⟩);(try refine⟨SUB,?_⟩))
  dsimp only
  repeat' (first|refine Zga ?_|(refine Zgb ?_;intro g)|(refine Zg ?_ ?_<;>(intro h;try exact Zx))|fail)
  ((with_reducible apply zau Tryz.results56);exact Zr;intro w' hw)
  refine⟨⟨⟨xa,xb,ix,xv⟩,fun u hu=>?_⟩,?_,(hw.anyN 0).sel Zl⟩
  ·rw[hR] at hu
   split at hu
   ·rename_i v hv
    rw[←hxv v hv] at hu
    exact Option.some.inj hu
   ·cases hu
  ·have hS:(zaL l).isSome=(zbD ws[3]).isSome:=by
    rw[hR]
    cases zbD ws[3]<;>rfl
   rw[hS];rfl
end
end
section
open Go.RowKit Go.Lib
theorem Q0TxR{p R:Prop}(r:R)(h:Rest R→p:=by intro r;(first|with_reducible (first|apply zcE|apply za9|apply zba|apply zbd|apply zbe)|((with_reducible (first|apply zaN|apply zaO));exact rfl;exact rfl;(with_reducible exact rfl)));(first|((with_reducible apply zi7 Tryz.underlying9);exact rfl)|((with_reducible apply zcX (b:=[]));exact rfl;exact rfl)|exact QS.auto);exact rfl;exact r.out):p:=h ⟨r⟩
def zef(ls:List Bs):Option Nat:=(List.range ls.length).find? fun i=>!zbT ls i
def zbx(l:Bs):List Int×List Ev×Int×Int :=
 if 8192<l.length then([],[],0,2) else
 match zef (zas 10 l) with
 |some i=>([],[],(i:Int),7)
 |none =>
  if(zai (zfN (zas 10 l)) (zfM (zas 10 l) ((zas 10 l).length-1))).2.2=2 then([],[],0,2)
  else if(zai (zfN (zas 10 l)) (zfM (zas 10 l) ((zas 10 l).length-1))).2.2≠0 then([],[],(zai (zfN (zas 10 l)) (zfM (zas 10 l) ((zas 10 l).length-1))).2.1+1,(zai (zfN (zas 10 l)) (zfM (zas 10 l) ((zas 10 l).length-1))).2.2)
  else(zfN (zas 10 l),zfM (zas 10 l) ((zas 10 l).length-1),0,0)
theorem zhK{ls:List Bs}(h:∀i,i<ls.length→zbT ls i=true):zef ls=none:=by
 unfold zef
 rw[List.find?_eq_none]
 intro i hi
 rw[h i (List.mem_range.1 hi)];decide
theorem zhL{ls:List Bs}{k:Nat}(hk:k<ls.length)(h:∀i,i<k→zbT ls i=true)(h1:zbT ls k=false):zef ls=some k:=by
 unfold zef
 refine List.find?_range_eq_some.2 ⟨by rw[h1];rfl,List.mem_range.2 hk,fun j hj=>?_⟩
 rw[h j hj];rfl
theorem callsR_y(ts:List Int)(l:List Ev):0≤(zai ts l).2.1∧(zai ts l).2.1≤l.length:=by
 unfold zai
 split
 ·exact⟨Int.le_refl _,by show(0:Int)≤_;omega⟩
 ·split
  ·exact⟨Int.le_refl _,by show(0:Int)≤_;omega⟩
  ·split
   ·exact⟨by show(0:Int)≤((zey ts l:Nat):Int);omega,by show((zey ts l:Nat):Int)≤_;omega⟩
   ·exact⟨Int.le_refl _,by show(0:Int)≤_;omega⟩
def zha(ls:List Bs)(k:Nat):List Int:=if k=0 then[] else zfN ls
def zfg(ls:List Bs)(k:Nat):List Ev:=zfM ls (min k (ls.length-1))
section
variable {P:Program}{C:Ctx}{E:zaE}{S:List Ent}{s ty:Nat}{x:Operand} 
theorem zi7{l:Bs}(hs:P.underlying s=some .string)(hx:evo E x=some (bsv l)):QS P C E S (.call ⟨.builtin .len,#[x],#[s]⟩) ty (.int .i64 l.length) :=
 QS.of (fun a w ha _=>by
  have hr:(Builtin.len_ #[s] ty #[bsv l]).run P w=.ok (goInt l.length) w:=by
   unfold bsv
   simp[Builtin.len_,run_underlying hs];rfl
  simp[execOp,resolve,invoke,builtin,ha.evo hx,hr,goInt])
end
section
variable (l:Bs)(w:World)(hl:l.length≤9223372036854775807)(hT:TxW w) 
include hl hT
theorem textRead_any:Calls Tryz.prog 23 #[bsv l] w fun e w'=>∃x:(Option Addr×Nat)×(Option Addr×Nat),e=.returned (.tuple #[.slice x.1.1 (zbx l).1.length x.1.2,.slice x.2.1 (zbx l).2.1.length x.2.2,.int .i64 (zbx l).2.2.1,.int .i64 (zbx l).2.2.2])∧Mem ⟨0,[],w⟩ w' [zac zag 1 3 x.1.1 x.1.2 (zbx l).1,zac Ev.enc 4 95 x.2.1 x.2.2 (zbx l).2.1]:=by
 refine zaj (S:=[]) [] Tryz.func23 rfl Tryz.ntmps23 Zj (Mem.nil _) ?_
 by_cases h8:8192<l.length
 ·rw[show zbx l=([],[],0,2) from if_pos h8]
  repeat' (first|refine Q0TxR ?_|refine Zga ?_|(refine Zgb ?_;intro g)|(refine Zg ?_ ?_<;>(intro h;try exact Zx))|fail)
  all_goals first|(exfalso;omega)|skip
  (refine zah Tryz.results23 rfl (fun w' hw=>?_))
  exact⟨((none,0),(none,0)),rfl,(((hw.nilOwn Ev.enc 4 95).nilOwn zag 1 3).anyN 0).sel Zl⟩
 have hR:zbx l=match zef (zas 10 l) with
  |some i=>([],[],(i:Int),7)
  |none =>
   if(zai (zfN (zas 10 l)) (zfM (zas 10 l) ((zas 10 l).length-1))).2.2=2 then([],[],0,2)
   else if(zai (zfN (zas 10 l)) (zfM (zas 10 l) ((zas 10 l).length-1))).2.2≠0 then([],[],(zai (zfN (zas 10 l)) (zfM (zas 10 l) ((zas 10 l).length-1))).2.1+1,(zai (zfN (zas 10 l)) (zfM (zas 10 l) ((zas 10 l).length-1))).2.2)
   else(zfN (zas 10 l),zfM (zas 10 l) ((zas 10 l).length-1),0,0):=if_neg h8
 have hne:=zb3 10 l
 have hsl:=zbW 10 l
 have hpl:=fun x (h:x∈zas 10 l)=>zc7 h
 have hsp:=fun w h=>zeQ 10 l w Zo h
 obtain⟨ls,hls⟩:∃ls,ls=zas 10 l:=⟨_,rfl⟩
 rw[←hls] at hne hsl hpl hsp hR
 clear hls
 have hpos:0<ls.length:=by
  rcases hx:ls with _|⟨a,b⟩
  ·exact absurd hx hne
  ·simp
 repeat' (first|refine Q0TxR ?_|refine Zga ?_|(refine Zgb ?_;intro g)|(refine Zg ?_ ?_<;>(intro h;try exact Zx))|((with_reducible (first|apply zaa|apply TD_e3z|apply zan|apply zaf|apply zae));((with_reducible apply zal (f:=54));exact rfl;(intro w hw;exact hsp w (hT.carry (hw.below0 rfl)));exact rfl);exact Zh;(rintro _ _ ⟨A1,c1,rfl,rfl⟩);(try refine⟨SUB,?_⟩))|fail)
 all_goals first|(exfalso;omega)|skip
 refine ziW (p:=ls.length≤c1∧(A1=none→c1=0)) (fun w hw=>hw.ownFacts (enc:=zbn) (M:=1) (et:=9) Zm) fun hf=>?_
 refine zb1 (enc:=zbn) (ls:=ls) Zm Zo ?_
 rintro g1 rfl
 refine zap (X:=Nat×(Option Addr×Nat)×(Option Addr×Nat)) (fun x=>[(27,.int .i64 (x.1:Nat)),(26,.int .i64 (ls.length:Nat)),(25,.slice (some ⟨g1,0,none⟩) ls.length c1),(7,.int .i64 ((ls.length:Nat)-1:Int)),(8,.slice x.2.1.1 (zha ls x.1).length x.2.1.2),(9,.slice x.2.2.1 (zfg ls x.1).length x.2.2.2)]) (fun x=>[zac zag 1 3 x.2.1.1 x.2.1.2 (zha ls x.1),zac Ev.enc 4 95 x.2.2.1 x.2.2.2 (zfg ls x.1),zac zbn 1 9 (some ⟨g1,0,none⟩) c1 ls])
  (fun x=>x.1≤ls.length∧∀i,i<x.1→zbT ls i=true) (fun x=>ls.length-x.1) (0,(none,0),(none,0)) ⟨by(try dsimp only);omega,fun i h=>absurd h (Nat.not_lt_zero _)⟩ (by(try dsimp only);exact Ze) (fun w' hw=>by(show Mem _ w' [zac zag 1 3 none 0 [],zac Ev.enc 4 95 none 0 [],zac zbn 1 9 (some ⟨g1,0,none⟩) c1 ls]);exact((hw.nilOwn Ev.enc 4 95).nilOwn zag 1 3).sel Zl) ?_
 rintro⟨k,⟨A3,c3⟩,⟨A4,c4⟩⟩ ⟨hk,hok⟩
 dsimp only at hk hok ⊢
 by_cases hkl:k<ls.length
 ·have hlk:lnK ls k=ls[k]:=by unfold lnK;simp[hkl]
  have hpk:=hpl ls[k] (List.getElem_mem _)
  have hbad:zbT ls k=false→zbx l=([],[],(k:Int),7):=fun h=>by rw[hR,zhL hkl hok h]
  have hnx:zbT ls k=true→∀i,i<k+1→zbT ls i=true:=fun h i hi=>by
   rcases Nat.lt_succ_iff_lt_or_eq.1 hi with h1|rfl
   ·exact hok i h1
   ·exact h
  have hlo:zbT ls k=if k+1=ls.length then decide (ls[k]=[]∧0<k) else if k=0 then(zbj ls[k]).isSome else(zaL ls[k]).isSome:=by
   unfold zbT
   rw[hlk]
   by_cases e0:k=0
   ·subst e0;rw[hlk]
   ·rw[if_neg e0,if_neg e0]
  clear hR hok
  by_cases hlast:k+1=ls.length
  ·rw[if_pos hlast] at hlo
   have hek:zfg ls (k+1)=zfg ls k:=by
    unfold zfg
    rw[show min (k+1) (ls.length-1)=min k (ls.length-1) by omega]
   have htk:0<k→zha ls (k+1)=zha ls k:=fun h=>by unfold zha;rw[if_neg Zo,if_neg Zo]
   by_cases hemp:ls[k]=[]∧0<k
   ·rw[decide_eq_true hemp] at hlo
    have htk:=htk hemp.2
    have hnx:=hnx hlo
    clear hlo hbad
    generalize zfg ls k=E at *
    generalize zha ls k=K at *
    repeat' (first|refine Q0TxR ?_|refine Zga ?_|(refine Zgb ?_;intro g)|(refine Zg ?_ ?_<;>(intro h;try exact Zx))|fail)
    all_goals first|(exfalso;omega)|(exfalso;exact(by assumption:¬ls[k]=[]) hemp.1)|(exfalso;have h0:decide (ls[k]=[])=false:=(by assumption);rw[decide_eq_true hemp.1] at h0;cases h0)|skip
    all_goals
     apply zab (k+1,(A3,c3),(A4,c4))
     (case hE=>(try dsimp only);rw[hek,htk];exact Ze)
     (case hS=>(try dsimp only);rw[hek,htk];exact fun w' hw=>hw.sel Zl)
     (case hμ=>(try dsimp only);omega)
     (case hp=>exact⟨by(try dsimp only);omega,hnx⟩)
   ·rw[decide_eq_false hemp] at hlo
    have hbad:=hbad hlo
    have hemp':ls[k]=[]→¬0<k:=fun a b=>hemp ⟨a,b⟩
    clear hlo hnx htk hek
    generalize zfg ls k=E at *
    generalize zha ls k=K at *
    repeat' (first|refine Q0TxR ?_|refine Zga ?_|(refine Zgb ?_;intro g)|(refine Zg ?_ ?_<;>(intro h;try exact Zx))|fail)
    all_goals first|(exfalso;omega)|(exfalso;exact hemp' (by assumption) Zo)|(exfalso;exact hemp' (of_decide_eq_true (by assumption)) Zo)|skip
    all_goals
     (refine zah Tryz.results23 rfl (fun w' hw=>?_))
     rw[hbad]
     exact⟨((none,0),(none,0)),rfl,(((hw.nilOwn Ev.enc 4 95).nilOwn zag 1 3).anyN 0).sel Zl⟩
  by_cases hk0:k=0
  ·rw[if_neg hlast,if_pos hk0] at hlo
   have htk:zha ls (k+1)=(zbj ls[k]).getD []:=by
    unfold zha zfN
    rw[if_neg Zo,←hlk,hk0]
   have hek:zfg ls (k+1)=zfg ls k:=by
    unfold zfg
    rw[hk0,show min (0+1) (ls.length-1)=1 by omega,show min 0 (ls.length-1)=0 by omega];rfl
   generalize zfg ls k=E at *
   generalize zha ls k=K at *
   repeat' (first|refine Q0TxR ?_|refine Zga ?_|(refine Zgb ?_;intro g)|(refine Zg ?_ ?_<;>(intro h;try exact Zx))|((with_reducible (first|apply zaa|apply TD_e3z|apply zan|apply zaf|apply zae));((with_reducible apply zal (f:=55));exact rfl;(intro w hw;exact things_any ls[k] w Zo (hT.carry (hw.below0 rfl)));exact rfl);exact Zh;(rintro _ _ ⟨A2,c2,rfl,rfl⟩);(try refine⟨SUB,?_⟩))|fail)
   all_goals first|(exfalso;omega)|skip
   all_goals first
    |(have hb:(zbj ls[k]).isSome=false:=by assumption
      (refine zah Tryz.results23 rfl (fun w' hw=>?_))
      rw[hbad (by rw[hlo];exact hb)]
      exact⟨((none,0),(none,0)),rfl,(((hw.nilOwn Ev.enc 4 95).nilOwn zag 1 3).anyN 0).sel Zl⟩)
    |(have hg:(zbj ls[k]).isSome=true:=by assumption
      apply zab (k+1,(A2,c2),(A4,c4))
      (case hE=>(try dsimp only);rw[hek,htk];exact Ze)
      (case hS=>(try dsimp only);rw[hek,htk];exact fun w' hw=>hw.sel Zl)
      (case hμ=>(try dsimp only);omega)
      (case hp=>exact⟨by(try dsimp only);omega,hnx (by rw[hlo];exact hg)⟩))
  ·rw[if_neg hlast,if_neg hk0] at hlo
   have htk:zha ls (k+1)=zha ls k:=by unfold zha;rw[if_neg Zo,if_neg hk0]
   have hek:zfg ls (k+1)=zfg ls k++[(zaL ls[k]).getD ⟨0,0,0,0⟩]:=by
    unfold zfg
    obtain⟨j,rfl⟩:∃j,k=j+1:=⟨k-1,by omega⟩
    rw[show min (j+1+1) (ls.length-1)=j+2 by omega,show min (j+1) (ls.length-1)=j+1 by omega,evsK_succ,hlk]
   have hel:(zfg ls k).length≤8192:=by unfold zfg;rw[zgh];omega
   generalize zfg ls k=E at *
   generalize zha ls k=K at *
   repeat' (first|refine Q0TxR ?_|refine Zga ?_|(refine Zgb ?_;intro g)|(refine Zg ?_ ?_<;>(intro h;try exact Zx))|fail)
   all_goals first|(exfalso;omega)|skip
   ((with_reducible (first|apply zaa|apply TD_e3z|apply zan|apply zaf|apply zae));((with_reducible apply zar (f:=56) (X:=EvTo ls[k]) (S1:=[]) (fun x=>.tuple #[.agg (Ev.enc x.1).toArray,.bool (zaL ls[k]).isSome]) (fun _=>[]));exact rfl;exact Zp;(intro x;(try dsimp only);exact Za);(intro w hw;exact textEvent_any ls[k] w Zo (hT.carry (hw.below0 rfl)));exact rfl);exact Zh;(rintro _ _ ⟨⟨xe,hxe⟩,rfl,rfl⟩);(try refine⟨SUB,?_⟩))
   have hxs:(zaL ls[k]).isSome=true→(zaL ls[k]).getD ⟨0,0,0,0⟩=xe:=fun h=>by
    obtain⟨u,hu⟩:=Option.isSome_iff_exists.1 h
    exact(congrArg (·.getD ⟨0,0,0,0⟩) hu).trans (hxe u hu).symm
   repeat' (first|refine Q0TxR ?_|refine Zga ?_|(refine Zgb ?_;intro g)|(refine Zg ?_ ?_<;>(intro h;try exact Zx))|((with_reducible (first|apply zaa|apply TD_e3z|apply zan|apply zaf|apply zae));((with_reducible apply zaw (enc:=Ev.enc) (xx:=xe));exact rfl;exact rfl;exact Zm;exact rfl;exact fun _=>rfl;exact fun _=>rfl;(intro A' c';exact Zu);(omega);decide;exact rfl);exact Zh;(rintro _ _ ⟨A',c',rfl,rfl⟩);(try refine⟨SUB,?_⟩))|fail)
   all_goals first
    |(have hb:(zaL ls[k]).isSome=false:=by assumption
      (refine zah Tryz.results23 rfl (fun w' hw=>?_))
      rw[hbad (by rw[hlo];exact hb)]
      exact⟨((none,0),(none,0)),rfl,(((hw.nilOwn Ev.enc 4 95).nilOwn zag 1 3).anyN 0).sel Zl⟩)
    |(have hg:(zaL ls[k]).isSome=true:=by assumption
      rw[hxs hg] at hek
      apply zab (k+1,(A3,c3),(A',c'))
      (case hE=>(try dsimp only);rw[hek,htk];exact Ze)
      (case hS=>(try dsimp only);rw[hek,htk];exact fun w' hw=>hw.sel Zl)
      (case hμ=>(try dsimp only);omega)
      (case hp=>exact⟨by(try dsimp only);omega,hnx (by rw[hlo];exact hg)⟩))
 ·obtain rfl:k=ls.length:=by omega
  have h2:2≤ls.length:=by
   have h0:=hok (ls.length-1) Zo
   unfold zbT at h0
   rw[if_pos Zo] at h0
   have:=(of_decide_eq_true h0).2
   omega
  have hye:=callsR_y (zfN ls) (zfM ls (ls.length-1))
  rw[zhK hok] at hR
  dsimp only at hR
  have htk:zha ls ls.length=zfN ls:=if_neg Zo
  have hek:zfg ls ls.length=zfM ls (ls.length-1):=by
   unfold zfg
   rw[show min ls.length (ls.length-1)=ls.length-1 by omega]
  have hel:(zfM ls (ls.length-1)).length≤8192:=by rw[zgh];omega
  have htl:(zfN ls).length≤4:=by
   unfold zfN
   cases ht:zbj (lnK ls 0) with
   |none=>exact Nat.zero_le _
   |some t=>exact(zg5 ht).1
  rw[htk,hek]
  clear hok htk hek hpl hsp
  generalize zfN ls=K at *
  generalize zfM ls (ls.length-1)=E at *
  have h1:=fun w h1 h2=>za8 A3 A4 c3 c4 K E w Zo Zo h1 h2
  obtain⟨cs,y,z,hcr⟩:∃cs y z,zai K E=(cs,y,z):=⟨_,_,_,rfl⟩
  rw[hcr] at h1 hR hye
  dsimp only at h1 hR hye
  repeat' (first|refine Q0TxR ?_|refine Zga ?_|(refine Zgb ?_;intro g)|(refine Zg ?_ ?_<;>(intro h;try exact Zx))|((with_reducible (first|apply zaa|apply TD_e3z|apply zan|apply zaf|apply zae));((with_reducible apply zal (f:=12));exact rfl;(intro w hw;exact h1 w (hw.ownRd Zm (fun _=>rfl)) (hw.ownRd Zm (fun _=>rfl)));exact rfl);exact Zh;(rintro _ _ ⟨A5,c5,rfl,rfl⟩);(try refine⟨SUB,?_⟩))|fail)
  all_goals first|(exfalso;omega)|skip
  all_goals first
   |(have hz:z=2:=by assumption
     (refine zah Tryz.results23 rfl (fun w' hw=>?_))
     rw[hR,if_pos hz,hz]
     exact⟨((none,0),(none,0)),rfl,(((hw.nilOwn Ev.enc 4 95).nilOwn zag 1 3).anyN 0).sel Zl⟩)
   |(have hz:¬z=2:=by assumption
     have hz0:¬z=0:=by assumption
     (refine zah Tryz.results23 rfl (fun w' hw=>?_))
     rw[hR,if_neg hz,if_pos hz0]
     exact⟨((none,0),(none,0)),rfl,(((hw.nilOwn Ev.enc 4 95).nilOwn zag 1 3).anyN 0).sel Zl⟩)
   |(have hz:¬z=2:=by assumption
     have hz0:z=0:=by assumption
     (refine zah Tryz.results23 rfl (fun w' hw=>?_))
     rw[hR,if_neg hz,if_neg (fun h=>h hz0)]
     exact⟨((A3,c3),(A4,c4)),rfl,(hw.anyN 0).sel Zl⟩)
end
end
section
open Go.RowKit Go.Lib
section
variable {w w':World}{T8 TB b c:Nat}{A:Option Addr}{l:Bs} 
theorem zi8{v:Value}{n:Nat}{xs:List Value}{B B':Nat}(hp:w.ownsRowF B T8 1 v n xs)(h:∀g,v.ownBlock=some g→w'.heap[g]?=w.heap[g]?)(hB:∀g,v.ownBlock=some g→B'≤g):w'.ownsRowF B' T8 1 v n xs:=by
 refine⟨hp.1,?_⟩
 rcases hp.2 with hn|⟨g,cap,cur,fz,hv,hbb,hg,rest⟩
 ·exact .inl hn
 ·exact .inr ⟨g,cap,cur,fz,hv,hB g (by rw[hv];rfl),(h g (by rw[hv];rfl)).trans hg,rest⟩
def zao(TB T8 b:Nat)(A:Option Addr)(c:Nat)(l:Bs):Ent :=
 ⟨fun k=>k=b∨(Value.slice A l.length c).ownBlock=some k,b::(Value.slice A l.length c).ownBlock.toList,fun k=>by rw[List.mem_cons,Option.mem_toList],
  fun w=>(Value.slice A l.length c).ownBlock≠some b∧∃pv:Value,(pv=.pointer none∨pv=.pointer (some ⟨b,0,none⟩))∧w.heap[b]?=some (.cells #[pv,.slice A l.length c] TB (0,0))∧w.ownsRowF 0 T8 1 (.slice A l.length c) l.length (Lib.byteCells l),
  fun w w' h ⟨h1,pv,h2,h3,h4⟩=>⟨h1,pv,h2,(h b (.inl rfl)).trans h3,zi8 h4 (fun g hg=>h g (.inr hg)) (fun g _=>Nat.zero_le g)⟩⟩
end
end
section
open Go.RowKit Go.Lib
set_option linter.unusedVariables false
class BldIn (TB:Nat):Prop where
 lies:liesAt Tryz.prog Tryz.prog.depth TB (2 / Tryz.prog.cellsOf TB) 0 61 1=true
 ne:TB≠5
instance : BldIn 61:=⟨by kernel_rfl,by decide⟩
theorem bSize:(Tryz.prog.info? 61).map (·.size)=some 2:=by kernel_rfl
theorem bByte:(Tryz.prog.info? 5).map (fun i=>(i.zero,i.size,i.bytes))=some (some (.int .u8 0),1,1):=by kernel_rfl
theorem bCells:Tryz.prog.cellsOf 5=1:=by kernel_rfl
section
variable {TB:Nat}[hT:BldIn TB] 
include hT
theorem bcheck_new(b:Nat)(w:World)(h0:w.cell? ⟨b,0,none⟩=some (.pointer none))(hsh:w.shape? b=some (TB,2))(hfz:w.frozen? ⟨b,0,none⟩=false):
  Calls Tryz.prog 108 #[.pointer (some ⟨b,0,none⟩)] w fun e w'=>e=.returned (.tuple #[])∧w'=w.setCell ⟨b,0,none⟩ (.pointer (some ⟨b,0,none⟩)):=by
 obtain⟨j,hj,hjs⟩:=Option.map_eq_some_iff.1 bSize
 go_enter Tryz.func108,Tryz.ntmps108
 go_wp2
 rw[Lib.run_to_unsafe w ⟨b,0,none⟩ Tryz.underlying58 Tryz.underlying201 hj (by rw[hjs];decide) hsh (Nat.zero_lt_succ 1)]
 simp only[Result.andThen]
 rw[Oper.upon_value]
 go_wp2
 rw[run_callFunc_extern (f:=145) rfl (by kernel_rfl) (by kernel_rfl) (by kernel_rfl) (e:=Extern.AbiNoEscape.same) (by kernel_rfl)]
 rw[Lib.run_noEscape]
 simp only[Result.andThen]
 rw[Oper.upon_value]
 go_wp2
 rw[Lib.run_from_unsafe w ⟨b,0,none⟩ Tryz.underlying201 Tryz.underlying58 hj hsh hT.lies]
 simp only[Result.andThen]
 rw[Oper.upon_value]
 go_wp2
 go_end0
 exact⟨rfl,rfl⟩
theorem bcheck_used(b:Nat)(w:World)(h0:w.cell? ⟨b,0,none⟩=some (.pointer (some ⟨b,0,none⟩))):
  Calls Tryz.prog 108 #[.pointer (some ⟨b,0,none⟩)] w fun e w'=>e=.returned (.tuple #[])∧w'=w:=by
 obtain⟨j,hj,hjs⟩:=Option.map_eq_some_iff.1 bSize
 have hne:=Lib.run_neq_ptr_same w ⟨b,0,none⟩ Tryz.underlying58 hj
 go_enter Tryz.func108,Tryz.ntmps108
 go_wp2
 go_end0
 exact⟨rfl,rfl⟩
end
end
section
open Go.RowKit Go.Lib
section
variable {P:Program}{C:Ctx}{E:zaE}{S R S2:List Ent}{d ty ty2 ty3 f:Nat}{ps:String}{af:Array Edge}{g0:Option (Nat×Bool)}{x y:Operand} 
theorem ba_app(a b:Bs):(⟨a.toArray⟩++⟨b.toArray⟩:ByteArray)=⟨(a++b).toArray⟩:=by
 apply ByteArray.ext
 rw[ByteArray.data_append];simp
theorem zgl{a b:Bs}(hx:evo E x=some (bsv a))(hy:evo E y=some (bsv b))(hl:a.length+b.length≤1000000):QS P C E S (.binOp .add ty2 x y ty3) ty (bsv (a++b)) :=
 QS.of (fun ac w ha _=>by
  unfold execOp
  simp only[ha.evo hx,ha.evo hy]
  have hg:(eqGuard .add ty2 x y (bsv a) (bsv b)).run P w=.ok () w:=rfl
  have hb:(binOp .add ty2 (bsv a) (bsv b)).run P w=.ok (bsv (a++b)) w:=by
   unfold bsv
   rw[binOp_string_add]
   unfold Op.stringOp
   dsimp only
   rw[if_neg (by show ¬((a.toArray.size+b.toArray.size:Nat):Int) > 9223372036854775807;simp;omega),ba_app];rfl
  simp only[Sem.run_bind,hg,Result.andThen_ok,hb];rfl)
theorem bnew_mem{w:World}{TB T8 b:Nat}(h:Mem C w (zak b TB #[.pointer none,.slice none 0 0]::R)):Mem C w (zao TB T8 b none 0 []::R):=by
 have h1:=h.holds _ List.mem_cons_self
 have hap:=List.pairwise_cons.1 h.apart
 have hg:∀g,(zao TB T8 b none 0 []).has g→(zak b TB #[.pointer none,.slice none 0 0]).has g:=fun g hg=>by
  rcases(show g=b∨(Value.slice none 0 0).ownBlock=some g from hg) with rfl|h2
  ·exact rfl
  ·cases h2
 refine⟨h.keeps,fun e he=>?_,List.pairwise_cons.2 ⟨fun e he g hg'=>hap.1 e he g (hg g hg'),hap.2⟩⟩
 rcases List.mem_cons.1 he with rfl|he
 ·refine⟨⟨by simp[Value.ownBlock],_,.inl rfl,h1.1,?_⟩,fun g hg'=>h1.2 g (hg g hg')⟩
  exact⟨rfl,.inl ⟨rfl,rfl⟩⟩
 ·exact h.holds e (List.mem_cons_of_mem _ he)
end
end
section
open Go.RowKit Go.Lib
set_option linter.unusedVariables false
theorem zi9{P:Program}(w:World)(t u ty e:TypeId)(i:TypeInfo)(ht:P.underlying t=some (.slice e))(hu:P.underlying u=some .string)(hi:P.info? e=some i)(hz:i.zero=some (.int .u8 0)) 
  (hsize:i.size=1) (hby:i.bytes=1) (v:Value) (n:Nat) (xs:List Value) (hown:w.ownsRowF 0 e 1 v n xs) (s:ByteArray) (h63:n+s.size≤maxLen) (hbytes:n+s.size≤140737488355328) :
  ∃v' w',(Builtin.append_ #[t,u] ty #[v,.string s]).run P w=.ok v' w'∧w'.ownsRowF 0 e 1 v' (n+s.size) (xs++Lib.strCells s)∧w.grownBy w' v.ownBlock∧∀g,v'.ownBlock=some g→v.ownBlock=some g∨w.heap.size≤g:=by
 obtain⟨v',w',hr,h2,h3,_⟩:=Lib.run_append_own_stringF (P:=P) w 0 t u ty e i ht hu hi hz hsize hby v n xs hown s h63 hbytes (Nat.zero_le _)
 refine⟨v',w',hr,h2,h3,fun g hg=>?_⟩
 rcases hown.2 with⟨rfl,rfl⟩|⟨g0,cap,cur,fz,rfl,_,hg0,hfz,hnc,hcm,hcs,htake⟩
 ·obtain⟨v2,w2,hr2,h4,_,_⟩:=Lib.run_append_own_stringF (P:=P) w w.heap.size t u ty e i ht hu hi hz hsize hby (.slice none 0 0) 0 xs ⟨hown.1,.inl ⟨rfl,rfl⟩⟩ s h63 hbytes (Nat.le_refl _)
  rw[hr] at hr2
  injection hr2 with e1 e2
  subst e1
  exact .inr (h4.lt g hg).1
 ·have hxl:xs.length=n:=by simpa using hown.1
  by_cases hroom:n+s.size≤cap
  ·have hr2:=Lib.run_append_room_stringF (P:=P) w t u ty e i ht hu hi hsize g0 n cap cur fz hg0 (by simpa using hfz) s hroom Zo
   rw[hr] at hr2
   injection hr2 with e1 e2
   subst e1
   exact .inl hg
  ·have holds:∀j u,xs[j]?=some u→w.cell? ((⟨g0,0,none⟩:Addr).add j)=some u:=hown.cells (g:=g0) rfl
   unfold maxLen at h63
   have hr2:=Lib.run_append_grow_string (P:=P) w t u ty e i (.int .u8 0) ht hu hi hz ⟨g0,0,none⟩ n cap xs (by rw[hsize];simpa using hxl) holds s Zo Zo (by rw[hby];exact growslice_fits Zo Zo)
   rw[hr] at hr2
   injection hr2 with e1 e2
   subst e1
   have:w.heap.size=g:=Option.some.inj hg
   exact .inr Zo
theorem zgm{P:Program}{w:World}{ops:Array Oper}{rest:List Oper}{o:Oper}{a:Act}{Q:Exit→Act→World→Prop}(hgd:o.guard=none)(sl x:Operand)(t u:TypeId) 
  (ho:o.op=.call { callee:=.builtin .append,args:=#[sl,x],argTypes:=#[t,u] }) (e:TypeId) (i:TypeInfo) (ht:P.underlying t=some (.slice e)) (hu:P.underlying u=some .string) (hi:P.info? e=some i) (hz:i.zero=some (.int .u8 0))
  (hsize:i.size=1) (hby:i.bytes=1) (v:Value) (n:Nat) (xs:List Value) (hs:a.eval sl=v) (hown:w.ownsRowF 0 e 1 v n xs) (s:ByteArray) (hx:a.eval x=.string s) (h63:n+s.size≤maxLen) (hbytes:n+s.size≤140737488355328)
  (h:∀v' w',w'.ownsRowF 0 e 1 v' (n+s.size) (xs++Lib.strCells s)→w.grownBy w' v.ownBlock→(∀g,v'.ownBlock=some g→v.ownBlock=some g∨w.heap.size≤g)→wpList P ops Q rest (a.put o.dst v') w'):wpList P ops Q (o::rest) a w:=by
 refine wpList_plain hgd fun K hK=>?_
 obtain⟨v',w',hr,h2,h3,h4⟩:=zi9 (P:=P) w t u o.type e i ht hu hi hz hsize hby v n xs hown s h63 hbytes
 unfold Oper.wp execOp
 simp only[ho,resolve,invoke,builtin,Sem.run_bind,Sem.run_pure,Result.andThen_ok,List.map_toArray,List.map_cons,List.map_nil,hs,hx,hr]
 exact hK _ _ (h v' w' h2 h3 h4)
section
variable {TB:Nat}[hT:BldIn TB] 
include hT
theorem bcheck_fine(b:Nat)(pv sl:Value)(hpv:pv=.pointer none∨pv=.pointer (some ⟨b,0,none⟩))(w:World)(hb:w.heap[b]?=some (.cells #[pv,sl] TB (0,0))):
  Calls Tryz.prog 108 #[.pointer (some ⟨b,0,none⟩)] w fun e w'=>e=.returned (.tuple #[])∧w'.heap[b]?=some (.cells #[.pointer (some ⟨b,0,none⟩),sl] TB (0,0))∧Keeps [b] w w'∧w'.heap.size=w.heap.size:=by
 have hc0:w.cell? ⟨b,0,none⟩=some pv:=by rw[Lib.cell_of_heap hb];rfl
 rcases hpv with rfl|rfl
 ·refine(bcheck_new (TB:=TB) b w hc0 (by simp[World.shape?,hb]) (Lib.frozen_of_heap hb 0)).mono ?_
  rintro e w' ⟨rfl,rfl⟩
  refine⟨rfl,by simp[World.setCell,Array.getElem?_modify,hb],⟨rfl,rfl,rfl,by simp[World.setCell],fun k _ hk=>Below.heap_setCell _ _ _ _ (fun e=>hk (by simp[e]))⟩,by simp[World.setCell]⟩
 ·refine(bcheck_used (TB:=TB) b w hc0).mono ?_
  rintro e w' ⟨rfl,rfl⟩
  exact⟨rfl,hb,Keeps.refl _ _,rfl⟩
theorem zfh(l s:Bs)(hlen:l.length+s.length≤1000000000)(b c:Nat)(Ao:Option Addr)(w:World)(h:(zao TB 5 b Ao c l).p w):
  Calls Tryz.prog 57 #[.pointer (some ⟨b,0,none⟩),bsv s] w fun e w'=>∃x:Option Addr×Nat,e=.returned (.tuple #[.int .i64 s.length,.nilIface])∧Mem ⟨0,zbb [zao TB 5 b Ao c l],w⟩ w' [zao TB 5 b x.1 x.2 (l++s)]:=by
 obtain⟨i0,hi,hz0,hz1,hz2⟩:=info_parts bByte
 obtain⟨hne,pv,hpv,hbk,hown⟩:=h
 obtain⟨sv,hsv⟩:∃sv,sv=Value.slice Ao l.length c:=⟨_,rfl⟩
 rw[←hsv] at hne hbk hown
 have hfin:∀k,k∈zbb [zao TB 5 b Ao c l]↔k=b∨sv.ownBlock=some k:=fun k=>by rw[zcd,hsv];exact⟨fun⟨e,he,hk⟩=>by rw[List.mem_singleton.1 he] at hk;exact hk,fun hk=>⟨_,List.mem_singleton.2 rfl,hk⟩⟩
 have hss:(⟨s.toArray⟩:ByteArray).size=s.length:=by show s.toArray.size=_;simp
 clear hsv
 unfold bsv
 go_enter Tryz.func57,Tryz.ntmps57
 go_wp2_with (go_at_call 108;refine(bcheck_fine (TB:=TB) b pv _ hpv _ hbk).mono ?_)
 rintro e w1 ⟨rfl,hbk1,hk1,hsz1⟩
 have c1:w1.cell? ⟨b,1,none⟩=some sv:=by rw[Lib.cell_of_heap hbk1];rfl
 have hown1:w1.ownsRowF 0 5 1 sv l.length (Lib.byteCells l):=zi8 hown (fun g hg=>hk1.block g (hown.lt g hg).2 (fun e=>hne (by rw[List.mem_singleton.1 e] at hg;exact hg))) (fun _ _=>Nat.zero_le _)
 go_wp2_with (at_builtin;refine zgm (P:=Tryz.prog) (w:=w1) rfl _ _ 59 9 rfl 5 i0 Tryz.underlying59 Tryz.underlying9 hi hz0 hz1 hz2 sv l.length (Lib.byteCells l) rfl hown1 ⟨s.toArray⟩ rfl ?c3 ?c4 ?_)
 case c3=>rw[hss];unfold maxLen;omega
 case c4=>rw[hss];omega
 intro v' w2 hown' hgrow hrow
 have hlt:b<w1.heap.size:=(Array.getElem?_eq_some_iff.1 hbk1).1
 have hb2:w2.heap[b]?=some (.cells #[.pointer (some ⟨b,0,none⟩),sv] TB (0,0)):=by
  rw[hgrow.block b hlt (fun e=>hne e.symm)]
  exact hbk1
 have d1:w2.cell? ⟨b,1,none⟩=some sv:=by rw[Lib.cell_of_heap hb2];rfl
 have f1:w2.frozen? ⟨b,1,none⟩=false:=Lib.frozen_of_heap hb2 1
 obtain⟨ao,cap,rfl⟩:∃ao cap,v'=.slice ao (l++s).length cap:=by
  rw[List.length_append,←hss]
  rcases hown'.2 with⟨hv,h0⟩|⟨g,cap,cur,fz,hv,_⟩
  ·refine⟨none,0,?_⟩
   rw[show l.length+(⟨s.toArray⟩:ByteArray).size=0 from h0];exact hv
  ·exact⟨_,_,hv⟩
 go_wp2
 go_ret2
 have hcs:Lib.byteCells (l++s)=Lib.byteCells l++Lib.strCells ⟨s.toArray⟩:=by
  unfold Lib.byteCells;rw[List.map_append];rfl
 rw[←hcs] at hown'
 have hown2:w2.ownsRowF 0 5 1 (.slice ao (l++s).length cap) (l++s).length (Lib.byteCells (l++s)):=by
  rw[show(l++s).length=l.length+(⟨s.toArray⟩:ByteArray).size by rw[List.length_append,hss]]
  rw[show(l++s).length=l.length+(⟨s.toArray⟩:ByteArray).size by rw[List.length_append,hss]] at hown'
  exact hown'
 have hne2:=Lib.ownBlock_neF hown2 hb2 hT.ne
 refine⟨(ao,cap),rfl,⟨⟨?_,?_,?_,?_,?_⟩,?_,List.pairwise_singleton _ _⟩⟩
 ·exact hgrow.os.trans hk1.os
 ·exact hgrow.tape.trans hk1.tape
 ·exact hgrow.output.trans hk1.output
 ·have:=hgrow.size
  simp only[World.setCell,Array.size_modify]
  omega
 ·intro k hk0 hkF
  have hk:k<w.heap.size:=hk0
  have hkb:k≠b:=fun e=>hkF ((hfin k).2 (.inl e))
  have hkr:some k≠sv.ownBlock:=fun e=>hkF ((hfin k).2 (.inr e.symm))
  rw[Below.heap_setCell _ _ _ _ hkb,hgrow.block k Zo hkr,hk1.block k hk (by simpa using hkb)]
 ·intro e he
  rw[List.mem_singleton] at he
  subst he
  refine⟨⟨hne2,_,.inr rfl,by simp[World.setCell,Array.getElem?_modify,hb2],zi8 hown2 (fun g hg=>Below.heap_setCell _ _ _ _ (fun e=>hne2 (by rw[e] at hg;exact hg))) (fun _ _=>Nat.zero_le _)⟩,fun g hg=>?_⟩
  have hs2:∀v,(w2.setCell ⟨b,1,none⟩ v).heap.size=w2.heap.size:=fun v=>by simp[World.setCell]
  rcases(show g=b∨(Value.slice ao (l++s).length cap).ownBlock=some g from hg) with rfl|hg
  ·exact⟨by rw[hs2];exact(Array.getElem?_eq_some_iff.1 hb2).1,.inl ((hfin _).2 (.inl rfl))⟩
  ·refine⟨by rw[hs2];exact(hown2.lt g hg).2,?_⟩
   rcases hrow g hg with h1|h1
   ·exact .inl ((hfin _).2 (.inr h1))
   ·exact .inr (by show w.heap.size≤g;omega)
theorem zda(l:Bs)(h0:l≠[])(b c:Nat)(A:Option Addr)(w:World)(h:(zao TB 5 b A c l).p w):
  Calls Tryz.prog 25 #[.pointer (some ⟨b,0,none⟩)] w fun e w'=>e=.returned (bsv l)∧Mem ⟨0,zbb [zao TB 5 b A c l],w⟩ w' [zao TB 5 b A c l]:=by
 obtain⟨hne,pv,hpv,hbk,hown⟩:=h
 have hl0:l.length≠0:=by simpa using h0
 obtain⟨g,cap,cur,fz,hv,hbg,hg,hfz,hnc,hcm,hcs,htake⟩:∃g cap cur fz,Value.slice A l.length c=.slice (some ⟨g,0,none⟩) l.length cap∧0≤g∧w.heap[g]?=some (.cells cur 5 fz)∧fz.2≤l.length * 1∧l.length≤cap∧cap≤maxLen∧cur.size=cap * 1∧cur.toList.take (l.length * 1)=Lib.byteCells l:=by
  rcases hown.2 with⟨_,hz⟩|⟨g,cap,cur,fz,hv,r⟩
  ·exact absurd hz hl0
  ·exact⟨g,cap,cur,fz,hv,r⟩
 cases hv
 have c1:w.drew.cell? ⟨b,1,none⟩=some (.slice (some ⟨g,0,none⟩) l.length c):=by
  have:w.drew.heap[b]?=some (.cells #[pv,.slice (some ⟨g,0,none⟩) l.length c] TB (0,0)):=hbk
  rw[Lib.cell_of_heap this];rfl
 have hSD:(Builtin.unsafeSliceData_ #[59] 118 #[.slice (some ⟨g,0,none⟩) l.length c]).run Tryz.prog w.drew=.ok (.pointer (some ⟨g,0,none⟩)) w.drew :=
  Lib.run_unsafeSliceData_row _ _ _ _ _ _ Zo
 have hUS:(Builtin.unsafeString_ #[118,3] 9 #[.pointer (some ⟨g,0,none⟩),.int .i64 l.length]).run Tryz.prog w.drew=.ok (.string ⟨l.toArray⟩) (w.drew.freeze ⟨g,0,none⟩ l.length):=by
  refine Lib.run_unsafeString_row w.drew 118 3 9 5 Tryz.underlying118 bCells g cur.size (by have hg':w.drew.heap[g]?=some (.cells cur 5 fz):=hg;simp[World.shape?,hg']) l h0 Zo (by unfold maxLen at hcm;omega) ?_
  intro j x hx
  exact hown.cells (g:=g) rfl j (.int .u8 x.toNat) (by simp[Lib.byteCells,hx])
 have hkeep:Mem ⟨0,zbb [zao TB 5 b (some ⟨g,0,none⟩) c l],w⟩ (w.drew.freeze ⟨g,0,none⟩ l.length) [zao TB 5 b (some ⟨g,0,none⟩) c l]:=by
  have hA:Lib.BuilderAtF TB 5 0 b pv (Lib.byteCells l) w.drew:=⟨Nat.zero_le _,_,hbk,by rw[Lib.byteCells_length];exact hown,hne⟩
  have hF:=hA.froze (g:=g) (cap:=c) (by rw[Lib.byteCells_length];exact c1)
  rw[Lib.byteCells_length] at hF
  have hz:(w.drew.freeze ⟨g,0,none⟩ l.length).heap.size=w.heap.size:=by
   unfold World.freeze
   split
   ·rfl
   ·simp
  have hcellF:∀k,k≠g→(w.drew.freeze ⟨g,0,none⟩ l.length).heap[k]?=w.heap[k]?:=fun k hk=>by
   unfold World.freeze
   split
   ·rfl
   ·simp only[Array.getElem?_modify]
    rw[if_neg (fun e=>hk e.symm)];rfl
  have hbg2:b≠g:=fun e=>hne (by rw[e];rfl)
  obtain⟨_,v3,h1,h2,h3⟩:=hF
  have hb3:(w.drew.freeze ⟨g,0,none⟩ l.length).heap[b]?=some (.cells #[pv,.slice (some ⟨g,0,none⟩) l.length c] TB (0,0)):=by rw[hcellF b hbg2];exact hbk
  have hv3:v3=.slice (some ⟨g,0,none⟩) l.length c:=by
   rw[hb3] at h1
   injection h1 with e1
   injection e1 with e2 _ _
   have:=congrArg (fun q:Array Value=>q[1]?) e2
   simpa using this.symm
  subst hv3
  refine⟨⟨?_,?_,?_,by show w.heap.size≤_;rw[hz];exact Nat.le_refl _,fun k hk hkF=>hcellF k (fun e=>hkF (by simp[zbb,zao,Value.ownBlock,e]))⟩,?_,List.pairwise_singleton _ _⟩
  ·unfold World.freeze;split<;>rfl
  ·unfold World.freeze;split<;>rfl
  ·unfold World.freeze;split<;>rfl
  ·intro e he
   rw[List.mem_singleton] at he
   subst he
   refine⟨⟨hne,pv,hpv,hb3,by rw[Lib.byteCells_length] at h2;exact h2⟩,fun k hk=>?_⟩
   have hkF:k∈zbb [zao TB 5 b (some ⟨g,0,none⟩) c l]:=zcd.2 ⟨_,List.mem_singleton.2 rfl,hk⟩
   refine⟨?_,.inl hkF⟩
   rw[hz]
   rcases(show k=b∨(Value.slice (some ⟨g,0,none⟩) l.length c).ownBlock=some k from hk) with rfl|hk
   ·exact(Array.getElem?_eq_some_iff.1 hbk).1
   ·exact(hown.lt k hk).2
 have mixed:Tryz.prog.follows Departure.mixedOrders=true:=by kernel_rfl
 go_enter Tryz.func25,Tryz.ntmps25
 go_wp2
 go_region_o
 all_goals(go_wp2;go_ret;exact⟨rfl,hkeep⟩)
end
end
end Go.Proofs.YtjdckepbihcgfaaGreatDoor
