/- Lemmas for the walks (TxX). No condition. -/
import Derived.Test.YtjdckepbihcgfaaGreatDoorG36
import Derived.Shelf.Vars
import Derived.Lib.LaidTab
import Derived.MakeChecks
import Derived.LaidSub
import Derived.Stop.LaidErr
set_option linter.unusedSimpArgs false
set_option linter.unusedVariables false
set_option linter.unusedSectionVars false
set_option linter.unnecessarySimpa false
set_option maxRecDepth 100000
set_option maxHeartbeats 8000000
namespace Go.Proofs.YtjdckepbihcgfaaGreatDoor
section
open Go.RowKit Go.Lib
theorem zdI{P:Program}{n nm:String}{d:DataW Unit}{r:List (String×DataW Unit)}{W:World}{g:Nat}{ti:TypeId}{ms:Array (String×TypeId)} 
  (h:laidMet P ((n,.iface nm d)::r) W) (hg:P.globalNamed n=some g) (ht:(P.globals[g]?).map (·.type)=some ti) (hi:P.underlying ti=some (.interface ms)) :
  ∃ev,W.cell? ⟨g,0,none⟩=some ev∧(ev=.nilIface∨∃te pe,ev=.iface te pe):=by
 obtain⟨ps,⟨g0,t0,cs0,f0,p0,q0,hg0,ht0,hv0,hd0,_,e0⟩,_,hrows⟩:=h
 obtain rfl:=Option.some.inj (hg.symm.trans hg0)
 obtain rfl:=Option.some.inj (ht.symm.trans ht0)
 obtain⟨l0⟩:=cs0
 obtain⟨f1,u,v,hl,_,_⟩:=iface_of_trod hi hd0
 have hl':l0=[.iface u v]:=hl
 subst hl'
 exact⟨.iface u v,by simpa using World.var?_cell hg hv0 0,.inr ⟨u,v,rfl⟩⟩
theorem pow_eq:(Rows.laid_internal_strconv_uint64pow10:DataW Unit)=tabData .u64 pow10Tab:=by kernel_rfl
theorem txW_of {W : World} (hsh : W.ShapedOpen Tryz.prog) {r r3 r4 : List (String × DataW Unit)} (hp : laidMet Tryz.prog (("internal/strconv.uint64pow10", Rows.laid_internal_strconv_uint64pow10) :: r) W) (hr : laidMet Tryz.prog (("strconv.ErrRange", Rows.laid_strconv_ErrRange) :: r3) W) (hs : laidMet Tryz.prog (("strconv.ErrSyntax", Rows.laid_strconv_ErrSyntax) :: r4) W) : TxW W := by
 rw[pow_eq] at hp
 refine⟨?_,?_,?_,?_⟩
 ·exact Go.Proofs.cell_of_shapedOpen_int (t:=3) (zero:=#[.int .i64 0]) hsh (of_decide_eq_true (by kernel_rfl)) (by kernel_rfl) rfl (by kernel_rfl) (by kernel_rfl) Tryz.underlying3
 ·exact tabIs_of_head (g:=3) (t:=283) (e:=255) (by kernel_rfl) (by kernel_rfl) Tryz.underlying283 Tryz.underlying255 (by kernel_rfl) (by kernel_rfl) hp
 ·exact zdI hs (by kernel_rfl) (by kernel_rfl) Tryz.underlying115
 ·exact zdI hr (by kernel_rfl) (by kernel_rfl) Tryz.underlying115
theorem asc_eq:(Rows.laid_strings_asciiSpace:DataW Unit)=tabData .u8 asciiSpaceTab:=by kernel_rfl
theorem txD_of {W : World} (hT : TxW W) {r2 : List (String × DataW Unit)} (ha : laidMet Tryz.prog (("strings.asciiSpace", Rows.laid_strings_asciiSpace) :: r2) W) : TxD W := by
 rw[asc_eq] at ha
 exact⟨hT,tabIs_of_head (g:=0) (t:=235) (e:=5) (by kernel_rfl) (by kernel_rfl) Tryz.underlying235 Tryz.underlying5 (by kernel_rfl) (by kernel_rfl) ha⟩
end
end Go.Proofs.YtjdckepbihcgfaaGreatDoor
