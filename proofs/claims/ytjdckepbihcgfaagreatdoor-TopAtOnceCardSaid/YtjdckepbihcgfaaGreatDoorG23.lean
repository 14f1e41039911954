/- Lemmas for the walks (TxE, TxR, TxB, TxK, TxW, Bld). No condition. -/
import Derived.Test.YtjdckepbihcgfaaGreatDoorG22
import Derived.Test.YtjdckepbihcgfaaGreatDoorG07
import Derived.Shelf.Strings.BuilderK
import Derived.Lib.UnsafeStr
import Derived.Laws.Externs
import Derived.Lib.OthersKept
import Derived.Lib.FrozenHead2
import GoSem.Claims
set_option linter.unusedSimpArgs false
set_option linter.unusedVariables false
set_option linter.unusedSectionVars false
set_option linter.unnecessarySimpa false
namespace Go.Proofs.YtjdckepbihcgfaaGreatDoor
open Go.RowKit Go.Lib
set_option linter.unusedSectionVars false

theorem splitL_part {c : UInt8} {l x : Bs} (h : x ∈ splitL c l) : x.length ≤ l.length := by
  have h1 := join_split c l
  have : ∀ (ws : List Bs), x ∈ ws → x.length ≤ (joinL c ws).length := by
    intro ws
    induction ws with
    | nil => intro hx; cases hx
    | cons a r ih =>
      intro hx
      cases r with
      | nil =>
        rcases List.mem_cons.1 hx with rfl | hx
        · exact Nat.le_refl _
        · cases hx
      | cons b r =>
        show x.length ≤ (a ++ c :: joinL c (b :: r)).length
        rw [List.length_append, List.length_cons]
        rcases List.mem_cons.1 hx with rfl | hx
        · omega
        · have := ih hx; omega
  have h2 := this _ h
  rw [h1] at h2
  exact h2
theorem eventR_3 {l : Bs} {ws : List Bs} (hws : ws = splitL 32 l) (h : ws.length = 3) : eventR l = match numR (ws.getD 0 []), numR (ws.getD 1 []), kdOf (ws.getD 2 []) with
    | some a, some b, some k => if bareB k = true then some ⟨a, b, k, 0⟩ else none
    | _, _, _ => none := by
  unfold eventR
  rw [← hws]
  rcases ws with _ | ⟨a, _ | ⟨b, _ | ⟨c, _ | ⟨d, r⟩⟩⟩⟩ <;> first | rfl | (simp at h; done) | (simp at h; omega)
theorem eventR_4 {l : Bs} {ws : List Bs} (hws : ws = splitL 32 l) (h : ws.length = 4) : eventR l = match numR (ws.getD 0 []), numR (ws.getD 1 []), kdOf (ws.getD 2 []), numR (ws.getD 3 []) with
    | some a, some b, some k, some v => if bareB k = true then none else some ⟨a, b, k, v⟩
    | _, _, _, _ => none := by
  unfold eventR
  rw [← hws]
  rcases ws with _ | ⟨a, _ | ⟨b, _ | ⟨c, _ | ⟨d, _ | ⟨e, r⟩⟩⟩⟩⟩ <;> first | rfl | (simp at h; done) | (simp at h; omega)
theorem eventR_n {l : Bs} {ws : List Bs} (hws : ws = splitL 32 l) (h : ws.length ≠ 3 ∧ ws.length ≠ 4) : eventR l = none := by
  unfold eventR
  rw [← hws]
  rcases ws with _ | ⟨a, _ | ⟨b, _ | ⟨c, _ | ⟨d, _ | ⟨e, r⟩⟩⟩⟩⟩ <;> first | rfl | (exfalso; simp at h; done) | (exfalso; simp at h; omega)
theorem txSome {o : Option Int} {x : Int} (h : o.isSome = true) (hx : ∀ v, o = some v → x = v) : o = some x := by
  cases o with
  | none => cases h
  | some v => rw [hx v rfl]
section
variable (l : Bs) (w : World) (hl : l.length ≤ 1000000) (hT : TxW w)
include hl hT
/-- what the program's reading of a line hands back beside the verdict -/
abbrev EvTo (l : Bs) := {v : Ev // ∀ u, eventR l = some u → v = u}
set_option maxRecDepth 100000 in
set_option maxHeartbeats 4000000 in
theorem textEvent_any : Calls Tryz.prog 56 #[bsv l] w fun e w' => ∃ x : EvTo l, e = .returned (.tuple #[.agg (Ev.enc x.1).toArray, .bool (eventR l).isSome]) ∧ Mem ⟨0, [], w⟩ w' [] := by
  have hne := splitL_ne 32 l
  have hsl := splitL_len 32 l
  have hpl := fun x (h : x ∈ splitL 32 l) => splitL_part h
  obtain ⟨ws, hws⟩ : ∃ ws, ws = splitL 32 l := ⟨_, rfl⟩
  have hsp := fun w h => split_any 32 l w hl h
  rw [← hws] at hne hsl hpl hsp
  refine calls_T (S := []) [] Tryz.func56 rfl Tryz.ntmps56 (by simp) (Mem.nil _) ?_
  by_cases h3 : ws.length < 3
  · have hn : eventR l = none := eventR_n hws ⟨by omega, by omega⟩
    rw [show (eventR l).isSome = false by rw [hn]; rfl]
    repeat' (first | refine GO ?_ | (refine GOE ?_; (first | rintro _ _ ⟨rfl, rfl⟩ | rintro _ _ ⟨g, rfl, rfl⟩ | rintro _ _ ⟨A', c', rfl, rfl⟩)) | (refine GO2 ?_ ?_ <;> (refine Zs ?_; intro h; try exact Zx)) | ((with_reducible (first | apply TD_e2z | apply TD_e3z | apply TL_e | apply TD_e2 | apply TD_e3)); ((with_reducible apply ES_callOwn (f := 54)); exact rfl; (intro w hw; exact hsp w (hT.carry (hw.below0 rfl))); exact rfl); (first | exact rfl | exact ⟨rfl, rfl, rfl⟩); (rintro _ _ ⟨A1, c1, rfl, rfl⟩); (try refine ⟨SUB, ?_⟩)) | fail)
    all_goals first | (exfalso; omega) | skip
    ((with_reducible apply At_retM Tryz.results56); (repeat (first | exact ResIs.nil | (apply ResIs.tmp; exact rfl) | (apply ResIs.cell; exact rfl; exact Lds.auto))); intro w' hw)
    exact ⟨⟨⟨0, 0, 0, 0⟩, fun u hu => by rw [hn] at hu; cases hu⟩, rfl, (hw.anyN 0).sel Zl⟩
  repeat' (first | refine GO ?_ | (refine GOE ?_; (first | rintro _ _ ⟨rfl, rfl⟩ | rintro _ _ ⟨g, rfl, rfl⟩ | rintro _ _ ⟨A', c', rfl, rfl⟩)) | (refine GO2 ?_ ?_ <;> (refine Zs ?_; intro h; try exact Zx)) | ((with_reducible (first | apply TD_e2z | apply TD_e3z | apply TL_e | apply TD_e2 | apply TD_e3)); ((with_reducible apply ES_callOwn (f := 54)); exact rfl; (intro w hw; exact hsp w (hT.carry (hw.below0 rfl))); exact rfl); (first | exact rfl | exact ⟨rfl, rfl, rfl⟩); (rintro _ _ ⟨A1, c1, rfl, rfl⟩); (try refine ⟨SUB, ?_⟩)) | fail)
  all_goals first | (exfalso; omega) | skip
  refine TL_fact (p := ws.length ≤ c1 ∧ (A1 = none → c1 = 0)) (fun w hw => hw.ownFacts (enc := strEnc) (M := 1) (et := 9) Zm) fun hf => ?_
  refine TL_own (enc := strEnc) (ls := ws) Zm (by omega) ?_
  rintro g1 rfl
  have hl0 := hpl ws[0] (List.getElem_mem _)
  have hl1 := hpl ws[1] (List.getElem_mem _)
  have hl2 := hpl ws[2] (List.getElem_mem _)
  repeat' (first | refine GO ?_ | (refine GOE ?_; (first | rintro _ _ ⟨rfl, rfl⟩ | rintro _ _ ⟨g, rfl, rfl⟩ | rintro _ _ ⟨A', c', rfl, rfl⟩)) | (refine GO2 ?_ ?_ <;> (refine Zs ?_; intro h; try exact Zx)) | fail)
  ((with_reducible (first | apply TD_e2z | apply TD_e3z | apply TL_e | apply TD_e2 | apply TD_e3)); ((with_reducible apply ES_callX (f := 105) (X := {n : Int // ∀ v, numR ws[0] = some v → n = v}) (S1 := []) (fun x => .tuple #[.int .i64 x.1, .bool (numR ws[0]).isSome]) (fun _ => [])); exact rfl; exact Zp; (intro x; (try dsimp only); exact Za); (intro w hw; exact number_any ws[0] w (by omega) (hT.carry (hw.below0 rfl))); exact rfl); (first | exact rfl | exact ⟨rfl, rfl, rfl⟩); (rintro _ _ ⟨⟨xa, hxa⟩, rfl, rfl⟩); (try refine ⟨SUB, ?_⟩))
  dsimp only
  repeat' (first | refine GO ?_ | (refine GOE ?_; (first | rintro _ _ ⟨rfl, rfl⟩ | rintro _ _ ⟨g, rfl, rfl⟩ | rintro _ _ ⟨A', c', rfl, rfl⟩)) | (refine GO2 ?_ ?_ <;> (refine Zs ?_; intro h; try exact Zx)) | fail)
  ((with_reducible (first | apply TD_e2z | apply TD_e3z | apply TL_e | apply TD_e2 | apply TD_e3)); ((with_reducible apply ES_callX (f := 105) (X := {n : Int // ∀ v, numR ws[1] = some v → n = v}) (S1 := []) (fun x => .tuple #[.int .i64 x.1, .bool (numR ws[1]).isSome]) (fun _ => [])); exact rfl; exact Zp; (intro x; (try dsimp only); exact Za); (intro w hw; exact number_any ws[1] w (by omega) (hT.carry (hw.below0 rfl))); exact rfl); (first | exact rfl | exact ⟨rfl, rfl, rfl⟩); (rintro _ _ ⟨⟨xb, hxb⟩, rfl, rfl⟩); (try refine ⟨SUB, ?_⟩))
  dsimp only
  have hg : ∀ i (h : i < ws.length), ws.getD i [] = ws[i] := fun i h => by simp [h]
  have hbad : (¬ (numR ws[0]).isSome = true ∨ ¬ (numR ws[1]).isSome = true ∨ idxB kindW ws[2] < 0) → eventR l = none := by
    intro hb
    by_cases e3 : ws.length = 3
    · rw [eventR_3 hws e3, hg 0 (by omega), hg 1 (by omega), hg 2 (by omega)]
      unfold kdOf
      rcases hb with hb | hb | hb
      · cases hn : numR ws[0] with
        | none => rfl
        | some v => rw [hn] at hb; exact absurd rfl hb
      · cases hn : numR ws[1] with
        | none => split <;> first | rfl | (rename_i h _; cases h)
        | some v => rw [hn] at hb; exact absurd rfl hb
      · rw [if_neg (by omega)]
        split <;> first | rfl | (rename_i h; cases h)
    by_cases e4 : ws.length = 4
    · rw [eventR_4 hws e4, hg 0 (by omega), hg 1 (by omega), hg 2 (by omega)]
      unfold kdOf
      rcases hb with hb | hb | hb
      · cases hn : numR ws[0] with
        | none => rfl
        | some v => rw [hn] at hb; exact absurd rfl hb
      · cases hn : numR ws[1] with
        | none => split <;> first | rfl | (rename_i h _ _; cases h)
        | some v => rw [hn] at hb; exact absurd rfl hb
      · rw [if_neg (by omega)]
        split <;> first | rfl | (rename_i h _; cases h)
    exact eventR_n hws ⟨e3, e4⟩
  by_cases hok : (numR ws[0]).isSome = true ∧ (numR ws[1]).isSome = true ∧ 0 ≤ idxB kindW ws[2]
  case neg =>
    have hn := hbad (by
      by_cases a : (numR ws[0]).isSome = true
      · by_cases b : (numR ws[1]).isSome = true
        · exact .inr (.inr (Int.not_le.1 fun c => hok ⟨a, b, c⟩))
        · exact .inr (.inl b)
      · exact .inl a)
    rw [show (eventR l).isSome = false by rw [hn]; rfl]
    clear hbad hg
    repeat' (first | refine GG ?_ | (refine GE ?_; (first | rintro _ _ ⟨rfl, rfl⟩ | rintro _ _ ⟨g, rfl, rfl⟩ | rintro _ _ ⟨A', c', rfl, rfl⟩); (try refine ⟨SUB, ?_⟩)) | (refine GO2 ?_ ?_ <;> (refine Zs ?_; intro h; try exact Zx)) | refine GOF ?_ ?_ | ((with_reducible apply T_draw (id := 6) 9 (OT.seq [(0, 0), (0, 1), (0, 3), (0, 4), (1, 5)] (.fork (OT.seq [(2, 2)] (.fork (OT.seq [(2, 6), (0, 7), (2, 8), (3, 9)] .nil) (OT.seq [(2, 8), (2, 6), (0, 7), (3, 9)] .nil))) (OT.seq [(2, 8), (2, 2), (2, 6), (0, 7), (3, 9)] .nil)))); kernel_rfl; exact rfl; kernel_rfl; (repeat (first | with_reducible exact Blind.body | with_reducible apply Blind.seq | with_reducible apply Blind.block))) | ((with_reducible (first | apply TD_e2z | apply TD_e3z | apply TL_e | apply TD_e2 | apply TD_e3)); ((with_reducible apply ES_callOwn (f := 106)); exact rfl; (intro w hw; exact kindWords_any w); exact rfl); (first | exact rfl | exact ⟨rfl, rfl, rfl⟩); (rintro _ _ ⟨A2, c2, rfl, rfl⟩); (try refine ⟨SUB, ?_⟩)) | ((with_reducible (first | apply TD_e2z | apply TD_e3z | apply TL_e | apply TD_e2 | apply TD_e3)); ((with_reducible apply ES_callV (f := 103)); exact rfl; (intro w hw; exact indexS_any A2 c2 kindW ws[2] w (by decide) (hw.ownRd Zm (fun _ => rfl))); exact rfl); (first | exact rfl | exact ⟨rfl, rfl, rfl⟩); (rintro _ _ ⟨rfl, rfl⟩); (try refine ⟨SUB, ?_⟩)) | fail)
    all_goals first
      | (exfalso; exact hok ⟨by assumption, by assumption, by assumption⟩)
      | skip
    all_goals
      repeat' (first | refine GO ?_ | (refine GOE ?_; (first | rintro _ _ ⟨rfl, rfl⟩ | rintro _ _ ⟨g, rfl, rfl⟩ | rintro _ _ ⟨A', c', rfl, rfl⟩)) | (refine GO2 ?_ ?_ <;> (refine Zs ?_; intro h; try exact Zx)) | fail)
    all_goals
      ((with_reducible apply At_retM Tryz.results56); (repeat (first | exact ResIs.nil | (apply ResIs.tmp; exact rfl) | (apply ResIs.cell; exact rfl; exact Lds.auto))); intro w' hw)
      exact ⟨⟨⟨0, 0, 0, 0⟩, fun u hu => by rw [hn] at hu; cases hu⟩, rfl, (hw.anyN 0).sel Zl⟩
  have hn0 := txSome hok.1 hxa
  have hn1 := txSome hok.2.1 hxb
  obtain ⟨ix, hxe⟩ : ∃ ix, ix = idxB kindW ws[2] := ⟨_, rfl⟩
  have hk : kdOf ws[2] = some ix := by rw [hxe]; exact if_pos hok.2.2
  have he3 : ws.length = 3 → eventR l = if bareB ix = true then some ⟨xa, xb, ix, 0⟩ else none := fun e3 => by
    rw [eventR_3 hws e3, hg 0 (by omega), hg 1 (by omega), hg 2 (by omega), hn0, hn1, hk]
  have he4 : ∀ (e4 : ws.length = 4), eventR l = match numR ws[3] with | some v => if bareB ix = true then none else some ⟨xa, xb, ix, v⟩ | none => none := fun e4 => by
    rw [eventR_4 hws e4, hg 0 (by omega), hg 1 (by omega), hg 2 (by omega), hg 3 (by omega), hn0, hn1, hk]
    cases numR ws[3] <;> rfl
  have hen : ws.length ≠ 3 ∧ ws.length ≠ 4 → eventR l = none := eventR_n hws
  have hb0 : ¬ (numR ws[0]).isSome = false := by rw [hok.1]; decide
  have hb1 : ¬ (numR ws[1]).isSome = false := by rw [hok.2.1]; decide
  have hb2 := hok.2.2
  have hix := fun A c w h => indexS_any A c kindW ws[2] w (by decide) h
  rw [← hxe] at hb2 hix
  clear hbad hg hws hok
  rw [hn0, hn1, show (some xa).isSome = true from rfl, show (some xb).isSome = true from rfl]
  clear hxe
  repeat' (first | refine GG ?_ | (refine GE ?_; (first | rintro _ _ ⟨rfl, rfl⟩ | rintro _ _ ⟨g, rfl, rfl⟩ | rintro _ _ ⟨A', c', rfl, rfl⟩); (try refine ⟨SUB, ?_⟩)) | (refine GO2 ?_ ?_ <;> (refine Zs ?_; intro h; try exact Zx)) | refine GOF ?_ ?_ | ((with_reducible apply T_draw (id := 6) 9 (OT.seq [(0, 0), (0, 1), (0, 3), (0, 4), (1, 5)] (.fork (OT.seq [(2, 2)] (.fork (OT.seq [(2, 6), (0, 7), (2, 8), (3, 9)] .nil) (OT.seq [(2, 8), (2, 6), (0, 7), (3, 9)] .nil))) (OT.seq [(2, 8), (2, 2), (2, 6), (0, 7), (3, 9)] .nil)))); kernel_rfl; exact rfl; kernel_rfl; (repeat (first | with_reducible exact Blind.body | with_reducible apply Blind.seq | with_reducible apply Blind.block))) | ((with_reducible (first | apply TD_e2z | apply TD_e3z | apply TL_e | apply TD_e2 | apply TD_e3)); ((with_reducible apply ES_callOwn (f := 106)); exact rfl; (intro w hw; exact kindWords_any w); exact rfl); (first | exact rfl | exact ⟨rfl, rfl, rfl⟩); (rintro _ _ ⟨A2, c2, rfl, rfl⟩); (try refine ⟨SUB, ?_⟩)) | ((with_reducible (first | apply TD_e2z | apply TD_e3z | apply TL_e | apply TD_e2 | apply TD_e3)); ((with_reducible apply ES_callV (f := 103)); exact rfl; (intro w hw; exact hix A2 c2 w (hw.ownRd Zm (fun _ => rfl))); exact rfl); (first | exact rfl | exact ⟨rfl, rfl, rfl⟩); (rintro _ _ ⟨rfl, rfl⟩); (try refine ⟨SUB, ?_⟩)) | ((with_reducible (first | apply TD_e2z | apply TD_e3z | apply TL_e | apply TD_e2 | apply TD_e3)); ((with_reducible apply ES_callV (f := 107)); exact rfl; (intro w hw; exact bare_any _ w); exact rfl); (first | exact rfl | exact ⟨rfl, rfl, rfl⟩); (rintro _ _ ⟨rfl, rfl⟩); (try refine ⟨SUB, ?_⟩)) | fail)
  all_goals first | (exfalso; omega) | skip
  all_goals first
    | (have hB : bareB ix = true := by assumption
       repeat' (first | refine GO ?_ | (refine GOE ?_; (first | rintro _ _ ⟨rfl, rfl⟩ | rintro _ _ ⟨g, rfl, rfl⟩ | rintro _ _ ⟨A', c', rfl, rfl⟩)) | (refine GO2 ?_ ?_ <;> (refine Zs ?_; intro h; try exact Zx)) | fail)
       ((with_reducible apply At_retM Tryz.results56); (repeat (first | exact ResIs.nil | (apply ResIs.tmp; exact rfl) | (apply ResIs.cell; exact rfl; exact Lds.auto))); intro w' hw)
       have hR : eventR l = if ws.length = 3 then some ⟨xa, xb, ix, 0⟩ else none := by
         by_cases e3 : ws.length = 3
         · rw [he3 e3, if_pos hB, if_pos e3]
         · rw [if_neg e3]
           by_cases e4 : ws.length = 4
           · rw [he4 e4]
             cases numR ws[3] with
             | none => rfl
             | some v => exact if_pos hB
           · exact hen ⟨e3, e4⟩
       refine ⟨⟨⟨xa, xb, ix, 0⟩, fun u hu => ?_⟩, ?_, (hw.anyN 0).sel Zl⟩
       · rw [hR] at hu
         split at hu
         · exact Option.some.inj hu
         · cases hu
       · have hS : (eventR l).isSome = decide ((ws.length : Int) = 3) := by
           rw [hR]
           by_cases e3 : ws.length = 3
           · rw [if_pos e3, decide_eq_true (by omega)]; rfl
           · rw [if_neg e3, decide_eq_false (by omega)]; rfl
         rw [hS]; rfl)
    | (have h4 : ws.length ≠ 4 := by omega
       have hB : bareB ix = false := by assumption
       repeat' (first | refine GO ?_ | (refine GOE ?_; (first | rintro _ _ ⟨rfl, rfl⟩ | rintro _ _ ⟨g, rfl, rfl⟩ | rintro _ _ ⟨A', c', rfl, rfl⟩)) | (refine GO2 ?_ ?_ <;> (refine Zs ?_; intro h; try exact Zx)) | fail)
       ((with_reducible apply At_retM Tryz.results56); (repeat (first | exact ResIs.nil | (apply ResIs.tmp; exact rfl) | (apply ResIs.cell; exact rfl; exact Lds.auto))); intro w' hw)
       have hR : eventR l = none := by
         by_cases e3 : ws.length = 3
         · rw [he3 e3, hB]; rfl
         · exact hen ⟨e3, h4⟩
       refine ⟨⟨⟨0, 0, 0, 0⟩, fun u hu => by rw [hR] at hu; cases hu⟩, ?_, (hw.anyN 0).sel Zl⟩
       rw [show (eventR l).isSome = false by rw [hR]; rfl]; rfl)
    | skip
  all_goals
    have h4 : ws.length = 4 := by omega
    have hB : bareB ix = false := by assumption
    have hl3 := hpl ws[3] (List.getElem_mem _)
    have hR := he4 h4
    rw [hB] at hR
    ((with_reducible (first | apply TD_e2z | apply TD_e3z | apply TL_e | apply TD_e2 | apply TD_e3)); ((with_reducible apply ES_callX (f := 105) (X := {n : Int // ∀ v, numR ws[3] = some v → n = v}) (S1 := []) (fun x => .tuple #[.int .i64 x.1, .bool (numR ws[3]).isSome]) (fun _ => [])); exact rfl; exact Zp; (intro x; (try dsimp only); exact Za); (intro w hw; exact number_any ws[3] w (by omega) (hT.carry (hw.below0 rfl))); exact rfl); (first | exact rfl | exact ⟨rfl, rfl, rfl⟩); (rintro _ _ ⟨⟨xv, hxv⟩, rfl, rfl⟩); (try refine ⟨SUB, ?_⟩))
    dsimp only
    repeat' (first | refine GO ?_ | (refine GOE ?_; (first | rintro _ _ ⟨rfl, rfl⟩ | rintro _ _ ⟨g, rfl, rfl⟩ | rintro _ _ ⟨A', c', rfl, rfl⟩)) | (refine GO2 ?_ ?_ <;> (refine Zs ?_; intro h; try exact Zx)) | fail)
    ((with_reducible apply At_retM Tryz.results56); (repeat (first | exact ResIs.nil | (apply ResIs.tmp; exact rfl) | (apply ResIs.cell; exact rfl; exact Lds.auto))); intro w' hw)
    refine ⟨⟨⟨xa, xb, ix, xv⟩, fun u hu => ?_⟩, ?_, (hw.anyN 0).sel Zl⟩
    · rw [hR] at hu
      split at hu
      · rename_i v hv
        rw [← hxv v hv] at hu
        exact Option.some.inj hu
      · cases hu
    · have hS : (eventR l).isSome = (numR ws[3]).isSome := by
        rw [hR]
        cases numR ws[3] <;> rfl
      rw [hS]; rfl
end
end Go.Proofs.YtjdckepbihcgfaaGreatDoor

namespace Go.Proofs.YtjdckepbihcgfaaGreatDoor
open Go.RowKit Go.Lib
set_option linter.unusedSectionVars false

def badLine (ls : List Bs) : Option Nat := (List.range ls.length).find? fun i => !lineOkB ls i
def readR (l : Bs) : List Int × List Ev × Int × Int :=
  if 8192 < l.length then ([], [], 0, 2) else
  match badLine (splitL 10 l) with
  | some i => ([], [], (i : Int), 7)
  | none =>
    if (callsR (tysK (splitL 10 l)) (evsK (splitL 10 l) ((splitL 10 l).length - 1))).2.2 = 2 then ([], [], 0, 2)
    else if (callsR (tysK (splitL 10 l)) (evsK (splitL 10 l) ((splitL 10 l).length - 1))).2.2 ≠ 0 then ([], [], (callsR (tysK (splitL 10 l)) (evsK (splitL 10 l) ((splitL 10 l).length - 1))).2.1 + 1, (callsR (tysK (splitL 10 l)) (evsK (splitL 10 l) ((splitL 10 l).length - 1))).2.2)
    else (tysK (splitL 10 l), evsK (splitL 10 l) ((splitL 10 l).length - 1), 0, 0)
theorem badLine_none {ls : List Bs} (h : ∀ i, i < ls.length → lineOkB ls i = true) : badLine ls = none := by
  unfold badLine
  rw [List.find?_eq_none]
  intro i hi
  rw [h i (List.mem_range.1 hi)]; decide
theorem badLine_some {ls : List Bs} {k : Nat} (hk : k < ls.length) (h : ∀ i, i < k → lineOkB ls i = true) (h1 : lineOkB ls k = false) : badLine ls = some k := by
  unfold badLine
  refine List.find?_range_eq_some.2 ⟨by rw [h1]; rfl, List.mem_range.2 hk, fun j hj => ?_⟩
  rw [h j hj]; rfl
theorem callsR_y (ts : List Int) (l : List Ev) : 0 ≤ (callsR ts l).2.1 ∧ (callsR ts l).2.1 ≤ l.length := by
  unfold callsR
  split
  · exact ⟨Int.le_refl _, by show (0 : Int) ≤ _; omega⟩
  · split
    · exact ⟨Int.le_refl _, by show (0 : Int) ≤ _; omega⟩
    · split
      · exact ⟨by show (0 : Int) ≤ ((failR ts l : Nat) : Int); omega, by show ((failR ts l : Nat) : Int) ≤ _; omega⟩
      · exact ⟨Int.le_refl _, by show (0 : Int) ≤ _; omega⟩
/-- the types, the events behind k lines -/
def tyAt (ls : List Bs) (k : Nat) : List Int := if k = 0 then [] else tysK ls
def evAt (ls : List Bs) (k : Nat) : List Ev := evsK ls (min k (ls.length - 1))
section
variable {P : Program} {C : Ctx} {E : Slots} {S : List Ent} {s ty : Nat} {x : Operand}
theorem QS_lenStr {l : Bs} (hs : P.underlying s = some .string) (hx : evo E x = some (bsv l)) : QS P C E S (.call ⟨.builtin .len, #[x], #[s]⟩) ty (.int .i64 l.length) :=
  QS.of (fun a w ha _ => by
    have hr : (Builtin.len_ #[s] ty #[bsv l]).run P w = .ok (goInt l.length) w := by
      unfold bsv
      simp [Builtin.len_, run_underlying hs]; rfl
    simp [execOp, resolve, invoke, builtin, ha.evo hx, hr, goInt])
end
section
variable (l : Bs) (w : World) (hl : l.length ≤ 9223372036854775807) (hT : TxW w)
include hl hT
set_option maxRecDepth 100000 in
set_option maxHeartbeats 4000000 in
theorem textRead_any : Calls Tryz.prog 23 #[bsv l] w fun e w' => ∃ x : (Option Addr × Nat) × (Option Addr × Nat), e = .returned (.tuple #[.slice x.1.1 (readR l).1.length x.1.2, .slice x.2.1 (readR l).2.1.length x.2.2, .int .i64 (readR l).2.2.1, .int .i64 (readR l).2.2.2]) ∧ Mem ⟨0, [], w⟩ w' [entOwn intEnc 1 3 x.1.1 x.1.2 (readR l).1, entOwn Ev.enc 4 95 x.2.1 x.2.2 (readR l).2.1] := by
  refine calls_T (S := []) [] Tryz.func23 rfl Tryz.ntmps23 (by simp) (Mem.nil _) ?_
  by_cases h8 : 8192 < l.length
  · rw [show readR l = ([], [], 0, 2) from if_pos h8]
    repeat' (first | ((first | with_reducible (first | apply TL_q | apply TD_q0 | apply TD_q1 | apply TD_q2 | apply TD_q3) | ((with_reducible (first | apply TD_q0y | apply TD_q1y)); exact rfl; exact rfl; (with_reducible exact rfl))); (first | ((with_reducible apply QS_lenStr Tryz.underlying9); exact rfl) | ((with_reducible apply QS_eqlBs (b := [])); exact rfl; exact rfl) | exact QS.auto); exact rfl) | refine GO ?_ | (refine GOE ?_; (first | rintro _ _ ⟨rfl, rfl⟩ | rintro _ _ ⟨g, rfl, rfl⟩ | rintro _ _ ⟨A', c', rfl, rfl⟩)) | (refine GO2 ?_ ?_ <;> (refine Zs ?_; intro h; try exact Zx)) | fail)
    all_goals first | (exfalso; omega) | skip
    (refine At_ret Tryz.results23 rfl (fun w' hw => ?_))
    exact ⟨((none, 0), (none, 0)), rfl, (((hw.nilOwn Ev.enc 4 95).nilOwn intEnc 1 3).anyN 0).sel Zl⟩
  have hR : readR l = match badLine (splitL 10 l) with
    | some i => ([], [], (i : Int), 7)
    | none =>
      if (callsR (tysK (splitL 10 l)) (evsK (splitL 10 l) ((splitL 10 l).length - 1))).2.2 = 2 then ([], [], 0, 2)
      else if (callsR (tysK (splitL 10 l)) (evsK (splitL 10 l) ((splitL 10 l).length - 1))).2.2 ≠ 0 then ([], [], (callsR (tysK (splitL 10 l)) (evsK (splitL 10 l) ((splitL 10 l).length - 1))).2.1 + 1, (callsR (tysK (splitL 10 l)) (evsK (splitL 10 l) ((splitL 10 l).length - 1))).2.2)
      else (tysK (splitL 10 l), evsK (splitL 10 l) ((splitL 10 l).length - 1), 0, 0) := if_neg h8
  have hne := splitL_ne 10 l
  have hsl := splitL_len 10 l
  have hpl := fun x (h : x ∈ splitL 10 l) => splitL_part h
  have hsp := fun w h => split_any 10 l w (by omega) h
  obtain ⟨ls, hls⟩ : ∃ ls, ls = splitL 10 l := ⟨_, rfl⟩
  rw [← hls] at hne hsl hpl hsp hR
  clear hls
  have hpos : 0 < ls.length := by
    rcases hx : ls with _ | ⟨a, b⟩
    · exact absurd hx hne
    · simp
  repeat' (first | ((first | with_reducible (first | apply TL_q | apply TD_q0 | apply TD_q1 | apply TD_q2 | apply TD_q3) | ((with_reducible (first | apply TD_q0y | apply TD_q1y)); exact rfl; exact rfl; (with_reducible exact rfl))); (first | ((with_reducible apply QS_lenStr Tryz.underlying9); exact rfl) | ((with_reducible apply QS_eqlBs (b := [])); exact rfl; exact rfl) | exact QS.auto); exact rfl) | refine GO ?_ | (refine GOE ?_; (first | rintro _ _ ⟨rfl, rfl⟩ | rintro _ _ ⟨g, rfl, rfl⟩ | rintro _ _ ⟨A', c', rfl, rfl⟩)) | (refine GO2 ?_ ?_ <;> (refine Zs ?_; intro h; try exact Zx)) | ((with_reducible (first | apply TD_e2z | apply TD_e3z | apply TL_e | apply TD_e2 | apply TD_e3)); ((with_reducible apply ES_callOwn (f := 54)); exact rfl; (intro w hw; exact hsp w (hT.carry (hw.below0 rfl))); exact rfl); (first | exact rfl | exact ⟨rfl, rfl, rfl⟩); (rintro _ _ ⟨A1, c1, rfl, rfl⟩); (try refine ⟨SUB, ?_⟩)) | fail)
  all_goals first | (exfalso; omega) | skip
  refine T_fact (p := ls.length ≤ c1 ∧ (A1 = none → c1 = 0)) (fun w hw => hw.ownFacts (enc := strEnc) (M := 1) (et := 9) Zm) fun hf => ?_
  refine T_own (enc := strEnc) (ls := ls) Zm (by omega) ?_
  rintro g1 rfl
  refine T_loop (X := Nat × (Option Addr × Nat) × (Option Addr × Nat)) (fun x => [(27, .int .i64 (x.1 : Nat)), (26, .int .i64 (ls.length : Nat)), (25, .slice (some ⟨g1, 0, none⟩) ls.length c1), (7, .int .i64 ((ls.length : Nat) - 1 : Int)), (8, .slice x.2.1.1 (tyAt ls x.1).length x.2.1.2), (9, .slice x.2.2.1 (evAt ls x.1).length x.2.2.2)]) (fun x => [entOwn intEnc 1 3 x.2.1.1 x.2.1.2 (tyAt ls x.1), entOwn Ev.enc 4 95 x.2.2.1 x.2.2.2 (evAt ls x.1), entOwn strEnc 1 9 (some ⟨g1, 0, none⟩) c1 ls])
    (fun x => x.1 ≤ ls.length ∧ ∀ i, i < x.1 → lineOkB ls i = true) (fun x => ls.length - x.1) (0, (none, 0), (none, 0)) ⟨by (try dsimp only); omega, fun i h => absurd h (Nat.not_lt_zero _)⟩ (by (try dsimp only); exact Ze) (fun w' hw => by (show Mem _ w' [entOwn intEnc 1 3 none 0 [], entOwn Ev.enc 4 95 none 0 [], entOwn strEnc 1 9 (some ⟨g1, 0, none⟩) c1 ls]); exact ((hw.nilOwn Ev.enc 4 95).nilOwn intEnc 1 3).sel Zl) ?_
  rintro ⟨k, ⟨A3, c3⟩, ⟨A4, c4⟩⟩ ⟨hk, hok⟩
  dsimp only at hk hok ⊢
  by_cases hkl : k < ls.length
  · have hlk : lnK ls k = ls[k] := by unfold lnK; simp [hkl]
    have hpk := hpl ls[k] (List.getElem_mem _)
    have hbad : lineOkB ls k = false → readR l = ([], [], (k : Int), 7) := fun h => by rw [hR, badLine_some hkl hok h]
    have hnx : lineOkB ls k = true → ∀ i, i < k + 1 → lineOkB ls i = true := fun h i hi => by
      rcases Nat.lt_succ_iff_lt_or_eq.1 hi with h1 | rfl
      · exact hok i h1
      · exact h
    have hlo : lineOkB ls k = if k + 1 = ls.length then decide (ls[k] = [] ∧ 0 < k) else if k = 0 then (thingsR ls[k]).isSome else (eventR ls[k]).isSome := by
      unfold lineOkB
      rw [hlk]
      by_cases e0 : k = 0
      · subst e0; rw [hlk]
      · rw [if_neg e0, if_neg e0]
    clear hR hok
    by_cases hlast : k + 1 = ls.length
    · rw [if_pos hlast] at hlo
      have hek : evAt ls (k + 1) = evAt ls k := by
        unfold evAt
        rw [show min (k + 1) (ls.length - 1) = min k (ls.length - 1) by omega]
      have htk : 0 < k → tyAt ls (k + 1) = tyAt ls k := fun h => by unfold tyAt; rw [if_neg (by omega), if_neg (by omega)]
      by_cases hemp : ls[k] = [] ∧ 0 < k
      · rw [decide_eq_true hemp] at hlo
        have htk := htk hemp.2
        have hnx := hnx hlo
        clear hlo hbad
        generalize evAt ls k = E at *
        generalize tyAt ls k = K at *
        repeat' (first | ((first | with_reducible (first | apply TL_q | apply TD_q0 | apply TD_q1 | apply TD_q2 | apply TD_q3) | ((with_reducible (first | apply TD_q0y | apply TD_q1y)); exact rfl; exact rfl; (with_reducible exact rfl))); (first | ((with_reducible apply QS_lenStr Tryz.underlying9); exact rfl) | ((with_reducible apply QS_eqlBs (b := [])); exact rfl; exact rfl) | exact QS.auto); exact rfl) | refine GO ?_ | (refine GOE ?_; (first | rintro _ _ ⟨rfl, rfl⟩ | rintro _ _ ⟨g, rfl, rfl⟩ | rintro _ _ ⟨A', c', rfl, rfl⟩)) | (refine GO2 ?_ ?_ <;> (refine Zs ?_; intro h; try exact Zx)) | fail)
        all_goals first | (exfalso; omega) | (exfalso; exact (by assumption : ¬ ls[k] = []) hemp.1) | (exfalso; have h0 : decide (ls[k] = []) = false := (by assumption); rw [decide_eq_true hemp.1] at h0; cases h0) | skip
        all_goals
          apply At_rounds (k + 1, (A3, c3), (A4, c4))
          (case hE => (try dsimp only); rw [hek, htk]; exact Ze)
          (case hS => (try dsimp only); rw [hek, htk]; exact fun w' hw => hw.sel Zl)
          (case hμ => (try dsimp only); omega)
          (case hp => exact ⟨by (try dsimp only); omega, hnx⟩)
      · rw [decide_eq_false hemp] at hlo
        have hbad := hbad hlo
        have hemp' : ls[k] = [] → ¬ 0 < k := fun a b => hemp ⟨a, b⟩
        clear hlo hnx htk hek
        generalize evAt ls k = E at *
        generalize tyAt ls k = K at *
        repeat' (first | ((first | with_reducible (first | apply TL_q | apply TD_q0 | apply TD_q1 | apply TD_q2 | apply TD_q3) | ((with_reducible (first | apply TD_q0y | apply TD_q1y)); exact rfl; exact rfl; (with_reducible exact rfl))); (first | ((with_reducible apply QS_lenStr Tryz.underlying9); exact rfl) | ((with_reducible apply QS_eqlBs (b := [])); exact rfl; exact rfl) | exact QS.auto); exact rfl) | refine GO ?_ | (refine GOE ?_; (first | rintro _ _ ⟨rfl, rfl⟩ | rintro _ _ ⟨g, rfl, rfl⟩ | rintro _ _ ⟨A', c', rfl, rfl⟩)) | (refine GO2 ?_ ?_ <;> (refine Zs ?_; intro h; try exact Zx)) | fail)
        all_goals first | (exfalso; omega) | (exfalso; exact hemp' (by assumption) (by omega)) | (exfalso; exact hemp' (of_decide_eq_true (by assumption)) (by omega)) | skip
        all_goals
          (refine At_ret Tryz.results23 rfl (fun w' hw => ?_))
          rw [hbad]
          exact ⟨((none, 0), (none, 0)), rfl, (((hw.nilOwn Ev.enc 4 95).nilOwn intEnc 1 3).anyN 0).sel Zl⟩
    by_cases hk0 : k = 0
    · rw [if_neg hlast, if_pos hk0] at hlo
      have htk : tyAt ls (k + 1) = (thingsR ls[k]).getD [] := by
        unfold tyAt tysK
        rw [if_neg (by omega), ← hlk, hk0]
      have hek : evAt ls (k + 1) = evAt ls k := by
        unfold evAt
        rw [hk0, show min (0 + 1) (ls.length - 1) = 1 by omega, show min 0 (ls.length - 1) = 0 by omega]; rfl
      generalize evAt ls k = E at *
      generalize tyAt ls k = K at *
      repeat' (first | ((first | with_reducible (first | apply TL_q | apply TD_q0 | apply TD_q1 | apply TD_q2 | apply TD_q3) | ((with_reducible (first | apply TD_q0y | apply TD_q1y)); exact rfl; exact rfl; (with_reducible exact rfl))); (first | ((with_reducible apply QS_lenStr Tryz.underlying9); exact rfl) | ((with_reducible apply QS_eqlBs (b := [])); exact rfl; exact rfl) | exact QS.auto); exact rfl) | refine GO ?_ | (refine GOE ?_; (first | rintro _ _ ⟨rfl, rfl⟩ | rintro _ _ ⟨g, rfl, rfl⟩ | rintro _ _ ⟨A', c', rfl, rfl⟩)) | (refine GO2 ?_ ?_ <;> (refine Zs ?_; intro h; try exact Zx)) | ((with_reducible (first | apply TD_e2z | apply TD_e3z | apply TL_e | apply TD_e2 | apply TD_e3)); ((with_reducible apply ES_callOwn (f := 55)); exact rfl; (intro w hw; exact things_any ls[k] w (by omega) (hT.carry (hw.below0 rfl))); exact rfl); (first | exact rfl | exact ⟨rfl, rfl, rfl⟩); (rintro _ _ ⟨A2, c2, rfl, rfl⟩); (try refine ⟨SUB, ?_⟩)) | fail)
      all_goals first | (exfalso; omega) | skip
      all_goals first
        | (have hb : (thingsR ls[k]).isSome = false := by assumption
           (refine At_ret Tryz.results23 rfl (fun w' hw => ?_))
           rw [hbad (by rw [hlo]; exact hb)]
           exact ⟨((none, 0), (none, 0)), rfl, (((hw.nilOwn Ev.enc 4 95).nilOwn intEnc 1 3).anyN 0).sel Zl⟩)
        | (have hg : (thingsR ls[k]).isSome = true := by assumption
           apply At_rounds (k + 1, (A2, c2), (A4, c4))
           (case hE => (try dsimp only); rw [hek, htk]; exact Ze)
           (case hS => (try dsimp only); rw [hek, htk]; exact fun w' hw => hw.sel Zl)
           (case hμ => (try dsimp only); omega)
           (case hp => exact ⟨by (try dsimp only); omega, hnx (by rw [hlo]; exact hg)⟩))
    · rw [if_neg hlast, if_neg hk0] at hlo
      have htk : tyAt ls (k + 1) = tyAt ls k := by unfold tyAt; rw [if_neg (by omega), if_neg hk0]
      have hek : evAt ls (k + 1) = evAt ls k ++ [(eventR ls[k]).getD ⟨0, 0, 0, 0⟩] := by
        unfold evAt
        obtain ⟨j, rfl⟩ : ∃ j, k = j + 1 := ⟨k - 1, by omega⟩
        rw [show min (j + 1 + 1) (ls.length - 1) = j + 2 by omega, show min (j + 1) (ls.length - 1) = j + 1 by omega, evsK_succ, hlk]
      have hel : (evAt ls k).length ≤ 8192 := by unfold evAt; rw [evsK_len]; omega
      generalize evAt ls k = E at *
      generalize tyAt ls k = K at *
      repeat' (first | ((first | with_reducible (first | apply TL_q | apply TD_q0 | apply TD_q1 | apply TD_q2 | apply TD_q3) | ((with_reducible (first | apply TD_q0y | apply TD_q1y)); exact rfl; exact rfl; (with_reducible exact rfl))); (first | ((with_reducible apply QS_lenStr Tryz.underlying9); exact rfl) | ((with_reducible apply QS_eqlBs (b := [])); exact rfl; exact rfl) | exact QS.auto); exact rfl) | refine GO ?_ | (refine GOE ?_; (first | rintro _ _ ⟨rfl, rfl⟩ | rintro _ _ ⟨g, rfl, rfl⟩ | rintro _ _ ⟨A', c', rfl, rfl⟩)) | (refine GO2 ?_ ?_ <;> (refine Zs ?_; intro h; try exact Zx)) | fail)
      all_goals first | (exfalso; omega) | skip
      ((with_reducible (first | apply TD_e2z | apply TD_e3z | apply TL_e | apply TD_e2 | apply TD_e3)); ((with_reducible apply ES_callX (f := 56) (X := EvTo ls[k]) (S1 := []) (fun x => .tuple #[.agg (Ev.enc x.1).toArray, .bool (eventR ls[k]).isSome]) (fun _ => [])); exact rfl; exact Zp; (intro x; (try dsimp only); exact Za); (intro w hw; exact textEvent_any ls[k] w (by omega) (hT.carry (hw.below0 rfl))); exact rfl); (first | exact rfl | exact ⟨rfl, rfl, rfl⟩); (rintro _ _ ⟨⟨xe, hxe⟩, rfl, rfl⟩); (try refine ⟨SUB, ?_⟩))
      have hxs : (eventR ls[k]).isSome = true → (eventR ls[k]).getD ⟨0, 0, 0, 0⟩ = xe := fun h => by
        obtain ⟨u, hu⟩ := Option.isSome_iff_exists.1 h
        exact (congrArg (·.getD ⟨0, 0, 0, 0⟩) hu).trans (hxe u hu).symm
      repeat' (first | ((first | with_reducible (first | apply TL_q | apply TD_q0 | apply TD_q1 | apply TD_q2 | apply TD_q3) | ((with_reducible (first | apply TD_q0y | apply TD_q1y)); exact rfl; exact rfl; (with_reducible exact rfl))); (first | ((with_reducible apply QS_lenStr Tryz.underlying9); exact rfl) | ((with_reducible apply QS_eqlBs (b := [])); exact rfl; exact rfl) | exact QS.auto); exact rfl) | refine GO ?_ | (refine GOE ?_; (first | rintro _ _ ⟨rfl, rfl⟩ | rintro _ _ ⟨g, rfl, rfl⟩ | rintro _ _ ⟨A', c', rfl, rfl⟩)) | (refine GO2 ?_ ?_ <;> (refine Zs ?_; intro h; try exact Zx)) | ((with_reducible (first | apply TD_e2z | apply TD_e3z | apply TL_e | apply TD_e2 | apply TD_e3)); ((with_reducible apply ES_append1 (enc := Ev.enc) (xx := xe)); exact rfl; exact rfl; (repeat (first | with_reducible exact List.mem_cons_self | with_reducible apply List.mem_cons_of_mem)); exact rfl; exact fun _ => rfl; exact fun _ => rfl; (intro A' c'; first | ((repeat (first | with_reducible exact Upd.here _ _ _ | with_reducible apply Upd.there)); done) | (repeat (first | exact Upd.here _ _ _ | apply Upd.there))); (omega); decide; exact rfl); (first | exact rfl | exact ⟨rfl, rfl, rfl⟩); (rintro _ _ ⟨A', c', rfl, rfl⟩); (try refine ⟨SUB, ?_⟩)) | fail)
      all_goals first
        | (have hb : (eventR ls[k]).isSome = false := by assumption
           (refine At_ret Tryz.results23 rfl (fun w' hw => ?_))
           rw [hbad (by rw [hlo]; exact hb)]
           exact ⟨((none, 0), (none, 0)), rfl, (((hw.nilOwn Ev.enc 4 95).nilOwn intEnc 1 3).anyN 0).sel Zl⟩)
        | (have hg : (eventR ls[k]).isSome = true := by assumption
           rw [hxs hg] at hek
           apply At_rounds (k + 1, (A3, c3), (A', c'))
           (case hE => (try dsimp only); rw [hek, htk]; exact Ze)
           (case hS => (try dsimp only); rw [hek, htk]; exact fun w' hw => hw.sel Zl)
           (case hμ => (try dsimp only); omega)
           (case hp => exact ⟨by (try dsimp only); omega, hnx (by rw [hlo]; exact hg)⟩))
  · obtain rfl : k = ls.length := by omega
    have h2 : 2 ≤ ls.length := by
      have h0 := hok (ls.length - 1) (by omega)
      unfold lineOkB at h0
      rw [if_pos (by omega)] at h0
      have := (of_decide_eq_true h0).2
      omega
    have hye := callsR_y (tysK ls) (evsK ls (ls.length - 1))
    rw [badLine_none hok] at hR
    dsimp only at hR
    have htk : tyAt ls ls.length = tysK ls := if_neg (by omega)
    have hek : evAt ls ls.length = evsK ls (ls.length - 1) := by
      unfold evAt
      rw [show min ls.length (ls.length - 1) = ls.length - 1 by omega]
    have hel : (evsK ls (ls.length - 1)).length ≤ 8192 := by rw [evsK_len]; omega
    have htl : (tysK ls).length ≤ 4 := by
      unfold tysK
      cases ht : thingsR (lnK ls 0) with
      | none => exact Nat.zero_le _
      | some t => exact (thingsR_ok ht).1
    rw [htk, hek]
    clear hok htk hek hpl hsp
    generalize tysK ls = K at *
    generalize evsK ls (ls.length - 1) = E at *
    have h1 := fun w h1 h2 => callsCode_any A3 A4 c3 c4 K E w (by omega) (by omega) h1 h2
    obtain ⟨cs, y, z, hcr⟩ : ∃ cs y z, callsR K E = (cs, y, z) := ⟨_, _, _, rfl⟩
    rw [hcr] at h1 hR hye
    dsimp only at h1 hR hye
    repeat' (first | ((first | with_reducible (first | apply TL_q | apply TD_q0 | apply TD_q1 | apply TD_q2 | apply TD_q3) | ((with_reducible (first | apply TD_q0y | apply TD_q1y)); exact rfl; exact rfl; (with_reducible exact rfl))); (first | ((with_reducible apply QS_lenStr Tryz.underlying9); exact rfl) | ((with_reducible apply QS_eqlBs (b := [])); exact rfl; exact rfl) | exact QS.auto); exact rfl) | refine GO ?_ | (refine GOE ?_; (first | rintro _ _ ⟨rfl, rfl⟩ | rintro _ _ ⟨g, rfl, rfl⟩ | rintro _ _ ⟨A', c', rfl, rfl⟩)) | (refine GO2 ?_ ?_ <;> (refine Zs ?_; intro h; try exact Zx)) | ((with_reducible (first | apply TD_e2z | apply TD_e3z | apply TL_e | apply TD_e2 | apply TD_e3)); ((with_reducible apply ES_callOwn (f := 12)); exact rfl; (intro w hw; exact h1 w (hw.ownRd Zm (fun _ => rfl)) (hw.ownRd Zm (fun _ => rfl))); exact rfl); (first | exact rfl | exact ⟨rfl, rfl, rfl⟩); (rintro _ _ ⟨A5, c5, rfl, rfl⟩); (try refine ⟨SUB, ?_⟩)) | fail)
    all_goals first | (exfalso; omega) | skip
    all_goals first
      | (have hz : z = 2 := by assumption
         (refine At_ret Tryz.results23 rfl (fun w' hw => ?_))
         rw [hR, if_pos hz, hz]
         exact ⟨((none, 0), (none, 0)), rfl, (((hw.nilOwn Ev.enc 4 95).nilOwn intEnc 1 3).anyN 0).sel Zl⟩)
      | (have hz : ¬ z = 2 := by assumption
         have hz0 : ¬ z = 0 := by assumption
         (refine At_ret Tryz.results23 rfl (fun w' hw => ?_))
         rw [hR, if_neg hz, if_pos hz0]
         exact ⟨((none, 0), (none, 0)), rfl, (((hw.nilOwn Ev.enc 4 95).nilOwn intEnc 1 3).anyN 0).sel Zl⟩)
      | (have hz : ¬ z = 2 := by assumption
         have hz0 : z = 0 := by assumption
         (refine At_ret Tryz.results23 rfl (fun w' hw => ?_))
         rw [hR, if_neg hz, if_neg (fun h => h hz0)]
         exact ⟨((A3, c3), (A4, c4)), rfl, (hw.anyN 0).sel Zl⟩)
end
end Go.Proofs.YtjdckepbihcgfaaGreatDoor

namespace Go.Proofs.YtjdckepbihcgfaaGreatDoor
open Go.RowKit Go.Lib
set_option linter.unusedSectionVars false

section
variable {w w' : World} {T8 TB b c : Nat} {A : Option Addr} {l : Bs}
theorem rowF_move {v : Value} {n : Nat} {xs : List Value} {B B' : Nat} (hp : w.ownsRowF B T8 1 v n xs) (h : ∀ g, v.ownBlock = some g → w'.heap[g]? = w.heap[g]?) (hB : ∀ g, v.ownBlock = some g → B' ≤ g) : w'.ownsRowF B' T8 1 v n xs := by
  refine ⟨hp.1, ?_⟩
  rcases hp.2 with hn | ⟨g, cap, cur, fz, hv, hbb, hg, rest⟩
  · exact .inl hn
  · exact .inr ⟨g, cap, cur, fz, hv, hB g (by rw [hv]; rfl), (h g (by rw [hv]; rfl)).trans hg, rest⟩
/-- a builder that is the call's own, with what lies in it -/
def entBldr (TB T8 b : Nat) (A : Option Addr) (c : Nat) (l : Bs) : Ent :=
  ⟨fun k => k = b ∨ (Value.slice A l.length c).ownBlock = some k, b :: (Value.slice A l.length c).ownBlock.toList, fun k => by rw [List.mem_cons, Option.mem_toList],
   fun w => (Value.slice A l.length c).ownBlock ≠ some b ∧ ∃ pv : Value, (pv = .pointer none ∨ pv = .pointer (some ⟨b, 0, none⟩)) ∧ w.heap[b]? = some (.cells #[pv, .slice A l.length c] TB (0, 0)) ∧ w.ownsRowF 0 T8 1 (.slice A l.length c) l.length (Lib.byteCells l),
   fun w w' h ⟨h1, pv, h2, h3, h4⟩ => ⟨h1, pv, h2, (h b (.inl rfl)).trans h3, rowF_move h4 (fun g hg => h g (.inr hg)) (fun g _ => Nat.zero_le g)⟩⟩
end
end Go.Proofs.YtjdckepbihcgfaaGreatDoor

namespace Go.Proofs.YtjdckepbihcgfaaGreatDoor
open Go.RowKit Go.Lib
set_option linter.unusedVariables false
set_option linter.unusedSectionVars false

/-- what is asked of the block's type -/
class BldIn (TB : Nat) : Prop where
  lies : liesAt Tryz.prog Tryz.prog.depth TB (2 / Tryz.prog.cellsOf TB) 0 61 1 = true
  ne : TB ≠ 5
instance : BldIn 61 := ⟨by kernel_rfl, by decide⟩

theorem bSize : (Tryz.prog.info? 61).map (·.size) = some 2 := by kernel_rfl
theorem bByte : (Tryz.prog.info? 5).map (fun i => (i.zero, i.size, i.bytes)) = some (some (.int .u8 0), 1, 1) := by kernel_rfl
theorem bCells : Tryz.prog.cellsOf 5 = 1 := by kernel_rfl
section
variable {TB : Nat} [hT : BldIn TB]
include hT
set_option maxHeartbeats 1000000 in
set_option maxRecDepth 100000 in
theorem bcheck_new (b : Nat) (w : World) (h0 : w.cell? ⟨b, 0, none⟩ = some (.pointer none)) (hsh : w.shape? b = some (TB, 2)) (hfz : w.frozen? ⟨b, 0, none⟩ = false) :
    Calls Tryz.prog 108 #[.pointer (some ⟨b, 0, none⟩)] w fun e w' => e = .returned (.tuple #[]) ∧ w' = w.setCell ⟨b, 0, none⟩ (.pointer (some ⟨b, 0, none⟩)) := by
  obtain ⟨j, hj, hjs⟩ := Option.map_eq_some_iff.1 bSize
  go_enter Tryz.func108, Tryz.ntmps108
  go_wp2
  rw [Lib.run_to_unsafe w ⟨b, 0, none⟩ Tryz.underlying58 Tryz.underlying201 hj (by rw [hjs]; decide) hsh (Nat.zero_lt_succ 1)]
  simp only [Result.andThen]
  rw [Oper.upon_value]
  go_wp2
  rw [run_callFunc_extern (f := 145) rfl (by kernel_rfl) (by kernel_rfl) (by kernel_rfl) (e := Extern.AbiNoEscape.same) (by kernel_rfl)]
  rw [Lib.run_noEscape]
  simp only [Result.andThen]
  rw [Oper.upon_value]
  go_wp2
  rw [Lib.run_from_unsafe w ⟨b, 0, none⟩ Tryz.underlying201 Tryz.underlying58 hj hsh hT.lies]
  simp only [Result.andThen]
  rw [Oper.upon_value]
  go_wp2
  go_end0
  exact ⟨rfl, rfl⟩
set_option maxHeartbeats 1000000 in
set_option maxRecDepth 100000 in
theorem bcheck_used (b : Nat) (w : World) (h0 : w.cell? ⟨b, 0, none⟩ = some (.pointer (some ⟨b, 0, none⟩))) :
    Calls Tryz.prog 108 #[.pointer (some ⟨b, 0, none⟩)] w fun e w' => e = .returned (.tuple #[]) ∧ w' = w := by
  obtain ⟨j, hj, hjs⟩ := Option.map_eq_some_iff.1 bSize
  have hne := Lib.run_neq_ptr_same w ⟨b, 0, none⟩ Tryz.underlying58 hj
  go_enter Tryz.func108, Tryz.ntmps108
  go_wp2
  go_end0
  exact ⟨rfl, rfl⟩
end
end Go.Proofs.YtjdckepbihcgfaaGreatDoor

namespace Go.Proofs.YtjdckepbihcgfaaGreatDoor
open Go.RowKit Go.Lib
set_option linter.unusedSectionVars false

section
variable {P : Program} {C : Ctx} {E : Slots} {S R S2 : List Ent} {d ty ty2 ty3 f : Nat} {ps : String} {af : Array Edge} {g0 : Option (Nat × Bool)} {x y : Operand}
theorem bnew_mem {w : World} {TB T8 b : Nat} (h : Mem C w (entBlk b TB #[.pointer none, .slice none 0 0] :: R)) : Mem C w (entBldr TB T8 b none 0 [] :: R) := by
  have h1 := h.holds _ List.mem_cons_self
  have hap := List.pairwise_cons.1 h.apart
  have hg : ∀ g, (entBldr TB T8 b none 0 []).has g → (entBlk b TB #[.pointer none, .slice none 0 0]).has g := fun g hg => by
    rcases (show g = b ∨ (Value.slice none 0 0).ownBlock = some g from hg) with rfl | h2
    · exact rfl
    · cases h2
  refine ⟨h.keeps, fun e he => ?_, List.pairwise_cons.2 ⟨fun e he g hg' => hap.1 e he g (hg g hg'), hap.2⟩⟩
  rcases List.mem_cons.1 he with rfl | he
  · refine ⟨⟨by simp [Value.ownBlock], _, .inl rfl, h1.1, ?_⟩, fun g hg' => h1.2 g (hg g hg')⟩
    exact ⟨rfl, .inl ⟨rfl, rfl⟩⟩
  · exact h.holds e (List.mem_cons_of_mem _ he)
end
end Go.Proofs.YtjdckepbihcgfaaGreatDoor

namespace Go.Proofs.YtjdckepbihcgfaaGreatDoor
open Go.RowKit Go.Lib
set_option linter.unusedVariables false
set_option linter.unusedSectionVars false

/-- append of a text to a row of one's own: where the new row lies -/
theorem run_append_fine {P : Program} (w : World) (t u ty e : TypeId) (i : TypeInfo) (ht : P.underlying t = some (.slice e)) (hu : P.underlying u = some .string) (hi : P.info? e = some i) (hz : i.zero = some (.int .u8 0))
    (hsize : i.size = 1) (hby : i.bytes = 1) (v : Value) (n : Nat) (xs : List Value) (hown : w.ownsRowF 0 e 1 v n xs) (s : ByteArray) (h63 : n + s.size ≤ maxLen) (hbytes : n + s.size ≤ 140737488355328) :
    ∃ v' w', (Builtin.append_ #[t, u] ty #[v, .string s]).run P w = .ok v' w' ∧ w'.ownsRowF 0 e 1 v' (n + s.size) (xs ++ Lib.strCells s) ∧ w.grownBy w' v.ownBlock ∧ ∀ g, v'.ownBlock = some g → v.ownBlock = some g ∨ w.heap.size ≤ g := by
  obtain ⟨v', w', hr, h2, h3, _⟩ := Lib.run_append_own_stringF (P := P) w 0 t u ty e i ht hu hi hz hsize hby v n xs hown s h63 hbytes (Nat.zero_le _)
  refine ⟨v', w', hr, h2, h3, fun g hg => ?_⟩
  rcases hown.2 with ⟨rfl, rfl⟩ | ⟨g0, cap, cur, fz, rfl, _, hg0, hfz, hnc, hcm, hcs, htake⟩
  · obtain ⟨v2, w2, hr2, h4, _, _⟩ := Lib.run_append_own_stringF (P := P) w w.heap.size t u ty e i ht hu hi hz hsize hby (.slice none 0 0) 0 xs ⟨hown.1, .inl ⟨rfl, rfl⟩⟩ s h63 hbytes (Nat.le_refl _)
    rw [hr] at hr2
    injection hr2 with e1 e2
    subst e1
    exact .inr (h4.lt g hg).1
  · have hxl : xs.length = n := by simpa using hown.1
    by_cases hroom : n + s.size ≤ cap
    · have hr2 := Lib.run_append_room_stringF (P := P) w t u ty e i ht hu hi hsize g0 n cap cur fz hg0 (by simpa using hfz) s hroom (by omega)
      rw [hr] at hr2
      injection hr2 with e1 e2
      subst e1
      exact .inl hg
    · have holds : ∀ j u, xs[j]? = some u → w.cell? ((⟨g0, 0, none⟩ : Addr).add j) = some u := hown.cells (g := g0) rfl
      unfold maxLen at h63
      have hr2 := Lib.run_append_grow_string (P := P) w t u ty e i (.int .u8 0) ht hu hi hz ⟨g0, 0, none⟩ n cap xs (by rw [hsize]; simpa using hxl) holds s (by omega) (by omega) (by rw [hby]; exact growslice_fits (by omega) (by omega))
      rw [hr] at hr2
      injection hr2 with e1 e2
      subst e1
      have : w.heap.size = g := Option.some.inj hg
      exact .inr (by omega)
theorem wpList_append_fine {P : Program} {w : World} {ops : Array Oper} {rest : List Oper} {o : Oper} {a : Act} {Q : Exit → Act → World → Prop} (hgd : o.guard = none) (sl x : Operand) (t u : TypeId)
    (ho : o.op = .call { callee := .builtin .append, args := #[sl, x], argTypes := #[t, u] }) (e : TypeId) (i : TypeInfo) (ht : P.underlying t = some (.slice e)) (hu : P.underlying u = some .string) (hi : P.info? e = some i) (hz : i.zero = some (.int .u8 0))
    (hsize : i.size = 1) (hby : i.bytes = 1) (v : Value) (n : Nat) (xs : List Value) (hs : a.eval sl = v) (hown : w.ownsRowF 0 e 1 v n xs) (s : ByteArray) (hx : a.eval x = .string s) (h63 : n + s.size ≤ maxLen) (hbytes : n + s.size ≤ 140737488355328)
    (h : ∀ v' w', w'.ownsRowF 0 e 1 v' (n + s.size) (xs ++ Lib.strCells s) → w.grownBy w' v.ownBlock → (∀ g, v'.ownBlock = some g → v.ownBlock = some g ∨ w.heap.size ≤ g) → wpList P ops Q rest (a.put o.dst v') w') : wpList P ops Q (o :: rest) a w := by
  refine wpList_plain hgd fun K hK => ?_
  obtain ⟨v', w', hr, h2, h3, h4⟩ := run_append_fine (P := P) w t u o.type e i ht hu hi hz hsize hby v n xs hown s h63 hbytes
  unfold Oper.wp execOp
  simp only [ho, resolve, invoke, builtin, Sem.run_bind, Sem.run_pure, Result.andThen_ok, List.map_toArray, List.map_cons, List.map_nil, hs, hx, hr]
  exact hK _ _ (h v' w' h2 h3 h4)
section
variable {TB : Nat} [hT : BldIn TB]
include hT
theorem bcheck_fine (b : Nat) (pv sl : Value) (hpv : pv = .pointer none ∨ pv = .pointer (some ⟨b, 0, none⟩)) (w : World) (hb : w.heap[b]? = some (.cells #[pv, sl] TB (0, 0))) :
    Calls Tryz.prog 108 #[.pointer (some ⟨b, 0, none⟩)] w fun e w' => e = .returned (.tuple #[]) ∧ w'.heap[b]? = some (.cells #[.pointer (some ⟨b, 0, none⟩), sl] TB (0, 0)) ∧ Keeps [b] w w' ∧ w'.heap.size = w.heap.size := by
  have hc0 : w.cell? ⟨b, 0, none⟩ = some pv := by rw [Lib.cell_of_heap hb]; rfl
  rcases hpv with rfl | rfl
  · refine (bcheck_new (TB := TB) b w hc0 (by simp [World.shape?, hb]) (Lib.frozen_of_heap hb 0)).mono ?_
    rintro e w' ⟨rfl, rfl⟩
    refine ⟨rfl, by simp [World.setCell, Array.getElem?_modify, hb], ⟨rfl, rfl, rfl, by simp [World.setCell], fun k _ hk => Below.heap_setCell _ _ _ _ (fun e => hk (by simp [e]))⟩, by simp [World.setCell]⟩
  · refine (bcheck_used (TB := TB) b w hc0).mono ?_
    rintro e w' ⟨rfl, rfl⟩
    exact ⟨rfl, hb, Keeps.refl _ _, rfl⟩
set_option maxHeartbeats 2000000 in
set_option maxRecDepth 100000 in
theorem bwrite_mem (l s : Bs) (hlen : l.length + s.length ≤ 1000000000) (b c : Nat) (Ao : Option Addr) (w : World) (h : (entBldr TB 5 b Ao c l).p w) :
    Calls Tryz.prog 57 #[.pointer (some ⟨b, 0, none⟩), bsv s] w fun e w' => ∃ x : Option Addr × Nat, e = .returned (.tuple #[.int .i64 s.length, .nilIface]) ∧ Mem ⟨0, blks [entBldr TB 5 b Ao c l], w⟩ w' [entBldr TB 5 b x.1 x.2 (l ++ s)] := by
  obtain ⟨i0, hi, hz0, hz1, hz2⟩ := info_parts bByte
  obtain ⟨hne, pv, hpv, hbk, hown⟩ := h
  obtain ⟨sv, hsv⟩ : ∃ sv, sv = Value.slice Ao l.length c := ⟨_, rfl⟩
  rw [← hsv] at hne hbk hown
  have hfin : ∀ k, k ∈ blks [entBldr TB 5 b Ao c l] ↔ k = b ∨ sv.ownBlock = some k := fun k => by rw [mem_blks, hsv]; exact ⟨fun ⟨e, he, hk⟩ => by rw [List.mem_singleton.1 he] at hk; exact hk, fun hk => ⟨_, List.mem_singleton.2 rfl, hk⟩⟩
  have hss : (⟨s.toArray⟩ : ByteArray).size = s.length := by show s.toArray.size = _; simp
  clear hsv
  unfold bsv
  go_enter Tryz.func57, Tryz.ntmps57
  go_wp2_with (go_at_call 108; refine (bcheck_fine (TB := TB) b pv _ hpv _ hbk).mono ?_)
  rintro e w1 ⟨rfl, hbk1, hk1, hsz1⟩
  have c1 : w1.cell? ⟨b, 1, none⟩ = some sv := by rw [Lib.cell_of_heap hbk1]; rfl
  have hown1 : w1.ownsRowF 0 5 1 sv l.length (Lib.byteCells l) := rowF_move hown (fun g hg => hk1.block g (hown.lt g hg).2 (fun e => hne (by rw [List.mem_singleton.1 e] at hg; exact hg))) (fun _ _ => Nat.zero_le _)
  go_wp2_with (at_builtin; refine wpList_append_fine (P := Tryz.prog) (w := w1) rfl _ _ 59 9 rfl 5 i0 Tryz.underlying59 Tryz.underlying9 hi hz0 hz1 hz2 sv l.length (Lib.byteCells l) rfl hown1 ⟨s.toArray⟩ rfl ?c3 ?c4 ?_)
  case c3 => rw [hss]; unfold maxLen; omega
  case c4 => rw [hss]; omega
  intro v' w2 hown' hgrow hrow
  have hlt : b < w1.heap.size := (Array.getElem?_eq_some_iff.1 hbk1).1
  have hb2 : w2.heap[b]? = some (.cells #[.pointer (some ⟨b, 0, none⟩), sv] TB (0, 0)) := by
    rw [hgrow.block b hlt (fun e => hne e.symm)]
    exact hbk1
  have d1 : w2.cell? ⟨b, 1, none⟩ = some sv := by rw [Lib.cell_of_heap hb2]; rfl
  have f1 : w2.frozen? ⟨b, 1, none⟩ = false := Lib.frozen_of_heap hb2 1
  obtain ⟨ao, cap, rfl⟩ : ∃ ao cap, v' = .slice ao (l ++ s).length cap := by
    rw [List.length_append, ← hss]
    rcases hown'.2 with ⟨hv, h0⟩ | ⟨g, cap, cur, fz, hv, _⟩
    · refine ⟨none, 0, ?_⟩
      rw [show l.length + (⟨s.toArray⟩ : ByteArray).size = 0 from h0]; exact hv
    · exact ⟨_, _, hv⟩
  go_wp2
  go_ret2
  have hcs : Lib.byteCells (l ++ s) = Lib.byteCells l ++ Lib.strCells ⟨s.toArray⟩ := by
    unfold Lib.byteCells; rw [List.map_append]; rfl
  rw [← hcs] at hown'
  have hown2 : w2.ownsRowF 0 5 1 (.slice ao (l ++ s).length cap) (l ++ s).length (Lib.byteCells (l ++ s)) := by
    rw [show (l ++ s).length = l.length + (⟨s.toArray⟩ : ByteArray).size by rw [List.length_append, hss]]
    rw [show (l ++ s).length = l.length + (⟨s.toArray⟩ : ByteArray).size by rw [List.length_append, hss]] at hown'
    exact hown'
  have hne2 := Lib.ownBlock_neF hown2 hb2 hT.ne
  refine ⟨(ao, cap), rfl, ⟨⟨?_, ?_, ?_, ?_, ?_⟩, ?_, List.pairwise_singleton _ _⟩⟩
  · exact hgrow.os.trans hk1.os
  · exact hgrow.tape.trans hk1.tape
  · exact hgrow.output.trans hk1.output
  · have := hgrow.size
    simp only [World.setCell, Array.size_modify]
    omega
  · intro k hk0 hkF
    have hk : k < w.heap.size := hk0
    have hkb : k ≠ b := fun e => hkF ((hfin k).2 (.inl e))
    have hkr : some k ≠ sv.ownBlock := fun e => hkF ((hfin k).2 (.inr e.symm))
    rw [Below.heap_setCell _ _ _ _ hkb, hgrow.block k (by omega) hkr, hk1.block k hk (by simpa using hkb)]
  · intro e he
    rw [List.mem_singleton] at he
    subst he
    refine ⟨⟨hne2, _, .inr rfl, by simp [World.setCell, Array.getElem?_modify, hb2], rowF_move hown2 (fun g hg => Below.heap_setCell _ _ _ _ (fun e => hne2 (by rw [e] at hg; exact hg))) (fun _ _ => Nat.zero_le _)⟩, fun g hg => ?_⟩
    have hs2 : ∀ v, (w2.setCell ⟨b, 1, none⟩ v).heap.size = w2.heap.size := fun v => by simp [World.setCell]
    rcases (show g = b ∨ (Value.slice ao (l ++ s).length cap).ownBlock = some g from hg) with rfl | hg
    · exact ⟨by rw [hs2]; exact (Array.getElem?_eq_some_iff.1 hb2).1, .inl ((hfin _).2 (.inl rfl))⟩
    · refine ⟨by rw [hs2]; exact (hown2.lt g hg).2, ?_⟩
      rcases hrow g hg with h1 | h1
      · exact .inl ((hfin _).2 (.inr h1))
      · exact .inr (by show w.heap.size ≤ g; omega)
set_option maxHeartbeats 2000000 in
set_option maxRecDepth 100000 in
theorem bstring_mem (l : Bs) (h0 : l ≠ []) (b c : Nat) (A : Option Addr) (w : World) (h : (entBldr TB 5 b A c l).p w) :
    Calls Tryz.prog 25 #[.pointer (some ⟨b, 0, none⟩)] w fun e w' => e = .returned (bsv l) ∧ Mem ⟨0, blks [entBldr TB 5 b A c l], w⟩ w' [entBldr TB 5 b A c l] := by
  obtain ⟨hne, pv, hpv, hbk, hown⟩ := h
  have hl0 : l.length ≠ 0 := by simpa using h0
  obtain ⟨g, cap, cur, fz, hv, hbg, hg, hfz, hnc, hcm, hcs, htake⟩ : ∃ g cap cur fz, Value.slice A l.length c = .slice (some ⟨g, 0, none⟩) l.length cap ∧ 0 ≤ g ∧ w.heap[g]? = some (.cells cur 5 fz) ∧ fz.2 ≤ l.length * 1 ∧ l.length ≤ cap ∧ cap ≤ maxLen ∧ cur.size = cap * 1 ∧ cur.toList.take (l.length * 1) = Lib.byteCells l := by
    rcases hown.2 with ⟨_, hz⟩ | ⟨g, cap, cur, fz, hv, r⟩
    · exact absurd hz hl0
    · exact ⟨g, cap, cur, fz, hv, r⟩
  cases hv
  have c1 : w.drew.cell? ⟨b, 1, none⟩ = some (.slice (some ⟨g, 0, none⟩) l.length c) := by
    have : w.drew.heap[b]? = some (.cells #[pv, .slice (some ⟨g, 0, none⟩) l.length c] TB (0, 0)) := hbk
    rw [Lib.cell_of_heap this]; rfl
  have hSD : (Builtin.unsafeSliceData_ #[59] 118 #[.slice (some ⟨g, 0, none⟩) l.length c]).run Tryz.prog w.drew = .ok (.pointer (some ⟨g, 0, none⟩)) w.drew :=
    Lib.run_unsafeSliceData_row _ _ _ _ _ _ (by omega)
  have hUS : (Builtin.unsafeString_ #[118, 3] 9 #[.pointer (some ⟨g, 0, none⟩), .int .i64 l.length]).run Tryz.prog w.drew = .ok (.string ⟨l.toArray⟩) (w.drew.freeze ⟨g, 0, none⟩ l.length) := by
    refine Lib.run_unsafeString_row w.drew 118 3 9 5 Tryz.underlying118 bCells g cur.size (by have hg' : w.drew.heap[g]? = some (.cells cur 5 fz) := hg; simp [World.shape?, hg']) l h0 (by omega) (by unfold maxLen at hcm; omega) ?_
    intro j x hx
    exact hown.cells (g := g) rfl j (.int .u8 x.toNat) (by simp [Lib.byteCells, hx])
  have hkeep : Mem ⟨0, blks [entBldr TB 5 b (some ⟨g, 0, none⟩) c l], w⟩ (w.drew.freeze ⟨g, 0, none⟩ l.length) [entBldr TB 5 b (some ⟨g, 0, none⟩) c l] := by
    have hA : Lib.BuilderAtF TB 5 0 b pv (Lib.byteCells l) w.drew := ⟨Nat.zero_le _, _, hbk, by rw [Lib.byteCells_length]; exact hown, hne⟩
    have hF := hA.froze (g := g) (cap := c) (by rw [Lib.byteCells_length]; exact c1)
    rw [Lib.byteCells_length] at hF
    have hz : (w.drew.freeze ⟨g, 0, none⟩ l.length).heap.size = w.heap.size := by
      unfold World.freeze
      split
      · rfl
      · simp
    have hcellF : ∀ k, k ≠ g → (w.drew.freeze ⟨g, 0, none⟩ l.length).heap[k]? = w.heap[k]? := fun k hk => by
      unfold World.freeze
      split
      · rfl
      · simp only [Array.getElem?_modify]
        rw [if_neg (fun e => hk e.symm)]; rfl
    have hbg2 : b ≠ g := fun e => hne (by rw [e]; rfl)
    obtain ⟨_, v3, h1, h2, h3⟩ := hF
    have hb3 : (w.drew.freeze ⟨g, 0, none⟩ l.length).heap[b]? = some (.cells #[pv, .slice (some ⟨g, 0, none⟩) l.length c] TB (0, 0)) := by rw [hcellF b hbg2]; exact hbk
    have hv3 : v3 = .slice (some ⟨g, 0, none⟩) l.length c := by
      rw [hb3] at h1
      injection h1 with e1
      injection e1 with e2 _ _
      have := congrArg (fun q : Array Value => q[1]?) e2
      simpa using this.symm
    subst hv3
    refine ⟨⟨?_, ?_, ?_, by show w.heap.size ≤ _; rw [hz]; exact Nat.le_refl _, fun k hk hkF => hcellF k (fun e => hkF (by simp [blks, entBldr, Value.ownBlock, e]))⟩, ?_, List.pairwise_singleton _ _⟩
    · unfold World.freeze; split <;> rfl
    · unfold World.freeze; split <;> rfl
    · unfold World.freeze; split <;> rfl
    · intro e he
      rw [List.mem_singleton] at he
      subst he
      refine ⟨⟨hne, pv, hpv, hb3, by rw [Lib.byteCells_length] at h2; exact h2⟩, fun k hk => ?_⟩
      have hkF : k ∈ blks [entBldr TB 5 b (some ⟨g, 0, none⟩) c l] := mem_blks.2 ⟨_, List.mem_singleton.2 rfl, hk⟩
      refine ⟨?_, .inl hkF⟩
      rw [hz]
      rcases (show k = b ∨ (Value.slice (some ⟨g, 0, none⟩) l.length c).ownBlock = some k from hk) with rfl | hk
      · exact (Array.getElem?_eq_some_iff.1 hbk).1
      · exact (hown.lt k hk).2
  have mixed : Tryz.prog.follows Departure.mixedOrders = true := by kernel_rfl
  go_enter Tryz.func25, Tryz.ntmps25
  go_wp2
  go_region_o
  all_goals (go_wp2; go_ret; exact ⟨rfl, hkeep⟩)
end
end Go.Proofs.YtjdckepbihcgfaaGreatDoor
