/- Appending one item behind a slice whose bytes may pass 2^47 (growing by a quarter keeps it under 2^48), and how many slots the places hold. No condition. -/
import Derived.Test.YtppicbdaijiifaaT7
import Derived.Test.YtppicbdaijiifaaEvt2
import Derived.Deep.AppendSrc
set_option linter.unusedSimpArgs false
set_option linter.unusedVariables false
set_option linter.unusedSectionVars false
set_option linter.unnecessarySimpa false
namespace Go.Proofs.Ytppicbdaijiifaa
open Go.RowKit

theorem nextcap_one {n bytes : Nat} (hb : n * bytes ≤ 175921860444160) (h1 : bytes ≤ 4294967296) : Builtin.nextslicecap (n + 1) n * bytes ≤ 281474976710656 := by
  unfold Builtin.nextslicecap
  split
  · have : n = 0 := by omega
    subst this; omega
  · split
    · have h2 : n * bytes ≤ 256 * 4294967296 := Nat.mul_le_mul (by omega) h1
      rw [Nat.mul_assoc]; omega
    · rw [growBy_four, if_neg (by omega), if_pos (by omega), Nat.add_mul]
      have h2 : 4 * ((n + 768) / 4) ≤ n + 768 := by omega
      have h3 := Nat.mul_le_mul_right bytes h2
      rw [Nat.mul_assoc, Nat.add_mul] at h3
      omega
section
variable {P : Program} (w : World)
theorem run_append_own1 (t ty e : TypeId) (i : TypeInfo) (z : Value) (ht : P.underlying t = some (.slice e)) (hi : P.info? e = some i) (hz : i.zero = some z) (hzs : z.cells.size = i.size)
    {g c n : Nat} {cur : Array Value} (hg : w.heap[g]? = some (.cells cur e (0, 0))) (hcs : cur.size = c * i.size) (hn : n ≤ c) (hcm : c ≤ maxLen)
    (a : Addr) (c1 : Nat) (news : List Value) (hl : news.length = 1 * i.size) (hnews : ∀ j u, news[j]? = some u → w.cell? (a.add j) = some u) (h1 : ∀ u ∈ news, u.oneCell' = true)
    (h63 : n + 1 ≤ maxLen) (hbytes : n * i.bytes ≤ 175921860444160) (hb1 : i.bytes ≤ 4294967296) :
    ∃ v' w', (Builtin.append_ #[t, t] ty #[.slice (some ⟨g, 0, none⟩) n c, .slice (some a) 1 c1]).run P w = .ok v' w' ∧ w'.ownsRow 0 e i.size v' (n + 1) (cur.toList.take (n * i.size) ++ news) ∧ w.grownBy w' (some g) ∧
      (v'.ownBlock = some g ∨ v'.ownBlock = some w.heap.size) := by
  have hnc : n * i.size ≤ c * i.size := Nat.mul_le_mul_right _ hn
  have hlenx : (cur.toList.take (n * i.size) ++ news).length = (n + 1) * i.size := by simp [hl, Nat.add_mul]; omega
  by_cases hroom : n + 1 ≤ c
  · have hfit : n * i.size + news.length ≤ cur.size := by rw [hl, hcs, ← Nat.add_mul]; exact Nat.mul_le_mul_right _ hroom
    have hr := run_append_room (P := P) w t ty e i ht hi g n c cur hg a 1 c1 news hl hnews h1 hroom hfit
    refine ⟨_, _, hr, ⟨hlenx, .inr ⟨g, c, _, rfl, Nat.zero_le _, setRow_heap w g cur _ e _ hg, hroom, hcm, ?_, ?_⟩⟩, ⟨rfl, rfl, rfl, by simp, fun k _ hk => setRow_other w g k _ (fun e => hk (by rw [e]))⟩, .inl rfl⟩
    · simp only [List.size_toArray, List.length_append, List.length_take, List.length_drop, Array.length_toList]
      omega
    · rw [← hlenx]
      exact List.take_left
  · have hc : c = n := by omega
    subst hc
    have holen : (cur.toList.take (c * i.size)).length = c * i.size := by simp; omega
    have holds : ∀ j u, (cur.toList.take (c * i.size))[j]? = some u → w.cell? ((⟨g, 0, none⟩ : Addr).add j) = some u := by
      intro j u hu
      rw [List.getElem?_take] at hu
      split at hu
      · rw [Addr.add_lit, Nat.zero_add]
        unfold World.cell?
        simp only [hg]
        simpa using hu
      · cases hu
    have hr := run_append_grow (P := P) w t ty e i z ht hi hz ⟨g, 0, none⟩ c c _ holen holds a 1 c1 news hl hnews (by omega) (by unfold maxLen at h63; omega) (nextcap_one hbytes hb1)
    have hge := grownCap_ge w (c + 1) c e
    have hcm' : grownCap w (c + 1) c e ≤ maxLen := grownCap_le_maxLen w (c + 1) c e h63
    refine ⟨_, w.drew.alloc (.cells ((cur.toList.take (c * i.size)).toArray ++ news.toArray ++ Builtin.zeroCells z.cells (grownCap w (c + 1) c e - (c + 1))) e), hr, ⟨hlenx, .inr ⟨w.heap.size, _, _, rfl, Nat.zero_le _, heap_alloc_new w.drew _, hge, hcm', ?_, ?_⟩⟩, ⟨rfl, rfl, rfl, by simp, fun k hk _ => by first | exact heap_alloc_old w.drew _ hk | exact heap_alloc_old w.drew _ k hk⟩, .inr rfl⟩
    · simp only [Array.size_append, List.size_toArray, size_zeroCells, hzs, holen, hl, ← Nat.add_mul]
      congr 1
      omega
    · simp only [Array.toList_append, List.append_assoc]
      rw [← List.append_assoc, ← hlenx]
      exact List.take_left
end
section
variable {P : Program} {C : Ctx} {E : Slots} {S : List Ent}
variable {d ty : Nat} {ps : String} {af : Array Edge} {g0 : Option (Nat × Bool)} {x y : Operand} {z : Value} {t e M bytes c : Nat} {A : Option Addr} {cs : Array Value}
/-- one item appended, out of a literal, behind a slice whose bytes may pass 2^47 -/
theorem ES_append1B {α : Type} {enc : α → List Value} {gy cy ty' : Nat} {xx : α} {ls : List α} [hs : SliceOf P t e M] [hi : InfoOf P e z M bytes] {S' : Option Addr → Nat → List Ent} (hx : evo E x = some (.slice A ls.length c)) (hy : evo E y = some (.slice (some ⟨gy, 0, none⟩) 1 cy))
    (hm : entBlk gy ty' cs ∈ S) (hcs : cs.toList = enc xx) (hM : ∀ x, (enc x).length = M) (h1 : ∀ x, (enc x).all (·.oneCell') = true)
    (hu : ∀ A' c', Upd S (entOwn enc M e A c ls) (entOwn enc M e A' c' (ls ++ [xx])) (S' A' c')) (hb : (ls.length + 1) * bytes ≤ 175921860444160) (hb0 : 0 < bytes ∧ bytes ≤ 4294967296) (hd : Nat.ble (d + 1) C.n = true) :
    ES P C E S ⟨some d, .call ⟨.builtin .append, #[x, y], #[t, t]⟩, ty, ps, af, g0⟩ (fun E' T => ∃ A' c', E' = (d, .slice A' (ls ++ [xx]).length c') :: E ∧ T = S' A' c') := by
  by_cases hsm : (ls.length + 1) * bytes ≤ 140737488355328
  · exact ES_append1 hx hy hm hcs hM h1 hu hsm hb0.1 hd
  refine (ES_core (fun u T => ∃ A' c', u = .slice A' (ls ++ [xx]).length c' ∧ T = S' A' c') (fun a w ha hw => ?_) hd).weak (by rintro _ _ ⟨_, ⟨A', c', rfl, rfl⟩, rfl⟩; exact ⟨A', c', rfl, rfl⟩)
  have ho : Own enc M e w 0 (.slice A ls.length c) ls := (hw.holds _ (hu none 0).mem).1
  have hk0 : Blk w gy ty' cs := (hw.holds _ hm).1
  have hx' := ha.evo hx
  have hy' := ha.evo hy
  have run : ∀ r w', (Builtin.append_ #[t, t] ty #[.slice A ls.length c, .slice (some ⟨gy, 0, none⟩) 1 cy]).run P w = .ok r w' → (execOp a.eval ⟨some d, .call ⟨.builtin .append, #[x, y], #[t, t]⟩, ty, ps, af, g0⟩).run P w = .ok (.value r) w' := by
    intro r w' h
    simp [execOp, resolve, invoke, builtin, hx', hy', h]
  have hml : ls.length + 1 ≤ maxLen := by
    have : ls.length + 1 ≤ (ls.length + 1) * bytes := Nat.le_mul_of_pos_right _ hb0.1
    unfold maxLen; omega
  obtain ⟨i, hi0, hi1, hi2, hi3⟩ := hi.parts
  rcases ho.2 with ⟨hv, _⟩ | ⟨g, cap, cur, hv, _, hg, hnc, hcm, hcz, htake⟩
  · simp only [Value.slice.injEq] at hv
    rw [hv.2.1] at hsm
    omega
  simp only [Value.slice.injEq] at hv
  obtain ⟨rfl, -, rfl⟩ := hv
  subst hi2
  subst hi3
  have hbn : ls.length * i.bytes ≤ 175921860444160 := Nat.le_trans (Nat.mul_le_mul_right _ (Nat.le_succ _)) hb
  obtain ⟨v', w', hr, h2, h3, h5⟩ := run_append_own1 (P := P) w t ty e i z hs.und hi0 hi1 hi.zsize hg hcz hnc hcm ⟨gy, 0, none⟩ cy (enc xx)
    (by rw [hM, Nat.one_mul]) (fun j u hu' => by rw [← hcs] at hu'; rw [add_mk, Nat.zero_add, hk0.cell]; simpa using hu') (fun u hu' => List.all_eq_true.1 (h1 xx) u hu') hml hbn hb0.2
  rw [htake] at h2
  have hown' : Own enc i.size e w' 0 v' (ls ++ [xx]) := by
    unfold Own
    simpa using h2
  obtain ⟨A', c', rfl⟩ := hown'.form
  refine ⟨_, w', S' A' c', run _ _ hr, ?_, A', c', rfl, rfl⟩
  have hk : Keeps ((Value.slice (some ⟨g, 0, none⟩) ls.length c).ownBlock.toList) w w' := ⟨h3.os, h3.tape, h3.output, h3.size, fun k hk hn => h3.block k hk (fun e' => by
    cases e'
    simp [Value.ownBlock] at hn)⟩
  refine hw.upd (hu A' c') hk (fun g hg' => by simpa [entOwn] using hg') (fun g' hg' => ?_) hown'
  have hg2 : (Value.slice A' (ls ++ [xx]).length c').ownBlock = some g' := hg'
  refine ⟨(World.ownsRow.lt h2 g' hg2).2, ?_⟩
  rcases h5 with h5 | h5
  · exact .inl (h5.symm.trans hg2)
  · rw [hg2] at h5; cases h5; exact .inr (Nat.le_refl _)
end

theorem cntUp_one {sl : List (Int × Ev)} {p : Nat} (h : ∀ a, a < p → cntAt sl a = 1) : cntUp sl p = p := by
  induction p with
  | zero => rfl
  | succ m ih => rw [cntUp, ih (fun a ha => h a (by omega)), h m (by omega)]
/-- places that hold one each, and what the next one holds: not more than there are slots -/
theorem cnt_next {sl : List (Int × Ev)} {p : Nat} (h : ∀ a, a < p → cntAt sl a = 1) : p + cntAt sl p ≤ sl.length := by
  have h1 : cntUp sl (p + 1) ≤ sl.length := by rw [cntTo_eq]; exact List.countP_le_length
  rw [cntUp, cntUp_one h] at h1
  exact h1
theorem ev_next {cs : List Cl} {p : Nat} (h : ∀ a, a < p → cntAt (slotsOf cs) a = 1) (k : Nat) : p + (evsAt (slotsOf (cs.take k)) p).length ≤ cs.length + cs.length := by
  have h1 := cnt_next h
  have h2 := slots_len cs
  have h3 : cs.countP (fun c => decide (c.to ≠ -1)) ≤ cs.length := List.countP_le_length
  have h4 : cntAt (slotsOf cs) p = cntAt (slotsOf (cs.take k)) p + cntAt (slotsOf (cs.drop k)) p := by
    rw [← cntAt_append]
    unfold slotsOf
    rw [← List.flatMap_append, List.take_append_drop]
  rw [evsAt_len]
  omega
end Go.Proofs.Ytppicbdaijiifaa
