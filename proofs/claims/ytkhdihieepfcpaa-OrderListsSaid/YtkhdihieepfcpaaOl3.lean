/- OrderLists, plain: Dilworth; the least list of colours. No condition. -/
import Derived.Test.YtkhdihieepfcpaaOl2
namespace Go.Proofs.Ytkhdihieepfcpaa
/-! Dilworth -/
section
variable (lt : Nat → Nat → Prop)
def cmpP (x y : Nat) : Prop := lt x y ∨ lt y x
def AntiP (A : List Nat) : Prop := A.Pairwise fun x y => ¬ cmpP lt x y ∧ x ≠ y
def ColP (P : List Nat) (k : Nat) (f : Nat → Nat) : Prop := (∀ x ∈ P, f x < k) ∧ ∀ x ∈ P, ∀ y ∈ P, x ≠ y → f x = f y → cmpP lt x y
variable {lt}
theorem cmpP.symm {x y : Nat} (h : cmpP lt x y) : cmpP lt y x := Or.symm h
theorem AntiP.of_mem : ∀ {A : List Nat}, AntiP lt A → ∀ {u v : Nat}, u ∈ A → v ∈ A → u ≠ v → ¬ cmpP lt u v
  | [], _, u, v, hu, _, _ => by simp at hu
  | a :: A, h, u, v, hu, hv, huv => by
    obtain ⟨h1, h2⟩ := List.pairwise_cons.1 h
    rcases List.mem_cons.1 hu with e1 | hu2 <;> rcases List.mem_cons.1 hv with e2 | hv2
    · exact absurd (e1.trans e2.symm) huv
    · subst e1; exact (h1 v hv2).1
    · subst e2; exact fun hc => (h1 u hu2).1 hc.symm
    · exact AntiP.of_mem (A := A) h2 hu2 hv2 huv
theorem nodup_le : ∀ (k : Nat) (l : List Nat), l.Nodup → (∀ i ∈ l, i < k) → l.length ≤ k
  | 0, l, _, h => by
    cases l with
    | nil => simp
    | cons a l => exact absurd (h a (by simp)) (by omega)
  | k + 1, l, hn, h => by
    have h1 := nodup_le k (l.erase k) (hn.erase k) (fun i hi => by
      have h2 := h i (List.mem_of_mem_erase hi)
      have h3 : i ≠ k := fun e => by
        subst e
        exact (List.Nodup.mem_erase_iff hn).1 hi |>.1 rfl
      omega)
    have := List.length_erase (a := k) (l := l)
    split at this <;> omega
theorem AntiP.nodup_map {A P : List Nat} {k : Nat} {f : Nat → Nat} (hA : AntiP lt A) (hs : ∀ x ∈ A, x ∈ P) (hc : ColP lt P k f) : (A.map f).Nodup := by
  rw [List.Nodup, List.pairwise_map]
  have hA' : A.Pairwise fun x y => ¬ cmpP lt x y ∧ x ≠ y := hA
  refine List.Pairwise.imp_of_mem (fun {x y} hx hy h e => h.1 (hc.2 x (hs x hx) y (hs y hy) h.2 e)) hA'
theorem AntiP.le {A P : List Nat} {k : Nat} {f : Nat → Nat} (hA : AntiP lt A) (hs : ∀ x ∈ A, x ∈ P) (hc : ColP lt P k f) : A.length ≤ k := by
  have := nodup_le k (A.map f) (hA.nodup_map hs hc) (fun i hi => by
    obtain ⟨x, hx, rfl⟩ := List.mem_map.1 hi
    exact hc.1 x (hs x hx))
  simpa using this
theorem AntiP.all {A P : List Nat} {k : Nat} {f : Nat → Nat} (hA : AntiP lt A) (hs : ∀ x ∈ A, x ∈ P) (hc : ColP lt P k f) (hk : A.length = k) (i : Nat) (hi : i < k) : ∃ x ∈ A, f x = i := by
  refine Classical.byContradiction fun hno => ?_
  have := nodup_le k (i :: A.map f) (List.nodup_cons.2 ⟨fun hm => by
    obtain ⟨x, hx, e⟩ := List.mem_map.1 hm
    exact hno ⟨x, hx, e⟩, hA.nodup_map hs hc⟩) (fun j hj => by
    rcases List.mem_cons.1 hj with rfl | hj
    · exact hi
    · obtain ⟨x, hx, rfl⟩ := List.mem_map.1 hj
      exact hc.1 x (hs x hx))
  simp at this
  omega
theorem exMax (tr : ∀ x y z, lt x y → lt y z → lt x z) (ir : ∀ x, ¬ lt x x) (p : Nat → Prop) : ∀ Q : List Nat, (∃ x ∈ Q, p x) → ∃ x ∈ Q, p x ∧ ∀ y ∈ Q, p y → ¬ lt x y
  | [], h => by obtain ⟨x, hx, _⟩ := h; simp at hx
  | z :: Q, h => by
    by_cases hQ : ∃ x ∈ Q, p x
    · obtain ⟨x, hx, hp, hm⟩ := exMax tr ir p Q hQ
      by_cases hz : p z ∧ lt x z
      · refine ⟨z, by simp, hz.1, fun y hy hpy hl => ?_⟩
        rcases List.mem_cons.1 hy with rfl | hy
        · exact ir _ hl
        · exact hm y hy hpy (tr _ _ _ hz.2 hl)
      · refine ⟨x, by simp [hx], hp, fun y hy hpy hl => ?_⟩
        rcases List.mem_cons.1 hy with rfl | hy
        · exact hz ⟨hpy, hl⟩
        · exact hm y hy hpy hl
    · obtain ⟨x, hx, hp⟩ := h
      rcases List.mem_cons.1 hx with rfl | hx
      · refine ⟨x, by simp, hp, fun y hy hpy hl => ?_⟩
        rcases List.mem_cons.1 hy with rfl | hy
        · exact ir _ hl
        · exact hQ ⟨y, hy, hpy⟩
      · exact absurd ⟨x, hx, hp⟩ hQ
theorem dilworth (tr : ∀ x y z, lt x y → lt y z → lt x z) (ir : ∀ x, ¬ lt x x) : ∀ (m : Nat) (P : List Nat), P.length = m → P.Nodup → ∃ k f A, ColP lt P k f ∧ AntiP lt A ∧ (∀ x ∈ A, x ∈ P) ∧ A.length = k := by
  intro m
  induction m using Nat.strongRecOn with
  | _ m ih =>
    intro P hm hnd
    by_cases h0 : m = 0
    · subst h0
      obtain rfl : P = [] := List.length_eq_zero_iff.1 hm
      exact ⟨0, fun _ => 0, [], ⟨by simp, by simp⟩, .nil, by simp, rfl⟩
    · obtain ⟨a, haP, -, hmax⟩ := exMax tr ir (fun _ => True) P (by
        cases P with
        | nil => simp at hm; omega
        | cons z P => exact ⟨z, by simp, trivial⟩)
      have hQl : (P.erase a).length = m - 1 := by rw [List.length_erase_of_mem haP, hm]
      have hQm : ∀ x, x ∈ P.erase a ↔ x ≠ a ∧ x ∈ P := fun x => List.Nodup.mem_erase_iff hnd
      obtain ⟨k, f, A0, hc, hA0, hs0, hk0⟩ := ih (m - 1) (by omega) (P.erase a) hQl (hnd.erase a)
      -- the topmost of each colour that stands in some longest antichain
      have hx : ∀ i, i < k → ∃ x, x ∈ P.erase a ∧ (f x = i ∧ ∃ A, AntiP lt A ∧ (∀ y ∈ A, y ∈ P.erase a) ∧ A.length = k ∧ x ∈ A) ∧ ∀ y ∈ P.erase a, (f y = i ∧ ∃ A, AntiP lt A ∧ (∀ z ∈ A, z ∈ P.erase a) ∧ A.length = k ∧ y ∈ A) → ¬ lt x y := fun i hi => by
        obtain ⟨y, hy, hfy⟩ := hA0.all hs0 hc hk0 i hi
        obtain ⟨x, h1, h2, h3⟩ := exMax tr ir (fun x => f x = i ∧ ∃ A, AntiP lt A ∧ (∀ y ∈ A, y ∈ P.erase a) ∧ A.length = k ∧ x ∈ A) (P.erase a) ⟨y, hs0 y hy, hfy, A0, hA0, hs0, hk0, hy⟩
        exact ⟨x, h1, h2, h3⟩
      have hx' : ∃ X : Nat → Nat, ∀ i, i < k → X i ∈ P.erase a ∧ (f (X i) = i ∧ ∃ A, AntiP lt A ∧ (∀ y ∈ A, y ∈ P.erase a) ∧ A.length = k ∧ X i ∈ A) ∧ ∀ y ∈ P.erase a, (f y = i ∧ ∃ A, AntiP lt A ∧ (∀ z ∈ A, z ∈ P.erase a) ∧ A.length = k ∧ y ∈ A) → ¬ lt (X i) y :=
        ⟨fun i => if h : i < k then Classical.choose (hx i h) else 0, fun i hi => by
          have := Classical.choose_spec (hx i hi)
          simp only [dif_pos hi]
          exact this⟩
      obtain ⟨X, hX⟩ := hx'
      -- what is of colour i in a longest antichain is not above X i
      have hle : ∀ i, i < k → ∀ y, y ∈ P.erase a → f y = i → (∃ A, AntiP lt A ∧ (∀ z ∈ A, z ∈ P.erase a) ∧ A.length = k ∧ y ∈ A) → y = X i ∨ lt y (X i) := fun i hi y hy hf hA => by
        obtain ⟨x1, x2, x3⟩ := hX i hi
        by_cases e : y = X i
        · exact .inl e
        · right
          rcases hc.2 y hy (X i) x1 e (by rw [hf, x2.1]) with h | h
          · exact h
          · exact absurd h (x3 y hy ⟨hf, hA⟩)
      have hno : ∀ i j, i < k → j < k → i ≠ j → ¬ lt (X i) (X j) := fun i j hi hj hij hl => by
        obtain ⟨_, ⟨x2, A, a1, a2, a3, a4⟩, _⟩ := hX j hj
        obtain ⟨y, hy, hfy⟩ := a1.all a2 hc a3 i hi
        have hyl : lt y (X j) := by
          rcases hle i hi y (a2 y hy) hfy ⟨A, a1, a2, a3, hy⟩ with e | h
          · rw [e]; exact hl
          · exact tr _ _ _ h hl
        have hne : y ≠ X j := fun e => by
          have := congrArg f e
          rw [hfy, x2] at this
          exact hij this
        have hp : ∀ u ∈ A, ∀ v ∈ A, u ≠ v → ¬ cmpP lt u v := by
          intro u hu v hv huv
          exact AntiP.of_mem a1 hu hv huv
        exact hp y hy (X j) a4 hne (.inl hyl)
      have hXA : AntiP lt ((List.range k).map X) := by
        unfold AntiP
        rw [List.pairwise_map]
        refine List.Pairwise.imp_of_mem (fun {i j} hi hj (hij : i ≠ j) => ⟨fun h => ?_, fun e => ?_⟩) List.nodup_range
        · rcases h with h | h
          · exact hno i j (by simpa using hi) (by simpa using hj) hij h
          · exact hno j i (by simpa using hj) (by simpa using hi) hij.symm h
        · have h1 := (hX i (by simpa using hi)).2.1.1
          have h2 := (hX j (by simpa using hj)).2.1.1
          rw [e, h2] at h1
          exact hij h1.symm
      have hXs : ∀ x ∈ (List.range k).map X, x ∈ P.erase a := fun x hx => by
        obtain ⟨i, hi, rfl⟩ := List.mem_map.1 hx
        exact (hX i (by simpa using hi)).1
      by_cases hab : ∃ i, i < k ∧ cmpP lt a (X i)
      · obtain ⟨i, hi, hcm⟩ := hab
        have hXi := hX i hi
        have hXP := (hQm _).1 hXi.1
        have hlt : lt (X i) a := by
          rcases hcm with h | h
          · exact absurd h (hmax _ hXP.2 trivial)
          · exact h
        -- what is left behind the chain through a
        have : ∃ R : List Nat, R.Nodup ∧ R.length < m ∧ ∀ x, x ∈ R ↔ x ∈ P ∧ x ≠ a ∧ ¬ (f x = i ∧ (x = X i ∨ lt x (X i))) := by
          classical
          refine ⟨(P.erase a).filter fun x => decide (¬ (f x = i ∧ (x = X i ∨ lt x (X i)))), (hnd.erase a).filter _, ?_, fun x => ?_⟩
          · have := List.length_filter_le (fun x => decide (¬ (f x = i ∧ (x = X i ∨ lt x (X i))))) (P.erase a)
            omega
          · rw [List.mem_filter, hQm]
            simp only [decide_eq_true_eq]
            constructor
            · rintro ⟨⟨h1, h2⟩, h3⟩; exact ⟨h2, h1, h3⟩
            · rintro ⟨h1, h2, h3⟩; exact ⟨⟨h2, h1⟩, h3⟩
        obtain ⟨R, hRn, hRl, hR⟩ := this
        obtain ⟨k', f', A', hc', hA', hs', hk'⟩ := ih R.length hRl R rfl hRn
        have hsQ : ∀ x ∈ A', x ∈ P.erase a := fun x hx => by
          have := (hR x).1 (hs' x hx)
          exact (hQm x).2 ⟨this.2.1, this.1⟩
        have hkk : k' < k := by
          have h1 := hA'.le hsQ hc
          refine Nat.lt_of_le_of_ne (hk' ▸ h1) fun e => ?_
          obtain ⟨y, hy, hfy⟩ := hA'.all hsQ hc (hk'.trans e) i hi
          have := hle i hi y (hsQ y hy) hfy ⟨A', hA', hsQ, hk'.trans e, hy⟩
          exact ((hR y).1 (hs' y hy)).2.2 ⟨hfy, this⟩
        refine ⟨k, fun x => open Classical in if x ∈ R then f' x else k', (List.range k).map X, ⟨fun x hx => ?_, fun x hx y hy hxy e => ?_⟩, hXA, fun x hx => ((hQm x).1 (hXs x hx)).2, by simp⟩
        · dsimp only
          split
          · rename_i h
            have := hc'.1 x h
            omega
          · exact hkk
        · dsimp only at e
          have inK : ∀ z, z ∈ P → ¬ z ∈ R → z = a ∨ (z ∈ P.erase a ∧ f z = i ∧ (z = X i ∨ lt z (X i))) := fun z hz hn => by
            by_cases ha : z = a
            · exact .inl ha
            · right
              have : f z = i ∧ (z = X i ∨ lt z (X i)) := Classical.byContradiction fun h => hn ((hR z).2 ⟨hz, ha, h⟩)
              exact ⟨(hQm z).2 ⟨ha, hz⟩, this⟩
          have upA : ∀ z, (z = X i ∨ lt z (X i)) → lt z a := fun z h => by
            rcases h with e | h
            · rw [e]; exact hlt
            · exact tr _ _ _ h hlt
          by_cases hxR : x ∈ R <;> by_cases hyR : y ∈ R
          · rw [if_pos hxR, if_pos hyR] at e
            exact hc'.2 x hxR y hyR hxy e
          · rw [if_pos hxR, if_neg hyR] at e
            have := hc'.1 x hxR
            omega
          · rw [if_neg hxR, if_pos hyR] at e
            have := hc'.1 y hyR
            omega
          · rcases inK x hx hxR with rfl | ⟨x1, x2, x3⟩ <;> rcases inK y hy hyR with rfl | ⟨y1, y2, y3⟩
            · exact absurd rfl hxy
            · exact .inr (upA y y3)
            · exact .inl (upA x x3)
            · exact hc.2 x x1 y y1 hxy (by rw [x2, y2])
      · refine ⟨k + 1, fun x => if x = a then k else f x, a :: (List.range k).map X, ⟨fun x hx => ?_, fun x hx y hy hxy e => ?_⟩, ?_, fun x hx => ?_, by simp⟩
        · dsimp only
          split
          · omega
          · rename_i h
            have := hc.1 x ((hQm x).2 ⟨h, hx⟩)
            omega
        · dsimp only at e
          by_cases hxa : x = a <;> by_cases hya : y = a
          · exact absurd (hxa.trans hya.symm) hxy
          · rw [if_pos hxa, if_neg hya] at e
            have := hc.1 y ((hQm y).2 ⟨hya, hy⟩)
            omega
          · rw [if_neg hxa, if_pos hya] at e
            have := hc.1 x ((hQm x).2 ⟨hxa, hx⟩)
            omega
          · rw [if_neg hxa, if_neg hya] at e
            exact hc.2 x ((hQm x).2 ⟨hxa, hx⟩) y ((hQm y).2 ⟨hya, hy⟩) hxy e
        · refine List.pairwise_cons.2 ⟨fun x hx => ?_, hXA⟩
          obtain ⟨i, hi, rfl⟩ := List.mem_map.1 hx
          have hi' : i < k := by simpa using hi
          exact ⟨fun h => hab ⟨i, hi', h⟩, fun e => ((hQm _).1 (hX i hi').1).1 e.symm⟩
        · rcases List.mem_cons.1 hx with rfl | hx
          · exact haP
          · exact ((hQm x).1 (hXs x hx)).2
end
/-! Colours: the least list -/
def fresh (l : List Nat) : Nat := l.foldl (fun m k => max m (k + 1)) 0
theorem fresh_snoc (l : List Nat) (k : Nat) : fresh (l ++ [k]) = max (fresh l) (k + 1) := by simp [fresh]
theorem lt_fresh {l : List Nat} : ∀ k ∈ l, k < fresh l := by
  have key : ∀ (l : List Nat) (m : Nat), m ≤ l.foldl (fun m k => max m (k + 1)) m ∧ ∀ k ∈ l, k < l.foldl (fun m k => max m (k + 1)) m := by
    intro l
    induction l with
    | nil => intro m; simp
    | cons x l ih =>
      intro m
      obtain ⟨h1, h2⟩ := ih (max m (x + 1))
      rw [List.foldl_cons]
      refine ⟨by omega, fun k hk => ?_⟩
      rcases List.mem_cons.1 hk with rfl | hk
      · omega
      · exact h2 k hk
  exact (key l 0).2
def okC (c : Nat → Nat) (l : List Nat) (k : Nat) : Bool := (List.range l.length).all fun j => !decide (l.getD j 0 = k) || (c l.length).testBit j || (c j).testBit l.length
def tryC (F : List Nat → Option (List Nat)) (c : Nat → Nat) (l : List Nat) (k : Nat) : Option (List Nat) := if okC c l k = true then F (l ++ [k]) else none
def CO (c : Nat → Nat) (many : Nat) : Nat → List Nat → Option (List Nat)
  | 0, l => some l
  | f + 1, l => (List.range (min many (fresh l + 1))).findSome? (tryC (CO c many f) c l)
section
variable {n : Nat} {c : Nat → Nat} {many : Nat}
/-- a list of colours that may stand -/
structure Okl (c : Nat → Nat) (many : Nat) (l : List Nat) : Prop where
  lt : ∀ j (hj : j < l.length), l[j] < many
  cmp : ∀ i j (hi : i < l.length) (hj : j < l.length), i < j → l[i] = l[j] → (c i).testBit j = true ∨ (c j).testBit i = true
theorem Okl.snoc {l : List Nat} {k : Nat} (h : Okl c many l) (hk : k < many) (ho : okC c l k = true) : Okl c many (l ++ [k]) where
  lt j hj := by
    rw [List.getElem_append]
    split
    · exact h.lt j _
    · simpa using hk
  cmp i j hi hj hij he := by
    simp only [List.length_append, List.length_singleton] at hi hj
    by_cases hjl : j < l.length
    · rw [List.getElem_append_left (by omega), List.getElem_append_left hjl] at he
      exact h.cmp i j (by omega) hjl hij he
    · obtain rfl : j = l.length := by omega
      rw [List.getElem_append_left (by omega)] at he
      have := List.all_eq_true.1 ho i (by rw [List.mem_range]; omega)
      have hd : l.getD i 0 = k := by
        rw [List.getD_eq_getElem?_getD, List.getElem?_eq_getElem (by omega)]
        simpa using he
      rw [hd] at this
      simp only [decide_true, Bool.not_true, Bool.false_or, Bool.or_eq_true] at this
      rcases this with h' | h'
      · exact .inr h'
      · exact .inl h'
theorem CO_sound : ∀ f (l q : List Nat), Okl c many l → CO c many f l = some q → Okl c many q ∧ q.length = l.length + f
  | 0, l, q, h, e => by
    rw [CO] at e; cases e
    exact ⟨h, by omega⟩
  | f + 1, l, q, h, e => by
    rw [CO, List.findSome?_eq_some_iff] at e
    obtain ⟨l1, k, l2, hl, he, _⟩ := e
    have hk : k < min many (fresh l + 1) := by
      have : k ∈ List.range (min many (fresh l + 1)) := by rw [hl]; simp
      simpa using this
    unfold tryC at he
    split at he
    · rename_i ho
      obtain ⟨h1, h2⟩ := CO_sound f _ q (h.snoc (by omega) ho) he
      exact ⟨h1, by rw [h2]; simp; omega⟩
    · cases he
/-- a colouring -/
structure Clg (n : Nat) (c : Nat → Nat) (many : Nat) (g : Nat → Nat) : Prop where
  lt : ∀ i, i < n → g i < many
  cmp : ∀ i j, i < n → j < n → i ≠ j → g i = g j → (c i).testBit j = true ∨ (c j).testBit i = true
def swp (a b x : Nat) : Nat := if x = a then b else if x = b then a else x
theorem swp_inj {a b x y : Nat} (h : swp a b x = swp a b y) : x = y := by
  unfold swp at h
  repeat' split at h
  all_goals omega
theorem CO_complete : ∀ f (l : List Nat) (g : Nat → Nat), l.length + f = n → Clg n c many g → (∀ j (hj : j < l.length), g j = l[j]) → CO c many f l ≠ none
  | 0, l, g, _, _, _ => by simp [CO]
  | f + 1, l, g, hlen, hg, hag => by
    have hin : l.length < n := by omega
    -- with a colour that is tried
    have key : ∀ g : Nat → Nat, Clg n c many g → (∀ j (hj : j < l.length), g j = l[j]) → g l.length ≤ fresh l → CO c many (f + 1) l ≠ none := by
      intro g hg hag hle hno
      rw [CO, List.findSome?_eq_none_iff] at hno
      have hlt := hg.lt l.length hin
      have := hno (g l.length) (by rw [List.mem_range]; omega)
      unfold tryC at this
      rw [if_pos (by
        unfold okC
        rw [List.all_eq_true]
        intro j hj
        rw [List.mem_range] at hj
        have hd : l.getD j 0 = g j := by
          rw [List.getD_eq_getElem?_getD, List.getElem?_eq_getElem hj, hag j hj]; rfl
        rw [hd]
        by_cases e : g j = g l.length
        · have := hg.cmp j l.length (by omega) hin (by omega) e
          simp only [Bool.or_eq_true]
          rcases this with h | h
          · exact .inr h
          · exact .inl (.inr h)
        · simp [e])] at this
      refine CO_complete f (l ++ [g l.length]) g (by simp; omega) hg (fun j hj => ?_) this
      rw [List.getElem_append]
      split
      · exact hag j _
      · rename_i hn
        have : j = l.length := by simp at hj; omega
        subst this; simp
    by_cases hle : g l.length ≤ fresh l
    · exact key g hg hag hle
    · have hbig := hg.lt l.length hin
      refine key (fun x => swp (fresh l) (g l.length) (g x)) ⟨fun i hi => ?_, fun i j hi hj hij e => hg.cmp i j hi hj hij (swp_inj e)⟩ (fun j hj => ?_) ?_
      · have := hg.lt i hi
        unfold swp
        repeat' split
        all_goals omega
      · have h1 := hag j hj
        have h2 := lt_fresh (l := l) l[j] (List.getElem_mem hj)
        show swp (fresh l) (g l.length) (g j) = l[j]
        unfold swp
        rw [if_neg (by omega), if_neg (by omega), h1]
      · show swp (fresh l) (g l.length) (g l.length) ≤ fresh l
        unfold swp
        rw [if_neg (by omega), if_pos rfl]
        exact Nat.le_refl _
/-- as many as the longest antichain has -/
def wid (n : Nat) (c : Nat → Nat) : Nat := (LA c n 0 []).length
def ltP (n : Nat) (c : Nat → Nat) (i j : Nat) : Prop := i < n ∧ j < n ∧ (c i).testBit j = true
theorem Po.dil (hn : n ≤ 12) (h : Po n c) : ∃ g, Clg n c (wid n c) g := by
  obtain ⟨k, f, A, h1, h2, h3, h4⟩ := dilworth (lt := ltP n c) (fun x y z ⟨a1, a2, a3⟩ ⟨_, b2, b3⟩ => ⟨a1, b2, h.tr x y z a1 a2 a3 b3⟩) (fun x ⟨a1, _, a3⟩ => by rw [h.irr x a1] at a3; cases a3) n (List.range n) (by simp) List.nodup_range
  have hAn : A.Nodup := by
    have : A.Pairwise fun x y => ¬ cmpP (ltP n c) x y ∧ x ≠ y := h2
    exact this.imp fun h => h.2
  have hAlt : ∀ x ∈ A, x < n := fun x hx => by simpa using h3 x hx
  have hm := maskOf_lt A n hAlt
  have hmem : ∀ x, x ∈ itemsL (maskOf A) ↔ x ∈ A := fun x => by
    rw [items_mem, maskOf_bit]
    constructor
    · rintro ⟨_, h'⟩; simpa using h'
    · intro hx
      have := hAlt x hx
      exact ⟨by omega, by simpa using hx⟩
  have hnd : (itemsL (maskOf A)).Nodup := (items_asc _).imp fun h => Nat.ne_of_lt h
  have hlen : (itemsL (maskOf A)).length = A.length := ((List.perm_ext_iff_of_nodup hnd hAn).2 hmem).length_eq
  have hv : Vl n c (itemsL (maskOf A)) := by
    refine (vl_items hn h.irr hm).1 ((apartB_iff _ (Nat.lt_of_lt_of_le hm (by rw [show 4096 = 2 ^ 12 by rfl]; exact Nat.pow_le_pow_right (by decide) hn))).2 fun i hi j hj => ?_)
    rw [hmem] at hi hj
    by_cases e : i = j
    · subst e; exact h.irr i (hAlt i hi)
    · have := AntiP.of_mem h2 hi hj e
      cases hb : (c i).testBit j
      · rfl
      · exact absurd (.inl ⟨hAlt i hi, hAlt j hj, hb⟩) this
  have hk : k ≤ wid n c := by
    have := (LA_all (n := n) (c := c)).2 _ hv
    unfold wid
    rcases this with h' | ⟨h', _⟩ <;> omega
  refine ⟨f, fun i hi => ?_, fun i j hi hj hij e => ?_⟩
  · have := h1.1 i (by simpa using hi); omega
  · rcases h1.2 i (by simpa using hi) j (by simpa using hj) hij e with h' | h'
    · exact .inl h'.2.2
    · exact .inr h'.2.2
theorem Po.CO_wid (hn : n ≤ 12) (h : Po n c) : CO c (wid n c) n [] ≠ none := by
  obtain ⟨g, hg⟩ := h.dil hn
  exact CO_complete n [] g (by simp) hg (fun j hj => by simp at hj)
theorem Po.CO_few {m : Nat} (hm : m < wid n c) : CO c m n [] = none := by
  cases hq : CO c m n [] with
  | none => rfl
  | some q =>
    obtain ⟨h1, h2⟩ := CO_sound n [] q ⟨fun j hj => by simp at hj, fun i j hi => by simp at hi⟩ hq
    have hq' : q.length = n := by simpa using h2
    obtain ⟨hv, _⟩ := LA_all (n := n) (c := c)
    have hc : ColP (ltP n c) (List.range n) m (fun i => q.getD i 0) := by
      refine ⟨fun x hx => ?_, fun x hx y hy hxy e => ?_⟩
      · have hx' : x < q.length := by rw [hq']; simpa using hx
        have := h1.lt x hx'
        simpa [List.getD_eq_getElem?_getD, hx'] using this
      · have hx' : x < q.length := by rw [hq']; simpa using hx
        have hy' : y < q.length := by rw [hq']; simpa using hy
        have ex : q.getD x 0 = q[x] := by simp [List.getD_eq_getElem?_getD, hx']
        have ey : q.getD y 0 = q[y] := by simp [List.getD_eq_getElem?_getD, hy']
        have e' : q[x] = q[y] := by rw [← ex, ← ey]; exact e
        rcases Nat.lt_or_gt_of_ne hxy with h' | h'
        · rcases h1.cmp x y hx' hy' h' e' with h'' | h''
          · exact .inl ⟨by omega, by omega, h''⟩
          · exact .inr ⟨by omega, by omega, h''⟩
        · rcases h1.cmp y x hy' hx' h' e'.symm with h'' | h''
          · exact .inr ⟨by omega, by omega, h''⟩
          · exact .inl ⟨by omega, by omega, h''⟩
    have ha : AntiP (ltP n c) (LA c n 0 []) := by
      unfold AntiP
      rw [List.pairwise_iff_getElem]
      intro i j hi hj hij
      have h3 := (List.pairwise_iff_getElem.1 hv.ap) i j hi hj hij
      have h4 := (List.pairwise_iff_getElem.1 hv.asc) i j hi hj hij
      refine ⟨fun hcm => ?_, by omega⟩
      rcases hcm with ⟨_, _, h'⟩ | ⟨_, _, h'⟩
      · rw [h3.1] at h'; cases h'
      · rw [h3.2] at h'; cases h'
    have := ha.le (fun x hx => by simpa using hv.lt x hx) hc
    unfold wid at hm
    omega
end
end Go.Proofs.Ytkhdihieepfcpaa
