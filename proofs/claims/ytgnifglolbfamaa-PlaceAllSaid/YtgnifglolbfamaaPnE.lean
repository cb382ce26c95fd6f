/- The plain law of PlaceAll: where a condition stands, and how often. -/
import Derived.Test.YtgnifglolbfamaaPmA
import Derived.Test.YtgnifglolbfamaaPnC
set_option linter.unusedVariables false
set_option linter.unusedSimpArgs false
namespace Go.Proofs.Ytgnifglolbfamaa
open Go.RowKit Go.Proofs.YtgnifglolbfamaaW.PrintWords

/-- Does a condition stand at a place? -/
def inP (cs : List Cp) (y : Ex) (k i : Nat) : Bool :=
  (decide (k = (anchorOf cs (refsOf y)).1.toNat) && decide (i = plI (anchorOf cs (refsOf y)).1.toNat (anchorOf cs (refsOf y)).2.1.toNat)) ||
  (decide ((anchorOf cs (refsOf y)).1 = 2) && againOf y && decide (k = 1) && decide (i = (anchorOf cs (refsOf y)).2.1.toNat))
def twice (cs : List Cp) (y : Ex) : Nat := if (anchorOf cs (refsOf y)).1 = 2 ∧ againOf y = true then 1 else 0

theorem placeStep_at (cs : List Cp) (L : Nat → Nat → List Ex) (y : Ex) (k i : Nat) : placeStep cs L y k i = L k i ++ if inP cs y k i then [y] else [] := by
  unfold placeStep inP
  generalize anchorOf cs (refsOf y) = a
  obtain ⟨a1, a2, a3⟩ := a
  simp only
  by_cases h : a1 = 2 ∧ againOf y = true
  · obtain ⟨rfl, hg⟩ := h
    rw [if_pos ⟨rfl, hg⟩, hg]
    simp only [addP, upd2, plI]
    by_cases hk : k = 1
    · subst hk
      by_cases hi : i = a2.toNat
      · subst hi; simp
      · simp [hi]
    · by_cases hk2 : k = 2
      · subst hk2
        by_cases hi : i = a2.toNat
        · subst hi; simp
        · simp [hi]
      · simp [hk, hk2]
  · rw [if_neg h]
    have h2 : (decide (a1 = 2) && againOf y) = false := by
      cases h3 : againOf y with
      | false => simp
      | true =>
        have : ¬ a1 = 2 := fun e => h ⟨e, h3⟩
        simp [this]
    rw [h2]
    simp only [addP, upd2, Bool.false_and, Bool.or_false]
    by_cases hk : k = a1.toNat ∧ i = plI a1.toNat a2.toNat
    · obtain ⟨rfl, rfl⟩ := hk
      simp
    · rw [if_neg hk]
      have : (decide (k = a1.toNat) && decide (i = plI a1.toNat a2.toNat)) = false := by
        rw [Bool.and_eq_false_iff]
        by_cases h4 : k = a1.toNat
        · right; exact decide_eq_false (fun e => hk ⟨h4, e⟩)
        · left; exact decide_eq_false h4
      rw [this]
      simp
theorem placeL_filter (cs : List Cp) (k i : Nat) : ∀ (ws : List Ex), placeL cs ws k i = ws.filter (fun y => inP cs y k i) := by
  have : ∀ (ws : List Ex) (L : Nat → Nat → List Ex), ws.foldl (placeStep cs) L k i = L k i ++ ws.filter (fun y => inP cs y k i) := by
    intro ws
    induction ws with
    | nil => intro L; simp
    | cons y ws ih =>
      intro L
      rw [List.foldl_cons, ih, placeStep_at, List.filter_cons]
      cases inP cs y k i <;> simp
  intro ws
  unfold placeL
  rw [this]
  rfl
theorem cntX_place (cs : List Cp) (ws : List Ex) (k i : Nat) (e : Ex) : cntX (placeL cs ws k i) e = if inP cs e k i then cntX ws e else 0 := by
  rw [placeL_filter]
  unfold cntX
  induction ws with
  | nil => simp
  | cons y ws ih =>
    rw [List.filter_cons, List.filter_cons]
    cases hy : eqX y e with
    | false =>
      cases hp : inP cs y k i with
      | false => simpa using ih
      | true => simp only [if_true, List.filter_cons, hy]; simpa using ih
    | true =>
      have : y = e := (eqX_iff y e).1 hy
      subst this
      cases hp : inP cs y k i with
      | false => rw [hp] at ih; simpa using ih
      | true => rw [hp] at ih; simp only [if_true, List.filter_cons, hy, List.length_cons] at ih ⊢; omega

/-! sums of indicators -/
theorem sumN_zero {α : Type} (f : α → Nat) : ∀ l : List α, (∀ x ∈ l, f x = 0) → sumN f l = 0
  | [], _ => rfl
  | x :: l, h => by
    rw [sumN, h x List.mem_cons_self, sumN_zero f l (fun y hy => h y (List.mem_cons_of_mem _ hy))]
theorem sumN_congr {α : Type} (f g : α → Nat) : ∀ l : List α, (∀ x ∈ l, f x = g x) → sumN f l = sumN g l
  | [], _ => rfl
  | x :: l, h => by
    rw [sumN, sumN, h x List.mem_cons_self, sumN_congr f g l (fun y hy => h y (List.mem_cons_of_mem _ hy))]
theorem sumN_add {α : Type} (f g : α → Nat) : ∀ l : List α, sumN (fun x => f x + g x) l = sumN f l + sumN g l
  | [] => rfl
  | x :: l => by simp only [sumN]; rw [sumN_add f g l]; omega
theorem sumN_map {α β : Type} (f : β → Nat) (g : α → β) : ∀ l : List α, sumN f (l.map g) = sumN (fun x => f (g x)) l
  | [] => rfl
  | x :: l => by simp only [List.map_cons, sumN]; rw [sumN_map f g l]
theorem sumN_ind (n c : Nat) : ∀ l : List Nat, l.Nodup → sumN (fun s => if s = n then c else 0) l = if n ∈ l then c else 0
  | [], _ => by simp [sumN]
  | x :: l, h => by
    rw [List.nodup_cons] at h
    rw [sumN, sumN_ind n c l h.2]
    by_cases hx : x = n
    · subst hx
      simp [h.1]
    · have : n ∈ x :: l ↔ n ∈ l := by
        rw [List.mem_cons]
        exact ⟨fun h => h.resolve_left (fun e => hx e.symm), Or.inr⟩
      simp [hx, this]

/-- One at a place, none elsewhere. -/
def indP (kk nn k i : Nat) : Nat := if k = kk ∧ i = nn then 1 else 0
/-- By components (as the law goes through them), by stages (as it goes through the answer). -/
def totF (cs : List Cp) (F : Nat → Nat → Nat) : Nat := F 5 0 + sumN (fun i => if negB cs i then F 4 i else F 1 (stA cs i) + F 2 (stA cs i) + F 3 (stA cs i)) (List.range cs.length)
def evF (cs : List Cp) (F : Nat → Nat → Nat) : Nat := F 5 0 + sumN (fun s => F 1 s + F 2 s + F 3 s + sumN (fun i => F 4 i) (ngI cs cs.length s)) (List.range (stg cs))
theorem totF_add (cs : List Cp) (F G : Nat → Nat → Nat) : totF cs (fun k i => F k i + G k i) = totF cs F + totF cs G := by
  unfold totF
  dsimp only
  rw [sumN_congr _ (fun i => (if negB cs i then F 4 i else F 1 (stA cs i) + F 2 (stA cs i) + F 3 (stA cs i)) + (if negB cs i then G 4 i else G 1 (stA cs i) + G 2 (stA cs i) + G 3 (stA cs i))) _ (fun i _ => by
    cases negB cs i <;> simp <;> omega), sumN_add]
  omega
theorem evF_add (cs : List Cp) (F G : Nat → Nat → Nat) : evF cs (fun k i => F k i + G k i) = evF cs F + evF cs G := by
  unfold evF
  dsimp only
  rw [sumN_congr _ (fun s => (F 1 s + F 2 s + F 3 s + sumN (fun i => F 4 i) (ngI cs cs.length s)) + (G 1 s + G 2 s + G 3 s + sumN (fun i => G 4 i) (ngI cs cs.length s))) _ (fun s _ => by
    have e1 : sumN (fun i => F 4 i + G 4 i) (ngI cs cs.length s) = sumN (fun i => F 4 i) (ngI cs cs.length s) + sumN (fun i => G 4 i) (ngI cs cs.length s) := sumN_add _ _ _
    omega), sumN_add]
  omega
theorem sumN_mul {α : Type} (f : α → Nat) (c : Nat) : ∀ l : List α, sumN (fun x => c * f x) l = c * sumN f l
  | [] => rfl
  | x :: l => by simp only [sumN]; rw [sumN_mul f c l, Nat.mul_add]
theorem evF_mul (cs : List Cp) (F : Nat → Nat → Nat) (c : Nat) : evF cs (fun k i => c * F k i) = c * evF cs F := by
  unfold evF
  dsimp only
  rw [sumN_congr _ (fun s => c * (F 1 s + F 2 s + F 3 s + sumN (fun i => F 4 i) (ngI cs cs.length s))) _ (fun s _ => by
    rw [sumN_mul]; simp only [Nat.mul_add]), sumN_mul, Nat.mul_add]
theorem posAt (cs : List Cp) : ∀ j, j ≤ cs.length → ∀ n, n < stA cs j → ∃ i, i < j ∧ negB cs i = false ∧ stA cs i = n
  | 0, _, n, h => by simp [stA, stg] at h
  | j + 1, hj, n, h => by
    have h1 := stA_succ cs j (by omega)
    rcases Nat.lt_or_ge n (stA cs j) with h2 | h2
    · obtain ⟨i, h3, h4⟩ := posAt cs j (by omega) n h2
      exact ⟨i, by omega, h4⟩
    · cases hn : negB cs j with
      | true => rw [hn] at h1; simp at h1; omega
      | false => rw [hn] at h1; simp at h1; exact ⟨j, by omega, hn, by omega⟩
theorem totF_ind (cs : List Cp) (kk nn : Nat) (hv : VP cs kk nn) : totF cs (indP kk nn) = 1 := by
  unfold totF
  rcases hv with ⟨hk, hn⟩ | ⟨rfl, hn, hneg⟩ | ⟨rfl, rfl⟩
  · obtain ⟨p, hp, hpn, hps⟩ := posAt cs cs.length (Nat.le_refl _) nn (by rw [stA_all]; exact hn)
    rw [sumN_congr _ (fun i => if i = p then 1 else 0) _ (fun i hi => ?_), sumN_ind p 1 _ List.nodup_range]
    · have h5 : indP kk nn 5 0 = 0 := by unfold indP; rw [if_neg (by omega)]
      rw [h5, if_pos (List.mem_range.2 hp)]
    · rw [List.mem_range] at hi
      by_cases hip : i = p
      · subst hip
        rw [if_pos rfl, hpn]
        unfold indP
        rcases hk with rfl | rfl | rfl <;> simp [hps]
      · rw [if_neg hip]
        cases hni : negB cs i with
        | true => simp [indP]; omega
        | false =>
          have hne : stA cs i ≠ nn := by
            intro e
            rcases Nat.lt_or_ge i p with h | h
            · have := stA_pos cs i p h (by omega) hni; omega
            · have := stA_pos cs p i (by omega) (by omega) hpn; omega
          simp [indP, hne]
  · rw [sumN_congr _ (fun i => if i = nn then 1 else 0) _ (fun i hi => ?_), sumN_ind nn 1 _ List.nodup_range]
    · have h5 : indP 4 nn 5 0 = 0 := by unfold indP; rw [if_neg (by omega)]
      rw [h5, if_pos (List.mem_range.2 hn)]
    · by_cases hin : i = nn
      · subst hin; simp [hneg, indP]
      · cases hni : negB cs i <;> simp [indP, hin]
  · rw [sumN_zero _ _ (fun i _ => by cases negB cs i <;> simp [indP])]
    simp [indP]
theorem evF_ind (cs : List Cp) (hl : negB cs (cs.length - 1) = false) (kk nn : Nat) (hv : VP cs kk nn) : evF cs (indP kk nn) = 1 := by
  unfold evF
  rcases hv with ⟨hk, hn⟩ | ⟨rfl, hn, hneg⟩ | ⟨rfl, rfl⟩
  · rw [sumN_congr _ (fun s => if s = nn then 1 else 0) _ (fun s _ => ?_), sumN_ind nn 1 _ List.nodup_range]
    · have h5 : indP kk nn 5 0 = 0 := by unfold indP; rw [if_neg (by omega)]
      rw [h5, if_pos (List.mem_range.2 hn)]
    · rw [sumN_zero _ _ (fun i _ => by unfold indP; rw [if_neg (by omega)])]
      unfold indP
      rcases hk with rfl | rfl | rfl <;> simp
  · rw [sumN_congr _ (fun s => if s = stA cs nn then 1 else 0) _ (fun s _ => ?_), sumN_ind (stA cs nn) 1 _ List.nodup_range]
    · have h5 : indP 4 nn 5 0 = 0 := by unfold indP; rw [if_neg (by omega)]
      rw [h5, if_pos (List.mem_range.2 (stA_lt cs hl nn hn))]
    · have e : sumN (fun i => indP 4 nn 4 i) (ngI cs cs.length s) = if nn ∈ ngI cs cs.length s then 1 else 0 := by
        rw [← sumN_ind nn 1 _ (ngI_nodup cs _ _)]
        exact sumN_congr _ _ _ (fun i _ => by simp [indP])
      rw [e]
      have hm : nn ∈ ngI cs cs.length s ↔ s = stA cs nn := by
        unfold ngI
        rw [List.mem_filter, List.mem_range]
        simp [hn, hneg]
        exact eq_comm
      by_cases hs : s = stA cs nn
      · rw [if_pos (hm.2 hs), if_pos hs]
        simp [indP]
      · rw [if_neg (fun h => hs (hm.1 h)), if_neg hs]
        simp [indP]
  · rw [sumN_zero _ _ (fun s _ => ?_)]
    · simp [indP]
    · rw [sumN_zero _ _ (fun i _ => by simp [indP])]
      simp [indP]

/-- The places of a condition, as indicators. -/
theorem inP_ind {cs : List Cp} {y : Ex} {k n : Nat} (ha : anchorOf cs (refsOf y) = ((k : Int), (n : Int), 0)) (k' i' : Nat) :
    (if inP cs y k' i' then 1 else 0) = indP k (plI k n) k' i' + (if twice cs y = 1 then indP 1 n k' i' else 0) := by
  unfold inP twice
  rw [ha]
  simp only [Int.toNat_natCast]
  by_cases h : (k : Int) = 2 ∧ againOf y = true
  · obtain ⟨h2, hg⟩ := h
    obtain rfl : k = 2 := by omega
    have ht : (if ((2 : Nat) : Int) = 2 ∧ againOf y = true then 1 else 0) = 1 := if_pos ⟨rfl, hg⟩
    rw [ht, hg]
    unfold indP plI
    by_cases h1 : k' = 1
    · subst h1
      by_cases hi : i' = n <;> simp [hi]
    · by_cases h2 : k' = 2
      · subst h2
        by_cases hi : i' = n <;> simp [hi]
      · simp [h1, h2]
  · rw [if_neg h]
    have h2 : (decide ((k : Int) = 2) && againOf y) = false := by
      cases h3 : againOf y with
      | false => simp
      | true =>
        have : ¬ (k : Int) = 2 := fun e => h ⟨e, h3⟩
        simp [this]
    rw [h2]
    unfold indP
    by_cases hk : k' = k ∧ i' = plI k n
    · obtain ⟨rfl, rfl⟩ := hk; simp
    · rw [if_neg hk]
      have : (decide (k' = k) && decide (i' = plI k n)) = false := by
        rw [Bool.and_eq_false_iff]
        by_cases h4 : k' = k
        · right; exact decide_eq_false (fun e => hk ⟨h4, e⟩)
        · left; exact decide_eq_false h4
      rw [if_neg (show ¬ ((decide (k' = k) && decide (i' = plI k n) || false && decide (k' = 1) && decide (i' = n)) = true) from by rw [this]; simp)]
      simp
theorem valid_first {cs : List Cp} {y : Ex} {k n : Nat} (ha : anchorOf cs (refsOf y) = ((k : Int), (n : Int), 0)) (h0 : patErr cs = 0) : VP cs k (plI k n) ∧ (twice cs y = 1 → VP cs 1 n) := by
  obtain ⟨k', n', h1, h2, hv, _⟩ := anchor_valid ha h0
  obtain rfl : k = k' := by omega
  obtain rfl : n = n' := by omega
  refine ⟨hv, fun h => ?_⟩
  unfold twice at h
  split at h
  · rename_i hc
    rw [ha] at hc
    have h2 : (k : Int) = 2 := hc.1
    obtain rfl : k = 2 := by omega
    rcases hv with ⟨_, hv⟩ | ⟨h, _⟩ | ⟨h, _⟩
    · exact Or.inl ⟨Or.inl rfl, hv⟩
    · exact absurd h (by decide)
    · exact absurd h (by decide)
  · exact absurd h (by decide)
theorem twice_le (cs : List Cp) (y : Ex) : twice cs y = 0 ∨ twice cs y = 1 := by unfold twice; split <;> simp

/-- How often a condition of the query stands anywhere. -/
theorem every_count {cs : List Cp} {e : Ex} {k n : Nat} (ha : anchorOf cs (refsOf e) = ((k : Int), (n : Int), 0)) (h0 : patErr cs = 0) (ws : List Ex) : evF cs (fun k i => cntX (placeL cs ws k i) e) = cntX ws e * (1 + twice cs e) := by
  obtain ⟨p0, p1, p2, p3, p4⟩ := patErr_parts h0
  obtain ⟨hv, hv1⟩ := valid_first ha h0
  have e1 : (fun k' i' => cntX (placeL cs ws k' i') e) = fun k' i' => cntX ws e * (indP k (plI k n) k' i' + (if twice cs e = 1 then indP 1 n k' i' else 0)) := by
    funext k' i'
    rw [cntX_place, ← inP_ind ha k' i']
    cases inP cs e k' i' <;> simp
  rw [e1, evF_mul, evF_add, evF_ind cs p4 _ _ hv]
  rcases twice_le cs e with h | h
  · rw [h]
    simp only [show ¬ ((0 : Nat) = 1) from by omega, if_false]
    have : evF cs (fun _ _ => 0) = 0 := by
      unfold evF
      dsimp only
      rw [sumN_zero _ _ (fun s _ => by rw [sumN_zero _ _ (fun _ _ => rfl)])]
    rw [this]
  · rw [h]
    simp only [if_true]
    rw [show (fun k' i' => indP 1 n k' i') = indP 1 n from rfl, evF_ind cs p4 _ _ (hv1 h)]
/-- How many stand anywhere. -/
theorem tot_step {cs : List Cp} {y : Ex} {k n : Nat} (ha : anchorOf cs (refsOf y) = ((k : Int), (n : Int), 0)) (h0 : patErr cs = 0) (ws : List Ex) : totF cs (fun k i => (placeL cs (ws ++ [y]) k i).length) = totF cs (fun k i => (placeL cs ws k i).length) + (1 + twice cs y) := by
  obtain ⟨hv, hv1⟩ := valid_first ha h0
  have e1 : (fun k' i' => (placeL cs (ws ++ [y]) k' i').length) = fun k' i' => (placeL cs ws k' i').length + (indP k (plI k n) k' i' + (if twice cs y = 1 then indP 1 n k' i' else 0)) := by
    funext k' i'
    rw [placeL_snoc, placeStep_at, List.length_append, ← inP_ind ha k' i']
    cases inP cs y k' i' <;> simp
  rw [e1, totF_add, totF_add, totF_ind cs _ _ hv]
  rcases twice_le cs y with h | h
  · rw [h]
    simp only [show ¬ ((0 : Nat) = 1) from by omega, if_false]
    have : totF cs (fun _ _ => 0) = 0 := by
      unfold totF
      rw [sumN_zero _ _ (fun s _ => by cases negB cs s <;> simp)]
    rw [this]
  · rw [h]
    simp only [if_true]
    rw [show (fun k' i' => indP 1 n k' i') = indP 1 n from rfl, totF_ind cs _ _ (hv1 h)]
end Go.Proofs.Ytgnifglolbfamaa
