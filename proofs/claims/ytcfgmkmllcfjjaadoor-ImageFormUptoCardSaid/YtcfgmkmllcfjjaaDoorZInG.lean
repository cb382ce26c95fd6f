import Derived.Test.YtcfgmkmllcfjjaaDoorZInF
set_option linter.unusedVariables false
set_option linter.unusedSimpArgs false
namespace Go.Proofs.YtcfgmkmllcfjjaaDoor
open Go.RowKit Go.Proofs.YtcfgmkmllcfjjaaDoorW.PrintWords Go.Proofs.YtcfgmkmllcfjjaaDoorW.PrintMore PImageForm
section
variable {α : Type} {one : Rl → α × Rl}
theorem getF_bad (n : Nat) {s : Rl} (h : s.1.2 = true) : getF one n s = ([], s) := by
  cases n with
  | zero => rfl
  | succ n => rw [getF, if_pos h]
theorem getF_len (h : OneOk one) : ∀ (n : Nat) (s : Rl), Rok s.1 → (getF one n s).1.length + (getF one n s).2.1.1.length ≤ s.1.1.length + 1
  | 0, s, hs => by rw [getF]; simp
  | n + 1, s, hs => by
    rw [getF]
    by_cases hb : s.1.2 = true
    · rw [if_pos hb]; simp
    · rw [if_neg hb]
      obtain ⟨h1, h2, h3⟩ := h s hs
      have ih := getF_len h n (one s).2 h1
      simp only [List.length_cons]
      by_cases hb2 : (one s).2.1.2 = true
      · rw [getF_bad n hb2]
        simp only [List.length_nil]
        omega
      · have := h3 (by simpa using hb) (by simpa using hb2)
        omega
theorem getR_len (h : OneOk one) (s : Rl) (hs : Rok s.1) : (getR one s).1.length ≤ s.1.1.length + 1 := by
  have h2 := num_len s.1
  unfold getR
  split
  · simp
  · have h3 := getF_len h (numR s.1).1.toNat ((numR s.1).2, s.2) hs.num
    have h4 : ((numR s.1).2, s.2).1.1.length = (numR s.1).2.1.length := rfl
    omega
theorem getF_all (h : OneOk one) {P : α → Prop} {B : Nat} (hP : ∀ s : Rl, Rok s.1 → s.1.1.length ≤ B → P (one s).1) : ∀ (n : Nat) (s : Rl), Rok s.1 → s.1.1.length ≤ B → ∀ x ∈ (getF one n s).1, P x
  | 0, s, hs, hB => fun x hx => by rw [getF] at hx; cases hx
  | n + 1, s, hs, hB => fun x hx => by
    rw [getF] at hx
    by_cases hb : s.1.2 = true
    · rw [if_pos hb] at hx; cases hx
    · rw [if_neg hb] at hx
      obtain ⟨h1, h2, h3⟩ := h s hs
      rcases List.mem_cons.1 hx with rfl | hx
      · exact hP s hs hB
      · exact getF_all h hP n _ h1 (Nat.le_trans h2 hB) x hx
theorem getR_all (h : OneOk one) {P : α → Prop} {B : Nat} (hP : ∀ s : Rl, Rok s.1 → s.1.1.length ≤ B → P (one s).1) (s : Rl) (hs : Rok s.1) (hB : s.1.1.length ≤ B) : ∀ x ∈ (getR one s).1, P x := by
  unfold getR
  split
  · intro x hx; cases hx
  · exact getF_all h hP _ _ hs.num (Nat.le_trans (num_len s.1) hB)
end
theorem wvalue_I64 (l : List Int) (s : Ws) : I64 (wvalue l s).1.f1 := by
  have h0 : I64 0 := ⟨by decide, by decide⟩
  unfold wvalue
  split
  · split
    · exact wnum_rng (lo := minI) (hi := maxI) (by decide) (by decide) _
    · split
      · exact h0
      · exact h0
  · exact h0
theorem wvals_I64 (l : List Int) : ∀ (n : Nat) (s : Ws), ∀ y ∈ (wvals l n s).1, I64 y.f1
  | 0, _, y, hy => by cases hy
  | n + 1, s, y, hy => by
    rcases List.mem_cons.1 hy with rfl | hy
    · exact wvalue_I64 l s
    · exact wvals_I64 l n _ y hy
theorem wvals_len (l : List Int) : ∀ (n : Nat) (s : Ws), (wvals l n s).1.length = n
  | 0, _ => rfl
  | n + 1, s => by
    show (_ :: (wvals l n _).1).length = n + 1
    rw [List.length_cons, wvals_len l n]
theorem decR_vals (l : List Int) : (∀ y ∈ (decR l).1.f2, I64 y.f1) ∧ (decR l).1.f2.length ≤ 16 := by
  unfold decR
  split
  · refine ⟨wvals_I64 l _ _, ?_⟩
    show (wvals l _ _).1.length ≤ 16
    rw [wvals_len]
    have := wnum_rng' (l := l) (lo := 0) (hi := 16) (by decide) (by decide) (wtime l (wname l (0, 0)).2).2
    have h2 : wcount l (wtime l (wname l (0, 0)).2).2 = wnum l 0 16 (wtime l (wname l (0, 0)).2).2 := rfl
    rw [h2]
    omega
  · exact ⟨(fun y hy => by cases hy), Nat.zero_le _⟩
theorem flat_le {α : Type} {f : α → List Int} {xs : List α} {B : Nat} (h : ∀ x ∈ xs, (f x).length ≤ B) : (xs.flatMap f).length ≤ xs.length * B := by
  induction xs with
  | nil => simp
  | cons x xs ih =>
    have h1 := h x List.mem_cons_self
    have h2 := ih (fun y hy => h y (List.mem_cons_of_mem _ hy))
    rw [List.flatMap_cons, List.length_append, List.length_cons, Nat.add_mul]
    omega
theorem len_I64 {n : Nat} (h : n ≤ 9223372036854775807) : I64 (n : Int) := ⟨by omega, by omega⟩
theorem name_len {s : ByteArray} (h : nameB s = true) : s.size ≤ 32 := by
  unfold nameB at h
  split at h
  · simp only [Bool.and_eq_true, decide_eq_true_eq] at h
    exact h.1.1.1
  · cases h
theorem txt_le {s : ByteArray} {B : Nat} (h : s.size ≤ B) (hB : B ≤ 1000000) : (txt s).length ≤ 10 + B := by
  have := txt_len s (by omega)
  omega
theorem encVal_le {x : S66} (h : ValOk x) : (encVal x).length ≤ 300 := by
  unfold encVal
  rcases h with ⟨n, hn⟩ | ⟨s, hs⟩ | ⟨b⟩
  · have := puti_len hn
    simp only [if_true, List.length_cons]
    omega
  · have := txt_le hs (by decide)
    show (2 :: txt s).length ≤ 300
    rw [List.length_cons]
    omega
  · show (3 :: [_]).length ≤ 300
    simp
theorem encB_le {x : S69} (hv : ∀ y ∈ x.f2, I64 y.f1) : (encB x).length ≤ 5000 := by
  unfold encB
  split
  · rename_i h
    obtain ⟨h1, h2, h3, h4⟩ := fault_zero h
    have a1 := txt_le (name_len h1) (by decide)
    have a2 := puti_len (n := x.f1) ⟨by omega, by omega⟩
    have a3 := puti_len (n := (x.f2.length : Int)) (len_I64 (by omega))
    have a4 := flat_le (f := encVal) (xs := x.f2) (B := 300) (fun y hy => encVal_le (validB_ok (h4 y hy) (hv y hy)))
    have a5 : x.f2.length * 300 ≤ 16 * 300 := Nat.mul_le_mul_right _ h3
    simp only [encEvent, List.length_append]
    omega
  · simp
theorem encSeenL_len (last : Int) (xs : List S71) (hv : ∀ x ∈ xs, ∀ y ∈ x.f1.f2, I64 y.f1) : (encSeenL last xs).length ≤ xs.length * 5011 := by
  induction xs generalizing last with
  | nil => simp [encSeenL]
  | cons x xs ih =>
    have h1 := encB_le (hv x List.mem_cons_self)
    have h2 := ih x.f0 (fun y hy => hv y (List.mem_cons_of_mem _ hy))
    have h3 := puti_len (sub64_I64 x.f0 last)
    simp only [encSeenL, encSeen, List.length_append, List.length_cons, List.length_nil, Nat.add_mul]
    omega
theorem laid_len {m : Img} (hm : ImgI m) (hs : m.seens.length ≤ 100000000) (h : mayB m = true) : (laid m).length ≤ 10000000000000 := by
  unfold mayB at h
  simp only [Bool.and_eq_true, decide_eq_true_eq, List.all_eq_true] at h
  obtain ⟨_, _, _, _, h5, h6, h7, h8, _⟩ := h
  have a1 := puti_len hm.runs
  have a2 := puti_len hm.made
  have a3 := puti_len hm.seq
  have a4 := puti_len hm.now
  have ha : ∀ x ∈ m.types, (encType x).length ≤ 1000 := by
    intro x hx
    have h1 := h7 x hx
    unfold typeB at h1
    simp only [Bool.and_eq_true, decide_eq_true_eq, List.all_eq_true] at h1
    obtain ⟨k1, k2, k3⟩ := h1
    have b1 := txt_le (name_len k1) (by decide)
    have b2 := puti_len (len_I64 (n := x.f1.length) (by omega))
    have b3 := flat_le (f := encAttr) (xs := x.f1) (B := 43) (fun y hy => by
      have k4 := k3 y hy
      unfold attrB at k4
      simp only [Bool.and_eq_true] at k4
      have := txt_le (name_len k4.1) (by decide)
      simp only [encAttr, List.length_append, List.length_singleton]
      omega)
    have b4 : x.f1.length * 43 ≤ 16 * 43 := Nat.mul_le_mul_right _ k2
    simp only [encType, encAttrs, List.length_append]
    omega
  have hq : ∀ x ∈ m.saved, (encSaved x).length ≤ 5000 := by
    intro x hx
    have h1 := h8 x hx
    unfold savedB at h1
    simp only [Bool.and_eq_true, decide_eq_true_eq] at h1
    obtain ⟨k1, k2, _⟩ := h1
    have b1 := txt_le (name_len k1) (by decide)
    have b2 := txt_le k2 (by decide)
    have b3 := puti_len (hm.since x hx)
    simp only [encSaved, List.length_append, List.length_singleton]
    omega
  have c1 := flat_le ha
  have c2 := flat_le hq
  have c3 := encSeenL_len 0 m.seens hm.vals
  have c4 : m.types.length * 1000 ≤ 64 * 1000 := Nat.mul_le_mul_right _ h5
  have c5 : m.saved.length * 5000 ≤ 64 * 5000 := Nat.mul_le_mul_right _ h6
  have c6 : m.seens.length * 5011 ≤ 100000000 * 5011 := Nat.mul_le_mul_right _ hs
  have d1 := puti_len (len_I64 hm.lt)
  have d2 := puti_len (len_I64 hm.lq)
  have d3 := puti_len (len_I64 hm.ls)
  simp only [laid, laidK, encNums, encTypes, encSaveds, encSeens, magicL, List.length_append, List.length_cons, List.length_nil]
  omega
end Go.Proofs.YtcfgmkmllcfjjaaDoor
