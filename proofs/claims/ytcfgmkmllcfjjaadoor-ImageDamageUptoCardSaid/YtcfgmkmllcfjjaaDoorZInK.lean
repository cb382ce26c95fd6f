import Derived.Test.YtcfgmkmllcfjjaaDoorZInJ
set_option linter.unusedVariables false
set_option linter.unusedSimpArgs false
namespace Go.Proofs.YtcfgmkmllcfjjaaDoor
open Go.RowKit Go.Proofs.YtcfgmkmllcfjjaaDoorW.PrintWords Go.Proofs.YtcfgmkmllcfjjaaDoorW.PrintMore PImageForm
theorem wrap_sub {x last : Int} (h : I64 x) : IntKind.i64.wrap (last + sub64 x last) = x := by
  obtain ⟨h1, h2⟩ := h
  unfold sub64
  rw [IntKind.wrap_i64, IntKind.wrap_i64]
  omega
theorem seenR_enc {x : S71} {last : Int} (hx : I64 x.f0) (hf : faultN x.f1 = 0) (hv : ∀ y ∈ x.f1.f2, I64 y.f1) (t : List Int) : seenR ((encSeen last x ++ t, false), last) = (x, ((t, false), x.f0)) := by
  have hE : encB x.f1 = encEvent x.f1 := if_pos hf
  have h1 : numR (((encSeen last x ++ t, false), last) : Rl).1 = (sub64 x.f0 last, ([if x.f2 then (1 : Int) else 0] ++ (encEvent x.f1 ++ t), false)) := by
    rw [show (((encSeen last x ++ t, false), last) : Rl).1 = (puti (sub64 x.f0 last) ++ ([if x.f2 then (1 : Int) else 0] ++ (encEvent x.f1 ++ t)), false) by rw [encSeen, hE, List.append_assoc, List.append_assoc], numR_puti (sub64_I64 _ _)]
  have h2 : seenM ((encSeen last x ++ t, false), last) = (x.f2, (encEvent x.f1 ++ t, false)) := by
    unfold seenM
    rw [h1]
    exact truthR_flag x.f2 _
  have h3 : seenX ((encSeen last x ++ t, false), last) = (x.f1, (encEvent x.f1).length, 0) := by
    unfold seenX
    rw [h2]
    exact decR_enc hf hv t
  have h4 : seenL ((encSeen last x ++ t, false), last) = x.f0 := by
    unfold seenL
    rw [h1]
    exact wrap_sub hx
  have h5 : seenE ((encSeen last x ++ t, false), last) = (t, false) := by
    unfold seenE
    rw [h3, h2]
    exact takeR_app _ _ _
  unfold seenR
  rw [h5, h4, h3, h2]
theorem getF_seens (t : List Int) : ∀ (xs : List S71) (last : Int), (∀ x ∈ xs, I64 x.f0 ∧ faultN x.f1 = 0 ∧ ∀ y ∈ x.f1.f2, I64 y.f1) → getF seenR xs.length ((encSeenL last xs ++ t, false), last) = (xs, ((t, false), lastL last xs))
  | [], last, _ => by
    show getF seenR 0 _ = _
    rw [getF]
    rfl
  | x :: xs, last, h => by
    obtain ⟨h1, h2, h3⟩ := h x List.mem_cons_self
    rw [List.length_cons, getF, encSeenL, List.append_assoc, seenR_enc h1 h2 h3, getF_seens t xs x.f0 (fun y hy => h y (List.mem_cons_of_mem _ hy))]
    rfl
theorem getR_seens (t : List Int) (xs : List S71) (hl : xs.length ≤ 9223372036854775807) (h : ∀ x ∈ xs, I64 x.f0 ∧ faultN x.f1 = 0 ∧ ∀ y ∈ x.f1.f2, I64 y.f1) : getR seenR ((encSeens xs ++ t, false), 0) = (xs, ((t, false), lastL 0 xs)) := by
  unfold getR
  rw [show (((encSeens xs ++ t, false), 0) : Rl).1 = (puti xs.length ++ (encSeenL 0 xs ++ t), false) by rw [encSeens, List.append_assoc], numR_puti (len_I64 hl)]
  rw [if_neg (by show ¬ (xs.length : Int) < 0; omega)]
  show getF seenR ((xs.length : Int)).toNat ((encSeenL 0 xs ++ t, false), 0) = _
  rw [Int.toNat_natCast, getF_seens t xs 0 h]
theorem seens_I64 {seq : Int} (hq : I64 seq) : ∀ (last : Int) (xs : List S71), -9223372036854775808 ≤ last → seensB seq last xs = true → ∀ x ∈ xs, I64 x.f0
  | _, [], _, _, x, hx => by cases hx
  | last, y :: ys, h0, h, x, hx => by
    unfold seensB at h
    simp only [Bool.and_eq_true, decide_eq_true_eq] at h
    obtain ⟨h1, h2, h3⟩ := h
    rcases List.mem_cons.1 hx with rfl | hx
    · exact ⟨by omega, by have := hq.2; omega⟩
    · exact seens_I64 hq y.f0 ys (by omega) h3 x hx
theorem ldMagic_app (t : List Int) : ldMagic (magicL ++ t, false) = (t, false) := by
  have h1 := takenR_app magicL t false
  have h2 := takeR_app magicL t false
  rw [show ((magicL.length : Nat) : Int) = 4 from rfl] at h1 h2
  unfold ldMagic
  rw [h1, h2, if_pos (by decide)]
theorem ldNums_app {m : Img} (hm : ImgI m) (t : List Int) (m0 : Img) : ldNums (encNums m ++ t, false) m0 = ((t, false), { m0 with runs := m.runs, made := m.made, seq := m.seq, now := m.now }) := by
  unfold ldNums
  rw [show encNums m ++ t = puti m.runs ++ (puti m.made ++ (puti m.seq ++ (puti m.now ++ t))) by rw [encNums, List.append_assoc, List.append_assoc, List.append_assoc]]
  rw [numR_puti hm.runs]
  simp only
  rw [numR_puti hm.made]
  simp only
  rw [numR_puti hm.seq]
  simp only
  rw [numR_puti hm.now]
theorem may_all {m : Img} (hm : ImgI m) (h : mayB m = true) (hb : ¬ badL m.seens = true) :
    (∀ x ∈ m.types, x.f0.size ≤ 9223372036854775807 ∧ x.f1.length ≤ 9223372036854775807 ∧ ∀ y ∈ x.f1, y.f0.size ≤ 9223372036854775807 ∧ 0 ≤ y.f1 ∧ y.f1 < 256) ∧
    (∀ x ∈ m.saved, x.f0.size ≤ 9223372036854775807 ∧ x.f1.size ≤ 9223372036854775807 ∧ I64 x.f2) ∧ (∀ x ∈ m.seens, I64 x.f0 ∧ faultN x.f1 = 0 ∧ ∀ y ∈ x.f1.f2, I64 y.f1) := by
  unfold mayB at h
  simp only [Bool.and_eq_true, decide_eq_true_eq, List.all_eq_true] at h
  obtain ⟨_, _, _, _, h5, h6, h7, h8, h9⟩ := h
  refine ⟨fun x hx => ?_, fun x hx => ?_, fun x hx => ⟨seens_I64 hm.seq 0 m.seens (by omega) h9 x hx, ?_, hm.vals x hx⟩⟩
  · have h1 := h7 x hx
    unfold typeB at h1
    simp only [Bool.and_eq_true, decide_eq_true_eq, List.all_eq_true] at h1
    obtain ⟨k1, k2, k3⟩ := h1
    refine ⟨by have := name_len k1; omega, by omega, fun y hy => ?_⟩
    have k4 := k3 y hy
    unfold attrB at k4
    simp only [Bool.and_eq_true, decide_eq_true_eq] at k4
    have := name_len k4.1
    omega
  · have h1 := h8 x hx
    unfold savedB at h1
    simp only [Bool.and_eq_true, decide_eq_true_eq] at h1
    have := name_len h1.1
    exact ⟨by omega, by omega, hm.since x hx⟩
  · rcases Classical.em (faultN x.f1 = 0) with h1 | h1
    · exact h1
    · exfalso
      apply hb
      exact List.any_eq_true.mpr ⟨x, hx, by simpa using h1⟩
theorem laid_app (m : Img) (t : List Int) : laid m ++ t = magicL ++ (encNums m ++ (encTypes m.types ++ (encSaveds m.saved ++ (encSeens m.seens ++ t)))) := by
  simp only [laid, laidK, List.nil_append, List.append_assoc]
theorem ld_laid {m : Img} (hm : ImgI m) (h : mayB m = true) (hb : ¬ badL m.seens = true) : ldK (laid m, false) 5 = (([], false), m) := by
  obtain ⟨ht, hq, hs⟩ := may_all hm h hb
  have e0 : laid m = magicL ++ (encNums m ++ (encTypes m.types ++ (encSaveds m.saved ++ (encSeens m.seens ++ [])))) := by rw [← laid_app, List.append_nil]
  have k1 : ldK (laid m, false) 1 = ((encNums m ++ (encTypes m.types ++ (encSaveds m.saved ++ (encSeens m.seens ++ []))), false), zImg) := by
    rw [e0, ldK_succ]
    show (ldMagic (magicL ++ _, false), zImg) = _
    rw [ldMagic_app]
  have k2 : ldK (laid m, false) 2 = ((encTypes m.types ++ (encSaveds m.saved ++ (encSeens m.seens ++ [])), false), { zImg with runs := m.runs, made := m.made, seq := m.seq, now := m.now }) := by
    rw [ldK_succ, k1]
    exact ldNums_app hm _ zImg
  have k3 : ldK (laid m, false) 3 = ((encSaveds m.saved ++ (encSeens m.seens ++ []), false), { zImg with runs := m.runs, made := m.made, seq := m.seq, now := m.now, types := m.types }) := by
    rw [ldK_succ, k2]
    have hg := getR_enc (one := typeR) (f := encType) (encSaveds m.saved ++ (encSeens m.seens ++ [])) 0 m.types hm.lt (fun x hx t => typeR_enc (ht x hx).1 (ht x hx).2.1 (ht x hx).2.2 t 0)
    rw [← List.append_assoc] at hg
    show ((getR typeR ((encTypes m.types ++ _, false), 0)).2.1, _) = _
    rw [encTypes, hg]
  have k4 : ldK (laid m, false) 4 = ((encSeens m.seens ++ [], false), { zImg with runs := m.runs, made := m.made, seq := m.seq, now := m.now, types := m.types, saved := m.saved }) := by
    rw [ldK_succ, k3]
    have hg := getR_enc (one := savedR) (f := encSaved) (encSeens m.seens ++ []) 0 m.saved hm.lq (fun x hx t => savedR_enc (hq x hx).1 (hq x hx).2.1 (hq x hx).2.2 t 0)
    rw [← List.append_assoc] at hg
    show ((getR savedR ((encSaveds m.saved ++ _, false), 0)).2.1, _) = _
    rw [encSaveds, hg]
  rw [ldK_succ, k4]
  show ((getR seenR ((encSeens m.seens ++ [], false), 0)).2.1, _) = _
  rw [getR_seens [] m.seens hm.ls hs]
theorem save_zero {m : Img} (h : saveE m = 0) : mayB m = true ∧ ¬ badL m.seens = true ∧ (laid m).length + 4 ≤ 67108864 := by
  unfold saveE at h
  split at h
  · rename_i h1
    split at h
    · cases h
    · rename_i h2
      split at h
      · cases h
      · exact ⟨h1, h2, by omega⟩
  · cases h
theorem laid_ge (m : Img) : 8 ≤ (laid m).length := by
  have h1 := puti_pos m.runs
  have h2 := puti_pos m.made
  have h3 := puti_pos m.seq
  have h4 := puti_pos m.now
  simp only [laid, laidK, encNums, magicL, List.length_append, List.length_cons, List.length_nil]
  omega
theorem load_save {m : Img} (hm : ImgI m) (h : saveE m = 0) : loadF (saveB m) = (m, 0) := by
  obtain ⟨h1, h2, h3⟩ := save_zero h
  have h8 := laid_ge m
  have hb : saveB m = laid m ++ sumB (laid m) := if_pos h
  have hl : (saveB m).length = (laid m).length + 4 := by rw [hb, List.length_append, sumB_len]
  have ht : (saveB m).take ((saveB m).length - 4) = laid m := by rw [hl, Nat.add_sub_cancel, hb, List.take_left]
  have hd : (saveB m).drop ((saveB m).length - 4) = sumB (laid m) := by rw [hl, Nat.add_sub_cancel, hb, List.drop_left]
  have hld : loadM (saveB m) = (([], false), m) := by
    unfold loadM
    rw [ht, ld_laid hm h1 h2]
  unfold loadF
  rw [if_neg (by omega), if_neg (by omega), ht, hd, if_pos rfl, hld]
  simp only
  rw [if_neg (by simp), if_pos ⟨h, trivial⟩]
theorem loadF_cases (L : List Int) : ((loadF L).1 = zImg ∧ (loadF L).2 ≠ 0) ∨ ∃ m, loadF L = (m, 0) ∧ saveE m = 0 ∧ saveB m = L := by
  unfold loadF
  by_cases h1 : 67108864 < L.length
  · rw [if_pos h1]
    exact .inl ⟨rfl, show (2 : Int) ≠ 0 by decide⟩
  · rw [if_neg h1]
    by_cases h2 : L.length < 8
    · rw [if_pos h2]
      exact .inl ⟨rfl, show (30 : Int) ≠ 0 by decide⟩
    · rw [if_neg h2]
      by_cases h3 : sumB (L.take (L.length - 4)) = L.drop (L.length - 4)
      · rw [if_pos h3]
        by_cases h4 : (loadM L).1.2 = true ∨ 0 < (loadM L).1.1.length
        · rw [if_pos h4]
          exact .inl ⟨rfl, show (220 : Int) ≠ 0 by decide⟩
        · rw [if_neg h4]
          by_cases h5 : saveE (loadM L).2 = 0 ∧ saveB (loadM L).2 = L
          · rw [if_pos h5]
            exact .inr ⟨_, rfl, h5⟩
          · rw [if_neg h5]
            exact .inl ⟨rfl, show (220 : Int) ≠ 0 by decide⟩
      · rw [if_neg h3]
        exact .inl ⟨rfl, show (32 : Int) ≠ 0 by decide⟩
theorem load_ok {L : List Int} {m : Img} (h : loadF L = (m, 0)) : saveE m = 0 ∧ saveB m = L := by
  rcases loadF_cases L with ⟨_, h2⟩ | ⟨m', h1, h2⟩
  · rw [h] at h2
    exact absurd rfl h2
  · rw [h] at h1
    injection h1 with h1 _
    subst h1
    exact h2
theorem load_bad {L : List Int} (h : (loadF L).2 ≠ 0) : (loadF L).1 = zImg := by
  rcases loadF_cases L with ⟨h1, _⟩ | ⟨m', h1, _⟩
  · exact h1
  · rw [h1] at h
    exact absurd rfl h
end Go.Proofs.YtcfgmkmllcfjjaaDoor

set_option linter.unusedVariables false
set_option linter.unusedSimpArgs false
namespace Go.Proofs.YtcfgmkmllcfjjaaDoor
open Go.RowKit Go.Proofs.YtcfgmkmllcfjjaaDoorW.PrintWords Go.Proofs.YtcfgmkmllcfjjaaDoorW.PrintMore PImageForm
theorem sumF_app : ∀ (a b : List Int) (p q : Int), sumF p q (a ++ b) = sumF (sumF p q a).1 (sumF p q a).2 b
  | [], _, _, _ => rfl
  | x :: a, b, p, q => by
    show sumF _ _ (a ++ b) = _
    rw [sumF_app a b]
    rfl
theorem sumF_dp : ∀ (l : List Int) (p1 q1 p2 q2 : Int), ((sumF p1 q1 l).1 - (sumF p2 q2 l).1) % 65521 = (p1 - p2) % 65521
  | [], _, _, _, _ => rfl
  | x :: l, p1, q1, p2, q2 => by
    show ((sumF _ _ l).1 - (sumF _ _ l).1) % 65521 = _
    rw [sumF_dp l]
    omega
theorem sumF_dq : ∀ (l : List Int) (p q1 q2 : Int), (sumF p q1 l).1 = (sumF p q2 l).1 ∧ ((sumF p q1 l).2 - (sumF p q2 l).2) % 65521 = (q1 - q2) % 65521
  | [], _, _, _ => ⟨rfl, rfl⟩
  | x :: l, p, q1, q2 => by
    obtain ⟨h1, h2⟩ := sumF_dq l ((p + x) % 65521) ((q1 + (p + x) % 65521) % 65521) ((q2 + (p + x) % 65521) % 65521)
    refine ⟨h1, ?_⟩
    show ((sumF _ _ l).2 - (sumF _ _ l).2) % 65521 = _
    rw [h2]
    omega
theorem sumOf_inj {r s : Int × Int} (hr : (0 ≤ r.1 ∧ r.1 < 65521) ∧ (0 ≤ r.2 ∧ r.2 < 65521)) (hs : (0 ≤ s.1 ∧ s.1 < 65521) ∧ (0 ≤ s.2 ∧ s.2 < 65521)) (h : sumOf r = sumOf s) : r = s := by
  unfold sumOf at h
  simp only [List.cons.injEq, and_true] at h
  obtain ⟨h1, h2, h3, h4⟩ := h
  exact Prod.ext (by omega) (by omega)
theorem sumB_inj {a b : List Int} (h : sumB a = sumB b) : sumF 1 0 a = sumF 1 0 b :=
  sumOf_inj (sumF_rng a 1 0 (by decide) (by decide) (by decide) (by decide)) (sumF_rng b 1 0 (by decide) (by decide) (by decide) (by decide)) h
theorem sum_change {a b : List Int} {x y : Int} (h : x ≠ y) (hx : 0 ≤ x ∧ x < 256) (hy : 0 ≤ y ∧ y < 256) : sumB (a ++ x :: b) ≠ sumB (a ++ y :: b) := by
  intro he
  have h1 := congrArg Prod.fst (sumB_inj he)
  rw [sumF_app, sumF_app] at h1
  generalize sumF 1 0 a = r at h1
  have h2 := sumF_dp (b) ((r.1 + x) % 65521) ((r.2 + (r.1 + x) % 65521) % 65521) ((r.1 + y) % 65521) ((r.2 + (r.1 + y) % 65521) % 65521)
  have h3 : (sumF ((r.1 + x) % 65521) ((r.2 + (r.1 + x) % 65521) % 65521) b).1 = (sumF ((r.1 + y) % 65521) ((r.2 + (r.1 + y) % 65521) % 65521) b).1 := h1
  rw [h3, Int.sub_self] at h2
  omega
theorem sum_swap {a b : List Int} {x y : Int} (h : x ≠ y) (hx : 0 ≤ x ∧ x < 256) (hy : 0 ≤ y ∧ y < 256) : sumB (a ++ x :: y :: b) ≠ sumB (a ++ y :: x :: b) := by
  intro he
  have h1 := congrArg Prod.snd (sumB_inj he)
  rw [sumF_app, sumF_app] at h1
  generalize sumF 1 0 a = r at h1
  obtain ⟨p, q⟩ := r
  have h1 : (sumF (((p + x) % 65521 + y) % 65521) (((q + (p + x) % 65521) % 65521 + ((p + x) % 65521 + y) % 65521) % 65521) b).2 = (sumF (((p + y) % 65521 + x) % 65521) (((q + (p + y) % 65521) % 65521 + ((p + y) % 65521 + x) % 65521) % 65521) b).2 := h1
  have hp : ((p + x) % 65521 + y) % 65521 = ((p + y) % 65521 + x) % 65521 := by omega
  rw [hp] at h1
  have h2 := (sumF_dq b (((p + y) % 65521 + x) % 65521) (((q + (p + x) % 65521) % 65521 + ((p + y) % 65521 + x) % 65521) % 65521) (((q + (p + y) % 65521) % 65521 + ((p + y) % 65521 + x) % 65521) % 65521)).2
  rw [h1, Int.sub_self] at h2
  omega
structure Summed (L : List Int) : Prop where
  bytes : Bytes L
  lo : 8 ≤ L.length
  hi : L.length ≤ 67108864
  sum : sumB (L.take (L.length - 4)) = L.drop (L.length - 4)
theorem save_summed {m : Img} (hm : ImgI m) (h : saveE m = 0) : Summed (saveB m) := by
  obtain ⟨h1, h2, h3⟩ := save_zero h
  have h8 := laid_ge m
  have hb : saveB m = laid m ++ sumB (laid m) := if_pos h
  have hl : (saveB m).length = (laid m).length + 4 := by rw [hb, List.length_append, sumB_len]
  refine ⟨by rw [hb]; exact (laid_bytes hm).append (sumB_bytes _), by omega, by omega, ?_⟩
  rw [hl, Nat.add_sub_cancel, hb, List.take_left, List.drop_left]
theorem load_sum {L : List Int} (h0 : 8 ≤ L.length) (h1 : L.length ≤ 67108864) (h : sumB (L.take (L.length - 4)) ≠ L.drop (L.length - 4)) : loadF L = (zImg, 32) := by
  unfold loadF
  rw [if_neg (by omega), if_neg (by omega), if_neg h]
theorem split_at {L : List Int} {k : Nat} (h : k < L.length) : L = L.take k ++ L[k] :: L.drop (k + 1) := by
  conv => lhs; rw [← List.take_append_drop k L, List.drop_eq_getElem_cons h]
theorem set_split {L : List Int} {k : Nat} (h : k < L.length) (y : Int) : L.set k y = L.take k ++ y :: L.drop (k + 1) := List.set_eq_take_append_cons_drop .. |>.trans (if_pos h)
theorem damage_one {L : List Int} (hL : Summed L) {k : Nat} (hk : k < L.length) {y : Int} (hy : 0 ≤ y ∧ y < 256) (hne : y ≠ L[k]) : loadF (L.set k y) = (zImg, 32) := by
  have hx := hL.bytes L[k] (List.getElem_mem hk)
  have hlo := hL.lo
  refine load_sum (by rw [List.length_set]; exact hL.lo) (by rw [List.length_set]; exact hL.hi) ?_
  rw [List.length_set]
  generalize hn : L.length - 4 = n
  have hs := hL.sum
  rw [hn] at hs
  by_cases hkn : k < n
  · intro he
    rw [List.drop_set_of_lt hkn, ← hs] at he
    have hkt : k < (L.take n).length := by rw [List.length_take]; omega
    have e1 : (L.set k y).take n = (L.take n).set k y := by rw [List.take_set]
    rw [e1, set_split hkt] at he
    have e2 := split_at hkt
    have e3 : (L.take n)[k] = L[k] := List.getElem_take
    rw [e3] at e2
    exact sum_change hne hy hx (he.trans (congrArg sumB e2))
  · intro he
    rw [List.take_set_of_le (by omega), hs] at he
    have h1 := congrArg (fun l : List Int => l[k - n]?) he
    simp only [List.getElem?_drop] at h1
    rw [show n + (k - n) = k by omega, List.getElem?_eq_getElem hk, List.getElem?_eq_getElem (by rw [List.length_set]; exact hk), List.getElem_set_self] at h1
    exact hne (Option.some.inj h1).symm
theorem damage_swap {L : List Int} (hL : Summed L) {j : Nat} (hj : j < L.length - 5) (h1 : j + 1 < L.length) (hne : L[j]'(by omega) ≠ L[j + 1]) : loadF ((L.set j L[j + 1]).set (j + 1) (L[j]'(by omega))) = (zImg, 32) := by
  have hj0 : j < L.length := by omega
  have hx := hL.bytes L[j] (List.getElem_mem hj0)
  have hy := hL.bytes L[j + 1] (List.getElem_mem h1)
  have hlo := hL.lo
  have hl : ((L.set j L[j + 1]).set (j + 1) L[j]).length = L.length := by rw [List.length_set, List.length_set]
  refine load_sum (by rw [hl]; exact hL.lo) (by rw [hl]; exact hL.hi) ?_
  rw [hl]
  generalize hn : L.length - 4 = n
  have hs := hL.sum
  rw [hn] at hs
  intro he
  rw [List.drop_set_of_lt (by omega), List.drop_set_of_lt (by omega), ← hs, List.take_set, List.take_set] at he
  have ht : (L.take n).length = n := by rw [List.length_take]; omega
  have e0 : L.take n = (L.take n).take j ++ L[j] :: L[j + 1] :: (L.take n).drop (j + 1 + 1) := by
    have a1 := split_at (L := L.take n) (k := j) (by omega)
    have a2 : (L.take n).drop (j + 1) = (L.take n)[j + 1]'(by omega) :: (L.take n).drop (j + 1 + 1) := List.drop_eq_getElem_cons (by omega)
    rw [a2, List.getElem_take, List.getElem_take] at a1
    exact a1
  generalize hA : (L.take n).take j = A at e0
  generalize hB : (L.take n).drop (j + 1 + 1) = B at e0
  have hAl : A.length = j := by rw [← hA, List.length_take]; omega
  generalize L[j] = x at *
  generalize L[j + 1] = y at *
  rw [e0] at he
  have e1 : (A ++ x :: y :: B).set j y = A ++ y :: y :: B := by
    rw [List.set_append_right _ _ (by omega), hAl, Nat.sub_self]
    rfl
  have e2 : (A ++ y :: y :: B).set (j + 1) x = A ++ y :: x :: B := by
    rw [List.set_append_right _ _ (by omega), hAl, show j + 1 - j = 1 by omega]
    rfl
  rw [e1, e2] at he
  exact sum_swap hne hx hy he.symm
end Go.Proofs.YtcfgmkmllcfjjaaDoor
