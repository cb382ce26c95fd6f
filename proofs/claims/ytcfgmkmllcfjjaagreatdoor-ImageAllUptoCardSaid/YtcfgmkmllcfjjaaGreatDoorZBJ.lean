import Derived.Test.YtcfgmkmllcfjjaaGreatDoorZBI
import Derived.Test.YtcfgmkmllcfjjaaGreatDoorZAR
set_option linter.unusedVariables false
set_option linter.unusedSimpArgs false
namespace Go.Proofs.YtcfgmkmllcfjjaaGreatDoor
open Go.RowKit Go.Proofs.YtcfgmkmllcfjjaaGreatDoorW.PrintWords Go.Proofs.YtcfgmkmllcfjjaaGreatDoorW.PrintMore PImageAll
theorem ulist_enc {α : Type} {l : List Int} (one : Us → α × Us) (f : α → List Int) : ∀ (xs : List α) (p : Nat) (t : List Int), l.drop p = xs.flatMap f ++ t → (∀ x ∈ xs, ∀ (p : Nat) (t : List Int), l.drop p = f x ++ t → one (p, false) = (x, (p + (f x).length, false))) → ulist one xs.length (p, false) = (xs, (p + (xs.flatMap f).length, false))
  | [], p, t, _, _ => rfl
  | x :: xs, p, t, h, hx => by
    rw [List.flatMap_cons, List.append_assoc] at h
    rw [List.length_cons, ulist_step _ rfl, hx x List.mem_cons_self p _ h]
    simp only
    rw [ulist_enc one f xs _ t (drop_on h) (fun y hy => hx y (List.mem_cons_of_mem _ hy))]
    simp only
    rw [List.flatMap_cons, List.length_append, Nat.add_assoc]
section
variable {l : List Int} (hm : l.length ≤ 4611686018427387904)
include hm
theorem uattr_enc {x : S58} (h0 : 0 ≤ x.f1) (h1 : x.f1 < 256) (p : Nat) (t : List Int) (h : l.drop p = encAttr x ++ t) : uattr l (p, false) = (x, (p + (encAttr x).length, false)) := by
  have hw : IntKind.u8.wrap x.f1 = x.f1 := by rw [IntKind.wrap_u8]; omega
  unfold encAttr at h ⊢
  rw [hw, List.append_assoc] at h
  rw [hw]
  unfold uattr
  rw [utext_at hm h]
  simp only
  rw [uone_at (drop_on h)]
  simp only
  rw [List.length_append, List.length_singleton, Nat.add_assoc]
theorem utype_enc {x : S56} (hx : typeB x = true) (p : Nat) (t : List Int) (h : l.drop p = encType x ++ t) : utype l (p, false) = (x, (p + (encType x).length, false)) := by
  unfold typeB at hx
  simp only [Bool.and_eq_true, decide_eq_true_eq, List.all_eq_true] at hx
  obtain ⟨k1, k2, k3⟩ := hx
  unfold encType encAttrs at h ⊢
  rw [List.append_assoc, List.append_assoc] at h
  have h2 := drop_on h
  have h3 := drop_on h2
  unfold utype
  rw [utext_at hm h]
  simp only
  rw [ucount_at hm h2 (len_I64 (by omega)) (by omega) (by omega)]
  simp only [Int.toNat_natCast]
  rw [ulist_enc (uattr l) encAttr x.f1 _ t h3 (fun y hy p t h => by
    have k4 := k3 y hy
    unfold attrB at k4
    simp only [Bool.and_eq_true, decide_eq_true_eq] at k4
    exact uattr_enc hm (by omega) (by omega) p t h)]
  simp only
  rw [List.length_append, List.length_append]
  simp only [Nat.add_assoc]
theorem usaved_enc {x : S60} (hs : I64 x.f2) (p : Nat) (t : List Int) (h : l.drop p = encSaved x ++ t) : usaved l (p, false) = (x, (p + (encSaved x).length, false)) := by
  unfold encSaved at h ⊢
  rw [List.append_assoc, List.append_assoc, List.append_assoc] at h
  have h2 := drop_on h
  have h3 := drop_on h2
  have h4 := drop_on h3
  unfold usaved
  rw [utext_at hm h]
  simp only
  rw [utext_at hm h2]
  simp only
  rw [unum_at hm h3 hs]
  simp only
  rw [uone_at h4]
  simp only [List.length_append, List.length_singleton, Nat.add_assoc]
  obtain ⟨a, b, c, d⟩ := x
  cases d <;> rfl
theorem useens_enc {seq : Int} (hq : seq ≤ 2305843009213693952) : ∀ (xs : List S65) (last : Int) (p : Nat) (t : List Int), 0 ≤ last → l.drop p = encSeenL last xs ++ t → seensB seq last xs = true → (∀ x ∈ xs, faultN x.f1 = 0 ∧ ∀ y ∈ x.f1.f2, I64 y.f1) → useens l xs.length (p, false) last = (xs, (p + (encSeenL last xs).length, false))
  | [], last, p, t, _, _, _, _ => rfl
  | x :: xs, last, p, t, h0, h, hs, hx => by
    obtain ⟨hf, hv⟩ := hx x List.mem_cons_self
    unfold seensB at hs
    simp only [Bool.and_eq_true, decide_eq_true_eq] at hs
    obtain ⟨s1, s2, s3⟩ := hs
    have hE : encB x.f1 = encEvent x.f1 := if_pos hf
    have hsub : sub64 x.f0 last = x.f0 - last := by unfold sub64; rw [IntKind.wrap_i64]; omega
    have hn : I64 (x.f0 - last) := ⟨by omega, by omega⟩
    have h1 : l.drop p = puti (x.f0 - last) ++ ((if x.f2 then (1 : Int) else 0) :: (encEvent x.f1 ++ (encSeenL x.f0 xs ++ t))) := by
      rw [h, encSeenL, encSeen, hE, hsub]
      simp only [List.append_assoc, List.singleton_append, List.cons_append, List.nil_append]
    have h2 := drop_on h1
    have h3 : l.drop (p + (puti (x.f0 - last)).length + 1) = encEvent x.f1 ++ (encSeenL x.f0 xs ++ t) := drop_on (a := [if x.f2 then (1 : Int) else 0]) h2
    have h4 := drop_on h3
    have hd := qdec_enc hf hv (encSeenL x.f0 xs ++ t) (by rw [← h3, List.length_drop]; omega)
    have ih := useens_enc hq xs x.f0 _ t (by omega) h4 s3 (fun y hy => hx y (List.mem_cons_of_mem _ hy))
    rw [List.length_cons, useens, if_neg (by simp), unum_at hm h1 hn]
    simp only
    rw [if_neg (by omega), uone_at h2]
    simp only
    rw [h3, hd]
    simp only
    rw [if_pos trivial, show last + (x.f0 - last) = x.f0 by omega, ih]
    have hb : ((if x.f2 = true then (1 : Int) else 0) == 1) = x.f2 := by cases x.f2 <;> rfl
    rw [hb]
    have hl : (encSeenL last (x :: xs)).length = (puti (x.f0 - last)).length + (1 + ((encEvent x.f1).length + (encSeenL x.f0 xs).length)) := by
      rw [encSeenL, encSeen, hE, hsub]
      simp only [List.length_append, List.length_singleton, Nat.add_assoc]
    rw [hl]
    simp only [Nat.add_assoc]
end
theorem uskip_at {l : List Int} : ∀ (a : List Int) (p : Nat) (t : List Int), l.drop p = a ++ t → uskip l a.length (p, false) = (p + a.length, false)
  | [], p, t, _ => rfl
  | x :: a, p, t, h => by
    have h1 : l.drop p = x :: (a ++ t) := h
    rw [List.length_cons, uskip, uone_at h1, uskip_at a (p + 1) t (drop_on (a := [x]) h1), Nat.add_assoc, Nat.add_comm 1]
theorem uimg_laid {m : Img} (hI : ImgI m) (h : saveE m = 0) : (uimg (laid m)).1 = m ∧ (uimg (laid m)).2.2 = false := by
  obtain ⟨h1, hb, h3⟩ := save_zero h
  obtain ⟨ht, hq, hs⟩ := may_all hI h1 hb
  unfold mayB at h1
  simp only [Bool.and_eq_true, decide_eq_true_eq, List.all_eq_true] at h1
  obtain ⟨_, _, m3, _, m5, m6, m7, m8, m9⟩ := h1
  have hsq : m.seq ≤ 2305843009213693952 := by
    unfold withinB at m3
    simp only [Bool.and_eq_true, decide_eq_true_eq] at m3
    omega
  have hm : (laid m).length ≤ 4611686018427387904 := by omega
  have hlen : m.seens.length ≤ (laid m).length := by
    have := encSeenL_ge 0 m.seens
    simp only [laid, laidK, encSeens, List.length_append]
    omega
  have e0 : (laid m).drop 0 = magicL ++ (puti m.runs ++ (puti m.made ++ (puti m.seq ++ (puti m.now ++ (puti m.types.length ++ (m.types.flatMap encType ++ (puti m.saved.length ++ (m.saved.flatMap encSaved ++ (puti m.seens.length ++ (encSeenL 0 m.seens ++ [])))))))))) := by
    rw [List.drop_zero]
    have := laid_app m []
    rw [List.append_nil] at this
    rw [this, encNums, encTypes, encSaveds, encSeens]
    simp only [List.append_assoc]
  generalize hL : laid m = L at *
  have d1 := drop_on e0
  have d2 := drop_on d1
  have d3 := drop_on d2
  have d4 := drop_on d3
  have d5 := drop_on d4
  have d6 := drop_on d5
  have d7 := drop_on d6
  have d8 := drop_on d7
  have d9 := drop_on d8
  have d10 := drop_on d9
  have d11 := drop_on d10
  have f0 : us0 L = (0 + magicL.length, false) := uskip_at magicL 0 _ e0
  have f1 : us1 L = (0 + magicL.length + (puti m.runs).length, false) := by unfold us1; rw [f0, unum_at hm d1 hI.runs]
  have f2 : us2 L = (0 + magicL.length + (puti m.runs).length + (puti m.made).length, false) := by unfold us2; rw [f1, unum_at hm d2 hI.made]
  have f3 : us3 L = (0 + magicL.length + (puti m.runs).length + (puti m.made).length + (puti m.seq).length, false) := by unfold us3; rw [f2, unum_at hm d3 hI.seq]
  have f4 : us4 L = (0 + magicL.length + (puti m.runs).length + (puti m.made).length + (puti m.seq).length + (puti m.now).length, false) := by unfold us4; rw [f3, unum_at hm d4 hI.now]
  have f5 : uty L = (m.types, (0 + magicL.length + (puti m.runs).length + (puti m.made).length + (puti m.seq).length + (puti m.now).length + (puti m.types.length).length + (m.types.flatMap encType).length, false)) := by
    unfold uty
    rw [f4, ucount_at hm d5 (len_I64 hI.lt) (by omega) (by omega)]
    simp only [Int.toNat_natCast]
    exact ulist_enc (utype L) encType m.types _ _ d6 (fun x hx p t h => utype_enc hm (m7 x hx) p t h)
  have f6 : usv L = (m.saved, (0 + magicL.length + (puti m.runs).length + (puti m.made).length + (puti m.seq).length + (puti m.now).length + (puti m.types.length).length + (m.types.flatMap encType).length + (puti m.saved.length).length + (m.saved.flatMap encSaved).length, false)) := by
    unfold usv
    rw [f5]
    simp only
    rw [ucount_at hm d7 (len_I64 hI.lq) (by omega) (by omega)]
    simp only [Int.toNat_natCast]
    exact ulist_enc (usaved L) encSaved m.saved _ _ d8 (fun x hx p t h => usaved_enc hm (hI.since x hx) p t h)
  have f7 : usn L = (m.seens, (0 + magicL.length + (puti m.runs).length + (puti m.made).length + (puti m.seq).length + (puti m.now).length + (puti m.types.length).length + (m.types.flatMap encType).length + (puti m.saved.length).length + (m.saved.flatMap encSaved).length + (puti m.seens.length).length + (encSeenL 0 m.seens).length, false)) := by
    unfold usn
    rw [f6]
    simp only
    rw [ucount_at hm d9 (len_I64 hI.ls) (by omega) (by omega)]
    simp only [Int.toNat_natCast]
    exact useens_enc hm hsq m.seens 0 _ _ (Int.le_refl 0) d10 m9 (fun x hx => (hs x hx).2)
  have g1 : (uimg L).1 = ⟨m.runs, m.made, m.seq, m.now, m.types, m.saved, m.seens⟩ := by
    unfold uimg
    rw [f0, f1, f2, f3, f5, f6, f7, unum_at hm d1 hI.runs, unum_at hm d2 hI.made, unum_at hm d3 hI.seq, unum_at hm d4 hI.now]
  exact ⟨g1, by unfold uimg; rw [f7]⟩
theorem ulist_len {α : Type} (one : Us → α × Us) : ∀ (k : Nat) (s : Us), (ulist one k s).1.length ≤ k
  | 0, _ => Nat.le_refl _
  | k + 1, s => by
    unfold ulist
    split
    · simp
    · have := ulist_len one k (one s).2
      simp only [List.length_cons]
      omega
theorem ulist_all {α : Type} (one : Us → α × Us) {P : α → Prop} (hP : ∀ s, P (one s).1) : ∀ (k : Nat) (s : Us), ∀ x ∈ (ulist one k s).1, P x
  | 0, _, x, hx => by cases hx
  | k + 1, s, x, hx => by
    unfold ulist at hx
    split at hx
    · cases hx
    · rcases List.mem_cons.1 hx with rfl | hx
      · exact hP s
      · exact ulist_all one hP k _ x hx
theorem useens_len {l : List Int} : ∀ (k : Nat) (s : Us) (last : Int), (useens l k s last).1.length ≤ k
  | 0, _, _ => Nat.le_refl _
  | k + 1, s, last => by
    unfold useens
    split
    · simp
    · split
      · simp
      · split
        · simp only [List.length_cons]
          have := useens_len (l := l) k ((uone l (unum l s).2).2.1 + (qdec (l.drop (uone l (unum l s).2).2.1)).2.1, (uone l (unum l s).2).2.2) (last + (unum l s).1)
          omega
        · simp
theorem useens_vals {l : List Int} : ∀ (k : Nat) (s : Us) (last : Int), ∀ x ∈ (useens l k s last).1, (∀ y ∈ x.f1.f2, I64 y.f1) ∧ x.f1.f2.length ≤ 16
  | 0, _, _, x, hx => by cases hx
  | k + 1, s, last, x, hx => by
    unfold useens at hx
    split at hx
    · cases hx
    · split at hx
      · cases hx
      · split at hx
        · rcases List.mem_cons.1 hx with rfl | hx
          · exact qdec_I64 (l := l.drop (uone l (unum l s).2).2.1)
          · exact useens_vals k _ _ x hx
        · cases hx
theorem uimg_I {l : List Int} (hm : l.length ≤ 67108864) : ImgI (uimg l).1 ∧ (uimg l).1.seens.length ≤ 67108864 := by
  have h2 : l.length ≤ 4611686018427387904 := by omega
  have h3 := ulist_len (utype l) (ucount l 64 (us4 l)).1.toNat (ucount l 64 (us4 l)).2
  have h4 := ulist_len (usaved l) (ucount l 64 (uty l).2).1.toNat (ucount l 64 (uty l).2).2
  have h5 := useens_len (l := l) (ucount l l.length (usv l).2).1.toNat (ucount l l.length (usv l).2).2 0
  have k3 := ucount_rng (l := l) (most := 64) (by decide) (us4 l)
  have k4 := ucount_rng (l := l) (most := 64) (by decide) (uty l).2
  have k5 := ucount_rng (l := l) (most := (l.length : Int)) (by omega) (usv l).2
  have l3 : (uimg l).1.types.length ≤ 64 := by show (uty l).1.length ≤ 64; unfold uty; omega
  have l4 : (uimg l).1.saved.length ≤ 64 := by show (usv l).1.length ≤ 64; unfold usv; omega
  have l5 : (uimg l).1.seens.length ≤ 67108864 := by show (usn l).1.length ≤ 67108864; unfold usn; omega
  refine ⟨⟨unum_I64 h2 _, unum_I64 h2 _, unum_I64 h2 _, unum_I64 h2 _, ulist_all (usaved l) (P := fun x => I64 x.f2) (fun s => unum_I64 h2 _) _ _, fun x hx => (useens_vals _ _ _ x hx).1, by omega, by omega, by omega, ulist_all (utype l) (P := fun x => x.f1.length ≤ 9223372036854775807) (fun s => ?_) _ _, fun x hx => by have := (useens_vals _ _ _ x hx).2; omega⟩, l5⟩
  have q1 := ulist_len (uattr l) (ucount l 16 (utext l s).2).1.toNat (ucount l 16 (utext l s).2).2
  have q2 := ucount_rng (l := l) (most := 16) (by decide) (utext l s).2
  show (ulist (uattr l) _ _).1.length ≤ _
  omega
def uloadF (L : List Int) : Img × Int :=
  if 67108864 < L.length then (zImg, 2)
  else if L.length < 8 then (zImg, 30)
  else if sumB (L.take (L.length - 4)) = L.drop (L.length - 4) then
    (if (uimg (L.take (L.length - 4))).2.2 = true then (zImg, 220) else (if saveE (uimg (L.take (L.length - 4))).1 = 0 ∧ saveB (uimg (L.take (L.length - 4))).1 = L then ((uimg (L.take (L.length - 4))).1, 0) else (zImg, 220)))
  else (zImg, 32)
theorem uload_eq {L : List Int} (hL : Bytes L) : uloadF L = loadF L := by
  by_cases h1 : 67108864 < L.length
  · unfold uloadF loadF
    rw [if_pos h1, if_pos h1]
  · by_cases h2 : L.length < 8
    · unfold uloadF loadF
      rw [if_neg h1, if_neg h1, if_pos h2, if_pos h2]
    · by_cases h3 : sumB (L.take (L.length - 4)) = L.drop (L.length - 4)
      · have hI := (uimg_I (l := L.take (L.length - 4)) (by rw [List.length_take]; omega)).1
        have hu : uloadF L = if (uimg (L.take (L.length - 4))).2.2 = true then (zImg, 220) else (if saveE (uimg (L.take (L.length - 4))).1 = 0 ∧ saveB (uimg (L.take (L.length - 4))).1 = L then ((uimg (L.take (L.length - 4))).1, 0) else (zImg, 220)) := by
          unfold uloadF
          rw [if_neg h1, if_neg h2, if_pos h3]
        have hl : loadF L = (zImg, 220) ∨ ∃ m, loadF L = (m, 0) ∧ ImgI m ∧ saveE m = 0 ∧ saveB m = L := by
          unfold loadF
          rw [if_neg h1, if_neg h2, if_pos h3]
          by_cases h4 : (loadM L).1.2 = true ∨ 0 < (loadM L).1.1.length
          · rw [if_pos h4]; exact .inl rfl
          · rw [if_neg h4]
            by_cases h5 : saveE (loadM L).2 = 0 ∧ saveB (loadM L).2 = L
            · rw [if_pos h5]
              exact .inr ⟨_, rfl, (tail_I64 (s := (L.take (L.length - 4), false)) (B := 1000000000) ⟨hL.take _, by show (L.take (L.length - 4)).length ≤ _; rw [List.length_take]; omega⟩ (by show (L.take (L.length - 4)).length ≤ _; rw [List.length_take]; omega) (by decide)).1, h5⟩
            · rw [if_neg h5]; exact .inl rfl
        rcases hl with hl | ⟨m, hl, hm, hs, hb⟩
        · rw [hl, hu]
          by_cases h4 : (uimg (L.take (L.length - 4))).2.2 = true
          · rw [if_pos h4]
          · rw [if_neg h4]
            by_cases h5 : saveE (uimg (L.take (L.length - 4))).1 = 0 ∧ saveB (uimg (L.take (L.length - 4))).1 = L
            · have h6 := load_save hI h5.1
              rw [h5.2, hl] at h6
              injection h6 with _ h6
              exact absurd h6 (by decide)
            · rw [if_neg h5]
        · have hl2 : L.take (L.length - 4) = laid m := by
            have hb2 : saveB m = laid m ++ sumB (laid m) := if_pos hs
            have hl3 : L.length = (laid m).length + 4 := by rw [← hb, hb2, List.length_append, sumB_len]
            rw [hl3, Nat.add_sub_cancel, ← hb, hb2, List.take_left]
          obtain ⟨g1, g2⟩ := uimg_laid hm hs
          rw [hl, hu, hl2, g1, if_neg (by rw [g2]; decide), if_pos ⟨hs, hb⟩]
      · unfold uloadF loadF
        rw [if_neg h1, if_neg h1, if_neg h2, if_neg h2, if_neg h3, if_neg h3]
end Go.Proofs.YtcfgmkmllcfjjaaGreatDoor
