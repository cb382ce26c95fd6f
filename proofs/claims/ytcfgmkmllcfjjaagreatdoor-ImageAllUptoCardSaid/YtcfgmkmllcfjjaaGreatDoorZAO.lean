import Derived.Test.YtcfgmkmllcfjjaaGreatDoorZAN
set_option linter.unusedVariables false
set_option linter.unusedSimpArgs false
namespace Go.Proofs.YtcfgmkmllcfjjaaGreatDoor
open Go.RowKit Go.Proofs.YtcfgmkmllcfjjaaGreatDoorW.PrintWords Go.Proofs.YtcfgmkmllcfjjaaGreatDoorW.PrintMore PImageAll
theorem info60 : (Tryz.prog.info? 60).map (fun i => (i.zero, i.size, i.bytes)) = some (some (.agg #[(.string ⟨#[]⟩), (.string ⟨#[]⟩), (.int .i64 0), (.bool false)]), 4, 48) := by kernel_rfl
theorem k58q : ∀ q, q ∈ 58 :: k58.E → q ≠ 85 ∧ q ≠ 2 := by
  intro q hq
  have hE : k58.E = [] := rfl
  rw [hE] at hq
  simp only [List.mem_cons, List.not_mem_nil, or_false] at hq
  subst hq
  decide
theorem k56q : ∀ q, q ∈ 56 :: k56.E → q ≠ 85 ∧ q ≠ 2 := by
  intro q hq
  have hE : k56.E = [58] := rfl
  rw [hE] at hq
  simp only [List.mem_cons, List.not_mem_nil, or_false] at hq
  rcases hq with rfl | rfl <;> decide
theorem k60q : ∀ q, q ∈ 60 :: k60.E → q ≠ 85 ∧ q ≠ 2 := by
  intro q hq
  have hE : k60.E = [] := rfl
  rw [hE] at hq
  simp only [List.mem_cons, List.not_mem_nil, or_false] at hq
  subst hq
  decide
theorem k65q : ∀ q, q ∈ 65 :: k65.E → q ≠ 85 ∧ q ≠ 2 := by
  intro q hq
  have hE : k65.E = [67] := rfl
  rw [hE] at hq
  simp only [List.mem_cons, List.not_mem_nil, or_false] at hq
  rcases hq with rfl | rfl <;> decide
def GPost {α : Type} (k : Kd α) (E : Nat) (w0 w : World) (gr pb : Nat) (pl : Option Nat) (r : List α × Rl) (e : Ending) (w' : World) : Prop :=
  ∃ v, e = .returned v ∧ k.R E w' w.heap.size (fun _ => True) v r.1 ∧ RSt w0 gr pb pl r.2 w' ∧ Rp gr pl w w'
def FPost {α : Type} (k : Kd α) (w0 w : World) (gr pb : Nat) (pl : Option Nat) (r : α × Rl) (e : Ending) (w' : World) : Prop :=
  ∃ cs, e = .returned (.agg cs.toArray) ∧ k.M w' w.heap.size (fun _ => True) r.1 cs ∧ RSt w0 gr pb pl r.2 w' ∧ Rp gr pl w w'
structure GL {α : Type} (k : Kd α) (E : Nat) (one : Rl → α × Rl) (w0 w : World) (gr pb : Nat) (pl : Option Nat) (n : Nat) (s0 : Rl) (L0 : Nat) (i : Nat) (s : Rl) (xs : List α) (v : Value) (W : World) : Prop where
  st : RSt w0 gr pb pl s W
  row : k.R E W w.heap.size (fun _ => True) v xs
  rp : Rp gr pl w W
  ok : Rok s.1
  len : xs.length + s.1.1.length ≤ L0 + (if s.1.2 = true then 1 else 0)
  fin : getF one n s0 = (xs ++ (getF one (n - i) s).1, (getF one (n - i) s).2)
set_option maxRecDepth 100000 in
set_option maxHeartbeats 8000000 in
theorem getAttrs_any (one : Rl → S58 × Rl) (gr pb : Nat) {w0 w : World} {s : Rl} (hS : RSt w0 gr pb none s w) (hs : Rok s.1) (hlen : s.1.1.length ≤ 1000000000000) (hone : OneOk one)
    (hF : ∀ (s : Rl) (W : World), Rok s.1 → s.1.1.length ≤ 1000000000000 → RSt w0 gr pb none s W → Calls Tryz.prog 80 #[.pointer (some ⟨pb, 0, none⟩)] W (FPost k58 w0 W gr pb none (one s))) :
    Calls Tryz.prog 79 #[.pointer (some ⟨gr, 0, none⟩), .func (.func 80) #[] #[.pointer (some ⟨pb, 0, none⟩)]] w (GPost k58 58 w0 w gr pb none (getR one s)) := by
  have HN := Lib.hid (number_any hS.rd hs)
  have HI := num_I64 hs
  have HOK := Lib.hid hs.num
  have hnl := num_len s.1
  have hgr : getR one s = if (numR s.1).1 < 0 then ([], (((numR s.1).2.1, true), s.2)) else getF one (numR s.1).1.toNat ((numR s.1).2, s.2) := rfl
  have HS := Lib.hid hS
  have HF := Lib.hid hF
  have HONE := Lib.hid hone
  have h0w := hS.rd.2.1.size
  generalize getR one s = R at *
  generalize numR s.1 = r at *
  obtain ⟨n, s1⟩ := r
  simp only at hgr HI hnl
  clear hS hs hF hone
  by_cases hn : n < 0
  · rw [if_pos hn] at hgr
    subst hgr
    have d1 : decide (n < 0) = true := decide_eq_true hn
    have d2 : decide (0 < n) = false := decide_eq_false (by omega)
    clear hn
    go_enter Tryz.func79, Tryz.ntmps79
    go_wp2_with fail
    refine HN.out.mono ?_
    rintro e1 w1 ⟨rfl, hR1, hO1⟩
    have hS1 := HS.out.read hR1 hO1
    have hc1 := hR1.cells.choose_spec.choose_spec.2.1
    have hf1 := hR1.cells.choose_spec.choose_spec.2.2.1
    have HM := Lib.hid (hR1.mark true)
    have HS1 := Lib.hid (show RSt w0 gr pb none (((s1.1, true), s.2) : Rl) (w1.setCell ⟨gr, 1, none⟩ (.bool true)) from hS1.read (HM.out) (Ro.set 1 _))
    have HO1 := Lib.hid (Rp.of_ro (pl := none) (hO1.trans (Ro.set 1 (.bool true))))
    have hc2 := HM.out.cells.choose_spec.choose_spec.2.1
    clear hR1 hO1 hS1
    go_wp2_with fail
    go_loopw [6, 7] (fun t6 t7 wr => t6 = .slice none 0 0 ∧ t7 = .int .i64 0 ∧ wr = w1.setCell ⟨gr, 1, none⟩ (.bool true)) (fun _ _ _ => 0)
    case atStart => exact ⟨rfl, rfl, rfl⟩
    case round =>
      obtain ⟨rfl, rfl, rfl⟩ := hrel
      go_wp2_with fail
      go_ret
      exact ⟨_, rfl, Kd.R_nil _ _ _ _ _, HS1.out, HO1.out⟩
  · rw [if_neg hn] at hgr
    have d1 : decide (n < 0) = false := decide_eq_false hn
    obtain ⟨n, rfl⟩ := Int.eq_ofNat_of_zero_le (show 0 ≤ n by omega)
    rw [Int.toNat_natCast] at hgr
    have HGR := Lib.hid hgr
    have hnm := HI.2
    clear hn hgr HI
    go_enter Tryz.func79, Tryz.ntmps79
    go_wp2_with fail
    refine HN.out.mono ?_
    rintro e1 w1 ⟨rfl, hR1, hO1⟩
    have HG := Lib.hid (show GL k58 58 one w0 w gr pb none n (s1, s.2) s1.1.length 0 (s1, s.2) [] (.slice none 0 0) w1 from ⟨HS.out.read hR1 hO1, Kd.R_nil _ _ _ _ _, Rp.of_ro hO1, HOK.out, by simp, by simp⟩)
    clear hR1 hO1
    go_wp2_with fail
    go_loopw [6, 7] (fun t6 t7 wr => ∃ (k : Nat) (sk : Rl) (xs : List S58) (v : Value), k ≤ n ∧ t7 = .int .i64 (k : Int) ∧ t6 = v ∧ Hid (GL k58 58 one w0 w gr pb none n (s1, s.2) s1.1.length k sk xs v wr)) (fun _ t7 _ => n - (intOf t7).toNat)
    case atStart => exact ⟨0, _, [], _, by omega, rfl, rfl, HG⟩
    case round =>
      clear HG
      obtain ⟨k, sk, xs, v, hk, rfl, rfl, HG⟩ := hrel
      obtain ⟨A, c, rfl⟩ := Kd.R_slice HG.out.row
      have hcb := HG.out.st.rd.cells.choose_spec.choose_spec.2.1
      by_cases hlt : k < n
      · have d2 : decide ((k : Int) < (n : Int)) = true := decide_eq_true (by omega)
        by_cases hbd : sk.1.2 = true
        · rw [hbd] at hcb
          have hfin : R = (xs, sk) := by
            rw [HGR.out, HG.out.fin, show n - k = (n - (k + 1)) + 1 by omega, getF, if_pos hbd]
            simp
          subst hfin
          clear hbd
          go_wp2_with fail
          go_ret
          exact ⟨_, rfl, HG.out.row, HG.out.st, HG.out.rp⟩
        · have hbf : sk.1.2 = false := by simpa using hbd
          rw [hbf] at hcb
          have HLL := Lib.hid (show xs.length ≤ 1000000000000 by have := HG.out.len; rw [if_neg hbd] at this; omega)
          have HFK := Lib.hid (HF.out sk wr HG.out.ok (by have := HG.out.len; rw [if_neg hbd] at this; omega) HG.out.st)
          have HOK1 := Lib.hid (HONE.out sk HG.out.ok)
          have HGF := Lib.hid (show getF one (n - k) sk = ((one sk).1 :: (getF one (n - (k + 1)) (one sk).2).1, (getF one (n - (k + 1)) (one sk).2).2) from by rw [show n - k = (n - (k + 1)) + 1 by omega, getF, if_neg hbd])
          have HBF := Lib.hid hbf
          clear hbd hbf
          generalize one sk = r at *
          obtain ⟨x, s6⟩ := r
          go_wp2_with fail
          refine HFK.out.mono ?_
          rintro e6 w6 ⟨cs, rfl, hM, hS6, hO6⟩
          have hM := hM
          obtain rfl := k58_openM hM
          skip
          have hrow : k58.R 58 w6 w.heap.size (fun _ => True) (.slice A xs.length c) xs := R_rp HG.out.row HG.out.st (k58q) hO6
          obtain ⟨inn, hown⟩ := Kd.R_own HG.out.row
          have hmk : k58.M w6 wr.heap.size (fun _ => True) x [.string x.f0, .int .i64 x.f1] := k58_mkM _ _ _ x
          have hMn : k58.M w6 w.heap.size (fun k => True ∧ some k ≠ (Value.slice A xs.length c).ownBlock) x [.string x.f0, .int .i64 x.f1] := k58.M_lower HG.out.rp.size (Kd.M_new (W := wr) hmk hown)
          have HROW := Lib.hid hrow
          have HMN := Lib.hid hMn
          have HS6 := Lib.hid hS6
          have HO6 := Lib.hid (HG.out.rp.trans hO6)
          have hll : (xs.length + 1) * 24 ≤ 140737488355328 := by have := HLL.out; omega
          have HLL2 := Lib.hid hll
          clear hM hS6 hO6 hrow hown hmk hMn hll
          go_wp2_with (at_builtin; refine Kd.R_append (P := Tryz.prog) k58 (w0 := w6) (W := w6) w.heap.size (by rfl) _ _ 54 58 _ 24 (by rfl) Tryz.underlying54 info58 rfl (by decide) (by decide) (.slice A xs.length c) xs x [.string x.f0, .int .i64 x.f1] (fun _ => True) _ (by rfl) (by rfl) HMN.out (fun k hk => hk) (fun _ _ => trivial) HROW.out (Below.refl _ _) HO6.out.size HLL2.out ?_; intro v7 w7 hR7 _ hg7 _; clear HFK; have HR7 := Lib.hid hR7; have HG7' := Lib.hid hg7; clear hR7 hg7)
          have hR7 := HR7.out
          have hg7 := HG7'.out
          have hba := Kd.R_base HROW.out
          have hty := Kd.R_typed HROW.out
          have HG7 : Hid (GL k58 58 one w0 w gr pb none n (s1, s.2) s1.1.length (k + 1) s6 (xs ++ [x]) v7 w7) := Lib.hid ⟨RSt.grown (cells := fun _ => #[]) HS6.out hg7 (fun k hk => Nat.le_trans h0w (hba k hk)) hty (by decide) (by decide) (by decide), hR7, HO6.out.grown hg7 hba, HOK1.out.1, by
            have h1 := HG.out.len
            have h2 := HOK1.out.2.1
            have h3 := HOK1.out.2.2 HBF.out
            rw [if_neg (by rw [HBF.out]; decide)] at h1
            simp only [List.length_append, List.length_singleton] at *
            by_cases hb6 : s6.1.2 = true
            · rw [if_pos hb6]; omega
            · rw [if_neg hb6]; have := h3 (by simpa using hb6); omega, by rw [HG.out.fin, HGF.out]; simp⟩
          clear hR7 hg7 hba hty HG7' HR7
          go_roundw
          case rel => exact ⟨k + 1, s6, xs ++ [x], v7, by omega, by go_num, rfl, HG7⟩
          case measure => simp [intOf]; omega
      · obtain rfl : k = n := by omega
        have hfin : R = (xs, sk) := by
          rw [HGR.out, HG.out.fin, Nat.sub_self, getF]
          simp
        subst hfin
        go_wp2_with fail
        go_ret
        exact ⟨_, rfl, HG.out.row, HG.out.st, HG.out.rp⟩
set_option maxRecDepth 100000 in
set_option maxHeartbeats 8000000 in
theorem getTypes_any (one : Rl → S56 × Rl) (gr pb : Nat) {w0 w : World} {s : Rl} (hS : RSt w0 gr pb none s w) (hs : Rok s.1) (hlen : s.1.1.length ≤ 1000000000000) (hone : OneOk one)
    (hF : ∀ (s : Rl) (W : World), Rok s.1 → s.1.1.length ≤ 1000000000000 → RSt w0 gr pb none s W → Calls Tryz.prog 77 #[.pointer (some ⟨pb, 0, none⟩)] W (FPost k56 w0 W gr pb none (one s))) :
    Calls Tryz.prog 76 #[.pointer (some ⟨gr, 0, none⟩), .func (.func 77) #[] #[.pointer (some ⟨pb, 0, none⟩)]] w (GPost k56 56 w0 w gr pb none (getR one s)) := by
  have HN := Lib.hid (number_any hS.rd hs)
  have HI := num_I64 hs
  have HOK := Lib.hid hs.num
  have hnl := num_len s.1
  have hgr : getR one s = if (numR s.1).1 < 0 then ([], (((numR s.1).2.1, true), s.2)) else getF one (numR s.1).1.toNat ((numR s.1).2, s.2) := rfl
  have HS := Lib.hid hS
  have HF := Lib.hid hF
  have HONE := Lib.hid hone
  have h0w := hS.rd.2.1.size
  generalize getR one s = R at *
  generalize numR s.1 = r at *
  obtain ⟨n, s1⟩ := r
  simp only at hgr HI hnl
  clear hS hs hF hone
  by_cases hn : n < 0
  · rw [if_pos hn] at hgr
    subst hgr
    have d1 : decide (n < 0) = true := decide_eq_true hn
    have d2 : decide (0 < n) = false := decide_eq_false (by omega)
    clear hn
    go_enter Tryz.func76, Tryz.ntmps76
    go_wp2_with fail
    refine HN.out.mono ?_
    rintro e1 w1 ⟨rfl, hR1, hO1⟩
    have hS1 := HS.out.read hR1 hO1
    have hc1 := hR1.cells.choose_spec.choose_spec.2.1
    have hf1 := hR1.cells.choose_spec.choose_spec.2.2.1
    have HM := Lib.hid (hR1.mark true)
    have HS1 := Lib.hid (show RSt w0 gr pb none (((s1.1, true), s.2) : Rl) (w1.setCell ⟨gr, 1, none⟩ (.bool true)) from hS1.read (HM.out) (Ro.set 1 _))
    have HO1 := Lib.hid (Rp.of_ro (pl := none) (hO1.trans (Ro.set 1 (.bool true))))
    have hc2 := HM.out.cells.choose_spec.choose_spec.2.1
    clear hR1 hO1 hS1
    go_wp2_with fail
    go_loopw [6, 7] (fun t6 t7 wr => t6 = .slice none 0 0 ∧ t7 = .int .i64 0 ∧ wr = w1.setCell ⟨gr, 1, none⟩ (.bool true)) (fun _ _ _ => 0)
    case atStart => exact ⟨rfl, rfl, rfl⟩
    case round =>
      obtain ⟨rfl, rfl, rfl⟩ := hrel
      go_wp2_with fail
      go_ret
      exact ⟨_, rfl, Kd.R_nil _ _ _ _ _, HS1.out, HO1.out⟩
  · rw [if_neg hn] at hgr
    have d1 : decide (n < 0) = false := decide_eq_false hn
    obtain ⟨n, rfl⟩ := Int.eq_ofNat_of_zero_le (show 0 ≤ n by omega)
    rw [Int.toNat_natCast] at hgr
    have HGR := Lib.hid hgr
    have hnm := HI.2
    clear hn hgr HI
    go_enter Tryz.func76, Tryz.ntmps76
    go_wp2_with fail
    refine HN.out.mono ?_
    rintro e1 w1 ⟨rfl, hR1, hO1⟩
    have HG := Lib.hid (show GL k56 56 one w0 w gr pb none n (s1, s.2) s1.1.length 0 (s1, s.2) [] (.slice none 0 0) w1 from ⟨HS.out.read hR1 hO1, Kd.R_nil _ _ _ _ _, Rp.of_ro hO1, HOK.out, by simp, by simp⟩)
    clear hR1 hO1
    go_wp2_with fail
    go_loopw [6, 7] (fun t6 t7 wr => ∃ (k : Nat) (sk : Rl) (xs : List S56) (v : Value), k ≤ n ∧ t7 = .int .i64 (k : Int) ∧ t6 = v ∧ Hid (GL k56 56 one w0 w gr pb none n (s1, s.2) s1.1.length k sk xs v wr)) (fun _ t7 _ => n - (intOf t7).toNat)
    case atStart => exact ⟨0, _, [], _, by omega, rfl, rfl, HG⟩
    case round =>
      clear HG
      obtain ⟨k, sk, xs, v, hk, rfl, rfl, HG⟩ := hrel
      obtain ⟨A, c, rfl⟩ := Kd.R_slice HG.out.row
      have hcb := HG.out.st.rd.cells.choose_spec.choose_spec.2.1
      by_cases hlt : k < n
      · have d2 : decide ((k : Int) < (n : Int)) = true := decide_eq_true (by omega)
        by_cases hbd : sk.1.2 = true
        · rw [hbd] at hcb
          have hfin : R = (xs, sk) := by
            rw [HGR.out, HG.out.fin, show n - k = (n - (k + 1)) + 1 by omega, getF, if_pos hbd]
            simp
          subst hfin
          clear hbd
          go_wp2_with fail
          go_ret
          exact ⟨_, rfl, HG.out.row, HG.out.st, HG.out.rp⟩
        · have hbf : sk.1.2 = false := by simpa using hbd
          rw [hbf] at hcb
          have HLL := Lib.hid (show xs.length ≤ 1000000000000 by have := HG.out.len; rw [if_neg hbd] at this; omega)
          have HFK := Lib.hid (HF.out sk wr HG.out.ok (by have := HG.out.len; rw [if_neg hbd] at this; omega) HG.out.st)
          have HOK1 := Lib.hid (HONE.out sk HG.out.ok)
          have HGF := Lib.hid (show getF one (n - k) sk = ((one sk).1 :: (getF one (n - (k + 1)) (one sk).2).1, (getF one (n - (k + 1)) (one sk).2).2) from by rw [show n - k = (n - (k + 1)) + 1 by omega, getF, if_neg hbd])
          have HBF := Lib.hid hbf
          clear hbd hbf
          generalize one sk = r at *
          obtain ⟨x, s6⟩ := r
          go_wp2_with fail
          refine HFK.out.mono ?_
          rintro e6 w6 ⟨cs, rfl, hM, hS6, hO6⟩
          have hM := hM
          obtain ⟨v5, rfl, hv5⟩ := k56_openM hM
          obtain ⟨A5, c5, rfl⟩ := Kd.R_slice hv5
          have hrow : k56.R 56 w6 w.heap.size (fun _ => True) (.slice A xs.length c) xs := R_rp HG.out.row HG.out.st (k56q) hO6
          obtain ⟨inn, hown⟩ := Kd.R_own HG.out.row
          have hmk : k56.M w6 wr.heap.size (fun _ => True) x [.string x.f0, (.slice A5 x.f1.length c5)] := k56_mkM _ _ _ x hv5
          have hMn : k56.M w6 w.heap.size (fun k => True ∧ some k ≠ (Value.slice A xs.length c).ownBlock) x [.string x.f0, (.slice A5 x.f1.length c5)] := k56.M_lower HG.out.rp.size (Kd.M_new (W := wr) hmk hown)
          have HROW := Lib.hid hrow
          have HMN := Lib.hid hMn
          have HS6 := Lib.hid hS6
          have HO6 := Lib.hid (HG.out.rp.trans hO6)
          have hll : (xs.length + 1) * 40 ≤ 140737488355328 := by have := HLL.out; omega
          have HLL2 := Lib.hid hll
          clear hM hS6 hO6 hrow hown hmk hMn hll
          go_wp2_with (at_builtin; refine Kd.R_append (P := Tryz.prog) k56 (w0 := w6) (W := w6) w.heap.size (by rfl) _ _ 27 56 _ 40 (by rfl) Tryz.underlying27 info56 rfl (by decide) (by decide) (.slice A xs.length c) xs x [.string x.f0, (.slice A5 x.f1.length c5)] (fun _ => True) _ (by rfl) (by rfl) HMN.out (fun k hk => hk) (fun _ _ => trivial) HROW.out (Below.refl _ _) HO6.out.size HLL2.out ?_; intro v7 w7 hR7 _ hg7 _; clear HFK; have HR7 := Lib.hid hR7; have HG7' := Lib.hid hg7; clear hR7 hg7)
          have hR7 := HR7.out
          have hg7 := HG7'.out
          have hba := Kd.R_base HROW.out
          have hty := Kd.R_typed HROW.out
          have HG7 : Hid (GL k56 56 one w0 w gr pb none n (s1, s.2) s1.1.length (k + 1) s6 (xs ++ [x]) v7 w7) := Lib.hid ⟨RSt.grown (cells := fun _ => #[]) HS6.out hg7 (fun k hk => Nat.le_trans h0w (hba k hk)) hty (by decide) (by decide) (by decide), hR7, HO6.out.grown hg7 hba, HOK1.out.1, by
            have h1 := HG.out.len
            have h2 := HOK1.out.2.1
            have h3 := HOK1.out.2.2 HBF.out
            rw [if_neg (by rw [HBF.out]; decide)] at h1
            simp only [List.length_append, List.length_singleton] at *
            by_cases hb6 : s6.1.2 = true
            · rw [if_pos hb6]; omega
            · rw [if_neg hb6]; have := h3 (by simpa using hb6); omega, by rw [HG.out.fin, HGF.out]; simp⟩
          clear hR7 hg7 hba hty HG7' HR7
          go_roundw
          case rel => exact ⟨k + 1, s6, xs ++ [x], v7, by omega, by go_num, rfl, HG7⟩
          case measure => simp [intOf]; omega
      · obtain rfl : k = n := by omega
        have hfin : R = (xs, sk) := by
          rw [HGR.out, HG.out.fin, Nat.sub_self, getF]
          simp
        subst hfin
        go_wp2_with fail
        go_ret
        exact ⟨_, rfl, HG.out.row, HG.out.st, HG.out.rp⟩
set_option maxRecDepth 100000 in
set_option maxHeartbeats 8000000 in
theorem getSaved_any (one : Rl → S60 × Rl) (gr pb : Nat) {w0 w : World} {s : Rl} (hS : RSt w0 gr pb none s w) (hs : Rok s.1) (hlen : s.1.1.length ≤ 1000000000000) (hone : OneOk one)
    (hF : ∀ (s : Rl) (W : World), Rok s.1 → s.1.1.length ≤ 1000000000000 → RSt w0 gr pb none s W → Calls Tryz.prog 86 #[.pointer (some ⟨pb, 0, none⟩)] W (FPost k60 w0 W gr pb none (one s))) :
    Calls Tryz.prog 85 #[.pointer (some ⟨gr, 0, none⟩), .func (.func 86) #[] #[.pointer (some ⟨pb, 0, none⟩)]] w (GPost k60 60 w0 w gr pb none (getR one s)) := by
  have HN := Lib.hid (number_any hS.rd hs)
  have HI := num_I64 hs
  have HOK := Lib.hid hs.num
  have hnl := num_len s.1
  have hgr : getR one s = if (numR s.1).1 < 0 then ([], (((numR s.1).2.1, true), s.2)) else getF one (numR s.1).1.toNat ((numR s.1).2, s.2) := rfl
  have HS := Lib.hid hS
  have HF := Lib.hid hF
  have HONE := Lib.hid hone
  have h0w := hS.rd.2.1.size
  generalize getR one s = R at *
  generalize numR s.1 = r at *
  obtain ⟨n, s1⟩ := r
  simp only at hgr HI hnl
  clear hS hs hF hone
  by_cases hn : n < 0
  · rw [if_pos hn] at hgr
    subst hgr
    have d1 : decide (n < 0) = true := decide_eq_true hn
    have d2 : decide (0 < n) = false := decide_eq_false (by omega)
    clear hn
    go_enter Tryz.func85, Tryz.ntmps85
    go_wp2_with fail
    refine HN.out.mono ?_
    rintro e1 w1 ⟨rfl, hR1, hO1⟩
    have hS1 := HS.out.read hR1 hO1
    have hc1 := hR1.cells.choose_spec.choose_spec.2.1
    have hf1 := hR1.cells.choose_spec.choose_spec.2.2.1
    have HM := Lib.hid (hR1.mark true)
    have HS1 := Lib.hid (show RSt w0 gr pb none (((s1.1, true), s.2) : Rl) (w1.setCell ⟨gr, 1, none⟩ (.bool true)) from hS1.read (HM.out) (Ro.set 1 _))
    have HO1 := Lib.hid (Rp.of_ro (pl := none) (hO1.trans (Ro.set 1 (.bool true))))
    have hc2 := HM.out.cells.choose_spec.choose_spec.2.1
    clear hR1 hO1 hS1
    go_wp2_with fail
    go_loopw [6, 7] (fun t6 t7 wr => t6 = .slice none 0 0 ∧ t7 = .int .i64 0 ∧ wr = w1.setCell ⟨gr, 1, none⟩ (.bool true)) (fun _ _ _ => 0)
    case atStart => exact ⟨rfl, rfl, rfl⟩
    case round =>
      obtain ⟨rfl, rfl, rfl⟩ := hrel
      go_wp2_with fail
      go_ret
      exact ⟨_, rfl, Kd.R_nil _ _ _ _ _, HS1.out, HO1.out⟩
  · rw [if_neg hn] at hgr
    have d1 : decide (n < 0) = false := decide_eq_false hn
    obtain ⟨n, rfl⟩ := Int.eq_ofNat_of_zero_le (show 0 ≤ n by omega)
    rw [Int.toNat_natCast] at hgr
    have HGR := Lib.hid hgr
    have hnm := HI.2
    clear hn hgr HI
    go_enter Tryz.func85, Tryz.ntmps85
    go_wp2_with fail
    refine HN.out.mono ?_
    rintro e1 w1 ⟨rfl, hR1, hO1⟩
    have HG := Lib.hid (show GL k60 60 one w0 w gr pb none n (s1, s.2) s1.1.length 0 (s1, s.2) [] (.slice none 0 0) w1 from ⟨HS.out.read hR1 hO1, Kd.R_nil _ _ _ _ _, Rp.of_ro hO1, HOK.out, by simp, by simp⟩)
    clear hR1 hO1
    go_wp2_with fail
    go_loopw [6, 7] (fun t6 t7 wr => ∃ (k : Nat) (sk : Rl) (xs : List S60) (v : Value), k ≤ n ∧ t7 = .int .i64 (k : Int) ∧ t6 = v ∧ Hid (GL k60 60 one w0 w gr pb none n (s1, s.2) s1.1.length k sk xs v wr)) (fun _ t7 _ => n - (intOf t7).toNat)
    case atStart => exact ⟨0, _, [], _, by omega, rfl, rfl, HG⟩
    case round =>
      clear HG
      obtain ⟨k, sk, xs, v, hk, rfl, rfl, HG⟩ := hrel
      obtain ⟨A, c, rfl⟩ := Kd.R_slice HG.out.row
      have hcb := HG.out.st.rd.cells.choose_spec.choose_spec.2.1
      by_cases hlt : k < n
      · have d2 : decide ((k : Int) < (n : Int)) = true := decide_eq_true (by omega)
        by_cases hbd : sk.1.2 = true
        · rw [hbd] at hcb
          have hfin : R = (xs, sk) := by
            rw [HGR.out, HG.out.fin, show n - k = (n - (k + 1)) + 1 by omega, getF, if_pos hbd]
            simp
          subst hfin
          clear hbd
          go_wp2_with fail
          go_ret
          exact ⟨_, rfl, HG.out.row, HG.out.st, HG.out.rp⟩
        · have hbf : sk.1.2 = false := by simpa using hbd
          rw [hbf] at hcb
          have HLL := Lib.hid (show xs.length ≤ 1000000000000 by have := HG.out.len; rw [if_neg hbd] at this; omega)
          have HFK := Lib.hid (HF.out sk wr HG.out.ok (by have := HG.out.len; rw [if_neg hbd] at this; omega) HG.out.st)
          have HOK1 := Lib.hid (HONE.out sk HG.out.ok)
          have HGF := Lib.hid (show getF one (n - k) sk = ((one sk).1 :: (getF one (n - (k + 1)) (one sk).2).1, (getF one (n - (k + 1)) (one sk).2).2) from by rw [show n - k = (n - (k + 1)) + 1 by omega, getF, if_neg hbd])
          have HBF := Lib.hid hbf
          clear hbd hbf
          generalize one sk = r at *
          obtain ⟨x, s6⟩ := r
          go_wp2_with fail
          refine HFK.out.mono ?_
          rintro e6 w6 ⟨cs, rfl, hM, hS6, hO6⟩
          have hM := hM
          obtain rfl := k60_openM hM
          skip
          have hrow : k60.R 60 w6 w.heap.size (fun _ => True) (.slice A xs.length c) xs := R_rp HG.out.row HG.out.st (k60q) hO6
          obtain ⟨inn, hown⟩ := Kd.R_own HG.out.row
          have hmk : k60.M w6 wr.heap.size (fun _ => True) x [.string x.f0, .string x.f1, .int .i64 x.f2, .bool x.f3] := k60_mkM _ _ _ x
          have hMn : k60.M w6 w.heap.size (fun k => True ∧ some k ≠ (Value.slice A xs.length c).ownBlock) x [.string x.f0, .string x.f1, .int .i64 x.f2, .bool x.f3] := k60.M_lower HG.out.rp.size (Kd.M_new (W := wr) hmk hown)
          have HROW := Lib.hid hrow
          have HMN := Lib.hid hMn
          have HS6 := Lib.hid hS6
          have HO6 := Lib.hid (HG.out.rp.trans hO6)
          have hll : (xs.length + 1) * 48 ≤ 140737488355328 := by have := HLL.out; omega
          have HLL2 := Lib.hid hll
          clear hM hS6 hO6 hrow hown hmk hMn hll
          go_wp2_with (at_builtin; refine Kd.R_append (P := Tryz.prog) k60 (w0 := w6) (W := w6) w.heap.size (by rfl) _ _ 28 60 _ 48 (by rfl) Tryz.underlying28 info60 rfl (by decide) (by decide) (.slice A xs.length c) xs x [.string x.f0, .string x.f1, .int .i64 x.f2, .bool x.f3] (fun _ => True) _ (by rfl) (by rfl) HMN.out (fun k hk => hk) (fun _ _ => trivial) HROW.out (Below.refl _ _) HO6.out.size HLL2.out ?_; intro v7 w7 hR7 _ hg7 _; clear HFK; have HR7 := Lib.hid hR7; have HG7' := Lib.hid hg7; clear hR7 hg7)
          have hR7 := HR7.out
          have hg7 := HG7'.out
          have hba := Kd.R_base HROW.out
          have hty := Kd.R_typed HROW.out
          have HG7 : Hid (GL k60 60 one w0 w gr pb none n (s1, s.2) s1.1.length (k + 1) s6 (xs ++ [x]) v7 w7) := Lib.hid ⟨RSt.grown (cells := fun _ => #[]) HS6.out hg7 (fun k hk => Nat.le_trans h0w (hba k hk)) hty (by decide) (by decide) (by decide), hR7, HO6.out.grown hg7 hba, HOK1.out.1, by
            have h1 := HG.out.len
            have h2 := HOK1.out.2.1
            have h3 := HOK1.out.2.2 HBF.out
            rw [if_neg (by rw [HBF.out]; decide)] at h1
            simp only [List.length_append, List.length_singleton] at *
            by_cases hb6 : s6.1.2 = true
            · rw [if_pos hb6]; omega
            · rw [if_neg hb6]; have := h3 (by simpa using hb6); omega, by rw [HG.out.fin, HGF.out]; simp⟩
          clear hR7 hg7 hba hty HG7' HR7
          go_roundw
          case rel => exact ⟨k + 1, s6, xs ++ [x], v7, by omega, by go_num, rfl, HG7⟩
          case measure => simp [intOf]; omega
      · obtain rfl : k = n := by omega
        have hfin : R = (xs, sk) := by
          rw [HGR.out, HG.out.fin, Nat.sub_self, getF]
          simp
        subst hfin
        go_wp2_with fail
        go_ret
        exact ⟨_, rfl, HG.out.row, HG.out.st, HG.out.rp⟩
set_option maxRecDepth 100000 in
set_option maxHeartbeats 8000000 in
theorem getSeens_any (one : Rl → S65 × Rl) (gr pb : Nat) (p : Nat) {w0 w : World} {s : Rl} (hS : RSt w0 gr pb (some p) s w) (hs : Rok s.1) (hlen : s.1.1.length ≤ 1000000000000) (hone : OneOk one)
    (hF : ∀ (s : Rl) (W : World), Rok s.1 → s.1.1.length ≤ 1000000000000 → RSt w0 gr pb (some p) s W → Calls Tryz.prog 92 #[.pointer (some ⟨p, 0, none⟩), .pointer (some ⟨pb, 0, none⟩)] W (FPost k65 w0 W gr pb (some p) (one s))) :
    Calls Tryz.prog 91 #[.pointer (some ⟨gr, 0, none⟩), .func (.func 92) #[] #[.pointer (some ⟨p, 0, none⟩), .pointer (some ⟨pb, 0, none⟩)]] w (GPost k65 65 w0 w gr pb (some p) (getR one s)) := by
  have HN := Lib.hid (number_any hS.rd hs)
  have HI := num_I64 hs
  have HOK := Lib.hid hs.num
  have hnl := num_len s.1
  have hgr : getR one s = if (numR s.1).1 < 0 then ([], (((numR s.1).2.1, true), s.2)) else getF one (numR s.1).1.toNat ((numR s.1).2, s.2) := rfl
  have HS := Lib.hid hS
  have HF := Lib.hid hF
  have HONE := Lib.hid hone
  have h0w := hS.rd.2.1.size
  generalize getR one s = R at *
  generalize numR s.1 = r at *
  obtain ⟨n, s1⟩ := r
  simp only at hgr HI hnl
  clear hS hs hF hone
  by_cases hn : n < 0
  · rw [if_pos hn] at hgr
    subst hgr
    have d1 : decide (n < 0) = true := decide_eq_true hn
    have d2 : decide (0 < n) = false := decide_eq_false (by omega)
    clear hn
    go_enter Tryz.func91, Tryz.ntmps91
    go_wp2_with fail
    refine HN.out.mono ?_
    rintro e1 w1 ⟨rfl, hR1, hO1⟩
    have hS1 := HS.out.read hR1 hO1
    have hc1 := hR1.cells.choose_spec.choose_spec.2.1
    have hf1 := hR1.cells.choose_spec.choose_spec.2.2.1
    have HM := Lib.hid (hR1.mark true)
    have HS1 := Lib.hid (show RSt w0 gr pb (some p) (((s1.1, true), s.2) : Rl) (w1.setCell ⟨gr, 1, none⟩ (.bool true)) from hS1.read (HM.out) (Ro.set 1 _))
    have HO1 := Lib.hid (Rp.of_ro (pl := (some p)) (hO1.trans (Ro.set 1 (.bool true))))
    have hc2 := HM.out.cells.choose_spec.choose_spec.2.1
    clear hR1 hO1 hS1
    go_wp2_with fail
    go_loopw [6, 7] (fun t6 t7 wr => t6 = .slice none 0 0 ∧ t7 = .int .i64 0 ∧ wr = w1.setCell ⟨gr, 1, none⟩ (.bool true)) (fun _ _ _ => 0)
    case atStart => exact ⟨rfl, rfl, rfl⟩
    case round =>
      obtain ⟨rfl, rfl, rfl⟩ := hrel
      go_wp2_with fail
      go_ret
      exact ⟨_, rfl, Kd.R_nil _ _ _ _ _, HS1.out, HO1.out⟩
  · rw [if_neg hn] at hgr
    have d1 : decide (n < 0) = false := decide_eq_false hn
    obtain ⟨n, rfl⟩ := Int.eq_ofNat_of_zero_le (show 0 ≤ n by omega)
    rw [Int.toNat_natCast] at hgr
    have HGR := Lib.hid hgr
    have hnm := HI.2
    clear hn hgr HI
    go_enter Tryz.func91, Tryz.ntmps91
    go_wp2_with fail
    refine HN.out.mono ?_
    rintro e1 w1 ⟨rfl, hR1, hO1⟩
    have HG := Lib.hid (show GL k65 65 one w0 w gr pb (some p) n (s1, s.2) s1.1.length 0 (s1, s.2) [] (.slice none 0 0) w1 from ⟨HS.out.read hR1 hO1, Kd.R_nil _ _ _ _ _, Rp.of_ro hO1, HOK.out, by simp, by simp⟩)
    clear hR1 hO1
    go_wp2_with fail
    go_loopw [6, 7] (fun t6 t7 wr => ∃ (k : Nat) (sk : Rl) (xs : List S65) (v : Value), k ≤ n ∧ t7 = .int .i64 (k : Int) ∧ t6 = v ∧ Hid (GL k65 65 one w0 w gr pb (some p) n (s1, s.2) s1.1.length k sk xs v wr)) (fun _ t7 _ => n - (intOf t7).toNat)
    case atStart => exact ⟨0, _, [], _, by omega, rfl, rfl, HG⟩
    case round =>
      clear HG
      obtain ⟨k, sk, xs, v, hk, rfl, rfl, HG⟩ := hrel
      obtain ⟨A, c, rfl⟩ := Kd.R_slice HG.out.row
      have hcb := HG.out.st.rd.cells.choose_spec.choose_spec.2.1
      by_cases hlt : k < n
      · have d2 : decide ((k : Int) < (n : Int)) = true := decide_eq_true (by omega)
        by_cases hbd : sk.1.2 = true
        · rw [hbd] at hcb
          have hfin : R = (xs, sk) := by
            rw [HGR.out, HG.out.fin, show n - k = (n - (k + 1)) + 1 by omega, getF, if_pos hbd]
            simp
          subst hfin
          clear hbd
          go_wp2_with fail
          go_ret
          exact ⟨_, rfl, HG.out.row, HG.out.st, HG.out.rp⟩
        · have hbf : sk.1.2 = false := by simpa using hbd
          rw [hbf] at hcb
          have HLL := Lib.hid (show xs.length ≤ 1000000000000 by have := HG.out.len; rw [if_neg hbd] at this; omega)
          have HFK := Lib.hid (HF.out sk wr HG.out.ok (by have := HG.out.len; rw [if_neg hbd] at this; omega) HG.out.st)
          have HOK1 := Lib.hid (HONE.out sk HG.out.ok)
          have HGF := Lib.hid (show getF one (n - k) sk = ((one sk).1 :: (getF one (n - (k + 1)) (one sk).2).1, (getF one (n - (k + 1)) (one sk).2).2) from by rw [show n - k = (n - (k + 1)) + 1 by omega, getF, if_neg hbd])
          have HBF := Lib.hid hbf
          clear hbd hbf
          generalize one sk = r at *
          obtain ⟨x, s6⟩ := r
          go_wp2_with fail
          refine HFK.out.mono ?_
          rintro e6 w6 ⟨cs, rfl, hM, hS6, hO6⟩
          have hM := hM
          obtain ⟨v5, rfl, hv5⟩ := k65_openM hM
          obtain ⟨A5, c5, rfl⟩ := Kd.R_slice hv5
          have hrow : k65.R 65 w6 w.heap.size (fun _ => True) (.slice A xs.length c) xs := R_rp HG.out.row HG.out.st (k65q) hO6
          obtain ⟨inn, hown⟩ := Kd.R_own HG.out.row
          have hmk : k65.M w6 wr.heap.size (fun _ => True) x [.int .i64 x.f0, .string x.f1.f0, .int .i64 x.f1.f1, (.slice A5 x.f1.f2.length c5), .bool x.f2] := k65_mkM _ _ _ x hv5
          have hMn : k65.M w6 w.heap.size (fun k => True ∧ some k ≠ (Value.slice A xs.length c).ownBlock) x [.int .i64 x.f0, .string x.f1.f0, .int .i64 x.f1.f1, (.slice A5 x.f1.f2.length c5), .bool x.f2] := k65.M_lower HG.out.rp.size (Kd.M_new (W := wr) hmk hown)
          have HROW := Lib.hid hrow
          have HMN := Lib.hid hMn
          have HS6 := Lib.hid hS6
          have HO6 := Lib.hid (HG.out.rp.trans hO6)
          have hll : (xs.length + 1) * 64 ≤ 140737488355328 := by have := HLL.out; omega
          have HLL2 := Lib.hid hll
          clear hM hS6 hO6 hrow hown hmk hMn hll
          go_wp2_with (at_builtin; refine Kd.R_append (P := Tryz.prog) k65 (w0 := w6) (W := w6) w.heap.size (by rfl) _ _ 29 65 _ 64 (by rfl) Tryz.underlying29 info65 rfl (by decide) (by decide) (.slice A xs.length c) xs x [.int .i64 x.f0, .string x.f1.f0, .int .i64 x.f1.f1, (.slice A5 x.f1.f2.length c5), .bool x.f2] (fun _ => True) _ (by rfl) (by rfl) HMN.out (fun k hk => hk) (fun _ _ => trivial) HROW.out (Below.refl _ _) HO6.out.size HLL2.out ?_; intro v7 w7 hR7 _ hg7 _; clear HFK; have HR7 := Lib.hid hR7; have HG7' := Lib.hid hg7; clear hR7 hg7)
          have hR7 := HR7.out
          have hg7 := HG7'.out
          have hba := Kd.R_base HROW.out
          have hty := Kd.R_typed HROW.out
          have HG7 : Hid (GL k65 65 one w0 w gr pb (some p) n (s1, s.2) s1.1.length (k + 1) s6 (xs ++ [x]) v7 w7) := Lib.hid ⟨RSt.grown (cells := fun _ => #[]) HS6.out hg7 (fun k hk => Nat.le_trans h0w (hba k hk)) hty (by decide) (by decide) (by decide), hR7, HO6.out.grown hg7 hba, HOK1.out.1, by
            have h1 := HG.out.len
            have h2 := HOK1.out.2.1
            have h3 := HOK1.out.2.2 HBF.out
            rw [if_neg (by rw [HBF.out]; decide)] at h1
            simp only [List.length_append, List.length_singleton] at *
            by_cases hb6 : s6.1.2 = true
            · rw [if_pos hb6]; omega
            · rw [if_neg hb6]; have := h3 (by simpa using hb6); omega, by rw [HG.out.fin, HGF.out]; simp⟩
          clear hR7 hg7 hba hty HG7' HR7
          go_roundw
          case rel => exact ⟨k + 1, s6, xs ++ [x], v7, by omega, by go_num, rfl, HG7⟩
          case measure => simp [intOf]; omega
      · obtain rfl : k = n := by omega
        have hfin : R = (xs, sk) := by
          rw [HGR.out, HG.out.fin, Nat.sub_self, getF]
          simp
        subst hfin
        go_wp2_with fail
        go_ret
        exact ⟨_, rfl, HG.out.row, HG.out.st, HG.out.rp⟩
end Go.Proofs.YtcfgmkmllcfjjaaGreatDoor
