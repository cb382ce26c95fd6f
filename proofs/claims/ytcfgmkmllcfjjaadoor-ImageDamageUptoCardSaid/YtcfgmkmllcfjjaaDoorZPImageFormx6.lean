import Derived.Test.YtcfgmkmllcfjjaaDoorZPImageFormx0
namespace Go.Proofs.YtcfgmkmllcfjjaaDoor.PImageForm
open Go.RowKit Go.Proofs.YtcfgmkmllcfjjaaDoorW.PrintWords Go.Proofs.YtcfgmkmllcfjjaaDoorW.PrintLast Go.Proofs.YtcfgmkmllcfjjaaDoorW.PrintMore
attribute [local go_sem] max2_int min2_int max_two min_two max_three min_three max_four min_four
set_option linter.unusedVariables false
set_option linter.unusedSimpArgs false
attribute [local go_sem high] eqA61
mutual
def refrainlaw22_types.l0 : Nat → List (S64) → List (S64) → Int → Option (Bool)
  | 0, _, _, _ => none
  | k + 1, x0, x1, x5 => if x5 < (x0.length : Int) then (if 0 ≤ x5 then (if x5 < (x1.length : Int) then (if ((rd_T64 x0 x5).f0).toList = ((rd_T64 x1 x5).f0).toList then (refrainlaw22_types.j1 k x0 x1 x5 ((((rd_T64 x0 x5).f1).length : Int) != (((rd_T64 x1 x5).f1).length : Int))) else (refrainlaw22_types.j1 k x0 x1 x5 true)) else (none)) else (none)) else (some true)
def refrainlaw22_types.j1 : Nat → List (S64) → List (S64) → Int → Bool → Option (Bool)
  | 0, _, _, _, _ => none
  | k + 1, x0, x1, x5, x43 => if x43 = true then (some false) else (refrainlaw22_types.l1 k x0 x1 x5 0)
def refrainlaw22_types.l1 : Nat → List (S64) → List (S64) → Int → Int → Option (Bool)
  | 0, _, _, _, _ => none
  | k + 1, x0, x1, x5, x6 => if 0 ≤ x5 then (if x5 < (x0.length : Int) then (if x6 < (((rd_T64 x0 x5).f1).length : Int) then (if 0 ≤ x6 then (if x5 < (x1.length : Int) then (if x6 < (((rd_T64 x1 x5).f1).length : Int) then (if (!((((rd_T61 ((rd_T64 x0 x5).f1) x6).f0).toList) == (((rd_T61 ((rd_T64 x1 x5).f1) x6).f0).toList)) || (!(((rd_T61 ((rd_T64 x0 x5).f1) x6).f1) == ((rd_T61 ((rd_T64 x1 x5).f1) x6).f1)))) = true then (some false) else (refrainlaw22_types.l1 k x0 x1 x5 (wrap64 (x6 + 1)))) else (none)) else (none)) else (none)) else (refrainlaw22_types.l0 k x0 x1 (wrap64 (x5 + 1)))) else (none)) else (none)
end
def refrainlaw22_types.f (k : Nat) (l0 : List (S64)) (l1 : List (S64)) : Option (Bool) := if (l0.length : Int) = (l1.length : Int) then (refrainlaw22_types.l0 k l0 l1 0) else (some false)
theorem refrainlaw22_types.mono_l : ∀ k, (∀ y0 y1 y2, LeO (refrainlaw22_types.l0 k y0 y1 y2) (refrainlaw22_types.l0 (k + 1) y0 y1 y2)) ∧ (∀ y0 y1 y2 y3, LeO (refrainlaw22_types.j1 k y0 y1 y2 y3) (refrainlaw22_types.j1 (k + 1) y0 y1 y2 y3)) ∧ (∀ y0 y1 y2 y3, LeO (refrainlaw22_types.l1 k y0 y1 y2 y3) (refrainlaw22_types.l1 (k + 1) y0 y1 y2 y3))
  | 0 => ⟨fun _ _ _ r h => by simp [refrainlaw22_types.l0] at h, fun _ _ _ _ r h => by simp [refrainlaw22_types.j1] at h, fun _ _ _ _ r h => by simp [refrainlaw22_types.l1] at h⟩
  | k + 1 => by
    obtain ⟨ih0, ih1, ih2⟩ := refrainlaw22_types.mono_l k
    refine ⟨?_, ?_, ?_⟩
    · intro y0 y1 y2
      unfold refrainlaw22_types.l0
      repeat' first
      | (with_reducible exact ih0 _ _ _)
      | (with_reducible exact ih1 _ _ _ _)
      | (with_reducible exact ih2 _ _ _ _)
      | (with_reducible exact LeO.refl _)
      | (with_reducible exact LeO.none _)
      | (with_reducible refine LeO.ite ?_ ?_)
      | (with_reducible refine LeO.bind ?_ (fun _ => ?_))
      | exact ih0 _ _ _
      | exact ih1 _ _ _ _
      | exact ih2 _ _ _ _
      | exact LeO.none _
      | refine LeO.ite ?_ ?_
      | refine LeO.bind ?_ (fun _ => ?_)
    · intro y0 y1 y2 y3
      unfold refrainlaw22_types.j1
      repeat' first
      | (with_reducible exact ih0 _ _ _)
      | (with_reducible exact ih1 _ _ _ _)
      | (with_reducible exact ih2 _ _ _ _)
      | (with_reducible exact LeO.refl _)
      | (with_reducible exact LeO.none _)
      | (with_reducible refine LeO.ite ?_ ?_)
      | (with_reducible refine LeO.bind ?_ (fun _ => ?_))
      | exact ih0 _ _ _
      | exact ih1 _ _ _ _
      | exact ih2 _ _ _ _
      | exact LeO.none _
      | refine LeO.ite ?_ ?_
      | refine LeO.bind ?_ (fun _ => ?_)
    · intro y0 y1 y2 y3
      unfold refrainlaw22_types.l1
      repeat' first
      | (with_reducible exact ih0 _ _ _)
      | (with_reducible exact ih1 _ _ _ _)
      | (with_reducible exact ih2 _ _ _ _)
      | (with_reducible exact LeO.refl _)
      | (with_reducible exact LeO.none _)
      | (with_reducible refine LeO.ite ?_ ?_)
      | (with_reducible refine LeO.bind ?_ (fun _ => ?_))
      | exact ih0 _ _ _
      | exact ih1 _ _ _ _
      | exact ih2 _ _ _ _
      | exact LeO.none _
      | refine LeO.ite ?_ ?_
      | refine LeO.bind ?_ (fun _ => ?_)
theorem refrainlaw22_types.mono : ∀ a0 a1 k, LeO (refrainlaw22_types.f k a0 a1) (refrainlaw22_types.f (k + 1) a0 a1) := by
  intro a0 a1 k
  obtain ⟨ih0, ih1, ih2⟩ := refrainlaw22_types.mono_l k
  unfold refrainlaw22_types.f
  repeat' first
      | (with_reducible exact ih0 _ _ _)
      | (with_reducible exact ih1 _ _ _ _)
      | (with_reducible exact ih2 _ _ _ _)
      | (with_reducible exact LeO.refl _)
      | (with_reducible exact LeO.none _)
      | (with_reducible refine LeO.ite ?_ ?_)
      | (with_reducible refine LeO.bind ?_ (fun _ => ?_))
      | exact ih0 _ _ _
      | exact ih1 _ _ _ _
      | exact ih2 _ _ _ _
      | exact LeO.none _
      | refine LeO.ite ?_ ?_
      | refine LeO.bind ?_ (fun _ => ?_)
set_option maxHeartbeats 8000000 in
set_option maxRecDepth 100000 in
theorem refrainlaw22_types.calls (k : Nat) (A0 : Option Addr) (c0 : Nat) (l0 : List (S64)) (A1 : Option Addr) (c1 : Nat) (l1 : List (S64)) (r : Bool) (w : World) (hr0 : Kd.C k64 w A0 l0.length l0) (hc0 : l0.length ≤ c0) (hr1 : Kd.C k64 w A1 l1.length l1) (hc1 : l1.length ≤ c1) (h : refrainlaw22_types.f k l0 l1 = some r) :
    Calls Tryd.prog 15 #[.slice A0 l0.length c0, .slice A1 l1.length c1] w fun e w' => e = .returned (.bool r) ∧ Drawn0 w w' := by
  have hu61 := Tryd.underlying61
  have HR0 := Aside0.mk hr0
  have HC0 := Aside0.mk hc0
  clear hr0 hc0
  have HR1 := Aside0.mk hr1
  have HC1 := Aside0.mk hc1
  clear hr1 hc1
  have H : (if (l0.length : Int) = (l1.length : Int) then (refrainlaw22_types.l0 k l0 l1 0) else (some false)) = some r := h
  clear h
  by_cases c3 : (l0.length : Int) = (l1.length : Int)
  · rw [if_pos c3] at H
    have c3b0 : ((l0.length : Int) == (l1.length : Int)) = true := beq_iff_eq.mpr c3
    have c3b1 : ((l0.length : Int) != (l1.length : Int)) = false := bne_eq_false_iff_eq.mpr c3
    have c3b2 : (l0.length == l1.length) = true := by first | simpa using c3 | (simp at c3 ⊢; omega)
    clear c3
    have H' := Aside0.mk H
    clear H
    go_enter Tryd.func15, Tryd.ntmps15
    go_wp2
    repeat (go_quiet (fail); try go_wp2)
    go_loopg [5] k (fun kq v5 w' => ∃ (x5_1 : Int), v5 = .int .i64 x5_1 ∧ Aside0 (refrainlaw22_types.l0 kq l0 l1 x5_1 = some r) ∧ Aside0 (kq ≤ k) ∧ Drawn0 w w')
    case atStart => exact ⟨(0), (by first | rfl | (simp; done) | (simp [*]; done)), H', ⟨Nat.le_refl _⟩, by repeat (first | exact Drawn0.refl _ | apply Drawn0.step)⟩
    case round =>
      clear H'
      try clear c1
      try clear p2
      try clear c3
      try clear c3b0
      try clear c3b1
      try clear c3b2
      obtain ⟨x5_1, rfl, HA, HK1, ⟨m1, rfl⟩⟩ := hrel
      cases gk with
      | zero => exact absurd HA.out (by simp [refrainlaw22_types.l0])
      | succ k1 =>
        have H := HA.out
        clear HA
        simp only [refrainlaw22_types.l0] at H
        by_cases c4 : x5_1 < (l0.length : Int)
        · rw [if_pos c4] at H
          have c4b0 : decide (x5_1 < (l0.length : Int)) = true := decide_eq_true c4
          clear c4
          have HC5 := Aside0.mk H
          clear H
          go_upto_region 6 with (fail)
          repeat (go_quiet (fail); go_upto_region 6 with (fail))
          go_cut [43] (fun v43 wc => ∃ (kq : Nat) (x43_4 : Bool), v43 = .bool x43_4 ∧ Aside0 (refrainlaw22_types.j1 kq l0 l1 x5_1 x43_4 = some r) ∧ Aside0 (kq ≤ k1) ∧ Drawn0 w wc)
          case first =>
            have H := HC5.out
            clear HC5
            by_cases c6 : 0 ≤ x5_1
            · rw [if_pos c6] at H
              have c6b0 : decide (0 ≤ x5_1) = true := decide_eq_true c6
              clear c6
              (first | rw [c6b0] | (simp only [i64_w, i32_w]; rw [c6b0]) | skip)
              by_cases c7 : x5_1 < (l1.length : Int)
              · rw [if_pos c7] at H
                have c7b0 : decide (x5_1 < (l1.length : Int)) = true := decide_eq_true c7
                clear c7
                by_cases c8 : ((rd_T64 l0 x5_1).f0).toList = ((rd_T64 l1 x5_1).f0).toList
                · rw [if_pos c8] at H
                  have c8b0 : (((rd_T64 l0 x5_1).f0).toList == ((rd_T64 l1 x5_1).f0).toList) = true := beq_iff_eq.mpr c8
                  have c8b1 : (((rd_T64 l0 x5_1).f0).toList != ((rd_T64 l1 x5_1).f0).toList) = false := bne_eq_false_iff_eq.mpr c8
                  clear c8
                  have H' := Aside0.mk H
                  clear H
                  have p143 : 0 ≤ (x5_1 : Int) := of_decide_eq_true (by first | (with_reducible assumption) | assumption)
                  have q143 : x5_1 < (l0.length : Int) := of_decide_eq_true (by first | (with_reducible assumption) | assumption)
                  obtain ⟨ad143, A143_1, c143_1, e143, hx143_0, hx143_1, hl143_1, hi143_1⟩ := at_T64 HR0.out x5_1 p143 q143
                  cases e143
                  have HR143_1 := Aside0.mk hi143_1
                  have HC143_1 := Aside0.mk hl143_1
                  clear hi143_1 hl143_1
                  replace p143 := eq_true p143
                  replace q143 := eq_true q143
                  have p144 : 0 ≤ (x5_1 : Int) := of_decide_eq_true (by first | (with_reducible assumption) | assumption)
                  have q144 : x5_1 < (l1.length : Int) := of_decide_eq_true (by first | (with_reducible assumption) | assumption)
                  obtain ⟨ad144, A144_1, c144_1, e144, hx144_0, hx144_1, hl144_1, hi144_1⟩ := at_T64 HR1.out x5_1 p144 q144
                  cases e144
                  have HR144_1 := Aside0.mk hi144_1
                  have HC144_1 := Aside0.mk hl144_1
                  clear hi144_1 hl144_1
                  replace p144 := eq_true p144
                  replace q144 := eq_true q144
                  have p145 : 0 ≤ (x5_1 : Int) := of_decide_eq_true (by first | (with_reducible assumption) | assumption)
                  have q145 : x5_1 < (l0.length : Int) := of_decide_eq_true (by first | (with_reducible assumption) | assumption)
                  obtain ⟨ad145, A145_1, c145_1, e145, hx145_0, hx145_1, hl145_1, hi145_1⟩ := at_T64 HR0.out x5_1 p145 q145
                  obtain rfl : ad143 = ad145 := (by injection e145)
                  have HR145_1 := Aside0.mk hi145_1
                  have HC145_1 := Aside0.mk hl145_1
                  clear hi145_1 hl145_1
                  replace p145 := eq_true p145
                  replace q145 := eq_true q145
                  have ea_ := Option.some.inj (hx143_1.symm.trans hx145_1)
                  injection ea_ with ea_ en_ ec_
                  subst ea_
                  subst ec_
                  clear en_
                  have p146 : 0 ≤ (x5_1 : Int) := of_decide_eq_true (by first | (with_reducible assumption) | assumption)
                  have q146 : x5_1 < (l1.length : Int) := of_decide_eq_true (by first | (with_reducible assumption) | assumption)
                  obtain ⟨ad146, A146_1, c146_1, e146, hx146_0, hx146_1, hl146_1, hi146_1⟩ := at_T64 HR1.out x5_1 p146 q146
                  obtain rfl : ad144 = ad146 := (by injection e146)
                  have HR146_1 := Aside0.mk hi146_1
                  have HC146_1 := Aside0.mk hl146_1
                  clear hi146_1 hl146_1
                  replace p146 := eq_true p146
                  replace q146 := eq_true q146
                  have ea_ := Option.some.inj (hx144_1.symm.trans hx146_1)
                  injection ea_ with ea_ en_ ec_
                  subst ea_
                  subst ec_
                  clear en_
                  go_wp2
                  repeat (go_quiet (fail); try go_wp2)
                  go_meet
                  case rel => exact ⟨_, (((((rd_T64 l0 x5_1).f1).length : Int) != (((rd_T64 l1 x5_1).f1).length : Int))), (by first | rfl | (simp; done) | (simp [*]; done)), H', ⟨by have := HK1.out; first | omega | exact Nat.le_refl _⟩, by repeat (first | exact Drawn0.refl _ | apply Drawn0.step)⟩
                · rw [if_neg c8] at H
                  have c8b0 : (((rd_T64 l0 x5_1).f0).toList == ((rd_T64 l1 x5_1).f0).toList) = false := beq_eq_false_iff_ne.mpr c8
                  have c8b1 : (((rd_T64 l0 x5_1).f0).toList != ((rd_T64 l1 x5_1).f0).toList) = true := bne_iff_ne.mpr c8
                  have H' := Aside0.mk H
                  clear H
                  have p143 : 0 ≤ (x5_1 : Int) := of_decide_eq_true (by first | (with_reducible assumption) | assumption)
                  have q143 : x5_1 < (l0.length : Int) := of_decide_eq_true (by first | (with_reducible assumption) | assumption)
                  obtain ⟨ad143, A143_1, c143_1, e143, hx143_0, hx143_1, hl143_1, hi143_1⟩ := at_T64 HR0.out x5_1 p143 q143
                  cases e143
                  have HR143_1 := Aside0.mk hi143_1
                  have HC143_1 := Aside0.mk hl143_1
                  clear hi143_1 hl143_1
                  replace p143 := eq_true p143
                  replace q143 := eq_true q143
                  have p144 : 0 ≤ (x5_1 : Int) := of_decide_eq_true (by first | (with_reducible assumption) | assumption)
                  have q144 : x5_1 < (l1.length : Int) := of_decide_eq_true (by first | (with_reducible assumption) | assumption)
                  obtain ⟨ad144, A144_1, c144_1, e144, hx144_0, hx144_1, hl144_1, hi144_1⟩ := at_T64 HR1.out x5_1 p144 q144
                  cases e144
                  have HR144_1 := Aside0.mk hi144_1
                  have HC144_1 := Aside0.mk hl144_1
                  clear hi144_1 hl144_1
                  replace p144 := eq_true p144
                  replace q144 := eq_true q144
                  go_wp2
                  repeat (go_quiet (fail); try go_wp2)
                  go_meet
                  case rel => exact ⟨_, (true), (by first | rfl | (simp; done) | (simp [*]; done)), H', ⟨by have := HK1.out; first | omega | exact Nat.le_refl _⟩, by repeat (first | exact Drawn0.refl _ | apply Drawn0.step)⟩
              · rw [if_neg c7] at H
                exact absurd H (by simp)
            · rw [if_neg c6] at H
              exact absurd H (by simp)
          case rest =>
            clear HC5
            try clear c1
            try clear p1
            try clear q1
            try clear hx1
            try clear p2
            try clear c3
            try clear c3b0
            try clear c3b1
            try clear c3b2
            try clear c4
            try clear c4b0
            try clear c6
            try clear c6b0
            try clear c7
            try clear c7b0
            try clear c8
            try clear c8b0
            try clear c8b1
            try clear hx143_0
            try clear hx143_1
            try clear hx144_0
            try clear hx144_1
            try clear hx145_0
            try clear hx145_1
            try clear hx146_0
            try clear hx146_1
            try clear p143
            try clear p144
            try clear p145
            try clear p146
            try clear p2
            try clear q143
            try clear q144
            try clear q145
            try clear q146
            obtain ⟨kq, x43_4, rfl, HA, HJ4, ⟨mc4, rfl⟩⟩ := hcut
            cases kq with
            | zero => exact absurd HA.out (by simp [refrainlaw22_types.j1])
            | succ kj4 =>
              have H := HA.out
              clear HA
              simp only [refrainlaw22_types.j1] at H
              by_cases c9 : x43_4 = true
              · subst c9
                have H1 : (some false) = some r := by rw [if_pos rfl] at H; exact H
                clear H
                have H := H1
                clear H1
                obtain rfl := Option.some.inj H
                go_wp2
                repeat (go_quiet (fail); try go_wp2)
                go_ret
                exact ⟨by first | rfl | (simp; done) | (simp [*]; done), by repeat (first | exact Drawn0.refl _ | apply Drawn0.step)⟩
              · replace c9 := Bool.eq_false_iff.mpr c9
                subst c9
                have H1 : (refrainlaw22_types.l1 kj4 l0 l1 x5_1 0) = some r := by rw [if_neg (show ¬ (false = true) by decide)] at H; exact H
                clear H
                have H := H1
                clear H1
                have H' := Aside0.mk H
                clear H
                go_wp2
                repeat (go_quiet (fail); try go_wp2)
                go_loopg [6] kj4 (fun kq v6 w' => ∃ (x6_3 : Int), v6 = .int .i64 x6_3 ∧ Aside0 (refrainlaw22_types.l1 kq l0 l1 x5_1 x6_3 = some r) ∧ Aside0 (kq ≤ kj4) ∧ Drawn0 w w')
                case atStart => exact ⟨(0), (by first | rfl | (simp; done) | (simp [*]; done)), H', ⟨Nat.le_refl _⟩, by repeat (first | exact Drawn0.refl _ | apply Drawn0.step)⟩
                case round =>
                  clear H'
                  try clear c1
                  try clear p1
                  try clear q1
                  try clear hx1
                  try clear p2
                  try clear c3
                  try clear c3b0
                  try clear c3b1
                  try clear c3b2
                  try clear c4
                  try clear c4b0
                  try clear c6
                  try clear c6b0
                  try clear c7
                  try clear c7b0
                  try clear c8
                  try clear c8b0
                  try clear c8b1
                  try clear c9
                  try clear hx143_0
                  try clear hx143_1
                  try clear hx144_0
                  try clear hx144_1
                  try clear hx145_0
                  try clear hx145_1
                  try clear hx146_0
                  try clear hx146_1
                  try clear p1
                  try clear p143
                  try clear p144
                  try clear p145
                  try clear p146
                  try clear p2
                  try clear q1
                  try clear q143
                  try clear q144
                  try clear q145
                  try clear q146
                  obtain ⟨x6_3, rfl, HA, HK3, ⟨m3, rfl⟩⟩ := hrel
                  cases gk with
                  | zero => exact absurd HA.out (by simp [refrainlaw22_types.l1])
                  | succ k3 =>
                    have H := HA.out
                    clear HA
                    simp only [refrainlaw22_types.l1] at H
                    by_cases c10 : 0 ≤ x5_1
                    · rw [if_pos c10] at H
                      have c10b0 : decide (0 ≤ x5_1) = true := decide_eq_true c10
                      clear c10
                      by_cases c11 : x5_1 < (l0.length : Int)
                      · rw [if_pos c11] at H
                        have c11b0 : decide (x5_1 < (l0.length : Int)) = true := decide_eq_true c11
                        clear c11
                        by_cases c12 : x6_3 < (((rd_T64 l0 x5_1).f1).length : Int)
                        · rw [if_pos c12] at H
                          have c12b0 : decide (x6_3 < (((rd_T64 l0 x5_1).f1).length : Int)) = true := decide_eq_true c12
                          clear c12
                          by_cases c13 : 0 ≤ x6_3
                          · rw [if_pos c13] at H
                            have c13b0 : decide (0 ≤ x6_3) = true := decide_eq_true c13
                            clear c13
                            by_cases c14 : x5_1 < (l1.length : Int)
                            · rw [if_pos c14] at H
                              have c14b0 : decide (x5_1 < (l1.length : Int)) = true := decide_eq_true c14
                              clear c14
                              by_cases c15 : x6_3 < (((rd_T64 l1 x5_1).f1).length : Int)
                              · rw [if_pos c15] at H
                                have c15b0 : decide (x6_3 < (((rd_T64 l1 x5_1).f1).length : Int)) = true := decide_eq_true c15
                                clear c15
                                by_cases c16 : (!((((rd_T61 ((rd_T64 l0 x5_1).f1) x6_3).f0).toList) == (((rd_T61 ((rd_T64 l1 x5_1).f1) x6_3).f0).toList)) || (!(((rd_T61 ((rd_T64 l0 x5_1).f1) x6_3).f1) == ((rd_T61 ((rd_T64 l1 x5_1).f1) x6_3).f1)))) = true
                                · rw [if_pos c16] at H
                                  have c16b0 : (!((((rd_T61 ((rd_T64 l0 x5_1).f1) x6_3).f0).toList) == (((rd_T61 ((rd_T64 l1 x5_1).f1) x6_3).f0).toList)) || (!(((rd_T61 ((rd_T64 l0 x5_1).f1) x6_3).f1) == ((rd_T61 ((rd_T64 l1 x5_1).f1) x6_3).f1)))) = true := c16
                                  clear c16
                                  obtain rfl := Option.some.inj H
                                  have p147 : 0 ≤ (x5_1 : Int) := of_decide_eq_true (by first | (with_reducible assumption) | assumption)
                                  have q147 : x5_1 < (l0.length : Int) := of_decide_eq_true (by first | (with_reducible assumption) | assumption)
                                  obtain ⟨ad147, A147_1, c147_1, e147, hx147_0, hx147_1, hl147_1, hi147_1⟩ := at_T64 HR0.out x5_1 p147 q147
                                  cases e147
                                  have HR147_1 := Aside0.mk hi147_1
                                  have HC147_1 := Aside0.mk hl147_1
                                  clear hi147_1 hl147_1
                                  replace p147 := eq_true p147
                                  replace q147 := eq_true q147
                                  have p148 : 0 ≤ (x5_1 : Int) := of_decide_eq_true (by first | (with_reducible assumption) | assumption)
                                  have q148 : x5_1 < (l0.length : Int) := of_decide_eq_true (by first | (with_reducible assumption) | assumption)
                                  obtain ⟨ad148, A148_1, c148_1, e148, hx148_0, hx148_1, hl148_1, hi148_1⟩ := at_T64 HR0.out x5_1 p148 q148
                                  obtain rfl : ad147 = ad148 := (by injection e148)
                                  have HR148_1 := Aside0.mk hi148_1
                                  have HC148_1 := Aside0.mk hl148_1
                                  clear hi148_1 hl148_1
                                  replace p148 := eq_true p148
                                  replace q148 := eq_true q148
                                  have ea_ := Option.some.inj (hx147_1.symm.trans hx148_1)
                                  injection ea_ with ea_ en_ ec_
                                  subst ea_
                                  subst ec_
                                  clear en_
                                  have p149 : 0 ≤ (x6_3 : Int) := of_decide_eq_true (by first | (with_reducible assumption) | assumption)
                                  have q149 : x6_3 < (((rd_T64 l0 x5_1).f1).length : Int) := of_decide_eq_true (by first | (with_reducible assumption) | assumption)
                                  obtain ⟨ad149, e149, hx149_0, hx149_1⟩ := at_T61 HR148_1.out x6_3 p149 q149
                                  cases e149
                                  replace p149 := eq_true p149
                                  replace q149 := eq_true q149
                                  have p150 : 0 ≤ (x5_1 : Int) := of_decide_eq_true (by first | (with_reducible assumption) | assumption)
                                  have q150 : x5_1 < (l1.length : Int) := of_decide_eq_true (by first | (with_reducible assumption) | assumption)
                                  obtain ⟨ad150, A150_1, c150_1, e150, hx150_0, hx150_1, hl150_1, hi150_1⟩ := at_T64 HR1.out x5_1 p150 q150
                                  cases e150
                                  have HR150_1 := Aside0.mk hi150_1
                                  have HC150_1 := Aside0.mk hl150_1
                                  clear hi150_1 hl150_1
                                  replace p150 := eq_true p150
                                  replace q150 := eq_true q150
                                  have p151 : 0 ≤ (x6_3 : Int) := of_decide_eq_true (by first | (with_reducible assumption) | assumption)
                                  have q151 : x6_3 < (((rd_T64 l1 x5_1).f1).length : Int) := of_decide_eq_true (by first | (with_reducible assumption) | assumption)
                                  obtain ⟨ad151, e151, hx151_0, hx151_1⟩ := at_T61 HR150_1.out x6_3 p151 q151
                                  cases e151
                                  replace p151 := eq_true p151
                                  replace q151 := eq_true q151
                                  go_wp2
                                  repeat (go_quiet (fail); try go_wp2)
                                  go_ret
                                  exact ⟨by first | rfl | (simp; done) | (simp [*]; done), by repeat (first | exact Drawn0.refl _ | apply Drawn0.step)⟩
                                · rw [if_neg c16] at H
                                  have c16b0 : (!((((rd_T61 ((rd_T64 l0 x5_1).f1) x6_3).f0).toList) == (((rd_T61 ((rd_T64 l1 x5_1).f1) x6_3).f0).toList)) || (!(((rd_T61 ((rd_T64 l0 x5_1).f1) x6_3).f1) == ((rd_T61 ((rd_T64 l1 x5_1).f1) x6_3).f1)))) = false := by simpa using c16
                                  clear c16
                                  have H' := Aside0.mk H
                                  clear H
                                  have p147 : 0 ≤ (x5_1 : Int) := of_decide_eq_true (by first | (with_reducible assumption) | assumption)
                                  have q147 : x5_1 < (l0.length : Int) := of_decide_eq_true (by first | (with_reducible assumption) | assumption)
                                  obtain ⟨ad147, A147_1, c147_1, e147, hx147_0, hx147_1, hl147_1, hi147_1⟩ := at_T64 HR0.out x5_1 p147 q147
                                  cases e147
                                  have HR147_1 := Aside0.mk hi147_1
                                  have HC147_1 := Aside0.mk hl147_1
                                  clear hi147_1 hl147_1
                                  replace p147 := eq_true p147
                                  replace q147 := eq_true q147
                                  have p148 : 0 ≤ (x5_1 : Int) := of_decide_eq_true (by first | (with_reducible assumption) | assumption)
                                  have q148 : x5_1 < (l0.length : Int) := of_decide_eq_true (by first | (with_reducible assumption) | assumption)
                                  obtain ⟨ad148, A148_1, c148_1, e148, hx148_0, hx148_1, hl148_1, hi148_1⟩ := at_T64 HR0.out x5_1 p148 q148
                                  obtain rfl : ad147 = ad148 := (by injection e148)
                                  have HR148_1 := Aside0.mk hi148_1
                                  have HC148_1 := Aside0.mk hl148_1
                                  clear hi148_1 hl148_1
                                  replace p148 := eq_true p148
                                  replace q148 := eq_true q148
                                  have ea_ := Option.some.inj (hx147_1.symm.trans hx148_1)
                                  injection ea_ with ea_ en_ ec_
                                  subst ea_
                                  subst ec_
                                  clear en_
                                  have p149 : 0 ≤ (x6_3 : Int) := of_decide_eq_true (by first | (with_reducible assumption) | assumption)
                                  have q149 : x6_3 < (((rd_T64 l0 x5_1).f1).length : Int) := of_decide_eq_true (by first | (with_reducible assumption) | assumption)
                                  obtain ⟨ad149, e149, hx149_0, hx149_1⟩ := at_T61 HR148_1.out x6_3 p149 q149
                                  cases e149
                                  replace p149 := eq_true p149
                                  replace q149 := eq_true q149
                                  have p150 : 0 ≤ (x5_1 : Int) := of_decide_eq_true (by first | (with_reducible assumption) | assumption)
                                  have q150 : x5_1 < (l1.length : Int) := of_decide_eq_true (by first | (with_reducible assumption) | assumption)
                                  obtain ⟨ad150, A150_1, c150_1, e150, hx150_0, hx150_1, hl150_1, hi150_1⟩ := at_T64 HR1.out x5_1 p150 q150
                                  cases e150
                                  have HR150_1 := Aside0.mk hi150_1
                                  have HC150_1 := Aside0.mk hl150_1
                                  clear hi150_1 hl150_1
                                  replace p150 := eq_true p150
                                  replace q150 := eq_true q150
                                  have p151 : 0 ≤ (x6_3 : Int) := of_decide_eq_true (by first | (with_reducible assumption) | assumption)
                                  have q151 : x6_3 < (((rd_T64 l1 x5_1).f1).length : Int) := of_decide_eq_true (by first | (with_reducible assumption) | assumption)
                                  obtain ⟨ad151, e151, hx151_0, hx151_1⟩ := at_T61 HR150_1.out x6_3 p151 q151
                                  cases e151
                                  replace p151 := eq_true p151
                                  replace q151 := eq_true q151
                                  go_wp2
                                  repeat (go_quiet (fail); try go_wp2)
                                  go_roundg k3
                                  case measure => have := HK1.out; have := HJ4.out; have := HK3.out; omega
                                  case rel => exact ⟨(wrap64 (x6_3 + 1)), (by first | rfl | (simp; done) | (simp [*]; done)), H', ⟨by have := HK1.out; have := HJ4.out; have := HK3.out; omega⟩, by repeat (first | exact Drawn0.refl _ | apply Drawn0.step)⟩
                              · rw [if_neg c15] at H
                                exact absurd H (by simp)
                            · rw [if_neg c14] at H
                              exact absurd H (by simp)
                          · rw [if_neg c13] at H
                            exact absurd H (by simp)
                        · rw [if_neg c12] at H
                          have c12b0 : decide (x6_3 < (((rd_T64 l0 x5_1).f1).length : Int)) = false := decide_eq_false c12
                          clear c12
                          have H' := Aside0.mk H
                          clear H
                          have p147 : 0 ≤ (x5_1 : Int) := of_decide_eq_true (by first | (with_reducible assumption) | assumption)
                          have q147 : x5_1 < (l0.length : Int) := of_decide_eq_true (by first | (with_reducible assumption) | assumption)
                          obtain ⟨ad147, A147_1, c147_1, e147, hx147_0, hx147_1, hl147_1, hi147_1⟩ := at_T64 HR0.out x5_1 p147 q147
                          cases e147
                          have HR147_1 := Aside0.mk hi147_1
                          have HC147_1 := Aside0.mk hl147_1
                          clear hi147_1 hl147_1
                          replace p147 := eq_true p147
                          replace q147 := eq_true q147
                          go_wp2
                          repeat (go_quiet (fail); try go_wp2)
                          go_roundg k3
                          case measure => have := HK1.out; have := HJ4.out; have := HK3.out; omega
                          case rel => exact ⟨(wrap64 (x5_1 + 1)), (by first | rfl | (simp; done) | (simp [*]; done)), H', ⟨by have := HK1.out; have := HJ4.out; have := HK3.out; omega⟩, by repeat (first | exact Drawn0.refl _ | apply Drawn0.step)⟩
                      · rw [if_neg c11] at H
                        exact absurd H (by simp)
                    · rw [if_neg c10] at H
                      exact absurd H (by simp)
        · rw [if_neg c4] at H
          have c4b0 : decide (x5_1 < (l0.length : Int)) = false := decide_eq_false c4
          clear c4
          obtain rfl := Option.some.inj H
          go_wp2
          repeat (go_quiet (fail); try go_wp2)
          go_ret
          exact ⟨by first | rfl | (simp; done) | (simp [*]; done), by repeat (first | exact Drawn0.refl _ | apply Drawn0.step)⟩
  · rw [if_neg c3] at H
    have c3b0 : ((l0.length : Int) == (l1.length : Int)) = false := beq_eq_false_iff_ne.mpr c3
    have c3b1 : ((l0.length : Int) != (l1.length : Int)) = true := bne_iff_ne.mpr c3
    have c3b2 : (l0.length == l1.length) = false := by first | simpa using c3 | (simp at c3 ⊢; omega)
    obtain rfl := Option.some.inj H
    go_enter Tryd.func15, Tryd.ntmps15
    go_wp2
    repeat (go_quiet (fail); try go_wp2)
    go_ret
    exact ⟨by first | rfl | (simp; done) | (simp [*]; done), by repeat (first | exact Drawn0.refl _ | apply Drawn0.step)⟩
end Go.Proofs.YtcfgmkmllcfjjaaDoor.PImageForm
