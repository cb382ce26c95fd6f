import Derived.Test.YtcfgmkmllcfjjaaDoorZImP
import Derived.BigQuiet
import Derived.Deep.DeepCutAuto
set_option linter.unusedVariables false
set_option linter.unusedSimpArgs false
namespace Go.Proofs.YtcfgmkmllcfjjaaDoor
open Go.RowKit Go.Proofs.YtcfgmkmllcfjjaaDoorW.PrintWords Go.Proofs.YtcfgmkmllcfjjaaDoorW.PrintMore PImageForm
def withinB (n lo hi : Int) : Bool := decide (lo ≤ n) && decide (n ≤ hi)
theorem within_f (n lo hi : Int) : image_within.f n lo hi = some (withinB n lo hi) := by
  unfold image_within.f withinB
  split
  · rename_i h
    rw [decide_eq_true (show lo ≤ n by omega), Bool.true_and]
  · rename_i h
    rw [decide_eq_false (show ¬ lo ≤ n by omega), Bool.false_and]
def savedB (seq : Int) (q : S57) : Bool := nameB q.f0 && (decide (q.f1.size ≤ 4096) && withinB q.f2 0 seq)
def seensB (seq : Int) : Int → List S71 → Bool
  | _, [] => true
  | last, s :: xs => decide (last < s.f0) && (decide (s.f0 ≤ seq) && seensB seq s.f0 xs)
def mayB (m : Img) : Bool := withinB m.runs 1 1024 && (withinB m.made 0 1024 && (withinB m.seq 0 2305843009213693952 && (withinB m.now 0 4611686018427387904 && (decide (m.types.length ≤ 64) && (decide (m.saved.length ≤ 64) &&
  (m.types.all typeB && (m.saved.all (savedB m.seq) && seensB m.seq 0 m.seens)))))))
theorem within_any (n lo hi : Int) (W : World) : Calls Tryd.prog 17 #[.int .i64 n, .int .i64 lo, .int .i64 hi] W fun e w' => e = .returned (.bool (withinB n lo hi)) ∧ Drawn0 W w' := image_within.calls n lo hi _ W (within_f n lo hi)
theorem qdr {P : Program} {f : FuncId} {args : Array Value} {w : World} {n : Nat} {v : Value} (h : Calls P f args (w.drewN n) fun e w' => e = .returned v ∧ Drawn0 (w.drewN n) w') :
    Calls P f args (w.drewN n) fun e w'' => e = .returned v ∧ ∃ m, w'' = w.drewN m :=
  h.mono fun _ _ ⟨he, ⟨m, hm⟩⟩ => ⟨he, n + m, by rw [hm, World.drewN_drewN]⟩
theorem qdr_add {P : Program} {f : FuncId} {args : Array Value} {w : World} {a n : Nat} {v : Value} (h : Calls P f args (w.drewN (a + n)) fun e w' => e = .returned v ∧ Drawn0 (w.drewN (a + n)) w') :
    Calls P f args (w.drewN (a + n)) fun e w'' => e = .returned v ∧ ∃ m, w'' = w.drewN (a + m) :=
  h.mono fun _ _ ⟨he, ⟨m, hm⟩⟩ => ⟨he, n + m, by rw [hm, World.drewN_drewN, Nat.add_assoc]⟩
theorem gt_dec (a b : Int) : decide (b < a) = decide (a > b) := rfl
set_option maxRecDepth 100000 in
set_option maxHeartbeats 8000000 in
theorem may_any {w : World} {gi : Nat} {m : Img} (hG : GW w) (hI : ImgAt w w gi m) (h1 : m.types.length ≤ 9223372036854775807) (h2 : m.saved.length ≤ 9223372036854775807) (h3 : m.seens.length ≤ 9223372036854775807) (hta : ∀ x ∈ m.types, x.f1.length ≤ 9223372036854775807) :
    Calls Tryd.prog 11 #[.pointer (some ⟨gi, 0, none⟩)] w fun e w' => e = .returned (.bool (mayB m)) ∧ Below w.heap.size w w' := by
  obtain ⟨A4, c4, A5, c5, A6, c6, hb, ⟨hC4, hc4⟩, ⟨hC5, hc5⟩, ⟨hC6, hc6⟩⟩ := hI
  have HG := Lib.hid hG
  have HC4 := Lib.hid hC4
  have HC5 := Lib.hid hC5
  have HC6 := Lib.hid hC6
  have HTA := Lib.hid hta
  have HIB := Lib.hid hb
  have g0 : w.cell? ⟨gi, 0, none⟩ = some (.int .i64 m.runs) := (blk_cell hb 0).trans rfl
  have g1 : w.cell? ⟨gi, 1, none⟩ = some (.int .i64 m.made) := (blk_cell hb 1).trans rfl
  have hR : mayB m = (withinB m.runs 1 1024 && (withinB m.made 0 1024 && (withinB m.seq 0 2305843009213693952 && (withinB m.now 0 4611686018427387904 && (decide (m.types.length ≤ 64) && (decide (m.saved.length ≤ 64) &&
    (m.types.all typeB && (m.saved.all (savedB m.seq) && seensB m.seq 0 m.seens)))))))) := rfl
  have t5 : decide ((m.types.length : Int) ≤ 64) = decide (m.types.length ≤ 64) := decide_eq_decide.mpr (by omega)
  have t6 : decide ((m.saved.length : Int) ≤ 64) = decide (m.saved.length ≤ 64) := decide_eq_decide.mpr (by omega)
  generalize mayB m = R at *
  have hw1 := within_any m.runs 1 1024
  have hw2 := within_any m.made 0 1024
  have hw3 := within_any m.seq 0 2305843009213693952
  have hw4 := within_any m.now 0 4611686018427387904
  generalize withinB m.runs 1 1024 = b1 at *
  generalize withinB m.made 0 1024 = b2 at *
  generalize withinB m.seq 0 2305843009213693952 = b3 at *
  generalize withinB m.now 0 4611686018427387904 = b4 at *
  generalize decide (m.types.length ≤ 64) = b5 at *
  generalize decide (m.saved.length ≤ 64) = b6 at *
  have HW1 := Lib.hid hw1
  have HW2 := Lib.hid hw2
  have HW3 := Lib.hid hw3
  have HW4 := Lib.hid hw4
  have HT5 := Lib.hid t5
  have HT6 := Lib.hid t6
  have hR' : R = (((((b1 && b2) && b3) && b4) && b5) && b6 && (m.types.all typeB && (m.saved.all (savedB m.seq) && seensB m.seq 0 m.seens))) := by rw [hR]; simp only [Bool.and_assoc]
  generalize hS : seensB m.seq 0 m.seens = rest3 at hR'
  have HS := Lib.hid hS
  have HR0 := Lib.hid hR'
  clear hS hG hC4 hC5 hC6 hta hb hw1 hw2 hw3 hw4 t5 t6 hR hR'
  go_enter Tryd.func11, Tryd.ntmps11
  go_upto_region 1 with fail
  go_cut [3] from 11 to 24 (fun t3 wx => t3 = .bool (b1 && b2) ∧ Below w.heap.size w wx)
  case first =>
    cases b1
    · go_wp2_with (go_at_call 17; refine (HW1.out _).mono ?_; rintro e w1 ⟨rfl, ⟨n1, rfl⟩⟩)
      go_meet
      exact ⟨rfl, by repeat (first | exact Below.refl _ _ | apply below_drew | apply pw_below_drewN)⟩
    · go_wp2_with fail
      refine (HW1.out _).mono ?_
      rintro e w1 ⟨rfl, ⟨n1, rfl⟩⟩
      go_wp2_with fail
      refine (HW2.out _).mono ?_
      rintro e w1 ⟨rfl, ⟨n2, rfl⟩⟩
      go_wp2_with fail
      go_meet
      exact ⟨rfl, by repeat (first | exact Below.refl _ _ | apply below_drew | apply pw_below_drewN)⟩
  case rest =>
    obtain ⟨wa, rfl⟩ : ∃ wa : World, wa = wc := ⟨_, rfl⟩
    obtain ⟨rfl, hBX⟩ := hcut
    have hBX := Lib.hid hBX
    generalize hc12 : (b1 && b2) = c12 at *
    have H12 := Lib.hid hc12
    clear hc12 g0 g1
    have hbi := blk_below HIB.out hBX.out
    have g2 : wa.cell? ⟨gi, 2, none⟩ = some (.int .i64 m.seq) := (blk_cell hbi 2).trans rfl
    have g3 : wa.cell? ⟨gi, 3, none⟩ = some (.int .i64 m.now) := (blk_cell hbi 3).trans rfl
    clear hbi
    go_upto_region 2 with fail
    go_cut [3] from 25 to 39 (fun t3 wx => t3 = .bool ((c12 && b3) && b4) ∧ Below w.heap.size w wx)
    case first =>
      cases c12
      · go_wp2_with fail
        go_meet
        exact ⟨rfl, by repeat (first | exact hBX.out | apply below_drew | apply pw_below_drewN)⟩
      · cases b3
        · go_wp2_with fail
          refine (HW3.out _).mono ?_
          rintro e w1 ⟨rfl, ⟨n1, rfl⟩⟩
          go_wp2_with fail
          go_meet
          exact ⟨rfl, by repeat (first | exact hBX.out | apply below_drew | apply pw_below_drewN)⟩
        · go_wp2_with fail
          refine (HW3.out _).mono ?_
          rintro e w1 ⟨rfl, ⟨n1, rfl⟩⟩
          go_wp2_with fail
          refine (HW4.out _).mono ?_
          rintro e w1 ⟨rfl, ⟨n2, rfl⟩⟩
          go_wp2_with fail
          go_meet
          exact ⟨rfl, by repeat (first | exact hBX.out | apply below_drew | apply pw_below_drewN)⟩
    case rest =>
      clear g2 g3 hBX
      obtain ⟨wb, rfl⟩ : ∃ wb : World, wb = wc := ⟨_, rfl⟩
      obtain ⟨rfl, hBX⟩ := hcut
      have hBX := Lib.hid hBX
      generalize hc34 : ((c12 && b3) && b4) = c34 at *
      have H34 := Lib.hid hc34
      clear hc34
      have hbi := blk_below HIB.out hBX.out
      have g4 : wb.cell? ⟨gi, 4, none⟩ = some (.slice A4 m.types.length c4) := (blk_cell hbi 4).trans rfl
      have g5 : wb.cell? ⟨gi, 5, none⟩ = some (.slice A5 m.saved.length c5) := (blk_cell hbi 5).trans rfl
      clear hbi
      go_upto_region 3 with fail
      go_cut [3] from 40 to 56 (fun t3 wx => t3 = .bool ((c34 && b5) && b6) ∧ Below w.heap.size w wx)
      case first =>
        have t5 := HT5.out
        have t6 := HT6.out
        cases c34
        · go_wp2_with fail
          go_meet
          exact ⟨rfl, by repeat (first | exact hBX.out | apply below_drew | apply pw_below_drewN)⟩
        · cases b5
          · go_wp2_with fail
            go_meet
            exact ⟨rfl, by repeat (first | exact hBX.out | apply below_drew | apply pw_below_drewN)⟩
          · go_wp2_with fail
            go_meet
            exact ⟨rfl, by repeat (first | exact hBX.out | apply below_drew | apply pw_below_drewN)⟩
      case rest =>
        clear g4 g5 hBX
        obtain ⟨wd, rfl⟩ : ∃ wd : World, wd = wc := ⟨_, rfl⟩
        obtain ⟨rfl, hBX⟩ := hcut
        have hBX := Lib.hid hBX
        have hR1 : R = (((c34 && b5) && b6) && ((m.types.drop 0).all typeB && (m.saved.all (savedB m.seq) && rest3))) := HR0.out
        generalize ((c34 && b5) && b6) = ok0 at *
        have HR := Lib.hid hR1
        clear hR1 HR0 HW1 HW2 HW3 HW4 HT5 HT6 H12 H34
        have hbi := blk_below HIB.out hBX.out
        have g4 : wd.cell? ⟨gi, 3 + 1, none⟩ = some (.slice A4 m.types.length c4) := (blk_cell hbi 4).trans rfl
        clear hbi
        go_wp2_with fail
        go_loopw [3, 62] (fun t3 t62 wr => ∃ (k : Nat) (ok : Bool), k ≤ m.types.length ∧ t62 = .int .i64 k ∧ t3 = .bool ok ∧ Hid (Below w.heap.size w wr) ∧ Hid (R = (ok && ((m.types.drop k).all typeB && (m.saved.all (savedB m.seq) && rest3))))) (fun _ t62 _ => m.types.length - (intOf t62).toNat)
        case atStart => exact ⟨0, _, by omega, rfl, rfl, hBX, HR⟩
        case round =>
          clear HR
          obtain ⟨k, ok, hk2, rfl, rfl, hB, hR⟩ := hrel
          by_cases hlt : k < m.types.length
          · have i1 : (0 : Int) ≤ (k : Int) := by omega
            have i2 : (k : Int) < m.types.length := by omega
            obtain ⟨ad, A1, c1, rfl, q0, q1, hl1, hr1⟩ := atk64N (Kd.C_below HC4.out hB.out) k hlt hlt
            have hbn := below_new wr (.cells #[.string m.types[k].f0, .slice A1 m.types[k].f1.length c1] 64)
            have HBN := Lib.hid (below_step hB.out hbn)
            have hR2 := hR.out
            rw [List.drop_eq_getElem_cons hlt, List.all_cons, Bool.and_assoc, ← Bool.and_assoc] at hR2
            have HR2 := Lib.hid hR2
            have HTK := Lib.hid (typeMay_any (x := m.types[k]) (HG.out.below HBN.out) (Kd.C_below hr1 hbn) hl1 (HTA.out _ (List.getElem_mem hlt)))
            clear hbn hR hR2
            generalize typeB m.types[k] = tb at *
            generalize m.types[k] = y at *
            cases ok
            · go_wp2_with fail
              go_roundw
              case rel => exact ⟨k + 1, false, by omega, by go_num, rfl, HBN, HR2⟩
              case measure => simp [intOf]; omega
            · go_wp2_with (go_at_call 18; refine HTK.out.mono ?_; rintro e w3 ⟨rfl, hB3⟩)
              go_roundw
              case rel => exact ⟨k + 1, tb, by omega, by go_num, rfl, Lib.hid (below_step HBN.out hB3), HR2⟩
              case measure => simp [intOf]; omega
          · obtain rfl : k = m.types.length := by omega
            have hR2 := hR.out
            rw [List.drop_length, List.all_nil, Bool.true_and] at hR2
            have HR : Hid (R = (ok && ((m.saved.drop 0).all (savedB m.seq) && rest3))) := Lib.hid (by rw [List.drop_zero]; exact hR2)
            have HB := hB
            obtain ⟨we, rfl⟩ : ∃ we : World, we = wr := ⟨_, rfl⟩
            have hbi := blk_below HIB.out hB.out
            have g5 : we.cell? ⟨gi, 4 + 1, none⟩ = some (.slice A5 m.saved.length c5) := (blk_cell hbi 5).trans rfl
            clear hR hR2 hB hbi g4
            go_wp2_with fail
            go_loopw [3, 77] (fun t3 t77 wr => ∃ (k : Nat) (ok : Bool), k ≤ m.saved.length ∧ t77 = .int .i64 k ∧ t3 = .bool ok ∧ Hid (Below w.heap.size w wr) ∧ Hid (R = (ok && ((m.saved.drop k).all (savedB m.seq) && rest3)))) (fun _ t77 _ => m.saved.length - (intOf t77).toNat)
            case atStart => exact ⟨0, _, by omega, rfl, rfl, HB, HR⟩
            case round =>
              clear HR HB g5
              obtain ⟨k, ok, hk2, rfl, rfl, hB, hR⟩ := hrel
              by_cases hlt : k < m.saved.length
              · have i1 : (0 : Int) ≤ (k : Int) := by omega
                have i2 : (k : Int) < m.saved.length := by omega
                obtain ⟨ad, rfl, q0, q1, q2, q3⟩ := atk57N (Kd.C_below HC5.out hB.out) k hlt hlt
                have hbn := below_new wr (.cells #[.string m.saved[k].f0, .string m.saved[k].f1, .int .i64 m.saved[k].f2, .bool m.saved[k].f3] 57)
                have HBN := Lib.hid (below_step hB.out hbn)
                have hbi := blk_below HIB.out HBN.out
                have hR2 := hR.out
                rw [List.drop_eq_getElem_cons hlt, List.all_cons, Bool.and_assoc, ← Bool.and_assoc] at hR2
                have HR2 := Lib.hid hR2
                have HNK := Lib.hid (fun W hW => Name_any m.saved[k].f0 W (HG.out.below hW))
                have hsv : savedB m.seq m.saved[k] = (nameB m.saved[k].f0 && (decide (m.saved[k].f1.size ≤ 4096) && withinB m.saved[k].f2 0 m.seq)) := rfl
                generalize savedB m.seq m.saved[k] = sb at *
                have HSV := Lib.hid hsv
                have s2 := (blk_cell hbi 2).trans rfl
                clear hbn hR hR2 hsv hbi
                generalize m.saved[k] = y at *
                obtain ⟨nb, hnb⟩ : ∃ nb : Bool, nameB y.f0 = nb := ⟨_, rfl⟩
                rw [hnb] at HNK HSV
                clear hnb
                have HWK := Lib.hid (within_any y.f2 0 m.seq)
                generalize withinB y.f2 0 m.seq = wb0 at *
                have ht7 : decide ((y.f1.size : Int) ≤ 4096) = decide (y.f1.size ≤ 4096) := decide_eq_decide.mpr (by omega)
                generalize decide (y.f1.size ≤ 4096) = lb at *
                go_upto_region 12 with fail
                cases ok
                · first | go_quiet (fail) | fail
                  go_wp2_with fail
                  go_roundw
                  case rel => exact ⟨k + 1, false, by omega, by go_num, rfl, Lib.hid (by repeat (first | exact HBN.out | apply below_drew | apply pw_below_drewN)), HR2⟩
                  case measure => simp [intOf]; omega
                · cases nb
                  · have HR3 : Hid (R = (false && ((m.saved.drop (k + 1)).all (savedB m.seq) && rest3))) := Lib.hid (by have h1 := HR2.out; rw [HSV.out] at h1; exact h1)
                    clear HR2 HSV
                    first | go_quiet ((go_at_call 19; exact qdr (HNK.out _ (by repeat (first | exact HBN.out | apply below_drew | apply pw_below_drewN))))) | fail
                    go_wp2_with fail
                    go_roundw
                    case rel => exact ⟨k + 1, false, by omega, by go_num, rfl, Lib.hid (by repeat (first | exact HBN.out | apply below_drew | apply pw_below_drewN)), HR3⟩
                    case measure => simp [intOf]; omega
                  · cases lb
                    · have HR3 : Hid (R = (false && ((m.saved.drop (k + 1)).all (savedB m.seq) && rest3))) := Lib.hid (by have h1 := HR2.out; rw [HSV.out] at h1; exact h1)
                      clear HR2 HSV
                      first | go_quiet ((go_at_call 19; exact qdr (HNK.out _ (by repeat (first | exact HBN.out | apply below_drew | apply pw_below_drewN))))) | fail
                      go_wp2_with fail
                      go_roundw
                      case rel => exact ⟨k + 1, false, by omega, by go_num, rfl, Lib.hid (by repeat (first | exact HBN.out | apply below_drew | apply pw_below_drewN)), HR3⟩
                      case measure => simp [intOf]; omega
                    · have HR3 : Hid (R = (wb0 && ((m.saved.drop (k + 1)).all (savedB m.seq) && rest3))) := Lib.hid (by have h1 := HR2.out; rw [HSV.out] at h1; exact h1)
                      clear HR2 HSV
                      first | go_quiet (first | (go_at_call 19; exact qdr (HNK.out _ (by repeat (first | exact HBN.out | apply below_drew | apply pw_below_drewN)))) | (go_at_call 17; exact qdr (HWK.out _))) | fail
                      go_wp2_with fail
                      go_roundw
                      case rel => exact ⟨k + 1, wb0, by omega, by go_num, rfl, Lib.hid (by repeat (first | exact HBN.out | apply below_drew | apply pw_below_drewN)), HR3⟩
                      case measure => simp [intOf]; omega
              · obtain rfl : k = m.saved.length := by omega
                have hR2 := hR.out
                rw [List.drop_length, List.all_nil, Bool.true_and] at hR2
                have HR : Hid (R = (ok && seensB m.seq 0 (m.seens.drop 0))) := Lib.hid (by rw [List.drop_zero, HS.out]; exact hR2)
                have HB := hB
                obtain ⟨wf, rfl⟩ : ∃ wf : World, wf = wr := ⟨_, rfl⟩
                have hbi := blk_below HIB.out hB.out
                have g6 : wf.cell? ⟨gi, 5 + 1, none⟩ = some (.slice A6 m.seens.length c6) := (blk_cell hbi 6).trans rfl
                clear hR hR2 hB hbi HS
                go_wp2_with fail
                go_loopw [3, 8, 108] (fun t3 t8 t108 wr => ∃ (k : Nat) (ok : Bool) (last : Int), k ≤ m.seens.length ∧ t108 = .int .i64 k ∧ t3 = .bool ok ∧ t8 = .int .i64 last ∧ Hid (Below w.heap.size w wr) ∧ Hid (R = (ok && seensB m.seq last (m.seens.drop k)))) (fun _ _ t108 _ => m.seens.length - (intOf t108).toNat)
                case atStart => exact ⟨0, _, 0, by omega, rfl, rfl, rfl, HB, HR⟩
                case round =>
                  clear HR HB g6
                  obtain ⟨k, ok, last, hk2, rfl, rfl, rfl, hB, hR⟩ := hrel
                  by_cases hlt : k < m.seens.length
                  · have i1 : (0 : Int) ≤ (k : Int) := by omega
                    have i2 : (k : Int) < m.seens.length := by omega
                    obtain ⟨ad, A1, c1, rfl, q0, q1, q2, q3, q4, hl1, hr1⟩ := atk71N (Kd.C_below HC6.out hB.out) k hlt hlt
                    have hbn := below_new wr (.cells #[.int .i64 m.seens[k].f0, .string m.seens[k].f1.f0, .int .i64 m.seens[k].f1.f1, .slice A1 m.seens[k].f1.f2.length c1, .bool m.seens[k].f2] 71)
                    have HBN := Lib.hid (below_step hB.out hbn)
                    have hbi := blk_below HIB.out HBN.out
                    have hR2 := hR.out
                    rw [List.drop_eq_getElem_cons hlt, seensB] at hR2
                    have HR2 := Lib.hid hR2
                    have s2 := (blk_cell hbi 2).trans rfl
                    clear hbn hR hR2 hbi hl1 hr1
                    generalize m.seens[k] = y at *
                    go_upto_region 18 with fail
                    cases ok
                    · first | go_quiet (fail) | fail
                      go_wp2_with fail
                      go_roundw
                      case rel => exact ⟨k + 1, false, y.f0, by omega, by go_num, rfl, rfl, Lib.hid (by repeat (first | exact HBN.out | apply below_drew | apply pw_below_drewN)), HR2⟩
                      case measure => simp [intOf]; omega
                    · by_cases d1 : last < y.f0
                      · have e1 : decide (last < y.f0) = true := decide_eq_true d1
                        have HR3 : Hid (R = (decide (y.f0 ≤ m.seq) && seensB m.seq y.f0 (m.seens.drop (k + 1)))) := Lib.hid (by have h1 := HR2.out; rw [e1] at h1; exact h1)
                        clear HR2
                        first | go_quiet (fail) | fail
                        go_wp2_with fail
                        go_roundw
                        case rel => exact ⟨k + 1, _, y.f0, by omega, by go_num, rfl, rfl, Lib.hid (by repeat (first | exact HBN.out | apply below_drew | apply pw_below_drewN)), HR3⟩
                        case measure => simp [intOf]; omega
                      · have e1 : decide (last < y.f0) = false := decide_eq_false d1
                        have HR3 : Hid (R = (false && seensB m.seq y.f0 (m.seens.drop (k + 1)))) := Lib.hid (by have h1 := HR2.out; rw [e1] at h1; exact h1)
                        clear HR2
                        first | go_quiet (fail) | fail
                        go_wp2_with fail
                        go_roundw
                        case rel => exact ⟨k + 1, false, y.f0, by omega, by go_num, rfl, rfl, Lib.hid (by repeat (first | exact HBN.out | apply below_drew | apply pw_below_drewN)), HR3⟩
                        case measure => simp [intOf]; omega
                  · obtain rfl : k = m.seens.length := by omega
                    have hR2 := hR.out
                    rw [List.drop_length, seensB, Bool.and_true] at hR2
                    subst hR2
                    go_wp2_with fail
                    go_ret
                    exact ⟨rfl, hB.out⟩
end Go.Proofs.YtcfgmkmllcfjjaaDoor
