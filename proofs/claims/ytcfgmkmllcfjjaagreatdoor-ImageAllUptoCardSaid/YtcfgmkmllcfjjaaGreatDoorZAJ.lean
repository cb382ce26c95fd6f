import Derived.Test.YtcfgmkmllcfjjaaGreatDoorZAI
import Derived.Laws.EntriesVeiled
import Derived.BigQuiet
import Derived.Deep.DeepCutAuto
import Derived.Test.YtcfgmkmllcfjjaaGreatDoorZAE
import Derived.Laws.Bits64b
import Derived.Laws.Closers25b
import Derived.Lib.Hide
set_option linter.unusedVariables false
set_option linter.unusedSimpArgs false
namespace Go.Proofs.YtcfgmkmllcfjjaaGreatDoor
open Go.RowKit Go.Proofs.YtcfgmkmllcfjjaaGreatDoorW.PrintWords Go.Proofs.YtcfgmkmllcfjjaaGreatDoorW.PrintMore PImageAll
def layoutV : Array Value := #[.func (.func 43) #[] #[], .func (.func 44) #[] #[], .func (.func 45) #[] #[], .func (.func 46) #[] #[], .func (.func 47) #[] #[], .func (.func 48) #[] #[], .func (.func 49) #[] #[], .func (.func 50) #[] #[], .func (.func 51) #[] #[], .func (.func 52) #[] #[]]
set_option maxHeartbeats 2000000 in
set_option maxRecDepth 100000 in
theorem layout_any (w : World) : Calls Tryz.prog 23 #[] w fun e w' => e = .returned (.agg layoutV) ∧ Below w.heap.size w w' := by
  go_enter Tryz.func23, Tryz.ntmps23
  go_wp2_with fail
  refine bodyPost_ret (results_cell_row rfl _ _ w.heap.size 78 layoutV (0, 0) _ rfl (blk_new w _) Tryz.underlying78 rfl (by kernel_rfl)) rfl ?_
  exact ⟨rfl, below_new _ _⟩
def attrB (a : S58) : Bool := nameB a.f0 && (decide (1 ≤ a.f1) && decide (a.f1 ≤ 3))
def typeB (x : S56) : Bool := nameB x.f0 && (decide (x.f1.length ≤ 16) && x.f1.all attrB)
theorem all_take {α : Type} (f : α → Bool) (xs : List α) (k : Nat) (hk : k < xs.length) : (xs.take (k + 1)).all f = ((xs.take k).all f && f xs[k]) := by
  rw [take_one xs k hk, List.all_append]
  simp
set_option maxRecDepth 100000 in
set_option maxHeartbeats 4000000 in
theorem typeMay_any {w : World} {x : S56} {A : Option Addr} {c : Nat} (hG : GW w) (hC : Kd.C k58 w A x.f1.length x.f1) (hc : x.f1.length ≤ c) (hxl : x.f1.length ≤ 9223372036854775807) :
    Calls Tryz.prog 41 #[.agg #[.string x.f0, .slice A x.f1.length c]] w fun e w' => e = .returned (.bool (typeB x)) ∧ Below w.heap.size w w' := by
  generalize hW0 : w.alloc (.cells #[.string x.f0, .slice A x.f1.length c] 56) = W0
  have HW0 := Lib.hid hW0
  have hb0 : Below w.heap.size w W0 := by rw [← hW0]; exact below_new w _
  have hX : W0.heap[w.heap.size]? = some (.cells #[.string x.f0, .slice A x.f1.length c] 56 (0, 0)) := by rw [← hW0]; exact blk_new w _
  have HB0 := Lib.hid hb0
  have hGa := hG.below hb0
  have HGA := Lib.hid hGa
  have HC := Lib.hid (Kd.C_below hC hb0)
  have HN := Lib.hid (Name_any x.f0 W0 hGa)
  have c0 : W0.cell? ⟨w.heap.size, 0, none⟩ = some (.string x.f0) := (blk_cell hX 0).trans rfl
  have c1 : W0.cell? ⟨w.heap.size, 1, none⟩ = some (.slice A x.f1.length c) := (blk_cell hX 1).trans rfl
  have hT : typeB x = (nameB x.f0 && (decide (x.f1.length ≤ 16) && x.f1.all attrB)) := rfl
  generalize typeB x = R at *
  have HT := Lib.hid hT
  clear hG hC hW0 hb0 hX hT hGa
  have main : ∀ b0 : Bool, (nameB x.f0 && decide (x.f1.length ≤ 16)) = b0 → True := fun _ _ => trivial
  clear main
  generalize hb : (nameB x.f0 && decide (x.f1.length ≤ 16)) = b0
  have HBB := Lib.hid hb
  have HR : Hid (R = (b0 && x.f1.all attrB)) := Lib.hid (by rw [HT.out, ← hb, Bool.and_assoc])
  clear HT hb
  have key : ∃ n : Bool, nameB x.f0 = n := ⟨_, rfl⟩
  obtain ⟨n, hn⟩ := key
  rw [hn] at HN HBB
  clear hn
  by_cases hk16 : x.f1.length ≤ 16
  all_goals
    first | have t1 : decide ((x.f1.length : Int) ≤ 16) = true := decide_eq_true (by omega) | have t1 : decide ((x.f1.length : Int) ≤ 16) = false := decide_eq_false (by omega)
    first | rw [decide_eq_true hk16] at HBB | rw [decide_eq_false hk16] at HBB
    cases n
    all_goals
      have hb := HBB.out
      simp only [Bool.and_true, Bool.and_false, Bool.false_and, Bool.true_and] at hb
      subst hb
      go_enter Tryz.func41, Tryz.ntmps41
      go_wp2_with fail
      rw [HW0.out]
      go_wp2_with (go_at_call 42; refine HN.out.mono ?_; rintro e w1 ⟨rfl, ⟨n1, rfl⟩⟩)
      go_loopw [3, 18] (fun t3 t18 wr => ∃ (k : Nat) (ok : Bool), k ≤ x.f1.length ∧ t18 = .int .i64 k ∧ t3 = .bool ok ∧ Hid (Below W0.heap.size W0 wr) ∧ Hid (R = (ok && (x.f1.drop k).all attrB))) (fun _ t18 _ => x.f1.length - (intOf t18).toNat)
      case atStart => exact ⟨0, _, by omega, rfl, rfl, Lib.hid (pw_below_drewN (Below.refl _ _) _), HR⟩
      case round =>
        clear HR
        obtain ⟨k, ok, hk2, rfl, rfl, hB, hR⟩ := hrel
        by_cases hlt : k < x.f1.length
        · have i1 : (0 : Int) ≤ (k : Int) := by omega
          have i2 : (k : Int) < x.f1.length := by omega
          obtain ⟨ad, rfl, q0, q1⟩ := atk58N (Kd.C_below HC.out hB.out) k hlt hlt
          have hbn := below_new wr (.cells #[.string x.f1[k].f0, .int .i64 x.f1[k].f1] 58)
          have HBN := Lib.hid (below_step hB.out hbn)
          have hR2 := hR.out
          rw [List.drop_eq_getElem_cons hlt, List.all_cons, ← Bool.and_assoc] at hR2
          have HR2 := Lib.hid hR2
          have HNK := Lib.hid (Name_any x.f1[k].f0 (wr.alloc (.cells #[.string x.f1[k].f0, .int .i64 x.f1[k].f1] 58)) (HGA.out.below HBN.out))
          have hat : attrB x.f1[k] = (nameB x.f1[k].f0 && (decide (1 ≤ x.f1[k].f1) && decide (x.f1[k].f1 ≤ 3))) := rfl
          generalize attrB x.f1[k] = at0 at *
          have HAT := Lib.hid hat
          clear hbn hR hR2 hat
          generalize x.f1[k] = y at *
          cases ok
          · go_wp2_with fail
            go_roundw
            case rel => exact ⟨k + 1, false, by omega, by go_num, rfl, HBN, HR2⟩
            case measure => simp [intOf]; omega
          · obtain ⟨ny, hny⟩ : ∃ ny : Bool, nameB y.f0 = ny := ⟨_, rfl⟩
            rw [hny] at HNK HAT
            clear hny
            cases ny
            · go_wp2_with (go_at_call 42; refine HNK.out.mono ?_; rintro e w3 ⟨rfl, ⟨n3, rfl⟩⟩)
              go_roundw
              case rel => exact ⟨k + 1, false, by omega, by go_num, rfl, Lib.hid (pw_below_drewN HBN.out _), by rw [HAT.out] at HR2; exact HR2⟩
              case measure => simp [intOf]; omega
            · by_cases g1 : 1 ≤ y.f1
              · have d1 : decide (1 ≤ y.f1) = true := decide_eq_true g1
                by_cases g2 : y.f1 ≤ 3
                · have d2 : decide (y.f1 ≤ 3) = true := decide_eq_true g2
                  have HR3 : Hid (R = (true && (x.f1.drop (k + 1)).all attrB)) := by rw [HAT.out, d1, d2] at HR2; exact HR2
                  clear g1 g2 HAT HR2
                  go_wp2_with (go_at_call 42; refine HNK.out.mono ?_; rintro e w3 ⟨rfl, ⟨n3, rfl⟩⟩)
                  go_roundw
                  case rel => exact ⟨k + 1, true, by omega, by go_num, rfl, Lib.hid (pw_below_drewN HBN.out _), HR3⟩
                  case measure => simp [intOf]; omega
                · have d2 : decide (y.f1 ≤ 3) = false := decide_eq_false g2
                  have HR3 : Hid (R = (false && (x.f1.drop (k + 1)).all attrB)) := by rw [HAT.out, d1, d2] at HR2; exact HR2
                  clear g1 g2 HAT HR2
                  go_wp2_with (go_at_call 42; refine HNK.out.mono ?_; rintro e w3 ⟨rfl, ⟨n3, rfl⟩⟩)
                  go_roundw
                  case rel => exact ⟨k + 1, false, by omega, by go_num, rfl, Lib.hid (pw_below_drewN HBN.out _), HR3⟩
                  case measure => simp [intOf]; omega
              · have d1 : decide (1 ≤ y.f1) = false := decide_eq_false g1
                have HR3 : Hid (R = (false && (x.f1.drop (k + 1)).all attrB)) := by rw [HAT.out, d1] at HR2; exact HR2
                clear g1 HAT HR2
                go_wp2_with (go_at_call 42; refine HNK.out.mono ?_; rintro e w3 ⟨rfl, ⟨n3, rfl⟩⟩)
                go_roundw
                case rel => exact ⟨k + 1, false, by omega, by go_num, rfl, Lib.hid (pw_below_drewN HBN.out _), HR3⟩
                case measure => simp [intOf]; omega
        · obtain rfl : k = x.f1.length := by omega
          have hR2 := hR.out
          rw [List.drop_length, List.all_nil, Bool.and_true] at hR2
          subst hR2
          go_wp2_with fail
          go_ret
          exact ⟨rfl, below_step HB0.out hB.out⟩
def withinB (n lo hi : Int) : Bool := decide (lo ≤ n) && decide (n ≤ hi)
theorem within_f (n lo hi : Int) : image_within.f n lo hi = some (withinB n lo hi) := by
  unfold image_within.f withinB
  split
  · rename_i h
    rw [decide_eq_true (show lo ≤ n by omega), Bool.true_and]
  · rename_i h
    rw [decide_eq_false (show ¬ lo ≤ n by omega), Bool.false_and]
def savedB (seq : Int) (q : S60) : Bool := nameB q.f0 && (decide (q.f1.size ≤ 4096) && withinB q.f2 0 seq)
def seensB (seq : Int) : Int → List S65 → Bool
  | _, [] => true
  | last, s :: xs => decide (last < s.f0) && (decide (s.f0 ≤ seq) && seensB seq s.f0 xs)
def mayB (m : Img) : Bool := withinB m.runs 1 1024 && (withinB m.made 0 1024 && (withinB m.seq 0 2305843009213693952 && (withinB m.now 0 4611686018427387904 && (decide (m.types.length ≤ 64) && (decide (m.saved.length ≤ 64) &&
  (m.types.all typeB && (m.saved.all (savedB m.seq) && seensB m.seq 0 m.seens)))))))
theorem within_any (n lo hi : Int) (W : World) : Calls Tryz.prog 40 #[.int .i64 n, .int .i64 lo, .int .i64 hi] W fun e w' => e = .returned (.bool (withinB n lo hi)) ∧ Drawn0 W w' := image_within.calls n lo hi _ W (within_f n lo hi)
theorem qdr {P : Program} {f : FuncId} {args : Array Value} {w : World} {n : Nat} {v : Value} (h : Calls P f args (w.drewN n) fun e w' => e = .returned v ∧ Drawn0 (w.drewN n) w') :
    Calls P f args (w.drewN n) fun e w'' => e = .returned v ∧ ∃ m, w'' = w.drewN m :=
  h.mono fun _ _ ⟨he, ⟨m, hm⟩⟩ => ⟨he, n + m, by rw [hm, World.drewN_drewN]⟩
set_option maxRecDepth 100000 in
set_option maxHeartbeats 8000000 in
theorem may_any {w : World} {gi : Nat} {m : Img} (hG : GW w) (hI : ImgAt w w gi m) (h1 : m.types.length ≤ 9223372036854775807) (h2 : m.saved.length ≤ 9223372036854775807) (h3 : m.seens.length ≤ 9223372036854775807) (hta : ∀ x ∈ m.types, x.f1.length ≤ 9223372036854775807) :
    Calls Tryz.prog 22 #[.pointer (some ⟨gi, 0, none⟩)] w fun e w' => e = .returned (.bool (mayB m)) ∧ Below w.heap.size w w' := by
  obtain ⟨A4, c4, A5, c5, A6, c6, hb, ⟨hC4, hc4⟩, ⟨hC5, hc5⟩, ⟨hC6, hc6⟩⟩ := hI
  have HG := Lib.hid hG
  have HC4 := Lib.hid hC4
  have HC5 := Lib.hid hC5
  have HC6 := Lib.hid hC6
  have HTA := Lib.hid hta
  have HIB := Lib.hid hb
  have g0 : w.cell? ⟨gi, 0, none⟩ = some (.int .i64 m.runs) := (blk_cell hb 0).trans rfl
  have g1 : w.cell? ⟨gi, 1, none⟩ = some (.int .i64 m.made) := (blk_cell hb 1).trans rfl
  have hR : mayB m = (withinB m.runs 1 1024 && (withinB m.made 0 1024 && (withinB m.seq 0 2305843009213693952 && (withinB m.now 0 4611686018427387904 && (decide (m.types.length ≤ 64) && (decide (m.saved.length ≤ 64) &&
    (m.types.all typeB && (m.saved.all (savedB m.seq) && seensB m.seq 0 m.seens)))))))) := rfl
  have t5 : decide ((m.types.length : Int) ≤ 64) = decide (m.types.length ≤ 64) := decide_eq_decide.mpr (by omega)
  have t6 : decide ((m.saved.length : Int) ≤ 64) = decide (m.saved.length ≤ 64) := decide_eq_decide.mpr (by omega)
  generalize mayB m = R at *
  have hw1 := within_any m.runs 1 1024
  have hw2 := within_any m.made 0 1024
  have hw3 := within_any m.seq 0 2305843009213693952
  have hw4 := within_any m.now 0 4611686018427387904
  generalize withinB m.runs 1 1024 = b1 at *
  generalize withinB m.made 0 1024 = b2 at *
  generalize withinB m.seq 0 2305843009213693952 = b3 at *
  generalize withinB m.now 0 4611686018427387904 = b4 at *
  generalize decide (m.types.length ≤ 64) = b5 at *
  generalize decide (m.saved.length ≤ 64) = b6 at *
  have HW1 := Lib.hid hw1
  have HW2 := Lib.hid hw2
  have HW3 := Lib.hid hw3
  have HW4 := Lib.hid hw4
  have HT5 := Lib.hid t5
  have HT6 := Lib.hid t6
  have hR' : R = (((((b1 && b2) && b3) && b4) && b5) && b6 && (m.types.all typeB && (m.saved.all (savedB m.seq) && seensB m.seq 0 m.seens))) := by rw [hR]; simp only [Bool.and_assoc]
  generalize hS : seensB m.seq 0 m.seens = rest3 at hR'
  have HS := Lib.hid hS
  have HR0 := Lib.hid hR'
  clear hS hG hC4 hC5 hC6 hta hb hw1 hw2 hw3 hw4 t5 t6 hR hR'
  go_enter Tryz.func22, Tryz.ntmps22
  go_upto_region 1 with fail
  go_cut [3] from 11 to 24 (fun t3 wx => t3 = .bool (b1 && b2) ∧ Below w.heap.size w wx)
  case first =>
    cases b1
    · go_wp2_with (go_at_call 40; refine (HW1.out _).mono ?_; rintro e w1 ⟨rfl, ⟨n1, rfl⟩⟩)
      go_meet
      exact ⟨rfl, by repeat (first | exact Below.refl _ _ | apply below_drew | apply pw_below_drewN)⟩
    · go_wp2_with fail
      refine (HW1.out _).mono ?_
      rintro e w1 ⟨rfl, ⟨n1, rfl⟩⟩
      go_wp2_with fail
      refine (HW2.out _).mono ?_
      rintro e w1 ⟨rfl, ⟨n2, rfl⟩⟩
      go_wp2_with fail
      go_meet
      exact ⟨rfl, by repeat (first | exact Below.refl _ _ | apply below_drew | apply pw_below_drewN)⟩
  case rest =>
    obtain ⟨wa, rfl⟩ : ∃ wa : World, wa = wc := ⟨_, rfl⟩
    obtain ⟨rfl, hBX⟩ := hcut
    have hBX := Lib.hid hBX
    generalize hc12 : (b1 && b2) = c12 at *
    have H12 := Lib.hid hc12
    clear hc12 g0 g1
    have hbi := blk_below HIB.out hBX.out
    have g2 : wa.cell? ⟨gi, 2, none⟩ = some (.int .i64 m.seq) := (blk_cell hbi 2).trans rfl
    have g3 : wa.cell? ⟨gi, 3, none⟩ = some (.int .i64 m.now) := (blk_cell hbi 3).trans rfl
    clear hbi
    go_upto_region 2 with fail
    go_cut [3] from 25 to 39 (fun t3 wx => t3 = .bool ((c12 && b3) && b4) ∧ Below w.heap.size w wx)
    case first =>
      cases c12
      · go_wp2_with fail
        go_meet
        exact ⟨rfl, by repeat (first | exact hBX.out | apply below_drew | apply pw_below_drewN)⟩
      · cases b3
        · go_wp2_with fail
          refine (HW3.out _).mono ?_
          rintro e w1 ⟨rfl, ⟨n1, rfl⟩⟩
          go_wp2_with fail
          go_meet
          exact ⟨rfl, by repeat (first | exact hBX.out | apply below_drew | apply pw_below_drewN)⟩
        · go_wp2_with fail
          refine (HW3.out _).mono ?_
          rintro e w1 ⟨rfl, ⟨n1, rfl⟩⟩
          go_wp2_with fail
          refine (HW4.out _).mono ?_
          rintro e w1 ⟨rfl, ⟨n2, rfl⟩⟩
          go_wp2_with fail
          go_meet
          exact ⟨rfl, by repeat (first | exact hBX.out | apply below_drew | apply pw_below_drewN)⟩
    case rest =>
      clear g2 g3 hBX
      obtain ⟨wb, rfl⟩ : ∃ wb : World, wb = wc := ⟨_, rfl⟩
      obtain ⟨rfl, hBX⟩ := hcut
      have hBX := Lib.hid hBX
      generalize hc34 : ((c12 && b3) && b4) = c34 at *
      have H34 := Lib.hid hc34
      clear hc34
      have hbi := blk_below HIB.out hBX.out
      have g4 : wb.cell? ⟨gi, 4, none⟩ = some (.slice A4 m.types.length c4) := (blk_cell hbi 4).trans rfl
      have g5 : wb.cell? ⟨gi, 5, none⟩ = some (.slice A5 m.saved.length c5) := (blk_cell hbi 5).trans rfl
      clear hbi
      go_upto_region 3 with fail
      go_cut [3] from 40 to 56 (fun t3 wx => t3 = .bool ((c34 && b5) && b6) ∧ Below w.heap.size w wx)
      case first =>
        have t5 := HT5.out
        have t6 := HT6.out
        cases c34
        · go_wp2_with fail
          go_meet
          exact ⟨rfl, by repeat (first | exact hBX.out | apply below_drew | apply pw_below_drewN)⟩
        · cases b5
          · go_wp2_with fail
            go_meet
            exact ⟨rfl, by repeat (first | exact hBX.out | apply below_drew | apply pw_below_drewN)⟩
          · go_wp2_with fail
            go_meet
            exact ⟨rfl, by repeat (first | exact hBX.out | apply below_drew | apply pw_below_drewN)⟩
      case rest =>
        clear g4 g5 hBX
        obtain ⟨wd, rfl⟩ : ∃ wd : World, wd = wc := ⟨_, rfl⟩
        obtain ⟨rfl, hBX⟩ := hcut
        have hBX := Lib.hid hBX
        have hR1 : R = (((c34 && b5) && b6) && ((m.types.drop 0).all typeB && (m.saved.all (savedB m.seq) && rest3))) := HR0.out
        generalize ((c34 && b5) && b6) = ok0 at *
        have HR := Lib.hid hR1
        clear hR1 HR0 HW1 HW2 HW3 HW4 HT5 HT6 H12 H34
        have hbi := blk_below HIB.out hBX.out
        have g4 : wd.cell? ⟨gi, 3 + 1, none⟩ = some (.slice A4 m.types.length c4) := (blk_cell hbi 4).trans rfl
        clear hbi
        go_wp2_with fail
        go_loopw [3, 62] (fun t3 t62 wr => ∃ (k : Nat) (ok : Bool), k ≤ m.types.length ∧ t62 = .int .i64 k ∧ t3 = .bool ok ∧ Hid (Below w.heap.size w wr) ∧ Hid (R = (ok && ((m.types.drop k).all typeB && (m.saved.all (savedB m.seq) && rest3))))) (fun _ t62 _ => m.types.length - (intOf t62).toNat)
        case atStart => exact ⟨0, _, by omega, rfl, rfl, hBX, HR⟩
        case round =>
          clear HR
          obtain ⟨k, ok, hk2, rfl, rfl, hB, hR⟩ := hrel
          by_cases hlt : k < m.types.length
          · have i1 : (0 : Int) ≤ (k : Int) := by omega
            have i2 : (k : Int) < m.types.length := by omega
            obtain ⟨ad, A1, c1, rfl, q0, q1, hl1, hr1⟩ := atk56N (Kd.C_below HC4.out hB.out) k hlt hlt
            have hbn := below_new wr (.cells #[.string m.types[k].f0, .slice A1 m.types[k].f1.length c1] 56)
            have HBN := Lib.hid (below_step hB.out hbn)
            have hR2 := hR.out
            rw [List.drop_eq_getElem_cons hlt, List.all_cons, Bool.and_assoc, ← Bool.and_assoc] at hR2
            have HR2 := Lib.hid hR2
            have HTK := Lib.hid (typeMay_any (x := m.types[k]) (HG.out.below HBN.out) (Kd.C_below hr1 hbn) hl1 (HTA.out _ (List.getElem_mem hlt)))
            clear hbn hR hR2
            generalize typeB m.types[k] = tb at *
            generalize m.types[k] = y at *
            cases ok
            · go_wp2_with fail
              go_roundw
              case rel => exact ⟨k + 1, false, by omega, by go_num, rfl, HBN, HR2⟩
              case measure => simp [intOf]; omega
            · go_wp2_with (go_at_call 41; refine HTK.out.mono ?_; rintro e w3 ⟨rfl, hB3⟩)
              go_roundw
              case rel => exact ⟨k + 1, tb, by omega, by go_num, rfl, Lib.hid (below_step HBN.out hB3), HR2⟩
              case measure => simp [intOf]; omega
          · obtain rfl : k = m.types.length := by omega
            have hR2 := hR.out
            rw [List.drop_length, List.all_nil, Bool.true_and] at hR2
            have HR : Hid (R = (ok && ((m.saved.drop 0).all (savedB m.seq) && rest3))) := Lib.hid (by rw [List.drop_zero]; exact hR2)
            have HB := hB
            obtain ⟨we, rfl⟩ : ∃ we : World, we = wr := ⟨_, rfl⟩
            have hbi := blk_below HIB.out hB.out
            have g5 : we.cell? ⟨gi, 4 + 1, none⟩ = some (.slice A5 m.saved.length c5) := (blk_cell hbi 5).trans rfl
            clear hR hR2 hB hbi g4
            go_wp2_with fail
            go_loopw [3, 77] (fun t3 t77 wr => ∃ (k : Nat) (ok : Bool), k ≤ m.saved.length ∧ t77 = .int .i64 k ∧ t3 = .bool ok ∧ Hid (Below w.heap.size w wr) ∧ Hid (R = (ok && ((m.saved.drop k).all (savedB m.seq) && rest3)))) (fun _ t77 _ => m.saved.length - (intOf t77).toNat)
            case atStart => exact ⟨0, _, by omega, rfl, rfl, HB, HR⟩
            case round =>
              clear HR HB g5
              obtain ⟨k, ok, hk2, rfl, rfl, hB, hR⟩ := hrel
              by_cases hlt : k < m.saved.length
              · have i1 : (0 : Int) ≤ (k : Int) := by omega
                have i2 : (k : Int) < m.saved.length := by omega
                obtain ⟨ad, rfl, q0, q1, q2, q3⟩ := atk60N (Kd.C_below HC5.out hB.out) k hlt hlt
                have hbn := below_new wr (.cells #[.string m.saved[k].f0, .string m.saved[k].f1, .int .i64 m.saved[k].f2, .bool m.saved[k].f3] 60)
                have HBN := Lib.hid (below_step hB.out hbn)
                have hbi := blk_below HIB.out HBN.out
                have hR2 := hR.out
                rw [List.drop_eq_getElem_cons hlt, List.all_cons, Bool.and_assoc, ← Bool.and_assoc] at hR2
                have HR2 := Lib.hid hR2
                have HNK := Lib.hid (fun W hW => Name_any m.saved[k].f0 W (HG.out.below hW))
                have hsv : savedB m.seq m.saved[k] = (nameB m.saved[k].f0 && (decide (m.saved[k].f1.size ≤ 4096) && withinB m.saved[k].f2 0 m.seq)) := rfl
                generalize savedB m.seq m.saved[k] = sb at *
                have HSV := Lib.hid hsv
                have s2 := (blk_cell hbi 2).trans rfl
                clear hbn hR hR2 hsv hbi
                generalize m.saved[k] = y at *
                obtain ⟨nb, hnb⟩ : ∃ nb : Bool, nameB y.f0 = nb := ⟨_, rfl⟩
                rw [hnb] at HNK HSV
                clear hnb
                have HWK := Lib.hid (within_any y.f2 0 m.seq)
                generalize withinB y.f2 0 m.seq = wb0 at *
                have ht7 : decide ((y.f1.size : Int) ≤ 4096) = decide (y.f1.size ≤ 4096) := decide_eq_decide.mpr (by omega)
                generalize decide (y.f1.size ≤ 4096) = lb at *
                go_upto_region 12 with fail
                cases ok
                · first | go_quiet (fail) | fail
                  go_wp2_with fail
                  go_roundw
                  case rel => exact ⟨k + 1, false, by omega, by go_num, rfl, Lib.hid (by repeat (first | exact HBN.out | apply below_drew | apply pw_below_drewN)), HR2⟩
                  case measure => simp [intOf]; omega
                · cases nb
                  · have HR3 : Hid (R = (false && ((m.saved.drop (k + 1)).all (savedB m.seq) && rest3))) := Lib.hid (by have h1 := HR2.out; rw [HSV.out] at h1; exact h1)
                    clear HR2 HSV
                    first | go_quiet ((go_at_call 42; exact qdr (HNK.out _ (by repeat (first | exact HBN.out | apply below_drew | apply pw_below_drewN))))) | fail
                    go_wp2_with fail
                    go_roundw
                    case rel => exact ⟨k + 1, false, by omega, by go_num, rfl, Lib.hid (by repeat (first | exact HBN.out | apply below_drew | apply pw_below_drewN)), HR3⟩
                    case measure => simp [intOf]; omega
                  · cases lb
                    · have HR3 : Hid (R = (false && ((m.saved.drop (k + 1)).all (savedB m.seq) && rest3))) := Lib.hid (by have h1 := HR2.out; rw [HSV.out] at h1; exact h1)
                      clear HR2 HSV
                      first | go_quiet ((go_at_call 42; exact qdr (HNK.out _ (by repeat (first | exact HBN.out | apply below_drew | apply pw_below_drewN))))) | fail
                      go_wp2_with fail
                      go_roundw
                      case rel => exact ⟨k + 1, false, by omega, by go_num, rfl, Lib.hid (by repeat (first | exact HBN.out | apply below_drew | apply pw_below_drewN)), HR3⟩
                      case measure => simp [intOf]; omega
                    · have HR3 : Hid (R = (wb0 && ((m.saved.drop (k + 1)).all (savedB m.seq) && rest3))) := Lib.hid (by have h1 := HR2.out; rw [HSV.out] at h1; exact h1)
                      clear HR2 HSV
                      first | go_quiet (first | (go_at_call 42; exact qdr (HNK.out _ (by repeat (first | exact HBN.out | apply below_drew | apply pw_below_drewN)))) | (go_at_call 40; exact qdr (HWK.out _))) | fail
                      go_wp2_with fail
                      go_roundw
                      case rel => exact ⟨k + 1, wb0, by omega, by go_num, rfl, Lib.hid (by repeat (first | exact HBN.out | apply below_drew | apply pw_below_drewN)), HR3⟩
                      case measure => simp [intOf]; omega
              · obtain rfl : k = m.saved.length := by omega
                have hR2 := hR.out
                rw [List.drop_length, List.all_nil, Bool.true_and] at hR2
                have HR : Hid (R = (ok && seensB m.seq 0 (m.seens.drop 0))) := Lib.hid (by rw [List.drop_zero, HS.out]; exact hR2)
                have HB := hB
                obtain ⟨wf, rfl⟩ : ∃ wf : World, wf = wr := ⟨_, rfl⟩
                have hbi := blk_below HIB.out hB.out
                have g6 : wf.cell? ⟨gi, 5 + 1, none⟩ = some (.slice A6 m.seens.length c6) := (blk_cell hbi 6).trans rfl
                clear hR hR2 hB hbi HS
                go_wp2_with fail
                go_loopw [3, 8, 108] (fun t3 t8 t108 wr => ∃ (k : Nat) (ok : Bool) (last : Int), k ≤ m.seens.length ∧ t108 = .int .i64 k ∧ t3 = .bool ok ∧ t8 = .int .i64 last ∧ Hid (Below w.heap.size w wr) ∧ Hid (R = (ok && seensB m.seq last (m.seens.drop k)))) (fun _ _ t108 _ => m.seens.length - (intOf t108).toNat)
                case atStart => exact ⟨0, _, 0, by omega, rfl, rfl, rfl, HB, HR⟩
                case round =>
                  clear HR HB g6
                  obtain ⟨k, ok, last, hk2, rfl, rfl, rfl, hB, hR⟩ := hrel
                  by_cases hlt : k < m.seens.length
                  · have i1 : (0 : Int) ≤ (k : Int) := by omega
                    have i2 : (k : Int) < m.seens.length := by omega
                    obtain ⟨ad, A1, c1, rfl, q0, q1, q2, q3, q4, hl1, hr1⟩ := atk65N (Kd.C_below HC6.out hB.out) k hlt hlt
                    have hbn := below_new wr (.cells #[.int .i64 m.seens[k].f0, .string m.seens[k].f1.f0, .int .i64 m.seens[k].f1.f1, .slice A1 m.seens[k].f1.f2.length c1, .bool m.seens[k].f2] 65)
                    have HBN := Lib.hid (below_step hB.out hbn)
                    have hbi := blk_below HIB.out HBN.out
                    have hR2 := hR.out
                    rw [List.drop_eq_getElem_cons hlt, seensB] at hR2
                    have HR2 := Lib.hid hR2
                    have s2 := (blk_cell hbi 2).trans rfl
                    clear hbn hR hR2 hbi hl1 hr1
                    generalize m.seens[k] = y at *
                    go_upto_region 18 with fail
                    cases ok
                    · first | go_quiet (fail) | fail
                      go_wp2_with fail
                      go_roundw
                      case rel => exact ⟨k + 1, false, y.f0, by omega, by go_num, rfl, rfl, Lib.hid (by repeat (first | exact HBN.out | apply below_drew | apply pw_below_drewN)), HR2⟩
                      case measure => simp [intOf]; omega
                    · by_cases d1 : last < y.f0
                      · have e1 : decide (last < y.f0) = true := decide_eq_true d1
                        have HR3 : Hid (R = (decide (y.f0 ≤ m.seq) && seensB m.seq y.f0 (m.seens.drop (k + 1)))) := Lib.hid (by have h1 := HR2.out; rw [e1] at h1; exact h1)
                        clear HR2
                        first | go_quiet (fail) | fail
                        go_wp2_with fail
                        go_roundw
                        case rel => exact ⟨k + 1, _, y.f0, by omega, by go_num, rfl, rfl, Lib.hid (by repeat (first | exact HBN.out | apply below_drew | apply pw_below_drewN)), HR3⟩
                        case measure => simp [intOf]; omega
                      · have e1 : decide (last < y.f0) = false := decide_eq_false d1
                        have HR3 : Hid (R = (false && seensB m.seq y.f0 (m.seens.drop (k + 1)))) := Lib.hid (by have h1 := HR2.out; rw [e1] at h1; exact h1)
                        clear HR2
                        first | go_quiet (fail) | fail
                        go_wp2_with fail
                        go_roundw
                        case rel => exact ⟨k + 1, false, y.f0, by omega, by go_num, rfl, rfl, Lib.hid (by repeat (first | exact HBN.out | apply below_drew | apply pw_below_drewN)), HR3⟩
                        case measure => simp [intOf]; omega
                  · obtain rfl : k = m.seens.length := by omega
                    have hR2 := hR.out
                    rw [List.drop_length, seensB, Bool.and_true] at hR2
                    subst hR2
                    go_wp2_with fail
                    go_ret
                    exact ⟨rfl, hB.out⟩
end Go.Proofs.YtcfgmkmllcfjjaaGreatDoor
set_option linter.unusedVariables false
set_option linter.unusedSimpArgs false
set_option maxHeartbeats 1000000
namespace Go.Proofs.YtcfgmkmllcfjjaaGreatDoor
open Go.RowKit Go.Proofs.YtcfgmkmllcfjjaaGreatDoorW.PrintWords Go.Proofs.YtcfgmkmllcfjjaaGreatDoorW.PrintMore PImageAll
def Bytes (l : List Int) : Prop := ∀ b ∈ l, 0 ≤ b ∧ b < 256
theorem Bytes.append {a b : List Int} (h : Bytes a) (k : Bytes b) : Bytes (a ++ b) := fun x hx => (List.mem_append.1 hx).elim (h x) (k x)
theorem Bytes.left {a b : List Int} (h : Bytes (a ++ b)) : Bytes a := fun x hx => h x (List.mem_append_left _ hx)
theorem Bytes.drop {a : List Int} (h : Bytes a) (n : Nat) : Bytes (a.drop n) := fun x hx => h x (List.mem_of_mem_drop hx)
theorem Bytes.take {a : List Int} (h : Bytes a) (n : Nat) : Bytes (a.take n) := fun x hx => h x (List.mem_of_mem_take hx)
theorem rd_bytes {l : List Int} (h : Bytes l) (i : Int) : 0 ≤ rd l i ∧ rd l i < 256 := by
  unfold rd
  rw [List.getD_eq_getElem?_getD]
  cases hx : l[i.toNat]? with
  | none => simp
  | some b => exact h b (List.mem_of_getElem? hx)
theorem w64 {x : Int} (h0 : 0 ≤ x) (h1 : x < 4611686018427387904) : wrap64 x = x := by unfold wrap64; omega
theorem shl_nat (x y : Int) : ∃ a : Nat, shl .u64 x y = (a : Int) ∧ a < 18446744073709551616 := by
  unfold shl
  rw [IntKind.wrap_u64]
  exact ⟨(((x * 2 ^ min y.toNat IntKind.u64.bits) % 18446744073709551616).toNat), by omega, by omega⟩
theorem or_nat (a b : Nat) (ha : a < 18446744073709551616) (hb : b < 18446744073709551616) : ∃ c : Nat, Go.bits .or .u64 (a : Int) (b : Int) = (c : Int) ∧ c < 18446744073709551616 :=
  ⟨a ||| b, bits_or_u64_nat a b ha hb, Nat.or_lt_two_pow (n := 64) (by omega) (by omega)⟩
theorem int_tot : ∀ (m i k acc : Nat) (l : List Int), i + m = 9 → 2 * m + 2 ≤ k → acc < 18446744073709551616 → Bytes l → l.length ≤ 4611686018427387904 →
    ∃ (v e : Int) (n : Nat), wire_Int.l0 k (acc : Int) l (l.length : Int) (i : Int) = some (v, (n : Int), e) ∧ I64 v ∧ ((e = 0 ∧ i < n ∧ n ≤ l.length) ∨ (e ≠ 0 ∧ n = 0)) := by
  intro m
  induction m with
  | zero =>
    intro i k acc l hi hk ha hB hl
    obtain ⟨k', rfl⟩ : ∃ k', k = k' + 1 + 1 := ⟨k - 2, by omega⟩
    obtain rfl : i = 9 := by omega
    rw [wire_Int.l0]
    by_cases h1 : ((9 : Nat) : Int) < (l.length : Int)
    · rw [if_pos h1, if_pos (by omega), if_pos h1, if_pos (by omega), wire_Int.j1]
      obtain ⟨hb0, hb1⟩ := rd_bytes hB ((9 : Nat) : Int)
      generalize rd l ((9 : Nat) : Int) = c at *
      by_cases hc : c > 1
      · rw [if_pos (by simpa using hc)]
        exact ⟨0, 31, 0, rfl, ⟨by omega, by omega⟩, Or.inr ⟨by decide, rfl⟩⟩
      · rw [if_neg (by simpa using hc), if_pos (by rw [w64 (by omega) (by omega)]; omega), if_neg (by omega)]
        obtain ⟨a, e1, ha1⟩ := shl_nat (IntKind.u64.wrap (Go.bits .and .u8 c 127)) (wrap64 (7 * ((9 : Nat) : Int)))
        rw [e1]
        obtain ⟨z, e2, hz⟩ := or_nat acc a ha ha1
        rw [e2]
        clear e1 e2 ha1
        have hi64 : ∀ x y : Int, I64 (Go.bits .xor .i64 x y) := fun x y => by have := bits_within .xor .i64 x y; exact this
        by_cases h0 : c = 0
        · rw [if_pos h0, if_pos (by omega)]
          exact ⟨0, 31, 0, rfl, ⟨by omega, by omega⟩, Or.inr ⟨by decide, rfl⟩⟩
        · rw [if_neg h0]
          exact ⟨_, 0, 10, by rw [show wrap64 (((9 : Nat) : Int) + 1) = ((10 : Nat) : Int) by unfold wrap64; omega], hi64 _ _, Or.inl ⟨rfl, by omega, by omega⟩⟩
    · rw [if_neg h1]
      exact ⟨0, 30, 0, rfl, ⟨by omega, by omega⟩, Or.inr ⟨by decide, rfl⟩⟩
  | succ m ih =>
    intro i k acc l hi hk ha hB hl
    obtain ⟨k', rfl⟩ : ∃ k', k = k' + 1 + 1 := ⟨k - 2, by omega⟩
    rw [wire_Int.l0]
    by_cases h1 : (i : Int) < (l.length : Int)
    · rw [if_pos h1, if_pos (by omega), if_pos h1, if_neg (by omega), wire_Int.j1]
      obtain ⟨hb0, hb1⟩ := rd_bytes hB (i : Int)
      generalize rd l (i : Int) = c at *
      rw [if_neg (by simp), if_pos (by rw [w64 (by omega) (by omega)]; omega)]
      obtain ⟨a, e1, ha1⟩ := shl_nat (IntKind.u64.wrap (Go.bits .and .u8 c 127)) (wrap64 (7 * (i : Int)))
      rw [e1]
      obtain ⟨z, e2, hz⟩ := or_nat acc a ha ha1
      rw [e2]
      clear e1 e2 ha1
      have hi64 : ∀ x y : Int, I64 (Go.bits .xor .i64 x y) := fun x y => by have := bits_within .xor .i64 x y; exact this
      have hw : wrap64 ((i : Int) + 1) = ((i + 1 : Nat) : Int) := by unfold wrap64; omega
      rw [hw]
      by_cases h2 : c ≥ 128
      · rw [if_pos h2]
        obtain ⟨v, e, n, h3, h4, h5⟩ := ih (i + 1) k' z l (by omega) (by omega) hz hB hl
        refine ⟨v, e, n, h3, h4, ?_⟩
        rcases h5 with ⟨a1, a2, a3⟩ | h5
        · exact Or.inl ⟨a1, by omega, a3⟩
        · exact Or.inr h5
      · rw [if_neg h2]
        by_cases h0 : c = 0
        · rw [if_pos h0]
          by_cases hi0 : (i : Int) > 0
          · rw [if_pos hi0]
            exact ⟨0, 31, 0, rfl, ⟨by omega, by omega⟩, Or.inr ⟨by decide, rfl⟩⟩
          · rw [if_neg hi0]
            exact ⟨_, 0, i + 1, rfl, hi64 _ _, Or.inl ⟨rfl, by omega, by omega⟩⟩
        · rw [if_neg h0]
          exact ⟨_, 0, i + 1, rfl, hi64 _ _, Or.inl ⟨rfl, by omega, by omega⟩⟩
    · rw [if_neg h1]
      exact ⟨0, 30, 0, rfl, ⟨by omega, by omega⟩, Or.inr ⟨by decide, rfl⟩⟩
theorem pow_succ7 (i : Nat) : 2 ^ (7 * (i + 1)) = 128 * 2 ^ (7 * i) := by rw [show 7 * (i + 1) = 7 * i + 7 by omega, Nat.pow_add]; omega
theorem take_in {acc c i : Nat} (hi : i ≤ 9) (ha : acc < 2 ^ (7 * i)) (hc : c < 128) (h64 : acc + c * 2 ^ (7 * i) < 18446744073709551616) :
    Go.bits .or .u64 (acc : Int) (shl .u64 (IntKind.u64.wrap (c : Int)) (wrap64 (7 * (i : Int)))) = ((acc + c * 2 ^ (7 * i) : Nat) : Int) := by
  have e1 : wrap64 (7 * (i : Int)) = ((7 * i : Nat) : Int) := by unfold wrap64; omega
  have e2 : IntKind.u64.wrap (c : Int) = (c : Int) := by rw [IntKind.wrap_u64]; omega
  have e3 : shl .u64 (c : Int) ((7 * i : Nat) : Int) = ((c * 2 ^ (7 * i) : Nat) : Int) := by
    unfold shl
    have hm : min (((7 * i : Nat) : Int)).toNat IntKind.u64.bits = 7 * i := by
      rw [Int.toNat_natCast]
      exact Nat.min_eq_left (by show 7 * i ≤ 64; omega)
    rw [hm, IntKind.wrap_u64]
    have h5 : (c : Int) * 2 ^ (7 * i) = ((c * 2 ^ (7 * i) : Nat) : Int) := by rw [Int.natCast_mul, Int.natCast_pow]; rfl
    rw [h5]
    omega
  rw [e1, e2, e3]
  have hj := bits_join .u64 64 (by decide) wraps_u64 (7 * i) ((c * 2 ^ (7 * i) : Nat) : Int) (acc : Int) (by omega) (by
    have : ((c * 2 ^ (7 * i) : Nat) : Int) % ((2 ^ (7 * i) : Nat) : Int) = 0 := by rw [← Int.natCast_emod, Nat.mul_mod_left]; rfl
    rwa [Int.natCast_pow] at this) (by omega) (by omega) (by
    have : (acc : Int) < ((2 ^ (7 * i) : Nat) : Int) := by omega
    rwa [Int.natCast_pow] at this) (by
    have := ha
    omega)
  have hc2 : ∀ a b : Int, Go.bits .or .u64 a b = Go.bits .or .u64 b a := fun a b => by unfold Go.bits; simp only [BitVec.or_comm]
  rw [hc2, hj]
  omega
theorem Int_any {l : List Int} (hB : Bytes l) (hl : l.length ≤ 4611686018427387904) : ∃ (v e : Int) (n : Nat), wire_Int.f 40 l = some (v, (n : Int), e) ∧ I64 v ∧ ((e = 0 ∧ 0 < n ∧ n ≤ l.length) ∨ (e ≠ 0 ∧ n = 0)) := by
  unfold wire_Int.f
  exact int_tot 9 0 40 0 l rfl (by decide) (by decide) hB hl
end Go.Proofs.YtcfgmkmllcfjjaaGreatDoor
set_option linter.unusedVariables false
set_option linter.unusedSimpArgs false
set_option maxHeartbeats 1000000
namespace Go.Proofs.YtcfgmkmllcfjjaaGreatDoor
open Go.RowKit Go.Proofs.YtcfgmkmllcfjjaaGreatDoorW.PrintWords Go.Proofs.YtcfgmkmllcfjjaaGreatDoorW.PrintMore PImageAll
theorem w7 {i : Nat} (h : i ≤ 9) : 0 ≤ wrap64 (7 * (i : Int)) := by rw [w64 (by omega) (by omega)]; omega
theorem w1 {i : Nat} (h : i ≤ 9) : wrap64 ((i : Int) + 1) = ((i + 1 : Nat) : Int) := by rw [w64 (by omega) (by omega)]; omega
theorem z_le {acc z P : Nat} (hP : P = 9223372036854775808) (h : acc + z * P < 18446744073709551616) : z ≤ 1 := by subst hP; omega
theorem z_le' {z : Nat} (h : z ≤ 1) : decide ((z : Int) > 1) = false := decide_eq_false (by omega)
theorem nine {i : Nat} (h : (i : Int) = 9) : i = 9 := by omega
theorem z_big {acc z P : Nat} (hP : P = 9223372036854775808) (h : acc + z * P < 18446744073709551616) (hz : ¬ z < 128) : False := by subst hP; omega
theorem sm {z i : Nat} (hs : z < 128) (hz : 0 < i → 0 < z) : (¬ (z : Int) = 0 ∨ ¬ (i : Int) > 0) ∧ (z : Int) % 128 = (z : Int) ∧ (0 : Int) ≤ (z : Int) ∧ (z : Int) < 256 ∧ ¬ (z : Int) ≥ 128 := by omega
theorem bg {z i k' u : Nat} (hs : ¬ z < 128) (h9 : i < 9) (hk : 2 * (10 - i) ≤ k' + 1 + 1) : ¬ (i : Int) = 9 ∧ ((z % 128 + 128 : Nat) : Int) ≥ 128 ∧ (0 : Int) ≤ ((z % 128 + 128 : Nat) : Int) ∧ ((z % 128 + 128 : Nat) : Int) < 256 ∧ ((z % 128 + 128 : Nat) : Int) % 128 = ((z % 128 : Nat) : Int) ∧ z / 128 < z ∧ 0 < z / 128 ∧ 2 * (10 - (i + 1)) ≤ k' ∧ i + 1 + u = i + (u + 1) := by omega
theorem take_inP {acc c i P : Nat} (hP : Hid (P = 2 ^ (7 * i))) (hi : i ≤ 9) (ha : acc < P) (hc : c < 128) (h64 : acc + c * P < 18446744073709551616) :
    Go.bits .or .u64 (acc : Int) (shl .u64 (IntKind.u64.wrap (c : Int)) (wrap64 (7 * (i : Int)))) = ((acc + c * P : Nat) : Int) := by
  have := hP.out
  subst this
  exact take_in hi ha hc h64
theorem top63 {i P : Nat} (hP : Hid (P = 2 ^ (7 * i))) (h : i = 9) : P = 9223372036854775808 := by rw [hP.out, h]
theorem acc_sum {acc z P : Nat} : acc + z % 128 * P + z / 128 * (128 * P) = acc + z * P := by
  have hdm : z / 128 * 128 + z % 128 = z := by omega
  have h1 : z * P = (z / 128 * 128 + z % 128) * P := by rw [hdm]
  rw [h1, Nat.add_mul, Nat.mul_assoc, Nat.add_assoc, Nat.add_comm (z % 128 * P)]
theorem acc_lt {acc z P : Nat} (ha : acc < P) : acc + z % 128 * P < 128 * P := by
  have : z % 128 * P ≤ 127 * P := Nat.mul_le_mul_right _ (by omega)
  omega
theorem acc_le {acc z P B : Nat} (h : acc + z * P < B) : acc + z % 128 * P < B := by
  have : z % 128 * P ≤ z * P := Nat.mul_le_mul_right _ (Nat.mod_le _ _)
  omega
theorem int_dec : ∀ (z i k acc P : Nat) (l pre rest : List Int), Hid (P = 2 ^ (7 * i)) → l = pre ++ uvL z ++ rest → pre.length = i → i ≤ 9 → 2 * (10 - i) ≤ k → acc < P → acc + z * P < 18446744073709551616 → (0 < i → 0 < z) →
    wire_Int.l0 k (acc : Int) l (l.length : Int) (i : Int) = some (unzig (acc + z * P), ((i + (uvL z).length : Nat) : Int), 0) := by
  intro z
  induction z using Nat.strongRecOn with
  | _ z ih =>
    intro i k acc P l pre rest hP hl hp hi hk ha h64 hz
    obtain ⟨k', rfl⟩ : ∃ k', k = k' + 1 + 1 := ⟨k - 2, by omega⟩
    have hlen : l.length = i + (uvL z).length + rest.length := by rw [hl, List.length_append, List.length_append, hp]
    have hpos := uvL_pos z
    have hrd : ∀ c cs, uvL z = c :: cs → rd l (i : Int) = c := by
      intro c cs h
      unfold rd
      rw [Int.toNat_natCast, List.getD_eq_getElem?_getD, hl, List.append_assoc, List.getElem?_append_right (by omega), hp, Nat.sub_self, h]
      rfl
    rw [wire_Int.l0, if_pos (by omega), if_pos (by omega), if_pos (by omega)]
    have hw := w1 hi
    have hw7 := w7 hi
    by_cases hs : z < 128
    · have hu := uvL_small hs
      rw [hrd _ _ hu]
      have hguard : (if (i : Int) = 9 then wire_Int.j1 (k' + 1) (acc : Int) (i : Int) (z : Int) l (l.length : Int) (i : Int) (decide ((z : Int) > 1)) else wire_Int.j1 (k' + 1) (acc : Int) (i : Int) (z : Int) l (l.length : Int) (i : Int) false) = wire_Int.j1 (k' + 1) (acc : Int) (i : Int) (z : Int) l (l.length : Int) (i : Int) false := by
        by_cases h9 : (i : Int) = 9
        · rw [if_pos h9]
          rw [z_le' (z_le (top63 hP (nine h9)) h64)]
        · rw [if_neg h9]
      obtain ⟨hi0, hz2, hz3, hz4, hz5⟩ := sm hs hz
      rw [hguard, wire_Int.j1, if_neg (by simp), if_pos hw7, if_neg hz5]
      rw [u8_and127 _ hz3 hz4, hz2, take_inP hP hi ha hs h64, unz h64, hu]
      rw [hw]
      by_cases h0 : (z : Int) = 0
      · rw [if_pos h0, if_neg (hi0.resolve_left (fun h => h h0))]
        rfl
      · rw [if_neg h0]
        rfl
    · have hu := uvL_big hs
      rw [hrd _ _ hu]
      have h9 : i < 9 := by
        refine Nat.lt_of_not_le (fun h => ?_)
        exact z_big (top63 hP (Nat.le_antisymm hi h)) h64 hs
      obtain ⟨hi9, hc1, hc2, hc3, hc4, hz1, hz2, hk2, hlc⟩ := bg (u := (uvL (z / 128)).length) hs h9 hk
      rw [if_neg hi9, wire_Int.j1, if_neg (by simp), if_pos hw7, if_pos hc1]
      rw [u8_and127 _ hc2 hc3, hc4, take_inP hP hi ha (Nat.mod_lt _ (by decide)) (acc_le h64)]
      rw [hw, ih (z / 128) hz1 (i + 1) k' _ (128 * P) l (pre ++ [((z % 128 + 128 : Nat) : Int)]) rest (Lib.hid (by rw [hP.out]; exact (pow_succ7 i).symm)) (by rw [hl, hu]; simp) (by rw [List.length_append, hp]; rfl) h9 hk2 (acc_lt ha) (Nat.lt_of_le_of_lt (Nat.le_of_eq (acc_sum (acc := acc) (z := z) (P := P))) h64) (fun _ => hz2), acc_sum (acc := acc) (z := z) (P := P), hu, List.length_cons, hlc]
theorem Int_puti {n : Int} (h : I64 n) (rest : List Int) : wire_Int.f 40 (puti n ++ rest) = some (n, ((puti n).length : Int), 0) := by
  unfold wire_Int.f
  have := int_dec (Lib.zigzag n) 0 40 0 1 (puti n ++ rest) [] rest (Lib.hid rfl) rfl rfl (by decide) (by decide) (by decide) (by have := Lib.zigzag_lt h.1 h.2; omega) (fun h => absurd h (by decide))
  rw [show ((0 : Nat) : Int) = 0 from rfl] at this
  rw [this]
  simp only [Nat.mul_one, Nat.zero_add]
  rw [unzig_zigzag h]
  rfl
end Go.Proofs.YtcfgmkmllcfjjaaGreatDoor
