import Derived.Test.YtcfgmkmllcfjjaaDoorZImO
import Derived.Laws.EntriesVeiled
set_option linter.unusedVariables false
set_option linter.unusedSimpArgs false
namespace Go.Proofs.YtcfgmkmllcfjjaaDoor
open Go.RowKit Go.Proofs.YtcfgmkmllcfjjaaDoorW.PrintWords Go.Proofs.YtcfgmkmllcfjjaaDoorW.PrintMore PImageForm
def layoutV : Array Value := #[.func (.func 20) #[] #[], .func (.func 21) #[] #[], .func (.func 22) #[] #[], .func (.func 23) #[] #[], .func (.func 24) #[] #[], .func (.func 25) #[] #[], .func (.func 26) #[] #[], .func (.func 27) #[] #[], .func (.func 28) #[] #[], .func (.func 29) #[] #[]]
set_option maxHeartbeats 2000000 in
set_option maxRecDepth 100000 in
theorem layout_any (w : World) : Calls Tryd.prog 12 #[] w fun e w' => e = .returned (.agg layoutV) ∧ Below w.heap.size w w' := by
  go_enter Tryd.func12, Tryd.ntmps12
  go_wp2_with fail
  refine bodyPost_ret (results_cell_row rfl _ _ w.heap.size 51 layoutV (0, 0) _ rfl (blk_new w _) Tryd.underlying51 rfl (by kernel_rfl)) rfl ?_
  exact ⟨rfl, below_new _ _⟩
def attrB (a : S61) : Bool := nameB a.f0 && (decide (1 ≤ a.f1) && decide (a.f1 ≤ 3))
def typeB (x : S64) : Bool := nameB x.f0 && (decide (x.f1.length ≤ 16) && x.f1.all attrB)
theorem all_take {α : Type} (f : α → Bool) (xs : List α) (k : Nat) (hk : k < xs.length) : (xs.take (k + 1)).all f = ((xs.take k).all f && f xs[k]) := by
  rw [take_one xs k hk, List.all_append]
  simp
set_option maxRecDepth 100000 in
set_option maxHeartbeats 4000000 in
theorem typeMay_any {w : World} {x : S64} {A : Option Addr} {c : Nat} (hG : GW w) (hC : Kd.C k61 w A x.f1.length x.f1) (hc : x.f1.length ≤ c) (hxl : x.f1.length ≤ 9223372036854775807) :
    Calls Tryd.prog 18 #[.agg #[.string x.f0, .slice A x.f1.length c]] w fun e w' => e = .returned (.bool (typeB x)) ∧ Below w.heap.size w w' := by
  generalize hW0 : w.alloc (.cells #[.string x.f0, .slice A x.f1.length c] 64) = W0
  have HW0 := Lib.hid hW0
  have hb0 : Below w.heap.size w W0 := by rw [← hW0]; exact below_new w _
  have hX : W0.heap[w.heap.size]? = some (.cells #[.string x.f0, .slice A x.f1.length c] 64 (0, 0)) := by rw [← hW0]; exact blk_new w _
  have HB0 := Lib.hid hb0
  have hGa := hG.below hb0
  have HGA := Lib.hid hGa
  have HC := Lib.hid (Kd.C_below hC hb0)
  have HN := Lib.hid (Name_any x.f0 W0 hGa)
  have c0 : W0.cell? ⟨w.heap.size, 0, none⟩ = some (.string x.f0) := (blk_cell hX 0).trans rfl
  have c1 : W0.cell? ⟨w.heap.size, 1, none⟩ = some (.slice A x.f1.length c) := (blk_cell hX 1).trans rfl
  have hT : typeB x = (nameB x.f0 && (decide (x.f1.length ≤ 16) && x.f1.all attrB)) := rfl
  generalize typeB x = R at *
  have HT := Lib.hid hT
  clear hG hC hW0 hb0 hX hT hGa
  have main : ∀ b0 : Bool, (nameB x.f0 && decide (x.f1.length ≤ 16)) = b0 → True := fun _ _ => trivial
  clear main
  generalize hb : (nameB x.f0 && decide (x.f1.length ≤ 16)) = b0
  have HBB := Lib.hid hb
  have HR : Hid (R = (b0 && x.f1.all attrB)) := Lib.hid (by rw [HT.out, ← hb, Bool.and_assoc])
  clear HT hb
  have key : ∃ n : Bool, nameB x.f0 = n := ⟨_, rfl⟩
  obtain ⟨n, hn⟩ := key
  rw [hn] at HN HBB
  clear hn
  by_cases hk16 : x.f1.length ≤ 16
  all_goals
    first | have t1 : decide ((x.f1.length : Int) ≤ 16) = true := decide_eq_true (by omega) | have t1 : decide ((x.f1.length : Int) ≤ 16) = false := decide_eq_false (by omega)
    first | rw [decide_eq_true hk16] at HBB | rw [decide_eq_false hk16] at HBB
    cases n
    all_goals
      have hb := HBB.out
      simp only [Bool.and_true, Bool.and_false, Bool.false_and, Bool.true_and] at hb
      subst hb
      go_enter Tryd.func18, Tryd.ntmps18
      go_wp2_with fail
      rw [HW0.out]
      go_wp2_with (go_at_call 19; refine HN.out.mono ?_; rintro e w1 ⟨rfl, ⟨n1, rfl⟩⟩)
      go_loopw [3, 18] (fun t3 t18 wr => ∃ (k : Nat) (ok : Bool), k ≤ x.f1.length ∧ t18 = .int .i64 k ∧ t3 = .bool ok ∧ Hid (Below W0.heap.size W0 wr) ∧ Hid (R = (ok && (x.f1.drop k).all attrB))) (fun _ t18 _ => x.f1.length - (intOf t18).toNat)
      case atStart => exact ⟨0, _, by omega, rfl, rfl, Lib.hid (pw_below_drewN (Below.refl _ _) _), HR⟩
      case round =>
        clear HR
        obtain ⟨k, ok, hk2, rfl, rfl, hB, hR⟩ := hrel
        by_cases hlt : k < x.f1.length
        · have i1 : (0 : Int) ≤ (k : Int) := by omega
          have i2 : (k : Int) < x.f1.length := by omega
          obtain ⟨ad, rfl, q0, q1⟩ := atk61N (Kd.C_below HC.out hB.out) k hlt hlt
          have hbn := below_new wr (.cells #[.string x.f1[k].f0, .int .i64 x.f1[k].f1] 61)
          have HBN := Lib.hid (below_step hB.out hbn)
          have hR2 := hR.out
          rw [List.drop_eq_getElem_cons hlt, List.all_cons, ← Bool.and_assoc] at hR2
          have HR2 := Lib.hid hR2
          have HNK := Lib.hid (Name_any x.f1[k].f0 (wr.alloc (.cells #[.string x.f1[k].f0, .int .i64 x.f1[k].f1] 61)) (HGA.out.below HBN.out))
          have hat : attrB x.f1[k] = (nameB x.f1[k].f0 && (decide (1 ≤ x.f1[k].f1) && decide (x.f1[k].f1 ≤ 3))) := rfl
          generalize attrB x.f1[k] = at0 at *
          have HAT := Lib.hid hat
          clear hbn hR hR2 hat
          generalize x.f1[k] = y at *
          cases ok
          · go_wp2_with fail
            go_roundw
            case rel => exact ⟨k + 1, false, by omega, by go_num, rfl, HBN, HR2⟩
            case measure => simp [intOf]; omega
          · obtain ⟨ny, hny⟩ : ∃ ny : Bool, nameB y.f0 = ny := ⟨_, rfl⟩
            rw [hny] at HNK HAT
            clear hny
            cases ny
            · go_wp2_with (go_at_call 19; refine HNK.out.mono ?_; rintro e w3 ⟨rfl, ⟨n3, rfl⟩⟩)
              go_roundw
              case rel => exact ⟨k + 1, false, by omega, by go_num, rfl, Lib.hid (pw_below_drewN HBN.out _), by rw [HAT.out] at HR2; exact HR2⟩
              case measure => simp [intOf]; omega
            · by_cases g1 : 1 ≤ y.f1
              · have d1 : decide (1 ≤ y.f1) = true := decide_eq_true g1
                by_cases g2 : y.f1 ≤ 3
                · have d2 : decide (y.f1 ≤ 3) = true := decide_eq_true g2
                  have HR3 : Hid (R = (true && (x.f1.drop (k + 1)).all attrB)) := by rw [HAT.out, d1, d2] at HR2; exact HR2
                  clear g1 g2 HAT HR2
                  go_wp2_with (go_at_call 19; refine HNK.out.mono ?_; rintro e w3 ⟨rfl, ⟨n3, rfl⟩⟩)
                  go_roundw
                  case rel => exact ⟨k + 1, true, by omega, by go_num, rfl, Lib.hid (pw_below_drewN HBN.out _), HR3⟩
                  case measure => simp [intOf]; omega
                · have d2 : decide (y.f1 ≤ 3) = false := decide_eq_false g2
                  have HR3 : Hid (R = (false && (x.f1.drop (k + 1)).all attrB)) := by rw [HAT.out, d1, d2] at HR2; exact HR2
                  clear g1 g2 HAT HR2
                  go_wp2_with (go_at_call 19; refine HNK.out.mono ?_; rintro e w3 ⟨rfl, ⟨n3, rfl⟩⟩)
                  go_roundw
                  case rel => exact ⟨k + 1, false, by omega, by go_num, rfl, Lib.hid (pw_below_drewN HBN.out _), HR3⟩
                  case measure => simp [intOf]; omega
              · have d1 : decide (1 ≤ y.f1) = false := decide_eq_false g1
                have HR3 : Hid (R = (false && (x.f1.drop (k + 1)).all attrB)) := by rw [HAT.out, d1] at HR2; exact HR2
                clear g1 HAT HR2
                go_wp2_with (go_at_call 19; refine HNK.out.mono ?_; rintro e w3 ⟨rfl, ⟨n3, rfl⟩⟩)
                go_roundw
                case rel => exact ⟨k + 1, false, by omega, by go_num, rfl, Lib.hid (pw_below_drewN HBN.out _), HR3⟩
                case measure => simp [intOf]; omega
        · obtain rfl : k = x.f1.length := by omega
          have hR2 := hR.out
          rw [List.drop_length, List.all_nil, Bool.and_true] at hR2
          subst hR2
          go_wp2_with fail
          go_ret
          exact ⟨rfl, below_step HB0.out hB.out⟩
end Go.Proofs.YtcfgmkmllcfjjaaDoor
