import Derived.Test.YtcfgmkmllcfjjaaGreatDoorZAG
import Derived.Test.YtcfgmkmllcfjjaaGreatDoorZAH
import Derived.Test.YtcfgmkmllcfjjaaGreatDoorZAF
import Derived.Laws.AppendOwnNone
set_option linter.unusedVariables false
set_option linter.unusedSimpArgs false
namespace Go.Proofs.YtcfgmkmllcfjjaaGreatDoor
open Go.RowKit Go.Proofs.YtcfgmkmllcfjjaaGreatDoorW.PrintWords Go.Proofs.YtcfgmkmllcfjjaaGreatDoorW.PrintMore PImageAll
def validB (x : S67) : Bool := (PValid.value_Valid.f x.f0 x.f1 x.f2 x.f3).getD false
theorem validB_f (x : S67) : PValid.value_Valid.f x.f0 x.f1 x.f2 x.f3 = some (validB x) := by
  unfold validB PValid.value_Valid.f PValid.value_number.f PValid.value_text.f PValid.value_truth.f
  simp only [Option.bind_some]
  repeat' split
  all_goals rfl
theorem empty_toList {a : ByteArray} (h : (a.toList == (⟨#[]⟩ : ByteArray).toList) = true) : a = ⟨#[]⟩ := by
  have he := beq_iff_eq.mp h
  rw [ByteArray.toList_eq, ByteArray.toList_eq] at he
  exact ByteArray.ext (Array.ext' he)
theorem validB_ok {x : S67} (h : validB x = true) (hi : I64 x.f1) : ValOk x := by
  obtain ⟨a, b, c, d⟩ := x
  have hf := validB_f ⟨a, b, c, d⟩
  rw [h] at hf
  unfold PValid.value_Valid.f PValid.value_number.f PValid.value_text.f PValid.value_truth.f at hf
  simp only [Option.bind_some] at hf
  split at hf
  · rename_i h1
    have h1 : a = 1 := h1
    subst h1
    simp only [Option.some.injEq, Bool.and_eq_true, beq_iff_eq] at hf
    obtain ⟨_, _, h3, h4⟩ := hf
    have h3 := empty_toList (beq_iff_eq.mpr h3)
    subst h3
    subst h4
    exact .int b hi
  · split at hf
    · rename_i h2
      have h2 : a = 2 := h2
      subst h2
      split at hf
      · rename_i h5
        simp only [Bool.and_eq_true, beq_iff_eq] at h5
        obtain ⟨_, h6, _, h7⟩ := h5
        have h6 : b = 0 := h6
        have h7 : d = false := h7
        subst h6
        subst h7
        simp only [Option.some.injEq, decide_eq_true_eq] at hf
        exact .str c (by omega)
      · simp at hf
    · split at hf
      · rename_i h3
        have h3 : a = 3 := h3
        subst h3
        simp only [Option.some.injEq, Bool.and_eq_true, beq_iff_eq] at hf
        obtain ⟨_, h4, h5, _⟩ := hf
        have h4 : b = 0 := h4
        have h5 := empty_toList (beq_iff_eq.mpr h5)
        subst h4
        subst h5
        exact .bool d
      · simp at hf
def faultN (e : S63) : Int := if nameB e.f0 = true then (if 0 ≤ e.f1 ∧ e.f1 ≤ 4611686018427387904 then (if e.f2.length ≤ 16 then (if e.f2.all validB = true then 0 else 12) else 2) else 23) else 20
set_option maxRecDepth 100000 in
set_option maxHeartbeats 4000000 in
theorem fault_any {w : World} {x : S63} {A : Option Addr} {c : Nat} (hG : GW w) (hC : Kd.C k67 w A x.f2.length x.f2) (hc : x.f2.length ≤ c) (hxl : x.f2.length ≤ 9223372036854775807) :
    Calls Tryz.prog 106 #[.agg #[.string x.f0, .int .i64 x.f1, .slice A x.f2.length c]] w fun e w' => e = .returned (.int .i64 (faultN x)) ∧ Below w.heap.size w w' := by
  generalize hW0 : w.alloc (.cells #[.string x.f0, .int .i64 x.f1, .slice A x.f2.length c] 63) = W0
  have HW0 := Lib.hid hW0
  have hb0 : Below w.heap.size w W0 := by rw [← hW0]; exact below_new w _
  have hX : W0.heap[w.heap.size]? = some (.cells #[.string x.f0, .int .i64 x.f1, .slice A x.f2.length c] 63 (0, 0)) := by rw [← hW0]; exact blk_new w _
  have HB0 := Lib.hid hb0
  have HC := Lib.hid (Kd.C_below hC hb0)
  have HN := Lib.hid (Name_any x.f0 W0 (hG.below hb0))
  have c0 : W0.cell? ⟨w.heap.size, 0, none⟩ = some (.string x.f0) := (blk_cell hX 0).trans rfl
  have c1 : W0.cell? ⟨w.heap.size, 1, none⟩ = some (.int .i64 x.f1) := (blk_cell hX 1).trans rfl
  have c2 : W0.cell? ⟨w.heap.size, 2, none⟩ = some (.slice A x.f2.length c) := (blk_cell hX 2).trans rfl
  have hF : faultN x = if nameB x.f0 = true then (if 0 ≤ x.f1 ∧ x.f1 ≤ 4611686018427387904 then (if x.f2.length ≤ 16 then (if x.f2.all validB = true then 0 else 12) else 2) else 23) else 20 := rfl
  generalize faultN x = F at *
  have HF := Lib.hid hF
  clear hG hC hW0 hb0 hX hF
  by_cases hn : nameB x.f0 = true
  · rw [hn] at HN
    have HF := Lib.hid (HF.out.trans (if_pos hn))
    clear hn
    by_cases ht : 0 ≤ x.f1 ∧ x.f1 ≤ 4611686018427387904
    · have HF := Lib.hid (HF.out.trans (if_pos ht))
      have t1 : decide (x.f1 < 0) = false := decide_eq_false (by omega)
      have t2 : decide (4611686018427387904 < x.f1) = false := decide_eq_false (by omega)
      clear ht
      by_cases hk : x.f2.length ≤ 16
      · have HF := Lib.hid (HF.out.trans (if_pos hk))
        have t3 : decide (16 < (x.f2.length : Int)) = false := decide_eq_false (by omega)
        go_enter Tryz.func106, Tryz.ntmps106
        go_wp2_with fail
        rw [HW0.out]
        go_wp2_with (go_at_call 42; refine HN.out.mono ?_; rintro e w1 ⟨rfl, ⟨n1, rfl⟩⟩)
        go_loopw [27] (fun t27 wr => ∃ k : Nat, k ≤ x.f2.length ∧ t27 = .int .i64 k ∧ Hid (Below W0.heap.size W0 wr) ∧ Hid (∀ j (hj : j < x.f2.length), j < k → validB (x.f2[j]'hj) = true)) (fun t27 _ => x.f2.length - (intOf t27).toNat)
        case atStart => exact ⟨0, by omega, rfl, Lib.hid (pw_below_drewN (Below.refl _ _) _), Lib.hid (by intro j _ h; omega)⟩
        case round =>
          obtain ⟨k, hk2, rfl, hB, hP⟩ := hrel
          by_cases hlt : k < x.f2.length
          · have i1 : (0 : Int) ≤ (k : Int) := by omega
            have i2 : (k : Int) < x.f2.length := by omega
            obtain ⟨ad, rfl, q0, q1, q2, q3⟩ := atVal (Kd.C_below HC.out hB.out) k hlt hlt
            have hbn := below_new wr (.cells #[.int .i64 x.f2[k].f0, .int .i64 x.f2[k].f1, .string x.f2[k].f2, .bool x.f2[k].f3] 67)
            have HBN := Lib.hid (below_step hB.out hbn)
            have hV := PValid.value_Valid.calls x.f2[k].f0 x.f2[k].f1 x.f2[k].f2 x.f2[k].f3 (validB x.f2[k]) (wr.alloc (.cells #[.int .i64 x.f2[k].f0, .int .i64 x.f2[k].f1, .string x.f2[k].f2, .bool x.f2[k].f3] 67)) (validB_f _)
            by_cases hv : validB x.f2[k] = true
            · rw [hv] at hV
              have HV := Lib.hid hV
              have HP2 := Lib.hid (show ∀ j (hj : j < x.f2.length), j < k + 1 → validB (x.f2[j]'hj) = true from fun j hj hjk => if h : j = k then by subst h; exact hv else hP.out j hj (by omega))
              clear hV hv hbn hP
              generalize x.f2[k] = y at *
              go_wp2_with (go_at_call 112; refine HV.out.mono ?_; rintro e w4 ⟨rfl, hB4⟩; have HB4 := Lib.hid hB4; clear hB4)
              go_roundw
              case rel => exact ⟨k + 1, by omega, by go_num, Lib.hid (below_step HBN.out HB4.out), HP2⟩
              case measure => simp [intOf]; omega
            · have hF12 : F = 12 := HF.out.trans (if_neg (by
                intro h
                exact hv (List.all_eq_true.mp h _ (List.getElem_mem hlt))))
              have hv' : validB x.f2[k] = false := by simpa using hv
              rw [hv'] at hV
              have HV := Lib.hid hV
              subst hF12
              clear hV hv hv' hbn hP
              generalize x.f2[k] = y at *
              go_wp2_with (go_at_call 112; refine HV.out.mono ?_; rintro e w4 ⟨rfl, hB4⟩; have HB4 := Lib.hid hB4; clear hB4)
              go_ret
              exact ⟨rfl, below_step HB0.out (below_step HBN.out HB4.out)⟩
          · obtain rfl : k = x.f2.length := by omega
            have hF0 : F = 0 := HF.out.trans (if_pos (by
              apply List.all_eq_true.mpr
              intro y hy
              obtain ⟨j, hj, rfl⟩ := List.getElem_of_mem hy
              exact hP.out j hj hj))
            subst hF0
            go_wp2_with fail
            go_ret
            exact ⟨rfl, below_step HB0.out hB.out⟩
      · have HF := Lib.hid (HF.out.trans (if_neg hk))
        have t3 : decide (16 < (x.f2.length : Int)) = true := decide_eq_true (by omega)
        have hF := HF.out
        subst hF
        go_enter Tryz.func106, Tryz.ntmps106
        go_wp2_with fail
        rw [HW0.out]
        go_wp2_with (go_at_call 42; refine HN.out.mono ?_; rintro e w1 ⟨rfl, ⟨n1, rfl⟩⟩)
        go_ret
        exact ⟨rfl, pw_below_drewN HB0.out _⟩
    · have HF := Lib.hid (HF.out.trans (if_neg ht))
      have hF := HF.out
      subst hF
      by_cases t1' : x.f1 < 0
      · have t1 : decide (x.f1 < 0) = true := decide_eq_true t1'
        clear ht
        go_enter Tryz.func106, Tryz.ntmps106
        go_wp2_with fail
        rw [HW0.out]
        go_wp2_with (go_at_call 42; refine HN.out.mono ?_; rintro e w1 ⟨rfl, ⟨n1, rfl⟩⟩)
        go_ret
        exact ⟨rfl, pw_below_drewN HB0.out _⟩
      · have t1 : decide (x.f1 < 0) = false := decide_eq_false t1'
        have t2 : decide (4611686018427387904 < x.f1) = true := decide_eq_true (by omega)
        clear ht
        go_enter Tryz.func106, Tryz.ntmps106
        go_wp2_with fail
        rw [HW0.out]
        go_wp2_with (go_at_call 42; refine HN.out.mono ?_; rintro e w1 ⟨rfl, ⟨n1, rfl⟩⟩)
        go_ret
        exact ⟨rfl, pw_below_drewN HB0.out _⟩
  · have HF := Lib.hid (HF.out.trans (if_neg hn))
    have hF := HF.out
    subst hF
    have hn' : nameB x.f0 = false := by simpa using hn
    rw [hn'] at HN
    clear hn hn'
    go_enter Tryz.func106, Tryz.ntmps106
    go_wp2_with fail
    rw [HW0.out]
    go_wp2_with (go_at_call 42; refine HN.out.mono ?_; rintro e w1 ⟨rfl, ⟨n1, rfl⟩⟩)
    go_ret
    exact ⟨rfl, pw_below_drewN HB0.out _⟩
theorem fault_zero {x : S63} (h : faultN x = 0) : nameB x.f0 = true ∧ (0 ≤ x.f1 ∧ x.f1 ≤ 4611686018427387904) ∧ x.f2.length ≤ 16 ∧ ∀ y ∈ x.f2, validB y = true := by
  unfold faultN at h
  split at h
  · rename_i h1
    split at h
    · rename_i h2
      split at h
      · rename_i h3
        split at h
        · rename_i h4
          exact ⟨h1, h2, h3, List.all_eq_true.mp h4⟩
        · cases h
      · cases h
    · cases h
  · cases h
def encB (x : S63) : List Int := if faultN x = 0 then encEvent x else []
set_option maxRecDepth 100000 in
set_option maxHeartbeats 2000000 in
theorem Encode_any {w : World} {x : S63} {A : Option Addr} {c : Nat} (hG : GW w) (hC : Kd.C k67 w A x.f2.length x.f2) (hc : x.f2.length ≤ c) (hxl : x.f2.length ≤ 9223372036854775807) (hv : ∀ y ∈ x.f2, I64 y.f1) (hl : (encB x).length ≤ 10000000000000) :
    Calls Tryz.prog 90 #[.agg #[.string x.f0, .int .i64 x.f1, .slice A x.f2.length c]] w fun e w' => ∃ v, e = .returned (.tuple #[v, .int .i64 (faultN x)]) ∧ BRow w' w.heap.size v (encB x) ∧ (faultN x ≠ 0 → v = .slice none 0 0) ∧ Below w.heap.size w w' := by
  generalize hW0 : w.alloc (.cells #[.string x.f0, .int .i64 x.f1, .slice A x.f2.length c] 63) = W0
  have HW0 := Lib.hid hW0
  have hb0 : Below w.heap.size w W0 := by rw [← hW0]; exact below_new w _
  have hX : W0.heap[w.heap.size]? = some (.cells #[.string x.f0, .int .i64 x.f1, .slice A x.f2.length c] 63 (0, 0)) := by rw [← hW0]; exact blk_new w _
  have HB0 := Lib.hid hb0
  have HC := Lib.hid (Kd.C_below hC hb0)
  have HX := Lib.hid hX
  have HFA := Lib.hid (fault_any (hG.below hb0) HC.out hc hxl)
  have c0 : W0.cell? ⟨w.heap.size, 0, none⟩ = some (.string x.f0) := (blk_cell hX 0).trans rfl
  have c1 : W0.cell? ⟨w.heap.size, 1, none⟩ = some (.int .i64 x.f1) := (blk_cell hX 1).trans rfl
  have c2 : W0.cell? ⟨w.heap.size, 2, none⟩ = some (.slice A x.f2.length c) := (blk_cell hX 2).trans rfl
  by_cases hf : faultN x = 0
  · have hz := fault_zero hf
    have hE : encB x = encEvent x := if_pos hf
    rw [hE] at hl ⊢
    have HP := Lib.hid (show ∀ W, Below W0.heap.size W0 W → Calls Tryz.prog 107 #[.slice none 0 0, .agg #[.string x.f0, .int .i64 x.f1, .slice A x.f2.length c]] W fun e w' => BPost W (encEvent x) e w' from fun W hW =>
      wput (Kd.C_below HC.out hW) hc (fun y hy => validB_ok (hz.2.2.2 y hy) (hv y hy)) ⟨by omega, by omega⟩ hl)
    rw [hf] at HFA ⊢
    clear hf hz hG hC hW0 hb0 hX hE hl
    go_enter Tryz.func90, Tryz.ntmps90
    go_wp2_with fail
    rw [HW0.out]
    go_wp2_with (first
      | (go_at_call 106; refine HFA.out.mono ?_; rintro e w1 ⟨rfl, hB1⟩; have HB1 := Lib.hid hB1; have c01 := pw_cell_below hB1 c0; have c11 := pw_cell_below hB1 c1; have c21 := pw_cell_below hB1 c2; clear hB1)
      | (go_at_call 107; refine (HP.out _ HB1.out).mono ?_; rintro e w2 ⟨v2, rfl, hO2, hB2⟩; have HO2 := Lib.hid hO2; have HB2 := Lib.hid hB2; clear hO2 hB2))
    go_ret2
    exact ⟨v2, rfl, own_less HO2.out (Nat.le_trans HB0.out.size HB1.out.size), fun h => absurd rfl h, below_step HB0.out (below_step HB1.out HB2.out)⟩
  · have hE : encB x = [] := if_neg hf
    have hf1 : (faultN x == 0) = false := by simpa using hf
    have hf2 : (faultN x != 0) = true := by simpa using hf
    rw [hE]
    clear hf hG hC hW0 hb0 hX hE hl
    go_enter Tryz.func90, Tryz.ntmps90
    go_wp2_with fail
    rw [HW0.out]
    go_wp2_with (first
      | (go_at_call 106; refine HFA.out.mono ?_; rintro e w1 ⟨rfl, hB1⟩; have HB1 := Lib.hid hB1; clear hB1))
    go_ret2
    exact ⟨.slice none 0 0, rfl, BRow.nil _ _, fun _ => rfl, below_step HB0.out HB1.out⟩
section
variable {ops : Array Oper} {rest : List Oper} {o : Oper} {a : Act} {Q : Exit → Act → World → Prop}
theorem wstep_none {W : World} {K : Act → World → Prop} {E : Prop} {base n : Nat} {v : Value} {xs : List Value} (hgd : o.guard = none) (s x : Operand)
    (ho : o.op = .call { callee := .builtin .append, args := #[s, x], argTypes := #[33, 33] }) (hO : W.ownsRow base 5 1 v n xs) (hs : a.eval s = v) (hx : a.eval x = .slice none 0 0)
    (h : K (a.put o.dst v) W) : if Region.wanted o (yielded ops a.tmps) = true then Oper.wp Tryz.prog o a W K Q else E := by
  have hw : Region.wanted o (yielded ops a.tmps) = true := by simp [Region.wanted, hgd]
  rw [if_pos hw]
  obtain ⟨i0, hi, hzz⟩ := Option.map_eq_some_iff.1 info5
  have hrun := run_append_owned_none (P := Tryz.prog) (w := W) base 33 o.type 5 i0 1 Tryz.underlying33 hi v n xs hO
  unfold Oper.wp
  simp [execOp, ho, resolve, invoke, builtin, hs, hx, hrun, Result.andThen]
  exact h
end
theorem WAt.mark {w : World} {gw base : Nat} {l : List Int} {bad : Bool} (h : WAt w gw base l bad) (b : Bool) : WAt (w.setCell ⟨gw, 1, none⟩ (.bool b)) gw base l b ∧ Wr base gw w (w.setCell ⟨gw, 1, none⟩ (.bool b)) := by
  obtain ⟨hgw, A, c, hb, hO⟩ := h
  refine ⟨⟨hgw, A, c, by simp [World.setCell, Array.getElem?_modify, hb], own_move hO (fun k hk => Below.heap_setCell _ _ _ _ (fun e => ?_))⟩, Wr.setCell _ _ Wr.refl hgw rfl⟩
  obtain ⟨cur, hc⟩ := own_typed hO k hk
  have e : k = gw := e
  subst e
  rw [hb] at hc
  injection hc with hc
  injection hc with _ h3
  exact absurd h3 (by decide)
theorem WAt.same {w : World} {gw base c : Nat} {l : List Int} {bad : Bool} {A : Option Addr} (hgw : base ≤ gw) (hb : w.heap[gw]? = some (.cells #[.slice A l.length c, .bool bad] 73 (0, 0))) (hO : w.ownsRow base 5 1 (.slice A l.length c) l.length (nums .u8 l)) :
    WAt (w.setCell ⟨gw, 0, none⟩ (.slice A l.length c)) gw base l bad ∧ Wr base gw w (w.setCell ⟨gw, 0, none⟩ (.slice A l.length c)) := by
  refine ⟨⟨hgw, A, c, by simp [World.setCell, Array.getElem?_modify, hb], own_move hO (fun k hk => Below.heap_setCell _ _ _ _ (fun e => ?_))⟩, Wr.setCell _ _ Wr.refl hgw rfl⟩
  obtain ⟨cur, hc⟩ := own_typed hO k hk
  have e : k = gw := e
  subst e
  rw [hb] at hc
  injection hc with hc
  injection hc with _ h3
  exact absurd h3 (by decide)
theorem WAt.drew {w : World} {gw base : Nat} {l : List Int} {bad : Bool} (h : WAt w gw base l bad) (n : Nat) : WAt (w.drewN n) gw base l bad := h.below (pw_below_drewN (Below.refl _ _) n)
theorem WAt.cells {w : World} {gw base : Nat} {l : List Int} {bad : Bool} (h : WAt w gw base l bad) : ∃ A c, w.cell? ⟨gw, 0, none⟩ = some (.slice A l.length c) ∧ w.cell? ⟨gw, 1, none⟩ = some (.bool bad) ∧ w.frozen? ⟨gw, 0, none⟩ = false ∧ w.frozen? ⟨gw, 1, none⟩ = false ∧ w.ownsRow base 5 1 (.slice A l.length c) l.length (nums .u8 l) := by
  obtain ⟨hgw, A, c, hb, hO⟩ := h
  exact ⟨A, c, (blk_cell hb 0).trans rfl, (blk_cell hb 1).trans rfl, blk_frozen hb 0, blk_frozen hb 1, hO⟩
theorem heap_set {w : World} {p i g : Nat} {v : Value} {o : Obj} (h : w.heap[g]? = some o) (hn : g ≠ p) : (w.setCell ⟨p, i, none⟩ v).heap[g]? = some o := (Below.heap_setCell _ _ _ _ hn).trans h
theorem WAt.setOther {w : World} {gw base p i : Nat} {l : List Int} {bad : Bool} {cs : Array Value} {t : TypeId} (h : WAt w gw base l bad) (hp : w.heap[p]? = some (.cells cs t (0, 0))) (h1 : t ≠ 5) (h2 : t ≠ 73) (v : Value) : WAt (w.setCell ⟨p, i, none⟩ v) gw base l bad := by
  have hn := h.neq hp h2
  obtain ⟨hgw, A, c, hb, hO⟩ := h
  refine ⟨hgw, A, c, heap_set hb (fun e => hn e.symm), own_move hO (fun k hk => Below.heap_setCell _ _ _ _ (fun e => ?_))⟩
  obtain ⟨cur, hc⟩ := own_typed hO k hk
  have e : k = p := e
  subst e
  rw [hp] at hc
  injection hc with hc
  injection hc with _ h3
  exact h1 h3
theorem BRow.set {w : World} {gw base b0 i : Nat} {l l' : List Int} {bad : Bool} {v : Value} (h : BRow w b0 v l') (hW : WAt w gw base l bad) (u : Value) : BRow (w.setCell ⟨gw, i, none⟩ u) b0 v l' := by
  obtain ⟨hgw, A, c, hb, hO⟩ := hW
  refine own_move h (fun k hk => Below.heap_setCell _ _ _ _ (fun e => ?_))
  obtain ⟨cur, hc⟩ := own_typed h k hk
  have e : k = gw := e
  subst e
  rw [hb] at hc
  injection hc with hc
  injection hc with _ h3
  exact absurd h3 (by decide)
theorem Wr.setNew {base gw p i : Nat} {ws w : World} (h : Wr base gw ws w) (hp : ws.heap.size ≤ p) (v : Value) : Wr base gw ws (w.setCell ⟨p, i, none⟩ v) :=
  ⟨h.os, h.tape, h.output, Nat.le_trans h.size (by simp [World.setCell]), fun k hk hn => (Below.heap_setCell _ _ _ _ (fun e => by have e : k = p := e; omega)).trans (h.block k hk hn)⟩
def LBox (w : World) (pl : Nat) (v : Int) : Prop := w.heap[pl]? = some (.cells #[.int .i64 v] 2 (0, 0))
theorem LBox.set {w : World} {pl : Nat} {v : Int} (h : LBox w pl v) (u : Int) : LBox (w.setCell ⟨pl, 0, none⟩ (.int .i64 u)) pl u := by
  unfold LBox at h ⊢
  simp [World.setCell, Array.getElem?_modify, h]
def sub64 (a b : Int) : Int := IntKind.i64.wrap (a - b)
theorem sub64_I64 (a b : Int) : I64 (sub64 a b) := by
  unfold sub64 I64
  rw [IntKind.wrap_i64]
  omega
def encSeen (last : Int) (x : S65) : List Int := puti (sub64 x.f0 last) ++ ([if x.f2 then 1 else 0] ++ encB x.f1)
def SeenPost (w0 ws : World) (gw pb pl : Nat) (l : List Int) (bad : Bool) (last : Int) (e : Ending) (w' : World) : Prop :=
  e = .returned (.tuple #[]) ∧ WAt w' gw w0.heap.size l bad ∧ PBox w' pb gw ∧ LBox w' pl last ∧ Wr w0.heap.size gw ws w'
set_option maxRecDepth 100000 in
set_option maxHeartbeats 4000000 in
theorem wSeen_any {w0 ws w : World} {gw pb pl c1 : Nat} {l : List Int} {bad : Bool} {last : Int} {x : S65} {A1 : Option Addr} (hBs : Below w0.heap.size w0 ws) (hG : GW w0) (hW : WAt w gw w0.heap.size l bad) (hP : PBox w pb gw) (hL : LBox w pl last)
    (hws : Wr w0.heap.size gw ws w) (hpl : ws.heap.size ≤ pl) (hC : Kd.C k67 w0 A1 x.f1.f2.length x.f1.f2) (hc : x.f1.f2.length ≤ c1) (hxl : x.f1.f2.length ≤ 9223372036854775807) (hv : ∀ y ∈ x.f1.f2, I64 y.f1)
    (hl : (l ++ encSeen last x).length ≤ 10000000000000) :
    Calls Tryz.prog 89 #[.agg #[.int .i64 x.f0, .string x.f1.f0, .int .i64 x.f1.f1, .slice A1 x.f1.f2.length c1, .bool x.f2], .pointer (some ⟨pb, 0, none⟩), .pointer (some ⟨pl, 0, none⟩)] w
      fun e w' => SeenPost w0 ws gw pb pl (l ++ encSeen last x) (bad || !(faultN x.f1 == 0)) x.f0 e w' := by
  generalize hW0 : w.alloc (.cells #[.int .i64 x.f0, .string x.f1.f0, .int .i64 x.f1.f1, .slice A1 x.f1.f2.length c1, .bool x.f2] 65) = W0
  have hb0 : Below w.heap.size w W0 := by rw [← hW0]; exact below_new w _
  have hX : W0.heap[w.heap.size]? = some (.cells #[.int .i64 x.f0, .string x.f1.f0, .int .i64 x.f1.f1, .slice A1 x.f1.f2.length c1, .bool x.f2] 65 (0, 0)) := by rw [← hW0]; exact blk_new w _
  have hWa := hW.below hb0
  have hPa := hP.below hb0
  have hLa : LBox W0 pl last := blk_below hL hb0
  have hwa : Wr w0.heap.size gw ws W0 := hws.trans (Wr.of_below hb0)
  have hE : l ++ encSeen last x = ((l ++ puti (sub64 x.f0 last)) ++ [if x.f2 then 1 else 0]) ++ encB x.f1 := by simp only [encSeen, List.append_assoc]
  rw [hE] at hl ⊢
  have hl2 : ((l ++ puti (sub64 x.f0 last)) ++ [if x.f2 then 1 else 0]).length ≤ 10000000000000 := by rw [List.length_append] at hl; omega
  have hl1 : (l ++ puti (sub64 x.f0 last)).length ≤ 10000000000000 := by rw [List.length_append] at hl2; omega
  have HL := Lib.hid hl
  have HL2 := Lib.hid hl2
  have hle : (encB x.f1).length ≤ 10000000000000 := by rw [List.length_append] at hl; omega
  have HLE := Lib.hid hle
  have hN := num_hl hWa (sub64_I64 x.f0 last) hl1
  have hsz : W0.heap.size = w.heap.size + 1 := by rw [← hW0]; simp
  rw [hsz] at hN
  have HN := Lib.hid hN
  have HXG := Lib.hid (hWa.neq hX (by decide))
  have HXL := Lib.hid (show w.heap.size ≠ pl from blk_ne hX hLa (by decide))
  have HPL := Lib.hid (show pb ≠ pl from blk_ne hPa hLa (by decide))
  have HGL := Lib.hid (show pl ≠ gw from hWa.neq hLa (by decide))
  have HPG := Lib.hid (show pb ≠ gw from hWa.neq hPa (by decide))
  clear hN hsz
  have hd : IntKind.i64.wrap (x.f0 - last) = sub64 x.f0 last := rfl
  have p0 : W0.cell? ⟨pb, 0, none⟩ = some (.pointer (some ⟨gw, 0, none⟩)) := (blk_cell hPa 0).trans rfl
  have l0 : W0.cell? ⟨pl, 0, none⟩ = some (.int .i64 last) := (blk_cell hLa 0).trans rfl
  have x0 : W0.cell? ⟨w.heap.size, 0, none⟩ = some (.int .i64 x.f0) := (blk_cell hX 0).trans rfl
  have HX := Lib.hid hX
  have HWA := Lib.hid hWa
  have HPA := Lib.hid hPa
  have HLA := Lib.hid hLa
  have HBS := Lib.hid (show ∀ W, Wr w0.heap.size gw ws W → Below w0.heap.size w0 W from fun W hW => hBs.trans (hW.below hBs.size))
  have HWS := Lib.hid hwa
  have HG := Lib.hid hG
  have HC := Lib.hid hC
  have HV := Lib.hid hv
  clear hW hP hL hws hBs hG hC hv hb0 hX hWa hPa hLa hwa hE hl hl1 hl2 hle
  generalize sub64 x.f0 last = d at *
  generalize l ++ puti d = L1 at *
  generalize hT : [if x.f2 then (1 : Int) else 0] = tl at *
  have HT := Lib.hid hT
  clear hT
  generalize hR : L1 ++ tl ++ encB x.f1 = R
  generalize hMk : (bad || !(faultN x.f1 == 0)) = mk
  have HRR := Lib.hid hR
  have HMK := Lib.hid hMk
  clear hR hMk
  subst hW0
  go_enter Tryz.func89, Tryz.ntmps89
  go_wp2_with (first
    | (go_at_call 69; go_loud (refine HN.out.mono ?_; rintro e w1 ⟨rfl, hA1, hR1⟩; have hX1 := Wr.blk hR1 HX.out HXG.out (by decide); have hL1 : LBox w1 pl last := Wr.blk hR1 HLA.out HGL.out (by decide); have hP1 := HPA.out.wr HWA.out hR1; have fz1 := blk_frozen hL1 0; have cl1 : w1.cell? ⟨pl, 0, none⟩ = some (.int .i64 last) := (blk_cell hL1 0).trans rfl; have cx1 : w1.cell? ⟨w.heap.size, 0, none⟩ = some (.int .i64 x.f0) := (blk_cell hX1 0).trans rfl; have HX2 := Lib.hid (heap_set (i := 0) (v := .int .i64 x.f0) hX1 HXL.out); have hP2 : PBox (w1.setCell ⟨pl, 0, none⟩ (.int .i64 x.f0)) pb gw := heap_set hP1 HPL.out; have HP2 := Lib.hid hP2; have HA2 := Lib.hid (hA1.setOther (i := 0) hL1 (by decide) (by decide) (.int .i64 x.f0)); have HL2' := Lib.hid (hL1.set x.f0); have HW2 := Lib.hid (Wr.setNew (i := 0) (HWS.out.trans hR1) hpl (.int .i64 x.f0)); have cp2 : (w1.setCell ⟨pl, 0, none⟩ (.int .i64 x.f0)).cell? ⟨pb, 0, none⟩ = some (.pointer (some ⟨gw, 0, none⟩)) := (blk_cell hP2 0).trans rfl; have cx2 : (w1.setCell ⟨pl, 0, none⟩ (.int .i64 x.f0)).cell? ⟨w.heap.size, 4, none⟩ = some (.bool x.f2) := (blk_cell HX2.out 4).trans rfl; clear hA1 hR1 hX1 hL1 hP1 hP2 HX HWA HPA HLA HWS p0 l0 x0 HN))
    | (go_at_call 84; go_loud (refine (truth_any gw w0.heap.size _ bad x.f2 _ HA2.out (by have := HL2.out; rw [List.length_append] at this; omega)).mono ?_; rintro e w3 ⟨rfl, hA3, hR3⟩; rw [HT.out] at hA3; have hX3 := Wr.blk hR3 HX2.out HXG.out (by decide); have hL3 : LBox w3 pl x.f0 := Wr.blk hR3 HL2'.out HGL.out (by decide); have hP3 := HP2.out.wr HA2.out hR3; have HX3 := Lib.hid hX3; have HL3 := Lib.hid hL3; have HP3 := Lib.hid hP3; have HA3 := Lib.hid hA3; have hW3 := HW2.out.trans hR3; have HW3 := Lib.hid hW3; have HEN := Lib.hid (Encode_any (HG.out.below (HBS.out _ hW3)) (Kd.C_below HC.out (HBS.out _ hW3)) hc hxl HV.out HLE.out); have cx3 : w3.cell? ⟨w.heap.size, 1, none⟩ = some (.string x.f1.f0) := (blk_cell hX3 1).trans rfl; have cx4 : w3.cell? ⟨w.heap.size, 2, none⟩ = some (.int .i64 x.f1.f1) := (blk_cell hX3 2).trans rfl; have cx5 : w3.cell? ⟨w.heap.size, 3, none⟩ = some (.slice A1 x.f1.f2.length c1) := (blk_cell hX3 3).trans rfl; clear hA3 hR3 hX3 hL3 hP3 hW3 HX2 HP2 HA2 HL2' HW2 cp2 cx2))
    | (go_at_call 90; go_loud (refine HEN.out.mono ?_; rintro e w4 ⟨v4, rfl, hO4, hN4, hB4⟩; have HN4 := Lib.hid hN4; have HX4 := Lib.hid (blk_below HX3.out hB4); have HL4 : Hid (LBox w4 pl x.f0) := Lib.hid (blk_below HL3.out hB4); have HP4 := Lib.hid (HP3.out.below hB4); have HA4 := Lib.hid (HA3.out.below hB4); have HW4 := Lib.hid (HW3.out.trans (Wr.of_below hB4)); have HO4 := Lib.hid hO4; have HSZ := Lib.hid HA3.out.lt; have cp4 : w4.cell? ⟨pb, 0, none⟩ = some (.pointer (some ⟨gw, 0, none⟩)) := (blk_cell HP4.out 0).trans rfl; obtain ⟨A4, c4, g0, g1, gf0, gf1, hO5⟩ := HA4.out.cells; have HO5 := Lib.hid hO5; clear hO4 hN4 hB4 HX3 HL3 HP3 HA3 HW3 HEN cx3 cx4 cx5 hO5)))
  have HM := Lib.hid (fun b => HA4.out.mark b)
  have HP5 := Lib.hid (show ∀ b : Bool, PBox (w4.setCell ⟨gw, 1, none⟩ (.bool b)) pb gw from fun b => heap_set HP4.out HPG.out)
  have HL5 := Lib.hid (show ∀ b : Bool, LBox (w4.setCell ⟨gw, 1, none⟩ (.bool b)) pl x.f0 from fun b => heap_set HL4.out HGL.out)
  have HO5' := Lib.hid (show ∀ b : Bool, BRow (w4.setCell ⟨gw, 1, none⟩ (.bool b)) w3.heap.size v4 (encB x.f1) from fun b => HO4.out.set HA4.out (.bool b))
  have HLL := Lib.hid (show (L1 ++ tl).length + (encB x.f1).length ≤ 140737488355328 by have := HL.out; rw [List.length_append] at this; omega)
  have HEB := Lib.hid (show faultN x.f1 ≠ 0 → encB x.f1 = [] from fun h => if_neg h)
  have HEP := Lib.hid (show faultN x.f1 = 0 → 0 < (encB x.f1).length from fun h => by
    have h1 : encB x.f1 = encEvent x.f1 := if_pos h
    have := txt_ge x.f1.f0
    rw [h1, encEvent, List.length_append]
    omega)
  generalize encB x.f1 = eb at *
  generalize faultN x.f1 = F at *
  generalize L1 ++ tl = L2 at *
  by_cases hf : F = 0
  · subst hf
    replace HEP := Lib.hid (HEP.out rfl)
    cases bad
    · have hA6 := (HM.out false).1
      have HA6 := Lib.hid hA6
      obtain ⟨hgw, A6, c6, hb6, hO6⟩ := hA6
      have HB6 := Lib.hid hb6
      have HO6 := Lib.hid hO6
      have p6 : (w4.setCell ⟨gw, 1, none⟩ (.bool false)).cell? ⟨pb, 0, none⟩ = some (.pointer (some ⟨gw, 0, none⟩)) := (blk_cell (HP5.out false) 0).trans rfl
      have g6 : (w4.setCell ⟨gw, 1, none⟩ (.bool false)).cell? ⟨gw, 0, none⟩ = some (.slice A6 L2.length c6) := (blk_cell hb6 0).trans rfl
      have f6 : (w4.setCell ⟨gw, 1, none⟩ (.bool false)).frozen? ⟨gw, 0, none⟩ = false := blk_frozen hb6 0
      obtain ⟨g4, c5, hv4, _, _⟩ := (HO5'.out false).form HEP.out
      subst hv4
      have HR6 := Lib.hid ((HO5'.out false).cells (g := g4) rfl)
      clear hO6 hb6
      first | go_region_law (fail) | fail
      all_goals
        go_wp2_with fail
        go_region_law ((refine wstep_row (w0 := w4.setCell ⟨gw, 1, none⟩ (.bool false)) (by rfl) _ _ (by rfl) hgw HB6.out HO6.out (by repeat (first | exact Below.refl _ _ | apply below_drew | apply pw_below_drewN)) eb HEP.out ⟨g4, 0, none⟩ _ _ (by rfl) (by exact HR6.out) (by rfl) (by rfl) HLL.out ?_; intro A7 n7 c7 w7 hc7 hf7 hk7 h7; have p7 : w7.cell? ⟨pb, 0, none⟩ = some (.pointer (some ⟨gw, 0, none⟩)) := (blk_cell (Wr.blk hk7 (HP5.out false) HPG.out (by decide)) 0).trans rfl))
        all_goals
          go_wp2_with fail
          go_end0
          exact ⟨rfl, by rw [← HRR.out, ← HMK.out]; exact h7.out.1, (HP5.out false).wr HA6.out h7.out.2, Wr.blk h7.out.2 (HL5.out false) HGL.out (by decide), HW4.out.trans ((HM.out false).2.trans h7.out.2)⟩
    · have hA6 := (HM.out true).1
      have HA6 := Lib.hid hA6
      obtain ⟨hgw, A6, c6, hb6, hO6⟩ := hA6
      have HB6 := Lib.hid hb6
      have HO6 := Lib.hid hO6
      have p6 : (w4.setCell ⟨gw, 1, none⟩ (.bool true)).cell? ⟨pb, 0, none⟩ = some (.pointer (some ⟨gw, 0, none⟩)) := (blk_cell (HP5.out true) 0).trans rfl
      have g6 : (w4.setCell ⟨gw, 1, none⟩ (.bool true)).cell? ⟨gw, 0, none⟩ = some (.slice A6 L2.length c6) := (blk_cell hb6 0).trans rfl
      have f6 : (w4.setCell ⟨gw, 1, none⟩ (.bool true)).frozen? ⟨gw, 0, none⟩ = false := blk_frozen hb6 0
      obtain ⟨g4, c5, hv4, _, _⟩ := (HO5'.out true).form HEP.out
      subst hv4
      have HR6 := Lib.hid ((HO5'.out true).cells (g := g4) rfl)
      clear hO6 hb6
      first | go_region_law (fail) | fail
      all_goals
        go_wp2_with fail
        go_region_law ((refine wstep_row (w0 := w4.setCell ⟨gw, 1, none⟩ (.bool true)) (by rfl) _ _ (by rfl) hgw HB6.out HO6.out (by repeat (first | exact Below.refl _ _ | apply below_drew | apply pw_below_drewN)) eb HEP.out ⟨g4, 0, none⟩ _ _ (by rfl) (by exact HR6.out) (by rfl) (by rfl) HLL.out ?_; intro A7 n7 c7 w7 hc7 hf7 hk7 h7; have p7 : w7.cell? ⟨pb, 0, none⟩ = some (.pointer (some ⟨gw, 0, none⟩)) := (blk_cell (Wr.blk hk7 (HP5.out true) HPG.out (by decide)) 0).trans rfl))
        all_goals
          go_wp2_with fail
          go_end0
          exact ⟨rfl, by rw [← HRR.out, ← HMK.out]; exact h7.out.1, (HP5.out true).wr HA6.out h7.out.2, Wr.blk h7.out.2 (HL5.out true) HGL.out (by decide), HW4.out.trans ((HM.out true).2.trans h7.out.2)⟩
  · have hv4 := HN4.out hf
    subst hv4
    replace HEB := HEB.out hf
    have t1 : (F != 0) = true := by simpa using hf
    have t2 : (F == 0) = false := by simpa using hf
    clear hf
    cases bad
    · have hA6 := (HM.out true).1
      have HA6 := Lib.hid hA6
      obtain ⟨hgw, A6, c6, hb6, hO6⟩ := hA6
      have HB6 := Lib.hid hb6
      have HO6 := Lib.hid hO6
      have p6 : (w4.setCell ⟨gw, 1, none⟩ (.bool true)).cell? ⟨pb, 0, none⟩ = some (.pointer (some ⟨gw, 0, none⟩)) := (blk_cell (HP5.out true) 0).trans rfl
      have g6 : (w4.setCell ⟨gw, 1, none⟩ (.bool true)).cell? ⟨gw, 0, none⟩ = some (.slice A6 L2.length c6) := (blk_cell hb6 0).trans rfl
      have f6 : (w4.setCell ⟨gw, 1, none⟩ (.bool true)).frozen? ⟨gw, 0, none⟩ = false := blk_frozen hb6 0
      clear hO6 hb6
      first | go_region_law (fail) | fail
      all_goals
        go_wp2_with fail
        go_region_law ((refine wstep_none (base := w0.heap.size) (n := L2.length) (xs := nums .u8 L2) (by rfl) _ _ (by rfl) (by exact HO6.out) (by rfl) (by rfl) ?_))
        all_goals
          go_wp2_with fail
          go_end0
          have h7 := WAt.same hgw HB6.out HO6.out
          have h8 := fun W' hb => And.intro (WAt.below (w' := W') h7.1 hb) (h7.2.trans (Wr.of_below (w1 := W') hb))
          exact ⟨rfl, by rw [← HRR.out, ← HMK.out, HEB, List.append_nil, t2]; exact (h8 _ (by repeat (first | exact Below.refl _ _ | apply below_drew | apply pw_below_drewN))).1, (HP5.out true).wr HA6.out (h8 _ (by repeat (first | exact Below.refl _ _ | apply below_drew | apply pw_below_drewN))).2, Wr.blk (h8 _ (by repeat (first | exact Below.refl _ _ | apply below_drew | apply pw_below_drewN))).2 (HL5.out true) HGL.out (by decide), HW4.out.trans ((HM.out true).2.trans (h8 _ (by repeat (first | exact Below.refl _ _ | apply below_drew | apply pw_below_drewN))).2)⟩
    · have hA6 := (HM.out true).1
      have HA6 := Lib.hid hA6
      obtain ⟨hgw, A6, c6, hb6, hO6⟩ := hA6
      have HB6 := Lib.hid hb6
      have HO6 := Lib.hid hO6
      have p6 : (w4.setCell ⟨gw, 1, none⟩ (.bool true)).cell? ⟨pb, 0, none⟩ = some (.pointer (some ⟨gw, 0, none⟩)) := (blk_cell (HP5.out true) 0).trans rfl
      have g6 : (w4.setCell ⟨gw, 1, none⟩ (.bool true)).cell? ⟨gw, 0, none⟩ = some (.slice A6 L2.length c6) := (blk_cell hb6 0).trans rfl
      have f6 : (w4.setCell ⟨gw, 1, none⟩ (.bool true)).frozen? ⟨gw, 0, none⟩ = false := blk_frozen hb6 0
      clear hO6 hb6
      first | go_region_law (fail) | fail
      all_goals
        go_wp2_with fail
        go_region_law ((refine wstep_none (base := w0.heap.size) (n := L2.length) (xs := nums .u8 L2) (by rfl) _ _ (by rfl) (by exact HO6.out) (by rfl) (by rfl) ?_))
        all_goals
          go_wp2_with fail
          go_end0
          have h7 := WAt.same hgw HB6.out HO6.out
          have h8 := fun W' hb => And.intro (WAt.below (w' := W') h7.1 hb) (h7.2.trans (Wr.of_below (w1 := W') hb))
          exact ⟨rfl, by rw [← HRR.out, ← HMK.out, HEB, List.append_nil, t2]; exact (h8 _ (by repeat (first | exact Below.refl _ _ | apply below_drew | apply pw_below_drewN))).1, (HP5.out true).wr HA6.out (h8 _ (by repeat (first | exact Below.refl _ _ | apply below_drew | apply pw_below_drewN))).2, Wr.blk (h8 _ (by repeat (first | exact Below.refl _ _ | apply below_drew | apply pw_below_drewN))).2 (HL5.out true) HGL.out (by decide), HW4.out.trans ((HM.out true).2.trans (h8 _ (by repeat (first | exact Below.refl _ _ | apply below_drew | apply pw_below_drewN))).2)⟩
end Go.Proofs.YtcfgmkmllcfjjaaGreatDoor
set_option linter.unusedVariables false
set_option linter.unusedSimpArgs false
namespace Go.Proofs.YtcfgmkmllcfjjaaGreatDoor
open Go.RowKit Go.Proofs.YtcfgmkmllcfjjaaGreatDoorW.PrintWords Go.Proofs.YtcfgmkmllcfjjaaGreatDoorW.PrintMore PImageAll
def encSeenL : Int → List S65 → List Int
  | _, [] => []
  | last, x :: xs => encSeen last x ++ encSeenL x.f0 xs
def lastL (last : Int) (xs : List S65) : Int := xs.foldl (fun _ x => x.f0) last
def badL (xs : List S65) : Bool := xs.any fun x => !(faultN x.f1 == 0)
def encSeens (xs : List S65) : List Int := puti xs.length ++ encSeenL 0 xs
theorem encSeenL_append (last : Int) (xs ys : List S65) : encSeenL last (xs ++ ys) = encSeenL last xs ++ encSeenL (lastL last xs) ys := by
  induction xs generalizing last with
  | nil => rfl
  | cons x xs ih => simp only [List.cons_append, encSeenL, ih, List.append_assoc]; rfl
theorem take_one {α : Type} (xs : List α) (k : Nat) (hk : k < xs.length) : xs.take (k + 1) = xs.take k ++ [xs[k]] := by
  rw [List.take_add_one, List.getElem?_eq_getElem hk]
  rfl
theorem encSeenL_take (xs : List S65) (k : Nat) (hk : k < xs.length) : encSeenL 0 (xs.take (k + 1)) = encSeenL 0 (xs.take k) ++ encSeen (lastL 0 (xs.take k)) xs[k] := by
  rw [take_one xs k hk, encSeenL_append]
  simp [encSeenL]
theorem lastL_take (xs : List S65) (k : Nat) (hk : k < xs.length) : lastL 0 (xs.take (k + 1)) = xs[k].f0 := by
  rw [take_one xs k hk, lastL, List.foldl_append]
  rfl
theorem badL_take (xs : List S65) (k : Nat) (hk : k < xs.length) : badL (xs.take (k + 1)) = (badL (xs.take k) || !(faultN xs[k].f1 == 0)) := by
  rw [take_one xs k hk, badL, List.any_append]
  simp [badL]
theorem encSeenL_le (xs : List S65) (k : Nat) : (encSeenL 0 (xs.take k)).length ≤ (encSeenL 0 xs).length := by
  conv => rhs; rw [← List.take_append_drop k xs, encSeenL_append]
  rw [List.length_append]
  omega
theorem encSeenL_ge (last : Int) (xs : List S65) : xs.length ≤ (encSeenL last xs).length := by
  induction xs generalizing last with
  | nil => simp
  | cons x xs ih =>
    have := ih x.f0
    have := puti_pos (sub64 x.f0 last)
    simp only [encSeenL, encSeen, List.length_cons, List.length_append]
    omega
def ESt (w0 w : World) (gw pb pl : Nat) (l : List Int) (bad : Bool) (last : Int) (W : World) : Prop := WAt W gw w0.heap.size l bad ∧ PBox W pb gw ∧ LBox W pl last ∧ Wr w0.heap.size gw w W
theorem seens_any {w0 ws w : World} {gw pb pl c : Nat} {l : List Int} {bad : Bool} {A : Option Addr} {xs : List S65} (hBs : Below w0.heap.size w0 ws) (hG : GW w0) (hW : ESt w0 ws gw pb pl l bad 0 w) (hpl : ws.heap.size ≤ pl)
    (hC : Kd.C k65 w0 A xs.length xs) (hc : xs.length ≤ c) (hv : ∀ x ∈ xs, ∀ y ∈ x.f1.f2, I64 y.f1) (hvl : ∀ x ∈ xs, x.f1.f2.length ≤ 9223372036854775807) (hl : (l ++ encSeens xs).length ≤ 10000000000000) :
    Calls Tryz.prog 88 #[.pointer (some ⟨gw, 0, none⟩), .slice A xs.length c, .func (.func 89) #[] #[.pointer (some ⟨pb, 0, none⟩), .pointer (some ⟨pl, 0, none⟩)]] w fun e w' => Wrote gw w0.heap.size (l ++ encSeens xs) (bad || badL xs) ws e w' := by
  have hcm : xs.length ≤ 9223372036854775807 := by
    have := encSeenL_ge 0 xs
    rw [encSeens, List.length_append, List.length_append] at hl
    omega
  have hl' : ∀ k, ((l ++ puti xs.length) ++ encSeenL 0 (xs.take k)).length ≤ 10000000000000 := fun k => by
    have := encSeenL_le xs k
    rw [encSeens, ← List.append_assoc, List.length_append] at hl
    rw [List.length_append]
    omega
  have hBW : ∀ W, Wr w0.heap.size gw ws W → Below w0.heap.size w0 W := fun W h => hBs.trans (h.below hBs.size)
  refine (putSeens_any (fun k W => ESt w0 ws gw pb pl ((l ++ puti xs.length) ++ encSeenL 0 (xs.take k)) (bad || badL (xs.take k)) (lastL 0 (xs.take k)) W) gw pb pl A c xs w hc hcm ?_ w0 (fun k W h => hBW W h.2.2.2) hC ?_).mono ?_
  · refine (num_hl hW.1 ⟨by omega, by omega⟩ (by have := hl' 0; simpa [encSeenL] using this)).mono ?_
    rintro e w' ⟨rfl, h1, h2⟩
    obtain ⟨k1, k2, k3, k4⟩ := hW
    exact ⟨rfl, by simpa [encSeenL, badL] using h1, k2.wr k1 h2, Wr.blk h2 k3 (k1.neq k3 (by decide)) (by decide), k4.trans h2⟩
  · intro k hk W hS A1 c1 hc1 hC1
    obtain ⟨k1, k2, k3, k4⟩ := hS
    have hs := hl' (k + 1)
    rw [encSeenL_take xs k hk, ← List.append_assoc] at hs ⊢
    rw [badL_take xs k hk, lastL_take xs k hk, ← Bool.or_assoc]
    have hb := below_new W (.cells #[.int .i64 (xs[k]).f0, .string (xs[k]).f1.f0, .int .i64 (xs[k]).f1.f1, .slice A1 (xs[k]).f1.f2.length c1, .bool (xs[k]).f2] 65)
    refine (wSeen_any hBs hG (k1.below hb) (k2.below hb) (blk_below k3 hb) (k4.trans (Wr.of_below hb)) hpl hC1 hc1 (hvl _ (List.getElem_mem hk)) (hv _ (List.getElem_mem hk)) hs).mono ?_
    rintro e w' ⟨rfl, h1, h2, h3, h4⟩
    exact ⟨rfl, h1, h2, h3, h4⟩
  · rintro e w' ⟨rfl, h1, h2, h3, h4⟩
    rw [List.take_length] at h1
    exact ⟨rfl, by rw [encSeens, ← List.append_assoc]; exact h1, h4⟩
set_option maxHeartbeats 1000000 in
theorem writeEvents_any {w0 w : World} {gw gi : Nat} {l : List Int} {bad : Bool} {m : Img} (hB : Below w0.heap.size w0 w) (hG : GW w0) (hW : WAt w gw w0.heap.size l bad) (hI : ImgAt w0 w gi m) (hv : ∀ x ∈ m.seens, ∀ y ∈ x.f1.f2, I64 y.f1) (hvl : ∀ x ∈ m.seens, x.f1.f2.length ≤ 9223372036854775807) (hl : (l ++ encSeens m.seens).length ≤ 10000000000000) :
    Calls Tryz.prog 51 #[.pointer (some ⟨gw, 0, none⟩), .pointer (some ⟨gi, 0, none⟩)] w fun e w' => Wrote gw w0.heap.size (l ++ encSeens m.seens) (bad || badL m.seens) w e w' := by
  obtain ⟨A4, c4, A5, c5, A6, c6, hb, _, _, ⟨hC, hc⟩⟩ := hI
  generalize hW1 : w.alloc (.cells #[.pointer (some ⟨gw, 0, none⟩)] 71) = W1
  have hb1 : Below w.heap.size w W1 := by rw [← hW1]; exact below_new w _
  have hs1 : W1.heap.size = w.heap.size + 1 := by rw [← hW1]; simp
  have hP : PBox W1 w.heap.size gw := by rw [← hW1]; exact blk_new w _
  generalize hW2 : W1.alloc (.cells #[.int .i64 0] 2) = W2
  have hb2 : Below W1.heap.size W1 W2 := by rw [← hW2]; exact below_new W1 _
  have hL : LBox W2 (w.heap.size + 1) 0 := by rw [← hW2, ← hs1]; exact blk_new W1 _
  have hP2 := hP.below hb2
  have hb12 := below_step hb1 hb2
  have c6' : W2.cell? ⟨gi, 5 + 1, none⟩ = some (.slice A6 m.seens.length c6) := (blk_cell (blk_below hb hb12) 6).trans rfl
  have p0 : W2.cell? ⟨w.heap.size, 0, none⟩ = some (.pointer (some ⟨gw, 0, none⟩)) := (blk_cell hP2 0).trans rfl
  have hmf : ∀ fn first cap w, (Instr.makeFunc fn first cap).run Tryz.prog w = .ok (.func fn first cap) w := fun _ _ _ _ => rfl
  have HN := Lib.hid (show ∀ W : World, Below W2.heap.size W2 W → Calls Tryz.prog 88 #[.pointer (some ⟨gw, 0, none⟩), .slice A6 m.seens.length c6, .func (.func 89) #[] #[.pointer (some ⟨w.heap.size, 0, none⟩), .pointer (some ⟨w.heap.size + 1, 0, none⟩)]] W fun e w' => Wrote gw w0.heap.size (l ++ encSeens m.seens) (bad || badL m.seens) w e w' from by
    intro W hBW
    have hbb := below_step hb12 hBW
    exact seens_any hB hG ⟨hW.below hbb, hP2.below hBW, blk_below hL hBW, Wr.of_below hbb⟩ (by omega) hC hc hv hvl hl)
  generalize hR : l ++ encSeens m.seens = R at *
  generalize hM : (bad || badL m.seens) = M at *
  clear hW hb hb1 hs1 hP hb2 hL hP2 hb12 hC hB hG hv hvl hl hR hM
  subst hW2
  subst hW1
  go_enter Tryz.func51, Tryz.ntmps51
  go_wp2_with fail
  go_region_law (first | (go_simp; go_at_call 88; refine (HN.out _ (by first | exact below_drew (Below.refl _ _) | exact Below.refl _ _)).mono ?_; rintro e w1 ⟨rfl, hA, hR⟩))
  all_goals
    go_wp2_with fail
    go_end0
    exact ⟨rfl, hA, hR⟩
end Go.Proofs.YtcfgmkmllcfjjaaGreatDoor
