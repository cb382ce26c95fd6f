/- Texts of the claim, merged in build order: RE. -/
import Derived.Test.YtgnifglolbfamaaZAV
import Derived.Test.YtgnifglolbfamaaZAY
import Derived.Test.YtgnifglolbfamaaZBA
import Derived.Test.YtgnifglolbfamaaZBB
import Derived.BigRegion
/- The walk of the law PlaceFresh (printed by mkfre.py). -/
set_option linter.unusedVariables false
set_option linter.unusedSimpArgs false
namespace Go.Proofs.Ytgnifglolbfamaa
open Go.RowKit Go.Proofs.YtgnifglolbfamaaW.PrintWords

set_option maxHeartbeats 16000000 in
set_option maxRecDepth 100000 in
theorem fresh_walk (hbegun : ∀ w : World, Calls Try.prog 8 #[] w (True_ w)) (hadd : D.AddLaw) (cs : List Cp) (A : Option Addr) (c : Nat) (q1 : ByteArray) (q2 : Int) (A3 : Option Addr) (n3 c3 : Nat) (ws : List Ex) (AW : Option Addr) (cw : Nat) (q5 : Int) (q6 : ByteArray) (its : List It) (AI : Option Addr) (ci : Nat) (w : World)
    (hc : cs.length ≤ c) (hcw : ws.length ≤ cw) (hC : kCp.C w A cs.length cs) (hW : kEx.C w AW ws.length ws) (hI : kIt.C w AI its.length its) (hnm : ∀ x ∈ cs, x.f3.size ≤ maxLen) (hnr : ∀ x ∈ ws, ∀ r ∈ refsOf x, r.f0.size ≤ maxLen) (hcb : cs.length * 40 ≤ 140737488351232) :
    Calls Try.prog 4 #[.agg #[.slice A cs.length c, .string q1, .int .i64 q2, .slice A3 n3 c3, .slice AW ws.length cw, .int .i64 q5, .string q6, .slice AI its.length ci]] w (True_ w) := by
  have hmx := hC.2.1
  have hmw := hW.2.1
  have hb1 := below_new w (.cells #[.slice A cs.length c, .string q1, .int .i64 q2, .slice A3 n3 c3, .slice AW ws.length cw, .int .i64 q5, .string q6, .slice AI its.length ci] 27)
  have hQ := blk_new w (.cells #[.slice A cs.length c, .string q1, .int .i64 q2, .slice A3 n3 c3, .slice AW ws.length cw, .int .i64 q5, .string q6, .slice AI its.length ci] 27)
  have HC := Lib.hid hC
  have HWW := Lib.hid hW
  have HI := Lib.hid hI
  have HNM := Lib.hid hnm
  have HNR := Lib.hid hnr
  have HHC := Lib.hid hc
  have HHW := Lib.hid hcw
  have HCB := Lib.hid hcb
  have HADL := Lib.hid hadd
  have HBG := Lib.hid hbegun
  clear hC hW hI hnm hnr hc hcw hcb hadd hbegun
  go_enter Try.func4, Try.ntmps4
  go_wp2_with fail
  generalize w.alloc (.cells #[.slice A cs.length c, .string q1, .int .i64 q2, .slice A3 n3 c3, .slice AW ws.length cw, .int .i64 q5, .string q6, .slice AI its.length ci] 27) = W1 at *
  refine (HBG.out W1).mono ?_
  rintro e W2 ⟨rfl, hbw2⟩
  have hB2 := below_step hb1 hbw2
  have hQ2 := blk_below hQ hbw2
  have k0 := (blk_cell (hQ2) 0).trans rfl
  have k1 := (blk_cell (hQ2) 1).trans rfl
  have k2 := (blk_cell (hQ2) 2).trans rfl
  have k3 := (blk_cell (hQ2) 3).trans rfl
  have k4 := (blk_cell (hQ2) 4).trans rfl
  have k5 := (blk_cell (hQ2) 5).trans rfl
  have k6 := (blk_cell (hQ2) 6).trans rfl
  have k7 := (blk_cell (hQ2) 7).trans rfl
  have HQC := Lib.hid (heavyQuery_any (.slice A cs.length c) q1 q2 (.slice A3 n3 c3) ws AW cw q5 q6 its AI ci rfl rfl W2 (Kd.C_below HWW.out hB2) (Kd.C_below HI.out hB2))
  obtain ⟨hq, hhq⟩ : ∃ hq, hq = decide (16384 < itN its + exNL ws) := ⟨_, rfl⟩
  rw [← hhq] at HQC
  have HHQ := Lib.hid hhq
  clear hhq
  go_wp2_with fail
  refine HQC.out.mono ?_
  rintro e W3 ⟨rfl, hb3⟩
  have hB3 := below_step hB2 hb3
  cases hq with
  | true =>
    go_wp2_with fail
    go_ret
    exact ⟨rfl, hB3⟩
  | false =>
    have hN : exNL ws ≤ 16384 := by
      have h := of_decide_eq_false HHQ.out.symm
      omega
    have hwl := exNL_len ws
    have hQ3 := blk_below hQ2 hb3
    clear k0 k1 k2 k3 k4 k5 k6 k7
    have k0 := (blk_cell (hQ3) 0).trans rfl
    have k1 := (blk_cell (hQ3) 1).trans rfl
    have k2 := (blk_cell (hQ3) 2).trans rfl
    have k3 := (blk_cell (hQ3) 3).trans rfl
    have k4 := (blk_cell (hQ3) 4).trans rfl
    have k5 := (blk_cell (hQ3) 5).trans rfl
    have k6 := (blk_cell (hQ3) 6).trans rfl
    have k7 := (blk_cell (hQ3) 7).trans rfl
    have HTW := Lib.hid (twin_any cs A c q1 q2 A3 n3 c3 ws AW cw q5 q6 AI its.length ci W3 (Kd.C_below HC.out hB3) (Kd.C_below HWW.out hB3) HCB.out HHC.out HHW.out (by omega))
    go_wp2_with fail
    refine HTW.out.mono ?_
    rintro e W4 ⟨A5, c5, A6, c6, R, ls, vL, rfl, hb4, hT4, hls⟩
    have HLS := Lib.hid hls
    have HT4 := Lib.hid hT4
    have hB4 := below_step hB3 hb4
    have hQ4 := blk_below hQ3 hb4
    clear k0 k1 k2 k3 k4 k5 k6 k7 hls hT4
    have hb5 := below_new W4 (.cells #[.slice A5 cs.length (cs.length + 12), .string q1, .int .i64 q2, .slice A3 n3 c3, .slice A6 ws.length (ws.length + 12), .int .i64 q5, .string q6, .slice AI its.length ci, .slice A5 (cs.length + 12) c5, .slice A6 (ws.length + 12) c6, .pointer (some ⟨R, 0, none⟩)] 50)
    have hT := blk_new W4 (.cells #[.slice A5 cs.length (cs.length + 12), .string q1, .int .i64 q2, .slice A3 n3 c3, .slice A6 ws.length (ws.length + 12), .int .i64 q5, .string q6, .slice AI its.length ci, .slice A5 (cs.length + 12) c5, .slice A6 (ws.length + 12) c6, .pointer (some ⟨R, 0, none⟩)] 50)
    obtain ⟨bT, hbT⟩ : ∃ bT, bT = W4.heap.size := ⟨_, rfl⟩
    have HBT := Lib.hid hbT
    rw [← hbT] at hT
    clear hbT
    go_upto_region 7 with fail
    rw [← HBT.out]
    generalize W4.alloc (.cells #[.slice A5 cs.length (cs.length + 12), .string q1, .int .i64 q2, .slice A3 n3 c3, .slice A6 ws.length (ws.length + 12), .int .i64 q5, .string q6, .slice AI its.length ci, .slice A5 (cs.length + 12) c5, .slice A6 (ws.length + 12) c6, .pointer (some ⟨R, 0, none⟩)] 50) = W5 at *
    have HT5 := Lib.hid (HT4.out.below hb5)
    have hB5 := below_step hB4 hb5
    have hQ5 := blk_below hQ4 hb5
    have HTB := Lib.hid hT
    have t0 := (blk_cell (hT) 0).trans rfl
    have t1 := (blk_cell (hT) 1).trans rfl
    have t2 := (blk_cell (hT) 2).trans rfl
    have t3 := (blk_cell (hT) 3).trans rfl
    have t4 := (blk_cell (hT) 4).trans rfl
    have t5 := (blk_cell (hT) 5).trans rfl
    have t6 := (blk_cell (hT) 6).trans rfl
    have t7 := (blk_cell (hT) 7).trans rfl
    have HPL := Lib.hid (D.Place_any HADL.out cs A5 (cs.length + 12) q1 q2 (.slice A3 n3 c3) ws A6 (ws.length + 12) q5 q6 (.slice AI its.length ci) rfl rfl W5 (Nat.le_add_right _ _) HT5.out.comps HNM.out HT5.out.where_ (by omega) HNR.out)
    have HQ5 := Lib.hid hQ5
    have HUN := Lib.hid (show ∀ W, Below W5.heap.size W5 W → Calls Try.prog 25 #[.agg #[.slice A5 cs.length (cs.length + 12), .string q1, .int .i64 q2, .slice A3 n3 c3, .slice A6 ws.length (ws.length + 12), .int .i64 q5, .string q6, .slice AI its.length ci, .slice A5 (cs.length + 12) c5, .slice A6 (ws.length + 12) c6, .pointer (some ⟨R, 0, none⟩)], .agg #[.slice A cs.length c, .string q1, .int .i64 q2, .slice A3 n3 c3, .slice AW ws.length cw, .int .i64 q5, .string q6, .slice AI its.length ci]] W (True_ W) from fun W h => by
      have hB := below_step hB5 h
      exact untouched_any cs ws A5 A6 A AW cs.length c5 ws.length c6 R c cw n3 c3 its.length ci n3 c3 its.length ci ls vL q1 q1 q2 q2 A3 AI A3 AI A5 A6 cs.length (cs.length + 12) ws.length (ws.length + 12) q5 q5 q6 q6 W (HT5.out.below h) (by rw [HLS.out]; omega) (by omega) (Kd.C_below HC.out hB) (Kd.C_below HWW.out hB) HHC.out HHW.out (by have := HCB.out; omega))
    clear hT hb5
    go_wp2_with fail
    refine HPL.out.mono ?_
    rintro e W6 hp6
    obtain ⟨hb6, hcase⟩ := place_out hp6
    have hB6 := below_step hB5 hb6
    have hQ6 := blk_below hQ5 hb6
    have HB6 := Lib.hid hb6
    clear hp6 t0 t1 t2 t3 t4 t5 t6 t7 hQ2 hQ3 hQ4 hQ5
    have k0 := (blk_cell (hQ6) 0).trans rfl
    have k1 := (blk_cell (hQ6) 1).trans rfl
    have k2 := (blk_cell (hQ6) 2).trans rfl
    have k3 := (blk_cell (hQ6) 3).trans rfl
    have k4 := (blk_cell (hQ6) 4).trans rfl
    have k5 := (blk_cell (hQ6) 5).trans rfl
    have k6 := (blk_cell (hQ6) 6).trans rfl
    have k7 := (blk_cell (hQ6) 7).trans rfl
    have HPL2 := Lib.hid (D.Place_any HADL.out cs A c q1 q2 (.slice A3 n3 c3) ws AW cw q5 q6 (.slice AI its.length ci) rfl rfl W6 HHC.out (Kd.C_below HC.out hB6) HNM.out (Kd.C_below HWW.out hB6) (by omega) HNR.out)
    rcases hcase with ⟨hpe, rfl⟩ | ⟨hpe, yl, hyl, rfl⟩
    · generalize hpp : perr cs ws = pe at *
      have HPP := Lib.hid hpp
      have HPE := Lib.hid hpe
      clear hpp hpe
      go_wp2_with fail
      refine HPL2.out.mono ?_
      rintro e W7 hp7
      obtain ⟨hb7, hcase⟩ := place_out hp7
      rw [HPP.out] at hcase
      obtain rfl : e = .returned (.tuple #[.slice none 0 0, .slice none 0 0, .int .i64 pe]) := by
        rcases hcase with ⟨_, h⟩ | ⟨hpe2, _⟩
        · exact h
        · exact absurd hpe2 HPE.out
      have d : (pe != pe) = false := by simp
      have HNS := Lib.hid (show ∀ W, Calls Try.prog 18 #[.slice none 0 0, .slice none 0 0] W (True_ W) from fun W => sameStages_same [] none none 0 0 W (Kd.C_nil _ _) (Kd.C_nil _ _))
      have HNX := Lib.hid (show ∀ W, Calls Try.prog 19 #[.slice none 0 0, .slice none 0 0] W (True_ W) from fun W => sameExprs_same [] none none 0 0 W (Kd.C_nil _ _) (Kd.C_nil _ _))
      have HB7 := Lib.hid (below_step hb6 hb7)
      clear k0 k1 k2 k3 k4 k5 k6 k7 hp7 hcase HPL HPL2 HTW HQC
      go_wp2_with fail
      refine (HNS.out W7).mono ?_
      rintro e W8 ⟨rfl, hb8⟩
      go_wp2_with fail
      refine (HNX.out W8).mono ?_
      rintro e W9 ⟨rfl, hb9⟩
      have HB9 := Lib.hid (below_step (below_step HB7.out hb8) hb9)
      have hsi := sh_init W9
      have hbi := below_step (below_new W9 (.cells #[.slice none 0 0, .slice none 0 0] 61)) (below_new _ (.cells #[.slice none 0 0, .slice none 0 0, .slice none 0 0, .slice none 0 0] 66))
      obtain ⟨G, hG⟩ : ∃ G, G = W9.heap.size := ⟨_, rfl⟩
      clear hb8 hb9 hb7
      go_upto_region 13 with fail
      rw [← hG]
      rw [← hG] at hsi
      have HBI := Lib.hid (below_step HB9.out hbi)
      have HBI9 := Lib.hid hbi
      have HGE := Lib.hid hG
      generalize (W9.alloc (.cells #[.slice none 0 0, .slice none 0 0] 61)).alloc (.cells #[.slice none 0 0, .slice none 0 0, .slice none 0 0, .slice none 0 0] 66) = W10 at *
      have HA1 := Lib.hid (answer_nil G (G + 1) G [] [] [] W10 hsi (by simp [gs]) (by simp) (by simp))
      clear hsi hbi hG
      go_wp2_with fail
      refine HA1.out.mono ?_
      rintro e W11 ⟨rfl, hsh1, -, hon1⟩
      have HA2 := Lib.hid (answer_nil G (G + 1) G _ _ _ W11 hsh1 (by simp [gs, growH, nilH, reH]) (by simp [growH, nilH]) (by simp))
      have HON1 := Lib.hid hon1
      clear hsh1 hon1 HA1
      go_wp2_with fail
      refine HA2.out.mono ?_
      rintro e W12 ⟨rfl, hsh2, -, hon2⟩
      have HON2 := Lib.hid (HON1.out.same hon2)
      have HSH := Lib.hid hsh2
      clear hsh2 hon2 HA2 HON1
      obtain ⟨es, hes⟩ : ∃ es, es = [] ++ growH nilH ++ growH nilH := ⟨_, rfl⟩
      obtain ⟨ss, hss⟩ : ∃ ss, ss = [] ++ [nilRE] ++ [nilRE] := ⟨_, rfl⟩
      rw [← hes, ← hss] at HSH
      have HWH := Lib.hid (fun (W : World) (h : Below W12.heap.size W12 W) => (HSH.out.below h))
      have HW1 := Lib.hid (show ∀ W, Below W12.heap.size W12 W → Calls Try.prog 21 #[.pointer (some ⟨G, 0, none⟩)] W (True_ W) from fun W h => by
        obtain ⟨vS, vN, vF, vA, hIn⟩ := HWH.out W h
        exact whole_any G es _ W hIn.rooms (by rw [hes]; decide))
      have HW2 := Lib.hid (show ∀ W, Below W12.heap.size W12 W → Calls Try.prog 22 #[.pointer (some ⟨G + 1, 0, none⟩)] W (True_ W) from fun W h => shWhole_any G (G + 1) G es ss [] W (HWH.out W h) (fun r hr => by
        rw [hss] at hr
        simp only [List.nil_append, List.mem_append, List.mem_singleton, or_self] at hr
        rw [hr]
        rfl) (by rw [hss]; decide) (by decide))
      clear hes hss
      go_wp2_with fail
      refine (HW1.out W12 (Below.refl _ _)).mono ?_
      rintro e W13 ⟨rfl, hb13⟩
      go_wp2_with fail
      refine (HW2.out W13 hb13).mono ?_
      rintro e W14 ⟨rfl, hb14⟩
      go_wp2_with fail
      refine (HNS.out W14).mono ?_
      rintro e W15 ⟨rfl, hb15⟩
      go_wp2_with fail
      refine (HNX.out W15).mono ?_
      rintro e W16 ⟨rfl, hb16⟩
      have HB16 := Lib.hid (below_step (below_step (below_step hb13 hb14) hb15) hb16)
      have HW16 := Lib.hid (show Below W5.heap.size W5 W16 from below_step (HBI.out.trans (HON2.out.below HBI.out.size (fun b hb hs => hs.elim (fun h => by have := HGE.out; have := HB9.out.size; omega) (fun h => by cases h)))) HB16.out)
      have HSP := Lib.hid (show ∀ W, Calls Try.prog 23 #[.slice none 0 0, .slice none 0 0] W (True_ W) from fun W => (spoilList_any nilH nilH (by simp [rdH, nilH, exNL]) ⟨fun _ => ⟨rfl, rfl⟩, fun k hk => by cases hk⟩ ⟨fun _ => ⟨rfl, rfl⟩, fun k hk => by cases hk⟩ rfl (by simp [keys, entH, nilH, entX]) (fun b hb => by cases hb) none none W rfl rfl (fun E hE => by cases hE) (fun E hE => by cases hE)).mono (fun e w' h => ⟨h.1, h.2.below (Nat.le_refl _) (fun b _ hb => by cases hb)⟩))
      go_wp2_with fail
      refine (HSP.out W16).mono ?_
      rintro e W17 ⟨rfl, hb17⟩
      go_wp2_with fail
      go_loopw [13] (fun t13 wr => t13 = .int .i64 0 ∧ Hid (wr = W17)) (fun _ _ => 0)
      case atStart => exact ⟨rfl, Lib.hid rfl⟩
      case round =>
        obtain ⟨rfl, hwr0⟩ := hrel
        have hwr1 := hwr0.out.symm
        clear hwr0
        subst hwr1
        obtain ⟨SY, hSY⟩ : ∃ SY : Nat → Prop, SY = fun _ => False := ⟨_, rfl⟩
        have HSYB := Lib.hid (show ∀ b, SY b → W5.heap.size ≤ b from fun b hb => by rw [hSY] at hb; cases hb)
        have HBK5 := Lib.hid (below_step HW16.out hb17)
        have HROW := Lib.hid (own_nil (W := W17) 0 71 7)
        have HRB := Lib.hid (show ∀ b, (Value.slice none 0 0).ownBlock = some b → SY b ∨ W17.heap.size ≤ b from fun b hb => by cases hb)
        have HONK := Lib.hid (Only.refl SY W17)
        clear hSY
        go_wp2_with fail
        have hl72 : 72 ≤ 140737488355328 := by decide
        go_loopw [17, 18] (fun t17 t18 wr => ∃ (k m' : Nat) (A' : Option Addr) (c' : Nat) (xs : List Value), k ≤ 70000 ∧ t18 = .int .i64 k ∧ t17 = .slice A' m' c' ∧ Hid (m' = 0 + k) ∧ Hid (wr.ownsRow 0 71 7 (.slice A' m' c') m' xs) ∧ Hid (∀ b, (Value.slice A' m' c').ownBlock = some b → SY b ∨ W17.heap.size ≤ b) ∧ Hid (Only SY W17 wr)) (fun _ t18 _ => 70001 - (intOf t18).toNat)
        case atStart => exact ⟨0, 0, none, 0, _, by omega, rfl, rfl, Lib.hid rfl, HROW, HRB, HONK⟩
        case round =>
          clear HROW HRB HONK
          obtain ⟨p, m', A', cap', xs, hi', rfl, rfl, hm', HRO, hBk, hOnw⟩ := hrel
          generalize wr = w3 at *
          have hl1 : (m' + 1) * 136 ≤ 140737488355328 := by have := hm'.out; omega
          obtain ⟨_, _, he, hs1, hs2, -, -⟩ := own_shape HRO.out
          injection he with he1 he2 he3
          subst he3
          clear he1 he2
          by_cases h1 : p < 12
          · have d1 : decide ((p : Int) < 12) = true := decide_eq_true (by omega)
            go_wp2_with (at_builtin; go_must (refine app_cells (W := w3) w3.heap.size (by rfl) (by rfl) _ _ 52 71 _ 7 136 (by rfl) Try.underlying52 info71 (by rfl) (by decide) (by decide) A' m' cap' xs (stageC ⟨#[109, 111, 114, 101]⟩) HRO.out (by rfl) (stageC_one _) (by rfl) (by rfl) hl1 ?_))
            intro A2 cap2 w5 hO5 hOn5 hB5
            go_wp2_with fail
            go_roundw
            case rel =>
              refine ⟨p + 1, m' + 1, A2, cap2, _, by omega, by go_num, rfl, Lib.hid (by have := hm'.out; omega), hO5, Lib.hid (fun b hb => ?_), Lib.hid (hOnw.out.trans hOn5.out (fun b hb hb' => ?_))⟩
              · rcases hB5.out b hb with h | h
                · exact hBk.out b h
                · exact Or.inr (by have := hOnw.out.size; omega)
              · rcases hBk.out b hb' with h | h
                · exact h
                · omega
            case measure => simp [intOf]; omega
          · have d1 : decide ((p : Int) < 12) = false := decide_eq_false (by omega)
            have hmp : 0 < m' := by have := hm'.out; omega
            have d2 : decide ((m' : Int) < 0) = false := decide_eq_false (by omega)
            have HBW := Lib.hid (show Below W5.heap.size W5 w3 from HBK5.out.trans (hOnw.out.below HBK5.out.size (fun b hb hs => by have := HSYB.out b hs; omega)))
            have hB3' := below_step hB5 HBW.out
            have hT3 := blk_below HTB.out HBW.out
            have HTC := Lib.hid (HT5.out.below HBW.out)
            have t0 := (blk_cell (hT3) 0).trans rfl
            have t1 := (blk_cell (hT3) 1).trans rfl
            have t2 := (blk_cell (hT3) 2).trans rfl
            have t3 := (blk_cell (hT3) 3).trans rfl
            have t4 := (blk_cell (hT3) 4).trans rfl
            have t5 := (blk_cell (hT3) 5).trans rfl
            have t6 := (blk_cell (hT3) 6).trans rfl
            have t7 := (blk_cell (hT3) 7).trans rfl
            have HPL3 := Lib.hid (D.Place_any HADL.out cs A5 (cs.length + 12) q1 q2 (.slice A3 n3 c3) ws A6 (ws.length + 12) q5 q6 (.slice AI its.length ci) rfl rfl w3 (Nat.le_add_right _ _) HTC.out.comps HNM.out HTC.out.where_ (by omega) HNR.out)
            go_wp2_with fail
            refine HPL3.out.mono ?_
            rintro e W20 hp20
            obtain ⟨hb20, hcase⟩ := place_out hp20
            rw [HPP.out] at hcase
            obtain rfl : e = .returned (.tuple #[.slice none 0 0, .slice none 0 0, .int .i64 pe]) := by
              rcases hcase with ⟨_, h⟩ | ⟨hpe2, _⟩
              · exact h
              · exact absurd hpe2 HPE.out
            have d3 : (pe == pe) = true := by simp
            clear hcase hp20 HPL3 t0 t1 t2 t3 t4 t5 t6 t7
            go_wp2_with fail
            refine (HNS.out W20).mono ?_
            rintro e W21 ⟨rfl, hb21⟩
            go_wp2_with fail
            refine (HNX.out W21).mono ?_
            rintro e W22 ⟨rfl, hb22⟩
            have HB22 := Lib.hid (below_step (below_step (below_step HBW.out hb20) hb21) hb22)
            have hT22 := blk_below HTB.out HB22.out
            have hQ22 := blk_below HQ5.out HB22.out
            have t0 := (blk_cell (hT22) 0).trans rfl
            have t1 := (blk_cell (hT22) 1).trans rfl
            have t2 := (blk_cell (hT22) 2).trans rfl
            have t3 := (blk_cell (hT22) 3).trans rfl
            have t4 := (blk_cell (hT22) 4).trans rfl
            have t5 := (blk_cell (hT22) 5).trans rfl
            have t6 := (blk_cell (hT22) 6).trans rfl
            have t7 := (blk_cell (hT22) 7).trans rfl
            have t8 := (blk_cell (hT22) 8).trans rfl
            have t9 := (blk_cell (hT22) 9).trans rfl
            have t10 := (blk_cell (hT22) 10).trans rfl
            have k0 := (blk_cell (hQ22) 0).trans rfl
            have k1 := (blk_cell (hQ22) 1).trans rfl
            have k2 := (blk_cell (hQ22) 2).trans rfl
            have k3 := (blk_cell (hQ22) 3).trans rfl
            have k4 := (blk_cell (hQ22) 4).trans rfl
            have k5 := (blk_cell (hQ22) 5).trans rfl
            have k6 := (blk_cell (hQ22) 6).trans rfl
            have k7 := (blk_cell (hQ22) 7).trans rfl
            go_wp2_with fail
            refine (HUN.out W22 HB22.out).mono ?_
            rintro e W23 ⟨rfl, hb23⟩
            go_wp2_with fail
            go_ret
            exact ⟨rfl, below_step (below_step hB5 HB22.out) hb23⟩
    · obtain ⟨n, hn⟩ : ∃ n, n = stg cs := ⟨_, rfl⟩
      rw [← hn]
      have hn8 : n ≤ 8 := by have := hyl.few; have := stg_len cs; omega
      have HPP := Lib.hid hpe
      have HYL := Lib.hid hyl
      have HNN := Lib.hid hn
      clear hpe hyl hn
      go_wp2_with fail
      refine HPL2.out.mono ?_
      rintro e W7 hp7
      obtain ⟨hb7, hcase⟩ := place_out hp7
      obtain ⟨ym, hym, rfl⟩ : ∃ y, LayOk W7 W6.heap.size cs ws y ∧ e = .returned (.tuple #[.slice (some ⟨y.S, 0, none⟩) (stg cs) (stg cs), svT y.fin, .int .i64 0]) := by
        rcases hcase with ⟨h, _⟩ | ⟨_, h⟩
        · exact absurd HPP.out h
        · exact h
      rw [← HNN.out]
      have hyl7 := HYL.out.below hb7
      have hnd : (keys (entL yl ++ entL ym)).Nodup := by
        rw [keys_append, List.nodup_append]
        exact ⟨hyl7.nd, hym.nd, fun a ha b hb e => by have := HYL.out.own.lt a ha; have := hym.ge b hb; omega⟩
      obtain ⟨hst, hfi⟩ := hyl7.same hym
      have hly : yl.l.length = n := hyl7.len.trans HNN.out.symm
      have hlm : ym.l.length = n := hym.len.trans HNN.out.symm
      have HSS := Lib.hid (fun (W : World) (h : AllOwn W (entL yl)) (h' : AllOwn W (entL ym)) => lay_stages hyl7.wf hym.wf hly hst h h')
      have HSF := Lib.hid (fun (W : World) (h : AllOwn W (entL yl)) (h' : AllOwn W (entL ym)) => lay_finals hyl7.wf hym.wf hfi h h')
      have HYL7 := Lib.hid hyl7
      have HYM7 := Lib.hid hym
      have HND := Lib.hid hnd
      have HLY := Lib.hid hly
      have HLM := Lib.hid hlm
      have HSAME := Lib.hid hst
      have HFIN := Lib.hid hfi
      have HB7 := Lib.hid (below_step hb6 hb7)
      have HGEL := Lib.hid (show ∀ b ∈ keys (entL yl), W5.heap.size ≤ b from fun b hb => HYL.out.ge b hb)
      have HGEM := Lib.hid (show ∀ b ∈ keys (entL ym), W6.heap.size ≤ b from fun b hb => hym.ge b hb)
      have HLTL := Lib.hid (show ∀ b ∈ keys (entL yl), b < W6.heap.size from fun b hb => HYL.out.own.lt b hb)
      clear k0 k1 k2 k3 k4 k5 k6 k7 hp7 hcase HPL HPL2 HTW HQC hyl7 hym hnd hst hfi hly hlm HYL
      go_wp2_with fail
      refine (HSS.out W7 HYL7.out.own HYM7.out.own).mono ?_
      rintro e W8 ⟨rfl, hb8⟩
      have HYL8 := Lib.hid (HYL7.out.below hb8)
      have HYM8 := Lib.hid (HYM7.out.below hb8)
      go_wp2_with fail
      refine (HSF.out W8 HYL8.out.own HYM8.out.own).mono ?_
      rintro e W9 ⟨rfl, hb9⟩
      have HYL9 := Lib.hid (HYL8.out.below hb9)
      have HYM9 := Lib.hid (HYM8.out.below hb9)
      have HB9 := Lib.hid (below_step (below_step HB7.out hb8) hb9)
      have hsi := sh_init W9
      have hbi := below_step (below_new W9 (.cells #[.slice none 0 0, .slice none 0 0] 61)) (below_new _ (.cells #[.slice none 0 0, .slice none 0 0, .slice none 0 0, .slice none 0 0] 66))
      obtain ⟨G, hG⟩ : ∃ G, G = W9.heap.size := ⟨_, rfl⟩
      clear hb8 hb9 hb7 HYL7 HYM7 HYL8 HYM8
      go_upto_region 13 with fail
      rw [← hG]
      rw [← hG] at hsi
      have HBI := Lib.hid (below_step HB9.out hbi)
      have HBI9 := Lib.hid hbi
      have HGE := Lib.hid hG
      generalize (W9.alloc (.cells #[.slice none 0 0, .slice none 0 0] 61)).alloc (.cells #[.slice none 0 0, .slice none 0 0, .slice none 0 0, .slice none 0 0] 66) = W10 at *
      have hL9 : AllOwn W9 (entL yl ++ entL ym) := HYL9.out.own.append HYM9.out.own
      have hlt9 : ∀ b ∈ keys (entL yl ++ entL ym), b < G := fun b hb => by rw [hG]; exact hL9.lt b hb
      obtain ⟨hin1, hin2⟩ := ans_in HYL9.out HYM9.out hN HND.out hlt9
      have HLT9 := Lib.hid hlt9
      have HIN2 := Lib.hid hin2
      have HA1 := Lib.hid (answer_any (entL yl ++ entL ym) G (G + 1) G [] [] [] yl ⟨yl.S, 0, none⟩ rfl n HLY.out.symm W10 hin1 hsi (hL9.only (Only.of_below (S := fun _ => False) hbi) (fun _ _ h => h)))
      clear hsi hbi hG hL9 hlt9 hin1 hin2
      go_wp2_with fail
      refine HA1.out.mono ?_
      rintro e W11 ⟨rfl, hsh1, hl11, hon1⟩
      have HA2 := Lib.hid (answer_any (entL yl ++ entL ym) G (G + 1) G (growL yl) [stgRE yl] (negsOf yl.l) ym ⟨ym.S, 0, none⟩ rfl n HLM.out.symm W11 HIN2.out hsh1 hl11)
      have HON1 := Lib.hid hon1
      clear hsh1 hon1 HA1 hl11
      go_wp2_with fail
      refine HA2.out.mono ?_
      rintro e W12 ⟨rfl, hsh2, hl12, hon2⟩
      have HON2 := Lib.hid (HON1.out.same hon2)
      have HSH := Lib.hid hsh2
      have HL12 := Lib.hid hl12
      clear hsh2 hon2 HA2 HON1 hl12
      obtain ⟨es, hes⟩ : ∃ es, es = growL yl ++ growL ym := ⟨_, rfl⟩
      obtain ⟨ss, hss⟩ : ∃ ss, ss = [stgRE yl] ++ [stgRE ym] := ⟨_, rfl⟩
      obtain ⟨ns, hns⟩ : ∃ ns, ns = negsOf yl.l ++ negsOf ym.l := ⟨_, rfl⟩
      rw [← hes, ← hss, ← hns] at HSH
      have HWH := Lib.hid (fun (W : World) (h : Below W12.heap.size W12 W) => (HSH.out.below h))
      have HW1 := Lib.hid (show ∀ W, Below W12.heap.size W12 W → Calls Try.prog 21 #[.pointer (some ⟨G, 0, none⟩)] W (True_ W) from fun W h => by
        obtain ⟨vS, vN, vF, vA, hIn⟩ := HWH.out W h
        exact whole_any G es _ W hIn.rooms (by rw [hes]; exact HIN2.out.lenE))
      have HW2 := Lib.hid (show ∀ W, Below W12.heap.size W12 W → Calls Try.prog 22 #[.pointer (some ⟨G + 1, 0, none⟩)] W (True_ W) from fun W h => shWhole_any G (G + 1) G es ss ns W (HWH.out W h) (fun r hr => by
        rw [hss] at hr
        rcases List.mem_append.1 hr with hr | hr <;> rw [List.mem_singleton.1 hr] <;> simp [RE.rm, stgRE]) (by rw [hss]; exact HIN2.out.lenS) (by rw [hns]; exact HIN2.out.lenN))
      clear hes hss hns
      go_wp2_with fail
      refine (HW1.out W12 (Below.refl _ _)).mono ?_
      rintro e W13 ⟨rfl, hb13⟩
      go_wp2_with fail
      refine (HW2.out W13 hb13).mono ?_
      rintro e W14 ⟨rfl, hb14⟩
      have HL14 := Lib.hid (HL12.out.only (Only.of_below (S := fun _ => False) (below_step hb13 hb14)) (fun _ _ h => h))
      go_wp2_with fail
      refine (HSS.out W14 (HL14.out.sub (fun E h => List.mem_append_left _ h)) (HL14.out.sub (fun E h => List.mem_append_right _ h))).mono ?_
      rintro e W15 ⟨rfl, hb15⟩
      have HL15 := Lib.hid (HL14.out.only (Only.of_below (S := fun _ => False) hb15) (fun _ _ h => h))
      go_wp2_with fail
      refine (HSF.out W15 (HL15.out.sub (fun E h => List.mem_append_left _ h)) (HL15.out.sub (fun E h => List.mem_append_right _ h))).mono ?_
      rintro e W16 ⟨rfl, hb16⟩
      have HL16 := Lib.hid (HL15.out.only (Only.of_below (S := fun _ => False) hb16) (fun _ _ h => h))
      have HB16 := Lib.hid (below_step (below_step (below_step hb13 hb14) hb15) hb16)
      have HW16 := Lib.hid (show Below W5.heap.size W5 W16 from below_step (HBI.out.trans (HON2.out.below HBI.out.size (fun b hb hs => hs.elim (fun h => by have := HGE.out; have := HB9.out.size; omega) (fun h => by
        rw [keys_append] at h
        have := HB6.out.size
        rcases List.mem_append.1 h with h | h
        · have := HGEL.out b h; omega
        · have := HGEM.out b h; omega)))) HB16.out)
      have HNDL := Lib.hid (show (keys (entL yl)).Nodup from (by have h := HND.out; rw [keys_append, List.nodup_append] at h; exact h.1))
      have HNDM := Lib.hid (show ∀ b ∈ keys (entL ym), b ∉ keys (entL yl) from (by have h := HND.out; rw [keys_append, List.nodup_append] at h; exact fun b hb hb' => h.2.2 b hb' b hb rfl))
      have HLL := Lib.hid (show AllOwn W16 (entL yl) from HL16.out.sub (fun E h => List.mem_append_left _ h))
      have HMY := Lib.hid (fun (W : World) (h : Only (fun b => b ∈ keys (entL yl)) W16 W) => (show AllOwn W16 (entL ym) from HL16.out.sub (fun E h => List.mem_append_right _ h)).only h (fun b hb => HNDM.out b hb))
      have hsz := HYL9.out.sizes
      have HSZ := Lib.hid hsz
      have HSP := Lib.hid (show Calls Try.prog 23 #[svT yl.fin, svT ym.fin] W16 _ from spoilList_any yl.fin ym.fin (by omega) HYL9.out.wf.fin HYM9.out.wf.fin HFIN.out (lay_disj HNDL.out).1 (fun b hb hb' => HNDM.out b (key_F b hb) (key_F b hb')) _ _ W16 rfl rfl (HLL.out.sub (fun E h => List.mem_cons_of_mem _ (List.mem_append_left _ h))) ((HMY.out W16 (Only.refl _ _)).sub (fun E h => List.mem_cons_of_mem _ (List.mem_append_left _ h))))
      clear hsz hb13 hb14 hb15 hb16 HL12 HL14 HL15 HW1 HW2 HWH HSH HIN2
      go_wp2_with fail
      refine HSP.out.mono ?_
      rintro e W17 ⟨rfl, hon17⟩
      have HLF := Lib.hid (Lft.begin HNDL.out HLL.out hon17)
      have HLTK := Lib.hid (show ∀ b ∈ keys (entL yl), b < W16.heap.size from fun b hb => HLL.out.lt b hb)
      clear hon17 HSP
      go_wp2_with fail
      go_loopw [13] (fun t13 wr => ∃ i : Nat, i ≤ n ∧ t13 = .int .i64 i ∧ Hid (Lft yl W16 i i [] wr)) (fun t13 _ => n - (intOf t13).toNat)
      case atStart => exact ⟨0, by omega, rfl, HLF⟩
      case round =>
        clear HLF
        obtain ⟨i, hi, rfl, hlf⟩ := hrel
        generalize wr = w2 at *
        by_cases hlt : i < n
        · have hil : i < yl.l.length := by have := HLY.out; omega
          have him : i < ym.l.length := by have := HLM.out; omega
          have i1 : (0 : Int) ≤ (i : Int) := by omega
          have i2 : (i : Int) < (n : Int) := by omega
          have hsm : yl.l[i] ∈ yl.l := List.getElem_mem hil
          have hsm' : ym.l[i] ∈ ym.l := List.getElem_mem him
          have hsg : sgT ym.l[i] = sgT yl.l[i] := by
            have h := congrArg (fun l => l[i]?) HSAME.out
            simp only [List.getElem?_map, List.getElem?_eq_getElem him, List.getElem?_eq_getElem hil, Option.map_some, Option.some.injEq] at h
            exact h
          have hwf := HYL9.out.wf.l _ hsm
          have hwf' := HYM9.out.wf.l _ hsm'
          obtain ⟨z0, z1, z2, z3, z4⟩ := HSZ.out.2 _ hsm
          have hparts := parts_S ((lay_disj HNDL.out).2.2.1 i hil).1
          have hopen := hlf.out.opened hil
          have HR7 := Lib.hid (fun (E : List Ent) (W : World) (h : Lft yl W16 i (i + 1) E W) => row7 h.row hil (Nat.le_refl _))
          have HM7 := Lib.hid (fun (E : List Ent) (W : World) (h : Lft yl W16 i (i + 1) E W) => row7 (lay_row (HMY.out W h.only)) him (Nat.zero_le _))
          have HMS := Lib.hid (fun (E : List Ent) (W : World) (h : Lft yl W16 i (i + 1) E W) => lay_entS (HMY.out W h.only) i him)
          have hky := fun b (hb : b ∈ keys (entS ym.l[i])) => HNDM.out b (key_S him b hb)
          obtain ⟨s, hs⟩ : ∃ s, s = yl.l[i] := ⟨_, rfl⟩
          obtain ⟨s', hs'⟩ : ∃ s', s' = ym.l[i] := ⟨_, rfl⟩
          rw [← hs] at hsm hsg hwf z0 z1 z2 z3 z4 hparts hopen HR7
          rw [← hs'] at hsm' hsg hwf' HM7 HMS hky
          have HS := Lib.hid hs.symm
          have HSG := Lib.hid hsg
          have HWF := Lib.hid hwf
          have HWF' := Lib.hid hwf'
          have HP := Lib.hid hparts
          have HKY := Lib.hid hky
          have HIL := Lib.hid hil
          have HKS := Lib.hid (show ∀ b ∈ keys (entS s), b ∈ keys (entL yl) from fun b hb => key_S hil b (by rw [← hs]; exact hb))
          have HST := Lib.hid (fun (E0 E1 : List Ent) (W W' : World) (S : Nat → Prop) (h : Lft yl W16 i (i + 1) E0 W) (ho : Only S W W') (hS : ∀ b, S b → b ∈ keys (entS s) ∨ W16.heap.size ≤ b) (hE : ∀ E ∈ E1, E ∈ E0 ∧ ¬ S E.b) => h.step HNDL.out HLTK.out hil ho (fun b hb => by rw [← hs]; exact hS b hb) hE)
          have HQ := Lib.hid (show ∀ (E : List Ent) (w' : World), Lft yl W16 i (i + 1) E w' → w'.cell? ⟨yl.S, i * 7, none⟩ = some (.string s.f0) ∧ w'.cell? ⟨yl.S, i * 7 + 1, none⟩ = some (.string s.f1) ∧ w'.cell? ⟨yl.S, i * 7 + 2, none⟩ = some (.bool s.f2) ∧ w'.cell? ⟨yl.S, i * 7 + 3, none⟩ = some (svT s.n) ∧ w'.cell? ⟨yl.S, i * 7 + 4, none⟩ = some (svT s.b) ∧ w'.cell? ⟨yl.S, i * 7 + 5, none⟩ = some (svT s.t) ∧ w'.cell? ⟨yl.S, i * 7 + 6, none⟩ = some (svT s.c) ∧ w'.cell? ⟨ym.S, i * 7, none⟩ = some (.string s'.f0) ∧ w'.cell? ⟨ym.S, i * 7 + 1, none⟩ = some (.string s'.f1) ∧ w'.cell? ⟨ym.S, i * 7 + 2, none⟩ = some (.bool s'.f2) ∧ w'.cell? ⟨ym.S, i * 7 + 3, none⟩ = some (svT s'.n) ∧ w'.cell? ⟨ym.S, i * 7 + 4, none⟩ = some (svT s'.b) ∧ w'.cell? ⟨ym.S, i * 7 + 5, none⟩ = some (svT s'.t) ∧ w'.cell? ⟨ym.S, i * 7 + 6, none⟩ = some (svT s'.c) from fun E w' h => by
            obtain ⟨a0, a1, a2, a3, a4, a5, a6⟩ := HR7.out E w' h
            exact ⟨a0, a1, a2, a3, a4, a5, a6, HM7.out E w' h⟩)
          have HOPEN := Lib.hid hopen
          have HZ := Lib.hid (And.intro z0 (And.intro z1 (And.intro z2 (And.intro z3 z4))))
          have hrb : rdH s'.b = rdH s.b := by have h := HSG.out; unfold sgT at h; injection h
          have hrt : rdH s'.t = rdH s.t := by have h := HSG.out; unfold sgT at h; injection h
          have hrc : rdH s'.c = rdH s.c := by have h := HSG.out; unfold sgT at h; injection h
          have H24 := Lib.hid (show ∀ W', Lft yl W16 i (i + 1) (entS s) W' → Calls Try.prog 24 #[.agg #[.string s.f0, .string s.f1, .bool s.f2, svT s.n, svT s.b, svT s.t, svT s.c], .agg #[.string s'.f0, .string s'.f1, .bool s'.f2, svT s'.n, svT s'.b, svT s'.t, svT s'.c]] W' fun r w' => r = .returned (.bool true) ∧ Lft yl W16 i (i + 1) (entS s) w' from fun W' h => (same_stage s s' W' HWF.out HWF'.out HSG.out h.left (HMS.out _ W' h)).mono (fun r w' hr => ⟨hr.1, HST.out _ _ _ _ (fun _ => False) h (Only.of_below hr.2) (fun _ h => h.elim) (fun E hE => ⟨hE, fun h => h⟩)⟩))
          have kb : ∀ E ∈ entH s.b, E ∈ entS s := entS_b
          have H23b := Lib.hid (show ∀ W', Lft yl W16 i (i + 1) (entS s) W' → Calls Try.prog 23 #[svT s.b, svT s'.b] W' fun r w' => r = .returned (.bool true) ∧ Lft yl W16 i (i + 1) (entH s.t ++ (entH s.c ++ entN s.n)) w' from fun W' h => (show Calls Try.prog 23 #[svT s.b, svT s'.b] W' _ from spoilList_any s.b s'.b (by have := HZ.out.2.1; omega) HWF.out.b HWF'.out.b hrb HP.out.2.1 (fun b hb hb' => HKY.out b (keys_sub entS_b b hb) (HKS.out b (keys_sub entS_b b hb'))) _ _ W' rfl rfl (h.left.sub entS_b) ((HMS.out _ W' h).sub entS_b)).mono (fun r w' hr => ⟨hr.1, HST.out _ _ _ _ _ h hr.2 (fun b hb => Or.inl (keys_sub entS_b b hb)) (fun E hE => by
            have hkE : ∀ l : List Ent, E ∈ l → E.b ∈ keys l := fun l h => List.mem_map.2 ⟨E, h, rfl⟩
            rcases List.mem_append.1 hE with hE | hE
            · exact ⟨entS_t E hE, fun hb => (HP.out.2.2.2.2.2.1 _ hb).1 (hkE _ hE)⟩
            · rcases List.mem_append.1 hE with hE | hE
              · exact ⟨entS_c E hE, fun hb => (HP.out.2.2.2.2.2.1 _ hb).2 (hkE _ hE)⟩
              · exact ⟨entS_n E hE, fun hb => (HP.out.2.2.2.2.1 _ (hkE _ hE)).1 hb⟩)⟩))
          have H23t := Lib.hid (show ∀ W', Lft yl W16 i (i + 1) (entH s.t ++ (entH s.c ++ entN s.n)) W' → Calls Try.prog 23 #[svT s.t, svT s'.t] W' fun r w' => r = .returned (.bool true) ∧ Lft yl W16 i (i + 1) (entH s.c ++ entN s.n) w' from fun W' h => (show Calls Try.prog 23 #[svT s.t, svT s'.t] W' _ from spoilList_any s.t s'.t (by have := HZ.out.2.2.1; omega) HWF.out.t HWF'.out.t hrt HP.out.2.2.1 (fun b hb hb' => HKY.out b (keys_sub entS_t b hb) (HKS.out b (keys_sub entS_t b hb'))) _ _ W' rfl rfl (h.left.sub (fun E hE => List.mem_append_left _ hE)) ((HMS.out _ W' h).sub entS_t)).mono (fun r w' hr => ⟨hr.1, HST.out _ _ _ _ _ h hr.2 (fun b hb => Or.inl (keys_sub entS_t b hb)) (fun E hE => by
            have hkE : ∀ l : List Ent, E ∈ l → E.b ∈ keys l := fun l h => List.mem_map.2 ⟨E, h, rfl⟩
            refine ⟨List.mem_append_right _ hE, fun hb => ?_⟩
            rcases List.mem_append.1 hE with hE | hE
            · exact HP.out.2.2.2.2.2.2 _ hb (hkE _ hE)
            · exact (HP.out.2.2.2.2.1 _ (hkE _ hE)).2.1 hb)⟩))
          have H23c := Lib.hid (show ∀ W', Lft yl W16 i (i + 1) (entH s.c ++ entN s.n) W' → Calls Try.prog 23 #[svT s.c, svT s'.c] W' fun r w' => r = .returned (.bool true) ∧ Lft yl W16 i (i + 1) (entN s.n) w' from fun W' h => (show Calls Try.prog 23 #[svT s.c, svT s'.c] W' _ from spoilList_any s.c s'.c (by have := HZ.out.2.2.2.1; omega) HWF.out.c HWF'.out.c hrc HP.out.2.2.2.1 (fun b hb hb' => HKY.out b (keys_sub entS_c b hb) (HKS.out b (keys_sub entS_c b hb'))) _ _ W' rfl rfl (h.left.sub (fun E hE => List.mem_append_left _ hE)) ((HMS.out _ W' h).sub entS_c)).mono (fun r w' hr => ⟨hr.1, HST.out _ _ _ _ _ h hr.2 (fun b hb => Or.inl (keys_sub entS_c b hb)) (fun E hE => by
            have hkE : ∀ l : List Ent, E ∈ l → E.b ∈ keys l := fun l h => List.mem_map.2 ⟨E, h, rfl⟩
            exact ⟨List.mem_append_right _ hE, fun hb => (HP.out.2.2.2.2.1 _ (hkE _ hE)).2.2 hb⟩)⟩))
          clear hs hs' hsm hsm' hsg hwf hwf' hparts hky hopen hrb hrt hrc kb HR7 HM7 z0 z1 z2 z3 z4
          go_upto_region 22 with fail
          refine reg22_any _ _ _ _ _ _ _ _ _ _ _ _ _ _ _ _ _ _ _ _ _ _ _ _ _ _ _ _ _ _ _ _ _ _ _ _ _ _ _ _ _ _ _ _ _ _ _ _ _ _ _ _ _ _ _ _ _ _ _ _ _ _ _ _ _ _ _ _ _ _ _ _ _ _ _ _ _ _ _ _ _ _ _ _ _ _ _ _ _ _ _ _ _ _ _ _ _ _ _ _ _ _ _ _ _ _ _ _ _ _ _ _ _ _ _ _ _ _ _ _ _ _ _ _ _ _ _ _ _ _ _ _ _ _ _ _ _ _ _ _ _ _ _ _ _ _ _ _ _ _ _ _ _ _ _ _ _ _ _ _ _ _ _ _ _ _ _ _ _ _ _ _ _ _ _ _ _ _ _ _ _ _ _ _ _ _ _ _ _ _ _ _ _ _ _ _ _ _ _ _ _ _ _ _ _ _ _ _ _ _ _ _ _ _ _ _ _ _ _ _ _ _ _ _ _ _ _ _ _ _ _ _ _ _ _ _ _ _ _ _ _ _ _ _ _ _ _ _ _ _ _ _ _ _ _ _ _ _ _ _ _ _ _ _ _ _ _ _ _ _ _ _ _ _ _ _ _ _ _ _ _ _ _ _ _ _ _ _ _ _ yl.S ym.S n i (.string s.f0) (.string s.f1) (.bool s.f2) (svT s.n) (svT s.b) (svT s.t) (svT s.c) (.string s'.f0) (.string s'.f1) (.bool s'.f2) (svT s'.n) (svT s'.b) (svT s'.t) (svT s'.c) w2 (fun w' => Lft yl W16 i (i + 1) (entS s) w') (fun w' => Lft yl W16 i (i + 1) (entS s) w') (fun w' => Lft yl W16 i (i + 1) (entH s.t ++ (entH s.c ++ entN s.n)) w') (fun w' => Lft yl W16 i (i + 1) (entH s.c ++ entN s.n) w') (fun w' => Lft yl W16 i (i + 1) (entN s.n) w') i1 i2 H24 H23b H23t H23c ?_ (Lib.hid (fun w' h => HQ.out _ w' h)) (Lib.hid (fun w' h => HQ.out _ w' h)) (Lib.hid (fun w' h => HQ.out _ w' h)) (Lib.hid (fun w' h => HQ.out _ w' h)) (Lib.hid (fun w' h => HQ.out _ w' h)) _ ?_
          · exact HST.out _ _ _ _ (fun _ => False) HOPEN.out Only.drew (fun _ h => h.elim) (fun E hE => ⟨hE, fun h => h⟩)
          refine Lib.hid (fun v101 v102 v103 v104 v105 v106 v107 v108 v109 v110 v111 v112 v113 v114 v115 v116 v117 v118 v119 v120 v121 v122 v123 v124 v125 v126 v127 v128 v129 v130 v131 v132 v133 v134 v135 v136 v137 v138 v139 v140 v141 v142 v143 v144 v145 v146 v147 v148 v149 v150 v151 W4 hP4 => ?_)
          have HP4 := Lib.hid hP4
          clear H24 H23b H23t H23c HOPEN hP4 hlf
          obtain ⟨nn, hnn⟩ : ∃ nn, nn = s.n.2.2.length := ⟨_, rfl⟩
          obtain ⟨cN, hcN⟩ : ∃ cN, cN = s.n.2.1 := ⟨_, rfl⟩
          obtain ⟨AN, hAN⟩ : ∃ AN, AN = s.n.1.map (fun g => (⟨g, 0, none⟩ : Addr)) := ⟨_, rfl⟩
          obtain ⟨dN, hdN⟩ : ∃ dN, dN = s'.n.2.1 := ⟨_, rfl⟩
          obtain ⟨BN, hBN⟩ : ∃ BN, BN = s'.n.1.map (fun g => (⟨g, 0, none⟩ : Addr)) := ⟨_, rfl⟩
          have hnn' : nn = s'.n.2.2.length := by
            have h := HSG.out
            unfold sgT at h
            injection h with _ _ _ h
            have := congrArg List.length h
            rw [List.length_map, List.length_map] at this
            rw [hnn, this]
          have hnn8 : nn ≤ 8 := by rw [hnn]; exact HZ.out.1
          have hsv : svT s.n = .slice AN nn cN := by rw [hnn, hcN, hAN]; rfl
          have hsv' : svT s'.n = .slice BN nn dN := by rw [hnn', hdN, hBN]; rfl
          have HSV := Lib.hid hsv
          have HSV' := Lib.hid hsv'
          have HNE := Lib.hid hnn
          have HNE' := Lib.hid hnn'
          have HAN := Lib.hid hAN
          have HBN := Lib.hid hBN
          have HBG := Lib.hid (NLf.begin ⟨#[111, 118, 101, 114]⟩ HWF.out.n HP4.out)
          have HQ3 := Lib.hid (show ∀ (E : List Ent) (w' : World), Lft yl W16 i (i + 1) E w' → w'.cell? ⟨yl.S, i * 7 + 3, none⟩ = some (.slice AN nn cN) ∧ w'.cell? ⟨ym.S, i * 7 + 3, none⟩ = some (.slice BN nn dN) from fun E w' h => by
            obtain ⟨_, _, _, a3, _, _, _, _, _, _, b3, _⟩ := HQ.out E w' h
            rw [hsv] at a3
            rw [hsv'] at b3
            exact ⟨a3, b3⟩)
          clear hnn hcN hAN hdN hBN hnn' hsv hsv'
          go_wp2_with fail
          go_loopw [14] (fun t14 wr => ∃ j : Nat, j ≤ nn ∧ t14 = .int .i64 j ∧ Hid (NLf yl W16 i s ⟨#[111, 118, 101, 114]⟩ j j wr)) (fun t14 _ => nn - (intOf t14).toNat)
          case atStart => exact ⟨0, by omega, rfl, HBG⟩
          case round =>
            clear HBG HP4
            obtain ⟨j, hj, rfl, hnl⟩ := hrel
            generalize wr = w5 at *
            obtain ⟨y3, x3⟩ := HQ3.out _ w5 hnl.out.l
            by_cases hjl : j < nn
            · have j1 : (0 : Int) ≤ (j : Int) := by omega
              have j2 : (j : Int) < (nn : Int) := by omega
              have hjs : j < s.n.2.2.length := by have := HNE.out; omega
              have hjs' : j < s'.n.2.2.length := by have := HNE'.out; omega
              obtain ⟨N1, hN1⟩ := wfN_some HWF.out.n hjs
              obtain ⟨N2, hN2⟩ := wfN_some HWF'.out.n hjs'
              have hA1 : AN = some ⟨N1, 0, none⟩ := by rw [HAN.out, hN1]; rfl
              have hB1 : BN = some ⟨N2, 0, none⟩ := by rw [HBN.out, hN2]; rfl
              subst hA1 hB1
              have hgn : ngT s'.n.2.2[j] = ngT s.n.2.2[j] := by
                have h := HSG.out
                unfold sgT at h
                injection h with _ _ _ h
                have h2 := congrArg (fun l => l[j]?) h
                simp only [List.getElem?_map, List.getElem?_eq_getElem hjs', List.getElem?_eq_getElem hjs, Option.map_some, Option.some.injEq] at h2
                exact h2
              have HGN := Lib.hid hgn
              have HJS := Lib.hid hjs
              have HJS' := Lib.hid hjs'
              have HR3 := Lib.hid (fun (j' : Nat) (W : World) (h : NLf yl W16 i s ⟨#[111, 118, 101, 114]⟩ j j' W) => row3 (N := N1) (cap := cN) (l := s.n.2.2) (k := j) (by
                obtain ⟨xs, h1, h2, _⟩ := h.row
                rw [HSV.out, ← HNE.out] at h1
                rw [← HNE.out]
                exact ⟨xs, h1, h2⟩) hjs (Nat.le_refl _))
              have hg1 : s'.n.2.2[j].f1 = s.n.2.2[j].f1 := by have h := HGN.out; unfold ngT at h; injection h
              have hgc : rdH s'.n.2.2[j].c = rdH s.n.2.2[j].c := by have h := HGN.out; unfold ngT at h; injection h
              have HM3 := Lib.hid (fun (j' : Nat) (W : World) (h : NLf yl W16 i s ⟨#[111, 118, 101, 114]⟩ j j' W) => (show W.cell? ⟨N2, j * 3 + 1, none⟩ = some (.string s.n.2.2[j].f1) ∧ W.cell? ⟨N2, j * 3 + 2, none⟩ = some (svT s'.n.2.2[j].c) from hg1 ▸ row3 (N := N2) (cap := dN) (l := s'.n.2.2) (k := 0) (by
                have h1 := own_N HWF'.out.n ((HMS.out _ W h.l).sub (fun E hE => entS_n E (List.mem_append_left _ hE)))
                rw [HSV'.out, ← HNE'.out] at h1
                rw [← HNE'.out]
                exact ⟨_, h1, rfl⟩) hjs' (Nat.zero_le _)))
              have HPN := Lib.hid (parts_N HP.out.1)
              have H23 := Lib.hid (show ∀ W', NLf yl W16 i s ⟨#[111, 118, 101, 114]⟩ j j W' → Calls Try.prog 23 #[svT s.n.2.2[j].c, svT s'.n.2.2[j].c] W' fun r w' => r = .returned (.bool true) ∧ NLf yl W16 i s ⟨#[111, 118, 101, 114]⟩ j (j + 1) w' from fun W' h => (show Calls Try.prog 23 #[svT s.n.2.2[j].c, svT s'.n.2.2[j].c] W' _ from spoilList_any s.n.2.2[j].c s'.n.2.2[j].c (by have := HZ.out.2.2.2.2 _ (List.getElem_mem hjs); omega) (HWF.out.n.g _ (List.getElem_mem hjs)) (HWF'.out.n.g _ (List.getElem_mem hjs')) hgc (HPN.out.1 j hjs).1 (fun b hb hb' => HKY.out b (key_SN b (key_C hjs' b hb)) (HKS.out b (key_SN b (key_C hjs b hb')))) _ _ W' rfl rfl (h.own hjs) ((HMS.out _ W' h.l).sub (fun E hE => entS_n E (entN_c (List.getElem_mem hjs') E hE)))).mono (fun r w' hr => ⟨hr.1, h.spoil HNDL.out HLTK.out HIL.out HS.out hjs hr.2⟩))
              have HDR := Lib.hid (hnl.out.same HNDL.out HLTK.out HIL.out Only.drew)
              have HC6 := Lib.hid (show ∀ (j' : Nat) (w' : World), NLf yl W16 i s ⟨#[111, 118, 101, 114]⟩ j j' w' → w'.cell? ⟨yl.S, i * 7 + 3, none⟩ = some (.slice (some ⟨N1, 0, none⟩) nn cN) ∧ w'.cell? ⟨ym.S, i * 7 + 3, none⟩ = some (.slice (some ⟨N2, 0, none⟩) nn dN) ∧ w'.cell? ⟨N1, j * 3 + 1, none⟩ = some (.string s.n.2.2[j].f1) ∧ w'.cell? ⟨N2, j * 3 + 1, none⟩ = some (.string s.n.2.2[j].f1) ∧ w'.cell? ⟨N1, j * 3 + 2, none⟩ = some (svT s.n.2.2[j].c) ∧ w'.cell? ⟨N2, j * 3 + 2, none⟩ = some (svT s'.n.2.2[j].c) from fun j' w' h => ⟨(HQ3.out _ w' h.l).1, (HQ3.out _ w' h.l).2, (HR3.out j' w' h).1, (HM3.out j' w' h).1, (HR3.out j' w' h).2, (HM3.out j' w' h).2⟩)
              generalize s.n.2.2[j].f1 = vq at HC6
              generalize svT s.n.2.2[j].c = va at HC6 H23
              generalize svT s'.n.2.2[j].c = vb at HC6 H23
              clear hgn hg1 hgc hN1 hN2 HR3 HM3 HGN HPN x3
              go_upto_region 27 with fail
              clear y3
              refine reg27_any _ _ _ _ _ _ _ _ _ _ _ _ _ _ _ _ _ _ _ _ _ _ _ _ _ _ _ _ _ _ _ _ _ _ _ _ _ _ _ _ _ _ _ _ _ _ _ _ _ _ _ _ _ _ _ _ _ _ _ _ _ _ _ _ _ _ _ _ _ _ _ _ _ _ _ _ _ _ _ _ _ _ _ _ _ _ _ _ _ _ _ _ _ _ _ _ _ _ _ _ _ _ _ _ _ _ _ _ _ _ _ _ _ _ _ _ _ _ _ _ _ _ _ _ _ _ _ _ _ _ _ _ _ _ _ _ _ _ _ _ _ _ _ _ _ _ _ _ _ _ _ _ _ _ _ _ _ _ _ _ _ _ _ _ _ _ _ _ _ _ _ _ _ _ _ _ _ _ _ _ _ _ _ _ _ _ _ _ _ _ _ _ _ _ _ _ _ _ _ _ _ _ _ _ _ _ _ _ _ _ _ _ _ _ _ _ _ _ _ _ _ _ _ _ _ _ _ _ _ _ _ _ _ _ _ _ _ _ _ _ _ _ _ _ _ _ _ _ _ _ _ _ _ _ _ _ _ _ _ _ _ _ _ _ _ _ _ _ _ _ _ _ _ _ _ _ _ _ _ _ _ _ _ _ _ _ _ _ _ yl.S ym.S n i N1 N2 nn cN dN j vq va vb w5 (fun w' => NLf yl W16 i s ⟨#[111, 118, 101, 114]⟩ j j w') (fun w' => NLf yl W16 i s ⟨#[111, 118, 101, 114]⟩ j (j + 1) w') i1 i2 j1 j2 H23 HDR.out (Lib.hid (fun w' h => HC6.out _ w' h)) (Lib.hid (fun w' h => HC6.out _ w' h)) _ ?_
              refine Lib.hid (fun v163 v164 v165 v166 v167 v168 v169 v170 v171 v172 v173 v174 v175 v176 v177 v178 v179 v180 v181 v182 v183 v184 v185 v186 v187 v188 v189 v190 v191 v192 v193 v194 v195 v196 v197 v198 v199 v200 v201 v202 W6' hP1 => ?_)
              obtain ⟨xsn, hrow, hdrop, hone⟩ := hP1.row
              rw [HSV.out, ← HNE.out] at hrow
              have HP1 := Lib.hid hP1
              have HROW := Lib.hid hrow
              have HDROP := Lib.hid hdrop
              have HONE := Lib.hid hone
              have y3 := (HQ3.out _ W6' hP1.l).1
              clear hP1 hrow hdrop hone H23 HDR HC6
              go_wp2_with (refine store_own2 (W := W6') (by rfl) (by rfl) _ _ _ (by rfl) 73 3 ⟨N1, 0, none⟩ nn cN j xsn _ (negC ⟨#[111, 118, 101, 114]⟩) (by rw [add_plain]; rfl) (by rfl) (by rfl) size73 (by rfl) (negC_one _) HROW.out hjl ?_)
              intro w6 xs' ho6 hd6 hp6 hq6 hon6
              have HNF := Lib.hid (NLf.store (v := ⟨#[111, 118, 101, 114]⟩) HNDL.out HLTK.out HIL.out HS.out HP1.out.l HDROP.out HONE.out (by rw [HSV.out, ← HNE.out]; exact ho6.out) hd6.out hp6.out hq6.out (by rw [HSV.out]; exact hon6.out))
              clear y3
              go_wp2_with fail
              go_roundw
              case rel => exact ⟨j + 1, by omega, by go_num, HNF⟩
              case measure => simp [intOf]; omega
            · obtain rfl : j = nn := by omega
              have hdn : s.n.2.2.drop j = [] := List.drop_eq_nil_of_le (by have := HNE.out; omega)
              have hl0 := hnl.out.l
              rw [hdn] at hl0
              have HL0 := Lib.hid (show Lft yl W16 i (i + 1) [] w5 from hl0)
              obtain ⟨xsn, hrow, -, hone⟩ := hnl.out.row
              rw [HSV.out, ← HNE.out] at hrow
              have HROW := Lib.hid hrow
              have HONE := Lib.hid (show 0 < j → ∃ v, xsn[1]? = some (.string v) from fun h => ⟨_, hone h⟩)
              have HKN := Lib.hid (show ∀ b, (Value.slice AN j cN).ownBlock = some b → b ∈ keys (entS s) ∨ W16.heap.size ≤ b from fun b hb => Or.inl (key_SN b (key_N (svT_block _ (by rw [HSV.out]; exact hb)))))
              clear hdn hl0 hrow hone x3
              go_wp2_with fail
              go_loopw [15, 16] (fun t15 t16 wr => ∃ (k m' : Nat) (A' : Option Addr) (c' : Nat) (xs : List Value), k ≤ 70000 ∧ t16 = .int .i64 k ∧ t15 = .slice A' m' c' ∧ Hid (m' = j + k) ∧ Hid (wr.ownsRow 0 73 3 (.slice A' m' c') m' xs) ∧ Hid (0 < m' → ∃ v, xs[1]? = some (.string v)) ∧ Hid (∀ b, (Value.slice A' m' c').ownBlock = some b → b ∈ keys (entS s) ∨ W16.heap.size ≤ b) ∧ Hid (Lft yl W16 i (i + 1) [] wr)) (fun _ t16 _ => 70001 - (intOf t16).toNat)
              case atStart => exact ⟨0, j, AN, cN, xsn, by omega, rfl, rfl, Lib.hid rfl, HROW, HONE, HKN, HL0⟩
              case round =>
                clear HROW HONE HKN HL0 y3
                obtain ⟨p, m', A', cap', xs, hp, rfl, rfl, hm', HRO, HO1, hBk, hL⟩ := hrel
                generalize wr = w6 at *
                have y3 := (HQ3.out _ w6 hL.out).1
                have hl1 : (m' + 1) * 56 ≤ 140737488355328 := by have := hm'.out; omega
                obtain ⟨_, _, he, hs1, hs2, hgA, -⟩ := own_shape HRO.out
                injection he with he1 he2 he3
                rw [← he1] at hgA
                subst he3
                clear he1 he2
                have HGA := Lib.hid hgA
                clear hgA
                by_cases h1 : p < 12
                · have d1 : decide ((p : Int) < 12) = true := decide_eq_true (by omega)
                  go_wp2_with (at_builtin; go_must (refine app_cells (W := w6) w6.heap.size (by rfl) (by rfl) _ _ 69 73 _ 3 56 (by rfl) Try.underlying69 info73' (by rfl) (by decide) (by decide) A' m' cap' xs (negC ⟨#[109, 111, 114, 101]⟩) HRO.out (by rfl) (negC_one _) (by rfl) (by rfl) hl1 ?_))
                  intro A2 cap2 w7 hO5 hOn5 hB5
                  have HL7 := Lib.hid (HST.out _ [] _ _ _ hL.out hOn5.out hBk.out (fun E hE => by cases hE))
                  have HX7 := Lib.hid (show 0 < m' + 1 → ∃ v, (xs ++ negC ⟨#[109, 111, 114, 101]⟩)[1]? = some (.string v) from fun _ => by
                    by_cases h0 : 0 < m'
                    · obtain ⟨v, hv⟩ := HO1.out h0
                      exact ⟨v, by rw [List.getElem?_append_left (List.getElem?_eq_some_iff.1 hv).1]; exact hv⟩
                    · have hx0 : xs = [] := List.eq_nil_of_length_eq_zero (by have := HRO.out.1; omega)
                      subst hx0
                      exact ⟨_, rfl⟩)
                  have HB7 := Lib.hid (show ∀ b, (Value.slice A2 (m' + 1) cap2).ownBlock = some b → b ∈ keys (entS s) ∨ W16.heap.size ≤ b from fun b hb => by
                    rcases hB5.out b hb with h | h
                    · exact hBk.out b h
                    · exact Or.inr (by have := hL.out.only.size; omega))
                  clear y3
                  go_wp2_with fail
                  go_roundw
                  case rel => exact ⟨p + 1, m' + 1, A2, cap2, _, by omega, by go_num, rfl, Lib.hid (by have := hm'.out; omega), hO5, HX7, HB7, HL7⟩
                  case measure => simp [intOf]; omega
                · have d1 : decide ((p : Int) < 12) = false := decide_eq_false (by omega)
                  by_cases h2 : m' < cN
                  · have d2 : decide (m' < cN) = true := decide_eq_true h2
                    by_cases h3 : p < 70000
                    · have d3 : decide ((p : Int) < 70000) = true := decide_eq_true (by omega)
                      go_wp2_with (at_builtin; go_must (refine app_cells (W := w6) w6.heap.size (by rfl) (by rfl) _ _ 69 73 _ 3 56 (by rfl) Try.underlying69 info73' (by rfl) (by decide) (by decide) A' m' cap' xs (negC ⟨#[109, 111, 114, 101]⟩) HRO.out (by rfl) (negC_one _) (by rfl) (by rfl) hl1 ?_))
                      intro A2 cap2 w7 hO5 hOn5 hB5
                      have HL7 := Lib.hid (HST.out _ [] _ _ _ hL.out hOn5.out hBk.out (fun E hE => by cases hE))
                      have HX7 := Lib.hid (show 0 < m' + 1 → ∃ v, (xs ++ negC ⟨#[109, 111, 114, 101]⟩)[1]? = some (.string v) from fun _ => by
                        by_cases h0 : 0 < m'
                        · obtain ⟨v, hv⟩ := HO1.out h0
                          exact ⟨v, by rw [List.getElem?_append_left (List.getElem?_eq_some_iff.1 hv).1]; exact hv⟩
                        · have hx0 : xs = [] := List.eq_nil_of_length_eq_zero (by have := HRO.out.1; omega)
                          subst hx0
                          exact ⟨_, rfl⟩)
                      have HB7 := Lib.hid (show ∀ b, (Value.slice A2 (m' + 1) cap2).ownBlock = some b → b ∈ keys (entS s) ∨ W16.heap.size ≤ b from fun b hb => by
                        rcases hB5.out b hb with h | h
                        · exact hBk.out b h
                        · exact Or.inr (by have := hL.out.only.size; omega))
                      clear y3
                      go_wp2_with fail
                      go_roundw
                      case rel => exact ⟨p + 1, m' + 1, A2, cap2, _, by omega, by go_num, rfl, Lib.hid (by have := hm'.out; omega), hO5, HX7, HB7, HL7⟩
                      case measure => simp [intOf]; omega
                    · have d3 : decide ((p : Int) < 70000) = false := decide_eq_false (by omega)
                      have hmp : 12 ≤ m' := by have := hm'.out; omega
                      obtain ⟨gA, hgA⟩ := HGA.out (by omega)
                      obtain ⟨v1, hv1⟩ := HO1.out (by omega)
                      subst hgA
                      have e1 : w6.cell? ⟨gA, 1, none⟩ = some (.string v1) := by rw [HRO.out.cellAt 1 (by omega)]; exact hv1
                      have hm0 : (0 : Int) < (m' : Int) := by omega
                      have hm1 : 0 < m' := by omega
                      obtain ⟨xsS, hrS, hdS⟩ := hL.out.row
                      have HRS := Lib.hid (show w6.ownsRow 0 71 7 (.slice (some ⟨yl.S, 0, none⟩) n n) n xsS by rw [← HLY.out]; exact hrS)
                      have HDS := Lib.hid hdS
                      clear hv1 hrS hdS
                      go_wp2_with (refine store_own (W := w6) (by rfl) (by rfl) _ _ _ (by rfl) 71 7 ⟨yl.S, 0, none⟩ n n i xsS _ (stageC v1) (by rw [add_plain]; rfl) (by rfl) (by rfl) size71 (by rfl) (stageC_one _) HRS.out hlt ?_)
                      intro w8 xs8 ho8 hd8 hon8
                      have HNX := Lib.hid (hL.out.next HNDL.out hil (by rw [HLY.out]; exact hon8.out) HDS.out (by rw [HLY.out]; exact ho8.out) hd8.out)
                      clear y3 e1
                      go_wp2_with fail
                      go_roundw
                      case rel => exact ⟨i + 1, by omega, by go_num, HNX⟩
                      case measure => simp [intOf]; omega
                  · have d2 : decide (m' < cN) = false := decide_eq_false h2
                    have hmp : 12 ≤ m' := by have := hm'.out; omega
                    obtain ⟨gA, hgA⟩ := HGA.out (by omega)
                    obtain ⟨v1, hv1⟩ := HO1.out (by omega)
                    subst hgA
                    have e1 : w6.cell? ⟨gA, 1, none⟩ = some (.string v1) := by rw [HRO.out.cellAt 1 (by omega)]; exact hv1
                    have hm0 : (0 : Int) < (m' : Int) := by omega
                    have hm1 : 0 < m' := by omega
                    obtain ⟨xsS, hrS, hdS⟩ := hL.out.row
                    have HRS := Lib.hid (show w6.ownsRow 0 71 7 (.slice (some ⟨yl.S, 0, none⟩) n n) n xsS by rw [← HLY.out]; exact hrS)
                    have HDS := Lib.hid hdS
                    clear hv1 hrS hdS
                    go_wp2_with (refine store_own (W := w6) (by rfl) (by rfl) _ _ _ (by rfl) 71 7 ⟨yl.S, 0, none⟩ n n i xsS _ (stageC v1) (by rw [add_plain]; rfl) (by rfl) (by rfl) size71 (by rfl) (stageC_one _) HRS.out hlt ?_)
                    intro w8 xs8 ho8 hd8 hon8
                    have HNX := Lib.hid (hL.out.next HNDL.out hil (by rw [HLY.out]; exact hon8.out) HDS.out (by rw [HLY.out]; exact ho8.out) hd8.out)
                    clear y3 e1
                    go_wp2_with fail
                    go_roundw
                    case rel => exact ⟨i + 1, by omega, by go_num, HNX⟩
                    case measure => simp [intOf]; omega
        · obtain rfl : i = n := by omega
          obtain ⟨xs0, hx0, _⟩ := hlf.out.row
          rw [HLY.out] at hx0
          have HROW := Lib.hid hx0
          have HSYB := Lib.hid (show ∀ b, b ∈ keys (entL yl) → W5.heap.size ≤ b from fun b hb => HGEL.out b hb)
          have HBK5 := Lib.hid HW16.out
          have HRB := Lib.hid (show ∀ b, (Value.slice (some ⟨yl.S, 0, none⟩) i i).ownBlock = some b → b ∈ keys (entL yl) ∨ W16.heap.size ≤ b from fun b hb => Or.inl (by
            have : yl.S = b := by simpa [Value.ownBlock] using hb
            rw [← this]
            exact List.mem_map.2 ⟨_, List.mem_cons_self, rfl⟩))
          have HONK := Lib.hid hlf.out.only
          clear hx0 hlf
          go_wp2_with fail
          have hl72 : 72 ≤ 140737488355328 := by decide
          go_loopw [17, 18] (fun t17 t18 wr => ∃ (k m' : Nat) (A' : Option Addr) (c' : Nat) (xs : List Value), k ≤ 70000 ∧ t18 = .int .i64 k ∧ t17 = .slice A' m' c' ∧ Hid (m' = i + k) ∧ Hid (wr.ownsRow 0 71 7 (.slice A' m' c') m' xs) ∧ Hid (∀ b, (Value.slice A' m' c').ownBlock = some b → b ∈ keys (entL yl) ∨ W16.heap.size ≤ b) ∧ Hid (Only (fun b => b ∈ keys (entL yl)) W16 wr)) (fun _ t18 _ => 70001 - (intOf t18).toNat)
          case atStart => exact ⟨0, i, (some ⟨yl.S, 0, none⟩), i, _, by omega, rfl, rfl, Lib.hid rfl, HROW, HRB, HONK⟩
          case round =>
            clear HROW HRB HONK
            obtain ⟨p, m', A', cap', xs, hi', rfl, rfl, hm', HRO, hBk, hOnw⟩ := hrel
            generalize wr = w3 at *
            have hl1 : (m' + 1) * 136 ≤ 140737488355328 := by have := hm'.out; omega
            obtain ⟨_, _, he, hs1, hs2, -, -⟩ := own_shape HRO.out
            injection he with he1 he2 he3
            subst he3
            clear he1 he2
            by_cases h1 : p < 12
            · have d1 : decide ((p : Int) < 12) = true := decide_eq_true (by omega)
              go_wp2_with (at_builtin; go_must (refine app_cells (W := w3) w3.heap.size (by rfl) (by rfl) _ _ 52 71 _ 7 136 (by rfl) Try.underlying52 info71 (by rfl) (by decide) (by decide) A' m' cap' xs (stageC ⟨#[109, 111, 114, 101]⟩) HRO.out (by rfl) (stageC_one _) (by rfl) (by rfl) hl1 ?_))
              intro A2 cap2 w5 hO5 hOn5 hB5
              go_wp2_with fail
              go_roundw
              case rel =>
                refine ⟨p + 1, m' + 1, A2, cap2, _, by omega, by go_num, rfl, Lib.hid (by have := hm'.out; omega), hO5, Lib.hid (fun b hb => ?_), Lib.hid (hOnw.out.trans hOn5.out (fun b hb hb' => ?_))⟩
                · rcases hB5.out b hb with h | h
                  · exact hBk.out b h
                  · exact Or.inr (by have := hOnw.out.size; omega)
                · rcases hBk.out b hb' with h | h
                  · exact h
                  · omega
              case measure => simp [intOf]; omega
            · have d1 : decide ((p : Int) < 12) = false := decide_eq_false (by omega)
              have d2 : decide (m' < i) = false := decide_eq_false (by have := hm'.out; omega)
              have HBW := Lib.hid (show Below W5.heap.size W5 w3 from HBK5.out.trans (hOnw.out.below HBK5.out.size (fun b hb hs => by have := HSYB.out b hs; omega)))
              have hB3' := below_step hB5 HBW.out
              have hT3 := blk_below HTB.out HBW.out
              have HTC := Lib.hid (HT5.out.below HBW.out)
              have t0 := (blk_cell (hT3) 0).trans rfl
              have t1 := (blk_cell (hT3) 1).trans rfl
              have t2 := (blk_cell (hT3) 2).trans rfl
              have t3 := (blk_cell (hT3) 3).trans rfl
              have t4 := (blk_cell (hT3) 4).trans rfl
              have t5 := (blk_cell (hT3) 5).trans rfl
              have t6 := (blk_cell (hT3) 6).trans rfl
              have t7 := (blk_cell (hT3) 7).trans rfl
              have HPL3 := Lib.hid (D.Place_any HADL.out cs A5 (cs.length + 12) q1 q2 (.slice A3 n3 c3) ws A6 (ws.length + 12) q5 q6 (.slice AI its.length ci) rfl rfl w3 (Nat.le_add_right _ _) HTC.out.comps HNM.out HTC.out.where_ (by omega) HNR.out)
              go_wp2_with fail
              refine HPL3.out.mono ?_
              rintro e W20 hp20
              obtain ⟨hb20, hcase⟩ := place_out hp20
              rw [HPP.out] at hcase
              obtain ⟨yn, hyn, rfl⟩ : ∃ y, LayOk W20 w3.heap.size cs ws y ∧ e = .returned (.tuple #[.slice (some ⟨y.S, 0, none⟩) (stg cs) (stg cs), svT y.fin, .int .i64 0]) := by
                rcases hcase with ⟨h, _⟩ | ⟨_, h⟩
                · exact absurd rfl h
                · exact h
              rw [← HNN.out]
              have hm20 := (HMY.out w3 hOnw.out).only (Only.of_below (S := fun _ => False) hb20) (fun _ _ h => h)
              obtain ⟨hs1, hs2⟩ := HYM9.out.same hyn
              have hlen : yn.l.length = i := hyn.len.trans HNN.out.symm
              have HSA := Lib.hid (lay_stages hyn.wf HYM9.out.wf hlen hs1.symm hyn.own hm20)
              have HSB := Lib.hid (fun (W : World) (h : Below W20.heap.size W20 W) => lay_finals hyn.wf HYM9.out.wf hs2.symm (hyn.own.only (Only.of_below (S := fun _ => False) h) (fun _ _ h => h)) (hm20.only (Only.of_below (S := fun _ => False) h) (fun _ _ h => h)))
              clear hcase hp20 HPL3 hyn hm20 hs1 hs2 hlen t0 t1 t2 t3 t4 t5 t6 t7
              go_wp2_with fail
              refine HSA.out.mono ?_
              rintro e W21 ⟨rfl, hb21⟩
              go_wp2_with fail
              refine (HSB.out W21 hb21).mono ?_
              rintro e W22 ⟨rfl, hb22⟩
              have HB22 := Lib.hid (below_step (below_step (below_step HBW.out hb20) hb21) hb22)
              have hT22 := blk_below HTB.out HB22.out
              have hQ22 := blk_below HQ5.out HB22.out
              have t0 := (blk_cell (hT22) 0).trans rfl
              have t1 := (blk_cell (hT22) 1).trans rfl
              have t2 := (blk_cell (hT22) 2).trans rfl
              have t3 := (blk_cell (hT22) 3).trans rfl
              have t4 := (blk_cell (hT22) 4).trans rfl
              have t5 := (blk_cell (hT22) 5).trans rfl
              have t6 := (blk_cell (hT22) 6).trans rfl
              have t7 := (blk_cell (hT22) 7).trans rfl
              have t8 := (blk_cell (hT22) 8).trans rfl
              have t9 := (blk_cell (hT22) 9).trans rfl
              have t10 := (blk_cell (hT22) 10).trans rfl
              have k0 := (blk_cell (hQ22) 0).trans rfl
              have k1 := (blk_cell (hQ22) 1).trans rfl
              have k2 := (blk_cell (hQ22) 2).trans rfl
              have k3 := (blk_cell (hQ22) 3).trans rfl
              have k4 := (blk_cell (hQ22) 4).trans rfl
              have k5 := (blk_cell (hQ22) 5).trans rfl
              have k6 := (blk_cell (hQ22) 6).trans rfl
              have k7 := (blk_cell (hQ22) 7).trans rfl
              go_wp2_with fail
              refine (HUN.out W22 HB22.out).mono ?_
              rintro e W23 ⟨rfl, hb23⟩
              go_wp2_with fail
              go_ret
              exact ⟨rfl, below_step (below_step hB5 HB22.out) hb23⟩
end Go.Proofs.Ytgnifglolbfamaa

