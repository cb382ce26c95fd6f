/- The walk of place.Place. -/
import Derived.Test.YtgnifglolbfamaaPlZ
import Derived.Test.YtgnifglolbfamaaPlX
set_option linter.unusedVariables false
set_option linter.unusedSimpArgs false
namespace Go.Proofs.Ytgnifglolbfamaa
open Go.RowKit Go.Proofs.YtgnifglolbfamaaW.PrintWords

def addP (L : Nat → Nat → List Ex) (k n : Nat) (x : Ex) : Nat → Nat → List Ex := upd2 L k (plI k n) (L k (plI k n) ++ [x])
def placeStep (cs : List Cp) (L : Nat → Nat → List Ex) (x : Ex) : Nat → Nat → List Ex :=
  if (anchorOf cs (refsOf x)).1 = 2 ∧ againOf x = true then addP (addP L (anchorOf cs (refsOf x)).1.toNat (anchorOf cs (refsOf x)).2.1.toNat x) 1 (anchorOf cs (refsOf x)).2.1.toNat x
  else addP L (anchorOf cs (refsOf x)).1.toNat (anchorOf cs (refsOf x)).2.1.toNat x
def placeL (cs : List Cp) (ws : List Ex) : Nat → Nat → List Ex := ws.foldl (placeStep cs) (fun _ _ => [])
def placeErr (cs : List Cp) (ws : List Ex) : Int :=
  match ws.find? (fun x => (anchorOf cs (refsOf x)).2.2 != 0) with
  | some x => (anchorOf cs (refsOf x)).2.2
  | none => 0
theorem placeL_snoc (cs : List Cp) (ws : List Ex) (x : Ex) : placeL cs (ws ++ [x]) = placeStep cs (placeL cs ws) x := by unfold placeL; rw [List.foldl_append]; rfl
theorem addP_len (L : Nat → Nat → List Ex) (k n : Nat) (x : Ex) (B : Nat) (h : ∀ k i, (L k i).length ≤ B) : ∀ k' i', (addP L k n x k' i').length ≤ B + 1 := by
  intro k' i'
  unfold addP upd2
  split
  · rw [List.length_append]; have := h k (plI k n); simp; omega
  · have := h k' i'; omega
theorem placeStep_len (cs : List Cp) (L : Nat → Nat → List Ex) (x : Ex) (B : Nat) (h : ∀ k i, (L k i).length ≤ B) : ∀ k' i', (placeStep cs L x k' i').length ≤ B + 2 := by
  intro k' i'
  unfold placeStep
  split
  · exact addP_len _ _ _ _ (B + 1) (addP_len _ _ _ _ B h) k' i'
  · have := addP_len L (anchorOf cs (refsOf x)).1.toNat (anchorOf cs (refsOf x)).2.1.toNat x B h k' i'; omega
theorem placeL_len (cs : List Cp) (ws : List Ex) : ∀ k i, (placeL cs ws k i).length ≤ 2 * ws.length := by
  have : ∀ (ws : List Ex) (L : Nat → Nat → List Ex) (B : Nat), (∀ k i, (L k i).length ≤ B) → ∀ k i, (ws.foldl (placeStep cs) L k i).length ≤ B + 2 * ws.length := by
    intro ws
    induction ws with
    | nil => intro L B h k i; exact h k i
    | cons x ws ih =>
      intro L B h k i
      have := ih (placeStep cs L x) (B + 2) (placeStep_len cs L x B h) k i
      simp only [List.foldl_cons, List.length_cons]
      omega
  intro k i
  have := this ws (fun _ _ => []) 0 (by simp) k i
  unfold placeL
  omega
theorem exNL_len : ∀ l : List Ex, l.length ≤ exNL l
  | [] => by simp
  | x :: l => by have := exNL_len l; have := exN_eq x; simp only [List.length_cons, exNL]; omega

/-- What PlY shows of layout.add. -/
def AddLaw : Prop := ∀ (base G : Nat) (cs : List Cp) (L : Nat → Nat → List Ex) (w : World) (f : Nat → Nat), LayF w base G cs L f → ∀ (k n : Nat), VP cs k (plI k n) → (k = 5 ∨ n = plI k n) → ∀ (x : Ex) (A : Option Addr) (c : Nat), exN x ≤ 100000000000 → x.f6.length ≤ c → kEx.C w A x.f6.length x.f6 → (L k (plI k n)).length ≤ 1000000 → base ≤ w.heap.size →
    Calls Try.prog 43 #[.pointer (some ⟨G, 0, none⟩), .int .i64 k, .int .i64 n, exV x (.slice A x.f6.length c)] w fun e w' => e = .returned (.tuple #[]) ∧ AddInv base G cs (upd2 L k (plI k n) (L k (plI k n) ++ [x])) f w w'
theorem below_then' {B : Nat} {w w1 w2 : World} (h : Below B w w1) (k : Below B w1 w2) : Below B w w2 := h.trans k
def PlacePost (cs : List Cp) (ws : List Ex) (w : World) (e : Ending) (w' : World) : Prop :=
  Below w.heap.size w w' ∧
  ((patErr cs ≠ 0 ∧ e = .returned (.tuple #[.slice none 0 0, .slice none 0 0, .int .i64 (patErr cs)])) ∨
   (patErr cs = 0 ∧ placeErr cs ws ≠ 0 ∧ e = .returned (.tuple #[.slice none 0 0, .slice none 0 0, .int .i64 (placeErr cs ws)])) ∨
   (patErr cs = 0 ∧ placeErr cs ws = 0 ∧ ∃ G S N T U Pl nb cap junk V f base, w.heap.size ≤ base ∧ LayIn w' base G cs (placeL cs ws) S N T U Pl nb cap junk V f ∧ e = .returned (.tuple #[.slice (some ⟨S, 0, none⟩) (stg cs) (stg cs), V 5 0, .int .i64 0])))

set_option maxHeartbeats 4000000 in
set_option maxRecDepth 100000 in
theorem Place_any (hadd_ : AddLaw) (cs : List Cp) (A : Option Addr) (c : Nat) (q1 : ByteArray) (q2 : Int) (v3 : Value) (ws : List Ex) (AW : Option Addr) (cw : Nat) (q5 : Int) (q6 : ByteArray) (v7 : Value) (h3 : v3.oneCell' = true) (h7 : v7.oneCell' = true) (w : World)
    (hc : cs.length ≤ c) (hC : kCp.C w A cs.length cs) (hnm : ∀ x ∈ cs, x.f3.size ≤ maxLen) (hW : kEx.C w AW ws.length ws) (hws : exNL ws ≤ 100000) (hnr : ∀ x ∈ ws, ∀ r ∈ refsOf x, r.f0.size ≤ maxLen) :
    Calls Try.prog 17 #[.agg #[.slice A cs.length c, .string q1, .int .i64 q2, v3, .slice AW ws.length cw, .int .i64 q5, .string q6, v7]] w (PlacePost cs ws w) := by
  have HADL := Lib.hid hadd_
  clear hadd_
  have hwl := exNL_len ws
  have hmx := hW.2.1
  have hb1 := below_new w (.cells #[.slice A cs.length c, .string q1, .int .i64 q2, v3, .slice AW ws.length cw, .int .i64 q5, .string q6, v7] 27)
  have hQ := blk_new w (.cells #[.slice A cs.length c, .string q1, .int .i64 q2, v3, .slice AW ws.length cw, .int .i64 q5, .string q6, v7] 27)
  have hpat := patternOf_any cs A c q1 q2 v3 (.slice AW ws.length cw) q5 q6 v7 h3 rfl h7 _ hc (Kd.C_below hC hb1) hnm
  have HW := Lib.hid (Kd.C_below hW hb1)
  have HNR := Lib.hid hnr
  have HWS := Lib.hid hws
  obtain ⟨pe, hpe⟩ : ∃ pe, pe = patErr cs := ⟨_, rfl⟩
  unfold PatPost at hpat
  rw [← hpe] at hpat
  have HPE := Lib.hid hpe
  obtain ⟨qe, hqe⟩ : ∃ qe, qe = placeErr cs ws := ⟨_, rfl⟩
  have HQE := Lib.hid hqe
  clear hpe hqe hC hW hnr hnm hws hc
  go_enter Try.func17, Try.ntmps17
  go_wp2_with fail
  generalize w.alloc (.cells #[.slice A cs.length c, .string q1, .int .i64 q2, v3, .slice AW ws.length cw, .int .i64 q5, .string q6, v7] 27) = W1 at *
  refine hpat.mono ?_
  rintro e W2 ⟨hb, hcase⟩
  have hB2 := below_step hb1 hb
  have hQ2 := blk_below hQ hb
  rcases hcase with ⟨hne, rfl⟩ | ⟨he, gp, rfl, hgp, hp⟩
  · have d : (pe != 0) = true := by simpa using hne
    go_wp2_with fail
    go_ret3
    exact ⟨hB2, Or.inl ⟨by rw [← HPE.out]; exact hne, by rw [← HPE.out]; rfl⟩⟩
  · subst he
    have hpp := patErr_parts HPE.out.symm
    have hlo := layoutOf_any cs gp A c W2 hp hpp.2.1 hpp.1 hpp.2.2.2.2
    have HPP := Lib.hid hpp
    have HP := Lib.hid hp
    clear hpp hp
    go_wp2_with fail
    refine hlo.mono ?_
    rintro e W3 ⟨hb3, G, rfl, S, N, X, hL2⟩
    obtain ⟨T, U, Pl, nb, cap, junk, hLI⟩ := hL2.lay
    have HLA := Lib.hid (show ∃ f, LayF W3 W2.heap.size G cs (placeL cs (ws.take 0)) f from ⟨_, S, N, T, U, Pl, nb, cap, junk, _, hLI⟩)
    have hQ3 := blk_below hQ2 hb3
    have z4 := (blk_cell hQ3 4).trans rfl
    clear hL2 hLI
    go_wp2_with fail
    go_loopw [26] (fun t26 wr => ∃ j : Nat, j ≤ ws.length ∧ t26 = .int .i64 j ∧ Below W2.heap.size W2 wr ∧ Hid (∃ f, LayF wr W2.heap.size G cs (placeL cs (ws.take j)) f) ∧ Hid ((ws.take j).find? (fun x => (anchorOf cs (refsOf x)).2.2 != 0) = none)) (fun t26 _ => ws.length - (intOf t26).toNat)
    case atStart => exact ⟨0, by omega, rfl, hb3, HLA, Lib.hid rfl⟩
    case round =>
      obtain ⟨j, hj, rfl, hB, hL, hF⟩ := hrel
      by_cases hlt : j < ws.length
      · have i1 : (0 : Int) ≤ (j : Int) := by omega
        have i2 : (j : Int) < ws.length := by omega
        have hat := atEx (Kd.C_below HW.out hb) j i1 i2
        simp only [Int.toNat_natCast] at hat
        obtain ⟨ad, B9, b9, rfl, e0, e1, e2, e3, e4, e5, e6, e7, e8, e9, hl9, hi9⟩ := hat
        have HR := Lib.hid (rdEx_get ws j hlt)
        have e0 := pw_cell_below hB e0
        have e1 := pw_cell_below hB e1
        have e2 := pw_cell_below hB e2
        have e3 := pw_cell_below hB e3
        have e4 := pw_cell_below hB e4
        have e5 := pw_cell_below hB e5
        have e6 := pw_cell_below hB e6
        have e7 := pw_cell_below hB e7
        have e8 := pw_cell_below hB e8
        have e9 := pw_cell_below hB e9
        have HCW := Lib.hid hi9
        have hi9 := Kd.C_below hi9 hB
        generalize rdEx ws j = y at *
        have hyN : exN y ≤ exNL ws := by rw [HR.out]; exact exN_get _ _ hlt
        have hyB : exN y ≤ 100000000000 := by have := HWS.out; omega
        have hmem : y ∈ ws := by rw [HR.out]; exact List.getElem_mem hlt
        have HT := Lib.hid (show ws.take (j + 1) = ws.take j ++ [y] by rw [List.take_succ_eq_append_getElem hlt, HR.out])
        have hbn := below_new wr (.cells #[.int .i64 y.f0, .int .i64 y.f1, .int .i64 y.f2.f0, .int .i64 y.f2.f1, .string y.f2.f2, .bool y.f2.f3, .string y.f3, .int .i64 y.f4, .string y.f5, .slice B9 y.f6.length b9] 31)
        have hY := blk_new wr (.cells #[.int .i64 y.f0, .int .i64 y.f1, .int .i64 y.f2.f0, .int .i64 y.f2.f1, .string y.f2.f2, .bool y.f2.f3, .string y.f3, .int .i64 y.f4, .string y.f5, .slice B9 y.f6.length b9] 31)
        have hB4 := below_step hB hbn
        have hanc := anchor_any cs gp A c y B9 b9 _ HPP.out.1 (HP.out.below hB4) (HNR.out y hmem) hyB hl9 (Kd.C_below hi9 hbn)
        have HC9 := Lib.hid (Kd.C_below hi9 hbn)
        have HL9 := Lib.hid hl9
        obtain ⟨f0, hL0⟩ := hL.out
        have HL4 := Lib.hid (hL0.fresh.below hbn)
        have HN9 := Lib.hid hyB
        obtain ⟨an, han⟩ : ∃ an, an = anchorOf cs (refsOf y) := ⟨_, rfl⟩
        unfold MixPost at hanc
        rw [← han] at hanc
        have HAN := Lib.hid han
        have HANC := Lib.hid hanc
        unfold exV at HANC
        clear han hanc hi9 hl9 hyN hyB
        obtain ⟨a1, a2, a3⟩ := an
        go_wp2_with fail
        generalize wr.alloc (.cells #[.int .i64 y.f0, .int .i64 y.f1, .int .i64 y.f2.f0, .int .i64 y.f2.f1, .string y.f2.f2, .bool y.f2.f3, .string y.f3, .int .i64 y.f4, .string y.f5, .slice B9 y.f6.length b9] 31) = W4 at *
        refine HANC.out.mono ?_
        rintro e W5 ⟨hb5, rfl⟩
        have hB5 := below_step hB4 hb5
        have hY5 := blk_below hY hb5
        have y0 := (blk_cell hY5 0).trans rfl
        have y1 := (blk_cell hY5 1).trans rfl
        have y2 := (blk_cell hY5 2).trans rfl
        have y3 := (blk_cell hY5 3).trans rfl
        have y4 := (blk_cell hY5 4).trans rfl
        have y5 := (blk_cell hY5 5).trans rfl
        have y6 := (blk_cell hY5 6).trans rfl
        have y7 := (blk_cell hY5 7).trans rfl
        have y8 := (blk_cell hY5 8).trans rfl
        have y9 := (blk_cell hY5 9).trans rfl
        by_cases h0 : a3 = 0
        · subst h0
          have hva := anchor_valid HAN.out.symm HPE.out.symm
          obtain ⟨k, n, rfl, rfl, hv, hni⟩ := hva
          have hll : ∀ k i, (placeL cs (ws.take j) k i).length ≤ 300000 := by
            intro k i
            have := placeL_len cs (ws.take j) k i
            rw [List.length_take] at this
            have := HWS.out
            omega
          have hadd := HADL.out _ _ _ _ _ _ (HL4.out.below hb5) k n hv hni y B9 b9 HN9.out HL9.out (Kd.C_below HC9.out hb5) (by have := hll k (plI k n); omega) hB5.size
          have hF2 := Lib.hid (show (ws.take (j + 1)).find? (fun x => (anchorOf cs (refsOf x)).2.2 != 0) = none by rw [HT.out, List.find?_append, hF.out]; simp [← HAN.out])
          have HADD := Lib.hid hadd
          have HLL := Lib.hid hll
          have HF7 := Lib.hid (show (fun b => if wr.heap.size ≤ b then 7 else f0 b) wr.heap.size = 7 from if_pos (Nat.le_refl _))
          have HHV := Lib.hid hv
          unfold exV at HADD
          clear hadd hll hv
          go_wp2_with fail
          refine HADD.out.mono ?_
          rintro e W6 ⟨rfl, hb6, f6, hL6, hf6, hk6⟩
          have hY6 := hk6 _ _ HF7.out hY5
          have hb26 : Below W2.heap.size W2 W6 := below_then' hB5 hb6
          have y0 := (blk_cell hY6 0).trans rfl
          have y1 := (blk_cell hY6 1).trans rfl
          have y2 := (blk_cell hY6 2).trans rfl
          have y3 := (blk_cell hY6 3).trans rfl
          have y4 := (blk_cell hY6 4).trans rfl
          have y5 := (blk_cell hY6 5).trans rfl
          have y6 := (blk_cell hY6 6).trans rfl
          have y7 := (blk_cell hY6 7).trans rfl
          have y8 := (blk_cell hY6 8).trans rfl
          have y9 := (blk_cell hY6 9).trans rfl
          by_cases hk2 : k = 2
          · subst hk2
            have HAG := Lib.hid (again_any y B9 b9 W6 HN9.out HL9.out (Kd.C_below HCW.out hb26))
            unfold exV at HAG
            obtain ⟨ab, hab⟩ : ∃ ab, ab = againOf y := ⟨_, rfl⟩
            rw [← hab] at HAG
            have HAB := Lib.hid hab
            clear hab
            go_wp2_with fail
            refine HAG.out.mono ?_
            rintro e W7 ⟨rfl, hb7⟩
            have hb27 := below_step hb26 hb7
            have hL7 := hL6.below hb7
            have hY7 := blk_below hY6 hb7
            have y0 := (blk_cell hY7 0).trans rfl
            have y1 := (blk_cell hY7 1).trans rfl
            have y2 := (blk_cell hY7 2).trans rfl
            have y3 := (blk_cell hY7 3).trans rfl
            have y4 := (blk_cell hY7 4).trans rfl
            have y5 := (blk_cell hY7 5).trans rfl
            have y6 := (blk_cell hY7 6).trans rfl
            have y7 := (blk_cell hY7 7).trans rfl
            have y8 := (blk_cell hY7 8).trans rfl
            have y9 := (blk_cell hY7 9).trans rfl
            cases ab with
            | true =>
              have hv2 : VP cs 1 (plI 1 n) := by
                rcases HHV.out with ⟨_, h⟩ | ⟨h, _⟩ | ⟨h, _⟩
                · exact Or.inl ⟨Or.inl rfl, h⟩
                · exact absurd h (by decide)
                · exact absurd h (by decide)
              have hl2 : (upd2 (placeL cs (ws.take j)) 2 (plI 2 n) (placeL cs (ws.take j) 2 (plI 2 n) ++ [y]) 1 (plI 1 n)).length ≤ 1000000 := by
                have : upd2 (placeL cs (ws.take j)) 2 (plI 2 n) (placeL cs (ws.take j) 2 (plI 2 n) ++ [y]) 1 (plI 1 n) = placeL cs (ws.take j) 1 (plI 1 n) := by simp [upd2]
                rw [this]
                have := HLL.out 1 (plI 1 n)
                omega
              have hadd2 := HADL.out _ _ _ _ _ _ hL7 1 n hv2 (Or.inr rfl) y B9 b9 HN9.out HL9.out (Kd.C_below HCW.out hb27) hl2 hb27.size
              have HADD2 := Lib.hid hadd2
              unfold exV at HADD2
              clear hadd2 hv2 hl2
              go_wp2_with fail
              refine HADD2.out.mono ?_
              rintro e W8 ⟨rfl, hb8, f8, hL8, hf8, hk8⟩
              have hb28 := below_then' hb27 hb8
              have HST := Lib.hid (show ∃ f, LayF W8 W2.heap.size G cs (placeL cs (ws.take (j + 1))) f by
                rw [HT.out, placeL_snoc]
                unfold placeStep
                rw [← HAN.out, if_pos ⟨rfl, HAB.out.symm⟩]
                exact ⟨f8, hL8⟩)
              go_wp2_with fail
              go_roundw
              case rel => exact ⟨j + 1, by omega, by go_num, hb28, HST, hF2⟩
              case measure => simp [intOf]; omega
            | false =>
              have HST := Lib.hid (show ∃ f, LayF W7 W2.heap.size G cs (placeL cs (ws.take (j + 1))) f by
                rw [HT.out, placeL_snoc]
                unfold placeStep
                rw [← HAN.out, if_neg (by rintro ⟨_, h⟩; rw [← HAB.out] at h; exact absurd h (by decide))]
                exact ⟨f6, hL7⟩)
              go_wp2_with fail
              go_roundw
              case rel => exact ⟨j + 1, by omega, by go_num, hb27, HST, hF2⟩
              case measure => simp [intOf]; omega
          · have dk : ((k : Int) == 2) = false := by rw [beq_eq_false_iff_ne]; omega
            have HST := Lib.hid (show ∃ f, LayF W6 W2.heap.size G cs (placeL cs (ws.take (j + 1))) f by
              rw [HT.out, placeL_snoc]
              unfold placeStep
              rw [← HAN.out, if_neg (by rintro ⟨h, _⟩; exact hk2 (by have h : (k : Int) = 2 := h; omega))]
              exact ⟨f6, hL6⟩)
            go_wp2_with fail
            go_roundw
            case rel => exact ⟨j + 1, by omega, by go_num, hb26, HST, hF2⟩
            case measure => simp [intOf]; omega
        · have d : (a3 != 0) = true := by simpa using h0
          have HE := Lib.hid (show qe = a3 by
            rw [HQE.out]
            unfold placeErr
            have h1 : (ws.take (j + 1)).find? (fun x => (anchorOf cs (refsOf x)).2.2 != 0) = some y := by
              rw [HT.out, List.find?_append, hF.out]
              simp [← HAN.out, h0]
            have h2 : ws.find? (fun x => (anchorOf cs (refsOf x)).2.2 != 0) = some y := by
              rw [← List.take_append_drop (j + 1) ws, List.find?_append, h1]
              rfl
            rw [h2]
            show (anchorOf cs (refsOf y)).2.2 = a3
            rw [← HAN.out])
          go_wp2_with fail
          go_ret3
          exact ⟨below_step hB2 hB5, Or.inr (Or.inl ⟨HPE.out.symm, by rw [← HQE.out, HE.out]; exact h0, by rw [← HQE.out, HE.out]; rfl⟩)⟩
      · obtain rfl : j = ws.length := by omega
        have hL2 := hL.out
        have hF2 := hF.out
        rw [List.take_of_length_le (Nat.le_refl _)] at hL2 hF2
        obtain ⟨f, S, N, T, U, Pl, nb, cap, junk, V, hI⟩ := hL2
        have hE : qe = 0 := by
          rw [HQE.out]
          unfold placeErr
          rw [hF2]
        have HE := Lib.hid hE
        have HI := Lib.hid hI
        have g0 := (blk_cell hI.hG 0).trans rfl
        obtain ⟨AF, cF, hVF⟩ := Kd.R_slice (hI.hL 5 0 (by decide))
        have g2 := (blk_cell hI.hG 2).trans rfl
        rw [hVF] at g2
        have HVF := Lib.hid hVF
        clear hI hF2 hE hVF
        go_wp2_with fail
        go_quiet (fail)
        go_wp2_with fail
        go_ret3
        exact ⟨pw_below_drewN (below_step hB2 hB) _, Or.inr (Or.inr ⟨HPE.out.symm, HQE.out.symm.trans HE.out, G, S, N, T, U, Pl, nb, cap, junk, V, f, _, hB2.size, HI.out.below (pw_below_drewN (Below.refl _ _) _), by rw [HVF.out]; rfl⟩)⟩
end Go.Proofs.Ytgnifglolbfamaa
