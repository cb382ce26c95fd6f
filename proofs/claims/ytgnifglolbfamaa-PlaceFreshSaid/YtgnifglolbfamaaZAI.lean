/- Texts of the claim, merged in build order: PmA, PmB. -/
import Derived.Test.YtgnifglolbfamaaZAG
import Derived.Test.YtgnifglolbfamaaZAH
/- The walk of place.Place. -/
set_option linter.unusedVariables false
set_option linter.unusedSimpArgs false
namespace Go.Proofs.Ytgnifglolbfamaa
open Go.RowKit Go.Proofs.YtgnifglolbfamaaW.PrintWords

def addP (L : Nat → Nat → List Ex) (k n : Nat) (x : Ex) : Nat → Nat → List Ex := upd2 L k (plI k n) (L k (plI k n) ++ [x])
def placeStep (cs : List Cp) (L : Nat → Nat → List Ex) (x : Ex) : Nat → Nat → List Ex :=
  if (anchorOf cs (refsOf x)).1 = 2 ∧ againOf x = true then addP (addP L (anchorOf cs (refsOf x)).1.toNat (anchorOf cs (refsOf x)).2.1.toNat x) 1 (anchorOf cs (refsOf x)).2.1.toNat x
  else addP L (anchorOf cs (refsOf x)).1.toNat (anchorOf cs (refsOf x)).2.1.toNat x
def placeL (cs : List Cp) (ws : List Ex) : Nat → Nat → List Ex := ws.foldl (placeStep cs) (fun _ _ => [])
def placeErr (cs : List Cp) (ws : List Ex) : Int :=
  match ws.find? (fun x => (anchorOf cs (refsOf x)).2.2 != 0) with
  | some x => (anchorOf cs (refsOf x)).2.2
  | none => 0
theorem placeL_snoc (cs : List Cp) (ws : List Ex) (x : Ex) : placeL cs (ws ++ [x]) = placeStep cs (placeL cs ws) x := by unfold placeL; rw [List.foldl_append]; rfl
theorem addP_len (L : Nat → Nat → List Ex) (k n : Nat) (x : Ex) (B : Nat) (h : ∀ k i, (L k i).length ≤ B) : ∀ k' i', (addP L k n x k' i').length ≤ B + 1 := by
  intro k' i'
  unfold addP upd2
  split
  · rw [List.length_append]; have := h k (plI k n); simp; omega
  · have := h k' i'; omega
theorem placeStep_len (cs : List Cp) (L : Nat → Nat → List Ex) (x : Ex) (B : Nat) (h : ∀ k i, (L k i).length ≤ B) : ∀ k' i', (placeStep cs L x k' i').length ≤ B + 2 := by
  intro k' i'
  unfold placeStep
  split
  · exact addP_len _ _ _ _ (B + 1) (addP_len _ _ _ _ B h) k' i'
  · have := addP_len L (anchorOf cs (refsOf x)).1.toNat (anchorOf cs (refsOf x)).2.1.toNat x B h k' i'; omega
theorem placeL_len (cs : List Cp) (ws : List Ex) : ∀ k i, (placeL cs ws k i).length ≤ 2 * ws.length := by
  have : ∀ (ws : List Ex) (L : Nat → Nat → List Ex) (B : Nat), (∀ k i, (L k i).length ≤ B) → ∀ k i, (ws.foldl (placeStep cs) L k i).length ≤ B + 2 * ws.length := by
    intro ws
    induction ws with
    | nil => intro L B h k i; exact h k i
    | cons x ws ih =>
      intro L B h k i
      have := ih (placeStep cs L x) (B + 2) (placeStep_len cs L x B h) k i
      simp only [List.foldl_cons, List.length_cons]
      omega
  intro k i
  have := this ws (fun _ _ => []) 0 (by simp) k i
  unfold placeL
  omega
theorem exNL_len : ∀ l : List Ex, l.length ≤ exNL l
  | [] => by simp
  | x :: l => by have := exNL_len l; have := exN_eq x; simp only [List.length_cons, exNL]; omega

/-- What PlY shows of layout.add. -/
def AddLaw : Prop := ∀ (base G : Nat) (cs : List Cp) (L : Nat → Nat → List Ex) (w : World) (f : Nat → Nat), LayF w base G cs L f → ∀ (k n : Nat), VP cs k (plI k n) → (k = 5 ∨ n = plI k n) → ∀ (x : Ex) (A : Option Addr) (c : Nat), exN x ≤ 100000000000 → x.f6.length ≤ c → kEx.C w A x.f6.length x.f6 → (L k (plI k n)).length ≤ 1000000 → base ≤ w.heap.size →
    Calls Try.prog 43 #[.pointer (some ⟨G, 0, none⟩), .int .i64 k, .int .i64 n, exV x (.slice A x.f6.length c)] w fun e w' => e = .returned (.tuple #[]) ∧ AddInv base G cs (upd2 L k (plI k n) (L k (plI k n) ++ [x])) f w w'
theorem below_then' {B : Nat} {w w1 w2 : World} (h : Below B w w1) (k : Below B w1 w2) : Below B w w2 := h.trans k
def PlacePost (cs : List Cp) (ws : List Ex) (w : World) (e : Ending) (w' : World) : Prop :=
  Below w.heap.size w w' ∧
  ((patErr cs ≠ 0 ∧ e = .returned (.tuple #[.slice none 0 0, .slice none 0 0, .int .i64 (patErr cs)])) ∨
   (patErr cs = 0 ∧ placeErr cs ws ≠ 0 ∧ e = .returned (.tuple #[.slice none 0 0, .slice none 0 0, .int .i64 (placeErr cs ws)])) ∨
   (patErr cs = 0 ∧ placeErr cs ws = 0 ∧ ∃ G S N T U Pl nb cap junk V f base, w.heap.size ≤ base ∧ LayIn w' base G cs (placeL cs ws) S N T U Pl nb cap junk V f ∧ e = .returned (.tuple #[.slice (some ⟨S, 0, none⟩) (stg cs) (stg cs), V 5 0, .int .i64 0])))

set_option maxHeartbeats 4000000 in
set_option maxRecDepth 100000 in
theorem Place_any (hadd_ : AddLaw) (cs : List Cp) (A : Option Addr) (c : Nat) (q1 : ByteArray) (q2 : Int) (v3 : Value) (ws : List Ex) (AW : Option Addr) (cw : Nat) (q5 : Int) (q6 : ByteArray) (v7 : Value) (h3 : v3.oneCell' = true) (h7 : v7.oneCell' = true) (w : World)
    (hc : cs.length ≤ c) (hC : kCp.C w A cs.length cs) (hnm : ∀ x ∈ cs, x.f3.size ≤ maxLen) (hW : kEx.C w AW ws.length ws) (hws : exNL ws ≤ 100000) (hnr : ∀ x ∈ ws, ∀ r ∈ refsOf x, r.f0.size ≤ maxLen) :
    Calls Try.prog 17 #[.agg #[.slice A cs.length c, .string q1, .int .i64 q2, v3, .slice AW ws.length cw, .int .i64 q5, .string q6, v7]] w (PlacePost cs ws w) := by
  have HADL := Lib.hid hadd_
  clear hadd_
  have hwl := exNL_len ws
  have hmx := hW.2.1
  have hb1 := below_new w (.cells #[.slice A cs.length c, .string q1, .int .i64 q2, v3, .slice AW ws.length cw, .int .i64 q5, .string q6, v7] 27)
  have hQ := blk_new w (.cells #[.slice A cs.length c, .string q1, .int .i64 q2, v3, .slice AW ws.length cw, .int .i64 q5, .string q6, v7] 27)
  have hpat := patternOf_any cs A c q1 q2 v3 (.slice AW ws.length cw) q5 q6 v7 h3 rfl h7 _ hc (Kd.C_below hC hb1) hnm
  have HW := Lib.hid (Kd.C_below hW hb1)
  have HNR := Lib.hid hnr
  have HWS := Lib.hid hws
  obtain ⟨pe, hpe⟩ : ∃ pe, pe = patErr cs := ⟨_, rfl⟩
  unfold PatPost at hpat
  rw [← hpe] at hpat
  have HPE := Lib.hid hpe
  obtain ⟨qe, hqe⟩ : ∃ qe, qe = placeErr cs ws := ⟨_, rfl⟩
  have HQE := Lib.hid hqe
  clear hpe hqe hC hW hnr hnm hws hc
  go_enter Try.func17, Try.ntmps17
  go_wp2_with fail
  generalize w.alloc (.cells #[.slice A cs.length c, .string q1, .int .i64 q2, v3, .slice AW ws.length cw, .int .i64 q5, .string q6, v7] 27) = W1 at *
  refine hpat.mono ?_
  rintro e W2 ⟨hb, hcase⟩
  have hB2 := below_step hb1 hb
  have hQ2 := blk_below hQ hb
  rcases hcase with ⟨hne, rfl⟩ | ⟨he, gp, rfl, hgp, hp⟩
  · have d : (pe != 0) = true := by simpa using hne
    go_wp2_with fail
    go_ret3
    exact ⟨hB2, Or.inl ⟨by rw [← HPE.out]; exact hne, by rw [← HPE.out]; rfl⟩⟩
  · subst he
    have hpp := patErr_parts HPE.out.symm
    have hlo := layoutOf_any cs gp A c W2 hp hpp.2.1 hpp.1 hpp.2.2.2.2
    have HPP := Lib.hid hpp
    have HP := Lib.hid hp
    clear hpp hp
    go_wp2_with fail
    refine hlo.mono ?_
    rintro e W3 ⟨hb3, G, rfl, S, N, X, hL2⟩
    obtain ⟨T, U, Pl, nb, cap, junk, hLI⟩ := hL2.lay
    have HLA := Lib.hid (show ∃ f, LayF W3 W2.heap.size G cs (placeL cs (ws.take 0)) f from ⟨_, S, N, T, U, Pl, nb, cap, junk, _, hLI⟩)
    have hQ3 := blk_below hQ2 hb3
    have z4 := (blk_cell hQ3 4).trans rfl
    clear hL2 hLI
    go_wp2_with fail
    go_loopw [26] (fun t26 wr => ∃ j : Nat, j ≤ ws.length ∧ t26 = .int .i64 j ∧ Below W2.heap.size W2 wr ∧ Hid (∃ f, LayF wr W2.heap.size G cs (placeL cs (ws.take j)) f) ∧ Hid ((ws.take j).find? (fun x => (anchorOf cs (refsOf x)).2.2 != 0) = none)) (fun t26 _ => ws.length - (intOf t26).toNat)
    case atStart => exact ⟨0, by omega, rfl, hb3, HLA, Lib.hid rfl⟩
    case round =>
      obtain ⟨j, hj, rfl, hB, hL, hF⟩ := hrel
      by_cases hlt : j < ws.length
      · have i1 : (0 : Int) ≤ (j : Int) := by omega
        have i2 : (j : Int) < ws.length := by omega
        have hat := atEx (Kd.C_below HW.out hb) j i1 i2
        simp only [Int.toNat_natCast] at hat
        obtain ⟨ad, B9, b9, rfl, e0, e1, e2, e3, e4, e5, e6, e7, e8, e9, hl9, hi9⟩ := hat
        have HR := Lib.hid (rdEx_get ws j hlt)
        have e0 := pw_cell_below hB e0
        have e1 := pw_cell_below hB e1
        have e2 := pw_cell_below hB e2
        have e3 := pw_cell_below hB e3
        have e4 := pw_cell_below hB e4
        have e5 := pw_cell_below hB e5
        have e6 := pw_cell_below hB e6
        have e7 := pw_cell_below hB e7
        have e8 := pw_cell_below hB e8
        have e9 := pw_cell_below hB e9
        have HCW := Lib.hid hi9
        have hi9 := Kd.C_below hi9 hB
        generalize rdEx ws j = y at *
        have hyN : exN y ≤ exNL ws := by rw [HR.out]; exact exN_get _ _ hlt
        have hyB : exN y ≤ 100000000000 := by have := HWS.out; omega
        have hmem : y ∈ ws := by rw [HR.out]; exact List.getElem_mem hlt
        have HT := Lib.hid (show ws.take (j + 1) = ws.take j ++ [y] by rw [List.take_succ_eq_append_getElem hlt, HR.out])
        have hbn := below_new wr (.cells #[.int .i64 y.f0, .int .i64 y.f1, .int .i64 y.f2.f0, .int .i64 y.f2.f1, .string y.f2.f2, .bool y.f2.f3, .string y.f3, .int .i64 y.f4, .string y.f5, .slice B9 y.f6.length b9] 31)
        have hY := blk_new wr (.cells #[.int .i64 y.f0, .int .i64 y.f1, .int .i64 y.f2.f0, .int .i64 y.f2.f1, .string y.f2.f2, .bool y.f2.f3, .string y.f3, .int .i64 y.f4, .string y.f5, .slice B9 y.f6.length b9] 31)
        have hB4 := below_step hB hbn
        have hanc := anchor_any cs gp A c y B9 b9 _ HPP.out.1 (HP.out.below hB4) (HNR.out y hmem) hyB hl9 (Kd.C_below hi9 hbn)
        have HC9 := Lib.hid (Kd.C_below hi9 hbn)
        have HL9 := Lib.hid hl9
        obtain ⟨f0, hL0⟩ := hL.out
        have HL4 := Lib.hid (hL0.fresh.below hbn)
        have HN9 := Lib.hid hyB
        obtain ⟨an, han⟩ : ∃ an, an = anchorOf cs (refsOf y) := ⟨_, rfl⟩
        unfold MixPost at hanc
        rw [← han] at hanc
        have HAN := Lib.hid han
        have HANC := Lib.hid hanc
        unfold exV at HANC
        clear han hanc hi9 hl9 hyN hyB
        obtain ⟨a1, a2, a3⟩ := an
        go_wp2_with fail
        generalize wr.alloc (.cells #[.int .i64 y.f0, .int .i64 y.f1, .int .i64 y.f2.f0, .int .i64 y.f2.f1, .string y.f2.f2, .bool y.f2.f3, .string y.f3, .int .i64 y.f4, .string y.f5, .slice B9 y.f6.length b9] 31) = W4 at *
        refine HANC.out.mono ?_
        rintro e W5 ⟨hb5, rfl⟩
        have hB5 := below_step hB4 hb5
        have hY5 := blk_below hY hb5
        have y0 := (blk_cell hY5 0).trans rfl
        have y1 := (blk_cell hY5 1).trans rfl
        have y2 := (blk_cell hY5 2).trans rfl
        have y3 := (blk_cell hY5 3).trans rfl
        have y4 := (blk_cell hY5 4).trans rfl
        have y5 := (blk_cell hY5 5).trans rfl
        have y6 := (blk_cell hY5 6).trans rfl
        have y7 := (blk_cell hY5 7).trans rfl
        have y8 := (blk_cell hY5 8).trans rfl
        have y9 := (blk_cell hY5 9).trans rfl
        by_cases h0 : a3 = 0
        · subst h0
          have hva := anchor_valid HAN.out.symm HPE.out.symm
          obtain ⟨k, n, rfl, rfl, hv, hni⟩ := hva
          have hll : ∀ k i, (placeL cs (ws.take j) k i).length ≤ 300000 := by
            intro k i
            have := placeL_len cs (ws.take j) k i
            rw [List.length_take] at this
            have := HWS.out
            omega
          have hadd := HADL.out _ _ _ _ _ _ (HL4.out.below hb5) k n hv hni y B9 b9 HN9.out HL9.out (Kd.C_below HC9.out hb5) (by have := hll k (plI k n); omega) hB5.size
          have hF2 := Lib.hid (show (ws.take (j + 1)).find? (fun x => (anchorOf cs (refsOf x)).2.2 != 0) = none by rw [HT.out, List.find?_append, hF.out]; simp [← HAN.out])
          have HADD := Lib.hid hadd
          have HLL := Lib.hid hll
          have HF7 := Lib.hid (show (fun b => if wr.heap.size ≤ b then 7 else f0 b) wr.heap.size = 7 from if_pos (Nat.le_refl _))
          have HHV := Lib.hid hv
          unfold exV at HADD
          clear hadd hll hv
          go_wp2_with fail
          refine HADD.out.mono ?_
          rintro e W6 ⟨rfl, hb6, f6, hL6, hf6, hk6⟩
          have hY6 := hk6 _ _ HF7.out hY5
          have hb26 : Below W2.heap.size W2 W6 := below_then' hB5 hb6
          have y0 := (blk_cell hY6 0).trans rfl
          have y1 := (blk_cell hY6 1).trans rfl
          have y2 := (blk_cell hY6 2).trans rfl
          have y3 := (blk_cell hY6 3).trans rfl
          have y4 := (blk_cell hY6 4).trans rfl
          have y5 := (blk_cell hY6 5).trans rfl
          have y6 := (blk_cell hY6 6).trans rfl
          have y7 := (blk_cell hY6 7).trans rfl
          have y8 := (blk_cell hY6 8).trans rfl
          have y9 := (blk_cell hY6 9).trans rfl
          by_cases hk2 : k = 2
          · subst hk2
            have HAG := Lib.hid (again_any y B9 b9 W6 HN9.out HL9.out (Kd.C_below HCW.out hb26))
            unfold exV at HAG
            obtain ⟨ab, hab⟩ : ∃ ab, ab = againOf y := ⟨_, rfl⟩
            rw [← hab] at HAG
            have HAB := Lib.hid hab
            clear hab
            go_wp2_with fail
            refine HAG.out.mono ?_
            rintro e W7 ⟨rfl, hb7⟩
            have hb27 := below_step hb26 hb7
            have hL7 := hL6.below hb7
            have hY7 := blk_below hY6 hb7
            have y0 := (blk_cell hY7 0).trans rfl
            have y1 := (blk_cell hY7 1).trans rfl
            have y2 := (blk_cell hY7 2).trans rfl
            have y3 := (blk_cell hY7 3).trans rfl
            have y4 := (blk_cell hY7 4).trans rfl
            have y5 := (blk_cell hY7 5).trans rfl
            have y6 := (blk_cell hY7 6).trans rfl
            have y7 := (blk_cell hY7 7).trans rfl
            have y8 := (blk_cell hY7 8).trans rfl
            have y9 := (blk_cell hY7 9).trans rfl
            cases ab with
            | true =>
              have hv2 : VP cs 1 (plI 1 n) := by
                rcases HHV.out with ⟨_, h⟩ | ⟨h, _⟩ | ⟨h, _⟩
                · exact Or.inl ⟨Or.inl rfl, h⟩
                · exact absurd h (by decide)
                · exact absurd h (by decide)
              have hl2 : (upd2 (placeL cs (ws.take j)) 2 (plI 2 n) (placeL cs (ws.take j) 2 (plI 2 n) ++ [y]) 1 (plI 1 n)).length ≤ 1000000 := by
                have : upd2 (placeL cs (ws.take j)) 2 (plI 2 n) (placeL cs (ws.take j) 2 (plI 2 n) ++ [y]) 1 (plI 1 n) = placeL cs (ws.take j) 1 (plI 1 n) := by simp [upd2]
                rw [this]
                have := HLL.out 1 (plI 1 n)
                omega
              have hadd2 := HADL.out _ _ _ _ _ _ hL7 1 n hv2 (Or.inr rfl) y B9 b9 HN9.out HL9.out (Kd.C_below HCW.out hb27) hl2 hb27.size
              have HADD2 := Lib.hid hadd2
              unfold exV at HADD2
              clear hadd2 hv2 hl2
              go_wp2_with fail
              refine HADD2.out.mono ?_
              rintro e W8 ⟨rfl, hb8, f8, hL8, hf8, hk8⟩
              have hb28 := below_then' hb27 hb8
              have HST := Lib.hid (show ∃ f, LayF W8 W2.heap.size G cs (placeL cs (ws.take (j + 1))) f by
                rw [HT.out, placeL_snoc]
                unfold placeStep
                rw [← HAN.out, if_pos ⟨rfl, HAB.out.symm⟩]
                exact ⟨f8, hL8⟩)
              go_wp2_with fail
              go_roundw
              case rel => exact ⟨j + 1, by omega, by go_num, hb28, HST, hF2⟩
              case measure => simp [intOf]; omega
            | false =>
              have HST := Lib.hid (show ∃ f, LayF W7 W2.heap.size G cs (placeL cs (ws.take (j + 1))) f by
                rw [HT.out, placeL_snoc]
                unfold placeStep
                rw [← HAN.out, if_neg (by rintro ⟨_, h⟩; rw [← HAB.out] at h; exact absurd h (by decide))]
                exact ⟨f6, hL7⟩)
              go_wp2_with fail
              go_roundw
              case rel => exact ⟨j + 1, by omega, by go_num, hb27, HST, hF2⟩
              case measure => simp [intOf]; omega
          · have dk : ((k : Int) == 2) = false := by rw [beq_eq_false_iff_ne]; omega
            have HST := Lib.hid (show ∃ f, LayF W6 W2.heap.size G cs (placeL cs (ws.take (j + 1))) f by
              rw [HT.out, placeL_snoc]
              unfold placeStep
              rw [← HAN.out, if_neg (by rintro ⟨h, _⟩; exact hk2 (by have h : (k : Int) = 2 := h; omega))]
              exact ⟨f6, hL6⟩)
            go_wp2_with fail
            go_roundw
            case rel => exact ⟨j + 1, by omega, by go_num, hb26, HST, hF2⟩
            case measure => simp [intOf]; omega
        · have d : (a3 != 0) = true := by simpa using h0
          have HE := Lib.hid (show qe = a3 by
            rw [HQE.out]
            unfold placeErr
            have h1 : (ws.take (j + 1)).find? (fun x => (anchorOf cs (refsOf x)).2.2 != 0) = some y := by
              rw [HT.out, List.find?_append, hF.out]
              simp [← HAN.out, h0]
            have h2 : ws.find? (fun x => (anchorOf cs (refsOf x)).2.2 != 0) = some y := by
              rw [← List.take_append_drop (j + 1) ws, List.find?_append, h1]
              rfl
            rw [h2]
            show (anchorOf cs (refsOf y)).2.2 = a3
            rw [← HAN.out])
          go_wp2_with fail
          go_ret3
          exact ⟨below_step hB2 hB5, Or.inr (Or.inl ⟨HPE.out.symm, by rw [← HQE.out, HE.out]; exact h0, by rw [← HQE.out, HE.out]; rfl⟩)⟩
      · obtain rfl : j = ws.length := by omega
        have hL2 := hL.out
        have hF2 := hF.out
        rw [List.take_of_length_le (Nat.le_refl _)] at hL2 hF2
        obtain ⟨f, S, N, T, U, Pl, nb, cap, junk, V, hI⟩ := hL2
        have hE : qe = 0 := by
          rw [HQE.out]
          unfold placeErr
          rw [hF2]
        have HE := Lib.hid hE
        have HI := Lib.hid hI
        have g0 := (blk_cell hI.hG 0).trans rfl
        obtain ⟨AF, cF, hVF⟩ := Kd.R_slice (hI.hL 5 0 (by decide))
        have g2 := (blk_cell hI.hG 2).trans rfl
        rw [hVF] at g2
        have HVF := Lib.hid hVF
        clear hI hF2 hE hVF
        go_wp2_with fail
        go_quiet (fail)
        go_wp2_with fail
        go_ret3
        exact ⟨pw_below_drewN (below_step hB2 hB) _, Or.inr (Or.inr ⟨HPE.out.symm, HQE.out.symm.trans HE.out, G, S, N, T, U, Pl, nb, cap, junk, V, f, _, hB2.size, HI.out.below (pw_below_drewN (Below.refl _ _) _), by rw [HVF.out]; rfl⟩)⟩
end Go.Proofs.Ytgnifglolbfamaa

/- The law's own query, whose places the document fixes: plain facts, and how what is written out lies in memory. -/
set_option linter.unusedVariables false
set_option linter.unusedSimpArgs false
namespace Go.Proofs.Ytgnifglolbfamaa
open Go.RowKit Go.Proofs.YtgnifglolbfamaaW.PrintWords

def bA : ByteArray := ⟨#[65]⟩
def bC : ByteArray := ⟨#[67]⟩
def bD : ByteArray := ⟨#[68]⟩
def ba : ByteArray := ⟨#[97]⟩
def bc : ByteArray := ⟨#[99]⟩
def bd : ByteArray := ⟨#[100]⟩
def cpsB : List Cp := [⟨false, false, bA, ba⟩, ⟨false, true, bC, bc⟩, ⟨false, false, bD, bd⟩]
def oneX : Ex := ⟨5, 6, zVal, ⟨#[]⟩, 0, ⟨#[]⟩, [refX bc 2, refX ba 1]⟩
def twoX : Ex := ⟨5, 6, zVal, ⟨#[]⟩, 0, ⟨#[]⟩, [refX bc 5, refX bd 1]⟩

theorem refs_one : refsOf oneX = [⟨bc, 2, ⟨#[120]⟩, 0⟩, ⟨ba, 1, ⟨#[120]⟩, 0⟩] := by
  simp [refsOf, oneX, refX, spk, spkL, refOf]
theorem refs_two : refsOf twoX = [⟨bc, 5, ⟨#[120]⟩, 0⟩, ⟨bd, 1, ⟨#[120]⟩, 0⟩] := by
  simp [refsOf, twoX, refX, spk, spkL, refOf]
theorem pat_B : patErr cpsB = 0 := by decide
theorem anc_one : anchorOf cpsB (refsOf oneX) = (2, 1, 0) := by rw [refs_one]; decide
theorem anc_two : anchorOf cpsB (refsOf twoX) = (1, 2, 0) := by rw [refs_two]; decide
theorem top_one : anchorTop cpsB (refsOf oneX) = (2, 1, 0) := by unfold anchorTop; rw [if_neg (by rw [pat_B]; simp), anc_one]
theorem top_two : anchorTop cpsB (refsOf twoX) = (1, 2, 0) := by unfold anchorTop; rw [if_neg (by rw [pat_B]; simp), anc_two]
theorem again_one : againOf oneX = true := by unfold againOf; rw [refs_one]; decide
theorem err_B : placeErr cpsB [oneX, twoX] = 0 := by
  unfold placeErr
  simp [List.find?, anc_one, anc_two]
theorem pl_B : placeL cpsB [oneX, twoX] 1 1 = [oneX] ∧ placeL cpsB [oneX, twoX] 2 1 = [oneX] ∧ placeL cpsB [oneX, twoX] 1 2 = [twoX] := by
  unfold placeL
  simp only [List.foldl_cons, List.foldl_nil, placeStep, anc_one, anc_two, again_one]
  simp [addP, upd2, plI]
theorem exN_one : exN oneX = 3 := by simp [oneX, refX, exN, exNL]
theorem exN_two : exN twoX = 3 := by simp [twoX, refX, exN, exNL]
theorem stg_B : stg cpsB = 3 := by decide

def c10 (x : Ex) (v : Value) : Array Value := #[.int .i64 x.f0, .int .i64 x.f1, .int .i64 x.f2.f0, .int .i64 x.f2.f1, .string x.f2.f2, .bool x.f2.f3, .string x.f3, .int .i64 x.f4, .string x.f5, v]
def c12 : Array Value := #[.bool false, .bool false, .string bA, .string ba, .bool false, .bool true, .string bC, .string bc, .bool false, .bool false, .string bD, .string bd]
theorem cps_reads {w : World} {g : Nat} (hb : w.heap[g]? = some (.cells c12 46 (0, 0))) : kCp.C w (some ⟨g, 0, none⟩) 3 cpsB :=
  reads_lit (d := kCp) hb rfl (Reps.snoc (Reps.snoc (Reps.snoc (Reps.none _ _) (kCp_mk w ⟨false, false, bA, ba⟩) rfl) (kCp_mk w ⟨false, true, bC, bc⟩) rfl) (kCp_mk w ⟨false, false, bD, bd⟩) rfl) (by decide) (by decide)
theorem kids_reads {w : World} {g : Nat} {a b : Ex} (ha : a.f6 = []) (hb' : b.f6 = []) {arr : Array Value} (hb : w.heap[g]? = some (.cells arr 31 (0, 0))) (harr : arr.toList = (c10 a (.slice none 0 0)).toList ++ (c10 b (.slice none 0 0)).toList) : kEx.C w (some ⟨g, 0, none⟩) 2 [a, b] := by
  have hk : ∀ x : Ex, x.f6 = [] → kEx.K w x (c10 x (.slice none 0 0)).toList := by
    intro x hx
    have h := kEx_mk w x (A9 := none) (c9 := 0) (by rw [hx]; exact Nat.le_refl _) (by rw [hx]; exact Kd.C_nil _ _)
    rw [hx] at h
    exact h
  refine reads_lit (d := kEx) hb rfl ?_ (by decide) (by simp)
  rw [harr]
  exact Reps.snoc (cs := (c10 a (.slice none 0 0)).toList) (ps := [a]) (Reps.snoc (Reps.none _ _) (hk a ha) rfl) (hk b hb') rfl
theorem pair_reads {w : World} {g g1 g2 : Nat} {x y : Ex} (hx : kEx.C w (some ⟨g1, 0, none⟩) x.f6.length x.f6) (hy : kEx.C w (some ⟨g2, 0, none⟩) y.f6.length y.f6) {c1 c2 : Nat} (h1 : x.f6.length ≤ c1) (h2 : y.f6.length ≤ c2) {arr : Array Value} (hb : w.heap[g]? = some (.cells arr 31 (0, 0)))
    (harr : arr.toList = (c10 x (.slice (some ⟨g1, 0, none⟩) x.f6.length c1)).toList ++ (c10 y (.slice (some ⟨g2, 0, none⟩) y.f6.length c2)).toList) : kEx.C w (some ⟨g, 0, none⟩) 2 [x, y] := by
  refine reads_lit (d := kEx) hb rfl ?_ (by decide) (by simp)
  rw [harr]
  exact Reps.snoc (cs := (c10 x (.slice (some ⟨g1, 0, none⟩) x.f6.length c1)).toList) (ps := [x]) (Reps.snoc (Reps.none _ _) (kEx_mk w x h1 hx) rfl) (kEx_mk w y h2 hy) rfl

theorem ref_lit (v : ByteArray) (n : Int) (w : World) : Calls Try.prog 36 #[.string v, .int .i64 n] w fun e w' => e = .returned (.agg #[.int .i64 2, .int .i64 0, .int .i64 0, .int .i64 0, .string ⟨#[]⟩, .bool false, .string v, .int .i64 n, .string ⟨#[120]⟩, .slice none 0 0]) ∧ Below w.heap.size w w' := ref_any v n w
theorem nm_B : ∀ x ∈ cpsB, x.f3.size ≤ maxLen := by
  intro x hx
  simp only [cpsB, List.mem_cons, List.not_mem_nil, or_false] at hx
  rcases hx with rfl | rfl | rfl <;> (show (1 : Nat) ≤ 9223372036854775807; omega)
theorem nr_one : ∀ r ∈ refsOf oneX, r.f0.size ≤ maxLen := by
  intro r hr
  rw [refs_one] at hr
  simp only [List.mem_cons, List.not_mem_nil, or_false] at hr
  rcases hr with rfl | rfl <;> (show (1 : Nat) ≤ 9223372036854775807; omega)
theorem nr_two : ∀ r ∈ refsOf twoX, r.f0.size ≤ maxLen := by
  intro r hr
  rw [refs_two] at hr
  simp only [List.mem_cons, List.not_mem_nil, or_false] at hr
  rcases hr with rfl | rfl <;> (show (1 : Nat) ≤ 9223372036854775807; omega)
theorem nr_both : ∀ x ∈ [oneX, twoX], ∀ r ∈ refsOf x, r.f0.size ≤ maxLen := by
  intro x hx
  simp only [List.mem_cons, List.not_mem_nil, or_false] at hx
  rcases hx with rfl | rfl
  · exact nr_one
  · exact nr_two

set_option maxHeartbeats 8000000 in
set_option maxRecDepth 100000 in
theorem begun_any (hadd : AddLaw) (w : World) : Calls Try.prog 8 #[] w (True_ w) := by
  have HADL := Lib.hid hadd
  clear hadd
  have hb0 := below_step (below_new w (.cells #[.bool false, .bool false, .string ⟨#[65]⟩, .string ⟨#[97]⟩, .bool false, .bool true, .string ⟨#[67]⟩, .string ⟨#[99]⟩, .bool false, .bool false, .string ⟨#[68]⟩, .string ⟨#[100]⟩] 46)) (below_new _ (.cells #[.slice (some ⟨w.heap.size, 0, none⟩) 3 3, .string ⟨#[]⟩, .int .i64 0, .slice none 0 0, .slice none 0 0, .int .i64 0, .string ⟨#[]⟩, .slice none 0 0] 27))
  have hC := blk_below (blk_new w (.cells #[.bool false, .bool false, .string ⟨#[65]⟩, .string ⟨#[97]⟩, .bool false, .bool true, .string ⟨#[67]⟩, .string ⟨#[99]⟩, .bool false, .bool false, .string ⟨#[68]⟩, .string ⟨#[100]⟩] 46)) (below_new _ (.cells #[.slice (some ⟨w.heap.size, 0, none⟩) 3 3, .string ⟨#[]⟩, .int .i64 0, .slice none 0 0, .slice none 0 0, .int .i64 0, .string ⟨#[]⟩, .slice none 0 0] 27))
  have hQ := blk_new (w.alloc (.cells #[.bool false, .bool false, .string ⟨#[65]⟩, .string ⟨#[97]⟩, .bool false, .bool true, .string ⟨#[67]⟩, .string ⟨#[99]⟩, .bool false, .bool false, .string ⟨#[68]⟩, .string ⟨#[100]⟩] 46)) (.cells #[.slice (some ⟨w.heap.size, 0, none⟩) 3 3, .string ⟨#[]⟩, .int .i64 0, .slice none 0 0, .slice none 0 0, .int .i64 0, .string ⟨#[]⟩, .slice none 0 0] 27)
  rw [alloc_size'] at hQ
  go_enter Try.func8, Try.ntmps8
  go_wp2_with fail
  generalize (w.alloc (.cells #[.bool false, .bool false, .string ⟨#[65]⟩, .string ⟨#[97]⟩, .bool false, .bool true, .string ⟨#[67]⟩, .string ⟨#[99]⟩, .bool false, .bool false, .string ⟨#[68]⟩, .string ⟨#[100]⟩] 46)).alloc (.cells #[.slice (some ⟨w.heap.size, 0, none⟩) 3 3, .string ⟨#[]⟩, .int .i64 0, .slice none 0 0, .slice none 0 0, .int .i64 0, .string ⟨#[]⟩, .slice none 0 0] 27) = W0 at *
  refine (ref_lit ⟨#[99]⟩ 2 W0).mono ?_
  rintro e W1 ⟨rfl, hb1⟩
  go_wp2_with fail
  refine (ref_lit ⟨#[97]⟩ 1 W1).mono ?_
  rintro e W2 ⟨rfl, hb2⟩
  have hK1 := blk_below (blk_new W2 (.cells #[.int .i64 2, .int .i64 0, .int .i64 0, .int .i64 0, .string ⟨#[]⟩, .bool false, .string ⟨#[99]⟩, .int .i64 2, .string ⟨#[120]⟩, .slice none 0 0, .int .i64 2, .int .i64 0, .int .i64 0, .int .i64 0, .string ⟨#[]⟩, .bool false, .string ⟨#[97]⟩, .int .i64 1, .string ⟨#[120]⟩, .slice none 0 0] 31)) (below_new _ (.cells #[.int .i64 5, .int .i64 6, .int .i64 0, .int .i64 0, .string ⟨#[]⟩, .bool false, .string ⟨#[]⟩, .int .i64 0, .string ⟨#[]⟩, .slice (some ⟨W2.heap.size, 0, none⟩) 2 2] 31))
  have hO1 := blk_new (W2.alloc (.cells #[.int .i64 2, .int .i64 0, .int .i64 0, .int .i64 0, .string ⟨#[]⟩, .bool false, .string ⟨#[99]⟩, .int .i64 2, .string ⟨#[120]⟩, .slice none 0 0, .int .i64 2, .int .i64 0, .int .i64 0, .int .i64 0, .string ⟨#[]⟩, .bool false, .string ⟨#[97]⟩, .int .i64 1, .string ⟨#[120]⟩, .slice none 0 0] 31)) (.cells #[.int .i64 5, .int .i64 6, .int .i64 0, .int .i64 0, .string ⟨#[]⟩, .bool false, .string ⟨#[]⟩, .int .i64 0, .string ⟨#[]⟩, .slice (some ⟨W2.heap.size, 0, none⟩) 2 2] 31)
  rw [alloc_size'] at hO1
  have hb3 := below_step (below_new W2 (.cells #[.int .i64 2, .int .i64 0, .int .i64 0, .int .i64 0, .string ⟨#[]⟩, .bool false, .string ⟨#[99]⟩, .int .i64 2, .string ⟨#[120]⟩, .slice none 0 0, .int .i64 2, .int .i64 0, .int .i64 0, .int .i64 0, .string ⟨#[]⟩, .bool false, .string ⟨#[97]⟩, .int .i64 1, .string ⟨#[120]⟩, .slice none 0 0] 31)) (below_new _ (.cells #[.int .i64 5, .int .i64 6, .int .i64 0, .int .i64 0, .string ⟨#[]⟩, .bool false, .string ⟨#[]⟩, .int .i64 0, .string ⟨#[]⟩, .slice (some ⟨W2.heap.size, 0, none⟩) 2 2] 31))
  go_wp2_with fail
  generalize (W2.alloc (.cells #[.int .i64 2, .int .i64 0, .int .i64 0, .int .i64 0, .string ⟨#[]⟩, .bool false, .string ⟨#[99]⟩, .int .i64 2, .string ⟨#[120]⟩, .slice none 0 0, .int .i64 2, .int .i64 0, .int .i64 0, .int .i64 0, .string ⟨#[]⟩, .bool false, .string ⟨#[97]⟩, .int .i64 1, .string ⟨#[120]⟩, .slice none 0 0] 31)).alloc (.cells #[.int .i64 5, .int .i64 6, .int .i64 0, .int .i64 0, .string ⟨#[]⟩, .bool false, .string ⟨#[]⟩, .int .i64 0, .string ⟨#[]⟩, .slice (some ⟨W2.heap.size, 0, none⟩) 2 2] 31) = W3 at *
  have hC3 := blk_below (blk_below (blk_below hC hb1) hb2) hb3
  have hQ3 := blk_below (blk_below (blk_below hQ hb1) hb2) hb3
  have hB3 := below_step (below_step (below_step hb0 hb1) hb2) hb3
  have hlt1 := blk_lt (blk_below (blk_below hQ hb1) hb2)
  clear hb0 hb1 hb2 hb3 hC hQ
  generalize W2.heap.size = g1 at hK1 hO1 hlt1 ⊢
  refine (ref_lit ⟨#[99]⟩ 5 W3).mono ?_
  rintro e W4 ⟨rfl, hb4⟩
  go_wp2_with fail
  refine (ref_lit ⟨#[100]⟩ 1 W4).mono ?_
  rintro e W5 ⟨rfl, hb5⟩
  have hK2 := blk_below (blk_new W5 (.cells #[.int .i64 2, .int .i64 0, .int .i64 0, .int .i64 0, .string ⟨#[]⟩, .bool false, .string ⟨#[99]⟩, .int .i64 5, .string ⟨#[120]⟩, .slice none 0 0, .int .i64 2, .int .i64 0, .int .i64 0, .int .i64 0, .string ⟨#[]⟩, .bool false, .string ⟨#[100]⟩, .int .i64 1, .string ⟨#[120]⟩, .slice none 0 0] 31)) (below_new _ (.cells #[.int .i64 5, .int .i64 6, .int .i64 0, .int .i64 0, .string ⟨#[]⟩, .bool false, .string ⟨#[]⟩, .int .i64 0, .string ⟨#[]⟩, .slice (some ⟨W5.heap.size, 0, none⟩) 2 2] 31))
  have hO2 := blk_new (W5.alloc (.cells #[.int .i64 2, .int .i64 0, .int .i64 0, .int .i64 0, .string ⟨#[]⟩, .bool false, .string ⟨#[99]⟩, .int .i64 5, .string ⟨#[120]⟩, .slice none 0 0, .int .i64 2, .int .i64 0, .int .i64 0, .int .i64 0, .string ⟨#[]⟩, .bool false, .string ⟨#[100]⟩, .int .i64 1, .string ⟨#[120]⟩, .slice none 0 0] 31)) (.cells #[.int .i64 5, .int .i64 6, .int .i64 0, .int .i64 0, .string ⟨#[]⟩, .bool false, .string ⟨#[]⟩, .int .i64 0, .string ⟨#[]⟩, .slice (some ⟨W5.heap.size, 0, none⟩) 2 2] 31)
  rw [alloc_size'] at hO2
  have hb6 := below_step (below_new W5 (.cells #[.int .i64 2, .int .i64 0, .int .i64 0, .int .i64 0, .string ⟨#[]⟩, .bool false, .string ⟨#[99]⟩, .int .i64 5, .string ⟨#[120]⟩, .slice none 0 0, .int .i64 2, .int .i64 0, .int .i64 0, .int .i64 0, .string ⟨#[]⟩, .bool false, .string ⟨#[100]⟩, .int .i64 1, .string ⟨#[120]⟩, .slice none 0 0] 31)) (below_new _ (.cells #[.int .i64 5, .int .i64 6, .int .i64 0, .int .i64 0, .string ⟨#[]⟩, .bool false, .string ⟨#[]⟩, .int .i64 0, .string ⟨#[]⟩, .slice (some ⟨W5.heap.size, 0, none⟩) 2 2] 31))
  have hC6 := blk_below (blk_below (blk_below hC3 hb4) hb5) hb6
  have hQ6 := blk_below (blk_below (blk_below hQ3 hb4) hb5) hb6
  have hK16 := blk_below (blk_below (blk_below hK1 hb4) hb5) hb6
  have hO16 := blk_below (blk_below (blk_below hO1 hb4) hb5) hb6
  have hB6 := below_step (below_step (below_step hB3 hb4) hb5) hb6
  have hlt2 := blk_lt (blk_below (blk_below hQ3 hb4) hb5)
  clear hb4 hb5 hb6 hC3 hQ3 hK1 hO1 hB3
  go_upto_region 4 with fail
  generalize (W5.alloc (.cells #[.int .i64 2, .int .i64 0, .int .i64 0, .int .i64 0, .string ⟨#[]⟩, .bool false, .string ⟨#[99]⟩, .int .i64 5, .string ⟨#[120]⟩, .slice none 0 0, .int .i64 2, .int .i64 0, .int .i64 0, .int .i64 0, .string ⟨#[]⟩, .bool false, .string ⟨#[100]⟩, .int .i64 1, .string ⟨#[120]⟩, .slice none 0 0] 31)).alloc (.cells #[.int .i64 5, .int .i64 6, .int .i64 0, .int .i64 0, .string ⟨#[]⟩, .bool false, .string ⟨#[]⟩, .int .i64 0, .string ⟨#[]⟩, .slice (some ⟨W5.heap.size, 0, none⟩) 2 2] 31) = W6 at *
  generalize W5.heap.size = g2 at hK2 hO2 hlt2 ⊢
  have oa0 := (blk_cell (hO16) 0).trans rfl
  have oa1 := (blk_cell (hO16) 1).trans rfl
  have oa2 := (blk_cell (hO16) 2).trans rfl
  have oa3 := (blk_cell (hO16) 3).trans rfl
  have oa4 := (blk_cell (hO16) 4).trans rfl
  have oa5 := (blk_cell (hO16) 5).trans rfl
  have oa6 := (blk_cell (hO16) 6).trans rfl
  have oa7 := (blk_cell (hO16) 7).trans rfl
  have oa8 := (blk_cell (hO16) 8).trans rfl
  have oa9 := (blk_cell (hO16) 9).trans rfl
  have ob0 := (blk_cell (hO2) 0).trans rfl
  have ob1 := (blk_cell (hO2) 1).trans rfl
  have ob2 := (blk_cell (hO2) 2).trans rfl
  have ob3 := (blk_cell (hO2) 3).trans rfl
  have ob4 := (blk_cell (hO2) 4).trans rfl
  have ob5 := (blk_cell (hO2) 5).trans rfl
  have ob6 := (blk_cell (hO2) 6).trans rfl
  have ob7 := (blk_cell (hO2) 7).trans rfl
  have ob8 := (blk_cell (hO2) 8).trans rfl
  have ob9 := (blk_cell (hO2) 9).trans rfl
  have q4 := pw_cell_below (below_new W6 (.cells #[.int .i64 5, .int .i64 6, .int .i64 0, .int .i64 0, .string ⟨#[]⟩, .bool false, .string ⟨#[]⟩, .int .i64 0, .string ⟨#[]⟩, .slice (some ⟨g1, 0, none⟩) 2 2, .int .i64 5, .int .i64 6, .int .i64 0, .int .i64 0, .string ⟨#[]⟩, .bool false, .string ⟨#[]⟩, .int .i64 0, .string ⟨#[]⟩, .slice (some ⟨g2, 0, none⟩) 2 2] 31)) ((blk_cell hQ6 4).trans rfl)
  have qf := blk_frozen (blk_alloc hQ6 (.cells #[.int .i64 5, .int .i64 6, .int .i64 0, .int .i64 0, .string ⟨#[]⟩, .bool false, .string ⟨#[]⟩, .int .i64 0, .string ⟨#[]⟩, .slice (some ⟨g1, 0, none⟩) 2 2, .int .i64 5, .int .i64 6, .int .i64 0, .int .i64 0, .string ⟨#[]⟩, .bool false, .string ⟨#[]⟩, .int .i64 0, .string ⟨#[]⟩, .slice (some ⟨g2, 0, none⟩) 2 2] 31)) 4
  have hlt6 := blk_lt hQ6
  have hsz : (W6.setCell ⟨w.heap.size + 1, 4, none⟩ (.slice (some ⟨W6.heap.size, 0, none⟩) 2 2)).heap.size = W6.heap.size := by simp [World.setCell]
  have hQ7 := blk_alloc (blk_set hQ6 4 (.slice (some ⟨W6.heap.size, 0, none⟩) 2 2)) (.cells #[.int .i64 5, .int .i64 6, .int .i64 0, .int .i64 0, .string ⟨#[]⟩, .bool false, .string ⟨#[]⟩, .int .i64 0, .string ⟨#[]⟩, .slice (some ⟨g1, 0, none⟩) 2 2, .int .i64 5, .int .i64 6, .int .i64 0, .int .i64 0, .string ⟨#[]⟩, .bool false, .string ⟨#[]⟩, .int .i64 0, .string ⟨#[]⟩, .slice (some ⟨g2, 0, none⟩) 2 2] 31)
  have hW7 := blk_new (W6.setCell ⟨w.heap.size + 1, 4, none⟩ (.slice (some ⟨W6.heap.size, 0, none⟩) 2 2)) (.cells #[.int .i64 5, .int .i64 6, .int .i64 0, .int .i64 0, .string ⟨#[]⟩, .bool false, .string ⟨#[]⟩, .int .i64 0, .string ⟨#[]⟩, .slice (some ⟨g1, 0, none⟩) 2 2, .int .i64 5, .int .i64 6, .int .i64 0, .int .i64 0, .string ⟨#[]⟩, .bool false, .string ⟨#[]⟩, .int .i64 0, .string ⟨#[]⟩, .slice (some ⟨g2, 0, none⟩) 2 2] 31)
  rw [hsz] at hW7
  clear hsz
  have hC7 := blk_alloc (blk_far hC6 (p := ⟨w.heap.size + 1, 4, none⟩) (by show w.heap.size ≠ w.heap.size + 1; omega) (.slice (some ⟨W6.heap.size, 0, none⟩) 2 2)) (.cells #[.int .i64 5, .int .i64 6, .int .i64 0, .int .i64 0, .string ⟨#[]⟩, .bool false, .string ⟨#[]⟩, .int .i64 0, .string ⟨#[]⟩, .slice (some ⟨g1, 0, none⟩) 2 2, .int .i64 5, .int .i64 6, .int .i64 0, .int .i64 0, .string ⟨#[]⟩, .bool false, .string ⟨#[]⟩, .int .i64 0, .string ⟨#[]⟩, .slice (some ⟨g2, 0, none⟩) 2 2] 31)
  have hK17 := blk_alloc (blk_far hK16 (p := ⟨w.heap.size + 1, 4, none⟩) (by show g1 ≠ w.heap.size + 1; omega) (.slice (some ⟨W6.heap.size, 0, none⟩) 2 2)) (.cells #[.int .i64 5, .int .i64 6, .int .i64 0, .int .i64 0, .string ⟨#[]⟩, .bool false, .string ⟨#[]⟩, .int .i64 0, .string ⟨#[]⟩, .slice (some ⟨g1, 0, none⟩) 2 2, .int .i64 5, .int .i64 6, .int .i64 0, .int .i64 0, .string ⟨#[]⟩, .bool false, .string ⟨#[]⟩, .int .i64 0, .string ⟨#[]⟩, .slice (some ⟨g2, 0, none⟩) 2 2] 31)
  have hO17 := blk_alloc (blk_far hO16 (p := ⟨w.heap.size + 1, 4, none⟩) (by show g1 + 1 ≠ w.heap.size + 1; omega) (.slice (some ⟨W6.heap.size, 0, none⟩) 2 2)) (.cells #[.int .i64 5, .int .i64 6, .int .i64 0, .int .i64 0, .string ⟨#[]⟩, .bool false, .string ⟨#[]⟩, .int .i64 0, .string ⟨#[]⟩, .slice (some ⟨g1, 0, none⟩) 2 2, .int .i64 5, .int .i64 6, .int .i64 0, .int .i64 0, .string ⟨#[]⟩, .bool false, .string ⟨#[]⟩, .int .i64 0, .string ⟨#[]⟩, .slice (some ⟨g2, 0, none⟩) 2 2] 31)
  have hK27 := blk_alloc (blk_far hK2 (p := ⟨w.heap.size + 1, 4, none⟩) (by show g2 ≠ w.heap.size + 1; omega) (.slice (some ⟨W6.heap.size, 0, none⟩) 2 2)) (.cells #[.int .i64 5, .int .i64 6, .int .i64 0, .int .i64 0, .string ⟨#[]⟩, .bool false, .string ⟨#[]⟩, .int .i64 0, .string ⟨#[]⟩, .slice (some ⟨g1, 0, none⟩) 2 2, .int .i64 5, .int .i64 6, .int .i64 0, .int .i64 0, .string ⟨#[]⟩, .bool false, .string ⟨#[]⟩, .int .i64 0, .string ⟨#[]⟩, .slice (some ⟨g2, 0, none⟩) 2 2] 31)
  have hO27 := blk_alloc (blk_far hO2 (p := ⟨w.heap.size + 1, 4, none⟩) (by show g2 + 1 ≠ w.heap.size + 1; omega) (.slice (some ⟨W6.heap.size, 0, none⟩) 2 2)) (.cells #[.int .i64 5, .int .i64 6, .int .i64 0, .int .i64 0, .string ⟨#[]⟩, .bool false, .string ⟨#[]⟩, .int .i64 0, .string ⟨#[]⟩, .slice (some ⟨g1, 0, none⟩) 2 2, .int .i64 5, .int .i64 6, .int .i64 0, .int .i64 0, .string ⟨#[]⟩, .bool false, .string ⟨#[]⟩, .int .i64 0, .string ⟨#[]⟩, .slice (some ⟨g2, 0, none⟩) 2 2] 31)
  have hB7 := below_step (hB6.setCell (p := ⟨w.heap.size + 1, 4, none⟩) (Nat.le_succ _) (.slice (some ⟨W6.heap.size, 0, none⟩) 2 2)) (below_new _ (.cells #[.int .i64 5, .int .i64 6, .int .i64 0, .int .i64 0, .string ⟨#[]⟩, .bool false, .string ⟨#[]⟩, .int .i64 0, .string ⟨#[]⟩, .slice (some ⟨g1, 0, none⟩) 2 2, .int .i64 5, .int .i64 6, .int .i64 0, .int .i64 0, .string ⟨#[]⟩, .bool false, .string ⟨#[]⟩, .int .i64 0, .string ⟨#[]⟩, .slice (some ⟨g2, 0, none⟩) 2 2] 31))
  go_upto_region 5 with fail
  generalize (W6.setCell ⟨w.heap.size + 1, 4, none⟩ (.slice (some ⟨W6.heap.size, 0, none⟩) 2 2)).alloc (.cells #[.int .i64 5, .int .i64 6, .int .i64 0, .int .i64 0, .string ⟨#[]⟩, .bool false, .string ⟨#[]⟩, .int .i64 0, .string ⟨#[]⟩, .slice (some ⟨g1, 0, none⟩) 2 2, .int .i64 5, .int .i64 6, .int .i64 0, .int .i64 0, .string ⟨#[]⟩, .bool false, .string ⟨#[]⟩, .int .i64 0, .string ⟨#[]⟩, .slice (some ⟨g2, 0, none⟩) 2 2] 31) = W7 at *
  generalize W6.heap.size = g3 at hQ7 hW7 ⊢
  replace hQ7 : W7.heap[w.heap.size + 1]? = some (.cells #[.slice (some ⟨w.heap.size, 0, none⟩) 3 3, .string ⟨#[]⟩, .int .i64 0, .slice none 0 0, .slice (some ⟨g3, 0, none⟩) 2 2, .int .i64 0, .string ⟨#[]⟩, .slice none 0 0] 27 (0, 0)) := hQ7
  clear q4 qf hQ6 hC6 hK16 hO16 hK2 hO2 hB6 hlt6 oa0 ob0 oa1 ob1 oa2 ob2 oa3 ob3 oa4 ob4 oa5 ob5 oa6 ob6 oa7 ob7 oa8 ob8 oa9 ob9
  have hCP := fun (W : World) (hb : Below W7.heap.size W7 W) => cps_reads (blk_below hC7 hb)
  have hK1r := fun (W : World) (hb : Below W7.heap.size W7 W) => kids_reads (a := refX bc 2) (b := refX ba 1) rfl rfl (blk_below hK17 hb) rfl
  have hK2r := fun (W : World) (hb : Below W7.heap.size W7 W) => kids_reads (a := refX bc 5) (b := refX bd 1) rfl rfl (blk_below hK27 hb) rfl
  have hWr := fun (W : World) (hb : Below W7.heap.size W7 W) => pair_reads (x := oneX) (y := twoX) (hK1r W hb) (hK2r W hb) (c1 := 2) (c2 := 2) (Nat.le_refl _) (Nat.le_refl _) (blk_below hW7 hb) rfl
  have ha1 := Anchor_any cpsB (some ⟨w.heap.size, 0, none⟩) 3 ⟨#[]⟩ 0 (.slice none 0 0) (.slice (some ⟨g3, 0, none⟩) 2 2) 0 ⟨#[]⟩ (.slice none 0 0) rfl rfl rfl oneX (some ⟨g1, 0, none⟩) 2 W7 (Nat.le_refl _) (hCP W7 (Below.refl _ _)) nm_B nr_one (by rw [exN_one]; decide) (Nat.le_refl _) (hK1r W7 (Below.refl _ _))
  rw [top_one] at ha1
  have HA1 := Lib.hid ha1
  have HA2 := Lib.hid (fun (W : World) (hb : Below W7.heap.size W7 W) => Anchor_any cpsB (some ⟨w.heap.size, 0, none⟩) 3 ⟨#[]⟩ 0 (.slice none 0 0) (.slice (some ⟨g3, 0, none⟩) 2 2) 0 ⟨#[]⟩ (.slice none 0 0) rfl rfl rfl twoX (some ⟨g2, 0, none⟩) 2 W (Nat.le_refl _) (hCP W hb) nm_B nr_two (by rw [exN_two]; decide) (Nat.le_refl _) (hK2r W hb))
  rw [top_two] at HA2
  have HPL := Lib.hid (fun (W : World) (hb : Below W7.heap.size W7 W) => Place_any HADL.out cpsB (some ⟨w.heap.size, 0, none⟩) 3 ⟨#[]⟩ 0 (.slice none 0 0) [oneX, twoX] (some ⟨g3, 0, none⟩) 2 0 ⟨#[]⟩ (.slice none 0 0) rfl rfl W (Nat.le_refl _) (hCP W hb) nm_B (hWr W hb) (by simp [exNL, exN_one, exN_two]) nr_both)
  have HQ7 := Lib.hid hQ7
  have HO1 := Lib.hid hO17
  have HO2 := Lib.hid hO27
  clear ha1 hCP hK1r hK2r hWr hC7 hK17 hK27 hW7
  have k0 := (blk_cell (HQ7.out) 0).trans rfl
  have k1 := (blk_cell (HQ7.out) 1).trans rfl
  have k2 := (blk_cell (HQ7.out) 2).trans rfl
  have k3 := (blk_cell (HQ7.out) 3).trans rfl
  have k4 := (blk_cell (HQ7.out) 4).trans rfl
  have k5 := (blk_cell (HQ7.out) 5).trans rfl
  have k6 := (blk_cell (HQ7.out) 6).trans rfl
  have k7 := (blk_cell (HQ7.out) 7).trans rfl
  have oa0 := (blk_cell (HO1.out) 0).trans rfl
  have oa1 := (blk_cell (HO1.out) 1).trans rfl
  have oa2 := (blk_cell (HO1.out) 2).trans rfl
  have oa3 := (blk_cell (HO1.out) 3).trans rfl
  have oa4 := (blk_cell (HO1.out) 4).trans rfl
  have oa5 := (blk_cell (HO1.out) 5).trans rfl
  have oa6 := (blk_cell (HO1.out) 6).trans rfl
  have oa7 := (blk_cell (HO1.out) 7).trans rfl
  have oa8 := (blk_cell (HO1.out) 8).trans rfl
  have oa9 := (blk_cell (HO1.out) 9).trans rfl
  have ob0 := (blk_cell (HO2.out) 0).trans rfl
  have ob1 := (blk_cell (HO2.out) 1).trans rfl
  have ob2 := (blk_cell (HO2.out) 2).trans rfl
  have ob3 := (blk_cell (HO2.out) 3).trans rfl
  have ob4 := (blk_cell (HO2.out) 4).trans rfl
  have ob5 := (blk_cell (HO2.out) 5).trans rfl
  have ob6 := (blk_cell (HO2.out) 6).trans rfl
  have ob7 := (blk_cell (HO2.out) 7).trans rfl
  have ob8 := (blk_cell (HO2.out) 8).trans rfl
  have ob9 := (blk_cell (HO2.out) 9).trans rfl
  go_wp2_with fail
  refine HA1.out.mono ?_
  rintro e W8 ⟨hb8, rfl⟩
  have k0 := (blk_cell (blk_below HQ7.out hb8) 0).trans rfl
  have k1 := (blk_cell (blk_below HQ7.out hb8) 1).trans rfl
  have k2 := (blk_cell (blk_below HQ7.out hb8) 2).trans rfl
  have k3 := (blk_cell (blk_below HQ7.out hb8) 3).trans rfl
  have k4 := (blk_cell (blk_below HQ7.out hb8) 4).trans rfl
  have k5 := (blk_cell (blk_below HQ7.out hb8) 5).trans rfl
  have k6 := (blk_cell (blk_below HQ7.out hb8) 6).trans rfl
  have k7 := (blk_cell (blk_below HQ7.out hb8) 7).trans rfl
  have ob0 := (blk_cell (blk_below HO2.out hb8) 0).trans rfl
  have ob1 := (blk_cell (blk_below HO2.out hb8) 1).trans rfl
  have ob2 := (blk_cell (blk_below HO2.out hb8) 2).trans rfl
  have ob3 := (blk_cell (blk_below HO2.out hb8) 3).trans rfl
  have ob4 := (blk_cell (blk_below HO2.out hb8) 4).trans rfl
  have ob5 := (blk_cell (blk_below HO2.out hb8) 5).trans rfl
  have ob6 := (blk_cell (blk_below HO2.out hb8) 6).trans rfl
  have ob7 := (blk_cell (blk_below HO2.out hb8) 7).trans rfl
  have ob8 := (blk_cell (blk_below HO2.out hb8) 8).trans rfl
  have ob9 := (blk_cell (blk_below HO2.out hb8) 9).trans rfl
  go_wp2_with fail
  refine (HA2.out W8 hb8).mono ?_
  rintro e W9 ⟨hb9', rfl⟩
  have hb9 := below_step hb8 hb9'
  have k0 := (blk_cell (blk_below HQ7.out hb9) 0).trans rfl
  have k1 := (blk_cell (blk_below HQ7.out hb9) 1).trans rfl
  have k2 := (blk_cell (blk_below HQ7.out hb9) 2).trans rfl
  have k3 := (blk_cell (blk_below HQ7.out hb9) 3).trans rfl
  have k4 := (blk_cell (blk_below HQ7.out hb9) 4).trans rfl
  have k5 := (blk_cell (blk_below HQ7.out hb9) 5).trans rfl
  have k6 := (blk_cell (blk_below HQ7.out hb9) 6).trans rfl
  have k7 := (blk_cell (blk_below HQ7.out hb9) 7).trans rfl
  go_wp2_with fail
  refine (HPL.out W9 hb9).mono ?_
  rintro e W10 ⟨hb10', hcase⟩
  have hb10 := below_step hb9 hb10'
  rcases hcase with ⟨h, _⟩ | ⟨_, h, _⟩ | ⟨_, _, G, S, N, T, U, Pl, nb, cap, junk, V, f, base, hbase, hI, rfl⟩
  · exact absurd pat_B h
  · exact absurd err_B h
  · have hst : stg cpsB = 3 := stg_B
    obtain ⟨A1, c1, e1⟩ := Kd.R_slice (hI.hL 1 1 (by decide))
    obtain ⟨A2, c2, e2⟩ := Kd.R_slice (hI.hL 2 1 (by decide))
    obtain ⟨A3, c3, e3⟩ := Kd.R_slice (hI.hL 1 2 (by decide))
    obtain ⟨A5, c5, e5⟩ := Kd.R_slice (hI.hL 5 0 (by decide))
    rw [pl_B.1] at e1
    rw [pl_B.2.1] at e2
    rw [pl_B.2.2] at e3
    have m1 : W10.cell? ⟨S, 11, none⟩ = some (.slice A1 1 c1) := (hI.hS.cell (i := 11) (by rw [hst]; decide)).trans (congrArg some ((cellS_at4 T U Pl (nv cpsB nb cap) (V 1) (V 2) (V 3) 1).trans e1))
    have m2 : W10.cell? ⟨S, 12, none⟩ = some (.slice A2 1 c2) := (hI.hS.cell (i := 12) (by rw [hst]; decide)).trans (congrArg some ((cellS_at5 T U Pl (nv cpsB nb cap) (V 1) (V 2) (V 3) 1).trans e2))
    have m3 : W10.cell? ⟨S, 18, none⟩ = some (.slice A3 1 c3) := (hI.hS.cell (i := 18) (by rw [hst]; decide)).trans (congrArg some ((cellS_at4 T U Pl (nv cpsB nb cap) (V 1) (V 2) (V 3) 2).trans e3))
    have t1 : Pl 1 = true := (hI.hT 1 (by decide) (by decide)).2.2
    have t2 : T 2 = ⟨#[68]⟩ := (hI.hT 2 (by decide) (by decide)).1
    have m4 : W10.cell? ⟨S, 9, none⟩ = some (.bool true) := (hI.hS.cell (i := 9) (by rw [hst]; decide)).trans (congrArg some ((cellS_at2 T U Pl (nv cpsB nb cap) (V 1) (V 2) (V 3) 1).trans (by rw [t1])))
    have m5 : W10.cell? ⟨S, 14, none⟩ = some (.string ⟨#[68]⟩) := (hI.hS.cell (i := 14) (by rw [hst]; decide)).trans (congrArg some ((cellS_at0 T U Pl (nv cpsB nb cap) (V 1) (V 2) (V 3) 2).trans (by rw [t2])))
    rw [e5, hst]
    clear hI hst e1 e2 e3 e5 t1 t2 hQ7 hO17 hO27 k0 k1 k2 k3 k4 k5 k6 k7
    go_wp2_with fail
    go_ret
    exact ⟨rfl, below_step hB7 hb10⟩
end Go.Proofs.Ytgnifglolbfamaa
