/- Texts of the claim, merged in build order: QDA, QI. -/
import Derived.Test.YtgnifglolbfamaaZAG
import Derived.Test.YtgnifglolbfamaaZAI
import Derived.Test.YtgnifglolbfamaaZAL
import Derived.Test.YtgnifglolbfamaaZAM
import Derived.Test.YtgnifglolbfamaaZAN
/- The walk of place.Place. -/
set_option linter.unusedVariables false
set_option linter.unusedSimpArgs false
namespace Go.Proofs.Ytgnifglolbfamaa.D
open Go.RowKit Go.Proofs.YtgnifglolbfamaaW.PrintWords

/-- What PlY shows of layout.add. -/
def AddLaw : Prop := ∀ (base G : Nat) (cs : List Cp) (L : Nat → Nat → List Ex) (w : World) (f : Nat → Nat), LayF w base G cs L f → ∀ (k n : Nat), VP cs k (plI k n) → (k = 5 ∨ n = plI k n) → ∀ (x : Ex) (A : Option Addr) (c : Nat), exN x ≤ 100000000000 → x.f6.length ≤ c → kEx.C w A x.f6.length x.f6 → (L k (plI k n)).length ≤ 1000000 → base ≤ w.heap.size →
    Calls Try.prog 43 #[.pointer (some ⟨G, 0, none⟩), .int .i64 k, .int .i64 n, exV x (.slice A x.f6.length c)] w fun e w' => e = .returned (.tuple #[]) ∧ AddInv base G cs (upd2 L k (plI k n) (L k (plI k n) ++ [x])) f w w'
theorem below_then' {B : Nat} {w w1 w2 : World} (h : Below B w w1) (k : Below B w1 w2) : Below B w w2 := h.trans k
def PlacePost (cs : List Cp) (ws : List Ex) (w : World) (e : Ending) (w' : World) : Prop :=
  Below w.heap.size w w' ∧
  ((patErr cs ≠ 0 ∧ e = .returned (.tuple #[.slice none 0 0, .slice none 0 0, .int .i64 (patErr cs)])) ∨
   (patErr cs = 0 ∧ placeErr cs ws ≠ 0 ∧ e = .returned (.tuple #[.slice none 0 0, .slice none 0 0, .int .i64 (placeErr cs ws)])) ∨
   (patErr cs = 0 ∧ placeErr cs ws = 0 ∧ ∃ G S N T U Pl nb cap junk V f base LT, w.heap.size ≤ base ∧ mp LT = placeL cs ws ∧ LayIn w' base G cs LT S N T U Pl nb cap junk V f ∧ e = .returned (.tuple #[.slice (some ⟨S, 0, none⟩) (stg cs) (stg cs), V 5 0, .int .i64 0])))

set_option maxHeartbeats 4000000 in
set_option maxRecDepth 100000 in
theorem Place_any (hadd_ : AddLaw) (cs : List Cp) (A : Option Addr) (c : Nat) (q1 : ByteArray) (q2 : Int) (v3 : Value) (ws : List Ex) (AW : Option Addr) (cw : Nat) (q5 : Int) (q6 : ByteArray) (v7 : Value) (h3 : v3.oneCell' = true) (h7 : v7.oneCell' = true) (w : World)
    (hc : cs.length ≤ c) (hC : kCp.C w A cs.length cs) (hnm : ∀ x ∈ cs, x.f3.size ≤ maxLen) (hW : kEx.C w AW ws.length ws) (hws : exNL ws ≤ 100000) (hnr : ∀ x ∈ ws, ∀ r ∈ refsOf x, r.f0.size ≤ maxLen) :
    Calls Try.prog 17 #[.agg #[.slice A cs.length c, .string q1, .int .i64 q2, v3, .slice AW ws.length cw, .int .i64 q5, .string q6, v7]] w (PlacePost cs ws w) := by
  have HADL := Lib.hid hadd_
  clear hadd_
  have hwl := exNL_len ws
  have hmx := hW.2.1
  have hb1 := below_new w (.cells #[.slice A cs.length c, .string q1, .int .i64 q2, v3, .slice AW ws.length cw, .int .i64 q5, .string q6, v7] 27)
  have hQ := blk_new w (.cells #[.slice A cs.length c, .string q1, .int .i64 q2, v3, .slice AW ws.length cw, .int .i64 q5, .string q6, v7] 27)
  have hpat := patternOf_any cs A c q1 q2 v3 (.slice AW ws.length cw) q5 q6 v7 h3 rfl h7 _ hc (Kd.C_below hC hb1) hnm
  have HW := Lib.hid (Kd.C_below hW hb1)
  have HNR := Lib.hid hnr
  have HWS := Lib.hid hws
  obtain ⟨pe, hpe⟩ : ∃ pe, pe = patErr cs := ⟨_, rfl⟩
  unfold PatPost at hpat
  rw [← hpe] at hpat
  have HPE := Lib.hid hpe
  obtain ⟨qe, hqe⟩ : ∃ qe, qe = placeErr cs ws := ⟨_, rfl⟩
  have HQE := Lib.hid hqe
  clear hpe hqe hC hW hnr hnm hws hc
  go_enter Try.func17, Try.ntmps17
  go_wp2_with fail
  generalize w.alloc (.cells #[.slice A cs.length c, .string q1, .int .i64 q2, v3, .slice AW ws.length cw, .int .i64 q5, .string q6, v7] 27) = W1 at *
  refine hpat.mono ?_
  rintro e W2 ⟨hb, hcase⟩
  have hB2 := below_step hb1 hb
  have hQ2 := blk_below hQ hb
  rcases hcase with ⟨hne, rfl⟩ | ⟨he, gp, rfl, hgp, hp⟩
  · have d : (pe != 0) = true := by simpa using hne
    go_wp2_with fail
    go_ret3
    exact ⟨hB2, Or.inl ⟨by rw [← HPE.out]; exact hne, by rw [← HPE.out]; rfl⟩⟩
  · subst he
    have hpp := patErr_parts HPE.out.symm
    have hlo := layoutOf_any cs gp A c W2 hp hpp.2.1 hpp.1 hpp.2.2.2.2
    have HPP := Lib.hid hpp
    have HP := Lib.hid hp
    clear hpp hp
    go_wp2_with fail
    refine hlo.mono ?_
    rintro e W3 ⟨hb3, G, rfl, S, N, X, hL2⟩
    obtain ⟨T, U, Pl, nb, cap, junk, hLI⟩ := (lo2_lay hL2)
    have HLA := Lib.hid (show ∃ f, LayF W3 W2.heap.size G cs (placeL cs (ws.take 0)) f from ⟨_, _, rfl, S, N, T, U, Pl, nb, cap, junk, _, hLI⟩)
    have hQ3 := blk_below hQ2 hb3
    have z4 := (blk_cell hQ3 4).trans rfl
    clear hL2 hLI
    go_wp2_with fail
    go_loopw [26] (fun t26 wr => ∃ j : Nat, j ≤ ws.length ∧ t26 = .int .i64 j ∧ Below W2.heap.size W2 wr ∧ Hid (∃ f, LayF wr W2.heap.size G cs (placeL cs (ws.take j)) f) ∧ Hid ((ws.take j).find? (fun x => (anchorOf cs (refsOf x)).2.2 != 0) = none)) (fun t26 _ => ws.length - (intOf t26).toNat)
    case atStart => exact ⟨0, by omega, rfl, hb3, HLA, Lib.hid rfl⟩
    case round =>
      obtain ⟨j, hj, rfl, hB, hL, hF⟩ := hrel
      by_cases hlt : j < ws.length
      · have i1 : (0 : Int) ≤ (j : Int) := by omega
        have i2 : (j : Int) < ws.length := by omega
        have hat := atEx (Kd.C_below HW.out hb) j i1 i2
        simp only [Int.toNat_natCast] at hat
        obtain ⟨ad, B9, b9, rfl, e0, e1, e2, e3, e4, e5, e6, e7, e8, e9, hl9, hi9⟩ := hat
        have HR := Lib.hid (rdEx_get ws j hlt)
        have e0 := pw_cell_below hB e0
        have e1 := pw_cell_below hB e1
        have e2 := pw_cell_below hB e2
        have e3 := pw_cell_below hB e3
        have e4 := pw_cell_below hB e4
        have e5 := pw_cell_below hB e5
        have e6 := pw_cell_below hB e6
        have e7 := pw_cell_below hB e7
        have e8 := pw_cell_below hB e8
        have e9 := pw_cell_below hB e9
        have HCW := Lib.hid hi9
        have hi9 := Kd.C_below hi9 hB
        generalize rdEx ws j = y at *
        have hyN : exN y ≤ exNL ws := by rw [HR.out]; exact exN_get _ _ hlt
        have hyB : exN y ≤ 100000000000 := by have := HWS.out; omega
        have hmem : y ∈ ws := by rw [HR.out]; exact List.getElem_mem hlt
        have HT := Lib.hid (show ws.take (j + 1) = ws.take j ++ [y] by rw [List.take_succ_eq_append_getElem hlt, HR.out])
        have hbn := below_new wr (.cells #[.int .i64 y.f0, .int .i64 y.f1, .int .i64 y.f2.f0, .int .i64 y.f2.f1, .string y.f2.f2, .bool y.f2.f3, .string y.f3, .int .i64 y.f4, .string y.f5, .slice B9 y.f6.length b9] 31)
        have hY := blk_new wr (.cells #[.int .i64 y.f0, .int .i64 y.f1, .int .i64 y.f2.f0, .int .i64 y.f2.f1, .string y.f2.f2, .bool y.f2.f3, .string y.f3, .int .i64 y.f4, .string y.f5, .slice B9 y.f6.length b9] 31)
        have hB4 := below_step hB hbn
        have hanc := anchor_any cs gp A c y B9 b9 _ HPP.out.1 (HP.out.below hB4) (HNR.out y hmem) hyB hl9 (Kd.C_below hi9 hbn)
        have HC9 := Lib.hid (Kd.C_below hi9 hbn)
        have HL9 := Lib.hid hl9
        obtain ⟨f0, hL0⟩ := hL.out
        have HL4 := Lib.hid (hL0.fresh.below hbn)
        have HN9 := Lib.hid hyB
        obtain ⟨an, han⟩ : ∃ an, an = anchorOf cs (refsOf y) := ⟨_, rfl⟩
        unfold MixPost at hanc
        rw [← han] at hanc
        have HAN := Lib.hid han
        have HANC := Lib.hid hanc
        unfold exV at HANC
        clear han hanc hi9 hl9 hyN hyB
        obtain ⟨a1, a2, a3⟩ := an
        go_wp2_with fail
        generalize wr.alloc (.cells #[.int .i64 y.f0, .int .i64 y.f1, .int .i64 y.f2.f0, .int .i64 y.f2.f1, .string y.f2.f2, .bool y.f2.f3, .string y.f3, .int .i64 y.f4, .string y.f5, .slice B9 y.f6.length b9] 31) = W4 at *
        refine HANC.out.mono ?_
        rintro e W5 ⟨hb5, rfl⟩
        have hB5 := below_step hB4 hb5
        have hY5 := blk_below hY hb5
        have y0 := (blk_cell hY5 0).trans rfl
        have y1 := (blk_cell hY5 1).trans rfl
        have y2 := (blk_cell hY5 2).trans rfl
        have y3 := (blk_cell hY5 3).trans rfl
        have y4 := (blk_cell hY5 4).trans rfl
        have y5 := (blk_cell hY5 5).trans rfl
        have y6 := (blk_cell hY5 6).trans rfl
        have y7 := (blk_cell hY5 7).trans rfl
        have y8 := (blk_cell hY5 8).trans rfl
        have y9 := (blk_cell hY5 9).trans rfl
        by_cases h0 : a3 = 0
        · subst h0
          have hva := anchor_valid HAN.out.symm HPE.out.symm
          obtain ⟨k, n, rfl, rfl, hv, hni⟩ := hva
          have hll : ∀ k i, (placeL cs (ws.take j) k i).length ≤ 300000 := by
            intro k i
            have := placeL_len cs (ws.take j) k i
            rw [List.length_take] at this
            have := HWS.out
            omega
          have hadd := HADL.out _ _ _ _ _ _ (HL4.out.below hb5) k n hv hni y B9 b9 HN9.out HL9.out (Kd.C_below HC9.out hb5) (by have := hll k (plI k n); omega) hB5.size
          have hF2 := Lib.hid (show (ws.take (j + 1)).find? (fun x => (anchorOf cs (refsOf x)).2.2 != 0) = none by rw [HT.out, List.find?_append, hF.out]; simp [← HAN.out])
          have HADD := Lib.hid hadd
          have HLL := Lib.hid hll
          have HF7 := Lib.hid (show (fun b => if wr.heap.size ≤ b then 7 else f0 b) wr.heap.size = 7 from if_pos (Nat.le_refl _))
          have HHV := Lib.hid hv
          unfold exV at HADD
          clear hadd hll hv
          go_wp2_with fail
          refine HADD.out.mono ?_
          rintro e W6 ⟨rfl, hb6, f6, hL6, hf6, hk6⟩
          have hY6 := hk6 _ _ HF7.out hY5
          have hb26 : Below W2.heap.size W2 W6 := below_then' hB5 hb6
          have y0 := (blk_cell hY6 0).trans rfl
          have y1 := (blk_cell hY6 1).trans rfl
          have y2 := (blk_cell hY6 2).trans rfl
          have y3 := (blk_cell hY6 3).trans rfl
          have y4 := (blk_cell hY6 4).trans rfl
          have y5 := (blk_cell hY6 5).trans rfl
          have y6 := (blk_cell hY6 6).trans rfl
          have y7 := (blk_cell hY6 7).trans rfl
          have y8 := (blk_cell hY6 8).trans rfl
          have y9 := (blk_cell hY6 9).trans rfl
          by_cases hk2 : k = 2
          · subst hk2
            have HAG := Lib.hid (again_any y B9 b9 W6 HN9.out HL9.out (Kd.C_below HCW.out hb26))
            unfold exV at HAG
            obtain ⟨ab, hab⟩ : ∃ ab, ab = againOf y := ⟨_, rfl⟩
            rw [← hab] at HAG
            have HAB := Lib.hid hab
            clear hab
            go_wp2_with fail
            refine HAG.out.mono ?_
            rintro e W7 ⟨rfl, hb7⟩
            have hb27 := below_step hb26 hb7
            have hL7 := hL6.below hb7
            have hY7 := blk_below hY6 hb7
            have y0 := (blk_cell hY7 0).trans rfl
            have y1 := (blk_cell hY7 1).trans rfl
            have y2 := (blk_cell hY7 2).trans rfl
            have y3 := (blk_cell hY7 3).trans rfl
            have y4 := (blk_cell hY7 4).trans rfl
            have y5 := (blk_cell hY7 5).trans rfl
            have y6 := (blk_cell hY7 6).trans rfl
            have y7 := (blk_cell hY7 7).trans rfl
            have y8 := (blk_cell hY7 8).trans rfl
            have y9 := (blk_cell hY7 9).trans rfl
            cases ab with
            | true =>
              have hv2 : VP cs 1 (plI 1 n) := by
                rcases HHV.out with ⟨_, h⟩ | ⟨h, _⟩ | ⟨h, _⟩
                · exact Or.inl ⟨Or.inl rfl, h⟩
                · exact absurd h (by decide)
                · exact absurd h (by decide)
              have hl2 : (upd2 (placeL cs (ws.take j)) 2 (plI 2 n) (placeL cs (ws.take j) 2 (plI 2 n) ++ [y]) 1 (plI 1 n)).length ≤ 1000000 := by
                have : upd2 (placeL cs (ws.take j)) 2 (plI 2 n) (placeL cs (ws.take j) 2 (plI 2 n) ++ [y]) 1 (plI 1 n) = placeL cs (ws.take j) 1 (plI 1 n) := by simp [upd2]
                rw [this]
                have := HLL.out 1 (plI 1 n)
                omega
              have hadd2 := HADL.out _ _ _ _ _ _ hL7 1 n hv2 (Or.inr rfl) y B9 b9 HN9.out HL9.out (Kd.C_below HCW.out hb27) hl2 hb27.size
              have HADD2 := Lib.hid hadd2
              unfold exV at HADD2
              clear hadd2 hv2 hl2
              go_wp2_with fail
              refine HADD2.out.mono ?_
              rintro e W8 ⟨rfl, hb8, f8, hL8, hf8, hk8⟩
              have hb28 := below_then' hb27 hb8
              have HST := Lib.hid (show ∃ f, LayF W8 W2.heap.size G cs (placeL cs (ws.take (j + 1))) f by
                rw [HT.out, placeL_snoc]
                unfold placeStep
                rw [← HAN.out, if_pos ⟨rfl, HAB.out.symm⟩]
                exact ⟨f8, hL8⟩)
              go_wp2_with fail
              go_roundw
              case rel => exact ⟨j + 1, by omega, by go_num, hb28, HST, hF2⟩
              case measure => simp [intOf]; omega
            | false =>
              have HST := Lib.hid (show ∃ f, LayF W7 W2.heap.size G cs (placeL cs (ws.take (j + 1))) f by
                rw [HT.out, placeL_snoc]
                unfold placeStep
                rw [← HAN.out, if_neg (by rintro ⟨_, h⟩; rw [← HAB.out] at h; exact absurd h (by decide))]
                exact ⟨f6, hL7⟩)
              go_wp2_with fail
              go_roundw
              case rel => exact ⟨j + 1, by omega, by go_num, hb27, HST, hF2⟩
              case measure => simp [intOf]; omega
          · have dk : ((k : Int) == 2) = false := by rw [beq_eq_false_iff_ne]; omega
            have HST := Lib.hid (show ∃ f, LayF W6 W2.heap.size G cs (placeL cs (ws.take (j + 1))) f by
              rw [HT.out, placeL_snoc]
              unfold placeStep
              rw [← HAN.out, if_neg (by rintro ⟨h, _⟩; exact hk2 (by have h : (k : Int) = 2 := h; omega))]
              exact ⟨f6, hL6⟩)
            go_wp2_with fail
            go_roundw
            case rel => exact ⟨j + 1, by omega, by go_num, hb26, HST, hF2⟩
            case measure => simp [intOf]; omega
        · have d : (a3 != 0) = true := by simpa using h0
          have HE := Lib.hid (show qe = a3 by
            rw [HQE.out]
            unfold placeErr
            have h1 : (ws.take (j + 1)).find? (fun x => (anchorOf cs (refsOf x)).2.2 != 0) = some y := by
              rw [HT.out, List.find?_append, hF.out]
              simp [← HAN.out, h0]
            have h2 : ws.find? (fun x => (anchorOf cs (refsOf x)).2.2 != 0) = some y := by
              rw [← List.take_append_drop (j + 1) ws, List.find?_append, h1]
              rfl
            rw [h2]
            show (anchorOf cs (refsOf y)).2.2 = a3
            rw [← HAN.out])
          go_wp2_with fail
          go_ret3
          exact ⟨below_step hB2 hB5, Or.inr (Or.inl ⟨HPE.out.symm, by rw [← HQE.out, HE.out]; exact h0, by rw [← HQE.out, HE.out]; rfl⟩)⟩
      · obtain rfl : j = ws.length := by omega
        have hL2 := hL.out
        have hF2 := hF.out
        rw [List.take_of_length_le (Nat.le_refl _)] at hL2 hF2
        obtain ⟨f, LT, hLT, S, N, T, U, Pl, nb, cap, junk, V, hI⟩ := hL2
        have HLT := Lib.hid hLT
        clear hLT
        have hE : qe = 0 := by
          rw [HQE.out]
          unfold placeErr
          rw [hF2]
        have HE := Lib.hid hE
        have HI := Lib.hid hI
        have g0 := (blk_cell hI.hG 0).trans rfl
        obtain ⟨AF, cF, hVF⟩ := Kd.R_slice (hI.hL 5 0 (by decide))
        have g2 := (blk_cell hI.hG 2).trans rfl
        rw [hVF] at g2
        have HVF := Lib.hid hVF
        clear hI hF2 hE hVF
        go_wp2_with fail
        go_quiet (fail)
        go_wp2_with fail
        go_ret3
        exact ⟨pw_below_drewN (below_step hB2 hB) _, Or.inr (Or.inr ⟨HPE.out.symm, HQE.out.symm.trans HE.out, G, S, N, T, U, Pl, nb, cap, junk, V, f, _, LT, hB2.size, HLT.out, HI.out.below (pw_below_drewN (Below.refl _ _) _), by rw [HVF.out]; rfl⟩)⟩
end Go.Proofs.Ytgnifglolbfamaa.D

/- A layout that was answered: its blocks (entL), what it reads as; all its blocks are different. -/
set_option linter.unusedVariables false
set_option linter.unusedSimpArgs false
namespace Go.Proofs.Ytgnifglolbfamaa
open Go.RowKit Go.Proofs.YtgnifglolbfamaaW.PrintWords

structure TG where
  f0 : ByteArray
  f1 : ByteArray
  c : HX
abbrev HG := Option Nat × Nat × List TG
structure TS where
  f0 : ByteArray
  f1 : ByteArray
  f2 : Bool
  n : HG
  b : HX
  t : HX
  c : HX
def rdH (x : HX) : List Ex := x.2.2.map exT
def ngT (x : TG) : Ng := ⟨x.f0, x.f1, rdH x.c⟩
def sgT (x : TS) : Sg := ⟨x.f0, x.f1, x.f2, x.n.2.2.map ngT, rdH x.b, rdH x.t, rdH x.c⟩
def cellsG (x : TG) : List Value := [.string x.f0, .string x.f1, svT x.c]
def cellsS (x : TS) : List Value := [.string x.f0, .string x.f1, .bool x.f2, svT x.n, svT x.b, svT x.t, svT x.c]
def entX3 (g : Option Nat) (cap : Nat) (l : List TG) : List Ent := match g with
  | some g => [⟨g, 73, 3, l.length, cap, l.flatMap cellsG⟩]
  | none => []
def entN (x : HG) : List Ent := entX3 x.1 x.2.1 x.2.2 ++ x.2.2.flatMap (fun y => entH y.c)
def entS (x : TS) : List Ent := entN x.n ++ (entH x.b ++ (entH x.t ++ entH x.c))
structure Lay where
  S : Nat
  l : List TS
  fin : HX
def entL (y : Lay) : List Ent := ⟨y.S, 71, 7, y.l.length, y.l.length, y.l.flatMap cellsS⟩ :: (entH y.fin ++ y.l.flatMap entS)
structure WfN (x : HG) : Prop where
  n : x.1 = none → x.2.1 = 0 ∧ x.2.2 = []
  g : ∀ y ∈ x.2.2, WfH y.c
structure WfS (x : TS) : Prop where
  n : WfN x.n
  b : WfH x.b
  t : WfH x.t
  c : WfH x.c
structure WfL (y : Lay) : Prop where
  l : ∀ s ∈ y.l, WfS s
  fin : WfH y.fin
theorem own_N {w : World} {x : HG} (hw : WfN x) (h : AllOwn w (entX3 x.1 x.2.1 x.2.2)) : w.ownsRow 0 73 3 (svT x) x.2.2.length (x.2.2.flatMap cellsG) := by
  obtain ⟨g, cap, ts⟩ := x
  cases g with
  | none =>
    obtain ⟨h1, h2⟩ := hw.1 rfl
    simp only at h1 h2
    subst h1 h2
    exact own_nil _ _ _ _
  | some g => exact h _ (List.mem_singleton.2 rfl)
theorem entN_c {x : HG} {y : TG} (hy : y ∈ x.2.2) : ∀ E ∈ entH y.c, E ∈ entN x := fun E hE => List.mem_append_right _ (List.mem_flatMap.2 ⟨y, hy, hE⟩)
theorem read_N {w : World} {x : HG} (hw : WfN x) (ha : AllOwn w (entN x)) : x.2.2.length ≤ x.2.1 ∧ kNg.C w (x.1.map (fun g => ⟨g, 0, none⟩)) x.2.2.length (x.2.2.map ngT) := by
  have hx : AllOwn w (entX3 x.1 x.2.1 x.2.2) := ha.sub (fun E hE => List.mem_append_left _ hE)
  have ho := own_N hw hx
  refine ⟨own_cap ho, ?_⟩
  obtain ⟨A, c, hv, hC⟩ := own_reads_row ho (reps_flat cellsG ngT (kNg.K w) 3 x.2.2 (fun _ _ => rfl) (fun k hkm => by
    have hc := ha.sub (entN_c hkm)
    have hr := read_H (hw.g k hkm) hc
    have hcp := cap_H (hw.g k hkm) (hc.sub (fun E hE => List.mem_append_left _ hE))
    have := kNg_mk w (ngT k) (A2 := k.c.1.map (fun g => ⟨g, 0, none⟩)) (c2 := k.c.2.1) (by unfold ngT rdH; rw [List.length_map]; exact hcp) (by unfold ngT rdH; rw [List.length_map]; exact hr)
    unfold ngT rdH at this
    rw [List.length_map] at this
    exact this)) (by rw [List.length_map])
  unfold svT at hv
  injection hv with h1 h2 h3
  have : A = x.1.map (fun g => ⟨g, 0, none⟩) := h1.symm
  rw [← this]
  exact hC
theorem entS_n {x : TS} : ∀ E ∈ entN x.n, E ∈ entS x := fun E h => List.mem_append_left _ h
theorem entS_b {x : TS} : ∀ E ∈ entH x.b, E ∈ entS x := fun E h => List.mem_append_right _ (List.mem_append_left _ h)
theorem entS_t {x : TS} : ∀ E ∈ entH x.t, E ∈ entS x := fun E h => List.mem_append_right _ (List.mem_append_right _ (List.mem_append_left _ h))
theorem entS_c {x : TS} : ∀ E ∈ entH x.c, E ∈ entS x := fun E h => List.mem_append_right _ (List.mem_append_right _ (List.mem_append_right _ h))
theorem read_S {w : World} {s : TS} (hw : WfS s) (ha : AllOwn w (entS s)) : kSg.K w (sgT s) (cellsS s) := by
  have hN := read_N hw.n (ha.sub entS_n)
  have hb := read_H hw.b (ha.sub entS_b)
  have ht := read_H hw.t (ha.sub entS_t)
  have hc := read_H hw.c (ha.sub entS_c)
  have cb := cap_H hw.b ((ha.sub entS_b).sub (fun E hE => List.mem_append_left _ hE))
  have ct := cap_H hw.t ((ha.sub entS_t).sub (fun E hE => List.mem_append_left _ hE))
  have cc := cap_H hw.c ((ha.sub entS_c).sub (fun E hE => List.mem_append_left _ hE))
  have := kSg_mk w (sgT s) (A3 := s.n.1.map (fun g => ⟨g, 0, none⟩)) (c3 := s.n.2.1) (by unfold sgT; rw [List.length_map]; exact hN.1) (by unfold sgT; rw [List.length_map]; exact hN.2)
    (A4 := s.b.1.map (fun g => ⟨g, 0, none⟩)) (c4 := s.b.2.1) (by unfold sgT rdH; rw [List.length_map]; exact cb) (by unfold sgT rdH; rw [List.length_map]; exact hb)
    (A5 := s.t.1.map (fun g => ⟨g, 0, none⟩)) (c5 := s.t.2.1) (by unfold sgT rdH; rw [List.length_map]; exact ct) (by unfold sgT rdH; rw [List.length_map]; exact ht)
    (A6 := s.c.1.map (fun g => ⟨g, 0, none⟩)) (c6 := s.c.2.1) (by unfold sgT rdH; rw [List.length_map]; exact cc) (by unfold sgT rdH; rw [List.length_map]; exact hc)
  unfold sgT rdH at this
  simp only [List.length_map] at this
  exact this
theorem read_L {w : World} {y : Lay} (hw : WfL y) (ha : AllOwn w (entL y)) : kSg.C w (some ⟨y.S, 0, none⟩) y.l.length (y.l.map sgT) ∧ kEx.C w (y.fin.1.map (fun g => ⟨g, 0, none⟩)) y.fin.2.2.length (rdH y.fin) := by
  refine ⟨?_, read_H hw.fin (ha.sub (fun E hE => List.mem_cons_of_mem _ (List.mem_append_left _ hE)))⟩
  have ho : w.ownsRow 0 71 7 (.slice (some ⟨y.S, 0, none⟩) y.l.length y.l.length) y.l.length (y.l.flatMap cellsS) := ha _ List.mem_cons_self
  obtain ⟨A, c, hv, hC⟩ := own_reads_row ho (reps_flat cellsS sgT (kSg.K w) 7 y.l (fun _ _ => rfl) (fun k hkm => read_S (hw.l k hkm) (ha.sub (fun E hE => List.mem_cons_of_mem _ (List.mem_append_right _ (List.mem_flatMap.2 ⟨k, hkm, hE⟩)))))) (by rw [List.length_map])
  injection hv with h1 h2 h3
  rw [← h1] at hC
  exact hC

theorem flat_rows {α : Type} (f : α → List Value) (sz : Nat) (l : List α) (hf : ∀ x ∈ l, (f x).length = sz) (cur : List Value) (hc : ∀ j p, l[j]? = some p → ∀ r, r < sz → cur[j * sz + r]? = (f p)[r]?) : cur.take (l.length * sz) = l.flatMap f := by
  apply List.ext_getElem?
  intro k
  rw [List.getElem?_take]
  by_cases hk : k < l.length * sz
  · rw [if_pos hk]
    have hsz : 0 < sz := Nat.pos_of_ne_zero (fun e => by rw [e] at hk; simp at hk)
    have hj : k / sz < l.length := (Nat.div_lt_iff_lt_mul hsz).2 hk
    have hr := Nat.mod_lt k hsz
    have hk' : k / sz * sz + k % sz = k := by rw [Nat.mul_comm]; exact Nat.div_add_mod k sz
    have h1 := hc (k / sz) _ (List.getElem?_eq_getElem hj) (k % sz) hr
    have h2 := flat_at f sz l hf (k / sz) _ (List.getElem?_eq_getElem hj)
    rw [hk'] at h1
    rw [h1, ← h2, List.getElem?_take, if_pos hr, List.getElem?_drop, hk']
  · rw [if_neg hk, List.getElem?_eq_none (by rw [flat_len f sz l hf]; omega)]

theorem ngI_nodup' (cs : List Cp) (k s : Nat) : (ngI cs k s).Nodup := D.ngI_nodup cs k s
theorem two_types {w : World} {b : Nat} {t u : TypeId} (h : ∃ c, w.heap[b]? = some (.cells c t (0, 0))) (h' : ∃ c, w.heap[b]? = some (.cells c u (0, 0))) : t = u := by
  obtain ⟨c, h⟩ := h
  obtain ⟨c', h'⟩ := h'
  rw [h] at h'
  injection h' with h'
  injection h' with _ h2
theorem lay_of {w : World} {base G : Nat} {cs : List Cp} {L : Nat → Nat → List TX} {S N : Nat} {T U : Nat → ByteArray} {Pl : Nat → Bool} {nb cap : Nat → Nat} {junk V : Nat → Nat → Value} {f : Nat → Nat}
    (h : D.LayIn w base G cs L S N T U Pl nb cap junk V f) (h8 : cs.length ≤ 8) :
    ∃ y : Lay, y.S = S ∧ y.l.length = stg cs ∧ svT y.fin = V 5 0 ∧ y.l.map sgT = stagesL cs T U Pl (D.mp L) ∧ rdH y.fin = D.mp L 5 0 ∧ WfL y ∧ AllOwn w (entL y) ∧ (keys (entL y)).Nodup ∧ ∀ b ∈ keys (entL y), base ≤ b := by
  have hst := stg_len cs
  have hx : ∀ k i, ∃ x : HX, k < 8 → V k i = svT x ∧ x.2.2 = L k i := fun k i => by
    by_cases hk : k < 8
    · obtain ⟨g, c, e⟩ := R_svT (h.hL k i hk)
      exact ⟨(g, c, L k i), fun _ => ⟨e, rfl⟩⟩
    · exact ⟨(none, 0, []), fun e => absurd e hk⟩
  obtain ⟨hX, hX⟩ : ∃ X : Nat → Nat → HX, ∀ k i, k < 8 → V k i = svT (X k i) ∧ (X k i).2.2 = L k i := ⟨fun k i => (hx k i).choose, fun k i => (hx k i).choose_spec⟩
  rename_i X
  have hE : ∀ k i, k < 8 → WfH (X k i) ∧ AllOwn w (entH (X k i)) := fun k i hk => by
    have := h.hL k i hk
    rw [(hX k i hk).1, ← (hX k i hk).2] at this
    exact R_ents this
  have hK : ∀ k i, k < 8 → ∀ b ∈ keys (entH (X k i)), f b = 8 * i + k ∧ base ≤ b ∧ ∃ c, w.heap[b]? = some (.cells c 31 (0, 0)) := fun k i hk b hb => by
    have hR := h.hL k i hk
    rw [(hX k i hk).1, ← (hX k i hk).2] at hR
    rw [keys_entH] at hb
    rcases List.mem_append.1 hb with hb | hb
    · have hg : (X k i).1 = some b := by simpa [Option.mem_toList] using hb
      have hown : (svT (X k i)).ownBlock = some b := by rw [svT_own]; exact hg
      obtain ⟨inner, ho⟩ := Kd.R_own hR
      exact ⟨hR.1 b hown, own_base ho b hown, own_typed ho b hown⟩
    · obtain ⟨h1, _, h2, _, h3⟩ := blTs_at hR b hb
      exact ⟨h1, h2, h3⟩
  have hN : ∀ k i, k < 8 → (keys (entH (X k i))).Nodup := fun k i hk => by
    have hR := h.hL k i hk
    rw [(hX k i hk).1, ← (hX k i hk).2] at hR
    rw [keys_entH, List.nodup_append]
    refine ⟨by cases (X k i).1 <;> simp, by rw [(hX k i hk).2]; exact h.nd k i hk, fun a ha b hb e => ?_⟩
    subst e
    have hg : (X k i).1 = some a := by simpa [Option.mem_toList] using ha
    exact (blTs_at hR a hb).2.1 (by rw [svT_own, hg])
  obtain ⟨nx, hnx⟩ : ∃ nx : Nat → HG, nx = fun s => if ngI cs cs.length s = [] then (none, 0, []) else (some (nb s), cap s, (ngI cs cs.length s).map (fun i => ⟨(cpA cs i).f2, (cpA cs i).f3, X 4 i⟩)) := ⟨_, rfl⟩
  have hnv : ∀ s, nv cs nb cap s = svT (nx s) := fun s => by
    rw [hnx]
    unfold nv svT
    simp only
    by_cases he : ngI cs cs.length s = []
    · rw [if_pos he, if_pos he]; rfl
    · rw [if_neg he, if_neg he]; simp
  have hn2 : ∀ s, (nx s).2.2 = (ngI cs cs.length s).map (fun i => ⟨(cpA cs i).f2, (cpA cs i).f3, X 4 i⟩) := fun s => by
    rw [hnx]
    simp only
    by_cases he : ngI cs cs.length s = []
    · rw [if_pos he, he]; rfl
    · rw [if_neg he]
  have hngE : ∀ s, AllOwn w (entX3 (nx s).1 (nx s).2.1 (nx s).2.2) := fun s E hE' => by
    by_cases he : ngI cs cs.length s = []
    · have : nx s = (none, 0, []) := by rw [hnx]; simp only; rw [if_pos he]
      rw [this] at hE'
      cases hE'
    · have hs : nx s = (some (nb s), cap s, (ngI cs cs.length s).map (fun i => ⟨(cpA cs i).f2, (cpA cs i).f3, X 4 i⟩)) := by rw [hnx]; simp only; rw [if_neg he]
      rw [hs] at hE'
      have hEq := List.mem_singleton.1 hE'
      subst hEq
      obtain ⟨hb, ⟨hcap, hcm⟩, cur, hg, hcs, hcur⟩ := h.hB s he
      have hnl := ngI_len cs cs.length s
      refine ⟨by rw [flat_len cellsG 3 _ (fun _ _ => rfl)], .inr ⟨nb s, cap s, cur, rfl, Nat.zero_le _, hg, by rw [List.length_map]; exact hcap, hcm, hcs, ?_⟩⟩
      refine flat_rows cellsG 3 _ (fun _ _ => rfl) _ (fun j p hj r hr => ?_)
      rw [List.getElem?_map] at hj
      obtain ⟨i, hi, rfl⟩ := Option.map_eq_some_iff.1 hj
      have hjl : j < (ngI cs cs.length s).length := (List.getElem?_eq_some_iff.1 hi).1
      rw [Array.getElem?_toList, hcur (j * 3 + r) (by omega)]
      unfold cellN
      rw [show (j * 3 + r) / 3 = j from by omega, hi, show (j * 3 + r) % 3 = r from by omega]
      have hr3 : r = 0 ∨ r = 1 ∨ r = 2 := by omega
      rcases hr3 with rfl | rfl | rfl
      · rfl
      · rfl
      · show some (V 4 i) = some (svT (X 4 i))
        rw [(hX 4 i (by decide)).1]
  have hwn : ∀ s, WfN (nx s) := fun s => by
    refine ⟨fun hg => ?_, fun y hy => ?_⟩
    · rw [hnx] at hg ⊢
      simp only at hg ⊢
      by_cases he : ngI cs cs.length s = []
      · rw [if_pos he]; exact ⟨rfl, rfl⟩
      · rw [if_neg he] at hg; cases hg
    · rw [hn2] at hy
      obtain ⟨i, hi, rfl⟩ := List.mem_map.1 hy
      exact (hE 4 i (by decide)).1
  have hNE : ∀ s, AllOwn w (entN (nx s)) := fun s => AllOwn.append (hngE s) (fun E hE' => by
    obtain ⟨y, hy, hE'⟩ := List.mem_flatMap.1 hE'
    rw [hn2] at hy
    obtain ⟨i, hi, rfl⟩ := List.mem_map.1 hy
    exact (hE 4 i (by decide)).2 E hE')
  obtain ⟨ts, hts⟩ : ∃ ts : Nat → TS, ts = fun s => ⟨T s, U s, Pl s, nx s, X 1 s, X 2 s, X 3 s⟩ := ⟨_, rfl⟩
  have hSE : ∀ s, AllOwn w (entS (ts s)) := fun s => by
    rw [hts]
    exact AllOwn.append (hNE s) (AllOwn.append (hE 1 s (by decide)).2 (AllOwn.append (hE 2 s (by decide)).2 (hE 3 s (by decide)).2))
  have hS0 : Own w ⟨S, 71, 7, ((List.range (stg cs)).map ts).length, ((List.range (stg cs)).map ts).length, ((List.range (stg cs)).map ts).flatMap cellsS⟩ := by
    obtain ⟨cur, hg, hcs, hcur⟩ := h.hS
    have hl : ((List.range (stg cs)).map ts).length = stg cs := by rw [List.length_map, List.length_range]
    refine ⟨by rw [flat_len cellsS 7 _ (fun _ _ => rfl)], .inr ⟨S, _, cur, rfl, Nat.zero_le _, hg, Nat.le_refl _, ?_, by rw [hl]; exact hcs, ?_⟩⟩
    · show ((List.range (stg cs)).map ts).length ≤ maxLen
      rw [hl]
      simp only [maxLen]
      omega
    refine flat_rows cellsS 7 _ (fun _ _ => rfl) _ (fun j p hj r hr => ?_)
    have hjl : j < stg cs := by have := (List.getElem?_eq_some_iff.1 hj).1; omega
    rw [List.getElem?_map, List.getElem?_range hjl] at hj
    have hp : ts j = p := by simpa using hj
    subst hp
    rw [Array.getElem?_toList, hcur (j * 7 + r) (by omega), hts]
    have hr7 : r = 0 ∨ r = 1 ∨ r = 2 ∨ r = 3 ∨ r = 4 ∨ r = 5 ∨ r = 6 := by omega
    rcases hr7 with rfl | rfl | rfl | rfl | rfl | rfl | rfl
    · rw [Nat.add_zero, cellS_at0]; rfl
    · rw [cellS_at1]; rfl
    · rw [cellS_at2]; rfl
    · rw [cellS_at3, hnv]; rfl
    · rw [cellS_at4, (hX 1 j (by decide)).1]; rfl
    · rw [cellS_at5, (hX 2 j (by decide)).1]; rfl
    · rw [cellS_at6, (hX 3 j (by decide)).1]; rfl
  have hngK : ∀ s, ∀ b ∈ keys (entX3 (nx s).1 (nx s).2.1 (nx s).2.2), b = nb s ∧ ngI cs cs.length s ≠ [] ∧ base ≤ b ∧ ∃ c, w.heap[b]? = some (.cells c 73 (0, 0)) := fun s b hb => by
    by_cases he : ngI cs cs.length s = []
    · have : nx s = (none, 0, []) := by rw [hnx]; simp only; rw [if_pos he]
      rw [this] at hb
      cases hb
    · have hs : nx s = (some (nb s), cap s, (ngI cs cs.length s).map (fun i => ⟨(cpA cs i).f2, (cpA cs i).f3, X 4 i⟩)) := by rw [hnx]; simp only; rw [if_neg he]
      rw [hs] at hb
      have : b = nb s := by simpa [entX3, keys] using hb
      subst this
      obtain ⟨hb', _, cur, hg, _⟩ := h.hB s he
      exact ⟨rfl, he, hb', cur, hg⟩
  have hSK : ∀ s, ∀ b ∈ keys (entS (ts s)), base ≤ b ∧ ((b = nb s ∧ ngI cs cs.length s ≠ [] ∧ ∃ c, w.heap[b]? = some (.cells c 73 (0, 0))) ∨ (∃ c, w.heap[b]? = some (.cells c 31 (0, 0))) ∧ ((∃ i, i ∈ ngI cs cs.length s ∧ f b = 8 * i + 4) ∨ f b = 8 * s + 1 ∨ f b = 8 * s + 2 ∨ f b = 8 * s + 3)) := fun s b hb => by
    rw [hts] at hb
    unfold entS entN at hb
    simp only [keys_append] at hb
    rcases List.mem_append.1 hb with hb | hb
    · rcases List.mem_append.1 hb with hb | hb
      · obtain ⟨h1, h2, h3, h4⟩ := hngK s b hb
        exact ⟨h3, .inl ⟨h1, h2, h4⟩⟩
      · rw [keys_flat] at hb
        obtain ⟨y, hy, hb⟩ := List.mem_flatMap.1 hb
        rw [hn2] at hy
        obtain ⟨i, hi, rfl⟩ := List.mem_map.1 hy
        obtain ⟨h1, h2, h3⟩ := hK 4 i (by decide) b hb
        exact ⟨h2, .inr ⟨h3, .inl ⟨i, hi, h1⟩⟩⟩
    · rcases List.mem_append.1 hb with hb | hb
      · obtain ⟨h1, h2, h3⟩ := hK 1 s (by decide) b hb
        exact ⟨h2, .inr ⟨h3, .inr (.inl h1)⟩⟩
      · rcases List.mem_append.1 hb with hb | hb
        · obtain ⟨h1, h2, h3⟩ := hK 2 s (by decide) b hb
          exact ⟨h2, .inr ⟨h3, .inr (.inr (.inl h1))⟩⟩
        · obtain ⟨h1, h2, h3⟩ := hK 3 s (by decide) b hb
          exact ⟨h2, .inr ⟨h3, .inr (.inr (.inr h1))⟩⟩
  have hSN : ∀ s, (keys (entS (ts s))).Nodup := fun s => by
    rw [hts]
    unfold entS entN
    simp only [keys_append]
    have hnn : (keys (entX3 (nx s).1 (nx s).2.1 (nx s).2.2) ++ keys ((nx s).2.2.flatMap (fun y => entH y.c))).Nodup := by
      rw [List.nodup_append]
      refine ⟨?_, ?_, fun a ha b hb e => ?_⟩
      · cases (nx s).1 <;> simp [entX3, keys]
      · rw [keys_flat, hn2, List.flatMap_map]
        unfold List.Nodup
        rw [List.pairwise_flatMap]
        refine ⟨fun i _ => hN 4 i (by decide), (ngI_nodup' cs cs.length s).imp (fun {i i'} hne x hx y hy e => ?_)⟩
        have h1 := (hK 4 i (by decide) x hx).1
        have h2 := (hK 4 i' (by decide) y hy).1
        subst e
        omega
      · subst e
        have h1 := (hngK s a ha).2.2.2
        rw [keys_flat, hn2, List.flatMap_map] at hb
        obtain ⟨i, _, hb⟩ := List.mem_flatMap.1 hb
        exact absurd (two_types h1 (hK 4 i (by decide) a hb).2.2) (by decide)
    have hab : ∀ a ∈ keys (entX3 (nx s).1 (nx s).2.1 (nx s).2.2) ++ keys ((nx s).2.2.flatMap (fun y => entH y.c)), (∃ c, w.heap[a]? = some (.cells c 73 (0, 0))) ∨ ∃ i, f a = 8 * i + 4 := fun a ha => by
      rcases List.mem_append.1 ha with ha | ha
      · exact .inl (hngK s a ha).2.2.2
      · rw [keys_flat, hn2, List.flatMap_map] at ha
        obtain ⟨i, _, ha⟩ := List.mem_flatMap.1 ha
        exact .inr ⟨i, (hK 4 i (by decide) a ha).1⟩
    have hc : ∀ k a, k < 4 → 0 < k → a ∈ keys (entH (X k s)) → f a = 8 * s + k ∧ ∃ c, w.heap[a]? = some (.cells c 31 (0, 0)) := fun k a hk _ ha => ⟨(hK k s (by omega) a ha).1, (hK k s (by omega) a ha).2.2⟩
    rw [List.nodup_append]
    refine ⟨hnn, ?_, fun a ha b hb e => ?_⟩
    · rw [List.nodup_append]
      refine ⟨hN 1 s (by decide), ?_, fun a ha b hb e => ?_⟩
      · rw [List.nodup_append]
        refine ⟨hN 2 s (by decide), hN 3 s (by decide), fun a ha b hb e => ?_⟩
        subst e
        have h1 := (hc 2 a (by decide) (by decide) ha).1
        have h2 := (hc 3 a (by decide) (by decide) hb).1
        omega
      · subst e
        have h1 := (hc 1 a (by decide) (by decide) ha).1
        rcases List.mem_append.1 hb with hb | hb
        · have h2 := (hc 2 a (by decide) (by decide) hb).1
          omega
        · have h2 := (hc 3 a (by decide) (by decide) hb).1
          omega
    · subst e
      have h2 : (f a = 8 * s + 1 ∨ f a = 8 * s + 2 ∨ f a = 8 * s + 3) ∧ ∃ c, w.heap[a]? = some (.cells c 31 (0, 0)) := by
        rcases List.mem_append.1 hb with hb | hb
        · exact ⟨.inl (hc 1 a (by decide) (by decide) hb).1, (hc 1 a (by decide) (by decide) hb).2⟩
        · rcases List.mem_append.1 hb with hb | hb
          · exact ⟨.inr (.inl (hc 2 a (by decide) (by decide) hb).1), (hc 2 a (by decide) (by decide) hb).2⟩
          · exact ⟨.inr (.inr (hc 3 a (by decide) (by decide) hb).1), (hc 3 a (by decide) (by decide) hb).2⟩
      rcases hab a ha with h1 | ⟨i, h1⟩
      · exact absurd (two_types h1 h2.2) (by decide)
      · have := h2.1
        omega
  refine ⟨⟨S, (List.range (stg cs)).map ts, X 5 0⟩, rfl, by simp, ((hX 5 0 (by decide)).1).symm, ?_, ?_, ⟨fun s hs => ?_, (hE 5 0 (by decide)).1⟩, ?_, ?_, ?_⟩
  · show ((List.range (stg cs)).map ts).map sgT = stagesL cs T U Pl (D.mp L)
    unfold stagesL negsL D.mp
    rw [List.map_map]
    refine List.map_congr_left (fun s _ => ?_)
    rw [hts]
    simp only [Function.comp]
    unfold sgT rdH
    simp only [hn2, List.map_map]
    rw [(hX 1 s (by decide)).2, (hX 2 s (by decide)).2, (hX 3 s (by decide)).2]
    congr 1
    refine List.map_congr_left (fun i _ => ?_)
    show ngT _ = _
    unfold ngT rdH
    simp only
    rw [(hX 4 i (by decide)).2]
  · show (X 5 0).2.2.map exT = (L 5 0).map exT
    rw [(hX 5 0 (by decide)).2]
  · obtain ⟨i, _, rfl⟩ := List.mem_map.1 hs
    rw [hts]
    exact ⟨hwn i, (hE 1 i (by decide)).1, (hE 2 i (by decide)).1, (hE 3 i (by decide)).1⟩
  · intro E hE'
    unfold entL at hE'
    rcases List.mem_cons.1 hE' with rfl | hE'
    · exact hS0
    · rcases List.mem_append.1 hE' with hE' | hE'
      · exact (hE 5 0 (by decide)).2 E hE'
      · rw [List.flatMap_map] at hE'
        obtain ⟨s, _, hE'⟩ := List.mem_flatMap.1 hE'
        exact hSE s E hE'
  · show (S :: keys (entH (X 5 0) ++ ((List.range (stg cs)).map ts).flatMap entS)).Nodup
    have hall : ∀ b ∈ keys (entH (X 5 0) ++ ((List.range (stg cs)).map ts).flatMap entS), (∃ c, w.heap[b]? = some (.cells c 73 (0, 0))) ∨ ∃ c, w.heap[b]? = some (.cells c 31 (0, 0)) := fun b hb => by
      rw [keys_append] at hb
      rcases List.mem_append.1 hb with hb | hb
      · exact .inr (hK 5 0 (by decide) b hb).2.2
      · rw [keys_flat, List.flatMap_map] at hb
        obtain ⟨s, _, hb⟩ := List.mem_flatMap.1 hb
        rcases (hSK s b hb).2 with h1 | h1
        · exact .inl h1.2.2
        · exact .inr h1.1
    rw [List.nodup_cons]
    refine ⟨fun hm => ?_, ?_⟩
    · obtain ⟨cur, hg, _⟩ := h.hS
      rcases hall S hm with h1 | h1
      · exact absurd (two_types h1 ⟨cur, hg⟩) (by decide)
      · exact absurd (two_types h1 ⟨cur, hg⟩) (by decide)
    · rw [keys_append, List.nodup_append]
      refine ⟨hN 5 0 (by decide), ?_, fun a ha b hb e => ?_⟩
      · rw [keys_flat, List.flatMap_map]
        unfold List.Nodup
        rw [List.pairwise_flatMap]
        refine ⟨fun s _ => hSN s, List.nodup_range.imp (fun {s s'} hne x hx y hy e => ?_)⟩
        subst e
        have h1 := (hSK s x hx).2
        have h2 := (hSK s' x hy).2
        rcases h1 with ⟨a1, a2, a3⟩ | ⟨a1, a2⟩
        · rcases h2 with ⟨b1, b2, b3⟩ | ⟨b1, b2⟩
          · exact h.inj s s' a2 b2 hne (a1.symm.trans b1)
          · exact absurd (two_types a3 b1) (by decide)
        · rcases h2 with ⟨b1, b2, b3⟩ | ⟨b1, b2⟩
          · exact absurd (two_types b3 a1) (by decide)
          · rcases a2 with ⟨i, hi, ha⟩ | ha
            · rcases b2 with ⟨i', hi', hb⟩ | hb
              · have : i = i' := by omega
                subst this
                exact hne ((ngI_lt hi).2.2.symm.trans (ngI_lt hi').2.2)
              · omega
            · rcases b2 with ⟨i', hi', hb⟩ | hb
              · omega
              · omega
      · subst e
        have h1 := (hK 5 0 (by decide) a ha)
        rw [keys_flat, List.flatMap_map] at hb
        obtain ⟨s, _, hb⟩ := List.mem_flatMap.1 hb
        rcases (hSK s a hb).2 with ⟨a1, a2, a3⟩ | ⟨a1, a2⟩
        · exact absurd (two_types a3 h1.2.2) (by decide)
        · have h2 := h1.1
          rcases a2 with ⟨i, hi, ha⟩ | ha <;> omega
  · intro b hb
    have hb : b ∈ S :: keys (entH (X 5 0) ++ ((List.range (stg cs)).map ts).flatMap entS) := hb
    rcases List.mem_cons.1 hb with rfl | hb
    · exact h.bS
    · rw [keys_append] at hb
      rcases List.mem_append.1 hb with hb | hb
      · exact (hK 5 0 (by decide) b hb).2.1
      · rw [keys_flat, List.flatMap_map] at hb
        obtain ⟨s, _, hb⟩ := List.mem_flatMap.1 hb
        exact (hSK s b hb).1
end Go.Proofs.Ytgnifglolbfamaa
