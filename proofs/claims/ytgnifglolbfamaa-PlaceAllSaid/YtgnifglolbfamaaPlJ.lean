/- The walk of place.Anchor. -/
import Derived.Test.YtgnifglolbfamaaPlI
set_option linter.unusedVariables false
set_option linter.unusedSimpArgs false
namespace Go.Proofs.Ytgnifglolbfamaa
open Go.RowKit Go.Proofs.YtgnifglolbfamaaW.PrintWords

def anchorTop (cs : List Cp) (rs : List Rf) : Int × Int × Int := if patErr cs ≠ 0 then (0, 0, patErr cs) else anchorOf cs rs
theorem patErr_pos {cs : List Cp} (h : patErr cs = 0) : 0 < cs.length ∧ cs.length ≤ 8 := by
  unfold patErr at h
  split at h
  · exact absurd h (by decide)
  · omega

set_option maxHeartbeats 2000000 in
set_option maxRecDepth 100000 in
theorem Anchor_any (cs : List Cp) (A : Option Addr) (c : Nat) (q1 : ByteArray) (q2 : Int) (v3 v4 : Value) (q5 : Int) (q6 : ByteArray) (v7 : Value) (h3 : v3.oneCell' = true) (h4 : v4.oneCell' = true) (h7 : v7.oneCell' = true) (x : Ex) (B : Option Addr) (cb : Nat) (w : World)
    (hc : cs.length ≤ c) (hC : kCp.C w A cs.length cs) (hnm : ∀ x ∈ cs, x.f3.size ≤ maxLen) (hnr : ∀ r ∈ refsOf x, r.f0.size ≤ maxLen) (hN : exN x ≤ 100000000000) (hcb : x.f6.length ≤ cb) (hCx : kEx.C w B x.f6.length x.f6) :
    Calls Try.prog 11 #[.agg #[.slice A cs.length c, .string q1, .int .i64 q2, v3, v4, .int .i64 q5, .string q6, v7], exV x (.slice B x.f6.length cb)] w (MixPost (anchorTop cs (refsOf x)) w) := by
  have hb2 := below_step (below_new w (.cells #[.slice A cs.length c, .string q1, .int .i64 q2, v3, v4, .int .i64 q5, .string q6, v7] 27)) (below_new _ (.cells #[.int .i64 x.f0, .int .i64 x.f1, .int .i64 x.f2.f0, .int .i64 x.f2.f1, .string x.f2.f2, .bool x.f2.f3, .string x.f3, .int .i64 x.f4, .string x.f5, .slice B x.f6.length cb] 31))
  have hpat := patternOf_any cs A c q1 q2 v3 v4 q5 q6 v7 h3 h4 h7 _ hc (Kd.C_below hC hb2) hnm
  have hX := blk_new1 w (.cells #[.slice A cs.length c, .string q1, .int .i64 q2, v3, v4, .int .i64 q5, .string q6, v7] 27) (.cells #[.int .i64 x.f0, .int .i64 x.f1, .int .i64 x.f2.f0, .int .i64 x.f2.f1, .string x.f2.f2, .bool x.f2.f3, .string x.f3, .int .i64 x.f4, .string x.f5, .slice B x.f6.length cb] 31)
  have hanc := fun gp W h0 hp hCW => anchor_any cs gp A c x B cb W h0 hp hnr hN hcb hCW
  obtain ⟨pe, hpe⟩ : ∃ pe, pe = patErr cs := ⟨_, rfl⟩
  have hpos := @patErr_pos cs
  unfold PatPost at hpat
  rw [← hpe] at hpat hpos
  obtain ⟨res, hres⟩ : ∃ res, res = anchorTop cs (refsOf x) := ⟨_, rfl⟩
  rw [← hres]
  unfold anchorTop at hres
  rw [← hpe] at hres
  have HRES := Lib.hid hres
  have HPOS := Lib.hid hpos
  have HA := Lib.hid hanc
  have HCX := Lib.hid (Kd.C_below hCx hb2)
  clear hres hpos hanc hC hCx hnm hnr hN hcb hc hpe
  unfold exV at *
  go_enter Try.func11, Try.ntmps11
  go_wp2_with fail
  generalize (w.alloc (.cells #[.slice A cs.length c, .string q1, .int .i64 q2, v3, v4, .int .i64 q5, .string q6, v7] 27)).alloc (.cells #[.int .i64 x.f0, .int .i64 x.f1, .int .i64 x.f2.f0, .int .i64 x.f2.f1, .string x.f2.f2, .bool x.f2.f3, .string x.f3, .int .i64 x.f4, .string x.f5, .slice B x.f6.length cb] 31) = W1 at *
  refine hpat.mono ?_
  rintro e W2 ⟨hb, hcase⟩
  have hB := below_step hb2 hb
  have hX2 := blk_below hX hb
  have y0 := (blk_cell hX2 0).trans rfl
  have y1 := (blk_cell hX2 1).trans rfl
  have y2 := (blk_cell hX2 2).trans rfl
  have y3 := (blk_cell hX2 3).trans rfl
  have y4 := (blk_cell hX2 4).trans rfl
  have y5 := (blk_cell hX2 5).trans rfl
  have y6 := (blk_cell hX2 6).trans rfl
  have y7 := (blk_cell hX2 7).trans rfl
  have y8 := (blk_cell hX2 8).trans rfl
  have y9 := (blk_cell hX2 9).trans rfl
  rcases hcase with ⟨hne, rfl⟩ | ⟨he, gp, rfl, _, hp⟩
  · have d : (pe != 0) = true := by simpa using hne
    have HE := Lib.hid (show res = (0, 0, pe) by rw [HRES.out, if_pos hne])
    clear hne
    go_wp2_with fail
    go_ret3
    exact ⟨hB, by rw [HE.out]; rfl⟩
  · subst he
    have HE := Lib.hid (show res = anchorOf cs (refsOf x) by rw [HRES.out]; simp)
    have hcall := HA.out gp W2 (HPOS.out rfl).1 hp (Kd.C_below HCX.out hb)
    rw [← HE.out] at hcall
    have HCALL := Lib.hid hcall
    clear hcall HA hp
    go_wp2_with fail
    refine HCALL.out.mono ?_
    rintro e W3 ⟨hb3, rfl⟩
    go_wp2_with fail
    go_ret3
    exact ⟨below_step hB hb3, rfl⟩
end Go.Proofs.Ytgnifglolbfamaa
