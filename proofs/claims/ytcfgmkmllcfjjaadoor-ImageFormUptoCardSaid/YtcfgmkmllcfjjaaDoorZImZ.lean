import Derived.Test.YtcfgmkmllcfjjaaDoorZImY
import Derived.RegionTactic
set_option linter.unusedVariables false
set_option linter.unusedSimpArgs false
namespace Go.Proofs.YtcfgmkmllcfjjaaDoor
open Go.RowKit Go.Proofs.YtcfgmkmllcfjjaaDoorW.PrintWords Go.Proofs.YtcfgmkmllcfjjaaDoorW.PrintMore PImageForm
def decR (l : List Int) : S69 × Nat × Int := if (wevent l (0, 0)).2.2 = 0 then ((wevent l (0, 0)).1, (wevent l (0, 0)).2.1, 0) else (⟨⟨#[]⟩, 0, []⟩, 0, (wevent l (0, 0)).2.2)
def DPost (w : World) (r : S69 × Nat × Int) (e : Ending) (w' : World) : Prop :=
  ∃ v, e = .returned (.tuple #[.agg #[.string r.1.f0, .int .i64 r.1.f1, v], .int .i64 (r.2.1 : Int), .int .i64 r.2.2]) ∧ k66.R 66 w' w.heap.size (fun _ => True) v r.1.f2 ∧ Below w.heap.size w w'
theorem Ro.belowNew {g : Nat} {w w1 w2 : World} (hb : Below w.heap.size w w1) (hg : w.heap.size ≤ g) (h : Ro g w1 w2) : Below w.heap.size w w2 := hb.trans (h.below hb.size hg)
set_option maxRecDepth 100000 in
set_option maxHeartbeats 4000000 in
theorem Decode_any {w : World} {A : Option Addr} {c : Nat} {l : List Int} (hG : GW w) (hC : Kd.C (Kd.int .u8) w A l.length l) (hc : l.length ≤ c) (hl : Bytes l) (hm : l.length ≤ 4611686018427387904) :
    Calls Tryd.prog 57 #[.slice A l.length c] w (DPost w (decR l)) := by
  generalize hW1 : (w.alloc (.cells #[.string ⟨#[]⟩, .int .i64 0, .slice none 0 0] 69)).alloc (.cells #[.slice A l.length c, .int .i64 0, .int .i64 0] 111) = W1
  have HW1 := Lib.hid hW1
  have hb0 : Below w.heap.size w (w.alloc (.cells #[.string ⟨#[]⟩, .int .i64 0, .slice none 0 0] 69)) := below_new w _
  have hb1 : Below (w.alloc (.cells #[.string ⟨#[]⟩, .int .i64 0, .slice none 0 0] 69)).heap.size (w.alloc (.cells #[.string ⟨#[]⟩, .int .i64 0, .slice none 0 0] 69)) W1 := by rw [← hW1]; exact below_new _ _
  have hb := below_step hb0 hb1
  have hz : EBox W1 w.heap.size ⟨#[]⟩ 0 (.slice none 0 0) := blk_below (blk_new w _) hb1
  have hR : WRAt w W1 (w.heap.size + 1) l (0, 0) := by
    refine ⟨by omega, hb, Nat.zero_le _, A, c, ?_, hc, hC⟩
    rw [← hW1]
    have := blk_new (w.alloc (.cells #[.string ⟨#[]⟩, .int .i64 0, .slice none 0 0] 69)) (.cells #[.slice A l.length c, .int .i64 0, .int .i64 0] 111)
    rw [show (w.alloc (.cells #[.string ⟨#[]⟩, .int .i64 0, .slice none 0 0] 69)).heap.size = w.heap.size + 1 by simp] at this
    exact this
  have HE := Lib.hid (event_any hG hR hl hm)
  have HZ := Lib.hid hz
  have HB := Lib.hid hb
  have hd : decR l = if (wevent l (0, 0)).2.2 = 0 then ((wevent l (0, 0)).1, (wevent l (0, 0)).2.1, 0) else (⟨⟨#[]⟩, 0, []⟩, 0, (wevent l (0, 0)).2.2) := rfl
  generalize decR l = R at *
  generalize wevent l (0, 0) = r at *
  obtain ⟨ev, p, q⟩ := r
  simp only at hd HE
  have hs1 : W1.heap.size = w.heap.size + 1 + 1 := by rw [← hW1]; simp
  have HS1 := Lib.hid hs1
  clear hW1 hb0 hb1 hb hz hR hG hC hc hl hs1
  by_cases hq : q = 0
  · subst hq
    rw [if_pos rfl] at hd
    subst hd
    go_enter Tryd.func57, Tryd.ntmps57
    go_wp2_with fail
    rw [HW1.out]
    go_wp2_with fail
    refine HE.out.mono ?_
    rintro e1 w1 ⟨v, rfl, hv, hR1, hO1⟩
    obtain ⟨A1, c1, rfl⟩ := Kd.R_slice hv
    have hz1 : EBox w1 w.heap.size ⟨#[]⟩ 0 (.slice none 0 0) := Ro.blk hO1 HZ.out (by omega)
    have hb2 := below_new w1 (.cells #[.string ev.f0, .int .i64 ev.f1, .slice A1 ev.f2.length c1] 69)
    have hx2 : EBox (w1.alloc (.cells #[.string ev.f0, .int .i64 ev.f1, .slice A1 ev.f2.length c1] 69)) w1.heap.size ev.f0 ev.f1 (.slice A1 ev.f2.length c1) := blk_new w1 _
    have hz2 : EBox (w1.alloc (.cells #[.string ev.f0, .int .i64 ev.f1, .slice A1 ev.f2.length c1] 69)) w.heap.size ⟨#[]⟩ 0 (.slice none 0 0) := blk_below hz1 hb2
    have HV2 := Lib.hid (Kd.R_below hv hb2)
    have hsz := HB.out.size
    have HB2 := Lib.hid (Ro.belowNew (g := w.heap.size + 1) HB.out (by omega) (hO1.trans (Ro.of_below hb2)))
    obtain ⟨_, _, _, g1, g2, _⟩ := (hR1.below hb2).cells
    have g1 : (w1.alloc (.cells #[.string ev.f0, .int .i64 ev.f1, .slice A1 ev.f2.length c1] 69)).cell? ⟨w.heap.size + 1, 1, none⟩ = some (.int .i64 (p : Int)) := g1
    have g2 : (w1.alloc (.cells #[.string ev.f0, .int .i64 ev.f1, .slice A1 ev.f2.length c1] 69)).cell? ⟨w.heap.size + 1, 2, none⟩ = some (.int .i64 0) := g2
    obtain ⟨z0, z1, z2⟩ := hz2.free
    obtain ⟨y0, y1, y2⟩ := hz2.cells
    obtain ⟨x0, x1, x2⟩ := hx2.cells
    have HX2 := Lib.hid hx2
    have HZ2 := Lib.hid hz2
    clear hv hR1 hO1 hz1 hb2 hx2 hz2
    go_wp2_with fail
    first | go_region_law (fail) | fail
    all_goals
      go_wp2_with fail
      refine bodyPost_ret (results_ctt rfl _ _ w.heap.size 69 #[.string ev.f0, .int .i64 ev.f1, (.slice A1 ev.f2.length c1)] (0, 0) _ rfl (HZ2.out.put) Tryd.underlying69 rfl (by kernel_rfl)) rfl ?_
      exact ⟨_, rfl, Kd.R_drew (Kd.R_lower (Kd.R_set (Kd.R_set (Kd.R_set HV2.out HZ2.out (k66q (by decide)) 0 _) (blk_set HZ2.out 0 _) (k66q (by decide)) 1 _) (blk_set (blk_set HZ2.out 0 _) 1 _) (k66q (by decide)) 2 _) HB.out.size), below_drew (((HB2.out.setCell (p := ⟨w.heap.size, 0, none⟩) (Nat.le_refl _) _).setCell (p := ⟨w.heap.size, 1, none⟩) (Nat.le_refl _) _).setCell (p := ⟨w.heap.size, 2, none⟩) (Nat.le_refl _) _)⟩
  · rw [if_neg hq] at hd
    subst hd
    have d1 : (q != 0) = true := by simpa using hq
    clear hq
    go_enter Tryd.func57, Tryd.ntmps57
    go_wp2_with fail
    rw [HW1.out]
    go_wp2_with fail
    refine HE.out.mono ?_
    rintro e1 w1 ⟨v, rfl, hv, hR1, hO1⟩
    obtain ⟨A1, c1, rfl⟩ := Kd.R_slice hv
    have hz1 : EBox w1 w.heap.size ⟨#[]⟩ 0 (.slice none 0 0) := Ro.blk hO1 HZ.out (by omega)
    have hb2 := below_new w1 (.cells #[.string ev.f0, .int .i64 ev.f1, .slice A1 ev.f2.length c1] 69)
    have hx2 : EBox (w1.alloc (.cells #[.string ev.f0, .int .i64 ev.f1, .slice A1 ev.f2.length c1] 69)) w1.heap.size ev.f0 ev.f1 (.slice A1 ev.f2.length c1) := blk_new w1 _
    have hz2 : EBox (w1.alloc (.cells #[.string ev.f0, .int .i64 ev.f1, .slice A1 ev.f2.length c1] 69)) w.heap.size ⟨#[]⟩ 0 (.slice none 0 0) := blk_below hz1 hb2
    have HV2 := Lib.hid (Kd.R_below hv hb2)
    have hsz := HB.out.size
    have HB2 := Lib.hid (Ro.belowNew (g := w.heap.size + 1) HB.out (by omega) (hO1.trans (Ro.of_below hb2)))
    obtain ⟨_, _, _, g1, g2, _⟩ := (hR1.below hb2).cells
    have g1 : (w1.alloc (.cells #[.string ev.f0, .int .i64 ev.f1, .slice A1 ev.f2.length c1] 69)).cell? ⟨w.heap.size + 1, 1, none⟩ = some (.int .i64 (p : Int)) := g1
    have g2 : (w1.alloc (.cells #[.string ev.f0, .int .i64 ev.f1, .slice A1 ev.f2.length c1] 69)).cell? ⟨w.heap.size + 1, 2, none⟩ = some (.int .i64 q) := g2
    obtain ⟨z0, z1, z2⟩ := hz2.free
    obtain ⟨y0, y1, y2⟩ := hz2.cells
    obtain ⟨x0, x1, x2⟩ := hx2.cells
    have HX2 := Lib.hid hx2
    have HZ2 := Lib.hid hz2
    clear hv hR1 hO1 hz1 hb2 hx2 hz2
    go_wp2_with fail
    first | go_region_law (fail) | fail
    all_goals
      go_wp2_with fail
      refine bodyPost_ret (results_ctt rfl _ _ w.heap.size 69 #[.string ⟨#[]⟩, .int .i64 0, (.slice none 0 0)] (0, 0) _ rfl (HZ2.out.put) Tryd.underlying69 rfl (by kernel_rfl)) rfl ?_
      exact ⟨.slice none 0 0, rfl, Kd.R_nil _ _ _ _ _, below_drew (((HB2.out.setCell (p := ⟨w.heap.size, 0, none⟩) (Nat.le_refl _) _).setCell (p := ⟨w.heap.size, 1, none⟩) (Nat.le_refl _) _).setCell (p := ⟨w.heap.size, 2, none⟩) (Nat.le_refl _) _)⟩
end Go.Proofs.YtcfgmkmllcfjjaaDoor
