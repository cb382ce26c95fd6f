import Derived.Test.YtcfgmkmllcfjjaaDoorZImY
import Derived.RegionTactic
set_option linter.unusedVariables false
set_option linter.unusedSimpArgs false
namespace Go.Proofs.YtcfgmkmllcfjjaaDoor
open Go.RowKit Go.Proofs.YtcfgmkmllcfjjaaDoorW.PrintWords Go.Proofs.YtcfgmkmllcfjjaaDoorW.PrintMore PImageForm
def decR (l : List Int) : S69 × Nat × Int := if (wevent l (0, 0)).2.2 = 0 then ((wevent l (0, 0)).1, (wevent l (0, 0)).2.1, 0) else (⟨⟨#[]⟩, 0, []⟩, 0, (wevent l (0, 0)).2.2)
def DPost (w : World) (r : S69 × Nat × Int) (e : Ending) (w' : World) : Prop :=
  ∃ v, e = .returned (.tuple #[.agg #[.string r.1.f0, .int .i64 r.1.f1, v], .int .i64 (r.2.1 : Int), .int .i64 r.2.2]) ∧ k66.R 66 w' w.heap.size (fun _ => True) v r.1.f2 ∧ Below w.heap.size w w'
theorem Ro.belowNew {g : Nat} {w w1 w2 : World} (hb : Below w.heap.size w w1) (hg : w.heap.size ≤ g) (h : Ro g w1 w2) : Below w.heap.size w w2 := hb.trans (h.below hb.size hg)
set_option maxRecDepth 100000 in
set_option maxHeartbeats 4000000 in
theorem Decode_any {w : World} {A : Option Addr} {c : Nat} {l : List Int} (hG : GW w) (hC : Kd.C (Kd.int .u8) w A l.length l) (hc : l.length ≤ c) (hl : Bytes l) (hm : l.length ≤ 4611686018427387904) :
    Calls Tryd.prog 57 #[.slice A l.length c] w (DPost w (decR l)) := by
  generalize hW1 : (w.alloc (.cells #[.string ⟨#[]⟩, .int .i64 0, .slice none 0 0] 69)).alloc (.cells #[.slice A l.length c, .int .i64 0, .int .i64 0] 111) = W1
  have HW1 := Lib.hid hW1
  have hb0 : Below w.heap.size w (w.alloc (.cells #[.string ⟨#[]⟩, .int .i64 0, .slice none 0 0] 69)) := below_new w _
  have hb1 : Below (w.alloc (.cells #[.string ⟨#[]⟩, .int .i64 0, .slice none 0 0] 69)).heap.size (w.alloc (.cells #[.string ⟨#[]⟩, .int .i64 0, .slice none 0 0] 69)) W1 := by rw [← hW1]; exact below_new _ _
  have hb := below_step hb0 hb1
  have hz : EBox W1 w.heap.size ⟨#[]⟩ 0 (.slice none 0 0) := blk_below (blk_new w _) hb1
  have hR : WRAt w W1 (w.heap.size + 1) l (0, 0) := by
    refine ⟨by omega, hb, Nat.zero_le _, A, c, ?_, hc, hC⟩
    rw [← hW1]
    have := blk_new (w.alloc (.cells #[.string ⟨#[]⟩, .int .i64 0, .slice none 0 0] 69)) (.cells #[.slice A l.length c, .int .i64 0, .int .i64 0] 111)
    rw [show (w.alloc (.cells #[.string ⟨#[]⟩, .int .i64 0, .slice none 0 0] 69)).heap.size = w.heap.size + 1 by simp] at this
    exact this
  have HE := Lib.hid (event_any hG hR hl hm)
  have HZ := Lib.hid hz
  have HB := Lib.hid hb
  have hd : decR l = if (wevent l (0, 0)).2.2 = 0 then ((wevent l (0, 0)).1, (wevent l (0, 0)).2.1, 0) else (⟨⟨#[]⟩, 0, []⟩, 0, (wevent l (0, 0)).2.2) := rfl
  generalize decR l = R at *
  generalize wevent l (0, 0) = r at *
  obtain ⟨ev, p, q⟩ := r
  simp only at hd HE
  have hs1 : W1.heap.size = w.heap.size + 1 + 1 := by rw [← hW1]; simp
  have HS1 := Lib.hid hs1
  clear hW1 hb0 hb1 hb hz hR hG hC hc hl hs1
  by_cases hq : q = 0
  · subst hq
    rw [if_pos rfl] at hd
    subst hd
    go_enter Tryd.func57, Tryd.ntmps57
    go_wp2_with fail
    rw [HW1.out]
    go_wp2_with fail
    refine HE.out.mono ?_
    rintro e1 w1 ⟨v, rfl, hv, hR1, hO1⟩
    obtain ⟨A1, c1, rfl⟩ := Kd.R_slice hv
    have hz1 : EBox w1 w.heap.size ⟨#[]⟩ 0 (.slice none 0 0) := Ro.blk hO1 HZ.out (by omega)
    have hb2 := below_new w1 (.cells #[.string ev.f0, .int .i64 ev.f1, .slice A1 ev.f2.length c1] 69)
    have hx2 : EBox (w1.alloc (.cells #[.string ev.f0, .int .i64 ev.f1, .slice A1 ev.f2.length c1] 69)) w1.heap.size ev.f0 ev.f1 (.slice A1 ev.f2.length c1) := blk_new w1 _
    have hz2 : EBox (w1.alloc (.cells #[.string ev.f0, .int .i64 ev.f1, .slice A1 ev.f2.length c1] 69)) w.heap.size ⟨#[]⟩ 0 (.slice none 0 0) := blk_below hz1 hb2
    have HV2 := Lib.hid (Kd.R_below hv hb2)
    have hsz := HB.out.size
    have HB2 := Lib.hid (Ro.belowNew (g := w.heap.size + 1) HB.out (by omega) (hO1.trans (Ro.of_below hb2)))
    obtain ⟨_, _, _, g1, g2, _⟩ := (hR1.below hb2).cells
    have g1 : (w1.alloc (.cells #[.string ev.f0, .int .i64 ev.f1, .slice A1 ev.f2.length c1] 69)).cell? ⟨w.heap.size + 1, 1, none⟩ = some (.int .i64 (p : Int)) := g1
    have g2 : (w1.alloc (.cells #[.string ev.f0, .int .i64 ev.f1, .slice A1 ev.f2.length c1] 69)).cell? ⟨w.heap.size + 1, 2, none⟩ = some (.int .i64 0) := g2
    obtain ⟨z0, z1, z2⟩ := hz2.free
    obtain ⟨y0, y1, y2⟩ := hz2.cells
    obtain ⟨x0, x1, x2⟩ := hx2.cells
    have HX2 := Lib.hid hx2
    have HZ2 := Lib.hid hz2
    clear hv hR1 hO1 hz1 hb2 hx2 hz2
    go_wp2_with fail
    first | go_region_law (fail) | fail
    all_goals
      go_wp2_with fail
      refine bodyPost_ret (results_ctt rfl _ _ w.heap.size 69 #[.string ev.f0, .int .i64 ev.f1, (.slice A1 ev.f2.length c1)] (0, 0) _ rfl (HZ2.out.put) Tryd.underlying69 rfl (by kernel_rfl)) rfl ?_
      exact ⟨_, rfl, Kd.R_drew (Kd.R_lower (Kd.R_set (Kd.R_set (Kd.R_set HV2.out HZ2.out (k66q (by decide)) 0 _) (blk_set HZ2.out 0 _) (k66q (by decide)) 1 _) (blk_set (blk_set HZ2.out 0 _) 1 _) (k66q (by decide)) 2 _) HB.out.size), below_drew (((HB2.out.setCell (p := ⟨w.heap.size, 0, none⟩) (Nat.le_refl _) _).setCell (p := ⟨w.heap.size, 1, none⟩) (Nat.le_refl _) _).setCell (p := ⟨w.heap.size, 2, none⟩) (Nat.le_refl _) _)⟩
  · rw [if_neg hq] at hd
    subst hd
    have d1 : (q != 0) = true := by simpa using hq
    clear hq
    go_enter Tryd.func57, Tryd.ntmps57
    go_wp2_with fail
    rw [HW1.out]
    go_wp2_with fail
    refine HE.out.mono ?_
    rintro e1 w1 ⟨v, rfl, hv, hR1, hO1⟩
    obtain ⟨A1, c1, rfl⟩ := Kd.R_slice hv
    have hz1 : EBox w1 w.heap.size ⟨#[]⟩ 0 (.slice none 0 0) := Ro.blk hO1 HZ.out (by omega)
    have hb2 := below_new w1 (.cells #[.string ev.f0, .int .i64 ev.f1, .slice A1 ev.f2.length c1] 69)
    have hx2 : EBox (w1.alloc (.cells #[.string ev.f0, .int .i64 ev.f1, .slice A1 ev.f2.length c1] 69)) w1.heap.size ev.f0 ev.f1 (.slice A1 ev.f2.length c1) := blk_new w1 _
    have hz2 : EBox (w1.alloc (.cells #[.string ev.f0, .int .i64 ev.f1, .slice A1 ev.f2.length c1] 69)) w.heap.size ⟨#[]⟩ 0 (.slice none 0 0) := blk_below hz1 hb2
    have HV2 := Lib.hid (Kd.R_below hv hb2)
    have hsz := HB.out.size
    have HB2 := Lib.hid (Ro.belowNew (g := w.heap.size + 1) HB.out (by omega) (hO1.trans (Ro.of_below hb2)))
    obtain ⟨_, _, _, g1, g2, _⟩ := (hR1.below hb2).cells
    have g1 : (w1.alloc (.cells #[.string ev.f0, .int .i64 ev.f1, .slice A1 ev.f2.length c1] 69)).cell? ⟨w.heap.size + 1, 1, none⟩ = some (.int .i64 (p : Int)) := g1
    have g2 : (w1.alloc (.cells #[.string ev.f0, .int .i64 ev.f1, .slice A1 ev.f2.length c1] 69)).cell? ⟨w.heap.size + 1, 2, none⟩ = some (.int .i64 q) := g2
    obtain ⟨z0, z1, z2⟩ := hz2.free
    obtain ⟨y0, y1, y2⟩ := hz2.cells
    obtain ⟨x0, x1, x2⟩ := hx2.cells
    have HX2 := Lib.hid hx2
    have HZ2 := Lib.hid hz2
    clear hv hR1 hO1 hz1 hb2 hx2 hz2
    go_wp2_with fail
    first | go_region_law (fail) | fail
    all_goals
      go_wp2_with fail
      refine bodyPost_ret (results_ctt rfl _ _ w.heap.size 69 #[.string ⟨#[]⟩, .int .i64 0, (.slice none 0 0)] (0, 0) _ rfl (HZ2.out.put) Tryd.underlying69 rfl (by kernel_rfl)) rfl ?_
      exact ⟨.slice none 0 0, rfl, Kd.R_nil _ _ _ _ _, below_drew (((HB2.out.setCell (p := ⟨w.heap.size, 0, none⟩) (Nat.le_refl _) _).setCell (p := ⟨w.heap.size, 1, none⟩) (Nat.le_refl _) _).setCell (p := ⟨w.heap.size, 2, none⟩) (Nat.le_refl _) _)⟩
end Go.Proofs.YtcfgmkmllcfjjaaDoor

set_option linter.unusedVariables false
set_option linter.unusedSimpArgs false
namespace Go.Proofs.YtcfgmkmllcfjjaaDoor
open Go.RowKit Go.Proofs.YtcfgmkmllcfjjaaDoorW.PrintWords Go.Proofs.YtcfgmkmllcfjjaaDoorW.PrintMore PImageForm
abbrev Rl := Rs × Int
def Rp (gr : Nat) (pl : Option Nat) (w w' : World) : Prop := Only (fun k => k = gr ∨ some k = pl) w w'
namespace Rp
variable {gr : Nat} {pl : Option Nat} {w w1 w2 : World}
theorem refl : Rp gr pl w w := Only.refl _ _
theorem trans (h : Rp gr pl w w1) (k : Rp gr pl w1 w2) : Rp gr pl w w2 := Only.trans h k (fun _ _ hn h2 => hn h2)
theorem of_below (h : Below w.heap.size w w1) : Rp gr pl w w1 := Only.of_below h
theorem of_ro (h : Ro gr w w1) : Rp gr pl w w1 := ⟨h.os, h.tape, h.output, h.size, fun k hk hn => h.block k hk (fun e => hn (.inl e))⟩
theorem blk {g : Nat} {o : Obj} (h : Rp gr pl w w1) (hb : w.heap[g]? = some o) (hn : g ≠ gr) (hp : some g ≠ pl) : w1.heap[g]? = some o := Only.blk h hb (fun e => e.elim hn hp)
theorem setNew {p i : Nat} (h : Rp gr pl w w1) (hp : w.heap.size ≤ p) (v : Value) : Rp gr pl w (w1.setCell ⟨p, i, none⟩ v) :=
  ⟨h.os, h.tape, h.output, Nat.le_trans h.size (by simp [World.setCell]), fun k hk hn => (Below.heap_setCell _ _ _ _ (fun e => by have e : k = p := e; omega)).trans (h.block k hk hn)⟩
theorem grown {row : Option Nat} (h : Rp gr pl w w1) (hg : w1.grownBy w2 row) (hr : ∀ k, row = some k → w.heap.size ≤ k) : Rp gr pl w w2 :=
  ⟨hg.os.trans h.os, hg.tape.trans h.tape, hg.output.trans h.output, Nat.le_trans h.size hg.size, fun k hk hn => (hg.block k (Nat.lt_of_lt_of_le hk h.size) (fun e => by have := hr k e.symm; omega)).trans (h.block k hk hn)⟩
theorem below {B : Nat} (h : Rp gr pl w w1) (hB : B ≤ w.heap.size) (hg : B ≤ gr) (hp : ∀ p, pl = some p → B ≤ p) : Below B w w1 := Only.below h hB (fun b hb hs => by
  rcases hs with hs | hs
  · omega
  · have := hp b hs.symm; omega)
theorem weak (h : Rp gr none w w1) : Rp gr pl w w1 := ⟨h.os, h.tape, h.output, h.size, fun k hk hn => h.block k hk (fun e => e.elim (fun e => hn (.inl e)) (fun e => by cases e))⟩
end Rp
structure RSt (w0 : World) (gr pb : Nat) (pl : Option Nat) (s : Rl) (W : World) : Prop where
  rd : RAt w0 W gr s.1
  pbx : W.heap[pb]? = some (.cells #[.pointer (some ⟨gr, 0, none⟩)] 54 (0, 0))
  plx : ∀ p, pl = some p → W.heap[p]? = some (.cells #[.int .i64 s.2] 2 (0, 0))
  pln : ∀ p, pl = some p → w0.heap.size ≤ p
theorem RAt.grown {w0 w w1 : World} {g : Nat} {s : Rs} {row : Option Nat} (h : RAt w0 w g s) (hg : w.grownBy w1 row) (hr : ∀ k, row = some k → w0.heap.size ≤ k) (hn : some g ≠ row) : RAt w0 w1 g s := by
  obtain ⟨h1, h2, A, c, hb, h3⟩ := h
  exact ⟨h1, ⟨hg.os.trans h2.os, hg.tape.trans h2.tape, hg.output.trans h2.output, Nat.le_trans h2.size hg.size, fun k hk => (hg.block k (Nat.lt_of_lt_of_le hk h2.size) (fun e => by have := hr k e.symm; omega)).trans (h2.block k hk)⟩, A, c, blk_grown hb hg hn, h3⟩
namespace RSt
variable {w0 W W1 : World} {gr pb : Nat} {pl : Option Nat} {s s1 : Rl}
theorem cellp (h : RSt w0 gr pb pl s W) : W.cell? ⟨pb, 0, none⟩ = some (.pointer (some ⟨gr, 0, none⟩)) := (blk_cell h.pbx 0).trans rfl
theorem gp (h : RSt w0 gr pb pl s W) : pb ≠ gr := h.rd.neq h.pbx (by decide)
theorem gl (h : RSt w0 gr pb pl s W) (p : Nat) (hp : pl = some p) : p ≠ gr := h.rd.neq (h.plx p hp) (by decide)
theorem pp (h : RSt w0 gr pb pl s W) : some pb ≠ pl := fun e => blk_ne h.pbx (h.plx pb e.symm) (by decide) rfl
theorem below (h : RSt w0 gr pb pl s W) (hB : Below W.heap.size W W1) : RSt w0 gr pb pl s W1 := ⟨h.rd.below hB, blk_below h.pbx hB, fun p hp => blk_below (h.plx p hp) hB, h.pln⟩
theorem read {r : Rs} (h : RSt w0 gr pb pl s W) (hR : RAt w0 W1 gr r) (hO : Ro gr W W1) : RSt w0 gr pb pl (r, s.2) W1 :=
  ⟨hR, Ro.blk hO h.pbx h.gp, fun p hp => Ro.blk hO (h.plx p hp) (h.gl p hp), h.pln⟩
theorem grown {row : Option Nat} {t : Nat} {cells : Nat → Array Value} (h : RSt w0 gr pb pl s W) (hg : W.grownBy W1 row) (hr : ∀ k, row = some k → w0.heap.size ≤ k) (ht : ∀ k, row = some k → ∃ cs, W.heap[k]? = some (.cells cs t (0, 0))) (h1 : t ≠ 55) (h2 : t ≠ 54) (h3 : t ≠ 2) : RSt w0 gr pb pl s W1 := by
  have hne : ∀ {k : Nat} {cs : Array Value} {u : TypeId}, W.heap[k]? = some (.cells cs u (0, 0)) → t ≠ u → some k ≠ row := by
    intro k cs u hk hu e
    obtain ⟨cs', hc⟩ := ht k e.symm
    rw [hk] at hc
    injection hc with hc
    injection hc with _ hc
    exact hu hc.symm
  have hgr : some gr ≠ row := by
    obtain ⟨_, _, A, c, hb, _⟩ := h.rd
    exact hne hb h1
  exact ⟨h.rd.grown hg hr hgr, blk_grown h.pbx hg (hne h.pbx h2), fun p hp => blk_grown (h.plx p hp) hg (hne (h.plx p hp) h3), h.pln⟩
end RSt
theorem R_rp {α : Type} {d : Kd α} {e base gr pb : Nat} {pl : Option Nat} {ok : Nat → Prop} {w0 w w1 : World} {s : Rl} {v : Value} {xs : List α} (h : d.R e w base ok v xs) (hS : RSt w0 gr pb pl s w) (hq : ∀ q, q ∈ e :: d.E → q ≠ 55 ∧ q ≠ 2) (hO : Rp gr pl w w1) : d.R e w1 base ok v xs := by
  obtain ⟨_, _, A, c, hb, _⟩ := hS.rd
  have h1 := Kd.R_types h hb (fun q hq' => (hq q hq').1)
  cases hpl : pl with
  | none => exact Kd.R_mono (Kd.R_step h1 (fun k hk hlt => hO.block k hlt (fun e => e.elim hk.2 (fun e => by rw [hpl] at e; cases e)))) (fun _ hk => hk.1)
  | some p =>
    have h2 := Kd.R_types h1 (hS.plx p hpl) (fun q hq' => (hq q hq').2)
    exact Kd.R_mono (Kd.R_step h2 (fun k hk hlt => hO.block k hlt (fun e => e.elim hk.1.2 (fun e => by rw [hpl] at e; injection e with e; exact hk.2 e)))) (fun _ hk => hk.1.1)
section
variable {α : Type} (one : Rl → α × Rl)
def getF : Nat → Rl → List α × Rl
  | 0, s => ([], s)
  | n + 1, s => if s.1.2 = true then ([], s) else ((one s).1 :: (getF n (one s).2).1, (getF n (one s).2).2)
def getR (s : Rl) : List α × Rl :=
  if (numR s.1).1 < 0 then ([], (((numR s.1).2.1, true), s.2)) else getF one (numR s.1).1.toNat ((numR s.1).2, s.2)
def OneOk : Prop := ∀ s : Rl, Rok s.1 → Rok (one s).2.1 ∧ (one s).2.1.1.length ≤ s.1.1.length ∧ (s.1.2 = false → (one s).2.1.2 = false → (one s).2.1.1.length + 1 ≤ s.1.1.length)
end
theorem num_len (s : Rs) : (numR s).2.1.length ≤ s.1.length := by
  unfold numR takeR
  simp only [List.length_drop]
  omega
end Go.Proofs.YtcfgmkmllcfjjaaDoor
