import Derived.Test.YtcfgmkmllcfjjaaGreatDoorZBE
import Derived.Test.YtcfgmkmllcfjjaaGreatDoorZAM
import Derived.Deep.RegionHeld3
set_option linter.unusedVariables false
set_option linter.unusedSimpArgs false
namespace Go.Proofs.YtcfgmkmllcfjjaaGreatDoor
open Go.RowKit Go.Proofs.YtcfgmkmllcfjjaaGreatDoorW.PrintWords Go.Proofs.YtcfgmkmllcfjjaaGreatDoorW.PrintMore PImageAll
def rIntF (l : List Int) : Int × Int × Int := (qa0.f 80 l).getD (0, 0, 0)
theorem rIntF_any {l : List Int} (hl : l.length ≤ 4611686018427387904) : ∃ (v e : Int) (n : Nat), qa0.f 80 l = some (v, (n : Int), e) ∧ rIntF l = (v, (n : Int), e) ∧ I64 v ∧ ((e = 0 ∧ 0 < n ∧ n ≤ l.length) ∨ (e ≠ 0 ∧ n = 0)) := by
  obtain ⟨⟨v, n, e⟩, hf, hok⟩ := rInt_ok hl
  rcases hok with ⟨h1, h2, rest, h3, h4⟩ | ⟨h1, h2, h3⟩
  · simp only at h1 h2 h3 h4
    subst h4
    refine ⟨v, e, (puti v).length, hf, by unfold rIntF; rw [hf]; rfl, h2, .inl ⟨h1, puti_pos v, ?_⟩⟩
    rw [h3, List.length_append]
    omega
  · simp only at h1 h2 h3
    subst h2
    subst h3
    exact ⟨0, e, 0, hf, by unfold rIntF; rw [hf]; rfl, ⟨by omega, by omega⟩, .inr ⟨h1, rfl⟩⟩
theorem rIntF_at {n : Int} (hn : I64 n) (t : List Int) (hl : (puti n ++ t).length ≤ 4611686018427387904) : rIntF (puti n ++ t) = (n, ((puti n).length : Int), 0) := by
  unfold rIntF
  rw [rInt_at hn t hl]
  rfl
def QRAt (w0 w : World) (g : Nat) (l : List Int) (s : Ws) : Prop :=
  w0.heap.size ≤ g ∧ Below w0.heap.size w0 w ∧ s.1 ≤ l.length ∧ ∃ A c, w.heap[g]? = some (.cells #[.slice A l.length c, .int .i64 (s.1 : Int), .int .i64 s.2] 137 (0, 0)) ∧ l.length ≤ c ∧ Kd.C (Kd.int .u8) w0 A l.length l
namespace QRAt
variable {w0 w w' : World} {g : Nat} {l : List Int} {s : Ws}
theorem below (h : QRAt w0 w g l s) (hB : Below w.heap.size w w') : QRAt w0 w' g l s := by
  obtain ⟨h1, h2, h4, A, c, hb, h3⟩ := h
  exact ⟨h1, h2.trans (hB.mono h2.size), h4, A, c, blk_below hb hB, h3⟩
theorem lt (h : QRAt w0 w g l s) : g < w.heap.size := by
  obtain ⟨_, _, _, A, c, hb, _⟩ := h
  exact blk_lt' hb
theorem neq {k : Nat} {cs : Array Value} {t : TypeId} (h : QRAt w0 w g l s) (hg : w.heap[k]? = some (.cells cs t (0, 0))) (ht : t ≠ 137) : k ≠ g := by
  obtain ⟨_, _, _, A, c, hb, _⟩ := h
  exact blk_ne hg hb ht
theorem far (h : QRAt w0 w g l s) {p i : Nat} (hp : w0.heap.size ≤ p) (hn : p ≠ g) (v : Value) : QRAt w0 (w.setCell ⟨p, i, none⟩ v) g l s := by
  obtain ⟨h1, h2, h4, A, c, hb, h3⟩ := h
  exact ⟨h1, h2.setCell hp v, h4, A, c, (Below.heap_setCell _ _ _ _ (fun e => hn e.symm)).trans hb, h3⟩
theorem drewN (h : QRAt w0 w g l s) (n : Nat) : QRAt w0 (w.drewN n) g l s := h.below (pw_below_drewN (Below.refl _ _) n)
theorem setAt (h : QRAt w0 w g l s) (k : Nat) (hk : k ≤ l.length) : QRAt w0 (w.setCell ⟨g, 1, none⟩ (.int .i64 (k : Int))) g l (k, s.2) := by
  obtain ⟨h1, h2, h4, A, c, hb, h3⟩ := h
  exact ⟨h1, h2.setCell h1 _, hk, A, c, (blk_set hb 1 (.int .i64 (k : Int))).trans rfl, h3⟩
theorem setErr (h : QRAt w0 w g l s) (k : Int) : QRAt w0 (w.setCell ⟨g, 2, none⟩ (.int .i64 k)) g l (s.1, k) := by
  obtain ⟨h1, h2, h4, A, c, hb, h3⟩ := h
  exact ⟨h1, h2.setCell h1 _, h4, A, c, (blk_set hb 2 (.int .i64 k)).trans rfl, h3⟩
theorem cells (h : QRAt w0 w g l s) : ∃ A c, w.cell? ⟨g, 0, none⟩ = some (.slice A l.length c) ∧ w.cell? ⟨g, 1, none⟩ = some (.int .i64 (s.1 : Int)) ∧ w.cell? ⟨g, 2, none⟩ = some (.int .i64 s.2) ∧ w.frozen? ⟨g, 1, none⟩ = false ∧ w.frozen? ⟨g, 2, none⟩ = false ∧ l.length ≤ c ∧ Kd.C (Kd.int .u8) w0 A l.length l := by
  obtain ⟨h1, h2, h4, A, c, hb, h3, h5⟩ := h
  exact ⟨A, c, (blk_cell hb 0).trans rfl, (blk_cell hb 1).trans rfl, (blk_cell hb 2).trans rfl, blk_frozen hb 1, blk_frozen hb 2, h3, h5⟩
end QRAt
def QPost (w0 w : World) (g : Nat) (l : List Int) (v : Value) (s : Ws) (e : Ending) (w' : World) : Prop := e = .returned v ∧ QRAt w0 w' g l s ∧ Ro g w w'
set_option maxHeartbeats 1000000 in
theorem qfault_any {w0 w : World} {g : Nat} {l : List Int} {s : Ws} (k : Int) (hR : QRAt w0 w g l s) : Calls Tryz.prog 101 #[.pointer (some ⟨g, 0, none⟩), .int .i64 k] w (QPost w0 w g l (.tuple #[]) (failW k s)) := by
  obtain ⟨p, q⟩ := s
  obtain ⟨A, c, g0, g1, g2, f1, f2, _⟩ := hR.cells
  have g2 : w.cell? ⟨g, 2, none⟩ = some (.int .i64 q) := g2
  have HR := Lib.hid hR
  clear hR g0 g1
  by_cases hq : q = 0
  · subst hq
    go_enter Tryz.func101, Tryz.ntmps101
    go_wp2_with fail
    go_end0
    exact ⟨rfl, HR.out.setErr k, Ro.set 2 _⟩
  · have d1 : (q == 0) = false := by simpa using hq
    have HQ := Lib.hid (show failW k (p, q) = (p, q) from if_neg hq)
    clear hq
    rw [HQ.out]
    go_enter Tryz.func101, Tryz.ntmps101
    go_wp2_with fail
    first | go_end0 | ((try simp only [Exit.inBlock, Exit.then]); refine bodyPost_ret (results_none rfl _ _ _) rfl ?_)
    exact ⟨rfl, HR.out, Ro.refl⟩
def qnum (l : List Int) (lo hi : Int) (s : Ws) : Int × Ws :=
  if s.2 = 0 then (if (rIntF (l.drop s.1)).2.2 = 0 then (if lo ≤ (rIntF (l.drop s.1)).1 ∧ (rIntF (l.drop s.1)).1 ≤ hi then ((rIntF (l.drop s.1)).1, (s.1 + (rIntF (l.drop s.1)).2.1.toNat, 0)) else (0, (s.1 + (rIntF (l.drop s.1)).2.1.toNat, 31))) else (0, (s.1, (rIntF (l.drop s.1)).2.2))) else (0, s)
set_option maxRecDepth 100000 in
set_option maxHeartbeats 4000000 in
theorem qnum_any {w0 w : World} {g : Nat} {l : List Int} {s : Ws} (lo hi : Int) (hR : QRAt w0 w g l s) (hm : l.length ≤ 4611686018427387904) :
    Calls Tryz.prog 102 #[.pointer (some ⟨g, 0, none⟩), .int .i64 lo, .int .i64 hi] w (QPost w0 w g l (.int .i64 (qnum l lo hi s).1) (qnum l lo hi s).2) := by
  obtain ⟨p, q⟩ := s
  obtain ⟨A, c, g0, g1, g2, f1, f2, hc, hC⟩ := hR.cells
  have g1 : w.cell? ⟨g, 1, none⟩ = some (.int .i64 (p : Int)) := g1
  have g2 : w.cell? ⟨g, 2, none⟩ = some (.int .i64 q) := g2
  have hp : p ≤ l.length := hR.2.2.1
  have HR := Lib.hid hR
  by_cases hq : q = 0
  · subst hq
    obtain ⟨i0, hi0, hzz⟩ := Option.map_eq_some_iff.1 info5
    simp only [Prod.mk.injEq] at hzz
    obtain ⟨hz0, hz1, hz2⟩ := hzz
    have hf := cut_from (P := Tryz.prog) 33 5 .i64 Tryz.underlying33 hi0 1 hz1 A l.length c (p : Int) (by omega) (by omega)
    rw [Int.toNat_natCast] at hf
    have hd : (l.drop p).length = l.length - p := List.length_drop
    obtain ⟨v, e, n, hfi, hF, hv, hen⟩ := rIntF_any (l := l.drop p) (by rw [hd]; omega)
    have HI := Lib.hid (show ∀ W, Below w.heap.size w W → Calls Tryz.prog 99 #[.slice (if c = p then A else A.map (·.add (p * 1))) (l.length - p) (c - p)] W fun e' w' => e' = .returned (.tuple #[.int .i64 v, .int .i64 (n : Int), .int .i64 e]) ∧ Below W.heap.size W w' from fun W hW => by
      have := qa0.calls 80 _ (c - p) (l.drop p) v n e W (Kd.C_below (Kd.C_below (Kd.C_drop hC hp hc) hR.2.1) hW) (by rw [hd]; omega) hfi
      rw [hd] at this
      exact this)
    have HKeep := Lib.hid (fun w' (h : Below w.heap.size w w') => show w'.cell? ⟨g, 0, none⟩ = some (.slice A l.length c) ∧ w'.cell? ⟨g, 1, none⟩ = some (.int .i64 (p : Int)) from ⟨pw_cell_below h g0, pw_cell_below h g1⟩)
    have hw1 : qnum l lo hi (p, 0) = if e = 0 then (if lo ≤ v ∧ v ≤ hi then (v, (p + n, 0)) else (0, (p + n, 31))) else (0, (p, e)) := by
      unfold qnum
      rw [if_pos rfl, hF]
      simp only [Int.toNat_natCast]
    rw [hw1]
    have HFL := Lib.hid (fun W r k hW => qfault_any (w0 := w0) (w := W) (g := g) (l := l) (s := (r, 0)) k hW)
    have hpn : n ≤ l.length - p := by
      rcases hen with h | h
      · rw [hd] at h; exact h.2.2
      · omega
    generalize (if c = p then A else A.map (·.add (p * 1))) = A1 at *
    have HPN := Lib.hid hpn
    clear hC hc hR hd hF hfi hi0 hz0 hz1 hz2 hw1 hen
    have k1 : (0 : Int) ≤ (p : Int) := by omega
    have k2 : (p : Int) ≤ l.length := by omega
    have hw : wrap64 ((p : Int) + (n : Int)) = ((p + n : Nat) : Int) := by unfold wrap64; omega
    by_cases he : e = 0
    · subst he
      rw [if_pos rfl]
      by_cases hlo : lo ≤ v
      · have d1 : decide (v < lo) = false := decide_eq_false (by omega)
        by_cases hhi : v ≤ hi
        · have d2 : decide (hi < v) = false := decide_eq_false (by omega)
          rw [if_pos ⟨hlo, hhi⟩]
          clear hlo hhi
          go_enter Tryz.func102, Tryz.ntmps102
          go_wp2_with fail
          go_region_held3 (fun w' => w'.cell? ⟨g, 0, none⟩ = some (.slice A l.length c) ∧ w'.cell? ⟨g, 1, none⟩ = some (.int .i64 (p : Int))) (first | exact HKeep.out _ (below_drew (Below.refl _ _)) | exact HKeep.out _ HBX.out) (first | ((go_at_call 99; refine (HI.out _ (below_drew (Below.refl _ _))).mono ?_; rintro e3 w3 ⟨rfl, hB3⟩; have HBX := Lib.hid (below_step (below_drew (Below.refl _ _)) hB3))))
          obtain ⟨y0, y1⟩ := HKeep.out _ HBX.out
          have yf := (HR.out.below HBX.out).cells
          obtain ⟨_, _, _, _, y2, yf1, yf2, _, _⟩ := yf
          go_upto_region 8 with fail
          have HR4 := Lib.hid (show QRAt w0 (w3.setCell ⟨g, 1, none⟩ (.int .i64 ((p : Int) + (n : Int)))) g l (p + n, 0) from (by have h := (HR.out.below HBX.out).setAt (p + n) (by have := HPN.out; omega); rw [Int.natCast_add] at h; exact h))
          have HO4 := Lib.hid ((Ro.of_below HBX.out).trans (Ro.set (w := w3) (gr := g) 1 (.int .i64 ((p : Int) + (n : Int)))))
          clear y0 y1 y2 yf1 yf2
          generalize w3.setCell ⟨g, 1, none⟩ (.int .i64 ((p : Int) + (n : Int))) = w4 at *
          go_wp2_with fail
          go_ret
          exact ⟨rfl, HR4.out, HO4.out⟩
        · have d2 : decide (hi < v) = true := decide_eq_true (by omega)
          rw [if_neg (fun h => hhi h.2)]
          clear hlo hhi
          go_enter Tryz.func102, Tryz.ntmps102
          go_wp2_with fail
          go_region_held3 (fun w' => w'.cell? ⟨g, 0, none⟩ = some (.slice A l.length c) ∧ w'.cell? ⟨g, 1, none⟩ = some (.int .i64 (p : Int))) (first | exact HKeep.out _ (below_drew (Below.refl _ _)) | exact HKeep.out _ HBX.out) (first | ((go_at_call 99; refine (HI.out _ (below_drew (Below.refl _ _))).mono ?_; rintro e3 w3 ⟨rfl, hB3⟩; have HBX := Lib.hid (below_step (below_drew (Below.refl _ _)) hB3))))
          obtain ⟨y0, y1⟩ := HKeep.out _ HBX.out
          have yf := (HR.out.below HBX.out).cells
          obtain ⟨_, _, _, _, y2, yf1, yf2, _, _⟩ := yf
          go_upto_region 8 with fail
          have HR4 := Lib.hid (show QRAt w0 (w3.setCell ⟨g, 1, none⟩ (.int .i64 ((p : Int) + (n : Int)))) g l (p + n, 0) from (by have h := (HR.out.below HBX.out).setAt (p + n) (by have := HPN.out; omega); rw [Int.natCast_add] at h; exact h))
          have HO4 := Lib.hid ((Ro.of_below HBX.out).trans (Ro.set (w := w3) (gr := g) 1 (.int .i64 ((p : Int) + (n : Int)))))
          clear y0 y1 y2 yf1 yf2
          generalize w3.setCell ⟨g, 1, none⟩ (.int .i64 ((p : Int) + (n : Int))) = w4 at *
          go_wp2_with (go_at_call 101; refine (HFL.out _ _ 31 HR4.out).mono ?_; rintro e5 w5 ⟨rfl, hR5, hO5⟩)
          go_ret
          exact ⟨rfl, hR5, HO4.out.trans hO5⟩
      · have d1 : decide (v < lo) = true := decide_eq_true (by omega)
        rw [if_neg (fun h => hlo h.1)]
        clear hlo
        go_enter Tryz.func102, Tryz.ntmps102
        go_wp2_with fail
        go_region_held3 (fun w' => w'.cell? ⟨g, 0, none⟩ = some (.slice A l.length c) ∧ w'.cell? ⟨g, 1, none⟩ = some (.int .i64 (p : Int))) (first | exact HKeep.out _ (below_drew (Below.refl _ _)) | exact HKeep.out _ HBX.out) (first | ((go_at_call 99; refine (HI.out _ (below_drew (Below.refl _ _))).mono ?_; rintro e3 w3 ⟨rfl, hB3⟩; have HBX := Lib.hid (below_step (below_drew (Below.refl _ _)) hB3))))
        obtain ⟨y0, y1⟩ := HKeep.out _ HBX.out
        have yf := (HR.out.below HBX.out).cells
        obtain ⟨_, _, _, _, y2, yf1, yf2, _, _⟩ := yf
        go_upto_region 8 with fail
        have HR4 := Lib.hid (show QRAt w0 (w3.setCell ⟨g, 1, none⟩ (.int .i64 ((p : Int) + (n : Int)))) g l (p + n, 0) from (by have h := (HR.out.below HBX.out).setAt (p + n) (by have := HPN.out; omega); rw [Int.natCast_add] at h; exact h))
        have HO4 := Lib.hid ((Ro.of_below HBX.out).trans (Ro.set (w := w3) (gr := g) 1 (.int .i64 ((p : Int) + (n : Int)))))
        clear y0 y1 y2 yf1 yf2
        generalize w3.setCell ⟨g, 1, none⟩ (.int .i64 ((p : Int) + (n : Int))) = w4 at *
        go_wp2_with (go_at_call 101; refine (HFL.out _ _ 31 HR4.out).mono ?_; rintro e5 w5 ⟨rfl, hR5, hO5⟩)
        go_ret
        exact ⟨rfl, hR5, HO4.out.trans hO5⟩
    · rw [if_neg he]
      have d1 : (e != 0) = true := by simpa using he
      clear he
      go_enter Tryz.func102, Tryz.ntmps102
      go_wp2_with fail
      go_region_held3 (fun w' => w'.cell? ⟨g, 0, none⟩ = some (.slice A l.length c) ∧ w'.cell? ⟨g, 1, none⟩ = some (.int .i64 (p : Int))) (first | exact HKeep.out _ (below_drew (Below.refl _ _)) | exact HKeep.out _ HBX.out) (first | ((go_at_call 99; refine (HI.out _ (below_drew (Below.refl _ _))).mono ?_; rintro e3 w3 ⟨rfl, hB3⟩; have HBX := Lib.hid (below_step (below_drew (Below.refl _ _)) hB3))))
      obtain ⟨y0, y1⟩ := HKeep.out _ HBX.out
      have yf := (HR.out.below HBX.out).cells
      obtain ⟨_, _, _, _, y2, yf1, yf2, _, _⟩ := yf
      go_wp2_with (go_at_call 101; refine (HFL.out _ _ e (HR.out.below HBX.out)).mono ?_; rintro e5 w5 ⟨rfl, hR5, hO5⟩)
      go_ret
      exact ⟨rfl, by have h := hR5; unfold failW at h; rw [if_pos rfl] at h; exact h, (Ro.of_below HBX.out).trans hO5⟩
  · have d1 : (q != 0) = true := by simpa using hq
    have HQ := Lib.hid (show qnum l lo hi (p, q) = (0, (p, q)) from if_neg hq)
    clear hq hC
    rw [HQ.out]
    go_enter Tryz.func102, Tryz.ntmps102
    go_wp2_with fail
    go_ret
    exact ⟨rfl, HR.out, Ro.refl⟩
end Go.Proofs.YtcfgmkmllcfjjaaGreatDoor
set_option linter.unusedVariables false
set_option linter.unusedSimpArgs false
namespace Go.Proofs.YtcfgmkmllcfjjaaGreatDoor
open Go.RowKit Go.Proofs.YtcfgmkmllcfjjaaGreatDoorW.PrintWords Go.Proofs.YtcfgmkmllcfjjaaGreatDoorW.PrintMore PImageAll
def qone (l : List Int) (s : Ws) : Int × Ws :=
  if s.2 = 0 then (if s.1 = l.length then (0, (s.1, 30)) else ((l.drop s.1).headD 0, (s.1 + 1, 0))) else (0, s)
set_option maxRecDepth 100000 in
set_option maxHeartbeats 4000000 in
theorem qone_any {w0 w : World} {g : Nat} {l : List Int} {s : Ws} (hR : QRAt w0 w g l s) (hm : l.length ≤ 4611686018427387904) :
    Calls Tryz.prog 110 #[.pointer (some ⟨g, 0, none⟩)] w (QPost w0 w g l (.int .u8 (qone l s).1) (qone l s).2) := by
  obtain ⟨p, q⟩ := s
  obtain ⟨A, c, g0, g1, g2, f1, f2, hc, hC⟩ := hR.cells
  have g1 : w.cell? ⟨g, 1, none⟩ = some (.int .i64 (p : Int)) := g1
  have g2 : w.cell? ⟨g, 2, none⟩ = some (.int .i64 q) := g2
  have hp : p ≤ l.length := hR.2.2.1
  have HR := Lib.hid hR
  by_cases hq : q = 0
  · subst hq
    by_cases he : p = l.length
    · have d1 : ((p : Int) == (l.length : Int)) = true := by simp [he]
      have HQ := Lib.hid (show qone l (p, 0) = (0, (p, 30)) from by unfold qone; rw [if_pos rfl, if_pos he])
      have HFL := Lib.hid (fun W k hW => qfault_any (w0 := w0) (w := W) (g := g) (l := l) (s := (p, 0)) k hW)
      rw [HQ.out]
      clear he hC
      go_enter Tryz.func110, Tryz.ntmps110
      go_wp2_with fail
      first | go_quiet (fail) | fail
      go_wp2_with (go_at_call 101; refine (HFL.out _ 30 (HR.out.drewN _)).mono ?_; rintro e5 w5 ⟨rfl, hR5, hO5⟩)
      go_ret
      exact ⟨rfl, by have h := hR5; unfold failW at h; rw [if_pos rfl] at h; exact h, (Ro.refl.drewN _).trans hO5⟩
    · have d1 : ((p : Int) == (l.length : Int)) = false := by simp; omega
      have hlt : p < l.length := by omega
      have HQ := Lib.hid (show qone l (p, 0) = (l[p], (p + 1, 0)) from by unfold qone; rw [if_pos rfl, if_neg he, List.drop_eq_getElem_cons hlt]; rfl)
      rw [HQ.out]
      obtain ⟨ad, rfl, hx⟩ := Kd.at_int hC (p : Int) (by omega) (by omega)
      rw [rd_get hlt, Int.toNat_natCast] at hx
      generalize l[p] = x at *
      have HX := Lib.hid hx
      have k1 : (0 : Int) ≤ (p : Int) := by omega
      have k2 : (p : Int) < l.length := by omega
      have k3 : wrap64 ((p : Int) + 1) = (p : Int) + 1 := by unfold wrap64; omega
      have k4 : IntKind.i64.wrap (p : Int) = (p : Int) := IntWalk.i64_in _ (by omega)
      have k5 : IntKind.i64.wrap ((p : Int) + 1 - 1) = (p : Int) := by rw [show (p : Int) + 1 - 1 = (p : Int) by omega]; exact IntWalk.i64_in _ (by omega)
      clear he hC hx
      go_enter Tryz.func110, Tryz.ntmps110
      go_wp2_with fail
      first | go_quiet (fail) | fail
      go_upto_region 7 with fail
      have HR4 := Lib.hid (show QRAt w0 ((w.drewN nq).setCell ⟨g, 1, none⟩ (.int .i64 ((p : Int) + 1))) g l (p + 1, 0) from (by have h := (HR.out.drewN nq).setAt (p + 1) (by omega); rw [Int.natCast_add] at h; exact h))
      have HO4 := Lib.hid ((Ro.refl.drewN nq).trans (Ro.set (w := w.drewN nq) (gr := g) 1 (.int .i64 ((p : Int) + 1))))
      have e0 : ((w.drewN nq).setCell ⟨g, 1, none⟩ (.int .i64 ((p : Int) + 1))).cell? ⟨g, 0, none⟩ = some (.slice (some ad) l.length c) := by go_simp
      have e1 : ((w.drewN nq).setCell ⟨g, 1, none⟩ (.int .i64 ((p : Int) + 1))).cell? ⟨g, 1, none⟩ = some (.int .i64 ((p : Int) + 1)) := by go_simp
      generalize (w.drewN nq).setCell ⟨g, 1, none⟩ (.int .i64 ((p : Int) + 1)) = w4 at *
      have hx := pw_cell_below HR4.out.2.1 HX.out
      clear g0 g1 g2 f1 f2
      first | go_quiet (fail) | fail
      go_wp2_with fail
      go_ret
      exact ⟨rfl, HR4.out.drewN _, HO4.out.drewN _⟩
  · have d1 : (q != 0) = true := by simpa using hq
    have HQ := Lib.hid (show qone l (p, q) = (0, (p, q)) from if_neg hq)
    clear hq hC
    rw [HQ.out]
    go_enter Tryz.func110, Tryz.ntmps110
    go_wp2_with fail
    go_ret
    exact ⟨rfl, HR.out, Ro.refl⟩
theorem qnum_rng {l : List Int} {lo hi : Int} (h0 : 0 ≤ lo) (h1 : 0 ≤ hi) (s : Ws) : 0 ≤ (qnum l lo hi s).1 ∧ (qnum l lo hi s).1 ≤ hi := by
  unfold qnum
  by_cases h2 : s.2 = 0
  · rw [if_pos h2]
    by_cases h3 : (rIntF (l.drop s.1)).2.2 = 0
    · rw [if_pos h3]
      by_cases h4 : lo ≤ (rIntF (l.drop s.1)).1 ∧ (rIntF (l.drop s.1)).1 ≤ hi
      · rw [if_pos h4]
        exact ⟨by show 0 ≤ (rIntF (l.drop s.1)).1; omega, h4.2⟩
      · rw [if_neg h4]
        exact ⟨Int.le_refl _, h1⟩
    · rw [if_neg h3]
      exact ⟨Int.le_refl _, h1⟩
  · rw [if_neg h2]
    exact ⟨Int.le_refl _, h1⟩
def qtext (l : List Int) (lo hi : Int) (s : Ws) : ByteArray × Ws :=
  if (qnum l lo hi s).2.2 = 0 then (if (qnum l lo hi s).1.toNat ≤ l.length - (qnum l lo hi s).2.1 then (strOfNums ((l.drop (qnum l lo hi s).2.1).take (qnum l lo hi s).1.toNat), ((qnum l lo hi s).2.1 + (qnum l lo hi s).1.toNat, 0)) else (⟨#[]⟩, ((qnum l lo hi s).2.1, 30))) else (⟨#[]⟩, (qnum l lo hi s).2)
set_option maxRecDepth 100000 in
set_option maxHeartbeats 4000000 in
theorem qtext_any {w0 w : World} {g : Nat} {l : List Int} {s : Ws} (lo hi : Int) (h0 : 0 ≤ lo) (h1 : 0 ≤ hi) (hhi : hi ≤ 1000000) (hR : QRAt w0 w g l s) (hm : l.length ≤ 4611686018427387904) :
    Calls Tryz.prog 100 #[.pointer (some ⟨g, 0, none⟩), .int .i64 lo, .int .i64 hi] w (QPost w0 w g l (.string (qtext l lo hi s).1) (qtext l lo hi s).2) := by
  have HN := Lib.hid (qnum_any lo hi hR hm)
  obtain ⟨hr0, hr1⟩ := qnum_rng (l := l) h0 h1 s
  have HQT := Lib.hid (show qtext l lo hi s = if (qnum l lo hi s).2.2 = 0 then (if (qnum l lo hi s).1.toNat ≤ l.length - (qnum l lo hi s).2.1 then (strOfNums ((l.drop (qnum l lo hi s).2.1).take (qnum l lo hi s).1.toNat), ((qnum l lo hi s).2.1 + (qnum l lo hi s).1.toNat, 0)) else (⟨#[]⟩, ((qnum l lo hi s).2.1, 30))) else (⟨#[]⟩, (qnum l lo hi s).2) from rfl)
  generalize qtext l lo hi s = T at *
  generalize qnum l lo hi s = r at *
  obtain ⟨nn, p, q⟩ := r
  simp only at hr0 hr1
  obtain ⟨n, rfl⟩ := Int.eq_ofNat_of_zero_le hr0
  have hT := HQT.out
  simp only [Int.toNat_natCast] at hT
  have HT := Lib.hid hT
  have HN : Hid (Calls Tryz.prog 102 #[.pointer (some ⟨g, 0, none⟩), .int .i64 lo, .int .i64 hi] w (QPost w0 w g l (.int .i64 (n : Int)) (p, q))) := HN
  clear hT HQT hR
  have HFL := Lib.hid (fun W k hW => qfault_any (w0 := w0) (w := W) (g := g) (l := l) (s := (p, 0)) k hW)
  have hn : n ≤ 1000000 := by omega
  clear hr0 hr1 hhi
  go_enter Tryz.func100, Tryz.ntmps100
  go_upto_region 2 with (go_at_call 102; refine HN.out.mono ?_; rintro e1 w1 ⟨rfl, hR1, hO1⟩; have HO1 := Lib.hid hO1; have HR1 := Lib.hid hR1; clear hO1)
  obtain ⟨A, c, g0, g1, g2, f1, f2, hc, hC⟩ := hR1.cells
  have g1 : w1.cell? ⟨g, 1, none⟩ = some (.int .i64 (p : Int)) := g1
  have g2 : w1.cell? ⟨g, 2, none⟩ = some (.int .i64 q) := g2
  have hp : p ≤ l.length := hR1.2.2.1
  clear hR1
  by_cases hq : q = 0
  · subst hq
    have k1 : (0 : Int) ≤ (p : Int) := by omega
    have k2 : (p : Int) ≤ l.length := by omega
    have k3 : IntKind.i64.wrap ((l.length : Int) - (p : Int)) = (l.length : Int) - (p : Int) := IntWalk.i64_in _ (by omega)
    by_cases hn1 : n ≤ l.length - p
    · have hT : T = (strOfNums ((l.drop p).take n), (p + n, 0)) := HT.out.trans (by rw [if_pos rfl, if_pos hn1])
      subst hT
      have d1 : decide ((l.length : Int) - (p : Int) < (n : Int)) = false := decide_eq_false (by omega)
      obtain ⟨i0, hi0, hzz⟩ := Option.map_eq_some_iff.1 info5
      simp only [Prod.mk.injEq] at hzz
      obtain ⟨hz0, hz1, hz2⟩ := hzz
      have hd : (l.drop p).length = l.length - p := List.length_drop
      have hdm : (l.take (p + n)).drop p = (l.drop p).take n := by rw [List.drop_take, Nat.add_sub_cancel_left]
      have hcm := cut_mid (P := Tryz.prog) 33 5 .i64 .i64 Tryz.underlying33 hi0 1 hz1 A l.length c (p : Int) ((p : Int) + (n : Int)) (by omega) (by omega) (by omega) hc
      rw [Int.toNat_natCast, show ((p : Int) + (n : Int)).toNat - p = n by omega] at hcm
      have hCM := Kd.C_mid (lo := p) (hi := p + n) hC (by omega) (by omega) hc
      rw [hdm, show ((l.drop p).take n).length = n by rw [List.length_take, hd]; omega] at hCM
      have hCM' : Kd.C (Kd.int .u8) w0 (if c = p then A else A.map (·.add (p * 1))) n ((l.drop p).take n) := hCM
      have HCV := Lib.hid (show ∀ W, Below w0.heap.size w0 W → (convert 33 9 (.slice (if c = p then A else A.map (·.add (p * 1))) n (c - p))).run Tryz.prog W = .ok (.string (strOfNums ((l.drop p).take n))) W from fun W hW => Kd.C_string (P := Tryz.prog) Tryz.underlying33 Tryz.underlying5 Tryz.underlying9 (Kd.C_below hCM' hW))
      have k4 : IntKind.i64.wrap ((p : Int) + (n : Int) - (n : Int)) = (p : Int) := by rw [show (p : Int) + (n : Int) - (n : Int) = (p : Int) by omega]; exact IntWalk.i64_in _ (by omega)
      have k5 : wrap64 ((p : Int) + (n : Int)) = (p : Int) + (n : Int) := by unfold wrap64; omega
      have k6 : IntKind.i64.wrap (p : Int) = (p : Int) := IntWalk.i64_in _ (by omega)
      generalize (if c = p then A else A.map (·.add (p * 1))) = A1 at *
      generalize strOfNums ((l.drop p).take n) = tx at *
      have HCM := Lib.hid hcm
      clear hi0 hz0 hz1 hz2 hd hdm hcm hCM hCM' hC HT
      go_wp2_with fail
      first | go_quiet (fail) | fail
      go_upto_region 8 with fail
      have HR4 := Lib.hid (show QRAt w0 ((w1.drewN nq).setCell ⟨g, 1, none⟩ (.int .i64 ((p : Int) + (n : Int)))) g l (p + n, 0) from (by have h := (HR1.out.drewN nq).setAt (p + n) (by omega); rw [Int.natCast_add] at h; exact h))
      have HO4 := Lib.hid ((Ro.refl.drewN nq).trans (Ro.set (w := w1.drewN nq) (gr := g) 1 (.int .i64 ((p : Int) + (n : Int)))))
      have e0 : ((w1.drewN nq).setCell ⟨g, 1, none⟩ (.int .i64 ((p : Int) + (n : Int)))).cell? ⟨g, 0, none⟩ = some (.slice A l.length c) := by go_simp
      have e1 : ((w1.drewN nq).setCell ⟨g, 1, none⟩ (.int .i64 ((p : Int) + (n : Int)))).cell? ⟨g, 1, none⟩ = some (.int .i64 ((p : Int) + (n : Int))) := by go_simp
      generalize (w1.drewN nq).setCell ⟨g, 1, none⟩ (.int .i64 ((p : Int) + (n : Int))) = w4 at *
      have hcv : ∀ m, (convert 33 9 (.slice A1 n (c - p))).run Tryz.prog (w4.drewN m) = .ok (.string tx) (w4.drewN m) := fun m => HCV.out _ (HR4.out.drewN m).2.1
      have hcm := HCM.out
      clear g0 g1 g2 f1 f2
      first | go_quiet (fail) | fail
      go_wp2_with fail
      go_ret
      exact ⟨rfl, HR4.out.drewN _, HO1.out.trans (HO4.out.drewN _)⟩
    · have hT : T = (⟨#[]⟩, (p, 30)) := HT.out.trans (by rw [if_pos rfl, if_neg hn1])
      subst hT
      have d1 : decide ((l.length : Int) - (p : Int) < (n : Int)) = true := decide_eq_true (by omega)
      clear hC HT
      go_wp2_with fail
      first | go_quiet (fail) | fail
      go_wp2_with (go_at_call 101; refine (HFL.out _ 30 (HR1.out.drewN _)).mono ?_; rintro e5 w5 ⟨rfl, hR5, hO5⟩)
      go_ret
      exact ⟨rfl, by have h := hR5; unfold failW at h; rw [if_pos rfl] at h; exact h, HO1.out.trans ((Ro.refl.drewN _).trans hO5)⟩
  · have d1 : (q != 0) = true := by simpa using hq
    have hT : T = (⟨#[]⟩, (p, q)) := HT.out.trans (if_neg hq)
    subst hT
    clear hC HT hq
    go_wp2_with fail
    go_ret
    exact ⟨rfl, HR1.out, HO1.out⟩
end Go.Proofs.YtcfgmkmllcfjjaaGreatDoor
