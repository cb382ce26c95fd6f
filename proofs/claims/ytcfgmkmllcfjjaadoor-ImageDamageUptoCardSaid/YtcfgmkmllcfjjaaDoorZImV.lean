import Derived.Test.YtcfgmkmllcfjjaaDoorZImT
import Derived.BigQuiet
import Derived.IntWalk
set_option linter.unusedVariables false
set_option linter.unusedSimpArgs false
namespace Go.Proofs.YtcfgmkmllcfjjaaDoor
open Go.RowKit Go.Proofs.YtcfgmkmllcfjjaaDoorW.PrintWords Go.Proofs.YtcfgmkmllcfjjaaDoorW.PrintMore PImageForm
abbrev Ws := Nat × Int
def WRAt (w0 w : World) (g : Nat) (l : List Int) (s : Ws) : Prop :=
  w0.heap.size ≤ g ∧ Below w0.heap.size w0 w ∧ s.1 ≤ l.length ∧ ∃ A c, w.heap[g]? = some (.cells #[.slice A l.length c, .int .i64 (s.1 : Int), .int .i64 s.2] 111 (0, 0)) ∧ l.length ≤ c ∧ Kd.C (Kd.int .u8) w0 A l.length l
namespace WRAt
variable {w0 w w' : World} {g : Nat} {l : List Int} {s : Ws}
theorem below (h : WRAt w0 w g l s) (hB : Below w.heap.size w w') : WRAt w0 w' g l s := by
  obtain ⟨h1, h2, h4, A, c, hb, h3⟩ := h
  exact ⟨h1, h2.trans (hB.mono h2.size), h4, A, c, blk_below hb hB, h3⟩
theorem lt (h : WRAt w0 w g l s) : g < w.heap.size := by
  obtain ⟨_, _, _, A, c, hb, _⟩ := h
  exact blk_lt' hb
theorem neq {k : Nat} {cs : Array Value} {t : TypeId} (h : WRAt w0 w g l s) (hg : w.heap[k]? = some (.cells cs t (0, 0))) (ht : t ≠ 111) : k ≠ g := by
  obtain ⟨_, _, _, A, c, hb, _⟩ := h
  exact blk_ne hg hb ht
theorem far (h : WRAt w0 w g l s) {p i : Nat} (hp : w0.heap.size ≤ p) (hn : p ≠ g) (v : Value) : WRAt w0 (w.setCell ⟨p, i, none⟩ v) g l s := by
  obtain ⟨h1, h2, h4, A, c, hb, h3⟩ := h
  exact ⟨h1, h2.setCell hp v, h4, A, c, (Below.heap_setCell _ _ _ _ (fun e => hn e.symm)).trans hb, h3⟩
theorem drewN (h : WRAt w0 w g l s) (n : Nat) : WRAt w0 (w.drewN n) g l s := h.below (pw_below_drewN (Below.refl _ _) n)
theorem setAt (h : WRAt w0 w g l s) (k : Nat) (hk : k ≤ l.length) : WRAt w0 (w.setCell ⟨g, 1, none⟩ (.int .i64 (k : Int))) g l (k, s.2) := by
  obtain ⟨h1, h2, h4, A, c, hb, h3⟩ := h
  exact ⟨h1, h2.setCell h1 _, hk, A, c, (blk_set hb 1 (.int .i64 (k : Int))).trans rfl, h3⟩
theorem setErr (h : WRAt w0 w g l s) (k : Int) : WRAt w0 (w.setCell ⟨g, 2, none⟩ (.int .i64 k)) g l (s.1, k) := by
  obtain ⟨h1, h2, h4, A, c, hb, h3⟩ := h
  exact ⟨h1, h2.setCell h1 _, h4, A, c, (blk_set hb 2 (.int .i64 k)).trans rfl, h3⟩
theorem cells (h : WRAt w0 w g l s) : ∃ A c, w.cell? ⟨g, 0, none⟩ = some (.slice A l.length c) ∧ w.cell? ⟨g, 1, none⟩ = some (.int .i64 (s.1 : Int)) ∧ w.cell? ⟨g, 2, none⟩ = some (.int .i64 s.2) ∧ w.frozen? ⟨g, 1, none⟩ = false ∧ w.frozen? ⟨g, 2, none⟩ = false ∧ l.length ≤ c ∧ Kd.C (Kd.int .u8) w0 A l.length l := by
  obtain ⟨h1, h2, h4, A, c, hb, h3, h5⟩ := h
  exact ⟨A, c, (blk_cell hb 0).trans rfl, (blk_cell hb 1).trans rfl, (blk_cell hb 2).trans rfl, blk_frozen hb 1, blk_frozen hb 2, h3, h5⟩
end WRAt
def WPost (w0 w : World) (g : Nat) (l : List Int) (v : Value) (s : Ws) (e : Ending) (w' : World) : Prop := e = .returned v ∧ WRAt w0 w' g l s ∧ Ro g w w'
def failW (k : Int) (s : Ws) : Ws := if s.2 = 0 then (s.1, k) else s
set_option maxHeartbeats 1000000 in
theorem fail_any {w0 w : World} {g : Nat} {l : List Int} {s : Ws} (k : Int) (hR : WRAt w0 w g l s) : Calls Tryd.prog 69 #[.pointer (some ⟨g, 0, none⟩), .int .i64 k] w (WPost w0 w g l (.tuple #[]) (failW k s)) := by
  obtain ⟨p, q⟩ := s
  obtain ⟨A, c, g0, g1, g2, f1, f2, _⟩ := hR.cells
  have g2 : w.cell? ⟨g, 2, none⟩ = some (.int .i64 q) := g2
  have HR := Lib.hid hR
  clear hR g0 g1
  by_cases hq : q = 0
  · subst hq
    go_enter Tryd.func69, Tryd.ntmps69
    go_wp2_with fail
    go_end0
    exact ⟨rfl, HR.out.setErr k, Ro.set 2 _⟩
  · have d1 : (q == 0) = false := by simpa using hq
    have HQ := Lib.hid (show failW k (p, q) = (p, q) from if_neg hq)
    clear hq
    rw [HQ.out]
    go_enter Tryd.func69, Tryd.ntmps69
    go_wp2_with fail
    first | go_end0 | ((try simp only [Exit.inBlock, Exit.then]); refine bodyPost_ret (results_none rfl _ _ _) rfl ?_)
    exact ⟨rfl, HR.out, Ro.refl⟩
def wnum (l : List Int) (lo hi : Int) (s : Ws) : Int × Ws :=
  if s.2 = 0 then (if (intF (l.drop s.1)).2.2 = 0 then (if lo ≤ (intF (l.drop s.1)).1 ∧ (intF (l.drop s.1)).1 ≤ hi then ((intF (l.drop s.1)).1, (s.1 + (intF (l.drop s.1)).2.1.toNat, 0)) else (0, (s.1, 31))) else (0, (s.1, (intF (l.drop s.1)).2.2))) else (0, s)
set_option maxRecDepth 100000 in
set_option maxHeartbeats 4000000 in
theorem wnum_any {w0 w : World} {g : Nat} {l : List Int} {s : Ws} (lo hi : Int) (hR : WRAt w0 w g l s) (hl : Bytes l) (hm : l.length ≤ 4611686018427387904) :
    Calls Tryd.prog 68 #[.pointer (some ⟨g, 0, none⟩), .int .i64 lo, .int .i64 hi] w (WPost w0 w g l (.int .i64 (wnum l lo hi s).1) (wnum l lo hi s).2) := by
  obtain ⟨p, q⟩ := s
  obtain ⟨A, c, g0, g1, g2, f1, f2, hc, hC⟩ := hR.cells
  have g1 : w.cell? ⟨g, 1, none⟩ = some (.int .i64 (p : Int)) := g1
  have g2 : w.cell? ⟨g, 2, none⟩ = some (.int .i64 q) := g2
  have hp : p ≤ l.length := hR.2.2.1
  have HR := Lib.hid hR
  by_cases hq : q = 0
  · subst hq
    obtain ⟨i0, hi0, hzz⟩ := Option.map_eq_some_iff.1 info5
    simp only [Prod.mk.injEq] at hzz
    obtain ⟨hz0, hz1, hz2⟩ := hzz
    have hf := cut_from (P := Tryd.prog) 29 5 .i64 Tryd.underlying29 hi0 1 hz1 A l.length c (p : Int) (by omega) (by omega)
    rw [Int.toNat_natCast] at hf
    have hd : (l.drop p).length = l.length - p := List.length_drop
    obtain ⟨v, e, n, hfi, hF, hv, hen⟩ := intF_any (hl.drop p) (by rw [hd]; omega)
    have HI := Lib.hid (show ∀ W, Below w0.heap.size w0 W → Calls Tryd.prog 59 #[.slice (if c = p then A else A.map (·.add (p * 1))) (l.length - p) (c - p)] W fun e' w' => e' = .returned (.tuple #[.int .i64 v, .int .i64 (n : Int), .int .i64 e]) ∧ Drawn0 W w' from fun W hW => by
      have := wire_Int.calls 40 _ (c - p) (l.drop p) v n e W (Kd.C_below (Kd.C_drop hC hp hc) hW) (by rw [hd]; omega) hfi
      rw [hd] at this
      exact this)
    have HB := Lib.hid hR.2.1
    have hw1 : wnum l lo hi (p, 0) = if e = 0 then (if lo ≤ v ∧ v ≤ hi then (v, (p + n, 0)) else (0, (p, 31))) else (0, (p, e)) := by
      unfold wnum
      rw [if_pos rfl, hF]
      simp only [Int.toNat_natCast]
    rw [hw1]
    have HFL := Lib.hid (fun W k hW => fail_any (w0 := w0) (w := W) (g := g) (l := l) (s := (p, 0)) k hW)
    have hpn : n ≤ l.length - p := by
      rcases hen with h | h
      · rw [hd] at h; exact h.2.2
      · omega
    generalize (if c = p then A else A.map (·.add (p * 1))) = A1 at *
    have HPN := Lib.hid hpn
    clear hC hc hR hd hF hfi hi0 hz0 hz1 hz2 hw1 hen hl
    have k1 : (0 : Int) ≤ (p : Int) := by omega
    have k2 : (p : Int) ≤ l.length := by omega
    by_cases he : e = 0
    · subst he
      rw [if_pos rfl]
      by_cases hlo : lo ≤ v
      · have d1 : decide (v < lo) = false := decide_eq_false (by omega)
        by_cases hhi : v ≤ hi
        · have d2 : decide (hi < v) = false := decide_eq_false (by omega)
          have hw : wrap64 ((p : Int) + (n : Int)) = ((p + n : Nat) : Int) := by unfold wrap64; omega
          rw [if_pos ⟨hlo, hhi⟩]
          have HW := Lib.hid hw
          clear hw hlo hhi
          go_enter Tryd.func68, Tryd.ntmps68
          go_wp2_with fail
          first | go_quiet ((go_at_call 59; exact qdr (HI.out _ (pw_below_drewN HB.out _)))) | fail
          go_wp2_with fail
          go_ret
          exact ⟨rfl, (HR.out.drewN nq).setAt (p + n) (by have := HPN.out; omega), (Ro.refl.drewN _).trans (Ro.set 1 _)⟩
        · have d2 : decide (hi < v) = true := decide_eq_true (by omega)
          rw [if_neg (fun h => hhi h.2)]
          clear hlo hhi
          go_enter Tryd.func68, Tryd.ntmps68
          go_wp2_with fail
          first | go_quiet ((go_at_call 59; exact qdr (HI.out _ (pw_below_drewN HB.out _)))) | fail
          go_wp2_with (go_at_call 69; refine (HFL.out _ _ (HR.out.drewN _)).mono ?_; rintro e5 w5 ⟨rfl, hR5, hO5⟩)
          go_ret
          exact ⟨rfl, hR5, (Ro.refl.drewN _).trans hO5⟩
      · have d1 : decide (v < lo) = true := decide_eq_true (by omega)
        rw [if_neg (fun h => hlo h.1)]
        clear hlo
        go_enter Tryd.func68, Tryd.ntmps68
        go_wp2_with fail
        first | go_quiet ((go_at_call 59; exact qdr (HI.out _ (pw_below_drewN HB.out _)))) | fail
        go_wp2_with (go_at_call 69; refine (HFL.out _ _ (HR.out.drewN _)).mono ?_; rintro e5 w5 ⟨rfl, hR5, hO5⟩)
        go_ret
        exact ⟨rfl, hR5, (Ro.refl.drewN _).trans hO5⟩
    · rw [if_neg he]
      have d1 : (e != 0) = true := by simpa using he
      clear he
      go_enter Tryd.func68, Tryd.ntmps68
      go_wp2_with fail
      first | go_quiet ((go_at_call 59; exact qdr (HI.out _ (pw_below_drewN HB.out _)))) | fail
      go_wp2_with (go_at_call 69; refine (HFL.out _ _ (HR.out.drewN _)).mono ?_; rintro e5 w5 ⟨rfl, hR5, hO5⟩)
      go_ret
      exact ⟨rfl, hR5, (Ro.refl.drewN _).trans hO5⟩
  · have d1 : (q != 0) = true := by simpa using hq
    have HQ := Lib.hid (show wnum l lo hi (p, q) = (0, (p, q)) from if_neg hq)
    clear hq hC
    rw [HQ.out]
    go_enter Tryd.func68, Tryd.ntmps68
    go_wp2_with fail
    go_ret
    exact ⟨rfl, HR.out, Ro.refl⟩
def wbytes (l : List Int) (n : Nat) (s : Ws) : ByteArray × Ws :=
  if s.2 = 0 then (if n ≤ l.length - s.1 then (strOfNums ((l.drop s.1).take n), (s.1 + n, 0)) else (⟨#[]⟩, (s.1, 30))) else (⟨#[]⟩, s)
set_option maxRecDepth 100000 in
set_option maxHeartbeats 4000000 in
theorem wbytes_any {w0 w : World} {g : Nat} {l : List Int} {s : Ws} (n : Nat) (hR : WRAt w0 w g l s) (hn : n ≤ 4611686018427387904) (hm : l.length ≤ 4611686018427387904) :
    Calls Tryd.prog 67 #[.pointer (some ⟨g, 0, none⟩), .int .i64 (n : Int)] w (WPost w0 w g l (.string (wbytes l n s).1) (wbytes l n s).2) := by
  obtain ⟨p, q⟩ := s
  obtain ⟨A, c, g0, g1, g2, f1, f2, hc, hC⟩ := hR.cells
  have g1 : w.cell? ⟨g, 1, none⟩ = some (.int .i64 (p : Int)) := g1
  have g2 : w.cell? ⟨g, 2, none⟩ = some (.int .i64 q) := g2
  have hp : p ≤ l.length := hR.2.2.1
  have HR := Lib.hid hR
  have HFL := Lib.hid (fun W k hW => fail_any (w0 := w0) (w := W) (g := g) (l := l) (s := (p, 0)) k hW)
  by_cases hq : q = 0
  · subst hq
    have k1 : (0 : Int) ≤ (p : Int) := by omega
    have k2 : (p : Int) ≤ l.length := by omega
    have k3 : IntKind.i64.wrap ((l.length : Int) - (p : Int)) = (l.length : Int) - (p : Int) := IntWalk.i64_in _ (by omega)
    by_cases hn1 : n ≤ l.length - p
    · have hw1 : wbytes l n (p, 0) = (strOfNums ((l.drop p).take n), (p + n, 0)) := by unfold wbytes; rw [if_pos rfl, if_pos hn1]
      rw [hw1]
      have d1 : decide ((l.length : Int) - (p : Int) < (n : Int)) = false := decide_eq_false (by omega)
      obtain ⟨i0, hi0, hzz⟩ := Option.map_eq_some_iff.1 info5
      simp only [Prod.mk.injEq] at hzz
      obtain ⟨hz0, hz1, hz2⟩ := hzz
      have hd : (l.drop p).length = l.length - p := List.length_drop
      have hdm : (l.take (p + n)).drop p = (l.drop p).take n := by rw [List.drop_take, Nat.add_sub_cancel_left]
      have hcm := cut_mid (P := Tryd.prog) 29 5 .i64 .i64 Tryd.underlying29 hi0 1 hz1 A l.length c (p : Int) ((p : Int) + (n : Int)) (by omega) (by omega) (by omega) hc
      rw [Int.toNat_natCast, show ((p : Int) + (n : Int)).toNat - p = n by omega] at hcm
      have hCM := Kd.C_mid (lo := p) (hi := p + n) hC (by omega) (by omega) hc
      rw [hdm, show ((l.drop p).take n).length = n by rw [List.length_take, hd]; omega] at hCM
      have hCM' : Kd.C (Kd.int .u8) w0 (if c = p then A else A.map (·.add (p * 1))) n ((l.drop p).take n) := hCM
      have HCV := Lib.hid (show ∀ W, Below w0.heap.size w0 W → (convert 29 9 (.slice (if c = p then A else A.map (·.add (p * 1))) n (c - p))).run Tryd.prog W = .ok (.string (strOfNums ((l.drop p).take n))) W from fun W hW => Kd.C_string (P := Tryd.prog) Tryd.underlying29 Tryd.underlying5 Tryd.underlying9 (Kd.C_below hCM' hW))
      have k4 : IntKind.i64.wrap ((p : Int) + (n : Int) - (n : Int)) = (p : Int) := by rw [show (p : Int) + (n : Int) - (n : Int) = (p : Int) by omega]; exact IntWalk.i64_in _ (by omega)
      generalize (if c = p then A else A.map (·.add (p * 1))) = A1 at *
      generalize strOfNums ((l.drop p).take n) = tx at *
      have HK4 := Lib.hid k4
      have HCM := Lib.hid hcm
      clear hi0 hz0 hz1 hz2 hd hdm hcm hCM hCM' hC k4
      go_enter Tryd.func67, Tryd.ntmps67
      go_wp2_with fail
      first | go_quiet (fail) | fail
      go_wp2_with fail
      have hR2 := (HR.out.drewN nq).setAt (p + n) (by omega)
      have HO2 := Lib.hid ((Ro.refl.drewN nq).trans (Ro.set (w := w.drewN nq) (gr := g) 1 (.int .i64 ((p + n : Nat) : Int))))
      rw [show (((p + n : Nat) : Int)) = (p : Int) + (n : Int) from Int.natCast_add p n] at hR2 HO2
      have e0 : ((w.drewN nq).setCell ⟨g, 1, none⟩ (.int .i64 ((p : Int) + (n : Int)))).cell? ⟨g, 0, none⟩ = some (.slice A l.length c) := by go_simp
      generalize hW1 : (w.drewN nq).setCell ⟨g, 1, none⟩ (.int .i64 ((p : Int) + (n : Int))) = W1 at *
      obtain ⟨A', c', q0, q1, q2, _, _, _, _⟩ := hR2.cells
      have hA : (Value.slice A' l.length c') = .slice A l.length c := by
        rw [e0] at q0
        exact (Option.some.inj q0).symm
      rw [hA] at q0
      have q1 : W1.cell? ⟨g, 1, none⟩ = some (.int .i64 ((p : Int) + (n : Int))) := by rw [q1]; show some (Value.int .i64 (((p + n : Nat)) : Int)) = _; rw [Int.natCast_add]
      have hcv : ∀ m, (convert 29 9 (.slice A1 n (c - p))).run Tryd.prog (W1.drewN m) = .ok (.string tx) (W1.drewN m) := fun m => HCV.out _ (hR2.drewN m).2.1
      have k4 := HK4.out
      have hcm := HCM.out
      have HR2 := Lib.hid hR2
      clear hR2 hW1 hA g0 g1 g2 f1 f2 q2 e0
      first | go_quiet (fail) | fail
      go_wp2_with fail
      go_ret
      exact ⟨rfl, HR2.out.drewN _, HO2.out.drewN _⟩
    · have hw1 : wbytes l n (p, 0) = (⟨#[]⟩, (p, 30)) := by unfold wbytes; rw [if_pos rfl, if_neg hn1]
      rw [hw1]
      have d1 : decide ((l.length : Int) - (p : Int) < (n : Int)) = true := decide_eq_true (by omega)
      clear hC
      go_enter Tryd.func67, Tryd.ntmps67
      go_wp2_with fail
      first | go_quiet (fail) | fail
      go_wp2_with (go_at_call 69; refine (HFL.out _ _ (HR.out.drewN _)).mono ?_; rintro e5 w5 ⟨rfl, hR5, hO5⟩; obtain ⟨_, _, _, _, g5, _⟩ := hR5.cells; have HR5 := Lib.hid hR5)
      go_ret
      exact ⟨rfl, HR5.out, (Ro.refl.drewN _).trans hO5⟩
  · have d1 : (q == 0) = false := by simpa using hq
    have d2 : (q != 0) = true := by simpa using hq
    have HQ := Lib.hid (show wbytes l n (p, q) = (⟨#[]⟩, (p, q)) from if_neg hq)
    clear hq hC
    rw [HQ.out]
    go_enter Tryd.func67, Tryd.ntmps67
    go_wp2_with fail
    first | go_quiet (fail) | fail
    go_wp2_with fail
    go_ret
    exact ⟨rfl, HR.out.drewN _, Ro.refl.drewN _⟩
def wone (l : List Int) (lo hi : Int) (s : Ws) : Int × Ws :=
  if s.2 = 0 then (if 1 ≤ l.length - s.1 then ((l.drop s.1).headD 0, if lo ≤ (l.drop s.1).headD 0 ∧ (l.drop s.1).headD 0 ≤ hi then (s.1 + 1, 0) else (s.1 + 1, 31)) else (0, (s.1, 30))) else (0, s)
set_option maxRecDepth 100000 in
set_option maxHeartbeats 4000000 in
theorem wone_any {w0 w : World} {g : Nat} {l : List Int} {s : Ws} (lo hi : Int) (hR : WRAt w0 w g l s) (hl : Bytes l) (hm : l.length ≤ 4611686018427387904) :
    Calls Tryd.prog 74 #[.pointer (some ⟨g, 0, none⟩), .int .u8 lo, .int .u8 hi] w (WPost w0 w g l (.int .u8 (wone l lo hi s).1) (wone l lo hi s).2) := by
  have hW := wbytes_any 1 hR (by omega) hm
  have hp : s.1 ≤ l.length := hR.2.2.1
  have HFL := Lib.hid (fun W s k hW => fail_any (w0 := w0) (w := W) (g := g) (l := l) (s := s) k hW)
  clear hR
  obtain ⟨p, q⟩ := s
  by_cases hq : q = 0
  · subst hq
    by_cases hn1 : 1 ≤ l.length - p
    · have hw1 : wbytes l 1 (p, 0) = (strOfNums ((l.drop p).take 1), (p + 1, 0)) := by unfold wbytes; rw [if_pos rfl, if_pos hn1]
      have hp2 : p < l.length := by omega
      rw [hw1] at hW
      unfold wone
      rw [if_pos rfl, if_pos hn1]
      rw [List.drop_eq_getElem_cons hp2, List.headD_cons]
      rw [List.drop_eq_getElem_cons hp2] at hW
      obtain ⟨hx0, hx1⟩ := hl l[p] (List.getElem_mem hp2)
      simp only [List.take_succ_cons, List.take_zero] at hW
      generalize l[p] = x at *
      obtain ⟨y, rfl⟩ : ∃ y : UInt8, (y.toNat : Int) = x := ⟨UInt8.ofNat x.toNat, by rw [UInt8.toNat_ofNat_of_lt' (by show x.toNat < 256; omega)]; omega⟩
      rw [show strOfNums [(y.toNat : Int)] = ⟨#[y]⟩ by simp [strOfNums]] at hW
      have HW := Lib.hid hW
      clear hW hw1
      have hy : ∀ h, (⟨#[y]⟩ : ByteArray)[0]'h = y := fun _ => rfl
      by_cases hlo : lo ≤ (y.toNat : Int)
      · have d1 : decide ((y.toNat : Int) < lo) = false := decide_eq_false (by omega)
        by_cases hhi : (y.toNat : Int) ≤ hi
        · have d2 : decide (hi < (y.toNat : Int)) = false := decide_eq_false (by omega)
          rw [if_pos ⟨hlo, hhi⟩]
          clear hlo hhi
          go_enter Tryd.func74, Tryd.ntmps74
          go_wp2_with (go_at_call 67; refine HW.out.mono ?_; rintro e5 w5 ⟨rfl, hR5, hO5⟩; obtain ⟨_, _, _, _, g5, _⟩ := hR5.cells; have HR5 := Lib.hid hR5)
          go_ret
          exact ⟨rfl, HR5.out, hO5⟩
        · have d2 : decide (hi < (y.toNat : Int)) = true := decide_eq_true (by omega)
          rw [if_neg (fun h => hhi h.2)]
          clear hlo hhi
          go_enter Tryd.func74, Tryd.ntmps74
          go_wp2_with (go_at_call 67; refine HW.out.mono ?_; rintro e5 w5 ⟨rfl, hR5, hO5⟩; obtain ⟨_, _, _, _, g5, _⟩ := hR5.cells; have HR5 := Lib.hid hR5)
          go_wp2_with (go_at_call 69; refine (HFL.out _ _ _ HR5.out).mono ?_; rintro e6 w6 ⟨rfl, hR6, hO6⟩)
          go_ret
          exact ⟨rfl, hR6, hO5.trans hO6⟩
      · have d1 : decide ((y.toNat : Int) < lo) = true := decide_eq_true (by omega)
        rw [if_neg (fun h => hlo h.1)]
        clear hlo
        go_enter Tryd.func74, Tryd.ntmps74
        go_wp2_with (go_at_call 67; refine HW.out.mono ?_; rintro e5 w5 ⟨rfl, hR5, hO5⟩; obtain ⟨_, _, _, _, g5, _⟩ := hR5.cells; have HR5 := Lib.hid hR5)
        go_wp2_with (go_at_call 69; refine (HFL.out _ _ _ HR5.out).mono ?_; rintro e6 w6 ⟨rfl, hR6, hO6⟩)
        go_ret
        exact ⟨rfl, hR6, hO5.trans hO6⟩
    · have hw1 : wbytes l 1 (p, 0) = (⟨#[]⟩, (p, 30)) := by unfold wbytes; rw [if_pos rfl, if_neg hn1]
      rw [hw1] at hW
      have HW := Lib.hid hW
      unfold wone
      rw [if_pos rfl, if_neg hn1]
      clear hW hw1 hl
      go_enter Tryd.func74, Tryd.ntmps74
      go_wp2_with (go_at_call 67; refine HW.out.mono ?_; rintro e5 w5 ⟨rfl, hR5, hO5⟩; obtain ⟨_, _, _, _, g5, _⟩ := hR5.cells; have HR5 := Lib.hid hR5)
      go_ret
      exact ⟨rfl, HR5.out, hO5⟩
  · have hw1 : wbytes l 1 (p, q) = (⟨#[]⟩, (p, q)) := if_neg hq
    rw [hw1] at hW
    have HW := Lib.hid hW
    have HQ := Lib.hid (show wone l lo hi (p, q) = (0, (p, q)) from if_neg hq)
    have d1 : (q != 0) = true := by simpa using hq
    rw [HQ.out]
    clear hW hw1 hl hq
    go_enter Tryd.func74, Tryd.ntmps74
    go_wp2_with (go_at_call 67; refine HW.out.mono ?_; rintro e5 w5 ⟨rfl, hR5, hO5⟩; obtain ⟨_, _, _, _, g5, _⟩ := hR5.cells; have g5 : w5.cell? ⟨g, 2, none⟩ = some (.int .i64 q) := g5; have HR5 := Lib.hid hR5)
    go_ret
    exact ⟨rfl, HR5.out, hO5⟩
end Go.Proofs.YtcfgmkmllcfjjaaDoor
