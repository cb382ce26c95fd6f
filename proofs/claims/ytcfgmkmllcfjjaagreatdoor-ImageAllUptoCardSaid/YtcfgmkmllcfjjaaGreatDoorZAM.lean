import Derived.Test.YtcfgmkmllcfjjaaGreatDoorZAL
import Derived.BigQuiet
import Derived.IntWalk
set_option linter.unusedVariables false
set_option linter.unusedSimpArgs false
namespace Go.Proofs.YtcfgmkmllcfjjaaGreatDoor
open Go.RowKit Go.Proofs.YtcfgmkmllcfjjaaGreatDoorW.PrintWords Go.Proofs.YtcfgmkmllcfjjaaGreatDoorW.PrintMore PImageAll
abbrev Ws := Nat × Int
def WRAt (w0 w : World) (g : Nat) (l : List Int) (s : Ws) : Prop :=
  w0.heap.size ≤ g ∧ Below w0.heap.size w0 w ∧ s.1 ≤ l.length ∧ ∃ A c, w.heap[g]? = some (.cells #[.slice A l.length c, .int .i64 (s.1 : Int), .int .i64 s.2] 146 (0, 0)) ∧ l.length ≤ c ∧ Kd.C (Kd.int .u8) w0 A l.length l
namespace WRAt
variable {w0 w w' : World} {g : Nat} {l : List Int} {s : Ws}
theorem below (h : WRAt w0 w g l s) (hB : Below w.heap.size w w') : WRAt w0 w' g l s := by
  obtain ⟨h1, h2, h4, A, c, hb, h3⟩ := h
  exact ⟨h1, h2.trans (hB.mono h2.size), h4, A, c, blk_below hb hB, h3⟩
theorem lt (h : WRAt w0 w g l s) : g < w.heap.size := by
  obtain ⟨_, _, _, A, c, hb, _⟩ := h
  exact blk_lt' hb
theorem neq {k : Nat} {cs : Array Value} {t : TypeId} (h : WRAt w0 w g l s) (hg : w.heap[k]? = some (.cells cs t (0, 0))) (ht : t ≠ 146) : k ≠ g := by
  obtain ⟨_, _, _, A, c, hb, _⟩ := h
  exact blk_ne hg hb ht
theorem far (h : WRAt w0 w g l s) {p i : Nat} (hp : w0.heap.size ≤ p) (hn : p ≠ g) (v : Value) : WRAt w0 (w.setCell ⟨p, i, none⟩ v) g l s := by
  obtain ⟨h1, h2, h4, A, c, hb, h3⟩ := h
  exact ⟨h1, h2.setCell hp v, h4, A, c, (Below.heap_setCell _ _ _ _ (fun e => hn e.symm)).trans hb, h3⟩
theorem drewN (h : WRAt w0 w g l s) (n : Nat) : WRAt w0 (w.drewN n) g l s := h.below (pw_below_drewN (Below.refl _ _) n)
theorem setAt (h : WRAt w0 w g l s) (k : Nat) (hk : k ≤ l.length) : WRAt w0 (w.setCell ⟨g, 1, none⟩ (.int .i64 (k : Int))) g l (k, s.2) := by
  obtain ⟨h1, h2, h4, A, c, hb, h3⟩ := h
  exact ⟨h1, h2.setCell h1 _, hk, A, c, (blk_set hb 1 (.int .i64 (k : Int))).trans rfl, h3⟩
theorem setErr (h : WRAt w0 w g l s) (k : Int) : WRAt w0 (w.setCell ⟨g, 2, none⟩ (.int .i64 k)) g l (s.1, k) := by
  obtain ⟨h1, h2, h4, A, c, hb, h3⟩ := h
  exact ⟨h1, h2.setCell h1 _, h4, A, c, (blk_set hb 2 (.int .i64 k)).trans rfl, h3⟩
theorem cells (h : WRAt w0 w g l s) : ∃ A c, w.cell? ⟨g, 0, none⟩ = some (.slice A l.length c) ∧ w.cell? ⟨g, 1, none⟩ = some (.int .i64 (s.1 : Int)) ∧ w.cell? ⟨g, 2, none⟩ = some (.int .i64 s.2) ∧ w.frozen? ⟨g, 1, none⟩ = false ∧ w.frozen? ⟨g, 2, none⟩ = false ∧ l.length ≤ c ∧ Kd.C (Kd.int .u8) w0 A l.length l := by
  obtain ⟨h1, h2, h4, A, c, hb, h3, h5⟩ := h
  exact ⟨A, c, (blk_cell hb 0).trans rfl, (blk_cell hb 1).trans rfl, (blk_cell hb 2).trans rfl, blk_frozen hb 1, blk_frozen hb 2, h3, h5⟩
end WRAt
def WPost (w0 w : World) (g : Nat) (l : List Int) (v : Value) (s : Ws) (e : Ending) (w' : World) : Prop := e = .returned v ∧ WRAt w0 w' g l s ∧ Ro g w w'
def failW (k : Int) (s : Ws) : Ws := if s.2 = 0 then (s.1, k) else s
set_option maxHeartbeats 1000000 in
theorem fail_any {w0 w : World} {g : Nat} {l : List Int} {s : Ws} (k : Int) (hR : WRAt w0 w g l s) : Calls Tryz.prog 117 #[.pointer (some ⟨g, 0, none⟩), .int .i64 k] w (WPost w0 w g l (.tuple #[]) (failW k s)) := by
  obtain ⟨p, q⟩ := s
  obtain ⟨A, c, g0, g1, g2, f1, f2, _⟩ := hR.cells
  have g2 : w.cell? ⟨g, 2, none⟩ = some (.int .i64 q) := g2
  have HR := Lib.hid hR
  clear hR g0 g1
  by_cases hq : q = 0
  · subst hq
    go_enter Tryz.func117, Tryz.ntmps117
    go_wp2_with fail
    go_end0
    exact ⟨rfl, HR.out.setErr k, Ro.set 2 _⟩
  · have d1 : (q == 0) = false := by simpa using hq
    have HQ := Lib.hid (show failW k (p, q) = (p, q) from if_neg hq)
    clear hq
    rw [HQ.out]
    go_enter Tryz.func117, Tryz.ntmps117
    go_wp2_with fail
    first | go_end0 | ((try simp only [Exit.inBlock, Exit.then]); refine bodyPost_ret (results_none rfl _ _ _) rfl ?_)
    exact ⟨rfl, HR.out, Ro.refl⟩
def wnum (l : List Int) (lo hi : Int) (s : Ws) : Int × Ws :=
  if s.2 = 0 then (if (intF (l.drop s.1)).2.2 = 0 then (if lo ≤ (intF (l.drop s.1)).1 ∧ (intF (l.drop s.1)).1 ≤ hi then ((intF (l.drop s.1)).1, (s.1 + (intF (l.drop s.1)).2.1.toNat, 0)) else (0, (s.1, 31))) else (0, (s.1, (intF (l.drop s.1)).2.2))) else (0, s)
set_option maxRecDepth 100000 in
set_option maxHeartbeats 4000000 in
theorem wnum_any {w0 w : World} {g : Nat} {l : List Int} {s : Ws} (lo hi : Int) (hR : WRAt w0 w g l s) (hl : Bytes l) (hm : l.length ≤ 4611686018427387904) :
    Calls Tryz.prog 116 #[.pointer (some ⟨g, 0, none⟩), .int .i64 lo, .int .i64 hi] w (WPost w0 w g l (.int .i64 (wnum l lo hi s).1) (wnum l lo hi s).2) := by
  obtain ⟨p, q⟩ := s
  obtain ⟨A, c, g0, g1, g2, f1, f2, hc, hC⟩ := hR.cells
  have g1 : w.cell? ⟨g, 1, none⟩ = some (.int .i64 (p : Int)) := g1
  have g2 : w.cell? ⟨g, 2, none⟩ = some (.int .i64 q) := g2
  have hp : p ≤ l.length := hR.2.2.1
  have HR := Lib.hid hR
  by_cases hq : q = 0
  · subst hq
    obtain ⟨i0, hi0, hzz⟩ := Option.map_eq_some_iff.1 info5
    simp only [Prod.mk.injEq] at hzz
    obtain ⟨hz0, hz1, hz2⟩ := hzz
    have hf := cut_from (P := Tryz.prog) 33 5 .i64 Tryz.underlying33 hi0 1 hz1 A l.length c (p : Int) (by omega) (by omega)
    rw [Int.toNat_natCast] at hf
    have hd : (l.drop p).length = l.length - p := List.length_drop
    obtain ⟨v, e, n, hfi, hF, hv, hen⟩ := intF_any (hl.drop p) (by rw [hd]; omega)
    have HI := Lib.hid (show ∀ W, Below w0.heap.size w0 W → Calls Tryz.prog 105 #[.slice (if c = p then A else A.map (·.add (p * 1))) (l.length - p) (c - p)] W fun e' w' => e' = .returned (.tuple #[.int .i64 v, .int .i64 (n : Int), .int .i64 e]) ∧ Drawn0 W w' from fun W hW => by
      have := wire_Int.calls 40 _ (c - p) (l.drop p) v n e W (Kd.C_below (Kd.C_drop hC hp hc) hW) (by rw [hd]; omega) hfi
      rw [hd] at this
      exact this)
    have HB := Lib.hid hR.2.1
    have hw1 : wnum l lo hi (p, 0) = if e = 0 then (if lo ≤ v ∧ v ≤ hi then (v, (p + n, 0)) else (0, (p, 31))) else (0, (p, e)) := by
      unfold wnum
      rw [if_pos rfl, hF]
      simp only [Int.toNat_natCast]
    rw [hw1]
    have HFL := Lib.hid (fun W k hW => fail_any (w0 := w0) (w := W) (g := g) (l := l) (s := (p, 0)) k hW)
    have hpn : n ≤ l.length - p := by
      rcases hen with h | h
      · rw [hd] at h; exact h.2.2
      · omega
    generalize (if c = p then A else A.map (·.add (p * 1))) = A1 at *
    have HPN := Lib.hid hpn
    clear hC hc hR hd hF hfi hi0 hz0 hz1 hz2 hw1 hen hl
    have k1 : (0 : Int) ≤ (p : Int) := by omega
    have k2 : (p : Int) ≤ l.length := by omega
    by_cases he : e = 0
    · subst he
      rw [if_pos rfl]
      by_cases hlo : lo ≤ v
      · have d1 : decide (v < lo) = false := decide_eq_false (by omega)
        by_cases hhi : v ≤ hi
        · have d2 : decide (hi < v) = false := decide_eq_false (by omega)
          have hw : wrap64 ((p : Int) + (n : Int)) = ((p + n : Nat) : Int) := by unfold wrap64; omega
          rw [if_pos ⟨hlo, hhi⟩]
          have HW := Lib.hid hw
          clear hw hlo hhi
          go_enter Tryz.func116, Tryz.ntmps116
          go_wp2_with fail
          first | go_quiet ((go_at_call 105; exact qdr (HI.out _ (pw_below_drewN HB.out _)))) | fail
          go_wp2_with fail
          go_ret
          exact ⟨rfl, (HR.out.drewN nq).setAt (p + n) (by have := HPN.out; omega), (Ro.refl.drewN _).trans (Ro.set 1 _)⟩
        · have d2 : decide (hi < v) = true := decide_eq_true (by omega)
          rw [if_neg (fun h => hhi h.2)]
          clear hlo hhi
          go_enter Tryz.func116, Tryz.ntmps116
          go_wp2_with fail
          first | go_quiet ((go_at_call 105; exact qdr (HI.out _ (pw_below_drewN HB.out _)))) | fail
          go_wp2_with (go_at_call 117; refine (HFL.out _ _ (HR.out.drewN _)).mono ?_; rintro e5 w5 ⟨rfl, hR5, hO5⟩)
          go_ret
          exact ⟨rfl, hR5, (Ro.refl.drewN _).trans hO5⟩
      · have d1 : decide (v < lo) = true := decide_eq_true (by omega)
        rw [if_neg (fun h => hlo h.1)]
        clear hlo
        go_enter Tryz.func116, Tryz.ntmps116
        go_wp2_with fail
        first | go_quiet ((go_at_call 105; exact qdr (HI.out _ (pw_below_drewN HB.out _)))) | fail
        go_wp2_with (go_at_call 117; refine (HFL.out _ _ (HR.out.drewN _)).mono ?_; rintro e5 w5 ⟨rfl, hR5, hO5⟩)
        go_ret
        exact ⟨rfl, hR5, (Ro.refl.drewN _).trans hO5⟩
    · rw [if_neg he]
      have d1 : (e != 0) = true := by simpa using he
      clear he
      go_enter Tryz.func116, Tryz.ntmps116
      go_wp2_with fail
      first | go_quiet ((go_at_call 105; exact qdr (HI.out _ (pw_below_drewN HB.out _)))) | fail
      go_wp2_with (go_at_call 117; refine (HFL.out _ _ (HR.out.drewN _)).mono ?_; rintro e5 w5 ⟨rfl, hR5, hO5⟩)
      go_ret
      exact ⟨rfl, hR5, (Ro.refl.drewN _).trans hO5⟩
  · have d1 : (q != 0) = true := by simpa using hq
    have HQ := Lib.hid (show wnum l lo hi (p, q) = (0, (p, q)) from if_neg hq)
    clear hq hC
    rw [HQ.out]
    go_enter Tryz.func116, Tryz.ntmps116
    go_wp2_with fail
    go_ret
    exact ⟨rfl, HR.out, Ro.refl⟩
def wbytes (l : List Int) (n : Nat) (s : Ws) : ByteArray × Ws :=
  if s.2 = 0 then (if n ≤ l.length - s.1 then (strOfNums ((l.drop s.1).take n), (s.1 + n, 0)) else (⟨#[]⟩, (s.1, 30))) else (⟨#[]⟩, s)
set_option maxRecDepth 100000 in
set_option maxHeartbeats 4000000 in
theorem wbytes_any {w0 w : World} {g : Nat} {l : List Int} {s : Ws} (n : Nat) (hR : WRAt w0 w g l s) (hn : n ≤ 4611686018427387904) (hm : l.length ≤ 4611686018427387904) :
    Calls Tryz.prog 115 #[.pointer (some ⟨g, 0, none⟩), .int .i64 (n : Int)] w (WPost w0 w g l (.string (wbytes l n s).1) (wbytes l n s).2) := by
  obtain ⟨p, q⟩ := s
  obtain ⟨A, c, g0, g1, g2, f1, f2, hc, hC⟩ := hR.cells
  have g1 : w.cell? ⟨g, 1, none⟩ = some (.int .i64 (p : Int)) := g1
  have g2 : w.cell? ⟨g, 2, none⟩ = some (.int .i64 q) := g2
  have hp : p ≤ l.length := hR.2.2.1
  have HR := Lib.hid hR
  have HFL := Lib.hid (fun W k hW => fail_any (w0 := w0) (w := W) (g := g) (l := l) (s := (p, 0)) k hW)
  by_cases hq : q = 0
  · subst hq
    have k1 : (0 : Int) ≤ (p : Int) := by omega
    have k2 : (p : Int) ≤ l.length := by omega
    have k3 : IntKind.i64.wrap ((l.length : Int) - (p : Int)) = (l.length : Int) - (p : Int) := IntWalk.i64_in _ (by omega)
    by_cases hn1 : n ≤ l.length - p
    · have hw1 : wbytes l n (p, 0) = (strOfNums ((l.drop p).take n), (p + n, 0)) := by unfold wbytes; rw [if_pos rfl, if_pos hn1]
      rw [hw1]
      have d1 : decide ((l.length : Int) - (p : Int) < (n : Int)) = false := decide_eq_false (by omega)
      obtain ⟨i0, hi0, hzz⟩ := Option.map_eq_some_iff.1 info5
      simp only [Prod.mk.injEq] at hzz
      obtain ⟨hz0, hz1, hz2⟩ := hzz
      have hd : (l.drop p).length = l.length - p := List.length_drop
      have hdm : (l.take (p + n)).drop p = (l.drop p).take n := by rw [List.drop_take, Nat.add_sub_cancel_left]
      have hcm := cut_mid (P := Tryz.prog) 33 5 .i64 .i64 Tryz.underlying33 hi0 1 hz1 A l.length c (p : Int) ((p : Int) + (n : Int)) (by omega) (by omega) (by omega) hc
      rw [Int.toNat_natCast, show ((p : Int) + (n : Int)).toNat - p = n by omega] at hcm
      have hCM := Kd.C_mid (lo := p) (hi := p + n) hC (by omega) (by omega) hc
      rw [hdm, show ((l.drop p).take n).length = n by rw [List.length_take, hd]; omega] at hCM
      have hCM' : Kd.C (Kd.int .u8) w0 (if c = p then A else A.map (·.add (p * 1))) n ((l.drop p).take n) := hCM
      have HCV := Lib.hid (show ∀ W, Below w0.heap.size w0 W → (convert 33 9 (.slice (if c = p then A else A.map (·.add (p * 1))) n (c - p))).run Tryz.prog W = .ok (.string (strOfNums ((l.drop p).take n))) W from fun W hW => Kd.C_string (P := Tryz.prog) Tryz.underlying33 Tryz.underlying5 Tryz.underlying9 (Kd.C_below hCM' hW))
      have k4 : IntKind.i64.wrap ((p : Int) + (n : Int) - (n : Int)) = (p : Int) := by rw [show (p : Int) + (n : Int) - (n : Int) = (p : Int) by omega]; exact IntWalk.i64_in _ (by omega)
      generalize (if c = p then A else A.map (·.add (p * 1))) = A1 at *
      generalize strOfNums ((l.drop p).take n) = tx at *
      have HK4 := Lib.hid k4
      have HCM := Lib.hid hcm
      clear hi0 hz0 hz1 hz2 hd hdm hcm hCM hCM' hC k4
      go_enter Tryz.func115, Tryz.ntmps115
      go_wp2_with fail
      first | go_quiet (fail) | fail
      go_wp2_with fail
      have hR2 := (HR.out.drewN nq).setAt (p + n) (by omega)
      have HO2 := Lib.hid ((Ro.refl.drewN nq).trans (Ro.set (w := w.drewN nq) (gr := g) 1 (.int .i64 ((p + n : Nat) : Int))))
      rw [show (((p + n : Nat) : Int)) = (p : Int) + (n : Int) from Int.natCast_add p n] at hR2 HO2
      have e0 : ((w.drewN nq).setCell ⟨g, 1, none⟩ (.int .i64 ((p : Int) + (n : Int)))).cell? ⟨g, 0, none⟩ = some (.slice A l.length c) := by go_simp
      generalize hW1 : (w.drewN nq).setCell ⟨g, 1, none⟩ (.int .i64 ((p : Int) + (n : Int))) = W1 at *
      obtain ⟨A', c', q0, q1, q2, _, _, _, _⟩ := hR2.cells
      have hA : (Value.slice A' l.length c') = .slice A l.length c := by
        rw [e0] at q0
        exact (Option.some.inj q0).symm
      rw [hA] at q0
      have q1 : W1.cell? ⟨g, 1, none⟩ = some (.int .i64 ((p : Int) + (n : Int))) := by rw [q1]; show some (Value.int .i64 (((p + n : Nat)) : Int)) = _; rw [Int.natCast_add]
      have hcv : ∀ m, (convert 33 9 (.slice A1 n (c - p))).run Tryz.prog (W1.drewN m) = .ok (.string tx) (W1.drewN m) := fun m => HCV.out _ (hR2.drewN m).2.1
      have k4 := HK4.out
      have hcm := HCM.out
      have HR2 := Lib.hid hR2
      clear hR2 hW1 hA g0 g1 g2 f1 f2 q2 e0
      first | go_quiet (fail) | fail
      go_wp2_with fail
      go_ret
      exact ⟨rfl, HR2.out.drewN _, HO2.out.drewN _⟩
    · have hw1 : wbytes l n (p, 0) = (⟨#[]⟩, (p, 30)) := by unfold wbytes; rw [if_pos rfl, if_neg hn1]
      rw [hw1]
      have d1 : decide ((l.length : Int) - (p : Int) < (n : Int)) = true := decide_eq_true (by omega)
      clear hC
      go_enter Tryz.func115, Tryz.ntmps115
      go_wp2_with fail
      first | go_quiet (fail) | fail
      go_wp2_with (go_at_call 117; refine (HFL.out _ _ (HR.out.drewN _)).mono ?_; rintro e5 w5 ⟨rfl, hR5, hO5⟩; obtain ⟨_, _, _, _, g5, _⟩ := hR5.cells; have HR5 := Lib.hid hR5)
      go_ret
      exact ⟨rfl, HR5.out, (Ro.refl.drewN _).trans hO5⟩
  · have d1 : (q == 0) = false := by simpa using hq
    have d2 : (q != 0) = true := by simpa using hq
    have HQ := Lib.hid (show wbytes l n (p, q) = (⟨#[]⟩, (p, q)) from if_neg hq)
    clear hq hC
    rw [HQ.out]
    go_enter Tryz.func115, Tryz.ntmps115
    go_wp2_with fail
    first | go_quiet (fail) | fail
    go_wp2_with fail
    go_ret
    exact ⟨rfl, HR.out.drewN _, Ro.refl.drewN _⟩
def wone (l : List Int) (lo hi : Int) (s : Ws) : Int × Ws :=
  if s.2 = 0 then (if 1 ≤ l.length - s.1 then ((l.drop s.1).headD 0, if lo ≤ (l.drop s.1).headD 0 ∧ (l.drop s.1).headD 0 ≤ hi then (s.1 + 1, 0) else (s.1 + 1, 31)) else (0, (s.1, 30))) else (0, s)
set_option maxRecDepth 100000 in
set_option maxHeartbeats 4000000 in
theorem wone_any {w0 w : World} {g : Nat} {l : List Int} {s : Ws} (lo hi : Int) (hR : WRAt w0 w g l s) (hl : Bytes l) (hm : l.length ≤ 4611686018427387904) :
    Calls Tryz.prog 122 #[.pointer (some ⟨g, 0, none⟩), .int .u8 lo, .int .u8 hi] w (WPost w0 w g l (.int .u8 (wone l lo hi s).1) (wone l lo hi s).2) := by
  have hW := wbytes_any 1 hR (by omega) hm
  have hp : s.1 ≤ l.length := hR.2.2.1
  have HFL := Lib.hid (fun W s k hW => fail_any (w0 := w0) (w := W) (g := g) (l := l) (s := s) k hW)
  clear hR
  obtain ⟨p, q⟩ := s
  by_cases hq : q = 0
  · subst hq
    by_cases hn1 : 1 ≤ l.length - p
    · have hw1 : wbytes l 1 (p, 0) = (strOfNums ((l.drop p).take 1), (p + 1, 0)) := by unfold wbytes; rw [if_pos rfl, if_pos hn1]
      have hp2 : p < l.length := by omega
      rw [hw1] at hW
      unfold wone
      rw [if_pos rfl, if_pos hn1]
      rw [List.drop_eq_getElem_cons hp2, List.headD_cons]
      rw [List.drop_eq_getElem_cons hp2] at hW
      obtain ⟨hx0, hx1⟩ := hl l[p] (List.getElem_mem hp2)
      simp only [List.take_succ_cons, List.take_zero] at hW
      generalize l[p] = x at *
      obtain ⟨y, rfl⟩ : ∃ y : UInt8, (y.toNat : Int) = x := ⟨UInt8.ofNat x.toNat, by rw [UInt8.toNat_ofNat_of_lt' (by show x.toNat < 256; omega)]; omega⟩
      rw [show strOfNums [(y.toNat : Int)] = ⟨#[y]⟩ by simp [strOfNums]] at hW
      have HW := Lib.hid hW
      clear hW hw1
      have hy : ∀ h, (⟨#[y]⟩ : ByteArray)[0]'h = y := fun _ => rfl
      by_cases hlo : lo ≤ (y.toNat : Int)
      · have d1 : decide ((y.toNat : Int) < lo) = false := decide_eq_false (by omega)
        by_cases hhi : (y.toNat : Int) ≤ hi
        · have d2 : decide (hi < (y.toNat : Int)) = false := decide_eq_false (by omega)
          rw [if_pos ⟨hlo, hhi⟩]
          clear hlo hhi
          go_enter Tryz.func122, Tryz.ntmps122
          go_wp2_with (go_at_call 115; refine HW.out.mono ?_; rintro e5 w5 ⟨rfl, hR5, hO5⟩; obtain ⟨_, _, _, _, g5, _⟩ := hR5.cells; have HR5 := Lib.hid hR5)
          go_ret
          exact ⟨rfl, HR5.out, hO5⟩
        · have d2 : decide (hi < (y.toNat : Int)) = true := decide_eq_true (by omega)
          rw [if_neg (fun h => hhi h.2)]
          clear hlo hhi
          go_enter Tryz.func122, Tryz.ntmps122
          go_wp2_with (go_at_call 115; refine HW.out.mono ?_; rintro e5 w5 ⟨rfl, hR5, hO5⟩; obtain ⟨_, _, _, _, g5, _⟩ := hR5.cells; have HR5 := Lib.hid hR5)
          go_wp2_with (go_at_call 117; refine (HFL.out _ _ _ HR5.out).mono ?_; rintro e6 w6 ⟨rfl, hR6, hO6⟩)
          go_ret
          exact ⟨rfl, hR6, hO5.trans hO6⟩
      · have d1 : decide ((y.toNat : Int) < lo) = true := decide_eq_true (by omega)
        rw [if_neg (fun h => hlo h.1)]
        clear hlo
        go_enter Tryz.func122, Tryz.ntmps122
        go_wp2_with (go_at_call 115; refine HW.out.mono ?_; rintro e5 w5 ⟨rfl, hR5, hO5⟩; obtain ⟨_, _, _, _, g5, _⟩ := hR5.cells; have HR5 := Lib.hid hR5)
        go_wp2_with (go_at_call 117; refine (HFL.out _ _ _ HR5.out).mono ?_; rintro e6 w6 ⟨rfl, hR6, hO6⟩)
        go_ret
        exact ⟨rfl, hR6, hO5.trans hO6⟩
    · have hw1 : wbytes l 1 (p, 0) = (⟨#[]⟩, (p, 30)) := by unfold wbytes; rw [if_pos rfl, if_neg hn1]
      rw [hw1] at hW
      have HW := Lib.hid hW
      unfold wone
      rw [if_pos rfl, if_neg hn1]
      clear hW hw1 hl
      go_enter Tryz.func122, Tryz.ntmps122
      go_wp2_with (go_at_call 115; refine HW.out.mono ?_; rintro e5 w5 ⟨rfl, hR5, hO5⟩; obtain ⟨_, _, _, _, g5, _⟩ := hR5.cells; have HR5 := Lib.hid hR5)
      go_ret
      exact ⟨rfl, HR5.out, hO5⟩
  · have hw1 : wbytes l 1 (p, q) = (⟨#[]⟩, (p, q)) := if_neg hq
    rw [hw1] at hW
    have HW := Lib.hid hW
    have HQ := Lib.hid (show wone l lo hi (p, q) = (0, (p, q)) from if_neg hq)
    have d1 : (q != 0) = true := by simpa using hq
    rw [HQ.out]
    clear hW hw1 hl hq
    go_enter Tryz.func122, Tryz.ntmps122
    go_wp2_with (go_at_call 115; refine HW.out.mono ?_; rintro e5 w5 ⟨rfl, hR5, hO5⟩; obtain ⟨_, _, _, _, g5, _⟩ := hR5.cells; have g5 : w5.cell? ⟨g, 2, none⟩ = some (.int .i64 q) := g5; have HR5 := Lib.hid hR5)
    go_ret
    exact ⟨rfl, HR5.out, hO5⟩
end Go.Proofs.YtcfgmkmllcfjjaaGreatDoor
set_option linter.unusedVariables false
set_option linter.unusedSimpArgs false
namespace Go.Proofs.YtcfgmkmllcfjjaaGreatDoor
open Go.RowKit Go.Proofs.YtcfgmkmllcfjjaaGreatDoorW.PrintWords Go.Proofs.YtcfgmkmllcfjjaaGreatDoorW.PrintMore PImageAll
def minI : Int := -9223372036854775808
def maxI : Int := 9223372036854775807
def wvalue (l : List Int) (s : Ws) : S67 × Ws :=
  if (wone l 1 3 s).2.2 = 0 then
    (if (wone l 1 3 s).1 = 1 then (⟨1, (wnum l minI maxI (wone l 1 3 s).2).1, ⟨#[]⟩, false⟩, (wnum l minI maxI (wone l 1 3 s).2).2)
    else if (wone l 1 3 s).1 = 2 then (⟨2, 0, (wbytes l (wnum l 0 256 (wone l 1 3 s).2).1.toNat (wnum l 0 256 (wone l 1 3 s).2).2).1, false⟩, (wbytes l (wnum l 0 256 (wone l 1 3 s).2).1.toNat (wnum l 0 256 (wone l 1 3 s).2).2).2)
    else (⟨(wone l 1 3 s).1, 0, ⟨#[]⟩, (wone l 0 1 (wone l 1 3 s).2).1 == 1⟩, (wone l 0 1 (wone l 1 3 s).2).2))
  else (⟨0, 0, ⟨#[]⟩, false⟩, (wone l 1 3 s).2)
theorem wnum_rng {l : List Int} {lo hi : Int} (h0 : lo ≤ 0) (h1 : 0 ≤ hi) (s : Ws) : lo ≤ (wnum l lo hi s).1 ∧ (wnum l lo hi s).1 ≤ hi := by
  unfold wnum
  split
  · split
    · split
      · rename_i h; exact h
      · exact ⟨h0, h1⟩
    · exact ⟨h0, h1⟩
  · exact ⟨h0, h1⟩
theorem wone_rng {l : List Int} (hl : Bytes l) (lo hi : Int) (s : Ws) : 0 ≤ (wone l lo hi s).1 ∧ (wone l lo hi s).1 < 256 := by
  unfold wone
  split
  · split
    · rename_i h
      have hlt : s.1 < l.length := by omega
      show 0 ≤ (l.drop s.1).headD 0 ∧ (l.drop s.1).headD 0 < 256
      rw [List.drop_eq_getElem_cons hlt]
      exact hl _ (List.getElem_mem hlt)
    · exact ⟨show (0 : Int) ≤ 0 by decide, show (0 : Int) < 256 by decide⟩
  · exact ⟨show (0 : Int) ≤ 0 by decide, show (0 : Int) < 256 by decide⟩
def VBox (w : World) (b : Nat) (x : S67) : Prop := w.heap[b]? = some (.cells #[.int .i64 x.f0, .int .i64 x.f1, .string x.f2, .bool x.f3] 67 (0, 0))
theorem VBox.cells {w : World} {b : Nat} {x : S67} (h : VBox w b x) : w.cell? ⟨b, 0, none⟩ = some (.int .i64 x.f0) ∧ w.cell? ⟨b, 1, none⟩ = some (.int .i64 x.f1) ∧ w.cell? ⟨b, 2, none⟩ = some (.string x.f2) ∧ w.cell? ⟨b, 3, none⟩ = some (.bool x.f3) :=
  ⟨(blk_cell h 0).trans rfl, (blk_cell h 1).trans rfl, (blk_cell h 2).trans rfl, (blk_cell h 3).trans rfl⟩
theorem VBox.free {w : World} {b : Nat} {x : S67} (h : VBox w b x) : w.frozen? ⟨b, 0, none⟩ = false ∧ w.frozen? ⟨b, 1, none⟩ = false ∧ w.frozen? ⟨b, 2, none⟩ = false ∧ w.frozen? ⟨b, 3, none⟩ = false :=
  ⟨blk_frozen h 0, blk_frozen h 1, blk_frozen h 2, blk_frozen h 3⟩
theorem VBox.put {w : World} {b : Nat} {x : S67} (h : VBox w b x) (y : S67) : VBox ((((w.setCell ⟨b, 0, none⟩ (.int .i64 y.f0)).setCell ⟨b, 1, none⟩ (.int .i64 y.f1)).setCell ⟨b, 2, none⟩ (.string y.f2)).setCell ⟨b, 3, none⟩ (.bool y.f3)) b y :=
  (blk_set (blk_set (blk_set (blk_set h 0 _) 1 _) 2 _) 3 _).trans rfl
def VPost (w0 w : World) (g : Nat) (l : List Int) (x : S67) (s : Ws) (e : Ending) (w' : World) : Prop := WPost w0 w g l (.agg #[.int .i64 x.f0, .int .i64 x.f1, .string x.f2, .bool x.f3]) s e w'
theorem Ro.setNew {gr p i : Nat} {w w1 : World} (h : Ro gr w w1) (hp : w.heap.size ≤ p) (v : Value) : Ro gr w (w1.setCell ⟨p, i, none⟩ v) :=
  ⟨h.os, h.tape, h.output, Nat.le_trans h.size (by simp [World.setCell]), fun k hk hn => (Below.heap_setCell _ _ _ _ (fun e => by have e : k = p := e; omega)).trans (h.block k hk hn)⟩
theorem put4 {w0 w w' : World} {g p : Nat} {l : List Int} {s : Ws} (hR : WRAt w0 w' g l s) (hO : Ro g w w') (h0 : w0.heap.size ≤ w.heap.size) (hp : w.heap.size ≤ p) (hn : p ≠ g) (a b c d : Value) :
    WRAt w0 ((((w'.setCell ⟨p, 0, none⟩ a).setCell ⟨p, 1, none⟩ b).setCell ⟨p, 2, none⟩ c).setCell ⟨p, 3, none⟩ d) g l s ∧ Ro g w ((((w'.setCell ⟨p, 0, none⟩ a).setCell ⟨p, 1, none⟩ b).setCell ⟨p, 2, none⟩ c).setCell ⟨p, 3, none⟩ d) :=
  ⟨(((hR.far (by omega) hn a).far (by omega) hn b).far (by omega) hn c).far (by omega) hn d, (((hO.setNew hp a).setNew hp b).setNew hp c).setNew hp d⟩
set_option maxRecDepth 100000 in
set_option maxHeartbeats 4000000 in
theorem wvalue_any {w0 w : World} {g : Nat} {l : List Int} {s : Ws} (hR : WRAt w0 w g l s) (hl : Bytes l) (hm : l.length ≤ 4611686018427387904) :
    Calls Tryz.prog 118 #[.pointer (some ⟨g, 0, none⟩)] w (VPost w0 w g l (wvalue l s).1 (wvalue l s).2) := by
  generalize hW0 : w.alloc (.cells #[.int .i64 0, .int .i64 0, .string ⟨#[]⟩, .bool false] 67) = W0
  have HW0 := Lib.hid hW0
  have hb0 : Below w.heap.size w W0 := by rw [← hW0]; exact below_new w _
  have hz : VBox W0 w.heap.size ⟨0, 0, ⟨#[]⟩, false⟩ := by rw [← hW0]; exact blk_new w _
  have hR0 := hR.below hb0
  have hgw : g < w.heap.size := hR.lt
  have HRo := Lib.hid (Ro.of_below (gr := g) hb0)
  obtain ⟨hk0, hk1⟩ := wone_rng hl 1 3 s
  have hone := wone_any 1 3 hR0 hl hm
  have hv : wvalue l s = if (wone l 1 3 s).2.2 = 0 then
    (if (wone l 1 3 s).1 = 1 then (⟨1, (wnum l minI maxI (wone l 1 3 s).2).1, ⟨#[]⟩, false⟩, (wnum l minI maxI (wone l 1 3 s).2).2)
    else if (wone l 1 3 s).1 = 2 then (⟨2, 0, (wbytes l (wnum l 0 256 (wone l 1 3 s).2).1.toNat (wnum l 0 256 (wone l 1 3 s).2).2).1, false⟩, (wbytes l (wnum l 0 256 (wone l 1 3 s).2).1.toNat (wnum l 0 256 (wone l 1 3 s).2).2).2)
    else (⟨(wone l 1 3 s).1, 0, ⟨#[]⟩, (wone l 0 1 (wone l 1 3 s).2).1 == 1⟩, (wone l 0 1 (wone l 1 3 s).2).2))
    else (⟨0, 0, ⟨#[]⟩, false⟩, (wone l 1 3 s).2) := rfl
  generalize wone l 1 3 s = r at *
  obtain ⟨kb, s1⟩ := r
  obtain ⟨p1, q1⟩ := s1
  simp only at hk0 hk1 hone hv
  have HONE := Lib.hid hone
  have hzl := hR.1
  have HZ := Lib.hid hz
  clear hone hW0 hb0 hR hR0 hz
  generalize wvalue l s = R at *
  by_cases hq : q1 = 0
  · subst hq
    rw [if_pos rfl] at hv
    by_cases hk : kb = 1
    · subst hk
      rw [if_pos rfl] at hv
      have HN := Lib.hid (fun W hW => wnum_any (w0 := w0) (w := W) (g := g) (s := (p1, 0)) minI maxI hW hl hm)
      generalize wnum l minI maxI (p1, 0) = r at *
      obtain ⟨n, s2⟩ := r
      subst hv
      unfold minI maxI at HN
      clear hk0 hk1
      go_enter Tryz.func118, Tryz.ntmps118
      go_wp2_with fail
      rw [HW0.out]
      go_wp2_with fail
      refine HONE.out.mono ?_
      rintro e1 w1 ⟨rfl, hR1, hO1⟩
      have hz1 : VBox w1 w.heap.size ⟨0, 0, ⟨#[]⟩, false⟩ := Ro.blk hO1 HZ.out (by omega)
      have hb1 := below_new w1 (.cells #[.int .i64 1, .int .i64 0, .string ⟨#[]⟩, .bool false] 67)
      have hz2 : VBox _ w.heap.size ⟨0, 0, ⟨#[]⟩, false⟩ := blk_below hz1 hb1
      have hx2 : VBox (w1.alloc (.cells #[.int .i64 1, .int .i64 0, .string ⟨#[]⟩, .bool false] 67)) w1.heap.size ⟨1, 0, ⟨#[]⟩, false⟩ := blk_new w1 _
      have hne : w1.heap.size ≠ g := by have := hR1.lt; omega
      have hne2 : w.heap.size ≠ w1.heap.size := by have := blk_lt' hz1; omega
      have hsz : w.heap.size ≤ w1.heap.size := by have := blk_lt' hz1; omega
      obtain ⟨_, _, _, _, g5, _⟩ := (hR1.below hb1).cells
      have HR2 := Lib.hid (hR1.below hb1)
      have HO2 := Lib.hid (HRo.out.trans (hO1.trans (Ro.of_below hb1)))
      have g5 : (w1.alloc (.cells #[.int .i64 1, .int .i64 0, .string ⟨#[]⟩, .bool false] 67)).cell? ⟨g, 2, none⟩ = some (.int .i64 0) := g5
      have HZ2 := Lib.hid hz2
      have HX2 := Lib.hid hx2
      clear hR1 hO1 hz1 hb1 hz2 hx2
      go_wp2_with fail
      refine (HN.out _ HR2.out).mono ?_
      rintro e2 w2 ⟨rfl, hR3, hO3⟩
      have hz3 : VBox w2 w.heap.size ⟨0, 0, ⟨#[]⟩, false⟩ := Ro.blk hO3 HZ2.out (by omega)
      have hx3 : VBox w2 w1.heap.size ⟨1, 0, ⟨#[]⟩, false⟩ := Ro.blk hO3 HX2.out hne
      obtain ⟨y0, y1, y2, y3⟩ := hz3.cells
      obtain ⟨z0, z1, z2, z3⟩ := hz3.free
      obtain ⟨v0, v1, v2, v3⟩ := hx3.cells
      obtain ⟨_, u1, u2, u3⟩ := hx3.free
      have HR3 := Lib.hid (hR3.far (p := w1.heap.size) (i := 1) (by omega) hne (.int .i64 n))
      have HO3 := Lib.hid ((HO2.out.trans hO3).setNew (p := w1.heap.size) (i := 1) hsz (.int .i64 n))
      have hz4 : VBox (w2.setCell ⟨w1.heap.size, 1, none⟩ (.int .i64 n)) w.heap.size ⟨0, 0, ⟨#[]⟩, false⟩ := (Below.heap_setCell _ _ _ _ hne2).trans hz3
      have HZ4 := Lib.hid hz4
      clear hR3 hO3 hz3 hx3 hz4
      go_wp2_with fail
      have hP := put4 HR3.out HO3.out (by omega) (Nat.le_refl _) (by omega) (.int .i64 1) (.int .i64 n) (.string ⟨#[]⟩) (.bool false)
      refine bodyPost_ret (results_cell_row rfl _ _ w.heap.size 67 #[.int .i64 1, .int .i64 n, .string ⟨#[]⟩, .bool false] (0, 0) _ rfl (HZ4.out.put ⟨1, n, ⟨#[]⟩, false⟩) Tryz.underlying67 rfl (by kernel_rfl)) rfl ?_
      exact ⟨rfl, hP.1, hP.2⟩
    · rw [if_neg hk] at hv
      have e1 : (kb == 1) = false := by simpa using hk
      by_cases hk2 : kb = 2
      · subst hk2
        rw [if_pos rfl] at hv
        have HN := Lib.hid (fun W hW => wnum_any (w0 := w0) (w := W) (g := g) (s := (p1, 0)) 0 256 hW hl hm)
        obtain ⟨hn0, hn1⟩ := wnum_rng (l := l) (lo := 0) (hi := 256) (by decide) (by decide) (p1, 0)
        generalize wnum l 0 256 (p1, 0) = r at *
        obtain ⟨n, s2⟩ := r
        simp only at hn0 hn1 hv HN
        obtain ⟨n, rfl⟩ := Int.eq_ofNat_of_zero_le hn0
        rw [Int.toNat_natCast] at hv
        have HY := Lib.hid (fun W hW => wbytes_any (w0 := w0) (w := W) (g := g) (l := l) (s := s2) n hW (by omega) hm)
        generalize wbytes l n s2 = r at *
        obtain ⟨tx, s3⟩ := r
        simp only at hv
        subst hv
        clear hk0 hk1 hk e1
        go_enter Tryz.func118, Tryz.ntmps118
        go_wp2_with fail
        rw [HW0.out]
        go_wp2_with fail
        refine HONE.out.mono ?_
        rintro e1 w1 ⟨rfl, hR1, hO1⟩
        have hz1 : VBox w1 w.heap.size ⟨0, 0, ⟨#[]⟩, false⟩ := Ro.blk hO1 HZ.out (by omega)
        have hb1 := below_new w1 (.cells #[.int .i64 2, .int .i64 0, .string ⟨#[]⟩, .bool false] 67)
        have hz2 : VBox _ w.heap.size ⟨0, 0, ⟨#[]⟩, false⟩ := blk_below hz1 hb1
        have hx2 : VBox (w1.alloc (.cells #[.int .i64 2, .int .i64 0, .string ⟨#[]⟩, .bool false] 67)) w1.heap.size ⟨2, 0, ⟨#[]⟩, false⟩ := blk_new w1 _
        have hne : w1.heap.size ≠ g := by have := hR1.lt; omega
        have hne2 : w.heap.size ≠ w1.heap.size := by have := blk_lt' hz1; omega
        have hsz : w.heap.size ≤ w1.heap.size := by have := blk_lt' hz1; omega
        obtain ⟨_, _, _, _, g5, _⟩ := (hR1.below hb1).cells
        have HR2 := Lib.hid (hR1.below hb1)
        have HO2 := Lib.hid (HRo.out.trans (hO1.trans (Ro.of_below hb1)))
        have g5 : (w1.alloc (.cells #[.int .i64 2, .int .i64 0, .string ⟨#[]⟩, .bool false] 67)).cell? ⟨g, 2, none⟩ = some (.int .i64 0) := g5
        have HZ2 := Lib.hid hz2
        have HX2 := Lib.hid hx2
        clear hR1 hO1 hz1 hb1 hz2 hx2
        go_wp2_with fail
        refine (HN.out _ HR2.out).mono ?_
        rintro e2 wm ⟨rfl, hRm, hOm⟩
        have HRm := Lib.hid hRm
        have HOm := Lib.hid hOm
        clear hRm hOm
        go_wp2_with fail
        refine (HY.out _ HRm.out).mono ?_
        rintro e2 w2 ⟨rfl, hR3, hO3'⟩
        have hO3 := HOm.out.trans hO3'
        have hz3 : VBox w2 w.heap.size ⟨0, 0, ⟨#[]⟩, false⟩ := Ro.blk hO3 HZ2.out (by omega)
        have hx3 : VBox w2 w1.heap.size ⟨2, 0, ⟨#[]⟩, false⟩ := Ro.blk hO3 HX2.out hne
        obtain ⟨y0, y1, y2, y3⟩ := hz3.cells
        obtain ⟨z0, z1, z2, z3⟩ := hz3.free
        obtain ⟨v0, v1, v2, v3⟩ := hx3.cells
        obtain ⟨_, u1, u2, u3⟩ := hx3.free
        have HR3 := Lib.hid (hR3.far (p := w1.heap.size) (i := 2) (by omega) hne (.string tx))
        have HO3 := Lib.hid ((HO2.out.trans hO3).setNew (p := w1.heap.size) (i := 2) hsz (.string tx))
        have hz4 : VBox (w2.setCell ⟨w1.heap.size, 2, none⟩ (.string tx)) w.heap.size ⟨0, 0, ⟨#[]⟩, false⟩ := (Below.heap_setCell _ _ _ _ hne2).trans hz3
        have HZ4 := Lib.hid hz4
        clear hR3 hO3 hz3 hx3 hz4
        go_wp2_with fail
        have hP := put4 HR3.out HO3.out (by omega) (Nat.le_refl _) (by omega) (.int .i64 2) (.int .i64 0) (.string tx) (.bool false)
        refine bodyPost_ret (results_cell_row rfl _ _ w.heap.size 67 #[.int .i64 2, .int .i64 0, .string tx, .bool false] (0, 0) _ rfl (HZ4.out.put ⟨2, 0, tx, false⟩) Tryz.underlying67 rfl (by kernel_rfl)) rfl ?_
        exact ⟨rfl, hP.1, hP.2⟩
      · rw [if_neg hk2] at hv
        have e2 : (kb == 2) = false := by simpa using hk2
        have HN := Lib.hid (fun W hW => wone_any (w0 := w0) (w := W) (g := g) (s := (p1, 0)) 0 1 hW hl hm)
        generalize wone l 0 1 (p1, 0) = r at *
        obtain ⟨n, s2⟩ := r
        simp only at hv
        subst hv
        clear hk hk2
        go_enter Tryz.func118, Tryz.ntmps118
        go_wp2_with fail
        rw [HW0.out]
        go_wp2_with fail
        refine HONE.out.mono ?_
        rintro e1 w1 ⟨rfl, hR1, hO1⟩
        have hz1 : VBox w1 w.heap.size ⟨0, 0, ⟨#[]⟩, false⟩ := Ro.blk hO1 HZ.out (by omega)
        have hb1 := below_new w1 (.cells #[.int .i64 kb, .int .i64 0, .string ⟨#[]⟩, .bool false] 67)
        have hz2 : VBox _ w.heap.size ⟨0, 0, ⟨#[]⟩, false⟩ := blk_below hz1 hb1
        have hx2 : VBox (w1.alloc (.cells #[.int .i64 kb, .int .i64 0, .string ⟨#[]⟩, .bool false] 67)) w1.heap.size ⟨kb, 0, ⟨#[]⟩, false⟩ := blk_new w1 _
        have hne : w1.heap.size ≠ g := by have := hR1.lt; omega
        have hne2 : w.heap.size ≠ w1.heap.size := by have := blk_lt' hz1; omega
        have hsz : w.heap.size ≤ w1.heap.size := by have := blk_lt' hz1; omega
        obtain ⟨_, _, _, _, g5, _⟩ := (hR1.below hb1).cells
        have HR2 := Lib.hid (hR1.below hb1)
        have HO2 := Lib.hid (HRo.out.trans (hO1.trans (Ro.of_below hb1)))
        have g5 : (w1.alloc (.cells #[.int .i64 kb, .int .i64 0, .string ⟨#[]⟩, .bool false] 67)).cell? ⟨g, 2, none⟩ = some (.int .i64 0) := g5
        have HZ2 := Lib.hid hz2
        have HX2 := Lib.hid hx2
        clear hR1 hO1 hz1 hb1 hz2 hx2
        go_wp2_with fail
        refine (HN.out _ HR2.out).mono ?_
        rintro e2 w2 ⟨rfl, hR3, hO3⟩
        have hz3 : VBox w2 w.heap.size ⟨0, 0, ⟨#[]⟩, false⟩ := Ro.blk hO3 HZ2.out (by omega)
        have hx3 : VBox w2 w1.heap.size ⟨kb, 0, ⟨#[]⟩, false⟩ := Ro.blk hO3 HX2.out hne
        obtain ⟨y0, y1, y2, y3⟩ := hz3.cells
        obtain ⟨z0, z1, z2, z3⟩ := hz3.free
        obtain ⟨v0, v1, v2, v3⟩ := hx3.cells
        obtain ⟨_, u1, u2, u3⟩ := hx3.free
        have HR3 := Lib.hid (hR3.far (p := w1.heap.size) (i := 3) (by omega) hne (.bool (n == 1)))
        have HO3 := Lib.hid ((HO2.out.trans hO3).setNew (p := w1.heap.size) (i := 3) hsz (.bool (n == 1)))
        have hz4 : VBox (w2.setCell ⟨w1.heap.size, 3, none⟩ (.bool (n == 1))) w.heap.size ⟨0, 0, ⟨#[]⟩, false⟩ := (Below.heap_setCell _ _ _ _ hne2).trans hz3
        have HZ4 := Lib.hid hz4
        clear hR3 hO3 hz3 hx3 hz4
        go_wp2_with fail
        have hP := put4 HR3.out HO3.out (by omega) (Nat.le_refl _) (by omega) (.int .i64 kb) (.int .i64 0) (.string ⟨#[]⟩) (.bool (n == 1))
        refine bodyPost_ret (results_cell_row rfl _ _ w.heap.size 67 #[.int .i64 kb, .int .i64 0, .string ⟨#[]⟩, .bool (n == 1)] (0, 0) _ rfl (HZ4.out.put ⟨kb, 0, ⟨#[]⟩, (n == 1)⟩) Tryz.underlying67 rfl (by kernel_rfl)) rfl ?_
        exact ⟨rfl, hP.1, hP.2⟩
  · rw [if_neg hq] at hv
    subst hv
    have d1 : (q1 != 0) = true := by simpa using hq
    clear hq
    go_enter Tryz.func118, Tryz.ntmps118
    go_wp2_with fail
    rw [HW0.out]
    go_wp2_with fail
    refine HONE.out.mono ?_
    rintro e1 w1 ⟨rfl, hR1, hO1⟩
    have hz1 : VBox w1 w.heap.size ⟨0, 0, ⟨#[]⟩, false⟩ := Ro.blk hO1 HZ.out (by omega)
    have hb1 := below_new w1 (.cells #[.int .i64 kb, .int .i64 0, .string ⟨#[]⟩, .bool false] 67)
    have hz2 : VBox _ w.heap.size ⟨0, 0, ⟨#[]⟩, false⟩ := blk_below hz1 hb1
    have hx2 : VBox (w1.alloc (.cells #[.int .i64 kb, .int .i64 0, .string ⟨#[]⟩, .bool false] 67)) w1.heap.size ⟨kb, 0, ⟨#[]⟩, false⟩ := blk_new w1 _
    have hne : w1.heap.size ≠ g := by have := hR1.lt; omega
    have hne2 : w.heap.size ≠ w1.heap.size := by have := blk_lt' hz1; omega
    have hsz : w.heap.size ≤ w1.heap.size := by have := blk_lt' hz1; omega
    obtain ⟨_, _, _, _, g5, _⟩ := (hR1.below hb1).cells
    have HR2 := Lib.hid (hR1.below hb1)
    have HO2 := Lib.hid (HRo.out.trans (hO1.trans (Ro.of_below hb1)))
    have g5 : (w1.alloc (.cells #[.int .i64 kb, .int .i64 0, .string ⟨#[]⟩, .bool false] 67)).cell? ⟨g, 2, none⟩ = some (.int .i64 q1) := g5
    have HZ2 := Lib.hid hz2
    have HX2 := Lib.hid hx2
    obtain ⟨y0, y1, y2, y3⟩ := hz2.cells
    obtain ⟨z0, z1, z2, z3⟩ := hz2.free
    have HR3 := HR2
    have HO3 := HO2
    have HZ4 := HZ2
    clear hR1 hO1 hz1 hb1 hz2 hx2
    go_wp2_with fail
    have hP := put4 HR3.out HO3.out (by omega) (Nat.le_refl _) (by omega) (.int .i64 0) (.int .i64 0) (.string ⟨#[]⟩) (.bool false)
    refine bodyPost_ret (results_cell_row rfl _ _ w.heap.size 67 #[.int .i64 0, .int .i64 0, .string ⟨#[]⟩, .bool false] (0, 0) _ rfl (HZ4.out.put ⟨0, 0, ⟨#[]⟩, false⟩) Tryz.underlying67 rfl (by kernel_rfl)) rfl ?_
    exact ⟨rfl, hP.1, hP.2⟩
end Go.Proofs.YtcfgmkmllcfjjaaGreatDoor
