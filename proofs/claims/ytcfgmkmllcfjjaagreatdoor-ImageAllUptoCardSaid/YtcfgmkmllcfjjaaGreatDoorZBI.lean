import Derived.Test.YtcfgmkmllcfjjaaGreatDoorZBH
import Derived.Test.YtcfgmkmllcfjjaaGreatDoorZAS
set_option linter.unusedVariables false
set_option linter.unusedSimpArgs false
namespace Go.Proofs.YtcfgmkmllcfjjaaGreatDoor
open Go.RowKit Go.Proofs.YtcfgmkmllcfjjaaGreatDoorW.PrintWords Go.Proofs.YtcfgmkmllcfjjaaGreatDoorW.PrintMore PImageAll
abbrev Us := Nat × Bool
def URAt (w0 w : World) (g : Nat) (l : List Int) (s : Us) : Prop :=
  w0.heap.size ≤ g ∧ Below w0.heap.size w0 w ∧ s.1 ≤ l.length ∧ ∃ A c, w.heap[g]? = some (.cells #[.slice A l.length c, .int .i64 (s.1 : Int), .bool s.2] 88 (0, 0)) ∧ l.length ≤ c ∧ Kd.C (Kd.int .u8) w0 A l.length l
namespace URAt
variable {w0 w w' : World} {g : Nat} {l : List Int} {s : Us}
theorem below (h : URAt w0 w g l s) (hB : Below w.heap.size w w') : URAt w0 w' g l s := by
  obtain ⟨h1, h2, h4, A, c, hb, h3⟩ := h
  exact ⟨h1, h2.trans (hB.mono h2.size), h4, A, c, blk_below hb hB, h3⟩
theorem lt (h : URAt w0 w g l s) : g < w.heap.size := by
  obtain ⟨_, _, _, A, c, hb, _⟩ := h
  exact blk_lt' hb
theorem neq {k : Nat} {cs : Array Value} {t : TypeId} (h : URAt w0 w g l s) (hg : w.heap[k]? = some (.cells cs t (0, 0))) (ht : t ≠ 88) : k ≠ g := by
  obtain ⟨_, _, _, A, c, hb, _⟩ := h
  exact blk_ne hg hb ht
theorem far (h : URAt w0 w g l s) {p i : Nat} (hp : w0.heap.size ≤ p) (hn : p ≠ g) (v : Value) : URAt w0 (w.setCell ⟨p, i, none⟩ v) g l s := by
  obtain ⟨h1, h2, h4, A, c, hb, h3⟩ := h
  exact ⟨h1, h2.setCell hp v, h4, A, c, (Below.heap_setCell _ _ _ _ (fun e => hn e.symm)).trans hb, h3⟩
theorem drewN (h : URAt w0 w g l s) (n : Nat) : URAt w0 (w.drewN n) g l s := h.below (pw_below_drewN (Below.refl _ _) n)
theorem setAt (h : URAt w0 w g l s) (k : Nat) (hk : k ≤ l.length) : URAt w0 (w.setCell ⟨g, 1, none⟩ (.int .i64 (k : Int))) g l (k, s.2) := by
  obtain ⟨h1, h2, h4, A, c, hb, h3⟩ := h
  exact ⟨h1, h2.setCell h1 _, hk, A, c, (blk_set hb 1 (.int .i64 (k : Int))).trans rfl, h3⟩
theorem setBad (h : URAt w0 w g l s) (k : Bool) : URAt w0 (w.setCell ⟨g, 2, none⟩ (.bool k)) g l (s.1, k) := by
  obtain ⟨h1, h2, h4, A, c, hb, h3⟩ := h
  exact ⟨h1, h2.setCell h1 _, h4, A, c, (blk_set hb 2 (.bool k)).trans rfl, h3⟩
theorem cells (h : URAt w0 w g l s) : ∃ A c, w.cell? ⟨g, 0, none⟩ = some (.slice A l.length c) ∧ w.cell? ⟨g, 1, none⟩ = some (.int .i64 (s.1 : Int)) ∧ w.cell? ⟨g, 2, none⟩ = some (.bool s.2) ∧ w.frozen? ⟨g, 1, none⟩ = false ∧ w.frozen? ⟨g, 2, none⟩ = false ∧ l.length ≤ c ∧ Kd.C (Kd.int .u8) w0 A l.length l := by
  obtain ⟨h1, h2, h4, A, c, hb, h3, h5⟩ := h
  exact ⟨A, c, (blk_cell hb 0).trans rfl, (blk_cell hb 1).trans rfl, (blk_cell hb 2).trans rfl, blk_frozen hb 1, blk_frozen hb 2, h3, h5⟩
end URAt
def UPost (w0 w : World) (g : Nat) (l : List Int) (v : Value) (s : Us) (e : Ending) (w' : World) : Prop := e = .returned v ∧ URAt w0 w' g l s ∧ Ro g w w'
def unum (l : List Int) (s : Us) : Int × Us :=
  if s.2 = true then (0, s) else (if (rIntF (l.drop s.1)).2.2 = 0 then ((rIntF (l.drop s.1)).1, (s.1 + (rIntF (l.drop s.1)).2.1.toNat, false)) else (0, (s.1, true)))
theorem unum_I64 {l : List Int} (hm : l.length ≤ 4611686018427387904) (s : Us) : I64 (unum l s).1 := by
  obtain ⟨v, e, n, _, hF, hv, _⟩ := rIntF_any (l := l.drop s.1) (by rw [List.length_drop]; omega)
  unfold unum
  rw [hF]
  split
  · exact z_I64
  · split
    · exact hv
    · exact z_I64
set_option maxRecDepth 100000 in
set_option maxHeartbeats 4000000 in
theorem unum_any {w0 w : World} {g : Nat} {l : List Int} {s : Us} (hR : URAt w0 w g l s) (hm : l.length ≤ 4611686018427387904) :
    Calls Tryz.prog 61 #[.pointer (some ⟨g, 0, none⟩)] w (UPost w0 w g l (.int .i64 (unum l s).1) (unum l s).2) := by
  obtain ⟨p, q⟩ := s
  obtain ⟨A, c, g0, g1, g2, f1, f2, hc, hC⟩ := hR.cells
  have g1 : w.cell? ⟨g, 1, none⟩ = some (.int .i64 (p : Int)) := g1
  have g2 : w.cell? ⟨g, 2, none⟩ = some (.bool q) := g2
  have hp : p ≤ l.length := hR.2.2.1
  have HR := Lib.hid hR
  cases q
  · obtain ⟨i0, hi0, hzz⟩ := Option.map_eq_some_iff.1 info5
    simp only [Prod.mk.injEq] at hzz
    obtain ⟨hz0, hz1, hz2⟩ := hzz
    have hf := cut_from (P := Tryz.prog) 33 5 .i64 Tryz.underlying33 hi0 1 hz1 A l.length c (p : Int) (by omega) (by omega)
    rw [Int.toNat_natCast] at hf
    have hd : (l.drop p).length = l.length - p := List.length_drop
    obtain ⟨v, e, n, hfi, hF, hv, hen⟩ := rIntF_any (l := l.drop p) (by rw [hd]; omega)
    have HI := Lib.hid (show ∀ W, Below w.heap.size w W → Calls Tryz.prog 99 #[.slice (if c = p then A else A.map (·.add (p * 1))) (l.length - p) (c - p)] W fun e' w' => e' = .returned (.tuple #[.int .i64 v, .int .i64 (n : Int), .int .i64 e]) ∧ Below W.heap.size W w' from fun W hW => by
      have := qa0.calls 80 _ (c - p) (l.drop p) v n e W (Kd.C_below (Kd.C_below (Kd.C_drop hC hp hc) hR.2.1) hW) (by rw [hd]; omega) hfi
      rw [hd] at this
      exact this)
    have HKeep := Lib.hid (fun w' (h : Below w.heap.size w w') => show w'.cell? ⟨g, 0, none⟩ = some (.slice A l.length c) ∧ w'.cell? ⟨g, 1, none⟩ = some (.int .i64 (p : Int)) from ⟨pw_cell_below h g0, pw_cell_below h g1⟩)
    have hw1 : unum l (p, false) = if e = 0 then (v, (p + n, false)) else (0, (p, true)) := by
      unfold unum
      rw [if_neg (by simp), hF]
      simp only [Int.toNat_natCast]
    rw [hw1]
    have hpn : n ≤ l.length - p := by
      rcases hen with h | h
      · rw [hd] at h; exact h.2.2
      · omega
    generalize (if c = p then A else A.map (·.add (p * 1))) = A1 at *
    have HPN := Lib.hid hpn
    clear hC hc hR hd hF hfi hi0 hz0 hz1 hz2 hw1 hen
    have k1 : (0 : Int) ≤ (p : Int) := by omega
    have k2 : (p : Int) ≤ l.length := by omega
    have hw : wrap64 ((p : Int) + (n : Int)) = (p : Int) + (n : Int) := by unfold wrap64; omega
    by_cases he : e = 0
    · subst he
      rw [if_pos rfl]
      go_enter Tryz.func61, Tryz.ntmps61
      go_wp2_with fail
      go_region_held3 (fun w' => w'.cell? ⟨g, 0, none⟩ = some (.slice A l.length c) ∧ w'.cell? ⟨g, 1, none⟩ = some (.int .i64 (p : Int))) (first | exact HKeep.out _ (below_drew (Below.refl _ _)) | exact HKeep.out _ HBX.out) (first | ((go_at_call 99; refine (HI.out _ (below_drew (Below.refl _ _))).mono ?_; rintro e3 w3 ⟨rfl, hB3⟩; have HBX := Lib.hid (below_step (below_drew (Below.refl _ _)) hB3))))
      obtain ⟨y0, y1⟩ := HKeep.out _ HBX.out
      have yf := (HR.out.below HBX.out).cells
      obtain ⟨_, _, _, _, y2, yf1, yf2, _, _⟩ := yf
      go_wp2_with fail
      go_ret
      exact ⟨rfl, (by have h := (HR.out.below HBX.out).setAt (p + n) (by have := HPN.out; omega); rw [Int.natCast_add] at h; exact h), (Ro.of_below HBX.out).trans (Ro.set (w := w3) (gr := g) 1 _)⟩
    · rw [if_neg he]
      have d1 : (e != 0) = true := by simpa using he
      clear he
      go_enter Tryz.func61, Tryz.ntmps61
      go_wp2_with fail
      go_region_held3 (fun w' => w'.cell? ⟨g, 0, none⟩ = some (.slice A l.length c) ∧ w'.cell? ⟨g, 1, none⟩ = some (.int .i64 (p : Int))) (first | exact HKeep.out _ (below_drew (Below.refl _ _)) | exact HKeep.out _ HBX.out) (first | ((go_at_call 99; refine (HI.out _ (below_drew (Below.refl _ _))).mono ?_; rintro e3 w3 ⟨rfl, hB3⟩; have HBX := Lib.hid (below_step (below_drew (Below.refl _ _)) hB3))))
      obtain ⟨y0, y1⟩ := HKeep.out _ HBX.out
      have yf := (HR.out.below HBX.out).cells
      obtain ⟨_, _, _, _, y2, yf1, yf2, _, _⟩ := yf
      go_wp2_with fail
      go_ret
      exact ⟨rfl, (HR.out.below HBX.out).setBad true, (Ro.of_below HBX.out).trans (Ro.set (w := w3) (gr := g) 2 _)⟩
  · have HQ := Lib.hid (show unum l (p, true) = (0, (p, true)) from if_pos rfl)
    clear hC
    rw [HQ.out]
    go_enter Tryz.func61, Tryz.ntmps61
    go_wp2_with fail
    go_ret
    exact ⟨rfl, HR.out, Ro.refl⟩
def ucount (l : List Int) (most : Int) (s : Us) : Int × Us :=
  if (unum l s).1 < 0 ∨ most < (unum l s).1 then (0, ((unum l s).2.1, true)) else unum l s
set_option maxRecDepth 100000 in
set_option maxHeartbeats 4000000 in
theorem ucount_any {w0 w : World} {g : Nat} {l : List Int} {s : Us} (most : Int) (hR : URAt w0 w g l s) (hm : l.length ≤ 4611686018427387904) :
    Calls Tryz.prog 62 #[.pointer (some ⟨g, 0, none⟩), .int .i64 most] w (UPost w0 w g l (.int .i64 (ucount l most s).1) (ucount l most s).2) := by
  have HN := Lib.hid (unum_any hR hm)
  have HU := Lib.hid (show ucount l most s = if (unum l s).1 < 0 ∨ most < (unum l s).1 then (0, ((unum l s).2.1, true)) else unum l s from rfl)
  generalize ucount l most s = T at *
  generalize unum l s = r at *
  obtain ⟨n, p, q⟩ := r
  clear hR
  by_cases h1 : n < 0
  · have hT : T = (0, (p, true)) := HU.out.trans (if_pos (.inl h1))
    subst hT
    have d1 : decide (n < 0) = true := decide_eq_true h1
    clear HU h1
    go_enter Tryz.func62, Tryz.ntmps62
    go_wp2_with (go_at_call 61; refine HN.out.mono ?_; rintro e1 w1 ⟨rfl, hR1, hO1⟩; have HR1 := Lib.hid hR1; have HO1 := Lib.hid hO1; obtain ⟨_, _, _, _, y2, _, z2, _⟩ := hR1.cells; clear hR1 hO1)
    go_ret
    exact ⟨rfl, HR1.out.setBad true, HO1.out.trans (Ro.set 2 _)⟩
  · have d1 : decide (n < 0) = false := decide_eq_false h1
    by_cases h2 : most < n
    · have hT : T = (0, (p, true)) := HU.out.trans (if_pos (.inr h2))
      subst hT
      have d2 : decide (most < n) = true := decide_eq_true h2
      clear HU h1 h2
      go_enter Tryz.func62, Tryz.ntmps62
      go_wp2_with (go_at_call 61; refine HN.out.mono ?_; rintro e1 w1 ⟨rfl, hR1, hO1⟩; have HR1 := Lib.hid hR1; have HO1 := Lib.hid hO1; obtain ⟨_, _, _, _, y2, _, z2, _⟩ := hR1.cells; clear hR1 hO1)
      go_ret
      exact ⟨rfl, HR1.out.setBad true, HO1.out.trans (Ro.set 2 _)⟩
    · have hT : T = (n, (p, q)) := HU.out.trans (if_neg (fun h => h.elim h1 h2))
      subst hT
      have d2 : decide (most < n) = false := decide_eq_false h2
      clear HU h1 h2
      go_enter Tryz.func62, Tryz.ntmps62
      go_wp2_with (go_at_call 61; refine HN.out.mono ?_; rintro e1 w1 ⟨rfl, hR1, hO1⟩; have HR1 := Lib.hid hR1; have HO1 := Lib.hid hO1; clear hR1 hO1)
      go_ret
      exact ⟨rfl, HR1.out, HO1.out⟩
def uone (l : List Int) (s : Us) : Int × Us :=
  if s.2 = true ∨ s.1 = l.length then (0, (s.1, true)) else ((l.drop s.1).headD 0, (s.1 + 1, false))
theorem uone_rng {l : List Int} (hl : Bytes l) (s : Us) (hs : s.1 ≤ l.length) : 0 ≤ (uone l s).1 ∧ (uone l s).1 < 256 := by
  unfold uone
  split
  · exact ⟨show (0 : Int) ≤ 0 by decide, show (0 : Int) < 256 by decide⟩
  · rename_i h
    have hlt : s.1 < l.length := by
      have : ¬ s.1 = l.length := fun e => h (.inr e)
      omega
    show 0 ≤ (l.drop s.1).headD 0 ∧ (l.drop s.1).headD 0 < 256
    rw [List.drop_eq_getElem_cons hlt]
    exact hl _ (List.getElem_mem hlt)
set_option maxRecDepth 100000 in
set_option maxHeartbeats 4000000 in
theorem uone_any {w0 w : World} {g : Nat} {l : List Int} {s : Us} (hR : URAt w0 w g l s) (hm : l.length ≤ 4611686018427387904) :
    Calls Tryz.prog 60 #[.pointer (some ⟨g, 0, none⟩)] w (UPost w0 w g l (.int .u8 (uone l s).1) (uone l s).2) := by
  obtain ⟨p, q⟩ := s
  obtain ⟨A, c, g0, g1, g2, f1, f2, hc, hC⟩ := hR.cells
  have g1 : w.cell? ⟨g, 1, none⟩ = some (.int .i64 (p : Int)) := g1
  have g2 : w.cell? ⟨g, 2, none⟩ = some (.bool q) := g2
  have hp : p ≤ l.length := hR.2.2.1
  have HR := Lib.hid hR
  cases q
  · by_cases he : p = l.length
    · have d1 : ((p : Int) == (l.length : Int)) = true := by simp [he]
      have HQ := Lib.hid (show uone l (p, false) = (0, (p, true)) from if_pos (.inr he))
      rw [HQ.out]
      clear he hC
      go_enter Tryz.func60, Tryz.ntmps60
      go_wp2_with fail
      first | go_quiet (fail) | fail
      go_wp2_with fail
      go_ret
      exact ⟨rfl, (HR.out.drewN _).setBad true, (Ro.refl.drewN _).trans (Ro.set 2 _)⟩
    · have d1 : ((p : Int) == (l.length : Int)) = false := by simp; omega
      have hlt : p < l.length := by omega
      have HQ := Lib.hid (show uone l (p, false) = (l[p], (p + 1, false)) from by unfold uone; rw [if_neg (fun h => h.elim (by simp) he), List.drop_eq_getElem_cons hlt]; rfl)
      rw [HQ.out]
      obtain ⟨ad, rfl, hx⟩ := Kd.at_int hC (p : Int) (by omega) (by omega)
      rw [rd_get hlt, Int.toNat_natCast] at hx
      generalize l[p] = x at *
      have HX := Lib.hid hx
      have k1 : (0 : Int) ≤ (p : Int) := by omega
      have k2 : (p : Int) < l.length := by omega
      have k3 : wrap64 ((p : Int) + 1) = (p : Int) + 1 := by unfold wrap64; omega
      have k4 : IntKind.i64.wrap (p : Int) = (p : Int) := IntWalk.i64_in _ (by omega)
      have k5 : IntKind.i64.wrap ((p : Int) + 1 - 1) = (p : Int) := by rw [show (p : Int) + 1 - 1 = (p : Int) by omega]; exact IntWalk.i64_in _ (by omega)
      clear he hC hx
      go_enter Tryz.func60, Tryz.ntmps60
      go_wp2_with fail
      first | go_quiet (fail) | fail
      go_upto_region 5 with fail
      have HR4 := Lib.hid (show URAt w0 ((w.drewN nq).setCell ⟨g, 1, none⟩ (.int .i64 ((p : Int) + 1))) g l (p + 1, false) from (by have h := (HR.out.drewN nq).setAt (p + 1) (by omega); rw [Int.natCast_add] at h; exact h))
      have HO4 := Lib.hid ((Ro.refl.drewN nq).trans (Ro.set (w := w.drewN nq) (gr := g) 1 (.int .i64 ((p : Int) + 1))))
      have e0 : ((w.drewN nq).setCell ⟨g, 1, none⟩ (.int .i64 ((p : Int) + 1))).cell? ⟨g, 0, none⟩ = some (.slice (some ad) l.length c) := by go_simp
      have e1 : ((w.drewN nq).setCell ⟨g, 1, none⟩ (.int .i64 ((p : Int) + 1))).cell? ⟨g, 1, none⟩ = some (.int .i64 ((p : Int) + 1)) := by go_simp
      generalize (w.drewN nq).setCell ⟨g, 1, none⟩ (.int .i64 ((p : Int) + 1)) = w4 at *
      have hx := pw_cell_below HR4.out.2.1 HX.out
      clear g0 g1 g2 f1 f2
      first | go_quiet (fail) | fail
      go_wp2_with fail
      go_ret
      exact ⟨rfl, HR4.out.drewN _, HO4.out.drewN _⟩
  · have HQ := Lib.hid (show uone l (p, true) = (0, (p, true)) from if_pos (.inl rfl))
    rw [HQ.out]
    clear hC
    go_enter Tryz.func60, Tryz.ntmps60
    go_wp2_with fail
    first | go_quiet (fail) | fail
    go_wp2_with fail
    go_ret
    exact ⟨rfl, (HR.out.drewN _).setBad true, (Ro.refl.drewN _).trans (Ro.set 2 _)⟩
end Go.Proofs.YtcfgmkmllcfjjaaGreatDoor
set_option linter.unusedVariables false
set_option linter.unusedSimpArgs false
namespace Go.Proofs.YtcfgmkmllcfjjaaGreatDoor
open Go.RowKit Go.Proofs.YtcfgmkmllcfjjaaGreatDoorW.PrintWords Go.Proofs.YtcfgmkmllcfjjaaGreatDoorW.PrintMore PImageAll
theorem ucount_rng {l : List Int} {most : Int} (h : 0 ≤ most) (s : Us) : 0 ≤ (ucount l most s).1 ∧ (ucount l most s).1 ≤ most := by
  unfold ucount
  split
  · exact ⟨Int.le_refl _, h⟩
  · rename_i h1
    have h2 : ¬ (unum l s).1 < 0 := fun e => h1 (.inl e)
    have h3 : ¬ most < (unum l s).1 := fun e => h1 (.inr e)
    exact ⟨by omega, by omega⟩
def utext (l : List Int) (s : Us) : ByteArray × Us :=
  if (ucount l l.length s).2.2 = true ∨ l.length - (ucount l l.length s).2.1 < (ucount l l.length s).1.toNat then (⟨#[]⟩, ((ucount l l.length s).2.1, true)) else (strOfNums ((l.drop (ucount l l.length s).2.1).take (ucount l l.length s).1.toNat), ((ucount l l.length s).2.1 + (ucount l l.length s).1.toNat, false))
set_option maxRecDepth 100000 in
set_option maxHeartbeats 4000000 in
theorem utext_any {w0 w : World} {g : Nat} {l : List Int} {s : Us} (hR : URAt w0 w g l s) (hm : l.length ≤ 4611686018427387904) :
    Calls Tryz.prog 63 #[.pointer (some ⟨g, 0, none⟩)] w (UPost w0 w g l (.string (utext l s).1) (utext l s).2) := by
  have HN := Lib.hid (ucount_any (l.length : Int) hR hm)
  obtain ⟨hr0, hr1⟩ := ucount_rng (l := l) (most := (l.length : Int)) (by omega) s
  have HQT := Lib.hid (show utext l s = if (ucount l l.length s).2.2 = true ∨ l.length - (ucount l l.length s).2.1 < (ucount l l.length s).1.toNat then (⟨#[]⟩, ((ucount l l.length s).2.1, true)) else (strOfNums ((l.drop (ucount l l.length s).2.1).take (ucount l l.length s).1.toNat), ((ucount l l.length s).2.1 + (ucount l l.length s).1.toNat, false)) from rfl)
  generalize utext l s = T at *
  generalize ucount l (l.length : Int) s = r at *
  obtain ⟨nn, p, q⟩ := r
  simp only at hr0 hr1
  obtain ⟨n, rfl⟩ := Int.eq_ofNat_of_zero_le hr0
  have hT := HQT.out
  simp only [Int.toNat_natCast] at hT
  have HT := Lib.hid hT
  have HN : Hid (Calls Tryz.prog 62 #[.pointer (some ⟨g, 0, none⟩), .int .i64 (l.length : Int)] w (UPost w0 w g l (.int .i64 (n : Int)) (p, q))) := HN
  obtain ⟨_, _, g00, _⟩ := hR.cells
  have hn : n ≤ l.length := by omega
  clear hT HQT hR hr0 hr1
  go_enter Tryz.func63, Tryz.ntmps63
  go_upto_region 2 with (go_at_call 62; refine HN.out.mono ?_; rintro e1 w1 ⟨rfl, hR1, hO1⟩; have HO1 := Lib.hid hO1; have HR1 := Lib.hid hR1; clear hO1)
  obtain ⟨A, c, g0, g1, g2, f1, f2, hc, hC⟩ := hR1.cells
  have g1 : w1.cell? ⟨g, 1, none⟩ = some (.int .i64 (p : Int)) := g1
  have g2 : w1.cell? ⟨g, 2, none⟩ = some (.bool q) := g2
  have hp : p ≤ l.length := hR1.2.2.1
  clear hR1 g00
  cases q
  · have k1 : (0 : Int) ≤ (p : Int) := by omega
    have k2 : (p : Int) ≤ l.length := by omega
    have k3 : IntKind.i64.wrap ((l.length : Int) - (p : Int)) = (l.length : Int) - (p : Int) := IntWalk.i64_in _ (by omega)
    by_cases hn1 : n ≤ l.length - p
    · have hT : T = (strOfNums ((l.drop p).take n), (p + n, false)) := HT.out.trans (if_neg (fun h => h.elim (by simp) (fun h => by have h : l.length - p < n := h; omega)))
      subst hT
      have d1 : decide ((l.length : Int) - (p : Int) < (n : Int)) = false := decide_eq_false (by omega)
      obtain ⟨i0, hi0, hzz⟩ := Option.map_eq_some_iff.1 info5
      simp only [Prod.mk.injEq] at hzz
      obtain ⟨hz0, hz1, hz2⟩ := hzz
      have hd : (l.drop p).length = l.length - p := List.length_drop
      have hdm : (l.take (p + n)).drop p = (l.drop p).take n := by rw [List.drop_take, Nat.add_sub_cancel_left]
      have hcm := cut_mid (P := Tryz.prog) 33 5 .i64 .i64 Tryz.underlying33 hi0 1 hz1 A l.length c (p : Int) ((p : Int) + (n : Int)) (by omega) (by omega) (by omega) hc
      rw [Int.toNat_natCast, show ((p : Int) + (n : Int)).toNat - p = n by omega] at hcm
      have hCM := Kd.C_mid (lo := p) (hi := p + n) hC (by omega) (by omega) hc
      rw [hdm, show ((l.drop p).take n).length = n by rw [List.length_take, hd]; omega] at hCM
      have hCM' : Kd.C (Kd.int .u8) w0 (if c = p then A else A.map (·.add (p * 1))) n ((l.drop p).take n) := hCM
      have HCV := Lib.hid (show ∀ W, Below w0.heap.size w0 W → (convert 33 9 (.slice (if c = p then A else A.map (·.add (p * 1))) n (c - p))).run Tryz.prog W = .ok (.string (strOfNums ((l.drop p).take n))) W from fun W hW => Kd.C_string (P := Tryz.prog) Tryz.underlying33 Tryz.underlying5 Tryz.underlying9 (Kd.C_below hCM' hW))
      have k4 : IntKind.i64.wrap ((p : Int) + (n : Int) - (n : Int)) = (p : Int) := by rw [show (p : Int) + (n : Int) - (n : Int) = (p : Int) by omega]; exact IntWalk.i64_in _ (by omega)
      have k5 : wrap64 ((p : Int) + (n : Int)) = (p : Int) + (n : Int) := by unfold wrap64; omega
      have k6 : IntKind.i64.wrap (p : Int) = (p : Int) := IntWalk.i64_in _ (by omega)
      generalize (if c = p then A else A.map (·.add (p * 1))) = A1 at *
      generalize strOfNums ((l.drop p).take n) = tx at *
      have HCM := Lib.hid hcm
      clear hi0 hz0 hz1 hz2 hd hdm hcm hCM hCM' hC HT
      go_wp2_with fail
      first | go_quiet (fail) | fail
      go_upto_region 6 with fail
      have HR4 := Lib.hid (show URAt w0 ((w1.drewN nq).setCell ⟨g, 1, none⟩ (.int .i64 ((p : Int) + (n : Int)))) g l (p + n, false) from (by have h := (HR1.out.drewN nq).setAt (p + n) (by omega); rw [Int.natCast_add] at h; exact h))
      have HO4 := Lib.hid ((Ro.refl.drewN nq).trans (Ro.set (w := w1.drewN nq) (gr := g) 1 (.int .i64 ((p : Int) + (n : Int)))))
      have e0 : ((w1.drewN nq).setCell ⟨g, 1, none⟩ (.int .i64 ((p : Int) + (n : Int)))).cell? ⟨g, 0, none⟩ = some (.slice A l.length c) := by go_simp
      have e1 : ((w1.drewN nq).setCell ⟨g, 1, none⟩ (.int .i64 ((p : Int) + (n : Int)))).cell? ⟨g, 1, none⟩ = some (.int .i64 ((p : Int) + (n : Int))) := by go_simp
      generalize (w1.drewN nq).setCell ⟨g, 1, none⟩ (.int .i64 ((p : Int) + (n : Int))) = w4 at *
      have hcv : ∀ m, (convert 33 9 (.slice A1 n (c - p))).run Tryz.prog (w4.drewN m) = .ok (.string tx) (w4.drewN m) := fun m => HCV.out _ (HR4.out.drewN m).2.1
      have hcm := HCM.out
      clear g0 g1 g2 f1 f2
      first | go_quiet (fail) | fail
      go_wp2_with fail
      go_ret
      exact ⟨rfl, HR4.out.drewN _, HO1.out.trans (HO4.out.drewN _)⟩
    · have hT : T = (⟨#[]⟩, (p, true)) := HT.out.trans (if_pos (.inr (by show l.length - p < n; omega)))
      subst hT
      have d1 : decide ((l.length : Int) - (p : Int) < (n : Int)) = true := decide_eq_true (by omega)
      clear hC HT
      go_wp2_with fail
      first | go_quiet (fail) | fail
      go_wp2_with fail
      go_ret
      exact ⟨rfl, (HR1.out.drewN _).setBad true, HO1.out.trans ((Ro.refl.drewN _).trans (Ro.set 2 _))⟩
  · have hT : T = (⟨#[]⟩, (p, true)) := HT.out.trans (if_pos (.inl rfl))
    subst hT
    clear hC HT
    go_wp2_with fail
    first | go_quiet (fail) | fail
    go_wp2_with fail
    go_ret
    exact ⟨rfl, (HR1.out.drewN _).setBad true, HO1.out.trans ((Ro.refl.drewN _).trans (Ro.set 2 _))⟩
section
variable {l t : List Int} {p : Nat} (hm : l.length ≤ 4611686018427387904)
include hm
theorem unum_at {n : Int} (h : l.drop p = puti n ++ t) (hn : I64 n) : unum l (p, false) = (n, (p + (puti n).length, false)) := by
  have hl : (puti n ++ t).length ≤ 4611686018427387904 := by rw [← h, List.length_drop]; omega
  unfold unum
  rw [show ((p, false) : Us).1 = p from rfl, h, rIntF_at hn t hl]
  simp
theorem ucount_at {n most : Int} (h : l.drop p = puti n ++ t) (hn : I64 n) (h0 : 0 ≤ n) (h1 : n ≤ most) : ucount l most (p, false) = (n, (p + (puti n).length, false)) := by
  unfold ucount
  rw [unum_at hm h hn]
  exact if_neg (fun h => h.elim (fun h => by have h : n < 0 := h; omega) (fun h => by have h : most < n := h; omega))
omit hm in
theorem uone_at {x : Int} (h : l.drop p = x :: t) : uone l (p, false) = (x, (p + 1, false)) := by
  have h2 := congrArg List.length h
  rw [List.length_drop, List.length_cons] at h2
  unfold uone
  rw [show ((p, false) : Us).1 = p from rfl, h, if_neg (fun h => h.elim (by simp) (by omega)), List.headD_cons]
theorem utext_at {s : ByteArray} (h : l.drop p = txt s ++ t) : utext l (p, false) = (s, (p + (txt s).length, false)) := by
  rw [txt, List.append_assoc] at h
  have hd := drop_on h
  have h3 := congrArg List.length hd
  rw [List.length_drop, List.length_append, bytesOf_length] at h3
  have h4 := congrArg List.length h
  rw [List.length_drop, List.length_append, List.length_append, bytesOf_length] at h4
  have w1 := ucount_at hm (most := (l.length : Int)) h (len_I64 (by omega)) (by omega) (by omega)
  unfold utext
  rw [w1]
  simp only [Int.toNat_natCast]
  rw [if_neg (fun h => h.elim (by simp) (by omega)), hd]
  have h2 : (bytesOf s ++ t).take s.size = bytesOf s := by rw [← bytesOf_length s, List.take_left]
  rw [h2, strOf_bytesOf, txt, List.length_append, bytesOf_length, Nat.add_assoc]
end
end Go.Proofs.YtcfgmkmllcfjjaaGreatDoor
set_option linter.unusedVariables false
set_option linter.unusedSimpArgs false
namespace Go.Proofs.YtcfgmkmllcfjjaaGreatDoor
open Go.RowKit Go.Proofs.YtcfgmkmllcfjjaaGreatDoorW.PrintWords Go.Proofs.YtcfgmkmllcfjjaaGreatDoorW.PrintMore PImageAll
def ulist {α : Type} (one : Us → α × Us) : Nat → Us → List α × Us
  | 0, s => ([], s)
  | k + 1, s => if s.2 = true then ([], s) else ((one s).1 :: (ulist one k (one s).2).1, (ulist one k (one s).2).2)
theorem ulist_bad {α : Type} (one : Us → α × Us) {s : Us} (h : s.2 = true) : ∀ k, ulist one k s = ([], s)
  | 0 => rfl
  | k + 1 => if_pos h
theorem ulist_step {α : Type} (one : Us → α × Us) {s : Us} (h : s.2 = false) (k : Nat) : ulist one (k + 1) s = ((one s).1 :: (ulist one k (one s).2).1, (ulist one k (one s).2).2) := if_neg (by rw [h]; decide)
def uattr (l : List Int) (s : Us) : S58 × Us := (⟨(utext l s).1, (uone l (utext l s).2).1⟩, (uone l (utext l s).2).2)
def utype (l : List Int) (s : Us) : S56 × Us :=
  (⟨(utext l s).1, (ulist (uattr l) (ucount l 16 (utext l s).2).1.toNat (ucount l 16 (utext l s).2).2).1⟩, (ulist (uattr l) (ucount l 16 (utext l s).2).1.toNat (ucount l 16 (utext l s).2).2).2)
def usaved (l : List Int) (s : Us) : S60 × Us :=
  (⟨(utext l s).1, (utext l (utext l s).2).1, (unum l (utext l (utext l s).2).2).1, (uone l (unum l (utext l (utext l s).2).2).2).1 == 1⟩, (uone l (unum l (utext l (utext l s).2).2).2).2)
def useens (l : List Int) : Nat → Us → Int → List S65 × Us
  | 0, s, _ => ([], s)
  | k + 1, s, last =>
    if s.2 = true then ([], s) else
    if (unum l s).1 < 1 ∨ 2305843009213693952 - last < (unum l s).1 then ([], ((unum l s).2.1, true)) else
    if (qdec (l.drop (uone l (unum l s).2).2.1)).2.2 = 0 then
      (⟨last + (unum l s).1, (qdec (l.drop (uone l (unum l s).2).2.1)).1, (uone l (unum l s).2).1 == 1⟩ :: (useens l k ((uone l (unum l s).2).2.1 + (qdec (l.drop (uone l (unum l s).2).2.1)).2.1, (uone l (unum l s).2).2.2) (last + (unum l s).1)).1,
        (useens l k ((uone l (unum l s).2).2.1 + (qdec (l.drop (uone l (unum l s).2).2.1)).2.1, (uone l (unum l s).2).2.2) (last + (unum l s).1)).2)
    else ([], ((uone l (unum l s).2).2.1, true))
def uskip (l : List Int) : Nat → Us → Us
  | 0, s => s
  | k + 1, s => uskip l k (uone l s).2
def us0 (l : List Int) : Us := uskip l 4 (0, false)
def us1 (l : List Int) : Us := (unum l (us0 l)).2
def us2 (l : List Int) : Us := (unum l (us1 l)).2
def us3 (l : List Int) : Us := (unum l (us2 l)).2
def us4 (l : List Int) : Us := (unum l (us3 l)).2
def uty (l : List Int) : List S56 × Us := ulist (utype l) (ucount l 64 (us4 l)).1.toNat (ucount l 64 (us4 l)).2
def usv (l : List Int) : List S60 × Us := ulist (usaved l) (ucount l 64 (uty l).2).1.toNat (ucount l 64 (uty l).2).2
def usn (l : List Int) : List S65 × Us := useens l (ucount l l.length (usv l).2).1.toNat (ucount l l.length (usv l).2).2 0
def uimg (l : List Int) : Img × Us := (⟨(unum l (us0 l)).1, (unum l (us1 l)).1, (unum l (us2 l)).1, (unum l (us3 l)).1, (uty l).1, (usv l).1, (usn l).1⟩, (usn l).2)
theorem URAt.grown {w0 w w1 : World} {g : Nat} {l : List Int} {s : Us} {row : Option Nat} (h : URAt w0 w g l s) (hg : w.grownBy w1 row) (hr : ∀ k, row = some k → w0.heap.size ≤ k) (hn : some g ≠ row) : URAt w0 w1 g l s := by
  obtain ⟨h1, h2, h4, A, c, hb, h3⟩ := h
  refine ⟨h1, ⟨hg.os.trans h2.os, hg.tape.trans h2.tape, hg.output.trans h2.output, Nat.le_trans h2.size hg.size, fun k hk => (hg.block k (Nat.lt_of_lt_of_le hk h2.size) (fun e => by have := hr k e.symm; omega)).trans (h2.block k hk)⟩, h4, A, c, blk_grown hb hg hn, h3⟩
theorem URAt.blk {w0 w : World} {g : Nat} {l : List Int} {s : Us} (h : URAt w0 w g l s) : ∃ cs, w.heap[g]? = some (.cells cs 88 (0, 0)) := by
  obtain ⟨_, _, _, A, c, hb, _⟩ := h
  exact ⟨_, hb⟩
theorem R_gr {α : Type} {d : Kd α} {e base t : Nat} {ok : Nat → Prop} {w w1 : World} {v : Value} {xs : List α} {row : Option Nat} (h : d.R e w base ok v xs) (hg : w.grownBy w1 row) (ht : ∀ k, row = some k → ∃ cs, w.heap[k]? = some (.cells cs t (0, 0))) (hq : ∀ q, q ∈ e :: d.E → q ≠ t) : d.R e w1 base ok v xs := by
  cases row with
  | none => exact Kd.R_step h (fun k _ hlt => hg.block k hlt (by simp))
  | some k0 =>
    obtain ⟨cs, hb⟩ := ht k0 rfl
    exact Kd.R_mono (Kd.R_step (Kd.R_types h hb hq) (fun k hk hlt => hg.block k hlt (fun e => hk.2 (Option.some.inj e)))) (fun _ hk => hk.1)
theorem R_ur {α : Type} {d : Kd α} {e base g : Nat} {ok : Nat → Prop} {w0 w w1 : World} {l : List Int} {s : Us} {v : Value} {xs : List α} (h : d.R e w base ok v xs) (hS : URAt w0 w g l s) (hq : ∀ q, q ∈ e :: d.E → q ≠ 88) (hO : Ro g w w1) : d.R e w1 base ok v xs := by
  obtain ⟨cs, hb⟩ := hS.blk
  exact R_ro h hb hq hO
structure ULd (w : World) (g : Nat) (l : List Int) (b2 b3 : Nat) (s : Us) (m : Img) (v4 v5 v6 : Value) (W : World) : Prop where
  rd : URAt w W g l s
  l2 : w.heap.size ≤ b2
  l3 : w.heap.size ≤ b3
  ne : b3 ≠ b2
  im : IBox W b3 m v4 v5 v6
  an : IBox W b2 zImg (.slice none 0 0) (.slice none 0 0) (.slice none 0 0)
  r4 : k56.R 56 W w.heap.size (fun _ => True) v4 m.types
  r5 : k60.R 60 W w.heap.size (fun _ => True) v5 m.saved
  r6 : k65.R 65 W w.heap.size (fun _ => True) v6 m.seens
namespace ULd
variable {w W W1 : World} {g b2 b3 : Nat} {l : List Int} {s s1 : Us} {m : Img} {v4 v5 v6 : Value}
theorem g2 (h : ULd w g l b2 b3 s m v4 v5 v6 W) : b2 ≠ g := h.rd.neq h.an (by decide)
theorem g3 (h : ULd w g l b2 b3 s m v4 v5 v6 W) : b3 ≠ g := h.rd.neq h.im (by decide)
theorem read (h : ULd w g l b2 b3 s m v4 v5 v6 W) (hR : URAt w W1 g l s1) (hO : Ro g W W1) : ULd w g l b2 b3 s1 m v4 v5 v6 W1 :=
  ⟨hR, h.l2, h.l3, h.ne, Ro.blk hO h.im h.g3, Ro.blk hO h.an h.g2, R_ur h.r4 h.rd (k56n (by decide) (by decide)) hO, R_ur h.r5 h.rd (k60n (by decide)) hO, R_ur h.r6 h.rd (k65n (by decide) (by decide)) hO⟩
theorem below (h : ULd w g l b2 b3 s m v4 v5 v6 W) (hB : Below W.heap.size W W1) : ULd w g l b2 b3 s m v4 v5 v6 W1 := h.read (h.rd.below hB) (Ro.of_below hB)
theorem rows (h : ULd w g l b2 b3 s m v4 v5 v6 W) (i : Nat) (v : Value) : URAt w (W.setCell ⟨b3, i, none⟩ v) g l s ∧ IBox (W.setCell ⟨b3, i, none⟩ v) b2 zImg (.slice none 0 0) (.slice none 0 0) (.slice none 0 0) ∧ k56.R 56 (W.setCell ⟨b3, i, none⟩ v) w.heap.size (fun _ => True) v4 m.types ∧ k60.R 60 (W.setCell ⟨b3, i, none⟩ v) w.heap.size (fun _ => True) v5 m.saved ∧ k65.R 65 (W.setCell ⟨b3, i, none⟩ v) w.heap.size (fun _ => True) v6 m.seens :=
  ⟨h.rd.far h.l3 h.g3 v, (Below.heap_setCell _ _ _ _ (fun e => h.ne e.symm)).trans h.an, Kd.R_set h.r4 h.im (k56n (by decide) (by decide)) i v, Kd.R_set h.r5 h.im (k60n (by decide)) i v, Kd.R_set h.r6 h.im (k65n (by decide) (by decide)) i v⟩
theorem set0 (h : ULd w g l b2 b3 s m v4 v5 v6 W) (n : Int) : ULd w g l b2 b3 s { m with runs := n } v4 v5 v6 (W.setCell ⟨b3, 0, none⟩ (.int .i64 n)) :=
  let r := h.rows 0 (.int .i64 n); ⟨r.1, h.l2, h.l3, h.ne, (blk_set h.im 0 _).trans rfl, r.2.1, r.2.2.1, r.2.2.2.1, r.2.2.2.2⟩
theorem set1 (h : ULd w g l b2 b3 s m v4 v5 v6 W) (n : Int) : ULd w g l b2 b3 s { m with made := n } v4 v5 v6 (W.setCell ⟨b3, 1, none⟩ (.int .i64 n)) :=
  let r := h.rows 1 (.int .i64 n); ⟨r.1, h.l2, h.l3, h.ne, (blk_set h.im 1 _).trans rfl, r.2.1, r.2.2.1, r.2.2.2.1, r.2.2.2.2⟩
theorem set2 (h : ULd w g l b2 b3 s m v4 v5 v6 W) (n : Int) : ULd w g l b2 b3 s { m with seq := n } v4 v5 v6 (W.setCell ⟨b3, 2, none⟩ (.int .i64 n)) :=
  let r := h.rows 2 (.int .i64 n); ⟨r.1, h.l2, h.l3, h.ne, (blk_set h.im 2 _).trans rfl, r.2.1, r.2.2.1, r.2.2.2.1, r.2.2.2.2⟩
theorem set3 (h : ULd w g l b2 b3 s m v4 v5 v6 W) (n : Int) : ULd w g l b2 b3 s { m with now := n } v4 v5 v6 (W.setCell ⟨b3, 3, none⟩ (.int .i64 n)) :=
  let r := h.rows 3 (.int .i64 n); ⟨r.1, h.l2, h.l3, h.ne, (blk_set h.im 3 _).trans rfl, r.2.1, r.2.2.1, r.2.2.2.1, r.2.2.2.2⟩
theorem grown (h : ULd w g l b2 b3 s m v4 v5 v6 W) {row : Option Nat} {t : Nat} (hg : W.grownBy W1 row) (hba : ∀ k, row = some k → w.heap.size ≤ k) (hty : ∀ k, row = some k → ∃ cs, W.heap[k]? = some (.cells cs t (0, 0))) (h1 : t ≠ 88) (h2 : t ≠ 31) :
    URAt w W1 g l s ∧ IBox W1 b3 m v4 v5 v6 ∧ IBox W1 b2 zImg (.slice none 0 0) (.slice none 0 0) (.slice none 0 0) := by
  have hne : ∀ {k : Nat} {cs : Array Value} {t' : Nat}, W.heap[k]? = some (.cells cs t' (0, 0)) → t' ≠ t → some k ≠ row := by
    intro k cs t' hb ht e
    obtain ⟨cs2, hb2⟩ := hty k e.symm
    rw [hb] at hb2
    simp only [Option.some.injEq, Obj.cells.injEq] at hb2
    exact ht hb2.2.1
  obtain ⟨cg, hbg⟩ := h.rd.blk
  exact ⟨h.rd.grown hg hba (hne hbg (Ne.symm h1)), blk_grown h.im hg (hne h.im (Ne.symm h2)), blk_grown h.an hg (hne h.an (Ne.symm h2))⟩
theorem grow4 {v : Value} {ys : List S56} (h : ULd w g l b2 b3 s m v4 v5 v6 W) (hR : k56.R 56 W1 w.heap.size (fun _ => True) v ys) (hg : W.grownBy W1 v4.ownBlock) : ULd w g l b2 b3 s { m with types := ys } v v5 v6 (W1.setCell ⟨b3, 4, none⟩ v) := by
  have hty := Kd.R_typed h.r4
  obtain ⟨i1, i2, i3⟩ := h.grown hg (Kd.R_base h.r4) hty (by decide) (by decide)
  have n3 : b3 ≠ g := i1.neq i2 (by decide)
  exact ⟨i1.far h.l3 n3 v, h.l2, h.l3, h.ne, (blk_set i2 4 _).trans rfl, (Below.heap_setCell _ _ _ _ (fun e => h.ne e.symm)).trans i3, Kd.R_set hR i2 (k56n (by decide) (by decide)) 4 v, Kd.R_set (R_gr h.r5 hg hty (k60n (by decide))) i2 (k60n (by decide)) 4 v, Kd.R_set (R_gr h.r6 hg hty (k65n (by decide) (by decide))) i2 (k65n (by decide) (by decide)) 4 v⟩
theorem grow5 {v : Value} {ys : List S60} (h : ULd w g l b2 b3 s m v4 v5 v6 W) (hR : k60.R 60 W1 w.heap.size (fun _ => True) v ys) (hg : W.grownBy W1 v5.ownBlock) : ULd w g l b2 b3 s { m with saved := ys } v4 v v6 (W1.setCell ⟨b3, 5, none⟩ v) := by
  have hty := Kd.R_typed h.r5
  obtain ⟨i1, i2, i3⟩ := h.grown hg (Kd.R_base h.r5) hty (by decide) (by decide)
  have n3 : b3 ≠ g := i1.neq i2 (by decide)
  exact ⟨i1.far h.l3 n3 v, h.l2, h.l3, h.ne, (blk_set i2 5 _).trans rfl, (Below.heap_setCell _ _ _ _ (fun e => h.ne e.symm)).trans i3, Kd.R_set (R_gr h.r4 hg hty (k56n (by decide) (by decide))) i2 (k56n (by decide) (by decide)) 5 v, Kd.R_set hR i2 (k60n (by decide)) 5 v, Kd.R_set (R_gr h.r6 hg hty (k65n (by decide) (by decide))) i2 (k65n (by decide) (by decide)) 5 v⟩
theorem grow6 {v : Value} {ys : List S65} (h : ULd w g l b2 b3 s m v4 v5 v6 W) (hR : k65.R 65 W1 w.heap.size (fun _ => True) v ys) (hg : W.grownBy W1 v6.ownBlock) : ULd w g l b2 b3 s { m with seens := ys } v4 v5 v (W1.setCell ⟨b3, 6, none⟩ v) := by
  have hty := Kd.R_typed h.r6
  obtain ⟨i1, i2, i3⟩ := h.grown hg (Kd.R_base h.r6) hty (by decide) (by decide)
  have n3 : b3 ≠ g := i1.neq i2 (by decide)
  exact ⟨i1.far h.l3 n3 v, h.l2, h.l3, h.ne, (blk_set i2 6 _).trans rfl, (Below.heap_setCell _ _ _ _ (fun e => h.ne e.symm)).trans i3, Kd.R_set (R_gr h.r4 hg hty (k56n (by decide) (by decide))) i2 (k56n (by decide) (by decide)) 6 v, Kd.R_set (R_gr h.r5 hg hty (k60n (by decide))) i2 (k60n (by decide)) 6 v, Kd.R_set hR i2 (k65n (by decide) (by decide)) 6 v⟩
end ULd
structure UBx (w Wk : World) (g : Nat) (l : List Int) (b t : Nat) (cs : Array Value) (s : Us) (W : World) : Prop where
  rd : URAt w W g l s
  bx : W.heap[b]? = some (.cells cs t (0, 0))
  ro : Ro g Wk W
  bl : Wk.heap.size ≤ b
  lo : w.heap.size ≤ Wk.heap.size
  gl : g < Wk.heap.size
namespace UBx
variable {w Wk W W1 : World} {g b t : Nat} {l : List Int} {cs : Array Value} {s s1 : Us}
theorem new (hR : URAt w W g l s) (hO : Ro g Wk W) (hlo : w.heap.size ≤ Wk.heap.size) (hgl : g < Wk.heap.size) (cs : Array Value) (t : Nat) : UBx w Wk g l W.heap.size t cs s (W.alloc (.cells cs t)) :=
  ⟨hR.below (below_new _ _), blk_new W _, hO.trans (Ro.of_below (below_new _ _)), hO.size, hlo, hgl⟩
theorem gb (h : UBx w Wk g l b t cs s W) : b ≠ g := by have := h.bl; have := h.gl; omega
theorem read (h : UBx w Wk g l b t cs s W) (hR : URAt w W1 g l s1) (hO : Ro g W W1) : UBx w Wk g l b t cs s1 W1 := ⟨hR, Ro.blk hO h.bx h.gb, h.ro.trans hO, h.bl, h.lo, h.gl⟩
theorem below (h : UBx w Wk g l b t cs s W) (hB : Below W.heap.size W W1) : UBx w Wk g l b t cs s W1 := h.read (h.rd.below hB) (Ro.of_below hB)
theorem drew (h : UBx w Wk g l b t cs s W) : UBx w Wk g l b t cs s W.drew := h.below (below_drew (Below.refl _ _))
theorem drewN (h : UBx w Wk g l b t cs s W) (n : Nat) : UBx w Wk g l b t cs s (W.drewN n) := h.below (pw_below_drewN (Below.refl _ _) n)
theorem set (h : UBx w Wk g l b t cs s W) (i : Nat) (v : Value) : UBx w Wk g l b t (cs.setIfInBounds i v) s (W.setCell ⟨b, i, none⟩ v) :=
  ⟨h.rd.far (Nat.le_trans h.lo h.bl) h.gb v, blk_set h.bx i v, h.ro.setNew h.bl v, h.bl, h.lo, h.gl⟩
theorem cell (h : UBx w Wk g l b t cs s W) (i : Nat) : W.cell? ⟨b, i, none⟩ = cs[i]? := blk_cell h.bx i
theorem free (h : UBx w Wk g l b t cs s W) (i : Nat) : W.frozen? ⟨b, i, none⟩ = false := blk_frozen h.bx i
theorem grown (h : UBx w Wk g l b t cs s W) {row : Option Nat} {t' : Nat} (hg : W.grownBy W1 row) (hba : ∀ k, row = some k → Wk.heap.size ≤ k) (hty : ∀ k, row = some k → ∃ cs, W.heap[k]? = some (.cells cs t' (0, 0))) (h1 : t' ≠ t) : UBx w Wk g l b t cs s W1 := by
  have hn : some b ≠ row := by
    intro e
    obtain ⟨cs2, hb2⟩ := hty b e.symm
    rw [h.bx] at hb2
    simp only [Option.some.injEq, Obj.cells.injEq] at hb2
    exact h1 hb2.2.1.symm
  have hng : some g ≠ row := fun e => by have := hba g e.symm; have := h.gl; omega
  exact ⟨h.rd.grown hg (fun k hk => Nat.le_trans h.lo (hba k hk)) hng, blk_grown h.bx hg hn, h.ro.grown hg hba, h.bl, h.lo, h.gl⟩
end UBx
namespace UBx
variable {w Wk W W1 : World} {g b t : Nat} {l : List Int} {cs : Array Value} {s s1 : Us}
theorem more (h : UBx w Wk g l b t cs s W) (cs' : Array Value) (t' : Nat) : UBx w Wk g l W.heap.size t' cs' s (W.alloc (.cells cs' t')) := UBx.new h.rd h.ro h.lo h.gl cs' t'
theorem keep (h : UBx w Wk g l b t cs s W) (cs' : Array Value) (t' : Nat) : UBx w Wk g l b t cs s (W.alloc (.cells cs' t')) := h.below (below_new W _)
theorem lt (h : UBx w Wk g l b t cs s W) : b < W.heap.size := blk_lt' h.bx
theorem far (h : UBx w Wk g l b t cs s W) {p i : Nat} (hp : Wk.heap.size ≤ p) (hn : b ≠ p) (v : Value) : UBx w Wk g l b t cs s (W.setCell ⟨p, i, none⟩ v) := by
  have h1 := h.gl
  exact ⟨h.rd.far (Nat.le_trans h.lo hp) (by omega) v, (Below.heap_setCell _ _ _ _ hn).trans h.bx, h.ro.setNew hp v, h.bl, h.lo, h.gl⟩
end UBx
theorem ULd.done {w W : World} {g b2 b3 : Nat} {l : List Int} {s : Us} {m : Img} {v4 v5 v6 : Value} (h : ULd w g l b2 b3 s m v4 v5 v6 W) :
    IBox (((((((W.setCell ⟨b2, 0, none⟩ (.int .i64 m.runs)).setCell ⟨b2, 1, none⟩ (.int .i64 m.made)).setCell ⟨b2, 2, none⟩ (.int .i64 m.seq)).setCell ⟨b2, 3, none⟩ (.int .i64 m.now)).setCell ⟨b2, 4, none⟩ v4).setCell ⟨b2, 5, none⟩ v5).setCell ⟨b2, 6, none⟩ v6) b2 m v4 v5 v6 ∧
    IRows w (((((((W.setCell ⟨b2, 0, none⟩ (.int .i64 m.runs)).setCell ⟨b2, 1, none⟩ (.int .i64 m.made)).setCell ⟨b2, 2, none⟩ (.int .i64 m.seq)).setCell ⟨b2, 3, none⟩ (.int .i64 m.now)).setCell ⟨b2, 4, none⟩ v4).setCell ⟨b2, 5, none⟩ v5).setCell ⟨b2, 6, none⟩ v6) m v4 v5 v6 ∧
    URAt w (((((((W.setCell ⟨b2, 0, none⟩ (.int .i64 m.runs)).setCell ⟨b2, 1, none⟩ (.int .i64 m.made)).setCell ⟨b2, 2, none⟩ (.int .i64 m.seq)).setCell ⟨b2, 3, none⟩ (.int .i64 m.now)).setCell ⟨b2, 4, none⟩ v4).setCell ⟨b2, 5, none⟩ v5).setCell ⟨b2, 6, none⟩ v6) g l s :=
  ⟨h.an.put m v4 v5 v6, IRows.put ⟨h.r4, h.r5, h.r6⟩ h.an m v4 v5 v6, ((((((h.rd.far h.l2 h.g2 _).far h.l2 h.g2 _).far h.l2 h.g2 _).far h.l2 h.g2 _).far h.l2 h.g2 _).far h.l2 h.g2 _).far h.l2 h.g2 _⟩
theorem k58n {t : Nat} (h1 : 58 ≠ t) : ∀ q, q ∈ 58 :: k58.E → q ≠ t := by
  intro q hq
  have hE : k58.E = [] := rfl
  rw [hE, List.mem_singleton] at hq
  subst hq
  exact h1
end Go.Proofs.YtcfgmkmllcfjjaaGreatDoor
