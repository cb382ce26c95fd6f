import Derived.Test.YtcfgmkmllcfjjaaDoorZImS
set_option linter.unusedVariables false
set_option linter.unusedSimpArgs false
namespace Go.Proofs.YtcfgmkmllcfjjaaDoor
open Go.RowKit Go.Proofs.YtcfgmkmllcfjjaaDoorW.PrintWords Go.Proofs.YtcfgmkmllcfjjaaDoorW.PrintMore PImageForm
abbrev Rs := List Int × Bool
def tk (n : Int) (l : List Int) : Nat := if 0 ≤ n ∧ n ≤ l.length then n.toNat else 0
def tbad (n : Int) (l : List Int) : Bool := !decide (0 ≤ n ∧ n ≤ l.length)
theorem tk_le (n : Int) (l : List Int) : tk n l ≤ l.length := by
  unfold tk
  split <;> omega
def takenR (n : Int) (s : Rs) : List Int := s.1.take (tk n s.1)
def takeR (n : Int) (s : Rs) : Rs := (s.1.drop (tk n s.1), s.2 || tbad n s.1)
def RAt (w0 w : World) (gr : Nat) (s : Rs) : Prop :=
  w0.heap.size ≤ gr ∧ Below w0.heap.size w0 w ∧ ∃ A c, w.heap[gr]? = some (.cells #[.slice A s.1.length c, .bool s.2] 55 (0, 0)) ∧ s.1.length ≤ c ∧ Kd.C (Kd.int .u8) w0 A s.1.length s.1
def Ro (gr : Nat) (w w' : World) : Prop := Only (fun k => k = gr) w w'
namespace Ro
variable {gr : Nat} {w w1 w2 : World}
theorem refl : Ro gr w w := Only.refl _ _
theorem trans (h : Ro gr w w1) (k : Ro gr w1 w2) : Ro gr w w2 := Only.trans h k (fun _ _ hn h2 => hn h2)
theorem of_below (h : Below w.heap.size w w1) : Ro gr w w1 := Only.of_below h
theorem blk {g : Nat} {o : Obj} (h : Ro gr w w1) (hb : w.heap[g]? = some o) (hn : g ≠ gr) : w1.heap[g]? = some o := Only.blk h hb hn
theorem set (i : Nat) (v : Value) : Ro gr w (w.setCell ⟨gr, i, none⟩ v) := Only.setCell _ _ rfl
theorem below {B : Nat} (h : Ro gr w w1) (hB : B ≤ w.heap.size) (hg : B ≤ gr) : Below B w w1 := Only.below h hB (fun b hb hs => by omega)
theorem drewN (h : Ro gr w w1) (n : Nat) : Ro gr w (w1.drewN n) := h.trans (of_below (pw_below_drewN (Below.refl _ _) n))
theorem drew (h : Ro gr w w1) : Ro gr w w1.drew := h.trans (of_below (below_drew (Below.refl _ _)))
end Ro
namespace RAt
variable {w0 w w' : World} {gr : Nat} {s : Rs}
theorem below (h : RAt w0 w gr s) (hB : Below w.heap.size w w') : RAt w0 w' gr s := by
  obtain ⟨h1, h2, A, c, hb, h3⟩ := h
  exact ⟨h1, h2.trans (hB.mono h2.size), A, c, blk_below hb hB, h3⟩
theorem lt (h : RAt w0 w gr s) : gr < w.heap.size := by
  obtain ⟨_, _, A, c, hb, _⟩ := h
  exact blk_lt' hb
theorem neq {g : Nat} {cs : Array Value} {t : TypeId} (h : RAt w0 w gr s) (hg : w.heap[g]? = some (.cells cs t (0, 0))) (ht : t ≠ 55) : g ≠ gr := by
  obtain ⟨_, _, A, c, hb, _⟩ := h
  exact blk_ne hg hb ht
theorem far (h : RAt w0 w gr s) {p i : Nat} (hp : w0.heap.size ≤ p) (hn : p ≠ gr) (v : Value) : RAt w0 (w.setCell ⟨p, i, none⟩ v) gr s := by
  obtain ⟨h1, h2, A, c, hb, h3⟩ := h
  exact ⟨h1, h2.setCell hp v, A, c, (Below.heap_setCell _ _ _ _ (fun e => hn e.symm)).trans hb, h3⟩
end RAt
def RPost (w0 w : World) (gr : Nat) (v : Value) (s : Rs) (e : Ending) (w' : World) : Prop := e = .returned v ∧ RAt w0 w' gr s ∧ Ro gr w w'
def TPost (w0 w : World) (gr : Nat) (n : Int) (s : Rs) (e : Ending) (w' : World) : Prop :=
  ∃ A c, e = .returned (.slice A (takenR n s).length c) ∧ (takenR n s).length ≤ c ∧ Kd.C (Kd.int .u8) w0 A (takenR n s).length (takenR n s) ∧ RAt w0 w' gr (takeR n s) ∧ Ro gr w w'
theorem take_mem {w0 w : World} {gr c k : Nat} {A : Option Addr} {l : List Int} {bad b1 : Bool} (h1 : w0.heap.size ≤ gr) (h2 : Below w0.heap.size w0 w) (hb : w.heap[gr]? = some (.cells #[.slice A l.length c, .bool b1] 55 (0, 0))) (hc : l.length ≤ c) (hC : Kd.C (Kd.int .u8) w0 A l.length l)
    (hk : k ≤ l.length) : RAt w0 (w.setCell ⟨gr, 0, none⟩ (.slice (if c = k then A else A.map (·.add (k * 1))) (l.length - k) (c - k))) gr (l.drop k, b1) := by
  have hd : (l.drop k).length = l.length - k := List.length_drop
  refine ⟨h1, h2.setCell h1 _, _, c - k, ?_, ?_, Kd.C_drop hC hk hc⟩
  · rw [hd]
    exact (blk_set hb 0 (.slice (if c = k then A else A.map (·.add (k * 1))) (l.length - k) (c - k))).trans rfl
  · show (l.drop k).length ≤ _
    rw [hd]
    omega
set_option maxRecDepth 100000 in
set_option maxHeartbeats 4000000 in
theorem take_any {w0 w : World} {gr : Nat} {n : Int} {s : Rs} (hR : RAt w0 w gr s) (hn : I64 n) : Calls Tryd.prog 32 #[.pointer (some ⟨gr, 0, none⟩), .int .i64 n] w (TPost w0 w gr n s) := by
  obtain ⟨l, bad⟩ := s
  obtain ⟨h1, h2, A, c, hb, hc, hC⟩ := hR
  have hb : w.heap[gr]? = some (.cells #[.slice A l.length c, .bool bad] 55 (0, 0)) := hb
  have hc : l.length ≤ c := hc
  have hC : Kd.C (Kd.int .u8) w0 A l.length l := hC
  have hm := Kd.C_max hC
  have g0 : w.cell? ⟨gr, 0, none⟩ = some (.slice A l.length c) := (blk_cell hb 0).trans rfl
  have g1 : w.cell? ⟨gr, 1, none⟩ = some (.bool bad) := (blk_cell hb 1).trans rfl
  have f0 := blk_frozen hb 0
  have f1 := blk_frozen hb 1
  obtain ⟨i0, hi, hzz⟩ := Option.map_eq_some_iff.1 info5
  simp only [Prod.mk.injEq] at hzz
  obtain ⟨hz0, hz1, hz2⟩ := hzz
  by_cases hin : 0 ≤ n ∧ n ≤ l.length
  · obtain ⟨hn0, hn1⟩ := hin
    obtain ⟨k, rfl⟩ := Int.eq_ofNat_of_zero_le hn0
    have htk : tk (k : Int) l = k := by unfold tk; rw [if_pos ⟨hn0, hn1⟩]; rfl
    have htb : tbad (k : Int) l = false := by unfold tbad; rw [decide_eq_true ⟨hn0, hn1⟩]; rfl
    have hkl : k ≤ l.length := by omega
    have ht := cut_to (P := Tryd.prog) 29 5 .i64 Tryd.underlying29 hi A l.length c (k : Int) (by omega) hn1 hc
    have hf := cut_from (P := Tryd.prog) 29 5 .i64 Tryd.underlying29 hi 1 hz1 A l.length c (k : Int) (by omega) hn1
    rw [Int.toNat_natCast] at ht hf
    have HM := Lib.hid (take_mem (bad := bad) h1 h2 hb hc hC hkl)
    have HC := Lib.hid (Kd.C_take hC hkl)
    have hl : (l.take k).length = k := by rw [List.length_take]; omega
    have HL := Lib.hid hl
    have HTK := Lib.hid htk
    have HTB := Lib.hid htb
    have HCC := Lib.hid hc
    have d1 : decide ((k : Int) < 0) = false := decide_eq_false (by omega)
    have d2 : decide ((l.length : Int) < (k : Int)) = false := decide_eq_false (by omega)
    generalize (if c = k then A else A.map (·.add (k * 1))) = A1 at *
    clear hl htk htb hC hb h2 hi hz0 hz1 hz2 hn hc
    go_enter Tryd.func32, Tryd.ntmps32
    go_wp2_with fail
    go_ret
    refine ⟨A, c, ?_, ?_, ?_, ?_, Ro.set 0 _⟩
    · simp only [takenR, HTK.out, HL.out]; rfl
    · simp only [takenR, HTK.out, HL.out]; have := HCC.out; omega
    · simp only [takenR, HTK.out]; exact HC.out
    · simp only [takeR, HTK.out, HTB.out, Bool.or_false]; exact HM.out
  · have htk : tk n l = 0 := by unfold tk; rw [if_neg hin]
    have htb : tbad n l = true := by unfold tbad; rw [decide_eq_false hin]; rfl
    have ht := cut_to (P := Tryd.prog) 29 5 .i64 Tryd.underlying29 hi A l.length c 0 (by omega) (by omega) hc
    have hf := cut_from (P := Tryd.prog) 29 5 .i64 Tryd.underlying29 hi 1 hz1 A l.length c 0 (by omega) (by omega)
    have hb' : (w.setCell ⟨gr, 1, none⟩ (.bool true)).heap[gr]? = some (.cells #[.slice A l.length c, .bool true] 55 (0, 0)) := by simpa using blk_set hb 1 (.bool true)
    have HM := Lib.hid (take_mem (bad := bad) (k := 0) h1 (h2.setCell (p := ⟨gr, 1, none⟩) h1 (.bool true)) hb' hc hC (Nat.zero_le _))
    rw [show ((0 : Int)).toNat = 0 from rfl] at ht hf
    have HC := Lib.hid (Kd.C_take hC (Nat.zero_le l.length))
    have HTK := Lib.hid htk
    have HTB := Lib.hid htb
    have HMX := Lib.hid (Ro.trans (Ro.set (w := w) 1 (.bool true)) (Ro.set (gr := gr) 0 (.slice (if c = 0 then A else A.map (·.add (0 * 1))) (l.length - 0) (c - 0))))
    generalize (if c = 0 then A else A.map (·.add (0 * 1))) = A1 at *
    have HIN := Lib.hid hin
    clear htk htb hC hb hb' h2 hi hz0 hz1 hz2 hn hc hin
    by_cases hn0 : n < 0
    · have d1 : decide (n < 0) = true := decide_eq_true hn0
      clear hn0
      go_enter Tryd.func32, Tryd.ntmps32
      go_wp2_with fail
      go_ret
      refine ⟨A, c, ?_, ?_, ?_, ?_, HMX.out⟩
      · simp [takenR, HTK.out]
      · simp [takenR, HTK.out]
      · simp only [takenR, HTK.out]; exact HC.out
      · simp only [takeR, HTK.out, HTB.out, Bool.or_true]; exact HM.out
    · have d1 : decide (n < 0) = false := decide_eq_false hn0
      have d2 : decide ((l.length : Int) < n) = true := decide_eq_true (by have := HIN.out; omega)
      clear hn0
      go_enter Tryd.func32, Tryd.ntmps32
      go_wp2_with fail
      go_ret
      refine ⟨A, c, ?_, ?_, ?_, ?_, HMX.out⟩
      · simp [takenR, HTK.out]
      · simp [takenR, HTK.out]
      · simp only [takenR, HTK.out]; exact HC.out
      · simp only [takeR, HTK.out, HTB.out, Bool.or_true]; exact HM.out
end Go.Proofs.YtcfgmkmllcfjjaaDoor

set_option linter.unusedVariables false
set_option linter.unusedSimpArgs false
namespace Go.Proofs.YtcfgmkmllcfjjaaDoor
open Go.RowKit Go.Proofs.YtcfgmkmllcfjjaaDoorW.PrintWords Go.Proofs.YtcfgmkmllcfjjaaDoorW.PrintMore PImageForm
def intF (l : List Int) : Int × Int × Int := (wire_Int.f 40 l).getD (0, 0, 0)
theorem intF_any {l : List Int} (hB : Bytes l) (hl : l.length ≤ 4611686018427387904) : ∃ (v e : Int) (n : Nat), wire_Int.f 40 l = some (v, (n : Int), e) ∧ intF l = (v, (n : Int), e) ∧ I64 v ∧ ((e = 0 ∧ 0 < n ∧ n ≤ l.length) ∨ (e ≠ 0 ∧ n = 0)) := by
  obtain ⟨v, e, n, h1, h2, h3⟩ := Int_any hB hl
  exact ⟨v, e, n, h1, by unfold intF; rw [h1]; rfl, h2, h3⟩
def Rok (s : Rs) : Prop := Bytes s.1 ∧ s.1.length ≤ 4611686018427387904
theorem Rok.take {s : Rs} (h : Rok s) (n : Int) : Rok (takeR n s) := ⟨h.1.drop _, by have := h.2; simp only [takeR, List.length_drop]; omega⟩
theorem Rok.taken {s : Rs} (h : Rok s) (n : Int) : Bytes (takenR n s) := h.1.take _
theorem Rok.mark {s : Rs} (h : Rok s) (b : Bool) : Rok (s.1, b) := h
def numR (s : Rs) : Int × Rs := ((intF s.1).1, takeR (intF s.1).2.1 (s.1, s.2 || !((intF s.1).2.2 == 0)))
theorem Rok.num {s : Rs} (h : Rok s) : Rok (numR s).2 := Rok.take (h.mark _) _
theorem num_I64 {s : Rs} (h : Rok s) : I64 (numR s).1 := by
  obtain ⟨v, e, n, _, h2, h3, _⟩ := intF_any h.1 h.2
  unfold numR
  rw [h2]
  exact h3
theorem RAt.mark {w0 w : World} {gr : Nat} {s : Rs} (h : RAt w0 w gr s) (b : Bool) : RAt w0 (w.setCell ⟨gr, 1, none⟩ (.bool b)) gr (s.1, b) := by
  obtain ⟨h1, h2, A, c, hb, h3⟩ := h
  exact ⟨h1, h2.setCell h1 _, A, c, (blk_set hb 1 (.bool b)).trans rfl, h3⟩
theorem RAt.drewN {w0 w : World} {gr : Nat} {s : Rs} (h : RAt w0 w gr s) (n : Nat) : RAt w0 (w.drewN n) gr s := h.below (pw_below_drewN (Below.refl _ _) n)
theorem RAt.cells {w0 w : World} {gr : Nat} {s : Rs} (h : RAt w0 w gr s) : ∃ A c, w.cell? ⟨gr, 0, none⟩ = some (.slice A s.1.length c) ∧ w.cell? ⟨gr, 1, none⟩ = some (.bool s.2) ∧ w.frozen? ⟨gr, 1, none⟩ = false ∧ s.1.length ≤ c ∧ Kd.C (Kd.int .u8) w0 A s.1.length s.1 := by
  obtain ⟨h1, h2, A, c, hb, h3, h4⟩ := h
  exact ⟨A, c, (blk_cell hb 0).trans rfl, (blk_cell hb 1).trans rfl, blk_frozen hb 1, h3, h4⟩
set_option maxRecDepth 100000 in
set_option maxHeartbeats 4000000 in
theorem number_any {w0 w : World} {gr : Nat} {s : Rs} (hR : RAt w0 w gr s) (hs : Rok s) : Calls Tryd.prog 34 #[.pointer (some ⟨gr, 0, none⟩)] w (RPost w0 w gr (.int .i64 (numR s).1) (numR s).2) := by
  obtain ⟨v, e, n, hf, hF, hv, hen⟩ := intF_any hs.1 hs.2
  have hN : numR s = (v, takeR (n : Int) (s.1, s.2 || !(e == 0))) := by unfold numR; rw [hF]
  rw [hN]
  obtain ⟨A, c, g0, g1, f1, hc, hC⟩ := hR.cells
  have HI := Lib.hid (fun W hW => wire_Int.calls 40 A c s.1 v n e W (Kd.C_below hC hW) hc hf)
  have HT := Lib.hid (show ∀ W (b : Bool), RAt w0 W gr (s.1, b) → Calls Tryd.prog 32 #[.pointer (some ⟨gr, 0, none⟩), .int .i64 (n : Int)] W (TPost w0 W gr n (s.1, b)) from fun W b hW => take_any hW (by have := hs.2; have := hen.elim (fun h => h.2.2) (fun h => by omega : e ≠ 0 ∧ n = 0 → n ≤ s.1.length); exact ⟨by omega, by omega⟩))
  have HR := Lib.hid hR
  have hB := hR.2.1
  have HB := Lib.hid hB
  clear hN hF hf hR hC hc hs hB hen
  obtain ⟨l, bad⟩ := s
  have g1 : w.cell? ⟨gr, 1, none⟩ = some (.bool bad) := g1
  cases bad
  · obtain ⟨ne, hne⟩ : ∃ ne : Bool, (e != 0) = ne := ⟨_, rfl⟩
    have HNE := Lib.hid (show (false || !(e == 0)) = ne from by rw [← hne]; rfl)
    go_enter Tryd.func34, Tryd.ntmps34
    go_wp2_with (first
      | (go_at_call 59; refine (HI.out _ HB.out).mono ?_; rintro e w1 ⟨rfl, ⟨m1, rfl⟩⟩)
      | (go_at_call 32; refine (HT.out _ ne ((HR.out.drewN _).mark ne)).mono ?_; rintro e w2 ⟨A2, c2, rfl, hc2, hC2, hR2, hO2⟩; have hR2 := Lib.hid hR2; have hO2 := Lib.hid hO2))
    go_ret
    refine ⟨rfl, ?_, (Ro.refl.drewN _).trans ((Ro.set 1 _).trans hO2.out)⟩
    have := hR2.out
    rw [← HNE.out] at this
    exact this
  · go_enter Tryd.func34, Tryd.ntmps34
    go_wp2_with (first
      | (go_at_call 59; refine (HI.out _ HB.out).mono ?_; rintro e w1 ⟨rfl, ⟨m1, rfl⟩⟩)
      | (go_at_call 32; refine (HT.out _ true ((HR.out.drewN _).mark true)).mono ?_; rintro e w2 ⟨A2, c2, rfl, hc2, hC2, hR2, hO2⟩; have hR2 := Lib.hid hR2; have hO2 := Lib.hid hO2))
    go_ret
    exact ⟨rfl, hR2.out, (Ro.refl.drewN _).trans ((Ro.set 1 _).trans hO2.out)⟩
def textR (s : Rs) : ByteArray × Rs := (strOfNums (takenR (numR s).1 (numR s).2), takeR (numR s).1 (numR s).2)
theorem Rok.text {s : Rs} (h : Rok s) : Rok (textR s).2 := h.num.take _
set_option maxRecDepth 100000 in
set_option maxHeartbeats 4000000 in
theorem rtext_any {w0 w : World} {gr : Nat} {s : Rs} (hR : RAt w0 w gr s) (hs : Rok s) : Calls Tryd.prog 42 #[.pointer (some ⟨gr, 0, none⟩)] w (RPost w0 w gr (.string (textR s).1) (textR s).2) := by
  have HN := Lib.hid (number_any hR hs)
  have HT := Lib.hid (show ∀ W, RAt w0 W gr (numR s).2 → Calls Tryd.prog 32 #[.pointer (some ⟨gr, 0, none⟩), .int .i64 (numR s).1] W (TPost w0 W gr (numR s).1 (numR s).2) from fun W hW => take_any hW (num_I64 hs))
  have HCS := Lib.hid (show ∀ (W : World) A c, Below w0.heap.size w0 W → Kd.C (Kd.int .u8) w0 A (takenR (numR s).1 (numR s).2).length (takenR (numR s).1 (numR s).2) → (convert 29 9 (.slice A (takenR (numR s).1 (numR s).2).length c)).run Tryd.prog W = .ok (.string (textR s).1) W from fun W A c hB hC => Kd.C_string (P := Tryd.prog) Tryd.underlying29 Tryd.underlying5 Tryd.underlying9 (Kd.C_below hC hB))
  unfold textR at *
  clear hR
  go_enter Tryd.func42, Tryd.ntmps42
  go_wp2_with (first
    | (go_at_call 34; refine HN.out.mono ?_; rintro e w1 ⟨rfl, hR1, hO1⟩; have HR1 := Lib.hid hR1; have HO1 := Lib.hid hO1; clear hR1 hO1)
    | (go_at_call 32; refine (HT.out _ HR1.out).mono ?_; rintro e w2 ⟨A2, c2, rfl, hc2, hC2, hR2, hO2⟩; have hcs := HCS.out w2 A2 c2 hR2.2.1 hC2; have HR2 := Lib.hid hR2; have HO2 := Lib.hid hO2; clear hR2 hO2 hC2))
  go_ret
  exact ⟨rfl, HR2.out, HO1.out.trans HO2.out⟩
def byteR (s : Rs) : Int × Rs := ((takenR 1 s).headD 0, takeR 1 s)
theorem Rok.byte {s : Rs} (h : Rok s) : Rok (byteR s).2 := h.take _
theorem byte_rng {s : Rs} (h : Rok s) : 0 ≤ (byteR s).1 ∧ (byteR s).1 < 256 := by
  have hB := h.taken 1
  unfold byteR
  cases hx : takenR 1 s with
  | nil => exact ⟨show (0 : Int) ≤ 0 by decide, show (0 : Int) < 256 by decide⟩
  | cons x xs => exact hB x (by rw [hx]; exact List.mem_cons_self)
set_option maxRecDepth 100000 in
set_option maxHeartbeats 4000000 in
theorem byte_any {w0 w : World} {gr : Nat} {s : Rs} (hR : RAt w0 w gr s) : Calls Tryd.prog 45 #[.pointer (some ⟨gr, 0, none⟩)] w (RPost w0 w gr (.int .u8 (byteR s).1) (byteR s).2) := by
  have hT := take_any hR (n := 1) ⟨by decide, by decide⟩
  unfold TPost at hT
  unfold byteR
  have hB := hR.2.1
  clear hR
  generalize takenR 1 s = t at *
  generalize takeR 1 s = s2 at *
  cases t with
  | nil =>
    have HT := Lib.hid hT
    clear hT
    go_enter Tryd.func45, Tryd.ntmps45
    go_wp2_with (go_at_call 32; refine HT.out.mono ?_; rintro e w2 ⟨A2, c2, rfl, hc2, hC2, hR2, hO2⟩; have HC2 := Lib.hid hC2; have HR2 := Lib.hid hR2; have HO2 := Lib.hid hO2; clear hR2 hO2 hC2)
    go_ret
    exact ⟨rfl, HR2.out, HO2.out⟩
  | cons x xs =>
    have HT := Lib.hid hT
    clear hT
    have d1 : (((x :: xs).length : Int) == 0) = false := by rw [List.length_cons, beq_eq_false_iff_ne]; omega
    have d2 : 0 < (x :: xs).length := by rw [List.length_cons]; omega
    have HX := Lib.hid (show rd (x :: xs) 0 = x from rfl)
    show Calls Tryd.prog 45 #[.pointer (some ⟨gr, 0, none⟩)] w (RPost w0 w gr (.int .u8 x) s2)
    generalize x :: xs = t at *
    go_enter Tryd.func45, Tryd.ntmps45
    go_wp2_with fail
    refine HT.out.mono ?_
    rintro e w2 ⟨A2, c2, rfl, hc2, hC2, hR2, hO2⟩
    have hC2' := Kd.C_below hC2 hR2.2.1
    obtain ⟨ad2, rfl, hx2⟩ := Kd.at_int hC2' 0 (by decide) (by omega)
    rw [HX.out] at hx2
    have hx2 : w2.cell? ad2 = some (.int .u8 x) := hx2
    have HR2 := Lib.hid hR2
    have HO2 := Lib.hid hO2
    clear hR2 hO2 hC2 hC2'
    go_wp2_with fail
    go_ret
    exact ⟨rfl, HR2.out, HO2.out⟩
def truthR (s : Rs) : Bool × Rs := ((byteR s).1 == 1, (byteR s).2)
theorem Rok.truth {s : Rs} (h : Rok s) : Rok (truthR s).2 := h.take _
set_option maxRecDepth 100000 in
set_option maxHeartbeats 4000000 in
theorem rtruth_any {w0 w : World} {gr : Nat} {s : Rs} (hR : RAt w0 w gr s) : Calls Tryd.prog 51 #[.pointer (some ⟨gr, 0, none⟩)] w (RPost w0 w gr (.bool (truthR s).1) (truthR s).2) := by
  have HT := Lib.hid (byte_any hR)
  unfold truthR
  clear hR
  generalize byteR s = r at *
  obtain ⟨b, s2⟩ := r
  go_enter Tryd.func51, Tryd.ntmps51
  go_wp2_with (go_at_call 45; refine HT.out.mono ?_; rintro e w2 ⟨rfl, hR2, hO2⟩; have HR2 := Lib.hid hR2; have HO2 := Lib.hid hO2; clear hR2 hO2)
  go_ret
  exact ⟨rfl, HR2.out, HO2.out⟩
end Go.Proofs.YtcfgmkmllcfjjaaDoor
