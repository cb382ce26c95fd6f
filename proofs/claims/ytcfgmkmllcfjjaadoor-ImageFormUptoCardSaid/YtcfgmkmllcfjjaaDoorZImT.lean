import Derived.Test.YtcfgmkmllcfjjaaDoorZImS
set_option linter.unusedVariables false
set_option linter.unusedSimpArgs false
namespace Go.Proofs.YtcfgmkmllcfjjaaDoor
open Go.RowKit Go.Proofs.YtcfgmkmllcfjjaaDoorW.PrintWords Go.Proofs.YtcfgmkmllcfjjaaDoorW.PrintMore PImageForm
abbrev Rs := List Int × Bool
def tk (n : Int) (l : List Int) : Nat := if 0 ≤ n ∧ n ≤ l.length then n.toNat else 0
def tbad (n : Int) (l : List Int) : Bool := !decide (0 ≤ n ∧ n ≤ l.length)
theorem tk_le (n : Int) (l : List Int) : tk n l ≤ l.length := by
  unfold tk
  split <;> omega
def takenR (n : Int) (s : Rs) : List Int := s.1.take (tk n s.1)
def takeR (n : Int) (s : Rs) : Rs := (s.1.drop (tk n s.1), s.2 || tbad n s.1)
def RAt (w0 w : World) (gr : Nat) (s : Rs) : Prop :=
  w0.heap.size ≤ gr ∧ Below w0.heap.size w0 w ∧ ∃ A c, w.heap[gr]? = some (.cells #[.slice A s.1.length c, .bool s.2] 55 (0, 0)) ∧ s.1.length ≤ c ∧ Kd.C (Kd.int .u8) w0 A s.1.length s.1
def Ro (gr : Nat) (w w' : World) : Prop := Only (fun k => k = gr) w w'
namespace Ro
variable {gr : Nat} {w w1 w2 : World}
theorem refl : Ro gr w w := Only.refl _ _
theorem trans (h : Ro gr w w1) (k : Ro gr w1 w2) : Ro gr w w2 := Only.trans h k (fun _ _ hn h2 => hn h2)
theorem of_below (h : Below w.heap.size w w1) : Ro gr w w1 := Only.of_below h
theorem blk {g : Nat} {o : Obj} (h : Ro gr w w1) (hb : w.heap[g]? = some o) (hn : g ≠ gr) : w1.heap[g]? = some o := Only.blk h hb hn
theorem set (i : Nat) (v : Value) : Ro gr w (w.setCell ⟨gr, i, none⟩ v) := Only.setCell _ _ rfl
theorem below {B : Nat} (h : Ro gr w w1) (hB : B ≤ w.heap.size) (hg : B ≤ gr) : Below B w w1 := Only.below h hB (fun b hb hs => by omega)
theorem drewN (h : Ro gr w w1) (n : Nat) : Ro gr w (w1.drewN n) := h.trans (of_below (pw_below_drewN (Below.refl _ _) n))
theorem drew (h : Ro gr w w1) : Ro gr w w1.drew := h.trans (of_below (below_drew (Below.refl _ _)))
end Ro
namespace RAt
variable {w0 w w' : World} {gr : Nat} {s : Rs}
theorem below (h : RAt w0 w gr s) (hB : Below w.heap.size w w') : RAt w0 w' gr s := by
  obtain ⟨h1, h2, A, c, hb, h3⟩ := h
  exact ⟨h1, h2.trans (hB.mono h2.size), A, c, blk_below hb hB, h3⟩
theorem lt (h : RAt w0 w gr s) : gr < w.heap.size := by
  obtain ⟨_, _, A, c, hb, _⟩ := h
  exact blk_lt' hb
theorem neq {g : Nat} {cs : Array Value} {t : TypeId} (h : RAt w0 w gr s) (hg : w.heap[g]? = some (.cells cs t (0, 0))) (ht : t ≠ 55) : g ≠ gr := by
  obtain ⟨_, _, A, c, hb, _⟩ := h
  exact blk_ne hg hb ht
theorem far (h : RAt w0 w gr s) {p i : Nat} (hp : w0.heap.size ≤ p) (hn : p ≠ gr) (v : Value) : RAt w0 (w.setCell ⟨p, i, none⟩ v) gr s := by
  obtain ⟨h1, h2, A, c, hb, h3⟩ := h
  exact ⟨h1, h2.setCell hp v, A, c, (Below.heap_setCell _ _ _ _ (fun e => hn e.symm)).trans hb, h3⟩
end RAt
def RPost (w0 w : World) (gr : Nat) (v : Value) (s : Rs) (e : Ending) (w' : World) : Prop := e = .returned v ∧ RAt w0 w' gr s ∧ Ro gr w w'
def TPost (w0 w : World) (gr : Nat) (n : Int) (s : Rs) (e : Ending) (w' : World) : Prop :=
  ∃ A c, e = .returned (.slice A (takenR n s).length c) ∧ (takenR n s).length ≤ c ∧ Kd.C (Kd.int .u8) w0 A (takenR n s).length (takenR n s) ∧ RAt w0 w' gr (takeR n s) ∧ Ro gr w w'
theorem take_mem {w0 w : World} {gr c k : Nat} {A : Option Addr} {l : List Int} {bad b1 : Bool} (h1 : w0.heap.size ≤ gr) (h2 : Below w0.heap.size w0 w) (hb : w.heap[gr]? = some (.cells #[.slice A l.length c, .bool b1] 55 (0, 0))) (hc : l.length ≤ c) (hC : Kd.C (Kd.int .u8) w0 A l.length l)
    (hk : k ≤ l.length) : RAt w0 (w.setCell ⟨gr, 0, none⟩ (.slice (if c = k then A else A.map (·.add (k * 1))) (l.length - k) (c - k))) gr (l.drop k, b1) := by
  have hd : (l.drop k).length = l.length - k := List.length_drop
  refine ⟨h1, h2.setCell h1 _, _, c - k, ?_, ?_, Kd.C_drop hC hk hc⟩
  · rw [hd]
    exact (blk_set hb 0 (.slice (if c = k then A else A.map (·.add (k * 1))) (l.length - k) (c - k))).trans rfl
  · show (l.drop k).length ≤ _
    rw [hd]
    omega
set_option maxRecDepth 100000 in
set_option maxHeartbeats 4000000 in
theorem take_any {w0 w : World} {gr : Nat} {n : Int} {s : Rs} (hR : RAt w0 w gr s) (hn : I64 n) : Calls Tryd.prog 32 #[.pointer (some ⟨gr, 0, none⟩), .int .i64 n] w (TPost w0 w gr n s) := by
  obtain ⟨l, bad⟩ := s
  obtain ⟨h1, h2, A, c, hb, hc, hC⟩ := hR
  have hb : w.heap[gr]? = some (.cells #[.slice A l.length c, .bool bad] 55 (0, 0)) := hb
  have hc : l.length ≤ c := hc
  have hC : Kd.C (Kd.int .u8) w0 A l.length l := hC
  have hm := Kd.C_max hC
  have g0 : w.cell? ⟨gr, 0, none⟩ = some (.slice A l.length c) := (blk_cell hb 0).trans rfl
  have g1 : w.cell? ⟨gr, 1, none⟩ = some (.bool bad) := (blk_cell hb 1).trans rfl
  have f0 := blk_frozen hb 0
  have f1 := blk_frozen hb 1
  obtain ⟨i0, hi, hzz⟩ := Option.map_eq_some_iff.1 info5
  simp only [Prod.mk.injEq] at hzz
  obtain ⟨hz0, hz1, hz2⟩ := hzz
  by_cases hin : 0 ≤ n ∧ n ≤ l.length
  · obtain ⟨hn0, hn1⟩ := hin
    obtain ⟨k, rfl⟩ := Int.eq_ofNat_of_zero_le hn0
    have htk : tk (k : Int) l = k := by unfold tk; rw [if_pos ⟨hn0, hn1⟩]; rfl
    have htb : tbad (k : Int) l = false := by unfold tbad; rw [decide_eq_true ⟨hn0, hn1⟩]; rfl
    have hkl : k ≤ l.length := by omega
    have ht := cut_to (P := Tryd.prog) 29 5 .i64 Tryd.underlying29 hi A l.length c (k : Int) (by omega) hn1 hc
    have hf := cut_from (P := Tryd.prog) 29 5 .i64 Tryd.underlying29 hi 1 hz1 A l.length c (k : Int) (by omega) hn1
    rw [Int.toNat_natCast] at ht hf
    have HM := Lib.hid (take_mem (bad := bad) h1 h2 hb hc hC hkl)
    have HC := Lib.hid (Kd.C_take hC hkl)
    have hl : (l.take k).length = k := by rw [List.length_take]; omega
    have HL := Lib.hid hl
    have HTK := Lib.hid htk
    have HTB := Lib.hid htb
    have HCC := Lib.hid hc
    have d1 : decide ((k : Int) < 0) = false := decide_eq_false (by omega)
    have d2 : decide ((l.length : Int) < (k : Int)) = false := decide_eq_false (by omega)
    generalize (if c = k then A else A.map (·.add (k * 1))) = A1 at *
    clear hl htk htb hC hb h2 hi hz0 hz1 hz2 hn hc
    go_enter Tryd.func32, Tryd.ntmps32
    go_wp2_with fail
    go_ret
    refine ⟨A, c, ?_, ?_, ?_, ?_, Ro.set 0 _⟩
    · simp only [takenR, HTK.out, HL.out]; rfl
    · simp only [takenR, HTK.out, HL.out]; have := HCC.out; omega
    · simp only [takenR, HTK.out]; exact HC.out
    · simp only [takeR, HTK.out, HTB.out, Bool.or_false]; exact HM.out
  · have htk : tk n l = 0 := by unfold tk; rw [if_neg hin]
    have htb : tbad n l = true := by unfold tbad; rw [decide_eq_false hin]; rfl
    have ht := cut_to (P := Tryd.prog) 29 5 .i64 Tryd.underlying29 hi A l.length c 0 (by omega) (by omega) hc
    have hf := cut_from (P := Tryd.prog) 29 5 .i64 Tryd.underlying29 hi 1 hz1 A l.length c 0 (by omega) (by omega)
    have hb' : (w.setCell ⟨gr, 1, none⟩ (.bool true)).heap[gr]? = some (.cells #[.slice A l.length c, .bool true] 55 (0, 0)) := by simpa using blk_set hb 1 (.bool true)
    have HM := Lib.hid (take_mem (bad := bad) (k := 0) h1 (h2.setCell (p := ⟨gr, 1, none⟩) h1 (.bool true)) hb' hc hC (Nat.zero_le _))
    rw [show ((0 : Int)).toNat = 0 from rfl] at ht hf
    have HC := Lib.hid (Kd.C_take hC (Nat.zero_le l.length))
    have HTK := Lib.hid htk
    have HTB := Lib.hid htb
    have HMX := Lib.hid (Ro.trans (Ro.set (w := w) 1 (.bool true)) (Ro.set (gr := gr) 0 (.slice (if c = 0 then A else A.map (·.add (0 * 1))) (l.length - 0) (c - 0))))
    generalize (if c = 0 then A else A.map (·.add (0 * 1))) = A1 at *
    have HIN := Lib.hid hin
    clear htk htb hC hb hb' h2 hi hz0 hz1 hz2 hn hc hin
    by_cases hn0 : n < 0
    · have d1 : decide (n < 0) = true := decide_eq_true hn0
      clear hn0
      go_enter Tryd.func32, Tryd.ntmps32
      go_wp2_with fail
      go_ret
      refine ⟨A, c, ?_, ?_, ?_, ?_, HMX.out⟩
      · simp [takenR, HTK.out]
      · simp [takenR, HTK.out]
      · simp only [takenR, HTK.out]; exact HC.out
      · simp only [takeR, HTK.out, HTB.out, Bool.or_true]; exact HM.out
    · have d1 : decide (n < 0) = false := decide_eq_false hn0
      have d2 : decide ((l.length : Int) < n) = true := decide_eq_true (by have := HIN.out; omega)
      clear hn0
      go_enter Tryd.func32, Tryd.ntmps32
      go_wp2_with fail
      go_ret
      refine ⟨A, c, ?_, ?_, ?_, ?_, HMX.out⟩
      · simp [takenR, HTK.out]
      · simp [takenR, HTK.out]
      · simp only [takenR, HTK.out]; exact HC.out
      · simp only [takeR, HTK.out, HTB.out, Bool.or_true]; exact HM.out
end Go.Proofs.YtcfgmkmllcfjjaaDoor
