import Derived.Test.YtcfgmkmllcfjjaaGreatDoorZBB
import Derived.Test.YtcfgmkmllcfjjaaGreatDoorZAI
import Derived.Test.YtcfgmkmllcfjjaaGreatDoorZAJ
import Derived.Test.YtcfgmkmllcfjjaaGreatDoorZAC
import Derived.Test.YtcfgmkmllcfjjaaGreatDoorZAK
set_option linter.unusedVariables false
set_option linter.unusedSimpArgs false
namespace Go.Proofs.YtcfgmkmllcfjjaaGreatDoor
open Go.RowKit Go.Proofs.YtcfgmkmllcfjjaaGreatDoorW.PrintWords Go.Proofs.YtcfgmkmllcfjjaaGreatDoorW.PrintMore PImageAll
theorem BRow.rd {w : World} {base c : Nat} {A : Option Addr} {l : List Int} (h : BRow w base (.slice A l.length c) l) : l.length ≤ c ∧ Kd.C (Kd.int .u8) w A l.length l := by
  have hR : Kd.R (Kd.int .u8) 5 w base (fun _ => True) (.slice A l.length c) l := Kd.R_of_own h (fun _ _ => trivial)
  exact ⟨(Kd.R_reads' hR).2.1, (Kd.R_reads' hR).2.2⟩
theorem rPut_any {n : Int} (h : I64 n) (w : World) : Calls Tryz.prog 97 #[.int .i64 n] w fun e w' => ∃ A c, e = .returned (.slice A (puti n).length c) ∧ BRow w' w.heap.size (.slice A (puti n).length c) (puti n) ∧ Below w.heap.size w w' := by
  refine (qa1.calls 12 n (puti n) w (rPutInt_f h (by decide))).mono ?_
  rintro e w' ⟨v, rfl, hr, hb⟩
  have ho := Kd.own_of_R hr
  obtain ⟨A, c, rfl⟩ := own_slice ho
  exact ⟨A, c, rfl, ho, hb⟩
section
variable {ops : Array Oper} {rest : List Oper} {o : Oper} {a : Act} {Q : Exit → Act → World → Prop}
theorem rapp {w0 W : World} (hgd : o.guard = none) (s x : Operand) (ho : o.op = .call { callee := .builtin .append, args := #[s, x], argTypes := #[33, 33] })
    (v : Value) (l ys : List Int) (A : Option Addr) (c b1 : Nat) (hs : a.eval s = v) (hx : a.eval x = .slice A ys.length c) (HO : BRow W w0.heap.size v l) (HY : BRow W b1 (.slice A ys.length c) ys) (HB : Below w0.heap.size w0 W) (hl : l.length + ys.length ≤ 140000000000000)
    (h : ∀ v1 w1, Hid (BRow w1 w0.heap.size v1 (l ++ ys)) → Hid (Below w0.heap.size w0 w1) → W.grownBy w1 v.ownBlock → wpList Tryz.prog ops Q rest (a.put o.dst v1) w1) :
    wpList Tryz.prog ops Q (o :: rest) a W := by
  refine print_append_row (w0 := w0) w0.heap.size hgd s x 33 5 .u8 1 ho Tryz.underlying33 info5 (by decide) v l ys A ys.length c hs hx HO (readsInt_of.2 (Kd.reads_of_C (enc := Value.int .u8) (d := (0 : Int)) (h1 := fun _ => rfl) HY.rd.2)) HB HB.size (by omega) ?_
  intro v1 w1 h1 h2 h3 _
  exact h v1 w1 (Lib.hid h1) (Lib.hid h2) h3
theorem rapps {w0 W : World} (hgd : o.guard = none) (s x : Operand) (ho : o.op = .call { callee := .builtin .append, args := #[s, x], argTypes := #[33, 9] })
    (v : Value) (l : List Int) (y : ByteArray) (hs : a.eval s = v) (hx : a.eval x = .string y) (HO : BRow W w0.heap.size v l) (HB : Below w0.heap.size w0 W) (hl : l.length + y.size ≤ 140000000000000)
    (h : ∀ v1 w1, Hid (BRow w1 w0.heap.size v1 (l ++ bytesOf y)) → Hid (Below w0.heap.size w0 w1) → W.grownBy w1 v.ownBlock → wpList Tryz.prog ops Q rest (a.put o.dst v1) w1) :
    wpList Tryz.prog ops Q (o :: rest) a W := by
  refine print_append_str (w0 := w0) w0.heap.size hgd s x 33 9 5 ho Tryz.underlying33 Tryz.underlying9 info5 v l y hs hx HO HB HB.size (by omega) ?_
  intro v1 w1 h1 h2 h3
  exact h v1 w1 (Lib.hid h1) (Lib.hid h2) h3
end
theorem encVal_le' {x : S67} (h : ValOk x) : (encVal x).length ≤ 300 := by
  unfold encVal
  rcases h with ⟨n, hn⟩ | ⟨s, hs⟩ | ⟨b⟩
  · have := puti_len hn; simp; omega
  · have := txt_len s (by omega); simp; omega
  · simp
theorem flat_le' {α : Type} {f : α → List Int} {xs : List α} {B : Nat} (h : ∀ x ∈ xs, (f x).length ≤ B) : (xs.flatMap f).length ≤ xs.length * B := by
  induction xs with
  | nil => simp
  | cons x xs ih =>
    have h1 := h x List.mem_cons_self
    have h2 := ih (fun y hy => h y (List.mem_cons_of_mem _ hy))
    rw [List.flatMap_cons, List.length_append, List.length_cons, Nat.add_mul]
    omega
theorem name_size {s : ByteArray} (h : nameB s = true) : s.size ≤ 32 := by
  unfold nameB at h
  by_cases h0 : 0 < s.size
  · rw [dif_pos h0] at h
    simp only [Bool.and_eq_true, decide_eq_true_eq] at h
    exact h.1.1.1
  · omega
def REPost (w : World) (x : S63) (e : Ending) (w' : World) : Prop := ∃ v, e = .returned (.tuple #[v, .int .i64 (faultN x)]) ∧ BRow w' w.heap.size v (encB x) ∧ Below w.heap.size w w'
theorem REPost.bad {w w' : World} {x : S63} {F : Int} (hF : faultN x = F) (hn : F ≠ 0) (hB : Below w.heap.size w w') : REPost w x (.returned (.tuple #[.slice none 0 0, .int .i64 F])) w' :=
  ⟨_, by rw [hF], by unfold encB; rw [if_neg (by rw [hF]; exact hn)]; exact BRow.nil _ _, hB⟩
set_option maxRecDepth 100000 in
set_option maxHeartbeats 8000000 in
theorem rEncode_any {w : World} {x : S63} {A : Option Addr} {c : Nat} (hC : Kd.C k67 w A x.f2.length x.f2) (hc : x.f2.length ≤ c) (hxl : x.f2.length ≤ 9223372036854775807) (hv : ∀ y ∈ x.f2, I64 y.f1) :
    Calls Tryz.prog 56 #[.agg #[.string x.f0, .int .i64 x.f1, .slice A x.f2.length c]] w (REPost w x) := by
  generalize hW0 : w.alloc (.cells #[.string x.f0, .int .i64 x.f1, .slice A x.f2.length c] 63) = W0
  have HW0 := Lib.hid hW0
  have hb0 : Below w.heap.size w W0 := by rw [← hW0]; exact below_new w _
  have hX : W0.heap[w.heap.size]? = some (.cells #[.string x.f0, .int .i64 x.f1, .slice A x.f2.length c] 63 (0, 0)) := by rw [← hW0]; exact blk_new w _
  have HB0 := Lib.hid hb0
  have HC := Lib.hid (Kd.C_below hC hb0)
  have HN := Lib.hid (rName_any x.f0 W0)
  have c0 : W0.cell? ⟨w.heap.size, 0, none⟩ = some (.string x.f0) := (blk_cell hX 0).trans rfl
  have c1 : W0.cell? ⟨w.heap.size, 1, none⟩ = some (.int .i64 x.f1) := (blk_cell hX 1).trans rfl
  have c2 : W0.cell? ⟨w.heap.size, 2, none⟩ = some (.slice A x.f2.length c) := (blk_cell hX 2).trans rfl
  have HF0 : faultN x = if nameB x.f0 = true then (if 0 ≤ x.f1 ∧ x.f1 ≤ 4611686018427387904 then (if x.f2.length ≤ 16 then (if x.f2.all validB = true then 0 else 12) else 2) else 23) else 20 := rfl
  have HF := Lib.hid HF0
  have HV := Lib.hid hv
  clear hC hW0 hb0 hX HF0 hv
  by_cases hn : nameB x.f0 = true
  · rw [hn] at HN
    have HF := Lib.hid (HF.out.trans (if_pos hn))
    have hsz := name_size hn
    clear hn
    by_cases ht : 0 ≤ x.f1 ∧ x.f1 ≤ 4611686018427387904
    · have HF := Lib.hid (HF.out.trans (if_pos ht))
      have t1 : decide (x.f1 < 0) = false := decide_eq_false (by omega)
      have t2 : decide (4611686018427387904 < x.f1) = false := decide_eq_false (by omega)
      have HIT := Lib.hid (show I64 x.f1 from ⟨by omega, by omega⟩)
      clear ht
      by_cases hk : x.f2.length ≤ 16
      · have HF := Lib.hid (HF.out.trans (if_pos hk))
        have t3 : decide (16 < (x.f2.length : Int)) = false := decide_eq_false (by omega)
        have HIS : I64 (x.f0.size : Int) := ⟨by omega, by omega⟩
        have HIL : I64 (x.f2.length : Int) := ⟨by omega, by omega⟩
        have q1 := puti_len HIS
        have q2 := puti_len HIT.out
        have q3 := puti_len HIL
        have hbl := bytesOf_length x.f0
        have HP1 := Lib.hid (fun W => rPut_any HIS W)
        have HP2 := Lib.hid (fun W => rPut_any HIT.out W)
        have HP3 := Lib.hid (fun W => rPut_any HIL W)
        obtain ⟨L1, hL1⟩ : ∃ L1, L1 = puti (x.f0.size : Int) := ⟨_, rfl⟩
        obtain ⟨L2, hL2⟩ : ∃ L2, L2 = puti x.f1 := ⟨_, rfl⟩
        obtain ⟨L3, hL3⟩ : ∃ L3, L3 = puti (x.f2.length : Int) := ⟨_, rfl⟩
        have HE := Lib.hid (show encEvent x = ((L1 ++ bytesOf x.f0) ++ L2) ++ L3 ++ x.f2.flatMap encVal by rw [hL1, hL2, hL3]; simp only [encEvent, txt, List.append_assoc])
        rw [← hL1] at HP1 q1
        rw [← hL2] at HP2 q2
        rw [← hL3] at HP3 q3
        have HL4 := Lib.hid (show (((L1 ++ bytesOf x.f0) ++ L2) ++ L3).length ≤ 100 by simp only [List.length_append]; omega)
        have HL5 := Lib.hid (show L1.length + x.f0.size ≤ 140000000000000 by omega)
        have HL6 := Lib.hid (show (L1 ++ bytesOf x.f0).length + L2.length ≤ 140000000000000 by simp only [List.length_append]; omega)
        have HL7 := Lib.hid (show ((L1 ++ bytesOf x.f0) ++ L2).length + L3.length ≤ 140000000000000 by simp only [List.length_append]; omega)
        have C0 := Lib.hid c0
        have C1 := Lib.hid c1
        have C2 := Lib.hid c2
        clear hL1 hL2 hL3 q1 q2 q3 HIS HIL hbl
        go_enter Tryz.func56, Tryz.ntmps56
        go_wp2_with fail
        rw [HW0.out]
        go_wp2_with (first
          | (go_at_call 55; refine HN.out.mono ?_; rintro e w1 ⟨rfl, hB1⟩; have HB1 := Lib.hid hB1; have c01 := pw_cell_below hB1 c0; have c11 := pw_cell_below hB1 c1; have c21 := pw_cell_below hB1 c2; clear hB1 c0 c1 c2)
          | (go_at_call 97; (with_reducible refine (HP1.out w1).mono ?_); rintro e w2 ⟨A2, d2, rfl, hO2, hB2⟩; have HO2 := Lib.hid (own_less hO2 HB1.out.size); have HB2 := Lib.hid (below_step HB1.out hB2); have c02 := pw_cell_below hB2 c01; have c12 := pw_cell_below hB2 c11; have c22 := pw_cell_below hB2 c21; clear hO2 hB2 c01 c11 c21)
          | (at_builtin; refine rapps (w0 := W0) rfl _ _ rfl _ _ x.f0 rfl rfl HO2.out HB2.out HL5.out ?_; intro v3 w3 HO3 HB3 hg3; clear hg3; have c03 := pw_cell_below HB3.out C0.out; have c13 := pw_cell_below HB3.out C1.out; have c23 := pw_cell_below HB3.out C2.out; clear c02 c12 c22)
          | (go_at_call 97; (with_reducible refine (HP2.out w3).mono ?_); rintro e w4 ⟨A4, d4, rfl, hO4, hB4⟩; have HY4 := Lib.hid hO4; have HO4 := Lib.hid (BRow.below HO3.out hB4); have HB4 := Lib.hid (below_step HB3.out hB4); clear hO4 hB4)
          | (at_builtin; refine rapp (w0 := W0) rfl _ _ rfl _ _ L2 A4 d4 _ rfl rfl HO4.out HY4.out HB4.out HL6.out ?_; intro v5 w5 HO5 HB5 hg5; clear hg5; have c05 := pw_cell_below HB5.out C0.out; have c15 := pw_cell_below HB5.out C1.out; have c25 := pw_cell_below HB5.out C2.out)
          | (go_at_call 97; (with_reducible refine (HP3.out w5).mono ?_); rintro e w6 ⟨A6, d6, rfl, hO6, hB6⟩; have HY6 := Lib.hid hO6; have HO6 := Lib.hid (BRow.below HO5.out hB6); have HB6 := Lib.hid (below_step HB5.out hB6); clear hO6 hB6)
          | (at_builtin; refine rapp (w0 := W0) rfl _ _ rfl _ _ L3 A6 d6 _ rfl rfl HO6.out HY6.out HB6.out HL7.out ?_; intro v7 w7 HO7 HB7 hg7; clear hg7))
        generalize ((L1 ++ bytesOf x.f0) ++ L2) ++ L3 = L at *
        go_loopw [4, 5] (fun t4 t5 wr => ∃ k : Nat, k ≤ x.f2.length ∧ t5 = .int .i64 k ∧ Hid (BRow wr W0.heap.size t4 (L ++ (x.f2.take k).flatMap encVal)) ∧ Hid (Below W0.heap.size W0 wr) ∧ Hid (∀ y ∈ x.f2.take k, validB y = true)) (fun _ t5 _ => x.f2.length - (intOf t5).toNat)
        case atStart => exact ⟨0, by omega, rfl, by simpa using HO7, HB7, Lib.hid (by simp)⟩
        case round =>
          obtain ⟨k, hk2, rfl, hO, hB, hP⟩ := hrel
          have cc0 := pw_cell_below hB.out C0.out
          have cc1 := pw_cell_below hB.out C1.out
          have cc2 := pw_cell_below hB.out C2.out
          by_cases hlt : k < x.f2.length
          · have i1 : (0 : Int) ≤ (k : Int) := by omega
            have i2 : (k : Int) < x.f2.length := by omega
            obtain ⟨ad, rfl, q0, q1, q2, q3⟩ := atVal (Kd.C_below HC.out hB.out) k hlt hlt
            have hmem := List.getElem_mem hlt
            have hT := take_flat encVal L x.f2 k hlt
            have hT1 : x.f2.take (k + 1) = x.f2.take k ++ [x.f2[k]] := List.take_succ_eq_append_getElem hlt
            have hIy := HV.out _ hmem
            have hlen : (L ++ (x.f2.take k).flatMap encVal).length ≤ 100000 := by
              have h1 := flat_le' (f := encVal) (xs := x.f2.take k) (B := 300) (fun y hy => encVal_le' (validB_ok (hP.out y hy) (HV.out _ (List.mem_of_mem_take hy))))
              have h2 := HL4.out
              rw [List.length_append]
              rw [List.length_take] at h1
              have h3 : min k x.f2.length * 300 ≤ 16 * 300 := Nat.mul_le_mul_right _ (by omega)
              omega
            generalize hyy : x.f2[k] = y at *
            have hbn := below_new wr (.cells #[.int .i64 y.f0, .int .i64 y.f1, .string y.f2, .bool y.f3] 67)
            have hyx := blk_new wr (.cells #[.int .i64 y.f0, .int .i64 y.f1, .string y.f2, .bool y.f3] 67)
            have HVY := Lib.hid (rValid_any y (wr.alloc (.cells #[.int .i64 y.f0, .int .i64 y.f1, .string y.f2, .bool y.f3] 67)))
            have HBN := Lib.hid hbn
            have HYX := Lib.hid hyx
            have HXO := Lib.hid (fun v (h : BRow wr W0.heap.size v (L ++ (x.f2.take k).flatMap encVal)) => show some wr.heap.size ≠ v.ownBlock from fun he => by have := own_lt h _ he.symm; omega)
            clear hbn hyx
            by_cases hv : validB y = true
            · rw [hv] at HVY
              have HP2 := Lib.hid (show ∀ z ∈ x.f2.take (k + 1), validB z = true from fun z hz => by
                rw [hT1] at hz
                rcases List.mem_append.1 hz with hz | hz
                · exact hP.out z hz
                · rw [List.mem_singleton] at hz; subst hz; exact hv)
              have HT := Lib.hid hT
              have hok := validB_ok hv hIy
              clear hv hP hT hT1 hmem hIy hyy
              generalize L ++ (x.f2.take k).flatMap encVal = Lk at *
              have HLk := Lib.hid hlen
              rcases hok with ⟨n, hn⟩ | ⟨s, hs⟩ | ⟨b⟩
              · have q4 := puti_len hn; have HPN := Lib.hid (fun W => rPut_any hn W)
                go_wp2_with (first
                  | (go_at_call 98; refine HVY.out.mono ?_; rintro e w8 ⟨rfl, hB8⟩; have hx := blk_below HYX.out hB8; have HX8 := Lib.hid hx; have y0 : w8.cell? ⟨wr.heap.size, 0, none⟩ = some (.int .i64 1) := (blk_cell hx 0).trans rfl; have y1 : w8.cell? ⟨wr.heap.size, 1, none⟩ = some (.int .i64 n) := (blk_cell hx 1).trans rfl; have y2 : w8.cell? ⟨wr.heap.size, 2, none⟩ = some (.string ⟨#[]⟩) := (blk_cell hx 2).trans rfl; have y3 : w8.cell? ⟨wr.heap.size, 3, none⟩ = some (.bool false) := (blk_cell hx 3).trans rfl; have HO8 := Lib.hid (BRow.below (BRow.below hO.out HBN.out) hB8); have HB8 := Lib.hid (below_step hB.out (below_step HBN.out hB8)); clear hB8 hx)
                  | (at_builtin; refine bapp (w0 := W0) (W := w8) w8.heap.size rfl rfl _ _ rfl u4 Lk 1 rfl rfl HO8.out HB8.out (by have := HLk.out; omega) ?_; intro v9 w9 HO9 HB9 hg9; have hx := blk_grown HX8.out hg9 (HXO.out _ hO.out); clear y0 y1 y2 y3; have y0 : w9.cell? ⟨wr.heap.size, 0, none⟩ = some (.int .i64 1) := (blk_cell hx 0).trans rfl; have y1 : w9.cell? ⟨wr.heap.size, 1, none⟩ = some (.int .i64 n) := (blk_cell hx 1).trans rfl; have y2 : w9.cell? ⟨wr.heap.size, 2, none⟩ = some (.string ⟨#[]⟩) := (blk_cell hx 2).trans rfl; have y3 : w9.cell? ⟨wr.heap.size, 3, none⟩ = some (.bool false) := (blk_cell hx 3).trans rfl; clear hg9)
                  | (go_at_call 97; (with_reducible refine (HPN.out _).mono ?_); rintro e w10 ⟨A10, d10, rfl, hO10, hB10⟩; have HY10 := Lib.hid hO10; have HO10 := Lib.hid (BRow.below HO9.out hB10); have HB10 := Lib.hid (below_step HB9.out hB10); clear hO10 hB10 hx)
                  | (at_builtin; refine rapp (w0 := W0) rfl _ _ rfl v9 (Lk ++ [1]) (puti n) A10 d10 _ rfl rfl HO10.out HY10.out HB10.out (by have := HLk.out; rw [List.length_append, List.length_singleton]; omega) ?_; intro v11 w11 HO11 HB11 hg11; clear hg11))
                go_roundw
                case rel => exact ⟨k + 1, by omega, by go_num, by rw [HT.out]; exact Lib.hid (by have h := HO11.out; rw [List.append_assoc] at h; exact h), HB11, HP2⟩
                case measure => simp [intOf]; omega
              · have HIs : I64 (s.size : Int) := ⟨by omega, by omega⟩; have q4 := puti_len HIs; have HPN := Lib.hid (fun W => rPut_any HIs W)
                go_wp2_with (first
                  | (go_at_call 98; refine HVY.out.mono ?_; rintro e w8 ⟨rfl, hB8⟩; have hx := blk_below HYX.out hB8; have HX8 := Lib.hid hx; have y0 : w8.cell? ⟨wr.heap.size, 0, none⟩ = some (.int .i64 2) := (blk_cell hx 0).trans rfl; have y1 : w8.cell? ⟨wr.heap.size, 1, none⟩ = some (.int .i64 0) := (blk_cell hx 1).trans rfl; have y2 : w8.cell? ⟨wr.heap.size, 2, none⟩ = some (.string s) := (blk_cell hx 2).trans rfl; have y3 : w8.cell? ⟨wr.heap.size, 3, none⟩ = some (.bool false) := (blk_cell hx 3).trans rfl; have HO8 := Lib.hid (BRow.below (BRow.below hO.out HBN.out) hB8); have HB8 := Lib.hid (below_step hB.out (below_step HBN.out hB8)); clear hB8 hx)
                  | (at_builtin; refine bapp (w0 := W0) (W := w8) w8.heap.size rfl rfl _ _ rfl u4 Lk 2 rfl rfl HO8.out HB8.out (by have := HLk.out; omega) ?_; intro v9 w9 HO9 HB9 hg9; have hx := blk_grown HX8.out hg9 (HXO.out _ hO.out); clear y0 y1 y2 y3; have y0 : w9.cell? ⟨wr.heap.size, 0, none⟩ = some (.int .i64 2) := (blk_cell hx 0).trans rfl; have y1 : w9.cell? ⟨wr.heap.size, 1, none⟩ = some (.int .i64 0) := (blk_cell hx 1).trans rfl; have y2 : w9.cell? ⟨wr.heap.size, 2, none⟩ = some (.string s) := (blk_cell hx 2).trans rfl; have y3 : w9.cell? ⟨wr.heap.size, 3, none⟩ = some (.bool false) := (blk_cell hx 3).trans rfl; clear hg9)
                  | (go_at_call 97; (with_reducible refine (HPN.out _).mono ?_); rintro e w10 ⟨A10, d10, rfl, hO10, hB10⟩; have HY10 := Lib.hid hO10; have HO10 := Lib.hid (BRow.below HO9.out hB10); have HX10 := Lib.hid (blk_below hx hB10); have HB10 := Lib.hid (below_step HB9.out hB10); have HXO9 := Lib.hid (own_ne HO9.out hx (by decide)); clear hO10 hB10 hx y0 y1 y2 y3)
                  | (at_builtin; refine rapp (w0 := W0) rfl _ _ rfl v9 (Lk ++ [2]) (puti (s.size : Int)) A10 d10 _ rfl rfl HO10.out HY10.out HB10.out (by have := HLk.out; rw [List.length_append, List.length_singleton]; omega) ?_; intro v11 w11 HO11 HB11 hg11; have hx := blk_grown HX10.out hg11 HXO9.out; have y2 : w11.cell? ⟨wr.heap.size, 2, none⟩ = some (.string s) := (blk_cell hx 2).trans rfl; have y0 : w11.cell? ⟨wr.heap.size, 0, none⟩ = some (.int .i64 2) := (blk_cell hx 0).trans rfl; clear hg11)
                  | (at_builtin; refine rapps (w0 := W0) rfl _ _ rfl v11 ((Lk ++ [2]) ++ puti (s.size : Int)) s rfl rfl HO11.out HB11.out (by have := HLk.out; rw [List.length_append, List.length_append, List.length_singleton]; omega) ?_; intro v12 w12 HO12 HB12 hg12; clear hg12))
                go_roundw
                case rel => exact ⟨k + 1, by omega, by go_num, by rw [HT.out]; exact Lib.hid (by have h := HO12.out; rw [List.append_assoc, List.append_assoc] at h; exact h), HB12, HP2⟩
                case measure => simp [intOf]; omega
              · cases b
                · go_wp2_with (first
                    | (go_at_call 98; refine HVY.out.mono ?_; rintro e w8 ⟨rfl, hB8⟩; have hx := blk_below HYX.out hB8; have HX8 := Lib.hid hx; have y0 : w8.cell? ⟨wr.heap.size, 0, none⟩ = some (.int .i64 3) := (blk_cell hx 0).trans rfl; have y1 : w8.cell? ⟨wr.heap.size, 1, none⟩ = some (.int .i64 0) := (blk_cell hx 1).trans rfl; have y2 : w8.cell? ⟨wr.heap.size, 2, none⟩ = some (.string ⟨#[]⟩) := (blk_cell hx 2).trans rfl; have y3 : w8.cell? ⟨wr.heap.size, 3, none⟩ = some (.bool false) := (blk_cell hx 3).trans rfl; have HO8 := Lib.hid (BRow.below (BRow.below hO.out HBN.out) hB8); have HB8 := Lib.hid (below_step hB.out (below_step HBN.out hB8)); clear hB8 hx)
                    | (at_builtin; refine bapp (w0 := W0) (W := w8) w8.heap.size rfl rfl _ _ rfl u4 Lk 3 rfl rfl HO8.out HB8.out (by have := HLk.out; omega) ?_; intro v9 w9 HO9 HB9 hg9; have hx := blk_grown HX8.out hg9 (HXO.out _ hO.out); clear y0 y1 y2 y3; have y0 : w9.cell? ⟨wr.heap.size, 0, none⟩ = some (.int .i64 3) := (blk_cell hx 0).trans rfl; have y1 : w9.cell? ⟨wr.heap.size, 1, none⟩ = some (.int .i64 0) := (blk_cell hx 1).trans rfl; have y2 : w9.cell? ⟨wr.heap.size, 2, none⟩ = some (.string ⟨#[]⟩) := (blk_cell hx 2).trans rfl; have y3 : w9.cell? ⟨wr.heap.size, 3, none⟩ = some (.bool false) := (blk_cell hx 3).trans rfl; clear hg9)
                    | (at_builtin; refine bapp (w0 := W0) (W := w9) w9.heap.size rfl rfl _ _ rfl v9 (Lk ++ [3]) 0 rfl rfl HO9.out HB9.out (by have := HLk.out; rw [List.length_append, List.length_singleton]; omega) ?_; intro v11 w11 HO11 HB11 hg11; clear hg11))
                  go_roundw
                  case rel => exact ⟨k + 1, by omega, by go_num, by rw [HT.out]; exact Lib.hid (by have h := HO11.out; rw [List.append_assoc] at h; exact h), HB11, HP2⟩
                  case measure => simp [intOf]; omega
                · go_wp2_with (first
                    | (go_at_call 98; refine HVY.out.mono ?_; rintro e w8 ⟨rfl, hB8⟩; have hx := blk_below HYX.out hB8; have HX8 := Lib.hid hx; have y0 : w8.cell? ⟨wr.heap.size, 0, none⟩ = some (.int .i64 3) := (blk_cell hx 0).trans rfl; have y1 : w8.cell? ⟨wr.heap.size, 1, none⟩ = some (.int .i64 0) := (blk_cell hx 1).trans rfl; have y2 : w8.cell? ⟨wr.heap.size, 2, none⟩ = some (.string ⟨#[]⟩) := (blk_cell hx 2).trans rfl; have y3 : w8.cell? ⟨wr.heap.size, 3, none⟩ = some (.bool true) := (blk_cell hx 3).trans rfl; have HO8 := Lib.hid (BRow.below (BRow.below hO.out HBN.out) hB8); have HB8 := Lib.hid (below_step hB.out (below_step HBN.out hB8)); clear hB8 hx)
                    | (at_builtin; refine bapp (w0 := W0) (W := w8) w8.heap.size rfl rfl _ _ rfl u4 Lk 3 rfl rfl HO8.out HB8.out (by have := HLk.out; omega) ?_; intro v9 w9 HO9 HB9 hg9; have hx := blk_grown HX8.out hg9 (HXO.out _ hO.out); clear y0 y1 y2 y3; have y0 : w9.cell? ⟨wr.heap.size, 0, none⟩ = some (.int .i64 3) := (blk_cell hx 0).trans rfl; have y1 : w9.cell? ⟨wr.heap.size, 1, none⟩ = some (.int .i64 0) := (blk_cell hx 1).trans rfl; have y2 : w9.cell? ⟨wr.heap.size, 2, none⟩ = some (.string ⟨#[]⟩) := (blk_cell hx 2).trans rfl; have y3 : w9.cell? ⟨wr.heap.size, 3, none⟩ = some (.bool true) := (blk_cell hx 3).trans rfl; clear hg9)
                    | (at_builtin; refine bapp (w0 := W0) (W := w9) w9.heap.size rfl rfl _ _ rfl v9 (Lk ++ [3]) 1 rfl rfl HO9.out HB9.out (by have := HLk.out; rw [List.length_append, List.length_singleton]; omega) ?_; intro v11 w11 HO11 HB11 hg11; clear hg11))
                  go_roundw
                  case rel => exact ⟨k + 1, by omega, by go_num, by rw [HT.out]; exact Lib.hid (by have h := HO11.out; rw [List.append_assoc] at h; exact h), HB11, HP2⟩
                  case measure => simp [intOf]; omega
            · have HFF : faultN x = 12 := HF.out.trans (if_neg (fun h => hv (by have := List.all_eq_true.mp h _ hmem; exact this)))
              have HFF := Lib.hid HFF
              have hv' : validB y = false := by simpa using hv
              rw [hv'] at HVY
              clear hv hv' hP hT hT1 hmem hIy hyy
              go_wp2_with (go_at_call 98; refine HVY.out.mono ?_; rintro e w8 ⟨rfl, hB8⟩; have HB8 := Lib.hid (below_step hB.out (below_step HBN.out hB8)); clear hB8)
              go_ret2
              exact REPost.bad HFF.out (by decide) (below_step HB0.out HB8.out)
          · obtain rfl : k = x.f2.length := by omega
            go_wp2_with fail
            go_ret2
            have hO := hO.out
            have hP := hP.out
            rw [List.take_length] at hO hP
            have hF : faultN x = 0 := HF.out.trans (if_pos (List.all_eq_true.mpr hP))
            refine ⟨u4, by (rw [hF]; rfl), ?_, below_step HB0.out hB.out⟩
            unfold encB
            rw [if_pos hF, HE.out]
            exact own_less hO HB0.out.size
      · have HF := Lib.hid (HF.out.trans (if_neg hk))
        have t3 : decide (16 < (x.f2.length : Int)) = true := decide_eq_true (by omega)
        go_enter Tryz.func56, Tryz.ntmps56
        go_wp2_with fail
        rw [HW0.out]
        go_wp2_with (go_at_call 55; refine HN.out.mono ?_; rintro e w1 ⟨rfl, hB1⟩; have HB1 := Lib.hid hB1; have c01 := pw_cell_below hB1 c0; have c11 := pw_cell_below hB1 c1; have c21 := pw_cell_below hB1 c2; clear hB1)
        go_ret2
        exact REPost.bad HF.out (by decide) (below_step HB0.out HB1.out)
    · have HF := Lib.hid (HF.out.trans (if_neg ht))
      by_cases ht0 : x.f1 < 0
      · have t1 : decide (x.f1 < 0) = true := decide_eq_true ht0
        clear ht ht0
        go_enter Tryz.func56, Tryz.ntmps56
        go_wp2_with fail
        rw [HW0.out]
        go_wp2_with (go_at_call 55; refine HN.out.mono ?_; rintro e w1 ⟨rfl, hB1⟩; have HB1 := Lib.hid hB1; have c01 := pw_cell_below hB1 c0; have c11 := pw_cell_below hB1 c1; have c21 := pw_cell_below hB1 c2; clear hB1)
        go_ret2
        exact REPost.bad HF.out (by decide) (below_step HB0.out HB1.out)
      · have t1 : decide (x.f1 < 0) = false := decide_eq_false ht0
        have t2 : decide (4611686018427387904 < x.f1) = true := decide_eq_true (by omega)
        clear ht ht0
        go_enter Tryz.func56, Tryz.ntmps56
        go_wp2_with fail
        rw [HW0.out]
        go_wp2_with (go_at_call 55; refine HN.out.mono ?_; rintro e w1 ⟨rfl, hB1⟩; have HB1 := Lib.hid hB1; have c01 := pw_cell_below hB1 c0; have c11 := pw_cell_below hB1 c1; have c21 := pw_cell_below hB1 c2; clear hB1)
        go_ret2
        exact REPost.bad HF.out (by decide) (below_step HB0.out HB1.out)
  · have HF := Lib.hid (HF.out.trans (if_neg hn))
    have hn' : nameB x.f0 = false := by simpa using hn
    rw [hn'] at HN
    clear hn hn'
    go_enter Tryz.func56, Tryz.ntmps56
    go_wp2_with fail
    rw [HW0.out]
    go_wp2_with (go_at_call 55; refine HN.out.mono ?_; rintro e w1 ⟨rfl, hB1⟩; have HB1 := Lib.hid hB1; clear hB1)
    go_ret2
    exact REPost.bad HF.out (by decide) (below_step HB0.out HB1.out)
end Go.Proofs.YtcfgmkmllcfjjaaGreatDoor
set_option linter.unusedVariables false
set_option linter.unusedSimpArgs false
namespace Go.Proofs.YtcfgmkmllcfjjaaGreatDoor
open Go.RowKit Go.Proofs.YtcfgmkmllcfjjaaGreatDoorW.PrintWords Go.Proofs.YtcfgmkmllcfjjaaGreatDoorW.PrintMore PImageAll
theorem rnum_any {w0 w : World} {v : Value} {l : List Int} {n : Int} (hB : Below w0.heap.size w0 w) (hO : BRow w w0.heap.size v l) (hn : I64 n) (hl : l.length ≤ 140000000000000) :
    Calls Tryz.prog 57 #[v, .int .i64 n] w fun e w' => BPost w0 (l ++ puti n) e w' := by
  have hR : Kd.R (Kd.int .u8) 5 w w0.heap.size (fun _ => True) v l := Kd.R_of_own hO (fun _ _ => trivial)
  have hf : refrainref22_number.f 12 l n = some (l ++ puti n) := by
    have := puti_len hn
    unfold refrainref22_number.f
    rw [rPutInt_f hn (by decide), Option.bind_some, if_pos (by omega)]
  refine (refrainref22_number.calls 12 (fun _ => True) v l n (l ++ puti n) w0 w hB hR hf).mono ?_
  rintro e w' ⟨v', rfl, hr, hb, _⟩
  exact ⟨v', rfl, Kd.own_of_R hr, hb⟩
theorem rtruth_any' {w0 w : World} {v : Value} {l : List Int} {b : Bool} (hB : Below w0.heap.size w0 w) (hO : BRow w w0.heap.size v l) (hl : l.length ≤ 140000000000000) :
    Calls Tryz.prog 59 #[v, .bool b] w fun e w' => BPost w0 (l ++ [if b then 1 else 0]) e w' := by
  have hR : Kd.R (Kd.int .u8) 5 w w0.heap.size (fun _ => True) v l := Kd.R_of_own hO (fun _ _ => trivial)
  have hf : refrainref22_truth.f l b = some (l ++ [if b then 1 else 0]) := by
    unfold refrainref22_truth.f
    cases b
    · rw [if_neg (by decide), if_pos (by omega)]; rfl
    · rw [if_pos rfl, if_pos (by omega)]; rfl
  refine (refrainref22_truth.calls (fun _ => True) v l b _ w0 w hB hR hf).mono ?_
  rintro e w' ⟨v', rfl, hr, hb, _⟩
  exact ⟨v', rfl, Kd.own_of_R hr, hb⟩
set_option maxHeartbeats 1000000 in
theorem rtxt_any {w0 w : World} {v : Value} {l : List Int} {s : ByteArray} (hB : Below w0.heap.size w0 w) (hO : BRow w w0.heap.size v l) (hs : s.size ≤ 20000000000000) (hl : l.length ≤ 100000000000000) :
    Calls Tryz.prog 58 #[v, .string s] w fun e w' => BPost w0 (l ++ txt s) e w' := by
  have hIs : I64 (s.size : Int) := ⟨by omega, by omega⟩
  have hp := puti_len hIs
  have HP := Lib.hid (rnum_any hB hO hIs (by omega))
  have HL := Lib.hid (show (l ++ puti s.size).length + s.size ≤ 140000000000000 by rw [List.length_append]; omega)
  have HE := Lib.hid (show l ++ txt s = (l ++ puti s.size) ++ bytesOf s by rw [txt, List.append_assoc])
  clear hB hO hs hl hIs hp
  generalize l ++ puti s.size = l1 at *
  go_enter Tryz.func58, Tryz.ntmps58
  go_wp2_with (first
    | (go_at_call 57; refine HP.out.mono ?_; rintro e w1 ⟨v1, rfl, hO1, hB1⟩; have HO1 := Lib.hid hO1; have HB1 := Lib.hid hB1; clear hO1 hB1)
    | (at_builtin; refine rapps (w0 := w0) rfl _ _ rfl _ l1 s rfl rfl HO1.out HB1.out HL.out ?_; intro v2 w2 HO2 HB2 hg2))
  go_ret
  exact ⟨v2, rfl, by rw [HE.out]; exact HO2.out, HB2.out⟩
theorem all_on {α : Type} {f : α → Bool} {xs : List α} {i : Nat} (h : i < xs.length) (h1 : (xs.take i).all f = true) (h2 : f xs[i] = true) : (xs.take (i + 1)).all f = true := by rw [all_take f xs i h, h1, h2]; rfl
theorem all_off {α : Type} {f : α → Bool} {xs : List α} {i : Nat} (h : i < xs.length) (h2 : f xs[i] = false) : xs.all f = false := by
  rw [List.all_eq_false]
  exact ⟨_, List.getElem_mem h, by rw [h2]; decide⟩
set_option maxRecDepth 100000 in
set_option maxHeartbeats 4000000 in
theorem rtypes_any {w : World} {A : Option Addr} {c : Nat} {xs : List S56} (hC : Kd.C k56 w A xs.length xs) (hc : xs.length ≤ c) :
    Calls Tryz.prog 54 #[.slice A xs.length c] w fun e w' => e = .returned (.bool (decide (xs.length ≤ 64) && xs.all typeB)) ∧ Below w.heap.size w w' := by
  have HC := Lib.hid hC
  clear hC
  by_cases hl : xs.length ≤ 64
  · have l1 : ¬ (64 : Int) < (xs.length : Int) := by omega
    have HD := Lib.hid (show (decide (xs.length ≤ 64) && xs.all typeB) = xs.all typeB by rw [decide_eq_true hl, Bool.true_and])
    rw [HD.out]
    clear HD
    generalize hR : xs.all typeB = R
    have HR := Lib.hid hR
    clear hR
    have HB0 := Lib.hid (Below.refl w.heap.size w)
    go_enter Tryz.func54, Tryz.ntmps54
    go_upto_region 4 with fail
    go_loopw [3] (fun t3 wr => ∃ i : Nat, i ≤ xs.length ∧ t3 = .int .i64 i ∧ Hid (Below w.heap.size w wr) ∧ Hid ((xs.take i).all typeB = true)) (fun t3 _ => xs.length - (intOf t3).toNat)
    case atStart => exact ⟨0, by omega, rfl, HB0, Lib.hid rfl⟩
    case round =>
      obtain ⟨i, hi, rfl, hB, hP⟩ := hrel
      by_cases hlt : i < xs.length
      · have i1 : (0 : Int) ≤ (i : Int) := by omega
        have i2 : (i : Int) < (xs.length : Int) := by omega
        obtain ⟨ad, A1, c1, e0, p0, p1, hl1, hr1⟩ := atk56N HC.out i hlt hlt
        have HON := Lib.hid (fun h => all_on (f := typeB) hlt hP.out h)
        have HOF := Lib.hid (fun h => HR.out.symm.trans (all_off (f := typeB) hlt h))
        subst e0
        generalize xs[i] = x at *
        have HS := Lib.hid hr1
        have HP1 := Lib.hid p1
        have p0 := pw_cell_below hB.out p0
        have p1 := pw_cell_below hB.out p1
        have HN := Lib.hid (fun W => rName_any x.f0 W)
        have HTB := Lib.hid (show typeB x = (nameB x.f0 && (decide (x.f1.length ≤ 16) && x.f1.all attrB)) from rfl)
        clear hr1 hP
        generalize nameB x.f0 = bn at *
        cases bn
        · have hf := HOF.out (by rw [HTB.out]; rfl)
          subst hf
          go_wp2_with (go_at_call 55; refine (HN.out _).mono ?_; rintro e w2 ⟨rfl, hB2⟩)
          go_ret
          exact ⟨rfl, below_step hB.out hB2⟩
        · by_cases h16 : x.f1.length ≤ 16
          · have j0 : ¬ (16 : Int) < (x.f1.length : Int) := by omega
            go_upto_region 9 with (go_at_call 55; refine (HN.out _).mono ?_; rintro e w2 ⟨rfl, hB2⟩; have p1 := pw_cell_below hB2 p1)
            have HB2 := Lib.hid (below_step hB.out hB2)
            have hTB : typeB x = x.f1.all attrB := by rw [HTB.out, decide_eq_true h16]; rfl
            have HTB2 := Lib.hid hTB
            clear hTB hB hB2 p0 p1 HN HTB
            obtain ⟨wo, rfl⟩ : ∃ wo : World, wo = wr := ⟨_, rfl⟩
            go_loopw [4] (fun t4 wr => ∃ j : Nat, j ≤ x.f1.length ∧ t4 = .int .i64 j ∧ Hid (Below w.heap.size w wr) ∧ Hid ((x.f1.take j).all attrB = true)) (fun t4 _ => x.f1.length - (intOf t4).toNat)
            case atStart => exact ⟨0, by omega, rfl, HB2, Lib.hid rfl⟩
            case round =>
              obtain ⟨j, hj, rfl, hB, hP⟩ := hrel
              have p1 := pw_cell_below hB.out HP1.out
              by_cases hjx : j < x.f1.length
              · have j1 : (0 : Int) ≤ (j : Int) := by omega
                have j2 : (j : Int) < (x.f1.length : Int) := by omega
                obtain ⟨cd, e0, f0, f1⟩ := atk58N HS.out j hjx hjx
                have HON2 := Lib.hid (fun h => all_on (f := attrB) hjx hP.out h)
                have HOF2 := Lib.hid (fun h => HOF.out (HTB2.out.trans (all_off (f := attrB) hjx h)))
                subst e0
                have f0 := pw_cell_below hB.out f0
                have f1 := pw_cell_below hB.out f1
                generalize x.f1[j] = y at *
                have HN := Lib.hid (fun W => rName_any y.f0 W)
                have HAB := Lib.hid (show attrB y = (nameB y.f0 && (decide (1 ≤ y.f1) && decide (y.f1 ≤ 3))) from rfl)
                go_upto_region 12 with fail
                have hbn := below_new wr (.cells #[.string y.f0, .int .i64 y.f1] 58)
                have HX := Lib.hid (blk_new wr (.cells #[.string y.f0, .int .i64 y.f1] 58))
                have HB3 := Lib.hid (below_step hB.out hbn)
                clear hB hbn f0 f1 p1 hP
                generalize wr.alloc (.cells #[.string y.f0, .int .i64 y.f1] 58) = W3 at *
                have x0 := (blk_cell HX.out 0).trans rfl
                generalize nameB y.f0 = bn at *
                cases bn
                · have hf := HOF2.out (by rw [HAB.out]; rfl)
                  subst hf
                  go_wp2_with (go_at_call 55; refine (HN.out _).mono ?_; rintro e w2 ⟨rfl, hB2⟩)
                  go_ret
                  exact ⟨rfl, below_step HB3.out hB2⟩
                · by_cases h1 : y.f1 < 1
                  · have hf := HOF2.out (by rw [HAB.out, decide_eq_false (show ¬ 1 ≤ y.f1 by omega)]; rfl)
                    subst hf
                    go_wp2_with (go_at_call 55; refine (HN.out _).mono ?_; rintro e w2 ⟨rfl, hB2⟩; have x1 := (blk_cell (blk_below HX.out hB2) 1).trans rfl)
                    go_ret
                    exact ⟨rfl, below_step HB3.out hB2⟩
                  · by_cases h3 : (3 : Int) < y.f1
                    · have hf := HOF2.out (by rw [HAB.out, decide_eq_false (show ¬ y.f1 ≤ 3 by omega), Bool.and_false]; rfl)
                      subst hf
                      go_wp2_with (go_at_call 55; refine (HN.out _).mono ?_; rintro e w2 ⟨rfl, hB2⟩; have x1 := (blk_cell (blk_below HX.out hB2) 1).trans rfl)
                      go_ret
                      exact ⟨rfl, below_step HB3.out hB2⟩
                    · have hok := HON2.out (by rw [HAB.out, decide_eq_true (show 1 ≤ y.f1 by omega), decide_eq_true (show y.f1 ≤ 3 by omega)]; rfl)
                      have HOK := Lib.hid hok
                      clear hok
                      go_wp2_with (go_at_call 55; refine (HN.out _).mono ?_; rintro e w2 ⟨rfl, hB2⟩; have x1 := (blk_cell (blk_below HX.out hB2) 1).trans rfl)
                      go_roundw
                      case rel => exact ⟨j + 1, by omega, by go_num, Lib.hid (below_step HB3.out hB2), HOK⟩
                      case measure => simp [intOf]; omega
              · obtain rfl : j = x.f1.length := by omega
                have HOK := Lib.hid (HON.out (HTB2.out.trans (by have := hP.out; rwa [List.take_length] at this)))
                go_wp2_with fail
                go_roundw
                case rel => exact ⟨i + 1, by omega, by go_num, hB, HOK⟩
                case measure => simp [intOf]; omega
          · have j0 : (16 : Int) < (x.f1.length : Int) := by omega
            have hf := HOF.out (by rw [HTB.out, decide_eq_false h16]; rfl)
            subst hf
            go_wp2_with (go_at_call 55; refine (HN.out _).mono ?_; rintro e w2 ⟨rfl, hB2⟩; have p1 := pw_cell_below hB2 p1)
            go_ret
            exact ⟨rfl, below_step hB.out hB2⟩
      · obtain rfl : i = xs.length := by omega
        have hP := hP.out
        rw [List.take_length, HR.out] at hP
        subst hP
        go_wp2_with fail
        go_ret
        exact ⟨rfl, hB.out⟩
  · have l1 : (64 : Int) < (xs.length : Int) := by omega
    rw [decide_eq_false hl, Bool.false_and]
    go_enter Tryz.func54, Tryz.ntmps54
    go_wp2_with fail
    go_ret
    exact ⟨rfl, Below.refl _ _⟩
end Go.Proofs.YtcfgmkmllcfjjaaGreatDoor
namespace Go.Proofs.YtcfgmkmllcfjjaaGreatDoor.PImageAll
open Go.RowKit Go.Proofs.YtcfgmkmllcfjjaaGreatDoorW.PrintWords Go.Proofs.YtcfgmkmllcfjjaaGreatDoorW.PrintLast Go.Proofs.YtcfgmkmllcfjjaaGreatDoorW.PrintMore
attribute [local go_sem] max2_int min2_int max_two min_two max_three min_three max_four min_four
set_option linter.unusedVariables false
set_option linter.unusedSimpArgs false
attribute [local go_sem high] eqA58
end Go.Proofs.YtcfgmkmllcfjjaaGreatDoor.PImageAll
namespace Go.Proofs.YtcfgmkmllcfjjaaGreatDoor.PImageAll
open Go.RowKit Go.Proofs.YtcfgmkmllcfjjaaGreatDoorW.PrintWords Go.Proofs.YtcfgmkmllcfjjaaGreatDoorW.PrintLast Go.Proofs.YtcfgmkmllcfjjaaGreatDoorW.PrintMore
attribute [local go_sem] max2_int min2_int max_two min_two max_three min_three max_four min_four
set_option linter.unusedVariables false
set_option linter.unusedSimpArgs false
attribute [local go_sem high] eqA67
end Go.Proofs.YtcfgmkmllcfjjaaGreatDoor.PImageAll
namespace Go.Proofs.YtcfgmkmllcfjjaaGreatDoor.PImageAll
open Go.RowKit Go.Proofs.YtcfgmkmllcfjjaaGreatDoorW.PrintWords Go.Proofs.YtcfgmkmllcfjjaaGreatDoorW.PrintLast Go.Proofs.YtcfgmkmllcfjjaaGreatDoorW.PrintMore
attribute [local go_sem] max2_int min2_int max_two min_two max_three min_three max_four min_four
set_option linter.unusedVariables false
set_option linter.unusedSimpArgs false
attribute [local go_sem high] eqA26 eqA60
def refrainref22_within.f (a0 : Int) (a1 : Int) (a2 : Int) : Option (Bool) := if a0 ≥ a1 then (some (decide (a0 ≤ a2))) else (some false)
set_option maxHeartbeats 8000000 in
set_option maxRecDepth 100000 in
theorem refrainref22_within.calls (a0 : Int) (a1 : Int) (a2 : Int) (r : Bool) (w : World) (h : refrainref22_within.f a0 a1 a2 = some r) :
    Calls Tryz.prog 53 #[.int .i64 a0, .int .i64 a1, .int .i64 a2] w fun e w' => e = .returned (.bool r) ∧ Drawn0 w w' := by
  have H : (if a0 ≥ a1 then (some (decide (a0 ≤ a2))) else (some false)) = some r := h
  clear h
  by_cases c4 : a0 ≥ a1
  · rw [if_pos c4] at H
    have c4b0 : decide (a1 ≤ a0) = true := decide_eq_true c4
    clear c4
    obtain rfl := Option.some.inj H
    go_enter Tryz.func53, Tryz.ntmps53
    go_wp2
    go_ret
    exact ⟨by first | rfl | (simp; done) | (simp [*]; done), by repeat (first | exact Drawn0.refl _ | apply Drawn0.step)⟩
  · rw [if_neg c4] at H
    have c4b0 : decide (a1 ≤ a0) = false := decide_eq_false c4
    clear c4
    obtain rfl := Option.some.inj H
    go_enter Tryz.func53, Tryz.ntmps53
    go_wp2
    go_ret
    exact ⟨by first | rfl | (simp; done) | (simp [*]; done), by repeat (first | exact Drawn0.refl _ | apply Drawn0.step)⟩
end Go.Proofs.YtcfgmkmllcfjjaaGreatDoor.PImageAll
