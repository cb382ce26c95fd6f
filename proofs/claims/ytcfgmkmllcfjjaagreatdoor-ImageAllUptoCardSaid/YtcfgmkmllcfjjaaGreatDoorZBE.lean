import Derived.Test.YtcfgmkmllcfjjaaGreatDoorZBD
import Derived.Test.YtcfgmkmllcfjjaaGreatDoorZAR
import Derived.Test.YtcfgmkmllcfjjaaGreatDoorZAT
set_option linter.unusedVariables false
set_option linter.unusedSimpArgs false
namespace Go.Proofs.YtcfgmkmllcfjjaaGreatDoor
open Go.RowKit Go.Proofs.YtcfgmkmllcfjjaaGreatDoorW.PrintWords Go.Proofs.YtcfgmkmllcfjjaaGreatDoorW.PrintMore PImageAll
theorem lenapp {l R LM : List Int} (h : l ++ R = LM) (hL : LM.length ≤ 10000000000000) : l.length ≤ 10000000000000 := by
  have := congrArg List.length h
  rw [List.length_append] at this
  omega
theorem eqapp {l a R LM : List Int} (h : l ++ (a ++ R) = LM) : (l ++ a) ++ R = LM := by rw [List.append_assoc]; exact h
theorem txtsz {l R LM : List Int} {s : ByteArray} (h : l ++ (txt s ++ R) = LM) (hL : LM.length ≤ 10000000000000) : s.size ≤ 20000000000000 := by
  have := congrArg List.length h
  rw [List.length_append, List.length_append] at this
  have := txt_ge s
  omega
theorem magic_row (W : World) : BRow (W.alloc (.cells #[.int .u8 114, .int .u8 102, .int .u8 114, .int .u8 110] 5)) W.heap.size (.slice (some ⟨W.heap.size, 0, none⟩) 4 4) magicL :=
  ⟨rfl, .inr ⟨W.heap.size, 4, _, rfl, Nat.le_refl _, blk_new W _, by decide, by decide, rfl, rfl⟩⟩
theorem flat_drop {α : Type} (f : α → List Int) {xs : List α} {k : Nat} (h : k < xs.length) : (xs.drop k).flatMap f = f xs[k] ++ (xs.drop (k + 1)).flatMap f := by
  rw [List.drop_eq_getElem_cons h, List.flatMap_cons]
theorem seen_drop {last : Int} {xs : List S65} {k : Nat} (h : k < xs.length) : encSeenL last (xs.drop k) = encSeen last xs[k] ++ encSeenL (xs[k]).f0 (xs.drop (k + 1)) := by
  rw [List.drop_eq_getElem_cons h]
  rfl
def LaidPost (w : World) (m : Img) (e : Ending) (w' : World) : Prop := ∃ v L, e = .returned v ∧ BRow w' w.heap.size v L ∧ Below w.heap.size w w' ∧ L.length ≤ 10000000000000 ∧ (L = laid m ∨ (67108864 < L.length ∧ ∃ R, L ++ R = laid m))
set_option maxRecDepth 100000 in
set_option maxHeartbeats 16000000 in
theorem rlaid_any {w : World} {m : Img} {A4 A5 A6 : Option Addr} {c4 c5 c6 : Nat} (hm : ImgI m) (hV : ImgV w m A4 c4 A5 c5 A6 c6) (hLL : (laid m).length ≤ 10000000000000) :
    Calls Tryz.prog 26 #[imgV m (.slice A4 m.types.length c4) (.slice A5 m.saved.length c5) (.slice A6 m.seens.length c6)] w (LaidPost w m) := by
  unfold imgV
  generalize hW0 : w.alloc (.cells #[.int .i64 m.runs, .int .i64 m.made, .int .i64 m.seq, .int .i64 m.now, .slice A4 m.types.length c4, .slice A5 m.saved.length c5, .slice A6 m.seens.length c6] 31) = W0
  have HW0 := Lib.hid hW0
  have hb0 : Below w.heap.size w W0 := by rw [← hW0]; exact below_new w _
  have hX : IBox W0 w.heap.size m (.slice A4 m.types.length c4) (.slice A5 m.saved.length c5) (.slice A6 m.seens.length c6) := by rw [← hW0]; exact blk_new w _
  have hV0 := hV.below hb0
  obtain ⟨⟨hC4, hc4⟩, ⟨hC5, hc5⟩, ⟨hC6, hc6⟩⟩ := hV0
  have HB0 := Lib.hid hb0
  have HC4 := Lib.hid hC4
  have HC5 := Lib.hid hC5
  have HC6 := Lib.hid hC6
  have HM := Lib.hid hm
  have l4 := hm.lt
  have l5 := hm.lq
  have l6 := hm.ls
  have Z0 := Lib.hid (show W0.cell? ⟨w.heap.size, 0, none⟩ = some (.int .i64 m.runs) from (IBox.cells hX 0).trans rfl)
  have Z1 := Lib.hid (show W0.cell? ⟨w.heap.size, 1, none⟩ = some (.int .i64 m.made) from (IBox.cells hX 1).trans rfl)
  have Z2 := Lib.hid (show W0.cell? ⟨w.heap.size, 2, none⟩ = some (.int .i64 m.seq) from (IBox.cells hX 2).trans rfl)
  have Z3 := Lib.hid (show W0.cell? ⟨w.heap.size, 3, none⟩ = some (.int .i64 m.now) from (IBox.cells hX 3).trans rfl)
  have Z4 := Lib.hid (show W0.cell? ⟨w.heap.size, 4, none⟩ = some (.slice A4 m.types.length c4) from (IBox.cells hX 4).trans rfl)
  have Z5 := Lib.hid (show W0.cell? ⟨w.heap.size, 5, none⟩ = some (.slice A5 m.saved.length c5) from (IBox.cells hX 5).trans rfl)
  have Z6 := Lib.hid (show W0.cell? ⟨w.heap.size, 6, none⟩ = some (.slice A6 m.seens.length c6) from (IBox.cells hX 6).trans rfl)
  obtain ⟨LM, hLM⟩ : ∃ LM, LM = laid m := ⟨_, rfl⟩
  rw [← hLM] at hLL
  have HLM := Lib.hid hLM
  have HLL := Lib.hid hLL
  obtain ⟨RE, hRE⟩ : ∃ RE, RE = encSeenL 0 m.seens := ⟨_, rfl⟩
  obtain ⟨RS, hRS⟩ : ∃ RS, RS = m.saved.flatMap encSaved ++ (puti (m.seens.length : Int) ++ RE) := ⟨_, rfl⟩
  obtain ⟨RT, hRT⟩ : ∃ RT, RT = m.types.flatMap encType ++ (puti (m.saved.length : Int) ++ RS) := ⟨_, rfl⟩
  have E1 := Lib.hid (show magicL ++ (puti m.runs ++ (puti m.made ++ (puti m.seq ++ (puti m.now ++ (puti (m.types.length : Int) ++ RT))))) = LM from by
    have h := laid_app m []
    rw [List.append_nil] at h
    rw [hLM, h, hRT, hRS, hRE]
    simp only [encNums, encTypes, encSaveds, encSeens, List.append_assoc, List.append_nil])
  have HRE := Lib.hid hRE
  have HRS := Lib.hid hRS
  have HRT := Lib.hid hRT
  have HNUM := Lib.hid (fun (W : World) (v : Value) (l : List Int) (n : Int) (R : List Int) (hB : Below W0.heap.size W0 W) (hO : BRow W W0.heap.size v l) (hn : I64 n) (h : l ++ (puti n ++ R) = LM) => show Calls Tryz.prog 57 #[v, .int .i64 n] W fun e w' => BPost W0 (l ++ puti n) e w' from rnum_any hB hO hn (by have := lenapp h hLL; omega))
  have HTXT := Lib.hid (fun (W : World) (v : Value) (l : List Int) (s : ByteArray) (R : List Int) (hB : Below W0.heap.size W0 W) (hO : BRow W W0.heap.size v l) (h : l ++ (txt s ++ R) = LM) => show Calls Tryz.prog 58 #[v, .string s] W fun e w' => BPost W0 (l ++ txt s) e w' from rtxt_any hB hO (txtsz h hLL) (by have := lenapp h hLL; omega))
  have HFLG := Lib.hid (fun (W : World) (v : Value) (l : List Int) (b : Bool) (R : List Int) (hB : Below W0.heap.size W0 W) (hO : BRow W W0.heap.size v l) (h : l ++ ([if b then 1 else 0] ++ R) = LM) => show Calls Tryz.prog 59 #[v, .bool b] W fun e w' => BPost W0 (l ++ [if b then 1 else 0]) e w' from rtruth_any' hB hO (by have := lenapp h hLL; omega))
  have IT := Lib.hid (show I64 (m.types.length : Int) from ⟨by omega, by omega⟩)
  have IQ := Lib.hid (show I64 (m.saved.length : Int) from ⟨by omega, by omega⟩)
  have IS := Lib.hid (show I64 (m.seens.length : Int) from ⟨by omega, by omega⟩)
  clear hX hC4 hC5 hC6 hV hb0 hm hW0 hLM hLL hRE hRS hRT
  go_enter Tryz.func26, Tryz.ntmps26
  go_upto_region 1 with fail
  rw [HW0.out]
  go_upto_region 2 with fail
  have hb1 := below_new W0 (.cells #[.int .u8 114, .int .u8 102, .int .u8 114, .int .u8 110] 5)
  have HB1 := Lib.hid hb1
  have HO1 := Lib.hid (magic_row W0)
  have c1 := pw_cell_below hb1 Z0.out
  clear hb1
  generalize W0.alloc (.cells #[.int .u8 114, .int .u8 102, .int .u8 114, .int .u8 110] 5) = w1 at *
  generalize (Value.slice (some ⟨W0.heap.size, 0, none⟩) 4 4) = v1 at *
  go_upto_region 7 with (first
    | (go_at_call 57; (with_reducible refine (HNUM.out _ _ _ _ _ HB1.out HO1.out HM.out.runs E1.out).mono ?_); rintro e w2 ⟨v2, rfl, hO2, hB2⟩; have HO2 := Lib.hid hO2; have HB2 := Lib.hid hB2; have E2 := Lib.hid (eqapp E1.out); have c2 := pw_cell_below hB2 Z1.out; clear hO2 hB2 c1)
    | (go_at_call 57; (with_reducible refine (HNUM.out _ _ _ _ _ HB2.out HO2.out HM.out.made E2.out).mono ?_); rintro e w3 ⟨v3, rfl, hO3, hB3⟩; have HO3 := Lib.hid hO3; have HB3 := Lib.hid hB3; have E3 := Lib.hid (eqapp E2.out); have c3 := pw_cell_below hB3 Z2.out; clear hO3 hB3 c2)
    | (go_at_call 57; (with_reducible refine (HNUM.out _ _ _ _ _ HB3.out HO3.out HM.out.seq E3.out).mono ?_); rintro e w4 ⟨v4, rfl, hO4, hB4⟩; have HO4 := Lib.hid hO4; have HB4 := Lib.hid hB4; have E4 := Lib.hid (eqapp E3.out); have c4 := pw_cell_below hB4 Z3.out; clear hO4 hB4 c3)
    | (go_at_call 57; (with_reducible refine (HNUM.out _ _ _ _ _ HB4.out HO4.out HM.out.now E4.out).mono ?_); rintro e w5 ⟨v5, rfl, hO5, hB5⟩; have HO5 := Lib.hid hO5; have HB5 := Lib.hid hB5; have E5 := Lib.hid (eqapp E4.out); have c5 := pw_cell_below hB5 Z4.out; clear hO5 hB5 c4)
    | (go_at_call 57; (with_reducible refine (HNUM.out _ _ _ _ _ HB5.out HO5.out IT.out E5.out).mono ?_); rintro e w6 ⟨v6, rfl, hO6, hB6⟩; have HO6 := Lib.hid hO6; have HB6 := Lib.hid hB6; have E6 := Lib.hid (eqapp E5.out); clear hO6 hB6 c5))
  have E7 := E6.out
  rw [HRT.out] at E7
  generalize (((((magicL ++ puti m.runs) ++ puti m.made) ++ puti m.seq) ++ puti m.now) ++ puti (m.types.length : Int)) = L6 at *
  have E7 := Lib.hid E7
  clear E1 E2 E3 E4 E5 E6 HO1 HO2 HO3 HO4 HO5 HB1 HB2 HB3 HB4 HB5 Z0 Z1 Z2 Z3
  generalize hRQ : (puti (m.saved.length : Int) ++ RS) = RQ at *
  have HRQ := Lib.hid hRQ
  clear hRQ
  go_wp2_with fail
  go_loopw [3, 4] (fun t3 t4 wr => ∃ (k : Nat) (l : List Int), k ≤ m.types.length ∧ t4 = .int .i64 k ∧ Hid (BRow wr W0.heap.size t3 l) ∧ Hid (Below W0.heap.size W0 wr) ∧ Hid (l ++ ((m.types.drop k).flatMap encType ++ RQ) = LM)) (fun _ t4 _ => m.types.length - (intOf t4).toNat)
  case atStart => exact ⟨0, L6, by omega, rfl, HO6, HB6, by rw [List.drop_zero]; exact E7⟩
  case round =>
    obtain ⟨k, l, hk2, rfl, hO, hB, hE⟩ := hrel
    have q4 := pw_cell_below hB.out Z4.out
    by_cases hlt : k < m.types.length
    · have i1 : (0 : Int) ≤ (k : Int) := by omega
      have i2 : (k : Int) < m.types.length := by omega
      obtain ⟨ad, A1, d1, rfl, e0, e1, hd1, hC1⟩ := atk56N HC4.out k hlt hlt
      have hE2 := hE.out
      rw [flat_drop encType hlt] at hE2
      have hla := HM.out.la _ (List.getElem_mem hlt)
      generalize hR2 : (m.types.drop (k + 1)).flatMap encType ++ RQ = R2 at *
      have HR2 := Lib.hid hR2
      rw [List.append_assoc, hR2] at hE2
      clear hR2 hE
      generalize m.types[k] = x at *
      have E0 := Lib.hid (show l ++ (txt x.f0 ++ (puti (x.f1.length : Int) ++ (x.f1.flatMap encAttr ++ R2))) = LM from by
        rw [← hE2]; simp only [encType, encAttrs, List.append_assoc])
      have F0 := Lib.hid e0
      have F1 := Lib.hid e1
      have HC1 := Lib.hid hC1
      have IX := Lib.hid (show I64 (x.f1.length : Int) from ⟨by omega, by omega⟩)
      have f0 := pw_cell_below hB.out F0.out
      have HO0 := hO
      have HB0' := hB
      clear e0 e1 hC1 hE2 hO
      go_upto_region 12 with (first
        | (go_at_call 58; (with_reducible refine (HTXT.out _ _ _ _ _ hB.out HO0.out E0.out).mono ?_); rintro e w2 ⟨v2, rfl, hO2, hB2⟩; have HO2 := Lib.hid hO2; have HB2 := Lib.hid hB2; have E2 := Lib.hid (eqapp E0.out); have f1 := pw_cell_below hB2 F1.out; have q42 := pw_cell_below hB2 Z4.out; clear hO2 hB2)
        | (go_at_call 57; (with_reducible refine (HNUM.out _ _ _ _ _ HB2.out HO2.out IX.out E2.out).mono ?_); rintro e w3 ⟨v3, rfl, hO3, hB3⟩; have HO3 := Lib.hid hO3; have HB3 := Lib.hid hB3; have E3 := Lib.hid (eqapp E2.out); clear hO3 hB3 f0 f1 q42))
      generalize (l ++ txt x.f0) ++ puti (x.f1.length : Int) = l3 at *
      clear E0 E2 HO0 HO2 HB2 q4 HB0'
      go_wp2_with fail
      go_loopw [3, 5] (fun t3 t5 wr => ∃ (j : Nat) (l : List Int), j ≤ x.f1.length ∧ t5 = .int .i64 j ∧ Hid (BRow wr W0.heap.size t3 l) ∧ Hid (Below W0.heap.size W0 wr) ∧ Hid (l ++ ((x.f1.drop j).flatMap encAttr ++ R2) = LM)) (fun _ t5 _ => x.f1.length - (intOf t5).toNat)
      case atStart => exact ⟨0, l3, by omega, rfl, HO3, HB3, by rw [List.drop_zero]; exact E3⟩
      case round =>
        obtain ⟨j, l5, hj2, rfl, hO5, hB5, hE5⟩ := hrel
        have q4 := pw_cell_below hB5.out Z4.out
        have f1 := pw_cell_below hB5.out F1.out
        by_cases hjlt : j < x.f1.length
        · have j1 : (0 : Int) ≤ (j : Int) := by omega
          have j2 : (j : Int) < x.f1.length := by omega
          obtain ⟨ad1, rfl, g0, g1⟩ := atk58N HC1.out j hjlt hjlt
          have hE6 := hE5.out
          rw [flat_drop encAttr hjlt] at hE6
          generalize hR3 : (x.f1.drop (j + 1)).flatMap encAttr ++ R2 = R3 at *
          have HR3 := Lib.hid hR3
          rw [List.append_assoc, hR3] at hE6
          clear hR3 hE5
          generalize x.f1[j] = y at *
          have E6 := Lib.hid (show l5 ++ (txt y.f0 ++ ([IntKind.u8.wrap y.f1] ++ R3)) = LM from by
            rw [← hE6]; simp only [encAttr, List.append_assoc])
          have G0 := Lib.hid g0
          have G1 := Lib.hid g1
          have g0 := pw_cell_below hB5.out G0.out
          have HLN := Lib.hid (show ((l5 ++ txt y.f0).length + 1) * 1 ≤ 140737488355328 by have := lenapp (eqapp E6.out) HLL.out; omega)
          clear g1 hE6
          go_wp2_with (first
            | (go_at_call 58; (with_reducible refine (HTXT.out _ _ _ _ _ hB5.out hO5.out E6.out).mono ?_); rintro e w7 ⟨v7, rfl, hO7, hB7⟩; have HO7 := Lib.hid hO7; have HB7 := Lib.hid hB7; have E7 := Lib.hid (eqapp E6.out); have g1 := pw_cell_below hB7 G1.out; have f17 := pw_cell_below hB7 F1.out; have q47 := pw_cell_below hB7 Z4.out; clear hO7 hB7 g0 f1 q4)
            | (at_builtin; refine bapp (w0 := W0) (W := w7) w7.heap.size rfl rfl _ _ rfl v7 (l5 ++ txt y.f0) (IntKind.u8.wrap y.f1) rfl rfl HO7.out HB7.out HLN.out ?_; intro v8 w8 HO8 HB8 hg8; clear hg8))
          go_roundw
          case rel => exact ⟨j + 1, _, by omega, by go_num, HO8, HB8, by rw [HR3.out]; exact Lib.hid (eqapp E7.out)⟩
          case measure => simp [intOf]; omega
        · obtain rfl : j = x.f1.length := by omega
          have hE5 := hE5.out
          rw [List.drop_length] at hE5
          have E9 := Lib.hid (show l5 ++ R2 = LM from hE5)
          clear hE5
          go_wp2_with fail
          go_roundw
          case rel => exact ⟨k + 1, l5, by omega, by go_num, hO5, hB5, by rw [HR2.out]; exact E9⟩
          case measure => simp [intOf]; omega
    · obtain rfl : k = m.types.length := by omega
      have hE := hE.out
      rw [List.drop_length, ← HRQ.out] at hE
      have E9 := Lib.hid (show l ++ (puti (m.saved.length : Int) ++ RS) = LM from hE)
      clear hE
      have q5 := pw_cell_below hB.out Z5.out
      go_upto_region 18 with (go_at_call 57; (with_reducible refine (HNUM.out _ _ _ _ _ hB.out hO.out IQ.out E9.out).mono ?_); rintro e w10 ⟨v10, rfl, hO10, hB10⟩; have HO10 := Lib.hid hO10; have HB10 := Lib.hid hB10; have E10 := Lib.hid (eqapp E9.out); clear hO10 hB10)
      clear E9 HO6 HB6 E7
      go_wp2_with fail
      clear q4 q5 hB
      have E11 := E10.out
      rw [HRS.out] at E11
      generalize l ++ puti (m.saved.length : Int) = L10 at *
      have E11 := Lib.hid E11
      generalize hRU : (puti (m.seens.length : Int) ++ RE) = RU at *
      have HRU := Lib.hid hRU
      clear hRU E10
      go_loopw [3, 6] (fun t3 t6 wr => ∃ (k : Nat) (l : List Int), k ≤ m.saved.length ∧ t6 = .int .i64 k ∧ Hid (BRow wr W0.heap.size t3 l) ∧ Hid (Below W0.heap.size W0 wr) ∧ Hid (l ++ ((m.saved.drop k).flatMap encSaved ++ RU) = LM)) (fun _ t6 _ => m.saved.length - (intOf t6).toNat)
      case atStart => exact ⟨0, L10, by omega, rfl, HO10, HB10, by rw [List.drop_zero]; exact E11⟩
      case round =>
        obtain ⟨k, l, hk2, rfl, hO, hB, hE⟩ := hrel
        have q5 := pw_cell_below hB.out Z5.out
        by_cases hlt : k < m.saved.length
        · have i1 : (0 : Int) ≤ (k : Int) := by omega
          have i2 : (k : Int) < m.saved.length := by omega
          obtain ⟨ad, rfl, e0, e1, e2, e3⟩ := atk60N HC5.out k hlt hlt
          have hE2 := hE.out
          rw [flat_drop encSaved hlt] at hE2
          have hsi := HM.out.since _ (List.getElem_mem hlt)
          generalize hR2 : (m.saved.drop (k + 1)).flatMap encSaved ++ RU = R2 at *
          have HR2 := Lib.hid hR2
          rw [List.append_assoc, hR2] at hE2
          clear hR2 hE
          generalize m.saved[k] = x at *
          have E0 := Lib.hid (show l ++ (txt x.f0 ++ (txt x.f1 ++ (puti x.f2 ++ ([if x.f3 then 1 else 0] ++ R2)))) = LM from by
            rw [← hE2]; simp only [encSaved, List.append_assoc])
          have F0 := Lib.hid e0
          have F1 := Lib.hid e1
          have F2 := Lib.hid e2
          have F3 := Lib.hid e3
          have IX := Lib.hid hsi
          have f0 := pw_cell_below hB.out F0.out
          clear e0 e1 e2 e3 hE2 hsi
          go_wp2_with (first
            | (go_at_call 58; (with_reducible refine (HTXT.out _ _ _ _ _ hB.out hO.out E0.out).mono ?_); rintro e w2 ⟨v2, rfl, hO2, hB2⟩; have HO2 := Lib.hid hO2; have HB2 := Lib.hid hB2; have E2 := Lib.hid (eqapp E0.out); have f1 := pw_cell_below hB2 F1.out; have q52 := pw_cell_below hB2 Z5.out; clear hO2 hB2 q5 f0)
            | (go_at_call 58; (with_reducible refine (HTXT.out _ _ _ _ _ HB2.out HO2.out E2.out).mono ?_); rintro e w3 ⟨v3, rfl, hO3, hB3⟩; have HO3 := Lib.hid hO3; have HB3 := Lib.hid hB3; have E3 := Lib.hid (eqapp E2.out); have f2 := pw_cell_below hB3 F2.out; have q53 := pw_cell_below hB3 Z5.out; clear hO3 hB3 f1 q52)
            | (go_at_call 57; (with_reducible refine (HNUM.out _ _ _ _ _ HB3.out HO3.out IX.out E3.out).mono ?_); rintro e w4 ⟨v4, rfl, hO4, hB4⟩; have HO4 := Lib.hid hO4; have HB4 := Lib.hid hB4; have E4 := Lib.hid (eqapp E3.out); have f3 := pw_cell_below hB4 F3.out; have q54 := pw_cell_below hB4 Z5.out; clear hO4 hB4 f2 q53)
            | (go_at_call 59; (with_reducible refine (HFLG.out _ _ _ _ _ HB4.out HO4.out E4.out).mono ?_); rintro e w5 ⟨v5, rfl, hO5, hB5⟩; have HO5 := Lib.hid hO5; have HB5 := Lib.hid hB5; have E5 := Lib.hid (eqapp E4.out); clear hO5 hB5 f3 q54))
          go_roundw
          case rel => exact ⟨k + 1, _, by omega, by go_num, HO5, HB5, by rw [HR2.out]; exact E5⟩
          case measure => simp [intOf]; omega
        · obtain rfl : k = m.saved.length := by omega
          have hE := hE.out
          rw [List.drop_length, ← HRU.out] at hE
          have E9 := Lib.hid (show l ++ (puti (m.seens.length : Int) ++ RE) = LM from hE)
          clear hE
          have q6 := pw_cell_below hB.out Z6.out
          go_upto_region 26 with (go_at_call 57; (with_reducible refine (HNUM.out _ _ _ _ _ hB.out hO.out IS.out E9.out).mono ?_); rintro e w10 ⟨v10, rfl, hO10, hB10⟩; have HO10 := Lib.hid hO10; have HB10 := Lib.hid hB10; have E10 := Lib.hid (eqapp E9.out); clear hO10 hB10)
          clear E9 E11
          go_wp2_with fail
          clear q5 q6 hB
          have E12 := E10.out
          rw [HRE.out] at E12
          generalize l ++ puti (m.seens.length : Int) = L11 at *
          have E12 := Lib.hid E12
          clear E10
          go_loopw [3, 7, 8] (fun t3 t7 t8 wr => ∃ (k : Nat) (last : Int) (l : List Int), k ≤ m.seens.length ∧ t8 = .int .i64 k ∧ t7 = .int .i64 last ∧ Hid (BRow wr W0.heap.size t3 l) ∧ Hid (Below W0.heap.size W0 wr) ∧ Hid (l ++ encSeenL last (m.seens.drop k) = LM)) (fun _ _ t8 _ => m.seens.length - (intOf t8).toNat)
          case atStart => exact ⟨0, 0, L11, by omega, rfl, rfl, HO10, HB10, by rw [List.drop_zero]; exact E12⟩
          case round =>
            obtain ⟨k, last, l, hk2, rfl, rfl, hO, hB, hE⟩ := hrel
            have q6 := pw_cell_below hB.out Z6.out
            obtain ⟨A9, d9, rfl⟩ := own_slice hO.out
            by_cases hlt : k < m.seens.length
            · have i1 : (0 : Int) ≤ (k : Int) := by omega
              have i2 : (k : Int) < m.seens.length := by omega
              by_cases hmx : l.length ≤ 67108864
              · have k1 : decide ((l.length : Int) ≤ 67108864) = true := decide_eq_true (by omega)
                obtain ⟨ad, A1, d1, rfl, e0, e1, e2, e3, e4, hd1, hC1⟩ := atk65N HC6.out k hlt hlt
                have hE2 := hE.out
                rw [seen_drop hlt] at hE2
                have hI := HM.out.vals _ (List.getElem_mem hlt)
                have hL := HM.out.lv _ (List.getElem_mem hlt)
                generalize m.seens[k] = y at *
                generalize hR2 : encSeenL y.f0 (m.seens.drop (k + 1)) = R2 at *
                have HR2 := Lib.hid hR2
                have E0 := Lib.hid (show l ++ (puti (wrap64 (y.f0 - last)) ++ ([if y.f2 then 1 else 0] ++ (encB y.f1 ++ R2))) = LM from by
                  rw [← hE2, show wrap64 (y.f0 - last) = sub64 y.f0 last from (by unfold sub64; first | rfl | (unfold wrap64; rw [IntKind.wrap_i64]))]; simp only [encSeen, List.append_assoc])
                have HEN := Lib.hid (fun (W : World) (hW : Below W0.heap.size W0 W) => rEncode_any (x := y.f1) (Kd.C_below hC1 hW) hd1 hL hI)
                have F0 := Lib.hid e0
                have F1 := Lib.hid e1
                have F2 := Lib.hid e2
                have F3 := Lib.hid e3
                have F4 := Lib.hid e4
                have IX := Lib.hid (show I64 (wrap64 (y.f0 - last)) from by unfold wrap64 I64; omega)
                have f0 := pw_cell_below hB.out F0.out
                clear e0 e1 e2 e3 e4 hE2 hI hL hR2 hE hC1 hd1
                go_wp2_with (first
                  | (go_at_call 57; (with_reducible refine (HNUM.out _ _ _ _ _ hB.out hO.out IX.out E0.out).mono ?_); rintro e w2 ⟨v2, rfl, hO2, hB2⟩; have HO2 := Lib.hid hO2; have HB2 := Lib.hid hB2; have E2 := Lib.hid (eqapp E0.out); have f02 := pw_cell_below hB2 F0.out; have f42 := pw_cell_below hB2 F4.out; have q62 := pw_cell_below hB2 Z6.out; clear hO2 hB2 q6 f0)
                  | (go_at_call 59; (with_reducible refine (HFLG.out _ _ _ _ _ HB2.out HO2.out E2.out).mono ?_); rintro e w3 ⟨v3, rfl, hO3, hB3⟩; have HO3 := Lib.hid hO3; have HB3 := Lib.hid hB3; have E3 := Lib.hid (eqapp E2.out); have f1 := pw_cell_below hB3 F1.out; have f2 := pw_cell_below hB3 F2.out; have f3 := pw_cell_below hB3 F3.out; have q63 := pw_cell_below hB3 Z6.out; clear hO3 hB3 f02 f42 q62)
                  | (go_at_call 56; (with_reducible refine (HEN.out _ HB3.out).mono ?_); rintro e w4 ⟨v4, rfl, hO4, hB4⟩; obtain ⟨A4', d4, rfl⟩ := own_slice hO4; have HY4 := Lib.hid hO4; have HO4 := Lib.hid (BRow.below HO3.out hB4); have HB4 := Lib.hid (below_step HB3.out hB4); have HL4 := Lib.hid (show (l ++ puti (wrap64 (y.f0 - last)) ++ [if y.f2 then 1 else 0]).length + (encB y.f1).length ≤ 140000000000000 from by have h := lenapp (eqapp E3.out) HLL.out; rw [List.length_append] at h; omega); clear hO4 hB4 f1 f2 f3 q63)
                  | (at_builtin; refine rapp (w0 := W0) rfl _ _ rfl v3 _ (encB y.f1) A4' d4 _ rfl rfl HO4.out HY4.out HB4.out HL4.out ?_; intro v5 w5 HO5 HB5 hg5; clear hg5))
                go_roundw
                case rel => exact ⟨k + 1, y.f0, _, by omega, by go_num, rfl, HO5, HB5, by rw [HR2.out]; exact Lib.hid (eqapp E3.out)⟩
                case measure => simp [intOf]; omega
              · have k1 : decide ((l.length : Int) ≤ 67108864) = false := decide_eq_false (by omega)
                go_wp2_with fail
                go_ret
                exact ⟨_, l, rfl, own_less hO.out HB0.out.size, below_step HB0.out hB.out, lenapp hE.out HLL.out, .inr ⟨by omega, _, hE.out.trans HLM.out⟩⟩
            · obtain rfl : k = m.seens.length := by omega
              have hE2 := hE.out
              rw [List.drop_length] at hE2
              have hl : l = LM := by rw [← hE2]; exact (List.append_nil l).symm
              go_wp2_with fail
              go_ret
              exact ⟨_, l, rfl, own_less hO.out HB0.out.size, below_step HB0.out hB.out, lenapp hE.out HLL.out, .inl (by rw [hl, HLM.out])⟩
theorem rsum_any {w : World} {A : Option Addr} {c : Nat} {l : List Int} (hC : Kd.C (Kd.int .u8) w A l.length l) (hc : l.length ≤ c) (hB : Bytes l) (hl : l.length ≤ 4611686018427387904) :
    Calls Tryz.prog 27 #[.slice A l.length c] w fun e w' => ∃ g c1, e = .returned (.slice (some ⟨g, 0, none⟩) 4 c1) ∧ BRow w' w.heap.size (.slice (some ⟨g, 0, none⟩) 4 c1) (sumB l) ∧ Below w.heap.size w w' := by
  refine (refrainref3_Sum.calls (l.length + 1) A c l (sumB l) w hC hc (rsum_f hB hl)).mono ?_
  rintro e w' ⟨v, rfl, hr, hb⟩
  have ho := Kd.own_of_R hr
  obtain ⟨g, c1, rfl, _, _⟩ := ho.form (by rw [sumB_len]; omega)
  exact ⟨g, c1, rfl, ho, hb⟩
theorem mayR_true {m : Img} (h : mayR m = true) : mayB m = true ∧ ¬ badL m.seens = true := by
  unfold mayR at h
  simp only [Bool.and_eq_true, Bool.not_eq_true'] at h
  exact ⟨h.1, by rw [h.2]; decide⟩
theorem mayR_false {m : Img} (h : mayR m = false) : saveE m = 220 := by
  unfold mayR at h
  unfold saveE
  by_cases h1 : mayB m = true
  · rw [if_pos h1, if_pos]
    rw [h1] at h
    simpa using h
  · rw [if_neg h1]
def RSPost (w : World) (m : Img) (e : Ending) (w' : World) : Prop := ∃ A c, e = .returned (.tuple #[.slice A (saveB m).length c, .int .i64 (saveE m)]) ∧ BytesAt w' A c (saveB m) ∧ Below w.heap.size w w'
theorem RSPost.bad {w w' : World} {m : Img} {F : Int} (hF : saveE m = F) (hn : F ≠ 0) (hB : Below w.heap.size w w') : RSPost w m (.returned (.tuple #[.slice none 0 0, .int .i64 F])) w' := by
  have hs : saveB m = [] := by unfold saveB; rw [if_neg (by rw [hF]; exact hn)]
  unfold RSPost
  rw [hs, hF]
  exact ⟨none, 0, rfl, ⟨Kd.C_nil _ _, Nat.le_refl _⟩, hB⟩
set_option maxRecDepth 100000 in
set_option maxHeartbeats 8000000 in
theorem rSave_any {w : World} {m : Img} {A4 A5 A6 : Option Addr} {c4 c5 c6 : Nat} (hm : ImgI m) (hV : ImgV w m A4 c4 A5 c5 A6 c6) (hl : m.seens.length ≤ 100000000) :
    Calls Tryz.prog 8 #[imgV m (.slice A4 m.types.length c4) (.slice A5 m.saved.length c5) (.slice A6 m.seens.length c6)] w (RSPost w m) := by
  unfold imgV
  generalize hW0 : w.alloc (.cells #[.int .i64 m.runs, .int .i64 m.made, .int .i64 m.seq, .int .i64 m.now, .slice A4 m.types.length c4, .slice A5 m.saved.length c5, .slice A6 m.seens.length c6] 31) = W0
  have HW0 := Lib.hid hW0
  have hb0 : Below w.heap.size w W0 := by rw [← hW0]; exact below_new w _
  have hX : IBox W0 w.heap.size m (.slice A4 m.types.length c4) (.slice A5 m.saved.length c5) (.slice A6 m.seens.length c6) := by rw [← hW0]; exact blk_new w _
  have HB0 := Lib.hid hb0
  have HX := Lib.hid hX
  have HMAY := rmay_any hm (hV.below hb0)
  unfold imgV at HMAY
  have HMAY := Lib.hid HMAY
  have x0 : W0.cell? ⟨w.heap.size, 0, none⟩ = some (.int .i64 m.runs) := (IBox.cells hX 0).trans rfl
  have x1 : W0.cell? ⟨w.heap.size, 1, none⟩ = some (.int .i64 m.made) := (IBox.cells hX 1).trans rfl
  have x2 : W0.cell? ⟨w.heap.size, 2, none⟩ = some (.int .i64 m.seq) := (IBox.cells hX 2).trans rfl
  have x3 : W0.cell? ⟨w.heap.size, 3, none⟩ = some (.int .i64 m.now) := (IBox.cells hX 3).trans rfl
  have x4 : W0.cell? ⟨w.heap.size, 4, none⟩ = some (.slice A4 m.types.length c4) := (IBox.cells hX 4).trans rfl
  have x5 : W0.cell? ⟨w.heap.size, 5, none⟩ = some (.slice A5 m.saved.length c5) := (IBox.cells hX 5).trans rfl
  have x6 : W0.cell? ⟨w.heap.size, 6, none⟩ = some (.slice A6 m.seens.length c6) := (IBox.cells hX 6).trans rfl
  by_cases hmay : mayR m = true
  · obtain ⟨hmb, hbd⟩ := mayR_true hmay
    have hll := laid_len hm hl hmb
    have HLA := (fun W (hW : Below w.heap.size w W) => rlaid_any (w := W) hm (hV.below hW) hll)
    unfold imgV at HLA
    have HLA := Lib.hid HLA
    have HLB := Lib.hid (laid_bytes hm)
    have HSE := Lib.hid (show saveE m = if 67108864 < (laid m).length + 4 then 2 else 0 from by unfold saveE; rw [if_pos hmb, if_neg hbd])
    rw [hmay] at HMAY
    clear hmay hmb hbd hll hm hV hl hb0 hX hW0
    go_enter Tryz.func8, Tryz.ntmps8
    go_upto_region 1 with fail
    rw [HW0.out]
    go_upto_region 3 with (go_at_call 25; refine HMAY.out.mono ?_; rintro e w1 ⟨rfl, hB1⟩; have hx1 := blk_below HX.out hB1; have HB1 := Lib.hid (below_step HB0.out hB1); clear hB1)
    clear x0 x1 x2 x3 x4 x5 x6
    have x0 : w1.cell? ⟨w.heap.size, 0, none⟩ = some (.int .i64 m.runs) := (IBox.cells hx1 0).trans rfl
    have x1 : w1.cell? ⟨w.heap.size, 1, none⟩ = some (.int .i64 m.made) := (IBox.cells hx1 1).trans rfl
    have x2 : w1.cell? ⟨w.heap.size, 2, none⟩ = some (.int .i64 m.seq) := (IBox.cells hx1 2).trans rfl
    have x3 : w1.cell? ⟨w.heap.size, 3, none⟩ = some (.int .i64 m.now) := (IBox.cells hx1 3).trans rfl
    have x4 : w1.cell? ⟨w.heap.size, 4, none⟩ = some (.slice A4 m.types.length c4) := (IBox.cells hx1 4).trans rfl
    have x5 : w1.cell? ⟨w.heap.size, 5, none⟩ = some (.slice A5 m.saved.length c5) := (IBox.cells hx1 5).trans rfl
    have x6 : w1.cell? ⟨w.heap.size, 6, none⟩ = some (.slice A6 m.seens.length c6) := (IBox.cells hx1 6).trans rfl
    clear hx1
    go_upto_region 4 with (go_at_call 26; refine (HLA.out _ HB1.out).mono ?_; rintro e w2 ⟨v2, L, rfl, hO2, hB2, hLl, hLL⟩; obtain ⟨A2, d2, rfl⟩ := own_slice hO2; have HO2 := Lib.hid hO2; have HB2 := Lib.hid (below_step HB1.out hB2); have HLL := Lib.hid hLL; have HBY := Lib.hid (show Bytes L from (by rcases hLL with h | ⟨_, R, h⟩; (· rw [h]; exact HLB.out); (· have := HLB.out; rw [← h] at this; exact this.left))); have HSM := Lib.hid (rsum_any (BRow.rd hO2).2 (BRow.rd hO2).1 HBY.out (by omega)); have HB12 := Lib.hid hB2; clear hO2 hB2 hLL)
    clear x0 x1 x2 x3 x4 x5 x6
    go_upto_region 5 with (first
      | (go_at_call 27; refine HSM.out.mono ?_; rintro e w3 ⟨g3, d3, rfl, hO3, hB3⟩; have HY3 := Lib.hid (show BRow w3 w2.heap.size (.slice (some ⟨g3, 0, none⟩) (sumB L).length d3) (sumB L) from hO3); have HO3 := Lib.hid (own_less (BRow.below HO2.out hB3) (show w.heap.size ≤ w1.heap.size from HB1.out.size)); have HB3 := Lib.hid (below_step HB2.out hB3); clear hO3 hB3)
      | (at_builtin; refine rapp (w0 := w) rfl _ _ rfl _ L (sumB L) (some ⟨g3, 0, none⟩) d3 _ rfl rfl HO3.out HY3.out HB3.out (by rw [sumB_len]; omega) ?_; intro v4 w4 HO4 HB4 hg4; clear hg4))
    obtain ⟨A5', d5, rfl⟩ := own_slice HO4.out
    have hlen : (L ++ sumB L).length = L.length + 4 := by rw [List.length_append, sumB_len]
    by_cases hbig : 67108864 < L.length + 4
    · have k1 : decide (67108864 < ((L ++ sumB L).length : Int)) = true := decide_eq_true (by rw [hlen]; omega)
      have HE := Lib.hid (show saveE m = 2 from by
        rw [HSE.out]
        refine if_pos ?_
        rcases HLL.out with h | ⟨h, R, h2⟩
        · rw [← h]; exact hbig
        · rw [← h2, List.length_append]; omega)
      clear hlen hbig hLl
      generalize L ++ sumB L = LS at *
      go_wp2_with fail
      go_ret2
      exact RSPost.bad HE.out (by decide) HB4.out
    · have k1 : decide (67108864 < ((L ++ sumB L).length : Int)) = false := decide_eq_false (by rw [hlen]; omega)
      have hLm : L = laid m := by
        rcases HLL.out with h | ⟨h, _⟩
        · exact h
        · omega
      have HE := Lib.hid (show saveE m = 0 from by rw [HSE.out, ← hLm]; exact if_neg hbig)
      have HSB := Lib.hid (show saveB m = L ++ sumB L from by unfold saveB; rw [if_pos HE.out, hLm])
      clear hlen hbig hLl hLm
      generalize L ++ sumB L = LS at *
      go_wp2_with fail
      go_ret2
      unfold RSPost
      rw [HSB.out, HE.out]
      exact ⟨A5', d5, rfl, ⟨(BRow.rd HO4.out).2, (BRow.rd HO4.out).1⟩, HB4.out⟩
  · have hmay' : mayR m = false := by simpa using hmay
    have HE := Lib.hid (mayR_false hmay')
    rw [hmay'] at HMAY
    clear hmay hmay' hm hV hl hb0 hX hW0
    go_enter Tryz.func8, Tryz.ntmps8
    go_upto_region 1 with fail
    rw [HW0.out]
    go_wp2_with (go_at_call 25; refine HMAY.out.mono ?_; rintro e w1 ⟨rfl, hB1⟩; have HB1 := Lib.hid (below_step HB0.out hB1); clear hB1)
    go_ret2
    exact RSPost.bad HE.out (by decide) HB1.out
end Go.Proofs.YtcfgmkmllcfjjaaGreatDoor
