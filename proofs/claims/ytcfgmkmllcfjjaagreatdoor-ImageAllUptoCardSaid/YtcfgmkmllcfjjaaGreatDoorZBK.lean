import Derived.Test.YtcfgmkmllcfjjaaGreatDoorZBI
set_option linter.unusedVariables false
set_option linter.unusedSimpArgs false
namespace Go.Proofs.YtcfgmkmllcfjjaaGreatDoor
open Go.RowKit Go.Proofs.YtcfgmkmllcfjjaaGreatDoorW.PrintWords Go.Proofs.YtcfgmkmllcfjjaaGreatDoorW.PrintMore PImageAll
section
variable {ops : Array Oper} {o : Oper} {a : Act} {Q : Exit → Act → World → Prop}
theorem uastep {w Wk W : World} {K : Act → World → Prop} {E : Prop} {g b : Nat} {l : List Int} {sk : Us} {nm : ByteArray} {xs : List S58} {v : Value} (hgd : o.guard = none) (s x : Operand)
    (ho : o.op = .call { callee := .builtin .append, args := #[s, x], argTypes := #[54, 54] }) (hB : UBx w Wk g l b 56 #[.string nm, v] sk W) (hR : k58.R 58 W Wk.heap.size (fun _ => True) v xs) (p : S58)
    (hs : a.eval s = v) (hx : a.eval x = .slice (some ⟨W.heap.size, 0, none⟩) 1 1) (hl : xs.length ≤ 1000000)
    (h : ∀ A1 n1 c1 w1, w1.cell? ⟨b, 1, none⟩ = some v → w1.frozen? ⟨b, 1, none⟩ = false → Hid (UBx w Wk g l b 56 #[.string nm, .slice A1 n1 c1] sk (w1.setCell ⟨b, 1, none⟩ (.slice A1 n1 c1))) → Hid (k58.R 58 (w1.setCell ⟨b, 1, none⟩ (.slice A1 n1 c1)) Wk.heap.size (fun _ => True) (.slice A1 n1 c1) (xs ++ [p])) → K (a.put o.dst (.slice A1 n1 c1)) w1) :
    if Region.wanted o (yielded ops a.tmps) = true then Oper.wp Tryz.prog o a (W.alloc (.cells #[.string p.f0, .int .i64 p.f1] 58)) K Q else E := by
  have hw : Region.wanted o (yielded ops a.tmps) = true := by simp [Region.wanted, hgd]
  have hlo : Wk.heap.size ≤ W.heap.size := hB.ro.size
  have key := Kd.R_append_step (P := Tryz.prog) (ops := ops) (o := o) (a := a) (Q := Q) (Kc := K) k58 (w0 := W) (W := W) Wk.heap.size hw s x 54 58 _ 24 ho Tryz.underlying54 info58 rfl (by decide) (by decide) v xs p _ (fun _ => True) (fun k => some k ≠ v.ownBlock) hs hx (k58_mkM W Wk.heap.size _ p) (fun k hk => ⟨trivial, hk⟩) (fun _ _ => trivial) hR (Below.refl _ _) hlo (by omega) ?_
  · rw [if_pos hw] at key ⊢
    exact key
  · intro v1 w1 hR1 _ hg1 _
    obtain ⟨A1, c1, rfl⟩ := Kd.R_slice hR1
    have hB1 := hB.grown hg1 (Kd.R_base hR) (Kd.R_typed hR) (by decide)
    exact h A1 _ c1 w1 ((hB1.cell 1).trans rfl) (hB1.free 1) (Lib.hid (hB1.set 1 _)) (Lib.hid (Kd.R_set hR1 hB1.bx (k58n (by decide)) 1 _))
end
def UIPost (w : World) (g : Nat) (l : List Int) (r : Img × Us) (e : Ending) (w' : World) : Prop :=
  ∃ v4 v5 v6, e = .returned (imgV r.1 v4 v5 v6) ∧ IRows w w' r.1 v4 v5 v6 ∧ URAt w w' g l r.2
set_option maxRecDepth 100000 in
set_option maxHeartbeats 32000000 in
theorem uimage_any {w wL : World} {g : Nat} {l : List Int} (hR : URAt w wL g l (0, false)) (hl : Bytes l) (hml : l.length ≤ 67108864) :
    Calls Tryz.prog 32 #[.pointer (some ⟨g, 0, none⟩)] wL (UIPost w g l (uimg l)) := by
  have hm : l.length ≤ 4611686018427387904 := by omega
  generalize hW1 : (wL.alloc (.cells #[.int .i64 0, .int .i64 0, .int .i64 0, .int .i64 0, .slice none 0 0, .slice none 0 0, .slice none 0 0] 31)).alloc (.cells #[.int .i64 0, .int .i64 0, .int .i64 0, .int .i64 0, .slice none 0 0, .slice none 0 0, .slice none 0 0] 31) = W1
  have HW1 := Lib.hid hW1
  generalize hWa : wL.alloc (.cells #[.int .i64 0, .int .i64 0, .int .i64 0, .int .i64 0, .slice none 0 0, .slice none 0 0, .slice none 0 0] 31) = Wa at hW1
  have sa : Wa.heap.size = wL.heap.size + 1 := by rw [← hWa]; simp
  have ba : Below wL.heap.size wL Wa := by rw [← hWa]; exact below_new _ _
  have b1 : Below Wa.heap.size Wa W1 := by rw [← hW1]; exact below_new _ _
  have hsz := hR.2.1.size
  have hE : ULd w g l wL.heap.size (wL.heap.size + 1) (0, false) zImg (.slice none 0 0) (.slice none 0 0) (.slice none 0 0) W1 := by
    refine ⟨hR.below (below_step ba b1), hsz, by omega, by omega, ?_, ?_, Kd.R_nil _ _ _ _ _, Kd.R_nil _ _ _ _ _, Kd.R_nil _ _ _ _ _⟩
    · have h := blk_new Wa (.cells #[.int .i64 0, .int .i64 0, .int .i64 0, .int .i64 0, .slice none 0 0, .slice none 0 0, .slice none 0 0] 31)
      rw [hW1, sa] at h
      exact h
    · have h := blk_new wL (.cells #[.int .i64 0, .int .i64 0, .int .i64 0, .int .i64 0, .slice none 0 0, .slice none 0 0, .slice none 0 0] 31)
      rw [hWa] at h
      exact blk_below h b1
  have HE := Lib.hid hE
  have HONE := Lib.hid (fun W (s : Us) (h : URAt w W g l s) => uone_any h hm)
  have HNUM := Lib.hid (fun W (s : Us) (h : URAt w W g l s) => unum_any h hm)
  have HCNT := Lib.hid (fun W (s : Us) most (h : URAt w W g l s) => ucount_any most h hm)
  have HTXT := Lib.hid (fun W (s : Us) (h : URAt w W g l s) => utext_any h hm)
  have HHL := Lib.hid hl
  have hgl : g < wL.heap.size := hR.lt
  obtain ⟨R, hRR⟩ : ∃ R, R = uimg l := ⟨_, rfl⟩
  rw [← hRR]
  have HR := Lib.hid hRR
  clear hW1 hWa sa ba b1 hE hR hl hRR
  go_enter Tryz.func32, Tryz.ntmps32
  go_upto_region 2 with fail
  rw [HW1.out]
  go_wp2_with fail
  go_loopw [4] (fun t4 wr => ∃ (k : Nat) (s : Us), k ≤ 4 ∧ t4 = .int .i64 k ∧ Hid (ULd w g l wL.heap.size (wL.heap.size + 1) s zImg (.slice none 0 0) (.slice none 0 0) (.slice none 0 0) wr) ∧ Hid (us0 l = uskip l (4 - k) s)) (fun t4 _ => 4 - (intOf t4).toNat)
  case atStart => exact ⟨0, _, by omega, rfl, HE, Lib.hid rfl⟩
  case round =>
    clear HE
    obtain ⟨k, s, hk, rfl, HE, HS⟩ := hrel
    by_cases hlt : k < 4
    · have d1 : decide ((k : Int) < 4) = true := decide_eq_true (by omega)
      have HC := Lib.hid (HONE.out _ _ HE.out.rd)
      have HS2 := Lib.hid (show us0 l = uskip l (4 - (k + 1)) (uone l s).2 from by rw [HS.out, show 4 - k = (4 - (k + 1)) + 1 by omega]; rfl)
      generalize uone l s = r at *
      obtain ⟨x, s2⟩ := r
      go_wp2_with (go_at_call 60; refine HC.out.mono ?_; rintro e2 w2 ⟨rfl, hR2, hO2⟩; have HE2 := Lib.hid (HE.out.read hR2 hO2); clear hR2 hO2)
      go_roundw
      case rel => exact ⟨k + 1, s2, by omega, by go_num, HE2, HS2⟩
      case measure => simp [intOf]; omega
    · obtain rfl : k = 4 := by omega
      have HS0 := Lib.hid (show us0 l = s from HS.out)
      obtain ⟨wa, rfl⟩ : ∃ wa : World, wa = wr := ⟨_, rfl⟩
      clear HS hlt hk
      obtain ⟨n1, s1, hr1⟩ : ∃ n z, unum l s = (n, z) := ⟨(unum l s).1, (unum l s).2, rfl⟩
      have HC1 := Lib.hid (by have h := HNUM.out _ _ HE.out.rd; rw [hr1] at h; exact h)
      have HN1 := Lib.hid hr1
      clear hr1
      go_upto_region 7 with (go_at_call 61; refine HC1.out.mono ?_; rintro e2 w1 ⟨rfl, hR2, hO2⟩; have hE2 := HE.out.read hR2 hO2; have x0 := (IBox.cells hE2.im 0).trans rfl; have f0 := blk_frozen hE2.im 0; have HEn1 := Lib.hid (hE2.set0 n1); clear hR2 hO2 hE2)
      clear x0 f0 HC1
      generalize hws : w1.setCell ⟨wL.heap.size + 1, 0, none⟩ (.int .i64 n1) = wb1 at *
      clear hws
      obtain ⟨n2, s2, hr2⟩ : ∃ n z, unum l s1 = (n, z) := ⟨(unum l s1).1, (unum l s1).2, rfl⟩
      have HC2 := Lib.hid (by have h := HNUM.out _ _ HEn1.out.rd; rw [hr2] at h; exact h)
      have HN2 := Lib.hid hr2
      clear hr2
      go_upto_region 8 with (go_at_call 61; refine HC2.out.mono ?_; rintro e2 w2 ⟨rfl, hR2, hO2⟩; have hE2 := HEn1.out.read hR2 hO2; have x0 := (IBox.cells hE2.im 1).trans rfl; have f0 := blk_frozen hE2.im 1; have HEn2 := Lib.hid (hE2.set1 n2); clear hR2 hO2 hE2)
      clear x0 f0 HC2
      generalize hws : w2.setCell ⟨wL.heap.size + 1, 1, none⟩ (.int .i64 n2) = wb2 at *
      clear hws
      obtain ⟨n3, s3, hr3⟩ : ∃ n z, unum l s2 = (n, z) := ⟨(unum l s2).1, (unum l s2).2, rfl⟩
      have HC3 := Lib.hid (by have h := HNUM.out _ _ HEn2.out.rd; rw [hr3] at h; exact h)
      have HN3 := Lib.hid hr3
      clear hr3
      go_upto_region 9 with (go_at_call 61; refine HC3.out.mono ?_; rintro e2 w3 ⟨rfl, hR2, hO2⟩; have hE2 := HEn2.out.read hR2 hO2; have x0 := (IBox.cells hE2.im 2).trans rfl; have f0 := blk_frozen hE2.im 2; have HEn3 := Lib.hid (hE2.set2 n3); clear hR2 hO2 hE2)
      clear x0 f0 HC3
      generalize hws : w3.setCell ⟨wL.heap.size + 1, 2, none⟩ (.int .i64 n3) = wb3 at *
      clear hws
      obtain ⟨n4, s4, hr4⟩ : ∃ n z, unum l s3 = (n, z) := ⟨(unum l s3).1, (unum l s3).2, rfl⟩
      have HC4 := Lib.hid (by have h := HNUM.out _ _ HEn3.out.rd; rw [hr4] at h; exact h)
      have HN4 := Lib.hid hr4
      clear hr4
      go_upto_region 10 with (go_at_call 61; refine HC4.out.mono ?_; rintro e2 w4 ⟨rfl, hR2, hO2⟩; have hE2 := HEn3.out.read hR2 hO2; have x0 := (IBox.cells hE2.im 3).trans rfl; have f0 := blk_frozen hE2.im 3; have HEn4 := Lib.hid (hE2.set3 n4); clear hR2 hO2 hE2)
      clear x0 f0 HC4
      generalize hws : w4.setCell ⟨wL.heap.size + 1, 3, none⟩ (.int .i64 n4) = wb4 at *
      clear hws
      have HE4 : Hid (ULd w g l wL.heap.size (wL.heap.size + 1) s4 ⟨n1, n2, n3, n4, [], [], []⟩ (.slice none 0 0) (.slice none 0 0) (.slice none 0 0) wb4) := HEn4
      clear HEn1 HEn2 HEn3 HEn4 HE
      obtain ⟨c5, s5, hr5⟩ : ∃ n z, ucount l 64 s4 = (n, z) := ⟨(ucount l 64 s4).1, (ucount l 64 s4).2, rfl⟩
      obtain ⟨hc0, hc1⟩ := ucount_rng (l := l) (most := 64) (by decide) s4
      rw [hr5] at hc0 hc1
      simp only at hc0 hc1
      obtain ⟨c5, rfl⟩ := Int.eq_ofNat_of_zero_le hc0
      have HC5 := Lib.hid (by have h := HCNT.out _ _ 64 HE4.out.rd; rw [hr5] at h; exact h)
      have HN5 := Lib.hid hr5
      clear hr5 hc0
      go_wp2_with (go_at_call 62; refine HC5.out.mono ?_; rintro e2 w5 ⟨rfl, hR2, hO2⟩; have HE5 := Lib.hid (HE4.out.read hR2 hO2); clear hR2 hO2)
      clear HE4 HC5
      go_loopw [5] (fun t5 wr => ∃ (k : Nat) (s : Us) (xs : List S56) (v4 : Value), k ≤ c5 ∧ t5 = .int .i64 k ∧ Hid (ULd w g l wL.heap.size (wL.heap.size + 1) s ⟨n1, n2, n3, n4, xs, [], []⟩ v4 (.slice none 0 0) (.slice none 0 0) wr) ∧ Hid (xs.length + k = c5 ∧ ulist (utype l) c5 s5 = (xs ++ (ulist (utype l) k s).1, (ulist (utype l) k s).2))) (fun t5 _ => (intOf t5).toNat)
      case atStart => exact ⟨c5, s5, [], _, by omega, rfl, HE5, Lib.hid ⟨by simp, rfl⟩⟩
      case round =>
        clear HE5
        obtain ⟨k, s, xs, v4, hk, rfl, HE, HX⟩ := hrel
        obtain ⟨p, q⟩ := s
        obtain ⟨_, _, _, _, g2, _⟩ := HE.out.rd.cells
        have g2 : wr.cell? ⟨g, 2, none⟩ = some (.bool q) := g2
        obtain ⟨wk, rfl⟩ : ∃ wk : World, wk = wr := ⟨_, rfl⟩
        by_cases hgo : 0 < k ∧ q = false
        · obtain ⟨hk0, rfl⟩ := hgo
          obtain ⟨j, rfl⟩ : ∃ j, k = j + 1 := ⟨k - 1, by omega⟩
          have d1 : decide (0 < ((j + 1 : Nat) : Int)) = true := decide_eq_true (by omega)
          have HXT := Lib.hid (show ulist (utype l) c5 s5 = (xs ++ ((utype l (p, false)).1 :: (ulist (utype l) j (utype l (p, false)).2).1), (ulist (utype l) j (utype l (p, false)).2).2) from by rw [HX.out.2, ulist_step _ rfl])
          have HXL := Lib.hid HX.out.1
          clear HX
          have hut : utype l (p, false) = (⟨(utext l (p, false)).1, (ulist (uattr l) (ucount l 16 (utext l (p, false)).2).1.toNat (ucount l 16 (utext l (p, false)).2).2).1⟩, (ulist (uattr l) (ucount l 16 (utext l (p, false)).2).1.toNat (ucount l 16 (utext l (p, false)).2).2).2) := rfl
          have HT1 := Lib.hid (HTXT.out _ _ HE.out.rd)
          generalize utype l (p, false) = UT at *
          generalize utext l (p, false) = r1 at *
          obtain ⟨nm, sa⟩ := r1
          simp only at hut
          obtain ⟨ca, sb, hr6⟩ : ∃ n z, ucount l 16 sa = (n, z) := ⟨(ucount l 16 sa).1, (ucount l 16 sa).2, rfl⟩
          obtain ⟨ha0, ha1⟩ := ucount_rng (l := l) (most := 16) (by decide) sa
          rw [hr6] at ha0 ha1 hut
          simp only at ha0 ha1 hut
          obtain ⟨ca, rfl⟩ := Int.eq_ofNat_of_zero_le ha0
          rw [Int.toNat_natCast] at hut
          have HUT := Lib.hid hut
          have HCA := Lib.hid (fun W h => (by have h2 := HCNT.out W sa 16 h; rw [hr6] at h2; exact h2 : Calls Tryz.prog 62 #[.pointer (some ⟨g, 0, none⟩), .int .i64 16] W (UPost w W g l (.int .i64 (ca : Int)) sb)))
          clear hut hr6 ha0
          go_wp2_with (first
            | (go_at_call 63; refine HT1.out.mono ?_; rintro e6 w6 ⟨rfl, hR6, hO6⟩; have HBX := Lib.hid (UBx.new hR6 hO6 HE.out.rd.2.1.size HE.out.rd.lt #[.string nm, .slice none 0 0] 56); clear hR6 hO6)
            | (go_at_call 62; refine (HCA.out _ HBX.out.rd).mono ?_; rintro e7 w7 ⟨rfl, hR7, hO7⟩; have HBX7 := Lib.hid (HBX.out.read hR7 hO7); clear hR7 hO7))
          clear HT1 HCA g2 d1
          generalize hbb : w6.heap.size = bb at *
          clear hbb
          go_loopw [7] (fun t7 wr => ∃ (i : Nat) (s : Us) (ys : List S58) (va : Value), i ≤ ca ∧ t7 = .int .i64 i ∧ Hid (UBx w wk g l bb 56 #[.string nm, va] s wr) ∧ Hid (k58.R 58 wr wk.heap.size (fun _ => True) va ys) ∧ Hid (ys.length + i = ca ∧ ulist (uattr l) ca sb = (ys ++ (ulist (uattr l) i s).1, (ulist (uattr l) i s).2))) (fun t7 _ => (intOf t7).toNat)
          case atStart => exact ⟨ca, sb, [], _, by omega, rfl, HBX7, Lib.hid (Kd.R_nil _ _ _ _ _), Lib.hid ⟨by simp, rfl⟩⟩
          case round =>
            clear HBX HBX7
            obtain ⟨i, s, ys, va, hi, rfl, HB, HV, HY⟩ := hrel
            obtain ⟨p2, q2⟩ := s
            obtain ⟨_, _, _, _, g2, _⟩ := HB.out.rd.cells
            have g2 : wr.cell? ⟨g, 2, none⟩ = some (.bool q2) := g2
            obtain ⟨Aa, ka, rfl⟩ := Kd.R_slice HV.out
            by_cases hgo : 0 < i ∧ q2 = false
            · obtain ⟨hi0, rfl⟩ := hgo
              obtain ⟨j2, rfl⟩ : ∃ j, i = j + 1 := ⟨i - 1, by omega⟩
              have d2 : decide (0 < ((j2 + 1 : Nat) : Int)) = true := decide_eq_true (by omega)
              have HYT := Lib.hid (show ulist (uattr l) ca sb = (ys ++ ((uattr l (p2, false)).1 :: (ulist (uattr l) j2 (uattr l (p2, false)).2).1), (ulist (uattr l) j2 (uattr l (p2, false)).2).2) from by rw [HY.out.2, ulist_step _ rfl])
              have HYL := Lib.hid HY.out.1
              clear HY
              have hua : uattr l (p2, false) = (⟨(utext l (p2, false)).1, (uone l (utext l (p2, false)).2).1⟩, (uone l (utext l (p2, false)).2).2) := rfl
              have HT2 := Lib.hid (HTXT.out _ _ HB.out.rd)
              generalize uattr l (p2, false) = UA at *
              generalize utext l (p2, false) = r1 at *
              obtain ⟨nm2, sc⟩ := r1
              simp only at hua
              go_upto_region 18 with (go_at_call 63; refine HT2.out.mono ?_; rintro e8 w8 ⟨rfl, hR8, hO8⟩; have HB8 := Lib.hid (HB.out.read hR8 hO8); have HV8 := Lib.hid (R_ur HV.out HB.out.rd (k58n (by decide)) hO8); clear hR8 hO8)
              have HO8 := Lib.hid (fun W h => HONE.out W sc h)
              obtain ⟨hk0, hk1⟩ := uone_rng HHL.out sc HB8.out.rd.2.2.1
              generalize uone l sc = r2 at *
              obtain ⟨kd, sd⟩ := r2
              simp only at hk0 hk1 hua
              have hwk : IntKind.i64.wrap kd = kd := IntWalk.i64_in _ (by omega)
              have hwk2 : wrap64 kd = kd := by unfold wrap64; omega
              subst hua
              have c81 := (HB8.out.cell 1).trans rfl
              have f81 := HB8.out.free 1
              have hyl : ys.length ≤ 1000000 := by have := HYL.out; omega
              clear g2 HT2
              go_region_law (first
                | (go_simp; go_at_call 60; refine (HO8.out _ (by first | exact HB8.out.drew.rd | exact HB8.out.rd)).mono ?_; rintro e9 w9 ⟨rfl, hR9, hO9⟩; have HB9 : Hid (UBx w wk g l bb 56 #[.string nm, .slice Aa ys.length ka] sd w9) := Lib.hid (by first | exact HB8.out.drew.read hR9 hO9 | exact HB8.out.read hR9 hO9); have HV9 : Hid (k58.R 58 w9 wk.heap.size (fun _ => True) (.slice Aa ys.length ka) ys) := Lib.hid (by first | exact R_ur (Kd.R_drew HV8.out) HB8.out.drew.rd (k58n (by decide)) hO9 | exact R_ur HV8.out HB8.out.rd (k58n (by decide)) hO9); have c91 := (HB9.out.cell 1).trans rfl; have f91 := HB9.out.free 1; have c92 := pw_cell_below (below_new w9 (.cells #[.string nm2, .int .i64 kd] 58)) c91)
                | (refine uastep (by rfl) _ _ (by rfl) HB9.out HV9.out ⟨nm2, kd⟩ (by rfl) (by rfl) hyl ?_; intro A7 n7 c7 w10 hc7 hf7 HB10 HV10))
              all_goals
                go_wp2_with fail
                go_roundw
                case rel => exact ⟨j2, sd, ys ++ [⟨nm2, kd⟩], _, by omega, by go_num, HB10, HV10, Lib.hid ⟨by rw [List.length_append, List.length_singleton]; have := HYL.out; omega, by rw [HYT.out]; simp⟩⟩
                case measure => first | (simp [intOf]; done) | (simp [intOf]; omega)
            · have hfin : ulist (uattr l) ca sb = (ys, (p2, q2)) := by
                rw [HY.out.2]
                by_cases h0 : 0 < i
                · have hq : q2 = true := by cases q2; exact absurd ⟨h0, rfl⟩ hgo; rfl
                  rw [ulist_bad _ hq]; simp
                · obtain rfl : i = 0 := by omega
                  simp [ulist]
              have HUT2 := Lib.hid (show UT = (⟨nm, ys⟩, (p2, q2)) from by rw [HUT.out, hfin])
              have HYL := Lib.hid (show ys.length ≤ 16 from by have := HY.out.1; omega)
              obtain ⟨bv, hbv⟩ : ∃ bv : Bool, bv = decide (0 < (i : Int)) := ⟨_, rfl⟩
              have hcase : decide (0 < (i : Int)) = false ∨ (decide (0 < (i : Int)) = true ∧ q2 = true) := by
                by_cases h0 : 0 < i
                · exact .inr ⟨decide_eq_true (by omega), by cases q2; exact absurd ⟨h0, rfl⟩ hgo; rfl⟩
                · exact .inl (decide_eq_false (by omega))
              clear hbv hfin HUT hgo
              have hEw := HE.out.read HB.out.rd HB.out.ro
              have HEw := Lib.hid hEw
              obtain ⟨A4, k4, rfl⟩ := Kd.R_slice hEw.r4
              obtain ⟨inn, hown⟩ := Kd.R_own HE.out.r4
              have hmk : k56.M wr wk.heap.size (fun _ => True) ⟨nm, ys⟩ [.string nm, .slice Aa ys.length ka] := k56_mkM _ _ _ ⟨nm, ys⟩ HV.out
              have HMN := Lib.hid (show k56.M wr w.heap.size (fun k => True ∧ some k ≠ (Value.slice A4 xs.length k4).ownBlock) ⟨nm, ys⟩ [.string nm, .slice Aa ys.length ka] from k56.M_lower HB.out.lo (Kd.M_new (W := wk) hmk hown))
              have y4 := (IBox.cells hEw.im 4).trans rfl
              have z4 := blk_frozen hEw.im 4
              have b0 := (HB.out.cell 0).trans rfl
              have b1 := (HB.out.cell 1).trans rfl
              have HLL := Lib.hid (show (xs.length + 1) * 40 ≤ 140737488355328 by have := HXL.out; omega)
              clear hEw hmk hown
              have hcn : decide (0 < (i : Int)) = decide (0 < i) := decide_eq_decide.mpr (by omega)
              rcases hcase with d2 | ⟨d2, rfl⟩
              all_goals
                have d3 := hcn.symm.trans d2
                go_wp2_with (at_builtin; refine Kd.R_append (P := Tryz.prog) k56 (w0 := wr) (W := wr) w.heap.size (by rfl) _ _ 27 56 _ 40 (by rfl) Tryz.underlying27 info56 rfl (by decide) (by decide) (.slice A4 xs.length k4) xs ⟨nm, ys⟩ [.string nm, .slice Aa ys.length ka] (fun _ => True) _ (by rfl) (by rfl) HMN.out (fun k hk => hk) (fun _ _ => trivial) HEw.out.r4 (Below.refl _ _) HEw.out.rd.2.1.size HLL.out ?_; intro v7 w11 hR7 _ hg7 _; obtain ⟨A7, c7, rfl⟩ := Kd.R_slice hR7; generalize (xs ++ [(⟨nm, ys⟩ : S56)]).length = n7 at *; have HE11 := Lib.hid (HEw.out.grow4 hR7 hg7); have hi := HEw.out.grown hg7 (Kd.R_base HEw.out.r4) (Kd.R_typed HEw.out.r4) (by decide) (by decide); have y42 := (IBox.cells hi.2.1 4).trans rfl; have z42 := blk_frozen hi.2.1 4; clear hi hR7 hg7)
                go_roundw
                case rel => exact ⟨j, _, xs ++ [⟨nm, ys⟩], _, by omega, by go_num, HE11, Lib.hid ⟨by rw [List.length_append, List.length_singleton]; have := HXL.out; omega, by rw [HXT.out, HUT2.out]; simp⟩⟩
                case measure => first | (simp [intOf]; done) | (simp [intOf]; omega)
        · have hfin : ulist (utype l) c5 s5 = (xs, (p, q)) := by
            rw [HX.out.2]
            by_cases h0 : 0 < k
            · have hq : q = true := by cases q; exact absurd ⟨h0, rfl⟩ hgo; rfl
              rw [ulist_bad _ hq]; simp
            · obtain rfl : k = 0 := by omega
              simp [ulist]
          have HFN4 := Lib.hid hfin
          have hcase : decide (0 < (k : Int)) = false ∨ (decide (0 < (k : Int)) = true ∧ q = true) := by
            by_cases h0 : 0 < k
            · exact .inr ⟨decide_eq_true (by omega), by cases q; exact absurd ⟨h0, rfl⟩ hgo; rfl⟩
            · exact .inl (decide_eq_false (by omega))
          have hcn : decide (0 < (k : Int)) = decide (0 < k) := decide_eq_decide.mpr (by omega)
          have HXL4 := Lib.hid (show xs.length ≤ 64 from by have := HX.out.1; omega)
          clear HX hfin hgo
          go_upto_region 11 with fail
          go_cut [48] from 40 to 48 (fun tt wx => tt = .bool false ∧ Hid (ULd w g l wL.heap.size (wL.heap.size + 1) (p, q) ⟨n1, n2, n3, n4, xs, [], []⟩ v4 (.slice none 0 0) (.slice none 0 0) wx))
          case first =>
            rcases hcase with d2 | ⟨d2, rfl⟩
            all_goals
              have d3 := hcn.symm.trans d2
              go_wp2_with fail
              go_meet
              exact ⟨rfl, HE⟩
          case rest =>
            obtain ⟨w4e, rfl⟩ : ∃ wa : World, wa = wc := ⟨_, rfl⟩
            obtain ⟨rfl, HE4e⟩ := hcut
            clear hcase hcn HE g2
            obtain ⟨c9, s9, hr9⟩ : ∃ n z, ucount l 64 (p, q) = (n, z) := ⟨(ucount l 64 (p, q)).1, (ucount l 64 (p, q)).2, rfl⟩
            obtain ⟨hc0, hc1⟩ := ucount_rng (l := l) (most := 64) (by omega) (p, q)
            rw [hr9] at hc0 hc1
            simp only at hc0 hc1
            obtain ⟨c9, rfl⟩ := Int.eq_ofNat_of_zero_le hc0
            have HC9 := Lib.hid (by have h := HCNT.out _ _ 64 HE4e.out.rd; rw [hr9] at h; exact h)
            have HN9 := Lib.hid hr9
            clear hr9 hc0
            go_wp2_with (go_at_call 62; refine HC9.out.mono ?_; rintro e2 w9c ⟨rfl, hR2, hO2⟩; have HE9 := Lib.hid (HE4e.out.read hR2 hO2); clear hR2 hO2)
            clear HE4e HC9
            go_loopw [9] (fun t9 wr => ∃ (k : Nat) (s : Us) (ys : List S60) (v5 : Value), k ≤ c9 ∧ t9 = .int .i64 k ∧ Hid (ULd w g l wL.heap.size (wL.heap.size + 1) s ⟨n1, n2, n3, n4, xs, ys, []⟩ v4 v5 (.slice none 0 0) wr) ∧ Hid (ys.length + k = c9 ∧ ulist (usaved l) c9 s9 = (ys ++ (ulist (usaved l) k s).1, (ulist (usaved l) k s).2))) (fun t9 _ => (intOf t9).toNat)
            case atStart => exact ⟨c9, s9, [], _, by omega, rfl, HE9, Lib.hid ⟨by simp, rfl⟩⟩
            case round =>
              clear HE9
              obtain ⟨k3, s, ys, v5, hk3, rfl, HE, HY⟩ := hrel
              obtain ⟨p3, q3⟩ := s
              obtain ⟨_, _, _, _, g2, _⟩ := HE.out.rd.cells
              have g2 : wr.cell? ⟨g, 2, none⟩ = some (.bool q3) := g2
              obtain ⟨wk, rfl⟩ : ∃ wk : World, wk = wr := ⟨_, rfl⟩
              by_cases hgo : 0 < k3 ∧ q3 = false
              · obtain ⟨hk0, rfl⟩ := hgo
                obtain ⟨j3, rfl⟩ : ∃ j, k3 = j + 1 := ⟨k3 - 1, by omega⟩
                have d1 : decide (0 < ((j3 + 1 : Nat) : Int)) = true := decide_eq_true (by omega)
                have HYT := Lib.hid (show ulist (usaved l) c9 s9 = (ys ++ ((usaved l (p3, false)).1 :: (ulist (usaved l) j3 (usaved l (p3, false)).2).1), (ulist (usaved l) j3 (usaved l (p3, false)).2).2) from by rw [HY.out.2, ulist_step _ rfl])
                have HYL := Lib.hid HY.out.1
                clear HY
                have hus : usaved l (p3, false) = (⟨(utext l (p3, false)).1, (utext l (utext l (p3, false)).2).1, (unum l (utext l (utext l (p3, false)).2).2).1, (uone l (unum l (utext l (utext l (p3, false)).2).2).2).1 == 1⟩, (uone l (unum l (utext l (utext l (p3, false)).2).2).2).2) := rfl
                have HT1 := Lib.hid (HTXT.out _ _ HE.out.rd)
                generalize usaved l (p3, false) = UV at *
                generalize utext l (p3, false) = r1 at *
                obtain ⟨nm, sa⟩ := r1
                simp only at hus
                have HT2 := Lib.hid (fun W h => HTXT.out W sa h)
                generalize utext l sa = r1 at *
                obtain ⟨tx2, sb⟩ := r1
                simp only at hus
                have HT3 := Lib.hid (fun W h => HNUM.out W sb h)
                generalize unum l sb = r1 at *
                obtain ⟨nn, sc⟩ := r1
                simp only at hus
                have HT4 := Lib.hid (fun W h => HONE.out W sc h)
                generalize uone l sc = r1 at *
                obtain ⟨bt, sd⟩ := r1
                simp only at hus
                subst hus
                go_upto_region 24 with (go_at_call 63; refine HT1.out.mono ?_; rintro e6 w6 ⟨rfl, hR6, hO6⟩; have HBX := Lib.hid (UBx.new hR6 hO6 HE.out.rd.2.1.size HE.out.rd.lt #[.string nm, .string ⟨#[]⟩, .int .i64 0, .bool false] 60); clear hR6 hO6)
                generalize hbb : w6.heap.size = bb at *
                clear hbb
                generalize w6.alloc (.cells #[.string nm, .string ⟨#[]⟩, .int .i64 0, .bool false] 60) = w6a at *
                go_upto_region 25 with (go_at_call 63; refine (HT2.out _ HBX.out.rd).mono ?_; rintro e7 w7 ⟨rfl, hR7, hO7⟩; have hB7 := HBX.out.read hR7 hO7; have c71 := (hB7.cell 1).trans rfl; have f71 := hB7.free 1; have HB7 := Lib.hid (show UBx w wk g l bb 60 #[.string nm, .string tx2, .int .i64 0, .bool false] sb (w7.setCell ⟨bb, 1, none⟩ (.string tx2)) from hB7.set 1 (.string tx2)); clear hR7 hO7 hB7)
                clear c71 f71
                generalize w7.setCell ⟨bb, 1, none⟩ (.string tx2) = w7a at *
                go_upto_region 26 with (go_at_call 61; refine (HT3.out _ HB7.out.rd).mono ?_; rintro e8 w8 ⟨rfl, hR8, hO8⟩; have hB8 := HB7.out.read hR8 hO8; have c82 := (hB8.cell 2).trans rfl; have f82 := hB8.free 2; have HB8 := Lib.hid (show UBx w wk g l bb 60 #[.string nm, .string tx2, .int .i64 nn, .bool false] sc (w8.setCell ⟨bb, 2, none⟩ (.int .i64 nn)) from hB8.set 2 (.int .i64 nn)); clear hR8 hO8 hB8)
                clear c82 f82
                generalize w8.setCell ⟨bb, 2, none⟩ (.int .i64 nn) = w8a at *
                go_upto_region 27 with (go_at_call 60; refine (HT4.out _ HB8.out.rd).mono ?_; rintro e9 w9 ⟨rfl, hR9, hO9⟩; have hB9 := HB8.out.read hR9 hO9; have c93 := (hB9.cell 3).trans rfl; have f93 := hB9.free 3; have HB9 := Lib.hid (show UBx w wk g l bb 60 #[.string nm, .string tx2, .int .i64 nn, .bool (bt == 1)] sd (w9.setCell ⟨bb, 3, none⟩ (.bool (bt == 1))) from hB9.set 3 (.bool (bt == 1))); clear hR9 hO9 hB9)
                clear c93 f93 HBX HB7 HB8 HT1 HT2 HT3 HT4 g2
                generalize w9.setCell ⟨bb, 3, none⟩ (.bool (bt == 1)) = w9a at *
                have hEw := HE.out.read HB9.out.rd HB9.out.ro
                have HEw := Lib.hid hEw
                obtain ⟨A5, k5, rfl⟩ := Kd.R_slice hEw.r5
                have y5 := (IBox.cells hEw.im 5).trans rfl
                have z5 := blk_frozen hEw.im 5
                have b0 := (HB9.out.cell 0).trans rfl
                have b1 := (HB9.out.cell 1).trans rfl
                have b2 := (HB9.out.cell 2).trans rfl
                have b3 := (HB9.out.cell 3).trans rfl
                have HLL := Lib.hid (show (ys.length + 1) * 48 ≤ 140737488355328 by have := HYL.out; omega)
                clear hEw
                go_wp2_with (at_builtin; refine Kd.R_append (P := Tryz.prog) k60 (w0 := w9a) (W := w9a) w.heap.size (by rfl) _ _ 28 60 _ 48 (by rfl) Tryz.underlying28 info60 rfl (by decide) (by decide) (.slice A5 ys.length k5) ys ⟨nm, tx2, nn, bt == 1⟩ [.string nm, .string tx2, .int .i64 nn, .bool (bt == 1)] (fun _ => True) (fun k => some k ≠ (Value.slice A5 ys.length k5).ownBlock) (by rfl) (by rfl) (k60_mkM _ _ _ ⟨nm, tx2, nn, bt == 1⟩) (fun k hk => ⟨trivial, hk⟩) (fun _ _ => trivial) HEw.out.r5 (Below.refl _ _) HEw.out.rd.2.1.size HLL.out ?_; intro v7 w11 hR7 _ hg7 _; obtain ⟨A7, c7, rfl⟩ := Kd.R_slice hR7; generalize (ys ++ [(⟨nm, tx2, nn, bt == 1⟩ : S60)]).length = n7 at *; have HE11 := Lib.hid (HEw.out.grow5 hR7 hg7); have hi := HEw.out.grown hg7 (Kd.R_base HEw.out.r5) (Kd.R_typed HEw.out.r5) (by decide) (by decide); have y52 := (IBox.cells hi.2.1 5).trans rfl; have z52 := blk_frozen hi.2.1 5; clear hi hR7 hg7)
                go_roundw
                case rel => exact ⟨j3, _, ys ++ [⟨nm, tx2, nn, bt == 1⟩], _, by omega, by go_num, HE11, Lib.hid ⟨by rw [List.length_append, List.length_singleton]; have := HYL.out; omega, by rw [HYT.out]; simp⟩⟩
                case measure => first | (simp [intOf]; done) | (simp [intOf]; omega)
              · have hfin : ulist (usaved l) c9 s9 = (ys, (p3, q3)) := by
                  rw [HY.out.2]
                  by_cases h0 : 0 < k3
                  · have hq : q3 = true := by cases q3; exact absurd ⟨h0, rfl⟩ hgo; rfl
                    rw [ulist_bad _ hq]; simp
                  · obtain rfl : k3 = 0 := by omega
                    simp [ulist]
                have HFN5 := Lib.hid hfin
                have hcase : decide (0 < (k3 : Int)) = false ∨ (decide (0 < (k3 : Int)) = true ∧ q3 = true) := by
                  by_cases h0 : 0 < k3
                  · exact .inr ⟨decide_eq_true (by omega), by cases q3; exact absurd ⟨h0, rfl⟩ hgo; rfl⟩
                  · exact .inl (decide_eq_false (by omega))
                have hcn : decide (0 < (k3 : Int)) = decide (0 < k3) := decide_eq_decide.mpr (by omega)
                have HXL5 := Lib.hid (show ys.length ≤ 64 from by have := HY.out.1; omega)
                clear HY hfin hgo
                go_upto_region 21 with fail
                go_cut [95] from 87 to 95 (fun tt wx => tt = .bool false ∧ Hid (ULd w g l wL.heap.size (wL.heap.size + 1) (p3, q3) ⟨n1, n2, n3, n4, xs, ys, []⟩ v4 v5 (.slice none 0 0) wx))
                case first =>
                  rcases hcase with d2 | ⟨d2, rfl⟩
                  all_goals
                    have d3 := hcn.symm.trans d2
                    go_wp2_with fail
                    go_meet
                    exact ⟨rfl, HE⟩
                case rest =>
                  obtain ⟨w5e, rfl⟩ : ∃ wa : World, wa = wc := ⟨_, rfl⟩
                  obtain ⟨rfl, HE5e⟩ := hcut
                  clear hcase hcn HE g2
                  obtain ⟨A4, k4, rfl⟩ := Kd.R_slice HE5e.out.r4
                  obtain ⟨A5, k5, rfl⟩ := Kd.R_slice HE5e.out.r5
                  obtain ⟨Ab, cb, gg0, _, _, _, _, hcb, hCb⟩ := HE5e.out.rd.cells
                  have HRF := Lib.hid (fun (zs : List S65) (sz : Us) (h : useens l (ucount l l.length (p3, q3)).1.toNat (ucount l l.length (p3, q3)).2 0 = (zs, sz)) => show R = (⟨n1, n2, n3, n4, xs, ys, zs⟩, sz) from by
                    have e0 := HS0.out
                    have e1 : us1 l = s1 := by unfold us1; rw [e0, HN1.out]
                    have e2 : us2 l = s2 := by unfold us2; rw [e1, HN2.out]
                    have e3 : us3 l = s3 := by unfold us3; rw [e2, HN3.out]
                    have e4 : us4 l = s4 := by unfold us4; rw [e3, HN4.out]
                    have e5 : uty l = (xs, (p, q)) := by unfold uty; rw [e4, HN5.out]; simp only [Int.toNat_natCast]; exact HFN4.out
                    have e6 : usv l = (ys, (p3, q3)) := by unfold usv; rw [e5, HN9.out]; simp only [Int.toNat_natCast]; exact HFN5.out
                    have e7 : usn l = (zs, sz) := by unfold usn; rw [e6]; exact h
                    rw [HR.out]; unfold uimg; rw [e0, e1, e2, e3, e5, e6, e7, HN1.out, HN2.out, HN3.out, HN4.out])
                  clear HR HS0 HN1 HN2 HN3 HN4 HN5 HN9 HFN4 HFN5
                  obtain ⟨cc, sx, hr12⟩ : ∃ n z, ucount l (l.length : Int) (p3, q3) = (n, z) := ⟨(ucount l (l.length : Int) (p3, q3)).1, (ucount l (l.length : Int) (p3, q3)).2, rfl⟩
                  obtain ⟨hc0, hc1⟩ := ucount_rng (l := l) (most := (l.length : Int)) (by omega) (p3, q3)
                  rw [hr12] at hc0 hc1
                  simp only at hc0 hc1
                  obtain ⟨cc, rfl⟩ := Int.eq_ofNat_of_zero_le hc0
                  have HC12 := Lib.hid (by have h := HCNT.out _ _ (l.length : Int) HE5e.out.rd; rw [hr12] at h; exact h)
                  have HN12 := Lib.hid hr12
                  clear hr12 hc0
                  have HRG := Lib.hid (fun (zs : List S65) (sz : Us) (h : useens l cc sx 0 = (zs, sz)) => HRF.out zs sz (by rw [HN12.out]; simp only [Int.toNat_natCast]; exact h))
                  clear HRF HN12
                  go_wp2_with (go_at_call 62; refine HC12.out.mono ?_; rintro e2 w12c ⟨rfl, hR2, hO2⟩; have HE12 := Lib.hid (HE5e.out.read hR2 hO2); clear hR2 hO2)
                  clear HE5e HC12 gg0 hcb hCb
                  go_loopw [11, 12] (fun t11 t12 wr => ∃ (k : Nat) (last : Int) (s : Us) (zs : List S65) (v6 : Value), k ≤ cc ∧ t12 = .int .i64 k ∧ t11 = .int .i64 last ∧ 0 ≤ last ∧ last ≤ 2305843009213693952 ∧ Hid (ULd w g l wL.heap.size (wL.heap.size + 1) s ⟨n1, n2, n3, n4, xs, ys, zs⟩ (.slice A4 xs.length k4) (.slice A5 ys.length k5) v6 wr) ∧ Hid (zs.length + k = cc ∧ useens l cc sx 0 = (zs ++ (useens l k s last).1, (useens l k s last).2))) (fun _ t12 _ => (intOf t12).toNat)
                  case atStart => exact ⟨cc, 0, sx, [], _, by omega, rfl, rfl, by decide, by decide, HE12, Lib.hid ⟨by simp, rfl⟩⟩
                  case round =>
                    clear HE12
                    obtain ⟨k6, last, s, zs, v6, hk6, rfl, rfl, hl0, hl1, HE, HZ⟩ := hrel
                    obtain ⟨p6, q6⟩ := s
                    obtain ⟨_, _, _, _, g2, _, gf2, _⟩ := HE.out.rd.cells
                    have g2 : wr.cell? ⟨g, 2, none⟩ = some (.bool q6) := g2
                    obtain ⟨wk, rfl⟩ : ∃ wk : World, wk = wr := ⟨_, rfl⟩
                    obtain ⟨A6, kk6, rfl⟩ := Kd.R_slice HE.out.r6
                    by_cases hgo : 0 < k6 ∧ q6 = false
                    · obtain ⟨hk0, rfl⟩ := hgo
                      obtain ⟨j6, rfl⟩ : ∃ j, k6 = j + 1 := ⟨k6 - 1, by omega⟩
                      have d1 : decide (0 < ((j6 + 1 : Nat) : Int)) = true := decide_eq_true (by omega)
                      have HZL := Lib.hid HZ.out.1
                      have HZF := Lib.hid HZ.out.2
                      clear HZ
                      have hstep : useens l (j6 + 1) (p6, false) last = if (unum l (p6, false)).1 < 1 ∨ 2305843009213693952 - last < (unum l (p6, false)).1 then ([], ((unum l (p6, false)).2.1, true)) else if (qdec (l.drop (uone l (unum l (p6, false)).2).2.1)).2.2 = 0 then (⟨last + (unum l (p6, false)).1, (qdec (l.drop (uone l (unum l (p6, false)).2).2.1)).1, (uone l (unum l (p6, false)).2).1 == 1⟩ :: (useens l j6 ((uone l (unum l (p6, false)).2).2.1 + (qdec (l.drop (uone l (unum l (p6, false)).2).2.1)).2.1, (uone l (unum l (p6, false)).2).2.2) (last + (unum l (p6, false)).1)).1, (useens l j6 ((uone l (unum l (p6, false)).2).2.1 + (qdec (l.drop (uone l (unum l (p6, false)).2).2.1)).2.1, (uone l (unum l (p6, false)).2).2.2) (last + (unum l (p6, false)).1)).2) else ([], ((uone l (unum l (p6, false)).2).2.1, true)) := if_neg (by simp)
                      generalize useens l (j6 + 1) (p6, false) last = UN at *
                      have hdI := unum_I64 hm (p6, false)
                      have HT1 := Lib.hid (HNUM.out _ _ HE.out.rd)
                      generalize unum l (p6, false) = r1 at *
                      obtain ⟨dd, pa, qa⟩ := r1
                      simp only at hstep hdI
                      have HT2 := Lib.hid (fun W h => HONE.out W (pa, qa) h)
                      generalize uone l (pa, qa) = r1 at *
                      obtain ⟨bt, pb, qb⟩ := r1
                      simp only at hstep
                      have HST := Lib.hid hstep
                      clear hstep
                      go_upto_region 33 with (go_at_call 61; refine HT1.out.mono ?_; rintro e6 w6 ⟨rfl, hR6, hO6⟩; have HE6 := Lib.hid (HE.out.read hR6 hO6); have HO6 := Lib.hid hO6; clear hR6 hO6)
                      clear g2 gf2 HT1
                      have hws : wrap64 (2305843009213693952 - last) = 2305843009213693952 - last := by unfold wrap64; omega
                      by_cases hbad : dd < 1 ∨ 2305843009213693952 - last < dd
                      · have hU : UN = ([], (pa, true)) := HST.out.trans (if_pos hbad)
                        have hF : R = (⟨n1, n2, n3, n4, xs, ys, zs⟩, (pa, true)) := HRG.out zs (pa, true) (by rw [HZF.out, hU]; simp)
                        subst hF
                        have hcs : decide (dd < 1) = true ∨ (decide (dd < 1) = false ∧ decide (2305843009213693952 - last < dd) = true) := by
                          by_cases h0 : dd < 1
                          · exact .inl (decide_eq_true h0)
                          · exact .inr ⟨decide_eq_false h0, decide_eq_true (hbad.elim (fun h => absurd h h0) id)⟩
                        obtain ⟨_, _, _, _, g2, _, gf2, _⟩ := HE6.out.rd.cells
                        have HE7 := Lib.hid (show ULd w g l wL.heap.size (wL.heap.size + 1) (pa, true) ⟨n1, n2, n3, n4, xs, ys, zs⟩ (.slice A4 xs.length k4) (.slice A5 ys.length k5) (.slice A6 zs.length kk6) (w6.setCell ⟨g, 2, none⟩ (.bool true)) from HE6.out.read (HE6.out.rd.setBad true) (Ro.set 2 _))
                        clear hbad hU HST HRG HZF hdI HT2
                        have i0 := (IBox.cells HE7.out.im 0).trans rfl
                        have i1 := (IBox.cells HE7.out.im 1).trans rfl
                        have i2 := (IBox.cells HE7.out.im 2).trans rfl
                        have i3 := (IBox.cells HE7.out.im 3).trans rfl
                        have i4 := (IBox.cells HE7.out.im 4).trans rfl
                        have i5 := (IBox.cells HE7.out.im 5).trans rfl
                        have i6 := (IBox.cells HE7.out.im 6).trans rfl
                        have a0 := (IBox.cells HE7.out.an 0).trans rfl
                        have a1 := (IBox.cells HE7.out.an 1).trans rfl
                        have a2 := (IBox.cells HE7.out.an 2).trans rfl
                        have a3 := (IBox.cells HE7.out.an 3).trans rfl
                        have a4 := (IBox.cells HE7.out.an 4).trans rfl
                        have a5 := (IBox.cells HE7.out.an 5).trans rfl
                        have a6 := (IBox.cells HE7.out.an 6).trans rfl
                        have r0 := blk_frozen HE7.out.an 0
                        have r1 := blk_frozen HE7.out.an 1
                        have r2 := blk_frozen HE7.out.an 2
                        have r3 := blk_frozen HE7.out.an 3
                        have r4 := blk_frozen HE7.out.an 4
                        have r5 := blk_frozen HE7.out.an 5
                        have r6 := blk_frozen HE7.out.an 6
                        rcases hcs with d2 | ⟨d2, d3⟩
                        all_goals
                          go_wp2_with fail
                          have hD := HE7.out.done
                          (try simp only [Exit.inBlock, Exit.then])
                          refine bodyPost_ret (results_cell_row rfl _ _ wL.heap.size 31 #[.int .i64 n1, .int .i64 n2, .int .i64 n3, .int .i64 n4, .slice A4 xs.length k4, .slice A5 ys.length k5, (.slice A6 zs.length kk6)] (0, 0) _ rfl hD.1 Tryz.underlying31 rfl (by kernel_rfl)) rfl ?_
                          exact ⟨_, _, _, rfl, hD.2.1, hD.2.2⟩
                      · have hU := HST.out.trans (if_neg hbad)
                        have d2 : decide (dd < 1) = false := decide_eq_false (fun h => hbad (.inl h))
                        have d3 : decide (2305843009213693952 - last < dd) = false := decide_eq_false (fun h => hbad (.inr h))
                        obtain ⟨la, hla⟩ : ∃ la, la = last + dd := ⟨_, rfl⟩
                        rw [← hla] at hU
                        have hwl : wrap64 (last + dd) = la := by rw [hla]; unfold wrap64; omega
                        have hla0 : 0 ≤ la := by omega
                        have hla1 : la ≤ 2305843009213693952 := by omega
                        have HU := Lib.hid hU
                        clear hU hla hbad HST
                        have HBX := Lib.hid (UBx.new HE6.out.rd HO6.out HE.out.rd.2.1.size HE.out.rd.lt #[.int .i64 la, .string ⟨#[]⟩, .int .i64 0, .slice none 0 0, .bool false] 65)
                        go_upto_region 38 with fail
                        generalize hbb : w6.heap.size = bb at *
                        clear hbb
                        generalize w6.alloc (.cells #[.int .i64 la, .string ⟨#[]⟩, .int .i64 0, .slice none 0 0, .bool false] 65) = w6a at *
                        go_upto_region 39 with (go_at_call 60; refine (HT2.out _ HBX.out.rd).mono ?_; rintro e7 w7 ⟨rfl, hR7, hO7⟩; have hB7 := HBX.out.read hR7 hO7; have c74 := (hB7.cell 4).trans rfl; have f74 := hB7.free 4; have HB7 := Lib.hid (show UBx w wk g l bb 65 #[.int .i64 la, .string ⟨#[]⟩, .int .i64 0, .slice none 0 0, .bool (bt == 1)] (pb, qb) (w7.setCell ⟨bb, 4, none⟩ (.bool (bt == 1))) from hB7.set 4 (.bool (bt == 1))); clear hR7 hO7 hB7)
                        clear c74 f74 HBX HT2 hwl hws d1 d2 d3
                        generalize w7.setCell ⟨bb, 4, none⟩ (.bool (bt == 1)) = w7a at *
                        obtain ⟨Ab, cb, g0, g1, _, _, _, hcb, hCb⟩ := HB7.out.rd.cells
                        have g1 : w7a.cell? ⟨g, 1, none⟩ = some (.int .i64 (pb : Int)) := g1
                        have hpb : pb ≤ l.length := HB7.out.rd.2.2.1
                        obtain ⟨i0, hi0, hzz⟩ := Option.map_eq_some_iff.1 info5
                        simp only [Prod.mk.injEq] at hzz
                        obtain ⟨hz0, hz1, hz2⟩ := hzz
                        have hf := cut_from (P := Tryz.prog) 33 5 .i64 Tryz.underlying33 hi0 1 hz1 Ab l.length cb (pb : Int) (by omega) (by omega)
                        rw [Int.toNat_natCast] at hf
                        have hd : (l.drop pb).length = l.length - pb := List.length_drop
                        have hle := qdec_le (l := l.drop pb) (by rw [hd]; omega)
                        rw [hd] at hle
                        have HDEC := Lib.hid (show ∀ W, Below w.heap.size w W → Calls Tryz.prog 64 #[.slice (if cb = pb then Ab else Ab.map (·.add (pb * 1))) (l.length - pb) (cb - pb)] W (DPost W (qdec (l.drop pb))) from fun W hW => by
                          have := rDecode_any (w := W) (c := cb - pb) (l := l.drop pb) (Kd.C_below (Kd.C_drop hCb hpb hcb) hW) (by rw [hd]; omega) (HHL.out.drop pb) (by rw [hd]; omega)
                          rw [hd] at this
                          exact this)
                        generalize qdec (l.drop pb) = DV at *
                        obtain ⟨ev, kk, ff⟩ := DV
                        have HU2 : Hid (UN = if ff = 0 then (⟨la, ev, bt == 1⟩ :: (useens l j6 (pb + kk, qb) la).1, (useens l j6 (pb + kk, qb) la).2) else ([], (pb, true))) := HU
                        have hle : kk ≤ l.length - pb := hle
                        generalize (if cb = pb then Ab else Ab.map (·.add (pb * 1))) = A1 at *
                        clear hi0 hz0 hz1 hz2 hd hCb HU
                        have k1 : (0 : Int) ≤ (pb : Int) := by omega
                        have k2 : (pb : Int) ≤ l.length := by omega
                        have HBL := Lib.hid HB7.out.rd.2.1
                        have g0a := pw_cell_below (below_new w7a (.cells #[.string ⟨#[]⟩, .int .i64 0, .slice none 0 0] 63)) g0
                        have g1a := pw_cell_below (below_new w7a (.cells #[.string ⟨#[]⟩, .int .i64 0, .slice none 0 0] 63)) g1
                        have hsz7 := HB7.out.lt
                        have HBd := Lib.hid HB7.out.drew.rd.2.1
                        have HBk := Lib.hid (HB7.out.keep #[.string ⟨#[]⟩, .int .i64 0, .slice none 0 0] 63).drew.rd.2.1
                        go_cut [15, 16, 17] from 158 to 171 (fun t15 t16 t17 wx => ∃ (b15 : Nat) (va : Value), t15 = .pointer (some ⟨b15, 0, none⟩) ∧ t16 = .int .i64 (kk : Int) ∧ t17 = .int .i64 ff ∧ bb ≠ b15 ∧ Hid (UBx w wk g l bb 65 #[.int .i64 la, .string ⟨#[]⟩, .int .i64 0, .slice none 0 0, .bool (bt == 1)] (pb, qb) wx) ∧ Hid (UBx w wk g l b15 63 #[.string ev.f0, .int .i64 ev.f1, va] (pb, qb) wx) ∧ Hid (k67.R 67 wx wk.heap.size (fun _ => True) va ev.f2))
                        case first =>
                          go_region_law (first
                            | (go_simp; go_at_call 64; (with_reducible refine (HDEC.out _ HBd.out).mono ?_); rintro e9 w9 ⟨v9, rfl, hv9, hB9⟩; obtain ⟨A9, c9', rfl⟩ := Kd.R_slice hv9; have HB9 := Lib.hid (HB7.out.drew.below hB9); have HV9 := Lib.hid (Kd.R_lower hv9 HB7.out.ro.size))
                            | (go_simp; go_at_call 64; (with_reducible refine (HDEC.out _ HBk.out).mono ?_); rintro e9 w9 ⟨v9, rfl, hv9, hB9⟩; obtain ⟨A9, c9', rfl⟩ := Kd.R_slice hv9; have HB9 := Lib.hid ((HB7.out.keep _ _).drew.below hB9); have HX9 := Lib.hid ((HB7.out.more _ _).drew.below hB9); have HV9 := Lib.hid (Kd.R_lower hv9 (HB7.out.keep _ _).ro.size); have q0 := (HX9.out.cell 0).trans rfl; have q1 := (HX9.out.cell 1).trans rfl; have q2 := (HX9.out.cell 2).trans rfl; have z0 := HX9.out.free 0; have z1 := HX9.out.free 1; have z2 := HX9.out.free 2)
                            | fail)
                          all_goals
                            go_wp2_with fail
                            go_meet
                            first
                              | exact ⟨_, _, rfl, rfl, rfl, Nat.ne_of_lt HB9.out.lt, Lib.hid (HB9.out.keep _ _), Lib.hid (HB9.out.more _ _), Lib.hid (Kd.R_below HV9.out (below_new _ _))⟩
                              | exact ⟨_, _, rfl, rfl, rfl, Nat.ne_of_lt hsz7, Lib.hid (((HB9.out.far HX9.out.bl (Nat.ne_of_lt hsz7) _).far HX9.out.bl (Nat.ne_of_lt hsz7) _).far HX9.out.bl (Nat.ne_of_lt hsz7) _), Lib.hid (((HX9.out.set 0 _).set 1 _).set 2 _), Lib.hid (Kd.R_set (Kd.R_set (Kd.R_set HV9.out HX9.out.bx (k67q (by decide)) 0 _) (HX9.out.set 0 _).bx (k67q (by decide)) 1 _) ((HX9.out.set 0 _).set 1 _).bx (k67q (by decide)) 2 _)⟩
                        case rest =>
                          obtain ⟨wx, rfl⟩ : ∃ wa : World, wa = wc := ⟨_, rfl⟩
                          obtain ⟨b15, va, rfl, rfl, rfl, hne, HB, HX, HV⟩ := hcut
                          obtain ⟨A9, c9x, rfl⟩ := Kd.R_slice HV.out
                          clear HDEC HBd HBk HBL HB7 g0a g1a g0 g1 hf
                          clear hcb k1 k2
                          obtain ⟨_, _, _, h1, h2, gf1, gf2, _⟩ := HB.out.rd.cells
                          have h1 : wx.cell? ⟨g, 1, none⟩ = some (.int .i64 (pb : Int)) := h1
                          by_cases hff : ff = 0
                          · have hU : UN = _ := HU2.out.trans (if_pos hff)
                            subst hff
                            have hwk : wrap64 ((pb : Int) + (kk : Int)) = (pb : Int) + (kk : Int) := (fun {a b n : Nat} (h : a + b ≤ n) (hn : n ≤ 67108864) => (by unfold wrap64; omega : wrap64 ((a : Int) + (b : Int)) = (a : Int) + (b : Int))) (by rw [Nat.add_comm]; exact (Nat.le_sub_iff_add_le hpb).1 hle) hml
                            have hpk : pb + kk ≤ l.length := by rw [Nat.add_comm]; exact (Nat.le_sub_iff_add_le hpb).1 hle
                            have hrd := HB.out.rd.setAt (pb + kk) hpk
                            rw [Int.natCast_add] at hrd
                            have hO1 : Ro g wx (wx.setCell ⟨g, 1, none⟩ (.int .i64 ((pb : Int) + (kk : Int)))) := Ro.set 1 _
                            have HB1 := Lib.hid (HB.out.read hrd hO1)
                            have HX1 := Lib.hid (HX.out.read hrd hO1)
                            have HV1 := Lib.hid (R_ur HV.out HB.out.rd (k67q (by decide)) hO1)
                            clear hrd hO1 HU2 HRG
                            go_upto_region 44 with fail
                            generalize wx.setCell ⟨g, 1, none⟩ (.int .i64 ((pb : Int) + (kk : Int))) = wy at *
                            clear h1 h2 gf1 gf2
                            have q0 := (HX1.out.cell 0).trans rfl
                            have q1 := (HX1.out.cell 1).trans rfl
                            have q2 := (HX1.out.cell 2).trans rfl
                            have e1 := (HB1.out.cell 1).trans rfl
                            have e2 := (HB1.out.cell 2).trans rfl
                            have e3 := (HB1.out.cell 3).trans rfl
                            have z1 := HB1.out.free 1
                            have z2 := HB1.out.free 2
                            have z3 := HB1.out.free 3
                            have HB3 : Hid (UBx w wk g l bb 65 #[.int .i64 la, .string ev.f0, .int .i64 ev.f1, .slice A9 ev.f2.length c9x, .bool (bt == 1)] (pb + kk, qb) (((wy.setCell ⟨bb, 1, none⟩ (.string ev.f0)).setCell ⟨bb, 2, none⟩ (.int .i64 ev.f1)).setCell ⟨bb, 3, none⟩ (.slice A9 ev.f2.length c9x))) := Lib.hid (((HB1.out.set 1 _).set 2 _).set 3 _)
                            have HV3 : Hid (k67.R 67 (((wy.setCell ⟨bb, 1, none⟩ (.string ev.f0)).setCell ⟨bb, 2, none⟩ (.int .i64 ev.f1)).setCell ⟨bb, 3, none⟩ (.slice A9 ev.f2.length c9x)) wk.heap.size (fun _ => True) (.slice A9 ev.f2.length c9x) ev.f2) := Lib.hid (Kd.R_set (Kd.R_set (Kd.R_set HV1.out HB1.out.bx (k67q (by decide)) 1 _) (HB1.out.set 1 _).bx (k67q (by decide)) 2 _) ((HB1.out.set 1 _).set 2 _).bx (k67q (by decide)) 3 _)
                            go_upto_region 45 with fail
                            generalize ((wy.setCell ⟨bb, 1, none⟩ (.string ev.f0)).setCell ⟨bb, 2, none⟩ (.int .i64 ev.f1)).setCell ⟨bb, 3, none⟩ (.slice A9 ev.f2.length c9x) = wz at *
                            clear q0 q1 q2 e1 e2 e3 z1 z2 z3 HB1 HX1 HV1 HX HV HB
                            have hEw := HE.out.read HB3.out.rd HB3.out.ro
                            have HEw := Lib.hid hEw
                            obtain ⟨inn, hown⟩ := Kd.R_own HE.out.r6
                            have hmk : k65.M wz wk.heap.size (fun _ => True) ⟨la, ev, bt == 1⟩ [.int .i64 la, .string ev.f0, .int .i64 ev.f1, .slice A9 ev.f2.length c9x, .bool (bt == 1)] := k65_mkM _ _ _ ⟨la, ev, bt == 1⟩ HV3.out
                            have HMN := Lib.hid (show k65.M wz w.heap.size (fun k => True ∧ some k ≠ (Value.slice A6 zs.length kk6).ownBlock) ⟨la, ev, bt == 1⟩ [.int .i64 la, .string ev.f0, .int .i64 ev.f1, .slice A9 ev.f2.length c9x, .bool (bt == 1)] from k65.M_lower HB3.out.lo (Kd.M_new (W := wk) hmk hown))
                            have y6 := (IBox.cells hEw.im 6).trans rfl
                            have z6 := blk_frozen hEw.im 6
                            have b0 := (HB3.out.cell 0).trans rfl
                            have b1 := (HB3.out.cell 1).trans rfl
                            have b2 := (HB3.out.cell 2).trans rfl
                            have b3 := (HB3.out.cell 3).trans rfl
                            have b4 := (HB3.out.cell 4).trans rfl
                            have HLL := Lib.hid (show (zs.length + 1) * 64 ≤ 140737488355328 by have := HZL.out; omega)
                            clear hEw hmk hown
                            go_wp2_with (at_builtin; refine Kd.R_append (P := Tryz.prog) k65 (w0 := wz) (W := wz) w.heap.size (by rfl) _ _ 29 65 _ 64 (by rfl) Tryz.underlying29 info65 rfl (by decide) (by decide) (.slice A6 zs.length kk6) zs ⟨la, ev, bt == 1⟩ [.int .i64 la, .string ev.f0, .int .i64 ev.f1, .slice A9 ev.f2.length c9x, .bool (bt == 1)] (fun _ => True) _ (by rfl) (by rfl) HMN.out (fun k hk => hk) (fun _ _ => trivial) HEw.out.r6 (Below.refl _ _) HEw.out.rd.2.1.size HLL.out ?_; intro v7 w11 hR7 _ hg7 _; obtain ⟨A7, c7, rfl⟩ := Kd.R_slice hR7; generalize (zs ++ [(⟨la, ev, bt == 1⟩ : S65)]).length = n7 at *; have HE11 := Lib.hid (HEw.out.grow6 hR7 hg7); have hi := HEw.out.grown hg7 (Kd.R_base HEw.out.r6) (Kd.R_typed HEw.out.r6) (by decide) (by decide); have y62 := (IBox.cells hi.2.1 6).trans rfl; have z62 := blk_frozen hi.2.1 6; clear hi hR7 hg7)
                            go_roundw
                            case rel => exact ⟨j6, la, _, zs ++ [⟨la, ev, bt == 1⟩], _, by omega, by go_num, rfl, hla0, hla1, HE11, Lib.hid ⟨by rw [List.length_append, List.length_singleton]; have := HZL.out; omega, by rw [HZF.out, hU]; simp⟩⟩
                            case measure => first | (simp [intOf]; done) | (simp [intOf]; omega)
                          · have hU : UN = ([], (pb, true)) := HU2.out.trans (if_neg hff)
                            have hF : R = (⟨n1, n2, n3, n4, xs, ys, zs⟩, (pb, true)) := HRG.out zs (pb, true) (by rw [HZF.out, hU]; simp)
                            subst hF
                            have d2 : (ff != 0) = true := by simp [hff]
                            have HE7 := Lib.hid (show ULd w g l wL.heap.size (wL.heap.size + 1) (pb, true) ⟨n1, n2, n3, n4, xs, ys, zs⟩ (.slice A4 xs.length k4) (.slice A5 ys.length k5) (.slice A6 zs.length kk6) (wx.setCell ⟨g, 2, none⟩ (.bool true)) from (HE.out.read HB.out.rd HB.out.ro).read (HB.out.rd.setBad true) (Ro.set 2 _))
                            clear hU HU2 HRG HZF HX HV hff
                            have i0 := (IBox.cells HE7.out.im 0).trans rfl
                            have i1 := (IBox.cells HE7.out.im 1).trans rfl
                            have i2 := (IBox.cells HE7.out.im 2).trans rfl
                            have i3 := (IBox.cells HE7.out.im 3).trans rfl
                            have i4 := (IBox.cells HE7.out.im 4).trans rfl
                            have i5 := (IBox.cells HE7.out.im 5).trans rfl
                            have i6 := (IBox.cells HE7.out.im 6).trans rfl
                            have a0 := (IBox.cells HE7.out.an 0).trans rfl
                            have a1 := (IBox.cells HE7.out.an 1).trans rfl
                            have a2 := (IBox.cells HE7.out.an 2).trans rfl
                            have a3 := (IBox.cells HE7.out.an 3).trans rfl
                            have a4 := (IBox.cells HE7.out.an 4).trans rfl
                            have a5 := (IBox.cells HE7.out.an 5).trans rfl
                            have a6 := (IBox.cells HE7.out.an 6).trans rfl
                            have r0 := blk_frozen HE7.out.an 0
                            have r1 := blk_frozen HE7.out.an 1
                            have r2 := blk_frozen HE7.out.an 2
                            have r3 := blk_frozen HE7.out.an 3
                            have r4 := blk_frozen HE7.out.an 4
                            have r5 := blk_frozen HE7.out.an 5
                            have r6 := blk_frozen HE7.out.an 6
                            go_wp2_with fail
                            have hD := HE7.out.done
                            (try simp only [Exit.inBlock, Exit.then])
                            refine bodyPost_ret (results_cell_row rfl _ _ wL.heap.size 31 #[.int .i64 n1, .int .i64 n2, .int .i64 n3, .int .i64 n4, .slice A4 xs.length k4, .slice A5 ys.length k5, (.slice A6 zs.length kk6)] (0, 0) _ rfl hD.1 Tryz.underlying31 rfl (by kernel_rfl)) rfl ?_
                            exact ⟨_, _, _, rfl, hD.2.1, hD.2.2⟩
                    · have hfin : useens l cc sx 0 = (zs, (p6, q6)) := by
                        rw [HZ.out.2]
                        by_cases h0 : 0 < k6
                        · have hq : q6 = true := by cases q6; exact absurd ⟨h0, rfl⟩ hgo; rfl
                          obtain ⟨j, rfl⟩ : ∃ j, k6 = j + 1 := ⟨k6 - 1, by omega⟩
                          have h7 : useens l (j + 1) (p6, q6) last = ([], (p6, q6)) := if_pos hq
                          rw [h7]; simp
                        · obtain rfl : k6 = 0 := by omega
                          simp [useens]
                      have hF := HRG.out _ _ hfin
                      subst hF
                      have hcase : decide (0 < (k6 : Int)) = false ∨ (decide (0 < (k6 : Int)) = true ∧ q6 = true) := by
                        by_cases h0 : 0 < k6
                        · exact .inr ⟨decide_eq_true (by omega), by cases q6; exact absurd ⟨h0, rfl⟩ hgo; rfl⟩
                        · exact .inl (decide_eq_false (by omega))
                      have hcn : decide (0 < (k6 : Int)) = decide (0 < k6) := decide_eq_decide.mpr (by omega)
                      clear HZ hfin hgo HRG
                      have i0 := (IBox.cells HE.out.im 0).trans rfl
                      have i1 := (IBox.cells HE.out.im 1).trans rfl
                      have i2 := (IBox.cells HE.out.im 2).trans rfl
                      have i3 := (IBox.cells HE.out.im 3).trans rfl
                      have i4 := (IBox.cells HE.out.im 4).trans rfl
                      have i5 := (IBox.cells HE.out.im 5).trans rfl
                      have i6 := (IBox.cells HE.out.im 6).trans rfl
                      have a0 := (IBox.cells HE.out.an 0).trans rfl
                      have a1 := (IBox.cells HE.out.an 1).trans rfl
                      have a2 := (IBox.cells HE.out.an 2).trans rfl
                      have a3 := (IBox.cells HE.out.an 3).trans rfl
                      have a4 := (IBox.cells HE.out.an 4).trans rfl
                      have a5 := (IBox.cells HE.out.an 5).trans rfl
                      have a6 := (IBox.cells HE.out.an 6).trans rfl
                      have r0 := blk_frozen HE.out.an 0
                      have r1 := blk_frozen HE.out.an 1
                      have r2 := blk_frozen HE.out.an 2
                      have r3 := blk_frozen HE.out.an 3
                      have r4 := blk_frozen HE.out.an 4
                      have r5 := blk_frozen HE.out.an 5
                      have r6 := blk_frozen HE.out.an 6
                      rcases hcase with d2 | ⟨d2, rfl⟩
                      all_goals
                        have d3 := hcn.symm.trans d2
                        go_wp2_with fail
                        have hD := HE.out.done
                        (try simp only [Exit.inBlock, Exit.then])
                        refine bodyPost_ret (results_cell_row rfl _ _ wL.heap.size 31 #[.int .i64 n1, .int .i64 n2, .int .i64 n3, .int .i64 n4, .slice A4 xs.length k4, .slice A5 ys.length k5, (.slice A6 zs.length kk6)] (0, 0) _ rfl hD.1 Tryz.underlying31 rfl (by kernel_rfl)) rfl ?_
                        exact ⟨_, _, _, rfl, hD.2.1, hD.2.2⟩
end Go.Proofs.YtcfgmkmllcfjjaaGreatDoor
