import Derived.Test.YtcfgmkmllcfjjaaGreatDoorZBG
import Derived.Test.YtcfgmkmllcfjjaaGreatDoorZAN
import Derived.Test.YtcfgmkmllcfjjaaGreatDoorZAR
set_option linter.unusedVariables false
set_option linter.unusedSimpArgs false
namespace Go.Proofs.YtcfgmkmllcfjjaaGreatDoor
open Go.RowKit Go.Proofs.YtcfgmkmllcfjjaaGreatDoorW.PrintWords Go.Proofs.YtcfgmkmllcfjjaaGreatDoorW.PrintMore PImageAll
def qvals (l : List Int) : Nat → Ws → List S67 × Ws
  | 0, s => ([], s)
  | k + 1, s => if s.2 = 0 then ((qvalue l s).1 :: (qvals l k (qvalue l s).2).1, (qvals l k (qvalue l s).2).2) else ([], s)
theorem qvals_bad (l : List Int) {s : Ws} (h : s.2 ≠ 0) : ∀ k, qvals l k s = ([], s)
  | 0 => rfl
  | k + 1 => if_neg h
def qnameF (r : ByteArray × Ws) : Ws := if r.2.2 = 0 ∧ nameB r.1 = false then failW 31 r.2 else r.2
def qev (l : List Int) : S63 × Ws :=
  (⟨(qtext l 1 32 (0, 0)).1, (qnum l 0 4611686018427387904 (qnameF (qtext l 1 32 (0, 0)))).1, (qvals l (qnum l 0 16 (qnum l 0 4611686018427387904 (qnameF (qtext l 1 32 (0, 0)))).2).1.toNat (qnum l 0 16 (qnum l 0 4611686018427387904 (qnameF (qtext l 1 32 (0, 0)))).2).2).1⟩, (qvals l (qnum l 0 16 (qnum l 0 4611686018427387904 (qnameF (qtext l 1 32 (0, 0)))).2).1.toNat (qnum l 0 16 (qnum l 0 4611686018427387904 (qnameF (qtext l 1 32 (0, 0)))).2).2).2)
def qdec (l : List Int) : S63 × Nat × Int := if (qev l).2.2 = 0 then ((qev l).1, (qev l).2.1, 0) else (⟨⟨#[]⟩, 0, []⟩, 0, (qev l).2.2)
theorem QRAt.grown {w0 w w1 : World} {g : Nat} {l : List Int} {s : Ws} {row : Option Nat} (h : QRAt w0 w g l s) (hg : w.grownBy w1 row) (hr : ∀ k, row = some k → w0.heap.size ≤ k) (hn : some g ≠ row) : QRAt w0 w1 g l s := by
  obtain ⟨h1, h2, h4, A, c, hb, h3⟩ := h
  refine ⟨h1, ⟨hg.os.trans h2.os, hg.tape.trans h2.tape, hg.output.trans h2.output, Nat.le_trans h2.size hg.size, fun k hk => (hg.block k (Nat.lt_of_lt_of_le hk h2.size) (fun e => by have := hr k e.symm; omega)).trans (h2.block k hk)⟩, h4, A, c, blk_grown hb hg hn, h3⟩
structure QEvS (w : World) (g : Nat) (l : List Int) (b2 b3 : Nat) (s : Ws) (t : ByteArray) (n : Int) (xs : List S67) (W : World) (v : Value) : Prop where
  rd : QRAt w W g l s
  ev : EBox W b3 t n v
  an : EBox W b2 ⟨#[]⟩ 0 (.slice none 0 0)
  row : k67.R 67 W w.heap.size (fun _ => True) v xs
  b2l : w.heap.size ≤ b2
  b3l : w.heap.size ≤ b3
  ne : b3 ≠ b2
namespace QEvS
variable {w W W1 : World} {g b2 b3 : Nat} {l : List Int} {s s1 : Ws} {t t1 : ByteArray} {n n1 : Int} {xs : List S67} {v v1 : Value}
theorem g2 (h : QEvS w g l b2 b3 s t n xs W v) : b2 ≠ g := h.rd.neq h.an (by decide)
theorem g3 (h : QEvS w g l b2 b3 s t n xs W v) : b3 ≠ g := h.rd.neq h.ev (by decide)
theorem read (h : QEvS w g l b2 b3 s t n xs W v) (hR : QRAt w W1 g l s1) (hO : Ro g W W1) : QEvS w g l b2 b3 s1 t n xs W1 v := by
  obtain ⟨_, _, _, A, c, hb, _⟩ := h.rd
  exact ⟨hR, Ro.blk hO h.ev h.g3, Ro.blk hO h.an h.g2, R_ro h.row hb (k67q (by decide)) hO, h.b2l, h.b3l, h.ne⟩
theorem below (h : QEvS w g l b2 b3 s t n xs W v) (hB : Below W.heap.size W W1) : QEvS w g l b2 b3 s t n xs W1 v := h.read (h.rd.below hB) (Ro.of_below hB)
theorem drewN (h : QEvS w g l b2 b3 s t n xs W v) (m : Nat) : QEvS w g l b2 b3 s t n xs (W.drewN m) v := h.below (pw_below_drewN (Below.refl _ _) m)
theorem drew (h : QEvS w g l b2 b3 s t n xs W v) : QEvS w g l b2 b3 s t n xs W.drew v := h.below (below_drew (Below.refl _ _))
theorem set0 (h : QEvS w g l b2 b3 s t n xs W v) (t1 : ByteArray) : QEvS w g l b2 b3 s t1 n xs (W.setCell ⟨b3, 0, none⟩ (.string t1)) v :=
  ⟨h.rd.far h.b3l h.g3 _, h.ev.set0, h.an.far (fun e => h.ne e.symm) _, Kd.R_set h.row h.ev (k67q (by decide)) 0 _, h.b2l, h.b3l, h.ne⟩
theorem set1 (h : QEvS w g l b2 b3 s t n xs W v) (n1 : Int) : QEvS w g l b2 b3 s t n1 xs (W.setCell ⟨b3, 1, none⟩ (.int .i64 n1)) v :=
  ⟨h.rd.far h.b3l h.g3 _, h.ev.set1, h.an.far (fun e => h.ne e.symm) _, Kd.R_set h.row h.ev (k67q (by decide)) 1 _, h.b2l, h.b3l, h.ne⟩
theorem grow {ys : List S67} (h : QEvS w g l b2 b3 s t n xs W v) (hR : k67.R 67 W1 w.heap.size (fun _ => True) v1 ys) (hg : W.grownBy W1 v.ownBlock) : QEvS w g l b2 b3 s t n ys (W1.setCell ⟨b3, 2, none⟩ v1) v1 := by
  have hba : ∀ k, v.ownBlock = some k → w.heap.size ≤ k := Kd.R_base h.row
  have n3 : some b3 ≠ v.ownBlock := Kd.R_ne h.row h.ev (by decide)
  have n2 : some b2 ≠ v.ownBlock := Kd.R_ne h.row h.an (by decide)
  have ng : some g ≠ v.ownBlock := by
    obtain ⟨_, _, _, A, c, hb, _⟩ := h.rd
    exact Kd.R_ne h.row hb (by decide)
  have ev1 : EBox W1 b3 t n v := blk_grown h.ev hg n3
  have an1 : EBox W1 b2 ⟨#[]⟩ 0 (.slice none 0 0) := blk_grown h.an hg n2
  have rd1 := h.rd.grown hg hba ng
  exact ⟨rd1.far h.b3l h.g3 _, ev1.set2, an1.far (fun e => h.ne e.symm) _, Kd.R_set hR ev1 (k67q (by decide)) 2 _, h.b2l, h.b3l, h.ne⟩
theorem done (h : QEvS w g l b2 b3 s t n xs W v) (u0 u1 u2 : Value) : W.heap.size = W.heap.size ∧
    k67.R 67 (((W.setCell ⟨b2, 0, none⟩ u0).setCell ⟨b2, 1, none⟩ u1).setCell ⟨b2, 2, none⟩ u2) w.heap.size (fun _ => True) v xs ∧
    Below w.heap.size w (((W.setCell ⟨b2, 0, none⟩ u0).setCell ⟨b2, 1, none⟩ u1).setCell ⟨b2, 2, none⟩ u2) := by
  have hq : ∀ q, q ∈ 67 :: k67.E → q ≠ 63 := k67q (by decide)
  exact ⟨rfl, Kd.R_set (Kd.R_set (Kd.R_set h.row h.an hq 0 _) (blk_set h.an 0 _) hq 1 _) (blk_set (blk_set h.an 0 _) 1 _) hq 2 _, ((h.rd.2.1.setCell (p := ⟨b2, 0, none⟩) h.b2l _).setCell (p := ⟨b2, 1, none⟩) h.b2l _).setCell (p := ⟨b2, 2, none⟩) h.b2l _⟩
end QEvS
section
variable {ops : Array Oper} {o : Oper} {a : Act} {Q : Exit → Act → World → Prop}
theorem qvstep {w W : World} {K : Act → World → Prop} {E : Prop} {g b2 b3 : Nat} {l : List Int} {sk : Ws} {t : ByteArray} {n : Int} {xs : List S67} {v : Value} (hgd : o.guard = none) (s x : Operand)
    (ho : o.op = .call { callee := .builtin .append, args := #[s, x], argTypes := #[61, 61] }) (hE : QEvS w g l b2 b3 sk t n xs W v) (p : S67)
    (hs : a.eval s = v) (hx : a.eval x = .slice (some ⟨W.heap.size, 0, none⟩) 1 1) (hl : xs.length ≤ 1000000)
    (h : ∀ A1 n1 c1 w1, w1.cell? ⟨b3, 2, none⟩ = some v → w1.frozen? ⟨b3, 2, none⟩ = false → Hid (QEvS w g l b2 b3 sk t n (xs ++ [p]) (w1.setCell ⟨b3, 2, none⟩ (.slice A1 n1 c1)) (.slice A1 n1 c1)) → K (a.put o.dst (.slice A1 n1 c1)) w1) :
    if Region.wanted o (yielded ops a.tmps) = true then Oper.wp Tryz.prog o a (W.alloc (.cells #[.int .i64 p.f0, .int .i64 p.f1, .string p.f2, .bool p.f3] 67)) K Q else E := by
  have hw : Region.wanted o (yielded ops a.tmps) = true := by simp [Region.wanted, hgd]
  have hlo : w.heap.size ≤ W.heap.size := hE.rd.2.1.size
  have key := Kd.R_append_step (P := Tryz.prog) (ops := ops) (o := o) (a := a) (Q := Q) (Kc := K) k67 (w0 := W) (W := W) w.heap.size hw s x 61 67 _ 40 ho Tryz.underlying61 info67 rfl (by decide) (by decide) v xs p _ (fun _ => True) (fun k => some k ≠ v.ownBlock) hs hx (k67_mkM W w.heap.size _ p) (fun k hk => ⟨trivial, hk⟩) (fun _ _ => trivial) hE.row (Below.refl _ _) hlo (by omega) ?_
  · rw [if_pos hw] at key ⊢
    exact key
  · intro v1 w1 hR1 _ hg1 _
    obtain ⟨A1, c1, rfl⟩ := Kd.R_slice hR1
    have n3 : some b3 ≠ v.ownBlock := Kd.R_ne hE.row hE.ev (by decide)
    have ev1 : EBox w1 b3 t n v := blk_grown hE.ev hg1 n3
    exact h A1 _ c1 w1 ev1.cells.2.2 ev1.free.2.2 (Lib.hid (hE.grow hR1 hg1))
end
set_option maxRecDepth 100000 in
set_option maxHeartbeats 16000000 in
theorem rDecode_any {w : World} {A : Option Addr} {c : Nat} {l : List Int} (hC : Kd.C (Kd.int .u8) w A l.length l) (hc : l.length ≤ c) (hl : Bytes l) (hm : l.length ≤ 4611686018427387904) :
    Calls Tryz.prog 64 #[.slice A l.length c] w (DPost w (qdec l)) := by
  generalize hW1 : ((w.alloc (.cells #[.string ⟨#[]⟩, .int .i64 0, .slice none 0 0] 63)).alloc (.cells #[.slice A l.length c, .int .i64 0, .int .i64 0] 137)).alloc (.cells #[.string ⟨#[]⟩, .int .i64 0, .slice none 0 0] 63) = W1
  have HW1 := Lib.hid hW1
  generalize hWa : (w.alloc (.cells #[.string ⟨#[]⟩, .int .i64 0, .slice none 0 0] 63)) = Wa at hW1
  generalize hWb : Wa.alloc (.cells #[.slice A l.length c, .int .i64 0, .int .i64 0] 137) = Wb at hW1
  have sa : Wa.heap.size = w.heap.size + 1 := by rw [← hWa]; simp
  have sb : Wb.heap.size = w.heap.size + 1 + 1 := by rw [← hWb]; simp [sa]
  have ba : Below w.heap.size w Wa := by rw [← hWa]; exact below_new _ _
  have bb : Below Wa.heap.size Wa Wb := by rw [← hWb]; exact below_new _ _
  have b1 : Below Wb.heap.size Wb W1 := by rw [← hW1]; exact below_new _ _
  have hE : QEvS w (w.heap.size + 1) l w.heap.size (w.heap.size + 1 + 1) (0, 0) ⟨#[]⟩ 0 [] W1 (.slice none 0 0) := by
    refine ⟨⟨by omega, below_step (below_step ba bb) b1, Nat.zero_le _, A, c, ?_, hc, hC⟩, ?_, ?_, Kd.R_nil _ _ _ _ _, Nat.le_refl _, by omega, by omega⟩
    · have h := blk_new Wa (.cells #[.slice A l.length c, .int .i64 0, .int .i64 0] 137)
      rw [hWb, sa] at h
      exact blk_below h b1
    · have h := blk_new Wb (.cells #[.string ⟨#[]⟩, .int .i64 0, .slice none 0 0] 63)
      rw [hW1, sb] at h
      exact h
    · have h := blk_new w (.cells #[.string ⟨#[]⟩, .int .i64 0, .slice none 0 0] 63)
      rw [hWa] at h
      exact blk_below (blk_below h bb) b1
  have HE := Lib.hid hE
  have HN := Lib.hid (fun W (s : Ws) lo hi (hW : QRAt w W (w.heap.size + 1) l s) => qnum_any lo hi hW hm)
  have HV := Lib.hid (fun W (s : Ws) (hW : QRAt w W (w.heap.size + 1) l s) => qvalue_any hW hl hm)
  have HNM := Lib.hid (fun W t => rName_any t W)
  have HFL := Lib.hid (fun W s2 k hW => qfault_any (w0 := w) (w := W) (g := w.heap.size + 1) (l := l) (s := s2) k hW)
  have hd : qdec l = if (qev l).2.2 = 0 then ((qev l).1, (qev l).2.1, 0) else (⟨⟨#[]⟩, 0, []⟩, 0, (qev l).2.2) := rfl
  have hev : qev l = (⟨(qtext l 1 32 (0, 0)).1, (qnum l 0 4611686018427387904 (qnameF (qtext l 1 32 (0, 0)))).1, (qvals l (qnum l 0 16 (qnum l 0 4611686018427387904 (qnameF (qtext l 1 32 (0, 0)))).2).1.toNat (qnum l 0 16 (qnum l 0 4611686018427387904 (qnameF (qtext l 1 32 (0, 0)))).2).2).1⟩, (qvals l (qnum l 0 16 (qnum l 0 4611686018427387904 (qnameF (qtext l 1 32 (0, 0)))).2).1.toNat (qnum l 0 16 (qnum l 0 4611686018427387904 (qnameF (qtext l 1 32 (0, 0)))).2).2).2) := rfl
  have HD := Lib.hid hd
  have HT := Lib.hid (qtext_any 1 32 (by decide) (by decide) (by decide) hE.rd hm)
  generalize qdec l = R at *
  generalize qev l = V at *
  generalize qtext l 1 32 (0, 0) = r1 at *
  obtain ⟨tx, s1⟩ := r1
  obtain ⟨s2, hs2⟩ : ∃ s2, s2 = qnameF (tx, s1) := ⟨_, rfl⟩
  rw [← hs2] at hev
  have HS2 := Lib.hid hs2
  have HEV := Lib.hid hev
  clear hW1 hWa hWb sa sb ba bb b1 hE hd hev hs2 hC hc hl
  go_enter Tryz.func64, Tryz.ntmps64
  go_upto_region 3 with fail
  rw [HW1.out]
  go_upto_region 4 with (go_at_call 100; refine HT.out.mono ?_; rintro e1 w1 ⟨rfl, hR1, hO1⟩; have hE1 := HE.out.read hR1 hO1; have y00 := hE1.ev.free.1; have x00 := hE1.ev.cells.1; have HE1 := Lib.hid (hE1.set0 tx); clear hR1 hO1 hE1)
  clear y00 x00
  generalize hw1s : w1.setCell ⟨w.heap.size + 1 + 1, 0, none⟩ (.string tx) = w1s at *
  clear hw1s
  obtain ⟨p1, q1⟩ := s1
  obtain ⟨x0, x1, x2⟩ := HE1.out.ev.cells
  obtain ⟨_, _, _, _, g2, _⟩ := HE1.out.rd.cells
  have g2 : w1s.cell? ⟨w.heap.size + 1, 2, none⟩ = some (.int .i64 q1) := g2
  obtain ⟨nb, hnb⟩ : ∃ nb : Bool, nameB tx = nb := ⟨_, rfl⟩
  have HNB := Lib.hid (show ∀ W, Calls Tryz.prog 55 #[.string tx] W fun e w' => e = .returned (.bool nb) ∧ Below W.heap.size W w' from fun W => by have := HNM.out W tx; rw [hnb] at this; exact this)
  have hS2 : s2 = if q1 = 0 ∧ nb = false then failW 31 (p1, q1) else (p1, q1) := by rw [HS2.out]; unfold qnameF; rw [hnb]
  have HS2 := Lib.hid hS2
  clear hS2 hnb HNM x1 x2
  by_cases hq : q1 = 0
  · subst hq
    cases nb
    · have HS3 := Lib.hid (HS2.out.trans (if_pos ⟨rfl, rfl⟩))
      go_upto_region 6 with (first
        | (go_at_call 55; refine (HNB.out _).mono ?_; rintro e2 w2 ⟨rfl, hB2⟩; have HE2 := Lib.hid (HE1.out.below hB2); clear hB2)
        | (go_at_call 101; refine (HFL.out _ _ 31 HE2.out.rd).mono ?_; rintro e3 w3 ⟨rfl, hR3, hO3⟩; have HE3 := Lib.hid (by have h := HE2.out.read hR3 hO3; rw [← HS3.out] at h; exact h); clear hR3 hO3))
      clear x0 g2
      have HN4 := Lib.hid (HN.out _ s2 0 4611686018427387904 HE3.out.rd)
      generalize qnum l 0 4611686018427387904 s2 = r4 at *
      obtain ⟨tm, s4⟩ := r4
      go_upto_region 7 with (go_at_call 102; refine HN4.out.mono ?_; rintro e4 w4 ⟨rfl, hR4, hO4⟩; have hE4 := HE3.out.read hR4 hO4; have z1 := hE4.ev.free.2.1; have y1 := hE4.ev.cells.2.1; have HE4 := Lib.hid (hE4.set1 tm); clear hR4 hO4 hE4)
      clear HN4 z1 y1
      generalize w4.setCell ⟨w.heap.size + 1 + 1, 1, none⟩ (.int .i64 tm) = w4s at *
      have HN5 := Lib.hid (HN.out _ s4 0 16 HE4.out.rd)
      obtain ⟨hc0, hc1⟩ := qnum_rng (l := l) (lo := 0) (hi := 16) (by decide) (by decide) s4
      generalize qnum l 0 16 s4 = r5 at *
      obtain ⟨cn, s5⟩ := r5
      simp only at hc0 hc1
      obtain ⟨cn, rfl⟩ := Int.eq_ofNat_of_zero_le hc0
      have HEV2 : Hid (V = (⟨tx, tm, (qvals l cn s5).1⟩, (qvals l cn s5).2)) := Lib.hid (by rw [HEV.out]; simp only [Int.toNat_natCast])
      clear HEV hc0
      go_upto_region 8 with (go_at_call 102; refine HN5.out.mono ?_; rintro e5 w5 ⟨rfl, hR5, hO5⟩; have HE5 := Lib.hid (HE4.out.read hR5 hO5); clear hR5 hO5)
      clear HN5
      go_wp2_with fail
      go_loopw [8] (fun t8 wr => ∃ (k : Nat) (sk : Ws) (xs : List S67) (v : Value), k ≤ cn ∧ t8 = .int .i64 k ∧ Hid (QEvS w (w.heap.size + 1) l w.heap.size (w.heap.size + 1 + 1) sk tx tm xs wr v) ∧ Hid (xs.length = k ∧ qvals l cn s5 = (xs ++ (qvals l (cn - k) sk).1, (qvals l (cn - k) sk).2))) (fun t8 _ => cn - (intOf t8).toNat)
      case atStart => exact ⟨0, s5, [], _, by omega, rfl, HE5, Lib.hid ⟨rfl, rfl⟩⟩
      case round =>
        clear HE5
        obtain ⟨k, sk, xs, v, hk, rfl, HEK, HXS⟩ := hrel
        obtain ⟨A, c, rfl⟩ := Kd.R_slice HEK.out.row
        obtain ⟨pk, qk⟩ := sk
        obtain ⟨_, _, _, _, g2, _⟩ := HEK.out.rd.cells
        have g2 : wr.cell? ⟨w.heap.size + 1, 2, none⟩ = some (.int .i64 qk) := g2
        by_cases hqk : qk = 0
        · subst hqk
          by_cases hlt : k < cn
          · obtain ⟨y0, y1, y2⟩ := HEK.out.ev.cells
            obtain ⟨z0, z1, z2⟩ := HEK.out.ev.free
            have HVK := Lib.hid (HV.out · (pk, 0))
            have hws : qvals l (cn - k) (pk, 0) = ((qvalue l (pk, 0)).1 :: (qvals l (cn - (k + 1)) (qvalue l (pk, 0)).2).1, (qvals l (cn - (k + 1)) (qvalue l (pk, 0)).2).2) := by
              rw [show cn - k = (cn - (k + 1)) + 1 by omega]
              exact if_pos rfl
            have HWS := Lib.hid hws
            have HXL := Lib.hid HXS.out.1
            clear hws
            generalize qvalue l (pk, 0) = r6 at *
            obtain ⟨p6, s6⟩ := r6
            have hxl : xs.length ≤ 1000000 := by have := HXL.out; omega
            go_wp2_with fail
            go_region_law (first
              | (go_simp; go_at_call 103; refine (HVK.out _ (by first | exact HEK.out.drew.rd | exact HEK.out.rd)).mono ?_; rintro e6 w6 ⟨rfl, hR6, hO6⟩; have HE6 : Hid (QEvS w (w.heap.size + 1) l w.heap.size (w.heap.size + 1 + 1) s6 tx tm xs w6 (.slice A xs.length c)) := Lib.hid (by first | exact HEK.out.drew.read hR6 hO6 | exact HEK.out.read hR6 hO6); have y26 := HE6.out.ev.cells.2.2; have z29 := HE6.out.ev.free.2.2; have y27 := pw_cell_below (below_new w6 (.cells #[.int .i64 p6.f0, .int .i64 p6.f1, .string p6.f2, .bool p6.f3] 67)) y26)
              | (refine qvstep (by rfl) _ _ (by rfl) HE6.out p6 (by rfl) (by rfl) hxl ?_; intro A7 n7 c7 w7 hc7 hf7 HE7))
            all_goals
              go_wp2_with fail
              go_roundw
              case rel => exact ⟨k + 1, s6, xs ++ [p6], _, by omega, by go_num, HE7, Lib.hid ⟨by rw [List.length_append, HXL.out]; rfl, by rw [HXS.out.2, HWS.out]; simp⟩⟩
              case measure => simp [intOf]; omega
          · obtain rfl : k = cn := by omega
            have hfin : V = (⟨tx, tm, xs⟩, (pk, 0)) := by rw [HEV2.out, HXS.out.2, Nat.sub_self]; simp [qvals]
            have hR : R = (⟨tx, tm, xs⟩, pk, 0) := by rw [HD.out, hfin]; exact if_pos rfl
            subst hR
            clear hfin HEV2 HXS HD
            obtain ⟨y0, y1, y2⟩ := HEK.out.ev.cells
            obtain ⟨x0, x1, x2⟩ := HEK.out.an.cells
            obtain ⟨z0, z1, z2⟩ := HEK.out.an.free
            obtain ⟨_, _, _, g1, _⟩ := HEK.out.rd.cells
            have g1 : wr.cell? ⟨w.heap.size + 1, 1, none⟩ = some (.int .i64 (pk : Int)) := g1
            go_wp2_with fail
            first | go_region_law (fail) | fail
            all_goals
              go_wp2_with fail
              refine bodyPost_ret (results_ctt rfl _ _ w.heap.size 63 #[.string tx, .int .i64 tm, (.slice A xs.length c)] (0, 0) _ rfl (HEK.out.an.put) Tryz.underlying63 rfl (by kernel_rfl)) rfl ?_
              exact ⟨_, rfl, Kd.R_drew (HEK.out.done _ _ _).2.1, below_drew (HEK.out.done _ _ _).2.2⟩
        · have hfin : V = (⟨tx, tm, xs⟩, (pk, qk)) := by rw [HEV2.out, HXS.out.2, qvals_bad l (s := (pk, qk)) hqk]; simp
          have hR : R = (⟨⟨#[]⟩, 0, []⟩, 0, qk) := by rw [HD.out, hfin]; exact if_neg hqk
          subst hR
          have d1 : (qk == 0) = false := by simpa using hqk
          have d2 : (qk != 0) = true := by simpa using hqk
          clear hfin HEV2 HXS HD hqk
          obtain ⟨x0, x1, x2⟩ := HEK.out.an.cells
          obtain ⟨z0, z1, z2⟩ := HEK.out.an.free
          by_cases hlt : k < cn
          · have d3 : decide ((k : Int) < (cn : Int)) = true := decide_eq_true (by omega)
            go_wp2_with fail
            first | go_region_law (fail) | fail
            all_goals
              go_wp2_with fail
              refine bodyPost_ret (results_ctt rfl _ _ w.heap.size 63 #[.string ⟨#[]⟩, .int .i64 0, (.slice none 0 0)] (0, 0) _ rfl (HEK.out.an.put) Tryz.underlying63 rfl (by kernel_rfl)) rfl ?_
              exact ⟨.slice none 0 0, rfl, Kd.R_nil _ _ _ _ _, below_drew (HEK.out.done _ _ _).2.2⟩
          · have d3 : decide ((k : Int) < (cn : Int)) = false := decide_eq_false (by omega)
            go_wp2_with fail
            first | go_region_law (fail) | fail
            all_goals
              go_wp2_with fail
              refine bodyPost_ret (results_ctt rfl _ _ w.heap.size 63 #[.string ⟨#[]⟩, .int .i64 0, (.slice none 0 0)] (0, 0) _ rfl (HEK.out.an.put) Tryz.underlying63 rfl (by kernel_rfl)) rfl ?_
              exact ⟨.slice none 0 0, rfl, Kd.R_nil _ _ _ _ _, below_drew (HEK.out.done _ _ _).2.2⟩
    · have HS3 := Lib.hid (HS2.out.trans (if_neg (fun h => absurd h.2 (by decide))))
      go_upto_region 6 with (go_at_call 55; refine (HNB.out _).mono ?_; rintro e2 w3 ⟨rfl, hB2⟩; have HE3 := Lib.hid (by have h := HE1.out.below hB2; rw [← HS3.out] at h; exact h); clear hB2)
      clear x0 g2
      have HN4 := Lib.hid (HN.out _ s2 0 4611686018427387904 HE3.out.rd)
      generalize qnum l 0 4611686018427387904 s2 = r4 at *
      obtain ⟨tm, s4⟩ := r4
      go_upto_region 7 with (go_at_call 102; refine HN4.out.mono ?_; rintro e4 w4 ⟨rfl, hR4, hO4⟩; have hE4 := HE3.out.read hR4 hO4; have z1 := hE4.ev.free.2.1; have y1 := hE4.ev.cells.2.1; have HE4 := Lib.hid (hE4.set1 tm); clear hR4 hO4 hE4)
      clear HN4 z1 y1
      generalize w4.setCell ⟨w.heap.size + 1 + 1, 1, none⟩ (.int .i64 tm) = w4s at *
      have HN5 := Lib.hid (HN.out _ s4 0 16 HE4.out.rd)
      obtain ⟨hc0, hc1⟩ := qnum_rng (l := l) (lo := 0) (hi := 16) (by decide) (by decide) s4
      generalize qnum l 0 16 s4 = r5 at *
      obtain ⟨cn, s5⟩ := r5
      simp only at hc0 hc1
      obtain ⟨cn, rfl⟩ := Int.eq_ofNat_of_zero_le hc0
      have HEV2 : Hid (V = (⟨tx, tm, (qvals l cn s5).1⟩, (qvals l cn s5).2)) := Lib.hid (by rw [HEV.out]; simp only [Int.toNat_natCast])
      clear HEV hc0
      go_upto_region 8 with (go_at_call 102; refine HN5.out.mono ?_; rintro e5 w5 ⟨rfl, hR5, hO5⟩; have HE5 := Lib.hid (HE4.out.read hR5 hO5); clear hR5 hO5)
      clear HN5
      go_wp2_with fail
      go_loopw [8] (fun t8 wr => ∃ (k : Nat) (sk : Ws) (xs : List S67) (v : Value), k ≤ cn ∧ t8 = .int .i64 k ∧ Hid (QEvS w (w.heap.size + 1) l w.heap.size (w.heap.size + 1 + 1) sk tx tm xs wr v) ∧ Hid (xs.length = k ∧ qvals l cn s5 = (xs ++ (qvals l (cn - k) sk).1, (qvals l (cn - k) sk).2))) (fun t8 _ => cn - (intOf t8).toNat)
      case atStart => exact ⟨0, s5, [], _, by omega, rfl, HE5, Lib.hid ⟨rfl, rfl⟩⟩
      case round =>
        clear HE5
        obtain ⟨k, sk, xs, v, hk, rfl, HEK, HXS⟩ := hrel
        obtain ⟨A, c, rfl⟩ := Kd.R_slice HEK.out.row
        obtain ⟨pk, qk⟩ := sk
        obtain ⟨_, _, _, _, g2, _⟩ := HEK.out.rd.cells
        have g2 : wr.cell? ⟨w.heap.size + 1, 2, none⟩ = some (.int .i64 qk) := g2
        by_cases hqk : qk = 0
        · subst hqk
          by_cases hlt : k < cn
          · obtain ⟨y0, y1, y2⟩ := HEK.out.ev.cells
            obtain ⟨z0, z1, z2⟩ := HEK.out.ev.free
            have HVK := Lib.hid (HV.out · (pk, 0))
            have hws : qvals l (cn - k) (pk, 0) = ((qvalue l (pk, 0)).1 :: (qvals l (cn - (k + 1)) (qvalue l (pk, 0)).2).1, (qvals l (cn - (k + 1)) (qvalue l (pk, 0)).2).2) := by
              rw [show cn - k = (cn - (k + 1)) + 1 by omega]
              exact if_pos rfl
            have HWS := Lib.hid hws
            have HXL := Lib.hid HXS.out.1
            clear hws
            generalize qvalue l (pk, 0) = r6 at *
            obtain ⟨p6, s6⟩ := r6
            have hxl : xs.length ≤ 1000000 := by have := HXL.out; omega
            go_wp2_with fail
            go_region_law (first
              | (go_simp; go_at_call 103; refine (HVK.out _ (by first | exact HEK.out.drew.rd | exact HEK.out.rd)).mono ?_; rintro e6 w6 ⟨rfl, hR6, hO6⟩; have HE6 : Hid (QEvS w (w.heap.size + 1) l w.heap.size (w.heap.size + 1 + 1) s6 tx tm xs w6 (.slice A xs.length c)) := Lib.hid (by first | exact HEK.out.drew.read hR6 hO6 | exact HEK.out.read hR6 hO6); have y26 := HE6.out.ev.cells.2.2; have z29 := HE6.out.ev.free.2.2; have y27 := pw_cell_below (below_new w6 (.cells #[.int .i64 p6.f0, .int .i64 p6.f1, .string p6.f2, .bool p6.f3] 67)) y26)
              | (refine qvstep (by rfl) _ _ (by rfl) HE6.out p6 (by rfl) (by rfl) hxl ?_; intro A7 n7 c7 w7 hc7 hf7 HE7))
            all_goals
              go_wp2_with fail
              go_roundw
              case rel => exact ⟨k + 1, s6, xs ++ [p6], _, by omega, by go_num, HE7, Lib.hid ⟨by rw [List.length_append, HXL.out]; rfl, by rw [HXS.out.2, HWS.out]; simp⟩⟩
              case measure => simp [intOf]; omega
          · obtain rfl : k = cn := by omega
            have hfin : V = (⟨tx, tm, xs⟩, (pk, 0)) := by rw [HEV2.out, HXS.out.2, Nat.sub_self]; simp [qvals]
            have hR : R = (⟨tx, tm, xs⟩, pk, 0) := by rw [HD.out, hfin]; exact if_pos rfl
            subst hR
            clear hfin HEV2 HXS HD
            obtain ⟨y0, y1, y2⟩ := HEK.out.ev.cells
            obtain ⟨x0, x1, x2⟩ := HEK.out.an.cells
            obtain ⟨z0, z1, z2⟩ := HEK.out.an.free
            obtain ⟨_, _, _, g1, _⟩ := HEK.out.rd.cells
            have g1 : wr.cell? ⟨w.heap.size + 1, 1, none⟩ = some (.int .i64 (pk : Int)) := g1
            go_wp2_with fail
            first | go_region_law (fail) | fail
            all_goals
              go_wp2_with fail
              refine bodyPost_ret (results_ctt rfl _ _ w.heap.size 63 #[.string tx, .int .i64 tm, (.slice A xs.length c)] (0, 0) _ rfl (HEK.out.an.put) Tryz.underlying63 rfl (by kernel_rfl)) rfl ?_
              exact ⟨_, rfl, Kd.R_drew (HEK.out.done _ _ _).2.1, below_drew (HEK.out.done _ _ _).2.2⟩
        · have hfin : V = (⟨tx, tm, xs⟩, (pk, qk)) := by rw [HEV2.out, HXS.out.2, qvals_bad l (s := (pk, qk)) hqk]; simp
          have hR : R = (⟨⟨#[]⟩, 0, []⟩, 0, qk) := by rw [HD.out, hfin]; exact if_neg hqk
          subst hR
          have d1 : (qk == 0) = false := by simpa using hqk
          have d2 : (qk != 0) = true := by simpa using hqk
          clear hfin HEV2 HXS HD hqk
          obtain ⟨x0, x1, x2⟩ := HEK.out.an.cells
          obtain ⟨z0, z1, z2⟩ := HEK.out.an.free
          by_cases hlt : k < cn
          · have d3 : decide ((k : Int) < (cn : Int)) = true := decide_eq_true (by omega)
            go_wp2_with fail
            first | go_region_law (fail) | fail
            all_goals
              go_wp2_with fail
              refine bodyPost_ret (results_ctt rfl _ _ w.heap.size 63 #[.string ⟨#[]⟩, .int .i64 0, (.slice none 0 0)] (0, 0) _ rfl (HEK.out.an.put) Tryz.underlying63 rfl (by kernel_rfl)) rfl ?_
              exact ⟨.slice none 0 0, rfl, Kd.R_nil _ _ _ _ _, below_drew (HEK.out.done _ _ _).2.2⟩
          · have d3 : decide ((k : Int) < (cn : Int)) = false := decide_eq_false (by omega)
            go_wp2_with fail
            first | go_region_law (fail) | fail
            all_goals
              go_wp2_with fail
              refine bodyPost_ret (results_ctt rfl _ _ w.heap.size 63 #[.string ⟨#[]⟩, .int .i64 0, (.slice none 0 0)] (0, 0) _ rfl (HEK.out.an.put) Tryz.underlying63 rfl (by kernel_rfl)) rfl ?_
              exact ⟨.slice none 0 0, rfl, Kd.R_nil _ _ _ _ _, below_drew (HEK.out.done _ _ _).2.2⟩
  · have d1 : (q1 == 0) = false := by simpa using hq
    have HS3 := Lib.hid (HS2.out.trans (if_neg (fun h => hq h.1)))
    clear hq
    go_upto_region 6 with fail
    have HE3 := Lib.hid (by have h := HE1.out; rw [← HS3.out] at h; exact h)
    clear x0 g2
    have HN4 := Lib.hid (HN.out _ s2 0 4611686018427387904 HE3.out.rd)
    generalize qnum l 0 4611686018427387904 s2 = r4 at *
    obtain ⟨tm, s4⟩ := r4
    go_upto_region 7 with (go_at_call 102; refine HN4.out.mono ?_; rintro e4 w4 ⟨rfl, hR4, hO4⟩; have hE4 := HE3.out.read hR4 hO4; have z1 := hE4.ev.free.2.1; have y1 := hE4.ev.cells.2.1; have HE4 := Lib.hid (hE4.set1 tm); clear hR4 hO4 hE4)
    clear HN4 z1 y1
    generalize w4.setCell ⟨w.heap.size + 1 + 1, 1, none⟩ (.int .i64 tm) = w4s at *
    have HN5 := Lib.hid (HN.out _ s4 0 16 HE4.out.rd)
    obtain ⟨hc0, hc1⟩ := qnum_rng (l := l) (lo := 0) (hi := 16) (by decide) (by decide) s4
    generalize qnum l 0 16 s4 = r5 at *
    obtain ⟨cn, s5⟩ := r5
    simp only at hc0 hc1
    obtain ⟨cn, rfl⟩ := Int.eq_ofNat_of_zero_le hc0
    have HEV2 : Hid (V = (⟨tx, tm, (qvals l cn s5).1⟩, (qvals l cn s5).2)) := Lib.hid (by rw [HEV.out]; simp only [Int.toNat_natCast])
    clear HEV hc0
    go_upto_region 8 with (go_at_call 102; refine HN5.out.mono ?_; rintro e5 w5 ⟨rfl, hR5, hO5⟩; have HE5 := Lib.hid (HE4.out.read hR5 hO5); clear hR5 hO5)
    clear HN5
    go_wp2_with fail
    go_loopw [8] (fun t8 wr => ∃ (k : Nat) (sk : Ws) (xs : List S67) (v : Value), k ≤ cn ∧ t8 = .int .i64 k ∧ Hid (QEvS w (w.heap.size + 1) l w.heap.size (w.heap.size + 1 + 1) sk tx tm xs wr v) ∧ Hid (xs.length = k ∧ qvals l cn s5 = (xs ++ (qvals l (cn - k) sk).1, (qvals l (cn - k) sk).2))) (fun t8 _ => cn - (intOf t8).toNat)
    case atStart => exact ⟨0, s5, [], _, by omega, rfl, HE5, Lib.hid ⟨rfl, rfl⟩⟩
    case round =>
      clear HE5
      obtain ⟨k, sk, xs, v, hk, rfl, HEK, HXS⟩ := hrel
      obtain ⟨A, c, rfl⟩ := Kd.R_slice HEK.out.row
      obtain ⟨pk, qk⟩ := sk
      obtain ⟨_, _, _, _, g2, _⟩ := HEK.out.rd.cells
      have g2 : wr.cell? ⟨w.heap.size + 1, 2, none⟩ = some (.int .i64 qk) := g2
      by_cases hqk : qk = 0
      · subst hqk
        by_cases hlt : k < cn
        · obtain ⟨y0, y1, y2⟩ := HEK.out.ev.cells
          obtain ⟨z0, z1, z2⟩ := HEK.out.ev.free
          have HVK := Lib.hid (HV.out · (pk, 0))
          have hws : qvals l (cn - k) (pk, 0) = ((qvalue l (pk, 0)).1 :: (qvals l (cn - (k + 1)) (qvalue l (pk, 0)).2).1, (qvals l (cn - (k + 1)) (qvalue l (pk, 0)).2).2) := by
            rw [show cn - k = (cn - (k + 1)) + 1 by omega]
            exact if_pos rfl
          have HWS := Lib.hid hws
          have HXL := Lib.hid HXS.out.1
          clear hws
          generalize qvalue l (pk, 0) = r6 at *
          obtain ⟨p6, s6⟩ := r6
          have hxl : xs.length ≤ 1000000 := by have := HXL.out; omega
          go_wp2_with fail
          go_region_law (first
            | (go_simp; go_at_call 103; refine (HVK.out _ (by first | exact HEK.out.drew.rd | exact HEK.out.rd)).mono ?_; rintro e6 w6 ⟨rfl, hR6, hO6⟩; have HE6 : Hid (QEvS w (w.heap.size + 1) l w.heap.size (w.heap.size + 1 + 1) s6 tx tm xs w6 (.slice A xs.length c)) := Lib.hid (by first | exact HEK.out.drew.read hR6 hO6 | exact HEK.out.read hR6 hO6); have y26 := HE6.out.ev.cells.2.2; have z29 := HE6.out.ev.free.2.2; have y27 := pw_cell_below (below_new w6 (.cells #[.int .i64 p6.f0, .int .i64 p6.f1, .string p6.f2, .bool p6.f3] 67)) y26)
            | (refine qvstep (by rfl) _ _ (by rfl) HE6.out p6 (by rfl) (by rfl) hxl ?_; intro A7 n7 c7 w7 hc7 hf7 HE7))
          all_goals
            go_wp2_with fail
            go_roundw
            case rel => exact ⟨k + 1, s6, xs ++ [p6], _, by omega, by go_num, HE7, Lib.hid ⟨by rw [List.length_append, HXL.out]; rfl, by rw [HXS.out.2, HWS.out]; simp⟩⟩
            case measure => simp [intOf]; omega
        · obtain rfl : k = cn := by omega
          have hfin : V = (⟨tx, tm, xs⟩, (pk, 0)) := by rw [HEV2.out, HXS.out.2, Nat.sub_self]; simp [qvals]
          have hR : R = (⟨tx, tm, xs⟩, pk, 0) := by rw [HD.out, hfin]; exact if_pos rfl
          subst hR
          clear hfin HEV2 HXS HD
          obtain ⟨y0, y1, y2⟩ := HEK.out.ev.cells
          obtain ⟨x0, x1, x2⟩ := HEK.out.an.cells
          obtain ⟨z0, z1, z2⟩ := HEK.out.an.free
          obtain ⟨_, _, _, g1, _⟩ := HEK.out.rd.cells
          have g1 : wr.cell? ⟨w.heap.size + 1, 1, none⟩ = some (.int .i64 (pk : Int)) := g1
          go_wp2_with fail
          first | go_region_law (fail) | fail
          all_goals
            go_wp2_with fail
            refine bodyPost_ret (results_ctt rfl _ _ w.heap.size 63 #[.string tx, .int .i64 tm, (.slice A xs.length c)] (0, 0) _ rfl (HEK.out.an.put) Tryz.underlying63 rfl (by kernel_rfl)) rfl ?_
            exact ⟨_, rfl, Kd.R_drew (HEK.out.done _ _ _).2.1, below_drew (HEK.out.done _ _ _).2.2⟩
      · have hfin : V = (⟨tx, tm, xs⟩, (pk, qk)) := by rw [HEV2.out, HXS.out.2, qvals_bad l (s := (pk, qk)) hqk]; simp
        have hR : R = (⟨⟨#[]⟩, 0, []⟩, 0, qk) := by rw [HD.out, hfin]; exact if_neg hqk
        subst hR
        have d1 : (qk == 0) = false := by simpa using hqk
        have d2 : (qk != 0) = true := by simpa using hqk
        clear hfin HEV2 HXS HD hqk
        obtain ⟨x0, x1, x2⟩ := HEK.out.an.cells
        obtain ⟨z0, z1, z2⟩ := HEK.out.an.free
        by_cases hlt : k < cn
        · have d3 : decide ((k : Int) < (cn : Int)) = true := decide_eq_true (by omega)
          go_wp2_with fail
          first | go_region_law (fail) | fail
          all_goals
            go_wp2_with fail
            refine bodyPost_ret (results_ctt rfl _ _ w.heap.size 63 #[.string ⟨#[]⟩, .int .i64 0, (.slice none 0 0)] (0, 0) _ rfl (HEK.out.an.put) Tryz.underlying63 rfl (by kernel_rfl)) rfl ?_
            exact ⟨.slice none 0 0, rfl, Kd.R_nil _ _ _ _ _, below_drew (HEK.out.done _ _ _).2.2⟩
        · have d3 : decide ((k : Int) < (cn : Int)) = false := decide_eq_false (by omega)
          go_wp2_with fail
          first | go_region_law (fail) | fail
          all_goals
            go_wp2_with fail
            refine bodyPost_ret (results_ctt rfl _ _ w.heap.size 63 #[.string ⟨#[]⟩, .int .i64 0, (.slice none 0 0)] (0, 0) _ rfl (HEK.out.an.put) Tryz.underlying63 rfl (by kernel_rfl)) rfl ?_
            exact ⟨.slice none 0 0, rfl, Kd.R_nil _ _ _ _ _, below_drew (HEK.out.done _ _ _).2.2⟩
end Go.Proofs.YtcfgmkmllcfjjaaGreatDoor
set_option linter.unusedVariables false
set_option linter.unusedSimpArgs false
namespace Go.Proofs.YtcfgmkmllcfjjaaGreatDoor
open Go.RowKit Go.Proofs.YtcfgmkmllcfjjaaGreatDoorW.PrintWords Go.Proofs.YtcfgmkmllcfjjaaGreatDoorW.PrintMore PImageAll
section
variable {l t : List Int} {p : Nat} (hm : l.length ≤ 4611686018427387904)
include hm
theorem qnum_at {n lo hi : Int} (h : l.drop p = puti n ++ t) (hn : I64 n) (h0 : lo ≤ n) (h1 : n ≤ hi) : qnum l lo hi (p, 0) = (n, (p + (puti n).length, 0)) := by
  have hl : (puti n ++ t).length ≤ 4611686018427387904 := by rw [← h, List.length_drop]; omega
  unfold qnum
  rw [show ((p, (0 : Int)) : Ws).1 = p from rfl, h, rIntF_at hn t hl]
  simp only [Int.toNat_natCast]
  rw [if_pos trivial, if_pos trivial, if_pos ⟨h0, h1⟩]
omit hm in
theorem qone_at {x : Int} (h : l.drop p = x :: t) : qone l (p, 0) = (x, (p + 1, 0)) := by
  have h2 := congrArg List.length h
  rw [List.length_drop, List.length_cons] at h2
  unfold qone
  rw [show ((p, (0 : Int)) : Ws).1 = p from rfl, h, if_pos rfl, if_neg (by omega), List.headD_cons]
theorem qtext_at {s : ByteArray} {lo hi : Int} (h : l.drop p = txt s ++ t) (hs : s.size ≤ 9223372036854775807) (h0 : lo ≤ s.size) (h1 : (s.size : Int) ≤ hi) : qtext l lo hi (p, 0) = (s, (p + (txt s).length, 0)) := by
  rw [txt, List.append_assoc] at h
  have w1 := qnum_at hm h (len_I64 hs) h0 h1
  have hd := drop_on h
  have h3 := congrArg List.length hd
  rw [List.length_drop, List.length_append, bytesOf_length] at h3
  unfold qtext
  rw [w1]
  simp only [Int.toNat_natCast]
  rw [if_pos trivial, if_pos (by omega), hd]
  have h2 : (bytesOf s ++ t).take s.size = bytesOf s := by rw [← bytesOf_length s, List.take_left]
  rw [h2, strOf_bytesOf, txt, List.length_append, bytesOf_length, Nat.add_assoc]
theorem qvalue_at {v : S67} (hv : ValOk v) (h : l.drop p = encVal v ++ t) : qvalue l (p, 0) = (v, (p + (encVal v).length, 0)) := by
  unfold encVal at h ⊢
  rcases hv with ⟨n, hn⟩ | ⟨s, hs⟩ | ⟨b⟩
  · have h : l.drop p = 1 :: (puti n ++ t) := h
    have h2 : l.drop (p + 1) = puti n ++ t := drop_on (a := [1]) h
    have w1 := qone_at h
    have w2 := qnum_at hm h2 hn (lo := minI) (hi := maxI) hn.1 hn.2
    unfold qvalue
    rw [w1]
    simp only
    rw [if_pos trivial, if_pos trivial, w2]
    show _ = (_, (p + (1 :: puti n).length, 0))
    rw [List.length_cons, show p + 1 + (puti n).length = p + ((puti n).length + 1) by omega]
  · have h : l.drop p = 2 :: (txt s ++ t) := h
    have h2 : l.drop (p + 1) = txt s ++ t := drop_on (a := [2]) h
    have w1 := qone_at h
    have w2 := qtext_at hm h2 (by omega) (lo := 0) (hi := 256) (by omega) (by omega)
    unfold qvalue
    rw [w1]
    simp only
    rw [if_pos trivial, if_neg (by decide), if_pos trivial, w2]
    show _ = (_, (p + (2 :: txt s).length, 0))
    rw [List.length_cons, show p + 1 + (txt s).length = p + ((txt s).length + 1) by omega]
  · have h : l.drop p = 3 :: ((if b then (1 : Int) else 0) :: t) := h
    have h2 : l.drop (p + 1) = (if b then (1 : Int) else 0) :: t := drop_on (a := [3]) h
    have w1 := qone_at h
    have w2 := qone_at h2
    unfold qvalue
    rw [w1]
    simp only
    rw [if_pos trivial, if_neg (by decide), if_neg (by decide), if_pos trivial, w2]
    cases b <;> rfl
theorem qvals_at : ∀ (vs : List S67) (p : Nat), (∀ v ∈ vs, ValOk v) → l.drop p = vs.flatMap encVal ++ t → qvals l vs.length (p, 0) = (vs, (p + (vs.flatMap encVal).length, 0))
  | [], p, _, _ => rfl
  | v :: vs, p, hv, h => by
    rw [List.flatMap_cons, List.append_assoc] at h
    have h1 := qvalue_at hm (hv v List.mem_cons_self) h
    have h2 := qvals_at vs (p + (encVal v).length) (fun y hy => hv y (List.mem_cons_of_mem _ hy)) (drop_on h)
    rw [List.length_cons, qvals, if_pos rfl, h1]
    simp only
    rw [h2, List.flatMap_cons, List.length_append, Nat.add_assoc]
end
theorem qdec_enc {x : S63} (hf : faultN x = 0) (hv : ∀ y ∈ x.f2, I64 y.f1) (t : List Int) (hm : (encEvent x ++ t).length ≤ 4611686018427387904) : qdec (encEvent x ++ t) = (x, (encEvent x).length, 0) := by
  obtain ⟨h1, h2, h3, h4⟩ := fault_zero hf
  have hn := name_size h1
  have hp := name_pos h1
  have e1 : (encEvent x ++ t).drop 0 = txt x.f0 ++ (puti x.f1 ++ (puti x.f2.length ++ (x.f2.flatMap encVal ++ t))) := by
    rw [List.drop_zero, encEvent, List.append_assoc, List.append_assoc, List.append_assoc]
  have e2 := drop_on e1
  have e3 := drop_on e2
  have e4 := drop_on e3
  have w1 := qtext_at hm e1 (by omega) (lo := 1) (hi := 32) (by omega) (by omega)
  have w3 := qnum_at hm e2 ⟨by omega, by omega⟩ (lo := 0) (hi := 4611686018427387904) h2.1 h2.2
  have w4 := qnum_at hm e3 (len_I64 (by omega)) (lo := 0) (hi := 16) (by omega) (by omega)
  have w5 := qvals_at hm x.f2 _ (fun y hy => validB_ok (h4 y hy) (hv y hy)) e4
  have hlen : (encEvent x).length = 0 + (txt x.f0).length + (puti x.f1).length + (puti x.f2.length).length + (x.f2.flatMap encVal).length := by
    simp only [encEvent, List.length_append]
    omega
  generalize encEvent x ++ t = l at *
  have hname : qnameF (qtext l 1 32 (0, 0)) = (0 + (txt x.f0).length, 0) := by
    rw [w1]
    unfold qnameF
    exact if_neg (fun h => by rw [h1] at h; exact absurd h.2 (by decide))
  have hev : qev l = (x, ((encEvent x).length, 0)) := by
    unfold qev
    rw [hname, w1]
    simp only
    rw [w3]
    simp only
    rw [w4]
    simp only [Int.toNat_natCast]
    rw [w5, hlen]
  unfold qdec
  rw [hev]
  rfl
section
variable {l : List Int} (hm : l.length ≤ 4611686018427387904)
include hm
theorem qnum_le {lo hi : Int} {s : Ws} (h : s.1 ≤ l.length) : (qnum l lo hi s).2.1 ≤ l.length := by
  have hd : (l.drop s.1).length = l.length - s.1 := List.length_drop
  obtain ⟨v, e, n, _, hF, _, hen⟩ := rIntF_any (l := l.drop s.1) (by rw [hd]; omega)
  have hn : n ≤ l.length - s.1 := by
    rcases hen with h1 | h1
    · have := h1.2.2; omega
    · omega
  unfold qnum
  rw [hF]
  split
  · split
    · split
      · show s.1 + (n : Int).toNat ≤ l.length
        rw [Int.toNat_natCast]
        omega
      · show s.1 + (n : Int).toNat ≤ l.length
        rw [Int.toNat_natCast]
        omega
    · exact h
  · exact h
omit hm in
theorem qone_le {s : Ws} (h : s.1 ≤ l.length) : (qone l s).2.1 ≤ l.length := by
  unfold qone
  split
  · split
    · exact h
    · show s.1 + 1 ≤ l.length; omega
  · exact h
theorem qtext_le {lo hi : Int} {s : Ws} (h : s.1 ≤ l.length) : (qtext l lo hi s).2.1 ≤ l.length := by
  have h1 := qnum_le hm (lo := lo) (hi := hi) h
  unfold qtext
  split
  · split
    · show _ + _ ≤ l.length; omega
    · exact h1
  · exact h1
omit hm in
theorem failW_fst (k : Int) (s : Ws) : (failW k s).1 = s.1 := by
  unfold failW
  split <;> rfl
theorem qvalue_le {s : Ws} (h : s.1 ≤ l.length) : (qvalue l s).2.1 ≤ l.length := by
  have h1 : (qone l s).2.1 ≤ l.length := qone_le h
  unfold qvalue
  split
  · split
    · exact qnum_le hm h1
    · split
      · exact qtext_le hm h1
      · split
        · show (if _ then _ else _ : Ws).1 ≤ l.length
          split
          · rw [failW_fst]; exact qone_le h1
          · exact qone_le h1
        · show (failW 31 _).1 ≤ l.length
          rw [failW_fst]; exact h1
  · exact h1
theorem qvals_le : ∀ (n : Nat) (s : Ws), s.1 ≤ l.length → (qvals l n s).2.1 ≤ l.length
  | 0, _, h => h
  | n + 1, s, h => by
    unfold qvals
    split
    · exact qvals_le n _ (qvalue_le hm h)
    · exact h
theorem qdec_le : (qdec l).2.1 ≤ l.length := by
  have h1 : (qnameF (qtext l 1 32 (0, 0))).1 ≤ l.length := by
    unfold qnameF
    split
    · rw [failW_fst]; exact qtext_le hm (Nat.zero_le _)
    · exact qtext_le hm (Nat.zero_le _)
  unfold qdec
  split
  · exact qvals_le hm _ _ (qnum_le hm (qnum_le hm h1))
  · exact Nat.zero_le _
omit hm in
theorem z_I64 : I64 0 := ⟨by decide, by decide⟩
omit hm in
theorem qnum_in {lo hi : Int} (h0 : lo ≤ 0) (h1 : 0 ≤ hi) (s : Ws) : lo ≤ (qnum l lo hi s).1 ∧ (qnum l lo hi s).1 ≤ hi := by
  unfold qnum
  split
  · split
    · split
      · rename_i h; exact h
      · exact ⟨h0, h1⟩
    · exact ⟨h0, h1⟩
  · exact ⟨h0, h1⟩
omit hm in
theorem qvalue_I64 (s : Ws) : I64 (qvalue l s).1.f1 := by
  unfold qvalue
  split
  · split
    · exact qnum_in (by decide) (by decide) _
    · split
      · exact z_I64
      · split
        · exact z_I64
        · exact z_I64
  · exact z_I64
omit hm in
theorem qvals_I64 : ∀ (n : Nat) (s : Ws), (∀ y ∈ (qvals l n s).1, I64 y.f1) ∧ (qvals l n s).1.length ≤ n
  | 0, s => ⟨fun y hy => (by cases hy), Nat.le_refl _⟩
  | n + 1, s => by
    unfold qvals
    split
    · obtain ⟨i1, i2⟩ := qvals_I64 n (qvalue l s).2
      refine ⟨fun y hy => ?_, by show (_ :: _ : List S67).length ≤ _; rw [List.length_cons]; omega⟩
      rcases List.mem_cons.1 hy with rfl | hy
      · exact qvalue_I64 _
      · exact i1 y hy
    · exact ⟨fun y hy => (by cases hy), Nat.zero_le _⟩
omit hm in
theorem qdec_I64 : (∀ y ∈ (qdec l).1.f2, I64 y.f1) ∧ (qdec l).1.f2.length ≤ 16 := by
  unfold qdec
  split
  · obtain ⟨i1, i2⟩ := qvals_I64 (l := l) (qnum l 0 16 (qnum l 0 4611686018427387904 (qnameF (qtext l 1 32 (0, 0)))).2).1.toNat (qnum l 0 16 (qnum l 0 4611686018427387904 (qnameF (qtext l 1 32 (0, 0)))).2).2
    have := (qnum_in (l := l) (lo := 0) (hi := 16) (by decide) (by decide) (qnum l 0 4611686018427387904 (qnameF (qtext l 1 32 (0, 0)))).2)
    exact ⟨i1, by show (qvals l _ _).1.length ≤ 16; omega⟩
  · exact ⟨fun y hy => (by cases hy), by show (0 : Nat) ≤ 16; omega⟩
end
end Go.Proofs.YtcfgmkmllcfjjaaGreatDoor
