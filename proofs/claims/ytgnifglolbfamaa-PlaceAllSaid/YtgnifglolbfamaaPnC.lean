/- The law's own word: everywhere (printed by mkevery.py). -/
import Derived.Test.YtgnifglolbfamaaPnB
set_option linter.unusedVariables false
set_option linter.unusedSimpArgs false
namespace Go.Proofs.Ytgnifglolbfamaa
open Go.RowKit Go.Proofs.YtgnifglolbfamaaW.PrintWords

def sumN {α : Type} (f : α → Nat) : List α → Nat
  | [] => 0
  | x :: xs => f x + sumN f xs
theorem sumN_append {α : Type} (f : α → Nat) : ∀ a b : List α, sumN f (a ++ b) = sumN f a + sumN f b
  | [], b => by simp [sumN]
  | x :: a, b => by simp only [List.cons_append, sumN, sumN_append f a b]; omega
theorem sumN_take_succ {α : Type} (f : α → Nat) (l : List α) (k : Nat) (h : k < l.length) : sumN f (l.take (k + 1)) = sumN f (l.take k) + f l[k] := by
  rw [List.take_succ_eq_append_getElem h, sumN_append]
  simp [sumN]
theorem sumN_take_le {α : Type} (f : α → Nat) (l : List α) (k : Nat) : sumN f (l.take k) ≤ sumN f l := by
  conv => rhs; rw [← List.take_append_drop k l, sumN_append]
  omega
def ngCnt (e : Ex) (n : Ng) : Nat := cntX n.f2 e
def sgCnt (e : Ex) (s : Sg) : Nat := cntX s.f4 e + cntX s.f5 e + cntX s.f6 e + sumN (ngCnt e) s.f3
def everyX (ls : List Sg) (fin : List Ex) (e : Ex) : Nat := cntX fin e + sumN (sgCnt e) ls
theorem rdSg_get (l : List Sg) (k : Nat) (h : k < l.length) : rdSg l (k : Int) = l[k] := by
  simp [rdSg, List.getD_eq_getElem?_getD, List.getElem?_eq_getElem h]
theorem rdNg_get (l : List Ng) (k : Nat) (h : k < l.length) : rdNg l (k : Int) = l[k] := by
  simp [rdNg, List.getD_eq_getElem?_getD, List.getElem?_eq_getElem h]

set_option maxHeartbeats 8000000 in
set_option maxRecDepth 100000 in
theorem everywhere_any (ls : List Sg) (A : Option Addr) (c : Nat) (fin : List Ex) (F : Option Addr) (cf : Nat) (e : Ex) (B : Option Addr) (cb : Nat) (w : World) (hL : kSg.C w A ls.length ls) (hF : kEx.C w F fin.length fin) (hE : kEx.C w B e.f6.length e.f6) (hbd : everyX ls fin e ≤ 1000000000) :
    Calls Try.prog 28 #[.slice A ls.length c, .slice F fin.length cf, exV e (.slice B e.f6.length cb)] w fun r w' => r = .returned (.int .i64 (everyX ls fin e : Nat)) ∧ Below w.heap.size w w' := by
  have hmx := hL.2.1
  have hb1 := below_new w (.cells #[.int .i64 e.f0, .int .i64 e.f1, .int .i64 e.f2.f0, .int .i64 e.f2.f1, .string e.f2.f2, .bool e.f2.f3, .string e.f3, .int .i64 e.f4, .string e.f5, .slice B e.f6.length cb] 31)
  have hX := Lib.hid (blk_new w (.cells #[.int .i64 e.f0, .int .i64 e.f1, .int .i64 e.f2.f0, .int .i64 e.f2.f1, .string e.f2.f2, .bool e.f2.f3, .string e.f3, .int .i64 e.f4, .string e.f5, .slice B e.f6.length cb] 31))
  have HL := Lib.hid (Kd.C_below hL hb1)
  have HE := Lib.hid (Kd.C_below hE hb1)
  have HCF := Lib.hid (count_any fin F cf e B cb _ (Kd.C_below hF hb1) (Kd.C_below hE hb1))
  obtain ⟨res, hres⟩ : ∃ res, res = everyX ls fin e := ⟨_, rfl⟩
  rw [← hres] at hbd ⊢
  have HR := Lib.hid hres
  have hc0 : cntX fin e ≤ res := by rw [hres]; unfold everyX; omega
  have HTOT := Lib.hid (show cntX fin e + sumN (sgCnt e) ls = res by rw [hres]; rfl)
  obtain ⟨n0, hn0⟩ : ∃ n0, n0 = cntX fin e := ⟨_, rfl⟩
  rw [← hn0] at HCF HTOT hc0
  clear hL hE hF hres hn0
  unfold exV at HCF ⊢
  go_enter Try.func28, Try.ntmps28
  have hx0 := (blk_cell hX.out 0).trans rfl
  have hx1 := (blk_cell hX.out 1).trans rfl
  have hx2 := (blk_cell hX.out 2).trans rfl
  have hx3 := (blk_cell hX.out 3).trans rfl
  have hx4 := (blk_cell hX.out 4).trans rfl
  have hx5 := (blk_cell hX.out 5).trans rfl
  have hx6 := (blk_cell hX.out 6).trans rfl
  have hx7 := (blk_cell hX.out 7).trans rfl
  have hx8 := (blk_cell hX.out 8).trans rfl
  have hx9 := (blk_cell hX.out 9).trans rfl
  go_wp2_with fail
  generalize w.alloc (.cells #[.int .i64 e.f0, .int .i64 e.f1, .int .i64 e.f2.f0, .int .i64 e.f2.f1, .string e.f2.f2, .bool e.f2.f3, .string e.f3, .int .i64 e.f4, .string e.f5, .slice B e.f6.length cb] 31) = W0 at *
  refine HCF.out.mono ?_
  rintro r W1 ⟨rfl, hbw1⟩
  have HX1 := Lib.hid (blk_below hX.out hbw1)
  have HL1 := Lib.hid (Kd.C_below HL.out hbw1)
  have HE1 := Lib.hid (Kd.C_below HE.out hbw1)
  have hb1' := below_step hb1 hbw1
  clear hx0 hx1 hx2 hx3 hx4 hx5 hx6 hx7 hx8 hx9
  go_wp2_with fail
  go_loopw [7, 8] (fun t7 t8 wr => ∃ k n : Nat, k ≤ ls.length ∧ n ≤ 1000000000 ∧ t8 = .int .i64 k ∧ t7 = .int .i64 n ∧ Below W1.heap.size W1 wr ∧ Hid (n = n0 + sumN (sgCnt e) (ls.take k))) (fun _ t8 _ => ls.length - (intOf t8).toNat)
  case atStart => exact ⟨0, n0, by omega, by omega, rfl, rfl, Below.refl _ _, Lib.hid (by simp [sumN])⟩
  case round =>
    obtain ⟨k, n, hk, hn, rfl, rfl, hB, hO⟩ := hrel
    generalize wr = w2 at *
    by_cases hlt : k < ls.length
    · have i1 : (0 : Int) ≤ (k : Int) := by omega
      have i2 : (k : Int) < ls.length := by omega
      have hat := atSg (Kd.C_below HL1.out hB) k i1 i2
      simp only [Int.toNat_natCast] at hat
      obtain ⟨ad, A3, c3, A4, c4, A5, c5, A6, c6, rfl, s0, s1, s2, s3, s4, s5, s6, l3, g3, l4, g4, l5, g5, l6, g6⟩ := hat
      have HS := Lib.hid (rdSg_get ls k hlt)
      have HT := Lib.hid (show sumN (sgCnt e) (ls.take (k + 1)) = sumN (sgCnt e) (ls.take k) + sgCnt e (rdSg ls k) by rw [sumN_take_succ _ _ _ hlt, HS.out])
      have htl := sumN_take_le (sgCnt e) ls (k + 1)
      generalize rdSg ls k = s at *
      have hbig : n + sgCnt e s ≤ res := by have := HTOT.out; have := HT.out; have := hO.out; omega
      have HSG := Lib.hid (show sgCnt e s = cntX s.f4 e + cntX s.f5 e + cntX s.f6 e + sumN (ngCnt e) s.f3 from rfl)
      have HCALL := Lib.hid (fun (l : List Ex) (A : Option Addr) (c : Nat) (h : kEx.C w2 A l.length l) (W : World) (hb : Below w2.heap.size w2 W) => count_any l A c e B cb W (Kd.C_below h hb) (Kd.C_below (Kd.C_below HE1.out hB) hb))
      have HG4 := Lib.hid g4
      have HG5 := Lib.hid g5
      have HG6 := Lib.hid g6
      have hmx3 := g3.2.1
      have HG3 := Lib.hid g3
      obtain ⟨sm, hsm⟩ : ∃ sm, sm = sumN (ngCnt e) s.f3 := ⟨_, rfl⟩
      rw [← hsm] at HSG
      have HSM := Lib.hid hsm
      have hsg := HSG.out
      have hw1 : IntKind.i64.wrap ((n : Int) + (cntX s.f4 e : Int)) = (n : Int) + (cntX s.f4 e : Int) := IntWalk.i64_in _ (by omega)
      have hw2 : IntKind.i64.wrap ((n : Int) + (cntX s.f4 e : Int) + (cntX s.f5 e : Int)) = (n : Int) + (cntX s.f4 e : Int) + (cntX s.f5 e : Int) := IntWalk.i64_in _ (by omega)
      have hw3 : IntKind.i64.wrap ((n : Int) + (cntX s.f4 e : Int) + (cntX s.f5 e : Int) + (cntX s.f6 e : Int)) = (n : Int) + (cntX s.f4 e : Int) + (cntX s.f5 e : Int) + (cntX s.f6 e : Int) := IntWalk.i64_in _ (by omega)
      unfold exV at HCALL
      clear g3 g4 g5 g6 hsm hsg
      have hXr := blk_below HX1.out hB

      have x0 := (blk_cell hXr 0).trans rfl
      have x1 := (blk_cell hXr 1).trans rfl
      have x2 := (blk_cell hXr 2).trans rfl
      have x3 := (blk_cell hXr 3).trans rfl
      have x4 := (blk_cell hXr 4).trans rfl
      have x5 := (blk_cell hXr 5).trans rfl
      have x6 := (blk_cell hXr 6).trans rfl
      have x7 := (blk_cell hXr 7).trans rfl
      have x8 := (blk_cell hXr 8).trans rfl
      have x9 := (blk_cell hXr 9).trans rfl
      have HKeep := Lib.hid (show ∀ w', Below w2.heap.size w2 w' → w'.cell? ⟨(ad.add (k * 7)).block, (ad.add (k * 7)).off + 4, none⟩ = some (.slice A4 s.f4.length c4) ∧ w'.cell? ⟨(ad.add (k * 7)).block, (ad.add (k * 7)).off + 5, none⟩ = some (.slice A5 s.f5.length c5) ∧ w'.cell? ⟨(ad.add (k * 7)).block, (ad.add (k * 7)).off + 6, none⟩ = some (.slice A6 s.f6.length c6) ∧ w'.cell? ⟨w.heap.size, 0, none⟩ = some (.int .i64 e.f0) ∧ w'.cell? ⟨w.heap.size, 1, none⟩ = some (.int .i64 e.f1) ∧ w'.cell? ⟨w.heap.size, 2, none⟩ = some (.int .i64 e.f2.f0) ∧ w'.cell? ⟨w.heap.size, 3, none⟩ = some (.int .i64 e.f2.f1) ∧ w'.cell? ⟨w.heap.size, 4, none⟩ = some (.string e.f2.f2) ∧ w'.cell? ⟨w.heap.size, 5, none⟩ = some (.bool e.f2.f3) ∧ w'.cell? ⟨w.heap.size, 6, none⟩ = some (.string e.f3) ∧ w'.cell? ⟨w.heap.size, 7, none⟩ = some (.int .i64 e.f4) ∧ w'.cell? ⟨w.heap.size, 8, none⟩ = some (.string e.f5) ∧ w'.cell? ⟨w.heap.size, 9, none⟩ = some (.slice B e.f6.length cb) from fun w' hb => ⟨pw_cell_below hb s4, pw_cell_below hb s5, pw_cell_below hb s6, pw_cell_below hb x0, pw_cell_below hb x1, pw_cell_below hb x2, pw_cell_below hb x3, pw_cell_below hb x4, pw_cell_below hb x5, pw_cell_below hb x6, pw_cell_below hb x7, pw_cell_below hb x8, pw_cell_below hb x9⟩)
      have HS3 := Lib.hid (fun (w' : World) (hb : Below w2.heap.size w2 w') => pw_cell_below hb s3)
      go_wp2_with fail
      go_region_held3 (fun w' => w'.cell? ⟨(ad.add (k * 7)).block, (ad.add (k * 7)).off + 4, none⟩ = some (.slice A4 s.f4.length c4) ∧ w'.cell? ⟨(ad.add (k * 7)).block, (ad.add (k * 7)).off + 5, none⟩ = some (.slice A5 s.f5.length c5) ∧ w'.cell? ⟨(ad.add (k * 7)).block, (ad.add (k * 7)).off + 6, none⟩ = some (.slice A6 s.f6.length c6) ∧ w'.cell? ⟨w.heap.size, 0, none⟩ = some (.int .i64 e.f0) ∧ w'.cell? ⟨w.heap.size, 1, none⟩ = some (.int .i64 e.f1) ∧ w'.cell? ⟨w.heap.size, 2, none⟩ = some (.int .i64 e.f2.f0) ∧ w'.cell? ⟨w.heap.size, 3, none⟩ = some (.int .i64 e.f2.f1) ∧ w'.cell? ⟨w.heap.size, 4, none⟩ = some (.string e.f2.f2) ∧ w'.cell? ⟨w.heap.size, 5, none⟩ = some (.bool e.f2.f3) ∧ w'.cell? ⟨w.heap.size, 6, none⟩ = some (.string e.f3) ∧ w'.cell? ⟨w.heap.size, 7, none⟩ = some (.int .i64 e.f4) ∧ w'.cell? ⟨w.heap.size, 8, none⟩ = some (.string e.f5) ∧ w'.cell? ⟨w.heap.size, 9, none⟩ = some (.slice B e.f6.length cb)) (first | exact HKeep.out _ (Below.refl _ _) | exact HKeep.out _ (below_drew (Below.refl _ _)) | exact HKeep.out _ (by assumption) | exact HKeep.out _ (below_drew (by assumption))) (first | ((go_at_call 26; refine (HCALL.out _ _ _ (by first | exact HG4.out | exact HG5.out | exact HG6.out) _ (by first | exact below_drew (Below.refl _ _) | assumption)).mono ?_; rintro r w5 ⟨rfl, hb5⟩; have hbk : Below w2.heap.size w2 w5 := (by first | exact below_step (below_drew (Below.refl _ _)) hb5 | exact below_step (by assumption) hb5))))
      have hB5 := below_step hB hbk
      have hs3 := HS3.out _ hbk
      have HX5 := Lib.hid (blk_below HX1.out hB5)
      have HE5 := Lib.hid (Kd.C_below HE1.out hB5)
      have HN5 := Lib.hid (Kd.C_below HG3.out hbk)
      obtain ⟨n1, hn1⟩ : ∃ n1 : Nat, n1 = n + cntX s.f4 e + cntX s.f5 e + cntX s.f6 e := ⟨_, rfl⟩
      have hn1c : (n : Int) + (cntX s.f4 e : Int) + (cntX s.f5 e : Int) + (cntX s.f6 e : Int) = (n1 : Int) := by omega
      have HN1 := Lib.hid hn1
      have HSMB := Lib.hid (show n1 + sm ≤ 1000000000 by have := HSG.out; omega)
      clear hn1 s0 s1 s2 s3 s4 s5 s6 hbig hw1 hw2 hw3 x0 x1 x2 x3 x4 x5 x6 x7 x8 x9
      go_wp2_with fail
      rw [hn1c]
      clear hn1c
      go_loopw [7, 9] (fun t7 t9 wr => ∃ j m : Nat, j ≤ s.f3.length ∧ m ≤ 1000000000 ∧ t9 = .int .i64 j ∧ t7 = .int .i64 m ∧ Below w5.heap.size w5 wr ∧ Hid (m = n1 + sumN (ngCnt e) (s.f3.take j))) (fun _ t9 _ => s.f3.length - (intOf t9).toNat)
      case atStart => exact ⟨0, n1, by omega, by have := HSMB.out; omega, rfl, rfl, Below.refl _ _, Lib.hid (by simp [sumN])⟩
      case round =>
        obtain ⟨j, m, hj, hm, rfl, rfl, hBi, hOi⟩ := hrel
        have hs3r := pw_cell_below hBi hs3
        by_cases hlt2 : j < s.f3.length
        · have j1 : (0 : Int) ≤ (j : Int) := by omega
          have j2 : (j : Int) < s.f3.length := by omega
          have hat := atNg (Kd.C_below HN5.out hBi) j j1 j2
          simp only [Int.toNat_natCast] at hat
          obtain ⟨nd, B2, b2, rfl, m0, m1, m2, lm, gm⟩ := hat
          have HNG := Lib.hid (rdNg_get s.f3 j hlt2)
          have HNT := Lib.hid (show sumN (ngCnt e) (s.f3.take (j + 1)) = sumN (ngCnt e) (s.f3.take j) + ngCnt e (rdNg s.f3 j) by rw [sumN_take_succ _ _ _ hlt2, HNG.out])
          have hntl := sumN_take_le (ngCnt e) s.f3 (j + 1)
          generalize rdNg s.f3 j = g at *
          have hgc : ngCnt e g = cntX g.f2 e := rfl
          have hmb : m + cntX g.f2 e ≤ 1000000000 := by have := HSMB.out; have := HSM.out; have := HNT.out; have := hOi.out; omega
          have HC2 := Lib.hid (count_any g.f2 B2 b2 e B cb wr.drew (Kd.C_below gm (below_drew (Below.refl _ _))) (Kd.C_below (Kd.C_below HE5.out hBi) (below_drew (Below.refl _ _))))
          have HNT2 := Lib.hid (show m + cntX g.f2 e = n1 + sumN (ngCnt e) (s.f3.take (j + 1)) by have := HNT.out; have := hOi.out; omega)
          generalize cntX g.f2 e = cg at *
          have hw : IntKind.i64.wrap ((m : Int) + (cg : Int)) = (m : Int) + (cg : Int) := IntWalk.i64_in _ (by omega)
          unfold exV at HC2
          have hXr := blk_below HX5.out hBi
          have x0 := (blk_cell hXr 0).trans rfl
          have x1 := (blk_cell hXr 1).trans rfl
          have x2 := (blk_cell hXr 2).trans rfl
          have x3 := (blk_cell hXr 3).trans rfl
          have x4 := (blk_cell hXr 4).trans rfl
          have x5 := (blk_cell hXr 5).trans rfl
          have x6 := (blk_cell hXr 6).trans rfl
          have x7 := (blk_cell hXr 7).trans rfl
          have x8 := (blk_cell hXr 8).trans rfl
          have x9 := (blk_cell hXr 9).trans rfl
          clear gm m0 m1 hgc hntl
          have HKeep2 := Lib.hid (show ∀ w', Below wr.heap.size wr w' → w'.cell? ⟨(ad.add (k * 7)).block, (ad.add (k * 7)).off + 3, none⟩ = some (.slice (some nd) s.f3.length c3) ∧ w'.cell? ⟨(nd.add (j * 3)).block, (nd.add (j * 3)).off + 2, none⟩ = some (.slice B2 g.f2.length b2) ∧ w'.cell? ⟨w.heap.size, 0, none⟩ = some (.int .i64 e.f0) ∧ w'.cell? ⟨w.heap.size, 1, none⟩ = some (.int .i64 e.f1) ∧ w'.cell? ⟨w.heap.size, 2, none⟩ = some (.int .i64 e.f2.f0) ∧ w'.cell? ⟨w.heap.size, 3, none⟩ = some (.int .i64 e.f2.f1) ∧ w'.cell? ⟨w.heap.size, 4, none⟩ = some (.string e.f2.f2) ∧ w'.cell? ⟨w.heap.size, 5, none⟩ = some (.bool e.f2.f3) ∧ w'.cell? ⟨w.heap.size, 6, none⟩ = some (.string e.f3) ∧ w'.cell? ⟨w.heap.size, 7, none⟩ = some (.int .i64 e.f4) ∧ w'.cell? ⟨w.heap.size, 8, none⟩ = some (.string e.f5) ∧ w'.cell? ⟨w.heap.size, 9, none⟩ = some (.slice B e.f6.length cb) from fun w' hb => ⟨pw_cell_below hb hs3r, pw_cell_below hb m2, pw_cell_below hb x0, pw_cell_below hb x1, pw_cell_below hb x2, pw_cell_below hb x3, pw_cell_below hb x4, pw_cell_below hb x5, pw_cell_below hb x6, pw_cell_below hb x7, pw_cell_below hb x8, pw_cell_below hb x9⟩)
          go_wp2_with fail
          go_region_held3 (fun w' => w'.cell? ⟨(ad.add (k * 7)).block, (ad.add (k * 7)).off + 3, none⟩ = some (.slice (some nd) s.f3.length c3) ∧ w'.cell? ⟨(nd.add (j * 3)).block, (nd.add (j * 3)).off + 2, none⟩ = some (.slice B2 g.f2.length b2) ∧ w'.cell? ⟨w.heap.size, 0, none⟩ = some (.int .i64 e.f0) ∧ w'.cell? ⟨w.heap.size, 1, none⟩ = some (.int .i64 e.f1) ∧ w'.cell? ⟨w.heap.size, 2, none⟩ = some (.int .i64 e.f2.f0) ∧ w'.cell? ⟨w.heap.size, 3, none⟩ = some (.int .i64 e.f2.f1) ∧ w'.cell? ⟨w.heap.size, 4, none⟩ = some (.string e.f2.f2) ∧ w'.cell? ⟨w.heap.size, 5, none⟩ = some (.bool e.f2.f3) ∧ w'.cell? ⟨w.heap.size, 6, none⟩ = some (.string e.f3) ∧ w'.cell? ⟨w.heap.size, 7, none⟩ = some (.int .i64 e.f4) ∧ w'.cell? ⟨w.heap.size, 8, none⟩ = some (.string e.f5) ∧ w'.cell? ⟨w.heap.size, 9, none⟩ = some (.slice B e.f6.length cb)) (first | exact HKeep2.out _ (Below.refl _ _) | exact HKeep2.out _ (below_drew (Below.refl _ _)) | exact HKeep2.out _ (by assumption) | exact HKeep2.out _ (below_drew (by assumption))) (first | ((go_at_call 26; refine HC2.out.mono ?_; rintro r w6 ⟨rfl, hb6⟩; have hbk6 : Below wr.heap.size wr w6 := below_step (below_drew (Below.refl _ _)) hb6)))
          have hB6 := below_step hBi hbk6
          go_wp2_with fail
          go_roundw
          case rel => exact ⟨j + 1, m + cg, by omega, by omega, by go_num, by go_num, hB6, HNT2⟩
          case measure => simp [intOf]; omega
        · obtain rfl : j = s.f3.length := by omega
          have hOe := hOi.out
          rw [List.take_length, ← HSM.out] at hOe
          have HFIN := Lib.hid (show m = n0 + sumN (sgCnt e) (ls.take (k + 1)) by have := HT.out; have := hO.out; have := HSG.out; have := HN1.out; omega)
          have hB7 := below_step hB5 hBi
          clear hOe
          go_wp2_with fail
          go_roundw
          case rel => exact ⟨k + 1, m, by omega, by omega, by go_num, rfl, hB7, HFIN⟩
          case measure => simp [intOf]; omega
    · obtain rfl : k = ls.length := by omega
      have hO2 := hO.out
      rw [List.take_length, HTOT.out] at hO2
      have HF := Lib.hid (show res = n from hO2.symm)
      clear hO2
      go_wp2_with fail
      go_ret
      exact ⟨by rw [HF.out]; rfl, below_step hb1' hB⟩
end Go.Proofs.Ytgnifglolbfamaa
