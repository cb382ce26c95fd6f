/- Texts of the claim, merged in build order: PnC, PnE, PnF. -/
import Derived.Test.YtgnifglolbfamaaZAM
import Derived.Test.YtgnifglolbfamaaZAI
/- The law's own word: everywhere (printed by mkevery.py). -/
set_option linter.unusedVariables false
set_option linter.unusedSimpArgs false
namespace Go.Proofs.Ytgnifglolbfamaa
open Go.RowKit Go.Proofs.YtgnifglolbfamaaW.PrintWords

def sumN {α : Type} (f : α → Nat) : List α → Nat
  | [] => 0
  | x :: xs => f x + sumN f xs
theorem sumN_append {α : Type} (f : α → Nat) : ∀ a b : List α, sumN f (a ++ b) = sumN f a + sumN f b
  | [], b => by simp [sumN]
  | x :: a, b => by simp only [List.cons_append, sumN, sumN_append f a b]; omega
theorem sumN_take_succ {α : Type} (f : α → Nat) (l : List α) (k : Nat) (h : k < l.length) : sumN f (l.take (k + 1)) = sumN f (l.take k) + f l[k] := by
  rw [List.take_succ_eq_append_getElem h, sumN_append]
  simp [sumN]
theorem sumN_take_le {α : Type} (f : α → Nat) (l : List α) (k : Nat) : sumN f (l.take k) ≤ sumN f l := by
  conv => rhs; rw [← List.take_append_drop k l, sumN_append]
  omega
def ngCnt (e : Ex) (n : Ng) : Nat := cntX n.f2 e
def sgCnt (e : Ex) (s : Sg) : Nat := cntX s.f4 e + cntX s.f5 e + cntX s.f6 e + sumN (ngCnt e) s.f3
def everyX (ls : List Sg) (fin : List Ex) (e : Ex) : Nat := cntX fin e + sumN (sgCnt e) ls
theorem rdSg_get (l : List Sg) (k : Nat) (h : k < l.length) : rdSg l (k : Int) = l[k] := by
  simp [rdSg, List.getD_eq_getElem?_getD, List.getElem?_eq_getElem h]
theorem rdNg_get (l : List Ng) (k : Nat) (h : k < l.length) : rdNg l (k : Int) = l[k] := by
  simp [rdNg, List.getD_eq_getElem?_getD, List.getElem?_eq_getElem h]

set_option maxHeartbeats 8000000 in
set_option maxRecDepth 100000 in
theorem everywhere_any (ls : List Sg) (A : Option Addr) (c : Nat) (fin : List Ex) (F : Option Addr) (cf : Nat) (e : Ex) (B : Option Addr) (cb : Nat) (w : World) (hL : kSg.C w A ls.length ls) (hF : kEx.C w F fin.length fin) (hE : kEx.C w B e.f6.length e.f6) (hbd : everyX ls fin e ≤ 1000000000) :
    Calls Try.prog 28 #[.slice A ls.length c, .slice F fin.length cf, exV e (.slice B e.f6.length cb)] w fun r w' => r = .returned (.int .i64 (everyX ls fin e : Nat)) ∧ Below w.heap.size w w' := by
  have hmx := hL.2.1
  have hb1 := below_new w (.cells #[.int .i64 e.f0, .int .i64 e.f1, .int .i64 e.f2.f0, .int .i64 e.f2.f1, .string e.f2.f2, .bool e.f2.f3, .string e.f3, .int .i64 e.f4, .string e.f5, .slice B e.f6.length cb] 31)
  have hX := Lib.hid (blk_new w (.cells #[.int .i64 e.f0, .int .i64 e.f1, .int .i64 e.f2.f0, .int .i64 e.f2.f1, .string e.f2.f2, .bool e.f2.f3, .string e.f3, .int .i64 e.f4, .string e.f5, .slice B e.f6.length cb] 31))
  have HL := Lib.hid (Kd.C_below hL hb1)
  have HE := Lib.hid (Kd.C_below hE hb1)
  have HCF := Lib.hid (count_any fin F cf e B cb _ (Kd.C_below hF hb1) (Kd.C_below hE hb1))
  obtain ⟨res, hres⟩ : ∃ res, res = everyX ls fin e := ⟨_, rfl⟩
  rw [← hres] at hbd ⊢
  have HR := Lib.hid hres
  have hc0 : cntX fin e ≤ res := by rw [hres]; unfold everyX; omega
  have HTOT := Lib.hid (show cntX fin e + sumN (sgCnt e) ls = res by rw [hres]; rfl)
  obtain ⟨n0, hn0⟩ : ∃ n0, n0 = cntX fin e := ⟨_, rfl⟩
  rw [← hn0] at HCF HTOT hc0
  clear hL hE hF hres hn0
  unfold exV at HCF ⊢
  go_enter Try.func28, Try.ntmps28
  have hx0 := (blk_cell hX.out 0).trans rfl
  have hx1 := (blk_cell hX.out 1).trans rfl
  have hx2 := (blk_cell hX.out 2).trans rfl
  have hx3 := (blk_cell hX.out 3).trans rfl
  have hx4 := (blk_cell hX.out 4).trans rfl
  have hx5 := (blk_cell hX.out 5).trans rfl
  have hx6 := (blk_cell hX.out 6).trans rfl
  have hx7 := (blk_cell hX.out 7).trans rfl
  have hx8 := (blk_cell hX.out 8).trans rfl
  have hx9 := (blk_cell hX.out 9).trans rfl
  go_wp2_with fail
  generalize w.alloc (.cells #[.int .i64 e.f0, .int .i64 e.f1, .int .i64 e.f2.f0, .int .i64 e.f2.f1, .string e.f2.f2, .bool e.f2.f3, .string e.f3, .int .i64 e.f4, .string e.f5, .slice B e.f6.length cb] 31) = W0 at *
  refine HCF.out.mono ?_
  rintro r W1 ⟨rfl, hbw1⟩
  have HX1 := Lib.hid (blk_below hX.out hbw1)
  have HL1 := Lib.hid (Kd.C_below HL.out hbw1)
  have HE1 := Lib.hid (Kd.C_below HE.out hbw1)
  have hb1' := below_step hb1 hbw1
  clear hx0 hx1 hx2 hx3 hx4 hx5 hx6 hx7 hx8 hx9
  go_wp2_with fail
  go_loopw [7, 8] (fun t7 t8 wr => ∃ k n : Nat, k ≤ ls.length ∧ n ≤ 1000000000 ∧ t8 = .int .i64 k ∧ t7 = .int .i64 n ∧ Below W1.heap.size W1 wr ∧ Hid (n = n0 + sumN (sgCnt e) (ls.take k))) (fun _ t8 _ => ls.length - (intOf t8).toNat)
  case atStart => exact ⟨0, n0, by omega, by omega, rfl, rfl, Below.refl _ _, Lib.hid (by simp [sumN])⟩
  case round =>
    obtain ⟨k, n, hk, hn, rfl, rfl, hB, hO⟩ := hrel
    generalize wr = w2 at *
    by_cases hlt : k < ls.length
    · have i1 : (0 : Int) ≤ (k : Int) := by omega
      have i2 : (k : Int) < ls.length := by omega
      have hat := atSg (Kd.C_below HL1.out hB) k i1 i2
      simp only [Int.toNat_natCast] at hat
      obtain ⟨ad, A3, c3, A4, c4, A5, c5, A6, c6, rfl, s0, s1, s2, s3, s4, s5, s6, l3, g3, l4, g4, l5, g5, l6, g6⟩ := hat
      have HS := Lib.hid (rdSg_get ls k hlt)
      have HT := Lib.hid (show sumN (sgCnt e) (ls.take (k + 1)) = sumN (sgCnt e) (ls.take k) + sgCnt e (rdSg ls k) by rw [sumN_take_succ _ _ _ hlt, HS.out])
      have htl := sumN_take_le (sgCnt e) ls (k + 1)
      generalize rdSg ls k = s at *
      have hbig : n + sgCnt e s ≤ res := by have := HTOT.out; have := HT.out; have := hO.out; omega
      have HSG := Lib.hid (show sgCnt e s = cntX s.f4 e + cntX s.f5 e + cntX s.f6 e + sumN (ngCnt e) s.f3 from rfl)
      have HCALL := Lib.hid (fun (l : List Ex) (A : Option Addr) (c : Nat) (h : kEx.C w2 A l.length l) (W : World) (hb : Below w2.heap.size w2 W) => count_any l A c e B cb W (Kd.C_below h hb) (Kd.C_below (Kd.C_below HE1.out hB) hb))
      have HG4 := Lib.hid g4
      have HG5 := Lib.hid g5
      have HG6 := Lib.hid g6
      have hmx3 := g3.2.1
      have HG3 := Lib.hid g3
      obtain ⟨sm, hsm⟩ : ∃ sm, sm = sumN (ngCnt e) s.f3 := ⟨_, rfl⟩
      rw [← hsm] at HSG
      have HSM := Lib.hid hsm
      have hsg := HSG.out
      have hw1 : IntKind.i64.wrap ((n : Int) + (cntX s.f4 e : Int)) = (n : Int) + (cntX s.f4 e : Int) := IntWalk.i64_in _ (by omega)
      have hw2 : IntKind.i64.wrap ((n : Int) + (cntX s.f4 e : Int) + (cntX s.f5 e : Int)) = (n : Int) + (cntX s.f4 e : Int) + (cntX s.f5 e : Int) := IntWalk.i64_in _ (by omega)
      have hw3 : IntKind.i64.wrap ((n : Int) + (cntX s.f4 e : Int) + (cntX s.f5 e : Int) + (cntX s.f6 e : Int)) = (n : Int) + (cntX s.f4 e : Int) + (cntX s.f5 e : Int) + (cntX s.f6 e : Int) := IntWalk.i64_in _ (by omega)
      unfold exV at HCALL
      clear g3 g4 g5 g6 hsm hsg
      have hXr := blk_below HX1.out hB

      have x0 := (blk_cell hXr 0).trans rfl
      have x1 := (blk_cell hXr 1).trans rfl
      have x2 := (blk_cell hXr 2).trans rfl
      have x3 := (blk_cell hXr 3).trans rfl
      have x4 := (blk_cell hXr 4).trans rfl
      have x5 := (blk_cell hXr 5).trans rfl
      have x6 := (blk_cell hXr 6).trans rfl
      have x7 := (blk_cell hXr 7).trans rfl
      have x8 := (blk_cell hXr 8).trans rfl
      have x9 := (blk_cell hXr 9).trans rfl
      have HKeep := Lib.hid (show ∀ w', Below w2.heap.size w2 w' → w'.cell? ⟨(ad.add (k * 7)).block, (ad.add (k * 7)).off + 4, none⟩ = some (.slice A4 s.f4.length c4) ∧ w'.cell? ⟨(ad.add (k * 7)).block, (ad.add (k * 7)).off + 5, none⟩ = some (.slice A5 s.f5.length c5) ∧ w'.cell? ⟨(ad.add (k * 7)).block, (ad.add (k * 7)).off + 6, none⟩ = some (.slice A6 s.f6.length c6) ∧ w'.cell? ⟨w.heap.size, 0, none⟩ = some (.int .i64 e.f0) ∧ w'.cell? ⟨w.heap.size, 1, none⟩ = some (.int .i64 e.f1) ∧ w'.cell? ⟨w.heap.size, 2, none⟩ = some (.int .i64 e.f2.f0) ∧ w'.cell? ⟨w.heap.size, 3, none⟩ = some (.int .i64 e.f2.f1) ∧ w'.cell? ⟨w.heap.size, 4, none⟩ = some (.string e.f2.f2) ∧ w'.cell? ⟨w.heap.size, 5, none⟩ = some (.bool e.f2.f3) ∧ w'.cell? ⟨w.heap.size, 6, none⟩ = some (.string e.f3) ∧ w'.cell? ⟨w.heap.size, 7, none⟩ = some (.int .i64 e.f4) ∧ w'.cell? ⟨w.heap.size, 8, none⟩ = some (.string e.f5) ∧ w'.cell? ⟨w.heap.size, 9, none⟩ = some (.slice B e.f6.length cb) from fun w' hb => ⟨pw_cell_below hb s4, pw_cell_below hb s5, pw_cell_below hb s6, pw_cell_below hb x0, pw_cell_below hb x1, pw_cell_below hb x2, pw_cell_below hb x3, pw_cell_below hb x4, pw_cell_below hb x5, pw_cell_below hb x6, pw_cell_below hb x7, pw_cell_below hb x8, pw_cell_below hb x9⟩)
      have HS3 := Lib.hid (fun (w' : World) (hb : Below w2.heap.size w2 w') => pw_cell_below hb s3)
      go_wp2_with fail
      go_region_held3 (fun w' => w'.cell? ⟨(ad.add (k * 7)).block, (ad.add (k * 7)).off + 4, none⟩ = some (.slice A4 s.f4.length c4) ∧ w'.cell? ⟨(ad.add (k * 7)).block, (ad.add (k * 7)).off + 5, none⟩ = some (.slice A5 s.f5.length c5) ∧ w'.cell? ⟨(ad.add (k * 7)).block, (ad.add (k * 7)).off + 6, none⟩ = some (.slice A6 s.f6.length c6) ∧ w'.cell? ⟨w.heap.size, 0, none⟩ = some (.int .i64 e.f0) ∧ w'.cell? ⟨w.heap.size, 1, none⟩ = some (.int .i64 e.f1) ∧ w'.cell? ⟨w.heap.size, 2, none⟩ = some (.int .i64 e.f2.f0) ∧ w'.cell? ⟨w.heap.size, 3, none⟩ = some (.int .i64 e.f2.f1) ∧ w'.cell? ⟨w.heap.size, 4, none⟩ = some (.string e.f2.f2) ∧ w'.cell? ⟨w.heap.size, 5, none⟩ = some (.bool e.f2.f3) ∧ w'.cell? ⟨w.heap.size, 6, none⟩ = some (.string e.f3) ∧ w'.cell? ⟨w.heap.size, 7, none⟩ = some (.int .i64 e.f4) ∧ w'.cell? ⟨w.heap.size, 8, none⟩ = some (.string e.f5) ∧ w'.cell? ⟨w.heap.size, 9, none⟩ = some (.slice B e.f6.length cb)) (first | exact HKeep.out _ (Below.refl _ _) | exact HKeep.out _ (below_drew (Below.refl _ _)) | exact HKeep.out _ (by assumption) | exact HKeep.out _ (below_drew (by assumption))) (first | ((go_at_call 26; refine (HCALL.out _ _ _ (by first | exact HG4.out | exact HG5.out | exact HG6.out) _ (by first | exact below_drew (Below.refl _ _) | assumption)).mono ?_; rintro r w5 ⟨rfl, hb5⟩; have hbk : Below w2.heap.size w2 w5 := (by first | exact below_step (below_drew (Below.refl _ _)) hb5 | exact below_step (by assumption) hb5))))
      have hB5 := below_step hB hbk
      have hs3 := HS3.out _ hbk
      have HX5 := Lib.hid (blk_below HX1.out hB5)
      have HE5 := Lib.hid (Kd.C_below HE1.out hB5)
      have HN5 := Lib.hid (Kd.C_below HG3.out hbk)
      obtain ⟨n1, hn1⟩ : ∃ n1 : Nat, n1 = n + cntX s.f4 e + cntX s.f5 e + cntX s.f6 e := ⟨_, rfl⟩
      have hn1c : (n : Int) + (cntX s.f4 e : Int) + (cntX s.f5 e : Int) + (cntX s.f6 e : Int) = (n1 : Int) := by omega
      have HN1 := Lib.hid hn1
      have HSMB := Lib.hid (show n1 + sm ≤ 1000000000 by have := HSG.out; omega)
      clear hn1 s0 s1 s2 s3 s4 s5 s6 hbig hw1 hw2 hw3 x0 x1 x2 x3 x4 x5 x6 x7 x8 x9
      go_wp2_with fail
      rw [hn1c]
      clear hn1c
      go_loopw [7, 9] (fun t7 t9 wr => ∃ j m : Nat, j ≤ s.f3.length ∧ m ≤ 1000000000 ∧ t9 = .int .i64 j ∧ t7 = .int .i64 m ∧ Below w5.heap.size w5 wr ∧ Hid (m = n1 + sumN (ngCnt e) (s.f3.take j))) (fun _ t9 _ => s.f3.length - (intOf t9).toNat)
      case atStart => exact ⟨0, n1, by omega, by have := HSMB.out; omega, rfl, rfl, Below.refl _ _, Lib.hid (by simp [sumN])⟩
      case round =>
        obtain ⟨j, m, hj, hm, rfl, rfl, hBi, hOi⟩ := hrel
        have hs3r := pw_cell_below hBi hs3
        by_cases hlt2 : j < s.f3.length
        · have j1 : (0 : Int) ≤ (j : Int) := by omega
          have j2 : (j : Int) < s.f3.length := by omega
          have hat := atNg (Kd.C_below HN5.out hBi) j j1 j2
          simp only [Int.toNat_natCast] at hat
          obtain ⟨nd, B2, b2, rfl, m0, m1, m2, lm, gm⟩ := hat
          have HNG := Lib.hid (rdNg_get s.f3 j hlt2)
          have HNT := Lib.hid (show sumN (ngCnt e) (s.f3.take (j + 1)) = sumN (ngCnt e) (s.f3.take j) + ngCnt e (rdNg s.f3 j) by rw [sumN_take_succ _ _ _ hlt2, HNG.out])
          have hntl := sumN_take_le (ngCnt e) s.f3 (j + 1)
          generalize rdNg s.f3 j = g at *
          have hgc : ngCnt e g = cntX g.f2 e := rfl
          have hmb : m + cntX g.f2 e ≤ 1000000000 := by have := HSMB.out; have := HSM.out; have := HNT.out; have := hOi.out; omega
          have HC2 := Lib.hid (count_any g.f2 B2 b2 e B cb wr.drew (Kd.C_below gm (below_drew (Below.refl _ _))) (Kd.C_below (Kd.C_below HE5.out hBi) (below_drew (Below.refl _ _))))
          have HNT2 := Lib.hid (show m + cntX g.f2 e = n1 + sumN (ngCnt e) (s.f3.take (j + 1)) by have := HNT.out; have := hOi.out; omega)
          generalize cntX g.f2 e = cg at *
          have hw : IntKind.i64.wrap ((m : Int) + (cg : Int)) = (m : Int) + (cg : Int) := IntWalk.i64_in _ (by omega)
          unfold exV at HC2
          have hXr := blk_below HX5.out hBi
          have x0 := (blk_cell hXr 0).trans rfl
          have x1 := (blk_cell hXr 1).trans rfl
          have x2 := (blk_cell hXr 2).trans rfl
          have x3 := (blk_cell hXr 3).trans rfl
          have x4 := (blk_cell hXr 4).trans rfl
          have x5 := (blk_cell hXr 5).trans rfl
          have x6 := (blk_cell hXr 6).trans rfl
          have x7 := (blk_cell hXr 7).trans rfl
          have x8 := (blk_cell hXr 8).trans rfl
          have x9 := (blk_cell hXr 9).trans rfl
          clear gm m0 m1 hgc hntl
          have HKeep2 := Lib.hid (show ∀ w', Below wr.heap.size wr w' → w'.cell? ⟨(ad.add (k * 7)).block, (ad.add (k * 7)).off + 3, none⟩ = some (.slice (some nd) s.f3.length c3) ∧ w'.cell? ⟨(nd.add (j * 3)).block, (nd.add (j * 3)).off + 2, none⟩ = some (.slice B2 g.f2.length b2) ∧ w'.cell? ⟨w.heap.size, 0, none⟩ = some (.int .i64 e.f0) ∧ w'.cell? ⟨w.heap.size, 1, none⟩ = some (.int .i64 e.f1) ∧ w'.cell? ⟨w.heap.size, 2, none⟩ = some (.int .i64 e.f2.f0) ∧ w'.cell? ⟨w.heap.size, 3, none⟩ = some (.int .i64 e.f2.f1) ∧ w'.cell? ⟨w.heap.size, 4, none⟩ = some (.string e.f2.f2) ∧ w'.cell? ⟨w.heap.size, 5, none⟩ = some (.bool e.f2.f3) ∧ w'.cell? ⟨w.heap.size, 6, none⟩ = some (.string e.f3) ∧ w'.cell? ⟨w.heap.size, 7, none⟩ = some (.int .i64 e.f4) ∧ w'.cell? ⟨w.heap.size, 8, none⟩ = some (.string e.f5) ∧ w'.cell? ⟨w.heap.size, 9, none⟩ = some (.slice B e.f6.length cb) from fun w' hb => ⟨pw_cell_below hb hs3r, pw_cell_below hb m2, pw_cell_below hb x0, pw_cell_below hb x1, pw_cell_below hb x2, pw_cell_below hb x3, pw_cell_below hb x4, pw_cell_below hb x5, pw_cell_below hb x6, pw_cell_below hb x7, pw_cell_below hb x8, pw_cell_below hb x9⟩)
          go_wp2_with fail
          go_region_held3 (fun w' => w'.cell? ⟨(ad.add (k * 7)).block, (ad.add (k * 7)).off + 3, none⟩ = some (.slice (some nd) s.f3.length c3) ∧ w'.cell? ⟨(nd.add (j * 3)).block, (nd.add (j * 3)).off + 2, none⟩ = some (.slice B2 g.f2.length b2) ∧ w'.cell? ⟨w.heap.size, 0, none⟩ = some (.int .i64 e.f0) ∧ w'.cell? ⟨w.heap.size, 1, none⟩ = some (.int .i64 e.f1) ∧ w'.cell? ⟨w.heap.size, 2, none⟩ = some (.int .i64 e.f2.f0) ∧ w'.cell? ⟨w.heap.size, 3, none⟩ = some (.int .i64 e.f2.f1) ∧ w'.cell? ⟨w.heap.size, 4, none⟩ = some (.string e.f2.f2) ∧ w'.cell? ⟨w.heap.size, 5, none⟩ = some (.bool e.f2.f3) ∧ w'.cell? ⟨w.heap.size, 6, none⟩ = some (.string e.f3) ∧ w'.cell? ⟨w.heap.size, 7, none⟩ = some (.int .i64 e.f4) ∧ w'.cell? ⟨w.heap.size, 8, none⟩ = some (.string e.f5) ∧ w'.cell? ⟨w.heap.size, 9, none⟩ = some (.slice B e.f6.length cb)) (first | exact HKeep2.out _ (Below.refl _ _) | exact HKeep2.out _ (below_drew (Below.refl _ _)) | exact HKeep2.out _ (by assumption) | exact HKeep2.out _ (below_drew (by assumption))) (first | ((go_at_call 26; refine HC2.out.mono ?_; rintro r w6 ⟨rfl, hb6⟩; have hbk6 : Below wr.heap.size wr w6 := below_step (below_drew (Below.refl _ _)) hb6)))
          have hB6 := below_step hBi hbk6
          go_wp2_with fail
          go_roundw
          case rel => exact ⟨j + 1, m + cg, by omega, by omega, by go_num, by go_num, hB6, HNT2⟩
          case measure => simp [intOf]; omega
        · obtain rfl : j = s.f3.length := by omega
          have hOe := hOi.out
          rw [List.take_length, ← HSM.out] at hOe
          have HFIN := Lib.hid (show m = n0 + sumN (sgCnt e) (ls.take (k + 1)) by have := HT.out; have := hO.out; have := HSG.out; have := HN1.out; omega)
          have hB7 := below_step hB5 hBi
          clear hOe
          go_wp2_with fail
          go_roundw
          case rel => exact ⟨k + 1, m, by omega, by omega, by go_num, rfl, hB7, HFIN⟩
          case measure => simp [intOf]; omega
    · obtain rfl : k = ls.length := by omega
      have hO2 := hO.out
      rw [List.take_length, HTOT.out] at hO2
      have HF := Lib.hid (show res = n from hO2.symm)
      clear hO2
      go_wp2_with fail
      go_ret
      exact ⟨by rw [HF.out]; rfl, below_step hb1' hB⟩
end Go.Proofs.Ytgnifglolbfamaa

/- The plain law of PlaceAll: where a condition stands, and how often. -/
set_option linter.unusedVariables false
set_option linter.unusedSimpArgs false
namespace Go.Proofs.Ytgnifglolbfamaa
open Go.RowKit Go.Proofs.YtgnifglolbfamaaW.PrintWords

/-- Does a condition stand at a place? -/
def inP (cs : List Cp) (y : Ex) (k i : Nat) : Bool :=
  (decide (k = (anchorOf cs (refsOf y)).1.toNat) && decide (i = plI (anchorOf cs (refsOf y)).1.toNat (anchorOf cs (refsOf y)).2.1.toNat)) ||
  (decide ((anchorOf cs (refsOf y)).1 = 2) && againOf y && decide (k = 1) && decide (i = (anchorOf cs (refsOf y)).2.1.toNat))
def twice (cs : List Cp) (y : Ex) : Nat := if (anchorOf cs (refsOf y)).1 = 2 ∧ againOf y = true then 1 else 0

theorem placeStep_at (cs : List Cp) (L : Nat → Nat → List Ex) (y : Ex) (k i : Nat) : placeStep cs L y k i = L k i ++ if inP cs y k i then [y] else [] := by
  unfold placeStep inP
  generalize anchorOf cs (refsOf y) = a
  obtain ⟨a1, a2, a3⟩ := a
  simp only
  by_cases h : a1 = 2 ∧ againOf y = true
  · obtain ⟨rfl, hg⟩ := h
    rw [if_pos ⟨rfl, hg⟩, hg]
    simp only [addP, upd2, plI]
    by_cases hk : k = 1
    · subst hk
      by_cases hi : i = a2.toNat
      · subst hi; simp
      · simp [hi]
    · by_cases hk2 : k = 2
      · subst hk2
        by_cases hi : i = a2.toNat
        · subst hi; simp
        · simp [hi]
      · simp [hk, hk2]
  · rw [if_neg h]
    have h2 : (decide (a1 = 2) && againOf y) = false := by
      cases h3 : againOf y with
      | false => simp
      | true =>
        have : ¬ a1 = 2 := fun e => h ⟨e, h3⟩
        simp [this]
    rw [h2]
    simp only [addP, upd2, Bool.false_and, Bool.or_false]
    by_cases hk : k = a1.toNat ∧ i = plI a1.toNat a2.toNat
    · obtain ⟨rfl, rfl⟩ := hk
      simp
    · rw [if_neg hk]
      have : (decide (k = a1.toNat) && decide (i = plI a1.toNat a2.toNat)) = false := by
        rw [Bool.and_eq_false_iff]
        by_cases h4 : k = a1.toNat
        · right; exact decide_eq_false (fun e => hk ⟨h4, e⟩)
        · left; exact decide_eq_false h4
      rw [this]
      simp
theorem placeL_filter (cs : List Cp) (k i : Nat) : ∀ (ws : List Ex), placeL cs ws k i = ws.filter (fun y => inP cs y k i) := by
  have : ∀ (ws : List Ex) (L : Nat → Nat → List Ex), ws.foldl (placeStep cs) L k i = L k i ++ ws.filter (fun y => inP cs y k i) := by
    intro ws
    induction ws with
    | nil => intro L; simp
    | cons y ws ih =>
      intro L
      rw [List.foldl_cons, ih, placeStep_at, List.filter_cons]
      cases inP cs y k i <;> simp
  intro ws
  unfold placeL
  rw [this]
  rfl
theorem cntX_place (cs : List Cp) (ws : List Ex) (k i : Nat) (e : Ex) : cntX (placeL cs ws k i) e = if inP cs e k i then cntX ws e else 0 := by
  rw [placeL_filter]
  unfold cntX
  induction ws with
  | nil => simp
  | cons y ws ih =>
    rw [List.filter_cons, List.filter_cons]
    cases hy : eqX y e with
    | false =>
      cases hp : inP cs y k i with
      | false => simpa using ih
      | true => simp only [if_true, List.filter_cons, hy]; simpa using ih
    | true =>
      have : y = e := (eqX_iff y e).1 hy
      subst this
      cases hp : inP cs y k i with
      | false => rw [hp] at ih; simpa using ih
      | true => rw [hp] at ih; simp only [if_true, List.filter_cons, hy, List.length_cons] at ih ⊢; omega

/-! sums of indicators -/
theorem sumN_zero {α : Type} (f : α → Nat) : ∀ l : List α, (∀ x ∈ l, f x = 0) → sumN f l = 0
  | [], _ => rfl
  | x :: l, h => by
    rw [sumN, h x List.mem_cons_self, sumN_zero f l (fun y hy => h y (List.mem_cons_of_mem _ hy))]
theorem sumN_congr {α : Type} (f g : α → Nat) : ∀ l : List α, (∀ x ∈ l, f x = g x) → sumN f l = sumN g l
  | [], _ => rfl
  | x :: l, h => by
    rw [sumN, sumN, h x List.mem_cons_self, sumN_congr f g l (fun y hy => h y (List.mem_cons_of_mem _ hy))]
theorem sumN_add {α : Type} (f g : α → Nat) : ∀ l : List α, sumN (fun x => f x + g x) l = sumN f l + sumN g l
  | [] => rfl
  | x :: l => by simp only [sumN]; rw [sumN_add f g l]; omega
theorem sumN_map {α β : Type} (f : β → Nat) (g : α → β) : ∀ l : List α, sumN f (l.map g) = sumN (fun x => f (g x)) l
  | [] => rfl
  | x :: l => by simp only [List.map_cons, sumN]; rw [sumN_map f g l]
theorem sumN_ind (n c : Nat) : ∀ l : List Nat, l.Nodup → sumN (fun s => if s = n then c else 0) l = if n ∈ l then c else 0
  | [], _ => by simp [sumN]
  | x :: l, h => by
    rw [List.nodup_cons] at h
    rw [sumN, sumN_ind n c l h.2]
    by_cases hx : x = n
    · subst hx
      simp [h.1]
    · have : n ∈ x :: l ↔ n ∈ l := by
        rw [List.mem_cons]
        exact ⟨fun h => h.resolve_left (fun e => hx e.symm), Or.inr⟩
      simp [hx, this]

/-- One at a place, none elsewhere. -/
def indP (kk nn k i : Nat) : Nat := if k = kk ∧ i = nn then 1 else 0
/-- By components (as the law goes through them), by stages (as it goes through the answer). -/
def totF (cs : List Cp) (F : Nat → Nat → Nat) : Nat := F 5 0 + sumN (fun i => if negB cs i then F 4 i else F 1 (stA cs i) + F 2 (stA cs i) + F 3 (stA cs i)) (List.range cs.length)
def evF (cs : List Cp) (F : Nat → Nat → Nat) : Nat := F 5 0 + sumN (fun s => F 1 s + F 2 s + F 3 s + sumN (fun i => F 4 i) (ngI cs cs.length s)) (List.range (stg cs))
theorem totF_add (cs : List Cp) (F G : Nat → Nat → Nat) : totF cs (fun k i => F k i + G k i) = totF cs F + totF cs G := by
  unfold totF
  dsimp only
  rw [sumN_congr _ (fun i => (if negB cs i then F 4 i else F 1 (stA cs i) + F 2 (stA cs i) + F 3 (stA cs i)) + (if negB cs i then G 4 i else G 1 (stA cs i) + G 2 (stA cs i) + G 3 (stA cs i))) _ (fun i _ => by
    cases negB cs i <;> simp <;> omega), sumN_add]
  omega
theorem evF_add (cs : List Cp) (F G : Nat → Nat → Nat) : evF cs (fun k i => F k i + G k i) = evF cs F + evF cs G := by
  unfold evF
  dsimp only
  rw [sumN_congr _ (fun s => (F 1 s + F 2 s + F 3 s + sumN (fun i => F 4 i) (ngI cs cs.length s)) + (G 1 s + G 2 s + G 3 s + sumN (fun i => G 4 i) (ngI cs cs.length s))) _ (fun s _ => by
    have e1 : sumN (fun i => F 4 i + G 4 i) (ngI cs cs.length s) = sumN (fun i => F 4 i) (ngI cs cs.length s) + sumN (fun i => G 4 i) (ngI cs cs.length s) := sumN_add _ _ _
    omega), sumN_add]
  omega
theorem sumN_mul {α : Type} (f : α → Nat) (c : Nat) : ∀ l : List α, sumN (fun x => c * f x) l = c * sumN f l
  | [] => rfl
  | x :: l => by simp only [sumN]; rw [sumN_mul f c l, Nat.mul_add]
theorem evF_mul (cs : List Cp) (F : Nat → Nat → Nat) (c : Nat) : evF cs (fun k i => c * F k i) = c * evF cs F := by
  unfold evF
  dsimp only
  rw [sumN_congr _ (fun s => c * (F 1 s + F 2 s + F 3 s + sumN (fun i => F 4 i) (ngI cs cs.length s))) _ (fun s _ => by
    rw [sumN_mul]; simp only [Nat.mul_add]), sumN_mul, Nat.mul_add]
theorem posAt (cs : List Cp) : ∀ j, j ≤ cs.length → ∀ n, n < stA cs j → ∃ i, i < j ∧ negB cs i = false ∧ stA cs i = n
  | 0, _, n, h => by simp [stA, stg] at h
  | j + 1, hj, n, h => by
    have h1 := stA_succ cs j (by omega)
    rcases Nat.lt_or_ge n (stA cs j) with h2 | h2
    · obtain ⟨i, h3, h4⟩ := posAt cs j (by omega) n h2
      exact ⟨i, by omega, h4⟩
    · cases hn : negB cs j with
      | true => rw [hn] at h1; simp at h1; omega
      | false => rw [hn] at h1; simp at h1; exact ⟨j, by omega, hn, by omega⟩
theorem totF_ind (cs : List Cp) (kk nn : Nat) (hv : VP cs kk nn) : totF cs (indP kk nn) = 1 := by
  unfold totF
  rcases hv with ⟨hk, hn⟩ | ⟨rfl, hn, hneg⟩ | ⟨rfl, rfl⟩
  · obtain ⟨p, hp, hpn, hps⟩ := posAt cs cs.length (Nat.le_refl _) nn (by rw [stA_all]; exact hn)
    rw [sumN_congr _ (fun i => if i = p then 1 else 0) _ (fun i hi => ?_), sumN_ind p 1 _ List.nodup_range]
    · have h5 : indP kk nn 5 0 = 0 := by unfold indP; rw [if_neg (by omega)]
      rw [h5, if_pos (List.mem_range.2 hp)]
    · rw [List.mem_range] at hi
      by_cases hip : i = p
      · subst hip
        rw [if_pos rfl, hpn]
        unfold indP
        rcases hk with rfl | rfl | rfl <;> simp [hps]
      · rw [if_neg hip]
        cases hni : negB cs i with
        | true => simp [indP]; omega
        | false =>
          have hne : stA cs i ≠ nn := by
            intro e
            rcases Nat.lt_or_ge i p with h | h
            · have := stA_pos cs i p h (by omega) hni; omega
            · have := stA_pos cs p i (by omega) (by omega) hpn; omega
          simp [indP, hne]
  · rw [sumN_congr _ (fun i => if i = nn then 1 else 0) _ (fun i hi => ?_), sumN_ind nn 1 _ List.nodup_range]
    · have h5 : indP 4 nn 5 0 = 0 := by unfold indP; rw [if_neg (by omega)]
      rw [h5, if_pos (List.mem_range.2 hn)]
    · by_cases hin : i = nn
      · subst hin; simp [hneg, indP]
      · cases hni : negB cs i <;> simp [indP, hin]
  · rw [sumN_zero _ _ (fun i _ => by cases negB cs i <;> simp [indP])]
    simp [indP]
theorem evF_ind (cs : List Cp) (hl : negB cs (cs.length - 1) = false) (kk nn : Nat) (hv : VP cs kk nn) : evF cs (indP kk nn) = 1 := by
  unfold evF
  rcases hv with ⟨hk, hn⟩ | ⟨rfl, hn, hneg⟩ | ⟨rfl, rfl⟩
  · rw [sumN_congr _ (fun s => if s = nn then 1 else 0) _ (fun s _ => ?_), sumN_ind nn 1 _ List.nodup_range]
    · have h5 : indP kk nn 5 0 = 0 := by unfold indP; rw [if_neg (by omega)]
      rw [h5, if_pos (List.mem_range.2 hn)]
    · rw [sumN_zero _ _ (fun i _ => by unfold indP; rw [if_neg (by omega)])]
      unfold indP
      rcases hk with rfl | rfl | rfl <;> simp
  · rw [sumN_congr _ (fun s => if s = stA cs nn then 1 else 0) _ (fun s _ => ?_), sumN_ind (stA cs nn) 1 _ List.nodup_range]
    · have h5 : indP 4 nn 5 0 = 0 := by unfold indP; rw [if_neg (by omega)]
      rw [h5, if_pos (List.mem_range.2 (stA_lt cs hl nn hn))]
    · have e : sumN (fun i => indP 4 nn 4 i) (ngI cs cs.length s) = if nn ∈ ngI cs cs.length s then 1 else 0 := by
        rw [← sumN_ind nn 1 _ (ngI_nodup cs _ _)]
        exact sumN_congr _ _ _ (fun i _ => by simp [indP])
      rw [e]
      have hm : nn ∈ ngI cs cs.length s ↔ s = stA cs nn := by
        unfold ngI
        rw [List.mem_filter, List.mem_range]
        simp [hn, hneg]
        exact eq_comm
      by_cases hs : s = stA cs nn
      · rw [if_pos (hm.2 hs), if_pos hs]
        simp [indP]
      · rw [if_neg (fun h => hs (hm.1 h)), if_neg hs]
        simp [indP]
  · rw [sumN_zero _ _ (fun s _ => ?_)]
    · simp [indP]
    · rw [sumN_zero _ _ (fun i _ => by simp [indP])]
      simp [indP]

/-- The places of a condition, as indicators. -/
theorem inP_ind {cs : List Cp} {y : Ex} {k n : Nat} (ha : anchorOf cs (refsOf y) = ((k : Int), (n : Int), 0)) (k' i' : Nat) :
    (if inP cs y k' i' then 1 else 0) = indP k (plI k n) k' i' + (if twice cs y = 1 then indP 1 n k' i' else 0) := by
  unfold inP twice
  rw [ha]
  simp only [Int.toNat_natCast]
  by_cases h : (k : Int) = 2 ∧ againOf y = true
  · obtain ⟨h2, hg⟩ := h
    obtain rfl : k = 2 := by omega
    have ht : (if ((2 : Nat) : Int) = 2 ∧ againOf y = true then 1 else 0) = 1 := if_pos ⟨rfl, hg⟩
    rw [ht, hg]
    unfold indP plI
    by_cases h1 : k' = 1
    · subst h1
      by_cases hi : i' = n <;> simp [hi]
    · by_cases h2 : k' = 2
      · subst h2
        by_cases hi : i' = n <;> simp [hi]
      · simp [h1, h2]
  · rw [if_neg h]
    have h2 : (decide ((k : Int) = 2) && againOf y) = false := by
      cases h3 : againOf y with
      | false => simp
      | true =>
        have : ¬ (k : Int) = 2 := fun e => h ⟨e, h3⟩
        simp [this]
    rw [h2]
    unfold indP
    by_cases hk : k' = k ∧ i' = plI k n
    · obtain ⟨rfl, rfl⟩ := hk; simp
    · rw [if_neg hk]
      have : (decide (k' = k) && decide (i' = plI k n)) = false := by
        rw [Bool.and_eq_false_iff]
        by_cases h4 : k' = k
        · right; exact decide_eq_false (fun e => hk ⟨h4, e⟩)
        · left; exact decide_eq_false h4
      rw [if_neg (show ¬ ((decide (k' = k) && decide (i' = plI k n) || false && decide (k' = 1) && decide (i' = n)) = true) from by rw [this]; simp)]
      simp
theorem valid_first {cs : List Cp} {y : Ex} {k n : Nat} (ha : anchorOf cs (refsOf y) = ((k : Int), (n : Int), 0)) (h0 : patErr cs = 0) : VP cs k (plI k n) ∧ (twice cs y = 1 → VP cs 1 n) := by
  obtain ⟨k', n', h1, h2, hv, _⟩ := anchor_valid ha h0
  obtain rfl : k = k' := by omega
  obtain rfl : n = n' := by omega
  refine ⟨hv, fun h => ?_⟩
  unfold twice at h
  split at h
  · rename_i hc
    rw [ha] at hc
    have h2 : (k : Int) = 2 := hc.1
    obtain rfl : k = 2 := by omega
    rcases hv with ⟨_, hv⟩ | ⟨h, _⟩ | ⟨h, _⟩
    · exact Or.inl ⟨Or.inl rfl, hv⟩
    · exact absurd h (by decide)
    · exact absurd h (by decide)
  · exact absurd h (by decide)
theorem twice_le (cs : List Cp) (y : Ex) : twice cs y = 0 ∨ twice cs y = 1 := by unfold twice; split <;> simp

/-- How often a condition of the query stands anywhere. -/
theorem every_count {cs : List Cp} {e : Ex} {k n : Nat} (ha : anchorOf cs (refsOf e) = ((k : Int), (n : Int), 0)) (h0 : patErr cs = 0) (ws : List Ex) : evF cs (fun k i => cntX (placeL cs ws k i) e) = cntX ws e * (1 + twice cs e) := by
  obtain ⟨p0, p1, p2, p3, p4⟩ := patErr_parts h0
  obtain ⟨hv, hv1⟩ := valid_first ha h0
  have e1 : (fun k' i' => cntX (placeL cs ws k' i') e) = fun k' i' => cntX ws e * (indP k (plI k n) k' i' + (if twice cs e = 1 then indP 1 n k' i' else 0)) := by
    funext k' i'
    rw [cntX_place, ← inP_ind ha k' i']
    cases inP cs e k' i' <;> simp
  rw [e1, evF_mul, evF_add, evF_ind cs p4 _ _ hv]
  rcases twice_le cs e with h | h
  · rw [h]
    simp only [show ¬ ((0 : Nat) = 1) from by omega, if_false]
    have : evF cs (fun _ _ => 0) = 0 := by
      unfold evF
      dsimp only
      rw [sumN_zero _ _ (fun s _ => by rw [sumN_zero _ _ (fun _ _ => rfl)])]
    rw [this]
  · rw [h]
    simp only [if_true]
    rw [show (fun k' i' => indP 1 n k' i') = indP 1 n from rfl, evF_ind cs p4 _ _ (hv1 h)]
/-- How many stand anywhere. -/
theorem tot_step {cs : List Cp} {y : Ex} {k n : Nat} (ha : anchorOf cs (refsOf y) = ((k : Int), (n : Int), 0)) (h0 : patErr cs = 0) (ws : List Ex) : totF cs (fun k i => (placeL cs (ws ++ [y]) k i).length) = totF cs (fun k i => (placeL cs ws k i).length) + (1 + twice cs y) := by
  obtain ⟨hv, hv1⟩ := valid_first ha h0
  have e1 : (fun k' i' => (placeL cs (ws ++ [y]) k' i').length) = fun k' i' => (placeL cs ws k' i').length + (indP k (plI k n) k' i' + (if twice cs y = 1 then indP 1 n k' i' else 0)) := by
    funext k' i'
    rw [placeL_snoc, placeStep_at, List.length_append, ← inP_ind ha k' i']
    cases inP cs y k' i' <;> simp
  rw [e1, totF_add, totF_add, totF_ind cs _ _ hv]
  rcases twice_le cs y with h | h
  · rw [h]
    simp only [show ¬ ((0 : Nat) = 1) from by omega, if_false]
    have : totF cs (fun _ _ => 0) = 0 := by
      unfold totF
      rw [sumN_zero _ _ (fun s _ => by cases negB cs s <;> simp)]
    rw [this]
  · rw [h]
    simp only [if_true]
    rw [show (fun k' i' => indP 1 n k' i') = indP 1 n from rfl, totF_ind cs _ _ (hv1 h)]
end Go.Proofs.Ytgnifglolbfamaa

/- A layout's stages read as a list; how often a condition stands in them. -/
set_option linter.unusedVariables false
set_option linter.unusedSimpArgs false
namespace Go.Proofs.Ytgnifglolbfamaa
open Go.RowKit Go.Proofs.YtgnifglolbfamaaW.PrintWords

def negsL (cs : List Cp) (L : Nat → Nat → List Ex) (s : Nat) : List Ng := (ngI cs cs.length s).map (fun i => ⟨(cpA cs i).f2, (cpA cs i).f3, L 4 i⟩)
def stagesL (cs : List Cp) (T U : Nat → ByteArray) (Pl : Nat → Bool) (L : Nat → Nat → List Ex) : List Sg := (List.range (stg cs)).map (fun s => ⟨T s, U s, Pl s, negsL cs L s, L 1 s, L 2 s, L 3 s⟩)
theorem stagesL_len (cs : List Cp) (T U : Nat → ByteArray) (Pl : Nat → Bool) (L : Nat → Nat → List Ex) : (stagesL cs T U Pl L).length = stg cs := by unfold stagesL; simp

theorem everyX_evF (cs : List Cp) (T U : Nat → ByteArray) (Pl : Nat → Bool) (L : Nat → Nat → List Ex) (e : Ex) : everyX (stagesL cs T U Pl L) (L 5 0) e = evF cs (fun k i => cntX (L k i) e) := by
  unfold everyX evF stagesL
  rw [sumN_map]
  congr 1
  refine sumN_congr _ _ _ (fun s _ => ?_)
  unfold sgCnt negsL
  simp only
  rw [sumN_map]
  rfl

section
variable {w : World} {base G : Nat} {cs : List Cp} {L : Nat → Nat → List Ex} {S N : Nat} {T U : Nat → ByteArray} {Pl : Nat → Bool} {nb cap : Nat → Nat} {junk V : Nat → Nat → Value} {f : Nat → Nat}
theorem addr0 (g n : Nat) : Addr.add ⟨g, 0, none⟩ n = ⟨g, n, none⟩ := by
  simp only [Addr.add]
  split
  · rename_i h; rw [h]
  · simp
theorem LayIn.negs (h : LayIn w base G cs L S N T U Pl nb cap junk V f) (h8 : cs.length ≤ 8) (s : Nat) (hs : ngI cs cs.length s ≠ []) : kNg.C w (some ⟨nb s, 0, none⟩) (ngI cs cs.length s).length (negsL cs L s) := by
  have hlen : (negsL cs L s).length = (ngI cs cs.length s).length := by unfold negsL; rw [List.length_map]
  have hnl := ngI_len cs cs.length s
  obtain ⟨_, hcap, hrow⟩ := h.hB s hs
  refine ⟨hlen, by omega, fun _ => ⟨_, rfl, fun j p hj => ?_⟩⟩
  obtain ⟨hjl, hjp⟩ := List.getElem?_eq_some_iff.1 hj
  rw [hlen] at hjl
  obtain ⟨i, hi⟩ : ∃ i, (ngI cs cs.length s)[j]? = some i := ⟨_, List.getElem?_eq_getElem hjl⟩
  have hp : p = ⟨(cpA cs i).f2, (cpA cs i).f3, L 4 i⟩ := by
    unfold negsL at hj
    rw [List.getElem?_map, hi] at hj
    simpa using hj.symm
  obtain ⟨A, c, hv, hc, hC⟩ := Kd.R_reads (h.hL 4 i (by decide))
  have hK := kNg_mk w ⟨(cpA cs i).f2, (cpA cs i).f3, L 4 i⟩ hc hC
  refine ⟨_, rfl, by rw [hp]; exact hK, fun r u hu => ?_⟩
  rw [addr0]
  show w.cell? ⟨nb s, j * 3 + r, none⟩ = some u
  have hr : r < 3 := (List.getElem?_eq_some_iff.1 hu).1
  rw [hrow.cell (by omega)]
  unfold cellN
  rw [show (j * 3 + r) / 3 = j from by omega, hi, show (j * 3 + r) % 3 = r from by omega]
  have hr3 : r = 0 ∨ r = 1 ∨ r = 2 := by omega
  rcases hr3 with rfl | rfl | rfl
  · simpa using hu
  · simpa using hu
  · simp at hu ⊢
    rw [hv]
    exact hu
theorem LayIn.reads (h : LayIn w base G cs L S N T U Pl nb cap junk V f) (h8 : cs.length ≤ 8) : kSg.C w (some ⟨S, 0, none⟩) (stg cs) (stagesL cs T U Pl L) := by
  have hst := stg_len cs
  refine ⟨stagesL_len _ _ _ _ _, by omega, fun _ => ⟨_, rfl, fun s p hj => ?_⟩⟩
  obtain ⟨hjl, hjp⟩ := List.getElem?_eq_some_iff.1 hj
  rw [stagesL_len] at hjl
  have hp : p = ⟨T s, U s, Pl s, negsL cs L s, L 1 s, L 2 s, L 3 s⟩ := by
    unfold stagesL at hj
    rw [List.getElem?_map, List.getElem?_range hjl] at hj
    simpa using hj.symm
  obtain ⟨A4, c4, hv4, hc4, hC4⟩ := Kd.R_reads (h.hL 1 s (by decide))
  obtain ⟨A5, c5, hv5, hc5, hC5⟩ := Kd.R_reads (h.hL 2 s (by decide))
  obtain ⟨A6, c6, hv6, hc6, hC6⟩ := Kd.R_reads (h.hL 3 s (by decide))
  have h3 : ∃ A3 c3, nv cs nb cap s = .slice A3 (negsL cs L s).length c3 ∧ (negsL cs L s).length ≤ c3 ∧ kNg.C w A3 (negsL cs L s).length (negsL cs L s) := by
    have hlen : (negsL cs L s).length = (ngI cs cs.length s).length := by unfold negsL; rw [List.length_map]
    unfold nv
    by_cases he : ngI cs cs.length s = []
    · rw [if_pos he]
      have : negsL cs L s = [] := by unfold negsL; rw [he]; rfl
      rw [this]
      exact ⟨none, 0, rfl, Nat.le_refl _, Kd.C_nil _ _⟩
    · rw [if_neg he, hlen]
      exact ⟨_, _, rfl, (h.hB s he).2.1, h.negs h8 s he⟩
  obtain ⟨A3, c3, hv3, hc3, hC3⟩ := h3
  have hK := kSg_mk w ⟨T s, U s, Pl s, negsL cs L s, L 1 s, L 2 s, L 3 s⟩ hc3 hC3 hc4 hC4 hc5 hC5 hc6 hC6
  refine ⟨_, rfl, by rw [hp]; exact hK, fun r u hu => ?_⟩
  rw [addr0]
  show w.cell? ⟨S, s * 7 + r, none⟩ = some u
  have hr : r < 7 := (List.getElem?_eq_some_iff.1 hu).1
  have hc : w.cell? ⟨S, s * 7 + r, none⟩ = some (cellS T U Pl (nv cs nb cap) (V 1) (V 2) (V 3) (s * 7 + r)) := h.hS.cell (by omega)
  rw [hc]
  have hr7 : r = 0 ∨ r = 1 ∨ r = 2 ∨ r = 3 ∨ r = 4 ∨ r = 5 ∨ r = 6 := by omega
  rcases hr7 with rfl | rfl | rfl | rfl | rfl | rfl | rfl
  · rw [Nat.add_zero, cellS_at0]; exact hu
  · rw [cellS_at1]; exact hu
  · rw [cellS_at2]; exact hu
  · rw [cellS_at3, hv3]; exact hu
  · rw [cellS_at4, hv4]; exact hu
  · rw [cellS_at5, hv5]; exact hu
  · rw [cellS_at6, hv6]; exact hu
end
end Go.Proofs.Ytgnifglolbfamaa
