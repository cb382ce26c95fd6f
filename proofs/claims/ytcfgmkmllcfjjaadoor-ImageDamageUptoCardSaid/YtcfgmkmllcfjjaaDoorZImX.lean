import Derived.Test.YtcfgmkmllcfjjaaDoorZImW
import Derived.Deep.DeepCutAuto
set_option linter.unusedVariables false
set_option linter.unusedSimpArgs false
namespace Go.Proofs.YtcfgmkmllcfjjaaDoor
open Go.RowKit Go.Proofs.YtcfgmkmllcfjjaaDoorW.PrintWords Go.Proofs.YtcfgmkmllcfjjaaDoorW.PrintMore PImageForm
def wvals (l : List Int) : Nat → Ws → List S66 × Ws
  | 0, s => ([], s)
  | n + 1, s => ((wvalue l s).1 :: (wvals l n (wvalue l s).2).1, (wvals l n (wvalue l s).2).2)
def wmaxT : Int := 4611686018427387904
def wname (l : List Int) (s : Ws) : ByteArray × Ws :=
  ((wbytes l (wnum l 1 32 s).1.toNat (wnum l 1 32 s).2).1, if nameB (wbytes l (wnum l 1 32 s).1.toNat (wnum l 1 32 s).2).1 = true then (wbytes l (wnum l 1 32 s).1.toNat (wnum l 1 32 s).2).2 else failW 31 (wbytes l (wnum l 1 32 s).1.toNat (wnum l 1 32 s).2).2)
def wtime (l : List Int) (s : Ws) : Int × Ws := wnum l 0 wmaxT s
def wcount (l : List Int) (s : Ws) : Int × Ws := wnum l 0 16 s
def wevent (l : List Int) (s : Ws) : S69 × Ws :=
  (⟨(wname l s).1, (wtime l (wname l s).2).1, (wvals l (wcount l (wtime l (wname l s).2).2).1.toNat (wcount l (wtime l (wname l s).2).2).2).1⟩, (wvals l (wcount l (wtime l (wname l s).2).2).1.toNat (wcount l (wtime l (wname l s).2).2).2).2)
theorem wnum_rng' {l : List Int} {lo hi : Int} (h0 : 0 ≤ lo) (h1 : 0 ≤ hi) (s : Ws) : 0 ≤ (wnum l lo hi s).1 ∧ (wnum l lo hi s).1 ≤ hi := by
  unfold wnum
  split
  · split
    · split
      · rename_i h; exact ⟨by have := h.1; omega, h.2⟩
      · exact ⟨by show (0 : Int) ≤ 0; omega, h1⟩
    · exact ⟨by show (0 : Int) ≤ 0; omega, h1⟩
  · exact ⟨by show (0 : Int) ≤ 0; omega, h1⟩
theorem Ro.grown {gr : Nat} {w w1 w2 : World} {row : Option Nat} (h : Ro gr w w1) (hg : w1.grownBy w2 row) (hr : ∀ k, row = some k → w.heap.size ≤ k) : Ro gr w w2 :=
  ⟨hg.os.trans h.os, hg.tape.trans h.tape, hg.output.trans h.output, Nat.le_trans h.size hg.size, fun k hk hn => (hg.block k (Nat.lt_of_lt_of_le hk h.size) (fun e => by have := hr k e.symm; omega)).trans (h.block k hk hn)⟩
theorem WRAt.grown {w0 w w1 : World} {g : Nat} {l : List Int} {s : Ws} {row : Option Nat} (h : WRAt w0 w g l s) (hg : w.grownBy w1 row) (hr : ∀ k, row = some k → w0.heap.size ≤ k) (hn : some g ≠ row) : WRAt w0 w1 g l s := by
  obtain ⟨h1, h2, h4, A, c, hb, h3⟩ := h
  refine ⟨h1, ⟨hg.os.trans h2.os, hg.tape.trans h2.tape, hg.output.trans h2.output, Nat.le_trans h2.size hg.size, fun k hk => (hg.block k (Nat.lt_of_lt_of_le hk h2.size) (fun e => by have := hr k e.symm; omega)).trans (h2.block k hk)⟩, h4, A, c, blk_grown hb hg hn, h3⟩
theorem R_ro {α : Type} {d : Kd α} {e base gr t : Nat} {ok : Nat → Prop} {w w1 : World} {v : Value} {xs : List α} {cs : Array Value} (h : d.R e w base ok v xs) (hb : w.heap[gr]? = some (.cells cs t (0, 0))) (ht : ∀ q, q ∈ e :: d.E → q ≠ t) (hO : Ro gr w w1) : d.R e w1 base ok v xs :=
  Kd.R_mono (Kd.R_step (Kd.R_types h hb ht) (fun k hk hlt => hO.block k hlt hk.2)) (fun _ hk => hk.1)
def EBox (w : World) (b : Nat) (t : ByteArray) (n : Int) (v : Value) : Prop := w.heap[b]? = some (.cells #[.string t, .int .i64 n, v] 69 (0, 0))
theorem EBox.cells {w : World} {b : Nat} {t : ByteArray} {n : Int} {v : Value} (h : EBox w b t n v) : w.cell? ⟨b, 0, none⟩ = some (.string t) ∧ w.cell? ⟨b, 1, none⟩ = some (.int .i64 n) ∧ w.cell? ⟨b, 2, none⟩ = some v :=
  ⟨(blk_cell h 0).trans rfl, (blk_cell h 1).trans rfl, (blk_cell h 2).trans rfl⟩
theorem EBox.free {w : World} {b : Nat} {t : ByteArray} {n : Int} {v : Value} (h : EBox w b t n v) : w.frozen? ⟨b, 0, none⟩ = false ∧ w.frozen? ⟨b, 1, none⟩ = false ∧ w.frozen? ⟨b, 2, none⟩ = false := ⟨blk_frozen h 0, blk_frozen h 1, blk_frozen h 2⟩
theorem EBox.put {w : World} {b : Nat} {t t' : ByteArray} {n n' : Int} {v v' : Value} (h : EBox w b t n v) : EBox (((w.setCell ⟨b, 0, none⟩ (.string t')).setCell ⟨b, 1, none⟩ (.int .i64 n')).setCell ⟨b, 2, none⟩ v') b t' n' v' :=
  (blk_set (blk_set (blk_set h 0 _) 1 _) 2 _).trans rfl
theorem EBox.set0 {w : World} {b : Nat} {t t' : ByteArray} {n : Int} {v : Value} (h : EBox w b t n v) : EBox (w.setCell ⟨b, 0, none⟩ (.string t')) b t' n v := (blk_set h 0 _).trans rfl
theorem EBox.set1 {w : World} {b : Nat} {t : ByteArray} {n n' : Int} {v : Value} (h : EBox w b t n v) : EBox (w.setCell ⟨b, 1, none⟩ (.int .i64 n')) b t n' v := (blk_set h 1 _).trans rfl
theorem EBox.set2 {w : World} {b : Nat} {t : ByteArray} {n : Int} {v v' : Value} (h : EBox w b t n v) : EBox (w.setCell ⟨b, 2, none⟩ v') b t n v' := (blk_set h 2 _).trans rfl
theorem EBox.far {w : World} {b p i : Nat} {t : ByteArray} {n : Int} {v : Value} (h : EBox w b t n v) (hn : b ≠ p) (u : Value) : EBox (w.setCell ⟨p, i, none⟩ u) b t n v := blk_far (p := ⟨p, i, none⟩) h hn u
theorem k66q {t : Nat} (h : 66 ≠ t) : ∀ q, q ∈ 66 :: k66.E → q ≠ t := by
  intro q hq
  have hE : k66.E = [] := rfl
  rw [hE, List.mem_singleton] at hq
  subst hq
  exact h
structure EvS (w0 w : World) (g : Nat) (l : List Int) (b2 b3 : Nat) (s : Ws) (t : ByteArray) (n : Int) (xs : List S66) (W : World) (v : Value) : Prop where
  rd : WRAt w0 W g l s
  ev : EBox W b3 t n v
  an : EBox W b2 ⟨#[]⟩ 0 (.slice none 0 0)
  row : k66.R 66 W w.heap.size (fun _ => True) v xs
  ro : Ro g w W
  lo : w0.heap.size ≤ w.heap.size
  b2l : w.heap.size ≤ b2
  b3l : w.heap.size ≤ b3
  ne : b3 ≠ b2
  gl : g < w.heap.size
namespace EvS
variable {w0 w W W1 : World} {g b2 b3 : Nat} {l : List Int} {s s1 : Ws} {t t1 : ByteArray} {n n1 : Int} {xs : List S66} {v v1 : Value}
theorem read (h : EvS w0 w g l b2 b3 s t n xs W v) (hR : WRAt w0 W1 g l s1) (hO : Ro g W W1) : EvS w0 w g l b2 b3 s1 t n xs W1 v := by
  have h2 := h.b2l
  have h3 := h.b3l
  have hg := h.gl
  obtain ⟨_, _, _, A, c, hb, _⟩ := h.rd
  exact ⟨hR, Ro.blk hO h.ev (by omega), Ro.blk hO h.an (by omega), R_ro h.row hb (k66q (by decide)) hO, h.ro.trans hO, h.lo, h2, h3, h.ne, hg⟩
theorem drewN (h : EvS w0 w g l b2 b3 s t n xs W v) (m : Nat) : EvS w0 w g l b2 b3 s t n xs (W.drewN m) v := h.read (h.rd.drewN m) (Ro.refl.drewN m)
theorem g3 (h : EvS w0 w g l b2 b3 s t n xs W v) : b3 ≠ g := by have := h.b3l; have := h.gl; omega
theorem set0 (h : EvS w0 w g l b2 b3 s t n xs W v) (t1 : ByteArray) : EvS w0 w g l b2 b3 s t1 n xs (W.setCell ⟨b3, 0, none⟩ (.string t1)) v :=
  ⟨h.rd.far (Nat.le_trans h.lo h.b3l) h.g3 _, h.ev.set0, h.an.far (fun e => h.ne e.symm) _, Kd.R_set h.row h.ev (k66q (by decide)) 0 _, h.ro.setNew h.b3l _, h.lo, h.b2l, h.b3l, h.ne, h.gl⟩
theorem set1 (h : EvS w0 w g l b2 b3 s t n xs W v) (n1 : Int) : EvS w0 w g l b2 b3 s t n1 xs (W.setCell ⟨b3, 1, none⟩ (.int .i64 n1)) v :=
  ⟨h.rd.far (Nat.le_trans h.lo h.b3l) h.g3 _, h.ev.set1, h.an.far (fun e => h.ne e.symm) _, Kd.R_set h.row h.ev (k66q (by decide)) 1 _, h.ro.setNew h.b3l _, h.lo, h.b2l, h.b3l, h.ne, h.gl⟩
theorem grow {ys : List S66} (h : EvS w0 w g l b2 b3 s t n xs W v) (hR : k66.R 66 W1 w.heap.size (fun _ => True) v1 ys) (hg : W.grownBy W1 v.ownBlock) : EvS w0 w g l b2 b3 s t n ys (W1.setCell ⟨b3, 2, none⟩ v1) v1 := by
  have hba : ∀ k, v.ownBlock = some k → w.heap.size ≤ k := Kd.R_base h.row
  have n3 : some b3 ≠ v.ownBlock := Kd.R_ne h.row h.ev (by decide)
  have n2 : some b2 ≠ v.ownBlock := Kd.R_ne h.row h.an (by decide)
  have ng : some g ≠ v.ownBlock := fun e => by have := hba g e.symm; have := h.gl; omega
  have ev1 : EBox W1 b3 t n v := blk_grown h.ev hg n3
  have an1 : EBox W1 b2 ⟨#[]⟩ 0 (.slice none 0 0) := blk_grown h.an hg n2
  have rd1 := h.rd.grown hg (fun k hk => Nat.le_trans h.lo (hba k hk)) ng
  exact ⟨rd1.far (Nat.le_trans h.lo h.b3l) h.g3 _, ev1.set2, an1.far (fun e => h.ne e.symm) _, Kd.R_set hR ev1 (k66q (by decide)) 2 _, (h.ro.grown hg hba).setNew h.b3l _, h.lo, h.b2l, h.b3l, h.ne, h.gl⟩
theorem done (h : EvS w0 w g l b2 b3 s t n xs W v) : EBox (((W.setCell ⟨b2, 0, none⟩ (.string t)).setCell ⟨b2, 1, none⟩ (.int .i64 n)).setCell ⟨b2, 2, none⟩ v) b2 t n v ∧
    WRAt w0 (((W.setCell ⟨b2, 0, none⟩ (.string t)).setCell ⟨b2, 1, none⟩ (.int .i64 n)).setCell ⟨b2, 2, none⟩ v) g l s ∧
    k66.R 66 (((W.setCell ⟨b2, 0, none⟩ (.string t)).setCell ⟨b2, 1, none⟩ (.int .i64 n)).setCell ⟨b2, 2, none⟩ v) w.heap.size (fun _ => True) v xs ∧
    Ro g w (((W.setCell ⟨b2, 0, none⟩ (.string t)).setCell ⟨b2, 1, none⟩ (.int .i64 n)).setCell ⟨b2, 2, none⟩ v) := by
  have h2 := h.b2l
  have hg := h.gl
  have hl := h.lo
  have hq : ∀ q, q ∈ 66 :: k66.E → q ≠ 69 := k66q (by decide)
  exact ⟨h.an.put, ((h.rd.far (by omega) (by omega) _).far (by omega) (by omega) _).far (by omega) (by omega) _,
    Kd.R_set (Kd.R_set (Kd.R_set h.row h.an hq 0 _) (blk_set h.an 0 _) hq 1 _) (blk_set (blk_set h.an 0 _) 1 _) hq 2 _, ((h.ro.setNew h2 _).setNew h2 _).setNew h2 _⟩
end EvS
end Go.Proofs.YtcfgmkmllcfjjaaDoor
