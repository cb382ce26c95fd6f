import Derived.Test.YtcfgmkmllcfjjaaGreatDoorZAM
import Derived.Deep.DeepCutAuto
import Derived.RegionTactic
set_option linter.unusedVariables false
set_option linter.unusedSimpArgs false
namespace Go.Proofs.YtcfgmkmllcfjjaaGreatDoor
open Go.RowKit Go.Proofs.YtcfgmkmllcfjjaaGreatDoorW.PrintWords Go.Proofs.YtcfgmkmllcfjjaaGreatDoorW.PrintMore PImageAll
def wvals (l : List Int) : Nat → Ws → List S67 × Ws
  | 0, s => ([], s)
  | n + 1, s => ((wvalue l s).1 :: (wvals l n (wvalue l s).2).1, (wvals l n (wvalue l s).2).2)
def wmaxT : Int := 4611686018427387904
def wname (l : List Int) (s : Ws) : ByteArray × Ws :=
  ((wbytes l (wnum l 1 32 s).1.toNat (wnum l 1 32 s).2).1, if nameB (wbytes l (wnum l 1 32 s).1.toNat (wnum l 1 32 s).2).1 = true then (wbytes l (wnum l 1 32 s).1.toNat (wnum l 1 32 s).2).2 else failW 31 (wbytes l (wnum l 1 32 s).1.toNat (wnum l 1 32 s).2).2)
def wtime (l : List Int) (s : Ws) : Int × Ws := wnum l 0 wmaxT s
def wcount (l : List Int) (s : Ws) : Int × Ws := wnum l 0 16 s
def wevent (l : List Int) (s : Ws) : S63 × Ws :=
  (⟨(wname l s).1, (wtime l (wname l s).2).1, (wvals l (wcount l (wtime l (wname l s).2).2).1.toNat (wcount l (wtime l (wname l s).2).2).2).1⟩, (wvals l (wcount l (wtime l (wname l s).2).2).1.toNat (wcount l (wtime l (wname l s).2).2).2).2)
theorem wnum_rng' {l : List Int} {lo hi : Int} (h0 : 0 ≤ lo) (h1 : 0 ≤ hi) (s : Ws) : 0 ≤ (wnum l lo hi s).1 ∧ (wnum l lo hi s).1 ≤ hi := by
  unfold wnum
  split
  · split
    · split
      · rename_i h; exact ⟨by have := h.1; omega, h.2⟩
      · exact ⟨by show (0 : Int) ≤ 0; omega, h1⟩
    · exact ⟨by show (0 : Int) ≤ 0; omega, h1⟩
  · exact ⟨by show (0 : Int) ≤ 0; omega, h1⟩
theorem Ro.grown {gr : Nat} {w w1 w2 : World} {row : Option Nat} (h : Ro gr w w1) (hg : w1.grownBy w2 row) (hr : ∀ k, row = some k → w.heap.size ≤ k) : Ro gr w w2 :=
  ⟨hg.os.trans h.os, hg.tape.trans h.tape, hg.output.trans h.output, Nat.le_trans h.size hg.size, fun k hk hn => (hg.block k (Nat.lt_of_lt_of_le hk h.size) (fun e => by have := hr k e.symm; omega)).trans (h.block k hk hn)⟩
theorem WRAt.grown {w0 w w1 : World} {g : Nat} {l : List Int} {s : Ws} {row : Option Nat} (h : WRAt w0 w g l s) (hg : w.grownBy w1 row) (hr : ∀ k, row = some k → w0.heap.size ≤ k) (hn : some g ≠ row) : WRAt w0 w1 g l s := by
  obtain ⟨h1, h2, h4, A, c, hb, h3⟩ := h
  refine ⟨h1, ⟨hg.os.trans h2.os, hg.tape.trans h2.tape, hg.output.trans h2.output, Nat.le_trans h2.size hg.size, fun k hk => (hg.block k (Nat.lt_of_lt_of_le hk h2.size) (fun e => by have := hr k e.symm; omega)).trans (h2.block k hk)⟩, h4, A, c, blk_grown hb hg hn, h3⟩
theorem R_ro {α : Type} {d : Kd α} {e base gr t : Nat} {ok : Nat → Prop} {w w1 : World} {v : Value} {xs : List α} {cs : Array Value} (h : d.R e w base ok v xs) (hb : w.heap[gr]? = some (.cells cs t (0, 0))) (ht : ∀ q, q ∈ e :: d.E → q ≠ t) (hO : Ro gr w w1) : d.R e w1 base ok v xs :=
  Kd.R_mono (Kd.R_step (Kd.R_types h hb ht) (fun k hk hlt => hO.block k hlt hk.2)) (fun _ hk => hk.1)
def EBox (w : World) (b : Nat) (t : ByteArray) (n : Int) (v : Value) : Prop := w.heap[b]? = some (.cells #[.string t, .int .i64 n, v] 63 (0, 0))
theorem EBox.cells {w : World} {b : Nat} {t : ByteArray} {n : Int} {v : Value} (h : EBox w b t n v) : w.cell? ⟨b, 0, none⟩ = some (.string t) ∧ w.cell? ⟨b, 1, none⟩ = some (.int .i64 n) ∧ w.cell? ⟨b, 2, none⟩ = some v :=
  ⟨(blk_cell h 0).trans rfl, (blk_cell h 1).trans rfl, (blk_cell h 2).trans rfl⟩
theorem EBox.free {w : World} {b : Nat} {t : ByteArray} {n : Int} {v : Value} (h : EBox w b t n v) : w.frozen? ⟨b, 0, none⟩ = false ∧ w.frozen? ⟨b, 1, none⟩ = false ∧ w.frozen? ⟨b, 2, none⟩ = false := ⟨blk_frozen h 0, blk_frozen h 1, blk_frozen h 2⟩
theorem EBox.put {w : World} {b : Nat} {t t' : ByteArray} {n n' : Int} {v v' : Value} (h : EBox w b t n v) : EBox (((w.setCell ⟨b, 0, none⟩ (.string t')).setCell ⟨b, 1, none⟩ (.int .i64 n')).setCell ⟨b, 2, none⟩ v') b t' n' v' :=
  (blk_set (blk_set (blk_set h 0 _) 1 _) 2 _).trans rfl
theorem EBox.set0 {w : World} {b : Nat} {t t' : ByteArray} {n : Int} {v : Value} (h : EBox w b t n v) : EBox (w.setCell ⟨b, 0, none⟩ (.string t')) b t' n v := (blk_set h 0 _).trans rfl
theorem EBox.set1 {w : World} {b : Nat} {t : ByteArray} {n n' : Int} {v : Value} (h : EBox w b t n v) : EBox (w.setCell ⟨b, 1, none⟩ (.int .i64 n')) b t n' v := (blk_set h 1 _).trans rfl
theorem EBox.set2 {w : World} {b : Nat} {t : ByteArray} {n : Int} {v v' : Value} (h : EBox w b t n v) : EBox (w.setCell ⟨b, 2, none⟩ v') b t n v' := (blk_set h 2 _).trans rfl
theorem EBox.far {w : World} {b p i : Nat} {t : ByteArray} {n : Int} {v : Value} (h : EBox w b t n v) (hn : b ≠ p) (u : Value) : EBox (w.setCell ⟨p, i, none⟩ u) b t n v := blk_far (p := ⟨p, i, none⟩) h hn u
theorem k67q {t : Nat} (h : 67 ≠ t) : ∀ q, q ∈ 67 :: k67.E → q ≠ t := by
  intro q hq
  have hE : k67.E = [] := rfl
  rw [hE, List.mem_singleton] at hq
  subst hq
  exact h
structure EvS (w0 w : World) (g : Nat) (l : List Int) (b2 b3 : Nat) (s : Ws) (t : ByteArray) (n : Int) (xs : List S67) (W : World) (v : Value) : Prop where
  rd : WRAt w0 W g l s
  ev : EBox W b3 t n v
  an : EBox W b2 ⟨#[]⟩ 0 (.slice none 0 0)
  row : k67.R 67 W w.heap.size (fun _ => True) v xs
  ro : Ro g w W
  lo : w0.heap.size ≤ w.heap.size
  b2l : w.heap.size ≤ b2
  b3l : w.heap.size ≤ b3
  ne : b3 ≠ b2
  gl : g < w.heap.size
namespace EvS
variable {w0 w W W1 : World} {g b2 b3 : Nat} {l : List Int} {s s1 : Ws} {t t1 : ByteArray} {n n1 : Int} {xs : List S67} {v v1 : Value}
theorem read (h : EvS w0 w g l b2 b3 s t n xs W v) (hR : WRAt w0 W1 g l s1) (hO : Ro g W W1) : EvS w0 w g l b2 b3 s1 t n xs W1 v := by
  have h2 := h.b2l
  have h3 := h.b3l
  have hg := h.gl
  obtain ⟨_, _, _, A, c, hb, _⟩ := h.rd
  exact ⟨hR, Ro.blk hO h.ev (by omega), Ro.blk hO h.an (by omega), R_ro h.row hb (k67q (by decide)) hO, h.ro.trans hO, h.lo, h2, h3, h.ne, hg⟩
theorem drewN (h : EvS w0 w g l b2 b3 s t n xs W v) (m : Nat) : EvS w0 w g l b2 b3 s t n xs (W.drewN m) v := h.read (h.rd.drewN m) (Ro.refl.drewN m)
theorem g3 (h : EvS w0 w g l b2 b3 s t n xs W v) : b3 ≠ g := by have := h.b3l; have := h.gl; omega
theorem set0 (h : EvS w0 w g l b2 b3 s t n xs W v) (t1 : ByteArray) : EvS w0 w g l b2 b3 s t1 n xs (W.setCell ⟨b3, 0, none⟩ (.string t1)) v :=
  ⟨h.rd.far (Nat.le_trans h.lo h.b3l) h.g3 _, h.ev.set0, h.an.far (fun e => h.ne e.symm) _, Kd.R_set h.row h.ev (k67q (by decide)) 0 _, h.ro.setNew h.b3l _, h.lo, h.b2l, h.b3l, h.ne, h.gl⟩
theorem set1 (h : EvS w0 w g l b2 b3 s t n xs W v) (n1 : Int) : EvS w0 w g l b2 b3 s t n1 xs (W.setCell ⟨b3, 1, none⟩ (.int .i64 n1)) v :=
  ⟨h.rd.far (Nat.le_trans h.lo h.b3l) h.g3 _, h.ev.set1, h.an.far (fun e => h.ne e.symm) _, Kd.R_set h.row h.ev (k67q (by decide)) 1 _, h.ro.setNew h.b3l _, h.lo, h.b2l, h.b3l, h.ne, h.gl⟩
theorem grow {ys : List S67} (h : EvS w0 w g l b2 b3 s t n xs W v) (hR : k67.R 67 W1 w.heap.size (fun _ => True) v1 ys) (hg : W.grownBy W1 v.ownBlock) : EvS w0 w g l b2 b3 s t n ys (W1.setCell ⟨b3, 2, none⟩ v1) v1 := by
  have hba : ∀ k, v.ownBlock = some k → w.heap.size ≤ k := Kd.R_base h.row
  have n3 : some b3 ≠ v.ownBlock := Kd.R_ne h.row h.ev (by decide)
  have n2 : some b2 ≠ v.ownBlock := Kd.R_ne h.row h.an (by decide)
  have ng : some g ≠ v.ownBlock := fun e => by have := hba g e.symm; have := h.gl; omega
  have ev1 : EBox W1 b3 t n v := blk_grown h.ev hg n3
  have an1 : EBox W1 b2 ⟨#[]⟩ 0 (.slice none 0 0) := blk_grown h.an hg n2
  have rd1 := h.rd.grown hg (fun k hk => Nat.le_trans h.lo (hba k hk)) ng
  exact ⟨rd1.far (Nat.le_trans h.lo h.b3l) h.g3 _, ev1.set2, an1.far (fun e => h.ne e.symm) _, Kd.R_set hR ev1 (k67q (by decide)) 2 _, (h.ro.grown hg hba).setNew h.b3l _, h.lo, h.b2l, h.b3l, h.ne, h.gl⟩
theorem done (h : EvS w0 w g l b2 b3 s t n xs W v) : EBox (((W.setCell ⟨b2, 0, none⟩ (.string t)).setCell ⟨b2, 1, none⟩ (.int .i64 n)).setCell ⟨b2, 2, none⟩ v) b2 t n v ∧
    WRAt w0 (((W.setCell ⟨b2, 0, none⟩ (.string t)).setCell ⟨b2, 1, none⟩ (.int .i64 n)).setCell ⟨b2, 2, none⟩ v) g l s ∧
    k67.R 67 (((W.setCell ⟨b2, 0, none⟩ (.string t)).setCell ⟨b2, 1, none⟩ (.int .i64 n)).setCell ⟨b2, 2, none⟩ v) w.heap.size (fun _ => True) v xs ∧
    Ro g w (((W.setCell ⟨b2, 0, none⟩ (.string t)).setCell ⟨b2, 1, none⟩ (.int .i64 n)).setCell ⟨b2, 2, none⟩ v) := by
  have h2 := h.b2l
  have hg := h.gl
  have hl := h.lo
  have hq : ∀ q, q ∈ 67 :: k67.E → q ≠ 63 := k67q (by decide)
  exact ⟨h.an.put, ((h.rd.far (by omega) (by omega) _).far (by omega) (by omega) _).far (by omega) (by omega) _,
    Kd.R_set (Kd.R_set (Kd.R_set h.row h.an hq 0 _) (blk_set h.an 0 _) hq 1 _) (blk_set (blk_set h.an 0 _) 1 _) hq 2 _, ((h.ro.setNew h2 _).setNew h2 _).setNew h2 _⟩
end EvS
end Go.Proofs.YtcfgmkmllcfjjaaGreatDoor
set_option linter.unusedVariables false
set_option linter.unusedSimpArgs false
namespace Go.Proofs.YtcfgmkmllcfjjaaGreatDoor
open Go.RowKit Go.Proofs.YtcfgmkmllcfjjaaGreatDoorW.PrintWords Go.Proofs.YtcfgmkmllcfjjaaGreatDoorW.PrintMore PImageAll
def EPost (w0 w : World) (g : Nat) (l : List Int) (x : S63) (s : Ws) (e : Ending) (w' : World) : Prop :=
  ∃ v, e = .returned (.agg #[.string x.f0, .int .i64 x.f1, v]) ∧ k67.R 67 w' w.heap.size (fun _ => True) v x.f2 ∧ WRAt w0 w' g l s ∧ Ro g w w'
theorem EvS.drew {w0 w W : World} {g b2 b3 : Nat} {l : List Int} {s : Ws} {t : ByteArray} {n : Int} {xs : List S67} {v : Value} (h : EvS w0 w g l b2 b3 s t n xs W v) : EvS w0 w g l b2 b3 s t n xs W.drew v := h.read (h.rd.below (below_drew (Below.refl _ _))) Ro.refl.drew
section
variable {ops : Array Oper} {o : Oper} {a : Act} {Q : Exit → Act → World → Prop}
theorem vstep {w0 w W : World} {K : Act → World → Prop} {E : Prop} {g b2 b3 : Nat} {l : List Int} {sk : Ws} {t : ByteArray} {n : Int} {xs : List S67} {v : Value} (hgd : o.guard = none) (s x : Operand)
    (ho : o.op = .call { callee := .builtin .append, args := #[s, x], argTypes := #[61, 61] }) (hE : EvS w0 w g l b2 b3 sk t n xs W v) (p : S67)
    (hs : a.eval s = v) (hx : a.eval x = .slice (some ⟨W.heap.size, 0, none⟩) 1 1) (hl : xs.length ≤ 1000000)
    (h : ∀ A1 n1 c1 w1, w1.cell? ⟨b3, 2, none⟩ = some v → w1.frozen? ⟨b3, 2, none⟩ = false → Hid (EvS w0 w g l b2 b3 sk t n (xs ++ [p]) (w1.setCell ⟨b3, 2, none⟩ (.slice A1 n1 c1)) (.slice A1 n1 c1)) → K (a.put o.dst (.slice A1 n1 c1)) w1) :
    if Region.wanted o (yielded ops a.tmps) = true then Oper.wp Tryz.prog o a (W.alloc (.cells #[.int .i64 p.f0, .int .i64 p.f1, .string p.f2, .bool p.f3] 67)) K Q else E := by
  have hw : Region.wanted o (yielded ops a.tmps) = true := by simp [Region.wanted, hgd]
  have hlo : w.heap.size ≤ W.heap.size := hE.ro.size
  have hbl : w0.heap.size ≤ W.heap.size := Nat.le_trans hE.lo hlo
  have key := Kd.R_append_step (P := Tryz.prog) (ops := ops) (o := o) (a := a) (Q := Q) (Kc := K) k67 (w0 := W) (W := W) w.heap.size hw s x 61 67 _ 40 ho Tryz.underlying61 info67 rfl (by decide) (by decide) v xs p _ (fun _ => True) (fun k => some k ≠ v.ownBlock) hs hx (k67_mkM W w.heap.size _ p) (fun k hk => ⟨trivial, hk⟩) (fun _ _ => trivial) hE.row (Below.refl _ _) hlo (by omega) ?_
  · rw [if_pos hw] at key ⊢
    exact key
  · intro v1 w1 hR1 _ hg1 _
    obtain ⟨A1, c1, rfl⟩ := Kd.R_slice hR1
    have n3 : some b3 ≠ v.ownBlock := Kd.R_ne hE.row hE.ev (by decide)
    have ev1 : EBox w1 b3 t n v := blk_grown hE.ev hg1 n3
    exact h A1 _ c1 w1 ev1.cells.2.2 ev1.free.2.2 (Lib.hid (hE.grow hR1 hg1))
end
set_option maxRecDepth 100000 in
set_option maxHeartbeats 8000000 in
theorem event_any {w0 w : World} {g : Nat} {l : List Int} {s : Ws} (hG : GW w0) (hR : WRAt w0 w g l s) (hl : Bytes l) (hm : l.length ≤ 4611686018427387904) :
    Calls Tryz.prog 108 #[.pointer (some ⟨g, 0, none⟩)] w (EPost w0 w g l (wevent l s).1 (wevent l s).2) := by
  generalize hW1 : (w.alloc (.cells #[.string ⟨#[]⟩, .int .i64 0, .slice none 0 0] 63)).alloc (.cells #[.string ⟨#[]⟩, .int .i64 0, .slice none 0 0] 63) = W1
  have HW1 := Lib.hid hW1
  have hb0 : Below w.heap.size w (w.alloc (.cells #[.string ⟨#[]⟩, .int .i64 0, .slice none 0 0] 63)) := below_new w _
  have hb1 : Below (w.alloc (.cells #[.string ⟨#[]⟩, .int .i64 0, .slice none 0 0] 63)).heap.size (w.alloc (.cells #[.string ⟨#[]⟩, .int .i64 0, .slice none 0 0] 63)) W1 := by rw [← hW1]; exact below_new _ _
  have hb := below_step hb0 hb1
  have hE : EvS w0 w g l w.heap.size (w.heap.size + 1) s ⟨#[]⟩ 0 [] W1 (.slice none 0 0) := by
    refine ⟨hR.below hb, ?_, blk_below (blk_new w _) hb1, Kd.R_nil _ _ _ _ _, Ro.of_below hb, hR.2.1.size, Nat.le_refl _, by omega, by omega, hR.lt⟩
    rw [← hW1]
    have := blk_new (w.alloc (.cells #[.string ⟨#[]⟩, .int .i64 0, .slice none 0 0] 63)) (.cells #[.string ⟨#[]⟩, .int .i64 0, .slice none 0 0] 63)
    rw [show (w.alloc (.cells #[.string ⟨#[]⟩, .int .i64 0, .slice none 0 0] 63)).heap.size = w.heap.size + 1 by simp] at this
    exact this
  have HE := Lib.hid hE
  have HN := Lib.hid (fun W (s : Ws) lo hi (hW : WRAt w0 W g l s) => wnum_any lo hi hW hl hm)
  have HB := Lib.hid (fun W (s : Ws) n (hW : WRAt w0 W g l s) hn => wbytes_any n hW hn hm)
  have HV := Lib.hid (fun W (s : Ws) (hW : WRAt w0 W g l s) => wvalue_any hW hl hm)
  have HNM := Lib.hid (fun W t (hW : Below w0.heap.size w0 W) => Name_any t W (hG.below hW))
  have hev : wevent l s = (⟨(wname l s).1, (wtime l (wname l s).2).1, (wvals l (wcount l (wtime l (wname l s).2).2).1.toNat (wcount l (wtime l (wname l s).2).2).2).1⟩, (wvals l (wcount l (wtime l (wname l s).2).2).1.toNat (wcount l (wtime l (wname l s).2).2).2).2) := rfl
  have hnm : wname l s = ((wbytes l (wnum l 1 32 s).1.toNat (wnum l 1 32 s).2).1, if nameB (wbytes l (wnum l 1 32 s).1.toNat (wnum l 1 32 s).2).1 = true then (wbytes l (wnum l 1 32 s).1.toNat (wnum l 1 32 s).2).2 else failW 31 (wbytes l (wnum l 1 32 s).1.toNat (wnum l 1 32 s).2).2) := rfl
  obtain ⟨hn0, hn1⟩ := wnum_rng' (l := l) (lo := 1) (hi := 32) (by decide) (by decide) s
  have hN1 := HN.out W1 s 1 32 hE.rd
  generalize wnum l 1 32 s = r1 at *
  obtain ⟨n1, s1⟩ := r1
  simp only at hn0 hn1 hN1 hnm
  obtain ⟨n1, rfl⟩ := Int.eq_ofNat_of_zero_le hn0
  rw [Int.toNat_natCast] at hnm
  have HB1 := Lib.hid (fun W hW => HB.out W s1 n1 hW (by omega))
  generalize wbytes l n1 s1 = r2 at *
  obtain ⟨tx, s2⟩ := r2
  simp only at hnm
  generalize hwn : wname l s = nm at *
  obtain ⟨tx', s3⟩ := nm
  injection hnm with e1 e2
  subst e1
  have HS3 := Lib.hid e2
  have HEV := Lib.hid hev
  have HN1 := Lib.hid hN1
  clear hW1 hb0 hb1 hb hE hev hn0 hn1 hN1 e2 hR hl hwn
  generalize wevent l s = R at *
  obtain ⟨nb, hnb⟩ : ∃ nb : Bool, nameB tx' = nb := ⟨_, rfl⟩
  have HNB := Lib.hid (show ∀ W, Below w0.heap.size w0 W → Calls Tryz.prog 42 #[.string tx'] W fun e w' => e = .returned (.bool nb) ∧ Drawn0 W w' from fun W hW => by have := HNM.out W tx' hW; rw [hnb] at this; exact this)
  rw [hnb] at HS3
  clear hnb HNM
  go_enter Tryz.func108, Tryz.ntmps108
  go_wp2_with fail
  rw [HW1.out]
  go_wp2_with fail
  refine HN1.out.mono ?_
  rintro e1 w1 ⟨rfl, hR1, hO1⟩
  have HE1 := Lib.hid (HE.out.read hR1 hO1)
  clear hR1 hO1
  go_wp2_with fail
  refine (HB1.out _ HE1.out.rd).mono ?_
  rintro e2 w2 ⟨rfl, hR2, hO2⟩
  have hE2 := HE1.out.read hR2 hO2
  have HE2 := Lib.hid (hE2.set0 tx')
  obtain ⟨y0, y1, y2⟩ := hE2.ev.cells
  obtain ⟨z0, z1, z2⟩ := hE2.ev.free
  clear hR2 hO2 hE2
  cases nb
  · have HS3 : Hid (s3 = failW 31 s2) := Lib.hid (HS3.out.trans (if_neg (by decide)))
    go_wp2_with (first
      | (go_at_call 42; refine (HNB.out _ HE2.out.rd.2.1).mono ?_; rintro e3 w3 ⟨rfl, ⟨m3, rfl⟩⟩; have HEM := Lib.hid (HE2.out.drewN m3))
      | (go_at_call 117; refine (fail_any 31 HEM.out.rd).mono ?_; rintro e3 w3 ⟨rfl, hR3, hO3⟩; have hE3 := HEM.out.read hR3 hO3; have HE3 : Hid (EvS w0 w g l w.heap.size (w.heap.size + 1) s3 tx' 0 [] w3 (.slice none 0 0)) := Lib.hid (by rw [HS3.out]; exact hE3); clear hR3 hO3 hE3 y0 y1 y2 z0 z1 z2))
    have HN4 := Lib.hid (HN.out _ s3 0 wmaxT HE3.out.rd)
    unfold wmaxT at HN4
    have htm : wtime l s3 = wnum l 0 4611686018427387904 s3 := rfl
    rw [htm] at HEV
    generalize wnum l 0 4611686018427387904 s3 = r4 at *
    obtain ⟨tm, s4⟩ := r4
    refine HN4.out.mono ?_
    rintro e4 w4 ⟨rfl, hR4, hO4⟩
    have hE4 := HE3.out.read hR4 hO4
    have HE4 := Lib.hid (hE4.set1 tm)
    obtain ⟨y0, y1, y2⟩ := hE4.ev.cells
    obtain ⟨z0, z1, z2⟩ := hE4.ev.free
    clear hR4 hO4 hE4 HN4 htm
    go_wp2_with fail
    have HN5 := Lib.hid (HN.out _ s4 0 16 HE4.out.rd)
    have hcn : wcount l s4 = wnum l 0 16 s4 := rfl
    obtain ⟨hc0, hc1⟩ := wnum_rng' (l := l) (lo := 0) (hi := 16) (by decide) (by decide) s4
    rw [hcn] at HEV
    generalize wnum l 0 16 s4 = r5 at *
    obtain ⟨cn, s5⟩ := r5
    simp only at hc0 hc1
    obtain ⟨cn, rfl⟩ := Int.eq_ofNat_of_zero_le hc0
    refine HN5.out.mono ?_
    rintro e5 w5 ⟨rfl, hR5, hO5⟩
    have HE5 := Lib.hid (HE4.out.read hR5 hO5)
    clear hR5 hO5 HN5 hcn y0 y1 y2 z0 z1 z2
    have HEV2 : Hid (R = (⟨tx', tm, (wvals l cn s5).1⟩, (wvals l cn s5).2)) := Lib.hid (by rw [HEV.out]; simp only [Int.toNat_natCast])
    clear HEV hc0
    go_wp2_with fail
    go_loopw [20] (fun t20 wr => ∃ (k : Nat) (sk : Ws) (xs : List S67) (v : Value), k ≤ cn ∧ t20 = .int .i64 k ∧ Hid (EvS w0 w g l w.heap.size (w.heap.size + 1) sk tx' tm xs wr v) ∧ Hid (xs.length = k ∧ wvals l cn s5 = (xs ++ (wvals l (cn - k) sk).1, (wvals l (cn - k) sk).2))) (fun t20 _ => cn - (intOf t20).toNat)
    case atStart => exact ⟨0, s5, [], _, by omega, rfl, HE5, Lib.hid ⟨rfl, rfl⟩⟩
    case round =>
      clear HE5
      obtain ⟨k, sk, xs, v, hk, rfl, HEK, HXS⟩ := hrel
      obtain ⟨A, c, rfl⟩ := Kd.R_slice HEK.out.row
      by_cases hlt : k < cn
      · obtain ⟨y0, y1, y2⟩ := HEK.out.ev.cells
        obtain ⟨z0, z1, z2⟩ := HEK.out.ev.free
        have HVK := Lib.hid (HV.out · sk)
        have hws : wvals l (cn - k) sk = ((wvalue l sk).1 :: (wvals l (cn - (k + 1)) (wvalue l sk).2).1, (wvals l (cn - (k + 1)) (wvalue l sk).2).2) := by
          rw [show cn - k = (cn - (k + 1)) + 1 by omega]
          rfl
        have HWS := Lib.hid hws
        have HXL := Lib.hid HXS.out.1
        clear hws
        generalize wvalue l sk = r6 at *
        obtain ⟨p6, s6⟩ := r6
        have hxl : xs.length ≤ 1000000 := by have := HXL.out; omega
        go_wp2_with fail
        go_region_law (first
          | (go_simp; go_at_call 118; refine (HVK.out _ (by first | exact HEK.out.drew.rd | exact HEK.out.rd)).mono ?_; rintro e6 w6 ⟨rfl, hR6, hO6⟩; have HE6 : Hid (EvS w0 w g l w.heap.size (w.heap.size + 1) s6 tx' tm xs w6 (.slice A xs.length c)) := Lib.hid (by first | exact HEK.out.drew.read hR6 hO6 | exact HEK.out.read hR6 hO6); have y26 := HE6.out.ev.cells.2.2; have z29 := HE6.out.ev.free.2.2; have y27 := pw_cell_below (below_new w6 (.cells #[.int .i64 p6.f0, .int .i64 p6.f1, .string p6.f2, .bool p6.f3] 67)) y26)
          | (refine vstep (by rfl) _ _ (by rfl) HE6.out p6 (by rfl) (by rfl) hxl ?_; intro A7 n7 c7 w7 hc7 hf7 HE7))
        all_goals
          go_wp2_with fail
          go_roundw
          case rel => exact ⟨k + 1, s6, xs ++ [p6], _, by omega, by go_num, HE7, Lib.hid ⟨by rw [List.length_append, HXL.out]; rfl, by rw [HXS.out.2, HWS.out]; simp⟩⟩
          case measure => simp [intOf]; omega
      · obtain rfl : k = cn := by omega
        have hfin : R = (⟨tx', tm, xs⟩, sk) := by rw [HEV2.out, HXS.out.2, Nat.sub_self]; simp [wvals]
        subst hfin
        obtain ⟨y0, y1, y2⟩ := HEK.out.ev.cells
        obtain ⟨q0, q1, q2⟩ := HEK.out.an.cells
        obtain ⟨z0, z1, z2⟩ := HEK.out.an.free
        go_wp2_with fail
        have hd := HEK.out.done
        refine bodyPost_ret (results_cell_row rfl _ _ w.heap.size 63 #[.string tx', .int .i64 tm, .slice A xs.length c] (0, 0) _ rfl hd.1 Tryz.underlying63 rfl (by kernel_rfl)) rfl ?_
        exact ⟨_, rfl, hd.2.2.1, hd.2.1, hd.2.2.2⟩
  · have h32 : s3 = s2 := HS3.out.trans (if_pos rfl)
    have HS3 : Hid (s3 = s2) := Lib.hid h32
    clear h32
    go_wp2_with fail
    refine (HNB.out _ HE2.out.rd.2.1).mono ?_
    rintro e3 w3 ⟨rfl, ⟨m3, rfl⟩⟩
    have hE3 := HE2.out.drewN m3
    have e32 : s3 = s2 := HS3.out
    rw [← e32] at hE3
    clear e32
    have HE3 := Lib.hid hE3
    clear y0 y1 y2 z0 z1 z2 hE3
    go_wp2_with fail
    have HN4 := Lib.hid (HN.out _ s3 0 wmaxT HE3.out.rd)
    unfold wmaxT at HN4
    have htm : wtime l s3 = wnum l 0 4611686018427387904 s3 := rfl
    rw [htm] at HEV
    generalize wnum l 0 4611686018427387904 s3 = r4 at *
    obtain ⟨tm, s4⟩ := r4
    refine HN4.out.mono ?_
    rintro e4 w4 ⟨rfl, hR4, hO4⟩
    have hE4 := HE3.out.read hR4 hO4
    have HE4 := Lib.hid (hE4.set1 tm)
    obtain ⟨y0, y1, y2⟩ := hE4.ev.cells
    obtain ⟨z0, z1, z2⟩ := hE4.ev.free
    clear hR4 hO4 hE4 HN4 htm
    go_wp2_with fail
    have HN5 := Lib.hid (HN.out _ s4 0 16 HE4.out.rd)
    have hcn : wcount l s4 = wnum l 0 16 s4 := rfl
    obtain ⟨hc0, hc1⟩ := wnum_rng' (l := l) (lo := 0) (hi := 16) (by decide) (by decide) s4
    rw [hcn] at HEV
    generalize wnum l 0 16 s4 = r5 at *
    obtain ⟨cn, s5⟩ := r5
    simp only at hc0 hc1
    obtain ⟨cn, rfl⟩ := Int.eq_ofNat_of_zero_le hc0
    refine HN5.out.mono ?_
    rintro e5 w5 ⟨rfl, hR5, hO5⟩
    have HE5 := Lib.hid (HE4.out.read hR5 hO5)
    clear hR5 hO5 HN5 hcn y0 y1 y2 z0 z1 z2
    have HEV2 : Hid (R = (⟨tx', tm, (wvals l cn s5).1⟩, (wvals l cn s5).2)) := Lib.hid (by rw [HEV.out]; simp only [Int.toNat_natCast])
    clear HEV hc0
    go_wp2_with fail
    go_loopw [20] (fun t20 wr => ∃ (k : Nat) (sk : Ws) (xs : List S67) (v : Value), k ≤ cn ∧ t20 = .int .i64 k ∧ Hid (EvS w0 w g l w.heap.size (w.heap.size + 1) sk tx' tm xs wr v) ∧ Hid (xs.length = k ∧ wvals l cn s5 = (xs ++ (wvals l (cn - k) sk).1, (wvals l (cn - k) sk).2))) (fun t20 _ => cn - (intOf t20).toNat)
    case atStart => exact ⟨0, s5, [], _, by omega, rfl, HE5, Lib.hid ⟨rfl, rfl⟩⟩
    case round =>
      clear HE5
      obtain ⟨k, sk, xs, v, hk, rfl, HEK, HXS⟩ := hrel
      obtain ⟨A, c, rfl⟩ := Kd.R_slice HEK.out.row
      by_cases hlt : k < cn
      · obtain ⟨y0, y1, y2⟩ := HEK.out.ev.cells
        obtain ⟨z0, z1, z2⟩ := HEK.out.ev.free
        have HVK := Lib.hid (HV.out · sk)
        have hws : wvals l (cn - k) sk = ((wvalue l sk).1 :: (wvals l (cn - (k + 1)) (wvalue l sk).2).1, (wvals l (cn - (k + 1)) (wvalue l sk).2).2) := by
          rw [show cn - k = (cn - (k + 1)) + 1 by omega]
          rfl
        have HWS := Lib.hid hws
        have HXL := Lib.hid HXS.out.1
        clear hws
        generalize wvalue l sk = r6 at *
        obtain ⟨p6, s6⟩ := r6
        have hxl : xs.length ≤ 1000000 := by have := HXL.out; omega
        go_wp2_with fail
        go_region_law (first
          | (go_simp; go_at_call 118; refine (HVK.out _ (by first | exact HEK.out.drew.rd | exact HEK.out.rd)).mono ?_; rintro e6 w6 ⟨rfl, hR6, hO6⟩; have HE6 : Hid (EvS w0 w g l w.heap.size (w.heap.size + 1) s6 tx' tm xs w6 (.slice A xs.length c)) := Lib.hid (by first | exact HEK.out.drew.read hR6 hO6 | exact HEK.out.read hR6 hO6); have y26 := HE6.out.ev.cells.2.2; have z29 := HE6.out.ev.free.2.2; have y27 := pw_cell_below (below_new w6 (.cells #[.int .i64 p6.f0, .int .i64 p6.f1, .string p6.f2, .bool p6.f3] 67)) y26)
          | (refine vstep (by rfl) _ _ (by rfl) HE6.out p6 (by rfl) (by rfl) hxl ?_; intro A7 n7 c7 w7 hc7 hf7 HE7))
        all_goals
          go_wp2_with fail
          go_roundw
          case rel => exact ⟨k + 1, s6, xs ++ [p6], _, by omega, by go_num, HE7, Lib.hid ⟨by rw [List.length_append, HXL.out]; rfl, by rw [HXS.out.2, HWS.out]; simp⟩⟩
          case measure => simp [intOf]; omega
      · obtain rfl : k = cn := by omega
        have hfin : R = (⟨tx', tm, xs⟩, sk) := by rw [HEV2.out, HXS.out.2, Nat.sub_self]; simp [wvals]
        subst hfin
        obtain ⟨y0, y1, y2⟩ := HEK.out.ev.cells
        obtain ⟨q0, q1, q2⟩ := HEK.out.an.cells
        obtain ⟨z0, z1, z2⟩ := HEK.out.an.free
        go_wp2_with fail
        have hd := HEK.out.done
        refine bodyPost_ret (results_cell_row rfl _ _ w.heap.size 63 #[.string tx', .int .i64 tm, .slice A xs.length c] (0, 0) _ rfl hd.1 Tryz.underlying63 rfl (by kernel_rfl)) rfl ?_
        exact ⟨_, rfl, hd.2.2.1, hd.2.1, hd.2.2.2⟩
end Go.Proofs.YtcfgmkmllcfjjaaGreatDoor
set_option linter.unusedVariables false
set_option linter.unusedSimpArgs false
namespace Go.Proofs.YtcfgmkmllcfjjaaGreatDoor
open Go.RowKit Go.Proofs.YtcfgmkmllcfjjaaGreatDoorW.PrintWords Go.Proofs.YtcfgmkmllcfjjaaGreatDoorW.PrintMore PImageAll
def decR (l : List Int) : S63 × Nat × Int := if (wevent l (0, 0)).2.2 = 0 then ((wevent l (0, 0)).1, (wevent l (0, 0)).2.1, 0) else (⟨⟨#[]⟩, 0, []⟩, 0, (wevent l (0, 0)).2.2)
def DPost (w : World) (r : S63 × Nat × Int) (e : Ending) (w' : World) : Prop :=
  ∃ v, e = .returned (.tuple #[.agg #[.string r.1.f0, .int .i64 r.1.f1, v], .int .i64 (r.2.1 : Int), .int .i64 r.2.2]) ∧ k67.R 67 w' w.heap.size (fun _ => True) v r.1.f2 ∧ Below w.heap.size w w'
theorem Ro.belowNew {g : Nat} {w w1 w2 : World} (hb : Below w.heap.size w w1) (hg : w.heap.size ≤ g) (h : Ro g w1 w2) : Below w.heap.size w w2 := hb.trans (h.below hb.size hg)
set_option maxRecDepth 100000 in
set_option maxHeartbeats 4000000 in
theorem Decode_any {w : World} {A : Option Addr} {c : Nat} {l : List Int} (hG : GW w) (hC : Kd.C (Kd.int .u8) w A l.length l) (hc : l.length ≤ c) (hl : Bytes l) (hm : l.length ≤ 4611686018427387904) :
    Calls Tryz.prog 93 #[.slice A l.length c] w (DPost w (decR l)) := by
  generalize hW1 : (w.alloc (.cells #[.string ⟨#[]⟩, .int .i64 0, .slice none 0 0] 63)).alloc (.cells #[.slice A l.length c, .int .i64 0, .int .i64 0] 146) = W1
  have HW1 := Lib.hid hW1
  have hb0 : Below w.heap.size w (w.alloc (.cells #[.string ⟨#[]⟩, .int .i64 0, .slice none 0 0] 63)) := below_new w _
  have hb1 : Below (w.alloc (.cells #[.string ⟨#[]⟩, .int .i64 0, .slice none 0 0] 63)).heap.size (w.alloc (.cells #[.string ⟨#[]⟩, .int .i64 0, .slice none 0 0] 63)) W1 := by rw [← hW1]; exact below_new _ _
  have hb := below_step hb0 hb1
  have hz : EBox W1 w.heap.size ⟨#[]⟩ 0 (.slice none 0 0) := blk_below (blk_new w _) hb1
  have hR : WRAt w W1 (w.heap.size + 1) l (0, 0) := by
    refine ⟨by omega, hb, Nat.zero_le _, A, c, ?_, hc, hC⟩
    rw [← hW1]
    have := blk_new (w.alloc (.cells #[.string ⟨#[]⟩, .int .i64 0, .slice none 0 0] 63)) (.cells #[.slice A l.length c, .int .i64 0, .int .i64 0] 146)
    rw [show (w.alloc (.cells #[.string ⟨#[]⟩, .int .i64 0, .slice none 0 0] 63)).heap.size = w.heap.size + 1 by simp] at this
    exact this
  have HE := Lib.hid (event_any hG hR hl hm)
  have HZ := Lib.hid hz
  have HB := Lib.hid hb
  have hd : decR l = if (wevent l (0, 0)).2.2 = 0 then ((wevent l (0, 0)).1, (wevent l (0, 0)).2.1, 0) else (⟨⟨#[]⟩, 0, []⟩, 0, (wevent l (0, 0)).2.2) := rfl
  generalize decR l = R at *
  generalize wevent l (0, 0) = r at *
  obtain ⟨ev, p, q⟩ := r
  simp only at hd HE
  have hs1 : W1.heap.size = w.heap.size + 1 + 1 := by rw [← hW1]; simp
  have HS1 := Lib.hid hs1
  clear hW1 hb0 hb1 hb hz hR hG hC hc hl hs1
  by_cases hq : q = 0
  · subst hq
    rw [if_pos rfl] at hd
    subst hd
    go_enter Tryz.func93, Tryz.ntmps93
    go_wp2_with fail
    rw [HW1.out]
    go_wp2_with fail
    refine HE.out.mono ?_
    rintro e1 w1 ⟨v, rfl, hv, hR1, hO1⟩
    obtain ⟨A1, c1, rfl⟩ := Kd.R_slice hv
    have hz1 : EBox w1 w.heap.size ⟨#[]⟩ 0 (.slice none 0 0) := Ro.blk hO1 HZ.out (by omega)
    have hb2 := below_new w1 (.cells #[.string ev.f0, .int .i64 ev.f1, .slice A1 ev.f2.length c1] 63)
    have hx2 : EBox (w1.alloc (.cells #[.string ev.f0, .int .i64 ev.f1, .slice A1 ev.f2.length c1] 63)) w1.heap.size ev.f0 ev.f1 (.slice A1 ev.f2.length c1) := blk_new w1 _
    have hz2 : EBox (w1.alloc (.cells #[.string ev.f0, .int .i64 ev.f1, .slice A1 ev.f2.length c1] 63)) w.heap.size ⟨#[]⟩ 0 (.slice none 0 0) := blk_below hz1 hb2
    have HV2 := Lib.hid (Kd.R_below hv hb2)
    have hsz := HB.out.size
    have HB2 := Lib.hid (Ro.belowNew (g := w.heap.size + 1) HB.out (by omega) (hO1.trans (Ro.of_below hb2)))
    obtain ⟨_, _, _, g1, g2, _⟩ := (hR1.below hb2).cells
    have g1 : (w1.alloc (.cells #[.string ev.f0, .int .i64 ev.f1, .slice A1 ev.f2.length c1] 63)).cell? ⟨w.heap.size + 1, 1, none⟩ = some (.int .i64 (p : Int)) := g1
    have g2 : (w1.alloc (.cells #[.string ev.f0, .int .i64 ev.f1, .slice A1 ev.f2.length c1] 63)).cell? ⟨w.heap.size + 1, 2, none⟩ = some (.int .i64 0) := g2
    obtain ⟨z0, z1, z2⟩ := hz2.free
    obtain ⟨y0, y1, y2⟩ := hz2.cells
    obtain ⟨x0, x1, x2⟩ := hx2.cells
    have HX2 := Lib.hid hx2
    have HZ2 := Lib.hid hz2
    clear hv hR1 hO1 hz1 hb2 hx2 hz2
    go_wp2_with fail
    first | go_region_law (fail) | fail
    all_goals
      go_wp2_with fail
      refine bodyPost_ret (results_ctt rfl _ _ w.heap.size 63 #[.string ev.f0, .int .i64 ev.f1, (.slice A1 ev.f2.length c1)] (0, 0) _ rfl (HZ2.out.put) Tryz.underlying63 rfl (by kernel_rfl)) rfl ?_
      exact ⟨_, rfl, Kd.R_drew (Kd.R_lower (Kd.R_set (Kd.R_set (Kd.R_set HV2.out HZ2.out (k67q (by decide)) 0 _) (blk_set HZ2.out 0 _) (k67q (by decide)) 1 _) (blk_set (blk_set HZ2.out 0 _) 1 _) (k67q (by decide)) 2 _) HB.out.size), below_drew (((HB2.out.setCell (p := ⟨w.heap.size, 0, none⟩) (Nat.le_refl _) _).setCell (p := ⟨w.heap.size, 1, none⟩) (Nat.le_refl _) _).setCell (p := ⟨w.heap.size, 2, none⟩) (Nat.le_refl _) _)⟩
  · rw [if_neg hq] at hd
    subst hd
    have d1 : (q != 0) = true := by simpa using hq
    clear hq
    go_enter Tryz.func93, Tryz.ntmps93
    go_wp2_with fail
    rw [HW1.out]
    go_wp2_with fail
    refine HE.out.mono ?_
    rintro e1 w1 ⟨v, rfl, hv, hR1, hO1⟩
    obtain ⟨A1, c1, rfl⟩ := Kd.R_slice hv
    have hz1 : EBox w1 w.heap.size ⟨#[]⟩ 0 (.slice none 0 0) := Ro.blk hO1 HZ.out (by omega)
    have hb2 := below_new w1 (.cells #[.string ev.f0, .int .i64 ev.f1, .slice A1 ev.f2.length c1] 63)
    have hx2 : EBox (w1.alloc (.cells #[.string ev.f0, .int .i64 ev.f1, .slice A1 ev.f2.length c1] 63)) w1.heap.size ev.f0 ev.f1 (.slice A1 ev.f2.length c1) := blk_new w1 _
    have hz2 : EBox (w1.alloc (.cells #[.string ev.f0, .int .i64 ev.f1, .slice A1 ev.f2.length c1] 63)) w.heap.size ⟨#[]⟩ 0 (.slice none 0 0) := blk_below hz1 hb2
    have HV2 := Lib.hid (Kd.R_below hv hb2)
    have hsz := HB.out.size
    have HB2 := Lib.hid (Ro.belowNew (g := w.heap.size + 1) HB.out (by omega) (hO1.trans (Ro.of_below hb2)))
    obtain ⟨_, _, _, g1, g2, _⟩ := (hR1.below hb2).cells
    have g1 : (w1.alloc (.cells #[.string ev.f0, .int .i64 ev.f1, .slice A1 ev.f2.length c1] 63)).cell? ⟨w.heap.size + 1, 1, none⟩ = some (.int .i64 (p : Int)) := g1
    have g2 : (w1.alloc (.cells #[.string ev.f0, .int .i64 ev.f1, .slice A1 ev.f2.length c1] 63)).cell? ⟨w.heap.size + 1, 2, none⟩ = some (.int .i64 q) := g2
    obtain ⟨z0, z1, z2⟩ := hz2.free
    obtain ⟨y0, y1, y2⟩ := hz2.cells
    obtain ⟨x0, x1, x2⟩ := hx2.cells
    have HX2 := Lib.hid hx2
    have HZ2 := Lib.hid hz2
    clear hv hR1 hO1 hz1 hb2 hx2 hz2
    go_wp2_with fail
    first | go_region_law (fail) | fail
    all_goals
      go_wp2_with fail
      refine bodyPost_ret (results_ctt rfl _ _ w.heap.size 63 #[.string ⟨#[]⟩, .int .i64 0, (.slice none 0 0)] (0, 0) _ rfl (HZ2.out.put) Tryz.underlying63 rfl (by kernel_rfl)) rfl ?_
      exact ⟨.slice none 0 0, rfl, Kd.R_nil _ _ _ _ _, below_drew (((HB2.out.setCell (p := ⟨w.heap.size, 0, none⟩) (Nat.le_refl _) _).setCell (p := ⟨w.heap.size, 1, none⟩) (Nat.le_refl _) _).setCell (p := ⟨w.heap.size, 2, none⟩) (Nat.le_refl _) _)⟩
abbrev Rl := Rs × Int
def Rp (gr : Nat) (pl : Option Nat) (w w' : World) : Prop := Only (fun k => k = gr ∨ some k = pl) w w'
namespace Rp
variable {gr : Nat} {pl : Option Nat} {w w1 w2 : World}
theorem refl : Rp gr pl w w := Only.refl _ _
theorem trans (h : Rp gr pl w w1) (k : Rp gr pl w1 w2) : Rp gr pl w w2 := Only.trans h k (fun _ _ hn h2 => hn h2)
theorem of_below (h : Below w.heap.size w w1) : Rp gr pl w w1 := Only.of_below h
theorem of_ro (h : Ro gr w w1) : Rp gr pl w w1 := ⟨h.os, h.tape, h.output, h.size, fun k hk hn => h.block k hk (fun e => hn (.inl e))⟩
theorem blk {g : Nat} {o : Obj} (h : Rp gr pl w w1) (hb : w.heap[g]? = some o) (hn : g ≠ gr) (hp : some g ≠ pl) : w1.heap[g]? = some o := Only.blk h hb (fun e => e.elim hn hp)
theorem setNew {p i : Nat} (h : Rp gr pl w w1) (hp : w.heap.size ≤ p) (v : Value) : Rp gr pl w (w1.setCell ⟨p, i, none⟩ v) :=
  ⟨h.os, h.tape, h.output, Nat.le_trans h.size (by simp [World.setCell]), fun k hk hn => (Below.heap_setCell _ _ _ _ (fun e => by have e : k = p := e; omega)).trans (h.block k hk hn)⟩
theorem grown {row : Option Nat} (h : Rp gr pl w w1) (hg : w1.grownBy w2 row) (hr : ∀ k, row = some k → w.heap.size ≤ k) : Rp gr pl w w2 :=
  ⟨hg.os.trans h.os, hg.tape.trans h.tape, hg.output.trans h.output, Nat.le_trans h.size hg.size, fun k hk hn => (hg.block k (Nat.lt_of_lt_of_le hk h.size) (fun e => by have := hr k e.symm; omega)).trans (h.block k hk hn)⟩
theorem below {B : Nat} (h : Rp gr pl w w1) (hB : B ≤ w.heap.size) (hg : B ≤ gr) (hp : ∀ p, pl = some p → B ≤ p) : Below B w w1 := Only.below h hB (fun b hb hs => by
  rcases hs with hs | hs
  · omega
  · have := hp b hs.symm; omega)
end Rp
structure RSt (w0 : World) (gr pb : Nat) (pl : Option Nat) (s : Rl) (W : World) : Prop where
  rd : RAt w0 W gr s.1
  pbx : W.heap[pb]? = some (.cells #[.pointer (some ⟨gr, 0, none⟩)] 84 (0, 0))
  plx : ∀ p, pl = some p → W.heap[p]? = some (.cells #[.int .i64 s.2] 2 (0, 0))
  pln : ∀ p, pl = some p → w0.heap.size ≤ p
theorem RAt.grown {w0 w w1 : World} {g : Nat} {s : Rs} {row : Option Nat} (h : RAt w0 w g s) (hg : w.grownBy w1 row) (hr : ∀ k, row = some k → w0.heap.size ≤ k) (hn : some g ≠ row) : RAt w0 w1 g s := by
  obtain ⟨h1, h2, A, c, hb, h3⟩ := h
  exact ⟨h1, ⟨hg.os.trans h2.os, hg.tape.trans h2.tape, hg.output.trans h2.output, Nat.le_trans h2.size hg.size, fun k hk => (hg.block k (Nat.lt_of_lt_of_le hk h2.size) (fun e => by have := hr k e.symm; omega)).trans (h2.block k hk)⟩, A, c, blk_grown hb hg hn, h3⟩
namespace RSt
variable {w0 W W1 : World} {gr pb : Nat} {pl : Option Nat} {s s1 : Rl}
theorem cellp (h : RSt w0 gr pb pl s W) : W.cell? ⟨pb, 0, none⟩ = some (.pointer (some ⟨gr, 0, none⟩)) := (blk_cell h.pbx 0).trans rfl
theorem gp (h : RSt w0 gr pb pl s W) : pb ≠ gr := h.rd.neq h.pbx (by decide)
theorem gl (h : RSt w0 gr pb pl s W) (p : Nat) (hp : pl = some p) : p ≠ gr := h.rd.neq (h.plx p hp) (by decide)
theorem pp (h : RSt w0 gr pb pl s W) : some pb ≠ pl := fun e => blk_ne h.pbx (h.plx pb e.symm) (by decide) rfl
theorem below (h : RSt w0 gr pb pl s W) (hB : Below W.heap.size W W1) : RSt w0 gr pb pl s W1 := ⟨h.rd.below hB, blk_below h.pbx hB, fun p hp => blk_below (h.plx p hp) hB, h.pln⟩
theorem read {r : Rs} (h : RSt w0 gr pb pl s W) (hR : RAt w0 W1 gr r) (hO : Ro gr W W1) : RSt w0 gr pb pl (r, s.2) W1 :=
  ⟨hR, Ro.blk hO h.pbx h.gp, fun p hp => Ro.blk hO (h.plx p hp) (h.gl p hp), h.pln⟩
theorem grown {row : Option Nat} {t : Nat} {cells : Nat → Array Value} (h : RSt w0 gr pb pl s W) (hg : W.grownBy W1 row) (hr : ∀ k, row = some k → w0.heap.size ≤ k) (ht : ∀ k, row = some k → ∃ cs, W.heap[k]? = some (.cells cs t (0, 0))) (h1 : t ≠ 85) (h2 : t ≠ 84) (h3 : t ≠ 2) : RSt w0 gr pb pl s W1 := by
  have hne : ∀ {k : Nat} {cs : Array Value} {u : TypeId}, W.heap[k]? = some (.cells cs u (0, 0)) → t ≠ u → some k ≠ row := by
    intro k cs u hk hu e
    obtain ⟨cs', hc⟩ := ht k e.symm
    rw [hk] at hc
    injection hc with hc
    injection hc with _ hc
    exact hu hc.symm
  have hgr : some gr ≠ row := by
    obtain ⟨_, _, A, c, hb, _⟩ := h.rd
    exact hne hb h1
  exact ⟨h.rd.grown hg hr hgr, blk_grown h.pbx hg (hne h.pbx h2), fun p hp => blk_grown (h.plx p hp) hg (hne (h.plx p hp) h3), h.pln⟩
end RSt
theorem R_rp {α : Type} {d : Kd α} {e base gr pb : Nat} {pl : Option Nat} {ok : Nat → Prop} {w0 w w1 : World} {s : Rl} {v : Value} {xs : List α} (h : d.R e w base ok v xs) (hS : RSt w0 gr pb pl s w) (hq : ∀ q, q ∈ e :: d.E → q ≠ 85 ∧ q ≠ 2) (hO : Rp gr pl w w1) : d.R e w1 base ok v xs := by
  obtain ⟨_, _, A, c, hb, _⟩ := hS.rd
  have h1 := Kd.R_types h hb (fun q hq' => (hq q hq').1)
  cases hpl : pl with
  | none => exact Kd.R_mono (Kd.R_step h1 (fun k hk hlt => hO.block k hlt (fun e => e.elim hk.2 (fun e => by rw [hpl] at e; cases e)))) (fun _ hk => hk.1)
  | some p =>
    have h2 := Kd.R_types h1 (hS.plx p hpl) (fun q hq' => (hq q hq').2)
    exact Kd.R_mono (Kd.R_step h2 (fun k hk hlt => hO.block k hlt (fun e => e.elim hk.1.2 (fun e => by rw [hpl] at e; injection e with e; exact hk.2 e)))) (fun _ hk => hk.1.1)
section
variable {α : Type} (one : Rl → α × Rl)
def getF : Nat → Rl → List α × Rl
  | 0, s => ([], s)
  | n + 1, s => if s.1.2 = true then ([], s) else ((one s).1 :: (getF n (one s).2).1, (getF n (one s).2).2)
def getR (s : Rl) : List α × Rl :=
  if (numR s.1).1 < 0 then ([], (((numR s.1).2.1, true), s.2)) else getF one (numR s.1).1.toNat ((numR s.1).2, s.2)
def OneOk : Prop := ∀ s : Rl, Rok s.1 → Rok (one s).2.1 ∧ (one s).2.1.1.length ≤ s.1.1.length ∧ (s.1.2 = false → (one s).2.1.2 = false → (one s).2.1.1.length + 1 ≤ s.1.1.length)
end
theorem num_len (s : Rs) : (numR s).2.1.length ≤ s.1.length := by
  unfold numR takeR
  simp only [List.length_drop]
  omega
end Go.Proofs.YtcfgmkmllcfjjaaGreatDoor
