import Derived.Test.YtcfgmkmllcfjjaaGreatDoorZAF
import Derived.BigQuiet
import Derived.Test.YtcfgmkmllcfjjaaGreatDoorZAE
import Derived.Laws.Rows
import Derived.LoopIn
import Derived.Test.YtcfgmkmllcfjjaaGreatDoorProg
import Derived.Below
import Derived.Deep.Draws
import Derived.Deep.AppendLies
import Derived.Maps.AppendAt
import Derived.OwnWalk
import Derived.Laws.BytesArg
import Derived.Laws.MakeOwn
import Derived.Laws.OwnMore
import Derived.Deep.OwnRows
import Derived.Tactics
import Derived.Lib.ConvBytes
import Derived.Laws.Slices
import Derived.WalkKit
import Derived.KernelRfl
import Derived.RowKit3
import Derived.Deep.LoopGhost
import Derived.Deep.QuietTactic
import Derived.WideLaws
import Derived.Deep.DeepCutAuto
import Derived.Deep.CutBlock
import Derived.Deep.RegionHeld3
import Derived.Lib.AppendStr
import Derived.ArgAppend
import Derived.Laws.IdiomCopy
import Derived.OrdersHeld
import Derived.Laws.BitsLemmas
import Derived.RowKit
import Derived.Test.YtcfgmkmllcfjjaaGreatDoorZAA
import Derived.Test.YtcfgmkmllcfjjaaGreatDoorZAB
set_option linter.unusedVariables false
set_option linter.unusedSimpArgs false
namespace Go.Proofs.YtcfgmkmllcfjjaaGreatDoor
open Go.RowKit Go.Proofs.YtcfgmkmllcfjjaaGreatDoorW.PrintWords Go.Proofs.YtcfgmkmllcfjjaaGreatDoorW.PrintMore PImageAll
def BRow (w : World) (base : Nat) (v : Value) (l : List Int) : Prop := w.ownsRow base 5 1 v l.length (nums .u8 l)
def BPost (w0 : World) (l : List Int) (e : Ending) (w' : World) : Prop := ∃ v, e = .returned v ∧ BRow w' w0.heap.size v l ∧ Below w0.heap.size w0 w'
theorem BRow.below {w w' : World} {base : Nat} {v : Value} {l : List Int} (h : BRow w base v l) (hB : Below w.heap.size w w') : BRow w' base v l := own_move h (fun k hk => hB.block k (own_lt h k hk))
theorem BRow.nil (w : World) (base : Nat) : BRow w base (.slice none 0 0) [] := World.ownsRow_nil w base 5 1
theorem wputInt {w0 w : World} {v : Value} {l : List Int} {n : Int} (hB : Below w0.heap.size w0 w) (hO : BRow w w0.heap.size v l) (hn : I64 n) (hl : l.length ≤ 140000000000000) :
    Calls Tryz.prog 111 #[v, .int .i64 n] w fun e w' => BPost w0 (l ++ puti n) e w' := by
  have hR : Kd.R (Kd.int .u8) 5 w w0.heap.size (fun _ => True) v l := Kd.R_of_own hO (fun _ _ => trivial)
  refine (wire_putInt.calls 20 (fun _ => True) v l n (l ++ puti n) w0 w hB hR (putInt_f hn (by omega) (by omega))).mono ?_
  rintro e w' ⟨v', rfl, hr, hb, _⟩
  have ho := Kd.own_of_R hr
  exact ⟨v', rfl, ho, hb⟩
set_option maxHeartbeats 1000000 in
theorem wputStr {w0 w : World} {v : Value} {l : List Int} {s : ByteArray} (hB : Below w0.heap.size w0 w) (hO : BRow w w0.heap.size v l) (hl : (l ++ txt s).length ≤ 10000000000000) :
    Calls Tryz.prog 113 #[v, .string s] w fun e w' => BPost w0 (l ++ txt s) e w' := by
  have hg := txt_ge s
  have hs : (puti s.size).length + s.size = (txt s).length := by rw [txt, List.length_append, bytesOf_length]
  rw [List.length_append] at hl
  have HP := Lib.hid (wputInt hB hO (n := s.size) ⟨by omega, by omega⟩ (by omega))
  have HL := Lib.hid (show (l ++ puti s.size).length + s.size ≤ 140737488355328 by rw [List.length_append]; omega)
  have HE := Lib.hid (show l ++ txt s = (l ++ puti s.size) ++ bytesOf s by rw [txt, List.append_assoc])
  clear hB hO hg hs hl
  generalize l ++ puti s.size = l1 at *
  go_enter Tryz.func113, Tryz.ntmps113
  go_wp2_with (first
    | (go_at_call 111; refine HP.out.mono ?_; rintro e w1 ⟨v1, rfl, hO1, hB1⟩; have HO1 := Lib.hid hO1; have HB1 := Lib.hid hB1; clear hO1 hB1)
    | (at_builtin; refine print_append_str (w0 := w0) w0.heap.size rfl _ _ 33 9 5 rfl Tryz.underlying33 Tryz.underlying9 info5 _ l1 s rfl rfl HO1.out HB1.out HB1.out.size HL.out ?_; intro v2 w2 hO2 hB2 hg2))
  go_ret
  exact ⟨v2, rfl, by rw [HE.out]; exact hO2, hB2⟩
inductive ValOk : S67 → Prop
  | int (n : Int) (h : I64 n) : ValOk ⟨1, n, ⟨#[]⟩, false⟩
  | str (s : ByteArray) (h : s.size ≤ 256) : ValOk ⟨2, 0, s, false⟩
  | bool (b : Bool) : ValOk ⟨3, 0, ⟨#[]⟩, b⟩
def encVal (x : S67) : List Int := x.f0 :: (if x.f0 = 1 then puti x.f1 else if x.f0 = 2 then txt x.f2 else [if x.f3 then 1 else 0])
section
variable {ops : Array Oper} {rest : List Oper} {o : Oper} {a : Act} {Q : Exit → Act → World → Prop}
theorem bapp {w0 W : World} (H : Nat) (hH : W.heap.size = H) (hgd : o.guard = none) (s x : Operand) (ho : o.op = .call { callee := .builtin .append, args := #[s, x], argTypes := #[33, 33] })
    (v : Value) (l : List Int) (y : Int) (hs : a.eval s = v) (hx : a.eval x = .slice (some ⟨H, 0, none⟩) 1 1) (HO : BRow W w0.heap.size v l) (HB : Below w0.heap.size w0 W) (hl : (l.length + 1) * 1 ≤ 140737488355328)
    (h : ∀ v1 w1, Hid (BRow w1 w0.heap.size v1 (l ++ [y])) → Hid (Below w0.heap.size w0 w1) → W.grownBy w1 v.ownBlock → wpList Tryz.prog ops Q rest (a.put o.dst v1) w1) :
    wpList Tryz.prog ops Q (o :: rest) a (W.alloc (.cells #[.int .u8 y] 5)) := by
  subst hH
  refine print_append_num (w0 := w0) w0.heap.size hgd s x 33 5 .u8 1 ho Tryz.underlying33 info5 (by decide) v l y hs hx HO HB HB.size hl ?_
  intro v1 w1 hO1 hB1 hg1 _
  exact h v1 w1 (Lib.hid hO1) (Lib.hid hB1) hg1
end
set_option maxHeartbeats 1000000 in
theorem wputVal {w0 w : World} {v : Value} {l : List Int} {x : S67} (hx : ValOk x) (hB : Below w0.heap.size w0 w) (hO : BRow w w0.heap.size v l) (hl : (l ++ encVal x).length ≤ 10000000000000) :
    Calls Tryz.prog 114 #[v, .agg #[.int .i64 x.f0, .int .i64 x.f1, .string x.f2, .bool x.f3]] w fun e w' => BPost w0 (l ++ encVal x) e w' := by
  have hl0 : (l.length + 1) * 1 ≤ 140737488355328 := by rw [List.length_append] at hl; omega
  have HL0 := Lib.hid hl0
  have HL1 := Lib.hid (show ∀ y : Int, ((l ++ [y]).length + 1) * 1 ≤ 140737488355328 from fun y => by rw [List.length_append] at hl ⊢; rw [List.length_singleton]; omega)
  have HL2 := Lib.hid (show ∀ y : Int, (l ++ [y]).length ≤ 140000000000000 from fun y => by rw [List.length_append] at hl ⊢; rw [List.length_singleton]; omega)
  rcases hx with ⟨n, hn⟩ | ⟨s, hs⟩ | ⟨b⟩
  · have hE : l ++ encVal ⟨1, n, ⟨#[]⟩, false⟩ = (l ++ [1]) ++ puti n := by simp [encVal]
    rw [hE]
    generalize hZ : (l ++ [1]) ++ puti n = Z
    have HZ := Lib.hid hZ
    have hb0 := below_new w (.cells #[.int .i64 1, .int .i64 n, .string ⟨#[]⟩, .bool false] 67)
    have HO := Lib.hid (hO.below hb0)
    have HB := Lib.hid (below_then hB hB.size hb0)
    have hX := blk_new w (.cells #[.int .i64 1, .int .i64 n, .string ⟨#[]⟩, .bool false] 67)
    have HX := Lib.hid hX
    have HXO := Lib.hid (show some w.heap.size ≠ v.ownBlock from fun he => by have := own_lt hO _ he.symm; omega)
    clear hB hO hb0 hX hl0 hl hE hZ
    go_enter Tryz.func114, Tryz.ntmps114
    go_wp2_with (first
      | (at_builtin; refine bapp (w0 := w0) (w.heap.size + 1) (by simp) rfl _ _ rfl v l 1 rfl rfl HO.out HB.out HL0.out ?_; intro v1 w1 HO1 HB1 hg1; have hx1 := blk_grown HX.out hg1 HXO.out; have c0 : w1.cell? ⟨w.heap.size, 0, none⟩ = some (.int .i64 1) := (blk_cell hx1 0).trans rfl; have c1 : w1.cell? ⟨w.heap.size, 1, none⟩ = some (.int .i64 n) := (blk_cell hx1 1).trans rfl; clear hg1 hx1)
      | (go_at_call 111; refine (wputInt HB1.out HO1.out hn (HL2.out 1)).mono ?_; rintro e w2 ⟨v2, rfl, hO2, hB2⟩))
    go_ret
    exact ⟨v2, rfl, by rw [← HZ.out]; exact hO2, hB2⟩
  · have hE : l ++ encVal ⟨2, 0, s, false⟩ = (l ++ [2]) ++ txt s := by simp [encVal]
    rw [hE] at hl ⊢
    have HL := Lib.hid hl
    generalize hZ : (l ++ [2]) ++ txt s = Z
    have HZ := Lib.hid hZ
    have hb0 := below_new w (.cells #[.int .i64 2, .int .i64 0, .string s, .bool false] 67)
    have HO := Lib.hid (hO.below hb0)
    have HB := Lib.hid (below_then hB hB.size hb0)
    have hX := blk_new w (.cells #[.int .i64 2, .int .i64 0, .string s, .bool false] 67)
    have HX := Lib.hid hX
    have HXO := Lib.hid (show some w.heap.size ≠ v.ownBlock from fun he => by have := own_lt hO _ he.symm; omega)
    clear hB hO hb0 hX hl0 hl hE hZ
    go_enter Tryz.func114, Tryz.ntmps114
    go_wp2_with (first
      | (at_builtin; refine bapp (w0 := w0) (w.heap.size + 1) (by simp) rfl _ _ rfl v l 2 rfl rfl HO.out HB.out HL0.out ?_; intro v1 w1 HO1 HB1 hg1; have hx1 := blk_grown HX.out hg1 HXO.out; have c0 : w1.cell? ⟨w.heap.size, 0, none⟩ = some (.int .i64 2) := (blk_cell hx1 0).trans rfl; have c1 : w1.cell? ⟨w.heap.size, 2, none⟩ = some (.string s) := (blk_cell hx1 2).trans rfl; clear hg1 hx1)
      | (go_at_call 113; refine (wputStr HB1.out HO1.out HL.out).mono ?_; rintro e w2 ⟨v2, rfl, hO2, hB2⟩))
    go_ret
    exact ⟨v2, rfl, by rw [← HZ.out]; exact hO2, hB2⟩
  · have hE : l ++ encVal ⟨3, 0, ⟨#[]⟩, b⟩ = (l ++ [3]) ++ [if b then 1 else 0] := by simp [encVal]
    rw [hE]
    generalize hZ : (l ++ [3]) ++ [if b then 1 else 0] = Z
    have HZ := Lib.hid hZ
    have hb0 := below_new w (.cells #[.int .i64 3, .int .i64 0, .string ⟨#[]⟩, .bool b] 67)
    have HO := Lib.hid (hO.below hb0)
    have HB := Lib.hid (below_then hB hB.size hb0)
    have hX := blk_new w (.cells #[.int .i64 3, .int .i64 0, .string ⟨#[]⟩, .bool b] 67)
    have HX := Lib.hid hX
    have HXO := Lib.hid (show some w.heap.size ≠ v.ownBlock from fun he => by have := own_lt hO _ he.symm; omega)
    clear hB hO hb0 hX hl0 hl hE hZ
    cases b
    · go_enter Tryz.func114, Tryz.ntmps114
      go_wp2_with (first
        | (at_builtin; refine bapp (w0 := w0) (w.heap.size + 1) (by simp) rfl _ _ rfl v l 3 rfl rfl HO.out HB.out HL0.out ?_; intro v1 w1 HO1 HB1 hg1; have hx1 := blk_grown HX.out hg1 HXO.out; have c0 : w1.cell? ⟨w.heap.size, 0, none⟩ = some (.int .i64 3) := (blk_cell hx1 0).trans rfl; have c1 : w1.cell? ⟨w.heap.size, 1, none⟩ = some (.int .i64 0) := (blk_cell hx1 1).trans rfl; have c2 : w1.cell? ⟨w.heap.size, 2, none⟩ = some (.string ⟨#[]⟩) := (blk_cell hx1 2).trans rfl; have c3 : w1.cell? ⟨w.heap.size, 3, none⟩ = some (.bool false) := (blk_cell hx1 3).trans rfl; clear hg1 hx1)
        | (at_builtin; refine bapp (w0 := w0) w1.heap.size rfl rfl _ _ rfl v1 (l ++ [3]) 0 rfl rfl HO1.out HB1.out (HL1.out 3) ?_; intro v2 w2 HO2 HB2 hg2))
      go_ret
      exact ⟨v2, rfl, by rw [← HZ.out]; exact HO2.out, HB2.out⟩
    · go_enter Tryz.func114, Tryz.ntmps114
      go_wp2_with (first
        | (at_builtin; refine bapp (w0 := w0) (w.heap.size + 1) (by simp) rfl _ _ rfl v l 3 rfl rfl HO.out HB.out HL0.out ?_; intro v1 w1 HO1 HB1 hg1; have hx1 := blk_grown HX.out hg1 HXO.out; have c0 : w1.cell? ⟨w.heap.size, 0, none⟩ = some (.int .i64 3) := (blk_cell hx1 0).trans rfl; have c1 : w1.cell? ⟨w.heap.size, 1, none⟩ = some (.int .i64 0) := (blk_cell hx1 1).trans rfl; have c2 : w1.cell? ⟨w.heap.size, 2, none⟩ = some (.string ⟨#[]⟩) := (blk_cell hx1 2).trans rfl; have c3 : w1.cell? ⟨w.heap.size, 3, none⟩ = some (.bool true) := (blk_cell hx1 3).trans rfl; clear hg1 hx1)
        | (at_builtin; refine bapp (w0 := w0) w1.heap.size rfl rfl _ _ rfl v1 (l ++ [3]) 1 rfl rfl HO1.out HB1.out (HL1.out 3) ?_; intro v2 w2 HO2 HB2 hg2))
      go_ret
      exact ⟨v2, rfl, by rw [← HZ.out]; exact HO2.out, HB2.out⟩
end Go.Proofs.YtcfgmkmllcfjjaaGreatDoor
set_option linter.unusedVariables false
set_option linter.unusedSimpArgs false
namespace Go.Proofs.YtcfgmkmllcfjjaaGreatDoor
open Go.RowKit Go.Proofs.YtcfgmkmllcfjjaaGreatDoorW.PrintWords Go.Proofs.YtcfgmkmllcfjjaaGreatDoorW.PrintMore PImageAll
def encEvent (e : S63) : List Int := txt e.f0 ++ (puti e.f1 ++ (puti e.f2.length ++ e.f2.flatMap encVal))
theorem atVal {w : World} {A : Option Addr} {n : Nat} {xs : List S67} (h : Kd.C k67 w A n xs) (k : Nat) (hk : k < n) (hk' : k < xs.length) : ∃ ad, A = some ad ∧ w.cell? (ad.add (k * 4)) = some (.int .i64 xs[k].f0) ∧ w.cell? ⟨(ad.add (k * 4)).block, (ad.add (k * 4)).off + 1, none⟩ = some (.int .i64 xs[k].f1) ∧ w.cell? ⟨(ad.add (k * 4)).block, (ad.add (k * 4)).off + 2, none⟩ = some (.string xs[k].f2) ∧ w.cell? ⟨(ad.add (k * 4)).block, (ad.add (k * 4)).off + 3, none⟩ = some (.bool xs[k].f3) := by
  have h1 := at_T67 h (k : Int) (by omega) (by omega)
  have h2 : rd_T67 xs (k : Int) = xs[k] := by simp [rd_T67, List.getD_eq_getElem?_getD, List.getElem?_eq_getElem hk']
  simp only [Int.toNat_natCast] at h1
  rw [h2] at h1
  exact h1
set_option maxHeartbeats 2000000 in
theorem wput {w : World} {x : S63} {A : Option Addr} {c : Nat} (hC : Kd.C k67 w A x.f2.length x.f2) (hc : x.f2.length ≤ c) (hv : ∀ y ∈ x.f2, ValOk y) (ht : I64 x.f1) (hl : (encEvent x).length ≤ 10000000000000) :
    Calls Tryz.prog 107 #[.slice none 0 0, .agg #[.string x.f0, .int .i64 x.f1, .slice A x.f2.length c]] w fun e w' => BPost w (encEvent x) e w' := by
  generalize hW0 : w.alloc (.cells #[.string x.f0, .int .i64 x.f1, .slice A x.f2.length c] 63) = W0
  have HW0 := Lib.hid hW0
  have hb0 : Below w.heap.size w W0 := by rw [← hW0]; exact below_new w _
  have hX : W0.heap[w.heap.size]? = some (.cells #[.string x.f0, .int .i64 x.f1, .slice A x.f2.length c] 63 (0, 0)) := by rw [← hW0]; exact blk_new w _
  have hCl : x.f2.length ≤ (x.f2.flatMap encVal).length := flat_ge encVal (fun y => by simp [encVal]) x.f2
  have hE : encEvent x = ((txt x.f0 ++ puti x.f1) ++ puti x.f2.length) ++ x.f2.flatMap encVal := by simp only [encEvent, List.append_assoc]
  rw [hE] at hl ⊢
  have hl3 : ((txt x.f0 ++ puti x.f1) ++ puti x.f2.length).length ≤ 10000000000000 := by rw [List.length_append] at hl; omega
  have hl2 : (txt x.f0 ++ puti x.f1).length ≤ 10000000000000 := by rw [List.length_append] at hl3; omega
  have hl1 : (txt x.f0).length ≤ 10000000000000 := by rw [List.length_append] at hl2; omega
  have hn : I64 (x.f2.length : Int) := by rw [List.length_append] at hl; exact ⟨by omega, by omega⟩
  have hkl : ∀ k, (((txt x.f0 ++ puti x.f1) ++ puti x.f2.length) ++ (x.f2.take k).flatMap encVal).length ≤ 10000000000000 := fun k => by
    have := take_le encVal ((txt x.f0 ++ puti x.f1) ++ puti x.f2.length) x.f2 k
    omega
  have hxl : x.f2.length ≤ 9223372036854775807 := by have := hn.2; omega
  have H1 := Lib.hid (show ∀ W, Below W0.heap.size W0 W → Calls Tryz.prog 113 #[.slice none 0 0, .string x.f0] W fun e w' => BPost W0 (txt x.f0) e w' from fun W hW => wputStr hW (BRow.nil W W0.heap.size) (by simpa using hl1))
  have H2 := Lib.hid (show ∀ W v, Below W0.heap.size W0 W → BRow W W0.heap.size v (txt x.f0) → Calls Tryz.prog 111 #[v, .int .i64 x.f1] W fun e w' => BPost W0 (txt x.f0 ++ puti x.f1) e w' from fun W v hW hO => wputInt hW hO ht (by omega))
  have H3 := Lib.hid (show ∀ W v, Below W0.heap.size W0 W → BRow W W0.heap.size v (txt x.f0 ++ puti x.f1) → Calls Tryz.prog 111 #[v, .int .i64 (x.f2.length : Int)] W fun e w' => BPost W0 ((txt x.f0 ++ puti x.f1) ++ puti x.f2.length) e w' from fun W v hW hO => wputInt hW hO hn (by omega))
  have HB0 := Lib.hid hb0
  have HC := Lib.hid (Kd.C_below hC hb0)
  have HV := Lib.hid hv
  have HKL := Lib.hid hkl
  have HT := Lib.hid (take_flat encVal ((txt x.f0 ++ puti x.f1) ++ puti x.f2.length) x.f2)
  have c0 : W0.cell? ⟨w.heap.size, 0, none⟩ = some (.string x.f0) := (blk_cell hX 0).trans rfl
  have c1 : W0.cell? ⟨w.heap.size, 1, none⟩ = some (.int .i64 x.f1) := (blk_cell hX 1).trans rfl
  have c2 : W0.cell? ⟨w.heap.size, 2, none⟩ = some (.slice A x.f2.length c) := (blk_cell hX 2).trans rfl
  clear hC hv ht hl hW0 hb0 hX hE hl1 hl2 hl3 hn hkl hCl
  generalize txt x.f0 = L1 at *
  generalize L1 ++ puti x.f1 = L2 at *
  generalize L2 ++ puti x.f2.length = L3 at *
  go_enter Tryz.func107, Tryz.ntmps107
  go_wp2_with fail
  rw [HW0.out]
  go_region_law (first
    | (go_simp; go_at_call 113; refine (H1.out _ (by first | exact below_drew (Below.refl _ _) | exact Below.refl _ _)).mono ?_; rintro e w1 ⟨v1, rfl, hO1, hB1⟩; have HO1 := Lib.hid hO1; have c01 := pw_cell_below hB1 c0; have c11 := pw_cell_below hB1 c1; have c21 := pw_cell_below hB1 c2)
    | (go_simp; go_at_call 111; refine (H2.out _ _ (by first | exact hB1 | exact below_drew hB1) (by exact HO1.out)).mono ?_; rintro e w2 ⟨v2, rfl, hO2, hB2⟩; have HO2 := Lib.hid hO2; have c02 := pw_cell_below hB2 c0; have c12 := pw_cell_below hB2 c1; have c22 := pw_cell_below hB2 c2))
  all_goals
    have HB2 := Lib.hid hB2
    clear hB1 hB2 hO1 hO2
    go_wp2_with (go_at_call 111; refine (H3.out _ _ HB2.out HO2.out).mono ?_; rintro e w3 ⟨v3, rfl, hO3, hB3⟩; have HO3 := Lib.hid hO3; have HB3 := Lib.hid hB3; have c03 := pw_cell_below hB3 c0; have c13 := pw_cell_below hB3 c1; have c23 := pw_cell_below hB3 c2; clear hO3 hB3)
    go_loopw [0, 22] (fun t0 t22 wr => ∃ k : Nat, k ≤ x.f2.length ∧ t22 = .int .i64 k ∧ Hid (BRow wr W0.heap.size t0 (L3 ++ (x.f2.take k).flatMap encVal)) ∧ Hid (Below W0.heap.size W0 wr)) (fun _ t22 _ => x.f2.length - (intOf t22).toNat)
    case atStart => exact ⟨0, by omega, rfl, by simpa using HO3, HB3⟩
    case round =>
      obtain ⟨k, hk, rfl, hO, hB⟩ := hrel
      by_cases hlt : k < x.f2.length
      · have i1 : (0 : Int) ≤ (k : Int) := by omega
        have i2 : (k : Int) < x.f2.length := by omega
        obtain ⟨ad, rfl, q0, q1, q2, q3⟩ := atVal (Kd.C_below HC.out hB.out) k hlt hlt
        have hVk := HV.out _ (List.getElem_mem hlt)
        have hLk := HKL.out (k + 1)
        rw [HT.out k hlt] at hLk
        have HE := Lib.hid (HT.out k hlt)
        have hbn := below_new wr (.cells #[.int .i64 x.f2[k].f0, .int .i64 x.f2[k].f1, .string x.f2[k].f2, .bool x.f2[k].f3] 67)
        have HFK := Lib.hid (wputVal (x := x.f2[k]) hVk (below_then hB.out hB.out.size hbn) (BRow.below hO.out hbn) hLk)
        clear hbn hVk hLk
        generalize x.f2[k] = y at *
        go_wp2_with (go_at_call 114; refine HFK.out.mono ?_; rintro e w4 ⟨v4, rfl, hO4, hB4⟩; have HO4 := Lib.hid hO4; have HB4 := Lib.hid hB4; clear hO4 hB4)
        go_roundw
        case rel => exact ⟨k + 1, by omega, by go_num, by rw [HE.out]; exact HO4, HB4⟩
        case measure => simp [intOf]; omega
      · obtain rfl : k = x.f2.length := by omega
        go_wp2_with fail
        go_ret
        have hO := hO.out
        rw [List.take_length] at hO
        exact ⟨_, rfl, own_less hO HB0.out.size, below_step HB0.out hB.out⟩
def wordsL : List ByteArray := [⟨#[80, 65, 84, 84, 69, 82, 78]⟩, ⟨#[83, 69, 81]⟩, ⟨#[80, 65, 82, 84, 73, 84, 73, 79, 78]⟩, ⟨#[66, 89]⟩, ⟨#[87, 72, 69, 82, 69]⟩, ⟨#[87, 73, 84, 72, 73, 78]⟩, ⟨#[82, 69, 84, 85, 82, 78]⟩, ⟨#[65, 78, 68]⟩, ⟨#[79, 82]⟩, ⟨#[78, 79, 84]⟩, ⟨#[84, 82, 85, 69]⟩, ⟨#[70, 65, 76, 83, 69]⟩, ⟨#[84, 89, 80, 69]⟩, ⟨#[73, 78, 84]⟩, ⟨#[83, 84, 82]⟩, ⟨#[66, 79, 79, 76]⟩]
def wordsV : Array Value := #[.string ⟨#[80, 65, 84, 84, 69, 82, 78]⟩, .string ⟨#[83, 69, 81]⟩, .string ⟨#[80, 65, 82, 84, 73, 84, 73, 79, 78]⟩, .string ⟨#[66, 89]⟩, .string ⟨#[87, 72, 69, 82, 69]⟩, .string ⟨#[87, 73, 84, 72, 73, 78]⟩, .string ⟨#[82, 69, 84, 85, 82, 78]⟩, .string ⟨#[65, 78, 68]⟩, .string ⟨#[79, 82]⟩, .string ⟨#[78, 79, 84]⟩, .string ⟨#[84, 82, 85, 69]⟩, .string ⟨#[70, 65, 76, 83, 69]⟩, .string ⟨#[84, 89, 80, 69]⟩, .string ⟨#[73, 78, 84]⟩, .string ⟨#[83, 84, 82]⟩, .string ⟨#[66, 79, 79, 76]⟩]
def GW (w : World) : Prop := ∃ t fr, w.heap[0]? = some (.cells wordsV t fr)
theorem GW.below {w w' : World} (h : GW w) (hB : Below w.heap.size w w') : GW w' := by
  obtain ⟨t, fr, h⟩ := h
  exact ⟨t, fr, blk_below h hB⟩
def ltB (c : Int) : Bool := (schema_letter.f c).getD false
def ptB (c : Int) : Bool := (schema_part.f c).getD false
theorem ltB_f (c : Int) : schema_letter.f c = some (ltB c) := by
  unfold ltB schema_letter.f
  split <;> split <;> (try split) <;> (try split) <;> rfl
theorem ptB_f (c : Int) : schema_part.f c = some (ptB c) := by
  unfold ptB schema_part.f
  rw [ltB_f]
  simp only [Option.bind_some]
  split <;> (try split) <;> rfl
def nameB (s : ByteArray) : Bool := if h : 0 < s.size then decide (s.size ≤ 32) && ltB (s[0]'h).toNat && (s.data.toList.all fun c => ptB c.toNat) && !(wordsL.any fun u => decide (s = u)) else false
set_option maxRecDepth 100000 in
theorem words_ix0 (W : World) : (Instr.index 111 (.agg wordsV) (.int .i64 0)).run Tryz.prog W = .ok (.string wordsL[0]) W := by kernel_rfl
set_option maxRecDepth 100000 in
theorem words_ix1 (W : World) : (Instr.index 111 (.agg wordsV) (.int .i64 1)).run Tryz.prog W = .ok (.string wordsL[1]) W := by kernel_rfl
set_option maxRecDepth 100000 in
theorem words_ix2 (W : World) : (Instr.index 111 (.agg wordsV) (.int .i64 2)).run Tryz.prog W = .ok (.string wordsL[2]) W := by kernel_rfl
set_option maxRecDepth 100000 in
theorem words_ix3 (W : World) : (Instr.index 111 (.agg wordsV) (.int .i64 3)).run Tryz.prog W = .ok (.string wordsL[3]) W := by kernel_rfl
set_option maxRecDepth 100000 in
theorem words_ix4 (W : World) : (Instr.index 111 (.agg wordsV) (.int .i64 4)).run Tryz.prog W = .ok (.string wordsL[4]) W := by kernel_rfl
set_option maxRecDepth 100000 in
theorem words_ix5 (W : World) : (Instr.index 111 (.agg wordsV) (.int .i64 5)).run Tryz.prog W = .ok (.string wordsL[5]) W := by kernel_rfl
set_option maxRecDepth 100000 in
theorem words_ix6 (W : World) : (Instr.index 111 (.agg wordsV) (.int .i64 6)).run Tryz.prog W = .ok (.string wordsL[6]) W := by kernel_rfl
set_option maxRecDepth 100000 in
theorem words_ix7 (W : World) : (Instr.index 111 (.agg wordsV) (.int .i64 7)).run Tryz.prog W = .ok (.string wordsL[7]) W := by kernel_rfl
set_option maxRecDepth 100000 in
theorem words_ix8 (W : World) : (Instr.index 111 (.agg wordsV) (.int .i64 8)).run Tryz.prog W = .ok (.string wordsL[8]) W := by kernel_rfl
set_option maxRecDepth 100000 in
theorem words_ix9 (W : World) : (Instr.index 111 (.agg wordsV) (.int .i64 9)).run Tryz.prog W = .ok (.string wordsL[9]) W := by kernel_rfl
set_option maxRecDepth 100000 in
theorem words_ix10 (W : World) : (Instr.index 111 (.agg wordsV) (.int .i64 10)).run Tryz.prog W = .ok (.string wordsL[10]) W := by kernel_rfl
set_option maxRecDepth 100000 in
theorem words_ix11 (W : World) : (Instr.index 111 (.agg wordsV) (.int .i64 11)).run Tryz.prog W = .ok (.string wordsL[11]) W := by kernel_rfl
set_option maxRecDepth 100000 in
theorem words_ix12 (W : World) : (Instr.index 111 (.agg wordsV) (.int .i64 12)).run Tryz.prog W = .ok (.string wordsL[12]) W := by kernel_rfl
set_option maxRecDepth 100000 in
theorem words_ix13 (W : World) : (Instr.index 111 (.agg wordsV) (.int .i64 13)).run Tryz.prog W = .ok (.string wordsL[13]) W := by kernel_rfl
set_option maxRecDepth 100000 in
theorem words_ix14 (W : World) : (Instr.index 111 (.agg wordsV) (.int .i64 14)).run Tryz.prog W = .ok (.string wordsL[14]) W := by kernel_rfl
set_option maxRecDepth 100000 in
theorem words_ix15 (W : World) : (Instr.index 111 (.agg wordsV) (.int .i64 15)).run Tryz.prog W = .ok (.string wordsL[15]) W := by kernel_rfl
theorem words_ix (j : Nat) (hj : j < 16) (W : World) : (Instr.index 111 (.agg wordsV) (.int .i64 (j : Int))).run Tryz.prog W = .ok (.string (wordsL[j]'hj)) W := by
  have hc : j = 0 ∨ j = 1 ∨ j = 2 ∨ j = 3 ∨ j = 4 ∨ j = 5 ∨ j = 6 ∨ j = 7 ∨ j = 8 ∨ j = 9 ∨ j = 10 ∨ j = 11 ∨ j = 12 ∨ j = 13 ∨ j = 14 ∨ j = 15 := by omega
  rcases hc with rfl | rfl | rfl | rfl | rfl | rfl | rfl | rfl | rfl | rfl | rfl | rfl | rfl | rfl | rfl | rfl
  · exact words_ix0 W
  · exact words_ix1 W
  · exact words_ix2 W
  · exact words_ix3 W
  · exact words_ix4 W
  · exact words_ix5 W
  · exact words_ix6 W
  · exact words_ix7 W
  · exact words_ix8 W
  · exact words_ix9 W
  · exact words_ix10 W
  · exact words_ix11 W
  · exact words_ix12 W
  · exact words_ix13 W
  · exact words_ix14 W
  · exact words_ix15 W
theorem ne_toList {a b : ByteArray} (h : a ≠ b) : (a.toList == b.toList) = false := by
  apply beq_eq_false_iff_ne.mpr
  intro he
  rw [ByteArray.toList_eq, ByteArray.toList_eq] at he
  exact h (ByteArray.ext (Array.ext' he))
set_option maxRecDepth 100000 in
set_option maxHeartbeats 2000000 in
theorem Name_any (s : ByteArray) (w : World) (hG : GW w) : Calls Tryz.prog 42 #[.string s] w fun e w' => e = .returned (.bool (nameB s)) ∧ Drawn0 w w' := by
  have HG := Lib.hid hG
  by_cases h0 : 0 < s.size
  · have e0 : s.toList.isEmpty = false := by
      rw [ByteArray.toList_eq]
      cases hs : s.data.toList with
      | nil => exact absurd (show s.size = 0 from by show s.data.size = 0; rw [← Array.length_toList, hs]; rfl) (by omega)
      | cons c r => rfl
    have hnE : nameB s = (decide (s.size ≤ 32) && ltB (s[0]'h0).toNat && (s.data.toList.all fun c => ptB c.toNat) && !(wordsL.any fun u => decide (s = u))) := by unfold nameB; rw [dif_pos h0]
    have HN := Lib.hid hnE
    have HL := Lib.hid (show ∀ W, Calls Tryz.prog 66 #[.int .u8 ((s[0]'h0).toNat : Int)] W fun e w' => e = .returned (.bool (ltB (s[0]'h0).toNat)) ∧ Drawn0 W w' from fun W => schema_letter.calls _ _ W (ltB_f _))
    clear hnE hG
    by_cases h32 : s.size ≤ 32
    · have e1 : decide (32 < (s.size : Int)) = false := decide_eq_false (by omega)
      by_cases hL : ltB (s[0]'h0).toNat = true
      · rw [hL] at HL
        have HLt := Lib.hid hL
        clear hL
        go_enter Tryz.func42, Tryz.ntmps42
        go_wp2_with (go_at_call 66; refine (HL.out _).mono ?_; rintro e w1 ⟨rfl, ⟨n1, rfl⟩⟩)
        go_loopw [21] (fun t21 wr => ∃ k : Nat, k ≤ s.size ∧ t21 = .int .i64 k ∧ Drawn0 w wr ∧ Hid (∀ j (hj : j < s.size), j < k → ptB (s[j]'hj).toNat = true)) (fun t21 _ => s.size - (intOf t21).toNat)
        case atStart => exact ⟨0, by omega, rfl, ⟨_, rfl⟩, Lib.hid (by intro j _ h; omega)⟩
        case round =>
          obtain ⟨k, hk, rfl, ⟨n2, rfl⟩, hP⟩ := hrel
          by_cases hlt : k < s.size
          · have i1 : (0 : Int) ≤ (k : Int) := by omega
            have i2 : (k : Int) < s.size := by omega
            have HK := Lib.hid (show ∀ W, Calls Tryz.prog 67 #[.int .u8 ((s[k]'hlt).toNat : Int)] W fun e w' => e = .returned (.bool (ptB (s[k]'hlt).toNat)) ∧ Drawn0 W w' from fun W => schema_part.calls _ _ W (ptB_f _))
            by_cases hq : ptB (s[k]'hlt).toNat = true
            · rw [hq] at HK
              have HQ := Lib.hid hq
              clear hq
              go_wp2_with (go_at_call 67; refine (HK.out _).mono ?_; rintro e w3 ⟨rfl, ⟨n3, rfl⟩⟩)
              go_roundw
              case rel => exact ⟨k + 1, by omega, by go_num, ⟨⟨_, rfl⟩⟩, Lib.hid (fun j hj hjk => if h : j = k then by subst h; exact HQ.out else hP.out j hj (by omega))⟩
              case measure => simp [intOf]; omega
            · have hq' : ptB (s[k]'hlt).toNat = false := by simpa using hq
              rw [hq'] at HK
              have HQ := Lib.hid hq'
              clear hq hq'
              go_wp2_with (go_at_call 67; refine (HK.out _).mono ?_; rintro e w3 ⟨rfl, ⟨n3, rfl⟩⟩)
              go_ret
              have hnf : nameB s = false := by
                rw [HN.out, show (s.data.toList.all fun c => ptB c.toNat) = false from List.all_eq_false.mpr ⟨s[k]'hlt, Array.getElem_mem_toList _, by rw [HQ.out]; decide⟩]
                simp
              rw [hnf]
              exact ⟨rfl, ⟨⟨_, rfl⟩⟩⟩
          · obtain rfl : k = s.size := by omega
            obtain ⟨t, fr, hg⟩ := HG.out
            have hg1 : (w.drewN n2).heap[0]? = some (.cells wordsV t fr) := hg
            go_wp2_with (refine wpList_load_row rfl 111 _ rfl 0 rfl t _ fr _ hg1 Tryz.underlying111 rfl (by kernel_rfl) ?_)
            have hall : (s.data.toList.all fun c => ptB c.toNat) = true := by
              apply List.all_eq_true.mpr
              intro c hc
              obtain ⟨j, hj, rfl⟩ := List.getElem_of_mem hc
              rw [Array.length_toList] at hj
              exact hP.out j hj hj
            have HALL := Lib.hid hall
            clear hP hall
            go_loopw [31] (fun t31 wr => ∃ m : Nat, m ≤ 16 ∧ t31 = .int .i64 m ∧ Drawn0 w wr ∧ Hid (∀ (j : Nat) (hj : j < 16), j < m → s ≠ wordsL[j]'hj)) (fun t31 _ => 16 - (intOf t31).toNat)
            case atStart => exact ⟨0, by omega, rfl, ⟨⟨_, rfl⟩⟩, Lib.hid (by intro j _ h; omega)⟩
            case round =>
              obtain ⟨m, hm, rfl, ⟨n4, rfl⟩, hM⟩ := hrel
              by_cases hlt2 : m < 16
              · have hix := words_ix m hlt2
                have hmem : wordsL[m]'hlt2 ∈ wordsL := List.getElem_mem hlt2
                have HW := Lib.hid (show s ≠ wordsL[m]'hlt2 → ∀ (j : Nat) (hj : j < 16), j < m + 1 → s ≠ wordsL[j]'hj from fun hne j hj hjk => if h : j = m then by subst h; exact hne else hM.out j hj (by omega))
                clear hM
                generalize wordsL[m]'hlt2 = u at *
                by_cases hu : s = u
                · have hnf : nameB s = false := by
                    rw [HN.out, show (wordsL.any fun u => decide (s = u)) = true from List.any_eq_true.mpr ⟨u, hmem, by simpa using hu⟩]
                    simp
                  have HNF := Lib.hid hnf
                  clear hnf hmem HW
                  subst hu
                  go_wp2_with fail
                  go_ret
                  rw [HNF.out]
                  exact ⟨rfl, ⟨⟨_, rfl⟩⟩⟩
                · have hne := ne_toList hu
                  have HW2 := Lib.hid (HW.out hu)
                  clear HW hmem hu
                  go_wp2_with fail
                  go_roundw
                  case rel => exact ⟨m + 1, by omega, by go_num, ⟨⟨_, rfl⟩⟩, HW2⟩
                  case measure => simp [intOf]; omega
              · obtain rfl : m = 16 := by omega
                have hnt : nameB s = true := by
                  have hany : (wordsL.any fun u => decide (s = u)) = false := by
                    apply List.any_eq_false.mpr
                    intro u hu
                    obtain ⟨j, hj, rfl⟩ := List.getElem_of_mem hu
                    simpa using hM.out j hj hj
                  rw [HN.out, hany, HALL.out, HLt.out]
                  simpa using h32
                have HNT := Lib.hid hnt
                clear hnt
                go_wp2_with fail
                go_ret
                rw [HNT.out]
                exact ⟨rfl, ⟨⟨_, rfl⟩⟩⟩
      · have hLf : ltB (s[0]'h0).toNat = false := by simpa using hL
        have hnf : nameB s = false := by
          rw [HN.out, hLf]
          simp
        rw [hLf] at HL
        rw [hnf]
        clear hL hLf hnf HN
        go_enter Tryz.func42, Tryz.ntmps42
        go_wp2_with (go_at_call 66; refine (HL.out _).mono ?_; rintro e w1 ⟨rfl, ⟨n1, rfl⟩⟩)
        go_ret
        exact ⟨rfl, ⟨⟨_, rfl⟩⟩⟩
    · have e1 : decide (32 < (s.size : Int)) = true := decide_eq_true (by omega)
      have hnf : nameB s = false := by
        rw [HN.out, decide_eq_false h32]
        simp
      rw [hnf]
      clear hnf HN
      go_enter Tryz.func42, Tryz.ntmps42
      go_wp2_with fail
      go_ret
      exact ⟨rfl, Drawn0.refl _⟩
  · have e0 : s = ⟨#[]⟩ := by
      apply ByteArray.ext
      apply Array.ext'
      exact List.eq_nil_of_length_eq_zero (by simpa using h0)
    have hn : nameB s = false := by unfold nameB; rw [dif_neg h0]
    rw [hn]
    subst e0
    clear h0 hn hG
    go_enter Tryz.func42, Tryz.ntmps42
    go_wp2_with fail
    go_ret
    exact ⟨rfl, Drawn0.refl _⟩
end Go.Proofs.YtcfgmkmllcfjjaaGreatDoor
namespace Go.Proofs.YtcfgmkmllcfjjaaGreatDoor.PValid
open Go.RowKit Go.Proofs.YtcfgmkmllcfjjaaGreatDoorW.PrintWords Go.Proofs.YtcfgmkmllcfjjaaGreatDoorW.PrintLast Go.Proofs.YtcfgmkmllcfjjaaGreatDoorW.PrintMore
attribute [local go_sem] max2_int min2_int max_two min_two max_three min_three max_four min_four
set_option linter.unusedVariables false
set_option linter.unusedSimpArgs false
def errW : Option Int → Value
  | none => .nilIface
  | some c => .iface 0 (.int .i64 c)
theorem errW_none : errW none = .nilIface := rfl
theorem errW_some (c : Int) : errW (some c) = .iface 0 (.int .i64 c) := rfl
end Go.Proofs.YtcfgmkmllcfjjaaGreatDoor.PValid
namespace Go.Proofs.YtcfgmkmllcfjjaaGreatDoor.PValid
open Go.RowKit Go.Proofs.YtcfgmkmllcfjjaaGreatDoorW.PrintWords Go.Proofs.YtcfgmkmllcfjjaaGreatDoorW.PrintLast Go.Proofs.YtcfgmkmllcfjjaaGreatDoorW.PrintMore
attribute [local go_sem] max2_int min2_int max_two min_two max_three min_three max_four min_four
set_option linter.unusedVariables false
set_option linter.unusedSimpArgs false
theorem eqA67 (d : Nat) (w : World) (x0 y0 : Int) (x1 y1 : Int) (x2 y2 : ByteArray) (x3 y3 : Bool) :
    (Op.equalIn (d + 2) 67 (.agg #[.int .i64 x0, .int .i64 x1, .string x2, .bool x3]) (.agg #[.int .i64 y0, .int .i64 y1, .string y2, .bool y3])).run Tryz.prog w = .ok (x0 == y0 && (x1 == y1 && (x2.toList == y2.toList && (x3 == y3)))) w := by
  refine eqA_of Tryz.underlying67 (by kernel_rfl) ?_
  refine eqf_cons (by rfl) (by go_simp; rfl) (by go_simp; rfl) (by go_simp) ?_
  refine eqf_cons (by rfl) (by go_simp; rfl) (by go_simp; rfl) (by go_simp) ?_
  refine eqf_cons (by rfl) (by go_simp; rfl) (by go_simp; rfl) (by go_simp) ?_
  exact eqf_last (by rfl) (by go_simp; rfl) (by go_simp; rfl) (by go_simp)
end Go.Proofs.YtcfgmkmllcfjjaaGreatDoor.PValid
