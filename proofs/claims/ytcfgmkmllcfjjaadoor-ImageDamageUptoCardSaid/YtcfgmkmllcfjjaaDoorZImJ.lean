import Derived.Test.YtcfgmkmllcfjjaaDoorZImH
import Derived.BigQuiet
set_option linter.unusedVariables false
set_option linter.unusedSimpArgs false
namespace Go.Proofs.YtcfgmkmllcfjjaaDoor
open Go.RowKit Go.Proofs.YtcfgmkmllcfjjaaDoorW.PrintWords Go.Proofs.YtcfgmkmllcfjjaaDoorW.PrintMore PImageForm
def BRow (w : World) (base : Nat) (v : Value) (l : List Int) : Prop := w.ownsRow base 5 1 v l.length (nums .u8 l)
def BPost (w0 : World) (l : List Int) (e : Ending) (w' : World) : Prop := ∃ v, e = .returned v ∧ BRow w' w0.heap.size v l ∧ Below w0.heap.size w0 w'
theorem BRow.below {w w' : World} {base : Nat} {v : Value} {l : List Int} (h : BRow w base v l) (hB : Below w.heap.size w w') : BRow w' base v l := own_move h (fun k hk => hB.block k (own_lt h k hk))
theorem BRow.nil (w : World) (base : Nat) : BRow w base (.slice none 0 0) [] := World.ownsRow_nil w base 5 1
theorem wputInt {w0 w : World} {v : Value} {l : List Int} {n : Int} (hB : Below w0.heap.size w0 w) (hO : BRow w w0.heap.size v l) (hn : I64 n) (hl : l.length ≤ 140000000000000) :
    Calls Tryd.prog 63 #[v, .int .i64 n] w fun e w' => BPost w0 (l ++ puti n) e w' := by
  have hR : Kd.R (Kd.int .u8) 5 w w0.heap.size (fun _ => True) v l := Kd.R_of_own hO (fun _ _ => trivial)
  refine (wire_putInt.calls 20 (fun _ => True) v l n (l ++ puti n) w0 w hB hR (putInt_f hn (by omega) (by omega))).mono ?_
  rintro e w' ⟨v', rfl, hr, hb, _⟩
  have ho := Kd.own_of_R hr
  exact ⟨v', rfl, ho, hb⟩
set_option maxHeartbeats 1000000 in
theorem wputStr {w0 w : World} {v : Value} {l : List Int} {s : ByteArray} (hB : Below w0.heap.size w0 w) (hO : BRow w w0.heap.size v l) (hl : (l ++ txt s).length ≤ 10000000000000) :
    Calls Tryd.prog 65 #[v, .string s] w fun e w' => BPost w0 (l ++ txt s) e w' := by
  have hg := txt_ge s
  have hs : (puti s.size).length + s.size = (txt s).length := by rw [txt, List.length_append, bytesOf_length]
  rw [List.length_append] at hl
  have HP := Lib.hid (wputInt hB hO (n := s.size) ⟨by omega, by omega⟩ (by omega))
  have HL := Lib.hid (show (l ++ puti s.size).length + s.size ≤ 140737488355328 by rw [List.length_append]; omega)
  have HE := Lib.hid (show l ++ txt s = (l ++ puti s.size) ++ bytesOf s by rw [txt, List.append_assoc])
  clear hB hO hg hs hl
  generalize l ++ puti s.size = l1 at *
  go_enter Tryd.func65, Tryd.ntmps65
  go_wp2_with (first
    | (go_at_call 63; refine HP.out.mono ?_; rintro e w1 ⟨v1, rfl, hO1, hB1⟩; have HO1 := Lib.hid hO1; have HB1 := Lib.hid hB1; clear hO1 hB1)
    | (at_builtin; refine print_append_str (w0 := w0) w0.heap.size rfl _ _ 29 9 5 rfl Tryd.underlying29 Tryd.underlying9 info5 _ l1 s rfl rfl HO1.out HB1.out HB1.out.size HL.out ?_; intro v2 w2 hO2 hB2 hg2))
  go_ret
  exact ⟨v2, rfl, by rw [HE.out]; exact hO2, hB2⟩
inductive ValOk : S66 → Prop
  | int (n : Int) (h : I64 n) : ValOk ⟨1, n, ⟨#[]⟩, false⟩
  | str (s : ByteArray) (h : s.size ≤ 256) : ValOk ⟨2, 0, s, false⟩
  | bool (b : Bool) : ValOk ⟨3, 0, ⟨#[]⟩, b⟩
def encVal (x : S66) : List Int := x.f0 :: (if x.f0 = 1 then puti x.f1 else if x.f0 = 2 then txt x.f2 else [if x.f3 then 1 else 0])
section
variable {ops : Array Oper} {rest : List Oper} {o : Oper} {a : Act} {Q : Exit → Act → World → Prop}
theorem bapp {w0 W : World} (H : Nat) (hH : W.heap.size = H) (hgd : o.guard = none) (s x : Operand) (ho : o.op = .call { callee := .builtin .append, args := #[s, x], argTypes := #[29, 29] })
    (v : Value) (l : List Int) (y : Int) (hs : a.eval s = v) (hx : a.eval x = .slice (some ⟨H, 0, none⟩) 1 1) (HO : BRow W w0.heap.size v l) (HB : Below w0.heap.size w0 W) (hl : (l.length + 1) * 1 ≤ 140737488355328)
    (h : ∀ v1 w1, Hid (BRow w1 w0.heap.size v1 (l ++ [y])) → Hid (Below w0.heap.size w0 w1) → W.grownBy w1 v.ownBlock → wpList Tryd.prog ops Q rest (a.put o.dst v1) w1) :
    wpList Tryd.prog ops Q (o :: rest) a (W.alloc (.cells #[.int .u8 y] 5)) := by
  subst hH
  refine print_append_num (w0 := w0) w0.heap.size hgd s x 29 5 .u8 1 ho Tryd.underlying29 info5 (by decide) v l y hs hx HO HB HB.size hl ?_
  intro v1 w1 hO1 hB1 hg1 _
  exact h v1 w1 (Lib.hid hO1) (Lib.hid hB1) hg1
end
set_option maxHeartbeats 1000000 in
theorem wputVal {w0 w : World} {v : Value} {l : List Int} {x : S66} (hx : ValOk x) (hB : Below w0.heap.size w0 w) (hO : BRow w w0.heap.size v l) (hl : (l ++ encVal x).length ≤ 10000000000000) :
    Calls Tryd.prog 66 #[v, .agg #[.int .i64 x.f0, .int .i64 x.f1, .string x.f2, .bool x.f3]] w fun e w' => BPost w0 (l ++ encVal x) e w' := by
  have hl0 : (l.length + 1) * 1 ≤ 140737488355328 := by rw [List.length_append] at hl; omega
  have HL0 := Lib.hid hl0
  have HL1 := Lib.hid (show ∀ y : Int, ((l ++ [y]).length + 1) * 1 ≤ 140737488355328 from fun y => by rw [List.length_append] at hl ⊢; rw [List.length_singleton]; omega)
  have HL2 := Lib.hid (show ∀ y : Int, (l ++ [y]).length ≤ 140000000000000 from fun y => by rw [List.length_append] at hl ⊢; rw [List.length_singleton]; omega)
  rcases hx with ⟨n, hn⟩ | ⟨s, hs⟩ | ⟨b⟩
  · have hE : l ++ encVal ⟨1, n, ⟨#[]⟩, false⟩ = (l ++ [1]) ++ puti n := by simp [encVal]
    rw [hE]
    generalize hZ : (l ++ [1]) ++ puti n = Z
    have HZ := Lib.hid hZ
    have hb0 := below_new w (.cells #[.int .i64 1, .int .i64 n, .string ⟨#[]⟩, .bool false] 66)
    have HO := Lib.hid (hO.below hb0)
    have HB := Lib.hid (below_then hB hB.size hb0)
    have hX := blk_new w (.cells #[.int .i64 1, .int .i64 n, .string ⟨#[]⟩, .bool false] 66)
    have HX := Lib.hid hX
    have HXO := Lib.hid (show some w.heap.size ≠ v.ownBlock from fun he => by have := own_lt hO _ he.symm; omega)
    clear hB hO hb0 hX hl0 hl hE hZ
    go_enter Tryd.func66, Tryd.ntmps66
    go_wp2_with (first
      | (at_builtin; refine bapp (w0 := w0) (w.heap.size + 1) (by simp) rfl _ _ rfl v l 1 rfl rfl HO.out HB.out HL0.out ?_; intro v1 w1 HO1 HB1 hg1; have hx1 := blk_grown HX.out hg1 HXO.out; have c0 : w1.cell? ⟨w.heap.size, 0, none⟩ = some (.int .i64 1) := (blk_cell hx1 0).trans rfl; have c1 : w1.cell? ⟨w.heap.size, 1, none⟩ = some (.int .i64 n) := (blk_cell hx1 1).trans rfl; clear hg1 hx1)
      | (go_at_call 63; refine (wputInt HB1.out HO1.out hn (HL2.out 1)).mono ?_; rintro e w2 ⟨v2, rfl, hO2, hB2⟩))
    go_ret
    exact ⟨v2, rfl, by rw [← HZ.out]; exact hO2, hB2⟩
  · have hE : l ++ encVal ⟨2, 0, s, false⟩ = (l ++ [2]) ++ txt s := by simp [encVal]
    rw [hE] at hl ⊢
    have HL := Lib.hid hl
    generalize hZ : (l ++ [2]) ++ txt s = Z
    have HZ := Lib.hid hZ
    have hb0 := below_new w (.cells #[.int .i64 2, .int .i64 0, .string s, .bool false] 66)
    have HO := Lib.hid (hO.below hb0)
    have HB := Lib.hid (below_then hB hB.size hb0)
    have hX := blk_new w (.cells #[.int .i64 2, .int .i64 0, .string s, .bool false] 66)
    have HX := Lib.hid hX
    have HXO := Lib.hid (show some w.heap.size ≠ v.ownBlock from fun he => by have := own_lt hO _ he.symm; omega)
    clear hB hO hb0 hX hl0 hl hE hZ
    go_enter Tryd.func66, Tryd.ntmps66
    go_wp2_with (first
      | (at_builtin; refine bapp (w0 := w0) (w.heap.size + 1) (by simp) rfl _ _ rfl v l 2 rfl rfl HO.out HB.out HL0.out ?_; intro v1 w1 HO1 HB1 hg1; have hx1 := blk_grown HX.out hg1 HXO.out; have c0 : w1.cell? ⟨w.heap.size, 0, none⟩ = some (.int .i64 2) := (blk_cell hx1 0).trans rfl; have c1 : w1.cell? ⟨w.heap.size, 2, none⟩ = some (.string s) := (blk_cell hx1 2).trans rfl; clear hg1 hx1)
      | (go_at_call 65; refine (wputStr HB1.out HO1.out HL.out).mono ?_; rintro e w2 ⟨v2, rfl, hO2, hB2⟩))
    go_ret
    exact ⟨v2, rfl, by rw [← HZ.out]; exact hO2, hB2⟩
  · have hE : l ++ encVal ⟨3, 0, ⟨#[]⟩, b⟩ = (l ++ [3]) ++ [if b then 1 else 0] := by simp [encVal]
    rw [hE]
    generalize hZ : (l ++ [3]) ++ [if b then 1 else 0] = Z
    have HZ := Lib.hid hZ
    have hb0 := below_new w (.cells #[.int .i64 3, .int .i64 0, .string ⟨#[]⟩, .bool b] 66)
    have HO := Lib.hid (hO.below hb0)
    have HB := Lib.hid (below_then hB hB.size hb0)
    have hX := blk_new w (.cells #[.int .i64 3, .int .i64 0, .string ⟨#[]⟩, .bool b] 66)
    have HX := Lib.hid hX
    have HXO := Lib.hid (show some w.heap.size ≠ v.ownBlock from fun he => by have := own_lt hO _ he.symm; omega)
    clear hB hO hb0 hX hl0 hl hE hZ
    cases b
    · go_enter Tryd.func66, Tryd.ntmps66
      go_wp2_with (first
        | (at_builtin; refine bapp (w0 := w0) (w.heap.size + 1) (by simp) rfl _ _ rfl v l 3 rfl rfl HO.out HB.out HL0.out ?_; intro v1 w1 HO1 HB1 hg1; have hx1 := blk_grown HX.out hg1 HXO.out; have c0 : w1.cell? ⟨w.heap.size, 0, none⟩ = some (.int .i64 3) := (blk_cell hx1 0).trans rfl; have c1 : w1.cell? ⟨w.heap.size, 1, none⟩ = some (.int .i64 0) := (blk_cell hx1 1).trans rfl; have c2 : w1.cell? ⟨w.heap.size, 2, none⟩ = some (.string ⟨#[]⟩) := (blk_cell hx1 2).trans rfl; have c3 : w1.cell? ⟨w.heap.size, 3, none⟩ = some (.bool false) := (blk_cell hx1 3).trans rfl; clear hg1 hx1)
        | (at_builtin; refine bapp (w0 := w0) w1.heap.size rfl rfl _ _ rfl v1 (l ++ [3]) 0 rfl rfl HO1.out HB1.out (HL1.out 3) ?_; intro v2 w2 HO2 HB2 hg2))
      go_ret
      exact ⟨v2, rfl, by rw [← HZ.out]; exact HO2.out, HB2.out⟩
    · go_enter Tryd.func66, Tryd.ntmps66
      go_wp2_with (first
        | (at_builtin; refine bapp (w0 := w0) (w.heap.size + 1) (by simp) rfl _ _ rfl v l 3 rfl rfl HO.out HB.out HL0.out ?_; intro v1 w1 HO1 HB1 hg1; have hx1 := blk_grown HX.out hg1 HXO.out; have c0 : w1.cell? ⟨w.heap.size, 0, none⟩ = some (.int .i64 3) := (blk_cell hx1 0).trans rfl; have c1 : w1.cell? ⟨w.heap.size, 1, none⟩ = some (.int .i64 0) := (blk_cell hx1 1).trans rfl; have c2 : w1.cell? ⟨w.heap.size, 2, none⟩ = some (.string ⟨#[]⟩) := (blk_cell hx1 2).trans rfl; have c3 : w1.cell? ⟨w.heap.size, 3, none⟩ = some (.bool true) := (blk_cell hx1 3).trans rfl; clear hg1 hx1)
        | (at_builtin; refine bapp (w0 := w0) w1.heap.size rfl rfl _ _ rfl v1 (l ++ [3]) 1 rfl rfl HO1.out HB1.out (HL1.out 3) ?_; intro v2 w2 HO2 HB2 hg2))
      go_ret
      exact ⟨v2, rfl, by rw [← HZ.out]; exact HO2.out, HB2.out⟩
end Go.Proofs.YtcfgmkmllcfjjaaDoor
