import Derived.Test.YtcfgmkmllcfjjaaDoorZImI
import Derived.Test.YtcfgmkmllcfjjaaDoorZImM
import Derived.Laws.AppendOwnNone
set_option linter.unusedVariables false
set_option linter.unusedSimpArgs false
namespace Go.Proofs.YtcfgmkmllcfjjaaDoor
open Go.RowKit Go.Proofs.YtcfgmkmllcfjjaaDoorW.PrintWords Go.Proofs.YtcfgmkmllcfjjaaDoorW.PrintMore PImageForm
section
variable {ops : Array Oper} {rest : List Oper} {o : Oper} {a : Act} {Q : Exit → Act → World → Prop}
theorem wstep_none {W : World} {K : Act → World → Prop} {E : Prop} {base n : Nat} {v : Value} {xs : List Value} (hgd : o.guard = none) (s x : Operand)
    (ho : o.op = .call { callee := .builtin .append, args := #[s, x], argTypes := #[29, 29] }) (hO : W.ownsRow base 5 1 v n xs) (hs : a.eval s = v) (hx : a.eval x = .slice none 0 0)
    (h : K (a.put o.dst v) W) : if Region.wanted o (yielded ops a.tmps) = true then Oper.wp Tryd.prog o a W K Q else E := by
  have hw : Region.wanted o (yielded ops a.tmps) = true := by simp [Region.wanted, hgd]
  rw [if_pos hw]
  obtain ⟨i0, hi, hzz⟩ := Option.map_eq_some_iff.1 info5
  have hrun := run_append_owned_none (P := Tryd.prog) (w := W) base 29 o.type 5 i0 1 Tryd.underlying29 hi v n xs hO
  unfold Oper.wp
  simp [execOp, ho, resolve, invoke, builtin, hs, hx, hrun, Result.andThen]
  exact h
end
theorem WAt.mark {w : World} {gw base : Nat} {l : List Int} {bad : Bool} (h : WAt w gw base l bad) (b : Bool) : WAt (w.setCell ⟨gw, 1, none⟩ (.bool b)) gw base l b ∧ Wr base gw w (w.setCell ⟨gw, 1, none⟩ (.bool b)) := by
  obtain ⟨hgw, A, c, hb, hO⟩ := h
  refine ⟨⟨hgw, A, c, by simp [World.setCell, Array.getElem?_modify, hb], own_move hO (fun k hk => Below.heap_setCell _ _ _ _ (fun e => ?_))⟩, Wr.setCell _ _ Wr.refl hgw rfl⟩
  obtain ⟨cur, hc⟩ := own_typed hO k hk
  have e : k = gw := e
  subst e
  rw [hb] at hc
  injection hc with hc
  injection hc with _ h3
  exact absurd h3 (by decide)
theorem WAt.same {w : World} {gw base c : Nat} {l : List Int} {bad : Bool} {A : Option Addr} (hgw : base ≤ gw) (hb : w.heap[gw]? = some (.cells #[.slice A l.length c, .bool bad] 46 (0, 0))) (hO : w.ownsRow base 5 1 (.slice A l.length c) l.length (nums .u8 l)) :
    WAt (w.setCell ⟨gw, 0, none⟩ (.slice A l.length c)) gw base l bad ∧ Wr base gw w (w.setCell ⟨gw, 0, none⟩ (.slice A l.length c)) := by
  refine ⟨⟨hgw, A, c, by simp [World.setCell, Array.getElem?_modify, hb], own_move hO (fun k hk => Below.heap_setCell _ _ _ _ (fun e => ?_))⟩, Wr.setCell _ _ Wr.refl hgw rfl⟩
  obtain ⟨cur, hc⟩ := own_typed hO k hk
  have e : k = gw := e
  subst e
  rw [hb] at hc
  injection hc with hc
  injection hc with _ h3
  exact absurd h3 (by decide)
theorem WAt.drew {w : World} {gw base : Nat} {l : List Int} {bad : Bool} (h : WAt w gw base l bad) (n : Nat) : WAt (w.drewN n) gw base l bad := h.below (pw_below_drewN (Below.refl _ _) n)
theorem WAt.cells {w : World} {gw base : Nat} {l : List Int} {bad : Bool} (h : WAt w gw base l bad) : ∃ A c, w.cell? ⟨gw, 0, none⟩ = some (.slice A l.length c) ∧ w.cell? ⟨gw, 1, none⟩ = some (.bool bad) ∧ w.frozen? ⟨gw, 0, none⟩ = false ∧ w.frozen? ⟨gw, 1, none⟩ = false ∧ w.ownsRow base 5 1 (.slice A l.length c) l.length (nums .u8 l) := by
  obtain ⟨hgw, A, c, hb, hO⟩ := h
  exact ⟨A, c, (blk_cell hb 0).trans rfl, (blk_cell hb 1).trans rfl, blk_frozen hb 0, blk_frozen hb 1, hO⟩
theorem heap_set {w : World} {p i g : Nat} {v : Value} {o : Obj} (h : w.heap[g]? = some o) (hn : g ≠ p) : (w.setCell ⟨p, i, none⟩ v).heap[g]? = some o := (Below.heap_setCell _ _ _ _ hn).trans h
theorem WAt.setOther {w : World} {gw base p i : Nat} {l : List Int} {bad : Bool} {cs : Array Value} {t : TypeId} (h : WAt w gw base l bad) (hp : w.heap[p]? = some (.cells cs t (0, 0))) (h1 : t ≠ 5) (h2 : t ≠ 46) (v : Value) : WAt (w.setCell ⟨p, i, none⟩ v) gw base l bad := by
  have hn := h.neq hp h2
  obtain ⟨hgw, A, c, hb, hO⟩ := h
  refine ⟨hgw, A, c, heap_set hb (fun e => hn e.symm), own_move hO (fun k hk => Below.heap_setCell _ _ _ _ (fun e => ?_))⟩
  obtain ⟨cur, hc⟩ := own_typed hO k hk
  have e : k = p := e
  subst e
  rw [hp] at hc
  injection hc with hc
  injection hc with _ h3
  exact h1 h3
theorem BRow.set {w : World} {gw base b0 i : Nat} {l l' : List Int} {bad : Bool} {v : Value} (h : BRow w b0 v l') (hW : WAt w gw base l bad) (u : Value) : BRow (w.setCell ⟨gw, i, none⟩ u) b0 v l' := by
  obtain ⟨hgw, A, c, hb, hO⟩ := hW
  refine own_move h (fun k hk => Below.heap_setCell _ _ _ _ (fun e => ?_))
  obtain ⟨cur, hc⟩ := own_typed h k hk
  have e : k = gw := e
  subst e
  rw [hb] at hc
  injection hc with hc
  injection hc with _ h3
  exact absurd h3 (by decide)
theorem Wr.setNew {base gw p i : Nat} {ws w : World} (h : Wr base gw ws w) (hp : ws.heap.size ≤ p) (v : Value) : Wr base gw ws (w.setCell ⟨p, i, none⟩ v) :=
  ⟨h.os, h.tape, h.output, Nat.le_trans h.size (by simp [World.setCell]), fun k hk hn => (Below.heap_setCell _ _ _ _ (fun e => by have e : k = p := e; omega)).trans (h.block k hk hn)⟩
def LBox (w : World) (pl : Nat) (v : Int) : Prop := w.heap[pl]? = some (.cells #[.int .i64 v] 2 (0, 0))
theorem LBox.set {w : World} {pl : Nat} {v : Int} (h : LBox w pl v) (u : Int) : LBox (w.setCell ⟨pl, 0, none⟩ (.int .i64 u)) pl u := by
  unfold LBox at h ⊢
  simp [World.setCell, Array.getElem?_modify, h]
def sub64 (a b : Int) : Int := IntKind.i64.wrap (a - b)
theorem sub64_I64 (a b : Int) : I64 (sub64 a b) := by
  unfold sub64 I64
  rw [IntKind.wrap_i64]
  omega
def encSeen (last : Int) (x : S71) : List Int := puti (sub64 x.f0 last) ++ ([if x.f2 then 1 else 0] ++ encB x.f1)
def SeenPost (w0 ws : World) (gw pb pl : Nat) (l : List Int) (bad : Bool) (last : Int) (e : Ending) (w' : World) : Prop :=
  e = .returned (.tuple #[]) ∧ WAt w' gw w0.heap.size l bad ∧ PBox w' pb gw ∧ LBox w' pl last ∧ Wr w0.heap.size gw ws w'
set_option maxRecDepth 100000 in
set_option maxHeartbeats 4000000 in
theorem wSeen_any {w0 ws w : World} {gw pb pl c1 : Nat} {l : List Int} {bad : Bool} {last : Int} {x : S71} {A1 : Option Addr} (hBs : Below w0.heap.size w0 ws) (hG : GW w0) (hW : WAt w gw w0.heap.size l bad) (hP : PBox w pb gw) (hL : LBox w pl last)
    (hws : Wr w0.heap.size gw ws w) (hpl : ws.heap.size ≤ pl) (hC : Kd.C k66 w0 A1 x.f1.f2.length x.f1.f2) (hc : x.f1.f2.length ≤ c1) (hxl : x.f1.f2.length ≤ 9223372036854775807) (hv : ∀ y ∈ x.f1.f2, I64 y.f1)
    (hl : (l ++ encSeen last x).length ≤ 10000000000000) :
    Calls Tryd.prog 53 #[.agg #[.int .i64 x.f0, .string x.f1.f0, .int .i64 x.f1.f1, .slice A1 x.f1.f2.length c1, .bool x.f2], .pointer (some ⟨pb, 0, none⟩), .pointer (some ⟨pl, 0, none⟩)] w
      fun e w' => SeenPost w0 ws gw pb pl (l ++ encSeen last x) (bad || !(faultN x.f1 == 0)) x.f0 e w' := by
  generalize hW0 : w.alloc (.cells #[.int .i64 x.f0, .string x.f1.f0, .int .i64 x.f1.f1, .slice A1 x.f1.f2.length c1, .bool x.f2] 71) = W0
  have hb0 : Below w.heap.size w W0 := by rw [← hW0]; exact below_new w _
  have hX : W0.heap[w.heap.size]? = some (.cells #[.int .i64 x.f0, .string x.f1.f0, .int .i64 x.f1.f1, .slice A1 x.f1.f2.length c1, .bool x.f2] 71 (0, 0)) := by rw [← hW0]; exact blk_new w _
  have hWa := hW.below hb0
  have hPa := hP.below hb0
  have hLa : LBox W0 pl last := blk_below hL hb0
  have hwa : Wr w0.heap.size gw ws W0 := hws.trans (Wr.of_below hb0)
  have hE : l ++ encSeen last x = ((l ++ puti (sub64 x.f0 last)) ++ [if x.f2 then 1 else 0]) ++ encB x.f1 := by simp only [encSeen, List.append_assoc]
  rw [hE] at hl ⊢
  have hl2 : ((l ++ puti (sub64 x.f0 last)) ++ [if x.f2 then 1 else 0]).length ≤ 10000000000000 := by rw [List.length_append] at hl; omega
  have hl1 : (l ++ puti (sub64 x.f0 last)).length ≤ 10000000000000 := by rw [List.length_append] at hl2; omega
  have HL := Lib.hid hl
  have HL2 := Lib.hid hl2
  have hle : (encB x.f1).length ≤ 10000000000000 := by rw [List.length_append] at hl; omega
  have HLE := Lib.hid hle
  have hN := num_hl hWa (sub64_I64 x.f0 last) hl1
  have hsz : W0.heap.size = w.heap.size + 1 := by rw [← hW0]; simp
  rw [hsz] at hN
  have HN := Lib.hid hN
  have HXG := Lib.hid (hWa.neq hX (by decide))
  have HXL := Lib.hid (show w.heap.size ≠ pl from blk_ne hX hLa (by decide))
  have HPL := Lib.hid (show pb ≠ pl from blk_ne hPa hLa (by decide))
  have HGL := Lib.hid (show pl ≠ gw from hWa.neq hLa (by decide))
  have HPG := Lib.hid (show pb ≠ gw from hWa.neq hPa (by decide))
  clear hN hsz
  have hd : IntKind.i64.wrap (x.f0 - last) = sub64 x.f0 last := rfl
  have p0 : W0.cell? ⟨pb, 0, none⟩ = some (.pointer (some ⟨gw, 0, none⟩)) := (blk_cell hPa 0).trans rfl
  have l0 : W0.cell? ⟨pl, 0, none⟩ = some (.int .i64 last) := (blk_cell hLa 0).trans rfl
  have x0 : W0.cell? ⟨w.heap.size, 0, none⟩ = some (.int .i64 x.f0) := (blk_cell hX 0).trans rfl
  have HX := Lib.hid hX
  have HWA := Lib.hid hWa
  have HPA := Lib.hid hPa
  have HLA := Lib.hid hLa
  have HBS := Lib.hid (show ∀ W, Wr w0.heap.size gw ws W → Below w0.heap.size w0 W from fun W hW => hBs.trans (hW.below hBs.size))
  have HWS := Lib.hid hwa
  have HG := Lib.hid hG
  have HC := Lib.hid hC
  have HV := Lib.hid hv
  clear hW hP hL hws hBs hG hC hv hb0 hX hWa hPa hLa hwa hE hl hl1 hl2 hle
  generalize sub64 x.f0 last = d at *
  generalize l ++ puti d = L1 at *
  generalize hT : [if x.f2 then (1 : Int) else 0] = tl at *
  have HT := Lib.hid hT
  clear hT
  generalize hR : L1 ++ tl ++ encB x.f1 = R
  generalize hMk : (bad || !(faultN x.f1 == 0)) = mk
  have HRR := Lib.hid hR
  have HMK := Lib.hid hMk
  clear hR hMk
  subst hW0
  go_enter Tryd.func53, Tryd.ntmps53
  go_wp2_with (first
    | (go_at_call 33; go_loud (refine HN.out.mono ?_; rintro e w1 ⟨rfl, hA1, hR1⟩; have hX1 := Wr.blk hR1 HX.out HXG.out (by decide); have hL1 : LBox w1 pl last := Wr.blk hR1 HLA.out HGL.out (by decide); have hP1 := HPA.out.wr HWA.out hR1; have fz1 := blk_frozen hL1 0; have cl1 : w1.cell? ⟨pl, 0, none⟩ = some (.int .i64 last) := (blk_cell hL1 0).trans rfl; have cx1 : w1.cell? ⟨w.heap.size, 0, none⟩ = some (.int .i64 x.f0) := (blk_cell hX1 0).trans rfl; have HX2 := Lib.hid (heap_set (i := 0) (v := .int .i64 x.f0) hX1 HXL.out); have hP2 : PBox (w1.setCell ⟨pl, 0, none⟩ (.int .i64 x.f0)) pb gw := heap_set hP1 HPL.out; have HP2 := Lib.hid hP2; have HA2 := Lib.hid (hA1.setOther (i := 0) hL1 (by decide) (by decide) (.int .i64 x.f0)); have HL2' := Lib.hid (hL1.set x.f0); have HW2 := Lib.hid (Wr.setNew (i := 0) (HWS.out.trans hR1) hpl (.int .i64 x.f0)); have cp2 : (w1.setCell ⟨pl, 0, none⟩ (.int .i64 x.f0)).cell? ⟨pb, 0, none⟩ = some (.pointer (some ⟨gw, 0, none⟩)) := (blk_cell hP2 0).trans rfl; have cx2 : (w1.setCell ⟨pl, 0, none⟩ (.int .i64 x.f0)).cell? ⟨w.heap.size, 4, none⟩ = some (.bool x.f2) := (blk_cell HX2.out 4).trans rfl; clear hA1 hR1 hX1 hL1 hP1 hP2 HX HWA HPA HLA HWS p0 l0 x0 HN))
    | (go_at_call 48; go_loud (refine (truth_any gw w0.heap.size _ bad x.f2 _ HA2.out (by have := HL2.out; rw [List.length_append] at this; omega)).mono ?_; rintro e w3 ⟨rfl, hA3, hR3⟩; rw [HT.out] at hA3; have hX3 := Wr.blk hR3 HX2.out HXG.out (by decide); have hL3 : LBox w3 pl x.f0 := Wr.blk hR3 HL2'.out HGL.out (by decide); have hP3 := HP2.out.wr HA2.out hR3; have HX3 := Lib.hid hX3; have HL3 := Lib.hid hL3; have HP3 := Lib.hid hP3; have HA3 := Lib.hid hA3; have hW3 := HW2.out.trans hR3; have HW3 := Lib.hid hW3; have HEN := Lib.hid (Encode_any (HG.out.below (HBS.out _ hW3)) (Kd.C_below HC.out (HBS.out _ hW3)) hc hxl HV.out HLE.out); have cx3 : w3.cell? ⟨w.heap.size, 1, none⟩ = some (.string x.f1.f0) := (blk_cell hX3 1).trans rfl; have cx4 : w3.cell? ⟨w.heap.size, 2, none⟩ = some (.int .i64 x.f1.f1) := (blk_cell hX3 2).trans rfl; have cx5 : w3.cell? ⟨w.heap.size, 3, none⟩ = some (.slice A1 x.f1.f2.length c1) := (blk_cell hX3 3).trans rfl; clear hA3 hR3 hX3 hL3 hP3 hW3 HX2 HP2 HA2 HL2' HW2 cp2 cx2))
    | (go_at_call 54; go_loud (refine HEN.out.mono ?_; rintro e w4 ⟨v4, rfl, hO4, hN4, hB4⟩; have HN4 := Lib.hid hN4; have HX4 := Lib.hid (blk_below HX3.out hB4); have HL4 : Hid (LBox w4 pl x.f0) := Lib.hid (blk_below HL3.out hB4); have HP4 := Lib.hid (HP3.out.below hB4); have HA4 := Lib.hid (HA3.out.below hB4); have HW4 := Lib.hid (HW3.out.trans (Wr.of_below hB4)); have HO4 := Lib.hid hO4; have HSZ := Lib.hid HA3.out.lt; have cp4 : w4.cell? ⟨pb, 0, none⟩ = some (.pointer (some ⟨gw, 0, none⟩)) := (blk_cell HP4.out 0).trans rfl; obtain ⟨A4, c4, g0, g1, gf0, gf1, hO5⟩ := HA4.out.cells; have HO5 := Lib.hid hO5; clear hO4 hN4 hB4 HX3 HL3 HP3 HA3 HW3 HEN cx3 cx4 cx5 hO5)))
  have HM := Lib.hid (fun b => HA4.out.mark b)
  have HP5 := Lib.hid (show ∀ b : Bool, PBox (w4.setCell ⟨gw, 1, none⟩ (.bool b)) pb gw from fun b => heap_set HP4.out HPG.out)
  have HL5 := Lib.hid (show ∀ b : Bool, LBox (w4.setCell ⟨gw, 1, none⟩ (.bool b)) pl x.f0 from fun b => heap_set HL4.out HGL.out)
  have HO5' := Lib.hid (show ∀ b : Bool, BRow (w4.setCell ⟨gw, 1, none⟩ (.bool b)) w3.heap.size v4 (encB x.f1) from fun b => HO4.out.set HA4.out (.bool b))
  have HLL := Lib.hid (show (L1 ++ tl).length + (encB x.f1).length ≤ 140737488355328 by have := HL.out; rw [List.length_append] at this; omega)
  have HEB := Lib.hid (show faultN x.f1 ≠ 0 → encB x.f1 = [] from fun h => if_neg h)
  have HEP := Lib.hid (show faultN x.f1 = 0 → 0 < (encB x.f1).length from fun h => by
    have h1 : encB x.f1 = encEvent x.f1 := if_pos h
    have := txt_ge x.f1.f0
    rw [h1, encEvent, List.length_append]
    omega)
  generalize encB x.f1 = eb at *
  generalize faultN x.f1 = F at *
  generalize L1 ++ tl = L2 at *
  by_cases hf : F = 0
  · subst hf
    replace HEP := Lib.hid (HEP.out rfl)
    cases bad
    · have hA6 := (HM.out false).1
      have HA6 := Lib.hid hA6
      obtain ⟨hgw, A6, c6, hb6, hO6⟩ := hA6
      have HB6 := Lib.hid hb6
      have HO6 := Lib.hid hO6
      have p6 : (w4.setCell ⟨gw, 1, none⟩ (.bool false)).cell? ⟨pb, 0, none⟩ = some (.pointer (some ⟨gw, 0, none⟩)) := (blk_cell (HP5.out false) 0).trans rfl
      have g6 : (w4.setCell ⟨gw, 1, none⟩ (.bool false)).cell? ⟨gw, 0, none⟩ = some (.slice A6 L2.length c6) := (blk_cell hb6 0).trans rfl
      have f6 : (w4.setCell ⟨gw, 1, none⟩ (.bool false)).frozen? ⟨gw, 0, none⟩ = false := blk_frozen hb6 0
      obtain ⟨g4, c5, hv4, _, _⟩ := (HO5'.out false).form HEP.out
      subst hv4
      have HR6 := Lib.hid ((HO5'.out false).cells (g := g4) rfl)
      clear hO6 hb6
      first | go_region_law (fail) | fail
      all_goals
        go_wp2_with fail
        go_region_law ((refine wstep_row (w0 := w4.setCell ⟨gw, 1, none⟩ (.bool false)) (by rfl) _ _ (by rfl) hgw HB6.out HO6.out (by repeat (first | exact Below.refl _ _ | apply below_drew | apply pw_below_drewN)) eb HEP.out ⟨g4, 0, none⟩ _ _ (by rfl) (by exact HR6.out) (by rfl) (by rfl) HLL.out ?_; intro A7 n7 c7 w7 hc7 hf7 hk7 h7; have p7 : w7.cell? ⟨pb, 0, none⟩ = some (.pointer (some ⟨gw, 0, none⟩)) := (blk_cell (Wr.blk hk7 (HP5.out false) HPG.out (by decide)) 0).trans rfl))
        all_goals
          go_wp2_with fail
          go_end0
          exact ⟨rfl, by rw [← HRR.out, ← HMK.out]; exact h7.out.1, (HP5.out false).wr HA6.out h7.out.2, Wr.blk h7.out.2 (HL5.out false) HGL.out (by decide), HW4.out.trans ((HM.out false).2.trans h7.out.2)⟩
    · have hA6 := (HM.out true).1
      have HA6 := Lib.hid hA6
      obtain ⟨hgw, A6, c6, hb6, hO6⟩ := hA6
      have HB6 := Lib.hid hb6
      have HO6 := Lib.hid hO6
      have p6 : (w4.setCell ⟨gw, 1, none⟩ (.bool true)).cell? ⟨pb, 0, none⟩ = some (.pointer (some ⟨gw, 0, none⟩)) := (blk_cell (HP5.out true) 0).trans rfl
      have g6 : (w4.setCell ⟨gw, 1, none⟩ (.bool true)).cell? ⟨gw, 0, none⟩ = some (.slice A6 L2.length c6) := (blk_cell hb6 0).trans rfl
      have f6 : (w4.setCell ⟨gw, 1, none⟩ (.bool true)).frozen? ⟨gw, 0, none⟩ = false := blk_frozen hb6 0
      obtain ⟨g4, c5, hv4, _, _⟩ := (HO5'.out true).form HEP.out
      subst hv4
      have HR6 := Lib.hid ((HO5'.out true).cells (g := g4) rfl)
      clear hO6 hb6
      first | go_region_law (fail) | fail
      all_goals
        go_wp2_with fail
        go_region_law ((refine wstep_row (w0 := w4.setCell ⟨gw, 1, none⟩ (.bool true)) (by rfl) _ _ (by rfl) hgw HB6.out HO6.out (by repeat (first | exact Below.refl _ _ | apply below_drew | apply pw_below_drewN)) eb HEP.out ⟨g4, 0, none⟩ _ _ (by rfl) (by exact HR6.out) (by rfl) (by rfl) HLL.out ?_; intro A7 n7 c7 w7 hc7 hf7 hk7 h7; have p7 : w7.cell? ⟨pb, 0, none⟩ = some (.pointer (some ⟨gw, 0, none⟩)) := (blk_cell (Wr.blk hk7 (HP5.out true) HPG.out (by decide)) 0).trans rfl))
        all_goals
          go_wp2_with fail
          go_end0
          exact ⟨rfl, by rw [← HRR.out, ← HMK.out]; exact h7.out.1, (HP5.out true).wr HA6.out h7.out.2, Wr.blk h7.out.2 (HL5.out true) HGL.out (by decide), HW4.out.trans ((HM.out true).2.trans h7.out.2)⟩
  · have hv4 := HN4.out hf
    subst hv4
    replace HEB := HEB.out hf
    have t1 : (F != 0) = true := by simpa using hf
    have t2 : (F == 0) = false := by simpa using hf
    clear hf
    cases bad
    · have hA6 := (HM.out true).1
      have HA6 := Lib.hid hA6
      obtain ⟨hgw, A6, c6, hb6, hO6⟩ := hA6
      have HB6 := Lib.hid hb6
      have HO6 := Lib.hid hO6
      have p6 : (w4.setCell ⟨gw, 1, none⟩ (.bool true)).cell? ⟨pb, 0, none⟩ = some (.pointer (some ⟨gw, 0, none⟩)) := (blk_cell (HP5.out true) 0).trans rfl
      have g6 : (w4.setCell ⟨gw, 1, none⟩ (.bool true)).cell? ⟨gw, 0, none⟩ = some (.slice A6 L2.length c6) := (blk_cell hb6 0).trans rfl
      have f6 : (w4.setCell ⟨gw, 1, none⟩ (.bool true)).frozen? ⟨gw, 0, none⟩ = false := blk_frozen hb6 0
      clear hO6 hb6
      first | go_region_law (fail) | fail
      all_goals
        go_wp2_with fail
        go_region_law ((refine wstep_none (base := w0.heap.size) (n := L2.length) (xs := nums .u8 L2) (by rfl) _ _ (by rfl) (by exact HO6.out) (by rfl) (by rfl) ?_))
        all_goals
          go_wp2_with fail
          go_end0
          have h7 := WAt.same hgw HB6.out HO6.out
          have h8 := fun W' hb => And.intro (WAt.below (w' := W') h7.1 hb) (h7.2.trans (Wr.of_below (w1 := W') hb))
          exact ⟨rfl, by rw [← HRR.out, ← HMK.out, HEB, List.append_nil, t2]; exact (h8 _ (by repeat (first | exact Below.refl _ _ | apply below_drew | apply pw_below_drewN))).1, (HP5.out true).wr HA6.out (h8 _ (by repeat (first | exact Below.refl _ _ | apply below_drew | apply pw_below_drewN))).2, Wr.blk (h8 _ (by repeat (first | exact Below.refl _ _ | apply below_drew | apply pw_below_drewN))).2 (HL5.out true) HGL.out (by decide), HW4.out.trans ((HM.out true).2.trans (h8 _ (by repeat (first | exact Below.refl _ _ | apply below_drew | apply pw_below_drewN))).2)⟩
    · have hA6 := (HM.out true).1
      have HA6 := Lib.hid hA6
      obtain ⟨hgw, A6, c6, hb6, hO6⟩ := hA6
      have HB6 := Lib.hid hb6
      have HO6 := Lib.hid hO6
      have p6 : (w4.setCell ⟨gw, 1, none⟩ (.bool true)).cell? ⟨pb, 0, none⟩ = some (.pointer (some ⟨gw, 0, none⟩)) := (blk_cell (HP5.out true) 0).trans rfl
      have g6 : (w4.setCell ⟨gw, 1, none⟩ (.bool true)).cell? ⟨gw, 0, none⟩ = some (.slice A6 L2.length c6) := (blk_cell hb6 0).trans rfl
      have f6 : (w4.setCell ⟨gw, 1, none⟩ (.bool true)).frozen? ⟨gw, 0, none⟩ = false := blk_frozen hb6 0
      clear hO6 hb6
      first | go_region_law (fail) | fail
      all_goals
        go_wp2_with fail
        go_region_law ((refine wstep_none (base := w0.heap.size) (n := L2.length) (xs := nums .u8 L2) (by rfl) _ _ (by rfl) (by exact HO6.out) (by rfl) (by rfl) ?_))
        all_goals
          go_wp2_with fail
          go_end0
          have h7 := WAt.same hgw HB6.out HO6.out
          have h8 := fun W' hb => And.intro (WAt.below (w' := W') h7.1 hb) (h7.2.trans (Wr.of_below (w1 := W') hb))
          exact ⟨rfl, by rw [← HRR.out, ← HMK.out, HEB, List.append_nil, t2]; exact (h8 _ (by repeat (first | exact Below.refl _ _ | apply below_drew | apply pw_below_drewN))).1, (HP5.out true).wr HA6.out (h8 _ (by repeat (first | exact Below.refl _ _ | apply below_drew | apply pw_below_drewN))).2, Wr.blk (h8 _ (by repeat (first | exact Below.refl _ _ | apply below_drew | apply pw_below_drewN))).2 (HL5.out true) HGL.out (by decide), HW4.out.trans ((HM.out true).2.trans (h8 _ (by repeat (first | exact Below.refl _ _ | apply below_drew | apply pw_below_drewN))).2)⟩
end Go.Proofs.YtcfgmkmllcfjjaaDoor
