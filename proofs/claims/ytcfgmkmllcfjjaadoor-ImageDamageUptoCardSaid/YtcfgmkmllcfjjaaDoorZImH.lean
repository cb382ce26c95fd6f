import Derived.Test.YtcfgmkmllcfjjaaDoorZImG
set_option linter.unusedVariables false
set_option linter.unusedSimpArgs false
namespace Go.Proofs.YtcfgmkmllcfjjaaDoor
open Go.RowKit Go.Proofs.YtcfgmkmllcfjjaaDoorW.PrintWords Go.Proofs.YtcfgmkmllcfjjaaDoorW.PrintMore PImageForm
def encAttrs (xs : List S61) : List Int := puti xs.length ++ xs.flatMap encAttr
def encType (x : S64) : List Int := txt x.f0 ++ encAttrs x.f1
def encTypes (xs : List S64) : List Int := puti xs.length ++ xs.flatMap encType
def encSaved (x : S57) : List Int := txt x.f0 ++ (txt x.f1 ++ (puti x.f2 ++ [if x.f3 then 1 else 0]))
def encSaveds (xs : List S57) : List Int := puti xs.length ++ xs.flatMap encSaved
theorem txt_ge (s : ByteArray) : s.size + 1 ≤ (txt s).length := by
  have := puti_pos (s.size : Int)
  rw [txt, List.length_append, bytesOf_length]
  omega
theorem text_hl {gw base : Nat} {l : List Int} {bad : Bool} {s : ByteArray} {w : World} (hW : WAt w gw base l bad) (hl : (l ++ txt s).length ≤ 10000000000000) :
    Calls Tryd.prog 37 #[.pointer (some ⟨gw, 0, none⟩), .string s] w fun e w' => Wrote gw base (l ++ txt s) bad w e w' := by
  have := txt_ge s
  rw [List.length_append] at hl
  exact text_any gw base l bad s w hW (by omega) (by omega)
theorem num_hl {gw base : Nat} {l : List Int} {bad : Bool} {n : Int} {w : World} (hW : WAt w gw base l bad) (hn : I64 n) (hl : (l ++ puti n).length ≤ 10000000000000) :
    Calls Tryd.prog 33 #[.pointer (some ⟨gw, 0, none⟩), .slice (some ⟨w.heap.size, 0, none⟩) 1 1] (w.alloc (.cells #[.int .i64 n] 2)) fun e w' => Wrote gw base (l ++ puti n) bad w e w' := by
  have hb0 := below_new w (.cells #[.int .i64 n] 2)
  have h := numbers_any gw base w.heap.size 1 l [n] bad (w.alloc (.cells #[.int .i64 n] 2)) (hW.below hb0) (blk_new w _) (by intro m hm; rw [List.mem_singleton] at hm; rw [hm]; exact hn) (by simp) (by simp) (by rw [List.length_append] at hl; simp only [List.length_singleton]; omega)
  rw [show putis [n] = puti n by simp [putis]] at h
  exact h.mono (fun e w' ⟨h1, h2, h3⟩ => ⟨h1, h2, (Wr.of_below hb0).trans h3⟩)
def LSt (w : World) (gw base pb : Nat) (l : List Int) (bad : Bool) (W : World) : Prop := WAt W gw base l bad ∧ Wr base gw w W ∧ PBox W pb gw
theorem take_flat {α : Type} (f : α → List Int) (l : List Int) (xs : List α) (k : Nat) (hk : k < xs.length) : l ++ (xs.take (k + 1)).flatMap f = (l ++ (xs.take k).flatMap f) ++ f xs[k] := by
  rw [List.take_add_one, List.getElem?_eq_getElem hk, List.flatMap_append, List.append_assoc]
  simp
theorem take_le {α : Type} (f : α → List Int) (l : List Int) (xs : List α) (k : Nat) : (l ++ (xs.take k).flatMap f).length ≤ (l ++ xs.flatMap f).length := by
  conv => rhs; rw [← List.take_append_drop k xs, List.flatMap_append]
  simp only [List.length_append]
  omega
theorem LSt.below {w w0 W : World} {gw pb : Nat} {l : List Int} {bad : Bool} (h : LSt w gw w0.heap.size pb l bad W) (hB : Below w0.heap.size w0 w) : Below w0.heap.size w0 W :=
  hB.trans (h.2.1.below hB.size)
theorem LSt.step {w W W' : World} {gw base pb : Nat} {l l' : List Int} {bad : Bool} {o : Obj} (h : LSt w gw base pb l bad W) (k : WAt W' gw base l' bad) (hr : Wr base gw (W.alloc o) W') : LSt w gw base pb l' bad W' := by
  have hb := below_new W o
  exact ⟨k, h.2.1.trans ((Wr.of_below hb).trans hr), (h.2.2.below hb).wr (h.1.below hb) hr⟩
theorem flat_ge {α : Type} (f : α → List Int) (h : ∀ x, 1 ≤ (f x).length) (xs : List α) : xs.length ≤ (xs.flatMap f).length := by
  induction xs with
  | nil => simp
  | cons x xs ih =>
    have := h x
    simp only [List.flatMap_cons, List.length_append, List.length_cons]
    omega
theorem attrs_any {w0 w : World} {gw pb c : Nat} {l : List Int} {bad : Bool} {A : Option Addr} {xs : List S61} (hB : Below w0.heap.size w0 w) (hW : WAt w gw w0.heap.size l bad) (hP : PBox w pb gw)
    (hC : Kd.C k61 w0 A xs.length xs) (hc : xs.length ≤ c) (hl : (l ++ encAttrs xs).length ≤ 10000000000000) :
    Calls Tryd.prog 38 #[.pointer (some ⟨gw, 0, none⟩), .slice A xs.length c, .func (.func 39) #[] #[.pointer (some ⟨pb, 0, none⟩)]] w fun e w' => Wrote gw w0.heap.size (l ++ encAttrs xs) bad w e w' := by
  have hcm : xs.length ≤ 9223372036854775807 := by
    have := flat_ge encAttr (fun x => by have := txt_ge x.f0; simp [encAttr]) xs
    rw [encAttrs, List.length_append, List.length_append] at hl
    omega
  have hl' : ∀ k, ((l ++ puti xs.length) ++ (xs.take k).flatMap encAttr).length ≤ 10000000000000 := fun k => by
    have := take_le encAttr (l ++ puti xs.length) xs k
    rw [encAttrs, ← List.append_assoc] at hl
    omega
  refine (putAttrs_any (fun k W => LSt w gw w0.heap.size pb ((l ++ puti xs.length) ++ (xs.take k).flatMap encAttr) bad W) gw pb A c xs w hc hcm ?_ w0 (fun k W h => h.below hB) hC ?_).mono ?_
  · refine (num_hl hW ⟨by omega, by omega⟩ (by have := hl' 0; simpa using this)).mono ?_
    rintro e w' ⟨rfl, h1, h2⟩
    exact ⟨rfl, by simpa using h1, h2, hP.wr hW h2⟩
  · intro k hk W hS
    have hs := hl' (k + 1)
    rw [take_flat encAttr (l ++ puti xs.length) xs k hk] at hs ⊢
    have hx := hs
    rw [List.length_append] at hx
    have hx2 : (encAttr xs[k]).length = (txt (xs[k]).f0).length + 1 := by simp [encAttr]
    have hg := txt_ge (xs[k]).f0
    have hb := below_new W (.cells #[.string (xs[k]).f0, .int .i64 (xs[k]).f1] 61)
    refine (wAttr_any gw w0.heap.size pb _ bad xs[k] _ (hS.1.below hb) (hS.2.2.below hb) (by omega) (by omega)).mono ?_
    rintro e w' ⟨rfl, h1, h2⟩
    exact ⟨rfl, hS.step h1 h2⟩
  · rintro e w' ⟨rfl, h1, h2, h3⟩
    rw [List.take_length] at h1
    exact ⟨rfl, by rw [encAttrs, ← List.append_assoc]; exact h1, h2⟩
theorem chainB {w0 w W w1 : World} {gw : Nat} (h : Below w0.heap.size w0 w) (h0 : Below w.heap.size w W) (hR : Wr w0.heap.size gw W w1) : Below w0.heap.size w0 w1 :=
  (below_then h h.size h0).trans (hR.below (Nat.le_trans h.size h0.size))
set_option maxHeartbeats 1000000 in
theorem wType_any {w0 w : World} {gw pb c1 : Nat} {l : List Int} {bad : Bool} {A1 : Option Addr} {x : S64} (hB : Below w0.heap.size w0 w) (hW : WAt w gw w0.heap.size l bad) (hP : PBox w pb gw)
    (hC : Kd.C k61 w0 A1 x.f1.length x.f1) (hc : x.f1.length ≤ c1) (hl : (l ++ encType x).length ≤ 10000000000000) :
    Calls Tryd.prog 36 #[.agg #[.string x.f0, .slice A1 x.f1.length c1], .pointer (some ⟨pb, 0, none⟩)] w fun e w' => Wrote gw w0.heap.size (l ++ encType x) bad w e w' := by
  have hb0 := below_new w (.cells #[.string x.f0, .slice A1 x.f1.length c1] 64)
  have hX := blk_new w (.cells #[.string x.f0, .slice A1 x.f1.length c1] 64)
  have hP0 := hP.below hb0
  have hW0 := hW.below hb0
  have hE : l ++ encType x = (l ++ txt x.f0) ++ encAttrs x.f1 := by rw [encType, List.append_assoc]
  rw [hE] at hl ⊢
  have HT := Lib.hid (text_hl (s := x.f0) hW0 (by rw [List.length_append] at hl; omega))
  have hxg := hW0.neq hX (by decide)
  have HXG := Lib.hid hxg
  have HB0 := Lib.hid hb0
  have HX := Lib.hid hX
  have HP := Lib.hid hP0
  have HW := Lib.hid hW0
  have HL := Lib.hid hl
  have HB := Lib.hid hB
  have HC := Lib.hid hC
  have hp0 : (w.alloc (.cells #[.string x.f0, .slice A1 x.f1.length c1] 64)).cell? ⟨pb, 0, none⟩ = some (.pointer (some ⟨gw, 0, none⟩)) := (blk_cell hP0 0).trans rfl
  have hmf : ∀ fn first cap w, (Instr.makeFunc fn first cap).run Tryd.prog w = .ok (.func fn first cap) w := fun _ _ _ _ => rfl
  clear hW hP hb0 hX hP0 hW0 hxg hl hE hB hC
  generalize l ++ txt x.f0 = l1 at *
  go_enter Tryd.func36, Tryd.ntmps36
  go_wp2_with (first
    | (go_at_call 37; refine HT.out.mono ?_; rintro e w1 ⟨rfl, hA, hR⟩; have hP1 := HP.out.wr HW.out hR; have HP1 := Lib.hid hP1; have hX1 := Wr.blk hR HX.out HXG.out (by decide); have HA := Lib.hid hA; have HR := Lib.hid hR; have hp1 : w1.cell? ⟨pb, 0, none⟩ = some (.pointer (some ⟨gw, 0, none⟩)) := (blk_cell hP1 0).trans rfl; have hx1 : w1.cell? ⟨w.heap.size, 1, none⟩ = some (.slice A1 x.f1.length c1) := (blk_cell hX1 1).trans rfl; clear hA hR hP1 hX1 hp0)
    | (go_at_call 38; refine (attrs_any (chainB HB.out HB0.out HR.out) HA.out HP1.out HC.out hc HL.out).mono ?_; rintro e w2 ⟨rfl, hA2, hR2⟩))
  go_end0
  exact ⟨rfl, hA2, (Wr.of_below HB0.out).trans (HR.out.trans hR2)⟩
theorem encType_ge (x : S64) : 1 ≤ (encType x).length := by
  have := txt_ge x.f0
  rw [encType, List.length_append]
  omega
theorem encSaved_ge (x : S57) : 1 ≤ (encSaved x).length := by
  have := txt_ge x.f0
  rw [encSaved, List.length_append]
  omega
theorem types_any {w0 w : World} {gw pb c : Nat} {l : List Int} {bad : Bool} {A : Option Addr} {xs : List S64} (hB : Below w0.heap.size w0 w) (hW : WAt w gw w0.heap.size l bad) (hP : PBox w pb gw)
    (hC : Kd.C k64 w0 A xs.length xs) (hc : xs.length ≤ c) (hl : (l ++ encTypes xs).length ≤ 10000000000000) :
    Calls Tryd.prog 35 #[.pointer (some ⟨gw, 0, none⟩), .slice A xs.length c, .func (.func 36) #[] #[.pointer (some ⟨pb, 0, none⟩)]] w fun e w' => Wrote gw w0.heap.size (l ++ encTypes xs) bad w e w' := by
  have hcm : xs.length ≤ 9223372036854775807 := by
    have := flat_ge encType encType_ge xs
    rw [encTypes, List.length_append, List.length_append] at hl
    omega
  have hl' : ∀ k, ((l ++ puti xs.length) ++ (xs.take k).flatMap encType).length ≤ 10000000000000 := fun k => by
    have := take_le encType (l ++ puti xs.length) xs k
    rw [encTypes, ← List.append_assoc] at hl
    omega
  refine (putTypes_any (fun k W => LSt w gw w0.heap.size pb ((l ++ puti xs.length) ++ (xs.take k).flatMap encType) bad W) gw pb A c xs w hc hcm ?_ w0 (fun k W h => h.below hB) hC ?_).mono ?_
  · refine (num_hl hW ⟨by omega, by omega⟩ (by have := hl' 0; simpa using this)).mono ?_
    rintro e w' ⟨rfl, h1, h2⟩
    exact ⟨rfl, by simpa using h1, h2, hP.wr hW h2⟩
  · intro k hk W hS A1 c1 hc1 hC1
    have hs := hl' (k + 1)
    rw [take_flat encType (l ++ puti xs.length) xs k hk] at hs ⊢
    have hb := below_new W (.cells #[.string (xs[k]).f0, .slice A1 (xs[k]).f1.length c1] 64)
    refine (wType_any (below_then (hS.below hB) (hS.below hB).size hb) (hS.1.below hb) (hS.2.2.below hb) hC1 hc1 hs).mono ?_
    rintro e w' ⟨rfl, h1, h2⟩
    exact ⟨rfl, hS.step h1 h2⟩
  · rintro e w' ⟨rfl, h1, h2, h3⟩
    rw [List.take_length] at h1
    exact ⟨rfl, by rw [encTypes, ← List.append_assoc]; exact h1, h2⟩
set_option maxHeartbeats 1000000 in
theorem wSaved_any {w : World} {gw base pb : Nat} {l : List Int} {bad : Bool} {x : S57} (hW : WAt w gw base l bad) (hP : PBox w pb gw) (hi : I64 x.f2) (hl : (l ++ encSaved x).length ≤ 10000000000000) :
    Calls Tryd.prog 47 #[.agg #[.string x.f0, .string x.f1, .int .i64 x.f2, .bool x.f3], .pointer (some ⟨pb, 0, none⟩)] w fun e w' => Wrote gw base (l ++ encSaved x) bad w e w' := by
  have hb0 := below_new w (.cells #[.string x.f0, .string x.f1, .int .i64 x.f2, .bool x.f3] 57)
  have hX := blk_new w (.cells #[.string x.f0, .string x.f1, .int .i64 x.f2, .bool x.f3] 57)
  have hP0 := hP.below hb0
  have hW0 := hW.below hb0
  have hE : l ++ encSaved x = (((l ++ txt x.f0) ++ txt x.f1) ++ puti x.f2) ++ [if x.f3 then 1 else 0] := by rw [encSaved]; simp only [List.append_assoc]
  rw [hE] at hl ⊢
  have hl3 : (((l ++ txt x.f0) ++ txt x.f1) ++ puti x.f2).length ≤ 10000000000000 := by rw [List.length_append] at hl; omega
  have hl2 : ((l ++ txt x.f0) ++ txt x.f1).length ≤ 10000000000000 := by rw [List.length_append] at hl3; omega
  have hl1 : (l ++ txt x.f0).length ≤ 10000000000000 := by rw [List.length_append] at hl2; omega
  have HT := Lib.hid (text_hl (s := x.f0) hW0 hl1)
  have hxg := hW0.neq hX (by decide)
  have HXG := Lib.hid hxg
  have HB0 := Lib.hid hb0
  have HX := Lib.hid hX
  have HP := Lib.hid hP0
  have HW := Lib.hid hW0
  have HL2 := Lib.hid hl2
  have HL3 := Lib.hid hl3
  have hp0 : (w.alloc (.cells #[.string x.f0, .string x.f1, .int .i64 x.f2, .bool x.f3] 57)).cell? ⟨pb, 0, none⟩ = some (.pointer (some ⟨gw, 0, none⟩)) := (blk_cell hP0 0).trans rfl
  clear hW hP hb0 hX hP0 hW0 hxg hl hE hl1 hl2 hl3
  generalize hZ : (((l ++ txt x.f0) ++ txt x.f1) ++ puti x.f2) ++ [if x.f3 then 1 else 0] = Z
  have HZ := Lib.hid hZ
  clear hZ
  generalize l ++ txt x.f0 = l1 at *
  go_enter Tryd.func47, Tryd.ntmps47
  go_wp2_with (first
    | (go_at_call 37; refine HT.out.mono ?_; rintro e w1 ⟨rfl, hA, hR⟩; have hP1 := HP.out.wr HW.out hR; have HP1 := Lib.hid hP1; have hX1 := Wr.blk hR HX.out HXG.out (by decide); have HX1 := Lib.hid hX1; have HA := Lib.hid hA; have HR := Lib.hid hR; have hp1 : w1.cell? ⟨pb, 0, none⟩ = some (.pointer (some ⟨gw, 0, none⟩)) := (blk_cell hP1 0).trans rfl; have hx1 : w1.cell? ⟨w.heap.size, 1, none⟩ = some (.string x.f1) := (blk_cell hX1 1).trans rfl; clear HT hA hR hP1 hX1 hp0)
    | (go_at_call 37; refine (text_hl HA.out HL2.out).mono ?_; rintro e w2 ⟨rfl, hA2, hR2⟩; have hP2 := HP1.out.wr HA.out hR2; have HP2 := Lib.hid hP2; have hX2 := Wr.blk hR2 HX1.out HXG.out (by decide); have HX2 := Lib.hid hX2; have HA2 := Lib.hid hA2; have HR2 := Lib.hid hR2; have hp2 : w2.cell? ⟨pb, 0, none⟩ = some (.pointer (some ⟨gw, 0, none⟩)) := (blk_cell hP2 0).trans rfl; have hx2 : w2.cell? ⟨w.heap.size, 2, none⟩ = some (.int .i64 x.f2) := (blk_cell hX2 2).trans rfl; clear hA2 hR2 hP2 hX2)
    | (go_at_call 33; refine (num_hl HA2.out hi HL3.out).mono ?_; rintro e w3 ⟨rfl, hA3, hR3⟩; have hP3 := HP2.out.wr HA2.out hR3; have hX3 := Wr.blk hR3 HX2.out HXG.out (by decide); have HA3 := Lib.hid hA3; have HR3 := Lib.hid hR3; have hp3 : w3.cell? ⟨pb, 0, none⟩ = some (.pointer (some ⟨gw, 0, none⟩)) := (blk_cell hP3 0).trans rfl; have hx3 : w3.cell? ⟨w.heap.size, 3, none⟩ = some (.bool x.f3) := (blk_cell hX3 3).trans rfl; clear hA3 hR3 hP3 hX3)
    | (go_at_call 48; refine (truth_any gw base _ bad x.f3 _ HA3.out (by have := HL3.out; omega)).mono ?_; rintro e w4 ⟨rfl, hA4, hR4⟩))
  go_end0
  exact ⟨rfl, by rw [← HZ.out]; exact hA4, (Wr.of_below HB0.out).trans (HR.out.trans (HR2.out.trans (HR3.out.trans hR4)))⟩
theorem saveds_any {w0 w : World} {gw pb c : Nat} {l : List Int} {bad : Bool} {A : Option Addr} {xs : List S57} (hB : Below w0.heap.size w0 w) (hW : WAt w gw w0.heap.size l bad) (hP : PBox w pb gw)
    (hC : Kd.C k57 w0 A xs.length xs) (hc : xs.length ≤ c) (hi : ∀ x ∈ xs, I64 x.f2) (hl : (l ++ encSaveds xs).length ≤ 10000000000000) :
    Calls Tryd.prog 46 #[.pointer (some ⟨gw, 0, none⟩), .slice A xs.length c, .func (.func 47) #[] #[.pointer (some ⟨pb, 0, none⟩)]] w fun e w' => Wrote gw w0.heap.size (l ++ encSaveds xs) bad w e w' := by
  have hcm : xs.length ≤ 9223372036854775807 := by
    have := flat_ge encSaved encSaved_ge xs
    rw [encSaveds, List.length_append, List.length_append] at hl
    omega
  have hl' : ∀ k, ((l ++ puti xs.length) ++ (xs.take k).flatMap encSaved).length ≤ 10000000000000 := fun k => by
    have := take_le encSaved (l ++ puti xs.length) xs k
    rw [encSaveds, ← List.append_assoc] at hl
    omega
  refine (putSaved_any (fun k W => LSt w gw w0.heap.size pb ((l ++ puti xs.length) ++ (xs.take k).flatMap encSaved) bad W) gw pb A c xs w hc hcm ?_ w0 (fun k W h => h.below hB) hC ?_).mono ?_
  · refine (num_hl hW ⟨by omega, by omega⟩ (by have := hl' 0; simpa using this)).mono ?_
    rintro e w' ⟨rfl, h1, h2⟩
    exact ⟨rfl, by simpa using h1, h2, hP.wr hW h2⟩
  · intro k hk W hS
    have hs := hl' (k + 1)
    rw [take_flat encSaved (l ++ puti xs.length) xs k hk] at hs ⊢
    have hb := below_new W (.cells #[.string (xs[k]).f0, .string (xs[k]).f1, .int .i64 (xs[k]).f2, .bool (xs[k]).f3] 57)
    refine (wSaved_any (hS.1.below hb) (hS.2.2.below hb) (hi _ (List.getElem_mem hk)) hs).mono ?_
    rintro e w' ⟨rfl, h1, h2⟩
    exact ⟨rfl, hS.step h1 h2⟩
  · rintro e w' ⟨rfl, h1, h2, h3⟩
    rw [List.take_length] at h1
    exact ⟨rfl, by rw [encSaveds, ← List.append_assoc]; exact h1, h2⟩
end Go.Proofs.YtcfgmkmllcfjjaaDoor
