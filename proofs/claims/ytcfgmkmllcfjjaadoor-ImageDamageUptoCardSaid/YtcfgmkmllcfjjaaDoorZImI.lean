import Derived.Test.YtcfgmkmllcfjjaaDoorZImH
set_option linter.unusedVariables false
set_option linter.unusedSimpArgs false
namespace Go.Proofs.YtcfgmkmllcfjjaaDoor
open Go.RowKit Go.Proofs.YtcfgmkmllcfjjaaDoorW.PrintWords Go.Proofs.YtcfgmkmllcfjjaaDoorW.PrintMore PImageForm
structure Img where
  runs : Int
  made : Int
  seq : Int
  now : Int
  types : List S64
  saved : List S57
  seens : List S71
def ImgAt (w0 w : World) (gi : Nat) (m : Img) : Prop := ∃ A4 c4 A5 c5 A6 c6,
  w.heap[gi]? = some (.cells #[.int .i64 m.runs, .int .i64 m.made, .int .i64 m.seq, .int .i64 m.now, .slice A4 m.types.length c4, .slice A5 m.saved.length c5, .slice A6 m.seens.length c6] 28 (0, 0)) ∧
    (Kd.C k64 w0 A4 m.types.length m.types ∧ m.types.length ≤ c4) ∧ (Kd.C k57 w0 A5 m.saved.length m.saved ∧ m.saved.length ≤ c5) ∧ (Kd.C k71 w0 A6 m.seens.length m.seens ∧ m.seens.length ≤ c6)
theorem ImgAt.below {w0 w w' : World} {gi : Nat} {m : Img} (h : ImgAt w0 w gi m) (hB : Below w.heap.size w w') : ImgAt w0 w' gi m := by
  obtain ⟨A4, c4, A5, c5, A6, c6, h1, h2⟩ := h
  exact ⟨A4, c4, A5, c5, A6, c6, blk_below h1 hB, h2⟩
theorem ImgAt.wr {w0 w w' : World} {gi gw base : Nat} {m : Img} {l : List Int} {bad : Bool} (h : ImgAt w0 w gi m) (hW : WAt w gw base l bad) (hR : Wr base gw w w') : ImgAt w0 w' gi m := by
  obtain ⟨A4, c4, A5, c5, A6, c6, h1, h2⟩ := h
  exact ⟨A4, c4, A5, c5, A6, c6, Wr.blk hR h1 (hW.neq h1 (by decide)) (by decide), h2⟩
def magicL : List Int := [114, 102, 114, 110]
set_option maxHeartbeats 1000000 in
theorem writeMagic_any {w : World} {gw base : Nat} {l : List Int} {bad : Bool} (p : Value) (hW : WAt w gw base l bad) (hl : (l ++ magicL).length ≤ 10000000000000) :
    Calls Tryd.prog 20 #[.pointer (some ⟨gw, 0, none⟩), p] w fun e w' => Wrote gw base (l ++ magicL) bad w e w' := by
  obtain ⟨hgw, A, c, hb, hO⟩ := hW
  have HB := Lib.hid hb
  have HO := Lib.hid hO
  have hq : w.cell? ⟨gw, 0, none⟩ = some (.slice A l.length c) := (blk_cell hb 0).trans rfl
  have HL := Lib.hid (show l.length + (⟨#[114, 102, 114, 110]⟩ : ByteArray).size ≤ 140737488355328 from by rw [List.length_append] at hl; show l.length + 4 ≤ _; omega)
  have HM := Lib.hid (show bytesOf (⟨#[114, 102, 114, 110]⟩ : ByteArray) = magicL from by decide)
  clear hb hO
  go_enter Tryd.func20, Tryd.ntmps20
  go_wp2_with (at_builtin; refine wapp_str (w0 := w) rfl _ _ rfl hgw HB.out HO.out (Below.refl _ _) ⟨#[114, 102, 114, 110]⟩ rfl rfl HL.out ?_; intro A6 n6 c6 w6 hc6 hf6 hk6 h6)
  go_end0
  have := h6.out
  rw [HM.out] at this
  exact ⟨rfl, this.1, this.2⟩
def encNums (m : Img) : List Int := puti m.runs ++ (puti m.made ++ (puti m.seq ++ puti m.now))
set_option maxHeartbeats 1000000 in
theorem writeNumbers_any {w0 w : World} {gw gi base : Nat} {l : List Int} {bad : Bool} {m : Img} (hW : WAt w gw base l bad) (hI : ImgAt w0 w gi m) (h1 : I64 m.runs) (h2 : I64 m.made) (h3 : I64 m.seq) (h4 : I64 m.now) (hl : l.length ≤ 10000000000000) :
    Calls Tryd.prog 22 #[.pointer (some ⟨gw, 0, none⟩), .pointer (some ⟨gi, 0, none⟩)] w fun e w' => Wrote gw base (l ++ encNums m) bad w e w' := by
  obtain ⟨A4, c4, A5, c5, A6, c6, hb, _⟩ := hI
  have c0 : w.cell? ⟨gi, 0, none⟩ = some (.int .i64 m.runs) := (blk_cell hb 0).trans rfl
  have c1 : w.cell? ⟨gi, 1, none⟩ = some (.int .i64 m.made) := (blk_cell hb 1).trans rfl
  have c2 : w.cell? ⟨gi, 2, none⟩ = some (.int .i64 m.seq) := (blk_cell hb 2).trans rfl
  have c3 : w.cell? ⟨gi, 3, none⟩ = some (.int .i64 m.now) := (blk_cell hb 3).trans rfl
  have hb0 := below_new w (.cells #[.int .i64 m.runs, .int .i64 m.made, .int .i64 m.seq, .int .i64 m.now] 2)
  have HN := Lib.hid (show ∀ W : World, Below w.heap.size w W → W.heap.size = w.heap.size → Calls Tryd.prog 33 #[.pointer (some ⟨gw, 0, none⟩), .slice (some ⟨w.heap.size, 0, none⟩) 4 4] (W.alloc (.cells #[.int .i64 m.runs, .int .i64 m.made, .int .i64 m.seq, .int .i64 m.now] 2)) fun e w' => Wrote gw base (l ++ encNums m) bad w e w' from by
    intro W hBW hsz
    have hbn := below_new W (.cells #[.int .i64 m.runs, .int .i64 m.made, .int .i64 m.seq, .int .i64 m.now] 2)
    have hbb := below_step hBW hbn
    have hN := blk_new W (.cells #[.int .i64 m.runs, .int .i64 m.made, .int .i64 m.seq, .int .i64 m.now] 2)
    rw [hsz] at hN
    refine (numbers_any gw base w.heap.size 4 l [m.runs, m.made, m.seq, m.now] bad _ (hW.below hbb) hN ?_ (by simp) (by simp) (by simp only [List.length_cons, List.length_nil]; omega)).mono ?_
    · intro n hn
      simp only [List.mem_cons, List.not_mem_nil, or_false] at hn
      rcases hn with rfl | rfl | rfl | rfl <;> assumption
    · rintro e w' ⟨rfl, k1, k2⟩
      rw [show putis [m.runs, m.made, m.seq, m.now] = encNums m by simp [putis, encNums]] at k1
      exact ⟨rfl, k1, (Wr.of_below hbb).trans k2⟩)
  clear hW hb hb0
  go_enter Tryd.func22, Tryd.ntmps22
  go_wp2_with fail
  go_region_law (first | (go_simp; go_at_call 33; refine (HN.out _ (by first | exact below_drew (Below.refl _ _) | exact Below.refl _ _) (by rfl)).mono ?_; rintro e w1 ⟨rfl, hA, hR⟩))
  all_goals
    go_wp2_with fail
    go_end0
    exact ⟨rfl, hA, hR⟩
set_option maxHeartbeats 1000000 in
theorem writeTypes_any {w0 w : World} {gw gi : Nat} {l : List Int} {bad : Bool} {m : Img} (hB : Below w0.heap.size w0 w) (hW : WAt w gw w0.heap.size l bad) (hI : ImgAt w0 w gi m) (hl : (l ++ encTypes m.types).length ≤ 10000000000000) :
    Calls Tryd.prog 24 #[.pointer (some ⟨gw, 0, none⟩), .pointer (some ⟨gi, 0, none⟩)] w fun e w' => Wrote gw w0.heap.size (l ++ encTypes m.types) bad w e w' := by
  have hb0 := below_new w (.cells #[.pointer (some ⟨gw, 0, none⟩)] 44)
  have hP := blk_new w (.cells #[.pointer (some ⟨gw, 0, none⟩)] 44)
  obtain ⟨A4, c4, A5, c5, A6, c6, hb, ⟨hC, hc⟩, _⟩ := hI
  have c4' : (w.alloc (.cells #[.pointer (some ⟨gw, 0, none⟩)] 44)).cell? ⟨gi, 4, none⟩ = some (.slice A4 m.types.length c4) := (blk_cell (blk_below hb hb0) 4).trans rfl
  have p0 : (w.alloc (.cells #[.pointer (some ⟨gw, 0, none⟩)] 44)).cell? ⟨w.heap.size, 0, none⟩ = some (.pointer (some ⟨gw, 0, none⟩)) := (blk_cell hP 0).trans rfl
  have hmf : ∀ fn first cap w, (Instr.makeFunc fn first cap).run Tryd.prog w = .ok (.func fn first cap) w := fun _ _ _ _ => rfl
  have HN := Lib.hid (show ∀ W : World, Below (w.alloc (.cells #[.pointer (some ⟨gw, 0, none⟩)] 44)).heap.size (w.alloc (.cells #[.pointer (some ⟨gw, 0, none⟩)] 44)) W → Calls Tryd.prog 35 #[.pointer (some ⟨gw, 0, none⟩), .slice A4 m.types.length c4, .func (.func 36) #[] #[.pointer (some ⟨w.heap.size, 0, none⟩)]] W fun e w' => Wrote gw w0.heap.size (l ++ encTypes m.types) bad w e w' from by
    intro W hBW
    have hbb := below_step hb0 hBW
    refine (types_any (below_then hB hB.size hbb) (hW.below hbb) (blk_below hP hBW) hC hc hl).mono ?_
    rintro e w' ⟨rfl, k1, k2⟩
    exact ⟨rfl, k1, (Wr.of_below hbb).trans k2⟩)
  clear hW hb hb0 hP hC hB
  go_enter Tryd.func24, Tryd.ntmps24
  go_wp2_with fail
  go_region_law (first | (go_simp; go_at_call 35; refine (HN.out _ (by first | exact below_drew (Below.refl _ _) | exact Below.refl _ _)).mono ?_; rintro e w1 ⟨rfl, hA, hR⟩))
  all_goals
    go_wp2_with fail
    go_end0
    exact ⟨rfl, hA, hR⟩
set_option maxHeartbeats 1000000 in
theorem writeQueries_any {w0 w : World} {gw gi : Nat} {l : List Int} {bad : Bool} {m : Img} (hB : Below w0.heap.size w0 w) (hW : WAt w gw w0.heap.size l bad) (hI : ImgAt w0 w gi m) (hi : ∀ x ∈ m.saved, I64 x.f2) (hl : (l ++ encSaveds m.saved).length ≤ 10000000000000) :
    Calls Tryd.prog 26 #[.pointer (some ⟨gw, 0, none⟩), .pointer (some ⟨gi, 0, none⟩)] w fun e w' => Wrote gw w0.heap.size (l ++ encSaveds m.saved) bad w e w' := by
  have hb0 := below_new w (.cells #[.pointer (some ⟨gw, 0, none⟩)] 44)
  have hP := blk_new w (.cells #[.pointer (some ⟨gw, 0, none⟩)] 44)
  obtain ⟨A4, c4, A5, c5, A6, c6, hb, _, ⟨hC, hc⟩, _⟩ := hI
  have c5' : (w.alloc (.cells #[.pointer (some ⟨gw, 0, none⟩)] 44)).cell? ⟨gi, 5, none⟩ = some (.slice A5 m.saved.length c5) := (blk_cell (blk_below hb hb0) 5).trans rfl
  have p0 : (w.alloc (.cells #[.pointer (some ⟨gw, 0, none⟩)] 44)).cell? ⟨w.heap.size, 0, none⟩ = some (.pointer (some ⟨gw, 0, none⟩)) := (blk_cell hP 0).trans rfl
  have hmf : ∀ fn first cap w, (Instr.makeFunc fn first cap).run Tryd.prog w = .ok (.func fn first cap) w := fun _ _ _ _ => rfl
  have HN := Lib.hid (show ∀ W : World, Below (w.alloc (.cells #[.pointer (some ⟨gw, 0, none⟩)] 44)).heap.size (w.alloc (.cells #[.pointer (some ⟨gw, 0, none⟩)] 44)) W → Calls Tryd.prog 46 #[.pointer (some ⟨gw, 0, none⟩), .slice A5 m.saved.length c5, .func (.func 47) #[] #[.pointer (some ⟨w.heap.size, 0, none⟩)]] W fun e w' => Wrote gw w0.heap.size (l ++ encSaveds m.saved) bad w e w' from by
    intro W hBW
    have hbb := below_step hb0 hBW
    refine (saveds_any (below_then hB hB.size hbb) (hW.below hbb) (blk_below hP hBW) hC hc hi hl).mono ?_
    rintro e w' ⟨rfl, k1, k2⟩
    exact ⟨rfl, k1, (Wr.of_below hbb).trans k2⟩)
  clear hW hb hb0 hP hC hB
  go_enter Tryd.func26, Tryd.ntmps26
  go_wp2_with fail
  go_region_law (first | (go_simp; go_at_call 46; refine (HN.out _ (by first | exact below_drew (Below.refl _ _) | exact Below.refl _ _)).mono ?_; rintro e w1 ⟨rfl, hA, hR⟩))
  all_goals
    go_wp2_with fail
    go_end0
    exact ⟨rfl, hA, hR⟩
end Go.Proofs.YtcfgmkmllcfjjaaDoor
