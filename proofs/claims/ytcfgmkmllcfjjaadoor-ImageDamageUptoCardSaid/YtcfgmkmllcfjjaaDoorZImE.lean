import Derived.Test.YtcfgmkmllcfjjaaDoorZImD
import Derived.LoopIn
import Derived.Deep.RegionLaw
import Derived.Deep.RegionHeld3
set_option linter.unusedVariables false
set_option linter.unusedSimpArgs false
namespace Go.Proofs.YtcfgmkmllcfjjaaDoor
open Go.RowKit Go.Proofs.YtcfgmkmllcfjjaaDoorW.PrintWords Go.Proofs.YtcfgmkmllcfjjaaDoorW.PrintMore PImageForm
def Wrote (gw base : Nat) (l : List Int) (bad : Bool) (w : World) (e : Ending) (w' : World) : Prop :=
  e = .returned (.tuple #[]) ∧ WAt w' gw base l bad ∧ Wr base gw w w'
def putis (ns : List Int) : List Int := ns.flatMap puti
theorem putis_take_succ (ns : List Int) (k : Nat) (h : k < ns.length) : putis (ns.take (k + 1)) = putis (ns.take k) ++ puti ns[k] := by
  unfold putis
  rw [List.take_add_one, List.getElem?_eq_getElem h, List.flatMap_append]
  simp
theorem putis_len (ns : List Int) (h : ∀ n ∈ ns, I64 n) : (putis ns).length ≤ 10 * ns.length := by
  induction ns with
  | nil => simp [putis]
  | cons n ns ih =>
    have h1 := puti_len (h n List.mem_cons_self)
    have h2 := ih (fun m hm => h m (List.mem_cons_of_mem _ hm))
    simp only [putis, List.flatMap_cons, List.length_append, List.length_cons] at h2 ⊢
    omega
theorem PutInt_any (n : Int) (h : I64 n) (w : World) : Calls Tryd.prog 58 #[.int .i64 n] w fun e w' =>
    ∃ g c, e = .returned (.slice (some ⟨g, 0, none⟩) (puti n).length c) ∧ (∀ j u, (nums .u8 (puti n))[j]? = some u → w'.cell? ((⟨g, 0, none⟩ : Addr).add j) = some u) ∧ Below w.heap.size w w' := by
  refine (wire_PutInt.calls 20 n (puti n) w (PutInt_f h)).mono ?_
  rintro e w' ⟨v, rfl, hr, hb⟩
  have ho := Kd.own_of_R hr
  obtain ⟨g, c, rfl, _, _⟩ := ho.form (by have := puti_pos n; omega)
  exact ⟨g, c, rfl, ho.cells (g := g) rfl, hb⟩
set_option maxHeartbeats 1000000 in
theorem numbers_any (gw base gn cc : Nat) (l ns : List Int) (bad : Bool) (w : World) (hW : WAt w gw base l bad) (hN : w.heap[gn]? = some (.cells (nums .i64 ns).toArray 2 (0, 0)))
    (hns : ∀ n ∈ ns, I64 n) (hcc : ns.length ≤ cc) (hcm : cc ≤ 9223372036854775807) (hl : l.length + 10 * ns.length ≤ 100000000000000) :
    Calls Tryd.prog 33 #[.pointer (some ⟨gw, 0, none⟩), .slice (some ⟨gn, 0, none⟩) ns.length cc] w fun e w' => Wrote gw base (l ++ putis ns) bad w e w' := by
  have HW := Lib.hid hW
  have HN := Lib.hid hN
  have HI := Lib.hid hns
  have hng : gn ≠ gw := by
    obtain ⟨_, A, c, hb, _⟩ := hW
    exact blk_ne hN hb (by decide)
  clear hW hN hns
  go_enter Tryd.func33, Tryd.ntmps33
  go_wp2_with fail
  go_loopw [8] (fun t8 wr => ∃ k : Nat, k ≤ ns.length ∧ t8 = .int .i64 k ∧ Hid (WAt wr gw base (l ++ putis (ns.take k)) bad) ∧ Hid (Wr base gw w wr)) (fun t8 _ => ns.length - (intOf t8).toNat)
  case atStart => exact ⟨0, by omega, rfl, by simpa [putis] using HW, Lib.hid Wr.refl⟩
  case round =>
    obtain ⟨k, hk, rfl, hA, hR⟩ := hrel
    by_cases hlt : k < ns.length
    · have i1 : (0 : Int) ≤ (k : Int) := by omega
      have i2 : (k : Int) < ns.length := by omega
      have hNr := Wr.blk hR.out HN.out hng (by decide)
      have hc : wr.cell? ⟨gn, k, none⟩ = some (.int .i64 ns[k]) := by
        rw [blk_cell hNr]
        simp [nums, List.getElem?_eq_getElem hlt]
      have hI := HI.out ns[k] (List.getElem_mem hlt)
      have hpl := putis_len (ns.take k) (fun n hn => HI.out n (List.mem_of_mem_take hn))
      have hp1 := puti_len hI
      have hp2 := puti_pos ns[k]
      rw [List.length_take] at hpl
      have HE := Lib.hid (show l ++ putis (ns.take (k + 1)) = (l ++ putis (ns.take k)) ++ puti ns[k] by rw [putis_take_succ ns k hlt, List.append_assoc])
      have HP := Lib.hid (fun W => PutInt_any ns[k] hI W)
      have hll : (l ++ putis (ns.take k)).length + (puti ns[k]).length ≤ 140737488355328 := by rw [List.length_append]; omega
      obtain ⟨hgw, A, c, hb, hO⟩ := hA.out
      have HB := Lib.hid hb
      have HO := Lib.hid hO
      have HL := Lib.hid hll
      have HP2 := Lib.hid hp2
      have hq := (blk_cell hb 0).trans rfl
      clear hb hO hNr hll hpl hp1 hI hp2
      generalize ns[k] = n at *
      generalize l ++ putis (ns.take k) = l1 at *
      go_wp2_with fail
      go_region_law (first
        | (go_simp; go_at_call 58; refine (HP.out _).mono ?_; rintro e w5 ⟨g5, c5, rfl, h5, hb5⟩; have H5 := Lib.hid h5; have hbk : Below wr.heap.size wr w5 := (by first | exact below_step (below_drew (Below.refl _ _)) hb5 | exact hb5); have hq5 := pw_cell_below hbk hq)
        | (refine wstep_row (w0 := wr) (by rfl) _ _ (by rfl) hgw HB.out HO.out (by first | exact hbk | exact below_drew hbk) (puti n) HP2.out _ _ _ (by rfl) (by exact H5.out) (by rfl) (by rfl) HL.out ?_; intro A6 n6 c6 w6 hc6 hf6 hk6 h6))
      all_goals
        go_wp2_with fail
        go_roundw
        case rel => exact ⟨k + 1, by omega, by go_num, by rw [HE.out]; exact Lib.hid h6.out.1, Lib.hid (hR.out.trans h6.out.2)⟩
        case measure => simp [intOf]; omega
    · obtain rfl : k = ns.length := by omega
      go_wp2_with fail
      go_end0
      rw [List.take_length] at hA
      exact ⟨rfl, hA.out, hR.out⟩
def txt (s : ByteArray) : List Int := puti s.size ++ bytesOf s
set_option maxHeartbeats 1000000 in
theorem text_any (gw base : Nat) (l : List Int) (bad : Bool) (s : ByteArray) (w : World) (hW : WAt w gw base l bad) (hs : s.size ≤ 9223372036854775807) (hl : l.length + 10 + s.size ≤ 100000000000000) :
    Calls Tryd.prog 37 #[.pointer (some ⟨gw, 0, none⟩), .string s] w fun e w' => Wrote gw base (l ++ txt s) bad w e w' := by
  have HW := Lib.hid hW
  have hI : I64 (s.size : Int) := ⟨by omega, by omega⟩
  have hb0 := below_new w (.cells #[.int .i64 (s.size : Int)] 2)
  have HN := Lib.hid (numbers_any gw base w.heap.size 1 l [(s.size : Int)] bad (w.alloc (.cells #[.int .i64 (s.size : Int)] 2)) (hW.below hb0) (blk_new w _) (by intro n hn; rw [List.mem_singleton] at hn; rw [hn]; exact hI) (by simp) (by simp) (by simp only [List.length_singleton]; omega))
  have HB0 := Lib.hid hb0
  have hpl := puti_len hI
  have hll : (l ++ puti s.size).length + s.size ≤ 140737488355328 := by rw [List.length_append]; omega
  have HL := Lib.hid hll
  have hE : l ++ txt s = (l ++ puti s.size) ++ bytesOf s := by rw [txt, List.append_assoc]
  have HE := Lib.hid hE
  have hp : putis [(s.size : Int)] = puti s.size := by simp [putis]
  rw [hp] at HN
  clear hW hI hb0 hpl hll hE hp
  generalize l ++ puti s.size = l1 at *
  go_enter Tryd.func37, Tryd.ntmps37
  go_wp2_with (first
    | (go_at_call 33; refine HN.out.mono ?_; rintro e w1 ⟨rfl, ⟨hgw, A, c, hb, hO⟩, hR⟩; have HB := Lib.hid hb; have HO := Lib.hid hO; have HR := Lib.hid hR; have hq := (blk_cell hb 0).trans rfl; clear hb hO hR)
    | (at_builtin; refine wapp_str (w0 := w1) rfl _ _ rfl hgw HB.out HO.out (Below.refl _ _) s rfl rfl HL.out ?_; intro A6 n6 c6 w6 hc6 hf6 hk6 h6))
  go_end0
  refine ⟨rfl, by rw [HE.out]; exact h6.out.1, (Wr.of_below HB0.out).trans (HR.out.trans h6.out.2)⟩
set_option maxHeartbeats 1000000 in
theorem truth_any (gw base : Nat) (l : List Int) (bad b : Bool) (w : World) (hW : WAt w gw base l bad) (hl : l.length ≤ 100000000000000) :
    Calls Tryd.prog 48 #[.pointer (some ⟨gw, 0, none⟩), .bool b] w fun e w' => Wrote gw base (l ++ [if b then 1 else 0]) bad w e w' := by
  obtain ⟨hgw, A, c, hb, hO⟩ := hW
  have HB := Lib.hid hb
  have HO := Lib.hid hO
  have hq := (blk_cell hb 0).trans rfl
  have hL : l.length + 1 ≤ 140737488355328 := by omega
  have HL := Lib.hid hL
  have hlt := blk_lt' hb
  have hne : gw ≠ w.heap.size := by omega
  have hq1 := pw_cell_below (below_new w (.cells #[.int .u8 1] 5)) hq
  have hq0 := pw_cell_below (below_new w (.cells #[.int .u8 0] 5)) hq
  have hn : ∀ y : Int, ∀ j u, (nums .u8 [y])[j]? = some u → (w.alloc (.cells #[.int .u8 y] 5)).cell? ((⟨w.heap.size, 0, none⟩ : Addr).add j) = some u :=
    fun y => World.news_of_block (cs := #[.int .u8 y]) (t := 5) (fr := (0, 0)) (heap_alloc_new w _)
  have HN := Lib.hid hn
  clear hb hO hL hn
  go_enter Tryd.func48, Tryd.ntmps48
  cases b
  · go_wp2_with (at_builtin; refine wapp_row (w0 := w) rfl _ _ rfl hgw HB.out HO.out (below_new w _) [0] ⟨w.heap.size, 0, none⟩ 1 1 rfl (HN.out 0) rfl rfl HL.out ?_; intro A6 n6 c6 w6 hc6 hf6 hk6 h6)
    go_wp2_with fail
    go_end0
    exact ⟨rfl, h6.out.1, h6.out.2⟩
  · go_wp2_with (at_builtin; refine wapp_row (w0 := w) rfl _ _ rfl hgw HB.out HO.out (below_new w _) [1] ⟨w.heap.size, 0, none⟩ 1 1 rfl (HN.out 1) rfl rfl HL.out ?_; intro A6 n6 c6 w6 hc6 hf6 hk6 h6)
    go_wp2_with fail
    go_end0
    exact ⟨rfl, h6.out.1, h6.out.2⟩
end Go.Proofs.YtcfgmkmllcfjjaaDoor

set_option linter.unusedVariables false
set_option linter.unusedSimpArgs false
namespace Go.Proofs.YtcfgmkmllcfjjaaDoor
open Go.RowKit Go.Proofs.YtcfgmkmllcfjjaaDoorW.PrintWords Go.Proofs.YtcfgmkmllcfjjaaDoorW.PrintMore PImageForm
def PBox (w : World) (pb gw : Nat) : Prop := w.heap[pb]? = some (.cells #[.pointer (some ⟨gw, 0, none⟩)] 44 (0, 0))
theorem PBox.wr {w w' : World} {pb gw base : Nat} {l : List Int} {bad : Bool} (h : PBox w pb gw) (hW : WAt w gw base l bad) (hR : Wr base gw w w') : PBox w' pb gw := by
  obtain ⟨_, A, c, hb, _⟩ := hW
  exact Wr.blk hR h (blk_ne h hb (by decide)) (by decide)
theorem PBox.below {w w' : World} {pb gw : Nat} (h : PBox w pb gw) (hB : Below w.heap.size w w') : PBox w' pb gw := blk_below h hB
theorem WAt.neq {w : World} {gw base g : Nat} {l : List Int} {bad : Bool} {cs : Array Value} {t : TypeId} (hW : WAt w gw base l bad) (h : w.heap[g]? = some (.cells cs t (0, 0))) (ht : t ≠ 46) : g ≠ gw := by
  obtain ⟨_, A, c, hb, _⟩ := hW
  exact blk_ne h hb ht
theorem lit_cells (W : World) (y : Int) : ∀ j u, (nums .u8 [y])[j]? = some u → (W.alloc (.cells #[.int .u8 y] 5)).cell? ((⟨W.heap.size, 0, none⟩ : Addr).add j) = some u :=
  World.news_of_block (cs := #[.int .u8 y]) (t := 5) (fr := (0, 0)) (heap_alloc_new W _)
def encAttr (x : S61) : List Int := txt x.f0 ++ [IntKind.u8.wrap x.f1]
theorem txt_len (s : ByteArray) (h : s.size ≤ 9223372036854775807) : (txt s).length ≤ 10 + s.size := by
  have := puti_len (n := (s.size : Int)) ⟨by omega, by omega⟩
  rw [txt, List.length_append, bytesOf_length]
  omega
set_option maxHeartbeats 1000000 in
theorem wAttr_any (gw base pb : Nat) (l : List Int) (bad : Bool) (x : S61) (w : World) (hW : WAt w gw base l bad) (hP : PBox w pb gw) (hs : x.f0.size ≤ 9223372036854775807) (hl : l.length + 20 + x.f0.size ≤ 100000000000000) :
    Calls Tryd.prog 39 #[.agg #[.string x.f0, .int .i64 x.f1], .pointer (some ⟨pb, 0, none⟩)] w fun e w' => Wrote gw base (l ++ encAttr x) bad w e w' := by
  generalize hbx : (#[.string x.f0, .int .i64 x.f1] : Array Value) = bx
  have hb0 := below_new w (.cells #[.string x.f0, .int .i64 x.f1] 61)
  have hX := blk_new w (.cells #[.string x.f0, .int .i64 x.f1] 61)
  have hP0 := hP.below hb0
  have hW0 := hW.below hb0
  have HT := Lib.hid (text_any gw base l bad x.f0 (w.alloc (.cells #[.string x.f0, .int .i64 x.f1] 61)) hW0 hs (by omega))
  have hxg := hW0.neq hX (by decide)
  have HXG := Lib.hid hxg
  have HPG := Lib.hid (hW0.neq hP0 (by decide))
  have HB0 := Lib.hid hb0
  have HX := Lib.hid hX
  have HP := Lib.hid hP0
  have HW := Lib.hid hW0
  have hp0 := (blk_cell hP0 0).trans rfl
  have hx0 := (blk_cell hX 0).trans rfl
  have hll : (l ++ txt x.f0).length + 1 ≤ 140737488355328 := by have := txt_len x.f0 hs; rw [List.length_append]; omega
  have HL := Lib.hid hll
  have HE := Lib.hid (show l ++ encAttr x = (l ++ txt x.f0) ++ [IntKind.u8.wrap x.f1] by rw [encAttr, List.append_assoc])
  subst hbx
  clear hW hP hb0 hX hP0 hW0 hxg hll
  generalize l ++ txt x.f0 = l1 at *
  go_enter Tryd.func39, Tryd.ntmps39
  go_wp2_with (first
    | (go_at_call 37; refine HT.out.mono ?_; rintro e w1 ⟨rfl, hA, hR⟩; have hP1 := HP.out.wr HW.out hR; have HP1 : Hid (w1.heap[pb]? = some (.cells #[.pointer (some ⟨gw, 0, none⟩)] 44 (0, 0))) := Lib.hid hP1; have hX1 := Wr.blk hR HX.out HXG.out (by decide); have HX1 := Lib.hid hX1; obtain ⟨hgw, A, c, hb, hO⟩ := hA; have HB := Lib.hid hb; have HO := Lib.hid hO; have HR := Lib.hid hR; have hq : w1.cell? ⟨gw, 0, none⟩ = some (.slice A l1.length c) := (blk_cell hb 0).trans rfl; have hp1 : w1.cell? ⟨pb, 0, none⟩ = some (.pointer (some ⟨gw, 0, none⟩)) := (blk_cell hP1 0).trans rfl; have hx1 : w1.cell? ⟨w.heap.size, 1, none⟩ = some (.int .i64 x.f1) := (blk_cell hX1 1).trans rfl; have hbn := below_new w1 (.cells #[.int .u8 (IntKind.u8.wrap x.f1)] 5); have hq2 := pw_cell_below hbn hq; have hp2 := pw_cell_below hbn hp1; have hx2 := pw_cell_below hbn hx1; clear hbn; clear hb hO hR hP1 hX1 hp0 hx0))
  go_region_law
    ((refine wstep_row (w0 := w1) (by rfl) _ _ (by rfl) hgw HB.out HO.out (by first | exact below_drew (below_new _ _) | exact below_new _ _) [IntKind.u8.wrap x.f1] (Nat.succ_pos 0) _ _ _ (by rfl) (lit_cells w1 _) (by rfl) (by rfl) HL.out ?_; intro A6 n6 c6 w6 hc6 hf6 hk6 h6; have hp6 : w6.cell? ⟨pb, 0, none⟩ = some (.pointer (some ⟨gw, 0, none⟩)) := (blk_cell (Wr.blk hk6 HP1.out HPG.out (by decide)) 0).trans rfl))
  all_goals
    go_wp2_with fail
    go_end0
    exact ⟨rfl, by rw [HE.out]; exact h6.out.1, (Wr.of_below HB0.out).trans (HR.out.trans h6.out.2)⟩
end Go.Proofs.YtcfgmkmllcfjjaaDoor
