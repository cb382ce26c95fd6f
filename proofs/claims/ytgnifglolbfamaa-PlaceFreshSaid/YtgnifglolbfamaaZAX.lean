/- Texts of the claim, merged in build order: QTF. -/
import Derived.Test.YtgnifglolbfamaaZAW
import Derived.BigRegion
/- Region 10 of refrainlaw10.twin's walk, walked by hand (printed by mkreg10.py). -/
set_option linter.unusedVariables false
set_option linter.unusedSimpArgs false
namespace Go.Proofs.Ytgnifglolbfamaa
open Go.RowKit Go.Proofs.YtgnifglolbfamaaW.PrintWords

def findReg (n : Nat) : Code → Option Code
  | .region i ops b => if i = n then some (.region i ops b) else none
  | .loop c => findReg n c
  | .seq a b => match findReg n a with
    | some c => some c
    | none => findReg n b
  | .block _ c => findReg n c
  | .scope c => findReg n c
  | .cond _ a b => match findReg n a with
    | some c => some c
    | none => findReg n b
  | _ => none
noncomputable def reg10 : Code := ((Try.f16.body.bind (findReg 10)).getD .skip)

/-- What is known behind a copy that was laid in a cell of its own. -/
def R10 (R : Nat) (added : List Value) (vL : Value) (y : Ex) (w3 : World) (t6 : Value) (w4 : World) : Prop :=
  ∃ g A' added' vL', t6 = .pointer (some ⟨g, 0, none⟩) ∧ w4.heap[g]? = some (.cells (exCellsT y (.slice A' y.f6.length (y.f6.length + 12))).toArray 31 (0, 0)) ∧ RoomT w4 R (added ++ added') vL' ∧ (∀ k, vL'.ownBlock = some k → vL.ownBlock = some k ∨ w3.heap.size ≤ k) ∧ w3.heap.size ≤ w4.heap.size ∧ RdR w3.heap.size w4.heap.size w4 A' y.f6.length y.f6 ∧ (∀ v ∈ added', MarkV w3.heap.size w4.heap.size w4 v) ∧ Only (RS R vL) w3 w4 ∧ added'.length = exN y
theorem r10_of {R g : Nat} {added : List Value} {vL : Value} {y : Ex} {w3 w1 W4 wF : World} {A' : Option Addr} {added' : List Value} {vL' : Value} (hR0 : RoomT w3 R added vL) (h1 : Only (fun _ => False) w3 w1)
    (hR : RoomT W4 R (added ++ added') vL') (hv : ∀ k, vL'.ownBlock = some k → vL.ownBlock = some k ∨ w1.heap.size ≤ k) (hs : w1.heap.size ≤ W4.heap.size) (hrd : RdR w1.heap.size W4.heap.size W4 A' y.f6.length y.f6) (hm : ∀ v ∈ added', MarkV w1.heap.size W4.heap.size W4 v) (hO : Only (RS R vL) w1 W4) (hal : added'.length = exN y)
    (hF : Only (fun b => b = g) W4 wF) (hg : wF.heap[g]? = some (.cells (exCellsT y (.slice A' y.f6.length (y.f6.length + 12))).toArray 31 (0, 0))) (hg3 : w3.heap.size ≤ g) (hgw : g < w1.heap.size ∨ W4.heap.size ≤ g) :
    R10 R added vL y w3 (.pointer (some ⟨g, 0, none⟩)) wF := by
  have s1 := h1.size
  have sF := hF.size
  have hRl := (Array.getElem?_eq_some_iff.1 hR0.hR).1
  have hst : ∀ b, w1.heap.size ≤ b → b < W4.heap.size → wF.heap[b]? = W4.heap[b]? := fun b b1 b2 => hF.block b b2 (fun e => by omega)
  refine ⟨g, A', added', vL', rfl, hg, hR.only hF (fun b hb hs => ?_), fun k hk => (hv k hk).imp id (fun h => by omega), by omega, ?_, ?_, ?_, hal⟩
  · rcases hb with hb | hb
    · omega
    · have hl := own_lt hR.hL b hb
      rcases hv b hb with h | h
      · have := own_lt hR0.hL b h; omega
      · omega
  · exact (hrd.move (fun b b1 b2 _ _ => hst b b1 b2)).wide (by omega) (by omega)
  · exact fun v hv => ((hm v hv).move (fun b b1 b2 _ _ => hst b b1 b2)).wide (by omega) (by omega)
  · exact (((h1.mono (T := RS R vL) (fun b _ h => h.elim)).same hO).trans hF (fun b hb (e : b = g) => by omega))

theorem only_set10 {w : World} {g : Nat} (v0 v1 v2 v3 v4 v5 v6 v7 v8 v9 : Value) : Only (fun b => b = g) w ((((((((((w.setCell ⟨g, 0, none⟩ v0).setCell ⟨g, 1, none⟩ v1).setCell ⟨g, 2, none⟩ v2).setCell ⟨g, 3, none⟩ v3).setCell ⟨g, 4, none⟩ v4).setCell ⟨g, 5, none⟩ v5).setCell ⟨g, 6, none⟩ v6).setCell ⟨g, 7, none⟩ v7).setCell ⟨g, 8, none⟩ v8).setCell ⟨g, 9, none⟩ v9) := by
  have hs : ∀ (v : World) (o : Nat) (u : Value), Only (fun b => b = g) w v → Only (fun b => b = g) w (v.setCell ⟨g, o, none⟩ u) := fun v o u h => h.same (Only.setCell ⟨g, o, none⟩ u rfl)
  exact hs _ _ _ (hs _ _ _ (hs _ _ _ (hs _ _ _ (hs _ _ _ (hs _ _ _ (hs _ _ _ (hs _ _ _ (hs _ _ _ (hs _ _ _ (Only.refl _ _))))))))))

set_option maxHeartbeats 8000000 in
set_option maxRecDepth 100000 in
theorem reg10_any (u0 u2 u4 u6 u7 u8 u9 u10 u11 u12 u13 u14 u15 u16 u17 u18 u19 u20 u21 u22 u23 u24 u25 u26 u27 u28 u29 u30 u31 u32 u33 u34 u35 u36 u37 u38 u39 u40 u41 u42 u43 u44 u45 u46 u47 u48 u49 u50 u51 u52 u53 u54 u55 u56 u57 u58 u59 u60 u61 u62 u63 u64 u65 u66 u67 u68 u69 u70 u71 u72 u73 u74 u75 u76 u77 u78 u79 : Value) (gq b4 i mw cw R : Nat) (ad : Addr) (y : Ex) (B9 : Option Addr) (b9 : Nat) (added : List Value) (vL : Value) (w3 : World)
    (i1 : (0 : Int) ≤ (i : Int)) (i2 : (i : Int) < (mw : Int)) (hR0 : Hid (RoomT w3 R added vL))
    (HTW : Hid (∀ w', Below w3.heap.size w3 w' → Calls Try.prog 41 #[.pointer (some ⟨R, 0, none⟩), .agg #[.int .i64 y.f0, .int .i64 y.f1, .int .i64 y.f2.f0, .int .i64 y.f2.f1, .string y.f2.f2, .bool y.f2.f3, .string y.f3, .int .i64 y.f4, .string y.f5, .slice B9 y.f6.length b9]] w' (TwPost R added vL y w')))
    (HNS : Hid (¬ RS R vL w3.heap.size))
    (HKeep : Hid (∀ w', Only (RS R vL) w3 w' → w'.cell? ⟨b4, 10, none⟩ = some (.pointer (some ⟨R, 0, none⟩)) ∧ w'.cell? ⟨gq, 4, none⟩ = some (.slice (some ad) mw cw) ∧ w'.cell? (ad.add (i * 10)) = some (.int .i64 y.f0) ∧ w'.cell? ⟨(ad.add (i * 10)).block, (ad.add (i * 10)).off + 1, none⟩ = some (.int .i64 y.f1) ∧ w'.cell? ⟨(ad.add (i * 10)).block, (ad.add (i * 10)).off + 2, none⟩ = some (.int .i64 y.f2.f0) ∧ w'.cell? ⟨(ad.add (i * 10)).block, (ad.add (i * 10)).off + 3, none⟩ = some (.int .i64 y.f2.f1) ∧ w'.cell? ⟨(ad.add (i * 10)).block, (ad.add (i * 10)).off + 4, none⟩ = some (.string y.f2.f2) ∧ w'.cell? ⟨(ad.add (i * 10)).block, (ad.add (i * 10)).off + 5, none⟩ = some (.bool y.f2.f3) ∧ w'.cell? ⟨(ad.add (i * 10)).block, (ad.add (i * 10)).off + 6, none⟩ = some (.string y.f3) ∧ w'.cell? ⟨(ad.add (i * 10)).block, (ad.add (i * 10)).off + 7, none⟩ = some (.int .i64 y.f4) ∧ w'.cell? ⟨(ad.add (i * 10)).block, (ad.add (i * 10)).off + 8, none⟩ = some (.string y.f5) ∧ w'.cell? ⟨(ad.add (i * 10)).block, (ad.add (i * 10)).off + 9, none⟩ = some (.slice B9 y.f6.length b9)))
    (Q : Exit → Act → World → Prop) (hQ : Hid (∀ (v33 v34 v35 v36 v37 v38 v39 v40 : Value) (g : Nat) (W : World), R10 R added vL y w3 (.pointer (some ⟨g, 0, none⟩)) W → Q .normal ⟨#[u0, .pointer (some ⟨gq, 0, none⟩), u2, .pointer (some ⟨b4, 0, none⟩), u4, .int .i64 i, .pointer (some ⟨g, 0, none⟩), u7, u8, u9, u10, u11, u12, u13, u14, u15, u16, u17, u18, u19, u20, u21, u22, u23, u24, u25, u26, u27, u28, u29, u30, u31, u32, v33, v34, v35, v36, v37, v38, v39, v40, u41, u42, u43, u44, u45, u46, u47, u48, u49, u50, u51, u52, u53, u54, u55, u56, u57, u58, u59, u60, u61, u62, u63, u64, u65, u66, u67, u68, u69, u70, u71, u72, u73, u74, u75, u76, u77, u78, u79], []⟩ W)) :
    Code.wp Try.prog reg10 Q ⟨#[u0, .pointer (some ⟨gq, 0, none⟩), u2, .pointer (some ⟨b4, 0, none⟩), u4, .int .i64 i, u6, u7, u8, u9, u10, u11, u12, u13, u14, u15, u16, u17, u18, u19, u20, u21, u22, u23, u24, u25, u26, u27, u28, u29, u30, u31, u32, u33, u34, u35, u36, u37, u38, u39, u40, u41, u42, u43, u44, u45, u46, u47, u48, u49, u50, u51, u52, u53, u54, u55, u56, u57, u58, u59, u60, u61, u62, u63, u64, u65, u66, u67, u68, u69, u70, u71, u72, u73, u74, u75, u76, u77, u78, u79], []⟩ w3 := by
  conv => arg 2; whnf
  have hnn : ((i : Int)).toNat = i := Int.toNat_natCast i
  refine wp_region_noPanic ?_
  refine wp_region_held_drew (S := fun w' => w'.cell? ⟨b4, 10, none⟩ = some (.pointer (some ⟨R, 0, none⟩)) ∧ w'.cell? ⟨gq, 4, none⟩ = some (.slice (some ad) mw cw) ∧ w'.cell? (ad.add (i * 10)) = some (.int .i64 y.f0) ∧ w'.cell? ⟨(ad.add (i * 10)).block, (ad.add (i * 10)).off + 1, none⟩ = some (.int .i64 y.f1) ∧ w'.cell? ⟨(ad.add (i * 10)).block, (ad.add (i * 10)).off + 2, none⟩ = some (.int .i64 y.f2.f0) ∧ w'.cell? ⟨(ad.add (i * 10)).block, (ad.add (i * 10)).off + 3, none⟩ = some (.int .i64 y.f2.f1) ∧ w'.cell? ⟨(ad.add (i * 10)).block, (ad.add (i * 10)).off + 4, none⟩ = some (.string y.f2.f2) ∧ w'.cell? ⟨(ad.add (i * 10)).block, (ad.add (i * 10)).off + 5, none⟩ = some (.bool y.f2.f3) ∧ w'.cell? ⟨(ad.add (i * 10)).block, (ad.add (i * 10)).off + 6, none⟩ = some (.string y.f3) ∧ w'.cell? ⟨(ad.add (i * 10)).block, (ad.add (i * 10)).off + 7, none⟩ = some (.int .i64 y.f4) ∧ w'.cell? ⟨(ad.add (i * 10)).block, (ad.add (i * 10)).off + 8, none⟩ = some (.string y.f5) ∧ w'.cell? ⟨(ad.add (i * 10)).block, (ad.add (i * 10)).off + 9, none⟩ = some (.slice B9 y.f6.length b9)) (by kernel_rfl) ?_ (fun hHeld => ?_)
  · first | exact HKeep.out _ (Only.refl _ _) | exact HKeep.out _ Only.drew | exact HKeep.out _ (Only.same Only.drew (Only.alloc _)) | exact HKeep.out _ (by assumption) | exact HKeep.out _ (Only.same (by assumption) (Only.alloc _))
  refine takeL (i := 0) (v := ?_) rfl (by kernel_rfl) (by kernel_rfl) (by kernel_rfl) (fun _ _ _ h => h) (by rfl) ?_ (by assumption) ?_
  rotate_left
  · (intro w hSw; (try dsimp only at hSw); go_simp; all_goals (with_reducible rfl))
  try simp only [Act.put, List.setIfInBounds_toArray, List.set_cons_zero, List.set_cons_succ]
  refine takeL (i := 1) (v := ?_) rfl (by kernel_rfl) (by kernel_rfl) (by kernel_rfl) (fun _ _ _ h => h) (by rfl) ?_ (by assumption) ?_
  rotate_left
  · (intro w hSw; (try dsimp only at hSw); go_simp; all_goals (with_reducible rfl))
  try simp only [Act.put, List.setIfInBounds_toArray, List.set_cons_zero, List.set_cons_succ]
  refine takeL (i := 2) (v := ?_) rfl (by kernel_rfl) (by kernel_rfl) (by kernel_rfl) (fun _ _ _ h => h) (by rfl) ?_ (by assumption) ?_
  rotate_left
  · (intro w hSw; (try dsimp only at hSw); go_simp; all_goals (with_reducible rfl))
  try simp only [Act.put, List.setIfInBounds_toArray, List.set_cons_zero, List.set_cons_succ]
  refine takeL (i := 3) (v := ?_) rfl (by kernel_rfl) (by kernel_rfl) (by kernel_rfl) (fun _ _ _ h => h) (by rfl) ?_ (by assumption) ?_
  rotate_left
  · (intro w hSw; (try dsimp only at hSw); go_simp; all_goals (with_reducible rfl))
  try simp only [Act.put, List.setIfInBounds_toArray, List.set_cons_zero, List.set_cons_succ]
  refine takeL (i := 4) (v := ?_) rfl (by kernel_rfl) (by kernel_rfl) (by kernel_rfl) (fun _ _ _ h => h) (by rfl) ?_ (by assumption) ?_
  rotate_left
  · (intro w hSw; (try dsimp only at hSw); go_simp; all_goals (with_reducible rfl))
  try simp only [Act.put, List.setIfInBounds_toArray, List.set_cons_zero, List.set_cons_succ]
  refine takeL (i := 5) (v := ?_) rfl (by kernel_rfl) (by kernel_rfl) (by kernel_rfl) (fun _ _ _ h => h) (by rfl) ?_ (by assumption) ?_
  rotate_left
  · (intro w hSw; (try dsimp only at hSw); go_simp; all_goals (with_reducible rfl))
  try simp only [Act.put, List.setIfInBounds_toArray, List.set_cons_zero, List.set_cons_succ]
  refine takeL (i := 6) (v := ?_) rfl (by kernel_rfl) (by kernel_rfl) (by kernel_rfl) (fun _ _ _ h => h) (by rfl) ?_ (by assumption) ?_
  rotate_left
  · (intro w hSw; (try dsimp only at hSw); go_simp; all_goals (with_reducible rfl))
  try simp only [Act.put, List.setIfInBounds_toArray, List.set_cons_zero, List.set_cons_succ]
  refine wpAnyH_ready (rs := [7, 8]) (by kernel_rfl) (by simp) ?_
  refine AllReadyH.cons (drop_at (rest := _) rfl) (fun K hK => ?_) ?_
  · -- the call first
    go_simp
    go_at_call 41
    refine (HTW.out _ (by first | exact below_drew (Below.refl _ _) | exact below_step (below_drew (Below.refl _ _)) (below_new _ _))).mono ?_
    rintro e W4 ⟨A', added', vL', he, hR3, hv3, hs3, hrd3, hm3, hOn3, hal3⟩
    unfold exV at he
    subst he
    have hbk : Only (RS R vL) w3 W4 := (by first | exact Only.same Only.drew hOn3 | exact Only.same (Only.same Only.drew (Only.alloc _)) hOn3)
    refine hK.out _ _ ?_ (fun hHeld => ?_)
    · first | exact HKeep.out _ (Only.refl _ _) | exact HKeep.out _ Only.drew | exact HKeep.out _ (Only.same Only.drew (Only.alloc _)) | exact HKeep.out _ (by assumption) | exact HKeep.out _ (Only.same (by assumption) (Only.alloc _))
    clear hK K
    try simp only [Act.put, List.setIfInBounds_toArray, List.set_cons_zero, List.set_cons_succ]
    refine callL (i := 8) rfl (by kernel_rfl) (fun K hK => ?_)
    go_simp
    refine hK.out _ _ (HKeep.out _ (hbk.same (Only.alloc _))) (fun hHeld => ?_)
    clear hK K
    try simp only [Act.put, List.setIfInBounds_toArray, List.set_cons_zero, List.set_cons_succ]
    have hz := blk_new W4 (.cells #[.int .i64 0, .int .i64 0, .int .i64 0, .int .i64 0, .string ⟨#[]⟩, .bool false, .string ⟨#[]⟩, .int .i64 0, .string ⟨#[]⟩, .slice none 0 0] 31)
    have z0 := (blk_cell hz 0).trans rfl
    have z1 := (blk_cell hz 1).trans rfl
    have z2 := (blk_cell hz 2).trans rfl
    have z3 := (blk_cell hz 3).trans rfl
    have z4 := (blk_cell hz 4).trans rfl
    have z5 := (blk_cell hz 5).trans rfl
    have z6 := (blk_cell hz 6).trans rfl
    have z7 := (blk_cell hz 7).trans rfl
    have z8 := (blk_cell hz 8).trans rfl
    have z9 := (blk_cell hz 9).trans rfl
    have fz := blk_frozen hz
    have H1 := Lib.hid (Only.drew (S := fun _ => False) (w := w3))
    have hz1 := Lib.hid hz
    clear hz hHeld
    refine callL (i := 9) rfl (by kernel_rfl) (fun K hK => ?_)
    go_simp
    have HB4 := below_new W4 (.cells (exCellsT y (.slice A' y.f6.length (y.f6.length + 12))).toArray 31)
    have hbk5 : Only (RS R vL) w3 (W4.alloc (.cells (exCellsT y (.slice A' y.f6.length (y.f6.length + 12))).toArray 31)) := hbk.same (Only.alloc _)
    refine hK.out _ _ (HKeep.out _ hbk5) (fun hHeld => ?_)
    clear hK K
    try simp only [Act.put, List.setIfInBounds_toArray, List.set_cons_zero, List.set_cons_succ]
    refine wpAnyH_done (by kernel_rfl) ?_ _
    refine NoPanic.normal ?_
    exact hQ.out _ _ _ _ _ _ _ _ _ _ (r10_of hR0.out Only.drew hR3 hv3 hs3 hrd3 hm3 hOn3 hal3 (Only.of_below HB4) (blk_new W4 _) hbk.size (Or.inr (Nat.le_refl _)))
  refine AllReadyH.cons (drop_at (rest := _) rfl) (fun K hK => ?_) AllReadyH.nil
  · go_simp
    refine hK.out _ _ (HKeep.out _ (Only.same Only.drew (Only.alloc _))) (fun hHeld => ?_)
    clear hK K
    try simp only [Act.put, List.setIfInBounds_toArray, List.set_cons_zero, List.set_cons_succ]
    refine callL (i := 7) rfl (by kernel_rfl) (fun K hK => ?_)
    go_simp
    go_at_call 41
    refine (HTW.out _ (by first | exact below_drew (Below.refl _ _) | exact below_step (below_drew (Below.refl _ _)) (below_new _ _))).mono ?_
    rintro e W4 ⟨A', added', vL', he, hR3, hv3, hs3, hrd3, hm3, hOn3, hal3⟩
    unfold exV at he
    subst he
    have hbk : Only (RS R vL) w3 W4 := (by first | exact Only.same Only.drew hOn3 | exact Only.same (Only.same Only.drew (Only.alloc _)) hOn3)
    refine hK.out _ _ ?_ (fun hHeld => ?_)
    · first | exact HKeep.out _ (Only.refl _ _) | exact HKeep.out _ Only.drew | exact HKeep.out _ (Only.same Only.drew (Only.alloc _)) | exact HKeep.out _ (by assumption) | exact HKeep.out _ (Only.same (by assumption) (Only.alloc _))
    clear hK K
    try simp only [Act.put, List.setIfInBounds_toArray, List.set_cons_zero, List.set_cons_succ]
    have hz : W4.heap[w3.heap.size]? = some (.cells #[.int .i64 0, .int .i64 0, .int .i64 0, .int .i64 0, .string ⟨#[]⟩, .bool false, .string ⟨#[]⟩, .int .i64 0, .string ⟨#[]⟩, .slice none 0 0] 31 (0, 0)) := hOn3.blk (blk_new w3.drew (.cells #[.int .i64 0, .int .i64 0, .int .i64 0, .int .i64 0, .string ⟨#[]⟩, .bool false, .string ⟨#[]⟩, .int .i64 0, .string ⟨#[]⟩, .slice none 0 0] 31)) HNS.out
    have z0 := (blk_cell hz 0).trans rfl
    have z1 := (blk_cell hz 1).trans rfl
    have z2 := (blk_cell hz 2).trans rfl
    have z3 := (blk_cell hz 3).trans rfl
    have z4 := (blk_cell hz 4).trans rfl
    have z5 := (blk_cell hz 5).trans rfl
    have z6 := (blk_cell hz 6).trans rfl
    have z7 := (blk_cell hz 7).trans rfl
    have z8 := (blk_cell hz 8).trans rfl
    have z9 := (blk_cell hz 9).trans rfl
    have fz := blk_frozen hz
    have hz1 := Lib.hid hz
    clear hz
    refine callL (i := 9) rfl (by kernel_rfl) (fun K hK => ?_)
    go_simp
    have HF : Only (fun b => b = w3.heap.size) W4 _ := only_set10 (g := w3.heap.size) (w := W4) (.int .i64 y.f0) (.int .i64 y.f1) (.int .i64 y.f2.f0) (.int .i64 y.f2.f1) (.string y.f2.f2) (.bool y.f2.f3) (.string y.f3) (.int .i64 y.f4) (.string y.f5) (.slice A' y.f6.length (y.f6.length + 12))
    have hbk5 : Only (RS R vL) w3 _ := hbk.trans HF (fun b hb (e : b = w3.heap.size) => by omega)
    refine hK.out _ _ (HKeep.out _ hbk5) (fun hHeld => ?_)
    clear hK K
    try simp only [Act.put, List.setIfInBounds_toArray, List.set_cons_zero, List.set_cons_succ]
    refine wpAnyH_done (by kernel_rfl) ?_ _
    refine NoPanic.normal ?_
    exact hQ.out _ _ _ _ _ _ _ _ _ _ (r10_of hR0.out (Only.drew.same (Only.alloc _)) hR3 hv3 hs3 hrd3 hm3 hOn3 hal3 HF (blk_set10 hz1.out _ _ _ _ _ _ _ _ _ _) (Nat.le_refl _) (Or.inl (by rw [alloc_size']; exact Nat.lt_succ_self _)))
end Go.Proofs.Ytgnifglolbfamaa

