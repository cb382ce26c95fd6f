import Derived.Test.YtcfgmkmllcfjjaaGreatDoorZAL
import Derived.Test.YtcfgmkmllcfjjaaGreatDoorZAR
import Derived.Test.YtcfgmkmllcfjjaaGreatDoorZAQ
import Derived.Deep.DeepCutAuto
set_option linter.unusedVariables false
set_option linter.unusedSimpArgs false
namespace Go.Proofs.YtcfgmkmllcfjjaaGreatDoor
open Go.RowKit Go.Proofs.YtcfgmkmllcfjjaaGreatDoorW.PrintWords Go.Proofs.YtcfgmkmllcfjjaaGreatDoorW.PrintMore PImageAll
def smallM : Img := ⟨4, 2, 1, 3, [⟨⟨#[84]⟩, [⟨⟨#[120]⟩, 1⟩]⟩], [], [⟨1, ⟨⟨#[84]⟩, 3, [⟨1, -1, ⟨#[]⟩, false⟩]⟩, false⟩]⟩
def smallL : List Int := [114, 102, 114, 110, 8, 4, 2, 6, 2, 2, 84, 2, 2, 120, 1, 0, 2, 2, 0, 2, 84, 6, 2, 1, 1]
def smallB : List Int := [114, 102, 114, 110, 8, 4, 2, 6, 2, 2, 84, 2, 2, 120, 1, 0, 2, 2, 0, 2, 84, 6, 2, 1, 1, 55, 9, 3, 6]
theorem puti_sm (n : Int) (z : Nat) (h : Lib.zigzag n = z) (hz : z < 128) : puti n = [(z : Int)] := by
  unfold puti
  rw [h, uvL_small hz]
theorem small_may : mayB smallM = true := by decide +kernel
theorem small_fault : faultN ⟨⟨#[84]⟩, 3, [⟨1, -1, ⟨#[]⟩, false⟩]⟩ = 0 := by decide +kernel
theorem small_bad : ¬ badL smallM.seens = true := by decide +kernel
theorem p0 : puti 0 = [0] := puti_sm 0 0 rfl (by decide)
theorem p1 : puti 1 = [2] := puti_sm 1 2 rfl (by decide)
theorem p2 : puti 2 = [4] := puti_sm 2 4 rfl (by decide)
theorem p3 : puti 3 = [6] := puti_sm 3 6 rfl (by decide)
theorem p4 : puti 4 = [8] := puti_sm 4 8 rfl (by decide)
theorem pm1 : puti (-1) = [1] := puti_sm (-1) 1 rfl (by decide)
theorem txt1 (b : UInt8) : txt ⟨#[b]⟩ = [2, (b.toNat : Int)] := by
  have h : txt ⟨#[b]⟩ = puti 1 ++ [(b.toNat : Int)] := rfl
  rw [h, p1]
  rfl
theorem small_laid : laid smallM = smallL := by
  have h1 : encNums smallM = [8, 4, 2, 6] := by
    show puti 4 ++ (puti 2 ++ (puti 1 ++ puti 3)) = _
    rw [p4, p2, p1, p3]
    rfl
  have h2 : encTypes smallM.types = [2, 2, 84, 2, 2, 120, 1] := by
    show puti 1 ++ ((txt ⟨#[84]⟩ ++ (puti 1 ++ ((txt ⟨#[120]⟩ ++ [IntKind.u8.wrap 1]) ++ []))) ++ []) = _
    rw [p1, txt1, txt1]
    rfl
  have h3 : encSaveds smallM.saved = [0] := by
    show puti 0 ++ [] = _
    rw [p0]
    rfl
  have h4 : encSeens smallM.seens = [2, 2, 0, 2, 84, 6, 2, 1, 1] := by
    have e1 : encB ⟨⟨#[84]⟩, 3, [⟨1, -1, ⟨#[]⟩, false⟩]⟩ = [2, 84, 6, 2, 1, 1] := by
      unfold encB
      rw [if_pos small_fault]
      show txt ⟨#[84]⟩ ++ (puti 3 ++ (puti 1 ++ ((1 :: puti (-1)) ++ []))) = _
      rw [txt1, p3, p1, pm1]
      rfl
    show puti 1 ++ ((puti (sub64 1 0) ++ ([0] ++ encB ⟨⟨#[84]⟩, 3, [⟨1, -1, ⟨#[]⟩, false⟩]⟩)) ++ []) = _
    rw [show sub64 1 0 = 1 by decide, e1, p1]
    rfl
  have e := laid_app smallM []
  rw [List.append_nil] at e
  rw [e, h1, h2, h3, h4]
  rfl
theorem small_saveE : saveE smallM = 0 := by
  unfold saveE
  rw [if_pos small_may, if_neg small_bad, small_laid, if_neg (by decide)]
theorem small_saveB : saveB smallM = smallB := by
  unfold saveB
  rw [if_pos small_saveE, small_laid]
  decide +kernel
theorem small_I : ImgI smallM := by
  refine ⟨by unfold I64; decide, by unfold I64; decide, by unfold I64; decide, by unfold I64; decide, (fun x hx => by cases hx), ?_, ?_, ?_, ?_, ?_, ?_⟩
  · intro x hx y hy
    rw [show smallM.seens = [⟨1, ⟨⟨#[84]⟩, 3, [⟨1, -1, ⟨#[]⟩, false⟩]⟩, false⟩] from rfl, List.mem_singleton] at hx
    subst hx
    rw [List.mem_singleton] at hy
    subst hy
    unfold I64
    decide
  · show 1 ≤ _; omega
  · show 0 ≤ _; omega
  · show 1 ≤ _; omega
  · intro x hx
    rw [show smallM.types = [⟨⟨#[84]⟩, [⟨⟨#[120]⟩, 1⟩]⟩] from rfl, List.mem_singleton] at hx
    subst hx
    show 1 ≤ _; omega
  · intro x hx
    rw [show smallM.seens = [⟨1, ⟨⟨#[84]⟩, 3, [⟨1, -1, ⟨#[]⟩, false⟩]⟩, false⟩] from rfl, List.mem_singleton] at hx
    subst hx
    show 1 ≤ _; omega
theorem imgB_of {m : Img} (h1 : m.types.length ≤ 4611686018427387904) (h2 : m.saved.length ≤ 4611686018427387904) (h3 : m.seens.length ≤ 4611686018427387904) (h4 : ∀ x ∈ m.types, x.f1.length ≤ 4611686018427387904) (h5 : ∀ x ∈ m.seens, x.f1.f2.length ≤ 4611686018427387904) : ImgB m := ⟨h1, h2, h3, h4, h5⟩
theorem small_B : ImgB smallM := by
  refine imgB_of ?_ ?_ ?_ ?_ ?_
  · show 1 ≤ _; omega
  · show 0 ≤ _; omega
  · show 1 ≤ _; omega
  · intro x hx
    rw [show smallM.types = [⟨⟨#[84]⟩, [⟨⟨#[120]⟩, 1⟩]⟩] from rfl, List.mem_singleton] at hx
    subst hx
    show 1 ≤ _; omega
  · intro x hx
    rw [show smallM.seens = [⟨1, ⟨⟨#[84]⟩, 3, [⟨1, -1, ⟨#[]⟩, false⟩]⟩, false⟩] from rfl, List.mem_singleton] at hx
    subst hx
    show 1 ≤ _; omega
theorem small_len : smallB.length = 29 := rfl
theorem small_bytes : Bytes smallB := by
  rw [← small_saveB]
  exact (save_summed small_I small_saveE).bytes
theorem small_load : loadF smallB = (smallM, 0) := by
  rw [← small_saveB]
  exact load_save small_I small_saveE
theorem reps_flat1 : ∀ (l : List Int) {W : World}, Reps ((Kd.int .u8).K W) 1 l (nums .u8 l)
  | [], W => Reps.none _ _
  | x :: l, W => Reps.front (c := [.int .u8 x]) rfl rfl (reps_flat1 l) rfl
def alls (w : World) : List Obj → World
  | [] => w
  | o :: os => alls (w.alloc o) os
theorem alls_below : ∀ (os : List Obj) (w : World), Below w.heap.size w (alls w os)
  | [], w => Below.refl _ _
  | o :: os, w => below_step ((Below.refl _ _).alloc (Nat.le_refl _) o) (alls_below os (w.alloc o))
theorem alls_get : ∀ (os : List Obj) (w : World) (k : Nat) (o : Obj), os[k]? = some o → (alls w os).heap[w.heap.size + k]? = some o
  | [], w, k, o, h => by cases h
  | p :: os, w, 0, o, h => by
    injection h with h
    subst h
    exact blk_below (blk_new w p) (alls_below os (w.alloc p))
  | p :: os, w, k + 1, o, h => by
    have := alls_get os (w.alloc p) k o h
    rw [show (w.alloc p).heap.size = w.heap.size + 1 by simp] at this
    rw [show w.heap.size + (k + 1) = w.heap.size + 1 + k by omega]
    exact this
theorem one_new {α : Type} {k : Kd α} {W : World} {g e : Nat} {cs : List Value} {x : α} (h : Cl W g e cs) (hx : k.K W x cs) (hc : cs.length = k.sz) : Kd.C k W (some ⟨g, 0, none⟩) 1 [x] :=
  Cl.reads (r := []) (ps := [x]) (by rw [List.append_nil]; exact h) (Reps.front hx hc (Reps.none _ _) (List.append_nil _)) (by simp)
set_option maxRecDepth 100000 in
set_option maxHeartbeats 2000000 in
theorem small_any (w : World) : Calls Tryz.prog 15 #[] w fun e w' => ∃ A4 c4 A5 c5 A6 c6 A7 c7, e = .returned (.tuple #[imgV smallM (.slice A4 smallM.types.length c4) (.slice A5 smallM.saved.length c5) (.slice A6 smallM.seens.length c6), .slice A7 smallB.length c7]) ∧
    ImgV w' smallM A4 c4 A5 c5 A6 c6 ∧ (Kd.C (Kd.int .u8) w' A7 smallB.length smallB ∧ smallB.length ≤ c7) ∧ Below w.heap.size w w' := by
  go_enter Tryz.func15, Tryz.ntmps15
  go_wp2_with fail
  obtain ⟨W, hW⟩ : ∃ W, W = alls w [.cells #[.int .i64 4, .int .i64 2, .int .i64 1, .int .i64 3, .slice (some ⟨w.heap.size + 1 + 1, 0, none⟩) 1 1, .slice none 0 0, .slice (some ⟨w.heap.size + 1 + 1 + 1 + 1 + 1, 0, none⟩) 1 1] 31, .cells #[.string ⟨#[120]⟩, .int .i64 1] 58, .cells #[.string ⟨#[84]⟩, .slice (some ⟨w.heap.size + 1, 0, none⟩) 1 1] 56, .cells #[.int .i64 4, .int .i64 2, .int .i64 1, .int .i64 3, .slice (some ⟨w.heap.size + 1 + 1, 0, none⟩) 1 1, .slice none 0 0, .slice (some ⟨w.heap.size + 1 + 1 + 1 + 1 + 1, 0, none⟩) 1 1] 31, .cells #[.int .i64 1, .int .i64 (-1), .string ⟨#[]⟩, .bool false] 67, .cells #[.int .i64 1, .string ⟨#[84]⟩, .int .i64 3, .slice (some ⟨w.heap.size + 1 + 1 + 1 + 1, 0, none⟩) 1 1, .bool false] 65, .cells #[.int .u8 114, .int .u8 102, .int .u8 114, .int .u8 110, .int .u8 8, .int .u8 4, .int .u8 2, .int .u8 6, .int .u8 2, .int .u8 2, .int .u8 84, .int .u8 2, .int .u8 2, .int .u8 120, .int .u8 1, .int .u8 0, .int .u8 2, .int .u8 2, .int .u8 0, .int .u8 2, .int .u8 84, .int .u8 6, .int .u8 2, .int .u8 1, .int .u8 1, .int .u8 55, .int .u8 9, .int .u8 3, .int .u8 6] 5] := ⟨_, rfl⟩
  have h0 : W.heap[w.heap.size]? = some (.cells #[.int .i64 4, .int .i64 2, .int .i64 1, .int .i64 3, .slice (some ⟨w.heap.size + 1 + 1, 0, none⟩) 1 1, .slice none 0 0, .slice (some ⟨w.heap.size + 1 + 1 + 1 + 1 + 1, 0, none⟩) 1 1] 31) := by rw [hW]; exact alls_get _ w 0 _ rfl
  have h1 : Cl W (w.heap.size + 1) 58 [.string ⟨#[120]⟩, .int .i64 1] := by rw [hW]; exact alls_get _ w 1 _ rfl
  have h2 : Cl W (w.heap.size + 1 + 1) 56 [.string ⟨#[84]⟩, .slice (some ⟨w.heap.size + 1, 0, none⟩) 1 1] := by rw [hW]; exact alls_get _ w 2 _ rfl
  have h4 : Cl W (w.heap.size + 1 + 1 + 1 + 1) 67 [.int .i64 1, .int .i64 (-1), .string ⟨#[]⟩, .bool false] := by rw [hW]; exact alls_get _ w 4 _ rfl
  have h5 : Cl W (w.heap.size + 1 + 1 + 1 + 1 + 1) 65 [.int .i64 1, .string ⟨#[84]⟩, .int .i64 3, .slice (some ⟨w.heap.size + 1 + 1 + 1 + 1, 0, none⟩) 1 1, .bool false] := by rw [hW]; exact alls_get _ w 5 _ rfl
  have h6 : Cl W (w.heap.size + 1 + 1 + 1 + 1 + 1 + 1) 5 [.int .u8 114, .int .u8 102, .int .u8 114, .int .u8 110, .int .u8 8, .int .u8 4, .int .u8 2, .int .u8 6, .int .u8 2, .int .u8 2, .int .u8 84, .int .u8 2, .int .u8 2, .int .u8 120, .int .u8 1, .int .u8 0, .int .u8 2, .int .u8 2, .int .u8 0, .int .u8 2, .int .u8 84, .int .u8 6, .int .u8 2, .int .u8 1, .int .u8 1, .int .u8 55, .int .u8 9, .int .u8 3, .int .u8 6] := by rw [hW]; exact alls_get _ w 6 _ rfl
  have hB : Below w.heap.size w W := by rw [hW]; exact alls_below _ w
  change bodyPost _ _ _ _ _ (alls w [.cells #[.int .i64 4, .int .i64 2, .int .i64 1, .int .i64 3, .slice (some ⟨w.heap.size + 1 + 1, 0, none⟩) 1 1, .slice none 0 0, .slice (some ⟨w.heap.size + 1 + 1 + 1 + 1 + 1, 0, none⟩) 1 1] 31, .cells #[.string ⟨#[120]⟩, .int .i64 1] 58, .cells #[.string ⟨#[84]⟩, .slice (some ⟨w.heap.size + 1, 0, none⟩) 1 1] 56, .cells #[.int .i64 4, .int .i64 2, .int .i64 1, .int .i64 3, .slice (some ⟨w.heap.size + 1 + 1, 0, none⟩) 1 1, .slice none 0 0, .slice (some ⟨w.heap.size + 1 + 1 + 1 + 1 + 1, 0, none⟩) 1 1] 31, .cells #[.int .i64 1, .int .i64 (-1), .string ⟨#[]⟩, .bool false] 67, .cells #[.int .i64 1, .string ⟨#[84]⟩, .int .i64 3, .slice (some ⟨w.heap.size + 1 + 1 + 1 + 1, 0, none⟩) 1 1, .bool false] 65, .cells #[.int .u8 114, .int .u8 102, .int .u8 114, .int .u8 110, .int .u8 8, .int .u8 4, .int .u8 2, .int .u8 6, .int .u8 2, .int .u8 2, .int .u8 84, .int .u8 2, .int .u8 2, .int .u8 120, .int .u8 1, .int .u8 0, .int .u8 2, .int .u8 2, .int .u8 0, .int .u8 2, .int .u8 84, .int .u8 6, .int .u8 2, .int .u8 1, .int .u8 1, .int .u8 55, .int .u8 9, .int .u8 3, .int .u8 6] 5])
  rw [← hW]
  have c1 : Kd.C k58 W (some ⟨w.heap.size + 1, 0, none⟩) 1 [⟨⟨#[120]⟩, 1⟩] := one_new h1 (k58_mk W ⟨⟨#[120]⟩, 1⟩) rfl
  have c2 : Kd.C k56 W (some ⟨w.heap.size + 1 + 1, 0, none⟩) 1 [⟨⟨#[84]⟩, [⟨⟨#[120]⟩, 1⟩]⟩] := one_new h2 (k56_mk W ⟨⟨#[84]⟩, [⟨⟨#[120]⟩, 1⟩]⟩ (Nat.le_refl 1) c1) rfl
  have c4 : Kd.C k67 W (some ⟨w.heap.size + 1 + 1 + 1 + 1, 0, none⟩) 1 [⟨1, -1, ⟨#[]⟩, false⟩] := one_new h4 (k67_mk W ⟨1, -1, ⟨#[]⟩, false⟩) rfl
  have c5 : Kd.C k65 W (some ⟨w.heap.size + 1 + 1 + 1 + 1 + 1, 0, none⟩) 1 [⟨1, ⟨⟨#[84]⟩, 3, [⟨1, -1, ⟨#[]⟩, false⟩]⟩, false⟩] := one_new h5 (k65_mk W ⟨1, ⟨⟨#[84]⟩, 3, [⟨1, -1, ⟨#[]⟩, false⟩]⟩, false⟩ (Nat.le_refl 1) c4) rfl
  have c6 : Kd.C (Kd.int .u8) W (some ⟨w.heap.size + 1 + 1 + 1 + 1 + 1 + 1, 0, none⟩) 29 smallB := Cl.reads (k := Kd.int .u8) (ps := smallB) (cs := nums .u8 smallB) (r := []) (e := 5) (by rw [List.append_nil]; exact h6) (reps_flat1 _) (by decide)
  clear hW
  exact bodyPost_ret (results_ct rfl _ _ w.heap.size 31 _ (0, 0) _ rfl h0 Tryz.underlying31 rfl (by kernel_rfl)) rfl ⟨_, _, _, _, _, _, _, _, rfl, ⟨⟨c2, Nat.le_refl 1⟩, ⟨Kd.C_nil _ _, Nat.le_refl 0⟩, ⟨c5, Nat.le_refl 1⟩⟩, ⟨c6, Nat.le_refl 29⟩, hB⟩
set_option maxRecDepth 100000 in
set_option maxHeartbeats 4000000 in
theorem Load_any {w : World} {A : Option Addr} {c : Nat} {L : List Int} (hG : GW w) (hC : Kd.C (Kd.int .u8) w A L.length L) (hc : L.length ≤ c) (hB : Bytes L) (hm : L.length ≤ 4611686018427387904) :
    Calls Tryz.prog 12 #[.slice A L.length c] w (LoadPost w (loadF L)) := by
  generalize hW0 : w.alloc (.cells #[.int .i64 0, .int .i64 0, .int .i64 0, .int .i64 0, .slice none 0 0, .slice none 0 0, .slice none 0 0] 31) = W0
  have HW0 := Lib.hid hW0
  have hb0 : Below w.heap.size w W0 := by rw [← hW0]; exact below_new w _
  have hz : IBox W0 w.heap.size zImg (.slice none 0 0) (.slice none 0 0) (.slice none 0 0) := by rw [← hW0]; exact blk_new w _
  have HB0 := Lib.hid hb0
  have HZ := Lib.hid hz
  have HG := Lib.hid hG
  have HC := Lib.hid hC
  have HB := Lib.hid hB
  have hlf : loadF L = if 67108864 < L.length then (zImg, 2)
    else if L.length < 8 then (zImg, 30)
    else if sumB (L.take (L.length - 4)) = L.drop (L.length - 4) then
    (if (loadM L).1.2 = true ∨ 0 < (loadM L).1.1.length then (zImg, 220) else (if saveE (loadM L).2 = 0 ∧ saveB (loadM L).2 = L then ((loadM L).2, 0) else (zImg, 220)))
    else (zImg, 32) := rfl
  generalize loadF L = R at *
  have z0 := (blk_cell hz 0).trans rfl
  have z1 := (blk_cell hz 1).trans rfl
  have z2 := (blk_cell hz 2).trans rfl
  have z3 := (blk_cell hz 3).trans rfl
  have z4 := (blk_cell hz 4).trans rfl
  have z5 := (blk_cell hz 5).trans rfl
  have z6 := (blk_cell hz 6).trans rfl
  have f0 := blk_frozen hz 0
  have f1 := blk_frozen hz 1
  have f2 := blk_frozen hz 2
  have f3 := blk_frozen hz 3
  have f4 := blk_frozen hz 4
  have f5 := blk_frozen hz 5
  have f6 := blk_frozen hz 6
  by_cases hlong : 67108864 < L.length
  · rw [if_pos hlong] at hlf
    subst hlf
    have d1 : decide (67108864 < (L.length : Int)) = true := decide_eq_true (by omega)
    clear hW0 hb0 hz hG hC hB hlong
    go_enter Tryz.func12, Tryz.ntmps12
    go_wp2_with fail
    rw [HW0.out]
    go_wp2_with fail
    exact bodyPost_ret (results_ct rfl _ _ w.heap.size 31 #[.int .i64 0, .int .i64 0, .int .i64 0, .int .i64 0, .slice none 0 0, .slice none 0 0, .slice none 0 0] (0, 0) _ rfl HZ.out Tryz.underlying31 rfl (by kernel_rfl)) rfl ⟨_, _, _, rfl, IRows.nil _ _, HB0.out⟩
  · rw [if_neg hlong] at hlf
    have d1 : decide (67108864 < (L.length : Int)) = false := decide_eq_false (by omega)
    by_cases hshort : L.length < 8
    · rw [if_pos hshort] at hlf
      subst hlf
      have d2 : decide ((L.length : Int) < 8) = true := decide_eq_true (by omega)
      clear hW0 hb0 hz hG hC hB hlong hshort
      go_enter Tryz.func12, Tryz.ntmps12
      go_wp2_with fail
      rw [HW0.out]
      go_wp2_with fail
      exact bodyPost_ret (results_ct rfl _ _ w.heap.size 31 #[.int .i64 0, .int .i64 0, .int .i64 0, .int .i64 0, .slice none 0 0, .slice none 0 0, .slice none 0 0] (0, 0) _ rfl HZ.out Tryz.underlying31 rfl (by kernel_rfl)) rfl ⟨_, _, _, rfl, IRows.nil _ _, HB0.out⟩
    · rw [if_neg hshort] at hlf
      have d2 : decide ((L.length : Int) < 8) = false := decide_eq_false (by omega)
      obtain ⟨k, hk⟩ : ∃ k, L.length = k + 4 := ⟨L.length - 4, by omega⟩
      have hk4 : L.length - 4 = k := by omega
      have HLM : Hid (loadM L = ldK (L.take k, false) 5) := Lib.hid (by rw [← hk4]; rfl)
      rw [hk4] at hlf
      obtain ⟨i0, hi, hzz⟩ := Option.map_eq_some_iff.1 info5
      simp only [Prod.mk.injEq] at hzz
      obtain ⟨hz0, hz1, hz2⟩ := hzz
      have ht := cut_to (P := Tryz.prog) 33 5 .i64 Tryz.underlying33 hi A L.length c ((L.length : Int) - 4) (by omega) (by omega) hc
      have hf := cut_from (P := Tryz.prog) 33 5 .i64 Tryz.underlying33 hi 1 hz1 A L.length c ((L.length : Int) - 4) (by omega) (by omega)
      rw [show ((L.length : Int) - 4).toNat = k by omega] at ht hf
      rw [show L.length - k = 4 by omega] at hf
      have hlt : (L.take k).length = k := by rw [List.length_take]; omega
      have hld : (L.drop k).length = 4 := by rw [List.length_drop]; omega
      have hCt := Kd.C_take hC (show k ≤ L.length by omega)
      have hCd := Kd.C_drop hC (show k ≤ L.length by omega) hc
      rw [hlt] at hCt
      rw [hld] at hCd
      have hCd' : Kd.C (Kd.int .u8) w (if c = k then A else A.map (·.add (k * 1))) 4 (L.drop k) := hCd
      generalize (if c = k then A else A.map (·.add (k * 1))) = A1 at *
      have hBt : Bytes (L.take k) := hB.take k
      have hBd : Bytes (L.drop k) := hB.drop k
      have HS1 := Lib.hid (show ∀ W, Below w.heap.size w W → Calls Tryz.prog 24 #[.slice A k c] W fun e w' => ∃ g c1, e = .returned (.slice (some ⟨g, 0, none⟩) 4 c1) ∧ BRow w' W.heap.size (.slice (some ⟨g, 0, none⟩) 4 c1) (sumB (L.take k)) ∧ Below W.heap.size W w' from fun W hW => by
        have := sum_any (w := W) (A := A) (c := c) (l := L.take k) (by rw [hlt]; exact Kd.C_below hCt hW) (by rw [hlt]; omega) hBt (by rw [hlt]; omega)
        rw [hlt] at this
        exact this)
      have HE1 := Lib.hid (show ∀ W g c1, Below w.heap.size w W → BRow W w.heap.size (.slice (some ⟨g, 0, none⟩) 4 c1) (sumB (L.take k)) → Calls Tryz.prog 30 #[.slice (some ⟨g, 0, none⟩) 4 c1, .slice A1 4 (c - k)] W fun e w' => e = .returned (.bool (decide (sumB (L.take k) = L.drop k))) ∧ Drawn0 W w' from fun W g c1 hW hr => by
        obtain ⟨h1, h2⟩ := BRow.reads (l := sumB (L.take k)) hr
        have := equal_any (w := W) (A0 := some ⟨g, 0, none⟩) (A1 := A1) (c0 := c1) (c1 := c - k) (l0 := sumB (L.take k)) (l1 := L.drop k) (sumB_bytes _) hBd h2 h1 (by rw [hld]; exact Kd.C_below hCd' hW) (by rw [hld]; omega)
        rw [hld] at this
        exact this)
      have HCt := Lib.hid hCt
      have HCL := Lib.hid hC
      have HBY := Lib.hid hB
      have HKC := Lib.hid (show k ≤ c ∧ k ≤ 67108864 by omega)
      have HLT := Lib.hid hlt
      have HRK := Lib.hid (show Rok (L.take k, false) from ⟨hBt, by show (L.take k).length ≤ _; rw [hlt]; omega⟩)
      have HLF := Lib.hid hlf
      clear hW0 hb0 hz hG hC hB hlong hshort hk hk4 hi hz0 hz1 hz2 hlt hld hCt hCd hCd' hBt hBd hlf
      generalize hsb : decide (sumB (L.take k) = L.drop k) = sb at *
      have HSB := Lib.hid hsb
      clear hsb
      obtain ⟨nb, hnb⟩ : ∃ nb : Bool, nb = !sb := ⟨_, rfl⟩
      have HNB := Lib.hid hnb
      clear hnb
      go_enter Tryz.func12, Tryz.ntmps12
      go_wp2_with fail
      rw [HW0.out]
      go_upto_region 6 with fail
      go_cut [24] from 25 to 33 (fun t24 wx => t24 = .bool nb ∧ Hid (Below W0.heap.size W0 wx))
      case first =>
        go_region_law (first
          | (go_simp; go_at_call 24; refine (HS1.out _ (by first | exact below_drew HB0.out | exact HB0.out)).mono ?_; rintro e5 w5 ⟨g5, c5, rfl, h5, hb5⟩; have HB5 : Hid (Below W0.heap.size W0 w5) := Lib.hid (by first | exact below_step (below_drew (Below.refl _ _)) hb5 | exact hb5); have H5 := Lib.hid (own_less h5 (by first | exact (below_drew HB0.out).size | exact HB0.out.size) : BRow w5 w.heap.size _ _); clear h5 hb5)
          | (go_simp; go_at_call 30; refine (HE1.out _ _ _ (below_step HB0.out HB5.out) H5.out).mono ?_; rintro e6 w6 ⟨rfl, ⟨n6, rfl⟩⟩)
          | fail)
        all_goals
          go_wp2_with fail
          go_meet
          exact ⟨congrArg Value.bool HNB.out.symm, Lib.hid (pw_below_drewN HB5.out _)⟩
      case rest =>
        obtain ⟨rfl, HBX⟩ := hcut
        obtain ⟨wa, rfl⟩ : ∃ wa : World, wa = wc := ⟨_, rfl⟩
        clear z0 z1 z2 z3 z4 z5 z6 f0 f1 f2 f3 f4 f5 f6 hf HS1 HE1
        have hza : IBox wa w.heap.size zImg (.slice none 0 0) (.slice none 0 0) (.slice none 0 0) := blk_below HZ.out HBX.out
        have HZA := Lib.hid hza
        have HBA := Lib.hid (below_step HB0.out HBX.out)
        cases sb
        · obtain rfl : nb = true := HNB.out
          have hR : R = (zImg, 32) := HLF.out.trans (if_neg (of_decide_eq_false HSB.out))
          subst hR
          clear HLF
          have z0 := (blk_cell hza 0).trans rfl
          have z1 := (blk_cell hza 1).trans rfl
          have z2 := (blk_cell hza 2).trans rfl
          have z3 := (blk_cell hza 3).trans rfl
          have z4 := (blk_cell hza 4).trans rfl
          have z5 := (blk_cell hza 5).trans rfl
          have z6 := (blk_cell hza 6).trans rfl
          have f0 := blk_frozen hza 0
          have f1 := blk_frozen hza 1
          have f2 := blk_frozen hza 2
          have f3 := blk_frozen hza 3
          have f4 := blk_frozen hza 4
          have f5 := blk_frozen hza 5
          have f6 := blk_frozen hza 6
          clear hza
          go_wp2_with fail
          exact bodyPost_ret (results_ct rfl _ _ w.heap.size 31 #[.int .i64 0, .int .i64 0, .int .i64 0, .int .i64 0, .slice none 0 0, .slice none 0 0, .slice none 0 0] (0, 0) _ rfl (HZA.out.put zImg _ _ _) Tryz.underlying31 rfl (by kernel_rfl)) rfl ⟨_, _, _, rfl, IRows.nil _ _, below7 HBA.out (Nat.le_refl _) _ _ _ _ _ _ _⟩
        · obtain rfl : nb = false := HNB.out
          have HLF2 := Lib.hid (HLF.out.trans (if_pos (of_decide_eq_true HSB.out)))
          clear HLF hza
          go_wp2_with (go_at_call 23; refine (layout_any _).mono ?_; rintro e2 w2 ⟨rfl, hB2⟩; have HB2 := Lib.hid hB2; clear hB2)
          have hbg := below_new wa (.cells #[.slice A k c, .bool false] 85)
          have hbi := below_new (wa.alloc (.cells #[.slice A k c, .bool false] 85)) (.cells #[.int .i64 0, .int .i64 0, .int .i64 0, .int .i64 0, .slice none 0 0, .slice none 0 0, .slice none 0 0] 31)
          have hS0 : LdS w wa.heap.size (wa.heap.size + 1) (L.take k, false) zImg (.slice none 0 0) (.slice none 0 0) (.slice none 0 0) w2 := by
            have hba := HBA.out.size
            refine ⟨⟨hba, below_step HBA.out (below_step (below_step hbg hbi) HB2.out), A, c, ?_, ?_, ?_⟩, by omega, ?_, Kd.R_nil _ _ _ _ _, Kd.R_nil _ _ _ _ _, Kd.R_nil _ _ _ _ _⟩
            · show w2.heap[wa.heap.size]? = some (.cells #[.slice A (L.take k).length c, .bool false] 85 (0, 0))
              rw [HLT.out]
              exact blk_below (blk_below (blk_new wa _) hbi) HB2.out
            · show (L.take k).length ≤ c
              rw [HLT.out]
              exact HKC.out.1
            · show Kd.C (Kd.int .u8) w A (L.take k).length (L.take k)
              rw [HLT.out]
              exact HCt.out
            · have h1 := blk_new (wa.alloc (.cells #[.slice A k c, .bool false] 85)) (.cells #[.int .i64 0, .int .i64 0, .int .i64 0, .int .i64 0, .slice none 0 0, .slice none 0 0, .slice none 0 0] 31)
              rw [show (wa.alloc (.cells #[.slice A k c, .bool false] 85)).heap.size = wa.heap.size + 1 by simp] at h1
              exact blk_below h1 HB2.out
          have hz2 : IBox w2 w.heap.size zImg (.slice none 0 0) (.slice none 0 0) (.slice none 0 0) := blk_below (blk_below (blk_below HZA.out hbg) hbi) HB2.out
          have hlt2 : w.heap.size < wa.heap.size := blk_lt' HZA.out
          have HZ2 := Lib.hid hz2
          have HL2 := Lib.hid hlt2
          have HS0 := Lib.hid hS0
          have PA : Hid (∀ j, j < 5 → ∀ W v4 v5 v6, LdS w wa.heap.size (wa.heap.size + 1) (ldK (L.take k, false) j).1 (ldK (L.take k, false) j).2 v4 v5 v6 W → Hid (∀ W1, Below W.heap.size W W1 → Calls Tryz.prog (44 + 2 * j) #[.pointer (some ⟨wa.heap.size, 0, none⟩), .pointer (some ⟨wa.heap.size + 1, 0, none⟩)] W1 (LPost w W1 wa.heap.size (wa.heap.size + 1) (ldK (L.take k, false) (j + 1)).1 (ldK (L.take k, false) (j + 1)).2))) :=
            Lib.hid (fun j hj W v4 v5 v6 hS => Lib.hid (fun W1 hB => rpart_any HG.out HRK.out (by show (L.take k).length ≤ _; rw [HLT.out]; have := HKC.out.2; omega) hj (hS.below hB)))
          clear hbg hbi hS0 hz2 hlt2
          go_loopw [41] (fun t41 wr => ∃ (j : Nat) (v4 v5 v6 : Value), j ≤ 5 ∧ t41 = .int .i64 j ∧ Hid (LdS w wa.heap.size (wa.heap.size + 1) (ldK (L.take k, false) j).1 (ldK (L.take k, false) j).2 v4 v5 v6 wr) ∧ Hid (Rg wa.heap.size (wa.heap.size + 1) w2 wr)) (fun t41 _ => 5 - (intOf t41).toNat)
          case atStart => exact ⟨0, _, _, _, by omega, rfl, HS0, Lib.hid Rg.refl⟩
          case round =>
            clear HS0
            obtain ⟨j, v4, v5, v6, hj, rfl, HS, HZR⟩ := hrel
            obtain rfl | rfl | rfl | rfl | rfl | rfl : j = 0 ∨ j = 1 ∨ j = 2 ∨ j = 3 ∨ j = 4 ∨ j = 5 := by omega
            · have hix := layout_ix0
              have HP := Lib.hid (PA.out 0 (by omega) wr v4 v5 v6 HS.out)
              go_wp2_with (go_at_call 44; refine (HP.out.out _ (below_new wr _)).mono ?_; rintro e3 w3 ⟨rfl, ⟨u4, u5, u6, hS3⟩, hZ3⟩; have HS3 := Lib.hid hS3; have HZ3 := Lib.hid (HZR.out.trans ((Rg.of_below (below_new wr _)).trans hZ3)); clear hS3 hZ3)
              go_roundw
              case rel => exact ⟨1, u4, u5, u6, by omega, rfl, HS3, HZ3⟩
              case measure => simp [intOf]
            · have hix := layout_ix1
              have HP := Lib.hid (PA.out 1 (by omega) wr v4 v5 v6 HS.out)
              go_wp2_with (go_at_call 46; refine (HP.out.out _ (below_new wr _)).mono ?_; rintro e3 w3 ⟨rfl, ⟨u4, u5, u6, hS3⟩, hZ3⟩; have HS3 := Lib.hid hS3; have HZ3 := Lib.hid (HZR.out.trans ((Rg.of_below (below_new wr _)).trans hZ3)); clear hS3 hZ3)
              go_roundw
              case rel => exact ⟨2, u4, u5, u6, by omega, rfl, HS3, HZ3⟩
              case measure => simp [intOf]
            · have hix := layout_ix2
              have HP := Lib.hid (PA.out 2 (by omega) wr v4 v5 v6 HS.out)
              go_wp2_with (go_at_call 48; refine (HP.out.out _ (below_new wr _)).mono ?_; rintro e3 w3 ⟨rfl, ⟨u4, u5, u6, hS3⟩, hZ3⟩; have HS3 := Lib.hid hS3; have HZ3 := Lib.hid (HZR.out.trans ((Rg.of_below (below_new wr _)).trans hZ3)); clear hS3 hZ3)
              go_roundw
              case rel => exact ⟨3, u4, u5, u6, by omega, rfl, HS3, HZ3⟩
              case measure => simp [intOf]
            · have hix := layout_ix3
              have HP := Lib.hid (PA.out 3 (by omega) wr v4 v5 v6 HS.out)
              go_wp2_with (go_at_call 50; refine (HP.out.out _ (below_new wr _)).mono ?_; rintro e3 w3 ⟨rfl, ⟨u4, u5, u6, hS3⟩, hZ3⟩; have HS3 := Lib.hid hS3; have HZ3 := Lib.hid (HZR.out.trans ((Rg.of_below (below_new wr _)).trans hZ3)); clear hS3 hZ3)
              go_roundw
              case rel => exact ⟨4, u4, u5, u6, by omega, rfl, HS3, HZ3⟩
              case measure => simp [intOf]
            · have hix := layout_ix4
              have HP := Lib.hid (PA.out 4 (by omega) wr v4 v5 v6 HS.out)
              go_wp2_with (go_at_call 52; refine (HP.out.out _ (below_new wr _)).mono ?_; rintro e3 w3 ⟨rfl, ⟨u4, u5, u6, hS3⟩, hZ3⟩; have HS3 := Lib.hid hS3; have HZ3 := Lib.hid (HZR.out.trans ((Rg.of_below (below_new wr _)).trans hZ3)); clear hS3 hZ3)
              go_roundw
              case rel => exact ⟨5, u4, u5, u6, by omega, rfl, HS3, HZ3⟩
              case measure => simp [intOf]
            · have hI := tail_I64 (B := 1000000000000) HRK.out (by show (L.take k).length ≤ _; rw [HLT.out]; have := HKC.out.2; omega) (Nat.le_refl _)
              have hlf := HLF2.out
              rw [HLM.out] at hlf
              have hsl : ((L.take k, false) : Rs).1.length = k := HLT.out
              rw [hsl] at hI
              clear PA ht HLF2 HLM hsl
              generalize ldK (L.take k, false) 5 = r5 at *
              obtain ⟨⟨rs, bd⟩, m⟩ := r5
              simp only at hI hlf
              obtain ⟨A7, c7, g0, g1, _, _, _⟩ := HS.out.rd.cells
              have g0 : wr.cell? ⟨wa.heap.size, 0, none⟩ = some (.slice A7 rs.length c7) := g0
              have g1 : wr.cell? ⟨wa.heap.size, 1, none⟩ = some (.bool bd) := g1
              have hza : IBox wr w.heap.size zImg (.slice none 0 0) (.slice none 0 0) (.slice none 0 0) := Only.blk HZR.out HZ2.out (by have := HL2.out; rintro (h | h) <;> omega)
              have HZA2 := Lib.hid hza
              have HI := Lib.hid hI
              have HLF3 := Lib.hid hlf
              clear hI hlf HZR
              by_cases hbad : bd = true ∨ 0 < rs.length
              · have hR : R = (zImg, 220) := HLF3.out.trans (if_pos hbad)
                subst hR
                clear HLF3
                have z0 := (blk_cell hza 0).trans rfl
                have z1 := (blk_cell hza 1).trans rfl
                have z2 := (blk_cell hza 2).trans rfl
                have z3 := (blk_cell hza 3).trans rfl
                have z4 := (blk_cell hza 4).trans rfl
                have z5 := (blk_cell hza 5).trans rfl
                have z6 := (blk_cell hza 6).trans rfl
                have f0 := blk_frozen hza 0
                have f1 := blk_frozen hza 1
                have f2 := blk_frozen hza 2
                have f3 := blk_frozen hza 3
                have f4 := blk_frozen hza 4
                have f5 := blk_frozen hza 5
                have f6 := blk_frozen hza 6
                clear hza
                cases bd
                · have d3 : decide (0 < (rs.length : Int)) = true := decide_eq_true (hbad.elim (fun h => Bool.noConfusion h) (fun h => by omega))
                  have d3n : 0 < rs.length := hbad.elim (fun h => Bool.noConfusion h) id
                  have d3b : decide (0 < rs.length) = true := decide_eq_true d3n
                  have d3c : (rs.length == 0) = false := by rw [beq_eq_false_iff_ne]; omega
                  clear hbad
                  go_wp2_with fail
                  exact bodyPost_ret (results_ct rfl _ _ w.heap.size 31 #[.int .i64 0, .int .i64 0, .int .i64 0, .int .i64 0, .slice none 0 0, .slice none 0 0, .slice none 0 0] (0, 0) _ rfl (IBox.put HZA2.out zImg _ _ _) Tryz.underlying31 rfl (by kernel_rfl)) rfl ⟨_, _, _, rfl, IRows.nil _ _, below7 HS.out.rd.2.1 (Nat.le_refl _) _ _ _ _ _ _ _⟩
                · clear hbad
                  go_wp2_with fail
                  exact bodyPost_ret (results_ct rfl _ _ w.heap.size 31 #[.int .i64 0, .int .i64 0, .int .i64 0, .int .i64 0, .slice none 0 0, .slice none 0 0, .slice none 0 0] (0, 0) _ rfl (IBox.put HZA2.out zImg _ _ _) Tryz.underlying31 rfl (by kernel_rfl)) rfl ⟨_, _, _, rfl, IRows.nil _ _, below7 HS.out.rd.2.1 (Nat.le_refl _) _ _ _ _ _ _ _⟩
              · have HLF4 := Lib.hid (HLF3.out.trans (if_neg hbad))
                obtain rfl : bd = false := Bool.eq_false_iff.mpr (fun h => hbad (Or.inl h))
                have hrl : ¬ 0 < rs.length := fun h => hbad (Or.inr h)
                obtain rfl : rs = [] := List.eq_nil_of_length_eq_zero (by omega)
                have g0 : wr.cell? ⟨wa.heap.size, 0, none⟩ = some (.slice A7 0 c7) := g0
                clear HLF3 hbad hza hrl
                obtain ⟨A4, c4, rfl⟩ := Kd.R_slice HS.out.r4
                obtain ⟨A5, c5, rfl⟩ := Kd.R_slice HS.out.r5
                obtain ⟨A6, c6, rfl⟩ := Kd.R_slice HS.out.r6
                have e0 := (HS.out.cell 0).trans rfl
                have e1 := (HS.out.cell 1).trans rfl
                have e2 := (HS.out.cell 2).trans rfl
                have e3 := (HS.out.cell 3).trans rfl
                have e4 := (HS.out.cell 4).trans rfl
                have e5 := (HS.out.cell 5).trans rfl
                have e6 := (HS.out.cell 6).trans rfl
                have q4 := Kd.R_reads' HS.out.r4
                have q5 := Kd.R_reads' HS.out.r5
                have q6 := Kd.R_reads' HS.out.r6
                have HSV := Lib.hid (Save_any (m := m) (A4 := A4) (A5 := A5) (A6 := A6) (c4 := c4) (c5 := c5) (c6 := c6) (HG.out.below HS.out.rd.2.1) HI.out.1 ⟨⟨q4.2.2, q4.2.1⟩, ⟨q5.2.2, q5.2.1⟩, ⟨q6.2.2, q6.2.1⟩⟩ (fun h => laid_len HI.out.1 (by have := HI.out.2; have := HKC.out.2; omega) h))
                clear q4 q5 q6
                go_wp2_with fail
                refine HSV.out.mono ?_
                rintro e9 w9 ⟨v9, rfl, hrow, hnil, hB9⟩
                have hza9 : IBox w9 w.heap.size zImg (.slice none 0 0) (.slice none 0 0) (.slice none 0 0) := blk_below HZA2.out hB9
                have HZ9 := Lib.hid hza9
                have HS9 := Lib.hid (HS.out.below hB9)
                have HB9 := Lib.hid (HS9.out.rd.2.1)
                clear e0 e1 e2 e3 e4 e5 e6 g0 g1
                by_cases hse : saveE m = 0
                · have d4 : (saveE m != 0) = false := by simpa using hse
                  obtain ⟨A9, c9, rfl⟩ := own_slice hrow
                  have hrow' : BRow w9 wr.heap.size (.slice A9 (saveB m).length c9) (saveB m) := hrow
                  obtain ⟨hcl9, hC9⟩ := BRow.reads hrow'
                  have hBs : Bytes (saveB m) := by
                    unfold saveB
                    rw [if_pos hse]
                    exact (laid_bytes HI.out.1).append (sumB_bytes _)
                  have HEQ := Lib.hid (equal_any (w := w9) (l0 := saveB m) (l1 := L) hBs HBY.out hC9 hcl9 (Kd.C_below HCL.out HB9.out) hc)
                  have HSE := Lib.hid hse
                  clear hrow hrow' hcl9 hC9 hBs hnil hB9 hse
                  generalize hLb : saveB m = Lb at *
                  have HLb := Lib.hid hLb
                  clear hLb
                  obtain ⟨eb, heb⟩ : ∃ eb : Bool, decide (Lb = L) = eb := ⟨_, rfl⟩
                  rw [heb] at HEQ
                  have HEB := Lib.hid heb
                  clear heb
                  have y0 := (HS9.out.cell 0).trans rfl
                  have y1 := (HS9.out.cell 1).trans rfl
                  have y2 := (HS9.out.cell 2).trans rfl
                  have y3 := (HS9.out.cell 3).trans rfl
                  have y4 := (HS9.out.cell 4).trans rfl
                  have y5 := (HS9.out.cell 5).trans rfl
                  have y6 := (HS9.out.cell 6).trans rfl
                  have z0 := (blk_cell hza9 0).trans rfl
                  have z1 := (blk_cell hza9 1).trans rfl
                  have z2 := (blk_cell hza9 2).trans rfl
                  have z3 := (blk_cell hza9 3).trans rfl
                  have z4 := (blk_cell hza9 4).trans rfl
                  have z5 := (blk_cell hza9 5).trans rfl
                  have z6 := (blk_cell hza9 6).trans rfl
                  have f0 := blk_frozen hza9 0
                  have f1 := blk_frozen hza9 1
                  have f2 := blk_frozen hza9 2
                  have f3 := blk_frozen hza9 3
                  have f4 := blk_frozen hza9 4
                  have f5 := blk_frozen hza9 5
                  have f6 := blk_frozen hza9 6
                  clear hza9
                  cases eb
                  · have hR : R = (zImg, 220) := HLF4.out.trans (if_neg (fun h => of_decide_eq_false HEB.out h.2))
                    subst hR
                    clear HLF4
                    go_wp2_with (go_at_call 30; refine HEQ.out.mono ?_; rintro e10 w10 ⟨rfl, ⟨n10, rfl⟩⟩)
                    exact bodyPost_ret (results_ct rfl _ _ w.heap.size 31 #[.int .i64 0, .int .i64 0, .int .i64 0, .int .i64 0, .slice none 0 0, .slice none 0 0, .slice none 0 0] (0, 0) _ rfl (IBox.put (W := w9.drewN n10) HZ9.out zImg _ _ _) Tryz.underlying31 rfl (by kernel_rfl)) rfl ⟨_, _, _, rfl, IRows.nil _ _, below7 (pw_below_drewN HB9.out n10) (Nat.le_refl _) _ _ _ _ _ _ _⟩
                  · have hR : R = (m, 0) := HLF4.out.trans (if_pos ⟨HSE.out, of_decide_eq_true HEB.out⟩)
                    subst hR
                    clear HLF4
                    go_wp2_with (go_at_call 30; refine HEQ.out.mono ?_; rintro e10 w10 ⟨rfl, ⟨n10, rfl⟩⟩)
                    have hS10 := HS9.out.below (pw_below_drewN (Below.refl _ w9) n10)
                    have hz10 : IBox (w9.drewN n10) w.heap.size zImg (.slice none 0 0) (.slice none 0 0) (.slice none 0 0) := HZ9.out
                    have hF := IBox.put hz10 m (.slice A4 m.types.length c4) (.slice A5 m.saved.length c5) (.slice A6 m.seens.length c6)
                    have hRR := IRows.put ⟨hS10.r4, hS10.r5, hS10.r6⟩ hz10 m (.slice A4 m.types.length c4) (.slice A5 m.saved.length c5) (.slice A6 m.seens.length c6)
                    exact bodyPost_ret (results_ct rfl _ _ w.heap.size 31 #[.int .i64 m.runs, .int .i64 m.made, .int .i64 m.seq, .int .i64 m.now, .slice A4 m.types.length c4, .slice A5 m.saved.length c5, .slice A6 m.seens.length c6] (0, 0) _ rfl hF Tryz.underlying31 rfl (by kernel_rfl)) rfl ⟨_, _, _, rfl, hRR, below7 hS10.rd.2.1 (Nat.le_refl _) _ _ _ _ _ _ _⟩
                · have hR : R = (zImg, 220) := HLF4.out.trans (if_neg (fun h => hse h.1))
                  subst hR
                  have d4 : (saveE m != 0) = true := by simpa using hse
                  clear HLF4 hse hrow hnil hB9
                  have z0 := (blk_cell hza9 0).trans rfl
                  have z1 := (blk_cell hza9 1).trans rfl
                  have z2 := (blk_cell hza9 2).trans rfl
                  have z3 := (blk_cell hza9 3).trans rfl
                  have z4 := (blk_cell hza9 4).trans rfl
                  have z5 := (blk_cell hza9 5).trans rfl
                  have z6 := (blk_cell hza9 6).trans rfl
                  have f0 := blk_frozen hza9 0
                  have f1 := blk_frozen hza9 1
                  have f2 := blk_frozen hza9 2
                  have f3 := blk_frozen hza9 3
                  have f4 := blk_frozen hza9 4
                  have f5 := blk_frozen hza9 5
                  have f6 := blk_frozen hza9 6
                  clear hza9
                  go_wp2_with fail
                  exact bodyPost_ret (results_ct rfl _ _ w.heap.size 31 #[.int .i64 0, .int .i64 0, .int .i64 0, .int .i64 0, .slice none 0 0, .slice none 0 0, .slice none 0 0] (0, 0) _ rfl (IBox.put HZ9.out zImg _ _ _) Tryz.underlying31 rfl (by kernel_rfl)) rfl ⟨_, _, _, rfl, IRows.nil _ _, below7 HB9.out (Nat.le_refl _) _ _ _ _ _ _ _⟩
end Go.Proofs.YtcfgmkmllcfjjaaGreatDoor
