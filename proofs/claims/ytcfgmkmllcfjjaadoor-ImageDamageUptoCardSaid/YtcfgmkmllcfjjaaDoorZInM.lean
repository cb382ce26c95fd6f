import Derived.Test.YtcfgmkmllcfjjaaDoorZInK
import Derived.Test.YtcfgmkmllcfjjaaDoorZPImageFormx8
import Derived.Test.YtcfgmkmllcfjjaaDoorZPImageFormx9
set_option linter.unusedVariables false
set_option linter.unusedSimpArgs false
namespace Go.Proofs.YtcfgmkmllcfjjaaDoor
open Go.RowKit Go.Proofs.YtcfgmkmllcfjjaaDoorW.PrintWords Go.Proofs.YtcfgmkmllcfjjaaDoorW.PrintMore PImageForm
theorem wsucc {i : Nat} (h : i < 4611686018427387904) : wrap64 ((i : Int) + 1) = ((i + 1 : Nat) : Int) := by unfold wrap64; omega
theorem same_l0 {l : List Int} (hl : l.length ≤ 4611686018427387904) : ∀ (d i : Nat), i + d = l.length → refrainlaw22_same.l0 (d + 1) l l (i : Int) = some true
  | 0, i, h => by rw [refrainlaw22_same.l0, if_neg (by omega)]
  | d + 1, i, h => by rw [refrainlaw22_same.l0, if_pos (by omega), if_pos (by omega), if_pos (by omega), if_pos rfl, wsucc (by omega), same_l0 hl d (i + 1) (by omega)]
theorem same_refl {l : List Int} (hl : l.length ≤ 4611686018427387904) : refrainlaw22_same.f (l.length + 1) l l = some true := by
  unfold refrainlaw22_same.f
  rw [if_pos rfl]
  exact same_l0 hl l.length 0 (by omega)
section
variable {x : List S64} {i k1 : Nat} (hx : x.length ≤ 4611686018427387904) (hi : i < x.length) (h : refrainlaw22_types.l0 k1 x x ((i + 1 : Nat) : Int) = some true) (ha : (rd_T64 x (i : Int)).f1.length ≤ 4611686018427387904)
include hx hi h ha
theorem types_l1 : ∀ (d j : Nat), j + d = (rd_T64 x (i : Int)).f1.length → refrainlaw22_types.l1 (d + 1 + k1) x x (i : Int) (j : Int) = some true
  | 0, j, hj => by rw [show 0 + 1 + k1 = k1 + 1 by omega, refrainlaw22_types.l1, if_pos (by omega), if_pos (by omega), if_neg (by omega), wsucc (by omega), h]
  | d + 1, j, hj => by rw [show d + 1 + 1 + k1 = (d + 1 + k1) + 1 by omega, refrainlaw22_types.l1, if_pos (by omega), if_pos (by omega), if_pos (by omega), if_pos (by omega), if_pos (by omega), if_pos (by omega), if_neg (by simp), wsucc (by omega), types_l1 d (j + 1) (by omega)]
end
theorem types_l0 {x : List S64} (hx : x.length ≤ 4611686018427387904) (ha : ∀ i : Nat, (rd_T64 x (i : Int)).f1.length ≤ 4611686018427387904) : ∀ (d i : Nat), i + d = x.length → ∃ k, refrainlaw22_types.l0 k x x (i : Int) = some true
  | 0, i, h => ⟨1, by rw [refrainlaw22_types.l0, if_neg (by omega)]⟩
  | d + 1, i, h => by
    obtain ⟨k1, h1⟩ := types_l0 hx ha d (i + 1) (by omega)
    refine ⟨(rd_T64 x (i : Int)).f1.length + 1 + k1 + 1 + 1, ?_⟩
    rw [refrainlaw22_types.l0, if_pos (by omega), if_pos (by omega), if_pos (by omega), if_pos rfl, refrainlaw22_types.j1, if_neg (by simp)]
    exact types_l1 hx (by omega) h1 (ha i) _ 0 (by omega)
theorem types_refl {x : List S64} (hx : x.length ≤ 4611686018427387904) (ha : ∀ i : Nat, (rd_T64 x (i : Int)).f1.length ≤ 4611686018427387904) : ∃ k, refrainlaw22_types.f k x x = some true := by
  obtain ⟨k, h⟩ := types_l0 hx ha x.length 0 (by omega)
  exact ⟨k, by unfold refrainlaw22_types.f; rw [if_pos rfl]; exact h⟩
section
variable {x : List S71} {i k1 : Nat} {v : List S66} {a0 b0 : Int} {a1 b1 : ByteArray} {a2 b2 : Int} {a4 b4 : Bool} (hx : x.length ≤ 4611686018427387904) (hi : i < x.length) (h : refrainlaw22_events.l0 k1 x x ((i + 1 : Nat) : Int) = some true) (ha : v.length ≤ 4611686018427387904)
include hx hi h ha
theorem events_l1 : ∀ (d j : Nat), j + d = v.length → refrainlaw22_events.l1 (d + 1 + k1) x x (i : Int) (j : Int) a0 a1 a2 v a4 b0 b1 b2 v b4 = some true
  | 0, j, hj => by rw [show 0 + 1 + k1 = k1 + 1 by omega, refrainlaw22_events.l1, if_neg (by omega), wsucc (by omega), h]
  | d + 1, j, hj => by rw [show d + 1 + 1 + k1 = (d + 1 + k1) + 1 by omega, refrainlaw22_events.l1, if_pos (by omega), if_pos (by omega), if_pos (by omega), if_neg (by simp), wsucc (by omega), events_l1 d (j + 1) (by omega)]
end
theorem events_l0 {x : List S71} (hx : x.length ≤ 4611686018427387904) (ha : ∀ i : Nat, (rd_T71 x (i : Int)).f1.f2.length ≤ 4611686018427387904) : ∀ (d i : Nat), i + d = x.length → ∃ k, refrainlaw22_events.l0 k x x (i : Int) = some true
  | 0, i, h => ⟨1, by rw [refrainlaw22_events.l0, if_neg (by omega)]⟩
  | d + 1, i, h => by
    obtain ⟨k1, h1⟩ := events_l0 hx ha d (i + 1) (by omega)
    refine ⟨(rd_T71 x (i : Int)).f1.f2.length + 1 + k1 + 1 + 1, ?_⟩
    rw [refrainlaw22_events.l0, if_pos (by omega), if_pos (by omega), if_pos (by omega), if_pos rfl, if_neg (by simp), if_pos rfl, if_pos rfl, refrainlaw22_events.j1, if_neg (by simp)]
    exact events_l1 hx (by omega) h1 (ha i) _ 0 (by omega)
theorem events_refl {x : List S71} (hx : x.length ≤ 4611686018427387904) (ha : ∀ i : Nat, (rd_T71 x (i : Int)).f1.f2.length ≤ 4611686018427387904) : ∃ k, refrainlaw22_events.f k x x = some true := by
  obtain ⟨k, h⟩ := events_l0 hx ha x.length 0 (by omega)
  exact ⟨k, by unfold refrainlaw22_events.f; rw [if_pos rfl]; exact h⟩
theorem up {f : Nat → Option Bool} (hm : ∀ k, LeO (f k) (f (k + 1))) {k : Nat} (h : f k = some true) : ∀ d, f (k + d) = some true
  | 0 => h
  | d + 1 => hm (k + d) _ (up hm h d)
structure ImgB (m : Img) : Prop where
  t : m.types.length ≤ 4611686018427387904
  q : m.saved.length ≤ 4611686018427387904
  s : m.seens.length ≤ 4611686018427387904
  a : ∀ i : Nat, (rd_T64 m.types (i : Int)).f1.length ≤ 4611686018427387904
  v : ∀ i : Nat, (rd_T71 m.seens (i : Int)).f1.f2.length ≤ 4611686018427387904
theorem images_refl {m : Img} (hm : ImgB m) : ∃ k, refrainlaw22_images.f k m.runs m.made m.seq m.now m.types m.saved m.seens m.runs m.made m.seq m.now m.types m.saved m.seens = some true := by
  obtain ⟨k1, h1⟩ := types_refl hm.t hm.a
  obtain ⟨k2, h2⟩ := events_refl hm.s hm.v
  have h1' := up (f := fun k => refrainlaw22_types.f k m.types m.types) (fun k => refrainlaw22_types.mono m.types m.types k) h1 k2
  have h2' := up (f := fun k => refrainlaw22_events.f k m.seens m.seens) (fun k => refrainlaw22_events.mono m.seens m.seens k) h2 k1
  rw [Nat.add_comm k2 k1] at h2'
  generalize k1 + k2 = K at h1' h2'
  have hl : ∀ (d i : Nat), i + d = m.saved.length → refrainlaw22_images.l0 (d + 1 + K) (i : Int) m.runs m.made m.seq m.now m.types m.saved m.seens m.runs m.made m.seq m.now m.types m.saved m.seens = some true := by
    intro d
    induction d with
    | zero =>
      intro i h
      rw [show 0 + 1 + K = K + 1 by omega, refrainlaw22_images.l0, if_neg (by omega), h1']
      simp only [Option.bind_some]
      rw [if_pos trivial, h2']
      rfl
    | succ d ih =>
      intro i h
      have hq := hm.q
      rw [show d + 1 + 1 + K = (d + 1 + K) + 1 by omega, refrainlaw22_images.l0, if_pos (by omega), if_pos (by omega), if_pos (by omega), if_neg (by simp), wsucc (by omega), ih (i + 1) (by omega)]
  refine ⟨m.saved.length + 1 + K + 1, ?_⟩
  unfold refrainlaw22_images.f
  rw [if_neg (by simp), if_pos rfl, if_pos rfl, refrainlaw22_images.j0, if_neg (by simp)]
  exact hl m.saved.length 0 (by omega)
theorem same_any {w : World} {A0 A1 : Option Addr} {c0 c1 : Nat} {l : List Int} (hl : l.length ≤ 4611686018427387904) (hr0 : Kd.C (Kd.int .u8) w A0 l.length l) (hc0 : l.length ≤ c0) (hr1 : Kd.C (Kd.int .u8) w A1 l.length l) (hc1 : l.length ≤ c1) :
    Calls Tryd.prog 9 #[.slice A0 l.length c0, .slice A1 l.length c1] w fun e w' => e = .returned (.bool true) ∧ Drawn0 w w' :=
  refrainlaw22_same.calls (l.length + 1) A0 c0 l A1 c1 l true w hr0 hc0 hr1 hc1 (same_refl hl)
def imgV (m : Img) (v4 v5 v6 : Value) : Value := .agg #[.int .i64 m.runs, .int .i64 m.made, .int .i64 m.seq, .int .i64 m.now, v4, v5, v6]
theorem images_any {w : World} {m : Img} {A4 A5 A6 B4 B5 B6 : Option Addr} {a4 a5 a6 b4 b5 b6 : Nat} (hm : ImgB m) (h1 : ImgV w m A4 a4 A5 a5 A6 a6) (h2 : ImgV w m B4 b4 B5 b5 B6 b6) :
    Calls Tryd.prog 8 #[imgV m (.slice A4 m.types.length a4) (.slice A5 m.saved.length a5) (.slice A6 m.seens.length a6), imgV m (.slice B4 m.types.length b4) (.slice B5 m.saved.length b5) (.slice B6 m.seens.length b6)] w fun e w' => e = .returned (.bool true) ∧ Below w.heap.size w w' := by
  obtain ⟨k, hk⟩ := images_refl hm
  exact refrainlaw22_images.calls k _ _ _ _ A4 a4 m.types A5 a5 m.saved A6 a6 m.seens _ _ _ _ B4 b4 m.types B5 b5 m.saved B6 b6 m.seens true w h1.1.1 h1.1.2 h1.2.1.1 h1.2.1.2 h1.2.2.1 h1.2.2.2 h2.1.1 h2.1.2 h2.2.1.1 h2.2.1.2 h2.2.2.1 h2.2.2.2 hk
end Go.Proofs.YtcfgmkmllcfjjaaDoor
