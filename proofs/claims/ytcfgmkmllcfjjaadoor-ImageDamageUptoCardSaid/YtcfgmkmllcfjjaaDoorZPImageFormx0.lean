import Derived.Test.YtcfgmkmllcfjjaaDoorProg
import Derived.Below
import Derived.Deep.Draws
import Derived.Deep.AppendLies
import Derived.Maps.AppendAt
import Derived.OwnWalk
import Derived.Laws.BytesArg
import Derived.Laws.MakeOwn
import Derived.Laws.OwnMore
import Derived.Deep.OwnRows
import Derived.Tactics
import Derived.Lib.ConvBytes
import Derived.Laws.Slices
import Derived.WalkKit
import Derived.KernelRfl
import Derived.RowKit3
import Derived.Deep.LoopGhost
import Derived.Deep.QuietTactic
import Derived.BigQuiet
import Derived.WideLaws
import Derived.Deep.DeepCutAuto
import Derived.Deep.CutBlock
import Derived.Deep.RegionHeld3
import Derived.Laws.Rows
import Derived.Lib.AppendStr
import Derived.ArgAppend
import Derived.Laws.IdiomCopy
import Derived.OrdersHeld
import Derived.Laws.BitsLemmas
import Derived.RowKit
import Derived.Test.YtcfgmkmllcfjjaaDoorZWWords
import Derived.Test.YtcfgmkmllcfjjaaDoorZW
namespace Go.Proofs.YtcfgmkmllcfjjaaDoor.PImageForm
open Go.RowKit Go.Proofs.YtcfgmkmllcfjjaaDoorW.PrintWords Go.Proofs.YtcfgmkmllcfjjaaDoorW.PrintLast Go.Proofs.YtcfgmkmllcfjjaaDoorW.PrintMore
attribute [local go_sem] max2_int min2_int max_two min_two max_three min_three max_four min_four
set_option linter.unusedVariables false
set_option linter.unusedSimpArgs false
def errW : Option Int → Value
  | none => .nilIface
  | some c => .iface 0 (.int .i64 c)
theorem errW_none : errW none = .nilIface := rfl
theorem errW_some (c : Int) : errW (some c) = .iface 0 (.int .i64 c) := rfl
theorem info5 : (Tryd.prog.info? 5).map (fun i => (i.zero, i.size, i.bytes)) = some (some (.int .u8 0), 1, 1) := by kernel_rfl
theorem info61 : (Tryd.prog.info? 61).map (fun i => (i.zero, i.size, i.bytes)) = some (some (.agg #[(.string ⟨#[]⟩), (.int .i64 0)]), 2, 24) := by kernel_rfl
theorem info64 : (Tryd.prog.info? 64).map (fun i => (i.zero, i.size, i.bytes)) = some (some (.agg #[(.string ⟨#[]⟩), (.slice none 0 0)]), 2, 40) := by kernel_rfl
theorem info66 : (Tryd.prog.info? 66).map (fun i => (i.zero, i.size, i.bytes)) = some (some (.agg #[(.int .i64 0), (.int .i64 0), (.string ⟨#[]⟩), (.bool false)]), 4, 40) := by kernel_rfl
theorem info71 : (Tryd.prog.info? 71).map (fun i => (i.zero, i.size, i.bytes)) = some (some (.agg #[(.int .i64 0), (.string ⟨#[]⟩), (.int .i64 0), (.slice none 0 0), (.bool false)]), 5, 64) := by kernel_rfl
structure S61 where
  f0 : ByteArray
  f1 : Int
def z61 : S61 := ⟨(⟨#[]⟩ : ByteArray), (0 : Int)⟩
def k61 : Kd S61 := Kd.iso (Kd.pair Kd.string (Kd.int .i64)) (fun x : S61 => (x.f0, x.f1))
theorem k61_open {w : World} {x : S61} {cs : List Value} (h : k61.K w x cs) : cs = [.string x.f0, .int .i64 x.f1] := by
  obtain ⟨_, _, rfl, rfl, rfl⟩ := h
  exact rfl
theorem k61_openM {w : World} {base : Nat} {ok : Nat → Prop} {x : S61} {cs : List Value} (h : k61.M w base ok x cs) : cs = [.string x.f0, .int .i64 x.f1] := by
  obtain ⟨_, _, rfl, rfl, rfl⟩ := h
  exact rfl
theorem k61_mk (w : World) (x : S61)  : k61.K w x [.string x.f0, .int .i64 x.f1] := ⟨[.string x.f0], [.int .i64 x.f1], rfl, rfl, rfl⟩
theorem k61_mkM (w : World) (base : Nat) (ok : Nat → Prop) (x : S61)  : k61.M w base ok x [.string x.f0, .int .i64 x.f1] := ⟨[.string x.f0], [.int .i64 x.f1], rfl, rfl, rfl⟩
theorem k61_mkF (W : World) (ok : Nat → Prop) (x : S61) : Kd.FK k61 W ok x [.string x.f0, .int .i64 x.f1] := fun W2 _ => k61_mk W2 x
def rd_T61 (xs : List S61) (i : Int) : S61 := xs.getD i.toNat z61
theorem at_T61 {w : World} {A : Option Addr} {n : Nat} {xs : List S61} (h : Kd.C k61 w A n xs) (i : Int) (h0 : 0 ≤ i) (h1 : i < n) : ∃ ad , A = some ad ∧ w.cell? (ad.add (i.toNat * 2)) = some (.string (rd_T61 xs i).f0) ∧ w.cell? ⟨(ad.add (i.toNat * 2)).block, (ad.add (i.toNat * 2)).off + 1, none⟩ = some (.int .i64 (rd_T61 xs i).f1) := by
  obtain ⟨ad, c, e, _, hK, hc0⟩ := Kd.C_get h z61 i h0 h1
  have hc : ∀ j u, c[j]? = some u → w.cell? (ad.add (i.toNat * 2 + j)) = some u := hc0
  obtain rfl := k61_open hK
  exact ⟨ad, e, hc 0 _ rfl, by rw [← add_field _ _ 1 (by omega)]; exact hc 1 _ rfl⟩
def rd_L3 (xs : List (List S61)) (i : Int) : (List S61) := xs.getD i.toNat ([] : List S61)
theorem at_L3 {w : World} {A : Option Addr} {n : Nat} {xs : List (List S61)} (h : Kd.C (Kd.slice 61 k61) w A n xs) (i : Int) (h0 : 0 ≤ i) (h1 : i < n) : ∃ ad A0 c0, A = some ad ∧ w.cell? (ad.add i.toNat) = some (.slice A0 (rd_L3 xs i).length c0) ∧ (rd_L3 xs i).length ≤ c0 ∧ k61.C w A0 (rd_L3 xs i).length (rd_L3 xs i) := by
  obtain ⟨ad, c, e, _, hK, hc0⟩ := Kd.C_get h ([] : List S61) i h0 h1
  have hc : ∀ j u, c[j]? = some u → w.cell? (ad.add (i.toNat * 1 + j)) = some u := hc0
  obtain ⟨A0, c0, rfl, l0, g0⟩ := hK
  exact ⟨ad, A0, c0, e, by have hq := hc 0 _ rfl; rwa [Nat.mul_one, Nat.add_zero] at hq, l0, g0⟩
structure S64 where
  f0 : ByteArray
  f1 : (List S61)
def z64 : S64 := ⟨(⟨#[]⟩ : ByteArray), ([] : List S61)⟩
def k64 : Kd S64 := Kd.iso (Kd.pair Kd.string (Kd.slice 61 k61)) (fun x : S64 => (x.f0, x.f1))
theorem k64_open {w : World} {x : S64} {cs : List Value} (h : k64.K w x cs) : ∃ A1 c1, cs = [.string x.f0, .slice A1 x.f1.length c1] ∧ x.f1.length ≤ c1 ∧ k61.C w A1 x.f1.length x.f1 := by
  obtain ⟨_, _, rfl, rfl, ⟨A1, c1, rfl, l1, g1⟩⟩ := h
  exact ⟨A1, c1, rfl, l1, g1⟩
theorem k64_openM {w : World} {base : Nat} {ok : Nat → Prop} {x : S64} {cs : List Value} (h : k64.M w base ok x cs) : ∃ v1, cs = [.string x.f0, v1] ∧ k61.R 61 w base ok v1 x.f1 := by
  obtain ⟨_, _, rfl, rfl, ⟨v1, rfl, g1⟩⟩ := h
  exact ⟨v1, rfl, g1⟩
theorem k64_mk (w : World) (x : S64) {A1 : Option Addr} {c1 : Nat} (l1 : x.f1.length ≤ c1) (g1 : k61.C w A1 x.f1.length x.f1) : k64.K w x [.string x.f0, .slice A1 x.f1.length c1] := ⟨[.string x.f0], [.slice A1 x.f1.length c1], rfl, rfl, ⟨A1, c1, rfl, l1, g1⟩⟩
theorem k64_mkM (w : World) (base : Nat) (ok : Nat → Prop) (x : S64) {v1 : Value} (g1 : k61.R 61 w base ok v1 x.f1) : k64.M w base ok x [.string x.f0, v1] := ⟨[.string x.f0], [v1], rfl, rfl, ⟨v1, rfl, g1⟩⟩
theorem k64_openF {W : World} {ok : Nat → Prop} {x : S64} {cs : List Value} (h : Kd.FK k64 W ok x cs) : ∃ A1 c1, cs = [.string x.f0, .slice A1 x.f1.length c1] ∧ x.f1.length ≤ c1 ∧ Kd.F k61 W ok A1 x.f1.length x.f1 := by
  obtain ⟨A1, c1, rfl, l1, _⟩ := k64_open (Kd.FK_now h)
  exact ⟨A1, c1, rfl, l1, (fun W' hW => by obtain ⟨A1_, c1_, he, l1_, g1_⟩ := k64_open (h W' hW); injection (Option.some.inj (show some (Value.slice A1 x.f1.length c1) = some (Value.slice A1_ x.f1.length c1_) from congrArg (fun l => l[1]?) he)) with ha_ _ _; rw [ha_]; exact g1_)⟩
theorem k64_mkF (W : World) (ok : Nat → Prop) (x : S64) {A1 : Option Addr} {c1 : Nat} (l1 : x.f1.length ≤ c1) (g1 : Kd.F k61 W ok A1 x.f1.length x.f1) : Kd.FK k64 W ok x [.string x.f0, .slice A1 x.f1.length c1] := fun W2 hW => k64_mk W2 x l1 (g1 W2 hW)
def rd_T64 (xs : List S64) (i : Int) : S64 := xs.getD i.toNat z64
theorem at_T64 {w : World} {A : Option Addr} {n : Nat} {xs : List S64} (h : Kd.C k64 w A n xs) (i : Int) (h0 : 0 ≤ i) (h1 : i < n) : ∃ ad A1 c1, A = some ad ∧ w.cell? (ad.add (i.toNat * 2)) = some (.string (rd_T64 xs i).f0) ∧ w.cell? ⟨(ad.add (i.toNat * 2)).block, (ad.add (i.toNat * 2)).off + 1, none⟩ = some (.slice A1 (rd_T64 xs i).f1.length c1) ∧ (rd_T64 xs i).f1.length ≤ c1 ∧ k61.C w A1 (rd_T64 xs i).f1.length (rd_T64 xs i).f1 := by
  obtain ⟨ad, c, e, _, hK, hc0⟩ := Kd.C_get h z64 i h0 h1
  have hc : ∀ j u, c[j]? = some u → w.cell? (ad.add (i.toNat * 2 + j)) = some u := hc0
  obtain ⟨A1, c1, rfl, l1, g1⟩ := k64_open hK
  exact ⟨ad, A1, c1, e, hc 0 _ rfl, by rw [← add_field _ _ 1 (by omega)]; exact hc 1 _ rfl, l1, g1⟩
structure S66 where
  f0 : Int
  f1 : Int
  f2 : ByteArray
  f3 : Bool
def z66 : S66 := ⟨(0 : Int), (0 : Int), (⟨#[]⟩ : ByteArray), false⟩
def k66 : Kd S66 := Kd.iso (Kd.pair (Kd.int .i64) (Kd.pair (Kd.int .i64) (Kd.pair Kd.string Kd.bool))) (fun x : S66 => (x.f0, x.f1, x.f2, x.f3))
theorem k66_open {w : World} {x : S66} {cs : List Value} (h : k66.K w x cs) : cs = [.int .i64 x.f0, .int .i64 x.f1, .string x.f2, .bool x.f3] := by
  obtain ⟨_, _, rfl, rfl, ⟨_, _, rfl, rfl, ⟨_, _, rfl, rfl, rfl⟩⟩⟩ := h
  exact rfl
theorem k66_openM {w : World} {base : Nat} {ok : Nat → Prop} {x : S66} {cs : List Value} (h : k66.M w base ok x cs) : cs = [.int .i64 x.f0, .int .i64 x.f1, .string x.f2, .bool x.f3] := by
  obtain ⟨_, _, rfl, rfl, ⟨_, _, rfl, rfl, ⟨_, _, rfl, rfl, rfl⟩⟩⟩ := h
  exact rfl
theorem k66_mk (w : World) (x : S66)  : k66.K w x [.int .i64 x.f0, .int .i64 x.f1, .string x.f2, .bool x.f3] := ⟨[.int .i64 x.f0], [.int .i64 x.f1, .string x.f2, .bool x.f3], rfl, rfl, ⟨[.int .i64 x.f1], [.string x.f2, .bool x.f3], rfl, rfl, ⟨[.string x.f2], [.bool x.f3], rfl, rfl, rfl⟩⟩⟩
theorem k66_mkM (w : World) (base : Nat) (ok : Nat → Prop) (x : S66)  : k66.M w base ok x [.int .i64 x.f0, .int .i64 x.f1, .string x.f2, .bool x.f3] := ⟨[.int .i64 x.f0], [.int .i64 x.f1, .string x.f2, .bool x.f3], rfl, rfl, ⟨[.int .i64 x.f1], [.string x.f2, .bool x.f3], rfl, rfl, ⟨[.string x.f2], [.bool x.f3], rfl, rfl, rfl⟩⟩⟩
theorem k66_mkF (W : World) (ok : Nat → Prop) (x : S66) : Kd.FK k66 W ok x [.int .i64 x.f0, .int .i64 x.f1, .string x.f2, .bool x.f3] := fun W2 _ => k66_mk W2 x
def rd_T66 (xs : List S66) (i : Int) : S66 := xs.getD i.toNat z66
theorem at_T66 {w : World} {A : Option Addr} {n : Nat} {xs : List S66} (h : Kd.C k66 w A n xs) (i : Int) (h0 : 0 ≤ i) (h1 : i < n) : ∃ ad , A = some ad ∧ w.cell? (ad.add (i.toNat * 4)) = some (.int .i64 (rd_T66 xs i).f0) ∧ w.cell? ⟨(ad.add (i.toNat * 4)).block, (ad.add (i.toNat * 4)).off + 1, none⟩ = some (.int .i64 (rd_T66 xs i).f1) ∧ w.cell? ⟨(ad.add (i.toNat * 4)).block, (ad.add (i.toNat * 4)).off + 2, none⟩ = some (.string (rd_T66 xs i).f2) ∧ w.cell? ⟨(ad.add (i.toNat * 4)).block, (ad.add (i.toNat * 4)).off + 3, none⟩ = some (.bool (rd_T66 xs i).f3) := by
  obtain ⟨ad, c, e, _, hK, hc0⟩ := Kd.C_get h z66 i h0 h1
  have hc : ∀ j u, c[j]? = some u → w.cell? (ad.add (i.toNat * 4 + j)) = some u := hc0
  obtain rfl := k66_open hK
  exact ⟨ad, e, hc 0 _ rfl, by rw [← add_field _ _ 1 (by omega)]; exact hc 1 _ rfl, by rw [← add_field _ _ 2 (by omega)]; exact hc 2 _ rfl, by rw [← add_field _ _ 3 (by omega)]; exact hc 3 _ rfl⟩
def rd_L8 (xs : List (List S66)) (i : Int) : (List S66) := xs.getD i.toNat ([] : List S66)
theorem at_L8 {w : World} {A : Option Addr} {n : Nat} {xs : List (List S66)} (h : Kd.C (Kd.slice 66 k66) w A n xs) (i : Int) (h0 : 0 ≤ i) (h1 : i < n) : ∃ ad A0 c0, A = some ad ∧ w.cell? (ad.add i.toNat) = some (.slice A0 (rd_L8 xs i).length c0) ∧ (rd_L8 xs i).length ≤ c0 ∧ k66.C w A0 (rd_L8 xs i).length (rd_L8 xs i) := by
  obtain ⟨ad, c, e, _, hK, hc0⟩ := Kd.C_get h ([] : List S66) i h0 h1
  have hc : ∀ j u, c[j]? = some u → w.cell? (ad.add (i.toNat * 1 + j)) = some u := hc0
  obtain ⟨A0, c0, rfl, l0, g0⟩ := hK
  exact ⟨ad, A0, c0, e, by have hq := hc 0 _ rfl; rwa [Nat.mul_one, Nat.add_zero] at hq, l0, g0⟩
structure S69 where
  f0 : ByteArray
  f1 : Int
  f2 : (List S66)
def z69 : S69 := ⟨(⟨#[]⟩ : ByteArray), (0 : Int), ([] : List S66)⟩
def k69 : Kd S69 := Kd.iso (Kd.pair Kd.string (Kd.pair (Kd.int .i64) (Kd.slice 66 k66))) (fun x : S69 => (x.f0, x.f1, x.f2))
theorem k69_open {w : World} {x : S69} {cs : List Value} (h : k69.K w x cs) : ∃ A2 c2, cs = [.string x.f0, .int .i64 x.f1, .slice A2 x.f2.length c2] ∧ x.f2.length ≤ c2 ∧ k66.C w A2 x.f2.length x.f2 := by
  obtain ⟨_, _, rfl, rfl, ⟨_, _, rfl, rfl, ⟨A2, c2, rfl, l2, g2⟩⟩⟩ := h
  exact ⟨A2, c2, rfl, l2, g2⟩
theorem k69_openM {w : World} {base : Nat} {ok : Nat → Prop} {x : S69} {cs : List Value} (h : k69.M w base ok x cs) : ∃ v2, cs = [.string x.f0, .int .i64 x.f1, v2] ∧ k66.R 66 w base ok v2 x.f2 := by
  obtain ⟨_, _, rfl, rfl, ⟨_, _, rfl, rfl, ⟨v2, rfl, g2⟩⟩⟩ := h
  exact ⟨v2, rfl, g2⟩
theorem k69_mk (w : World) (x : S69) {A2 : Option Addr} {c2 : Nat} (l2 : x.f2.length ≤ c2) (g2 : k66.C w A2 x.f2.length x.f2) : k69.K w x [.string x.f0, .int .i64 x.f1, .slice A2 x.f2.length c2] := ⟨[.string x.f0], [.int .i64 x.f1, .slice A2 x.f2.length c2], rfl, rfl, ⟨[.int .i64 x.f1], [.slice A2 x.f2.length c2], rfl, rfl, ⟨A2, c2, rfl, l2, g2⟩⟩⟩
theorem k69_mkM (w : World) (base : Nat) (ok : Nat → Prop) (x : S69) {v2 : Value} (g2 : k66.R 66 w base ok v2 x.f2) : k69.M w base ok x [.string x.f0, .int .i64 x.f1, v2] := ⟨[.string x.f0], [.int .i64 x.f1, v2], rfl, rfl, ⟨[.int .i64 x.f1], [v2], rfl, rfl, ⟨v2, rfl, g2⟩⟩⟩
theorem k69_openF {W : World} {ok : Nat → Prop} {x : S69} {cs : List Value} (h : Kd.FK k69 W ok x cs) : ∃ A2 c2, cs = [.string x.f0, .int .i64 x.f1, .slice A2 x.f2.length c2] ∧ x.f2.length ≤ c2 ∧ Kd.F k66 W ok A2 x.f2.length x.f2 := by
  obtain ⟨A2, c2, rfl, l2, _⟩ := k69_open (Kd.FK_now h)
  exact ⟨A2, c2, rfl, l2, (fun W' hW => by obtain ⟨A2_, c2_, he, l2_, g2_⟩ := k69_open (h W' hW); injection (Option.some.inj (show some (Value.slice A2 x.f2.length c2) = some (Value.slice A2_ x.f2.length c2_) from congrArg (fun l => l[2]?) he)) with ha_ _ _; rw [ha_]; exact g2_)⟩
theorem k69_mkF (W : World) (ok : Nat → Prop) (x : S69) {A2 : Option Addr} {c2 : Nat} (l2 : x.f2.length ≤ c2) (g2 : Kd.F k66 W ok A2 x.f2.length x.f2) : Kd.FK k69 W ok x [.string x.f0, .int .i64 x.f1, .slice A2 x.f2.length c2] := fun W2 hW => k69_mk W2 x l2 (g2 W2 hW)
def rd_T69 (xs : List S69) (i : Int) : S69 := xs.getD i.toNat z69
theorem at_T69 {w : World} {A : Option Addr} {n : Nat} {xs : List S69} (h : Kd.C k69 w A n xs) (i : Int) (h0 : 0 ≤ i) (h1 : i < n) : ∃ ad A2 c2, A = some ad ∧ w.cell? (ad.add (i.toNat * 3)) = some (.string (rd_T69 xs i).f0) ∧ w.cell? ⟨(ad.add (i.toNat * 3)).block, (ad.add (i.toNat * 3)).off + 1, none⟩ = some (.int .i64 (rd_T69 xs i).f1) ∧ w.cell? ⟨(ad.add (i.toNat * 3)).block, (ad.add (i.toNat * 3)).off + 2, none⟩ = some (.slice A2 (rd_T69 xs i).f2.length c2) ∧ (rd_T69 xs i).f2.length ≤ c2 ∧ k66.C w A2 (rd_T69 xs i).f2.length (rd_T69 xs i).f2 := by
  obtain ⟨ad, c, e, _, hK, hc0⟩ := Kd.C_get h z69 i h0 h1
  have hc : ∀ j u, c[j]? = some u → w.cell? (ad.add (i.toNat * 3 + j)) = some u := hc0
  obtain ⟨A2, c2, rfl, l2, g2⟩ := k69_open hK
  exact ⟨ad, A2, c2, e, hc 0 _ rfl, by rw [← add_field _ _ 1 (by omega)]; exact hc 1 _ rfl, by rw [← add_field _ _ 2 (by omega)]; exact hc 2 _ rfl, l2, g2⟩
structure S71 where
  f0 : Int
  f1 : S69
  f2 : Bool
def z71 : S71 := ⟨(0 : Int), z69, false⟩
def k71 : Kd S71 := Kd.iso (Kd.pair (Kd.int .i64) (Kd.pair k69 Kd.bool)) (fun x : S71 => (x.f0, x.f1, x.f2))
theorem k71_open {w : World} {x : S71} {cs : List Value} (h : k71.K w x cs) : ∃ A3 c3, cs = [.int .i64 x.f0, .string x.f1.f0, .int .i64 x.f1.f1, .slice A3 x.f1.f2.length c3, .bool x.f2] ∧ x.f1.f2.length ≤ c3 ∧ k66.C w A3 x.f1.f2.length x.f1.f2 := by
  obtain ⟨_, _, rfl, rfl, ⟨_, _, rfl, s1, rfl⟩⟩ := h
  obtain ⟨A3, c3, rfl, l3, g3⟩ := k69_open s1
  exact ⟨A3, c3, rfl, l3, g3⟩
theorem k71_openM {w : World} {base : Nat} {ok : Nat → Prop} {x : S71} {cs : List Value} (h : k71.M w base ok x cs) : ∃ v3, cs = [.int .i64 x.f0, .string x.f1.f0, .int .i64 x.f1.f1, v3, .bool x.f2] ∧ k66.R 66 w base ok v3 x.f1.f2 := by
  obtain ⟨_, _, rfl, rfl, ⟨_, _, rfl, s1, rfl⟩⟩ := h
  obtain ⟨v3, rfl, g3⟩ := k69_openM s1
  exact ⟨v3, rfl, g3⟩
theorem k71_mk (w : World) (x : S71) {A3 : Option Addr} {c3 : Nat} (l3 : x.f1.f2.length ≤ c3) (g3 : k66.C w A3 x.f1.f2.length x.f1.f2) : k71.K w x [.int .i64 x.f0, .string x.f1.f0, .int .i64 x.f1.f1, .slice A3 x.f1.f2.length c3, .bool x.f2] := ⟨[.int .i64 x.f0], [.string x.f1.f0, .int .i64 x.f1.f1, .slice A3 x.f1.f2.length c3, .bool x.f2], rfl, rfl, ⟨[.string x.f1.f0, .int .i64 x.f1.f1, .slice A3 x.f1.f2.length c3], [.bool x.f2], rfl, (k69_mk w x.f1 l3 g3), rfl⟩⟩
theorem k71_mkM (w : World) (base : Nat) (ok : Nat → Prop) (x : S71) {v3 : Value} (g3 : k66.R 66 w base ok v3 x.f1.f2) : k71.M w base ok x [.int .i64 x.f0, .string x.f1.f0, .int .i64 x.f1.f1, v3, .bool x.f2] := ⟨[.int .i64 x.f0], [.string x.f1.f0, .int .i64 x.f1.f1, v3, .bool x.f2], rfl, rfl, ⟨[.string x.f1.f0, .int .i64 x.f1.f1, v3], [.bool x.f2], rfl, (k69_mkM w base ok x.f1 g3), rfl⟩⟩
theorem k71_openF {W : World} {ok : Nat → Prop} {x : S71} {cs : List Value} (h : Kd.FK k71 W ok x cs) : ∃ A3 c3, cs = [.int .i64 x.f0, .string x.f1.f0, .int .i64 x.f1.f1, .slice A3 x.f1.f2.length c3, .bool x.f2] ∧ x.f1.f2.length ≤ c3 ∧ Kd.F k66 W ok A3 x.f1.f2.length x.f1.f2 := by
  obtain ⟨A3, c3, rfl, l3, _⟩ := k71_open (Kd.FK_now h)
  exact ⟨A3, c3, rfl, l3, (fun W' hW => by obtain ⟨A3_, c3_, he, l3_, g3_⟩ := k71_open (h W' hW); injection (Option.some.inj (show some (Value.slice A3 x.f1.f2.length c3) = some (Value.slice A3_ x.f1.f2.length c3_) from congrArg (fun l => l[3]?) he)) with ha_ _ _; rw [ha_]; exact g3_)⟩
theorem k71_mkF (W : World) (ok : Nat → Prop) (x : S71) {A3 : Option Addr} {c3 : Nat} (l3 : x.f1.f2.length ≤ c3) (g3 : Kd.F k66 W ok A3 x.f1.f2.length x.f1.f2) : Kd.FK k71 W ok x [.int .i64 x.f0, .string x.f1.f0, .int .i64 x.f1.f1, .slice A3 x.f1.f2.length c3, .bool x.f2] := fun W2 hW => k71_mk W2 x l3 (g3 W2 hW)
def rd_T71 (xs : List S71) (i : Int) : S71 := xs.getD i.toNat z71
theorem at_T71 {w : World} {A : Option Addr} {n : Nat} {xs : List S71} (h : Kd.C k71 w A n xs) (i : Int) (h0 : 0 ≤ i) (h1 : i < n) : ∃ ad A3 c3, A = some ad ∧ w.cell? (ad.add (i.toNat * 5)) = some (.int .i64 (rd_T71 xs i).f0) ∧ w.cell? ⟨(ad.add (i.toNat * 5)).block, (ad.add (i.toNat * 5)).off + 1, none⟩ = some (.string (rd_T71 xs i).f1.f0) ∧ w.cell? ⟨(ad.add (i.toNat * 5)).block, (ad.add (i.toNat * 5)).off + 2, none⟩ = some (.int .i64 (rd_T71 xs i).f1.f1) ∧ w.cell? ⟨(ad.add (i.toNat * 5)).block, (ad.add (i.toNat * 5)).off + 3, none⟩ = some (.slice A3 (rd_T71 xs i).f1.f2.length c3) ∧ w.cell? ⟨(ad.add (i.toNat * 5)).block, (ad.add (i.toNat * 5)).off + 4, none⟩ = some (.bool (rd_T71 xs i).f2) ∧ (rd_T71 xs i).f1.f2.length ≤ c3 ∧ k66.C w A3 (rd_T71 xs i).f1.f2.length (rd_T71 xs i).f1.f2 := by
  obtain ⟨ad, c, e, _, hK, hc0⟩ := Kd.C_get h z71 i h0 h1
  have hc : ∀ j u, c[j]? = some u → w.cell? (ad.add (i.toNat * 5 + j)) = some u := hc0
  obtain ⟨A3, c3, rfl, l3, g3⟩ := k71_open hK
  exact ⟨ad, A3, c3, e, hc 0 _ rfl, by rw [← add_field _ _ 1 (by omega)]; exact hc 1 _ rfl, by rw [← add_field _ _ 2 (by omega)]; exact hc 2 _ rfl, by rw [← add_field _ _ 3 (by omega)]; exact hc 3 _ rfl, by rw [← add_field _ _ 4 (by omega)]; exact hc 4 _ rfl, l3, g3⟩
structure S57 where
  f0 : ByteArray
  f1 : ByteArray
  f2 : Int
  f3 : Bool
def z57 : S57 := ⟨(⟨#[]⟩ : ByteArray), (⟨#[]⟩ : ByteArray), (0 : Int), false⟩
def k57 : Kd S57 := Kd.iso (Kd.pair Kd.string (Kd.pair Kd.string (Kd.pair (Kd.int .i64) Kd.bool))) (fun x : S57 => (x.f0, x.f1, x.f2, x.f3))
theorem k57_open {w : World} {x : S57} {cs : List Value} (h : k57.K w x cs) : cs = [.string x.f0, .string x.f1, .int .i64 x.f2, .bool x.f3] := by
  obtain ⟨_, _, rfl, rfl, ⟨_, _, rfl, rfl, ⟨_, _, rfl, rfl, rfl⟩⟩⟩ := h
  exact rfl
theorem k57_openM {w : World} {base : Nat} {ok : Nat → Prop} {x : S57} {cs : List Value} (h : k57.M w base ok x cs) : cs = [.string x.f0, .string x.f1, .int .i64 x.f2, .bool x.f3] := by
  obtain ⟨_, _, rfl, rfl, ⟨_, _, rfl, rfl, ⟨_, _, rfl, rfl, rfl⟩⟩⟩ := h
  exact rfl
theorem k57_mk (w : World) (x : S57)  : k57.K w x [.string x.f0, .string x.f1, .int .i64 x.f2, .bool x.f3] := ⟨[.string x.f0], [.string x.f1, .int .i64 x.f2, .bool x.f3], rfl, rfl, ⟨[.string x.f1], [.int .i64 x.f2, .bool x.f3], rfl, rfl, ⟨[.int .i64 x.f2], [.bool x.f3], rfl, rfl, rfl⟩⟩⟩
theorem k57_mkM (w : World) (base : Nat) (ok : Nat → Prop) (x : S57)  : k57.M w base ok x [.string x.f0, .string x.f1, .int .i64 x.f2, .bool x.f3] := ⟨[.string x.f0], [.string x.f1, .int .i64 x.f2, .bool x.f3], rfl, rfl, ⟨[.string x.f1], [.int .i64 x.f2, .bool x.f3], rfl, rfl, ⟨[.int .i64 x.f2], [.bool x.f3], rfl, rfl, rfl⟩⟩⟩
theorem k57_mkF (W : World) (ok : Nat → Prop) (x : S57) : Kd.FK k57 W ok x [.string x.f0, .string x.f1, .int .i64 x.f2, .bool x.f3] := fun W2 _ => k57_mk W2 x
def rd_T57 (xs : List S57) (i : Int) : S57 := xs.getD i.toNat z57
theorem at_T57 {w : World} {A : Option Addr} {n : Nat} {xs : List S57} (h : Kd.C k57 w A n xs) (i : Int) (h0 : 0 ≤ i) (h1 : i < n) : ∃ ad , A = some ad ∧ w.cell? (ad.add (i.toNat * 4)) = some (.string (rd_T57 xs i).f0) ∧ w.cell? ⟨(ad.add (i.toNat * 4)).block, (ad.add (i.toNat * 4)).off + 1, none⟩ = some (.string (rd_T57 xs i).f1) ∧ w.cell? ⟨(ad.add (i.toNat * 4)).block, (ad.add (i.toNat * 4)).off + 2, none⟩ = some (.int .i64 (rd_T57 xs i).f2) ∧ w.cell? ⟨(ad.add (i.toNat * 4)).block, (ad.add (i.toNat * 4)).off + 3, none⟩ = some (.bool (rd_T57 xs i).f3) := by
  obtain ⟨ad, c, e, _, hK, hc0⟩ := Kd.C_get h z57 i h0 h1
  have hc : ∀ j u, c[j]? = some u → w.cell? (ad.add (i.toNat * 4 + j)) = some u := hc0
  obtain rfl := k57_open hK
  exact ⟨ad, e, hc 0 _ rfl, by rw [← add_field _ _ 1 (by omega)]; exact hc 1 _ rfl, by rw [← add_field _ _ 2 (by omega)]; exact hc 2 _ rfl, by rw [← add_field _ _ 3 (by omega)]; exact hc 3 _ rfl⟩
end Go.Proofs.YtcfgmkmllcfjjaaDoor.PImageForm

namespace Go.Proofs.YtcfgmkmllcfjjaaDoor.PImageForm
open Go.RowKit Go.Proofs.YtcfgmkmllcfjjaaDoorW.PrintWords Go.Proofs.YtcfgmkmllcfjjaaDoorW.PrintLast Go.Proofs.YtcfgmkmllcfjjaaDoorW.PrintMore
attribute [local go_sem] max2_int min2_int max_two min_two max_three min_three max_four min_four
set_option linter.unusedVariables false
set_option linter.unusedSimpArgs false
theorem eqA23 (d : Nat) (w : World) (x0 y0 : Int) (x1 y1 : Int) :
    (Op.equalIn (d + 2) 23 (.agg #[.int .i64 x0, .int .i64 x1]) (.agg #[.int .i64 y0, .int .i64 y1])).run Tryd.prog w = .ok (x0 == y0 && (x1 == y1)) w := by
  refine eqA_of Tryd.underlying23 (by kernel_rfl) ?_
  refine eqf_cons (by rfl) (by go_simp; rfl) (by go_simp; rfl) (by go_simp) ?_
  exact eqf_last (by rfl) (by go_simp; rfl) (by go_simp; rfl) (by go_simp)
end Go.Proofs.YtcfgmkmllcfjjaaDoor.PImageForm

namespace Go.Proofs.YtcfgmkmllcfjjaaDoor.PImageForm
open Go.RowKit Go.Proofs.YtcfgmkmllcfjjaaDoorW.PrintWords Go.Proofs.YtcfgmkmllcfjjaaDoorW.PrintLast Go.Proofs.YtcfgmkmllcfjjaaDoorW.PrintMore
attribute [local go_sem] max2_int min2_int max_two min_two max_three min_three max_four min_four
set_option linter.unusedVariables false
set_option linter.unusedSimpArgs false
theorem eqA57 (d : Nat) (w : World) (x0 y0 : ByteArray) (x1 y1 : ByteArray) (x2 y2 : Int) (x3 y3 : Bool) :
    (Op.equalIn (d + 2) 57 (.agg #[.string x0, .string x1, .int .i64 x2, .bool x3]) (.agg #[.string y0, .string y1, .int .i64 y2, .bool y3])).run Tryd.prog w = .ok (x0.toList == y0.toList && (x1.toList == y1.toList && (x2 == y2 && (x3 == y3)))) w := by
  refine eqA_of Tryd.underlying57 (by kernel_rfl) ?_
  refine eqf_cons (by rfl) (by go_simp; rfl) (by go_simp; rfl) (by go_simp) ?_
  refine eqf_cons (by rfl) (by go_simp; rfl) (by go_simp; rfl) (by go_simp) ?_
  refine eqf_cons (by rfl) (by go_simp; rfl) (by go_simp; rfl) (by go_simp) ?_
  exact eqf_last (by rfl) (by go_simp; rfl) (by go_simp; rfl) (by go_simp)
end Go.Proofs.YtcfgmkmllcfjjaaDoor.PImageForm

namespace Go.Proofs.YtcfgmkmllcfjjaaDoor.PImageForm
open Go.RowKit Go.Proofs.YtcfgmkmllcfjjaaDoorW.PrintWords Go.Proofs.YtcfgmkmllcfjjaaDoorW.PrintLast Go.Proofs.YtcfgmkmllcfjjaaDoorW.PrintMore
attribute [local go_sem] max2_int min2_int max_two min_two max_three min_three max_four min_four
set_option linter.unusedVariables false
set_option linter.unusedSimpArgs false
theorem eqA61 (d : Nat) (w : World) (x0 y0 : ByteArray) (x1 y1 : Int) :
    (Op.equalIn (d + 2) 61 (.agg #[.string x0, .int .i64 x1]) (.agg #[.string y0, .int .i64 y1])).run Tryd.prog w = .ok (x0.toList == y0.toList && (x1 == y1)) w := by
  refine eqA_of Tryd.underlying61 (by kernel_rfl) ?_
  refine eqf_cons (by rfl) (by go_simp; rfl) (by go_simp; rfl) (by go_simp) ?_
  exact eqf_last (by rfl) (by go_simp; rfl) (by go_simp; rfl) (by go_simp)
end Go.Proofs.YtcfgmkmllcfjjaaDoor.PImageForm
