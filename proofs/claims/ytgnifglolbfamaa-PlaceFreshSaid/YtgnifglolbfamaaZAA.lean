/- Texts of the claim, merged in build order: Ty, PlA. -/
import Derived.Test.YtgnifglolbfamaaRows
import Derived.Test.YtgnifglolbfamaaWWords
import Derived.WalkKit
import Derived.WalkSpells
import Derived.WalkLawsBesides
import Derived.Deep.QuietTactic
import Derived.BigQuiet
import Derived.Lib.Hide
import Derived.Deep.RegionHeld3
import Derived.Deep.DrawnRows
import Derived.Deep.DeepMust
import Derived.Deep.DeepCutAuto
import Derived.Deep.AppendLies
/- The types of the program that the proofs read, as Lean's own, and how they lie in memory (out of the kit's print). -/
set_option linter.unusedVariables false
set_option linter.unusedSimpArgs false
namespace Go.Proofs.Ytgnifglolbfamaa
open Go.RowKit Go.Proofs.YtgnifglolbfamaaW.PrintWords
theorem info5 : (Try.prog.info? 5).map (fun i => (i.zero, i.size, i.bytes)) = some (some (.int .u8 0), 1, 1) := by kernel_rfl
theorem infoEx : (Try.prog.info? 31).map (fun i => (i.zero, i.size, i.bytes)) = some (some (.agg #[(.int .i64 0), (.int .i64 0), (.int .i64 0), (.int .i64 0), (.string ⟨#[]⟩), (.bool false), (.string ⟨#[]⟩), (.int .i64 0), (.string ⟨#[]⟩), (.slice none 0 0)]), 10, 120) := by kernel_rfl
theorem infoRf : (Try.prog.info? 42).map (fun i => (i.zero, i.size, i.bytes)) = some (some (.agg #[(.string ⟨#[]⟩), (.int .i64 0), (.string ⟨#[]⟩), (.int .i64 0)]), 4, 48) := by kernel_rfl
-- the values' own types
/-! #### struct type 29 -/
structure Val where
  f0 : Int
  f1 : Int
  f2 : ByteArray
  f3 : Bool
def zVal : Val := ⟨(0 : Int), (0 : Int), (⟨#[]⟩ : ByteArray), false⟩
def kVal : Kd Val := Kd.iso (Kd.pair (Kd.int .i64) (Kd.pair (Kd.int .i64) (Kd.pair Kd.string Kd.bool))) (fun x : Val => (x.f0, x.f1, x.f2, x.f3))
theorem kVal_open {w : World} {x : Val} {cs : List Value} (h : kVal.K w x cs) : cs = [.int .i64 x.f0, .int .i64 x.f1, .string x.f2, .bool x.f3] := by
  obtain ⟨_, _, rfl, rfl, ⟨_, _, rfl, rfl, ⟨_, _, rfl, rfl, rfl⟩⟩⟩ := h
  exact rfl
theorem kVal_openM {w : World} {base : Nat} {ok : Nat → Prop} {x : Val} {cs : List Value} (h : kVal.M w base ok x cs) : cs = [.int .i64 x.f0, .int .i64 x.f1, .string x.f2, .bool x.f3] := by
  obtain ⟨_, _, rfl, rfl, ⟨_, _, rfl, rfl, ⟨_, _, rfl, rfl, rfl⟩⟩⟩ := h
  exact rfl
theorem kVal_mk (w : World) (x : Val)  : kVal.K w x [.int .i64 x.f0, .int .i64 x.f1, .string x.f2, .bool x.f3] := ⟨[.int .i64 x.f0], [.int .i64 x.f1, .string x.f2, .bool x.f3], rfl, rfl, ⟨[.int .i64 x.f1], [.string x.f2, .bool x.f3], rfl, rfl, ⟨[.string x.f2], [.bool x.f3], rfl, rfl, rfl⟩⟩⟩
theorem kVal_mkM (w : World) (base : Nat) (ok : Nat → Prop) (x : Val)  : kVal.M w base ok x [.int .i64 x.f0, .int .i64 x.f1, .string x.f2, .bool x.f3] := ⟨[.int .i64 x.f0], [.int .i64 x.f1, .string x.f2, .bool x.f3], rfl, rfl, ⟨[.int .i64 x.f1], [.string x.f2, .bool x.f3], rfl, rfl, ⟨[.string x.f2], [.bool x.f3], rfl, rfl, rfl⟩⟩⟩
def rdVal (xs : List Val) (i : Int) : Val := xs.getD i.toNat zVal
theorem atVal {w : World} {A : Option Addr} {n : Nat} {xs : List Val} (h : Kd.C kVal w A n xs) (i : Int) (h0 : 0 ≤ i) (h1 : i < n) : ∃ ad , A = some ad ∧ w.cell? (ad.add (i.toNat * 4)) = some (.int .i64 (rdVal xs i).f0) ∧ w.cell? ⟨(ad.add (i.toNat * 4)).block, (ad.add (i.toNat * 4)).off + 1, none⟩ = some (.int .i64 (rdVal xs i).f1) ∧ w.cell? ⟨(ad.add (i.toNat * 4)).block, (ad.add (i.toNat * 4)).off + 2, none⟩ = some (.string (rdVal xs i).f2) ∧ w.cell? ⟨(ad.add (i.toNat * 4)).block, (ad.add (i.toNat * 4)).off + 3, none⟩ = some (.bool (rdVal xs i).f3) := by
  obtain ⟨ad, c, e, _, hK, hc0⟩ := Kd.C_get h zVal i h0 h1
  have hc : ∀ j u, c[j]? = some u → w.cell? (ad.add (i.toNat * 4 + j)) = some u := hc0
  obtain rfl := kVal_open hK
  exact ⟨ad, e, hc 0 _ rfl, by rw [← add_field _ _ 1 (by omega)]; exact hc 1 _ rfl, by rw [← add_field _ _ 2 (by omega)]; exact hc 2 _ rfl, by rw [← add_field _ _ 3 (by omega)]; exact hc 3 _ rfl⟩

/-! #### struct type 31, nested in itself -/
structure Ex where
  f0 : Int
  f1 : Int
  f2 : Val
  f3 : ByteArray
  f4 : Int
  f5 : ByteArray
  f6 : (List Ex)
def zEx : Ex := ⟨(0 : Int), (0 : Int), zVal, (⟨#[]⟩ : ByteArray), (0 : Int), (⟨#[]⟩ : ByteArray), ([] : List Ex)⟩
def fEx (d : Kd Ex) : Kd Ex := Kd.iso (Kd.pair (Kd.int .i64) (Kd.pair (Kd.int .i64) (Kd.pair kVal (Kd.pair Kd.string (Kd.pair (Kd.int .i64) (Kd.pair Kd.string (Kd.slice 31 d))))))) (fun x : Ex => (x.f0, x.f1, x.f2, x.f3, x.f4, x.f5, x.f6))
theorem monoEx : Kd.Mono fEx := Kd.mono_iso _ (Kd.mono_pair (Kd.mono_const _) (Kd.mono_pair (Kd.mono_const _) (Kd.mono_pair (Kd.mono_const _) (Kd.mono_pair (Kd.mono_const _) (Kd.mono_pair (Kd.mono_const _) (Kd.mono_pair (Kd.mono_const _) (Kd.mono_slice 31 Kd.mono_id)))))))
theorem subEx : Kd.Sub fEx [31] := Kd.sub_iso _ (Kd.sub_pair (Kd.sub_const _ (by decide)) (Kd.sub_pair (Kd.sub_const _ (by decide)) (Kd.sub_pair (Kd.sub_const _ (by decide)) (Kd.sub_pair (Kd.sub_const _ (by decide)) (Kd.sub_pair (Kd.sub_const _ (by decide)) (Kd.sub_pair (Kd.sub_const _ (by decide)) (Kd.sub_slice 31 (by decide) Kd.sub_id)))))))
theorem szEx : ∀ n, (Kd.upto fEx 10 [31] n).sz = 10 := Kd.upto_sz (fun _ => rfl)
def kEx : Kd Ex := Kd.fix fEx 10 [31] szEx (Kd.upto_E subEx)
theorem kEx_open {w : World} {x : Ex} {cs : List Value} (h : kEx.K w x cs) : ∃ A9 c9, cs = [.int .i64 x.f0, .int .i64 x.f1, .int .i64 x.f2.f0, .int .i64 x.f2.f1, .string x.f2.f2, .bool x.f2.f3, .string x.f3, .int .i64 x.f4, .string x.f5, .slice A9 x.f6.length c9] ∧ x.f6.length ≤ c9 ∧ kEx.C w A9 x.f6.length x.f6 := by
  obtain ⟨n, h⟩ := h
  cases n with
  | zero => exact h.elim
  | succ n =>
    obtain ⟨_, _, rfl, rfl, ⟨_, _, rfl, rfl, ⟨_, _, rfl, s2, ⟨_, _, rfl, rfl, ⟨_, _, rfl, rfl, ⟨_, _, rfl, rfl, ⟨A9, c9, rfl, l9, g9⟩⟩⟩⟩⟩⟩⟩ := h
    obtain rfl := kVal_open s2
    exact ⟨A9, c9, rfl, l9, Kd.fix_C g9⟩
theorem kEx_openM {w : World} {base : Nat} {ok : Nat → Prop} {x : Ex} {cs : List Value} (h : kEx.M w base ok x cs) : ∃ v9, cs = [.int .i64 x.f0, .int .i64 x.f1, .int .i64 x.f2.f0, .int .i64 x.f2.f1, .string x.f2.f2, .bool x.f2.f3, .string x.f3, .int .i64 x.f4, .string x.f5, v9] ∧ kEx.R 31 w base ok v9 x.f6 := by
  obtain ⟨n, h⟩ := h
  cases n with
  | zero => exact h.elim
  | succ n =>
    obtain ⟨_, _, rfl, rfl, ⟨_, _, rfl, rfl, ⟨_, _, rfl, s2, ⟨_, _, rfl, rfl, ⟨_, _, rfl, rfl, ⟨_, _, rfl, rfl, ⟨v9, rfl, g9⟩⟩⟩⟩⟩⟩⟩ := h
    obtain rfl := kVal_openM s2
    exact ⟨v9, rfl, Kd.fix_R g9⟩
theorem kEx_mk (w : World) (x : Ex) {A9 : Option Addr} {c9 : Nat} (l9 : x.f6.length ≤ c9) (g9 : kEx.C w A9 x.f6.length x.f6) : kEx.K w x [.int .i64 x.f0, .int .i64 x.f1, .int .i64 x.f2.f0, .int .i64 x.f2.f1, .string x.f2.f2, .bool x.f2.f3, .string x.f3, .int .i64 x.f4, .string x.f5, .slice A9 x.f6.length c9] := by
  obtain ⟨n9, q9⟩ := Kd.fix_C_back monoEx g9
  have r9 := Kd.upto_C_le monoEx szEx (show n9 ≤ n9 by omega) q9
  exact ⟨n9 + 1, ⟨[.int .i64 x.f0], [.int .i64 x.f1, .int .i64 x.f2.f0, .int .i64 x.f2.f1, .string x.f2.f2, .bool x.f2.f3, .string x.f3, .int .i64 x.f4, .string x.f5, .slice A9 x.f6.length c9], rfl, rfl, ⟨[.int .i64 x.f1], [.int .i64 x.f2.f0, .int .i64 x.f2.f1, .string x.f2.f2, .bool x.f2.f3, .string x.f3, .int .i64 x.f4, .string x.f5, .slice A9 x.f6.length c9], rfl, rfl, ⟨[.int .i64 x.f2.f0, .int .i64 x.f2.f1, .string x.f2.f2, .bool x.f2.f3], [.string x.f3, .int .i64 x.f4, .string x.f5, .slice A9 x.f6.length c9], rfl, (kVal_mk w x.f2 ), ⟨[.string x.f3], [.int .i64 x.f4, .string x.f5, .slice A9 x.f6.length c9], rfl, rfl, ⟨[.int .i64 x.f4], [.string x.f5, .slice A9 x.f6.length c9], rfl, rfl, ⟨[.string x.f5], [.slice A9 x.f6.length c9], rfl, rfl, ⟨A9, c9, rfl, l9, r9⟩⟩⟩⟩⟩⟩⟩⟩
theorem kEx_mkM (w : World) (base : Nat) (ok : Nat → Prop) (x : Ex) {v9 : Value} (g9 : kEx.R 31 w base ok v9 x.f6) : kEx.M w base ok x [.int .i64 x.f0, .int .i64 x.f1, .int .i64 x.f2.f0, .int .i64 x.f2.f1, .string x.f2.f2, .bool x.f2.f3, .string x.f3, .int .i64 x.f4, .string x.f5, v9] := by
  obtain ⟨n9, q9⟩ := Kd.fix_R_back monoEx g9
  have r9 := Kd.upto_R_le monoEx szEx (show n9 ≤ n9 by omega) q9
  exact ⟨n9 + 1, ⟨[.int .i64 x.f0], [.int .i64 x.f1, .int .i64 x.f2.f0, .int .i64 x.f2.f1, .string x.f2.f2, .bool x.f2.f3, .string x.f3, .int .i64 x.f4, .string x.f5, v9], rfl, rfl, ⟨[.int .i64 x.f1], [.int .i64 x.f2.f0, .int .i64 x.f2.f1, .string x.f2.f2, .bool x.f2.f3, .string x.f3, .int .i64 x.f4, .string x.f5, v9], rfl, rfl, ⟨[.int .i64 x.f2.f0, .int .i64 x.f2.f1, .string x.f2.f2, .bool x.f2.f3], [.string x.f3, .int .i64 x.f4, .string x.f5, v9], rfl, (kVal_mkM w base ok x.f2 ), ⟨[.string x.f3], [.int .i64 x.f4, .string x.f5, v9], rfl, rfl, ⟨[.int .i64 x.f4], [.string x.f5, v9], rfl, rfl, ⟨[.string x.f5], [v9], rfl, rfl, ⟨v9, rfl, r9⟩⟩⟩⟩⟩⟩⟩⟩
def rdEx (xs : List Ex) (i : Int) : Ex := xs.getD i.toNat zEx
theorem atEx {w : World} {A : Option Addr} {n : Nat} {xs : List Ex} (h : Kd.C kEx w A n xs) (i : Int) (h0 : 0 ≤ i) (h1 : i < n) : ∃ ad A9 c9, A = some ad ∧ w.cell? (ad.add (i.toNat * 10)) = some (.int .i64 (rdEx xs i).f0) ∧ w.cell? ⟨(ad.add (i.toNat * 10)).block, (ad.add (i.toNat * 10)).off + 1, none⟩ = some (.int .i64 (rdEx xs i).f1) ∧ w.cell? ⟨(ad.add (i.toNat * 10)).block, (ad.add (i.toNat * 10)).off + 2, none⟩ = some (.int .i64 (rdEx xs i).f2.f0) ∧ w.cell? ⟨(ad.add (i.toNat * 10)).block, (ad.add (i.toNat * 10)).off + 3, none⟩ = some (.int .i64 (rdEx xs i).f2.f1) ∧ w.cell? ⟨(ad.add (i.toNat * 10)).block, (ad.add (i.toNat * 10)).off + 4, none⟩ = some (.string (rdEx xs i).f2.f2) ∧ w.cell? ⟨(ad.add (i.toNat * 10)).block, (ad.add (i.toNat * 10)).off + 5, none⟩ = some (.bool (rdEx xs i).f2.f3) ∧ w.cell? ⟨(ad.add (i.toNat * 10)).block, (ad.add (i.toNat * 10)).off + 6, none⟩ = some (.string (rdEx xs i).f3) ∧ w.cell? ⟨(ad.add (i.toNat * 10)).block, (ad.add (i.toNat * 10)).off + 7, none⟩ = some (.int .i64 (rdEx xs i).f4) ∧ w.cell? ⟨(ad.add (i.toNat * 10)).block, (ad.add (i.toNat * 10)).off + 8, none⟩ = some (.string (rdEx xs i).f5) ∧ w.cell? ⟨(ad.add (i.toNat * 10)).block, (ad.add (i.toNat * 10)).off + 9, none⟩ = some (.slice A9 (rdEx xs i).f6.length c9) ∧ (rdEx xs i).f6.length ≤ c9 ∧ kEx.C w A9 (rdEx xs i).f6.length (rdEx xs i).f6 := by
  obtain ⟨ad, c, e, _, hK, hc0⟩ := Kd.C_get h zEx i h0 h1
  have hc : ∀ j u, c[j]? = some u → w.cell? (ad.add (i.toNat * 10 + j)) = some u := hc0
  obtain ⟨A9, c9, rfl, l9, g9⟩ := kEx_open hK
  exact ⟨ad, A9, c9, e, hc 0 _ rfl, by rw [← add_field _ _ 1 (by omega)]; exact hc 1 _ rfl, by rw [← add_field _ _ 2 (by omega)]; exact hc 2 _ rfl, by rw [← add_field _ _ 3 (by omega)]; exact hc 3 _ rfl, by rw [← add_field _ _ 4 (by omega)]; exact hc 4 _ rfl, by rw [← add_field _ _ 5 (by omega)]; exact hc 5 _ rfl, by rw [← add_field _ _ 6 (by omega)]; exact hc 6 _ rfl, by rw [← add_field _ _ 7 (by omega)]; exact hc 7 _ rfl, by rw [← add_field _ _ 8 (by omega)]; exact hc 8 _ rfl, by rw [← add_field _ _ 9 (by omega)]; exact hc 9 _ rfl, l9, g9⟩

/-! #### struct type 42 -/
structure Rf where
  f0 : ByteArray
  f1 : Int
  f2 : ByteArray
  f3 : Int
def zRf : Rf := ⟨(⟨#[]⟩ : ByteArray), (0 : Int), (⟨#[]⟩ : ByteArray), (0 : Int)⟩
def kRf : Kd Rf := Kd.iso (Kd.pair Kd.string (Kd.pair (Kd.int .i64) (Kd.pair Kd.string (Kd.int .i64)))) (fun x : Rf => (x.f0, x.f1, x.f2, x.f3))
theorem kRf_open {w : World} {x : Rf} {cs : List Value} (h : kRf.K w x cs) : cs = [.string x.f0, .int .i64 x.f1, .string x.f2, .int .i64 x.f3] := by
  obtain ⟨_, _, rfl, rfl, ⟨_, _, rfl, rfl, ⟨_, _, rfl, rfl, rfl⟩⟩⟩ := h
  exact rfl
theorem kRf_openM {w : World} {base : Nat} {ok : Nat → Prop} {x : Rf} {cs : List Value} (h : kRf.M w base ok x cs) : cs = [.string x.f0, .int .i64 x.f1, .string x.f2, .int .i64 x.f3] := by
  obtain ⟨_, _, rfl, rfl, ⟨_, _, rfl, rfl, ⟨_, _, rfl, rfl, rfl⟩⟩⟩ := h
  exact rfl
theorem kRf_mk (w : World) (x : Rf)  : kRf.K w x [.string x.f0, .int .i64 x.f1, .string x.f2, .int .i64 x.f3] := ⟨[.string x.f0], [.int .i64 x.f1, .string x.f2, .int .i64 x.f3], rfl, rfl, ⟨[.int .i64 x.f1], [.string x.f2, .int .i64 x.f3], rfl, rfl, ⟨[.string x.f2], [.int .i64 x.f3], rfl, rfl, rfl⟩⟩⟩
theorem kRf_mkM (w : World) (base : Nat) (ok : Nat → Prop) (x : Rf)  : kRf.M w base ok x [.string x.f0, .int .i64 x.f1, .string x.f2, .int .i64 x.f3] := ⟨[.string x.f0], [.int .i64 x.f1, .string x.f2, .int .i64 x.f3], rfl, rfl, ⟨[.int .i64 x.f1], [.string x.f2, .int .i64 x.f3], rfl, rfl, ⟨[.string x.f2], [.int .i64 x.f3], rfl, rfl, rfl⟩⟩⟩
def rdRf (xs : List Rf) (i : Int) : Rf := xs.getD i.toNat zRf
theorem atRf {w : World} {A : Option Addr} {n : Nat} {xs : List Rf} (h : Kd.C kRf w A n xs) (i : Int) (h0 : 0 ≤ i) (h1 : i < n) : ∃ ad , A = some ad ∧ w.cell? (ad.add (i.toNat * 4)) = some (.string (rdRf xs i).f0) ∧ w.cell? ⟨(ad.add (i.toNat * 4)).block, (ad.add (i.toNat * 4)).off + 1, none⟩ = some (.int .i64 (rdRf xs i).f1) ∧ w.cell? ⟨(ad.add (i.toNat * 4)).block, (ad.add (i.toNat * 4)).off + 2, none⟩ = some (.string (rdRf xs i).f2) ∧ w.cell? ⟨(ad.add (i.toNat * 4)).block, (ad.add (i.toNat * 4)).off + 3, none⟩ = some (.int .i64 (rdRf xs i).f3) := by
  obtain ⟨ad, c, e, _, hK, hc0⟩ := Kd.C_get h zRf i h0 h1
  have hc : ∀ j u, c[j]? = some u → w.cell? (ad.add (i.toNat * 4 + j)) = some u := hc0
  obtain rfl := kRf_open hK
  exact ⟨ad, e, hc 0 _ rfl, by rw [← add_field _ _ 1 (by omega)]; exact hc 1 _ rfl, by rw [← add_field _ _ 2 (by omega)]; exact hc 2 _ rfl, by rw [← add_field _ _ 3 (by omega)]; exact hc 3 _ rfl⟩

/-! #### struct type 87 -/
structure It where
  f0 : ByteArray
  f1 : Ex
def zIt : It := ⟨(⟨#[]⟩ : ByteArray), zEx⟩
def kIt : Kd It := Kd.iso (Kd.pair Kd.string kEx) (fun x : It => (x.f0, x.f1))
theorem kIt_open {w : World} {x : It} {cs : List Value} (h : kIt.K w x cs) : ∃ A10 c10, cs = [.string x.f0, .int .i64 x.f1.f0, .int .i64 x.f1.f1, .int .i64 x.f1.f2.f0, .int .i64 x.f1.f2.f1, .string x.f1.f2.f2, .bool x.f1.f2.f3, .string x.f1.f3, .int .i64 x.f1.f4, .string x.f1.f5, .slice A10 x.f1.f6.length c10] ∧ x.f1.f6.length ≤ c10 ∧ kEx.C w A10 x.f1.f6.length x.f1.f6 := by
  obtain ⟨_, _, rfl, rfl, s1⟩ := h
  obtain ⟨A10, c10, rfl, l10, g10⟩ := kEx_open s1
  exact ⟨A10, c10, rfl, l10, g10⟩
theorem kIt_openM {w : World} {base : Nat} {ok : Nat → Prop} {x : It} {cs : List Value} (h : kIt.M w base ok x cs) : ∃ v10, cs = [.string x.f0, .int .i64 x.f1.f0, .int .i64 x.f1.f1, .int .i64 x.f1.f2.f0, .int .i64 x.f1.f2.f1, .string x.f1.f2.f2, .bool x.f1.f2.f3, .string x.f1.f3, .int .i64 x.f1.f4, .string x.f1.f5, v10] ∧ kEx.R 31 w base ok v10 x.f1.f6 := by
  obtain ⟨_, _, rfl, rfl, s1⟩ := h
  obtain ⟨v10, rfl, g10⟩ := kEx_openM s1
  exact ⟨v10, rfl, g10⟩
theorem kIt_mk (w : World) (x : It) {A10 : Option Addr} {c10 : Nat} (l10 : x.f1.f6.length ≤ c10) (g10 : kEx.C w A10 x.f1.f6.length x.f1.f6) : kIt.K w x [.string x.f0, .int .i64 x.f1.f0, .int .i64 x.f1.f1, .int .i64 x.f1.f2.f0, .int .i64 x.f1.f2.f1, .string x.f1.f2.f2, .bool x.f1.f2.f3, .string x.f1.f3, .int .i64 x.f1.f4, .string x.f1.f5, .slice A10 x.f1.f6.length c10] := ⟨[.string x.f0], [.int .i64 x.f1.f0, .int .i64 x.f1.f1, .int .i64 x.f1.f2.f0, .int .i64 x.f1.f2.f1, .string x.f1.f2.f2, .bool x.f1.f2.f3, .string x.f1.f3, .int .i64 x.f1.f4, .string x.f1.f5, .slice A10 x.f1.f6.length c10], rfl, rfl, (kEx_mk w x.f1 l10 g10)⟩
theorem kIt_mkM (w : World) (base : Nat) (ok : Nat → Prop) (x : It) {v10 : Value} (g10 : kEx.R 31 w base ok v10 x.f1.f6) : kIt.M w base ok x [.string x.f0, .int .i64 x.f1.f0, .int .i64 x.f1.f1, .int .i64 x.f1.f2.f0, .int .i64 x.f1.f2.f1, .string x.f1.f2.f2, .bool x.f1.f2.f3, .string x.f1.f3, .int .i64 x.f1.f4, .string x.f1.f5, v10] := ⟨[.string x.f0], [.int .i64 x.f1.f0, .int .i64 x.f1.f1, .int .i64 x.f1.f2.f0, .int .i64 x.f1.f2.f1, .string x.f1.f2.f2, .bool x.f1.f2.f3, .string x.f1.f3, .int .i64 x.f1.f4, .string x.f1.f5, v10], rfl, rfl, (kEx_mkM w base ok x.f1 g10)⟩
def rdIt (xs : List It) (i : Int) : It := xs.getD i.toNat zIt
theorem atIt {w : World} {A : Option Addr} {n : Nat} {xs : List It} (h : Kd.C kIt w A n xs) (i : Int) (h0 : 0 ≤ i) (h1 : i < n) : ∃ ad A10 c10, A = some ad ∧ w.cell? (ad.add (i.toNat * 11)) = some (.string (rdIt xs i).f0) ∧ w.cell? ⟨(ad.add (i.toNat * 11)).block, (ad.add (i.toNat * 11)).off + 1, none⟩ = some (.int .i64 (rdIt xs i).f1.f0) ∧ w.cell? ⟨(ad.add (i.toNat * 11)).block, (ad.add (i.toNat * 11)).off + 2, none⟩ = some (.int .i64 (rdIt xs i).f1.f1) ∧ w.cell? ⟨(ad.add (i.toNat * 11)).block, (ad.add (i.toNat * 11)).off + 3, none⟩ = some (.int .i64 (rdIt xs i).f1.f2.f0) ∧ w.cell? ⟨(ad.add (i.toNat * 11)).block, (ad.add (i.toNat * 11)).off + 4, none⟩ = some (.int .i64 (rdIt xs i).f1.f2.f1) ∧ w.cell? ⟨(ad.add (i.toNat * 11)).block, (ad.add (i.toNat * 11)).off + 5, none⟩ = some (.string (rdIt xs i).f1.f2.f2) ∧ w.cell? ⟨(ad.add (i.toNat * 11)).block, (ad.add (i.toNat * 11)).off + 6, none⟩ = some (.bool (rdIt xs i).f1.f2.f3) ∧ w.cell? ⟨(ad.add (i.toNat * 11)).block, (ad.add (i.toNat * 11)).off + 7, none⟩ = some (.string (rdIt xs i).f1.f3) ∧ w.cell? ⟨(ad.add (i.toNat * 11)).block, (ad.add (i.toNat * 11)).off + 8, none⟩ = some (.int .i64 (rdIt xs i).f1.f4) ∧ w.cell? ⟨(ad.add (i.toNat * 11)).block, (ad.add (i.toNat * 11)).off + 9, none⟩ = some (.string (rdIt xs i).f1.f5) ∧ w.cell? ⟨(ad.add (i.toNat * 11)).block, (ad.add (i.toNat * 11)).off + 10, none⟩ = some (.slice A10 (rdIt xs i).f1.f6.length c10) ∧ (rdIt xs i).f1.f6.length ≤ c10 ∧ kEx.C w A10 (rdIt xs i).f1.f6.length (rdIt xs i).f1.f6 := by
  obtain ⟨ad, c, e, _, hK, hc0⟩ := Kd.C_get h zIt i h0 h1
  have hc : ∀ j u, c[j]? = some u → w.cell? (ad.add (i.toNat * 11 + j)) = some u := hc0
  obtain ⟨A10, c10, rfl, l10, g10⟩ := kIt_open hK
  exact ⟨ad, A10, c10, e, hc 0 _ rfl, by rw [← add_field _ _ 1 (by omega)]; exact hc 1 _ rfl, by rw [← add_field _ _ 2 (by omega)]; exact hc 2 _ rfl, by rw [← add_field _ _ 3 (by omega)]; exact hc 3 _ rfl, by rw [← add_field _ _ 4 (by omega)]; exact hc 4 _ rfl, by rw [← add_field _ _ 5 (by omega)]; exact hc 5 _ rfl, by rw [← add_field _ _ 6 (by omega)]; exact hc 6 _ rfl, by rw [← add_field _ _ 7 (by omega)]; exact hc 7 _ rfl, by rw [← add_field _ _ 8 (by omega)]; exact hc 8 _ rfl, by rw [← add_field _ _ 9 (by omega)]; exact hc 9 _ rfl, by rw [← add_field _ _ 10 (by omega)]; exact hc 10 _ rfl, l10, g10⟩

/-! #### struct type 46 -/
structure Cp where
  f0 : Bool
  f1 : Bool
  f2 : ByteArray
  f3 : ByteArray
def zCp : Cp := ⟨false, false, (⟨#[]⟩ : ByteArray), (⟨#[]⟩ : ByteArray)⟩
def kCp : Kd Cp := Kd.iso (Kd.pair Kd.bool (Kd.pair Kd.bool (Kd.pair Kd.string Kd.string))) (fun x : Cp => (x.f0, x.f1, x.f2, x.f3))
theorem kCp_open {w : World} {x : Cp} {cs : List Value} (h : kCp.K w x cs) : cs = [.bool x.f0, .bool x.f1, .string x.f2, .string x.f3] := by
  obtain ⟨_, _, rfl, rfl, ⟨_, _, rfl, rfl, ⟨_, _, rfl, rfl, rfl⟩⟩⟩ := h
  exact rfl
theorem kCp_openM {w : World} {base : Nat} {ok : Nat → Prop} {x : Cp} {cs : List Value} (h : kCp.M w base ok x cs) : cs = [.bool x.f0, .bool x.f1, .string x.f2, .string x.f3] := by
  obtain ⟨_, _, rfl, rfl, ⟨_, _, rfl, rfl, ⟨_, _, rfl, rfl, rfl⟩⟩⟩ := h
  exact rfl
theorem kCp_mk (w : World) (x : Cp)  : kCp.K w x [.bool x.f0, .bool x.f1, .string x.f2, .string x.f3] := ⟨[.bool x.f0], [.bool x.f1, .string x.f2, .string x.f3], rfl, rfl, ⟨[.bool x.f1], [.string x.f2, .string x.f3], rfl, rfl, ⟨[.string x.f2], [.string x.f3], rfl, rfl, rfl⟩⟩⟩
theorem kCp_mkM (w : World) (base : Nat) (ok : Nat → Prop) (x : Cp)  : kCp.M w base ok x [.bool x.f0, .bool x.f1, .string x.f2, .string x.f3] := ⟨[.bool x.f0], [.bool x.f1, .string x.f2, .string x.f3], rfl, rfl, ⟨[.bool x.f1], [.string x.f2, .string x.f3], rfl, rfl, ⟨[.string x.f2], [.string x.f3], rfl, rfl, rfl⟩⟩⟩
def rdCp (xs : List Cp) (i : Int) : Cp := xs.getD i.toNat zCp
theorem atCp {w : World} {A : Option Addr} {n : Nat} {xs : List Cp} (h : Kd.C kCp w A n xs) (i : Int) (h0 : 0 ≤ i) (h1 : i < n) : ∃ ad , A = some ad ∧ w.cell? (ad.add (i.toNat * 4)) = some (.bool (rdCp xs i).f0) ∧ w.cell? ⟨(ad.add (i.toNat * 4)).block, (ad.add (i.toNat * 4)).off + 1, none⟩ = some (.bool (rdCp xs i).f1) ∧ w.cell? ⟨(ad.add (i.toNat * 4)).block, (ad.add (i.toNat * 4)).off + 2, none⟩ = some (.string (rdCp xs i).f2) ∧ w.cell? ⟨(ad.add (i.toNat * 4)).block, (ad.add (i.toNat * 4)).off + 3, none⟩ = some (.string (rdCp xs i).f3) := by
  obtain ⟨ad, c, e, _, hK, hc0⟩ := Kd.C_get h zCp i h0 h1
  have hc : ∀ j u, c[j]? = some u → w.cell? (ad.add (i.toNat * 4 + j)) = some u := hc0
  obtain rfl := kCp_open hK
  exact ⟨ad, e, hc 0 _ rfl, by rw [← add_field _ _ 1 (by omega)]; exact hc 1 _ rfl, by rw [← add_field _ _ 2 (by omega)]; exact hc 2 _ rfl, by rw [← add_field _ _ 3 (by omega)]; exact hc 3 _ rfl⟩

def rd_L8 (xs : List (List Ex)) (i : Int) : (List Ex) := xs.getD i.toNat ([] : List Ex)
theorem at_L8 {w : World} {A : Option Addr} {n : Nat} {xs : List (List Ex)} (h : Kd.C (Kd.slice 31 kEx) w A n xs) (i : Int) (h0 : 0 ≤ i) (h1 : i < n) : ∃ ad A0 c0, A = some ad ∧ w.cell? (ad.add i.toNat) = some (.slice A0 (rd_L8 xs i).length c0) ∧ (rd_L8 xs i).length ≤ c0 ∧ kEx.C w A0 (rd_L8 xs i).length (rd_L8 xs i) := by
  obtain ⟨ad, c, e, _, hK, hc0⟩ := Kd.C_get h ([] : List Ex) i h0 h1
  have hc : ∀ j u, c[j]? = some u → w.cell? (ad.add (i.toNat * 1 + j)) = some u := hc0
  obtain ⟨A0, c0, rfl, l0, g0⟩ := hK
  exact ⟨ad, A0, c0, e, by have hq := hc 0 _ rfl; rwa [Nat.mul_one, Nat.add_zero] at hq, l0, g0⟩

/-! #### struct type 73 -/
structure Ng where
  f0 : ByteArray
  f1 : ByteArray
  f2 : (List Ex)
def zNg : Ng := ⟨(⟨#[]⟩ : ByteArray), (⟨#[]⟩ : ByteArray), ([] : List Ex)⟩
def kNg : Kd Ng := Kd.iso (Kd.pair Kd.string (Kd.pair Kd.string (Kd.slice 31 kEx))) (fun x : Ng => (x.f0, x.f1, x.f2))
theorem kNg_open {w : World} {x : Ng} {cs : List Value} (h : kNg.K w x cs) : ∃ A2 c2, cs = [.string x.f0, .string x.f1, .slice A2 x.f2.length c2] ∧ x.f2.length ≤ c2 ∧ kEx.C w A2 x.f2.length x.f2 := by
  obtain ⟨_, _, rfl, rfl, ⟨_, _, rfl, rfl, ⟨A2, c2, rfl, l2, g2⟩⟩⟩ := h
  exact ⟨A2, c2, rfl, l2, g2⟩
theorem kNg_openM {w : World} {base : Nat} {ok : Nat → Prop} {x : Ng} {cs : List Value} (h : kNg.M w base ok x cs) : ∃ v2, cs = [.string x.f0, .string x.f1, v2] ∧ kEx.R 31 w base ok v2 x.f2 := by
  obtain ⟨_, _, rfl, rfl, ⟨_, _, rfl, rfl, ⟨v2, rfl, g2⟩⟩⟩ := h
  exact ⟨v2, rfl, g2⟩
theorem kNg_mk (w : World) (x : Ng) {A2 : Option Addr} {c2 : Nat} (l2 : x.f2.length ≤ c2) (g2 : kEx.C w A2 x.f2.length x.f2) : kNg.K w x [.string x.f0, .string x.f1, .slice A2 x.f2.length c2] := ⟨[.string x.f0], [.string x.f1, .slice A2 x.f2.length c2], rfl, rfl, ⟨[.string x.f1], [.slice A2 x.f2.length c2], rfl, rfl, ⟨A2, c2, rfl, l2, g2⟩⟩⟩
theorem kNg_mkM (w : World) (base : Nat) (ok : Nat → Prop) (x : Ng) {v2 : Value} (g2 : kEx.R 31 w base ok v2 x.f2) : kNg.M w base ok x [.string x.f0, .string x.f1, v2] := ⟨[.string x.f0], [.string x.f1, v2], rfl, rfl, ⟨[.string x.f1], [v2], rfl, rfl, ⟨v2, rfl, g2⟩⟩⟩
def rdNg (xs : List Ng) (i : Int) : Ng := xs.getD i.toNat zNg
theorem atNg {w : World} {A : Option Addr} {n : Nat} {xs : List Ng} (h : Kd.C kNg w A n xs) (i : Int) (h0 : 0 ≤ i) (h1 : i < n) : ∃ ad A2 c2, A = some ad ∧ w.cell? (ad.add (i.toNat * 3)) = some (.string (rdNg xs i).f0) ∧ w.cell? ⟨(ad.add (i.toNat * 3)).block, (ad.add (i.toNat * 3)).off + 1, none⟩ = some (.string (rdNg xs i).f1) ∧ w.cell? ⟨(ad.add (i.toNat * 3)).block, (ad.add (i.toNat * 3)).off + 2, none⟩ = some (.slice A2 (rdNg xs i).f2.length c2) ∧ (rdNg xs i).f2.length ≤ c2 ∧ kEx.C w A2 (rdNg xs i).f2.length (rdNg xs i).f2 := by
  obtain ⟨ad, c, e, _, hK, hc0⟩ := Kd.C_get h zNg i h0 h1
  have hc : ∀ j u, c[j]? = some u → w.cell? (ad.add (i.toNat * 3 + j)) = some u := hc0
  obtain ⟨A2, c2, rfl, l2, g2⟩ := kNg_open hK
  exact ⟨ad, A2, c2, e, hc 0 _ rfl, by rw [← add_field _ _ 1 (by omega)]; exact hc 1 _ rfl, by rw [← add_field _ _ 2 (by omega)]; exact hc 2 _ rfl, l2, g2⟩

def rd_L10 (xs : List (List Ng)) (i : Int) : (List Ng) := xs.getD i.toNat ([] : List Ng)
theorem at_L10 {w : World} {A : Option Addr} {n : Nat} {xs : List (List Ng)} (h : Kd.C (Kd.slice 73 kNg) w A n xs) (i : Int) (h0 : 0 ≤ i) (h1 : i < n) : ∃ ad A0 c0, A = some ad ∧ w.cell? (ad.add i.toNat) = some (.slice A0 (rd_L10 xs i).length c0) ∧ (rd_L10 xs i).length ≤ c0 ∧ kNg.C w A0 (rd_L10 xs i).length (rd_L10 xs i) := by
  obtain ⟨ad, c, e, _, hK, hc0⟩ := Kd.C_get h ([] : List Ng) i h0 h1
  have hc : ∀ j u, c[j]? = some u → w.cell? (ad.add (i.toNat * 1 + j)) = some u := hc0
  obtain ⟨A0, c0, rfl, l0, g0⟩ := hK
  exact ⟨ad, A0, c0, e, by have hq := hc 0 _ rfl; rwa [Nat.mul_one, Nat.add_zero] at hq, l0, g0⟩

/-! #### struct type 71 -/
structure Sg where
  f0 : ByteArray
  f1 : ByteArray
  f2 : Bool
  f3 : (List Ng)
  f4 : (List Ex)
  f5 : (List Ex)
  f6 : (List Ex)
def zSg : Sg := ⟨(⟨#[]⟩ : ByteArray), (⟨#[]⟩ : ByteArray), false, ([] : List Ng), ([] : List Ex), ([] : List Ex), ([] : List Ex)⟩
def kSg : Kd Sg := Kd.iso (Kd.pair Kd.string (Kd.pair Kd.string (Kd.pair Kd.bool (Kd.pair (Kd.slice 73 kNg) (Kd.pair (Kd.slice 31 kEx) (Kd.pair (Kd.slice 31 kEx) (Kd.slice 31 kEx))))))) (fun x : Sg => (x.f0, x.f1, x.f2, x.f3, x.f4, x.f5, x.f6))
theorem kSg_open {w : World} {x : Sg} {cs : List Value} (h : kSg.K w x cs) : ∃ A3 c3 A4 c4 A5 c5 A6 c6, cs = [.string x.f0, .string x.f1, .bool x.f2, .slice A3 x.f3.length c3, .slice A4 x.f4.length c4, .slice A5 x.f5.length c5, .slice A6 x.f6.length c6] ∧ x.f3.length ≤ c3 ∧ kNg.C w A3 x.f3.length x.f3 ∧ x.f4.length ≤ c4 ∧ kEx.C w A4 x.f4.length x.f4 ∧ x.f5.length ≤ c5 ∧ kEx.C w A5 x.f5.length x.f5 ∧ x.f6.length ≤ c6 ∧ kEx.C w A6 x.f6.length x.f6 := by
  obtain ⟨_, _, rfl, rfl, ⟨_, _, rfl, rfl, ⟨_, _, rfl, rfl, ⟨_, _, rfl, ⟨A3, c3, rfl, l3, g3⟩, ⟨_, _, rfl, ⟨A4, c4, rfl, l4, g4⟩, ⟨_, _, rfl, ⟨A5, c5, rfl, l5, g5⟩, ⟨A6, c6, rfl, l6, g6⟩⟩⟩⟩⟩⟩⟩ := h
  exact ⟨A3, c3, A4, c4, A5, c5, A6, c6, rfl, l3, g3, l4, g4, l5, g5, l6, g6⟩
theorem kSg_openM {w : World} {base : Nat} {ok : Nat → Prop} {x : Sg} {cs : List Value} (h : kSg.M w base ok x cs) : ∃ v3 v4 v5 v6, cs = [.string x.f0, .string x.f1, .bool x.f2, v3, v4, v5, v6] ∧ kNg.R 73 w base ok v3 x.f3 ∧ kEx.R 31 w base ok v4 x.f4 ∧ kEx.R 31 w base ok v5 x.f5 ∧ kEx.R 31 w base ok v6 x.f6 := by
  obtain ⟨_, _, rfl, rfl, ⟨_, _, rfl, rfl, ⟨_, _, rfl, rfl, ⟨_, _, rfl, ⟨v3, rfl, g3⟩, ⟨_, _, rfl, ⟨v4, rfl, g4⟩, ⟨_, _, rfl, ⟨v5, rfl, g5⟩, ⟨v6, rfl, g6⟩⟩⟩⟩⟩⟩⟩ := h
  exact ⟨v3, v4, v5, v6, rfl, g3, g4, g5, g6⟩
theorem kSg_mk (w : World) (x : Sg) {A3 : Option Addr} {c3 : Nat} (l3 : x.f3.length ≤ c3) (g3 : kNg.C w A3 x.f3.length x.f3) {A4 : Option Addr} {c4 : Nat} (l4 : x.f4.length ≤ c4) (g4 : kEx.C w A4 x.f4.length x.f4) {A5 : Option Addr} {c5 : Nat} (l5 : x.f5.length ≤ c5) (g5 : kEx.C w A5 x.f5.length x.f5) {A6 : Option Addr} {c6 : Nat} (l6 : x.f6.length ≤ c6) (g6 : kEx.C w A6 x.f6.length x.f6) : kSg.K w x [.string x.f0, .string x.f1, .bool x.f2, .slice A3 x.f3.length c3, .slice A4 x.f4.length c4, .slice A5 x.f5.length c5, .slice A6 x.f6.length c6] := ⟨[.string x.f0], [.string x.f1, .bool x.f2, .slice A3 x.f3.length c3, .slice A4 x.f4.length c4, .slice A5 x.f5.length c5, .slice A6 x.f6.length c6], rfl, rfl, ⟨[.string x.f1], [.bool x.f2, .slice A3 x.f3.length c3, .slice A4 x.f4.length c4, .slice A5 x.f5.length c5, .slice A6 x.f6.length c6], rfl, rfl, ⟨[.bool x.f2], [.slice A3 x.f3.length c3, .slice A4 x.f4.length c4, .slice A5 x.f5.length c5, .slice A6 x.f6.length c6], rfl, rfl, ⟨[.slice A3 x.f3.length c3], [.slice A4 x.f4.length c4, .slice A5 x.f5.length c5, .slice A6 x.f6.length c6], rfl, ⟨A3, c3, rfl, l3, g3⟩, ⟨[.slice A4 x.f4.length c4], [.slice A5 x.f5.length c5, .slice A6 x.f6.length c6], rfl, ⟨A4, c4, rfl, l4, g4⟩, ⟨[.slice A5 x.f5.length c5], [.slice A6 x.f6.length c6], rfl, ⟨A5, c5, rfl, l5, g5⟩, ⟨A6, c6, rfl, l6, g6⟩⟩⟩⟩⟩⟩⟩
theorem kSg_mkM (w : World) (base : Nat) (ok : Nat → Prop) (x : Sg) {v3 : Value} (g3 : kNg.R 73 w base ok v3 x.f3) {v4 : Value} (g4 : kEx.R 31 w base ok v4 x.f4) {v5 : Value} (g5 : kEx.R 31 w base ok v5 x.f5) {v6 : Value} (g6 : kEx.R 31 w base ok v6 x.f6) : kSg.M w base ok x [.string x.f0, .string x.f1, .bool x.f2, v3, v4, v5, v6] := ⟨[.string x.f0], [.string x.f1, .bool x.f2, v3, v4, v5, v6], rfl, rfl, ⟨[.string x.f1], [.bool x.f2, v3, v4, v5, v6], rfl, rfl, ⟨[.bool x.f2], [v3, v4, v5, v6], rfl, rfl, ⟨[v3], [v4, v5, v6], rfl, ⟨v3, rfl, g3⟩, ⟨[v4], [v5, v6], rfl, ⟨v4, rfl, g4⟩, ⟨[v5], [v6], rfl, ⟨v5, rfl, g5⟩, ⟨v6, rfl, g6⟩⟩⟩⟩⟩⟩⟩
def rdSg (xs : List Sg) (i : Int) : Sg := xs.getD i.toNat zSg
theorem atSg {w : World} {A : Option Addr} {n : Nat} {xs : List Sg} (h : Kd.C kSg w A n xs) (i : Int) (h0 : 0 ≤ i) (h1 : i < n) : ∃ ad A3 c3 A4 c4 A5 c5 A6 c6, A = some ad ∧ w.cell? (ad.add (i.toNat * 7)) = some (.string (rdSg xs i).f0) ∧ w.cell? ⟨(ad.add (i.toNat * 7)).block, (ad.add (i.toNat * 7)).off + 1, none⟩ = some (.string (rdSg xs i).f1) ∧ w.cell? ⟨(ad.add (i.toNat * 7)).block, (ad.add (i.toNat * 7)).off + 2, none⟩ = some (.bool (rdSg xs i).f2) ∧ w.cell? ⟨(ad.add (i.toNat * 7)).block, (ad.add (i.toNat * 7)).off + 3, none⟩ = some (.slice A3 (rdSg xs i).f3.length c3) ∧ w.cell? ⟨(ad.add (i.toNat * 7)).block, (ad.add (i.toNat * 7)).off + 4, none⟩ = some (.slice A4 (rdSg xs i).f4.length c4) ∧ w.cell? ⟨(ad.add (i.toNat * 7)).block, (ad.add (i.toNat * 7)).off + 5, none⟩ = some (.slice A5 (rdSg xs i).f5.length c5) ∧ w.cell? ⟨(ad.add (i.toNat * 7)).block, (ad.add (i.toNat * 7)).off + 6, none⟩ = some (.slice A6 (rdSg xs i).f6.length c6) ∧ (rdSg xs i).f3.length ≤ c3 ∧ kNg.C w A3 (rdSg xs i).f3.length (rdSg xs i).f3 ∧ (rdSg xs i).f4.length ≤ c4 ∧ kEx.C w A4 (rdSg xs i).f4.length (rdSg xs i).f4 ∧ (rdSg xs i).f5.length ≤ c5 ∧ kEx.C w A5 (rdSg xs i).f5.length (rdSg xs i).f5 ∧ (rdSg xs i).f6.length ≤ c6 ∧ kEx.C w A6 (rdSg xs i).f6.length (rdSg xs i).f6 := by
  obtain ⟨ad, c, e, _, hK, hc0⟩ := Kd.C_get h zSg i h0 h1
  have hc : ∀ j u, c[j]? = some u → w.cell? (ad.add (i.toNat * 7 + j)) = some u := hc0
  obtain ⟨A3, c3, A4, c4, A5, c5, A6, c6, rfl, l3, g3, l4, g4, l5, g5, l6, g6⟩ := kSg_open hK
  exact ⟨ad, A3, c3, A4, c4, A5, c5, A6, c6, e, hc 0 _ rfl, by rw [← add_field _ _ 1 (by omega)]; exact hc 1 _ rfl, by rw [← add_field _ _ 2 (by omega)]; exact hc 2 _ rfl, by rw [← add_field _ _ 3 (by omega)]; exact hc 3 _ rfl, by rw [← add_field _ _ 4 (by omega)]; exact hc 4 _ rfl, by rw [← add_field _ _ 5 (by omega)]; exact hc 5 _ rfl, by rw [← add_field _ _ 6 (by omega)]; exact hc 6 _ rfl, l3, g3, l4, g4, l5, g5, l6, g6⟩

def rd_L13 (xs : List (List Sg)) (i : Int) : (List Sg) := xs.getD i.toNat ([] : List Sg)
theorem at_L13 {w : World} {A : Option Addr} {n : Nat} {xs : List (List Sg)} (h : Kd.C (Kd.slice 71 kSg) w A n xs) (i : Int) (h0 : 0 ≤ i) (h1 : i < n) : ∃ ad A0 c0, A = some ad ∧ w.cell? (ad.add i.toNat) = some (.slice A0 (rd_L13 xs i).length c0) ∧ (rd_L13 xs i).length ≤ c0 ∧ kSg.C w A0 (rd_L13 xs i).length (rd_L13 xs i) := by
  obtain ⟨ad, c, e, _, hK, hc0⟩ := Kd.C_get h ([] : List Sg) i h0 h1
  have hc : ∀ j u, c[j]? = some u → w.cell? (ad.add (i.toNat * 1 + j)) = some u := hc0
  obtain ⟨A0, c0, rfl, l0, g0⟩ := hK
  exact ⟨ad, A0, c0, e, by have hq := hc 0 _ rfl; rwa [Nat.mul_one, Nat.add_zero] at hq, l0, g0⟩


end Go.Proofs.Ytgnifglolbfamaa

/- The walk of tree.spoken: the references and functions of an expression. -/
set_option linter.unusedVariables false
set_option linter.unusedSimpArgs false
namespace Go.Proofs.Ytgnifglolbfamaa
open Go.RowKit Go.Proofs.YtgnifglolbfamaaW.PrintWords

/-- An expression's cells, its Kids' slice as it is. -/
def cells10 (x : Ex) (v : Value) : List Value := [.int .i64 x.f0, .int .i64 x.f1, .int .i64 x.f2.f0, .int .i64 x.f2.f1, .string x.f2.f2, .bool x.f2.f3, .string x.f3, .int .i64 x.f4, .string x.f5, v]
def SpR (x : Ex) (cs : List Value) : Prop := ∃ A n c, cs = cells10 x (.slice A n c)
def kSp : Kd Ex where
  sz := 10
  E := []
  K _ x cs := SpR x cs
  M _ _ _ x cs := SpR x cs
  K_len := by rintro _ _ _ ⟨A, n, c, rfl⟩; rfl
  K_one := by rintro _ _ _ ⟨A, n, c, rfl⟩ u hu; simp [cells10] at hu; rcases hu with rfl | rfl | rfl | rfl | rfl | rfl | rfl | rfl | rfl | rfl <;> rfl
  K_below := fun _ h => h
  K_of_M := fun h => h
  M_mono := fun _ h => h
  M_bound := fun h => h
  M_move := fun _ h => h
  M_lower := fun _ h => h

mutual
def spk : Ex → List Ex
  | ⟨k, o, v, vr, at_, attr, kids⟩ => if k = 1 then [] else if k = 2 ∨ k = 3 then [⟨k, o, v, vr, at_, attr, kids⟩] else spkL kids
def spkL : List Ex → List Ex
  | [] => []
  | x :: xs => spk x ++ spkL xs
end
mutual
def exN : Ex → Nat
  | ⟨_, _, _, _, _, _, kids⟩ => exNL kids + 1
def exNL : List Ex → Nat
  | [] => 0
  | x :: xs => exN x + exNL xs
end
theorem spk_eq (x : Ex) : spk x = if x.f0 = 1 then [] else if x.f0 = 2 ∨ x.f0 = 3 then [x] else spkL x.f6 := by cases x; simp only [spk]
theorem exN_eq (x : Ex) : exN x = exNL x.f6 + 1 := by cases x; simp only [exN]
theorem spkL_append : ∀ (a b : List Ex), spkL (a ++ b) = spkL a ++ spkL b
  | [], b => by simp [spkL]
  | x :: a, b => by simp only [List.cons_append, spkL, spkL_append a b, List.append_assoc]
theorem exNL_append : ∀ (a b : List Ex), exNL (a ++ b) = exNL a + exNL b
  | [], b => by simp [exNL]
  | x :: a, b => by simp only [List.cons_append, exNL, exNL_append a b]; omega
mutual
theorem spk_len : ∀ x : Ex, (spk x).length ≤ exN x
  | ⟨k, o, v, vr, at_, attr, kids⟩ => by
    have := spkL_len kids
    simp only [spk, exN]
    split
    · simp
    · split
      · simp
      · omega
theorem spkL_len : ∀ xs : List Ex, (spkL xs).length ≤ exNL xs
  | [] => by simp [spkL, exNL]
  | x :: xs => by have := spk_len x; have := spkL_len xs; simp only [spkL, exNL, List.length_append]; omega
end
theorem spkL_take (l : List Ex) (k : Nat) (h : k < l.length) : spkL (l.take (k + 1)) = spkL (l.take k) ++ spk l[k] := by
  rw [List.take_succ_eq_append_getElem h, spkL_append]
  simp [spkL]
theorem exNL_take (l : List Ex) (k : Nat) : exNL (l.take k) ≤ exNL l := by
  conv => rhs; rw [← List.take_append_drop k l, exNL_append]
  omega
theorem exN_get (l : List Ex) (k : Nat) (h : k < l.length) : exN l[k] ≤ exNL l := by
  have := exNL_take l (k + 1)
  rw [List.take_succ_eq_append_getElem h, exNL_append] at this
  simp [exNL] at this
  omega
theorem rdEx_get (l : List Ex) (k : Nat) (h : k < l.length) : rdEx l (k : Int) = l[k] := by
  simp [rdEx, List.getD_eq_getElem?_getD, List.getElem?_eq_getElem h]

/-- An expression as it is handed over. -/
def exV (x : Ex) (v : Value) : Value := .agg #[.int .i64 x.f0, .int .i64 x.f1, .int .i64 x.f2.f0, .int .i64 x.f2.f1, .string x.f2.f2, .bool x.f2.f3, .string x.f3, .int .i64 x.f4, .string x.f5, v]
def SpPost (L : List Ex) (w : World) (e : Ending) (w' : World) : Prop := Below w.heap.size w w' ∧ ∃ v, e = .returned v ∧ kSp.R 31 w' w.heap.size (fun _ => True) v L

theorem below_new (w : World) (o : Obj) : Below w.heap.size w (w.alloc o) := (Below.refl _ _).alloc (Nat.le_refl _) o
theorem alloc_size' (w : World) (o : Obj) : (w.alloc o).heap.size = w.heap.size + 1 := by simp
theorem R_lit1 (W : World) (g : Nat) (base : Nat) (x : Ex) (A : Option Addr) (n c : Nat) (hb : base ≤ W.heap.size) (hg : g = W.heap.size) :
    kSp.R 31 (W.alloc (.cells (cells10 x (.slice A n c)).toArray 31)) base (fun _ => True) (.slice (some ⟨g, 0, none⟩) 1 1) [x] := by
  subst hg
  refine ⟨fun _ _ => trivial, ?_⟩
  have hr : Reps (fun (x : Ex) (cs : List Value) => SpR x cs) 10 [x] (cells10 x (.slice A n c)) :=
    Reps.snoc (Reps.none _ _) ⟨A, n, c, rfl⟩ rfl
  exact OwnRow.lit W base hr hb (by simp)

set_option maxHeartbeats 2000000 in
set_option maxRecDepth 100000 in
theorem spoken_any : ∀ (m : Nat) (x : Ex) (A : Option Addr) (c : Nat) (w : World), exN x ≤ m → exN x ≤ 100000000000 → x.f6.length ≤ c → kEx.C w A x.f6.length x.f6 →
    Calls Try.prog 40 #[exV x (.slice A x.f6.length c)] w (SpPost (spk x) w) := by
  intro m
  induction m with
  | zero => intro x A c w h; rw [exN_eq] at h; omega
  | succ m ih =>
    intro x A c w hm hN hc hC
    have hS := spk_eq x
    generalize spk x = L at *
    rw [exN_eq] at hm hN
    by_cases h1 : x.f0 = 1
    · rw [if_pos h1] at hS
      subst hS
      have d1 : (x.f0 == 1) = true := by simpa using h1
      unfold exV
      go_enter Try.func40, Try.ntmps40
      go_wp2_with fail
      go_ret
      exact ⟨by first | exact below_alloc' _ | exact Below.refl _ _ | exact (Below.refl _ _).alloc (Nat.le_refl _) _, _, rfl, Kd.R_nil _ _ _ _ _⟩
    · rw [if_neg h1] at hS
      have d1 : (x.f0 == 1) = false := by simpa using h1
      by_cases h2 : x.f0 = 2 ∨ x.f0 = 3
      · rw [if_pos h2] at hS
        subst hS
        have hcase : (∃ u : Unit, (x.f0 == 2) = true) ∨ ((x.f0 == 2) = false ∧ (x.f0 == 3) = true) := by
          by_cases h : x.f0 = 2
          · exact Or.inl ⟨(), by simpa using h⟩
          · exact Or.inr ⟨by simpa using h, by simpa using h2.resolve_left h⟩
        clear h1 h2
        unfold exV
        rcases hcase with ⟨_, d2⟩ | ⟨d2, d3⟩
        all_goals
          go_enter Try.func40, Try.ntmps40
          go_wp2_with fail
          go_ret
          exact ⟨below_step (below_new _ _) (below_new _ _), _, rfl, R_lit1 (w.alloc _) _ w.heap.size x _ _ _ (below_new _ _).size (alloc_size' _ _).symm⟩
      · rw [if_neg h2] at hS
        have d2 : (x.f0 == 2) = false := by simp; omega
        have d3 : (x.f0 == 3) = false := by simp; omega
        have HS := Lib.hid hS
        have hmx := hC.2.1
        have HC := Lib.hid hC
        clear h1 h2 hS hC
        unfold exV
        go_enter Try.func40, Try.ntmps40
        go_wp2_with fail
        go_loopw [3, 18] (fun t3 t18 wr => ∃ k : Nat, k ≤ x.f6.length ∧ t18 = .int .i64 k ∧ Below w.heap.size w wr ∧ Hid (kSp.R 31 wr w.heap.size (fun _ => True) t3 (spkL (x.f6.take k)))) (fun _ t18 _ => x.f6.length - (intOf t18).toNat)
        case atStart => exact ⟨0, by omega, rfl, below_new _ _, Lib.hid (Kd.R_nil _ _ _ _ _)⟩
        case round =>
          obtain ⟨k, hk, rfl, hB, hO⟩ := hrel
          have hsz := hB.size
          by_cases hlt : k < x.f6.length
          · have i1 : (0 : Int) ≤ (k : Int) := by omega
            have i2 : (k : Int) < x.f6.length := by omega
            have hat := atEx HC.out k i1 i2
            simp only [Int.toNat_natCast] at hat
            obtain ⟨ad, B9, b9, rfl, e0, e1, e2, e3, e4, e5, e6, e7, e8, e9, hl9, hi9⟩ := hat
            have e0 := pw_cell_below hB e0
            have e1 := pw_cell_below hB e1
            have e2 := pw_cell_below hB e2
            have e3 := pw_cell_below hB e3
            have e4 := pw_cell_below hB e4
            have e5 := pw_cell_below hB e5
            have e6 := pw_cell_below hB e6
            have e7 := pw_cell_below hB e7
            have e8 := pw_cell_below hB e8
            have e9 := pw_cell_below hB e9
            have HR := Lib.hid (rdEx_get x.f6 k hlt)
            generalize rdEx x.f6 k = y at *
            have HL := Lib.hid hl9
            have HI := Lib.hid hi9
            clear hl9 hi9
            go_wp2_with fail
            have hyN : exN y ≤ exNL x.f6 := by rw [HR.out]; exact exN_get _ _ hlt
            have hT := spkL_len (x.f6.take k)
            have hT2 := exNL_take x.f6 k
            have hT3 := spk_len y
            have HT := Lib.hid (spkL_take x.f6 k hlt)
            rw [← HR.out] at HT
            generalize hxs : spkL (x.f6.take k) = xs at *
            have hle : (xs.length + (spk y).length) * 120 ≤ 140737488355328 := by omega
            refine (ih y B9 b9 _ (by omega) (by omega) HL.out (Kd.C_below (Kd.C_below HI.out hB) (below_new _ _))).mono ?_
            rintro e W1 ⟨hb1, v1, rfl, hr1⟩
            have hO1 := Kd.R_below (Kd.R_below hO.out (below_new _ _)) hb1
            have hB1 := below_step (below_step hB (below_new _ _)) hb1
            obtain ⟨A1, c1, rfl, hc1, hC1⟩ := Kd.R_reads hr1
            have hO := Lib.hid hO1
            have HC1 := Lib.hid hC1
            clear hO1 hC1 hr1 hb1 hyN hT hT2 hT3 hxs
            go_wp2_with (at_builtin; go_must (refine Kd.R_append_rows kSp (Rr := SpR) (w0 := w) (W := W1) w.heap.size (by rfl) _ _ 24 31 _ 120 (by rfl) Try.underlying24 infoEx (by rfl) (by decide) (by omega) u3 xs (spk y) A1 _ _ (fun _ => True) (fun _ => False) (by rfl) (by rfl) hO.out HC1.out (fun _ _ h => h) (fun _ h => h.elim) (fun _ _ => trivial) hB1 hB1.size hle ?_))
            intro v2 w2 hR2 hB2 _ _
            go_wp2_with fail
            go_roundw
            case rel => exact ⟨k + 1, by omega, by go_num, hB2, Lib.hid (by rw [HT.out]; exact hR2)⟩
            case measure => simp [intOf]; omega
          · go_wp2_with fail
            go_ret
            have h := hO.out
            rw [List.take_of_length_le (by omega), ← HS.out] at h
            exact ⟨hB, _, rfl, h⟩
end Go.Proofs.Ytgnifglolbfamaa
