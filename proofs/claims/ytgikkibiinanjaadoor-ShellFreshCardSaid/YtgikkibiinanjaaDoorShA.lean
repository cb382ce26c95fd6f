/- The walk of shell.escaped: what stands behind a backslash. -/
import Derived.Test.YtgikkibiinanjaaDoorRows
import Derived.WalkKit
import Derived.WalkSpells
import Derived.WalkLawsBesides
import Derived.Deep.QuietTactic
import Derived.BigQuiet
import Derived.Lib.Hide
import Derived.Test.YtgikkibiinanjaaDoorShelf
import Derived.Test.YtgikkibiinanjaaDoorShW
set_option linter.unusedVariables false
set_option linter.unusedSimpArgs false
namespace Go.Proofs.YtgikkibiinanjaaDoor
open Go.RowKit

/-- the value of a digit, as strings.IndexByte tells it in "0123456789abcdef". -/
def hexv (c : UInt8) : Int := if 48 ≤ c.toNat ∧ c.toNat ≤ 57 then (c.toNat : Int) - 48 else if 97 ≤ c.toNat ∧ c.toNat ≤ 102 then (c.toNat : Int) - 87 else -1

def esc : List UInt8 → Int × Int
  | [] => (0, 0)
  | c :: r =>
    if c.toNat = 34 then ((c.toNat : Int), 1)
    else if c.toNat = 92 then ((c.toNat : Int), 1)
    else if c.toNat = 110 then (10, 1)
    else if c.toNat = 116 then (9, 1)
    else if c.toNat = 120 then
      match r with
      | h :: l :: _ => if 0 ≤ hexv h ∧ 0 ≤ hexv l then (16 * hexv h + hexv l, 3) else (0, 0)
      | _ => (0, 0)
    else (0, 0)

theorem hexv_all : ∀ c : UInt8, Lib.indexByte [48, 49, 50, 51, 52, 53, 54, 55, 56, 57, 97, 98, 99, 100, 101, 102] c = hexv c := by
  intro c
  have : ∀ n : Fin 256, Lib.indexByte [48, 49, 50, 51, 52, 53, 54, 55, 56, 57, 97, 98, 99, 100, 101, 102] (UInt8.ofNat n.1) = hexv (UInt8.ofNat n.1) := by decide +kernel
  have h := this ⟨c.toNat, c.toNat_lt⟩
  simpa using h

theorem index_digit (s : ByteArray) (i : Nat) (h : i < s.size) (w : World) :
    Calls Tryd.prog 24 #[.string ⟨#[48, 49, 50, 51, 52, 53, 54, 55, 56, 57, 97, 98, 99, 100, 101, 102]⟩, .int .u8 (s[i].toNat : Int)] w fun e w' => e = .returned (.int .i64 (hexv s[i])) ∧ w' = w := by
  have := Tryd.strings_IndexByte ⟨#[48, 49, 50, 51, 52, 53, 54, 55, 56, 57, 97, 98, 99, 100, 101, 102]⟩ (s[i].toNat : Int) w
  simpa [hexv_all] using this

theorem hexv_bd (c : UInt8) : -1 ≤ hexv c ∧ hexv c ≤ 15 := by unfold hexv; split <;> (try split) <;> omega

theorem cons_facts {s : ByteArray} {c : UInt8} {r : List UInt8} (hl : s.data.toList = c :: r) : s.toList.isEmpty = false ∧ s.size = r.length + 1 ∧ ∀ h : 0 < s.size, s[0] = c := by
  have z : s.size = r.length + 1 := by
    have : s.size = s.data.toList.length := by rw [Array.length_toList]; rfl
    rw [this, hl]; rfl
  refine ⟨by rw [Lib.toList_data, hl]; rfl, z, fun h => ?_⟩
  have : s[0] = s.data.toList[0]'(by rw [hl]; simp) := rfl
  rw [this]; simp [hl]
theorem get_list (s : ByteArray) (i : Nat) (h : i < s.size) : ∃ h', s[i] = s.data.toList[i]'h' := ⟨by rw [Array.length_toList]; exact h, rfl⟩
theorem two_more {s : ByteArray} {c : UInt8} {r : List UInt8} (hl : s.data.toList = c :: r) (h1 : s.size = r.length + 1) (hz : 3 ≤ s.size) : ∃ rr, r = s[1] :: s[2] :: rr := by
  obtain ⟨g1, e1⟩ := get_list s 1 (by omega)
  obtain ⟨g2, e2⟩ := get_list s 2 (by omega)
  rw [e1, e2]
  match r, h1 with
  | a :: b :: rr, _ => exact ⟨rr, by simp [hl]⟩
  | [], h => simp at h; omega
  | [_], h => simp at h; omega
theorem ret2 {a b c d : Value} (h1 : a = c) (h2 : b = d) : Ending.returned (.tuple #[a, b]) = Ending.returned (.tuple #[c, d]) := by rw [h1, h2]
theorem vint {k : IntKind} {a b : Int} (h : a = b) : Value.int k a = Value.int k b := by rw [h]
theorem hex_or (a b : Int) (h : 0 ≤ a) (h1 : a ≤ 15) (g : 0 ≤ b) (g1 : b ≤ 15) : bits BinOp.or IntKind.i64 (a * 16) b % 256 = 16 * a + b := by
  have : ∀ a b : Fin 16, bits BinOp.or IntKind.i64 ((a.1 : Int) * 16) b.1 % 256 = 16 * a.1 + b.1 := by decide +kernel
  have := this ⟨a.toNat, by omega⟩ ⟨b.toNat, by omega⟩
  simpa [Int.toNat_of_nonneg h, Int.toNat_of_nonneg g] using this

set_option maxHeartbeats 400000 in
theorem escaped_any (s : ByteArray) (w : World) :
    Calls Tryd.prog 20 #[.string s] w fun e w' => e = .returned (.tuple #[.int .u8 (esc s.data.toList).1, .int .i64 (esc s.data.toList).2]) ∧ ∃ n, w' = w.drewN n := by
  rcases hl : s.data.toList with _ | ⟨c, r⟩
  · have h0 : s.toList.isEmpty = true := by rw [Lib.toList_data, hl]; rfl
    go_enter Tryd.func20, Tryd.ntmps20
    go_wp2_with fail
    go_ret2
    exact ⟨rfl, 0, rfl⟩
  · obtain ⟨h0, h1, h2⟩ := cons_facts hl
    have h1' : 0 < s.size := by omega
    have h2 : s[0].toNat = c.toNat := by rw [h2 h1']
    have HL := Lib.hid hl
    have H1 := Lib.hid h1
    clear hl h1
    by_cases hx : c.toNat = 120 ∧ 3 ≤ s.size
    · obtain ⟨hx, hz⟩ := hx
      obtain ⟨rr, hr⟩ := two_more HL.out H1.out hz
      have hz' : (3 : Int) ≤ s.size := by omega
      have i1 : 1 < s.size := by omega
      have i2 : 2 < s.size := by omega
      have j1 : (1 : Int) < s.size := by omega
      have j2 : (2 : Int) < s.size := by omega
      have b1 := hexv_bd s[1]
      have b2 := hexv_bd s[2]
      have HR := Lib.hid hr
      clear hr
      have HX := Lib.hid hx
      have e1 : ((c.toNat : Int) == 34) = false := by rw [hx]; rfl
      have e2 : ((c.toNat : Int) == 92) = false := by rw [hx]; rfl
      have e3 : ((c.toNat : Int) == 110) = false := by rw [hx]; rfl
      have e4 : ((c.toNat : Int) == 116) = false := by rw [hx]; rfl
      have e5 : ((c.toNat : Int) == 120) = true := by rw [hx]; rfl
      clear hx
      go_enter Tryd.func20, Tryd.ntmps20
      go_wp2_with fail
      go_quiet ((first | (go_at_call 24; with_reducible exact Calls.quiet_of_same (index_digit s 1 i1 _)) | (go_at_call 24; with_reducible exact Calls.quiet_of_same (index_digit s 2 i2 _))))
      all_goals go_wp2_with fail
      all_goals go_ret2
      all_goals rw [HR.out]
      all_goals have hX := HX.out
      all_goals refine ⟨ret2 (vint ?_) (vint ?_), _, rfl⟩
      all_goals simp only [esc, hX]
      all_goals simp
      · rw [if_pos ⟨‹_›, ‹_›⟩]; exact hex_or _ _ ‹_› b1.2 ‹_› b2.2
      · rw [if_pos ⟨‹_›, ‹_›⟩]
      all_goals rw [if_neg (by omega)]
    · go_enter Tryd.func20, Tryd.ntmps20
      go_wp2_with fail
      all_goals try (exfalso; simp only [beq_iff_eq] at *; omega)
      all_goals go_ret2
      all_goals refine ⟨ret2 (vint ?_) (vint ?_), 0, rfl⟩
      all_goals simp only [beq_iff_eq, beq_eq_false_iff_ne, ne_eq] at *
      all_goals simp only [esc]
      all_goals repeat' split
      all_goals have hz := H1.out
      all_goals first
        | rfl
        | omega
        | (simp only [List.length_cons] at hz; omega)
end Go.Proofs.YtgikkibiinanjaaDoor
