/- The walk of shell.quoted: a word behind its opening quote. -/
import Derived.Test.YtgikkibiinanjaaDoorShA
import Derived.Deep.RegionHeld3
import Derived.Deep.DrawnRows
set_option linter.unusedVariables false
set_option linter.unusedSimpArgs false
namespace Go.Proofs.YtgikkibiinanjaaDoor
open Go.RowKit
attribute [local go_sem ↓] Go.wp_at_zero Go.wp_at_succ

/-- A quoted word's bytes and what stands behind its closing quote. -/
def qread : Nat → List UInt8 → List UInt8 → Option (List UInt8 × List UInt8)
  | 0, _, _ => none
  | _ + 1, _, [] => none
  | f + 1, acc, c :: r =>
    if c.toNat = 34 then (match r with | [] => some (acc, []) | d :: _ => if d.toNat = 32 then some (acc, r) else none)
    else if c.toNat = 92 then (if (esc r).2 = 0 then none else qread f (acc ++ [(esc r).1.toNat.toUInt8]) (r.drop (esc r).2.toNat))
    else qread f (acc ++ [c]) r

def QPost (n : Nat) (o : Option (List UInt8 × List UInt8)) (w : World) (e : Ending) (w' : World) : Prop :=
  Below w.heap.size w w' ∧
  match o with
  | some (wd, rest) => e = .returned (.tuple #[.string ⟨wd.toArray⟩, .int .i64 ((n : Int) - rest.length), .bool true])
  | none => ∃ s k, e = .returned (.tuple #[.string s, .int .i64 k, .bool false])

theorem drop_cons (s : ByteArray) (k : Nat) (h : k < s.size) : s.data.toList.drop k = s[k] :: s.data.toList.drop (k + 1) := by
  obtain ⟨h', e⟩ := get_list s k h
  rw [e, List.drop_eq_getElem_cons h']
theorem drop_none (s : ByteArray) (k : Nat) (h : s.size ≤ k) : s.data.toList.drop k = [] := List.drop_eq_nil_of_le (by rw [Array.length_toList]; exact h)
theorem drop_len (s : ByteArray) (k : Nat) : (s.data.toList.drop k).length = s.size - k := by rw [List.length_drop, Array.length_toList]; rfl
theorem ret3 {a b c d a' b' : Value} (h1 : a = c) (h2 : b = d) (h3 : a' = b') : Ending.returned (.tuple #[a, b, a']) = Ending.returned (.tuple #[c, d, b']) := by rw [h1, h2, h3]
theorem esc_bd (l : List UInt8) : 0 ≤ (esc l).1 ∧ (esc l).1 ≤ 255 ∧ 0 ≤ (esc l).2 ∧ (esc l).2 ≤ l.length := by
  unfold esc
  split
  · simp
  · rename_i c r
    have := c.toNat_lt
    repeat' split
    all_goals first
      | (simp; omega)
      | skip
    · rename_i h l r' hh
      have := hexv_bd h
      have := hexv_bd l
      simp
      omega
theorem qread_size : ∀ (f : Nat) (acc l : List UInt8) (wd rest : List UInt8), qread f acc l = some (wd, rest) → wd.length + rest.length + 1 ≤ acc.length + l.length ∧ ∃ p, l = p ++ rest := by
  intro f
  induction f with
  | zero => intro acc l wd rest h; simp [qread] at h
  | succ f ih =>
    intro acc l wd rest h
    match l with
    | [] => simp [qread] at h
    | c :: r =>
      simp only [qread] at h
      split at h
      · match r, h with
        | [], h => obtain ⟨rfl, rfl⟩ := by simpa using h
                   exact ⟨by simp, [c], rfl⟩
        | d :: r', h =>
          by_cases hd : d.toNat = 32
          · simp only [if_pos hd] at h
            obtain ⟨rfl, rfl⟩ := by simpa using h
            exact ⟨by simp; omega, [c], rfl⟩
          · simp [hd] at h
      · split at h
        · split at h
          · simp at h
          · obtain ⟨h1, p, hp⟩ := ih _ _ _ _ h
            have hb := esc_bd r
            refine ⟨by simp at h1 ⊢; omega, c :: r.take (esc r).2.toNat ++ p, ?_⟩
            simp only [List.cons_append, List.append_assoc, ← hp, List.take_append_drop]
        · obtain ⟨h1, p, hp⟩ := ih _ _ _ _ h
          exact ⟨by simp at h1 ⊢; omega, c :: p, by rw [hp]; rfl⟩

theorem extract_list (s : ByteArray) (k : Nat) : (s.extract k s.size).data.toList = s.data.toList.drop k := by
  rw [Lib.extract_to_end]
theorem byteCells_snoc' (l : List UInt8) (c : Int) (h : 0 ≤ c) (h1 : c ≤ 255) : Lib.byteCells (l ++ [c.toNat.toUInt8]) = Lib.byteCells l ++ [Value.int .u8 c] := by
  obtain ⟨n, rfl⟩ := Int.eq_ofNat_of_zero_le h
  rw [Lib.byteCells_append, Lib.byteCells, Lib.byteCells]
  simp
  omega
/-- More rounds than bytes give the same. -/
theorem qread_fuel : ∀ (f g : Nat) (acc l : List UInt8), l.length < f → l.length < g → qread f acc l = qread g acc l := by
  intro f
  induction f with
  | zero => intro g acc l h; omega
  | succ f ih =>
    intro g acc l h h'
    obtain ⟨g, rfl⟩ : ∃ m, g = m + 1 := ⟨g - 1, by omega⟩
    match l with
    | [] => rfl
    | c :: r =>
      simp only [qread]
      simp only [List.length_cons] at h h'
      rw [ih g (acc ++ [c]) r (by omega) (by omega), ih g _ (r.drop (esc r).2.toNat) (by simp; omega) (by simp; omega)]

set_option maxHeartbeats 1000000 in
theorem quoted_any (s : ByteArray) (k0 : Nat) (w : World) (hs : s.size ≤ 1000000) (hk : k0 ≤ s.size) :
    Calls Tryd.prog 13 #[.string s, .int .i64 k0] w (QPost s.size (qread (s.size + 1 - k0) [] (s.data.toList.drop k0)) w) := by
  go_enter Tryd.func13, Tryd.ntmps13
  go_wp2_with fail
  go_loopw [1] (fun t1 wr => ∃ (k : Nat) (acc : List UInt8), k ≤ s.size ∧ acc.length ≤ k ∧ t1 = .int .i64 k ∧ Lib.IsBuilder 43 5 w.heap.size w.heap.size (Lib.byteCells acc) wr ∧ Below w.heap.size w wr ∧
      Hid (qread (s.size + 1 - k) acc (s.data.toList.drop k) = qread (s.size + 1 - k0) [] (s.data.toList.drop k0))) (fun t1 wr => s.size - (intOf t1).toNat)
  case atStart => exact ⟨k0, [], hk, by simp, rfl, Lib.fresh_isBuilder 43 5 w, (Below.refl _ _).alloc (Nat.le_refl _) _, Lib.hid rfl⟩
  case round =>
    obtain ⟨k, acc, hk1, ha, rfl, hI, hB, hq⟩ := hrel
    have hsz := hB.size
    have hd' : ∀ {w' : World}, Below w.heap.size wr.drew w' → Below w.heap.size wr w' := fun h => ((Below.refl _ wr).drew).trans h
    by_cases hlt : k < s.size
    · have hr := Lib.hid (drop_cons s k hlt)
      obtain ⟨f, hf0⟩ : ∃ f, s.size + 1 - k = f + 1 := ⟨s.size - k, by omega⟩
      have hf := Lib.hid hf0
      clear hf0
      by_cases h34 : s[k].toNat = 34
      · have e1 : ((s[k].toNat : Int) == 34) = true := by rw [h34]; rfl
        have H34 := Lib.hid h34
        by_cases hend : k + 1 = s.size
        · have d1 : (((k : Int) + 1) == (s.size : Int)) = true := by simp; omega
          have HE := Lib.hid hend
          clear h34 hend
          go_wp2_with fail
          first | go_region_with (go_at_call 18; refine (Tryd.Builder_String_any w.heap.size w.heap.size acc wr.drew hI (by simp; omega)).mono ?_; rintro e w' ⟨rfl, hb⟩) | fail
          all_goals go_wp2_with fail
          all_goals go_ret3
          all_goals
            have e := hq.out
            rw [hr.out, hf.out, drop_none s (k + 1) (by have := HE.out; omega)] at e
            simp only [qread] at e
            rw [if_pos H34.out] at e
            rw [← e]
            exact ⟨hB.trans (hd' hb), ret3 rfl (vint (by have := HE.out; simp; omega)) rfl⟩
        · have d1 : (((k : Int) + 1) == (s.size : Int)) = false := by simp; omega
          have hlt2 : k + 1 < s.size := by omega
          have hlt3 : (k : Int) + 1 < s.size := by omega
          clear h34 hend
          by_cases h32 : s[k + 1].toNat = 32
          · have d2 : ((s[k + 1].toNat : Int) == 32) = true := by rw [h32]; rfl
            have H32 := Lib.hid h32
            clear h32
            go_wp2_with fail
            first | go_region_with (go_at_call 18; refine (Tryd.Builder_String_any w.heap.size w.heap.size acc wr.drew hI (by simp; omega)).mono ?_; rintro e w' ⟨rfl, hb⟩) | fail
            all_goals go_wp2_with fail
            all_goals go_ret3
            all_goals
              have e := hq.out
              rw [hr.out, hf.out, drop_cons s (k + 1) hlt2] at e
              simp only [qread] at e
              rw [if_pos H34.out, if_pos H32.out, ← drop_cons s (k + 1) hlt2] at e
              rw [← e]
              exact ⟨hB.trans (hd' hb), ret3 rfl (vint (by simp only [drop_len]; omega)) rfl⟩
          · have d2 : ((s[k + 1].toNat : Int) == 32) = false := by simp; omega
            have H32 := Lib.hid h32
            clear h32
            go_wp2_with fail
            first | go_region_with (go_at_call 18; refine (Tryd.Builder_String_any w.heap.size w.heap.size acc wr.drew hI (by simp; omega)).mono ?_; rintro e w' ⟨rfl, hb⟩) | fail
            all_goals go_wp2_with fail
            all_goals go_ret3
            all_goals
              have e := hq.out
              rw [hr.out, hf.out, drop_cons s (k + 1) hlt2] at e
              simp only [qread] at e
              rw [if_pos H34.out, if_neg H32.out] at e
              rw [← e]
              exact ⟨hB.trans (hd' hb), _, _, rfl⟩
      · have e1 : ((s[k].toNat : Int) == 34) = false := by simp; omega
        have H34 := Lib.hid h34
        clear h34
        by_cases h92 : s[k].toNat = 92
        · have e2 : ((s[k].toNat : Int) == 92) = true := by rw [h92]; rfl
          have H92 := Lib.hid h92
          clear h92
          have HX := Lib.hid (extract_list s (k + 1))
          have hb := esc_bd (s.data.toList.drop (k + 1))
          have hl := drop_len s (k + 1)
          go_wp2_with fail
          refine (escaped_any _ _).mono ?_
          rw [HX.out]
          rintro e w' ⟨rfl, n, rfl⟩
          generalize hE : esc (s.data.toList.drop (k + 1)) = E at *
          obtain ⟨c1, n1⟩ := E
          have HE := Lib.hid hE
          clear hE
          by_cases h0 : n1 = 0
          · have z0 : (n1 == 0) = true := by rw [h0]; rfl
            have H0 := Lib.hid h0
            clear h0
            go_wp2_with fail
            go_ret3
            have e := hq.out
            rw [hr.out, hf.out] at e
            simp only [qread] at e
            rw [if_neg H34.out, if_pos H92.out, HE.out, if_pos H0.out] at e
            rw [← e]
            exact ⟨below_drewN hB _, _, _, rfl⟩
          · have z0 : (n1 == 0) = false := by simp; omega
            have H0 := Lib.hid h0
            obtain ⟨m, rfl⟩ : ∃ m : Nat, n1 = m := ⟨n1.toNat, by omega⟩
            clear h0
            go_wp2_with fail
            refine (Builder_WriteByte w.heap.size w.heap.size (Lib.byteCells acc) _ _ (by exact hI) (by simp [Lib.byteCells_length]; omega) (by simp; omega)).mono ?_
            rintro e w' ⟨rfl, hI1, hb1⟩
            go_wp2_with fail
            go_roundw
            case rel =>
              refine ⟨k + 1 + m, acc ++ [c1.toNat.toUInt8], by simp at hb hl; omega, by simp; omega, by go_num, ?_, (below_drewN hB _).trans hb1, ?_⟩
              · rw [byteCells_snoc' _ _ (by simpa using hb.1) (by simpa using hb.2.1)]; exact Or.inr hI1
              · have e := hq.out
                rw [hr.out, hf.out] at e
                simp only [qread] at e
                rw [if_neg H34.out, if_pos H92.out, HE.out, if_neg H0.out] at e
                refine Lib.hid ?_
                rw [← e]
                show qread _ _ _ = qread f (acc ++ [c1.toNat.toUInt8]) (List.drop ((m : Int)).toNat (List.drop (k + 1) s.data.toList))
                rw [Int.toNat_natCast, List.drop_drop]
                have := hf.out
                exact qread_fuel _ _ _ _ (by rw [drop_len]; omega) (by rw [drop_len]; omega)
            case measure => simp [intOf]; simp at hb hl; omega
        · have e2 : ((s[k].toNat : Int) == 92) = false := by simp; omega
          have H92 := Lib.hid h92
          clear h92
          go_wp2_with fail
          refine (Builder_WriteByte w.heap.size w.heap.size (Lib.byteCells acc) _ _ hI (by simp [Lib.byteCells_length]; omega) (by omega)).mono ?_
          rintro e w' ⟨rfl, hI1, hb⟩
          go_wp2_with fail
          go_roundw
          case rel =>
            refine ⟨k + 1, acc ++ [s[k]], by omega, by simp; omega, by go_num, ?_, hB.trans hb, ?_⟩
            · rw [Lib.byteCells_append]; exact Or.inr hI1
            · have e := hq.out
              rw [hr.out, hf.out] at e
              simp only [qread] at e
              rw [if_neg H34.out, if_neg H92.out] at e
              refine Lib.hid ?_
              rw [← e]
              have := hf.out
              rw [show s.size + 1 - (k + 1) = f by omega]
          case measure => simp [intOf]; omega
    · go_wp2_with fail
      go_ret3
      have e := hq.out
      rw [drop_none s k (by omega), show s.size + 1 - k = (s.size - k) + 1 by omega] at e
      simp only [qread] at e
      rw [← e]
      exact ⟨hB, _, _, rfl⟩
end Go.Proofs.YtgikkibiinanjaaDoor
