/- The walk of shell.Words: a line cut into words. -/
import Derived.Test.YtgikkibiinanjaaDoorShB
import Derived.Deep.DeepMust
set_option linter.unusedVariables false
set_option linter.unusedSimpArgs false
namespace Go.Proofs.YtgikkibiinanjaaDoor
open Go.RowKit

/-- A bare word: up to a blank; none where a quote stands in it. -/
def bare : List UInt8 → List UInt8 → Option (List UInt8 × List UInt8)
  | acc, [] => some (acc, [])
  | acc, c :: r => if c.toNat = 32 then some (acc, c :: r) else if c.toNat = 34 then none else bare (acc ++ [c]) r

def wread : Nat → List (List UInt8) → List UInt8 → Option (List (List UInt8))
  | 0, _, _ => none
  | _ + 1, acc, [] => some acc
  | f + 1, acc, c :: r =>
    if c.toNat = 32 then wread f acc r
    else if c.toNat = 34 then
      match qread (r.length + 1) [] r with
      | some (wd, rest) => wread f (acc ++ [wd]) rest
      | none => none
    else
      match bare [] (c :: r) with
      | some (wd, rest) => wread f (acc ++ [wd]) rest
      | none => none

def wordsOf (l : List UInt8) : List (List UInt8) × Int :=
  if 8192 < l.length then ([], 2)
  else if 0 ≤ Lib.indexByte l 10 then ([], 250)
  else match wread (l.length + 1) [] l with
    | some ws => (ws, 0)
    | none => ([], 40)

def strv (l : List UInt8) : Value := .string ⟨l.toArray⟩

/-- A pair of words and an error is handed back; the words lie in new memory. -/
def WPost (r : List (List UInt8) × Int) (w : World) (e : Ending) (w' : World) : Prop :=
  Below w.heap.size w w' ∧ ∃ v, e = .returned (.tuple #[v, .int .i64 r.2]) ∧ w'.ownsRow w.heap.size 9 1 v r.1.length (r.1.map strv)

theorem infoStr : (Tryd.prog.info? 9).map (fun i => (i.zero, i.size, i.bytes)) = some (some (.string ⟨#[]⟩), 1, 16) := by kernel_rfl

section
variable {P : Program} {ops : Array Oper} {rest : List Oper} {o : Oper} {a : Act} {Q : Exit → Act → World → Prop}
/-- append(v, t): a string is appended to a row of the call's own. -/
theorem app_str {w0 W : World} (base : Nat) (hgd : o.guard = none) (s x : Operand) (ho : o.op = .call { callee := .builtin .append, args := #[s, x], argTypes := #[22, 22] })
    (v : Value) (xs : List (List UInt8)) (t : Value) (y : List UInt8) (hs : a.eval s = v) (hx : a.eval x = .slice (some ⟨W.heap.size, 0, none⟩) 1 1) (hy : t = strv y)
    (HO : W.ownsRow base 9 1 v xs.length (xs.map strv)) (HB : Below base w0 W) (hbase : base ≤ W.heap.size) (hl : (xs.length + 1) * 16 ≤ 140737488355328)
    (h : ∀ v1 w1, Hid (w1.ownsRow base 9 1 v1 (xs ++ [y]).length ((xs ++ [y]).map strv)) → Below base w0 w1 → wpList Tryd.prog ops Q rest (a.put o.dst v1) w1) :
    wpList Tryd.prog ops Q (o :: rest) a (W.alloc (.cells #[t] 9)) := by
  subst hy
  obtain ⟨i0, hi, hz0, hz1, hz2⟩ := info_parts infoStr
  refine wpList_append_own (W.alloc (.cells #[strv y] 9)) hgd s x 22 ho base 9 i0 (.string ⟨#[]⟩) 1 16 Tryd.underlying22 hi hz0 hz1 hz2 rfl (by omega) v xs.length (xs.map strv) hs (HO.alloc _) ⟨W.heap.size, 0, none⟩ 1 1 [strv y] hx rfl
    ?c1 ?c2 (by simp only [maxLen]; omega) hl (by simp; omega) ?_
  case c1 =>
    intro j u hj
    match j, hj with
    | 0, hj => simp at hj; subst hj; simp [Addr.add]
  case c2 => intro u hu; simp at hu; subst hu; rfl
  intro v1 w1 hown hg _
  refine h v1 w1 (Lib.hid (by simpa using hown)) ((HB.alloc hbase _).grown hg (by simp; omega) ?_)
  intro k hk
  exact (HO.lt k hk).1
end

theorem grown_of_below' {w w1 : World} (h : Below w.heap.size w w1) : w.grownBy w1 none := ⟨h.os, h.tape, h.output, h.size, fun i hi _ => h.block i hi⟩
theorem bare_size : ∀ (l acc wd rest : List UInt8), bare acc l = some (wd, rest) → ∃ p, l = p ++ rest ∧ wd = acc ++ p := by
  intro l
  induction l with
  | nil => intro acc wd rest h; simp only [bare] at h; obtain ⟨rfl, rfl⟩ := by simpa using h
           exact ⟨[], rfl, by simp⟩
  | cons c r ih =>
    intro acc wd rest h
    simp only [bare] at h
    split at h
    · obtain ⟨rfl, rfl⟩ := by simpa using h
      exact ⟨[], rfl, by simp⟩
    · split at h
      · simp at h
      · obtain ⟨p, hp, hw⟩ := ih _ _ _ h
        exact ⟨c :: p, by rw [hp]; rfl, by rw [hw]; simp⟩
theorem wread_fuel : ∀ (f g : Nat) (acc : List (List UInt8)) (l : List UInt8), l.length < f → l.length < g → wread f acc l = wread g acc l := by
  intro f
  induction f with
  | zero => intro g acc l h; omega
  | succ f ih =>
    intro g acc l h h'
    obtain ⟨g, rfl⟩ : ∃ m, g = m + 1 := ⟨g - 1, by omega⟩
    match l with
    | [] => rfl
    | c :: r =>
      simp only [List.length_cons] at h h'
      simp only [wread]
      rw [ih g acc r (by omega) (by omega)]
      split
      · rfl
      · rename_i h32
        split
        · split
          · rename_i wd rest hq
            obtain ⟨z, _⟩ := qread_size _ _ _ _ _ hq
            simp only [List.length_nil] at z
            exact ih g _ _ (by omega) (by omega)
          · rfl
        · rename_i h34
          split
          · rename_i wd rest hq
            simp only [bare, if_neg h32, if_neg h34] at hq
            obtain ⟨p, hp, _⟩ := bare_size _ _ _ _ hq
            have : r.length = p.length + rest.length := by rw [hp]; simp
            exact ih g _ _ (by omega) (by omega)
          · rfl
theorem extract_take (s : ByteArray) (k j : Nat) : Value.string (s.extract k j) = strv ((s.data.toList.drop k).take (j - k)) := by
  unfold strv
  congr 1
  exact WideShapes.bytes_inj (by rw [Lib.extract_data])
theorem take_more (s : ByteArray) (k j : Nat) (h : k ≤ j) (hj : j < s.size) : (s.data.toList.drop k).take (j + 1 - k) = (s.data.toList.drop k).take (j - k) ++ [s[j]] := by
  obtain ⟨h', e⟩ := get_list s j hj
  rw [show j + 1 - k = (j - k) + 1 by omega, List.take_succ_eq_append_getElem (by simp; omega), e]
  simp
  congr 1
  omega
theorem suffix_drop {l p rest : List UInt8} (h : l = p ++ rest) : rest = l.drop (l.length - rest.length) := by
  subst h
  simp

set_option maxHeartbeats 1000000 in
set_option maxRecDepth 100000 in
theorem words_any (s : ByteArray) (w : World) : Calls Tryd.prog 5 #[.string s] w (WPost (wordsOf s.data.toList) w) := by
  have hlen : s.data.toList.length = s.size := by rw [Array.length_toList]; rfl
  by_cases hl : 8192 < s.size
  · have h1 : wordsOf s.data.toList = ([], 2) := by unfold wordsOf; rw [hlen, if_pos hl]
    rw [h1]
    clear h1 hlen
    go_enter Tryd.func5, Tryd.ntmps5
    go_wp2_with fail
    go_ret2
    exact ⟨Below.refl _ _, _, rfl, World.ownsRow_nil _ _ _ _⟩
  · have hl' : s.size ≤ 8192 := by omega
    by_cases hn : 0 ≤ Lib.indexByte s.data.toList 10
    · have h1 : wordsOf s.data.toList = ([], 250) := by unfold wordsOf; rw [hlen, if_neg hl, if_pos hn]
      rw [h1]
      have hd : decide (0 ≤ Lib.indexByte s.data.toList 10) = true := by simpa using hn
      clear h1 hlen hn
      go_enter Tryd.func5, Tryd.ntmps5
      go_wp2_with (go_at_call 12; refine (Tryd.strings_Contains_one s 10 _).mono ?_; rintro e w' ⟨rfl, rfl⟩)
      go_ret2
      exact ⟨Below.refl _ _, _, rfl, World.ownsRow_nil _ _ _ _⟩
    · have hd : decide (0 ≤ Lib.indexByte s.data.toList 10) = false := by simpa using hn
      have HS : Hid (wordsOf s.data.toList = match wread (s.size + 1) [] s.data.toList with
        | some ws => (ws, 0)
        | none => ([], 40)) := Lib.hid (by unfold wordsOf; rw [hlen, if_neg hl, if_neg hn])
      have HL := Lib.hid hlen
      clear hlen hn hl
      go_enter Tryd.func5, Tryd.ntmps5
      go_wp2_with (go_at_call 12; refine (Tryd.strings_Contains_one s 10 _).mono ?_; rintro e w' ⟨rfl, hw⟩; obtain rfl := hw.symm)
      go_loopw [4, 5] (fun t4 t5 wr => ∃ (k : Nat) (acc : List (List UInt8)), k ≤ s.size ∧ acc.length ≤ k ∧ t5 = .int .i64 k ∧ wr.ownsRow w.heap.size 9 1 t4 acc.length (acc.map strv) ∧ Below w.heap.size w wr ∧
        Hid (wread (s.size + 1 - k) acc (s.data.toList.drop k) = wread (s.size + 1) [] s.data.toList)) (fun _ t5 wr => s.size - (intOf t5).toNat)
      case atStart => exact ⟨0, [], by omega, by simp, rfl, World.ownsRow_nil _ _ _ _, Below.refl _ _, Lib.hid rfl⟩
      case round =>
        obtain ⟨k, acc, hk1, ha, rfl, hO, hB, hq⟩ := hrel
        have hsz := hB.size
        by_cases hlt : k < s.size
        · have hr := Lib.hid (drop_cons s k hlt)
          obtain ⟨f, hf0⟩ : ∃ f, s.size + 1 - k = f + 1 := ⟨s.size - k, by omega⟩
          have hf := Lib.hid hf0
          clear hf0
          by_cases h32 : s[k].toNat = 32
          · have e1 : ((s[k].toNat : Int) == 32) = true := by rw [h32]; rfl
            have H32 := Lib.hid h32
            clear h32
            go_wp2_with fail
            go_roundw
            case rel =>
              refine ⟨k + 1, acc, by omega, by omega, by go_num, hO, hB, ?_⟩
              have e := hq.out
              rw [hr.out, hf.out] at e
              simp only [wread] at e
              rw [if_pos H32.out] at e
              refine Lib.hid ?_
              rw [← e]
              have := hf.out
              rw [show s.size + 1 - (k + 1) = f by omega]
            case measure => simp [intOf]; omega
          · have e1 : ((s[k].toNat : Int) == 32) = false := by simp; omega
            have H32 := Lib.hid h32
            clear h32
            by_cases h34 : s[k].toNat = 34
            · have e2 : ((s[k].toNat : Int) == 34) = true := by rw [h34]; rfl
              have H34 := Lib.hid h34
              clear h34
              have hk2 := quoted_any s (k + 1) wr (by omega) (by omega)
              rw [show s.size + 1 - (k + 1) = (s.data.toList.drop (k + 1)).length + 1 by rw [drop_len]; omega] at hk2
              have HQ := Lib.hid hk2
              clear hk2
              rcases hE : qread ((s.data.toList.drop (k + 1)).length + 1) [] (s.data.toList.drop (k + 1)) with _ | ⟨wd, rest⟩
              · have HE := Lib.hid hE
                clear hE
                go_wp2_with fail
                have hQ := HQ.out
                rw [HE.out] at hQ
                refine hQ.mono ?_
                rintro e w' ⟨hb, t, j, rfl⟩
                go_wp2_with fail
                go_ret2
                have e := HS.out
                have e2 := hq.out
                rw [hr.out, hf.out] at e2
                simp only [wread] at e2
                rw [if_neg H32.out, if_pos H34.out, HE.out] at e2
                rw [← e2] at e
                rw [e]
                exact ⟨hB.trans (hb.mono hsz), _, rfl, World.ownsRow_nil _ _ _ _⟩
              · obtain ⟨z1, p, hp⟩ := qread_size _ _ _ _ _ hE
                have z2 := suffix_drop hp
                rw [drop_len, List.drop_drop] at z2
                rw [drop_len] at z1
                have Z2 := Lib.hid z2
                have HE := Lib.hid hE
                simp only [List.length_nil] at z1
                clear hE hp z2
                obtain ⟨m, hm⟩ : ∃ m : Nat, m = s.size - rest.length := ⟨_, rfl⟩
                have hm' : ((s.size : Int) - rest.length) = m := by omega
                go_wp2_with fail
                have hQ := HQ.out
                rw [HE.out] at hQ
                refine hQ.mono ?_
                simp only [QPost, hm']
                rintro e w' ⟨hb, rfl⟩
                have HM := Lib.hid hm
                clear hm hm'
                have hsz2 := hb.size
                have hO1 := hO.kept (grown_of_below' hb) (Classical.em _)
                go_wp2_with (at_builtin; go_must (refine app_str (W := w') (w0 := w) w.heap.size (by rfl) _ _ (by rfl) _ acc _ wd (by rfl) (by rfl) (by rfl) hO1 (hB.trans (hb.mono hsz)) (by omega) (by omega) ?_))
                intro v1 w1 HO2 hB2
                go_wp2_with fail
                go_roundw
                case rel =>
                  have hM := HM.out
                  refine ⟨m, acc ++ [wd], by omega, by simp; omega, rfl, by simpa using HO2.out, hB2, ?_⟩
                  have e := hq.out
                  rw [hr.out, hf.out] at e
                  simp only [wread] at e
                  rw [if_neg H32.out, if_pos H34.out, HE.out] at e
                  refine Lib.hid ?_
                  rw [← e]
                  have z2 := Z2.out
                  have hf1 := hf.out
                  have hd2 : List.drop m s.data.toList = rest := by rw [z2]; congr 1; omega
                  rw [hd2]
                  exact wread_fuel _ _ _ _ (by omega) (by omega)
                case measure => have hM := HM.out; simp [intOf]; omega
            · have e2 : ((s[k].toNat : Int) == 34) = false := by simp; omega
              have H34 := Lib.hid h34
              clear h34
              go_wp2_with fail
              go_loop [9] (fun t9 => ∃ j : Nat, k ≤ j ∧ j ≤ s.size ∧ t9 = .int .i64 j ∧ Hid (bare ((s.data.toList.drop k).take (j - k)) (s.data.toList.drop j) = bare [] (s.data.toList.drop k)) ∧ Hid (j = k ∨ k < j)) (fun t9 => s.size - (intOf t9).toNat)
              case atStart => exact ⟨k, by omega, by omega, rfl, Lib.hid (by simp), Lib.hid (Or.inl rfl)⟩
              case round =>
                obtain ⟨j, hj1, hj2, rfl, hb, hj3⟩ := hrel
                by_cases hjl : j < s.size
                · have hrj := Lib.hid (drop_cons s j hjl)
                  by_cases g32 : s[j].toNat = 32
                  · have d1 : ((s[j].toNat : Int) != 32) = false := by rw [g32]; rfl
                    have d2 : ((s[j].toNat : Int) == 32) = true := by rw [g32]; rfl
                    have G32 := Lib.hid g32
                    have hkj : k < j := by
                      have hj := hj3.out
                      rcases hj with rfl | hj
                      · exact absurd g32 H32.out
                      · exact hj
                    clear g32
                    go_wp2_with (at_builtin; go_must (refine app_str (W := wr) (w0 := w) w.heap.size (by rfl) _ _ (by rfl) _ acc _ ((s.data.toList.drop k).take (j - k)) (by rfl) (by rfl) (extract_take s k j) hO hB hsz (by omega) ?_))
                    intro v1 w1 HO2 hB2
                    go_wp2_with fail
                    go_roundw
                    case rel =>
                      refine ⟨j, acc ++ [(s.data.toList.drop k).take (j - k)], by omega, by simp; omega, rfl, by simpa using HO2.out, hB2, ?_⟩
                      have e := hq.out
                      have eb := hb.out
                      rw [hrj.out] at eb
                      simp only [bare] at eb
                      rw [if_pos G32.out, ← hrj.out] at eb
                      rw [hr.out, hf.out] at e
                      simp only [wread] at e
                      rw [if_neg H32.out, if_neg H34.out, ← hr.out, ← eb] at e
                      refine Lib.hid ?_
                      rw [← e]
                      have hf1 := hf.out
                      exact wread_fuel _ _ _ _ (by rw [drop_len]; omega) (by rw [drop_len]; omega)
                    case measure => simp [intOf]; omega
                  · have d1 : ((s[j].toNat : Int) != 32) = true := by simp; omega
                    have d2 : ((s[j].toNat : Int) == 32) = false := by simp; omega
                    have G32 := Lib.hid g32
                    clear g32
                    by_cases g34 : s[j].toNat = 34
                    · have d3 : ((s[j].toNat : Int) == 34) = true := by rw [g34]; rfl
                      have G34 := Lib.hid g34
                      clear g34
                      go_wp2_with fail
                      go_ret2
                      have e := HS.out
                      have e2 := hq.out
                      have eb := hb.out
                      rw [hrj.out] at eb
                      simp only [bare] at eb
                      rw [if_neg G32.out, if_pos G34.out] at eb
                      rw [hr.out, hf.out] at e2
                      simp only [wread] at e2
                      rw [if_neg H32.out, if_neg H34.out, ← hr.out, ← eb] at e2
                      rw [← e2] at e
                      rw [e]
                      exact ⟨hB, _, rfl, World.ownsRow_nil _ _ _ _⟩
                    · have d3 : ((s[j].toNat : Int) == 34) = false := by simp; omega
                      have G34 := Lib.hid g34
                      clear g34
                      go_wp2_with fail
                      go_round
                      case rel =>
                        refine ⟨j + 1, by omega, by omega, by go_num, ?_, Lib.hid (Or.inr (by omega))⟩
                        have eb := hb.out
                        rw [hrj.out] at eb
                        simp only [bare] at eb
                        rw [if_neg G32.out, if_neg G34.out] at eb
                        refine Lib.hid ?_
                        rw [← eb, take_more s k j hj1 hjl]
                      case measure => simp [intOf]; omega
                · go_wp2_with (at_builtin; go_must (refine app_str (W := wr) (w0 := w) w.heap.size (by rfl) _ _ (by rfl) _ acc _ ((s.data.toList.drop k).take (j - k)) (by rfl) (by rfl) (extract_take s k j) hO hB hsz (by omega) ?_))
                  intro v1 w1 HO2 hB2
                  go_wp2_with fail
                  go_roundw
                  case rel =>
                    refine ⟨j, acc ++ [(s.data.toList.drop k).take (j - k)], by omega, by simp; omega, rfl, by simpa using HO2.out, hB2, ?_⟩
                    have e := hq.out
                    have eb := hb.out
                    rw [drop_none s j (by omega)] at eb
                    simp only [bare] at eb
                    rw [hr.out, hf.out] at e
                    simp only [wread] at e
                    rw [if_neg H32.out, if_neg H34.out, ← hr.out, ← eb] at e
                    refine Lib.hid ?_
                    rw [drop_none s j (by omega), ← e]
                    have hf1 := hf.out
                    exact wread_fuel _ _ _ _ (by simp; omega) (by simp; omega)
                  case measure => simp [intOf]; omega
        · go_wp2_with fail
          go_ret2
          have e := HS.out
          have e2 := hq.out
          rw [drop_none s k (by omega), show s.size + 1 - k = (s.size - k) + 1 by omega] at e2
          simp only [wread] at e2
          rw [← e2] at e
          rw [e]
          exact ⟨hB, _, rfl, hO⟩
end Go.Proofs.YtgikkibiinanjaaDoor
