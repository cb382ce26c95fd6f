/- The law ShellBack, walked. -/
import Derived.Test.YtgnifglolbfamaaShP
import Derived.Test.YtgnifglolbfamaaShK
import Derived.Deep.DeepCutAuto
set_option linter.unusedVariables false
set_option linter.unusedSimpArgs false
namespace Go.Proofs.Ytgnifglolbfamaa
open Go.RowKit

def wl (ss : Nat → ByteArray) (k : Nat) : List (List UInt8) := (List.range k).map fun i => (ss i).data.toList
theorem wl_succ (ss : Nat → ByteArray) (k : Nat) : wl ss (k + 1) = wl ss k ++ [(ss k).data.toList] := by simp [wl, List.range_succ]
theorem wl_len (ss : Nat → ByteArray) (k : Nat) : (wl ss k).length = k := by simp [wl]
theorem laid_succ (ss : Nat → ByteArray) (k : Nat) : laidOf (wl ss (k + 1)) 0 [] = laidStep (laidOf (wl ss k) 0 []) k (quoteOf (ss k).data.toList) := by
  rw [wl_succ, laid_snoc, wl_len, Nat.zero_add]
theorem quote_len (l : List UInt8) : (quoteOf l).length ≤ 4 * l.length + 2 := by
  unfold quoteOf
  have := flat_len l
  split
  · omega
  · simp only [List.length_append, List.length_cons, List.length_nil]; omega
theorem cutq (q : List UInt8) : ((⟨q.toArray⟩ : ByteArray).extract 0 (min (q.length : Int) 100000).toNat).data.toList = q.take 100000 := by
  rw [Lib.extract_data]
  simp only [List.drop_zero, Nat.sub_zero]
  show q.take _ = _
  by_cases h : q.length ≤ 100000
  · rw [show (min (q.length : Int) 100000).toNat = q.length by omega, List.take_length, List.take_of_length_le h]
  · rw [show (min (q.length : Int) 100000).toNat = 100000 by omega]
theorem cutq_size (q : List UInt8) : ((⟨q.toArray⟩ : ByteArray).extract 0 (min (q.length : Int) 100000).toNat).size ≤ 100000 := by
  have h : ((⟨q.toArray⟩ : ByteArray).extract 0 (min (q.length : Int) 100000).toNat).data.toList.length = ((⟨q.toArray⟩ : ByteArray).extract 0 (min (q.length : Int) 100000).toNat).size := by rw [Array.length_toList]; rfl
  rw [← h, cutq, List.length_take]
  omega
theorem step_le (L : List UInt8) (k : Nat) (q : List UInt8) (h : L.length ≤ 200001) : (laidStep L k q).length ≤ 200001 := by
  unfold laidStep
  split
  · split <;> simp only [List.length_append, List.length_cons, List.length_nil, List.length_take] <;> omega
  · exact h
theorem own_blank {W : World} {base : Nat} {v : Value} {L : List UInt8} (h : W.ownsRow base 5 1 v ((Lib.byteCells L).length + 1) (Lib.byteCells L ++ [Value.int .u8 32])) : W.ownsRow base 5 1 v (L ++ [32]).length (Lib.byteCells (L ++ [32])) := by
  rw [Lib.byteCells_append]
  simpa [Lib.byteCells_length, Lib.byteCells] using h
theorem own_shape {W : World} {base : Nat} {v : Value} {l : List UInt8} (h : W.ownsRow base 5 1 v l.length (Lib.byteCells l)) : ∃ A c, v = .slice A l.length c := by
  rcases h.2 with ⟨rfl, h0⟩ | ⟨g, cap, cur, rfl, _⟩
  · exact ⟨none, 0, by rw [h0]⟩
  · exact ⟨_, cap, rfl⟩

/-- A row of bytes of the call's own: these bytes. -/
def OwnL (w : World) (base : Nat) (v : Value) (L : List UInt8) : Prop := w.ownsRow base 5 1 v L.length (Lib.byteCells L)

section
variable {P : Program} {ops : Array Oper} {rest : List Oper} {o : Oper} {a : Act} {Q : Exit → Act → World → Prop}
/-- append(b, s...): a string's bytes are appended to a row of the call's own. -/
theorem app_string {w0 W : World} (base : Nat) (hgd : o.guard = none) (s x : Operand) (ho : o.op = .call { callee := .builtin .append, args := #[s, x], argTypes := #[82, 9] })
    (v : Value) (L : List UInt8) (t : ByteArray) (hs : a.eval s = v) (hx : a.eval x = .string t)
    (HO : W.ownsRow base 5 1 v L.length (Lib.byteCells L)) (HB : Below base w0 W) (hbase : base ≤ W.heap.size) (hl : L.length + t.size ≤ 140737488355328) (L' : List UInt8) (hL' : L' = L ++ t.data.toList)
    (h : ∀ v1 w1, OwnL w1 base v1 L' → Below base w0 w1 → wpList Try.prog ops Q rest (a.put o.dst v1) w1) :
    wpList Try.prog ops Q (o :: rest) a W := by
  obtain ⟨i0, hi, hz0, hz1, hz2⟩ := info_parts infoByte
  refine Lib.wpList_append_own_string W hgd s x 82 9 ho base 5 i0 Try.underlying82 Try.underlying9 hi hz0 hz1 hz2 v L.length (Lib.byteCells L) hs HO t hx (by simp only [maxLen]; omega) (by omega) hbase ?_
  intro v1 w1 hown hg _
  refine h v1 w1 ?_ (HB.grown hg hbase (fun k hk => (HO.lt k hk).1))
  unfold OwnL
  rw [hL', Lib.byteCells_append, List.length_append]
  have e : t.data.toList.length = t.size := by rw [Array.length_toList]; rfl
  rw [e]
  exact hown
end

set_option maxHeartbeats 2000000 in
set_option maxRecDepth 100000 in
theorem shellBack_walk (A : Option Addr) (n c : Nat) (ss : Nat → ByteArray) (w : World) (hn : n ≤ 9223372036854775807) (hc : ∀ i, i < n → ∃ ad, A = some ad ∧ w.cell? (ad.add i) = some (.string (ss i))) (hs : ∀ i, i < n → (ss i).size ≤ 1000000000000) :
    Calls Try.prog 7 #[.slice A n c] w fun e w' => e = .returned (.bool true) ∧ Below w.heap.size w w' := by
  have HC := Lib.hid hc
  have HS := Lib.hid hs
  clear hs
  go_enter Try.func7, Try.ntmps7
  go_wp2_with (go_at_call 29; refine (worded_any _).mono ?_; rintro e w0 ⟨rfl, hb0⟩)
  have hz0 := hb0.size
  go_loopw [3, 4] (fun t3 t4 wr => ∃ (k : Nat) (L : List UInt8), k ≤ n ∧ t4 = .int .i64 k ∧ wr.ownsRow w.heap.size 5 1 t3 L.length (Lib.byteCells L) ∧ L.length ≤ 200001 ∧ Hid (L = laidOf (wl ss k) 0 []) ∧ Below w.heap.size w wr) (fun _ t4 _ => n - (intOf t4).toNat)
  case atStart => exact ⟨0, [], by omega, rfl, World.ownsRow_nil _ _ _ _, by simp, Lib.hid rfl, hb0⟩
  case round =>
    clear hb0
    obtain ⟨k, L, hk, rfl, hO, hL2, hLe, hB⟩ := hrel
    obtain ⟨A3, c3, rfl⟩ := own_shape hO
    have hsz0 := hB.size
    by_cases hlt : k < n
    · obtain ⟨ad, rfl, c0⟩ := HC.out k hlt
      have c1 := keep1 hB c0
      have hsz := HS.out k hlt
      have HSN := Lib.hid (laid_succ ss k)
      generalize hsk : ss k = s at *
      clear hsk
      have i1 : (0 : Int) ≤ (k : Int) := by omega
      have i2 : (k : Int) < n := by omega
      have hql := quote_len s.data.toList
      have hsl : s.data.toList.length = s.size := by rw [Array.length_toList]; rfl
      rw [hsl] at hql
      have hq := quote_any s wr hsz
      generalize hqq : quoteOf s.data.toList = q at *
      have HQQ := Lib.hid hqq
      have HQ := Lib.hid hq
      have hqs : (⟨q.toArray⟩ : ByteArray).size = q.length := by simp [ByteArray.size]
      clear hqq hsl hq
      go_wp2_with fail
      refine (HQ.out).mono ?_
      rintro e w1 ⟨rfl, hb1⟩
      have hb1s := hb1.size
      have hO1 := hO.kept (grown_of_below' hb1) (Classical.em _)
      have hB1 := hB.trans (hb1.mono hsz0)
      clear c1 hO
      go_upto_if 26 with fail
      go_cut [3] (fun s3 wx => ∃ v3, s3 = v3 ∧ OwnL wx w.heap.size v3 (laidStep L k q) ∧ Below w.heap.size w wx)
      case first =>
        have hcs := cutq_size q
        by_cases hL : L.length ≤ 100000
        · have hL' : decide ((L.length : Int) ≤ 100000) = true := by simp; omega
          by_cases hk0 : 0 < k
          · have hk0' : decide (0 < (k : Int)) = true := by simp; omega
            go_wp2_with (at_builtin; go_must (refine app_bytes (W := w1) (w0 := w) w.heap.size (by rfl) _ _ (by rfl) _ (Lib.byteCells L) #[.int .u8 32] (one_cell1 _) (by rfl) (by rfl) (by rw [Lib.byteCells_length]; exact hO1) hB1 (by omega) (by simp [Lib.byteCells_length]; omega) ?_))
            intro v1 w2 HO2 hB2
            have hO2 := own_blank (by simpa using HO2.out)
            have hz2 := hB2.size
            go_wp2_with (at_builtin; go_must (refine app_string (W := w2) (w0 := w) w.heap.size (by rfl) _ _ (by rfl) _ (L ++ [32]) ((⟨q.toArray⟩ : ByteArray).extract 0 (min (q.length : Int) 100000).toNat) (by rfl) (by rfl) hO2 hB2 (by omega) (by simp only [List.length_append, List.length_cons, List.length_nil]; omega) (laidStep L k q) (by rw [cutq, laidStep, if_pos hL, if_pos hk0]) ?_))
            intro v3 w3 HO3 hB3
            clear hO2
            go_wp2_with fail
            go_meet
            exact ⟨v3, rfl, HO3, hB3⟩
          · have hk0' : decide (0 < (k : Int)) = false := by simp; omega
            go_wp2_with (at_builtin; go_must (refine app_string (W := w1) (w0 := w) w.heap.size (by rfl) _ _ (by rfl) _ L ((⟨q.toArray⟩ : ByteArray).extract 0 (min (q.length : Int) 100000).toNat) (by rfl) (by rfl) hO1 hB1 (by omega) (by omega) (laidStep L k q) (by rw [cutq, laidStep, if_pos hL, if_neg hk0]) ?_))
            intro v3 w3 HO3 hB3
            go_wp2_with fail
            go_meet
            exact ⟨v3, rfl, HO3, hB3⟩
        · have hL' : decide ((L.length : Int) ≤ 100000) = false := by simp; omega
          go_wp2_with fail
          go_meet
          refine ⟨_, rfl, ?_, hB1⟩
          unfold laidStep
          rw [if_neg hL]
          exact hO1
      case rest =>
        obtain ⟨v3, rfl, hO2, hB2⟩ := hcut
        have c3 := keep1 hB2 c0
        have HST := Lib.hid (step_le L k q hL2)
        have hz2 := hB2.size
        by_cases hq8 : q.length ≤ 8192
        · have hq8' : decide ((8192 : Int) < q.length) = false := by simp; omega
          have hwd := words_str ⟨q.toArray⟩ wc
          have hwq : wordsOf (⟨q.toArray⟩ : ByteArray).data.toList = ([s.data.toList], 0) := by
            have := words_quote s.data.toList
            rw [HQQ.out] at this
            exact this hq8
          rw [hwq] at hwd
          have hnl : decide (0 ≤ Lib.indexByte (⟨q.toArray⟩ : ByteArray).data.toList 10) = false := by
            have := index_none _ (quote_nl s.data.toList)
            rw [HQQ.out] at this
            simpa using this
          have HWD := Lib.hid hwd
          have hct := fun wx => Try.strings_Contains_one ⟨q.toArray⟩ 10 wx
          rw [hnl] at hct
          have HCT := Lib.hid hct
          clear hwd hwq hnl hct
          go_wp2_with fail
          refine (HWD.out).mono ?_
          rintro e w4 ⟨v4, rfl, hb4, h4⟩
          obtain ⟨A4, c4, rfl, _, hc4⟩ := h4
          obtain ⟨ad4, rfl, hcell4⟩ := hc4 0 (by simp)
          have e0 : ad4.add 0 = ad4 := rfl
          rw [e0] at hcell4
          have hcell5 : w4.cell? ad4 = some (.string s) := hcell4
          have c5 := keep1 hb4 c3
          clear hc4 hcell4 e0
          go_wp2_with fail
          go_quiet ((go_at_call 35; exact Calls.quiet_of_same (HCT.out _)))
          go_wp2_with fail
          go_roundw
          case rel => exact ⟨k + 1, laidStep L k q, by omega, by go_num, ((show wc.ownsRow w.heap.size 5 1 u3 _ _ from hO2).kept (grown_of_below' (ext_trans hb4 (ext_drewN _ _))) (Classical.em _)), HST.out, Lib.hid (by rw [HSN.out, ← hLe.out]), below_drewN (hB2.trans (hb4.mono hz2)) _⟩
          case measure => simp [intOf]; omega
        · have hq8' : decide ((8192 : Int) < q.length) = true := by simp; omega
          go_wp2_with fail
          go_roundw
          case rel => exact ⟨k + 1, laidStep L k q, by omega, by go_num, hO2, HST.out, Lib.hid (by rw [HSN.out, ← hLe.out]), hB2⟩
          case measure => simp [intOf]; omega
    · obtain rfl : k = n := by omega
      have hcv := conv_own hO
      have HSA : Hid (StrsAt w (.slice A k c) (wl ss k)) := Lib.hid (by
        refine ⟨A, c, by rw [wl_len], by rw [wl_len]; exact hn, fun i hi => ?_⟩
        rw [wl_len] at hi
        obtain ⟨ad, e, h⟩ := HC.out i hi
        refine ⟨ad, e, ?_⟩
        rw [h]
        simp [wl, strv])
      have hwd := words_str ⟨L.toArray⟩ wr
      by_cases hl8 : L.length ≤ 8192
      · have hl8' : decide ((8192 : Int) < L.length) = false := by simp; omega
        have hws : wordsOf (⟨L.toArray⟩ : ByteArray).data.toList = (wl ss k, 0) := by
          have := laid_words (wl ss k)
          rw [← hLe.out] at this
          exact this hl8
        rw [hws] at hwd
        have HWD := Lib.hid hwd
        clear hwd hws
        go_wp2_with fail
        refine (HWD.out).mono ?_
        rintro e w1 ⟨v1, rfl, hb1, h1⟩
        go_wp2_with fail
        refine (texts_same v1 _ (wl ss k) _ h1 (HSA.out.below (hB.trans (hb1.mono hsz0)))).mono ?_
        rintro e w2 ⟨rfl, m, rfl⟩
        go_wp2_with fail
        go_ret
        exact ⟨rfl, below_drewN (hB.trans (hb1.mono hsz0)) _⟩
      · have hl8' : decide ((8192 : Int) < L.length) = true := by simp; omega
        have hws : wordsOf (⟨L.toArray⟩ : ByteArray).data.toList = ([], 2) := words_long L (by omega)
        rw [hws] at hwd
        have HWD := Lib.hid hwd
        clear hwd hws
        go_wp2_with fail
        refine (HWD.out).mono ?_
        rintro e w1 ⟨v1, rfl, hb1, h1⟩
        obtain ⟨A1, c1, rfl, _, _⟩ := h1
        go_wp2_with fail
        go_ret
        exact ⟨rfl, hB.trans (hb1.mono hsz0)⟩
end Go.Proofs.Ytgnifglolbfamaa
