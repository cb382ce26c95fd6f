import Derived.Test.YtcfgmkmllcfjjaaGreatDoorZAJ
import Derived.Test.YtcfgmkmllcfjjaaGreatDoorZAC
set_option linter.unusedVariables false
set_option linter.unusedSimpArgs false
namespace Go.Proofs.YtcfgmkmllcfjjaaGreatDoor
open Go.RowKit Go.Proofs.YtcfgmkmllcfjjaaGreatDoorW.PrintWords Go.Proofs.YtcfgmkmllcfjjaaGreatDoorW.PrintMore PImageAll
def sumF (p q : Int) : List Int → Int × Int
  | [] => (p, q)
  | x :: xs => sumF ((p + x) % 65521) ((q + (p + x) % 65521) % 65521) xs
def sumOf (r : Int × Int) : List Int := [(r.2 / 256) % 256, r.2 % 256, (r.1 / 256) % 256, r.1 % 256]
def sumB (l : List Int) : List Int := sumOf (sumF 1 0 l)
theorem sumB_len (l : List Int) : (sumB l).length = 4 := rfl
theorem rd_get {l : List Int} {i : Nat} (h : i < l.length) : rd l (i : Int) = l[i] := by
  unfold rd
  simp [List.getD_eq_getElem?_getD, List.getElem?_eq_getElem h]
theorem sum_l0 {l : List Int} (hB : Bytes l) (hl : l.length ≤ 4611686018427387904) : ∀ (d k i : Nat) (p q : Int), i + d = l.length → d < k → 0 ≤ p → p < 65521 → 0 ≤ q → q < 65521 →
    image_sum.l0 k p q l (l.length : Int) (i : Int) = some (sumOf (sumF p q (l.drop i))) := by
  intro d
  induction d with
  | zero =>
    intro k i p q hi hk h1 h2 h3 h4
    obtain ⟨k', rfl⟩ : ∃ k', k = k' + 1 := ⟨k - 1, by omega⟩
    rw [image_sum.l0, if_neg (by omega), List.drop_eq_nil_of_le (by omega)]
    rfl
  | succ d ih =>
    intro k i p q hi hk h1 h2 h3 h4
    obtain ⟨k', rfl⟩ : ∃ k', k = k' + 1 := ⟨k - 1, by omega⟩
    have hlt : i < l.length := by omega
    rw [image_sum.l0, if_pos (by omega), if_pos (by omega), if_pos (by omega), rd_get hlt, List.drop_eq_getElem_cons hlt, sumF]
    obtain ⟨b0, b1⟩ := hB l[i] (List.getElem_mem hlt)
    generalize l[i] = x at *
    have e1 : wrap64 x = x := w64 b0 (by omega)
    have e2 : wrap64 (p + x) = p + x := w64 (by omega) (by omega)
    have e3 : Int.tmod (p + x) 65521 = (p + x) % 65521 := Int.tmod_eq_emod_of_nonneg (by omega)
    rw [e1, e2, e3]
    have e4 : wrap64 (q + (p + x) % 65521) = q + (p + x) % 65521 := w64 (by omega) (by omega)
    have e5 : Int.tmod (q + (p + x) % 65521) 65521 = (q + (p + x) % 65521) % 65521 := Int.tmod_eq_emod_of_nonneg (by omega)
    have e6 : wrap64 ((i : Int) + 1) = ((i + 1 : Nat) : Int) := by unfold wrap64; omega
    rw [e4, e5, e6]
    exact ih k' (i + 1) _ _ (by omega) (by omega) (by omega) (by omega) (by omega) (by omega)
theorem sum_f {l : List Int} (hB : Bytes l) (hl : l.length ≤ 4611686018427387904) : image_sum.f (l.length + 1) l = some (sumB l) := by
  unfold image_sum.f
  rw [show (0 : Int) = ((0 : Nat) : Int) from rfl, show (1 : Int) = 1 from rfl]
  have := sum_l0 hB hl l.length (l.length + 1) 0 1 0 (by omega) (by omega) (by omega) (by omega) (by omega) (by omega)
  rw [List.drop_zero] at this
  exact this
theorem sum_any {w : World} {A : Option Addr} {c : Nat} {l : List Int} (hC : Kd.C (Kd.int .u8) w A l.length l) (hc : l.length ≤ c) (hB : Bytes l) (hl : l.length ≤ 4611686018427387904) :
    Calls Tryz.prog 24 #[.slice A l.length c] w fun e w' => ∃ g c1, e = .returned (.slice (some ⟨g, 0, none⟩) 4 c1) ∧ BRow w' w.heap.size (.slice (some ⟨g, 0, none⟩) 4 c1) (sumB l) ∧ Below w.heap.size w w' := by
  refine (image_sum.calls (l.length + 1) A c l (sumB l) w hC hc (sum_f hB hl)).mono ?_
  rintro e w' ⟨v, rfl, hr, hb⟩
  have ho := Kd.own_of_R hr
  obtain ⟨g, c1, rfl, _, _⟩ := ho.form (by rw [sumB_len]; omega)
  exact ⟨g, c1, rfl, ho, hb⟩
theorem sumB_bytes (l : List Int) : Bytes (sumB l) := by
  intro b hb
  simp only [sumB, sumOf, List.mem_cons, List.not_mem_nil, or_false] at hb
  rcases hb with rfl | rfl | rfl | rfl <;> omega
def laidK (m : Img) : Nat → List Int
  | 0 => []
  | 1 => [] ++ magicL
  | 2 => ([] ++ magicL) ++ encNums m
  | 3 => (([] ++ magicL) ++ encNums m) ++ encTypes m.types
  | 4 => ((([] ++ magicL) ++ encNums m) ++ encTypes m.types) ++ encSaveds m.saved
  | _ => (((([] ++ magicL) ++ encNums m) ++ encTypes m.types) ++ encSaveds m.saved) ++ encSeens m.seens
def laid (m : Img) : List Int := laidK m 5
def badK (m : Img) : Nat → Bool
  | 5 => false || badL m.seens
  | _ => false
structure ImgI (m : Img) : Prop where
  runs : I64 m.runs
  made : I64 m.made
  seq : I64 m.seq
  now : I64 m.now
  since : ∀ x ∈ m.saved, I64 x.f2
  vals : ∀ x ∈ m.seens, ∀ y ∈ x.f1.f2, I64 y.f1
  lt : m.types.length ≤ 9223372036854775807
  lq : m.saved.length ≤ 9223372036854775807
  ls : m.seens.length ≤ 9223372036854775807
  la : ∀ x ∈ m.types, x.f1.length ≤ 9223372036854775807
  lv : ∀ x ∈ m.seens, x.f1.f2.length ≤ 9223372036854775807
theorem laidK_le (m : Img) (k : Nat) (hk : k ≤ 5) : (laidK m k).length ≤ (laid m).length := by
  unfold laid
  match k, hk with
  | 0, _ => simp [laidK]
  | 1, _ => simp [laidK]
  | 2, _ => simp [laidK]
  | 3, _ => simp [laidK]
  | 4, _ => simp [laidK]
  | 5, _ => exact Nat.le_refl _
def SSt (w : World) (gw gi : Nat) (m : Img) (k : Nat) (W : World) : Prop := WAt W gw w.heap.size (laidK m k) (badK m k) ∧ ImgAt w W gi m ∧ Wr w.heap.size gw w W ∧ gi ≠ gw
theorem SSt.step {w W W' : World} {gw gi : Nat} {m : Img} {k : Nat} {e : Ending} (h : SSt w gw gi m k W) (hw : Wrote gw w.heap.size (laidK m (k + 1)) (badK m (k + 1)) W e W') : e = .returned (.tuple #[]) ∧ SSt w gw gi m (k + 1) W' := by
  obtain ⟨h1, h2, h3, h4⟩ := h
  obtain ⟨k1, k2, k3⟩ := hw
  exact ⟨k1, k2, h2.wr h1 k3, h3.trans k3, h4⟩
theorem part_any {w W : World} {gw gi : Nat} {m : Img} {k : Nat} (hG : GW w) (hm : ImgI m) (hl : (laid m).length ≤ 10000000000000) (hk : k < 5) (h : SSt w gw gi m k W) :
    Calls Tryz.prog (43 + 2 * k) #[.pointer (some ⟨gw, 0, none⟩), .pointer (some ⟨gi, 0, none⟩)] W fun e w' => e = .returned (.tuple #[]) ∧ SSt w gw gi m (k + 1) w' := by
  have hl1 := laidK_le m (k + 1) (by omega)
  have hb : Below w.heap.size w W := h.2.2.1.below (Nat.le_refl _)
  match k, hk with
  | 0, _ => exact (writeMagic_any _ h.1 (Nat.le_trans hl1 hl)).mono (fun e w' hw => h.step hw)
  | 1, _ => exact (writeNumbers_any h.1 h.2.1 hm.runs hm.made hm.seq hm.now (by have := laidK_le m 1 (by omega); omega)).mono (fun e w' hw => h.step hw)
  | 2, _ => exact (writeTypes_any hb h.1 h.2.1 (Nat.le_trans hl1 hl)).mono (fun e w' hw => h.step hw)
  | 3, _ => exact (writeQueries_any hb h.1 h.2.1 hm.since (Nat.le_trans hl1 hl)).mono (fun e w' hw => h.step hw)
  | 4, _ => exact (writeEvents_any hb hG h.1 h.2.1 hm.vals hm.lv (Nat.le_trans hl1 hl)).mono (fun e w' hw => h.step hw)
theorem BRow.reads {w : World} {base c : Nat} {A : Option Addr} {l : List Int} (h : BRow w base (.slice A l.length c) l) : l.length ≤ c ∧ Kd.C (Kd.int .u8) w A l.length l := by
  have hR : Kd.R (Kd.int .u8) 5 w base (fun _ => True) (.slice A l.length c) l := Kd.R_of_own h (fun _ _ => trivial)
  exact ⟨(Kd.R_reads' hR).2.1, (Kd.R_reads' hR).2.2⟩
theorem Bytes.flat {α : Type} {f : α → List Int} {xs : List α} (h : ∀ x ∈ xs, Bytes (f x)) : Bytes (xs.flatMap f) := by
  intro b hb
  obtain ⟨x, hx, hb⟩ := List.mem_flatMap.1 hb
  exact h x hx b hb
theorem Bytes.nil : Bytes [] := fun b hb => by cases hb
theorem Bytes.one {x : Int} (h0 : 0 ≤ x) (h1 : x < 256) : Bytes [x] := fun b hb => by rw [List.mem_singleton] at hb; subst hb; exact ⟨h0, h1⟩
theorem Bytes.flag (b : Bool) : Bytes [if b then 1 else 0] := by cases b <;> exact Bytes.one (by decide) (by decide)
theorem Bytes.cons {x : Int} {l : List Int} (h0 : 0 ≤ x) (h1 : x < 256) (h : Bytes l) : Bytes (x :: l) := (Bytes.one h0 h1).append h
theorem bytesOf_bytes (s : ByteArray) : Bytes (bytesOf s) := by
  intro b hb
  simp only [bytesOf, List.mem_map] at hb
  obtain ⟨x, _, rfl⟩ := hb
  have := x.toNat_lt
  omega
theorem puti_b (n : Int) : Bytes (puti n) := puti_bytes n
theorem txt_bytes (s : ByteArray) : Bytes (txt s) := (puti_b _).append (bytesOf_bytes s)
theorem encAttr_bytes (x : S58) : Bytes (encAttr x) := (txt_bytes _).append (by
  refine Bytes.one ?_ ?_
  · rw [IntKind.wrap_u8]; omega
  · rw [IntKind.wrap_u8]; omega)
theorem encAttrs_bytes (xs : List S58) : Bytes (encAttrs xs) := (puti_b _).append (Bytes.flat fun x _ => encAttr_bytes x)
theorem encType_bytes (x : S56) : Bytes (encType x) := (txt_bytes _).append (encAttrs_bytes _)
theorem encTypes_bytes (xs : List S56) : Bytes (encTypes xs) := (puti_b _).append (Bytes.flat fun x _ => encType_bytes x)
theorem encSaved_bytes (x : S60) : Bytes (encSaved x) := (txt_bytes _).append ((txt_bytes _).append ((puti_b _).append (Bytes.flag _)))
theorem encSaveds_bytes (xs : List S60) : Bytes (encSaveds xs) := (puti_b _).append (Bytes.flat fun x _ => encSaved_bytes x)
theorem encVal_bytes {x : S67} (h : ValOk x) : Bytes (encVal x) := by
  unfold encVal
  rcases h with ⟨n, hn⟩ | ⟨s, hs⟩ | ⟨b⟩
  · exact Bytes.cons (show (0 : Int) ≤ 1 by decide) (show (1 : Int) < 256 by decide) (puti_b n)
  · exact Bytes.cons (show (0 : Int) ≤ 2 by decide) (show (2 : Int) < 256 by decide) (txt_bytes s)
  · exact Bytes.cons (show (0 : Int) ≤ 3 by decide) (show (3 : Int) < 256 by decide) (Bytes.flag b)
theorem encB_bytes {x : S63} (hv : ∀ y ∈ x.f2, I64 y.f1) : Bytes (encB x) := by
  unfold encB
  split
  · rename_i h
    have hz := fault_zero h
    exact (txt_bytes _).append ((puti_b _).append ((puti_b _).append (Bytes.flat fun y hy => encVal_bytes (validB_ok (hz.2.2.2 y hy) (hv y hy)))))
  · exact Bytes.nil
theorem encSeenL_bytes (last : Int) (xs : List S65) (hv : ∀ x ∈ xs, ∀ y ∈ x.f1.f2, I64 y.f1) : Bytes (encSeenL last xs) := by
  induction xs generalizing last with
  | nil => exact Bytes.nil
  | cons x xs ih =>
    exact ((puti_b _).append ((Bytes.flag _).append (encB_bytes (hv x List.mem_cons_self)))).append (ih _ (fun y hy => hv y (List.mem_cons_of_mem _ hy)))
theorem laid_bytes {m : Img} (hm : ImgI m) : Bytes (laid m) := by
  have hmg : Bytes magicL := by intro b hb; simp only [magicL, List.mem_cons, List.not_mem_nil, or_false] at hb; rcases hb with rfl | rfl | rfl | rfl <;> decide
  refine ((((Bytes.nil.append hmg).append ?_).append (encTypes_bytes _)).append (encSaveds_bytes _)).append ((puti_b _).append (encSeenL_bytes 0 _ hm.vals))
  exact (puti_b _).append ((puti_b _).append ((puti_b _).append (puti_bytes _)))
section
variable {ops : Array Oper} {o : Oper} {a : Act} {Q : Exit → Act → World → Prop}
theorem bstep_row {W : World} {K : Act → World → Prop} {E : Prop} {base c : Nat} {A : Option Addr} {l : List Int} (hgd : o.guard = none) (s x : Operand)
    (ho : o.op = .call { callee := .builtin .append, args := #[s, x], argTypes := #[33, 33] }) (hbs : base ≤ W.heap.size)
    (hO : BRow W base (.slice A l.length c) l) (ys : List Int) (hpos : 0 < ys.length) (ad : Addr) (n cc : Nat) (hn : n = ys.length) (hys : ∀ j u, (nums .u8 ys)[j]? = some u → W.cell? (ad.add j) = some u)
    (hs : a.eval s = .slice A l.length c) (hx : a.eval x = .slice (some ad) n cc) (hl : l.length + ys.length ≤ 140737488355328)
    (h : ∀ v1 w1, Hid (BRow w1 base v1 (l ++ ys)) → Hid (Below base W w1) → K (a.put o.dst v1) w1) :
    if Region.wanted o (yielded ops a.tmps) = true then Oper.wp Tryz.prog o a W K Q else E := by
  subst hn
  obtain ⟨i0, hi, hzz⟩ := Option.map_eq_some_iff.1 info5
  simp only [Prod.mk.injEq] at hzz
  obtain ⟨hz0, hz1, hz2⟩ := hzz
  refine step_append_lies W hgd s x 33 ho base 5 i0 (.int .u8 0) 1 1 Tryz.underlying33 hi hz0 hz1 hz2 rfl (by omega) _ l.length (nums .u8 l) hs hO ad ys.length cc (nums .u8 ys) hx (by rw [nums_length, Nat.mul_one]) hys
    (by intro u hu; simp only [nums, List.mem_map] at hu; obtain ⟨b, _, rfl⟩ := hu; rfl) hpos (by simp only [maxLen]; omega) (by omega) hbs _ rfl ?_
  intro g cap w1 hO1 hg _ _
  have hO1' : BRow w1 base (.slice (some ⟨g, 0, none⟩) (l ++ ys).length cap) (l ++ ys) := by unfold BRow; rw [List.length_append, nums_append]; exact hO1
  have := h _ w1 (Lib.hid hO1') (Lib.hid ⟨hg.os, hg.tape, hg.output, hg.size, fun k hk => hg.block k (Nat.lt_of_lt_of_le hk hbs) (fun e => by have := own_base hO k e.symm; omega)⟩)
  rw [List.length_append] at this
  exact this
end
def saveE (m : Img) : Int := if mayB m = true then (if badL m.seens = true then 220 else (if 67108864 < (laid m).length + 4 then 2 else 0)) else 220
def saveB (m : Img) : List Int := if saveE m = 0 then laid m ++ sumB (laid m) else []
def SPost (w : World) (m : Img) (e : Ending) (w' : World) : Prop := ∃ v, e = .returned (.tuple #[v, .int .i64 (saveE m)]) ∧ BRow w' w.heap.size v (saveB m) ∧ (saveE m ≠ 0 → v = .slice none 0 0) ∧ Below w.heap.size w w'
theorem SPost.fail {w w' : World} {m : Img} {e : Ending} {n : Int} (hn : saveE m = n) (h0 : n ≠ 0) (he : e = .returned (.tuple #[.slice none 0 0, .int .i64 n])) (hB : Below w.heap.size w w') : SPost w m e w' := by
  subst hn
  refine ⟨_, he, ?_, fun _ => rfl, hB⟩
  rw [saveB, if_neg h0]
  exact BRow.nil _ _
theorem layout_ix0 (W : World) : (Instr.index 78 (.agg layoutV) (.int .i64 0)).run Tryz.prog W = .ok (.agg #[.func (.func 43) #[] #[], .func (.func 44) #[] #[]]) W := by kernel_rfl
theorem layout_ix1 (W : World) : (Instr.index 78 (.agg layoutV) (.int .i64 1)).run Tryz.prog W = .ok (.agg #[.func (.func 45) #[] #[], .func (.func 46) #[] #[]]) W := by kernel_rfl
theorem layout_ix2 (W : World) : (Instr.index 78 (.agg layoutV) (.int .i64 2)).run Tryz.prog W = .ok (.agg #[.func (.func 47) #[] #[], .func (.func 48) #[] #[]]) W := by kernel_rfl
theorem layout_ix3 (W : World) : (Instr.index 78 (.agg layoutV) (.int .i64 3)).run Tryz.prog W = .ok (.agg #[.func (.func 49) #[] #[], .func (.func 50) #[] #[]]) W := by kernel_rfl
theorem layout_ix4 (W : World) : (Instr.index 78 (.agg layoutV) (.int .i64 4)).run Tryz.prog W = .ok (.agg #[.func (.func 51) #[] #[], .func (.func 52) #[] #[]]) W := by kernel_rfl
def ImgV (w : World) (m : Img) (A4 : Option Addr) (c4 : Nat) (A5 : Option Addr) (c5 : Nat) (A6 : Option Addr) (c6 : Nat) : Prop :=
  (Kd.C k56 w A4 m.types.length m.types ∧ m.types.length ≤ c4) ∧ (Kd.C k60 w A5 m.saved.length m.saved ∧ m.saved.length ≤ c5) ∧ (Kd.C k65 w A6 m.seens.length m.seens ∧ m.seens.length ≤ c6)
set_option maxRecDepth 100000 in
set_option maxHeartbeats 8000000 in
theorem Save_any {w : World} {m : Img} {A4 A5 A6 : Option Addr} {c4 c5 c6 : Nat} (hG : GW w) (hm : ImgI m) (hV : ImgV w m A4 c4 A5 c5 A6 c6) (hl : mayB m = true → (laid m).length ≤ 10000000000000) :
    Calls Tryz.prog 7 #[.agg #[.int .i64 m.runs, .int .i64 m.made, .int .i64 m.seq, .int .i64 m.now, .slice A4 m.types.length c4, .slice A5 m.saved.length c5, .slice A6 m.seens.length c6]] w (SPost w m) := by
  generalize hW0 : w.alloc (.cells #[.int .i64 m.runs, .int .i64 m.made, .int .i64 m.seq, .int .i64 m.now, .slice A4 m.types.length c4, .slice A5 m.saved.length c5, .slice A6 m.seens.length c6] 31) = W0
  have HW0 := Lib.hid hW0
  have hb0 : Below w.heap.size w W0 := by rw [← hW0]; exact below_new w _
  have hV0 : ImgV W0 m A4 c4 A5 c5 A6 c6 := ⟨⟨Kd.C_below hV.1.1 hb0, hV.1.2⟩, ⟨Kd.C_below hV.2.1.1 hb0, hV.2.1.2⟩, ⟨Kd.C_below hV.2.2.1 hb0, hV.2.2.2⟩⟩
  have hI : ImgAt W0 W0 w.heap.size m := ⟨A4, c4, A5, c5, A6, c6, by rw [← hW0]; exact blk_new w _, hV0⟩
  have hG0 : GW W0 := hG.below hb0
  have HI := Lib.hid hI
  have HG0 := Lib.hid hG0
  have HB0 := Lib.hid hb0
  have HM := Lib.hid hm
  have HL0 := Lib.hid hl
  have HMay := Lib.hid (may_any hG0 hI hm.lt hm.lq hm.ls hm.la)
  clear hG hm hV hl hW0 hb0 hV0 hI hG0
  by_cases hmay : mayB m = true
  · have HE := Lib.hid (show saveE m = (if badL m.seens = true then 220 else (if 67108864 < (laid m).length + 4 then 2 else 0)) from if_pos hmay)
    have HL := Lib.hid (HL0.out hmay)
    rw [hmay] at HMay
    clear hmay
    go_enter Tryz.func7, Tryz.ntmps7
    go_wp2_with fail
    rw [HW0.out]
    go_wp2_with (first
      | (go_at_call 22; refine HMay.out.mono ?_; rintro e w1 ⟨rfl, hB1⟩; have HB1 := Lib.hid hB1; clear hB1)
      | (go_at_call 23; refine (layout_any _).mono ?_; rintro e w2 ⟨rfl, hB2⟩; have HB2 := Lib.hid hB2; clear hB2))
    have hS0 : SSt W0 w1.heap.size w.heap.size m 0 w2 := by
      have hbn := below_new w1 (.cells #[.slice none 0 0, .bool false] 73)
      have h12 := below_step hbn HB2.out
      have h02 := below_step HB1.out h12
      refine ⟨⟨HB1.out.size, none, 0, blk_below (blk_new w1 _) HB2.out, BRow.nil _ _⟩, HI.out.below h02, Wr.of_below h02, ?_⟩
      obtain ⟨_, _, _, _, _, _, hb, _⟩ := HI.out
      have := blk_lt' hb
      have := HB1.out.size
      omega
    have HS0 := Lib.hid hS0
    have PA : Hid (∀ k, k < 5 → ∀ W, SSt W0 w1.heap.size w.heap.size m k W → Hid (∀ W1, Below W.heap.size W W1 → Calls Tryz.prog (43 + 2 * k) #[.pointer (some ⟨w1.heap.size, 0, none⟩), .pointer (some ⟨w.heap.size, 0, none⟩)] W1 fun e w' => e = .returned (.tuple #[]) ∧ SSt W0 w1.heap.size w.heap.size m (k + 1) w')) := Lib.hid (fun k hk W hS => Lib.hid (fun W1 hB => part_any HG0.out HM.out HL.out hk ⟨hS.1.below hB, hS.2.1.below hB, hS.2.2.1.trans (Wr.of_below hB), hS.2.2.2⟩))
    clear hS0
    go_loopw [12] (fun t12 wr => ∃ k : Nat, k ≤ 5 ∧ t12 = .int .i64 k ∧ Hid (SSt W0 w1.heap.size w.heap.size m k wr)) (fun t12 _ => 5 - (intOf t12).toNat)
    case atStart => exact ⟨0, by omega, rfl, HS0⟩
    case round =>
      clear HS0
      obtain ⟨k, hk, rfl, HS⟩ := hrel
      obtain rfl | rfl | rfl | rfl | rfl | rfl : k = 0 ∨ k = 1 ∨ k = 2 ∨ k = 3 ∨ k = 4 ∨ k = 5 := by omega
      · have hp := PA.out 0 (by omega) wr HS.out
        have HP := Lib.hid hp
        have hix := layout_ix0
        clear hp
        go_wp2_with (go_at_call 43; refine (HP.out.out _ (below_new wr _)).mono ?_; rintro e w3 ⟨rfl, hS3⟩; have HS3 := Lib.hid hS3; clear hS3)
        go_roundw
        case rel => exact ⟨1, by omega, rfl, HS3⟩
        case measure => simp [intOf]
      · have hp := PA.out 1 (by omega) wr HS.out
        have HP := Lib.hid hp
        have hix := layout_ix1
        clear hp
        go_wp2_with (go_at_call 45; refine (HP.out.out _ (below_new wr _)).mono ?_; rintro e w3 ⟨rfl, hS3⟩; have HS3 := Lib.hid hS3; clear hS3)
        go_roundw
        case rel => exact ⟨2, by omega, rfl, HS3⟩
        case measure => simp [intOf]
      · have hp := PA.out 2 (by omega) wr HS.out
        have HP := Lib.hid hp
        have hix := layout_ix2
        clear hp
        go_wp2_with (go_at_call 47; refine (HP.out.out _ (below_new wr _)).mono ?_; rintro e w3 ⟨rfl, hS3⟩; have HS3 := Lib.hid hS3; clear hS3)
        go_roundw
        case rel => exact ⟨3, by omega, rfl, HS3⟩
        case measure => simp [intOf]
      · have hp := PA.out 3 (by omega) wr HS.out
        have HP := Lib.hid hp
        have hix := layout_ix3
        clear hp
        go_wp2_with (go_at_call 49; refine (HP.out.out _ (below_new wr _)).mono ?_; rintro e w3 ⟨rfl, hS3⟩; have HS3 := Lib.hid hS3; clear hS3)
        go_roundw
        case rel => exact ⟨4, by omega, rfl, HS3⟩
        case measure => simp [intOf]
      · have hp := PA.out 4 (by omega) wr HS.out
        have HP := Lib.hid hp
        have hix := layout_ix4
        clear hp
        go_wp2_with (go_at_call 51; refine (HP.out.out _ (below_new wr _)).mono ?_; rintro e w3 ⟨rfl, hS3⟩; have HS3 := Lib.hid hS3; clear hS3)
        go_roundw
        case rel => exact ⟨5, by omega, rfl, HS3⟩
        case measure => simp [intOf]
      · clear PA
        have hWA : WAt wr w1.heap.size W0.heap.size (laid m) (badL m.seens) := by
          have := HS.out.1
          rw [show badK m 5 = badL m.seens from by simp [badK]] at this
          exact this
        have hBr : Below w.heap.size w wr := below_step HB0.out (HS.out.2.2.1.below (Nat.le_refl _))
        have HBR := Lib.hid hBr
        have HLB := Lib.hid HL.out
        obtain ⟨A, c, g0, g1, _, _, hO⟩ := hWA.cells
        have HO := Lib.hid hO
        have hll : (laid m).length ≤ 10000000000000 := HL.out
        have hlb : ¬ badL m.seens = true → 67108864 < (laid m).length + 4 → saveE m = 2 := fun h1 h2 => by rw [HE.out, if_neg h1, if_pos h2]
        have hla : ¬ badL m.seens = true → ¬ 67108864 < (laid m).length + 4 → saveE m = 0 := fun h1 h2 => by rw [HE.out, if_neg h1, if_neg h2]
        have HLB := Lib.hid hlb
        have HLA := Lib.hid hla
        have HLK := Lib.hid (show Bytes (laid m) ∧ BRow wr W0.heap.size (.slice A (laid m).length c) (laid m) from ⟨laid_bytes HM.out, hO⟩)
        have HBW1 := Lib.hid HB1.out.size
        clear HS HB1 HB2 hWA hBr hO hlb hla
        by_cases hbd : badL m.seens = true
        · have HE2 := Lib.hid (HE.out.trans (if_pos hbd))
          rw [hbd] at g1
          clear hbd
          go_wp2_with fail
          go_ret2
          exact SPost.fail HE2.out (by decide) rfl HBR.out
        · have hbd' : badL m.seens = false := by simpa using hbd
          have HLB := Lib.hid (HLB.out hbd)
          have HLA := Lib.hid (HLA.out hbd)
          rw [hbd'] at g1
          clear hbd hbd'
          generalize hLL : laid m = L at *
          have hLLH := Lib.hid hLL
          clear hLL
          by_cases hlen : 67108864 < L.length + 4
          · have d1 : decide (67108864 < (L.length : Int) + 4) = true := decide_eq_true (by omega)
            have HE2 := Lib.hid (HLB.out hlen)
            go_wp2_with fail
            go_ret2
            exact SPost.fail HE2.out (by decide) rfl HBR.out
          · have d1 : decide (67108864 < (L.length : Int) + 4) = false := decide_eq_false (by omega)
            have HE2 := Lib.hid (HLA.out hlen)
            obtain ⟨hLB, hLO⟩ := HLK.out
            obtain ⟨hcl, hC⟩ := BRow.reads hLO
            have HSM := Lib.hid (show ∀ W, Below wr.heap.size wr W → Calls Tryz.prog 24 #[.slice A L.length c] W fun e w' => ∃ g c1, e = .returned (.slice (some ⟨g, 0, none⟩) 4 c1) ∧ BRow w' W.heap.size (.slice (some ⟨g, 0, none⟩) 4 c1) (sumB L) ∧ Below W.heap.size W w' from fun W hW => sum_any (Kd.C_below hC hW) hcl hLB (by omega))
            have HLL := Lib.hid (show L.length + (sumB L).length ≤ 140737488355328 by rw [sumB_len]; omega)
            have HSL := Lib.hid (sumB_len L)
            have HOB := Lib.hid (show ∀ W, Below wr.heap.size wr W → BRow W W0.heap.size (.slice A L.length c) L from fun W hW => BRow.below hLO hW)
            have HZ := Lib.hid (show saveB m = L ++ sumB L by rw [saveB, if_pos HE2.out, hLLH.out])
            have hWs : W0.heap.size ≤ wr.heap.size := by
              obtain ⟨_, hsz⟩ : True ∧ w1.heap.size < wr.heap.size := ⟨trivial, World.block_lt_of_cell? wr _ g0⟩
              have := HBW1.out
              omega
            clear hLB hLO hcl hC HLK
            generalize sumB L = SB at *
            go_wp2_with fail
            go_region_law (first
              | (go_simp; go_at_call 24; refine (HSM.out _ (by first | exact below_drew (Below.refl _ _) | exact Below.refl _ _)).mono ?_; rintro e w5 ⟨g5, c5, rfl, h5, hb5⟩; have H5 := Lib.hid h5; have hbk : Below wr.heap.size wr w5 := (by first | exact below_step (below_drew (Below.refl _ _)) hb5 | exact hb5); have HBK := Lib.hid hbk; have g0' := pw_cell_below hbk g0; clear h5 hb5 hbk)
              | (refine bstep_row (base := W0.heap.size) (by rfl) _ _ (by rfl) (by have := HBK.out.size; omega) (HOB.out _ HBK.out) SB (by rw [HSL.out]; omega) _ _ _ HSL.out.symm (by exact H5.out.cells (g := g5) rfl) (by rfl) (by rfl) HLL.out ?_; intro v6 w6 HO6 HB6))
            all_goals
              go_wp2_with fail
              go_ret2
              refine ⟨v6, ?_, ?_, fun h => absurd HE2.out h, (below_step HBR.out HBK.out).trans (HB6.out.mono HB0.out.size)⟩
              · rw [HE2.out]
                rfl
              · rw [HZ.out]
                exact own_less HO6.out (HB0.out.size)
  · have HE := Lib.hid (show saveE m = 220 from if_neg hmay)
    have hmay' : mayB m = false := by simpa using hmay
    rw [hmay'] at HMay
    clear hmay hmay'
    go_enter Tryz.func7, Tryz.ntmps7
    go_wp2_with fail
    rw [HW0.out]
    go_wp2_with (first
      | (go_at_call 22; refine HMay.out.mono ?_; rintro e w1 ⟨rfl, hB1⟩; have HB1 := Lib.hid hB1; clear hB1))
    go_ret2
    exact SPost.fail HE.out (by decide) rfl (below_step HB0.out HB1.out)
end Go.Proofs.YtcfgmkmllcfjjaaGreatDoor
namespace Go.Proofs.YtcfgmkmllcfjjaaGreatDoor.PImageAll
open Go.RowKit Go.Proofs.YtcfgmkmllcfjjaaGreatDoorW.PrintWords Go.Proofs.YtcfgmkmllcfjjaaGreatDoorW.PrintLast Go.Proofs.YtcfgmkmllcfjjaaGreatDoorW.PrintMore
attribute [local go_sem] max2_int min2_int max_two min_two max_three min_three max_four min_four
set_option linter.unusedVariables false
set_option linter.unusedSimpArgs false
theorem eqA26 (d : Nat) (w : World) (x0 y0 : Int) (x1 y1 : Int) :
    (Op.equalIn (d + 2) 26 (.agg #[.int .i64 x0, .int .i64 x1]) (.agg #[.int .i64 y0, .int .i64 y1])).run Tryz.prog w = .ok (x0 == y0 && (x1 == y1)) w := by
  refine eqA_of Tryz.underlying26 (by kernel_rfl) ?_
  refine eqf_cons (by rfl) (by go_simp; rfl) (by go_simp; rfl) (by go_simp) ?_
  exact eqf_last (by rfl) (by go_simp; rfl) (by go_simp; rfl) (by go_simp)
end Go.Proofs.YtcfgmkmllcfjjaaGreatDoor.PImageAll
namespace Go.Proofs.YtcfgmkmllcfjjaaGreatDoor.PImageAll
open Go.RowKit Go.Proofs.YtcfgmkmllcfjjaaGreatDoorW.PrintWords Go.Proofs.YtcfgmkmllcfjjaaGreatDoorW.PrintLast Go.Proofs.YtcfgmkmllcfjjaaGreatDoorW.PrintMore
attribute [local go_sem] max2_int min2_int max_two min_two max_three min_three max_four min_four
set_option linter.unusedVariables false
set_option linter.unusedSimpArgs false
theorem eqA58 (d : Nat) (w : World) (x0 y0 : ByteArray) (x1 y1 : Int) :
    (Op.equalIn (d + 2) 58 (.agg #[.string x0, .int .i64 x1]) (.agg #[.string y0, .int .i64 y1])).run Tryz.prog w = .ok (x0.toList == y0.toList && (x1 == y1)) w := by
  refine eqA_of Tryz.underlying58 (by kernel_rfl) ?_
  refine eqf_cons (by rfl) (by go_simp; rfl) (by go_simp; rfl) (by go_simp) ?_
  exact eqf_last (by rfl) (by go_simp; rfl) (by go_simp; rfl) (by go_simp)
end Go.Proofs.YtcfgmkmllcfjjaaGreatDoor.PImageAll
namespace Go.Proofs.YtcfgmkmllcfjjaaGreatDoor.PImageAll
open Go.RowKit Go.Proofs.YtcfgmkmllcfjjaaGreatDoorW.PrintWords Go.Proofs.YtcfgmkmllcfjjaaGreatDoorW.PrintLast Go.Proofs.YtcfgmkmllcfjjaaGreatDoorW.PrintMore
attribute [local go_sem] max2_int min2_int max_two min_two max_three min_three max_four min_four
set_option linter.unusedVariables false
set_option linter.unusedSimpArgs false
theorem eqA60 (d : Nat) (w : World) (x0 y0 : ByteArray) (x1 y1 : ByteArray) (x2 y2 : Int) (x3 y3 : Bool) :
    (Op.equalIn (d + 2) 60 (.agg #[.string x0, .string x1, .int .i64 x2, .bool x3]) (.agg #[.string y0, .string y1, .int .i64 y2, .bool y3])).run Tryz.prog w = .ok (x0.toList == y0.toList && (x1.toList == y1.toList && (x2 == y2 && (x3 == y3)))) w := by
  refine eqA_of Tryz.underlying60 (by kernel_rfl) ?_
  refine eqf_cons (by rfl) (by go_simp; rfl) (by go_simp; rfl) (by go_simp) ?_
  refine eqf_cons (by rfl) (by go_simp; rfl) (by go_simp; rfl) (by go_simp) ?_
  refine eqf_cons (by rfl) (by go_simp; rfl) (by go_simp; rfl) (by go_simp) ?_
  exact eqf_last (by rfl) (by go_simp; rfl) (by go_simp; rfl) (by go_simp)
end Go.Proofs.YtcfgmkmllcfjjaaGreatDoor.PImageAll
namespace Go.Proofs.YtcfgmkmllcfjjaaGreatDoor.PImageAll
open Go.RowKit Go.Proofs.YtcfgmkmllcfjjaaGreatDoorW.PrintWords Go.Proofs.YtcfgmkmllcfjjaaGreatDoorW.PrintLast Go.Proofs.YtcfgmkmllcfjjaaGreatDoorW.PrintMore
attribute [local go_sem] max2_int min2_int max_two min_two max_three min_three max_four min_four
set_option linter.unusedVariables false
set_option linter.unusedSimpArgs false
theorem eqA67 (d : Nat) (w : World) (x0 y0 : Int) (x1 y1 : Int) (x2 y2 : ByteArray) (x3 y3 : Bool) :
    (Op.equalIn (d + 2) 67 (.agg #[.int .i64 x0, .int .i64 x1, .string x2, .bool x3]) (.agg #[.int .i64 y0, .int .i64 y1, .string y2, .bool y3])).run Tryz.prog w = .ok (x0 == y0 && (x1 == y1 && (x2.toList == y2.toList && (x3 == y3)))) w := by
  refine eqA_of Tryz.underlying67 (by kernel_rfl) ?_
  refine eqf_cons (by rfl) (by go_simp; rfl) (by go_simp; rfl) (by go_simp) ?_
  refine eqf_cons (by rfl) (by go_simp; rfl) (by go_simp; rfl) (by go_simp) ?_
  refine eqf_cons (by rfl) (by go_simp; rfl) (by go_simp; rfl) (by go_simp) ?_
  exact eqf_last (by rfl) (by go_simp; rfl) (by go_simp; rfl) (by go_simp)
end Go.Proofs.YtcfgmkmllcfjjaaGreatDoor.PImageAll
