import Derived.Test.YtcfgmkmllcfjjaaDoorZInG
set_option linter.unusedVariables false
set_option linter.unusedSimpArgs false
namespace Go.Proofs.YtcfgmkmllcfjjaaDoor
open Go.RowKit Go.Proofs.YtcfgmkmllcfjjaaDoorW.PrintWords Go.Proofs.YtcfgmkmllcfjjaaDoorW.PrintMore PImageForm
theorem intF_puti {n : Int} (h : I64 n) (t : List Int) : intF (puti n ++ t) = (n, ((puti n).length : Int), 0) := by
  unfold intF
  rw [Int_puti h]
  rfl
theorem tk_app (a b : List Int) : tk (a.length : Int) (a ++ b) = a.length := by
  unfold tk
  rw [if_pos ⟨by omega, by rw [List.length_append]; omega⟩, Int.toNat_natCast]
theorem tbad_app (a b : List Int) : tbad (a.length : Int) (a ++ b) = false := by
  unfold tbad
  rw [decide_eq_true (show 0 ≤ (a.length : Int) ∧ (a.length : Int) ≤ ((a ++ b).length : Nat) from ⟨by omega, by rw [List.length_append]; omega⟩)]
  rfl
theorem takeR_app (a b : List Int) (bd : Bool) : takeR (a.length : Int) (a ++ b, bd) = (b, bd) := by
  unfold takeR
  rw [show ((a ++ b, bd) : Rs).1 = a ++ b from rfl, tk_app, tbad_app, List.drop_left, Bool.or_false]
theorem takenR_app (a b : List Int) (bd : Bool) : takenR (a.length : Int) (a ++ b, bd) = a := by
  unfold takenR
  rw [show ((a ++ b, bd) : Rs).1 = a ++ b from rfl, tk_app, List.take_left]
theorem numR_puti {n : Int} (h : I64 n) (t : List Int) : numR (puti n ++ t, false) = (n, (t, false)) := by
  unfold numR
  rw [show ((puti n ++ t, false) : Rs).1 = puti n ++ t from rfl, intF_puti h t]
  show (n, takeR ((puti n).length : Int) (puti n ++ t, false)) = _
  rw [takeR_app]
theorem strOf_bytesOf (s : ByteArray) : strOfNums (bytesOf s) = s := by
  apply ByteArray.ext
  apply Array.ext'
  simp only [strOfNums, bytesOf, List.map_map]
  conv => rhs; rw [← List.map_id s.data.toList]
  apply List.map_congr_left
  intro b _
  simp
theorem textR_txt {s : ByteArray} (h : s.size ≤ 9223372036854775807) (t : List Int) : textR (txt s ++ t, false) = (s, (t, false)) := by
  unfold textR
  rw [txt, List.append_assoc, numR_puti (len_I64 h)]
  show (strOfNums (takenR (s.size : Int) (bytesOf s ++ t, false)), takeR (s.size : Int) (bytesOf s ++ t, false)) = _
  rw [show (s.size : Int) = ((bytesOf s).length : Int) by rw [bytesOf_length], takenR_app, takeR_app, strOf_bytesOf]
theorem byteR_cons (x : Int) (t : List Int) : byteR (x :: t, false) = (x, (t, false)) := by
  unfold byteR
  have h1 := takenR_app [x] t false
  have h2 := takeR_app [x] t false
  rw [show (([x].length : Nat) : Int) = 1 from rfl] at h1 h2
  rw [show (x :: t) = [x] ++ t from rfl, h1, h2]
  rfl
theorem truthR_flag (b : Bool) (t : List Int) : truthR ([if b then (1 : Int) else 0] ++ t, false) = (b, (t, false)) := by
  unfold truthR
  rw [show [if b then (1 : Int) else 0] ++ t = (if b then (1 : Int) else 0) :: t from rfl, byteR_cons]
  cases b <;> rfl
theorem attrR_enc {x : S61} (hs : x.f0.size ≤ 9223372036854775807) (h0 : 0 ≤ x.f1) (h1 : x.f1 < 256) (t : List Int) (z : Int) : attrR ((encAttr x ++ t, false), z) = (x, ((t, false), z)) := by
  unfold attrR
  rw [show (((encAttr x ++ t, false), z) : Rl).1 = (txt x.f0 ++ ([IntKind.u8.wrap x.f1] ++ t), false) by rw [encAttr, List.append_assoc], textR_txt hs]
  show ((⟨x.f0, (byteR ([IntKind.u8.wrap x.f1] ++ t, false)).1⟩ : S61), ((byteR ([IntKind.u8.wrap x.f1] ++ t, false)).2, z)) = _
  rw [show [IntKind.u8.wrap x.f1] ++ t = IntKind.u8.wrap x.f1 :: t from rfl, byteR_cons, show IntKind.u8.wrap x.f1 = x.f1 by rw [IntKind.wrap_u8]; omega]
section
variable {α : Type} {one : Rl → α × Rl} {f : α → List Int}
theorem getF_enc (t : List Int) (z : Int) : ∀ xs : List α, (∀ x ∈ xs, ∀ t, one ((f x ++ t, false), z) = (x, ((t, false), z))) → getF one xs.length ((xs.flatMap f ++ t, false), z) = (xs, ((t, false), z))
  | [], _ => by
    show getF one 0 _ = _
    rw [getF]
    rfl
  | x :: xs, h => by
    rw [List.length_cons, getF, List.flatMap_cons, List.append_assoc, h x List.mem_cons_self, getF_enc t z xs (fun y hy => h y (List.mem_cons_of_mem _ hy))]
    rfl
theorem getR_enc (t : List Int) (z : Int) (xs : List α) (hx : xs.length ≤ 9223372036854775807) (h : ∀ x ∈ xs, ∀ t, one ((f x ++ t, false), z) = (x, ((t, false), z))) : getR one ((puti xs.length ++ (xs.flatMap f ++ t), false), z) = (xs, ((t, false), z)) := by
  unfold getR
  rw [show (((puti xs.length ++ (xs.flatMap f ++ t), false), z) : Rl).1 = (puti xs.length ++ (xs.flatMap f ++ t), false) from rfl, numR_puti (len_I64 hx)]
  rw [if_neg (by show ¬ (xs.length : Int) < 0; omega)]
  show getF one ((xs.length : Int)).toNat ((xs.flatMap f ++ t, false), z) = _
  rw [Int.toNat_natCast, getF_enc t z xs h]
end
theorem typeR_enc {x : S64} (hs : x.f0.size ≤ 9223372036854775807) (hl : x.f1.length ≤ 9223372036854775807) (ha : ∀ y ∈ x.f1, y.f0.size ≤ 9223372036854775807 ∧ 0 ≤ y.f1 ∧ y.f1 < 256) (t : List Int) (z : Int) : typeR ((encType x ++ t, false), z) = (x, ((t, false), z)) := by
  unfold typeR
  rw [show (((encType x ++ t, false), z) : Rl).1 = (txt x.f0 ++ (puti x.f1.length ++ (x.f1.flatMap encAttr ++ t)), false) by rw [encType, encAttrs, List.append_assoc, List.append_assoc], textR_txt hs]
  show ((⟨x.f0, (getR attrR ((puti x.f1.length ++ (x.f1.flatMap encAttr ++ t), false), z)).1⟩ : S64), (getR attrR ((puti x.f1.length ++ (x.f1.flatMap encAttr ++ t), false), z)).2) = _
  rw [getR_enc (f := encAttr) t z x.f1 hl (fun y hy t => attrR_enc (ha y hy).1 (ha y hy).2.1 (ha y hy).2.2 t z)]
theorem savedR_enc {x : S57} (hs : x.f0.size ≤ 9223372036854775807) (ht : x.f1.size ≤ 9223372036854775807) (hi : I64 x.f2) (t : List Int) (z : Int) : savedR ((encSaved x ++ t, false), z) = (x, ((t, false), z)) := by
  unfold savedR
  rw [show (((encSaved x ++ t, false), z) : Rl).1 = (txt x.f0 ++ (txt x.f1 ++ (puti x.f2 ++ ([if x.f3 then (1 : Int) else 0] ++ t))), false) by rw [encSaved, List.append_assoc, List.append_assoc, List.append_assoc], textR_txt hs]
  simp only
  rw [textR_txt ht]
  simp only
  rw [numR_puti hi]
  simp only
  rw [truthR_flag]
section
variable {l t : List Int} {p : Nat}
theorem drop_on {a : List Int} (h : l.drop p = a ++ t) : l.drop (p + a.length) = t := by
  rw [← List.drop_drop, h, List.drop_left]
theorem room {a : List Int} (h : l.drop p = a ++ t) (hp : 0 < a.length) : p + a.length ≤ l.length := by
  have h1 := congrArg List.length h
  rw [List.length_drop, List.length_append] at h1
  omega
theorem wnum_at {n lo hi : Int} (h : l.drop p = puti n ++ t) (hn : I64 n) (h0 : lo ≤ n) (h1 : n ≤ hi) : wnum l lo hi (p, 0) = (n, (p + (puti n).length, 0)) := by
  unfold wnum
  rw [show ((p, (0 : Int)) : Ws).1 = p from rfl, h, intF_puti hn]
  simp only [Int.toNat_natCast]
  rw [if_pos trivial, if_pos trivial, if_pos ⟨h0, h1⟩]
theorem wbytes_at {s : ByteArray} (h : l.drop p = bytesOf s ++ t) : wbytes l s.size (p, 0) = (s, (p + (bytesOf s).length, 0)) := by
  have h1 := congrArg List.length h
  rw [List.length_drop, List.length_append, bytesOf_length] at h1
  unfold wbytes
  rw [show ((p, (0 : Int)) : Ws).1 = p from rfl, h, if_pos rfl, if_pos (by omega)]
  have h2 : (bytesOf s ++ t).take s.size = bytesOf s := by rw [← bytesOf_length s, List.take_left]
  rw [h2, strOf_bytesOf, bytesOf_length]
theorem wone_at {x lo hi : Int} (h : l.drop p = x :: t) (h0 : lo ≤ x) (h1 : x ≤ hi) : wone l lo hi (p, 0) = (x, (p + 1, 0)) := by
  have h2 := congrArg List.length h
  rw [List.length_drop, List.length_cons] at h2
  unfold wone
  rw [show ((p, (0 : Int)) : Ws).1 = p from rfl, h, if_pos rfl, if_pos (by omega), List.headD_cons, if_pos ⟨h0, h1⟩]
theorem wtxt_at {s : ByteArray} {lo hi : Int} (h : l.drop p = txt s ++ t) (hs : s.size ≤ 9223372036854775807) (h0 : lo ≤ s.size) (h1 : (s.size : Int) ≤ hi) : wnum l lo hi (p, 0) = ((s.size : Int), (p + (puti s.size).length, 0)) ∧ wbytes l s.size (p + (puti s.size).length, 0) = (s, (p + (txt s).length, 0)) := by
  rw [txt, List.append_assoc] at h
  refine ⟨wnum_at h (len_I64 hs) h0 h1, ?_⟩
  rw [wbytes_at (drop_on h), txt, List.length_append, Nat.add_assoc]
theorem wvalue_at {v : S66} (hv : ValOk v) (h : l.drop p = encVal v ++ t) : wvalue l (p, 0) = (v, (p + (encVal v).length, 0)) := by
  unfold encVal at h ⊢
  rcases hv with ⟨n, hn⟩ | ⟨s, hs⟩ | ⟨b⟩
  · have h : l.drop p = 1 :: (puti n ++ t) := h
    have h2 : l.drop (p + 1) = puti n ++ t := drop_on (a := [1]) h
    have w1 := wone_at h (lo := 1) (hi := 3) (by decide) (by decide)
    have w2 := wnum_at h2 hn (lo := minI) (hi := maxI) hn.1 hn.2
    unfold wvalue
    rw [w1]
    simp only
    rw [if_pos trivial, if_pos trivial, w2]
    show _ = (_, (p + (1 :: puti n).length, 0))
    rw [List.length_cons, show p + 1 + (puti n).length = p + ((puti n).length + 1) by omega]
  · have h : l.drop p = 2 :: (txt s ++ t) := h
    have h2 : l.drop (p + 1) = txt s ++ t := drop_on (a := [2]) h
    have w1 := wone_at h (lo := 1) (hi := 3) (by decide) (by decide)
    obtain ⟨w2, w3⟩ := wtxt_at h2 (by omega) (lo := 0) (hi := 256) (by omega) (by omega)
    unfold wvalue
    rw [w1]
    simp only
    rw [if_pos trivial, if_neg (by decide), if_pos trivial, w2]
    simp only [Int.toNat_natCast]
    rw [w3]
    show _ = (_, (p + (2 :: txt s).length, 0))
    rw [List.length_cons, show p + 1 + (txt s).length = p + ((txt s).length + 1) by omega]
  · have h : l.drop p = 3 :: ((if b then (1 : Int) else 0) :: t) := h
    have h2 : l.drop (p + 1) = (if b then (1 : Int) else 0) :: t := drop_on (a := [3]) h
    have w1 := wone_at h (lo := 1) (hi := 3) (by decide) (by decide)
    have w2 := wone_at h2 (lo := 0) (hi := 1) (by cases b <;> decide) (by cases b <;> decide)
    unfold wvalue
    rw [w1]
    simp only
    rw [if_pos trivial, if_neg (by decide), if_neg (by decide), w2]
    cases b <;> rfl
theorem wvals_at : ∀ (vs : List S66) (p : Nat), (∀ v ∈ vs, ValOk v) → l.drop p = vs.flatMap encVal ++ t → wvals l vs.length (p, 0) = (vs, (p + (vs.flatMap encVal).length, 0))
  | [], p, _, _ => rfl
  | v :: vs, p, hv, h => by
    rw [List.flatMap_cons, List.append_assoc] at h
    have h1 := wvalue_at (hv v List.mem_cons_self) h
    have h2 := wvals_at vs (p + (encVal v).length) (fun y hy => hv y (List.mem_cons_of_mem _ hy)) (drop_on h)
    rw [List.length_cons, wvals, h1]
    simp only
    rw [h2, List.flatMap_cons, List.length_append, Nat.add_assoc]
end
theorem name_pos {s : ByteArray} (h : nameB s = true) : 1 ≤ s.size := by
  unfold nameB at h
  split at h
  · omega
  · cases h
theorem decR_enc {x : S69} (hf : faultN x = 0) (hv : ∀ y ∈ x.f2, I64 y.f1) (t : List Int) : decR (encEvent x ++ t) = (x, (encEvent x).length, 0) := by
  obtain ⟨h1, h2, h3, h4⟩ := fault_zero hf
  have hn := name_len h1
  have hp := name_pos h1
  have e1 : (encEvent x ++ t).drop 0 = txt x.f0 ++ (puti x.f1 ++ (puti x.f2.length ++ (x.f2.flatMap encVal ++ t))) := by
    rw [List.drop_zero, encEvent, List.append_assoc, List.append_assoc, List.append_assoc]
  have e2 := drop_on e1
  have e3 := drop_on e2
  have e4 := drop_on e3
  obtain ⟨w1, w2⟩ := wtxt_at e1 (by omega) (lo := 1) (hi := 32) (by omega) (by omega)
  have w3 := wnum_at e2 ⟨by omega, by omega⟩ (lo := 0) (hi := wmaxT) h2.1 h2.2
  have w4 := wnum_at e3 (len_I64 (by omega)) (lo := 0) (hi := 16) (by omega) (by omega)
  have w5 := wvals_at x.f2 _ (fun y hy => validB_ok (h4 y hy) (hv y hy)) e4
  have hlen : (encEvent x).length = 0 + (txt x.f0).length + (puti x.f1).length + (puti x.f2.length).length + (x.f2.flatMap encVal).length := by
    simp only [encEvent, List.length_append]
    omega
  generalize encEvent x ++ t = l at *
  have hname : wname l (0, 0) = (x.f0, (0 + (txt x.f0).length, 0)) := by
    unfold wname
    rw [w1]
    simp only [Int.toNat_natCast]
    rw [w2]
    simp only
    rw [if_pos h1]
  have hev : wevent l (0, 0) = (x, ((encEvent x).length, 0)) := by
    unfold wevent wtime wcount
    rw [hname]
    simp only
    rw [w3]
    simp only
    rw [w4]
    simp only [Int.toNat_natCast]
    rw [w5, hlen]
  unfold decR
  rw [hev]
  rfl
end Go.Proofs.YtcfgmkmllcfjjaaDoor
