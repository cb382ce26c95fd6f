import Derived.Test.YtcfgmkmllcfjjaaGreatDoorZAQ
import Derived.Test.YtcfgmkmllcfjjaaGreatDoorZAK
set_option linter.unusedVariables false
set_option linter.unusedSimpArgs false
namespace Go.Proofs.YtcfgmkmllcfjjaaGreatDoor
open Go.RowKit Go.Proofs.YtcfgmkmllcfjjaaGreatDoorW.PrintWords Go.Proofs.YtcfgmkmllcfjjaaGreatDoorW.PrintMore PImageAll
theorem intF_puti {n : Int} (h : I64 n) (t : List Int) : intF (puti n ++ t) = (n, ((puti n).length : Int), 0) := by
  unfold intF
  rw [Int_puti h]
  rfl
theorem tk_app (a b : List Int) : tk (a.length : Int) (a ++ b) = a.length := by
  unfold tk
  rw [if_pos ⟨by omega, by rw [List.length_append]; omega⟩, Int.toNat_natCast]
theorem tbad_app (a b : List Int) : tbad (a.length : Int) (a ++ b) = false := by
  unfold tbad
  rw [decide_eq_true (show 0 ≤ (a.length : Int) ∧ (a.length : Int) ≤ ((a ++ b).length : Nat) from ⟨by omega, by rw [List.length_append]; omega⟩)]
  rfl
theorem takeR_app (a b : List Int) (bd : Bool) : takeR (a.length : Int) (a ++ b, bd) = (b, bd) := by
  unfold takeR
  rw [show ((a ++ b, bd) : Rs).1 = a ++ b from rfl, tk_app, tbad_app, List.drop_left, Bool.or_false]
theorem takenR_app (a b : List Int) (bd : Bool) : takenR (a.length : Int) (a ++ b, bd) = a := by
  unfold takenR
  rw [show ((a ++ b, bd) : Rs).1 = a ++ b from rfl, tk_app, List.take_left]
theorem numR_puti {n : Int} (h : I64 n) (t : List Int) : numR (puti n ++ t, false) = (n, (t, false)) := by
  unfold numR
  rw [show ((puti n ++ t, false) : Rs).1 = puti n ++ t from rfl, intF_puti h t]
  show (n, takeR ((puti n).length : Int) (puti n ++ t, false)) = _
  rw [takeR_app]
theorem strOf_bytesOf (s : ByteArray) : strOfNums (bytesOf s) = s := by
  apply ByteArray.ext
  apply Array.ext'
  simp only [strOfNums, bytesOf, List.map_map]
  conv => rhs; rw [← List.map_id s.data.toList]
  apply List.map_congr_left
  intro b _
  simp
theorem textR_txt {s : ByteArray} (h : s.size ≤ 9223372036854775807) (t : List Int) : textR (txt s ++ t, false) = (s, (t, false)) := by
  unfold textR
  rw [txt, List.append_assoc, numR_puti (len_I64 h)]
  show (strOfNums (takenR (s.size : Int) (bytesOf s ++ t, false)), takeR (s.size : Int) (bytesOf s ++ t, false)) = _
  rw [show (s.size : Int) = ((bytesOf s).length : Int) by rw [bytesOf_length], takenR_app, takeR_app, strOf_bytesOf]
theorem byteR_cons (x : Int) (t : List Int) : byteR (x :: t, false) = (x, (t, false)) := by
  unfold byteR
  have h1 := takenR_app [x] t false
  have h2 := takeR_app [x] t false
  rw [show (([x].length : Nat) : Int) = 1 from rfl] at h1 h2
  rw [show (x :: t) = [x] ++ t from rfl, h1, h2]
  rfl
theorem truthR_flag (b : Bool) (t : List Int) : truthR ([if b then (1 : Int) else 0] ++ t, false) = (b, (t, false)) := by
  unfold truthR
  rw [show [if b then (1 : Int) else 0] ++ t = (if b then (1 : Int) else 0) :: t from rfl, byteR_cons]
  cases b <;> rfl
theorem attrR_enc {x : S58} (hs : x.f0.size ≤ 9223372036854775807) (h0 : 0 ≤ x.f1) (h1 : x.f1 < 256) (t : List Int) (z : Int) : attrR ((encAttr x ++ t, false), z) = (x, ((t, false), z)) := by
  unfold attrR
  rw [show (((encAttr x ++ t, false), z) : Rl).1 = (txt x.f0 ++ ([IntKind.u8.wrap x.f1] ++ t), false) by rw [encAttr, List.append_assoc], textR_txt hs]
  show ((⟨x.f0, (byteR ([IntKind.u8.wrap x.f1] ++ t, false)).1⟩ : S58), ((byteR ([IntKind.u8.wrap x.f1] ++ t, false)).2, z)) = _
  rw [show [IntKind.u8.wrap x.f1] ++ t = IntKind.u8.wrap x.f1 :: t from rfl, byteR_cons, show IntKind.u8.wrap x.f1 = x.f1 by rw [IntKind.wrap_u8]; omega]
section
variable {α : Type} {one : Rl → α × Rl} {f : α → List Int}
theorem getF_enc (t : List Int) (z : Int) : ∀ xs : List α, (∀ x ∈ xs, ∀ t, one ((f x ++ t, false), z) = (x, ((t, false), z))) → getF one xs.length ((xs.flatMap f ++ t, false), z) = (xs, ((t, false), z))
  | [], _ => by
    show getF one 0 _ = _
    rw [getF]
    rfl
  | x :: xs, h => by
    rw [List.length_cons, getF, List.flatMap_cons, List.append_assoc, h x List.mem_cons_self, getF_enc t z xs (fun y hy => h y (List.mem_cons_of_mem _ hy))]
    rfl
theorem getR_enc (t : List Int) (z : Int) (xs : List α) (hx : xs.length ≤ 9223372036854775807) (h : ∀ x ∈ xs, ∀ t, one ((f x ++ t, false), z) = (x, ((t, false), z))) : getR one ((puti xs.length ++ (xs.flatMap f ++ t), false), z) = (xs, ((t, false), z)) := by
  unfold getR
  rw [show (((puti xs.length ++ (xs.flatMap f ++ t), false), z) : Rl).1 = (puti xs.length ++ (xs.flatMap f ++ t), false) from rfl, numR_puti (len_I64 hx)]
  rw [if_neg (by show ¬ (xs.length : Int) < 0; omega)]
  show getF one ((xs.length : Int)).toNat ((xs.flatMap f ++ t, false), z) = _
  rw [Int.toNat_natCast, getF_enc t z xs h]
end
theorem typeR_enc {x : S56} (hs : x.f0.size ≤ 9223372036854775807) (hl : x.f1.length ≤ 9223372036854775807) (ha : ∀ y ∈ x.f1, y.f0.size ≤ 9223372036854775807 ∧ 0 ≤ y.f1 ∧ y.f1 < 256) (t : List Int) (z : Int) : typeR ((encType x ++ t, false), z) = (x, ((t, false), z)) := by
  unfold typeR
  rw [show (((encType x ++ t, false), z) : Rl).1 = (txt x.f0 ++ (puti x.f1.length ++ (x.f1.flatMap encAttr ++ t)), false) by rw [encType, encAttrs, List.append_assoc, List.append_assoc], textR_txt hs]
  show ((⟨x.f0, (getR attrR ((puti x.f1.length ++ (x.f1.flatMap encAttr ++ t), false), z)).1⟩ : S56), (getR attrR ((puti x.f1.length ++ (x.f1.flatMap encAttr ++ t), false), z)).2) = _
  rw [getR_enc (f := encAttr) t z x.f1 hl (fun y hy t => attrR_enc (ha y hy).1 (ha y hy).2.1 (ha y hy).2.2 t z)]
theorem savedR_enc {x : S60} (hs : x.f0.size ≤ 9223372036854775807) (ht : x.f1.size ≤ 9223372036854775807) (hi : I64 x.f2) (t : List Int) (z : Int) : savedR ((encSaved x ++ t, false), z) = (x, ((t, false), z)) := by
  unfold savedR
  rw [show (((encSaved x ++ t, false), z) : Rl).1 = (txt x.f0 ++ (txt x.f1 ++ (puti x.f2 ++ ([if x.f3 then (1 : Int) else 0] ++ t))), false) by rw [encSaved, List.append_assoc, List.append_assoc, List.append_assoc], textR_txt hs]
  simp only
  rw [textR_txt ht]
  simp only
  rw [numR_puti hi]
  simp only
  rw [truthR_flag]
section
variable {l t : List Int} {p : Nat}
theorem drop_on {a : List Int} (h : l.drop p = a ++ t) : l.drop (p + a.length) = t := by
  rw [← List.drop_drop, h, List.drop_left]
theorem wnum_at {n lo hi : Int} (h : l.drop p = puti n ++ t) (hn : I64 n) (h0 : lo ≤ n) (h1 : n ≤ hi) : wnum l lo hi (p, 0) = (n, (p + (puti n).length, 0)) := by
  unfold wnum
  rw [show ((p, (0 : Int)) : Ws).1 = p from rfl, h, intF_puti hn]
  simp only [Int.toNat_natCast]
  rw [if_pos trivial, if_pos trivial, if_pos ⟨h0, h1⟩]
theorem wbytes_at {s : ByteArray} (h : l.drop p = bytesOf s ++ t) : wbytes l s.size (p, 0) = (s, (p + (bytesOf s).length, 0)) := by
  have h1 := congrArg List.length h
  rw [List.length_drop, List.length_append, bytesOf_length] at h1
  unfold wbytes
  rw [show ((p, (0 : Int)) : Ws).1 = p from rfl, h, if_pos rfl, if_pos (by omega)]
  have h2 : (bytesOf s ++ t).take s.size = bytesOf s := by rw [← bytesOf_length s, List.take_left]
  rw [h2, strOf_bytesOf, bytesOf_length]
theorem wone_at {x lo hi : Int} (h : l.drop p = x :: t) (h0 : lo ≤ x) (h1 : x ≤ hi) : wone l lo hi (p, 0) = (x, (p + 1, 0)) := by
  have h2 := congrArg List.length h
  rw [List.length_drop, List.length_cons] at h2
  unfold wone
  rw [show ((p, (0 : Int)) : Ws).1 = p from rfl, h, if_pos rfl, if_pos (by omega), List.headD_cons, if_pos ⟨h0, h1⟩]
theorem wtxt_at {s : ByteArray} {lo hi : Int} (h : l.drop p = txt s ++ t) (hs : s.size ≤ 9223372036854775807) (h0 : lo ≤ s.size) (h1 : (s.size : Int) ≤ hi) : wnum l lo hi (p, 0) = ((s.size : Int), (p + (puti s.size).length, 0)) ∧ wbytes l s.size (p + (puti s.size).length, 0) = (s, (p + (txt s).length, 0)) := by
  rw [txt, List.append_assoc] at h
  refine ⟨wnum_at h (len_I64 hs) h0 h1, ?_⟩
  rw [wbytes_at (drop_on h), txt, List.length_append, Nat.add_assoc]
theorem wvalue_at {v : S67} (hv : ValOk v) (h : l.drop p = encVal v ++ t) : wvalue l (p, 0) = (v, (p + (encVal v).length, 0)) := by
  unfold encVal at h ⊢
  rcases hv with ⟨n, hn⟩ | ⟨s, hs⟩ | ⟨b⟩
  · have h : l.drop p = 1 :: (puti n ++ t) := h
    have h2 : l.drop (p + 1) = puti n ++ t := drop_on (a := [1]) h
    have w1 := wone_at h (lo := 1) (hi := 3) (by decide) (by decide)
    have w2 := wnum_at h2 hn (lo := minI) (hi := maxI) hn.1 hn.2
    unfold wvalue
    rw [w1]
    simp only
    rw [if_pos trivial, if_pos trivial, w2]
    show _ = (_, (p + (1 :: puti n).length, 0))
    rw [List.length_cons, show p + 1 + (puti n).length = p + ((puti n).length + 1) by omega]
  · have h : l.drop p = 2 :: (txt s ++ t) := h
    have h2 : l.drop (p + 1) = txt s ++ t := drop_on (a := [2]) h
    have w1 := wone_at h (lo := 1) (hi := 3) (by decide) (by decide)
    obtain ⟨w2, w3⟩ := wtxt_at h2 (by omega) (lo := 0) (hi := 256) (by omega) (by omega)
    unfold wvalue
    rw [w1]
    simp only
    rw [if_pos trivial, if_neg (by decide), if_pos trivial, w2]
    simp only [Int.toNat_natCast]
    rw [w3]
    show _ = (_, (p + (2 :: txt s).length, 0))
    rw [List.length_cons, show p + 1 + (txt s).length = p + ((txt s).length + 1) by omega]
  · have h : l.drop p = 3 :: ((if b then (1 : Int) else 0) :: t) := h
    have h2 : l.drop (p + 1) = (if b then (1 : Int) else 0) :: t := drop_on (a := [3]) h
    have w1 := wone_at h (lo := 1) (hi := 3) (by decide) (by decide)
    have w2 := wone_at h2 (lo := 0) (hi := 1) (by cases b <;> decide) (by cases b <;> decide)
    unfold wvalue
    rw [w1]
    simp only
    rw [if_pos trivial, if_neg (by decide), if_neg (by decide), w2]
    cases b <;> rfl
theorem wvals_at : ∀ (vs : List S67) (p : Nat), (∀ v ∈ vs, ValOk v) → l.drop p = vs.flatMap encVal ++ t → wvals l vs.length (p, 0) = (vs, (p + (vs.flatMap encVal).length, 0))
  | [], p, _, _ => rfl
  | v :: vs, p, hv, h => by
    rw [List.flatMap_cons, List.append_assoc] at h
    have h1 := wvalue_at (hv v List.mem_cons_self) h
    have h2 := wvals_at vs (p + (encVal v).length) (fun y hy => hv y (List.mem_cons_of_mem _ hy)) (drop_on h)
    rw [List.length_cons, wvals, h1]
    simp only
    rw [h2, List.flatMap_cons, List.length_append, Nat.add_assoc]
end
theorem name_pos {s : ByteArray} (h : nameB s = true) : 1 ≤ s.size := by
  unfold nameB at h
  split at h
  · omega
  · cases h
theorem decR_enc {x : S63} (hf : faultN x = 0) (hv : ∀ y ∈ x.f2, I64 y.f1) (t : List Int) : decR (encEvent x ++ t) = (x, (encEvent x).length, 0) := by
  obtain ⟨h1, h2, h3, h4⟩ := fault_zero hf
  have hn := name_len h1
  have hp := name_pos h1
  have e1 : (encEvent x ++ t).drop 0 = txt x.f0 ++ (puti x.f1 ++ (puti x.f2.length ++ (x.f2.flatMap encVal ++ t))) := by
    rw [List.drop_zero, encEvent, List.append_assoc, List.append_assoc, List.append_assoc]
  have e2 := drop_on e1
  have e3 := drop_on e2
  have e4 := drop_on e3
  obtain ⟨w1, w2⟩ := wtxt_at e1 (by omega) (lo := 1) (hi := 32) (by omega) (by omega)
  have w3 := wnum_at e2 ⟨by omega, by omega⟩ (lo := 0) (hi := wmaxT) h2.1 h2.2
  have w4 := wnum_at e3 (len_I64 (by omega)) (lo := 0) (hi := 16) (by omega) (by omega)
  have w5 := wvals_at x.f2 _ (fun y hy => validB_ok (h4 y hy) (hv y hy)) e4
  have hlen : (encEvent x).length = 0 + (txt x.f0).length + (puti x.f1).length + (puti x.f2.length).length + (x.f2.flatMap encVal).length := by
    simp only [encEvent, List.length_append]
    omega
  generalize encEvent x ++ t = l at *
  have hname : wname l (0, 0) = (x.f0, (0 + (txt x.f0).length, 0)) := by
    unfold wname
    rw [w1]
    simp only [Int.toNat_natCast]
    rw [w2]
    simp only
    rw [if_pos h1]
  have hev : wevent l (0, 0) = (x, ((encEvent x).length, 0)) := by
    unfold wevent wtime wcount
    rw [hname]
    simp only
    rw [w3]
    simp only
    rw [w4]
    simp only [Int.toNat_natCast]
    rw [w5, hlen]
  unfold decR
  rw [hev]
  rfl
end Go.Proofs.YtcfgmkmllcfjjaaGreatDoor
set_option linter.unusedVariables false
set_option linter.unusedSimpArgs false
namespace Go.Proofs.YtcfgmkmllcfjjaaGreatDoor
open Go.RowKit Go.Proofs.YtcfgmkmllcfjjaaGreatDoorW.PrintWords Go.Proofs.YtcfgmkmllcfjjaaGreatDoorW.PrintMore PImageAll
theorem wrap_sub {x last : Int} (h : I64 x) : IntKind.i64.wrap (last + sub64 x last) = x := by
  obtain ⟨h1, h2⟩ := h
  unfold sub64
  rw [IntKind.wrap_i64, IntKind.wrap_i64]
  omega
theorem seenR_enc {x : S65} {last : Int} (hx : I64 x.f0) (hf : faultN x.f1 = 0) (hv : ∀ y ∈ x.f1.f2, I64 y.f1) (t : List Int) : seenR ((encSeen last x ++ t, false), last) = (x, ((t, false), x.f0)) := by
  have hE : encB x.f1 = encEvent x.f1 := if_pos hf
  have h1 : numR (((encSeen last x ++ t, false), last) : Rl).1 = (sub64 x.f0 last, ([if x.f2 then (1 : Int) else 0] ++ (encEvent x.f1 ++ t), false)) := by
    rw [show (((encSeen last x ++ t, false), last) : Rl).1 = (puti (sub64 x.f0 last) ++ ([if x.f2 then (1 : Int) else 0] ++ (encEvent x.f1 ++ t)), false) by rw [encSeen, hE, List.append_assoc, List.append_assoc], numR_puti (sub64_I64 _ _)]
  have h2 : seenM ((encSeen last x ++ t, false), last) = (x.f2, (encEvent x.f1 ++ t, false)) := by
    unfold seenM
    rw [h1]
    exact truthR_flag x.f2 _
  have h3 : seenX ((encSeen last x ++ t, false), last) = (x.f1, (encEvent x.f1).length, 0) := by
    unfold seenX
    rw [h2]
    exact decR_enc hf hv t
  have h4 : seenL ((encSeen last x ++ t, false), last) = x.f0 := by
    unfold seenL
    rw [h1]
    exact wrap_sub hx
  have h5 : seenE ((encSeen last x ++ t, false), last) = (t, false) := by
    unfold seenE
    rw [h3, h2]
    exact takeR_app _ _ _
  unfold seenR
  rw [h5, h4, h3, h2]
theorem getF_seens (t : List Int) : ∀ (xs : List S65) (last : Int), (∀ x ∈ xs, I64 x.f0 ∧ faultN x.f1 = 0 ∧ ∀ y ∈ x.f1.f2, I64 y.f1) → getF seenR xs.length ((encSeenL last xs ++ t, false), last) = (xs, ((t, false), lastL last xs))
  | [], last, _ => by
    show getF seenR 0 _ = _
    rw [getF]
    rfl
  | x :: xs, last, h => by
    obtain ⟨h1, h2, h3⟩ := h x List.mem_cons_self
    rw [List.length_cons, getF, encSeenL, List.append_assoc, seenR_enc h1 h2 h3, getF_seens t xs x.f0 (fun y hy => h y (List.mem_cons_of_mem _ hy))]
    rfl
theorem getR_seens (t : List Int) (xs : List S65) (hl : xs.length ≤ 9223372036854775807) (h : ∀ x ∈ xs, I64 x.f0 ∧ faultN x.f1 = 0 ∧ ∀ y ∈ x.f1.f2, I64 y.f1) : getR seenR ((encSeens xs ++ t, false), 0) = (xs, ((t, false), lastL 0 xs)) := by
  unfold getR
  rw [show (((encSeens xs ++ t, false), 0) : Rl).1 = (puti xs.length ++ (encSeenL 0 xs ++ t), false) by rw [encSeens, List.append_assoc], numR_puti (len_I64 hl)]
  rw [if_neg (by show ¬ (xs.length : Int) < 0; omega)]
  show getF seenR ((xs.length : Int)).toNat ((encSeenL 0 xs ++ t, false), 0) = _
  rw [Int.toNat_natCast, getF_seens t xs 0 h]
theorem seens_I64 {seq : Int} (hq : I64 seq) : ∀ (last : Int) (xs : List S65), -9223372036854775808 ≤ last → seensB seq last xs = true → ∀ x ∈ xs, I64 x.f0
  | _, [], _, _, x, hx => by cases hx
  | last, y :: ys, h0, h, x, hx => by
    unfold seensB at h
    simp only [Bool.and_eq_true, decide_eq_true_eq] at h
    obtain ⟨h1, h2, h3⟩ := h
    rcases List.mem_cons.1 hx with rfl | hx
    · exact ⟨by omega, by have := hq.2; omega⟩
    · exact seens_I64 hq y.f0 ys (by omega) h3 x hx
theorem ldMagic_app (t : List Int) : ldMagic (magicL ++ t, false) = (t, false) := by
  have h1 := takenR_app magicL t false
  have h2 := takeR_app magicL t false
  rw [show ((magicL.length : Nat) : Int) = 4 from rfl] at h1 h2
  unfold ldMagic
  rw [h1, h2, if_pos (by decide)]
theorem ldNums_app {m : Img} (hm : ImgI m) (t : List Int) (m0 : Img) : ldNums (encNums m ++ t, false) m0 = ((t, false), { m0 with runs := m.runs, made := m.made, seq := m.seq, now := m.now }) := by
  unfold ldNums
  rw [show encNums m ++ t = puti m.runs ++ (puti m.made ++ (puti m.seq ++ (puti m.now ++ t))) by rw [encNums, List.append_assoc, List.append_assoc, List.append_assoc]]
  rw [numR_puti hm.runs]
  simp only
  rw [numR_puti hm.made]
  simp only
  rw [numR_puti hm.seq]
  simp only
  rw [numR_puti hm.now]
theorem may_all {m : Img} (hm : ImgI m) (h : mayB m = true) (hb : ¬ badL m.seens = true) :
    (∀ x ∈ m.types, x.f0.size ≤ 9223372036854775807 ∧ x.f1.length ≤ 9223372036854775807 ∧ ∀ y ∈ x.f1, y.f0.size ≤ 9223372036854775807 ∧ 0 ≤ y.f1 ∧ y.f1 < 256) ∧
    (∀ x ∈ m.saved, x.f0.size ≤ 9223372036854775807 ∧ x.f1.size ≤ 9223372036854775807 ∧ I64 x.f2) ∧ (∀ x ∈ m.seens, I64 x.f0 ∧ faultN x.f1 = 0 ∧ ∀ y ∈ x.f1.f2, I64 y.f1) := by
  unfold mayB at h
  simp only [Bool.and_eq_true, decide_eq_true_eq, List.all_eq_true] at h
  obtain ⟨_, _, _, _, h5, h6, h7, h8, h9⟩ := h
  refine ⟨fun x hx => ?_, fun x hx => ?_, fun x hx => ⟨seens_I64 hm.seq 0 m.seens (by omega) h9 x hx, ?_, hm.vals x hx⟩⟩
  · have h1 := h7 x hx
    unfold typeB at h1
    simp only [Bool.and_eq_true, decide_eq_true_eq, List.all_eq_true] at h1
    obtain ⟨k1, k2, k3⟩ := h1
    refine ⟨by have := name_len k1; omega, by omega, fun y hy => ?_⟩
    have k4 := k3 y hy
    unfold attrB at k4
    simp only [Bool.and_eq_true, decide_eq_true_eq] at k4
    have := name_len k4.1
    omega
  · have h1 := h8 x hx
    unfold savedB at h1
    simp only [Bool.and_eq_true, decide_eq_true_eq] at h1
    have := name_len h1.1
    exact ⟨by omega, by omega, hm.since x hx⟩
  · rcases Classical.em (faultN x.f1 = 0) with h1 | h1
    · exact h1
    · exfalso
      apply hb
      exact List.any_eq_true.mpr ⟨x, hx, by simpa using h1⟩
theorem laid_app (m : Img) (t : List Int) : laid m ++ t = magicL ++ (encNums m ++ (encTypes m.types ++ (encSaveds m.saved ++ (encSeens m.seens ++ t)))) := by
  simp only [laid, laidK, List.nil_append, List.append_assoc]
theorem ld_laid {m : Img} (hm : ImgI m) (h : mayB m = true) (hb : ¬ badL m.seens = true) : ldK (laid m, false) 5 = (([], false), m) := by
  obtain ⟨ht, hq, hs⟩ := may_all hm h hb
  have e0 : laid m = magicL ++ (encNums m ++ (encTypes m.types ++ (encSaveds m.saved ++ (encSeens m.seens ++ [])))) := by rw [← laid_app, List.append_nil]
  have k1 : ldK (laid m, false) 1 = ((encNums m ++ (encTypes m.types ++ (encSaveds m.saved ++ (encSeens m.seens ++ []))), false), zImg) := by
    rw [e0, ldK_succ]
    show (ldMagic (magicL ++ _, false), zImg) = _
    rw [ldMagic_app]
  have k2 : ldK (laid m, false) 2 = ((encTypes m.types ++ (encSaveds m.saved ++ (encSeens m.seens ++ [])), false), { zImg with runs := m.runs, made := m.made, seq := m.seq, now := m.now }) := by
    rw [ldK_succ, k1]
    exact ldNums_app hm _ zImg
  have k3 : ldK (laid m, false) 3 = ((encSaveds m.saved ++ (encSeens m.seens ++ []), false), { zImg with runs := m.runs, made := m.made, seq := m.seq, now := m.now, types := m.types }) := by
    rw [ldK_succ, k2]
    have hg := getR_enc (one := typeR) (f := encType) (encSaveds m.saved ++ (encSeens m.seens ++ [])) 0 m.types hm.lt (fun x hx t => typeR_enc (ht x hx).1 (ht x hx).2.1 (ht x hx).2.2 t 0)
    rw [← List.append_assoc] at hg
    show ((getR typeR ((encTypes m.types ++ _, false), 0)).2.1, _) = _
    rw [encTypes, hg]
  have k4 : ldK (laid m, false) 4 = ((encSeens m.seens ++ [], false), { zImg with runs := m.runs, made := m.made, seq := m.seq, now := m.now, types := m.types, saved := m.saved }) := by
    rw [ldK_succ, k3]
    have hg := getR_enc (one := savedR) (f := encSaved) (encSeens m.seens ++ []) 0 m.saved hm.lq (fun x hx t => savedR_enc (hq x hx).1 (hq x hx).2.1 (hq x hx).2.2 t 0)
    rw [← List.append_assoc] at hg
    show ((getR savedR ((encSaveds m.saved ++ _, false), 0)).2.1, _) = _
    rw [encSaveds, hg]
  rw [ldK_succ, k4]
  show ((getR seenR ((encSeens m.seens ++ [], false), 0)).2.1, _) = _
  rw [getR_seens [] m.seens hm.ls hs]
theorem save_zero {m : Img} (h : saveE m = 0) : mayB m = true ∧ ¬ badL m.seens = true ∧ (laid m).length + 4 ≤ 67108864 := by
  unfold saveE at h
  split at h
  · rename_i h1
    split at h
    · cases h
    · rename_i h2
      split at h
      · cases h
      · exact ⟨h1, h2, by omega⟩
  · cases h
theorem laid_ge (m : Img) : 8 ≤ (laid m).length := by
  have h1 := puti_pos m.runs
  have h2 := puti_pos m.made
  have h3 := puti_pos m.seq
  have h4 := puti_pos m.now
  simp only [laid, laidK, encNums, magicL, List.length_append, List.length_cons, List.length_nil]
  omega
theorem load_save {m : Img} (hm : ImgI m) (h : saveE m = 0) : loadF (saveB m) = (m, 0) := by
  obtain ⟨h1, h2, h3⟩ := save_zero h
  have h8 := laid_ge m
  have hb : saveB m = laid m ++ sumB (laid m) := if_pos h
  have hl : (saveB m).length = (laid m).length + 4 := by rw [hb, List.length_append, sumB_len]
  have ht : (saveB m).take ((saveB m).length - 4) = laid m := by rw [hl, Nat.add_sub_cancel, hb, List.take_left]
  have hd : (saveB m).drop ((saveB m).length - 4) = sumB (laid m) := by rw [hl, Nat.add_sub_cancel, hb, List.drop_left]
  have hld : loadM (saveB m) = (([], false), m) := by
    unfold loadM
    rw [ht, ld_laid hm h1 h2]
  unfold loadF
  rw [if_neg (by omega), if_neg (by omega), ht, hd, if_pos rfl, hld]
  simp only
  rw [if_neg (by simp), if_pos ⟨h, trivial⟩]
theorem loadF_cases (L : List Int) : ((loadF L).1 = zImg ∧ (loadF L).2 ≠ 0) ∨ ∃ m, loadF L = (m, 0) ∧ saveE m = 0 ∧ saveB m = L := by
  unfold loadF
  by_cases h1 : 67108864 < L.length
  · rw [if_pos h1]
    exact .inl ⟨rfl, show (2 : Int) ≠ 0 by decide⟩
  · rw [if_neg h1]
    by_cases h2 : L.length < 8
    · rw [if_pos h2]
      exact .inl ⟨rfl, show (30 : Int) ≠ 0 by decide⟩
    · rw [if_neg h2]
      by_cases h3 : sumB (L.take (L.length - 4)) = L.drop (L.length - 4)
      · rw [if_pos h3]
        by_cases h4 : (loadM L).1.2 = true ∨ 0 < (loadM L).1.1.length
        · rw [if_pos h4]
          exact .inl ⟨rfl, show (220 : Int) ≠ 0 by decide⟩
        · rw [if_neg h4]
          by_cases h5 : saveE (loadM L).2 = 0 ∧ saveB (loadM L).2 = L
          · rw [if_pos h5]
            exact .inr ⟨_, rfl, h5⟩
          · rw [if_neg h5]
            exact .inl ⟨rfl, show (220 : Int) ≠ 0 by decide⟩
      · rw [if_neg h3]
        exact .inl ⟨rfl, show (32 : Int) ≠ 0 by decide⟩
theorem load_ok {L : List Int} {m : Img} (h : loadF L = (m, 0)) : saveE m = 0 ∧ saveB m = L := by
  rcases loadF_cases L with ⟨_, h2⟩ | ⟨m', h1, h2⟩
  · rw [h] at h2
    exact absurd rfl h2
  · rw [h] at h1
    injection h1 with h1 _
    subst h1
    exact h2
theorem load_bad {L : List Int} (h : (loadF L).2 ≠ 0) : (loadF L).1 = zImg := by
  rcases loadF_cases L with ⟨h1, _⟩ | ⟨m', h1, _⟩
  · exact h1
  · rw [h1] at h
    exact absurd rfl h
structure Summed (L : List Int) : Prop where
  bytes : Bytes L
  lo : 8 ≤ L.length
  hi : L.length ≤ 67108864
  sum : sumB (L.take (L.length - 4)) = L.drop (L.length - 4)
theorem save_summed {m : Img} (hm : ImgI m) (h : saveE m = 0) : Summed (saveB m) := by
  obtain ⟨h1, h2, h3⟩ := save_zero h
  have h8 := laid_ge m
  have hb : saveB m = laid m ++ sumB (laid m) := if_pos h
  have hl : (saveB m).length = (laid m).length + 4 := by rw [hb, List.length_append, sumB_len]
  refine ⟨by rw [hb]; exact (laid_bytes hm).append (sumB_bytes _), by omega, by omega, ?_⟩
  rw [hl, Nat.add_sub_cancel, hb, List.take_left, List.drop_left]
def Cl (W : World) (g e : Nat) (cs : List Value) : Prop := W.heap[g]? = some (.cells cs.toArray e (0, 0))
namespace Cl
variable {W W' : World} {g e : Nat} {cs : List Value}
theorem cell (h : Cl W g e cs) (i : Nat) : W.cell? ⟨g, i, none⟩ = cs[i]? := by have := blk_cell h i; simpa using this
theorem fr (h : Cl W g e cs) (i : Nat) : W.frozen? ⟨g, i, none⟩ = false := blk_frozen h i
theorem set (h : Cl W g e cs) (i : Nat) (v : Value) : Cl (W.setCell ⟨g, i, none⟩ v) g e (cs.set i v) := by have := blk_set h i v; simpa [Cl] using this
theorem far (h : Cl W g e cs) {p : Addr} (hp : g ≠ p.block) (u : Value) : Cl (W.setCell p u) g e cs := blk_far h hp u
theorem below (h : Cl W g e cs) (hB : Below W.heap.size W W') : Cl W' g e cs := blk_below h hB
theorem keep (h : Cl W g e cs) {b : Nat} (hk : KeepBut W W' b none) (hg : g ≠ b) : Cl W' g e cs := KeepBut.blk hk h hg (by simp)
theorem lt (h : Cl W g e cs) : g < W.heap.size := blk_lt h
theorem ne {g' e' : Nat} {cs' : List Value} (h : Cl W g e cs) (h' : Cl W g' e' cs') (he : e ≠ e') : g ≠ g' := blk_ne h h' he
theorem put1 {a r : List Value} {x : Value} (h : Cl W g e (a ++ x :: r)) {o : Nat} (ho : a.length = o) (v : Value) : Cl (W.setCell ⟨g, o, none⟩ v) g e (a ++ v :: r) := by
  have := h.set o v
  subst ho
  simpa using this
theorem put2 {a r : List Value} {x y : Value} (h : Cl W g e (a ++ x :: y :: r)) {o : Nat} (ho : a.length = o) (u v : Value) : Cl ((W.setCell ⟨g, o, none⟩ u).setCell ⟨g, o + 1, none⟩ v) g e (a ++ u :: v :: r) := by
  have h1 := h.put1 ho u
  rw [show a ++ u :: y :: r = (a ++ [u]) ++ y :: r by simp] at h1
  have h2 := h1.put1 (o := o + 1) (by simp [ho]) v
  simpa using h2
theorem put4 {a r : List Value} {x0 x1 x2 x3 : Value} (h : Cl W g e (a ++ x0 :: x1 :: x2 :: x3 :: r)) {o : Nat} (ho : a.length = o) (v0 v1 v2 v3 : Value) :
    Cl ((((W.setCell ⟨g, o, none⟩ v0).setCell ⟨g, o + 1, none⟩ v1).setCell ⟨g, o + 2, none⟩ v2).setCell ⟨g, o + 3, none⟩ v3) g e (a ++ v0 :: v1 :: v2 :: v3 :: r) := by
  have h1 := h.put2 ho v0 v1
  rw [show a ++ v0 :: v1 :: x2 :: x3 :: r = (a ++ [v0, v1]) ++ x2 :: x3 :: r by simp] at h1
  have h2 := h1.put2 (o := o + 2) (by simp [ho]) v2 v3
  simpa using h2
theorem put5 {a r : List Value} {x0 x1 x2 x3 x4 : Value} (h : Cl W g e (a ++ x0 :: x1 :: x2 :: x3 :: x4 :: r)) {o : Nat} (ho : a.length = o) (v0 v1 v2 v3 v4 : Value) :
    Cl (((((W.setCell ⟨g, o, none⟩ v0).setCell ⟨g, o + 1, none⟩ v1).setCell ⟨g, o + 2, none⟩ v2).setCell ⟨g, o + 3, none⟩ v3).setCell ⟨g, o + 4, none⟩ v4) g e (a ++ v0 :: v1 :: v2 :: v3 :: v4 :: r) := by
  have h1 := h.put4 ho v0 v1 v2 v3
  rw [show a ++ v0 :: v1 :: v2 :: v3 :: x4 :: r = (a ++ [v0, v1, v2, v3]) ++ x4 :: r by simp] at h1
  have h2 := h1.put1 (o := o + 4) (by simp [ho]) v4
  simpa using h2
end Cl
def zr (z : List Value) (k : Nat) : List Value := (madeCells z.toArray (k * z.length)).toList
theorem zr_len (z : List Value) (k : Nat) : (zr z k).length = k * z.length := by simp [zr, size_madeCells]
theorem zr_zero (z : List Value) : zr z 0 = [] := List.eq_nil_of_length_eq_zero (by rw [zr_len]; omega)
theorem zr_succ (z : List Value) (hz : 0 < z.length) (k : Nat) : zr z (k + 1) = z ++ zr z k := by
  apply List.ext_getElem
  · rw [List.length_append, zr_len, zr_len, Nat.succ_mul]; omega
  · intro i h1 h2
    rw [zr_len] at h1
    by_cases hi : i < z.length
    · rw [List.getElem_append_left hi]
      simp [zr, madeCells, Nat.mod_eq_of_lt hi]
      rw [List.getElem?_eq_getElem hi]; rfl
    · rw [List.getElem_append_right (by omega)]
      have hm : i % z.length = (i - z.length) % z.length := by
        rw [Nat.mod_eq_sub_mod (by omega)]
      simp [zr, madeCells, hm]
theorem made_cl (W : World) (z : List Value) (n e : Nat) : Cl (W.alloc (.cells (madeCells z.toArray (n * z.length)) e)) W.heap.size e (zr z n) := by
  have := blk_new W (.cells (madeCells z.toArray (n * z.length)) e)
  simpa [Cl, zr] using this
abbrev mk4 : ByteArray := ⟨#[109, 97, 114, 107]⟩
def mkA : S58 := ⟨mk4, 77⟩
def mkQ : S60 := ⟨mk4, ⟨#[]⟩, 0, false⟩
def mkV : S67 := ⟨77, 7, ⟨#[]⟩, false⟩
def mkT : List Value := [.string mk4, .slice none 0 0]
def mkS : List Value := [.int .i64 (-77), .string ⟨#[]⟩, .int .i64 0, .slice none 0 0, .bool false]
def atC (x : S58) : List Value := [.string x.f0, .int .i64 x.f1]
def svC (x : S60) : List Value := [.string x.f0, .string x.f1, .int .i64 x.f2, .bool x.f3]
def vaC (x : S67) : List Value := [.int .i64 x.f0, .int .i64 x.f1, .string x.f2, .bool x.f3]
def zA : List Value := [.string ⟨#[]⟩, .int .i64 0]
def zQ : List Value := [.string ⟨#[]⟩, .string ⟨#[]⟩, .int .i64 0, .bool false]
def zV : List Value := [.int .i64 0, .int .i64 0, .string ⟨#[]⟩, .bool false]
def zT : List Value := [.string ⟨#[]⟩, .slice none 0 0]
def zS : List Value := [.int .i64 0, .string ⟨#[]⟩, .int .i64 0, .slice none 0 0, .bool false]
theorem infoA : (Tryz.prog.info? 58).map (fun i => (i.zero, i.size, i.bytes)) = some (some (.agg zA.toArray), 2, 24) := by kernel_rfl
theorem infoQ : (Tryz.prog.info? 60).map (fun i => (i.zero, i.size, i.bytes)) = some (some (.agg zQ.toArray), 4, 48) := by kernel_rfl
theorem infoV : (Tryz.prog.info? 67).map (fun i => (i.zero, i.size, i.bytes)) = some (some (.agg zV.toArray), 4, 40) := by kernel_rfl
theorem infoT : (Tryz.prog.info? 56).map (fun i => (i.zero, i.size, i.bytes)) = some (some (.agg zT.toArray), 2, 40) := by kernel_rfl
theorem infoS : (Tryz.prog.info? 65).map (fun i => (i.zero, i.size, i.bytes)) = some (some (.agg zS.toArray), 5, 64) := by kernel_rfl
theorem make_row {t e : Nat} (ht : Tryz.prog.underlying t = some (.slice e)) (z : List Value) (bytes : Nat) (hinfo : (Tryz.prog.info? e).map (fun i => (i.zero, i.size, i.bytes)) = some (some (.agg z.toArray), z.length, bytes)) (n : Nat) (hn : n * bytes ≤ 281474976710656) (hb : 0 < bytes) (W : World) :
    (Instr.makeSlice t (.int .i64 (n : Int)) (.int .i64 (n : Int))).run Tryz.prog W = .ok (.slice (some ⟨W.heap.size, 0, none⟩) n n) (W.alloc (.cells (madeCells z.toArray (n * z.length)) e)) := by
  obtain ⟨i, hi, hzz⟩ := Option.map_eq_some_iff.1 hinfo
  simp only [Prod.mk.injEq] at hzz
  obtain ⟨hz, hs, hb2⟩ := hzz
  have hm : n ≤ 281474976710656 := Nat.le_trans (Nat.le_mul_of_pos_right _ hb) hn
  have hr := run_make (P := Tryz.prog) W t e i _ ht hi hz .i64 .i64 n n (by omega) (by omega) (by
      have h3 : ((i.bytes * n : Nat) : Int) ≤ 281474976710656 := by rw [hb2, Nat.mul_comm]; omega
      rwa [Int.natCast_mul] at h3) (by omega)
  simp only [Int.toNat_natCast, hs] at hr
  exact hr
def TyE (base : Nat) (W : World) (x : S56) (cs : List Value) : Prop := ∃ g, base ≤ g ∧ cs = [.string x.f0, .slice (some ⟨g, 0, none⟩) x.f1.length (x.f1.length + 6)] ∧ Cl W g 58 ((x.f1 ++ List.replicate 6 mkA).flatMap atC)
def SnE (base : Nat) (W : World) (x : S65) (cs : List Value) : Prop := ∃ g, base ≤ g ∧ cs = [.int .i64 x.f0, .string x.f1.f0, .int .i64 x.f1.f1, .slice (some ⟨g, 0, none⟩) x.f1.f2.length (x.f1.f2.length + 6), .bool x.f2] ∧ Cl W g 67 ((x.f1.f2 ++ List.replicate 6 mkV).flatMap vaC)
theorem TyE.keep {base : Nat} {W W' : World} {x : S56} {cs : List Value} (h : TyE base W x cs) {b e : Nat} {c : List Value} (hk : KeepBut W W' b none) (hb : Cl W b e c) (he : e ≠ 58) : TyE base W' x cs := by
  obtain ⟨g, h1, h2, h3⟩ := h
  exact ⟨g, h1, h2, h3.keep hk (h3.ne hb (fun h => he h.symm))⟩
theorem TyE.below {base : Nat} {W W' : World} {x : S56} {cs : List Value} (h : TyE base W x cs) (hB : Below W.heap.size W W') : TyE base W' x cs := by
  obtain ⟨g, h1, h2, h3⟩ := h
  exact ⟨g, h1, h2, h3.below hB⟩
theorem SnE.keep {base : Nat} {W W' : World} {x : S65} {cs : List Value} (h : SnE base W x cs) {b e : Nat} {c : List Value} (hk : KeepBut W W' b none) (hb : Cl W b e c) (he : e ≠ 67) : SnE base W' x cs := by
  obtain ⟨g, h1, h2, h3⟩ := h
  exact ⟨g, h1, h2, h3.keep hk (h3.ne hb (fun h => he h.symm))⟩
theorem SnE.below {base : Nat} {W W' : World} {x : S65} {cs : List Value} (h : SnE base W x cs) (hB : Below W.heap.size W W') : SnE base W' x cs := by
  obtain ⟨g, h1, h2, h3⟩ := h
  exact ⟨g, h1, h2, h3.below hB⟩
def TyRow (base : Nat) (W : World) (g : Nat) (xs : List S56) (i : Nat) : Prop :=
  base ≤ g ∧ ∃ done, Reps (TyE base W) 2 (xs.take i) done ∧ Cl W g 56 (done ++ ((List.replicate (i - xs.length) mkT).flatten ++ zr zT (xs.length + 6 - i)))
def SnRow (base : Nat) (W : World) (g : Nat) (xs : List S65) (i : Nat) : Prop :=
  base ≤ g ∧ ∃ done, Reps (SnE base W) 5 (xs.take i) done ∧ Cl W g 65 (done ++ ((List.replicate (i - xs.length) mkS).flatten ++ zr zS (xs.length + 6 - i)))
def SvRow (base : Nat) (W : World) (g : Nat) (xs : List S60) (i : Nat) : Prop :=
  base ≤ g ∧ Cl W g 60 (((xs ++ List.replicate 6 mkQ).take i).flatMap svC ++ zr zQ (xs.length + 6 - i))
def AtRow (W : World) (g : Nat) (xs : List S58) (i : Nat) : Prop := Cl W g 58 (((xs ++ List.replicate 6 mkA).take i).flatMap atC ++ zr zA (xs.length + 6 - i))
def VaRow (W : World) (g : Nat) (xs : List S67) (i : Nat) : Prop := Cl W g 67 (((xs ++ List.replicate 6 mkV).take i).flatMap vaC ++ zr zV (xs.length + 6 - i))
theorem TyRow.keep {base : Nat} {W W' : World} {g : Nat} {xs : List S56} {i : Nat} (h : TyRow base W g xs i) {b e : Nat} {c : List Value} (hk : KeepBut W W' b none) (hb : Cl W b e c) (he : e ≠ 58) (he' : e ≠ 56) : TyRow base W' g xs i := by
  obtain ⟨h1, d, h2, h3⟩ := h
  exact ⟨h1, d, h2.imp_ (fun _ _ h => h.keep hk hb he), h3.keep hk (h3.ne hb (fun h => he' h.symm))⟩
theorem TyRow.below {base : Nat} {W W' : World} {g : Nat} {xs : List S56} {i : Nat} (h : TyRow base W g xs i) (hB : Below W.heap.size W W') : TyRow base W' g xs i := by
  obtain ⟨h1, d, h2, h3⟩ := h
  exact ⟨h1, d, h2.imp_ (fun _ _ h => h.below hB), h3.below hB⟩
theorem SnRow.keep {base : Nat} {W W' : World} {g : Nat} {xs : List S65} {i : Nat} (h : SnRow base W g xs i) {b e : Nat} {c : List Value} (hk : KeepBut W W' b none) (hb : Cl W b e c) (he : e ≠ 67) (he' : e ≠ 65) : SnRow base W' g xs i := by
  obtain ⟨h1, d, h2, h3⟩ := h
  exact ⟨h1, d, h2.imp_ (fun _ _ h => h.keep hk hb he), h3.keep hk (h3.ne hb (fun h => he' h.symm))⟩
theorem SnRow.below {base : Nat} {W W' : World} {g : Nat} {xs : List S65} {i : Nat} (h : SnRow base W g xs i) (hB : Below W.heap.size W W') : SnRow base W' g xs i := by
  obtain ⟨h1, d, h2, h3⟩ := h
  exact ⟨h1, d, h2.imp_ (fun _ _ h => h.below hB), h3.below hB⟩
theorem SvRow.keep {base : Nat} {W W' : World} {g : Nat} {xs : List S60} {i : Nat} (h : SvRow base W g xs i) {b e : Nat} {c : List Value} (hk : KeepBut W W' b none) (hb : Cl W b e c) (he : e ≠ 60) : SvRow base W' g xs i :=
  ⟨h.1, h.2.keep hk (h.2.ne hb (fun h => he h.symm))⟩
theorem SvRow.below {base : Nat} {W W' : World} {g : Nat} {xs : List S60} {i : Nat} (h : SvRow base W g xs i) (hB : Below W.heap.size W W') : SvRow base W' g xs i := ⟨h.1, h.2.below hB⟩
structure Twn (base : Nat) (W : World) (m : Img) (g4 g5 g6 : Nat) : Prop where
  ty : TyRow base W g4 m.types (m.types.length + 6)
  sv : SvRow base W g5 m.saved (m.saved.length + 6)
  sn : SnRow base W g6 m.seens (m.seens.length + 6)
theorem Twn.keep {base : Nat} {W W' : World} {m : Img} {g4 g5 g6 : Nat} (h : Twn base W m g4 g5 g6) {b : Nat} {c : List Value} (hk : KeepBut W W' b none) (hb : Cl W b 31 c) : Twn base W' m g4 g5 g6 :=
  ⟨h.ty.keep hk hb (by decide) (by decide), h.sv.keep hk hb (by decide), h.sn.keep hk hb (by decide) (by decide)⟩
theorem AtRow.below {W W' : World} {g : Nat} {xs : List S58} {i : Nat} (h : AtRow W g xs i) (hB : Below W.heap.size W W') : AtRow W' g xs i := Cl.below h hB
theorem VaRow.below {W W' : World} {g : Nat} {xs : List S67} {i : Nat} (h : VaRow W g xs i) (hB : Below W.heap.size W W') : VaRow W' g xs i := Cl.below h hB
theorem Twn.below {base : Nat} {W W' : World} {m : Img} {g4 g5 g6 : Nat} (h : Twn base W m g4 g5 g6) (hB : Below W.heap.size W W') : Twn base W' m g4 g5 g6 := ⟨h.ty.below hB, h.sv.below hB, h.sn.below hB⟩
theorem flatC_len {α : Type} (c : α → List Value) (sz : Nat) (hc : ∀ x, (c x).length = sz) : ∀ (xs : List α), (xs.flatMap c).length = sz * xs.length
  | [] => rfl
  | x :: xs => by rw [List.flatMap_cons, List.length_append, hc, flatC_len c sz hc xs, List.length_cons, Nat.mul_succ]; omega
theorem take_snoc {α : Type} {l : List α} {i : Nat} (h : i < l.length) : l.take (i + 1) = l.take i ++ [l[i]] := List.take_succ_eq_append_getElem h
theorem row_at {α : Type} (c : α → List Value) (z : List Value) (hz : 0 < z.length) {l : List α} {i N : Nat} (hN : l.length = N) (h : i < N) : (l.take i).flatMap c ++ zr z (N - i) = (l.take i).flatMap c ++ (z ++ zr z (N - (i + 1))) := by
  rw [show N - i = (N - (i + 1)) + 1 by omega, zr_succ z hz]
theorem row_on {α : Type} (c : α → List Value) {l : List α} {i : Nat} (h : i < l.length) (t : List Value) : (l.take i).flatMap c ++ (c l[i] ++ t) = (l.take (i + 1)).flatMap c ++ t := by
  rw [take_snoc h, List.flatMap_append, List.append_assoc]
  simp
theorem reps_flat {α : Type} {R : α → List Value → Prop} (c : α → List Value) (sz : Nat) (hc : ∀ x, (c x).length = sz) (hR : ∀ x, R x (c x)) : ∀ (xs : List α), Reps R sz xs (xs.flatMap c)
  | [] => Reps.none _ _
  | x :: xs => Reps.front (hR x) (hc x) (reps_flat c sz hc hR xs) (by rw [List.flatMap_cons])
theorem Cl.reads {α : Type} {k : Kd α} {W : World} {g e : Nat} {cs r : List Value} {ps : List α} (h : Cl W g e (cs ++ r)) (hR : Reps (k.K W) k.sz ps cs) (hm : ps.length ≤ 9223372036854775807) : Kd.C k W (some ⟨g, 0, none⟩) ps.length ps := by
  refine ⟨rfl, hm, fun _ => ⟨_, rfl, fun j p hj => ⟨(cs.drop (j * k.sz)).take k.sz, ?_, hR.2 j p hj, fun i u hu => ?_⟩⟩⟩
  · have hjl := (List.getElem?_eq_some_iff.1 hj).1
    have h1 : j * k.sz + k.sz ≤ cs.length := by rw [hR.1, ← Nat.succ_mul]; exact Nat.mul_le_mul_right _ hjl
    rw [List.length_take, List.length_drop]
    omega
  · have hjl := (List.getElem?_eq_some_iff.1 hj).1
    have h1 : j * k.sz + k.sz ≤ cs.length := by rw [hR.1, ← Nat.succ_mul]; exact Nat.mul_le_mul_right _ hjl
    rw [List.getElem?_take] at hu
    split at hu
    · rw [List.getElem?_drop] at hu
      rw [add_plain, h.cell, List.getElem?_append_left (by omega)]
      exact hu
    · cases hu
end Go.Proofs.YtcfgmkmllcfjjaaGreatDoor
