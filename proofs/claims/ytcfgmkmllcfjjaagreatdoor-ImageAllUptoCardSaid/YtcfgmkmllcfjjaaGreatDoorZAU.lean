import Derived.Test.YtcfgmkmllcfjjaaGreatDoorZAT
set_option linter.unusedVariables false
set_option linter.unusedSimpArgs false
namespace Go.Proofs.YtcfgmkmllcfjjaaGreatDoor
open Go.RowKit Go.Proofs.YtcfgmkmllcfjjaaGreatDoorW.PrintWords Go.Proofs.YtcfgmkmllcfjjaaGreatDoorW.PrintMore PImageAll
def mkTy : S56 := ⟨mk4, []⟩
def mkSn : S65 := ⟨-77, ⟨⟨#[]⟩, 0, []⟩, false⟩
theorem Reps.marks {α : Type} {R : α → List Value → Prop} {sz : Nat} {ps : List α} {cs c : List Value} {q : α} (h : Reps R sz ps cs) (hq : R q c) (hc : c.length = sz) : ∀ k, Reps R sz (ps ++ List.replicate k q) (cs ++ (List.replicate k c).flatten)
  | 0 => by simpa using h
  | k + 1 => by
    have := (Reps.marks h hq hc k).snoc hq hc
    rw [List.replicate_succ', List.replicate_succ', List.flatten_append, ← List.append_assoc, ← List.append_assoc]
    simpa using this
theorem AtRow.done {W : World} {g : Nat} {xs : List S58} (h : AtRow W g xs (xs.length + 6)) : Cl W g 58 ((xs ++ List.replicate 6 mkA).flatMap atC) := by
  unfold AtRow at h
  rw [Nat.sub_self, zr_zero, List.append_nil, List.take_of_length_le (by simp)] at h
  exact h
theorem VaRow.done {W : World} {g : Nat} {xs : List S67} (h : VaRow W g xs (xs.length + 6)) : Cl W g 67 ((xs ++ List.replicate 6 mkV).flatMap vaC) := by
  unfold VaRow at h
  rw [Nat.sub_self, zr_zero, List.append_nil, List.take_of_length_le (by simp)] at h
  exact h
theorem SvRow.done {base : Nat} {W : World} {g : Nat} {xs : List S60} (h : SvRow base W g xs (xs.length + 6)) : Cl W g 60 ((xs ++ List.replicate 6 mkQ).flatMap svC) := by
  have h := h.2
  rw [Nat.sub_self, zr_zero, List.append_nil, List.take_of_length_le (by simp)] at h
  exact h
theorem at_full {W : World} {g : Nat} {xs : List S58} (h : Cl W g 58 ((xs ++ List.replicate 6 mkA).flatMap atC)) (hm : xs.length ≤ 1000000000000) : Kd.C k58 W (some ⟨g, 0, none⟩) (xs ++ List.replicate 6 mkA).length (xs ++ List.replicate 6 mkA) :=
  Cl.reads (r := []) (by rw [List.append_nil]; exact h) (reps_flat atC 2 (fun _ => rfl) (fun x => k58_mk W x) _) (by simp; omega)
theorem va_full {W : World} {g : Nat} {xs : List S67} (h : Cl W g 67 ((xs ++ List.replicate 6 mkV).flatMap vaC)) (hm : xs.length ≤ 1000000000000) : Kd.C k67 W (some ⟨g, 0, none⟩) (xs ++ List.replicate 6 mkV).length (xs ++ List.replicate 6 mkV) :=
  Cl.reads (r := []) (by rw [List.append_nil]; exact h) (reps_flat vaC 4 (fun _ => rfl) (fun x => k67_mk W x) _) (by simp; omega)
theorem SvRow.full {base : Nat} {W : World} {g : Nat} {xs : List S60} (h : SvRow base W g xs (xs.length + 6)) (hm : xs.length ≤ 1000000000000) : Kd.C k60 W (some ⟨g, 0, none⟩) (xs ++ List.replicate 6 mkQ).length (xs ++ List.replicate 6 mkQ) :=
  Cl.reads (r := []) (by rw [List.append_nil]; exact h.done) (reps_flat svC 4 (fun _ => rfl) (fun x => k60_mk W x) _) (by simp; omega)
theorem C_front {α : Type} {k : Kd α} {W : World} {A : Option Addr} {xs ys : List α} (h : Kd.C k W A (xs ++ ys).length (xs ++ ys)) : Kd.C k W A xs.length xs := by
  have := Kd.C_take h (m := xs.length) (by simp)
  simpa using this
theorem TyE.reads {base : Nat} {W : World} {x : S56} {cs : List Value} (h : TyE base W x cs) (hm : x.f1.length ≤ 1000000000000) : ∃ g, base ≤ g ∧ cs = [.string x.f0, .slice (some ⟨g, 0, none⟩) x.f1.length (x.f1.length + 6)] ∧ Kd.C k58 W (some ⟨g, 0, none⟩) (x.f1 ++ List.replicate 6 mkA).length (x.f1 ++ List.replicate 6 mkA) := by
  obtain ⟨g, h1, h2, h3⟩ := h
  exact ⟨g, h1, h2, at_full h3 hm⟩
theorem SnE.reads {base : Nat} {W : World} {x : S65} {cs : List Value} (h : SnE base W x cs) (hm : x.f1.f2.length ≤ 1000000000000) : ∃ g, base ≤ g ∧ cs = [.int .i64 x.f0, .string x.f1.f0, .int .i64 x.f1.f1, .slice (some ⟨g, 0, none⟩) x.f1.f2.length (x.f1.f2.length + 6), .bool x.f2] ∧ Kd.C k67 W (some ⟨g, 0, none⟩) (x.f1.f2 ++ List.replicate 6 mkV).length (x.f1.f2 ++ List.replicate 6 mkV) := by
  obtain ⟨g, h1, h2, h3⟩ := h
  exact ⟨g, h1, h2, va_full h3 hm⟩
theorem reps_impm {α : Type} {R R' : α → List Value → Prop} {sz : Nat} {ps : List α} {cs : List Value} (h : Reps R sz ps cs) (hR : ∀ p ∈ ps, ∀ c, R p c → R' p c) : Reps R' sz ps cs := ⟨h.1, fun j p hj => hR _ (List.mem_of_getElem? hj) _ (h.2 j p hj)⟩
theorem TyRow.full {base : Nat} {W : World} {g : Nat} {xs : List S56} (h : TyRow base W g xs (xs.length + 6)) (hm : xs.length ≤ 1000000000000) (ha : ∀ x ∈ xs, x.f1.length ≤ 1000000000000) : Kd.C k56 W (some ⟨g, 0, none⟩) (xs ++ List.replicate 6 mkTy).length (xs ++ List.replicate 6 mkTy) := by
  obtain ⟨_, d, h2, h3⟩ := h
  rw [List.take_of_length_le (by omega)] at h2
  rw [Nat.sub_self, zr_zero, List.append_nil, show xs.length + 6 - xs.length = 6 by omega] at h3
  have hR : Reps (k56.K W) 2 xs d := reps_impm h2 (fun x hx c hc => by
    obtain ⟨g', _, rfl, hC⟩ := hc.reads (ha x hx)
    exact k56_mk W x (by omega) (C_front hC))
  exact Cl.reads (r := []) (by rw [List.append_nil]; exact h3) (Reps.marks hR (q := mkTy) (c := mkT) (k56_mk W mkTy (A1 := none) (c1 := 0) (Nat.le_refl _) (Kd.C_nil _ _)) rfl 6) (by simp; omega)
theorem SnRow.full {base : Nat} {W : World} {g : Nat} {xs : List S65} (h : SnRow base W g xs (xs.length + 6)) (hm : xs.length ≤ 1000000000000) (ha : ∀ x ∈ xs, x.f1.f2.length ≤ 1000000000000) : Kd.C k65 W (some ⟨g, 0, none⟩) (xs ++ List.replicate 6 mkSn).length (xs ++ List.replicate 6 mkSn) := by
  obtain ⟨_, d, h2, h3⟩ := h
  rw [List.take_of_length_le (by omega)] at h2
  rw [Nat.sub_self, zr_zero, List.append_nil, show xs.length + 6 - xs.length = 6 by omega] at h3
  have hR : Reps (k65.K W) 5 xs d := reps_impm h2 (fun x hx c hc => by
    obtain ⟨g', _, rfl, hC⟩ := hc.reads (ha x hx)
    exact k65_mk W x (by omega) (C_front hC))
  exact Cl.reads (r := []) (by rw [List.append_nil]; exact h3) (Reps.marks hR (q := mkSn) (c := mkS) (k65_mk W mkSn (A3 := none) (c3 := 0) (Nat.le_refl _) (Kd.C_nil _ _)) rfl 6) (by simp; omega)
theorem TyRow.at_ {base : Nat} {W : World} {g : Nat} {xs : List S56} (h : TyRow base W g xs (xs.length + 6)) (i : Nat) (hi : i < xs.length) (ha : xs[i].f1.length ≤ 1000000000000) :
    ∃ ga, base ≤ ga ∧ W.cell? ⟨g, i * 2 + 1, none⟩ = some (.slice (some ⟨ga, 0, none⟩) xs[i].f1.length (xs[i].f1.length + 6)) ∧ Kd.C k58 W (some ⟨ga, 0, none⟩) (xs[i].f1 ++ List.replicate 6 mkA).length (xs[i].f1 ++ List.replicate 6 mkA) := by
  obtain ⟨_, d, h2, h3⟩ := h
  rw [List.take_of_length_le (by omega)] at h2
  obtain ⟨ga, hb, hc, hC⟩ := (h2.2 i _ (List.getElem?_eq_getElem hi)).reads ha
  refine ⟨ga, hb, ?_, hC⟩
  have hl := h2.1
  rw [h3.cell, List.getElem?_append_left (by omega)]
  have := congrArg (·[1]?) hc
  simpa [List.getElem?_take, List.getElem?_drop] using this
theorem SnRow.at_ {base : Nat} {W : World} {g : Nat} {xs : List S65} (h : SnRow base W g xs (xs.length + 6)) (i : Nat) (hi : i < xs.length) (ha : xs[i].f1.f2.length ≤ 1000000000000) :
    ∃ ga, base ≤ ga ∧ W.cell? ⟨g, i * 5 + 3, none⟩ = some (.slice (some ⟨ga, 0, none⟩) xs[i].f1.f2.length (xs[i].f1.f2.length + 6)) ∧ Kd.C k67 W (some ⟨ga, 0, none⟩) (xs[i].f1.f2 ++ List.replicate 6 mkV).length (xs[i].f1.f2 ++ List.replicate 6 mkV) := by
  obtain ⟨_, d, h2, h3⟩ := h
  rw [List.take_of_length_le (by omega)] at h2
  obtain ⟨ga, hb, hc, hC⟩ := (h2.2 i _ (List.getElem?_eq_getElem hi)).reads ha
  refine ⟨ga, hb, ?_, hC⟩
  have hl := h2.1
  rw [h3.cell, List.getElem?_append_left (by omega)]
  have := congrArg (·[3]?) hc
  simpa [List.getElem?_take, List.getElem?_drop] using this
theorem Twn.reads {base : Nat} {W : World} {m : Img} {g4 g5 g6 : Nat} (h : Twn base W m g4 g5 g6) (hL : ImgL m) : ImgV W m (some ⟨g4, 0, none⟩) (m.types.length + 6) (some ⟨g5, 0, none⟩) (m.saved.length + 6) (some ⟨g6, 0, none⟩) (m.seens.length + 6) :=
  ⟨⟨C_front (h.ty.full hL.t hL.a), by omega⟩, ⟨C_front (h.sv.full hL.q), by omega⟩, ⟨C_front (h.sn.full hL.s hL.v), by omega⟩⟩
end Go.Proofs.YtcfgmkmllcfjjaaGreatDoor
