/- ferruleref18.place and Take, as the printed texts call Take. -/
import Derived.Test.YthfkbfahpgdnfaaG1
import Derived.Test.YthfkbfahpgdnfaaA3
import Derived.Test.YthfkbfahpgdnfaaPAllx19
import Derived.Test.YthfkbfahpgdnfaaWMore
namespace Go.Proofs.Ythfkbfahpgdnfaa.PAll
open Go.RowKit Go.Proofs.YthfkbfahpgdnfaaW.PrintWords Go.Proofs.Ythfkbfahpgdnfaa
set_option linter.unusedVariables false
/-- The letter that has the k-th text (k ≥ 0); the places are counted from i on. -/
def plB : List S79 → Int → Int → Int
  | [], _, _ => -1
  | x :: r, k, i => if k < max x.f1 0 then i else plB r (k - max x.f1 0) (i + 1)
def plI (l : List S79) (k : Int) : Int := if k < 0 then -1 else plB l k 0
theorem rd_cons (l : List S79) (j : Nat) (hj : j < l.length) : l.drop j = rd_T79 l (j : Int) :: l.drop (j + 1) := by
  rw [List.drop_eq_getElem_cons hj]
  simp [rd_T79, List.getD_eq_getElem?_getD, List.getElem?_eq_getElem hj]
theorem plB_bound : ∀ (l : List S79) (k i : Int), plB l k i = -1 ∨ (i ≤ plB l k i ∧ plB l k i < i + l.length)
  | [], _, _ => .inl rfl
  | x :: r, k, i => by
    simp only [plB]
    split
    · exact .inr ⟨Int.le_refl _, by simp only [List.length_cons]; omega⟩
    · rcases plB_bound r (k - max x.f1 0) (i + 1) with h | h
      · exact .inl h
      · exact .inr ⟨by omega, by simp only [List.length_cons]; omega⟩
theorem plI_bound (l : List S79) (k : Int) : plI l k = -1 ∨ ∃ i : Nat, i < l.length ∧ plI l k = i := by
  unfold plI
  split
  · exact .inl rfl
  · rcases plB_bound l k 0 with h | h
    · exact .inl h
    · exact .inr ⟨(plB l k 0).toNat, by omega, by omega⟩
theorem place_l0 (l : List S79) (hl : l.length < 5864062014806) : ∀ (d j : Nat) (k : Int), d = l.length - j → j ≤ l.length → k ≤ 9223372036854775807 → ∀ q, 2 * d + 2 < q → ferruleref18_place.l0 q l k j = some (if k < 0 then -1 else plB (l.drop j) k j) := by
  intro d
  induction d with
  | zero =>
    intro j k hd hj hk q hq
    obtain ⟨q, rfl⟩ : ∃ m, q = m + 2 := ⟨q - 2, by omega⟩
    have : j = l.length := by omega
    subst this
    simp only [ferruleref18_place.l0]
    rw [if_neg (by omega)]
    simp only [ferruleref18_place.j1]
    simp [plB]
  | succ d ih =>
    intro j k hd hj hk q hq
    obtain ⟨q, rfl⟩ : ∃ m, q = m + 2 := ⟨q - 2, by omega⟩
    have hlt : j < l.length := by omega
    simp only [ferruleref18_place.l0]
    rw [if_pos (by omega)]
    simp only [ferruleref18_place.j1]
    by_cases hk0 : k < 0
    · rw [if_neg (by simp; omega), if_pos hk0]
    · rw [if_pos (by simp; omega), if_neg hk0, if_pos (by omega), if_pos (by omega), rd_cons l j hlt]
      simp only [plB]
      have hw : wrap64 ((j : Int) + 1) = ((j + 1 : Nat) : Int) := by unfold wrap64; omega
      generalize rd_T79 l (j : Int) = x
      by_cases hx : x.f1 > k
      · rw [if_pos hx, if_pos (show k < max x.f1 0 by omega)]
      · rw [if_neg hx, if_neg (show ¬ k < max x.f1 0 by omega)]
        by_cases hp : x.f1 > 0
        · rw [if_pos hp, hw, show wrap64 (k - x.f1) = k - x.f1 by unfold wrap64; omega, ih (j + 1) (k - x.f1) (by omega) (by omega) (by omega) q (by omega), if_neg (show ¬ k - x.f1 < 0 by omega), show max x.f1 0 = x.f1 by omega]
          rfl
        · rw [if_neg hp, hw, ih (j + 1) k (by omega) (by omega) hk q (by omega), if_neg hk0, show max x.f1 0 = 0 by omega]
          simp
theorem place_f (l : List S79) (hl : l.length < 5864062014806) (k : Int) (hk : k ≤ 9223372036854775807) (q : Nat) (hq : 2 * l.length + 2 < q) : ferruleref18_place.f q l k = some (plI l k) := by
  unfold ferruleref18_place.f plI
  have := place_l0 l hl l.length 0 k (by omega) (by omega) hk q hq
  simpa using this
/-- A bag less its k-th text, as the reference makes it. -/
def takeR (l : List S79) (i : Nat) : List S79 := l.take i ++ (if 1 < (l[i]!).f1 then [⟨(l[i]!).f0, (l[i]!).f1 - 1⟩] else []) ++ l.drop (i + 1)
def ferruleref18_Take.f (l0 : List S79) (a1 : Int) : Option (List S79 × ByteArray × Int) :=
  if l0.length < 5864062014800 ∧ a1 ≤ 9223372036854775807 ∧ ∀ x ∈ l0, x.f1 ≤ 9223372036854775807 then (if plI l0 a1 < 0 then some (l0, (⟨#[]⟩ : ByteArray), 7) else some (takeR l0 (plI l0 a1).toNat, (l0[(plI l0 a1).toNat]!).f0, 0)) else none
theorem elem_cells {A : Option Addr} {l : List S79} {w : World} (h : Kd.C k79 w A l.length l) (i : Nat) (hi : i < l.length) : ∃ b o, A = some ⟨b, o, none⟩ ∧ b < w.heap.size ∧ w.cell? ⟨b, o + i * 2, none⟩ = some (.string (l[i]!).f0) ∧ w.cell? ⟨b, o + i * 2 + 1, none⟩ = some (.int .i64 (l[i]!).f1) := by
  obtain ⟨b, o, rfl, hrow⟩ := C_row h (by decide) (by omega)
  obtain ⟨cs, hcs, hK, hrg⟩ := hrow i hi
  obtain rfl := flat79.openK _ _ _ hK
  have h0 : w.cell? ⟨b, o + i * 2, none⟩ = some (.string (l[i]!).f0) := hrg 0 _ rfl
  exact ⟨b, o, rfl, World.block_lt_of_cell? w _ h0, h0, hrg 1 _ rfl⟩
set_option maxHeartbeats 1000000 in
set_option maxRecDepth 100000 in
theorem refTake_hit (A0 : Option Addr) (c0 : Nat) (l0 : List S79) (a1 : Int) (w : World) (hr0 : Kd.C k79 w A0 l0.length l0) (hc0 : l0.length ≤ c0) (hl : l0.length < 5864062014800) (ha : a1 ≤ 9223372036854775807) (i : Nat) (hi : i < l0.length) (hp : plI l0 a1 = i) (x : S79) (hxx : x = l0[i]!) (hx : x.f1 ≤ 9223372036854775807) :
    Calls Try.prog 24 #[.slice A0 l0.length c0, .int .i64 a1] w fun e w' => ∃ v0_ : Value, e = .returned (.tuple #[v0_, .string x.f0, .int .i64 0]) ∧ Own 2 79 w' w.heap.size v0_ ((takeR l0 i).map enc79) ∧ Below w.heap.size w w' := by
  obtain ⟨b, o, rfl, hbw, hcA, hcB⟩ := elem_cells hr0 i hi
  have hraw : Kd.C (raw 2) w (some ⟨b, o, none⟩) (l0.map enc79).length (l0.map enc79) := by
    obtain ⟨A, c, he, _, h⟩ := flat79.sl (w := w) (v := .slice (some ⟨b, o, none⟩) l0.length c0) ⟨_, _, rfl, hc0, hr0⟩
    rw [List.length_map] at he h ⊢
    injection he with e1 e2 e3
    rw [e1]; exact h
  obtain ⟨q, hq⟩ : ∃ q, ferruleref18_place.f q l0 a1 = some (i : Int) := ⟨2 * l0.length + 3, by rw [place_f l0 (by omega) a1 ha _ (by omega), hp]⟩
  have HQ := Aside0.mk hq
  have HR := Aside0.mk hr0
  have HC := Aside0.mk hc0
  have HL := Aside0.mk hl
  have HRAW := Aside0.mk hraw
  have hlen : (l0.length : Int) ≤ 9223372036854775807 := by omega
  have hic : (i : Int) ≤ (c0 : Int) := by omega
  have hil : (i : Int) < (l0.length : Int) := by omega
  have hmap : (l0.map enc79).length = l0.length := List.length_map ..
  have HMP := Aside0.mk hmap
  have hfst : Kd.C (raw 2) w (some ⟨b, o, none⟩) i ((l0.map enc79).take i) := C_take hraw i (by omega)
  have hsnd : ∀ A', (i + 1 < l0.length → A' = some ⟨b, o + (i + 1) * 2, none⟩) → Kd.C (raw 2) w A' (l0.length - (i + 1)) ((l0.map enc79).drop (i + 1)) := fun A' hA => by
    have := C_drop hraw (i + 1) (by omega) A' (fun h1 ad had => by rw [hmap] at h1; cases had; rw [hA h1, Addr.add_lit])
    rwa [hmap] at this
  have HFS := Aside0.mk hfst
  have HSN := Aside0.mk hsnd
  rw [← hxx] at hcA hcB
  have HX := Aside0.mk hxx
  have HCA := Aside0.mk hcA
  have HCB := Aside0.mk hcB
  have HBW := Aside0.mk hbw
  clear hq hr0 hc0 hl hraw hfst hsnd hp hxx hmap ha
  go_enter Try.func24, Try.ntmps24
  go_wp2_with (first | (go_at_call 48; refine (ferruleref18_place.calls q _ c0 l0 a1 _ w HR.out HC.out HQ.out).mono ?_; rintro e w1 ⟨rfl, ⟨nd, rfl⟩⟩) | ((with_reducible refine gate_dst (N := 15) rfl ?_); refine Kd.R_lit (raw 2) _ 79 ?hg (N := 15) ?hd (xs := ([] : List (List Value))) (inner := []) (ok := fun _ => True) (okp := fun _ => True) ?hr ?hp (fun _ hk => hk) trivial (Below.refl _ _) (Nat.le_refl _) (by simp) ?_; (case hd => rfl); (case hg => rfl); (case hr => first | (go_simp; done) | (go_simp; rfl)); (case hp => exact (Reps.none _ _)); intro v5 w5 ho5 hb5 _ _) | (at_builtin; refine Kd.R_append_rows (raw 2) (w0 := w.drewN nd) w.heap.size rfl (.tmp 15) (.tmp 18) 22 79 (.agg #[(.string ⟨#[]⟩), (.int .i64 0)]) 24 rfl Try.underlying22 infoLetter rfl (by decide) (by omega) v5 [] ((l0.map enc79).take i) (some ⟨b, o, none⟩) i c0 (fun _ => True) (fun _ => False) rfl rfl ho5 (Kd.C_below HFS.out ((pw_below_drewN (Below.refl _ _) _).trans hb5)) (fun _ _ h => h) (fun _ h => h.elim) (fun _ _ => trivial) hb5 hb5.size ?aL ?_; (case aL => have := HL.out; have := HC.out; simp; omega); intro v7 w7 ho7 hb7' _ _; have hb7 := (pw_below_drewN (Below.refl w.heap.size w) nd).trans hb7'; clear hb7'; have hcA7 : w7.cell? ⟨b, o + i * 2, none⟩ = some (.string x.f0) := (hb7.cell (p := ⟨b, o + i * 2, none⟩) HBW.out).trans HCA.out; have hcB7 : w7.cell? ⟨b, o + i * 2 + 1, none⟩ = some (.int .i64 x.f1) := (hb7.cell (p := ⟨b, o + i * 2 + 1, none⟩) HBW.out).trans HCB.out; rw [List.nil_append] at ho7; have HO7 := Aside0.mk (Own.of_R ho7); have HB7 := Aside0.mk hb7; clear ho7 hb7))
  · have hx1 : 1 < x.f1 := by assumption
    have HT : Aside0 ((l0.map enc79).take i ++ [enc79 ⟨x.f0, x.f1 - 1⟩] ++ (l0.map enc79).drop (i + 1) = (takeR l0 i).map enc79) := ⟨by unfold takeR; rw [← HX.out, if_pos hx1]; simp⟩
    have HLX : Aside0 (((l0.map enc79).take i ++ [enc79 ⟨x.f0, x.f1 - 1⟩]).length ≤ i + 1) := ⟨by simp; omega⟩
    have hsub : IntKind.i64.wrap (x.f1 - 1) = x.f1 - 1 := by rw [IntKind.wrap_i64]; omega
    have hw1 : IntKind.i64.wrap ((i : Int) + 1) = (i : Int) + 1 := by rw [IntKind.wrap_i64]; omega
    have hw2 : (0 : Int) ≤ (i : Int) + 1 := by omega
    have hw3 : (i : Int) + 1 ≤ (l0.length : Int) := by omega
    have hw4 : ((i : Int) + 1).toNat = i + 1 := by omega
    have hone : Kd.C (raw 2) (w7.drew.alloc (.cells #[.string x.f0, .int .i64 (x.f1 - 1)] 79)) (some ⟨w7.heap.size, 0, none⟩) 1 [enc79 ⟨x.f0, x.f1 - 1⟩] := C_one (F := flat79.one _) (heap_alloc_new w7.drew _)
    have HONE := Aside0.mk hone
    clear hone
    go_region_law (refine step_append_own rfl (.tmp 26) (.tmp 39) 22 79 (.agg #[(.string ⟨#[]⟩), (.int .i64 0)]) 2 24 rfl Try.underlying22 infoLetter rfl (by decide) (by omega) w.heap.size v7 ((l0.map enc79).take i) [enc79 ⟨x.f0, x.f1 - 1⟩] (some ⟨w7.heap.size, 0, none⟩) 1 1 (by simp [Act.eval, Act.put]) (by simp [Act.eval, Act.put]) (HO7.out.below (((Below.refl _ _).drew).alloc (Nat.le_refl _) _)) HONE.out (by have := HB7.out.size; simp; omega) (by have := HL.out; simp; omega) ?_; intro v8 w8 ho8 hg8; have hb8 := (HB7.out.drew.alloc (by have := HB7.out.size; exact this) _).grown hg8 (by have := HB7.out.size; simp; omega) HO7.out.base; have hcA8 : w8.cell? ⟨b, o + i * 2, none⟩ = some (.string x.f0) := (hb8.cell (p := ⟨b, o + i * 2, none⟩) HBW.out).trans HCA.out; have HO8 := Aside0.mk ho8; have HB8 := Aside0.mk hb8; clear ho8 hg8 hb8)
    all_goals
      go_wp2
      obtain ⟨ce, hce⟩ : ∃ ce : Bool, ce = decide (c0 = i + 1) := ⟨_, rfl⟩
      cases ce with
      | true =>
        obtain rfl : c0 = i + 1 := of_decide_eq_true hce.symm
        clear hce
        have hE : Aside0 (i + 1 = l0.length) := ⟨by have := HC.out; omega⟩
        have hz0 : l0.length - (i + 1) = 0 := by have := hE.out; omega
        go_region_law (refine step_append_own rfl (.tmp 41) (.tmp 45) 22 79 (.agg #[(.string ⟨#[]⟩), (.int .i64 0)]) 2 24 rfl Try.underlying22 infoLetter rfl (by decide) (by omega) w.heap.size v8 ((l0.map enc79).take i ++ [enc79 ⟨x.f0, x.f1 - 1⟩]) ((l0.map enc79).drop (i + 1)) (some ⟨b, o, none⟩) 0 0 (by simp [Act.eval, Act.put]) (by simp [Act.eval, Act.put, hz0]) (HO8.out.below (by first | exact Below.refl _ _ | exact (Below.refl _ _).drew)) (by have := (HSN.out (some ⟨b, o, none⟩) (fun h => by have := hE.out; omega)); rw [hz0] at this; exact Kd.C_below this (by first | exact HB8.out | exact HB8.out.drew)) (by first | exact HB8.out.size | exact HB8.out.drew.size) (by have := HL.out; have := HLX.out; omega) ?_; intro v9 w9 ho9 hg9; have hcA9 : w9.cell? ⟨b, o + i * 2, none⟩ = some (.string x.f0) := ((HB8.out.drew.grown hg9 (by have := HB8.out.size; exact this) HO8.out.base).cell (p := ⟨b, o + i * 2, none⟩) HBW.out).trans HCA.out; have HO9 := Aside0.mk ho9; have HB9 := Aside0.mk (HB8.out.drew.grown hg9 (by have := HB8.out.size; exact this) HO8.out.base); clear ho9 hg9)
        all_goals go_wp2
        all_goals go_ret3
        all_goals exact ⟨_, rfl, by rw [← HT.out]; exact HO9.out, HB9.out⟩
      | false =>
        have hcf : ¬ c0 = i + 1 := of_decide_eq_false hce.symm
        clear hce
        go_region_law (refine step_append_own rfl (.tmp 41) (.tmp 45) 22 79 (.agg #[(.string ⟨#[]⟩), (.int .i64 0)]) 2 24 rfl Try.underlying22 infoLetter rfl (by decide) (by omega) w.heap.size v8 ((l0.map enc79).take i ++ [enc79 ⟨x.f0, x.f1 - 1⟩]) ((l0.map enc79).drop (i + 1)) (some ⟨b, o + (i + 1) * 2, none⟩) (l0.length - (i + 1)) (c0 - (i + 1)) (by simp [Act.eval, Act.put]) (by simp [Act.eval, Act.put]) (HO8.out.below (by first | exact Below.refl _ _ | exact (Below.refl _ _).drew)) (Kd.C_below (HSN.out _ (fun _ => rfl)) (by first | exact HB8.out | exact HB8.out.drew)) (by first | exact HB8.out.size | exact HB8.out.drew.size) (by have := HL.out; have := HLX.out; omega) ?_; intro v9 w9 ho9 hg9; have hcA9 : w9.cell? ⟨b, o + i * 2, none⟩ = some (.string x.f0) := ((HB8.out.drew.grown hg9 (by have := HB8.out.size; exact this) HO8.out.base).cell (p := ⟨b, o + i * 2, none⟩) HBW.out).trans HCA.out; have HO9 := Aside0.mk ho9; have HB9 := Aside0.mk (HB8.out.drew.grown hg9 (by have := HB8.out.size; exact this) HO8.out.base); clear ho9 hg9)
        all_goals go_wp2
        all_goals go_ret3
        all_goals exact ⟨_, rfl, by rw [← HT.out]; exact HO9.out, HB9.out⟩
  · have hx1 : ¬ 1 < x.f1 := by have : x.f1 ≤ 1 := by assumption
                                omega
    have HT : Aside0 ((l0.map enc79).take i ++ (l0.map enc79).drop (i + 1) = (takeR l0 i).map enc79) := ⟨by unfold takeR; rw [← HX.out, if_neg hx1]; simp⟩
    have HLX : Aside0 (((l0.map enc79).take i).length ≤ i + 1) := ⟨by simp; omega⟩
    have hw1 : IntKind.i64.wrap ((i : Int) + 1) = (i : Int) + 1 := by rw [IntKind.wrap_i64]; omega
    have hw2 : (0 : Int) ≤ (i : Int) + 1 := by omega
    have hw3 : (i : Int) + 1 ≤ (l0.length : Int) := by omega
    have hw4 : ((i : Int) + 1).toNat = i + 1 := by omega
    obtain ⟨ce, hce⟩ : ∃ ce : Bool, ce = decide (c0 = i + 1) := ⟨_, rfl⟩
    cases ce with
    | true =>
      obtain rfl : c0 = i + 1 := of_decide_eq_true hce.symm
      clear hce
      have hE : Aside0 (i + 1 = l0.length) := ⟨by have := HC.out; omega⟩
      have hz0 : l0.length - (i + 1) = 0 := by have := hE.out; omega
      go_region_law (refine step_append_own rfl (.tmp 41) (.tmp 45) 22 79 (.agg #[(.string ⟨#[]⟩), (.int .i64 0)]) 2 24 rfl Try.underlying22 infoLetter rfl (by decide) (by omega) w.heap.size v7 ((l0.map enc79).take i) ((l0.map enc79).drop (i + 1)) (some ⟨b, o, none⟩) 0 0 (by simp [Act.eval, Act.put]) (by simp [Act.eval, Act.put, hz0]) (HO7.out.below (by first | exact Below.refl _ _ | exact (Below.refl _ _).drew)) (by have := (HSN.out (some ⟨b, o, none⟩) (fun h => by have := hE.out; omega)); rw [hz0] at this; exact Kd.C_below this (by first | exact HB7.out | exact HB7.out.drew)) (by first | exact HB7.out.size | exact HB7.out.drew.size) (by have := HL.out; have := HLX.out; omega) ?_; intro v9 w9 ho9 hg9; have hcA9 : w9.cell? ⟨b, o + i * 2, none⟩ = some (.string x.f0) := ((HB7.out.drew.grown hg9 (by have := HB7.out.size; exact this) HO7.out.base).cell (p := ⟨b, o + i * 2, none⟩) HBW.out).trans HCA.out; have HO9 := Aside0.mk ho9; have HB9 := Aside0.mk (HB7.out.drew.grown hg9 (by have := HB7.out.size; exact this) HO7.out.base); clear ho9 hg9)
      all_goals go_wp2
      all_goals go_ret3
      all_goals exact ⟨_, rfl, by rw [← HT.out]; exact HO9.out, HB9.out⟩
    | false =>
      have hcf : ¬ c0 = i + 1 := of_decide_eq_false hce.symm
      clear hce
      go_region_law (refine step_append_own rfl (.tmp 41) (.tmp 45) 22 79 (.agg #[(.string ⟨#[]⟩), (.int .i64 0)]) 2 24 rfl Try.underlying22 infoLetter rfl (by decide) (by omega) w.heap.size v7 ((l0.map enc79).take i) ((l0.map enc79).drop (i + 1)) (some ⟨b, o + (i + 1) * 2, none⟩) (l0.length - (i + 1)) (c0 - (i + 1)) (by simp [Act.eval, Act.put]) (by simp [Act.eval, Act.put]) (HO7.out.below (by first | exact Below.refl _ _ | exact (Below.refl _ _).drew)) (Kd.C_below (HSN.out _ (fun _ => rfl)) (by first | exact HB7.out | exact HB7.out.drew)) (by first | exact HB7.out.size | exact HB7.out.drew.size) (by have := HL.out; have := HLX.out; omega) ?_; intro v9 w9 ho9 hg9; have hcA9 : w9.cell? ⟨b, o + i * 2, none⟩ = some (.string x.f0) := ((HB7.out.drew.grown hg9 (by have := HB7.out.size; exact this) HO7.out.base).cell (p := ⟨b, o + i * 2, none⟩) HBW.out).trans HCA.out; have HO9 := Aside0.mk ho9; have HB9 := Aside0.mk (HB7.out.drew.grown hg9 (by have := HB7.out.size; exact this) HO7.out.base); clear ho9 hg9)
      all_goals go_wp2
      all_goals go_ret3
      all_goals exact ⟨_, rfl, by rw [← HT.out]; exact HO9.out, HB9.out⟩
theorem ferruleref18_Take.calls (P0_ : Nat → Prop) (A0 : Option Addr) (c0 : Nat) (l0 : List S79) (a1 : Int) (r1 : List S79) (r2 : ByteArray) (r3 : Int) (w : World) (hs0 : Kd.V k79 79 w w.heap.size (fun k_ => P0_ k_) (.slice A0 l0.length c0) l0) (h : ferruleref18_Take.f l0 a1 = some (r1, r2, r3)) :
    Calls Try.prog 24 #[.slice A0 l0.length c0, .int .i64 a1] w fun e w' => ∃ v0_ : Value, e = .returned (.tuple #[v0_, .string r2, .int .i64 r3]) ∧ Kd.V k79 79 w' w.heap.size (fun k_ => (P0_ k_ ∨ w.heap.size ≤ k_)) v0_ r1 ∧ Below w.heap.size w w' := by
  unfold ferruleref18_Take.f at h
  split at h
  · rename_i hc
    obtain ⟨hl, ha, hx⟩ := hc
    have hr0 : Kd.C k79 w A0 l0.length l0 := (Kd.V_reads' hs0).2.2
    have hc0 : l0.length ≤ c0 := (Kd.V_reads' hs0).2.1
    rcases plI_bound l0 a1 with hp | ⟨i, hi, hp⟩
    · rw [hp, if_pos (by omega)] at h
      simp only [Option.some.injEq, Prod.mk.injEq] at h
      obtain ⟨rfl, rfl, rfl⟩ := h
      obtain ⟨q, hq⟩ : ∃ q, ferruleref18_place.f q l0 a1 = some (-1 : Int) := ⟨2 * l0.length + 3, by rw [place_f l0 (by omega) a1 ha _ (by omega), hp]⟩
      have HQ := Aside0.mk hq
      have HV := Aside0.mk hs0
      have HR := Aside0.mk hr0
      have HC := Aside0.mk hc0
      clear hq hs0 hr0 hc0 hl ha hx hp
      go_enter Try.func24, Try.ntmps24
      go_wp2_with (go_at_call 48; refine (ferruleref18_place.calls q _ c0 l0 a1 _ w HR.out HC.out HQ.out).mono ?_; rintro e w1 ⟨rfl, ⟨nd, rfl⟩⟩)
      go_ret3
      exact ⟨_, rfl, Kd.V_mono (Kd.V_drewN HV.out nd) (fun _ h => .inl h), pw_below_drewN (Below.refl _ _) nd⟩
    · rw [hp, if_neg (by omega), Int.toNat_natCast] at h
      simp only [Option.some.injEq, Prod.mk.injEq] at h
      obtain ⟨rfl, rfl, rfl⟩ := h
      refine (refTake_hit A0 c0 l0 a1 w hr0 hc0 hl ha i hi hp _ rfl (hx _ (by rw [getElem!_pos l0 i hi]; exact List.getElem_mem hi))).mono ?_
      rintro e w' ⟨v, rfl, ho, hb⟩
      have hbase := ho.base
      exact ⟨v, rfl, Kd.R_V (flat79.R ho (fun b hb => .inr (hbase b hb))), hb⟩
  · cases h
#print axioms ferruleref18_Take.calls
end Go.Proofs.Ythfkbfahpgdnfaa.PAll
