/- bag.Put, as the printed texts call it. -/
import Derived.Test.YthfkbfahpgdnfaaG1
import Derived.Test.YthfkbfahpgdnfaaA3
import Derived.WalkLawsBesides
namespace Go.Proofs.Ythfkbfahpgdnfaa.PAll
open Go.RowKit Go.Proofs.YthfkbfahpgdnfaaW.PrintWords Go.Proofs.Ythfkbfahpgdnfaa
set_option linter.unusedVariables false
theorem bagPut1 (B : Nat) (text : ByteArray) (x : S79) (W : World) (hB : W.cell? ⟨B, 0, none⟩ = some (.string text)) :
    Calls Try.prog 53 #[.agg (enc79 x).toArray, .pointer (some ⟨B, 0, none⟩)] W fun e W' => e = .returned (.bool (x.f0.toList == text.toList)) ∧ Below W.heap.size W W' := by
  unfold enc79
  have hlt := World.block_lt_of_cell? W _ hB
  have hc : (W.alloc (.cells #[.string x.f0, .int .i64 x.f1] 79)).cell? ⟨B, 0, none⟩ = some (.string text) := (Below.cell ((Below.refl _ W).alloc (Nat.le_refl _) _) hlt).trans hB
  go_enter Try.func53, Try.ntmps53
  go_wp2
  go_ret
  exact ⟨rfl, (Below.refl _ W).alloc (Nat.le_refl _) _⟩
theorem bagPut2 (B : Nat) (text : ByteArray) (x : S79) (W : World) (hB : W.cell? ⟨B, 0, none⟩ = some (.string text)) :
    Calls Try.prog 54 #[.agg (enc79 x).toArray, .pointer (some ⟨B, 0, none⟩)] W fun e W' => e = .returned (.bool (!Op.bytesLess x.f0.toList text.toList && !x.f0.toList == text.toList)) ∧ Below W.heap.size W W' := by
  unfold enc79
  have hlt := World.block_lt_of_cell? W _ hB
  have hc : (W.alloc (.cells #[.string x.f0, .int .i64 x.f1] 79)).cell? ⟨B, 0, none⟩ = some (.string text) := (Below.cell ((Below.refl _ W).alloc (Nat.le_refl _) _) hlt).trans hB
  go_enter Try.func54, Try.ntmps54
  go_wp2
  go_ret
  exact ⟨rfl, (Below.refl _ W).alloc (Nat.le_refl _) _⟩
/-- A bag with a text more. -/
def putB (l : List S79) (text : ByteArray) : List S79 :=
  let i := findI (fun x => x.f0.toList == text.toList) l
  if 0 ≤ i then l.set i.toNat ⟨(l[i.toNat]!).f0, wrap64 ((l[i.toNat]!).f1 + 1)⟩ else
    let j := findI (fun x => !Op.bytesLess x.f0.toList text.toList && !x.f0.toList == text.toList) l
    let j' := if j < 0 then l.length else j.toNat
    l.take j' ++ ⟨text, 1⟩ :: l.drop j'
theorem findI_cases {α : Type} (p : α → Bool) (l : List α) : findI p l = -1 ∨ ∃ i : Nat, i < l.length ∧ findI p l = i := by
  unfold findI
  split
  · exact .inr ⟨_, ‹_›, rfl⟩
  · exact .inl rfl
def bag_Put.f (l0 : List S79) (a1 : ByteArray) : Option (List S79) := if l0.length < 5864062014804 then some (putB l0 a1) else none
theorem bagPut_pred1 (B : Nat) (text : ByteArray) (w1 : World) (l0 : List S79) (hB : w1.cell? ⟨B, 0, none⟩ = some (.string text)) :
    Pred Try.prog 53 #[.pointer (some ⟨B, 0, none⟩)] (fun cs => .agg cs.toArray) k79 w1 l0 (fun x => x.f0.toList == text.toList) := fun W x cs hb _ hK => by
  obtain rfl := flat79.openK _ _ _ hK
  exact bagPut1 B text x W ((hb.cell (World.block_lt_of_cell? w1 _ hB)).trans hB)
theorem bagPut_pred2 (B : Nat) (text : ByteArray) (w1 : World) (l0 : List S79) (hB : w1.cell? ⟨B, 0, none⟩ = some (.string text)) :
    Pred Try.prog 54 #[.pointer (some ⟨B, 0, none⟩)] (fun cs => .agg cs.toArray) k79 w1 l0 (fun x => !Op.bytesLess x.f0.toList text.toList && !x.f0.toList == text.toList) := fun W x cs hb _ hK => by
  obtain rfl := flat79.openK _ _ _ hK
  exact bagPut2 B text x W ((hb.cell (World.block_lt_of_cell? w1 _ hB)).trans hB)
set_option maxHeartbeats 1000000 in
set_option maxRecDepth 100000 in
theorem bagPut_hit (v : Value) (l0 : List S79) (text : ByteArray) (w : World) (hv : Sl k79 w v l0) (hl : l0.length < 5864062014804) (i : Nat) (hi : i < l0.length) (hf : findI (fun x : S79 => x.f0.toList == text.toList) l0 = i) :
    Calls Try.prog 28 #[v, .string text] w fun e w' => ∃ v0_ : Value, e = .returned (v0_) ∧ Kd.R k79 79 w' w.heap.size (fun _ => True) v0_ (l0.set i ⟨(l0[i]!).f0, wrap64 ((l0[i]!).f1 + 1)⟩) ∧ Below w.heap.size w w' := by
  have HV := Aside0.mk hv
  have HL := Aside0.mk hl
  have HF := Aside0.mk hf
  have HI := Aside0.mk hi
  clear hv hl hf hi
  go_enter Try.func28, Try.ntmps28
  go_wp2_with (first | (go_at_call 50; refine (CloneLetter v (l0.map enc79) _ (flat79.sl (HV.out.below ((Below.refl _ w).alloc (Nat.le_refl _) _))) (by rw [List.length_map]; have := HL.out; omega)).mono ?_; rintro e w1 ⟨v1, rfl, ho1, hb1⟩; have HO1 := Aside0.mk ho1; have HB1 := Aside0.mk hb1; clear ho1 hb1))
  obtain ⟨w1, hw1⟩ : ∃ w1', w1' = w1 := ⟨_, rfl⟩
  rw [← hw1] at HO1 HB1 ⊢
  clear hw1
  have hcell : w1.cell? ⟨w.heap.size, 0, none⟩ = some (.string text) := by
    rw [HB1.out.cell (p := ⟨w.heap.size, 0, none⟩) (by simp)]
    exact cell_row (cs := [.string text]) (heap_alloc_new w _) 0
  have HBB : Aside0 (Below w.heap.size w w1) := ⟨((Below.refl _ w).alloc (Nat.le_refl _) _).trans (HB1.out.mono (by simp))⟩
  have hsl := Aside0.mk (flat79.ofsl HO1.out.sl)
  have hpred := Aside0.mk (bagPut_pred1 w.heap.size text w1 l0 hcell)
  have hge := Aside0.mk (HO1.out.base)
  obtain ⟨g, cap, hvv⟩ : ∃ g cap, v1 = .slice (some ⟨g, 0, none⟩) l0.length cap := by
    rcases HO1.out.cases with ⟨_, h⟩ | ⟨g, cap, _, h, _⟩
    · have := HI.out
      simp at h; subst h; simp at this
    · exact ⟨g, cap, by rw [h, List.length_map]⟩
  subst hvv
  clear hcell
  refine (IndexFuncLetter k79 rfl (fun x => x.f0.toList == text.toList) 53 #[.pointer (some ⟨w.heap.size, 0, none⟩)] (enters_of Try.func53 (by kernel_rfl) rfl) _ l0 w1 hsl.out hpred.out).mono ?_
  rintro e w2 ⟨rfl, hb2⟩
  rw [HF.out]
  have HO2 := HO1.out.below hb2
  have hi' : i < (l0.map enc79).length := by rw [List.length_map]; exact HI.out
  have hg1 := HO2.get i 1 hi' (by decide)
  have hel : (l0.map enc79)[i]! = enc79 (l0[i]!) := by rw [getElem!_pos _ i hi', getElem!_pos l0 i HI.out]; simp
  rw [hel] at hg1
  have hc1 : w2.cell? ⟨g, i * 2 + 1, none⟩ = some (.int .i64 (l0[i]!).f1) := hg1.1
  have hfz : w2.frozen? ⟨g, i * 2 + 1, none⟩ = false := hg1.2.1
  have hst := HO2.store i 1 hi' (by decide) (.int .i64 (wrap64 ((l0[i]!).f1 + 1))) rfl
  rw [hel, show (enc79 (l0[i]!)).set 1 (.int .i64 (wrap64 ((l0[i]!).f1 + 1))) = enc79 ⟨(l0[i]!).f0, wrap64 ((l0[i]!).f1 + 1)⟩ from rfl, ← List.map_set] at hst
  have HST := Aside0.mk hst
  have HB2 := Aside0.mk (below_then HBB.out hb2 HBB.out.size)
  have hil : (i : Int) < (l0.length : Int) := by have := HI.out; omega
  clear hst hg1 HO2 hel hb2 hi' HV HF HI HL HB1 hsl hpred
  obtain ⟨y, hy⟩ : ∃ y, y = l0[i]! := ⟨_, rfl⟩
  rw [← hy] at hc1 HST
  have HY := Aside0.mk hy
  clear hy
  go_wp2
  go_ret
  rw [← HY.out]
  refine ⟨_, rfl, flat79.R (HST.out.1.lower ?_) (fun _ _ => trivial), ?_⟩
  · simp
  · exact HB2.out.grown HST.out.2 HB2.out.size (fun q hq => by cases hq; have := hge.out g rfl; simp at this; omega)
set_option maxHeartbeats 1000000 in
set_option maxRecDepth 100000 in
theorem bagPut_miss (v : Value) (l0 : List S79) (text : ByteArray) (w : World) (hv : Sl k79 w v l0) (hl : l0.length < 5864062014804) (j : Nat) (hj : j ≤ l0.length) (hf : findI (fun x : S79 => x.f0.toList == text.toList) l0 = -1)
    (jj : Int) (hfj : findI (fun x : S79 => !Op.bytesLess x.f0.toList text.toList && !x.f0.toList == text.toList) l0 = jj) (hjj : (jj < 0 ∧ j = l0.length) ∨ (jj = j)) :
    Calls Try.prog 28 #[v, .string text] w fun e w' => ∃ v0_ : Value, e = .returned (v0_) ∧ Kd.R k79 79 w' w.heap.size (fun _ => True) v0_ (l0.take j ++ ⟨text, 1⟩ :: l0.drop j) ∧ Below w.heap.size w w' := by
  have HV := Aside0.mk hv
  have HL := Aside0.mk hl
  have HF := Aside0.mk hf
  have HFJ := Aside0.mk hfj
  have HJ := Aside0.mk hj
  have HJJ := Aside0.mk hjj
  have hlen : (l0.length : Int) ≤ 9223372036854775807 := by omega
  clear hv hl hf hj hfj hjj
  go_enter Try.func28, Try.ntmps28
  go_wp2_with (first | (go_at_call 50; refine (CloneLetter v (l0.map enc79) _ (flat79.sl (HV.out.below ((Below.refl _ w).alloc (Nat.le_refl _) _))) (by rw [List.length_map]; have := HL.out; omega)).mono ?_; rintro e w1 ⟨v1, rfl, ho1, hb1⟩; have HO1 := Aside0.mk ho1; have HB1 := Aside0.mk hb1; clear ho1 hb1))
  obtain ⟨w1, hw1⟩ : ∃ w1', w1' = w1 := ⟨_, rfl⟩
  rw [← hw1] at HO1 HB1 ⊢
  clear hw1
  have hcell : w1.cell? ⟨w.heap.size, 0, none⟩ = some (.string text) := by
    rw [HB1.out.cell (p := ⟨w.heap.size, 0, none⟩) (by simp)]
    exact cell_row (cs := [.string text]) (heap_alloc_new w _) 0
  have HBB : Aside0 (Below w.heap.size w w1) := ⟨((Below.refl _ w).alloc (Nat.le_refl _) _).trans (HB1.out.mono (by simp))⟩
  have hsl := Aside0.mk (flat79.ofsl HO1.out.sl)
  have hpred := Aside0.mk (bagPut_pred1 w.heap.size text w1 l0 hcell)
  have hge := Aside0.mk (HO1.out.base)
  have HC := Aside0.mk hcell
  clear hcell
  refine (IndexFuncLetter k79 rfl (fun x => x.f0.toList == text.toList) 53 #[.pointer (some ⟨w.heap.size, 0, none⟩)] (enters_of Try.func53 (by kernel_rfl) rfl) _ l0 w1 hsl.out hpred.out).mono ?_
  rintro e w2 ⟨rfl, hb2⟩
  rw [HF.out]
  have HB2 := Aside0.mk (below_then HBB.out hb2 HBB.out.size)
  have HO2 := Aside0.mk (HO1.out.below hb2)
  have hcell2 : w2.cell? ⟨w.heap.size, 0, none⟩ = some (.string text) := (hb2.cell (World.block_lt_of_cell? w1 _ HC.out)).trans HC.out
  have HC2 := Aside0.mk hcell2
  have hsl2 := Aside0.mk (flat79.ofsl HO2.out.sl)
  have hpred2 := Aside0.mk (bagPut_pred2 w.heap.size text w2 l0 hcell2)
  clear hcell2 hb2 hsl hpred HB1 HC HV HF
  go_wp2_with fail
  refine (IndexFuncLetter k79 rfl (fun x => !Op.bytesLess x.f0.toList text.toList && !x.f0.toList == text.toList) 54 #[.pointer (some ⟨w.heap.size, 0, none⟩)] (enters_of Try.func54 (by kernel_rfl) rfl) _ l0 w2 hsl2.out hpred2.out).mono ?_
  rintro e w3 ⟨rfl, hb3⟩
  rw [HFJ.out]
  have HB3 := Aside0.mk (below_then HB2.out hb3 HB2.out.size)
  have HO3 := Aside0.mk (HO2.out.below hb3)
  have hcell3 : w3.cell? ⟨w.heap.size, 0, none⟩ = some (.string text) := (hb3.cell (World.block_lt_of_cell? w2 _ HC2.out)).trans HC2.out
  obtain ⟨A, cap, hvv⟩ : ∃ A cap, v1 = .slice A l0.length cap := by
    obtain ⟨A, cap, he, _⟩ := HO3.out.sl
    exact ⟨A, cap, by rw [he, List.length_map]⟩
  subst hvv
  clear hb3 hsl2 hpred2 HC2 HFJ HO1 HO2
  have hcellA : ∀ o, (w3.alloc o).cell? ⟨w.heap.size, 0, none⟩ = some (.string text) := fun o => (Below.cell ((Below.refl _ w3).alloc (Nat.le_refl _) o) (World.block_lt_of_cell? w3 _ hcell3)).trans hcell3
  have HIN : ∀ W : World, W = w3.alloc (.cells #[.string text, .int .i64 1] 79) → Calls Try.prog 55 #[.slice A l0.length cap, .int .i64 j, .slice (some ⟨w3.heap.size, 0, none⟩) 1 1] W (InsertPostLetter W (w.alloc (.cells #[.string text] 9)).heap.size (.slice A l0.length cap) ((l0.map enc79).take j ++ enc79 ⟨text, 1⟩ :: (l0.map enc79).drop j)) := fun W hW => by
    subst hW
    exact InsertLetter _ (l0.map enc79) j (enc79 ⟨text, 1⟩) w3.heap.size _ _ (HO3.out.below ((Below.refl _ w3).alloc (Nat.le_refl _) _)) (by have := HB3.out.size; have := World.block_lt_of_cell? w3 _ hcell3; simp at this ⊢; omega) (by rw [List.length_map]; exact HJ.out) (heap_alloc_new w3 _) (flat79.one _) (fun e => by have := HO3.out.lt _ e; omega) (by rw [List.length_map]; have := HL.out; omega)
  have HINA := Aside0.mk HIN
  clear HIN
  rcases HJJ.out with ⟨h1, h2⟩ | h1
  · subst h2
    have h3 : jj < 0 := h1
    go_wp2_with (go_at_call 55; refine (HINA.out _ rfl).mono ?_; rintro e w4 ⟨v4, rfl, ho4, hg4⟩; have HO4 := Aside0.mk ho4; have HG4 := Aside0.mk hg4; clear ho4 hg4)
    go_ret
    rw [← List.map_take, ← List.map_drop, ← List.map_cons, ← List.map_append] at HO4
    exact ⟨_, rfl, flat79.R (HO4.out.lower (by simp)) (fun _ _ => trivial), (HB3.out.trans ((Below.refl _ w3).alloc HB3.out.size _)).grown HG4.out (by have := HB3.out.size; simp; omega) (fun q hq => by have := hge.out q (by rw [ownBlock_slice] at hq ⊢; exact hq); simp at this; omega)⟩
  · subst h1
    have h3 : ¬ (j : Int) < 0 := by omega
    go_wp2_with (go_at_call 55; refine (HINA.out _ rfl).mono ?_; rintro e w4 ⟨v4, rfl, ho4, hg4⟩; have HO4 := Aside0.mk ho4; have HG4 := Aside0.mk hg4; clear ho4 hg4)
    go_ret
    rw [← List.map_take, ← List.map_drop, ← List.map_cons, ← List.map_append] at HO4
    exact ⟨_, rfl, flat79.R (HO4.out.lower (by simp)) (fun _ _ => trivial), (HB3.out.trans ((Below.refl _ w3).alloc HB3.out.size _)).grown HG4.out (by have := HB3.out.size; simp; omega) (fun q hq => by have := hge.out q (by rw [ownBlock_slice] at hq ⊢; exact hq); simp at this; omega)⟩
theorem bag_Put.calls (A0 : Option Addr) (c0 : Nat) (l0 : List S79) (a1 : ByteArray) (r : List S79) (w : World) (hr0 : Kd.C k79 w A0 l0.length l0) (hc0 : l0.length ≤ c0) (h : bag_Put.f l0 a1 = some r) :
    Calls Try.prog 28 #[.slice A0 l0.length c0, .string a1] w fun e w' => ∃ v0_ : Value, e = .returned (v0_) ∧ Kd.R k79 79 w' w.heap.size (fun _ => True) v0_ r ∧ Below w.heap.size w w' := by
  unfold bag_Put.f at h
  split at h
  · rename_i hl
    obtain rfl := Option.some.inj h
    have hv : Sl k79 w (.slice A0 l0.length c0) l0 := ⟨A0, c0, rfl, hc0, hr0⟩
    unfold putB
    simp only
    rcases findI_cases (fun x : S79 => x.f0.toList == a1.toList) l0 with hf | ⟨i, hi, hf⟩
    · rw [hf, if_neg (by omega)]
      rcases findI_cases (fun x : S79 => !Op.bytesLess x.f0.toList a1.toList && !x.f0.toList == a1.toList) l0 with hj | ⟨j, hj, hfj⟩
      · rw [hj, if_pos (by omega)]
        exact bagPut_miss _ l0 a1 w hv hl l0.length (Nat.le_refl _) hf (-1) hj (.inl ⟨by omega, rfl⟩)
      · rw [hfj, if_neg (by omega), Int.toNat_natCast]
        exact bagPut_miss _ l0 a1 w hv hl j (by omega) hf j hfj (.inr rfl)
    · rw [hf, if_pos (by omega), Int.toNat_natCast]
      exact bagPut_hit _ l0 a1 w hv hl i hi hf
  · cases h
#print axioms bag_Put.calls
end Go.Proofs.Ythfkbfahpgdnfaa.PAll
