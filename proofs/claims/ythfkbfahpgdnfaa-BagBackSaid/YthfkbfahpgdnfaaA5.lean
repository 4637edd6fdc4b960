/- slices.Delete at this program's element types. -/
import Derived.Test.YthfkbfahpgdnfaaL0
import Derived.Test.YthfkbfahpgdnfaaA2
import Derived.Laws.Externs
namespace Go.Proofs.Ythfkbfahpgdnfaa
open Go.RowKit Go.Proofs.YthfkbfahpgdnfaaW.PrintWords
set_option linter.unusedVariables false
set_option linter.unusedSimpArgs false
set_option maxHeartbeats 1000000 in
set_option maxRecDepth 100000 in
theorem DeleteLetter (v : Value) (css : List (List Value)) (i j base : Nat) (w : World) (hv : Own 2 79 w base v css) (hij : i < j) (hj : j ≤ css.length) :
    Calls Try.prog 51 #[v, .int .i64 i, .int .i64 j] w fun e w' => ∃ v', e = .returned v' ∧ Own 2 79 w' base v' (css.take i ++ css.drop j) ∧ w.grownBy w' v.ownBlock ∧ v'.ownBlock = v.ownBlock := by
  have hsz : (Try.prog.info? 79).map (·.size) = some 2 := by kernel_rfl
  rcases hv.cases with ⟨rfl, rfl⟩ | ⟨g, cap, cur, rfl, hbg, hgw, hh, hcp, hcm, hcl⟩
  · simp at hj; omega
  · have h1 := hv.1
    have hk1 : ∀ c ∈ css, c.length = 2 := fun c hc => (h1 c hc).1
    obtain ⟨n, hn⟩ : ∃ n, n = css.length := ⟨_, rfl⟩
    obtain ⟨A, hA⟩ : ∃ A, A = (css.take i).flatten := ⟨_, rfl⟩
    obtain ⟨M, hM⟩ : ∃ M, M = ((css.take j).drop i).flatten := ⟨_, rfl⟩
    obtain ⟨B, hB⟩ : ∃ B, B = (css.drop j).flatten := ⟨_, rfl⟩
    have hAl : A.length = i * 2 := by rw [hA, flat_len (fun c hc => hk1 c (List.mem_of_mem_take hc)), List.length_take, Nat.min_eq_left (by omega)]
    have hMl : M.length = (j - i) * 2 := by rw [hM, flat_len (fun c hc => hk1 c (List.mem_of_mem_take (List.mem_of_mem_drop hc))), List.length_drop, List.length_take, Nat.min_eq_left hj]
    have hBl : B.length = (n - j) * 2 := by rw [hB, flat_len (fun c hc => hk1 c (List.mem_of_mem_drop hc)), List.length_drop, hn]
    have hABM : css.flatten = A ++ M ++ B := by
      rw [hA, hM, hB, ← List.flatten_append, ← List.flatten_append]
      congr 1
      have e := (List.take_append_drop j css).symm
      have e2 := (List.take_append_drop i (css.take j)).symm
      rw [List.take_take, Nat.min_eq_left (by omega)] at e2
      rw [← e2]
      exact e
    have hnew : ∀ x ∈ css.take i ++ css.drop j, x.length = 2 ∧ ∀ u ∈ x, u.oneCell' = true := by
      intro x hx
      rcases List.mem_append.1 hx with hx | hx
      · exact h1 x (List.mem_of_mem_take hx)
      · exact h1 x (List.mem_of_mem_drop hx)
    have hnl : (css.take i ++ css.drop j).length = i + (n - j) := by simp; omega
    have hB1 : ∀ v ∈ B, v.oneCell' = true := by rw [hB]; exact flat_one (fun c hc => h1 c (List.mem_of_mem_drop hc))
    rw [hABM] at hh
    have hrow2 : w.rangeAt g (j * 2) B := by
      rw [List.append_assoc] at hh
      exact range_row hh (by rw [List.length_append, hAl, hMl, ← Nat.add_mul]; congr 1; omega)
    obtain ⟨L, hL⟩ : ∃ L, L = A ++ M ++ B ++ cur := ⟨_, rfl⟩
    rw [← hL] at hh
    have hLl : L.length = cap * 2 := by rw [hL]; simp only [List.length_append]; omega
    have happ : ∀ (W : World), W.heap = w.heap → ∀ ty ad xc, (ad = ⟨g, j * 2, none⟩ ∨ n = j) → (Builtin.append_ #[22, 22] ty #[.slice (some ⟨g, 0, none⟩) i cap, .slice (some ad) (n - j) xc]).run Try.prog W = .ok (.slice (some ⟨g, 0, none⟩) (i + (n - j)) cap) (W.setRow g (splice L (i * 2) B).toArray) := fun W hW ty ad xc had => by
      have := run_append_fits_k (P := Try.prog) W 22 ty 79 2 (n - j) g 0 i cap ad xc L B 79 Try.underlying22 hsz (by omega) hBl (by rw [hW]; exact hh) (by rw [hLl]; omega)
        (fun q u hq => by
          rcases had with rfl | rfl
          · rw [Addr.add_lit]
            show W.cell? _ = _
            have := hrow2 q u hq
            simp only [World.cell?, hW] at this ⊢
            exact this
          · have : B = [] := List.eq_nil_of_length_eq_zero (by rw [hBl]; simp)
            rw [this] at hq; simp at hq) hB1
      simpa using this
    obtain ⟨W1, hW1⟩ : ∃ W1, W1 = w.drew.setRow g (splice L (i * 2) B).toArray := ⟨_, rfl⟩
    have hh1 : W1.heap[g]? = some (.cells (splice L (i * 2) B).toArray 79 (0, 0)) ∧ w.grownBy W1 (some g) := by rw [hW1]; exact rows1 hh rfl rfl rfl rfl
    have hs1 : (splice L (i * 2) B).length = cap * 2 := by rw [length_splice _ _ _ (by rw [hLl]; omega), hLl]
    have hfin : ∀ zs : List Value, zs.length = (j - i) * 2 → splice (splice L (i * 2) B) ((i + (n - j)) * 2) zs = (css.take i ++ css.drop j).flatten ++ (zs ++ cur) := fun zs hz => by
      have := splice_del A M B cur zs (by rw [hMl, hz])
      rw [hAl, hBl, ← Nat.add_mul] at this
      rw [hL, this, hA, hB]
      simp
    have HF := Aside0.mk hfin
    have HN := Aside0.mk hnl
    have H1 := Aside0.mk hnew
    have HH1 := Aside0.mk hh1
    have HS1 := Aside0.mk hs1
    have HCL := Aside0.mk hcl
    have HCM := Aside0.mk hcm
    have HBG := Aside0.mk hbg
    have HNN := Aside0.mk hn
    have HA := Aside0.mk happ
    have HW := Aside0.mk hW1
    have hm63 : (cap : Int) ≤ 9223372036854775807 := by unfold maxLen at hcm; omega
    rw [← hn] at hj hcp ⊢
    have c1 : (i : Int) ≤ (j : Int) := by omega
    have c2 : (j : Int) ≤ (n : Int) := by omega
    have c3 : (n : Int) ≤ (cap : Int) := by omega
    have c4 : ¬ ((i : Int) = (j : Int)) := by omega
    have c5 : (i : Int) ≤ (cap : Int) := by omega
    have c6 : ¬ cap = i := by omega
    have c7 : ¬ cap = i + (n - j) := by omega
    have c8 : i + (n - j) ≤ n := by omega
    have c9 : ((j : Int) == (n : Int)) = decide (j = n) := by rw [Bool.eq_iff_iff]; simp; omega
    clear hL hLl hfin hnl hnew hh1 hs1 hcl hcm hbg happ hW1 hv h1 hk1 hAl hMl hBl hABM hB1 hrow2 hh hA hM hB hsz hgw hn
    have hb4 : 0 < n - (i + (n - j)) := by omega
    have hfit : Aside0 ((i + (n - j)) * 2 + (n - (i + (n - j))) * 2 ≤ (splice L (i * 2) B).length) := ⟨by rw [HS1.out]; omega⟩
    have c11 : i + (n - j) ≤ cap := by omega
    by_cases c10 : cap = j
    · obtain rfl : j = cap := c10.symm
      obtain rfl : n = j := by omega
      clear c2 c3 c5 c9 c10 hj hcp
      go_enter Try.func51, Try.ntmps51
      go_wp2_with (fail)
      go_region_law (refine step_append_run rfl _ _ 22 22 rfl (.slice (some ⟨g, 0, none⟩) i n) (.slice (some ⟨g, 0, none⟩) (n - n) (n - n)) (by simp [Act.eval, Act.put]) (by simp [Act.eval, Act.put]) (HA.out w.drew rfl _ _ _ (.inr (by first | rfl | trivial))) ?_)
      rw [← HW.out]
      go_wp2_with ((with_reducible refine gate_builtin (b := .clear) (xs := #[.tmp 31]) rfl ?_); refine wpList_clear_k rfl (.tmp 31) 22 79 (.agg #[(.string ⟨#[]⟩), (.int .i64 0)]) 2 rfl Try.underlying22 infoLetter rfl (by decide) g (i * 2) (n - i) (n - i) _ 79 rfl (by omega) HH1.out.1 (by have := HS1.out; rw [this, ← Nat.add_mul]; exact Nat.mul_le_mul_right _ (by omega)) ?_; intro w9 zs hz hr9 hg9; have G4 := Aside0.mk hr9; have G5 := Aside0.mk hg9; have G6 := Aside0.mk hz; clear hr9 hg9 hz)
      go_ret
      refine ⟨_, rfl, Own.mk (cur := zs ++ cur) H1.out HBG.out ?_ (by have := HN.out; omega) (by omega) HCM.out ?_, World.grownBy.trans HH1.out.2 G5.out, rfl⟩
      · have hh := HF.out zs (by rw [G6.out])
        rw [Nat.sub_self, Nat.add_zero] at hh
        rw [G4.out, hh]
      · have := HCL.out
        rw [← HNN.out] at this
        simp only [List.length_append, G6.out, this]
        omega
    · go_enter Try.func51, Try.ntmps51
      go_wp2_with (fail)
      go_region_law (refine step_append_run rfl _ _ 22 22 rfl (.slice (some ⟨g, 0, none⟩) i cap) (.slice (some ⟨g, j * 2, none⟩) (n - j) (cap - j)) (by simp [Act.eval, Act.put]) (by simp [Act.eval, Act.put]) (HA.out w.drew rfl _ _ _ (.inl rfl)) ?_)
      rw [← HW.out]
      go_wp2_with ((with_reducible refine gate_builtin (b := .clear) (xs := #[.tmp 31]) rfl ?_); refine wpList_clear_k rfl (.tmp 31) 22 79 (.agg #[(.string ⟨#[]⟩), (.int .i64 0)]) 2 rfl Try.underlying22 infoLetter rfl (by decide) g ((i + (n - j)) * 2) (n - (i + (n - j))) (cap - (i + (n - j))) _ 79 rfl hb4 HH1.out.1 hfit.out ?_; intro w9 zs hz hr9 hg9; have G4 := Aside0.mk hr9; have G5 := Aside0.mk hg9; have G6 := Aside0.mk hz; clear hr9 hg9 hz)
      go_ret
      refine ⟨_, rfl, Own.mk (cur := zs ++ cur) H1.out HBG.out ?_ HN.out.symm c11 HCM.out ?_, World.grownBy.trans HH1.out.2 G5.out, rfl⟩
      · rw [G4.out, HF.out zs (by rw [G6.out]; congr 1; omega)]
      · have := HCL.out
        rw [← HNN.out] at this
        simp only [List.length_append, G6.out, this]
        omega
end Go.Proofs.Ythfkbfahpgdnfaa
